import Derived.Test.YtpbloennjcjgoaaDoorResC
import Derived.StillTailTactics
namespace Go.Proofs.YtpbloennjcjgoaaDoor
open Go.RowKit
set_option linter.unusedVariables false
set_option linter.unusedSimpArgs false
/-- how far two texts agree -/
def dv (a b : ByteArray) : Nat → Nat → Nat
  | 0, k => k
  | f + 1, k => if k < a.size ∧ k < b.size ∧ a.data.toList.getD k 0 = b.data.toList.getD k 0 then dv a b f (k + 1) else k
def div (a b : ByteArray) (k : Nat) : Nat := dv a b (a.size - k) k
theorem r16_get_is (s : ByteArray) (k : Nat) (hk : k < s.size) : s.data.toList.getD k 0 = s[k] := by
  rw [List.getD_eq_getElem?_getD, List.getElem?_eq_getElem (by simpa using hk)]; rfl
theorem div_go (a b : ByteArray) (k : Nat) (h1 : k < a.size) (h2 : k < b.size) (h : a[k] = b[k]) : div a b k = div a b (k + 1) := by
  unfold div
  obtain ⟨f, hf⟩ : ∃ f, a.size - k = f + 1 := ⟨a.size - k - 1, by omega⟩
  rw [hf, show a.size - (k + 1) = f by omega]
  show (if _ then _ else _) = _
  rw [if_pos ⟨h1, h2, by rw [r16_get_is a k h1, r16_get_is b k h2]; exact h⟩]
theorem div_no (a b : ByteArray) (k : Nat) (h1 : k < a.size) (h2 : k < b.size) (h : ¬ a[k] = b[k]) : div a b k = k := by
  unfold div
  obtain ⟨f, hf⟩ : ∃ f, a.size - k = f + 1 := ⟨a.size - k - 1, by omega⟩
  rw [hf]
  show (if _ then _ else _) = _
  rw [if_neg]
  rintro ⟨_, _, h3⟩
  rw [r16_get_is a k h1, r16_get_is b k h2] at h3
  exact h h3
theorem div_end (a b : ByteArray) (k : Nat) (h : a.size ≤ k ∨ b.size ≤ k) : div a b k = k := by
  unfold div
  cases hf : a.size - k with
  | zero => rfl
  | succ f =>
    show (if _ then _ else _) = _
    rw [if_neg]
    rintro ⟨h1, h2, _⟩
    omega
theorem div_props (a b : ByteArray) : ∀ f k, a.size - k = f → k ≤ div a b k ∧ (k ≤ a.size → k ≤ b.size → div a b k ≤ a.size ∧ div a b k ≤ b.size) ∧ (∀ i (h1 : i < a.size) (h2 : i < b.size), k ≤ i → i < div a b k → a[i] = b[i]) ∧ (∀ (h1 : div a b k < a.size) (h2 : div a b k < b.size), ¬ a[div a b k] = b[div a b k]) := by
  intro f
  induction f with
  | zero =>
    intro k hf
    have e := div_end a b k (by omega)
    refine ⟨by omega, fun h1 h2 => by omega, fun i h1 h2 h3 h4 => by omega, fun h1 h2 => by omega⟩
  | succ f ih =>
    intro k hf
    by_cases h2 : k < b.size
    · have h1 : k < a.size := by omega
      by_cases h : a[k] = b[k]
      · have e := div_go a b k h1 h2 h
        obtain ⟨i1, i2, i3, i4⟩ := ih (k + 1) (by omega)
        refine ⟨by omega, fun _ _ => by rw [e]; exact i2 (by omega) (by omega), fun i g1 g2 g3 g4 => ?_, fun g1 g2 => ?_⟩
        · by_cases e2 : i = k
          · subst e2; exact h
          · exact i3 i g1 g2 (by omega) (by omega)
        · simp only [e] at g1 g2 ⊢; exact i4 g1 g2
      · have e := div_no a b k h1 h2 h
        refine ⟨by omega, fun _ _ => by omega, fun i g1 g2 g3 g4 => by omega, fun g1 g2 => ?_⟩
        simp only [e]; exact h
    · have e := div_end a b k (by omega)
      refine ⟨by omega, fun _ _ => by omega, fun i g1 g2 g3 g4 => by omega, fun g1 g2 => by omega⟩
theorem div_comm (a b : ByteArray) : div a b 0 = div b a 0 := by
  obtain ⟨_, p2, p3, p4⟩ := div_props a b _ 0 rfl
  obtain ⟨_, q2, q3, q4⟩ := div_props b a _ 0 rfl
  have p2 := p2 (by omega) (by omega)
  have q2 := q2 (by omega) (by omega)
  rcases Nat.lt_trichotomy (div a b 0) (div b a 0) with h | h | h
  · exact absurd (q3 (div a b 0) (by omega) (by omega) (by omega) h).symm (p4 (by omega) (by omega))
  · exact h
  · exact absurd (p3 (div b a 0) (by omega) (by omega) (by omega) h).symm (q4 (by omega) (by omega))
theorem div_same (a b : ByteArray) (h1 : div a b 0 = a.size) (h2 : a.size = b.size) : a = b := by
  obtain ⟨_, p2, p3, p4⟩ := div_props a b _ 0 rfl
  apply ByteArray.ext
  apply Array.ext
  · exact h2
  · intro i g1 g2
    exact p3 i g1 g2 (by omega) (by show i < _; rw [h1]; exact g1)
theorem str_same (a b : ByteArray) (h : a = b) : (a.toList == b.toList) = true := by subst h; simp
theorem str_other (a b : ByteArray) (h : ¬ a = b) : (a.toList == b.toList) = false := by
  rw [beq_eq_false_iff_ne]
  intro k
  rw [ByteArray.toList_eq, ByteArray.toList_eq] at k
  apply h
  cases a; cases b
  simp at k
  rw [k]
set_option maxHeartbeats 1000000 in
set_option maxRecDepth 100000 in
theorem first_any (a b : ByteArray) (w : World) (ha : a.size ≤ maxLen) (hb : b.size ≤ maxLen) (r : Int) (h : a = b ∧ r = -1 ∨ ¬ a = b ∧ r = (div a b 0 : Int)) :
    Calls Tryd.prog 40 #[.string a, .string b] w fun e w' => e = .returned (.int .i64 r) ∧ ∃ n, w' = w.drewN n := by
  have ha2 : a.size ≤ 9223372036854775807 := Nat.le_trans ha (by decide)
  have hb2 : b.size ≤ 9223372036854775807 := Nat.le_trans hb (by decide)
  replace h := Lib.hid h
  go_enter Tryd.func40, Tryd.ntmps40
  go_wp2_with (fail)
  go_loopw [5] (fun i wr => ∃ j : Nat, i = .int .i64 j ∧ j ≤ a.size ∧ j ≤ b.size ∧ div a b 0 = div a b j ∧ ∃ n, wr = w.drewN n) (fun i _ => a.size - (intOf i).toNat)
  case atStart => exact ⟨0, rfl, by omega, by omega, rfl, 0, rfl⟩
  case round =>
    obtain ⟨j, rfl, hj, hj2, hE, hW⟩ := hrel
    replace hW := Lib.hid hW
    replace hE := Lib.hid hE
    have j0 : (0 : Int) ≤ j := by omega
    by_cases h1 : j < a.size
    · have i1 : (j : Int) < a.size := by omega
      by_cases h2 : j < b.size
      · have i2 : (j : Int) < b.size := by omega
        by_cases hq : a[j] = b[j]
        · have hg := Lib.hid (hE.out.trans (div_go a b j h1 h2 hq))
          have q : (((a[j]).toNat : Int) != (b[j]).toNat) = false := by rw [hq]; simp
          replace hq := Lib.hid hq
          go_wp2_with (fail)
          go_quiet (fail)
          go_wp2_with (fail)
          obtain ⟨n, hn⟩ := hW.out
          exact ⟨⟨j + 1, by go_num, by omega, by omega, hg.out, n + nq, by rw [hn, World.drewN_drewN]⟩, by simp [intOf]; omega⟩
        · have hg := Lib.hid (hE.out.trans (div_no a b j h1 h2 hq))
          have q : (((a[j]).toNat : Int) != (b[j]).toNat) = true := by
            simp; intro g; exact hq (UInt8.toNat_inj.1 (by omega))
          replace hq : Hid (¬ a[j] = b[j]) := hq
          go_wp2_with (fail)
          go_quiet (fail)
          go_wp2_with (fail)
          go_returns
          obtain ⟨n, hn⟩ := hW.out
          refine ⟨?_, n + nq, by rw [hn, World.drewN_drewN]⟩
          rcases h.out with ⟨h3, _⟩ | ⟨_, h3⟩
          · subst h3; exact absurd rfl hq.out
          · rw [h3, hg.out]; rfl
      · have i2 : ¬ (j : Int) < b.size := by omega
        have hg := Lib.hid (hE.out.trans (div_end a b j (by omega)))
        have q : ((a.size : Int) != b.size) = true := by simp; omega
        have q2 : ¬ (a.size : Int) ≤ b.size := by omega
        have q3 : min (a.size : Int) (b.size : Int) = (j : Int) := by omega
        go_wp2_with (fail)
        go_returns
        obtain ⟨n, hn⟩ := hW.out
        refine ⟨?_, n, hn⟩
        rcases h.out with ⟨h3, _⟩ | ⟨_, h3⟩
        · subst h3; omega
        · rw [h3, hg.out]; exact congrArg (fun z => Ending.returned (.int .i64 z)) (by omega : (b.size : Int) = j)
    · have i1 : ¬ (j : Int) < a.size := by omega
      have hg := Lib.hid (hE.out.trans (div_end a b j (by omega)))
      by_cases hs : a.size = b.size
      · have q : ((a.size : Int) != b.size) = false := by simp; omega
        replace hs := Lib.hid hs
        go_wp2_with (fail)
        go_returns
        obtain ⟨n, hn⟩ := hW.out
        refine ⟨?_, n, hn⟩
        rcases h.out with ⟨_, h3⟩ | ⟨h3, _⟩
        · rw [h3]; rfl
        · exact absurd (div_same a b (by rw [hg.out]; omega) hs.out) h3
      · have q : ((a.size : Int) != b.size) = true := by simp; omega
        have q3 : min (a.size : Int) (b.size : Int) = (j : Int) := by omega
        go_wp2_with (fail)
        go_returns
        obtain ⟨n, hn⟩ := hW.out
        refine ⟨?_, n, hn⟩
        rcases h.out with ⟨h3, _⟩ | ⟨_, h3⟩
        · subst h3; omega
        · rw [h3, hg.out]; exact congrArg (fun z => Ending.returned (.int .i64 z)) (by omega : (a.size : Int) = j)
end Go.Proofs.YtpbloennjcjgoaaDoor
