import Derived.Test.YtbhgjjicmbbjaaaDoorTrM
import Derived.Test.YtbhgjjicmbbjaaaDoorTrW
import Derived.Test.YtbhgjjicmbbjaaaDoorTrL
namespace Go.Proofs.YtbhgjjicmbbjaaaDoor
open Go.RowKit
set_option linter.unusedVariables false
set_option linter.unusedSimpArgs false
/-! chapter 17, the document's: number, six -/
def numL (L : List UInt8) : Nat := L.foldl (fun a c => 10 * a + (c.toNat - 48)) 0
theorem numL_push (L : List UInt8) (c : UInt8) : numL (L ++ [c]) = 10 * numL L + (c.toNat - 48) := by
  unfold numL
  rw [List.foldl_append]
  rfl
theorem numL_dec : ∀ u : Nat, numL (Lib.decDigits u) = u := by
  intro u
  induction u using Nat.strongRecOn with
  | _ u ih =>
    have hb : ∀ k, k < 10 → (UInt8.ofNat (48 + k)).toNat - 48 = k := fun k hk => by
      rw [UInt8.toNat_ofNat']
      omega
    by_cases h : u < 10
    · rw [Lib.decDigits, dif_pos h]
      show 10 * 0 + ((UInt8.ofNat (48 + u)).toNat - 48) = u
      rw [hb u h]
      omega
    · rw [Lib.decDigits, dif_neg h, numL_push, ih (u / 10) (by omega), hb _ (Nat.mod_lt _ (by decide))]
      omega
theorem numL_take {L : List UInt8} {k : Nat} {c : UInt8} (h : L[k]? = some c) : numL (L.take (k + 1)) = 10 * numL (L.take k) + (c.toNat - 48) := by
  rw [List.take_add_one, h]
  exact numL_push _ _
def NumP (s : ByteArray) (v : Int) : Prop := -1 ≤ v ∧ v ≤ 100000000 ∧ ∀ u : Nat, u ≤ 9999999 → s.data.toList = Lib.decDigits u → v = u
set_option maxRecDepth 100000 in
theorem rnumber_any (s : ByteArray) (hs : s.size ≤ 4000000) (w : World) : Calls Tryd.prog 57 #[.string s] w fun e w' => (∃ v : Int, e = .returned (.int .i64 v) ∧ NumP s v) ∧ Below w.heap.size w w' := by
  have hs' : (s.size : Int) ≤ 4000000 := by omega
  have hno : (¬ ∃ u : Nat, u ≤ 9999999 ∧ s.data.toList = Lib.decDigits u) → NumP s (-1) := fun h => ⟨by decide, by decide, fun u hu e => absurd ⟨u, hu, e⟩ h⟩
  have hlen : ∀ u : Nat, u ≤ 9999999 → s.data.toList = Lib.decDigits u → 1 ≤ s.size ∧ s.size ≤ 7 := fun u hu e => by
    have h1 := congrArg List.length e
    have h2 := dec_short 6 u (by omega)
    have h3 : 0 < (Lib.decDigits u).length := by rw [Lib.decDigits_length]; exact Lib.nDigits_pos u
    rw [data_size] at h1
    omega
  by_cases h1 : s.size < 1
  · have h1' : (s.size : Int) < 1 := by omega
    have hN := Lib.hid (hno (fun ⟨u, hu, e⟩ => by have := hlen u hu e; omega))
    clear hno hlen
    go_enter Tryd.func57, Tryd.ntmps57
    go_wp2_with (fail)
    go_returns
    exact ⟨⟨_, rfl, hN.out⟩, Below.refl _ _⟩
  have h1' : ¬ (s.size : Int) < 1 := by omega
  by_cases h7 : 7 < s.size
  · have h7' : (7 : Int) < (s.size : Int) := by omega
    have hN := Lib.hid (hno (fun ⟨u, hu, e⟩ => by have := hlen u hu e; omega))
    clear hno hlen
    go_enter Tryd.func57, Tryd.ntmps57
    go_wp2_with (fail)
    go_returns
    exact ⟨⟨_, rfl, hN.out⟩, Below.refl _ _⟩
  have h7' : ¬ (7 : Int) < (s.size : Int) := by omega
  have hbad : ∀ (k : Nat) (ch : UInt8), s.data.toList[k]? = some ch → ¬ (48 ≤ ch.toNat ∧ ch.toNat ≤ 57) → NumP s (-1) := fun k ch hk hc => hno (fun ⟨u, hu, e⟩ => hc (dec_bytes u ch (by rw [← e]; exact List.mem_of_getElem? hk)))
  have hfin : ∀ N : Nat, N ≤ 100000000 → numL s.data.toList = N → NumP s (N : Int) := fun N hN e => ⟨by omega, by omega, fun u hu e2 => by rw [e2, numL_dec] at e; rw [e]⟩
  replace hbad := Lib.hid hbad
  replace hfin := Lib.hid hfin
  clear hno hlen h1 h7
  go_enter Tryd.func57, Tryd.ntmps57
  go_wp2_with (fail)
  go_loop [3, 4] (fun x3 x4 => ∃ N k : Nat, x3 = .int .i64 N ∧ x4 = .int .i64 k ∧ k ≤ s.size ∧ N ≤ 100000000 ∧ Hid (numL (s.data.toList.take k) = N ∧ N < 10 ^ k)) (fun _ x4 => s.size - (intOf x4).toNat)
  case atStart => exact ⟨0, 0, rfl, rfl, Nat.zero_le _, by decide, Lib.hid ⟨rfl, by decide⟩⟩
  case round =>
    obtain ⟨N, k, rfl, rfl, hk, hN0, hQ⟩ := hrel
    by_cases hlt : k < s.size
    · have hlt' : (k : Int) < (s.size : Int) := by omega
      have hby := byte_at s k hlt
      obtain ⟨ch, hch⟩ : ∃ ch, s[k] = ch := ⟨_, rfl⟩
      rw [hch] at hby
      have hidx : ∀ w, (Instr.index 9 (.string s) (.int .i64 (k : Int))).run Tryd.prog w = .ok (.int .u8 (ch.toNat : Int)) w := fun w => by
        rw [run_index_string w 9 s .i64 (k : Int) Tryd.underlying9, dif_pos ⟨by omega, by omega⟩]
        rw [← hch]
        rfl
      have hbk := hbad.out k ch hby
      have hnt := numL_take hby
      obtain ⟨hq1, hq2⟩ := hQ.out
      rw [hq1] at hnt
      have h256 : ch.toNat < 256 := UInt8.toNat_lt ch
      obtain ⟨z, hz⟩ : ∃ z, ch.toNat = z := ⟨_, rfl⟩
      rw [hz] at hidx hbk hnt h256
      clear hch hby hz hbad hQ hq1
      by_cases hz1 : z < 48
      · have hz1' : (z : Int) < 48 := by omega
        have hbk2 := Lib.hid (hbk (by omega))
        clear hbk hnt hq2
        go_wp2_with (fail)
        try go_quiet (fail)
        go_wp2_with (fail)
        go_returns
        exact ⟨⟨_, rfl, hbk2.out⟩, by first | exact Below.refl _ _ | exact ⟨rfl, rfl, rfl, Nat.le_refl _, fun _ _ => rfl⟩⟩
      have hz1' : ¬ (z : Int) < 48 := by omega
      by_cases hz2 : 57 < z
      · have hz2' : (57 : Int) < (z : Int) := by omega
        have hbk2 := Lib.hid (hbk (by omega))
        clear hbk hnt hq2
        go_wp2_with (fail)
        go_returns
        exact ⟨⟨_, rfl, hbk2.out⟩, by first | exact Below.refl _ _ | exact ⟨rfl, rfl, rfl, Nat.le_refl _, fun _ _ => rfl⟩⟩
      have hz2' : ¬ (57 : Int) < (z : Int) := by omega
      have hpw : 10 * N + (z - 48) < 10 ^ (k + 1) := by rw [Nat.pow_succ]; omega
      have hbd : 10 * N + (z - 48) ≤ 100000000 := by
        have : 10 ^ (k + 1) ≤ 10 ^ 7 := Nat.pow_le_pow_right (by decide) (by omega)
        omega
      have hQ2 := Lib.hid (And.intro hnt hpw)
      obtain ⟨M, hM⟩ : ∃ M, 10 * N + (z - 48) = M := ⟨_, rfl⟩
      rw [hM] at hQ2 hbd
      have hMi : Hid (M = 10 * N + (z - 48)) := Lib.hid hM.symm
      clear hbk hnt hq2 hpw hM
      go_wp2_with (fail)
      exact ⟨⟨M, k + 1, by have := hMi.out; simp; omega, rfl, by omega, hbd, hQ2⟩, by simp [intOf]; omega⟩
    · have hlt' : ¬ (k : Int) < (s.size : Int) := by omega
      have hQ2 := Lib.hid (hfin.out N hN0 (by rw [← hQ.out.1, List.take_of_length_le (by rw [data_size]; omega)]))
      clear hQ hbad hfin
      go_wp2_with (fail)
      go_returns
      exact ⟨⟨_, rfl, hQ2.out⟩, Below.refl _ _⟩
def SixP (c : Nat) (v : Nat) : Prop := v ≤ 15 ∧ ∀ a, a < 16 → c = (hx a).toNat → v = a
def sixN (z : Nat) : Nat := if 48 ≤ z ∧ z ≤ 57 then z - 48 else if 97 ≤ z ∧ z ≤ 102 then z - 87 else 0
theorem sixN_P (z : Nat) : SixP z (sixN z) := by
  have hh : ∀ a, a < 16 → (hx a).toNat = if a < 10 then 48 + a else 87 + a := fun a ha => hx_val ⟨a, ha⟩
  unfold sixN
  refine ⟨?_, fun a ha e => ?_⟩
  · split
    · omega
    · split <;> omega
  rw [hh a ha] at e
  split at e
  · rw [if_pos (by omega)]; omega
  · rw [if_neg (by omega), if_pos (by omega)]; omega
set_option maxRecDepth 100000 in
theorem rsix_any (z : Nat) (hz : z < 256) (w : World) : Calls Tryd.prog 71 #[.int .u8 (z : Int)] w fun e w' => e = .returned (.int .i64 (sixN z : Int)) ∧ w' = w := by
  obtain ⟨v, hv⟩ : ∃ v, sixN z = v := ⟨_, rfl⟩
  rw [hv]
  unfold sixN at hv
  replace hv := Lib.hid hv
  go_enter Tryd.func71, Tryd.ntmps71
  go_wp2_with (fail)
  all_goals
    go_returns
    refine ⟨?_, rfl⟩
    have h := hv.out
    refine congrArg (fun t => Ending.returned (Value.int IntKind.i64 t)) ?_
    by_cases c1 : 48 ≤ z ∧ z ≤ 57
    · rw [if_pos c1] at h
      omega
    · rw [if_neg c1] at h
      by_cases c2 : 97 ≤ z ∧ z ≤ 102
      · rw [if_pos c2] at h
        omega
      · rw [if_neg c2] at h
        omega
/-- how far the document's bare has come: what it has taken, where it stands -/
def BareQ (s S : ByteArray) (i : Nat) (L : List UInt8) : Prop := ∀ l, s.data.toList = quoteL l → ∃ l1 l2, l = l1 ++ l2 ∧ L = l1 ∧ S.data.toList.drop i = l2.flatMap qb
theorem drop_at {L : List UInt8} {i : Nat} {c : UInt8} (h : L[i]? = some c) : L.drop i = c :: L.drop (i + 1) := by
  have hlt := (List.getElem?_eq_some_iff.1 h).1
  rw [List.drop_eq_getElem_cons hlt]
  congr 1
  rw [List.getElem?_eq_getElem hlt] at h
  exact Option.some.inj h
theorem bareq_one {s S : ByteArray} {i : Nat} {L : List UInt8} {c : UInt8} (h : BareQ s S i L) (hc : S.data.toList[i]? = some c) (hp : c ≠ 92 ∨ S.size ≤ i + 3) : BareQ s S (i + 1) (L ++ [c]) := by
  intro l hl
  obtain ⟨l1, l2, e1, e2, e3⟩ := h l hl
  have hd := drop_at hc
  match l2, e1, e3 with
  | [], e1, e3 => rw [e3] at hd; cases hd
  | c' :: l3, e1, e3 =>
    rw [List.flatMap_cons] at e3
    have hq := qb_head c' (l3.flatMap qb)
    cases ho : odd c'
    · have h3 := hq.2 ho
      rw [h3.1, hd] at e3
      injection e3 with f1 f2
      exact ⟨l1 ++ [c'], l3, by rw [e1]; simp, by rw [e2, f1], f2⟩
    · have h3 := hq.1 ho
      rw [h3] at e3
      exfalso
      have hln := congrArg List.length e3
      rw [List.length_drop, data_size] at hln
      simp only [List.length_cons] at hln
      rw [hd] at e3
      injection e3 with f1 f2
      rcases hp with hp | hp
      · exact hp f1
      · omega
theorem bareq_hex {s S : ByteArray} {i v1 v2 : Nat} {L : List UInt8} {a b : UInt8} (h : BareQ s S i L) (hc : S.data.toList[i]? = some 92) (h2 : S.data.toList[i + 2]? = some a) (h3 : S.data.toList[i + 3]? = some b) (s1 : SixP a.toNat v1) (s2 : SixP b.toNat v2) : BareQ s S (i + 4) (L ++ [UInt8.ofNat (16 * v1 + v2)]) := by
  intro l hl
  obtain ⟨l1, l2, e1, e2, e3⟩ := h l hl
  have hd := drop_at hc
  match l2, e1, e3 with
  | [], e1, e3 => rw [e3] at hd; cases hd
  | c' :: l3, e1, e3 =>
    rw [List.flatMap_cons] at e3
    have hq := qb_head c' (l3.flatMap qb)
    cases ho : odd c'
    · have h4 := hq.2 ho
      rw [h4.1, hd] at e3
      injection e3 with f1 f2
      exact absurd f1 (by first | exact h4.2 | exact fun e => h4.2 e.symm)
    · have h4 := hq.1 ho
      rw [h4] at e3
      have g2 : (S.data.toList.drop i)[2]? = some a := by rw [List.getElem?_drop]; exact h2
      have g3 : (S.data.toList.drop i)[3]? = some b := by rw [List.getElem?_drop]; exact h3
      rw [e3] at g2 g3
      simp only [List.getElem?_cons_succ, List.getElem?_cons_zero, Option.some.injEq] at g2 g3
      have hlt : c'.toNat < 256 := UInt8.toNat_lt c'
      have w1 := s1.2 (c'.toNat / 16) (by omega) (by rw [g2])
      have w2 := s2.2 (c'.toNat % 16) (Nat.mod_lt _ (by decide)) (by rw [g3])
      have hv : UInt8.ofNat (16 * v1 + v2) = c' := by
        rw [w1, w2, show 16 * (c'.toNat / 16) + c'.toNat % 16 = c'.toNat by omega]
        exact UInt8.ofNat_toNat
      refine ⟨l1 ++ [c'], l3, by rw [e1]; simp, by rw [e2, hv], ?_⟩
      have h5 := congrArg (List.drop 4) e3
      rw [List.drop_drop] at h5
      exact h5
end Go.Proofs.YtbhgjjicmbbjaaaDoor
