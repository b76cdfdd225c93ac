import Derived.Test.YtoaiiimnfgbcaaaOwn
namespace Go.Proofs.Ytoaiiimnfgbcaaa
open Go.RowKit
set_option linter.unusedVariables false
set_option linter.unusedSimpArgs false
/-! names: the program's Same, the document's Same -/
theorem at_is (s : ByteArray) (k : Nat) (hk : k < s.size) : s.data.toList.getD k 0 = s[k] := by
  rw [List.getD_eq_getElem?_getD, List.getElem?_eq_getElem (by simpa using hk)]; rfl
/-- a letter as a small one -/
def lowB (c : UInt8) : UInt8 := if (65 ≤ (c.toNat : Int) ∧ (c.toNat : Int) ≤ 90) then c + 32 else c
theorem low_yes (c : UInt8) (h1 : 65 ≤ (c.toNat : Int)) (h2 : (c.toNat : Int) ≤ 90) : ((lowB c).toNat : Int) = c.toNat + 32 := by
  unfold lowB
  rw [if_pos ⟨h1, h2⟩, UInt8.toNat_add]
  simp; omega
set_option maxHeartbeats 1000000 in
theorem rlow_any (c : UInt8) (w : World) : Calls Try.prog 76 #[.int .u8 c.toNat] w fun e w' => e = .returned (.int .u8 (lowB c).toNat) ∧ ∃ n, w' = w.drewN n := by
  by_cases h1 : 65 ≤ (c.toNat : Int)
  · by_cases h2 : (c.toNat : Int) ≤ 90
    · have e := Lib.hid (low_yes c h1 h2)
      go_enter Try.func76, Try.ntmps76
      go_wp2
      go_returns
      exact ⟨by rw [e.out]; rfl, 0, rfl⟩
    · have e : Hid (lowB c = c) := by show lowB c = c; unfold lowB; rw [if_neg (by omega)]
      go_enter Try.func76, Try.ntmps76
      go_wp2
      go_returns
      exact ⟨by rw [e.out]; rfl, 0, rfl⟩
  · have e : Hid (lowB c = c) := by show lowB c = c; unfold lowB; rw [if_neg (by omega)]
    go_enter Try.func76, Try.ntmps76
    go_wp2
    go_returns
    exact ⟨by rw [e.out]; rfl, 0, rfl⟩
/-- how far two texts are alike, from k on -/
def alike (a b : ByteArray) (k : Nat) : Prop := ∀ i, k ≤ i → i < a.size → lowB (a.data.toList.getD i 0) = lowB (b.data.toList.getD i 0)
noncomputable instance (a b : ByteArray) (k : Nat) : Decidable (alike a b k) := Classical.propDecidable _
noncomputable def sameOk (a b : ByteArray) : Bool := decide (a.size = b.size ∧ alike a b 0)
theorem same_no (a b : ByteArray) (h : ¬ (a.size = b.size ∧ alike a b 0)) : Value.bool (sameOk a b) = .bool false := by
  unfold sameOk; rw [decide_eq_false h]
theorem same_yes (a b : ByteArray) (h1 : a.size = b.size) (h : alike a b 0) : Value.bool (sameOk a b) = .bool true := by
  unfold sameOk; rw [decide_eq_true ⟨h1, h⟩]
set_option maxHeartbeats 1000000 in
theorem rsame_any (a b : ByteArray) (w : World) (ha : a.size ≤ maxLen) (hb : b.size ≤ maxLen) :
    Calls Try.prog 70 #[.string a, .string b] w fun e w' => e = .returned (.bool (sameOk a b)) ∧ ∃ n, w' = w.drewN n := by
  have ha2 : a.size ≤ 9223372036854775807 := Nat.le_trans ha (by decide)
  by_cases h1 : a.size = b.size
  · have i1 : ((a.size : Int) == b.size) = true := by simp [h1]
    have i2 : ((a.size : Int) != b.size) = false := by simp [h1]
    go_enter Try.func70, Try.ntmps70
    go_wp2
    go_loopw [5] (fun i wr => ∃ j : Nat, i = .int .i64 j ∧ j ≤ a.size ∧ (∀ i, i < j → lowB (a.data.toList.getD i 0) = lowB (b.data.toList.getD i 0)) ∧ ∃ n, wr = w.drewN n) (fun i _ => a.size - (intOf i).toNat)
    case atStart => exact ⟨0, rfl, by omega, fun i hi => by omega, 0, rfl⟩
    case round =>
      obtain ⟨j, rfl, hj0, hE, hW⟩ := hrel
      have HW := Lib.hid hW
      clear hW
      have HE := Lib.hid hE
      clear hE
      have l0 : (0 : Int) ≤ j := by omega
      by_cases hj : j < a.size
      · have j0 : (j : Int) < a.size := by omega
        have j1 : (j : Int) < b.size := by omega
        have j2 : j < b.size := by omega
        by_cases hq : lowB a[j] = lowB b[j]
        · have q : (((lowB a[j]).toNat : Int) != (lowB b[j]).toNat) = false := by rw [hq]; simp
          have Q := Lib.hid hq
          clear hq
          go_wp2
          go_quiet ((go_at_call 76; exact Calls.quiet_of (rlow_any _ _)))
          go_wp2
          obtain ⟨n, hn⟩ := HW.out
          refine ⟨⟨j + 1, rfl, by omega, fun i hi => ?_, n + nq, by rw [hn, World.drewN_drewN]⟩, by simp [intOf]; omega⟩
          by_cases e : i = j
          · subst e; rw [at_is a i hj, at_is b i j2]; exact Q.out
          · exact HE.out i (by omega)
        · have q : (((lowB a[j]).toNat : Int) != (lowB b[j]).toNat) = true := by
            simp; intro h; exact hq (UInt8.toNat_inj.1 (by omega))
          have Q : Hid (¬ lowB a[j] = lowB b[j]) := hq
          clear hq
          go_wp2
          go_quiet ((go_at_call 76; exact Calls.quiet_of (rlow_any _ _)))
          go_wp2
          go_returns
          obtain ⟨n, hn⟩ := HW.out
          refine ⟨by rw [same_no a b (fun h => Q.out (by have := h.2 j (by omega) hj; rwa [at_is a j hj, at_is b j j2] at this))]; rfl, n + nq, by rw [hn, World.drewN_drewN]⟩
      · have e : j = a.size := by omega
        subst e
        go_wp2
        go_returns
        exact ⟨by rw [same_yes a b h1 (fun i _ hi => HE.out i hi)]; rfl, HW.out⟩
  · have i2 : ((a.size : Int) != b.size) = true := by simp; omega
    go_enter Try.func70, Try.ntmps70
    go_wp2
    go_returns
    exact ⟨by rw [same_no a b (fun h => h1 h.1)]; rfl, 0, rfl⟩
theorem or_small (c : UInt8) : bits BinOp.or IntKind.u8 (c.toNat : Int) 32 = ((c ||| 32).toNat : Int) := by
  have h : ∀ n : Fin 256, bits BinOp.or IntKind.u8 ((UInt8.ofNat n.val).toNat : Int) 32 = ((UInt8.ofNat n.val ||| 32).toNat : Int) := by decide +kernel
  have := h ⟨c.toNat, c.toNat_lt⟩
  simpa using this
/-- what lower makes of a byte -/
def lowO (c : UInt8) : UInt8 := if (65 ≤ (c.toNat : Int) ∧ (c.toNat : Int) ≤ 90) then c ||| 32 else c
/-- the first k bytes as small letters -/
def lowL (l : List UInt8) (k : Nat) : List UInt8 := (l.take k).map lowO ++ l.drop k
def lowS (s : ByteArray) : ByteArray := ⟨(s.data.toList.map lowO).toArray⟩
theorem lowL_len (l : List UInt8) (k : Nat) : (lowL l k).length = l.length := by
  unfold lowL; simp; omega
theorem lowL_next (l : List UInt8) (k : Nat) (hk : k < l.length) : (lowL l k).set k (lowO l[k]) = lowL l (k + 1) := by
  unfold lowL
  apply List.ext_getElem
  · simp; omega
  · intro i h1 h2
    rw [List.getElem_set]
    split
    · subst k
      have e2 : min (i + 1) l.length = i + 1 := by omega
      rw [List.getElem_append_left (by simp; omega)]
      simp [List.getElem_take]
    · rename_i g
      simp only [List.getElem_append, List.length_map, List.length_take, List.getElem_map, List.getElem_take, List.getElem_drop]
      have e1 : min k l.length = k := by omega
      have e2 : min (k + 1) l.length = k + 1 := by omega
      simp only [e1, e2]
      split <;> split <;> first | rfl | omega | (congr 1; omega)
theorem lowL_at (l : List UInt8) (k : Nat) (hk : k < l.length) (h : k < (lowL l k).length) : (lowL l k)[k] = l[k] := by
  have e1 : min k l.length = k := by omega
  have e2 : ¬ k < min k l.length := by omega
  unfold lowL
  simp [List.getElem_append, e1, e2]
theorem lowL_all (l : List UInt8) (k : Nat) (hk : l.length ≤ k) : lowL l k = l.map lowO := by
  unfold lowL
  rw [List.take_of_length_le hk, List.drop_eq_nil_of_le hk, List.append_nil]
theorem lowL_same (l : List UInt8) (k : Nat) (hk : k < l.length) (h : lowO l[k] = l[k]) : lowL l k = lowL l (k + 1) := by
  rw [← lowL_next l k hk, h]
  apply List.ext_getElem
  · simp
  · intro i h1 h2
    rw [List.getElem_set]
    split
    · subst k; rw [lowL_at l i hk]
    · rfl
set_option maxHeartbeats 1000000 in
set_option maxRecDepth 100000 in
theorem lower_any (s : ByteArray) (w : World) (hs : s.size ≤ maxLen) :
    Calls Try.prog 59 #[.string s] w fun e w' => e = .returned (.string (lowS s)) ∧ Below w.heap.size w w' := by
  have hs2 : s.size ≤ 9223372036854775807 := Nat.le_trans hs (by decide)
  obtain ⟨W, cap, hconv, hB, hO, hcap⟩ := bytes_made w s
  have hB := Lib.hid hB
  have hO := Lib.hid hO
  clear hcap
  generalize hbb : w.heap.size = b at *
  go_enter Try.func59, Try.ntmps59
  go_wp2_with (fail)
  go_loopw [10] (fun i wr => ∃ k : Nat, i = .int .i64 k ∧ k ≤ s.size ∧ Bs wr b (lowL s.data.toList k) ∧ Below b w wr) (fun i _ => s.size - (intOf i).toNat)
  case atStart => exact ⟨0, rfl, by omega, hB.out, hO.out⟩
  case round =>
    obtain ⟨k, rfl, hk, hB, hO⟩ := hrel
    have k0 : (0 : Int) ≤ k := by omega
    have hL := lowL_len s.data.toList k
    have hl : s.data.toList.length = s.size := by first | (simp; done) | (simp; rfl)
    have HL := Lib.hid hL
    have Hl := Lib.hid hl
    clear hL hl
    by_cases hlt : k < s.size
    · have k1 : (k : Int) < s.size := by omega
      have hlt' : k < s.data.toList.length := by rw [Hl.out]; exact hlt
      have hx := (hB.2 k (by have := HL.out; omega)).1
      have hf := (hB.2 k (by have := HL.out; omega)).2
      rw [lowL_at _ k hlt'] at hx
      have hn := Lib.hid (lowL_next s.data.toList k hlt')
      have hs := Lib.hid (lowL_same s.data.toList k hlt')
      have hB := Lib.hid hB
      have hO := Lib.hid hO
      generalize hc : s.data.toList[k] = c at *
      have Hc := Lib.hid hc
      clear hc
      go_wp2_with (fail)
      · have h1 : 65 ≤ (c.toNat : Int) := by assumption
        have h2 : (c.toNat : Int) ≤ 90 := by assumption
        have e : lowO c = c ||| 32 := by unfold lowO; rw [if_pos ⟨h1, h2⟩]
        refine ⟨⟨k + 1, rfl, by omega, ?_, hO.out.setCell (Nat.le_refl _) _⟩, by simp [intOf]; omega⟩
        rw [or_small c, ← hn.out, e]
        exact hB.out.set k _ (by have := HL.out; omega)
      · have h2 : 90 < (c.toNat : Int) := by assumption
        exact ⟨⟨k + 1, rfl, by omega, by rw [← hs.out (by unfold lowO; rw [if_neg (by omega)])]; exact hB.out, hO.out⟩, by simp [intOf]; omega⟩
      · have h2 : ¬ 65 ≤ (c.toNat : Int) := by assumption
        exact ⟨⟨k + 1, rfl, by omega, by rw [← hs.out (by unfold lowO; rw [if_neg (by omega)])]; exact hB.out, hO.out⟩, by simp [intOf]; omega⟩
    · have e : k = s.size := by omega
      subst e
      have hb := string_made wr b cap _ hB
      rw [HL.out, Hl.out, lowL_all _ _ (by rw [Hl.out]; omega)] at hb
      have hB := Lib.hid hB
      have hO := Lib.hid hO
      go_wp2
      go_returns
      exact ⟨rfl, hO.out⟩
theorem low_same (c : UInt8) : lowO c = lowB c := by
  have h : ∀ n : Fin 256, lowO (UInt8.ofNat n.val) = lowB (UInt8.ofNat n.val) := by decide +kernel
  have := h ⟨c.toNat, c.toNat_lt⟩
  simpa using this
theorem getD_map (l : List UInt8) (i : Nat) (hi : i < l.length) : (l.map lowO)[i]'(by simpa using hi) = lowB (l.getD i 0) := by
  rw [List.getElem_map, low_same, List.getD_eq_getElem?_getD, List.getElem?_eq_getElem hi]; rfl
theorem same_eq (a b : ByteArray) (h : a.size = b.size) : lowS a = lowS b ↔ alike a b 0 := by
  have la : a.data.toList.length = a.size := by first | (simp; done) | (simp; rfl)
  have lb : b.data.toList.length = b.size := by first | (simp; done) | (simp; rfl)
  unfold lowS alike
  constructor
  · intro e i _ hi
    have e2 : a.data.toList.map lowO = b.data.toList.map lowO := by
      injection e with e; simpa using e
    rw [← getD_map _ i (by omega), ← getD_map _ i (by omega)]
    congr 1
  · intro g
    congr 2
    apply List.ext_getElem
    · simp; omega
    · intro i h1 h2
      rw [getD_map _ i (by simpa using h1), getD_map _ i (by simpa using h2)]
      exact g i (by omega) (by have := h1; simp at this; omega)
theorem same_is (a b : ByteArray) (h : a.size = b.size) : sameOk a b = ((lowS a).toList == (lowS b).toList) := by
  have e := same_eq a b h
  unfold sameOk
  by_cases g : alike a b 0
  · rw [decide_eq_true ⟨h, g⟩, e.2 g]; simp
  · rw [decide_eq_false (fun k => g k.2)]
    symm
    rw [beq_eq_false_iff_ne]
    intro k
    refine g (e.1 ?_)
    rw [ByteArray.toList_eq, ByteArray.toList_eq] at k
    cases ha : lowS a; cases hb : lowS b
    simp [ha, hb] at k
    rw [k]
set_option maxHeartbeats 1000000 in
theorem same_any (a b : ByteArray) (w : World) (ha : a.size ≤ maxLen) (hb : b.size ≤ maxLen) :
    Calls Try.prog 31 #[.string a, .string b] w fun e w' => e = .returned (.bool (sameOk a b)) ∧ Below w.heap.size w w' := by
  have ha2 : a.size ≤ 9223372036854775807 := Nat.le_trans ha (by decide)
  by_cases h1 : a.size = b.size
  · have i1 : ((a.size : Int) == b.size) = true := by simp [h1]
    have hB : Below w.heap.size w w := Below.refl _ _
    have hE := Lib.hid (same_is a b h1)
    have H1 := Lib.hid h1
    clear h1
    go_enter Try.func31, Try.ntmps31
    go_wp2_with (fail)
    refine (lower_any a _ ha).mono ?_
    rintro e w1 ⟨rfl, hb1⟩
    go_wp2_with (fail)
    refine (lower_any b _ hb).mono ?_
    rintro e w2 ⟨rfl, hb2⟩
    go_wp2
    go_returns
    exact ⟨by rw [hE.out]; rfl, hb1.trans (hb2.mono hb1.size)⟩
  · have i2 : ((a.size : Int) == b.size) = false := by simp; omega
    go_enter Try.func31, Try.ntmps31
    go_wp2
    go_returns
    exact ⟨by rw [same_no a b (fun h => h1 h.1)]; rfl, Below.refl _ _⟩
end Go.Proofs.Ytoaiiimnfgbcaaa
