import Derived.Test.YtoaiiimnfgbcaaaDcM
namespace Go.Proofs.Ytoaiiimnfgbcaaa
open Go.RowKit
set_option linter.unusedVariables false
set_option linter.unusedSimpArgs false
/-! law's turned -/
/-- in the first k bytes letters may be turned, the rest is as it was -/
def Tu (l : List UInt8) (k : Nat) (T : List UInt8) : Prop := T.length = l.length ∧ (∀ i, i < l.length → lowB (T.getD i 0) = lowB (l.getD i 0)) ∧ ∀ i, k ≤ i → T.getD i 0 = l.getD i 0
theorem tu_zero (l : List UInt8) : Tu l 0 l := ⟨rfl, fun _ _ => rfl, fun _ _ => rfl⟩
theorem tu_next {l : List UInt8} {k : Nat} {T : List UInt8} (h : Tu l k T) : Tu l (k + 1) T := ⟨h.1, h.2.1, fun i hi => h.2.2 i (by omega)⟩
theorem tu_set {l : List UInt8} {k : Nat} {T : List UInt8} (h : Tu l k T) (hk : k < l.length) (c : UInt8) (hc : lowB c = lowB (l.getD k 0)) : Tu l (k + 1) (T.set k c) := ⟨by rw [List.length_set]; exact h.1, fun i hi => by
  rw [getD_set]
  split
  · rename_i e; rw [e.1]; exact hc
  · exact h.2.1 i hi, fun i hi => by rw [getD_set, if_neg (by omega)]; exact h.2.2 i (by omega)⟩
theorem low_x32 (c : UInt8) (h : 65 ≤ ((c &&& 223).toNat : Int) ∧ ((c &&& 223).toNat : Int) ≤ 90) : lowB (c ^^^ 32) = lowB c := by
  have hk : ∀ n : Fin 256, 65 ≤ ((UInt8.ofNat n.val &&& 223).toNat : Int) ∧ ((UInt8.ofNat n.val &&& 223).toNat : Int) ≤ 90 → lowB (UInt8.ofNat n.val ^^^ 32) = lowB (UInt8.ofNat n.val) := by decide +kernel
  have e : UInt8.ofNat c.toNat = c := UInt8.ofNat_toNat
  have := hk ⟨c.toNat, c.toNat_lt⟩
  rw [e] at this
  exact this h
theorem u8_x32 (c : UInt8) : bits BinOp.xor IntKind.u8 (c.toNat : Int) 32 = ((c ^^^ 32).toNat : Int) := by
  have h : ∀ n : Fin 256, bits BinOp.xor IntKind.u8 ((UInt8.ofNat n.val).toNat : Int) 32 = ((UInt8.ofNat n.val ^^^ 32).toNat : Int) := by decide +kernel
  have := h ⟨c.toNat, c.toNat_lt⟩
  simpa using this
set_option maxHeartbeats 1000000 in
set_option maxRecDepth 100000 in
theorem turned_any (s : ByteArray) (n : Int) (w : World) (hs : s.size ≤ maxLen) (hn : inI n) :
    Calls Try.prog 20 #[.string s, .int .i64 n] w fun e w' => (∃ t : ByteArray, e = .returned (.string t) ∧ t.size = s.size ∧ sameOk s t = true) ∧ Below w.heap.size w w' := by
  have hs2 : s.size ≤ 9223372036854775807 := Nat.le_trans hs (by decide)
  obtain ⟨W, cap, hconv, hB, hO, hcap⟩ := bytes_made w s
  have hB := Lib.hid hB
  have hO := Lib.hid hO
  clear hcap
  generalize hbb : w.heap.size = b at *
  go_enter Try.func20, Try.ntmps20
  go_wp2_with (fail)
  go_loopw [6] (fun i wr => ∃ (k : Nat) (T : List UInt8), i = .int .i64 k ∧ k ≤ s.size ∧ Hid (Tu s.data.toList k T) ∧ Bs wr b T ∧ Below b w wr) (fun i _ => s.size - (intOf i).toNat)
  case atStart => exact ⟨0, _, rfl, by omega, Lib.hid (tu_zero _), hB.out, hO.out⟩
  case round =>
    obtain ⟨k, T, rfl, hk, hT, hB, hO⟩ := hrel
    have k0 : (0 : Int) ≤ k := by omega
    have hl : s.data.toList.length = s.size := by first | (simp; done) | (simp; rfl)
    have hTl : T.length = s.size := by rw [hT.out.1, hl]
    by_cases hlt : k < s.size
    · have k1 : (k : Int) < s.size := by omega
      have hx := (hB.2 k (by omega)).1
      have hf := (hB.2 k (by omega)).2
      have hB := Lib.hid hB
      have hO := Lib.hid hO
      have hTl := Lib.hid hTl
      generalize hc : T[k] = c at *
      have Hc := Lib.hid hc
      clear hc
      have hl := Lib.hid hl
      go_wp2_with (fail)
      · have h1 : 65 ≤ bits BinOp.andNot IntKind.u8 (c.toNat : Int) 32 := by assumption
        have h2 : bits BinOp.andNot IntKind.u8 (c.toNat : Int) 32 ≤ 90 := by assumption
        rw [u8_show] at h1 h2
        have hkT : k < T.length := by rw [hTl.out]; exact hlt
        have hkl : k < s.data.toList.length := by rw [hl.out]; exact hlt
        have e : s.data.toList.getD k 0 = c := by
          rw [← hT.out.2.2 k (Nat.le_refl _), ← Hc.out, List.getD_eq_getElem?_getD, List.getElem?_eq_getElem hkT]; rfl
        refine ⟨⟨k + 1, T.set k (c ^^^ 32), rfl, by omega, Lib.hid (tu_set hT.out hkl _ (by rw [e]; exact low_x32 c ⟨h1, h2⟩)), ?_, hO.out.setCell (Nat.le_refl _) _⟩, by simp [intOf]; omega⟩
        rw [u8_x32]
        exact hB.out.set k _ hkT
      all_goals exact ⟨⟨k + 1, T, rfl, by omega, Lib.hid (tu_next hT.out), hB.out, hO.out⟩, by simp [intOf]; omega⟩
    · have e : k = s.size := by omega
      subst e
      have hb := string_made wr b cap _ hB
      rw [hTl] at hb
      have hss : (⟨T.toArray⟩ : ByteArray).size = s.size := by show T.toArray.size = _; rw [List.size_toArray]; exact hTl
      have hsm : sameOk s ⟨T.toArray⟩ = true := by
        unfold sameOk
        refine decide_eq_true ⟨hss.symm, fun i _ hi => ?_⟩
        exact (hT.out.2.1 i (by rw [hl]; exact hi)).symm
      have hB := Lib.hid hB
      have hO := Lib.hid hO
      have hss := Lib.hid hss
      have hsm := Lib.hid hsm
      go_wp2
      go_returns
      exact ⟨⟨_, rfl, hss.out, hsm.out⟩, hO.out⟩
end Go.Proofs.Ytoaiiimnfgbcaaa
