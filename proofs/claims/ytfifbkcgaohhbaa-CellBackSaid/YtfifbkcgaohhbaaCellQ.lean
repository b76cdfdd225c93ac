import Derived.Test.YtfifbkcgaohhbaaCellL
import Derived.OpenShut
namespace Go.Proofs.Ytfifbkcgaohhbaa
open Go.RowKit
set_option linter.unusedVariables false
set_option linter.unusedSimpArgs false
theorem isI_of {a : Int} (h : (Lit.int .i64 a).wf = true) : isI a := by
  have := bounds_i64 h
  unfold isI; omega
theorem wrap64_isI (x : Int) : isI (wrap64 x) := by unfold isI wrap64; omega
theorem toInt_ofInt {a : Int} (h : isI a) : (BitVec.ofInt 64 a).toInt = a := by
  obtain ⟨h0, h1⟩ := h
  rw [BitVec.toInt_ofInt, Int.bmod_def]
  simp only [show ((2 ^ 64 : Nat) : Int) = 18446744073709551616 from rfl]
  split <;> omega
theorem ofInt_msb {a : Int} (h : isI a) : (BitVec.ofInt 64 a).msb = decide (a < 0) := by
  rw [BitVec.msb_eq_toInt, toInt_ofInt h]
theorem wrap_toNat (x : BitVec 64) : IntKind.i64.wrap (x.toNat : Int) = x.toInt := by
  have := x.isLt
  rw [IntKind.wrap_i64, BitVec.toInt_eq_toNat_cond]
  split <;> omega
theorem xor_neg {r b : Int} (hr : isI r) (hb : isI b) : decide (bits .xor .i64 r b < 0) = !(decide (r < 0) == decide (b < 0)) := by
  have e : bits .xor .i64 r b = (BitVec.ofInt 64 r ^^^ BitVec.ofInt 64 b).toInt := wrap_toNat _
  rw [e, ← BitVec.msb_eq_toInt, BitVec.msb_xor, ofInt_msb hr, ofInt_msb hb]
  cases decide (r < 0) <;> cases decide (b < 0) <;> rfl
theorem down_is {r b : Int} (hr : isI r) (hb : isI b) : down r b = apart r b := by
  unfold down apart
  rw [xor_neg hr hb]
theorem yR_is (a : Int) {b : Int} (hb : isI b) : isI (yR a b) := by
  unfold yR
  split
  · unfold isI; omega
  · rename_i h
    obtain ⟨b0, b1⟩ := hb
    have h1 := Int.natAbs_tmod a b
    have h2 := Nat.mod_lt a.natAbs (show 0 < b.natAbs by omega)
    unfold isI
    omega
theorem same_q {a b : Int} : yQ a b = rQ a b := by
  unfold yQ rQ
  by_cases h : b = 0
  · rw [if_pos h, if_pos h]
  · rw [if_neg h, if_neg h]
    split
    · rename_i h1
      rw [h1, show (-1 : Int) = -(1 : Int) from rfl, Int.tdiv_neg, Int.tdiv_one]
    · rfl
theorem same_r {a b : Int} : yR a b = rR a b := by
  unfold yR rR
  by_cases h : b = 0
  · rw [if_pos h, if_pos h]
  · rw [if_neg h, if_neg h]
    split
    · rename_i h1
      rw [h1, show (-1 : Int) = -(1 : Int) from rfl, Int.tmod_neg, Int.tmod_one]
    · rfl
theorem cell_divides (a b : Int) (ha : (Lit.int .i64 a).wf = true) (hb : (Lit.int .i64 b).wf = true) (w : World) :
    dvd (zQ a b) (zR a b) (yF b) (rfQ a b) (rfR a b) (rOk b) = true ∧ dvd (yQ a b) (yR a b) (yF b) (rQ a b) (rR a b) (rOk b) = true := by
  by_cases h : b = 0
  · subst h
    simp [dvd, yF, rOk, zQ, zR, yQ, yR, down]
  · have h1 : rOk b = true := by simp [rOk, h]
    have h2 : yF b = 0 := if_neg h
    have hd : down (yR a b) b = apart (rR a b) b := by rw [down_is (yR_is a (isI_of hb)) (isI_of hb), same_r]
    have e1 : zQ a b = rfQ a b := by unfold zQ rfQ; rw [hd, same_q]; simp [h1]
    have e2 : zR a b = rfR a b := by unfold zR rfR; rw [hd, same_r]; simp [h1]
    rw [e1, e2, h2, h1, same_q, same_r]
    simp [dvd]
end Go.Proofs.Ytfifbkcgaohhbaa
