import Derived.Test.YtpbloennjcjgoaaDoorResB
namespace Go.Proofs.YtpbloennjcjgoaaDoor
open Go.RowKit
set_option linter.unusedVariables false
set_option linter.unusedSimpArgs false
set_option maxHeartbeats 1000000 in
set_option maxRecDepth 100000 in
theorem rnumber_any (n : Nat) (w : World) (hn : n < 18446744073709551616) :
    Calls Tryd.prog 36 #[.int .u64 n] w fun e w' => e = .returned (.string ⟨(le8 n).toArray⟩) ∧ Below w.heap.size w w' := by
  obtain ⟨ti, hj, hy0, hy1, hy2⟩ := info_parts info_u8
  go_enter Tryd.func36, Tryd.ntmps36
  go_wp2_with (fail)
  generalize hbase : w.heap.size = base at *
  go_loopw [0, 3, 4] (fun m v i wr => ∃ k : Nat, i = .int .i64 k ∧ k ≤ 8 ∧ m = .int .u64 ((n / 256 ^ k : Nat) : Int) ∧ wr.ownsRow base 5 1 v ((le8 n).take k).length (u8s ((le8 n).take k)) ∧ Below base w wr) (fun _ _ i _ => 8 - (intOf i).toNat)
  case atStart => exact ⟨0, rfl, by omega, by simp, World.ownsRow_nil _ _ _ _, Below.refl _ _⟩
  case round =>
    obtain ⟨k, rfl, hk, rfl, ho, hB⟩ := hrel
    have hbs := hB.size
    have hlen : ((le8 n).take k).length = k := by rw [List.length_take, le8_length]; omega
    have ho := Lib.hid ho
    have hB := Lib.hid hB
    have hn2 : n / 256 ^ k < 18446744073709551616 := Nat.lt_of_le_of_lt (Nat.div_le_self _ _) hn
    have hbi := byte_is (n / 256 ^ k)
    have hni := next_is n k
    have htk := le8_take n k
    generalize hm : n / 256 ^ k = m at *
    have hm := Lib.hid hm
    obtain ⟨c, hc⟩ : ∃ c, UInt8.ofNat m = c := ⟨_, rfl⟩
    rw [hc] at hbi
    simp only [hc] at htk
    have hlen := Lib.hid hlen
    by_cases h8 : k < 8
    · have i8 : (k : Int) < 8 := by omega
      go_wp2_with (at_builtin; refine wpList_append_own _ rfl (.tmp 9) (.tmp 12) 38 rfl base 5 ti (.int .u8 0) 1 1 Tryd.underlying38 hj hy0 hy1 hy2 rfl (by decide) _ ((le8 n).take k).length (u8s ((le8 n).take k)) rfl (ho.out.alloc _) ⟨wr.heap.size, 0, none⟩ 1 1 (u8s [c]) rfl rfl ?c1 ?c2 (by rw [hlen.out]; unfold maxLen; omega) (by rw [hlen.out]; omega) (by simp; omega) ?_)
      case c1 =>
        intro j u hj
        match j, hj with
        | 0, hj => simp [u8s] at hj; subst hj; simp [Addr.add]
      case c2 => intro u hu; simp [u8s] at hu; subst hu; rfl
      intro v' w' hown' hgr _
      have hl1 : ((le8 n).take (k + 1)).length = ((le8 n).take k).length + 1 := by
        simp only [List.length_take, le8_length]; omega
      have he : u8s ((le8 n).take (k + 1)) = u8s ((le8 n).take k) ++ u8s [c] := by
        rw [u8s_append, htk h8]
      have hB' := r16_below_grown (hB.out.alloc (by omega) (.cells (u8s [c]).toArray 5)) (ho.out.alloc _) (Nat.le_refl _) (by simp; omega) hgr
      have hown2 : w'.ownsRow base 5 1 v' ((le8 n).take (k + 1)).length (u8s ((le8 n).take (k + 1))) := by
        rw [hl1, he]; first | exact hown' | (rw [hlen.out]; exact hown')
      clear hown' hgr hl1 he
      have hown2 := Lib.hid hown2
      go_wp2
      exact ⟨⟨k + 1, by go_num, by omega, rfl, hown2.out, hB'⟩, by simp [intOf]; omega⟩
    · have e8 : k = 8 := by omega
      subst e8
      have ho := ho.out
      have htk : (le8 n).take 8 = le8 n := rfl
      rw [htk] at ho
      obtain ⟨A, c, rfl⟩ := own_form ho
      have hconv := own_string wr _ c A _ ho
      have ho := Lib.hid ho
      go_wp2
      go_returns
      exact ⟨rfl, by rw [hbase]; exact hB.out⟩
theorem fits_yes (a b c : Nat) (w : World) (h1 : a ≤ 65536) (h2 : b ≤ 4096) (h3 : c ≤ 4096) : Calls Tryd.prog 33 #[.int .u64 a, .int .u64 b, .int .u64 c] w fun e w' => e = .returned (.bool true) ∧ w' = w := by
  have i1 : (a : Int) ≤ 65536 := by omega
  have i2 : (b : Int) ≤ 4096 := by omega
  have i3 : (c : Int) ≤ 4096 := by omega
  go_enter Tryd.func33, Tryd.ntmps33
  go_wp2
  go_returns
  exact ⟨rfl, rfl⟩
theorem fits_no (a b c : Nat) (w : World) (h : ¬ (a ≤ 65536 ∧ b ≤ 4096 ∧ c ≤ 4096)) : Calls Tryd.prog 33 #[.int .u64 a, .int .u64 b, .int .u64 c] w fun e w' => e = .returned (.bool false) ∧ w' = w := by
  by_cases h1 : a ≤ 65536
  · have i1 : (a : Int) ≤ 65536 := by omega
    by_cases h2 : b ≤ 4096
    · have i2 : (b : Int) ≤ 4096 := by omega
      have i3 : ¬ (c : Int) ≤ 4096 := by omega
      go_enter Tryd.func33, Tryd.ntmps33
      go_wp2
      go_returns
      exact ⟨rfl, rfl⟩
    · have i2 : ¬ (b : Int) ≤ 4096 := by omega
      go_enter Tryd.func33, Tryd.ntmps33
      go_wp2
      go_returns
      exact ⟨rfl, rfl⟩
  · have i1 : ¬ (a : Int) ≤ 65536 := by omega
    go_enter Tryd.func33, Tryd.ntmps33
    go_wp2
    go_returns
    exact ⟨rfl, rfl⟩
/-- a number as an unsigned one -/
def cN (x : Int) : Nat := (x % 18446744073709551616).toNat
theorem cN_lt (x : Int) : cN x < 18446744073709551616 := by unfold cN; omega
theorem cN_is (x : Int) : IntKind.u64.wrap x = (cN x : Int) := by rw [wrapu]; unfold cN; omega
theorem cN_nat (n : Nat) (h : n < 18446744073709551616) : cN n = n := by unfold cN; omega
def mark4 : List UInt8 := [80, 82, 83, 49]
/-- the variable's four bytes -/
def Mark (W : World) : Prop := 0 < W.heap.size ∧ W.cell? ⟨0, 0, none⟩ = some (.int .u8 80) ∧ W.cell? ⟨0, 1, none⟩ = some (.int .u8 82) ∧ W.cell? ⟨0, 2, none⟩ = some (.int .u8 83) ∧ W.cell? ⟨0, 3, none⟩ = some (.int .u8 49)
theorem Mark.kept {B : Nat} {W W' : World} (h : Mark W) (hb : Below B W W') (hB : 0 < B) : Mark W' :=
  ⟨Nat.lt_of_lt_of_le h.1 hb.size, (hb.cell (p := ⟨0, 0, none⟩) hB).trans h.2.1, (hb.cell (p := ⟨0, 1, none⟩) hB).trans h.2.2.1, (hb.cell (p := ⟨0, 2, none⟩) hB).trans h.2.2.2.1, (hb.cell (p := ⟨0, 3, none⟩) hB).trans h.2.2.2.2⟩
def stateV (st da re : ByteArray) (h l : Int) : Value := .agg #[.string st, .string da, .string re, .int .i64 h, .int .i64 l]
def heads (x y z h l : Nat) : List UInt8 := mark4 ++ le8 x ++ le8 y ++ le8 z ++ le8 h ++ le8 l
def bodyL (st da re : ByteArray) (h l : Int) : List UInt8 := heads st.size da.size re.size (cN h) (cN l) ++ (st ++ da ++ re).data.toList
def printL (st da re : ByteArray) (h l : Int) : List UInt8 := bodyL st da re h l ++ le8 (sumL (bodyL st da re h l))
def Fit16 (st da re : ByteArray) : Prop := st.size ≤ 65536 ∧ da.size ≤ 4096 ∧ re.size ≤ 4096
set_option maxHeartbeats 1000000 in
set_option maxRecDepth 100000 in
theorem print_no (st da re : ByteArray) (h l : Int) (w : World) (hf : ¬ Fit16 st da re) (h1 : st.size ≤ maxLen) (h2 : da.size ≤ maxLen) (h3 : re.size ≤ maxLen) :
    Calls Tryd.prog 10 #[stateV st da re h l] w fun e w' => e = .returned (.tuple #[.string ByteArray.empty, .int .i64 2]) ∧ Below w.heap.size w w' := by
  unfold stateV
  have g1 : st.size ≤ 9223372036854775807 := h1
  have g2 : da.size ≤ 9223372036854775807 := h2
  have g3 : re.size ≤ 9223372036854775807 := h3
  go_enter Tryd.func10, Tryd.ntmps10
  go_wp2_with (fail)
  refine (fits_no st.size da.size re.size _ hf).mono ?_
  rintro e w1 ⟨rfl, rfl⟩
  go_wp2
  go_returns
  exact ⟨rfl, (Below.refl _ _).alloc (Nat.le_refl _) _⟩
end Go.Proofs.YtpbloennjcjgoaaDoor
