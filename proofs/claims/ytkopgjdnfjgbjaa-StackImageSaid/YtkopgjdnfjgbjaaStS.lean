import Derived.Test.YtkopgjdnfjgbjaaStR
namespace Go.Proofs.Ytkopgjdnfjgbjaa
open Go.RowKit
set_option linter.unusedVariables false
set_option linter.unusedSimpArgs false
/-! the document's Bytes: all cells, eight bytes each -/
/-- eight bytes, the lowest first -/
def le8 (n : Nat) : List UInt8 := (List.range 8).map fun i => UInt8.ofNat (n / 256 ^ i)
theorem le8_length (n : Nat) : (le8 n).length = 8 := rfl
theorem le8_take (n k : Nat) (hk : k < 8) : (le8 n).take (k + 1) = (le8 n).take k ++ [UInt8.ofNat (n / 256 ^ k)] := by
  rw [List.take_succ_eq_append_getElem (by rw [le8_length]; exact hk)]
  simp [le8]
theorem byte_is (m : Nat) : (((m : Nat) : Int) % 256) = ((UInt8.ofNat m).toNat : Int) := by simp
theorem next_is (n k : Nat) : ((n / 256 ^ k : Nat) : Int) / 256 = ((n / 256 ^ (k + 1) : Nat) : Int) := by
  have : n / 256 ^ (k + 1) = n / 256 ^ k / 256 := by rw [Nat.pow_succ, Nat.div_div_eq_div_mul]
  rw [this]; simp
theorem below_grown {B : Nat} {a w w' : World} {v : Value} {base n size : Nat} {e : TypeId} {xs : List Value} (h : Below B a w) (ho : w.ownsRow base e size v n xs) (hB : B ≤ base) (hs : base ≤ w.heap.size) (hg : w.grownBy w' v.ownBlock) : Below B a w' :=
  h.grown hg (by omega) (fun k e => by have := (ho.lt k e).1; omega)
theorem le8_by8 (v : Int) : le8 (v % 18446744073709551616).toNat = by8 v := by
  unfold le8 by8
  apply List.map_congr_left
  intro i hi
  have hi := List.mem_range.1 hi
  apply UInt8.toNat_inj.1
  simp only [UInt8.toNat_ofNat']
  rcases (by omega : i = 0 ∨ i = 1 ∨ i = 2 ∨ i = 3 ∨ i = 4 ∨ i = 5 ∨ i = 6 ∨ i = 7) with rfl | rfl | rfl | rfl | rfl | rfl | rfl | rfl <;> simp only [show (256 : Nat) ^ 0 = 1 from rfl, show (256 : Nat) ^ 1 = 256 from rfl, show (256 : Nat) ^ 2 = 65536 from rfl, show (256 : Nat) ^ 3 = 16777216 from rfl, show (256 : Nat) ^ 4 = 4294967296 from rfl, show (256 : Nat) ^ 5 = 1099511627776 from rfl, show (256 : Nat) ^ 6 = 281474976710656 from rfl, show (256 : Nat) ^ 7 = 72057594037927936 from rfl, show (256 : Int) ^ 0 = 1 from rfl, show (256 : Int) ^ 1 = 256 from rfl, show (256 : Int) ^ 2 = 65536 from rfl, show (256 : Int) ^ 3 = 16777216 from rfl, show (256 : Int) ^ 4 = 4294967296 from rfl, show (256 : Int) ^ 5 = 1099511627776 from rfl, show (256 : Int) ^ 6 = 281474976710656 from rfl, show (256 : Int) ^ 7 = 72057594037927936 from rfl] <;> omega
theorem bys_len (xs : List Int) : (xs.flatMap by8).length = 8 * xs.length := by
  induction xs with
  | nil => rfl
  | cons x xs ih => rw [List.flatMap_cons, List.length_append, ih, by8_length, List.length_cons]; omega
theorem bys_next (xs : List Int) (i : Nat) (h : i < xs.length) : (xs.take (i + 1)).flatMap by8 = (xs.take i).flatMap by8 ++ by8 xs[i] := by
  rw [← List.take_append_getElem h, List.flatMap_append]
  simp
section
variable {w : World} {p g d : Nat} {xs : List Int} {un ov : Int}
set_option maxHeartbeats 4000000 in
set_option maxRecDepth 100000 in
theorem rbytes_any (h : Rf w p g xs d un ov) (hl : xs.length ≤ 17920) : Calls Try.prog 28 #[.pointer (some ⟨p, 0, none⟩)] w fun e w' => e = .returned (.string ⟨(xs.flatMap by8).toArray⟩) ∧ Below w.heap.size w w' := by
  obtain ⟨ti, hj, hy0, hy1, hy2⟩ := info_parts info_u8
  obtain ⟨base, hbase⟩ : ∃ base, w.heap.size = base := ⟨_, rfl⟩
  obtain ⟨m, hm⟩ : ∃ m, xs.length = m := ⟨_, rfl⟩
  have hst := Lib.hid h
  rw [hm] at hl
  rw [hbase]
  replace hm := Lib.hid hm
  replace hbase := Lib.hid hbase
  clear h
  have hown0 : w.ownsRow base 5 1 (.slice none 0 0) ((xs.take 0).flatMap by8).length (u8s ((xs.take 0).flatMap by8)) := ⟨by simp [u8s], .inl ⟨rfl, by simp⟩⟩
  replace hown0 := Lib.hid hown0
  go_enter Try.func28, Try.ntmps28
  go_wp2_with (fail)
  go_loopw [3, 4] (fun v x wr => ∃ i : Nat, x = .int .i64 i ∧ i ≤ m ∧ Hid (wr.ownsRow base 5 1 v ((xs.take i).flatMap by8).length (u8s ((xs.take i).flatMap by8))) ∧ Hid (Below base w wr)) (fun _ x _ => m - (intOf x).toNat)
  case atStart => exact ⟨0, rfl, Nat.zero_le _, hown0, Lib.hid (Below.refl _ _)⟩
  case round =>
    obtain ⟨i, rfl, hi0, ho, hB⟩ := hrel
    have hR : Rf wr p g xs d un ov := hst.out.bel (by rw [hbase.out]; exact hB.out)
    have r0 := hR.c0
    rw [hm.out] at r0
    by_cases hi : i < m
    · have i0 : (i : Int) < (m : Int) := by omega
      have i1 : (0 : Int) ≤ i := by omega
      have hi' : i < xs.length := by rw [hm.out]; exact hi
      obtain ⟨x, hx⟩ : ∃ x, xs[i] = x := ⟨_, rfl⟩
      have e0 := hR.at i x (by rw [List.getElem?_eq_getElem hi', hx])
      obtain ⟨n, hn⟩ : ∃ n : Nat, (x % 18446744073709551616).toNat = n := ⟨_, rfl⟩
      have hn1 : x % 18446744073709551616 = (n : Int) := by omega
      have hnx := bys_next xs i hi'
      rw [hx, ← le8_by8 x, hn] at hnx
      have hlen0 : ((xs.take i).flatMap by8).length = 8 * i := by rw [bys_len, List.length_take]; omega
      have hnlt : n < 18446744073709551616 := by omega
      obtain ⟨L, hL⟩ : ∃ L, (xs.take i).flatMap by8 = L := ⟨_, rfl⟩
      rw [hL] at hnx hlen0 ho
      replace hnx := Lib.hid hnx
      replace hlen0 := Lib.hid hlen0
      replace hL := Lib.hid hL
      have hb8 : L.length ≤ 143360 := by rw [hlen0.out]; omega
      clear hx hR
      have hwu : IntKind.u64.wrap x = (n : Int) := by rw [← hn1]; simp [IntKind.wrap, IntKind.bits, IntKind.signed]
      replace hn1 := Lib.hid hn1
      clear hn
      go_wp2_with (fail)
      go_loopw [3, 5, 6] (fun v q x wr2 => ∃ k : Nat, x = .int .i64 k ∧ k ≤ 8 ∧ q = .int .u64 ((n / 256 ^ k : Nat) : Int) ∧ Hid (wr2.ownsRow base 5 1 v (L ++ (le8 n).take k).length (u8s (L ++ (le8 n).take k))) ∧ Hid (Below base w wr2)) (fun _ _ x _ => 8 - (intOf x).toNat)
      case atStart => exact ⟨0, rfl, by omega, by simp, by simpa using ho, hB⟩
      case round =>
        obtain ⟨k, rfl, hk, rfl, ho2, hB2⟩ := hrel
        have hbs := hB2.out.size
        rw [hbase.out] at hbs
        have hlen : (L ++ (le8 n).take k).length = L.length + k := by rw [List.length_append, List.length_take, le8_length]; omega
        have hlen := Lib.hid hlen
        have hn2 : n / 256 ^ k < 18446744073709551616 := Nat.lt_of_le_of_lt (Nat.div_le_self _ _) hnlt
        have hbi := byte_is (n / 256 ^ k)
        have hni := next_is n k
        have htk := le8_take n k
        generalize hmq : n / 256 ^ k = mq at *
        have hmq := Lib.hid hmq
        obtain ⟨c, hc⟩ : ∃ c, UInt8.ofNat mq = c := ⟨_, rfl⟩
        rw [hc] at hbi
        simp only [hc] at htk
        by_cases h8 : k < 8
        · have i8 : (k : Int) < 8 := by omega
          go_wp2_with (at_builtin; refine wpList_append_own _ rfl (.tmp 28) (.tmp 31) 57 rfl base 5 ti (.int .u8 0) 1 1 Try.underlying57 hj hy0 hy1 hy2 rfl (by decide) _ (L ++ (le8 n).take k).length (u8s (L ++ (le8 n).take k)) rfl (ho2.out.alloc _) ⟨wr.heap.size, 0, none⟩ 1 1 (u8s [c]) rfl rfl ?c1 ?c2 (by rw [hlen.out]; unfold maxLen; omega) (by rw [hlen.out]; omega) (by simp; omega) ?_)
          case c1 =>
            intro j u hj
            match j, hj with
            | 0, hj => simp [u8s] at hj; subst hj; simp [Addr.add]
          case c2 => intro u hu; simp [u8s] at hu; subst hu; rfl
          intro v' w' hown' hgr _
          have hl1 : (L ++ (le8 n).take (k + 1)).length = (L ++ (le8 n).take k).length + 1 := by
            simp only [List.length_append, List.length_take, le8_length]; omega
          have he : u8s (L ++ (le8 n).take (k + 1)) = u8s (L ++ (le8 n).take k) ++ u8s [c] := by
            rw [u8s_append, htk h8, List.append_assoc]
          have hB' := below_grown (hB2.out.alloc (by omega) (.cells (u8s [c]).toArray 5)) (ho2.out.alloc _) (Nat.le_refl _) (by simp; omega) hgr
          have hown2 : w'.ownsRow base 5 1 v' (L ++ (le8 n).take (k + 1)).length (u8s (L ++ (le8 n).take (k + 1))) := by
            rw [hl1, hlen.out, he]; exact hown'
          clear hown' hgr hl1 he
          have hown2 := Lib.hid hown2
          go_wp2
          exact ⟨⟨k + 1, by go_num, by omega, rfl, hown2, Lib.hid hB'⟩, by simp [intOf]; omega⟩
        · have e8 : k = 8 := by omega
          subst e8
          have htk8 : (le8 n).take 8 = le8 n := rfl
          go_wp2_with (fail)
          have ho3 := ho2.out
          rw [htk8, ← hnx.out] at ho3
          refine ⟨⟨i + 1, rfl, by omega, Lib.hid ho3, hB2⟩, ?_⟩
          simp [intOf]; omega
    · have e : i = m := by omega
      subst e
      have hall : xs.take i = xs := List.take_of_length_le (by rw [hm.out]; exact Nat.le_refl _)
      have ho3 := ho.out
      rw [hall] at ho3
      obtain ⟨A, c, rfl⟩ := own_form ho3
      have hrun := own_string wr base c A (xs.flatMap by8) ho3
      obtain ⟨S, hS⟩ : ∃ S : ByteArray, ⟨(xs.flatMap by8).toArray⟩ = S := ⟨_, rfl⟩
      obtain ⟨n, hn⟩ : ∃ n, (xs.flatMap by8).length = n := ⟨_, rfl⟩
      rw [hS, hn] at hrun
      rw [hn]
      clear ho3 hn
      go_wp2_with (fail)
      go_returns
      exact ⟨by rw [hS]; rfl, hB.out⟩
end
end Go.Proofs.Ytkopgjdnfjgbjaa
