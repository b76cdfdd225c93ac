import Derived.Test.YteldbkdfphkdbaaImD
namespace Go.Proofs.Yteldbkdfphkdbaa
open Go.RowKit
set_option linter.unusedVariables false
set_option linter.unusedSimpArgs false
/-- what is hidden, noughts behind it -/
def loadL (B : List UInt8) (x z : Nat) (S : List UInt8) : List UInt8 := splice (splice B x S) (x + S.length) (List.replicate (z - S.length) 0)
section
variable {p b : Nat} {L : Lay} {B : List UInt8} {o s : Bool} {mode : Int} {w : World}
set_option maxHeartbeats 1000000 in
theorem load_long (h : Im w p b L B o s) (S : ByteArray) (hl : L.to_ 2 - L.from_ 2 < S.size) (hs : S.size ≤ 9223372036854775807) : Calls Try.prog 29 #[.pointer (some ⟨p, 0, none⟩), .string S] w fun e w' => e = .returned (.int .i64 2) ∧ ∃ n, w' = w.drewN n := by
  have hP := Lib.hid (part_any h 2)
  clear h
  generalize L.to_ 2 - L.from_ 2 = z at *
  have i1 : (z : Int) < S.size := by omega
  go_enter Try.func29, Try.ntmps29
  go_wp2_with (fail)
  refine hP.out.mono ?_
  rintro e w1 ⟨A, rfl, hA, n, rfl⟩
  clear hA
  go_wp2_with (fail)
  go_returns
  exact ⟨rfl, n, rfl⟩
theorem info_u8z : ∃ i, Try.prog.info? 5 = some i ∧ i.zero = some (.int .u8 0) := by
  obtain ⟨i, h1, h2, _⟩ := info_parts info_u8
  exact ⟨i, h1, h2⟩
set_option maxRecDepth 100000 in
set_option maxHeartbeats 1000000 in
theorem load_yes (h : Im w p b L B o s) (S : ByteArray) (hl : S.size ≤ L.to_ 2 - L.from_ 2) : Calls Try.prog 29 #[.pointer (some ⟨p, 0, none⟩), .string S] w fun e w' => e = .returned (.int .i64 0) ∧ Im w' p b L (loadL B (L.from_ 2) (L.to_ 2 - L.from_ 2) S.data.toList) o s ∧ Only b w w' := by
  obtain ⟨ti, hti, htz⟩ := info_u8z
  have hP := Lib.hid (part_any h 2)
  have hle := Lay.from_le h.ok 2
  have hfit : L.from_ 2 + S.size ≤ B.length := by rw [h.len]; omega
  have hfit2 : L.from_ 2 + S.size + (L.to_ 2 - L.from_ 2 - S.size) ≤ B.length := by rw [h.len]; omega
  have m := Lay.mono h.ok
  have hz : L.to_ 2 - L.from_ 2 ≤ 200000 := by omega
  generalize L.to_ 2 - L.from_ 2 = z at *
  generalize L.from_ 2 = x at *
  have hmin : Nat.min S.size z = S.size := Nat.min_eq_left hl
  have hCp := fun A n (hA : 0 < z → A = some ⟨b, x, none⟩) => copy_text (P := Try.prog) (w.drewN n) 76 9 3 5 Try.underlying76 size_u8 A b x z z S B 5 (h.draws n).by_ S.data.toList (by rw [hmin, ← data_size, List.take_length]) (fun h0 => hA (by rw [data_size] at h0; omega)) (by rw [data_size]; exact hfit)
  rw [hmin] at hCp
  have hl1 : (splice B x S.data.toList).length = B.length := splice_len _ _ _ (by rw [data_size]; exact hfit)
  have hlL : (loadL B x z S.data.toList).length = B.length := by
    unfold loadL
    rw [splice_len _ _ _ (by rw [hl1, data_size, List.length_replicate]; exact hfit2), hl1]
  have hCl := fun A w4 (hb4 : Bk w4 b 5 (u8s (splice B x S.data.toList)).toArray) (hA : 0 < z - S.size → A = some ⟨b, x + S.size, none⟩) => clear_u8 (P := Try.prog) w4 76 0 5 ti Try.underlying76 hti htz A b (x + S.size) (z - S.size) (z - S.size) (splice B x S.data.toList) 5 hb4 hA (by rw [hl1]; exact hfit2)
  have hend : ∀ w4 w5 n, Bk w5 b 5 (u8s (splice (splice B x S.data.toList) (x + S.size) (List.replicate (z - S.size) 0))).toArray → Only b (w.drewN n) w4 → Only b w4 w5 → Im w5 p b L (loadL B x z S.data.toList) o s ∧ Only b w w5 := fun w4 w5 n g1 g2 g3 => by
    refine ⟨(h.draws n).turned ?_ (g2.trans g3) hlL, (Only.drawn b w n).trans (g2.trans g3)⟩
    unfold loadL
    rw [data_size]
    exact g1
  replace hend := Lib.hid hend
  clear hlL hl1 hfit hfit2 hmin hle m h
  have i1 : ¬ (z : Int) < S.size := by omega
  have i2 : (S.size : Int) ≤ z := by omega
  have i3 : (0 : Int) ≤ S.size := by omega
  replace hCp := Lib.hid hCp
  replace hCl := Lib.hid hCl
  by_cases h0 : S.size = z
  · go_enter Try.func29, Try.ntmps29
    replace h0 := Lib.hid h0
    go_wp2_with (fail)
    refine hP.out.mono ?_
    rintro e w1 ⟨A, rfl, hA, n, rfl⟩
    obtain ⟨w4, hrun, hbk, hon⟩ := hCp.out A n hA
    obtain ⟨w5, hrun2, hbk2, hon2⟩ := hCl.out A w4 hbk (fun h => absurd h (by have := h0.out; omega))
    have e0 : z - S.size = 0 := by have := h0.out; omega
    rw [e0] at hrun2
    have e1 : z = S.size := h0.out.symm
    replace hA := Lib.hid hA
    replace hbk := Lib.hid hbk
    replace hon := Lib.hid hon
    replace hbk2 := Lib.hid hbk2
    replace hon2 := Lib.hid hon2
    replace e0 := Lib.hid e0
    subst e1
    go_wp2_with (fail)
    go_returns
    exact ⟨rfl, hend.out _ _ _ hbk2.out hon.out hon2.out⟩
  · have h1 : S.size < z := by omega
    have e1 : ¬ z = S.size := by omega
    have z0 : 0 < z := by omega
    go_enter Try.func29, Try.ntmps29
    go_wp2_with (fail)
    refine hP.out.mono ?_
    rintro e w1 ⟨A, rfl, hA, n, rfl⟩
    obtain rfl := hA z0
    obtain ⟨w4, hrun, hbk, hon⟩ := hCp.out _ n (fun _ => rfl)
    obtain ⟨w5, hrun2, hbk2, hon2⟩ := hCl.out _ w4 hbk (fun _ => rfl)
    clear hA
    replace hbk := Lib.hid hbk
    replace hon := Lib.hid hon
    replace hbk2 := Lib.hid hbk2
    replace hon2 := Lib.hid hon2
    go_wp2_with (fail)
    go_returns
    exact ⟨rfl, hend.out _ _ _ hbk2.out hon.out hon2.out⟩
theorem text_neg (a n : Int) (hn : n < 0) : Calls Try.prog 30 #[.pointer (some ⟨p, 0, none⟩), .int .i64 mode, .int .i64 a, .int .i64 n] w fun e w' => e = .returned (.tuple #[.string ⟨#[]⟩, .int .i64 19]) ∧ w' = w := by
  go_enter Try.func30, Try.ntmps30
  go_wp2_with (fail)
  go_returns
  exact ⟨rfl, rfl⟩
theorem text_zero (h : Im w p b L B o s) (a : Int) : Calls Try.prog 30 #[.pointer (some ⟨p, 0, none⟩), .int .i64 mode, .int .i64 a, .int .i64 0] w fun e w' => e = .returned (.tuple #[.string ⟨#[]⟩, .int .i64 0]) ∧ w' = w := by
  have hR := Lib.hid (row_zero p b L B o s mode a 1 w h)
  have hrun := conv_u8 w none 0 0 0 0 [] rfl (fun h => absurd h (by decide)) (fun j hj => absurd hj (Nat.not_lt_zero _))
  clear h
  go_enter Try.func30, Try.ntmps30
  go_wp2_with (fail)
  refine hR.out.mono ?_
  rintro e w1 ⟨rfl, rfl⟩
  go_wp2_with (fail)
  go_returns
  exact ⟨rfl, rfl⟩
theorem text_no (h : Im w p b L B o s) (a n : Int) (hn : 0 < n) (hn2 : n ≤ 9223372036854775807) (ha : -9223372036854775808 ≤ a ∧ a ≤ 9223372036854775807) (hok : ¬ rowOk L o s mode a n 1) : Calls Try.prog 30 #[.pointer (some ⟨p, 0, none⟩), .int .i64 mode, .int .i64 a, .int .i64 n] w fun e w' => e = .returned (.tuple #[.string ⟨#[]⟩, .int .i64 5]) ∧ w' = w := by
  have hR := Lib.hid (row_no p b L B o s mode a n 1 w h hn hn2 ha (.inl rfl) hok)
  have h0 : ¬ n < 0 := by omega
  clear h hok
  go_enter Try.func30, Try.ntmps30
  go_wp2_with (fail)
  refine hR.out.mono ?_
  rintro e w1 ⟨rfl, rfl⟩
  go_wp2_with (fail)
  go_returns
  exact ⟨rfl, rfl⟩
/-- n bytes from a place on -/
def rowL (B : List UInt8) (a n : Nat) : List UInt8 := (B.drop a).take n
theorem rowL_len (B : List UInt8) (a n : Nat) (h : a + n ≤ B.length) : (rowL B a n).length = n := by
  unfold rowL; rw [List.length_take, List.length_drop]; omega
theorem rowL_at (h : Im w p b L B o s) (a n : Nat) (j : Nat) (hj : j < (rowL B a n).length) : w.cell? ⟨b, a + j, none⟩ = some (.int .u8 ((rowL B a n)[j].toNat : Int)) := by
  have hl : a + j < B.length := by
    unfold rowL at hj; rw [List.length_take, List.length_drop] at hj; omega
  rw [h.byte (a + j) hl]
  simp [rowL]
set_option maxHeartbeats 1000000 in
theorem text_yes (h : Im w p b L B o s) (a n : Nat) (hn : 0 < n) (hok : rowOk L o s mode a n 1) : Calls Try.prog 30 #[.pointer (some ⟨p, 0, none⟩), .int .i64 mode, .int .i64 a, .int .i64 n] w fun e w' => e = .returned (.tuple #[.string ⟨(rowL B a n).toArray⟩, .int .i64 0]) ∧ w' = w := by
  have hR := Lib.hid (row_at h a n 1 hn (.inl rfl) hok)
  have hl := row_len h.ok hok
  have hrun := conv_u8 w (some ⟨b, a, none⟩) b a n n (rowL B a n) (rowL_len B a n (by rw [h.len]; omega)) (fun _ => rfl) (rowL_at h a n)
  generalize rowL B a n = R at *
  clear h hok
  have h0 : ¬ (n : Int) < 0 := by omega
  go_enter Try.func30, Try.ntmps30
  go_wp2_with (fail)
  refine hR.out.mono ?_
  rintro e w1 ⟨rfl, rfl⟩
  go_wp2_with (fail)
  go_returns
  exact ⟨rfl, rfl⟩
theorem move_neg (x y n : Int) (hn : n < 0) : Calls Try.prog 31 #[.pointer (some ⟨p, 0, none⟩), .int .i64 mode, .int .i64 x, .int .i64 y, .int .i64 n] w fun e w' => e = .returned (.int .i64 19) ∧ w' = w := by
  go_enter Try.func31, Try.ntmps31
  go_wp2_with (fail)
  go_returns
  exact ⟨rfl, rfl⟩
theorem move_zero (h : Im w p b L B o s) (x y : Int) : Calls Try.prog 31 #[.pointer (some ⟨p, 0, none⟩), .int .i64 mode, .int .i64 x, .int .i64 y, .int .i64 0] w fun e w' => e = .returned (.int .i64 0) ∧ w' = w := by
  have hR := Lib.hid (fun a r => row_zero p b L B o s mode a r w h)
  have hrun := run_copy_none (P := Try.prog) w 76 76 3 5 none none 0 0 0 0 Try.underlying76 size_u8 rfl
  clear h
  go_enter Try.func31, Try.ntmps31
  go_wp2_with (fail)
  refine (hR.out x 1).mono ?_
  rintro e w1 ⟨rfl, rfl⟩
  go_wp2_with (fail)
  refine (hR.out y 2).mono ?_
  rintro e w1 ⟨rfl, rfl⟩
  go_wp2_with (fail)
  go_returns
  exact ⟨rfl, rfl⟩
set_option maxHeartbeats 1000000 in
theorem move_no (h : Im w p b L B o s) (x y n : Int) (hn : 0 < n) (hn2 : n ≤ 9223372036854775807) (hx : -9223372036854775808 ≤ x ∧ x ≤ 9223372036854775807) (hy : -9223372036854775808 ≤ y ∧ y ≤ 9223372036854775807) (hok : ¬ (rowOk L o s mode x n 1 ∧ rowOk L o s mode y n 2)) : Calls Try.prog 31 #[.pointer (some ⟨p, 0, none⟩), .int .i64 mode, .int .i64 x, .int .i64 y, .int .i64 n] w fun e w' => e = .returned (.int .i64 5) ∧ w' = w := by
  have key : ∀ a r, r = 1 ∨ r = 2 → -9223372036854775808 ≤ a ∧ a ≤ 9223372036854775807 → ∃ A c ok, (ok = true ∧ rowOk L o s mode a n r ∨ ok = false ∧ ¬ rowOk L o s mode a n r) ∧ Calls Try.prog 42 #[.pointer (some ⟨p, 0, none⟩), .int .i64 mode, .int .i64 a, .int .i64 n, .int .i64 r] w fun e w' => e = .returned (.tuple #[.slice A c c, .bool ok]) ∧ w' = w := fun a r hr ha => by
    by_cases hk : rowOk L o s mode a n r
    · exact ⟨_, _, true, .inl ⟨rfl, hk⟩, row_yes p b L B o s mode a n r w h hn hr hk⟩
    · exact ⟨_, _, false, .inr ⟨rfl, hk⟩, row_no p b L B o s mode a n r w h hn hn2 ha hr hk⟩
  obtain ⟨A1, c1, o1, k1, hR1⟩ := key x 1 (.inl rfl) hx
  obtain ⟨A2, c2, o2, k2, hR2⟩ := key y 2 (.inr rfl) hy
  have hc : o1 = false ∨ o1 = true ∧ o2 = false := by
    rcases k1 with ⟨rfl, k1⟩ | ⟨rfl, _⟩
    · rcases k2 with ⟨rfl, k2⟩ | ⟨rfl, _⟩
      · exact absurd ⟨k1, k2⟩ hok
      · exact .inr ⟨rfl, rfl⟩
    · exact .inl rfl
  have h0 : ¬ n < 0 := by omega
  clear key hok k1 k2 h
  replace hR1 := Lib.hid hR1
  replace hR2 := Lib.hid hR2
  rcases hc with rfl | ⟨rfl, rfl⟩
  all_goals (
    go_enter Try.func31, Try.ntmps31
    go_wp2_with (fail)
    refine hR1.out.mono ?_
    rintro e w1 ⟨rfl, rfl⟩
    go_wp2_with (fail)
    refine hR2.out.mono ?_
    rintro e w1 ⟨rfl, rfl⟩
    go_wp2_with (fail)
    go_returns
    exact ⟨rfl, rfl⟩)
set_option maxRecDepth 100000 in
set_option maxHeartbeats 1000000 in
theorem move_yes (h : Im w p b L B o s) (x y n : Nat) (hn : 0 < n) (hx : rowOk L o s mode x n 1) (hy : rowOk L o s mode y n 2) : Calls Try.prog 31 #[.pointer (some ⟨p, 0, none⟩), .int .i64 mode, .int .i64 x, .int .i64 y, .int .i64 n] w fun e w' => e = .returned (.int .i64 0) ∧ Im w' p b L (splice B y (rowL B x n)) o s ∧ Only b w w' := by
  have hR1 := Lib.hid (row_at h x n 1 hn (.inl rfl) hx)
  have hR2 := Lib.hid (row_at h y n 2 hn (.inr rfl) hy)
  have hlx := row_len h.ok hx
  have hly := row_len h.ok hy
  have hl := rowL_len B x n (by rw [h.len]; omega)
  obtain ⟨w4, hrun, hbk, hon⟩ := copy_u8 (P := Try.prog) w 76 76 3 5 Try.underlying76 size_u8 (some ⟨b, y, none⟩) (some ⟨b, x, none⟩) n n n n b y B 5 h.by_ (rowL B x n) (by rw [hl]; exact (Nat.min_self n).symm) (fun _ => ⟨rfl, _, rfl, fun j hj => by
    rw [show ((⟨b, x, none⟩ : Addr).add j) = ⟨b, x + j, none⟩ by unfold Addr.add; split <;> simp_all]
    exact rowL_at h x n j hj⟩) (by rw [hl, h.len]; omega)
  have hend : Im w4 p b L (splice B y (rowL B x n)) o s := h.turned hbk hon (splice_len _ _ _ (by rw [hl, h.len]; omega))
  rw [hl] at hrun
  replace hend := Lib.hid hend
  replace hon := Lib.hid hon
  generalize rowL B x n = R at *
  clear h hx hy hbk
  have h0 : ¬ (n : Int) < 0 := by omega
  go_enter Try.func31, Try.ntmps31
  go_wp2_with (fail)
  refine hR1.out.mono ?_
  rintro e w1 ⟨rfl, rfl⟩
  go_wp2_with (fail)
  refine hR2.out.mono ?_
  rintro e w1 ⟨rfl, rfl⟩
  go_wp2_with (fail)
  go_returns
  exact ⟨rfl, hend.out, hon.out⟩
end
end Go.Proofs.Yteldbkdfphkdbaa
