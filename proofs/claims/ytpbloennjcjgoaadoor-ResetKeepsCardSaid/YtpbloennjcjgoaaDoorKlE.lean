import Derived.Test.YtpbloennjcjgoaaDoorKlD
namespace Go.Proofs.YtpbloennjcjgoaaDoor
open Go.RowKit
set_option linter.unusedVariables false
set_option linter.unusedSimpArgs false
/-! chapter 16: filled; the document's list: New, Back -/
theorem tm8 (z : Int) : z.tmod 8 = 0 ↔ z % 8 = 0 := ⟨fun h => Int.emod_eq_zero_of_dvd (Int.dvd_of_tmod_eq_zero h), fun h => Int.tmod_eq_zero_of_dvd (Int.dvd_of_emod_eq_zero h)⟩
theorem info_u8e : (Tryd.prog.info? 5).map (fun i => (i.zero, i.size, i.bytes)) = some (some (.int .u8 0), 1, 1) := by kernel_rfl
theorem make_u8 (n : Nat) (hn : n ≤ 143360) (W : World) : (Instr.makeSlice 38 (.int .i64 (n : Int)) (.int .i64 (n : Int))).run Tryd.prog W = .ok (.slice (some ⟨W.heap.size, 0, none⟩) n n) (W.alloc (.cells (u8s (List.replicate n 0)).toArray 5)) := by
  obtain ⟨ti, hti, h0⟩ := Option.map_eq_some_iff.1 info_u8e
  simp only [Prod.mk.injEq] at h0
  obtain ⟨htz, hts, htb⟩ := h0
  have h := run_make (P := Tryd.prog) W 38 5 ti (.int .u8 0) Tryd.underlying38 hti htz .i64 .i64 (n : Int) (n : Int) (by omega) (Int.le_refl _) (by rw [htb]; omega) (by omega)
  rw [hts, Int.toNat_natCast, made_u8] at h
  exact h
/-- the text that filled makes -/
def fillS (S : ByteArray) (n : Nat) : ByteArray := ⟨(splice (List.replicate n 0) 0 (S.data.toList.take (Nat.min S.size n))).toArray⟩
theorem fillS_size (S : ByteArray) (n : Nat) : (fillS S n).size = n := by
  have h : (splice (List.replicate n (0 : UInt8)) 0 (S.data.toList.take (Nat.min S.size n))).length = n := by
    rw [splice_len _ _ _ (by rw [List.length_take, List.length_replicate, Nat.zero_add]; exact Nat.le_trans (Nat.min_le_left _ _) (Nat.min_le_right _ _)), List.length_replicate]
  exact h
set_option maxRecDepth 100000 in
theorem filled_any (S : ByteArray) (n : Nat) (hn : n ≤ 143360) (w : World) : Calls Tryd.prog 25 #[.string S, .int .i64 (n : Int)] w fun e w' => e = .returned (.string (fillS S n)) ∧ Below w.heap.size w w' := by
  have hmk := make_u8 n hn
  have hb0 := (Below.refl w.heap.size w).alloc (Nat.le_refl _) (.cells (u8s (List.replicate n 0)).toArray 5)
  have hbk := Bk.fresh w 5 (u8s (List.replicate n 0)).toArray
  obtain ⟨w4, hrun, hbk4, hO⟩ := copy_text (P := Tryd.prog) (w.alloc (.cells (u8s (List.replicate n 0)).toArray 5)) 38 9 3 5 Tryd.underlying38 size_u8 (some ⟨w.heap.size, 0, none⟩) w.heap.size 0 n n S (List.replicate n 0) 5 hbk _ rfl (fun _ => rfl) (by rw [List.length_take, List.length_replicate, Nat.zero_add]; exact Nat.le_trans (Nat.min_le_left _ _) (Nat.min_le_right _ _))
  have hB : Below w.heap.size w w4 := hb0.trans ⟨hO.os, hO.tape, hO.output, hO.size, fun k hk => hO.block k (by simp; omega) (by omega)⟩
  have hlen : (splice (List.replicate n (0 : UInt8)) 0 (S.data.toList.take (Nat.min S.size n))).length = n := fillS_size S n
  have hst := run_convert_bytes_back (P := Tryd.prog) w4 38 9 5 ⟨w.heap.size, 0, none⟩ n (splice (List.replicate n 0) 0 (S.data.toList.take (Nat.min S.size n))) Tryd.underlying38 Tryd.underlying5 Tryd.underlying9 (fun j hj => by
    have := hbk4.cell j
    rw [show ((⟨w.heap.size, 0, none⟩ : Addr).add j) = ⟨w.heap.size, j, none⟩ by unfold Addr.add; split <;> simp_all]
    rw [this]
    simp [u8s, List.getElem?_eq_getElem hj])
  rw [hlen] at hst
  have hfs : (ByteArray.mk (splice (List.replicate n 0) 0 (S.data.toList.take (Nat.min S.size n))).toArray) = fillS S n := rfl
  rw [hfs] at hst
  replace hB := Lib.hid hB
  clear hb0 hbk hbk4 hO hlen hfs
  go_enter Tryd.func25, Tryd.ntmps25
  go_wp2_with (fail)
  go_returns
  exact ⟨rfl, hB.out⟩
/-- the document's list in memory -/
def r8V (A : Option Addr) (u c begin here latest : Nat) : Array Value := #[.slice A u c, .int .i64 begin, .bool false, .int .i64 here, .int .i64 latest]
theorem r8new (A : Option Addr) (u c begin : Nat) (hb : begin ≤ 143360) (w : World) : Calls Tryd.prog 26 #[.slice A u c, .int .i64 (begin : Int)] w fun e w' => e = .returned (.pointer (some ⟨w.heap.size, 0, none⟩)) ∧ Bk w' w.heap.size 106 (r8V A u c begin (begin + 8) 0) ∧ Below w.heap.size w w' := by
  have hF := Bk.fresh w 106 (r8V A u c begin (begin + 8) 0)
  have hB := (Below.refl w.heap.size w).alloc (Nat.le_refl _) (.cells (r8V A u c begin (begin + 8) 0) 106)
  unfold r8V at hF hB ⊢
  have hcast : ((begin + 8 : Nat) : Int) = (begin : Int) + 8 := by omega
  rw [hcast] at hF hB ⊢
  replace hF := Lib.hid hF
  replace hB := Lib.hid hB
  have hb' : (begin : Int) ≤ 143360 := by omega
  clear hcast
  go_enter Tryd.func26, Tryd.ntmps26
  go_wp2_with (fail)
  go_returns
  exact ⟨rfl, hF.out, hB.out⟩
theorem r8to (q : Nat) (A : Option Addr) (u c begin here latest : Nat) (w : World) (hb : begin ≤ 143360) (hu : u ≤ 143360) (h : Bk w q 106 (r8V A u c begin here latest)) : Calls Tryd.prog 52 #[.pointer (some ⟨q, 0, none⟩)] w fun e w' => e = .returned (.int .i64 ((begin + u : Nat) : Int)) ∧ ∃ n, w' = w.drewN n := by
  have c0 : w.cell? ⟨q, 0, none⟩ = some (.slice A u c) := h.cell 0
  have c1 : w.cell? ⟨q, 1, none⟩ = some (.int .i64 begin) := h.cell 1
  have hb' : (begin : Int) ≤ 143360 := by omega
  have hu' : (u : Int) ≤ 143360 := by omega
  have hcast : ((begin + u : Nat) : Int) = (begin : Int) + u := by omega
  rw [hcast]
  clear h hcast
  go_enter Tryd.func52, Tryd.ntmps52
  go_wp2_with (fail)
  go_quiet (fail)
  go_wp2_with (fail)
  go_returns
  exact ⟨rfl, _, rfl⟩
set_option maxRecDepth 100000 in
set_option maxHeartbeats 4000000 in
theorem r8back_bad (q : Nat) (A : Option Addr) (u c begin here latest : Nat) (x z : Int) (w : World) (hb : begin ≤ 143360) (hu : u ≤ 143360) (h : Bk w q 106 (r8V A u c begin here latest)) (hno : ¬ backOk (begin + 8) (begin + u) x z) :
    Calls Tryd.prog 27 #[.pointer (some ⟨q, 0, none⟩), .int .i64 x, .int .i64 z] w fun e w' => e = .returned (.int .i64 1) ∧ Below w.heap.size w w' := by
  have hto0 := Lib.hid (r8to q A u c begin here latest w hb hu h)
  have hto1 := Lib.hid (fun n => r8to q A u c begin here latest (w.drewN n) hb hu (h.draws n))
  have c1 : w.cell? ⟨q, 1, none⟩ = some (.int .i64 begin) := h.cell 1
  have hb' : (begin : Int) ≤ 143360 := by omega
  have hu' : (u : Int) ≤ 143360 := by omega
  have h8 := tm8 z
  obtain ⟨y, hy⟩ : ∃ y : Nat, begin + u = y := ⟨_, rfl⟩
  rw [hy] at hto0 hto1 hno
  unfold backOk at hno
  clear h
  by_cases a1 : x < (begin : Int) + 8
  · clear hno h8 hy
    go_enter Tryd.func27, Tryd.ntmps27
    go_wp2_with (fail)
    go_returns
    exact ⟨rfl, by first | exact Below.refl _ _ | exact below_drawn (Below.refl _ _) _ | exact below_drawn (below_drawn (Below.refl _ _) _) _⟩
  · by_cases a2 : (y : Int) < x
    · clear hno h8 hy
      go_enter Tryd.func27, Tryd.ntmps27
      go_wp2_with (fail)
      refine hto0.out.mono ?_
      rintro e w1 ⟨rfl, n1, hn1⟩
      have hn1 := hn1.symm
      subst hn1
      go_wp2_with (fail)
      go_returns
      exact ⟨rfl, by first | exact Below.refl _ _ | exact below_drawn (Below.refl _ _) _ | exact below_drawn (below_drawn (Below.refl _ _) _) _⟩
    · by_cases a3 : z = 0
      · exact absurd ⟨by omega, by omega, .inl a3⟩ hno
      · have z0 : (z != 0) = true := by simpa using a3
        by_cases a4 : z.tmod 8 = 0
        · have z4 : (z.tmod 8 != 0) = false := by simpa using a4
          have z5 : (z % 8 != 0) = false := by simpa using h8.1 a4
          by_cases a5 : z < (begin : Int) + 8
          · clear hno h8 hy a3 a4
            go_enter Tryd.func27, Tryd.ntmps27
            go_wp2_with (fail)
            refine hto0.out.mono ?_
            rintro e w1 ⟨rfl, n1, hn1⟩
            have hn1 := hn1.symm
            subst hn1
            go_wp2_with (fail)
            go_returns
            exact ⟨rfl, by first | exact Below.refl _ _ | exact below_drawn (Below.refl _ _) _ | exact below_drawn (below_drawn (Below.refl _ _) _) _⟩
          · by_cases a6 : (y : Int) ≤ z
            · clear hno h8 hy a3 a4
              go_enter Tryd.func27, Tryd.ntmps27
              go_wp2_with (fail)
              refine hto0.out.mono ?_
              rintro e w1 ⟨rfl, n1, hn1⟩
              have hn1 := hn1.symm
              subst hn1
              go_wp2_with (fail)
              refine (hto1.out _).mono ?_
              rintro e w1 ⟨rfl, n2, hn2⟩
              have hn2 := hn2.symm
              subst hn2
              go_wp2_with (fail)
              go_returns
              exact ⟨rfl, by first | exact Below.refl _ _ | exact below_drawn (Below.refl _ _) _ | exact below_drawn (below_drawn (Below.refl _ _) _) _⟩
            · exact absurd ⟨by omega, by omega, .inr ⟨h8.1 a4, by omega, by omega⟩⟩ hno
        · have z4 : (z.tmod 8 != 0) = true := by simpa using a4
          clear hno h8 hy a3 a4
          go_enter Tryd.func27, Tryd.ntmps27
          go_wp2_with (fail)
          refine hto0.out.mono ?_
          rintro e w1 ⟨rfl, n1, hn1⟩
          have hn1 := hn1.symm
          subst hn1
          go_wp2_with (fail)
          go_returns
          exact ⟨rfl, by first | exact Below.refl _ _ | exact below_drawn (Below.refl _ _) _ | exact below_drawn (below_drawn (Below.refl _ _) _) _⟩
set_option maxRecDepth 100000 in
set_option maxHeartbeats 4000000 in
theorem r8back_yes (K q : Nat) (hK : K ≤ q) (A : Option Addr) (u c begin here latest : Nat) (x z : Int) (w : World) (hb : begin ≤ 143360) (hu : u ≤ 143360) (h : Bk w q 106 (r8V A u c begin here latest)) (hno : backOk (begin + 8) (begin + u) x z) :
    Calls Tryd.prog 27 #[.pointer (some ⟨q, 0, none⟩), .int .i64 x, .int .i64 z] w fun e w' => e = .returned (.int .i64 0) ∧ Below K w w' := by
  have hto0 := Lib.hid (r8to q A u c begin here latest w hb hu h)
  have hto1 := Lib.hid (fun n => r8to q A u c begin here latest (w.drewN n) hb hu (h.draws n))
  have c1 : w.cell? ⟨q, 1, none⟩ = some (.int .i64 begin) := h.cell 1
  have hb' : (begin : Int) ≤ 143360 := by omega
  have hu' : (u : Int) ≤ 143360 := by omega
  have h8 := tm8 z
  obtain ⟨y, hy⟩ : ∃ y : Nat, begin + u = y := ⟨_, rfl⟩
  rw [hy] at hto0 hto1 hno
  unfold backOk at hno
  have c3 := h.cell 3
  have f3 := h.free 3
  have c4 : w.cell? ⟨q, 4, none⟩ = some (.int .i64 latest) := h.cell 4
  have f4 := h.free 4
  simp [r8V] at c3
  clear h
  obtain ⟨b1, b2, b3⟩ := hno
  have a1 : ¬ x < (begin : Int) + 8 := by omega
  have a2 : ¬ (y : Int) < x := by omega
  rcases b3 with rfl | ⟨b3, b4, b5⟩
  · clear h8 hy b1 b2
    go_enter Tryd.func27, Tryd.ntmps27
    go_wp2_with (fail)
    refine hto0.out.mono ?_
    rintro e w1 ⟨rfl, n1, hn1⟩
    have hn1 := hn1.symm
    subst hn1
    go_wp2_with (fail)
    go_returns
    exact ⟨rfl, by first | exact ((below_drawn (Below.refl K w) _).setCell (p := ⟨q, 3, none⟩) hK _).setCell (p := ⟨q, 4, none⟩) hK _ | exact ((below_drawn (below_drawn (Below.refl K w) _) _).setCell (p := ⟨q, 3, none⟩) hK _).setCell (p := ⟨q, 4, none⟩) hK _⟩
  · have z0 : (z != 0) = true := by simp; omega
    have z4 : (z.tmod 8 != 0) = false := by simpa using h8.2 b3
    have z5 : (z % 8 != 0) = false := by simpa using b3
    have a5 : ¬ z < (begin : Int) + 8 := by omega
    have a6 : ¬ (y : Int) ≤ z := by omega
    clear h8 hy b1 b2 b3 b4 b5
    go_enter Tryd.func27, Tryd.ntmps27
    go_wp2_with (fail)
    refine hto0.out.mono ?_
    rintro e w1 ⟨rfl, n1, hn1⟩
    have hn1 := hn1.symm
    subst hn1
    go_wp2_with (fail)
    refine (hto1.out _).mono ?_
    rintro e w1 ⟨rfl, n2, hn2⟩
    have hn2 := hn2.symm
    subst hn2
    go_wp2_with (fail)
    go_returns
    exact ⟨rfl, by first | exact ((below_drawn (Below.refl K w) _).setCell (p := ⟨q, 3, none⟩) hK _).setCell (p := ⟨q, 4, none⟩) hK _ | exact ((below_drawn (below_drawn (Below.refl K w) _) _).setCell (p := ⟨q, 3, none⟩) hK _).setCell (p := ⟨q, 4, none⟩) hK _⟩
end Go.Proofs.YtpbloennjcjgoaaDoor
