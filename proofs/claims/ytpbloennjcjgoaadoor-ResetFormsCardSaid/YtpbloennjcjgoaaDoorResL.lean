import Derived.Test.YtpbloennjcjgoaaDoorResK
import Derived.Deep.RegionHeld3
namespace Go.Proofs.YtpbloennjcjgoaaDoor
open Go.RowKit
set_option linter.unusedVariables false
set_option linter.unusedSimpArgs false
theorem DiffP.one {s1 d1 r1 s2 d2 r2 : ByteArray} {k d k' d' : Int} (h : DiffP s1 d1 r1 s2 d2 r2 k d) (g : DiffP s1 d1 r1 s2 d2 r2 k' d') : k' = k ∧ d' = d := by
  unfold DiffP at h g
  rcases h with ⟨a, b, c⟩ | ⟨a, a2, b, c⟩ | ⟨a, a2, a3, b, c⟩ | ⟨a, a2, a3, b, c⟩ <;> rcases g with ⟨p, q, r⟩ | ⟨p, p2, q, r⟩ | ⟨p, p2, p3, q, r⟩ | ⟨p, p2, p3, q, r⟩ <;> first | (exfalso; simp_all; done) | exact ⟨by rw [b, q], by rw [c, r]⟩
theorem DiffP.comm {s1 d1 r1 s2 d2 r2 : ByteArray} {k d : Int} (h : DiffP s1 d1 r1 s2 d2 r2 k d) : DiffP s2 d2 r2 s1 d1 r1 k d := by
  unfold DiffP at h ⊢
  rcases h with ⟨a, b, c⟩ | ⟨a, a2, b, c⟩ | ⟨a, a2, a3, b, c⟩ | ⟨a, a2, a3, b, c⟩
  · exact .inl ⟨fun e => a e.symm, b, by rw [c, div_comm]⟩
  · exact .inr (.inl ⟨a.symm, fun e => a2 e.symm, b, by rw [c, div_comm]⟩)
  · exact .inr (.inr (.inl ⟨a.symm, a2.symm, fun e => a3 e.symm, b, by rw [c, div_comm]⟩))
  · exact .inr (.inr (.inr ⟨a.symm, a2.symm, a3.symm, b, c⟩))
theorem carry {W W' : World} {b o : Nat} {v : Value} (h : Below W.heap.size W W') (hz : b < W.heap.size) (hc : W.cell? ⟨b, o, none⟩ = some v) : W'.cell? ⟨b, o, none⟩ = some v := (h.cell (p := ⟨b, o, none⟩) hz).trans hc
theorem of_agg (s1 d1 r1 : ByteArray) (h1 l1 : Int) (w : World) : Calls Tryd.prog 12 #[.agg #[.string s1, .string d1, .string r1, .int .i64 h1, .int .i64 l1]] w fun e w' => e = .returned (.agg #[.string s1, .string d1, .string r1, .int .i64 h1, .int .i64 l1]) ∧ Below w.heap.size w w' := of_any s1 d1 r1 h1 l1 w
theorem differ_agg (s1 d1 r1 s2 d2 r2 : ByteArray) (h1 l1 h2 l2 : Int) (w : World) (z1 : s1.size ≤ maxLen) (z2 : d1.size ≤ maxLen) (z3 : r1.size ≤ maxLen) (y1 : s2.size ≤ maxLen) (y2 : d2.size ≤ maxLen) (y3 : r2.size ≤ maxLen) : Calls Tryd.prog 16 #[.agg #[.string s1, .string d1, .string r1, .int .i64 h1, .int .i64 l1], .agg #[.string s2, .string d2, .string r2, .int .i64 h2, .int .i64 l2]] w fun e w' => ∃ k d, e = .returned (.tuple #[.int .i64 k, .int .i64 d]) ∧ DiffP s1 d1 r1 s2 d2 r2 k d ∧ Below w.heap.size w w' := differ_any s1 d1 r1 s2 d2 r2 h1 l1 h2 l2 w z1 z2 z3 y1 y2 y3
theorem rdiffer_agg (s1 d1 r1 s2 d2 r2 : ByteArray) (h1 l1 h2 l2 : Int) (w : World) (z1 : s1.size ≤ maxLen) (z2 : d1.size ≤ maxLen) (z3 : r1.size ≤ maxLen) (y1 : s2.size ≤ maxLen) (y2 : d2.size ≤ maxLen) (y3 : r2.size ≤ maxLen) : Calls Tryd.prog 17 #[.agg #[.string s1, .string d1, .string r1, .int .i64 h1, .int .i64 l1], .agg #[.string s2, .string d2, .string r2, .int .i64 h2, .int .i64 l2]] w fun e w' => ∃ k d, e = .returned (.tuple #[.int .i64 k, .int .i64 d]) ∧ DiffP s1 d1 r1 s2 d2 r2 k d ∧ Below w.heap.size w w' := rdiffer_any s1 d1 r1 s2 d2 r2 h1 l1 h2 l2 w z1 z2 z3 y1 y2 y3
theorem same_agg (s1 d1 r1 s2 d2 r2 : ByteArray) (h1 l1 h2 l2 : Int) (w : World) (b : Bool) (hb : b = true ∧ (s1 = s2 ∧ d1 = d2 ∧ r1 = r2 ∧ h1 = h2 ∧ l1 = l2) ∨ b = false ∧ ¬ (s1 = s2 ∧ d1 = d2 ∧ r1 = r2 ∧ h1 = h2 ∧ l1 = l2)) : Calls Tryd.prog 18 #[.agg #[.string s1, .string d1, .string r1, .int .i64 h1, .int .i64 l1], .agg #[.string s2, .string d2, .string r2, .int .i64 h2, .int .i64 l2]] w fun e w' => e = .returned (.bool b) ∧ Below w.heap.size w w' := same_any s1 d1 r1 s2 d2 r2 h1 l1 h2 l2 w b hb
/-- the two states that the law holds -/
def Tt (w W : World) (s1 d1 r1 s2 d2 r2 : ByteArray) (h1 l1 h2 l2 : Int) : Prop := (W.cell? ⟨w.heap.size, 0, none⟩ = some (.string s1) ∧ W.cell? ⟨w.heap.size, 1, none⟩ = some (.string d1) ∧ W.cell? ⟨w.heap.size, 2, none⟩ = some (.string r1) ∧ W.cell? ⟨w.heap.size, 3, none⟩ = some (.int .i64 h1) ∧ W.cell? ⟨w.heap.size, 4, none⟩ = some (.int .i64 l1) ∧ W.cell? ⟨w.heap.size + 1, 0, none⟩ = some (.string s2) ∧ W.cell? ⟨w.heap.size + 1, 1, none⟩ = some (.string d2) ∧ W.cell? ⟨w.heap.size + 1, 2, none⟩ = some (.string r2) ∧ W.cell? ⟨w.heap.size + 1, 3, none⟩ = some (.int .i64 h2) ∧ W.cell? ⟨w.heap.size + 1, 4, none⟩ = some (.int .i64 l2)) ∧ Below w.heap.size w W ∧ w.heap.size + 1 < W.heap.size
theorem Tt.on {w W W' : World} {s1 d1 r1 s2 d2 r2 : ByteArray} {h1 l1 h2 l2 : Int} (h : Tt w W s1 d1 r1 s2 d2 r2 h1 l1 h2 l2) (hb : Below W.heap.size W W') : Tt w W' s1 d1 r1 s2 d2 r2 h1 l1 h2 l2 := by
  obtain ⟨⟨c0, c1, c2, c3, c4, c5, c6, c7, c8, c9⟩, hB, hz⟩ := h
  exact ⟨⟨carry hb (by omega) c0, carry hb (by omega) c1, carry hb (by omega) c2, carry hb (by omega) c3, carry hb (by omega) c4, carry hb (by omega) c5, carry hb (by omega) c6, carry hb (by omega) c7, carry hb (by omega) c8, carry hb (by omega) c9⟩, hB.trans (hb.mono (by omega)), Nat.lt_of_lt_of_le hz hb.size⟩
theorem tt_start (w : World) (s1 d1 r1 s2 d2 r2 : ByteArray) (h1 l1 h2 l2 : Int) : Tt w ((w.alloc (.cells #[.string s1, .string d1, .string r1, .int .i64 h1, .int .i64 l1] 23)).alloc (.cells #[.string s2, .string d2, .string r2, .int .i64 h2, .int .i64 l2] 23)) s1 d1 r1 s2 d2 r2 h1 l1 h2 l2 := by
  have hK1 := (Bk.fresh w 23 #[.string s1, .string d1, .string r1, .int .i64 h1, .int .i64 l1]).past (.cells #[.string s2, .string d2, .string r2, .int .i64 h2, .int .i64 l2] 23)
  have hK2 := Bk.fresh (w.alloc (.cells #[.string s1, .string d1, .string r1, .int .i64 h1, .int .i64 l1] 23)) 23 #[.string s2, .string d2, .string r2, .int .i64 h2, .int .i64 l2]
  have hB := ((Below.refl w.heap.size w).alloc (Nat.le_refl _) (.cells #[.string s1, .string d1, .string r1, .int .i64 h1, .int .i64 l1] 23)).alloc (by simp) (.cells #[.string s2, .string d2, .string r2, .int .i64 h2, .int .i64 l2] 23)
  simp only [World.size_alloc] at hK2
  exact ⟨⟨hK1.cell 0, hK1.cell 1, hK1.cell 2, hK1.cell 3, hK1.cell 4, hK2.cell 0, hK2.cell 1, hK2.cell 2, hK2.cell 3, hK2.cell 4⟩, hB, by simp⟩
set_option maxHeartbeats 4000000 in
set_option maxRecDepth 100000 in
theorem walk_differs (s1 d1 r1 s2 d2 r2 : ByteArray) (h1 l1 h2 l2 : Int) (w : World) (hM : Mark w) (z1 : s1.size ≤ maxLen) (z2 : d1.size ≤ maxLen) (z3 : r1.size ≤ maxLen) (y1 : s2.size ≤ maxLen) (y2 : d2.size ≤ maxLen) (y3 : r2.size ≤ maxLen) :
    Calls Tryd.prog 5 #[.agg #[.string s1, .string d1, .string r1, .int .i64 h1, .int .i64 l1], .agg #[.string s2, .string d2, .string r2, .int .i64 h2, .int .i64 l2]] w fun e w' => e = .returned (.bool true) ∧ Below w.heap.size w w' := by
  have hT0 := tt_start w s1 d1 r1 s2 d2 r2 h1 l1 h2 l2
  obtain ⟨w0, hw0⟩ : ∃ w0, (w.alloc (.cells #[.string s1, .string d1, .string r1, .int .i64 h1, .int .i64 l1] 23)).alloc (.cells #[.string s2, .string d2, .string r2, .int .i64 h2, .int .i64 l2] 23) = w0 := ⟨_, rfl⟩
  rw [hw0] at hT0
  replace hM := Lib.hid hM
  go_enter Tryd.func5, Tryd.ntmps5
  go_wp2_with (fail)
  clear hw0
  refine (shown_any w0 (hM.out.kept hT0.2.1 hM.out.1)).mono ?_
  rintro e w1 ⟨rfl, hb⟩
  replace hT0 := hT0.on hb
  clear hb
  obtain ⟨⟨c0, c1, c2, c3, c4, c5, c6, c7, c8, c9⟩, hB, hz⟩ := id hT0
  replace hT0 := Lib.hid hT0
  go_wp2_with (fail)
  refine (differ_agg s1 d1 r1 s2 d2 r2 h1 l1 h2 l2 w1 z1 z2 z3 y1 y2 y3).mono ?_
  rintro e w2 ⟨k, d, rfl, hD, hb⟩
  replace hT0 := hT0.out.on hb
  clear hb c0 c1 c2 c3 c4 c5 c6 c7 c8 c9 hB hz
  obtain ⟨⟨c0, c1, c2, c3, c4, c5, c6, c7, c8, c9⟩, hB, hz⟩ := id hT0
  replace hT0 := Lib.hid hT0
  replace hD := Lib.hid hD
  go_wp2_with (fail)
  go_region_held3 (fun w' => w'.cell? ⟨w.heap.size, 0, none⟩ = some (.string s1) ∧ w'.cell? ⟨w.heap.size, 1, none⟩ = some (.string d1) ∧ w'.cell? ⟨w.heap.size, 2, none⟩ = some (.string r1) ∧ w'.cell? ⟨w.heap.size, 3, none⟩ = some (.int .i64 h1) ∧ w'.cell? ⟨w.heap.size, 4, none⟩ = some (.int .i64 l1) ∧ w'.cell? ⟨w.heap.size + 1, 0, none⟩ = some (.string s2) ∧ w'.cell? ⟨w.heap.size + 1, 1, none⟩ = some (.string d2) ∧ w'.cell? ⟨w.heap.size + 1, 2, none⟩ = some (.string r2) ∧ w'.cell? ⟨w.heap.size + 1, 3, none⟩ = some (.int .i64 h2) ∧ w'.cell? ⟨w.heap.size + 1, 4, none⟩ = some (.int .i64 l2)) ((simp [go_sem, *]))
    (first
      | (go_at_call 12; (with_reducible refine (of_agg s1 d1 r1 h1 l1 _).mono ?_); rintro e w1 ⟨rfl, hb1⟩; have hz1 : w.heap.size + 1 < w1.heap.size := (by have := hb1.size; (try simp only [World.size_drew] at this); omega); have hB1 : Below w.heap.size w w1 := Below.trans (by first | assumption | (refine Below.drew ?_; assumption)) (hb1.mono (by first | omega | (simp only [World.size_drew]; omega))); have kS : w1.cell? ⟨w.heap.size, 0, none⟩ = some (.string s1) ∧ w1.cell? ⟨w.heap.size, 1, none⟩ = some (.string d1) ∧ w1.cell? ⟨w.heap.size, 2, none⟩ = some (.string r1) ∧ w1.cell? ⟨w.heap.size, 3, none⟩ = some (.int .i64 h1) ∧ w1.cell? ⟨w.heap.size, 4, none⟩ = some (.int .i64 l1) ∧ w1.cell? ⟨w.heap.size + 1, 0, none⟩ = some (.string s2) ∧ w1.cell? ⟨w.heap.size + 1, 1, none⟩ = some (.string d2) ∧ w1.cell? ⟨w.heap.size + 1, 2, none⟩ = some (.string r2) ∧ w1.cell? ⟨w.heap.size + 1, 3, none⟩ = some (.int .i64 h2) ∧ w1.cell? ⟨w.heap.size + 1, 4, none⟩ = some (.int .i64 l2) := by (refine ⟨?_, ?_, ?_, ?_, ?_, ?_, ?_, ?_, ?_, ?_⟩ <;> (refine carry hb1 (by first | omega | (simp only [World.size_drew]; omega)) ?_; simp [go_sem, *])))
      | (go_at_call 12; (with_reducible refine (of_agg s2 d2 r2 h2 l2 _).mono ?_); rintro e w1 ⟨rfl, hb1⟩; have hz1 : w.heap.size + 1 < w1.heap.size := (by have := hb1.size; (try simp only [World.size_drew] at this); omega); have hB1 : Below w.heap.size w w1 := Below.trans (by first | assumption | (refine Below.drew ?_; assumption)) (hb1.mono (by first | omega | (simp only [World.size_drew]; omega))); have kS : w1.cell? ⟨w.heap.size, 0, none⟩ = some (.string s1) ∧ w1.cell? ⟨w.heap.size, 1, none⟩ = some (.string d1) ∧ w1.cell? ⟨w.heap.size, 2, none⟩ = some (.string r1) ∧ w1.cell? ⟨w.heap.size, 3, none⟩ = some (.int .i64 h1) ∧ w1.cell? ⟨w.heap.size, 4, none⟩ = some (.int .i64 l1) ∧ w1.cell? ⟨w.heap.size + 1, 0, none⟩ = some (.string s2) ∧ w1.cell? ⟨w.heap.size + 1, 1, none⟩ = some (.string d2) ∧ w1.cell? ⟨w.heap.size + 1, 2, none⟩ = some (.string r2) ∧ w1.cell? ⟨w.heap.size + 1, 3, none⟩ = some (.int .i64 h2) ∧ w1.cell? ⟨w.heap.size + 1, 4, none⟩ = some (.int .i64 l2) := by (refine ⟨?_, ?_, ?_, ?_, ?_, ?_, ?_, ?_, ?_, ?_⟩ <;> (refine carry hb1 (by first | omega | (simp only [World.size_drew]; omega)) ?_; simp [go_sem, *])))
      | (go_at_call 17; (with_reducible refine (rdiffer_agg s1 d1 r1 s2 d2 r2 h1 l1 h2 l2 _ z1 z2 z3 y1 y2 y3).mono ?_); rintro e w1 ⟨k2, d2', rfl, hD2, hb1⟩; have hz1 : w.heap.size + 1 < w1.heap.size := (by have := hb1.size; (try simp only [World.size_drew] at this); omega); have hB1 : Below w.heap.size w w1 := Below.trans (by first | assumption | (refine Below.drew ?_; assumption)) (hb1.mono (by first | omega | (simp only [World.size_drew]; omega))); have kS : w1.cell? ⟨w.heap.size, 0, none⟩ = some (.string s1) ∧ w1.cell? ⟨w.heap.size, 1, none⟩ = some (.string d1) ∧ w1.cell? ⟨w.heap.size, 2, none⟩ = some (.string r1) ∧ w1.cell? ⟨w.heap.size, 3, none⟩ = some (.int .i64 h1) ∧ w1.cell? ⟨w.heap.size, 4, none⟩ = some (.int .i64 l1) ∧ w1.cell? ⟨w.heap.size + 1, 0, none⟩ = some (.string s2) ∧ w1.cell? ⟨w.heap.size + 1, 1, none⟩ = some (.string d2) ∧ w1.cell? ⟨w.heap.size + 1, 2, none⟩ = some (.string r2) ∧ w1.cell? ⟨w.heap.size + 1, 3, none⟩ = some (.int .i64 h2) ∧ w1.cell? ⟨w.heap.size + 1, 4, none⟩ = some (.int .i64 l2) := by (refine ⟨?_, ?_, ?_, ?_, ?_, ?_, ?_, ?_, ?_, ?_⟩ <;> (refine carry hb1 (by first | omega | (simp only [World.size_drew]; omega)) ?_; simp [go_sem, *]))))
  all_goals (
    obtain ⟨e1, e2⟩ := hD.out.one hD2
    subst e1
    subst e2
    have hT1 : Tt w w1 s1 d1 r1 s2 d2 r2 h1 l1 h2 l2 := ⟨kS, hB1, hz1⟩
    clear kS hB1 hz1 hD2 hb1 hT0
    clear c0 c1 c2 c3 c4 c5 c6 c7 c8 c9 hB hz
    obtain ⟨⟨c0, c1, c2, c3, c4, c5, c6, c7, c8, c9⟩, hB, hz⟩ := id hT1
    replace hT1 := Lib.hid hT1
    go_wp2_with (fail)
    refine (differ_agg s2 d2 r2 s1 d1 r1 h2 l2 h1 l1 w1 y1 y2 y3 z1 z2 z3).mono ?_
    rintro e w4 ⟨k3, d3, rfl, hD3, hb⟩
    obtain ⟨e1, e2⟩ := hD.out.one hD3.comm
    subst e1
    subst e2
    replace hT1 := hT1.out.on hb
    clear hb c0 c1 c2 c3 c4 c5 c6 c7 c8 c9 hB hz hD3
    obtain ⟨⟨c0, c1, c2, c3, c4, c5, c6, c7, c8, c9⟩, hB, hz⟩ := id hT1
    replace hT1 := Lib.hid hT1
    obtain ⟨b, hbb⟩ : ∃ b : Bool, b = true ∧ (s1 = s2 ∧ d1 = d2 ∧ r1 = r2 ∧ h1 = h2 ∧ l1 = l2) ∨ b = false ∧ ¬ (s1 = s2 ∧ d1 = d2 ∧ r1 = r2 ∧ h1 = h2 ∧ l1 = l2) := by
      by_cases g : s1 = s2 ∧ d1 = d2 ∧ r1 = r2 ∧ h1 = h2 ∧ l1 = l2
      · exact ⟨true, .inl ⟨rfl, g⟩⟩
      · exact ⟨false, .inr ⟨rfl, g⟩⟩
    have heq := fun w => eql_a 30 (.inr rfl) s1 d1 r1 s2 d2 r2 h1 l1 h2 l2 w b hbb
    unfold stateV at heq
    replace hbb := Lib.hid hbb
    go_wp2_with (fail)
    go_region_held3 (fun w' => w'.cell? ⟨w.heap.size, 0, none⟩ = some (.string s1) ∧ w'.cell? ⟨w.heap.size, 1, none⟩ = some (.string d1) ∧ w'.cell? ⟨w.heap.size, 2, none⟩ = some (.string r1) ∧ w'.cell? ⟨w.heap.size, 3, none⟩ = some (.int .i64 h1) ∧ w'.cell? ⟨w.heap.size, 4, none⟩ = some (.int .i64 l1) ∧ w'.cell? ⟨w.heap.size + 1, 0, none⟩ = some (.string s2) ∧ w'.cell? ⟨w.heap.size + 1, 1, none⟩ = some (.string d2) ∧ w'.cell? ⟨w.heap.size + 1, 2, none⟩ = some (.string r2) ∧ w'.cell? ⟨w.heap.size + 1, 3, none⟩ = some (.int .i64 h2) ∧ w'.cell? ⟨w.heap.size + 1, 4, none⟩ = some (.int .i64 l2)) ((simp [go_sem, *]))
      (first
        | (go_at_call 18; (with_reducible refine (same_agg s1 d1 r1 s2 d2 r2 h1 l1 h2 l2 _ b hbb.out).mono ?_); rintro e w1 ⟨rfl, hb1⟩; have hz1 : w.heap.size + 1 < w1.heap.size := (by have := hb1.size; (try simp only [World.size_drew] at this); omega); have hB1 : Below w.heap.size w w1 := Below.trans (by first | assumption | (refine Below.drew ?_; assumption)) (hb1.mono (by first | omega | (simp only [World.size_drew]; omega))); have kS : w1.cell? ⟨w.heap.size, 0, none⟩ = some (.string s1) ∧ w1.cell? ⟨w.heap.size, 1, none⟩ = some (.string d1) ∧ w1.cell? ⟨w.heap.size, 2, none⟩ = some (.string r1) ∧ w1.cell? ⟨w.heap.size, 3, none⟩ = some (.int .i64 h1) ∧ w1.cell? ⟨w.heap.size, 4, none⟩ = some (.int .i64 l1) ∧ w1.cell? ⟨w.heap.size + 1, 0, none⟩ = some (.string s2) ∧ w1.cell? ⟨w.heap.size + 1, 1, none⟩ = some (.string d2) ∧ w1.cell? ⟨w.heap.size + 1, 2, none⟩ = some (.string r2) ∧ w1.cell? ⟨w.heap.size + 1, 3, none⟩ = some (.int .i64 h2) ∧ w1.cell? ⟨w.heap.size + 1, 4, none⟩ = some (.int .i64 l2) := by (refine ⟨?_, ?_, ?_, ?_, ?_, ?_, ?_, ?_, ?_, ?_⟩ <;> (refine carry hb1 (by first | omega | (simp only [World.size_drew]; omega)) ?_; simp [go_sem, *])))
        | (go_at_call 12; (with_reducible refine (of_agg s1 d1 r1 h1 l1 _).mono ?_); rintro e w1 ⟨rfl, hb1⟩; have hz1 : w.heap.size + 1 < w1.heap.size := (by have := hb1.size; (try simp only [World.size_drew] at this); omega); have hB1 : Below w.heap.size w w1 := Below.trans (by first | assumption | (refine Below.drew ?_; assumption)) (hb1.mono (by first | omega | (simp only [World.size_drew]; omega))); have kS : w1.cell? ⟨w.heap.size, 0, none⟩ = some (.string s1) ∧ w1.cell? ⟨w.heap.size, 1, none⟩ = some (.string d1) ∧ w1.cell? ⟨w.heap.size, 2, none⟩ = some (.string r1) ∧ w1.cell? ⟨w.heap.size, 3, none⟩ = some (.int .i64 h1) ∧ w1.cell? ⟨w.heap.size, 4, none⟩ = some (.int .i64 l1) ∧ w1.cell? ⟨w.heap.size + 1, 0, none⟩ = some (.string s2) ∧ w1.cell? ⟨w.heap.size + 1, 1, none⟩ = some (.string d2) ∧ w1.cell? ⟨w.heap.size + 1, 2, none⟩ = some (.string r2) ∧ w1.cell? ⟨w.heap.size + 1, 3, none⟩ = some (.int .i64 h2) ∧ w1.cell? ⟨w.heap.size + 1, 4, none⟩ = some (.int .i64 l2) := by (refine ⟨?_, ?_, ?_, ?_, ?_, ?_, ?_, ?_, ?_, ?_⟩ <;> (refine carry hb1 (by first | omega | (simp only [World.size_drew]; omega)) ?_; simp [go_sem, *])))
        | (go_at_call 12; (with_reducible refine (of_agg s2 d2 r2 h2 l2 _).mono ?_); rintro e w1 ⟨rfl, hb1⟩; have hz1 : w.heap.size + 1 < w1.heap.size := (by have := hb1.size; (try simp only [World.size_drew] at this); omega); have hB1 : Below w.heap.size w w1 := Below.trans (by first | assumption | (refine Below.drew ?_; assumption)) (hb1.mono (by first | omega | (simp only [World.size_drew]; omega))); have kS : w1.cell? ⟨w.heap.size, 0, none⟩ = some (.string s1) ∧ w1.cell? ⟨w.heap.size, 1, none⟩ = some (.string d1) ∧ w1.cell? ⟨w.heap.size, 2, none⟩ = some (.string r1) ∧ w1.cell? ⟨w.heap.size, 3, none⟩ = some (.int .i64 h1) ∧ w1.cell? ⟨w.heap.size, 4, none⟩ = some (.int .i64 l1) ∧ w1.cell? ⟨w.heap.size + 1, 0, none⟩ = some (.string s2) ∧ w1.cell? ⟨w.heap.size + 1, 1, none⟩ = some (.string d2) ∧ w1.cell? ⟨w.heap.size + 1, 2, none⟩ = some (.string r2) ∧ w1.cell? ⟨w.heap.size + 1, 3, none⟩ = some (.int .i64 h2) ∧ w1.cell? ⟨w.heap.size + 1, 4, none⟩ = some (.int .i64 l2) := by (refine ⟨?_, ?_, ?_, ?_, ?_, ?_, ?_, ?_, ?_, ?_⟩ <;> (refine carry hb1 (by first | omega | (simp only [World.size_drew]; omega)) ?_; simp [go_sem, *]))))
    all_goals (go_wp2_with (fail))
    all_goals go_returns
    all_goals exact ⟨rfl, hB1⟩)
end Go.Proofs.YtpbloennjcjgoaaDoor
