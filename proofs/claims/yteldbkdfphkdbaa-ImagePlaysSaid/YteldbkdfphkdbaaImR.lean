import Derived.Test.YteldbkdfphkdbaaImF
import Derived.StillTailTactics
namespace Go.Proofs.Yteldbkdfphkdbaa
open Go.RowKit
set_option linter.unusedVariables false
set_option linter.unusedSimpArgs false
/-! the document's image -/
def rimV (L : Lay) (b : Nat) (o s : Bool) : Array Value := #[.int .i64 L.k, .int .i64 L.s, .int .i64 L.u, .int .i64 L.d, .int .i64 L.r, .slice (some ⟨b, 0, none⟩) L.b6 L.b6, .bool o, .bool s]
structure RIm (W : World) (p b : Nat) (L : Lay) (B : List UInt8) (o s : Bool) : Prop where
  ok : L.ok
  st : Bk W p 81 (rimV L b o s)
  by_ : Bk W b 5 (u8s B).toArray
  len : B.length = L.b6
section
variable {W W' : World} {p b : Nat} {L : Lay} {B : List UInt8} {o s : Bool}
theorem RIm.ne (h : RIm W p b L B o s) : p ≠ b := h.st.ne h.by_ (by decide)
theorem RIm.draws (h : RIm W p b L B o s) (n : Nat) : RIm (W.drewN n) p b L B o s := ⟨h.ok, h.st.draws n, h.by_.draws n, h.len⟩
theorem RIm.bel (h : RIm W p b L B o s) (hb : Below W.heap.size W W') : RIm W' p b L B o s := ⟨h.ok, h.st.kept hb h.st.lt, h.by_.kept hb h.by_.lt, h.len⟩
theorem RIm.only (h : RIm W p b L B o s) {g : Nat} (hb : Only g W W') (h1 : p ≠ g) (h2 : b ≠ g) : RIm W' p b L B o s := ⟨h.ok, hb.bk h.st h1, hb.bk h.by_ h2, h.len⟩
end
theorem rfits_yes (n a b : Int) (w : World) (h : sizeOk n a b) (ha : 0 ≤ a) : Calls Try.prog 57 #[.int .i64 n, .int .i64 a, .int .i64 b] w fun e w' => e = .returned (.bool true) ∧ w' = w := by
  obtain ⟨h1, h2, h3⟩ := h
  have h0 : 0 ≤ n := by omega
  have q1 : decide (a ≤ n) = true := decide_eq_true h1
  have q2 : decide (n ≤ b) = true := decide_eq_true h2
  have q3 : (n % 8 == 0) = true := beq_iff_eq.2 h3
  replace h3 := Lib.hid h3
  go_enter Try.func57, Try.ntmps57
  go_wp2
  go_returns
  exact ⟨rfl, rfl⟩
theorem rfits_no (n a b : Int) (w : World) (h : ¬ sizeOk n a b) (ha : 0 ≤ a) : Calls Try.prog 57 #[.int .i64 n, .int .i64 a, .int .i64 b] w fun e w' => e = .returned (.bool false) ∧ w' = w := by
  by_cases h1 : a ≤ n
  · have h0 : 0 ≤ n := by omega
    have q1 : decide (a ≤ n) = true := decide_eq_true h1
    by_cases h2 : n ≤ b
    · have q2 : decide (n ≤ b) = true := decide_eq_true h2
      have q3 : (n % 8 == 0) = false := beq_eq_false_iff_ne.2 fun e => h ⟨h1, h2, e⟩
      replace h := Lib.hid h
      go_enter Try.func57, Try.ntmps57
      go_wp2
      go_returns
      exact ⟨rfl, rfl⟩
    · have q2 : decide (n ≤ b) = false := decide_eq_false h2
      clear h
      go_enter Try.func57, Try.ntmps57
      go_wp2
      go_returns
      exact ⟨rfl, rfl⟩
  · have q1 : decide (a ≤ n) = false := decide_eq_false h1
    clear h
    go_enter Try.func57, Try.ntmps57
    go_wp2
    go_returns
    exact ⟨rfl, rfl⟩
set_option maxHeartbeats 2000000 in
theorem rFits_yes (k s u d r : Int) (w : World) (h : layOk k s u d r) : Calls Try.prog 41 #[layV k s u d r] w fun e w' => e = .returned (.bool true) ∧ Below w.heap.size w w' := by
  obtain ⟨h1, h2, h3, h4, h5⟩ := h
  have r1 := Lib.hid (fun W => rfits_yes _ _ _ W h1 (by decide))
  have r2 := Lib.hid (fun W => rfits_yes _ _ _ W h2 (by decide))
  have r3 := Lib.hid (fun W => rfits_yes _ _ _ W h3 (by decide))
  have r4 := Lib.hid (fun W => rfits_yes _ _ _ W h4 (by decide))
  have r5 := Lib.hid (fun W => rfits_yes _ _ _ W h5 (by decide))
  clear h1 h2 h3 h4 h5
  unfold layV
  go_enter Try.func41, Try.ntmps41
  go_wp2_with (fail)
  refine (r1.out _).mono ?_
  rintro e w1 ⟨rfl, rfl⟩
  go_wp2_with (fail)
  refine (r2.out _).mono ?_
  rintro e w2 ⟨rfl, rfl⟩
  go_wp2_with (fail)
  refine (r3.out _).mono ?_
  rintro e w3 ⟨rfl, rfl⟩
  go_wp2_with (fail)
  refine (r4.out _).mono ?_
  rintro e w4 ⟨rfl, rfl⟩
  go_wp2_with (fail)
  refine (r5.out _).mono ?_
  rintro e w5 ⟨rfl, rfl⟩
  go_wp2_with (fail)
  go_returns
  exact ⟨rfl, (Below.refl _ _).alloc (Nat.le_refl _) _⟩
set_option maxHeartbeats 4000000 in
theorem rFits_no (k s u d r : Int) (w : World) (h : ¬ layOk k s u d r) : Calls Try.prog 41 #[layV k s u d r] w fun e w' => e = .returned (.bool false) ∧ Below w.heap.size w w' := by
  have key : ∀ n a b : Int, 0 ≤ a → ∃ f : Bool, (f = true ∧ sizeOk n a b ∨ f = false ∧ ¬ sizeOk n a b) ∧ ∀ W, Calls Try.prog 57 #[.int .i64 n, .int .i64 a, .int .i64 b] W fun e w' => e = .returned (.bool f) ∧ w' = W := fun n a b ha => by
    by_cases g : sizeOk n a b
    · exact ⟨true, .inl ⟨rfl, g⟩, fun W => rfits_yes n a b W g ha⟩
    · exact ⟨false, .inr ⟨rfl, g⟩, fun W => rfits_no n a b W g ha⟩
  obtain ⟨f1, g1, r1⟩ := key k 16384 65536 (by decide)
  obtain ⟨f2, g2, r2⟩ := key s 0 4096 (by decide)
  obtain ⟨f3, g3, r3⟩ := key u 256 65536 (by decide)
  obtain ⟨f4, g4, r4⟩ := key d 64 4096 (by decide)
  obtain ⟨f5, g5, r5⟩ := key r 64 4096 (by decide)
  have hc : f1 = false ∨ f1 = true ∧ f2 = false ∨ f1 = true ∧ f2 = true ∧ f3 = false ∨ f1 = true ∧ f2 = true ∧ f3 = true ∧ f4 = false ∨ f1 = true ∧ f2 = true ∧ f3 = true ∧ f4 = true ∧ f5 = false := by
    unfold layOk at h
    cases f1 <;> cases f2 <;> cases f3 <;> cases f4 <;> cases f5 <;> simp_all
  clear h key g1 g2 g3 g4 g5
  replace r1 := Lib.hid r1
  replace r2 := Lib.hid r2
  replace r3 := Lib.hid r3
  replace r4 := Lib.hid r4
  replace r5 := Lib.hid r5
  unfold layV
  rcases hc with rfl | ⟨rfl, rfl⟩ | ⟨rfl, rfl, rfl⟩ | ⟨rfl, rfl, rfl, rfl⟩ | ⟨rfl, rfl, rfl, rfl, rfl⟩
  all_goals (
    go_enter Try.func41, Try.ntmps41
    go_wp2_with (fail)
    refine (r1.out _).mono ?_
    rintro e w1 ⟨rfl, rfl⟩
    go_wp2_with (fail))
  · go_returns
    exact ⟨rfl, (Below.refl _ _).alloc (Nat.le_refl _) _⟩
  all_goals (
    refine (r2.out _).mono ?_
    rintro e w1 ⟨rfl, rfl⟩
    go_wp2_with (fail))
  · go_returns
    exact ⟨rfl, (Below.refl _ _).alloc (Nat.le_refl _) _⟩
  all_goals (
    refine (r3.out _).mono ?_
    rintro e w1 ⟨rfl, rfl⟩
    go_wp2_with (fail))
  · go_returns
    exact ⟨rfl, (Below.refl _ _).alloc (Nat.le_refl _) _⟩
  all_goals (
    refine (r4.out _).mono ?_
    rintro e w1 ⟨rfl, rfl⟩
    go_wp2_with (fail))
  · go_returns
    exact ⟨rfl, (Below.refl _ _).alloc (Nat.le_refl _) _⟩
  all_goals (
    refine (r5.out _).mono ?_
    rintro e w1 ⟨rfl, rfl⟩
    go_wp2_with (fail))
  · go_returns
    exact ⟨rfl, (Below.refl _ _).alloc (Nat.le_refl _) _⟩
theorem rnew_no (k s u d r : Int) (w : World) (h : ¬ layOk k s u d r) : Calls Try.prog 12 #[layV k s u d r] w fun e w' => e = .returned (.tuple #[.pointer none, .bool false]) ∧ Below w.heap.size w w' := by
  have hF := Lib.hid (fun W => rFits_no k s u d r W h)
  clear h
  unfold layV at hF ⊢
  go_enter Try.func12, Try.ntmps12
  go_wp2_with (fail)
  refine (hF.out _).mono ?_
  rintro e w1 ⟨rfl, hb⟩
  go_wp2_with (fail)
  go_returns
  exact ⟨rfl, ((Below.refl w.heap.size w).alloc (Nat.le_refl _) _).trans (hb.mono (by simp))⟩
set_option maxRecDepth 100000 in
set_option maxHeartbeats 4000000 in
theorem rnew_yes (L : Lay) (h : L.ok) (w : World) : Calls Try.prog 12 #[layV L.k L.s L.u L.d L.r] w fun e w' => ∃ p b, e = .returned (.tuple #[.pointer (some ⟨p, 0, none⟩), .bool true]) ∧ RIm w' p b L (List.replicate L.b6 0) false false ∧ w.heap.size ≤ p ∧ w.heap.size ≤ b ∧ Below w.heap.size w w' := by
  obtain ⟨ti, hti, htz, hts, htb⟩ := info_parts info_u8
  have hF := Lib.hid (fun W => rFits_yes L.k L.s L.u L.d L.r W (by unfold Lay.ok at h; unfold layOk sizeOk; omega))
  have m := Lay.mono h
  have e3 : (L.k : Int) + L.s = L.b3 := rfl
  have e4 : (L.b3 : Int) + L.u = L.b4 := rfl
  have e5 : (L.b4 : Int) + L.d = L.b5 := rfl
  have e6 : (L.b5 : Int) + L.r = L.b6 := rfl
  have w3 : IntKind.i64.wrap ((L.k : Int) + L.s) = L.b3 := by rw [e3, IntKind.wrap_i64]; omega
  have w4 : IntKind.i64.wrap ((L.b3 : Int) + L.u) = L.b4 := by rw [e4, IntKind.wrap_i64]; omega
  have w5 : IntKind.i64.wrap ((L.b4 : Int) + L.d) = L.b5 := by rw [e5, IntKind.wrap_i64]; omega
  have w6 : IntKind.i64.wrap ((L.b5 : Int) + L.r) = L.b6 := by rw [e6, IntKind.wrap_i64]; omega
  have x3 : IntKind.i64.wrap (L.b3 : Int) = L.b3 := by rw [IntKind.wrap_i64]; omega
  have x4 : IntKind.i64.wrap (L.b4 : Int) = L.b4 := by rw [IntKind.wrap_i64]; omega
  have x5 : IntKind.i64.wrap (L.b5 : Int) = L.b5 := by rw [IntKind.wrap_i64]; omega
  have x6 : IntKind.i64.wrap (L.b6 : Int) = L.b6 := by rw [IntKind.wrap_i64]; omega
  have hmk : ∀ W : World, (Instr.makeSlice 76 (.int .i64 (L.b6 : Int)) (.int .i64 (L.b6 : Int))).run Try.prog W = .ok (.slice (some ⟨W.heap.size, 0, none⟩) L.b6 L.b6) (W.alloc (.cells (u8s (List.replicate L.b6 0)).toArray 5)) := fun W => by
    have h := run_make (P := Try.prog) W 76 5 ti (.int .u8 0) Try.underlying76 hti htz .i64 .i64 (L.b6 : Int) (L.b6 : Int) (by omega) (Int.le_refl _) (by rw [htb]; omega) (by omega)
    rw [hts, Int.toNat_natCast, made_u8] at h
    exact h
  clear e3 e4 e5 e6
  unfold layV at hF ⊢
  go_enter Try.func12, Try.ntmps12
  go_wp2_with (fail)
  refine (hF.out _).mono ?_
  rintro e w1 ⟨rfl, hb⟩
  have hK := (Bk.fresh w 23 #[.int .i64 L.k, .int .i64 L.s, .int .i64 L.u, .int .i64 L.d, .int .i64 L.r]).kept hb (by simp)
  have hB := ((Below.refl w.heap.size w).alloc (Nat.le_refl _) (.cells #[.int .i64 L.k, .int .i64 L.s, .int .i64 L.u, .int .i64 L.d, .int .i64 L.r] 23)).trans (hb.mono (by simp))
  clear hb
  have c0 := hK.cell 0
  have c1 := hK.cell 1
  have c2 := hK.cell 2
  have c3 := hK.cell 3
  have c4 := hK.cell 4
  simp at c0 c1 c2 c3 c4
  clear hK
  go_wp2_with (fail)
  obtain ⟨q, hq⟩ : ∃ q, w.heap.size = q := ⟨_, rfl⟩
  rw [hq] at c0 c1 c2 c3 c4 ⊢
  have hqw : w.heap.size ≤ w1.heap.size := hB.size
  replace hq := Lib.hid hq
  go_region_held3 (fun w' => w'.cell? ⟨q, 0, none⟩ = some (.int .i64 L.k) ∧ w'.cell? ⟨q, 1, none⟩ = some (.int .i64 L.s) ∧ w'.cell? ⟨q, 2, none⟩ = some (.int .i64 L.u) ∧ w'.cell? ⟨q, 3, none⟩ = some (.int .i64 L.d) ∧ w'.cell? ⟨q, 4, none⟩ = some (.int .i64 L.r)) (go_keep) (fail)
  all_goals (go_wp2_with (fail))
  all_goals go_returns
  all_goals (
    have hst := (Bk.fresh (w1.alloc (.cells (u8s (List.replicate L.b6 0)).toArray 5)) 81 (rimV L w1.heap.size false false)).draw
    have hby := ((Bk.fresh w1 5 (u8s (List.replicate L.b6 0)).toArray).past (.cells (rimV L w1.heap.size false false) 81)).draw
    rw [World.size_alloc] at hst
    exact ⟨w1.heap.size + 1, w1.heap.size, rfl, ⟨h, hst, hby, by rw [List.length_replicate]⟩, by omega, hqw, ((hB.alloc hqw _).alloc (by rw [World.size_alloc]; omega) _).drew⟩)
section
variable {p b : Nat} {L : Lay} {B : List UInt8} {o s : Bool} {w : World}
theorem RIm.c0 (h : RIm w p b L B o s) : w.cell? ⟨p, 0, none⟩ = some (.int .i64 L.k) := h.st.cell 0
theorem RIm.c1 (h : RIm w p b L B o s) : w.cell? ⟨p, 1, none⟩ = some (.int .i64 L.s) := h.st.cell 1
theorem RIm.c2 (h : RIm w p b L B o s) : w.cell? ⟨p, 2, none⟩ = some (.int .i64 L.u) := h.st.cell 2
theorem RIm.c3 (h : RIm w p b L B o s) : w.cell? ⟨p, 3, none⟩ = some (.int .i64 L.d) := h.st.cell 3
theorem RIm.c4 (h : RIm w p b L B o s) : w.cell? ⟨p, 4, none⟩ = some (.int .i64 L.r) := h.st.cell 4
theorem RIm.c5 (h : RIm w p b L B o s) : w.cell? ⟨p, 5, none⟩ = some (.slice (some ⟨b, 0, none⟩) L.b6 L.b6) := h.st.cell 5
theorem RIm.c6 (h : RIm w p b L B o s) : w.cell? ⟨p, 6, none⟩ = some (.bool o) := h.st.cell 6
theorem RIm.c7 (h : RIm w p b L B o s) : w.cell? ⟨p, 7, none⟩ = some (.bool s) := h.st.cell 7
set_option maxHeartbeats 4000000 in
theorem rmay_any (h : RIm w p b L B o s) (mode r : Int) :
    Calls Try.prog 18 #[.pointer (some ⟨p, 0, none⟩), .int .i64 mode, .int .i64 r] w fun e w' => e = .returned (.int .i64 (mayN o s mode r)) ∧ w' = w := by
  have c6 := h.c6
  have c7 := h.c7
  clear h
  by_cases hm0 : mode < 0
  · have hx : mayN o s mode r = 0 := by
      unfold mayN
      split
      · rfl
      · rw [if_neg (by omega), if_neg (by omega), if_neg (by omega)]
    rw [hx]
    clear hx
    go_enter Try.func18, Try.ntmps18
    go_wp2
    go_returns
    exact ⟨rfl, rfl⟩
  · by_cases hm2 : 2 < mode
    · have hx : mayN o s mode r = 0 := by
        unfold mayN
        split
        · rfl
        · rw [if_neg (by omega), if_neg (by omega), if_neg (by omega)]
      rw [hx]
      clear hx
      go_enter Try.func18, Try.ntmps18
      go_wp2
      go_returns
      exact ⟨rfl, rfl⟩
    · by_cases h1 : r < 1
      · have hx : mayN o s mode r = 0 := if_pos (.inl h1)
        rw [hx]
        clear hx
        go_enter Try.func18, Try.ntmps18
        go_wp2
        go_returns
        exact ⟨rfl, rfl⟩
      · by_cases h5 : 5 < r
        · have hx : mayN o s mode r = 0 := if_pos (.inr h5)
          rw [hx]
          clear hx
          go_enter Try.func18, Try.ntmps18
          go_wp2
          go_returns
          exact ⟨rfl, rfl⟩
        · have hm : mode = 0 ∨ mode = 1 ∨ mode = 2 := by omega
          have hr : r = 1 ∨ r = 2 ∨ r = 3 ∨ r = 4 ∨ r = 5 := by omega
          clear hm0 hm2 h1 h5
          rcases hr with rfl | rfl | rfl | rfl | rfl
          · cases s
            all_goals (
              rcases hm with rfl | rfl | rfl
              all_goals (
                go_enter Try.func18, Try.ntmps18
                go_wp2
                go_returns
                exact ⟨rfl, rfl⟩))
          · cases o
            all_goals (
              rcases hm with rfl | rfl | rfl
              all_goals (
                go_enter Try.func18, Try.ntmps18
                go_wp2
                go_returns
                exact ⟨rfl, rfl⟩))
          all_goals (
            rcases hm with rfl | rfl | rfl
            all_goals (
              go_enter Try.func18, Try.ntmps18
              go_wp2
              go_returns
              exact ⟨rfl, rfl⟩))
set_option maxRecDepth 100000 in
set_option maxHeartbeats 4000000 in
theorem rspan_any (h : RIm w p b L B o s) (r : Int) :
    Calls Try.prog 16 #[.pointer (some ⟨p, 0, none⟩), .int .i64 r] w fun e w' => e = .returned (.tuple #[.int .i64 (L.from_ r), .int .i64 (L.to_ r)]) ∧ Below w.heap.size w w' := by
  have m := Lay.mono h.ok
  have hc : r = 1 ∨ r = 2 ∨ r = 3 ∨ r = 4 ∨ r = 5 ∨ (r < 1 ∨ 5 < r) := by omega
  have c0 := h.c0
  have c1 := h.c1
  have c2 := h.c2
  have c3 := h.c3
  have c4 := h.c4
  have e2 : (L.k : Int) = L.b2 := rfl
  have e3 : (L.b2 : Int) + L.s = L.b3 := rfl
  have e4 : (L.b3 : Int) + L.u = L.b4 := rfl
  have e5 : (L.b4 : Int) + L.d = L.b5 := rfl
  have e6 : (L.b5 : Int) + L.r = L.b6 := rfl
  have f1 : L.from_ 1 = 0 ∧ L.to_ 1 = L.b2 := ⟨rfl, rfl⟩
  have f2 : L.from_ 2 = L.b2 ∧ L.to_ 2 = L.b3 := ⟨rfl, rfl⟩
  have f3 : L.from_ 3 = L.b3 ∧ L.to_ 3 = L.b4 := ⟨rfl, rfl⟩
  have f4 : L.from_ 4 = L.b4 ∧ L.to_ 4 = L.b5 := ⟨rfl, rfl⟩
  have f5 : L.from_ 5 = L.b5 ∧ L.to_ 5 = L.b6 := ⟨rfl, rfl⟩
  rw [e2] at c0
  clear h e2
  generalize hxx : L.b2 = x2 at *
  replace hxx := Lib.hid hxx
  generalize L.b3 = x3 at *
  generalize L.b4 = x4 at *
  generalize L.b5 = x5 at *
  generalize L.b6 = x6 at *
  generalize L.s = s' at *
  generalize L.u = u' at *
  generalize L.d = d' at *
  generalize L.r = r' at *
  go_enter Try.func16, Try.ntmps16
  go_wp2_with (fail)
  go_still_tail 25, (by kernel_rfl)
  change wpList _ _ _ _ _ w.drew
  have hB := (Below.refl w.heap.size w).drew
  have hsz : w.drew.heap.size = w.heap.size := rfl
  obtain ⟨U, hU⟩ : ∃ U, w.drew = U := ⟨_, rfl⟩
  rw [hU] at hB hsz ⊢
  clear hU c0 c1 c2 c3 c4
  replace hsz := Lib.hid hsz
  go_wp2_with (fail)
  have hF := Bk.fresh U 3 #[.int .i64 x2, .int .i64 s', .int .i64 u', .int .i64 d', .int .i64 r']
  replace hB := hB.alloc hB.size (.cells #[.int .i64 x2, .int .i64 s', .int .i64 u', .int .i64 d', .int .i64 r'] 3)
  obtain ⟨X, hX⟩ : ∃ X, U.alloc (.cells #[.int .i64 x2, .int .i64 s', .int .i64 u', .int .i64 d', .int .i64 r'] 3) = X := ⟨_, rfl⟩
  rw [hX] at hF hB ⊢
  clear hX
  obtain ⟨q, hq⟩ : ∃ q, U.heap.size = q := ⟨_, rfl⟩
  rw [hq] at hF ⊢
  clear hq hsz
  have c0 := hF.cell 0
  have c1 := hF.cell 1
  have c2 := hF.cell 2
  have c3 := hF.cell 3
  have c4 := hF.cell 4
  simp at c0 c1 c2 c3 c4
  clear hF
  refine wp_loop_rounds 6 ?_
  rcases hc with rfl | rfl | rfl | rfl | rfl | hn
  · rw [rounds_succ]
    go_wp2_with (fail)
    go_quiet (fail)
    go_wp2_with (fail)
    go_returns
    exact ⟨by rw [f1.1, f1.2]; rfl, hB.trans ⟨rfl, rfl, rfl, Nat.le_refl _, fun _ _ => rfl⟩⟩
  · rw [rounds_succ]
    go_wp2_with (fail)
    rw [rounds_succ]
    go_wp2_with (fail)
    go_quiet (fail)
    go_wp2_with (fail)
    go_returns
    exact ⟨by rw [f2.1, f2.2]; rfl, hB.trans ⟨rfl, rfl, rfl, Nat.le_refl _, fun _ _ => rfl⟩⟩
  · rw [rounds_succ]
    go_wp2_with (fail)
    rw [rounds_succ]
    go_wp2_with (fail)
    rw [rounds_succ]
    go_wp2_with (fail)
    go_quiet (fail)
    go_wp2_with (fail)
    go_returns
    exact ⟨by rw [f3.1, f3.2]; rfl, hB.trans ⟨rfl, rfl, rfl, Nat.le_refl _, fun _ _ => rfl⟩⟩
  · rw [rounds_succ]
    go_wp2_with (fail)
    rw [rounds_succ]
    go_wp2_with (fail)
    rw [rounds_succ]
    go_wp2_with (fail)
    rw [rounds_succ]
    go_wp2_with (fail)
    go_quiet (fail)
    go_wp2_with (fail)
    go_returns
    exact ⟨by rw [f4.1, f4.2]; rfl, hB.trans ⟨rfl, rfl, rfl, Nat.le_refl _, fun _ _ => rfl⟩⟩
  · rw [rounds_succ]
    go_wp2_with (fail)
    rw [rounds_succ]
    go_wp2_with (fail)
    rw [rounds_succ]
    go_wp2_with (fail)
    rw [rounds_succ]
    go_wp2_with (fail)
    rw [rounds_succ]
    go_wp2_with (fail)
    go_quiet (fail)
    go_wp2_with (fail)
    go_returns
    exact ⟨by rw [f5.1, f5.2]; rfl, hB.trans ⟨rfl, rfl, rfl, Nat.le_refl _, fun _ _ => rfl⟩⟩
  · have q1 : (r == 1) = false := beq_eq_false_iff_ne.2 (by omega)
    have q2 : (r == 2) = false := beq_eq_false_iff_ne.2 (by omega)
    have q3 : (r == 3) = false := beq_eq_false_iff_ne.2 (by omega)
    have q4 : (r == 4) = false := beq_eq_false_iff_ne.2 (by omega)
    have q5 : (r == 5) = false := beq_eq_false_iff_ne.2 (by omega)
    have hz : L.from_ r = 0 ∧ L.to_ r = 0 := by
      unfold Lay.from_ Lay.to_
      rcases hn with g | g
      · rw [if_pos g, if_pos g]; exact ⟨rfl, rfl⟩
      · rw [if_neg (by omega), if_pos g, if_neg (by omega), if_pos g]; exact ⟨rfl, rfl⟩
    replace hz := Lib.hid hz
    clear hn
    rw [rounds_succ]
    go_wp2_with (fail)
    rw [rounds_succ]
    go_wp2_with (fail)
    rw [rounds_succ]
    go_wp2_with (fail)
    rw [rounds_succ]
    go_wp2_with (fail)
    rw [rounds_succ]
    go_wp2_with (fail)
    rw [rounds_succ]
    go_wp2_with (fail)
    go_returns
    exact ⟨by rw [hz.out.1, hz.out.2]; rfl, hB⟩
set_option maxRecDepth 100000 in
set_option maxHeartbeats 4000000 in
theorem rregion_any (h : RIm w p b L B o s) (a : Int) :
    Calls Try.prog 20 #[.pointer (some ⟨p, 0, none⟩), .int .i64 a] w fun e w' => e = .returned (.int .i64 (L.reg a)) ∧ Below w.heap.size w w' := by
  have m := Lay.mono h.ok
  have s1 : ∀ W, RIm W p b L B o s → Calls Try.prog 16 #[.pointer (some ⟨p, 0, none⟩), .int .i64 1] W fun e w' => e = .returned (.tuple #[.int .i64 0, .int .i64 L.b2]) ∧ Below W.heap.size W w' := fun W h => rspan_any h 1
  have s2 : ∀ W, RIm W p b L B o s → Calls Try.prog 16 #[.pointer (some ⟨p, 0, none⟩), .int .i64 2] W fun e w' => e = .returned (.tuple #[.int .i64 L.b2, .int .i64 L.b3]) ∧ Below W.heap.size W w' := fun W h => rspan_any h 2
  have s3 : ∀ W, RIm W p b L B o s → Calls Try.prog 16 #[.pointer (some ⟨p, 0, none⟩), .int .i64 3] W fun e w' => e = .returned (.tuple #[.int .i64 L.b3, .int .i64 L.b4]) ∧ Below W.heap.size W w' := fun W h => rspan_any h 3
  have s4 : ∀ W, RIm W p b L B o s → Calls Try.prog 16 #[.pointer (some ⟨p, 0, none⟩), .int .i64 4] W fun e w' => e = .returned (.tuple #[.int .i64 L.b4, .int .i64 L.b5]) ∧ Below W.heap.size W w' := fun W h => rspan_any h 4
  have s5 : ∀ W, RIm W p b L B o s → Calls Try.prog 16 #[.pointer (some ⟨p, 0, none⟩), .int .i64 5] W fun e w' => e = .returned (.tuple #[.int .i64 L.b5, .int .i64 L.b6]) ∧ Below W.heap.size W w' := fun W h => rspan_any h 5
  replace s1 := Lib.hid s1
  replace s2 := Lib.hid s2
  replace s3 := Lib.hid s3
  replace s4 := Lib.hid s4
  replace s5 := Lib.hid s5
  have hx : Hid (L.reg a = if a < 0 then 0 else if a < L.b2 then 1 else if a < L.b3 then 2 else if a < L.b4 then 3 else if a < L.b5 then 4 else if a < L.b6 then 5 else 0) := Lib.hid rfl
  replace h := Lib.hid h
  have hc : a < 0 ∨ (0 ≤ a ∧ a < L.b2) ∨ (0 ≤ a ∧ ¬ a < L.b2 ∧ a < L.b3) ∨ (0 ≤ a ∧ ¬ a < L.b2 ∧ ¬ a < L.b3 ∧ a < L.b4) ∨ (0 ≤ a ∧ ¬ a < L.b2 ∧ ¬ a < L.b3 ∧ ¬ a < L.b4 ∧ a < L.b5) ∨ (0 ≤ a ∧ ¬ a < L.b2 ∧ ¬ a < L.b3 ∧ ¬ a < L.b4 ∧ ¬ a < L.b5 ∧ a < L.b6) ∨ (0 ≤ a ∧ ¬ a < L.b2 ∧ ¬ a < L.b3 ∧ ¬ a < L.b4 ∧ ¬ a < L.b5 ∧ ¬ a < L.b6) := by omega
  rcases hc with g | ⟨g, g2⟩ | ⟨g, g2, g3⟩ | ⟨g, g2, g3, g4⟩ | ⟨g, g2, g3, g4, g5⟩ | ⟨g, g2, g3, g4, g5, g6⟩ | ⟨g, g2, g3, g4, g5, g6⟩
  · have p0 : decide ((0 : Int) ≤ a) = false := decide_eq_false (by omega)
    have p1 : decide ((L.b2 : Int) ≤ a) = false := decide_eq_false (by omega)
    have q1 : decide (a < (L.b2 : Int)) = true := decide_eq_true (by omega)
    have p2 : decide ((L.b3 : Int) ≤ a) = false := decide_eq_false (by omega)
    have q2 : decide (a < (L.b3 : Int)) = true := decide_eq_true (by omega)
    have p3 : decide ((L.b4 : Int) ≤ a) = false := decide_eq_false (by omega)
    have q3 : decide (a < (L.b4 : Int)) = true := decide_eq_true (by omega)
    have p4 : decide ((L.b5 : Int) ≤ a) = false := decide_eq_false (by omega)
    have q4 : decide (a < (L.b5 : Int)) = true := decide_eq_true (by omega)
    have p5 : decide ((L.b6 : Int) ≤ a) = false := decide_eq_false (by omega)
    have q5 : decide (a < (L.b6 : Int)) = true := decide_eq_true (by omega)
    go_enter Try.func20, Try.ntmps20
    go_wp2_with (fail)
    refine wp_loop_rounds 6 ?_
    have hB := Below.refl w.heap.size w
    have hI := h
    rw [rounds_succ]
    go_wp2_with (fail)
    refine (s1.out _ hI.out).mono ?_
    rintro e u1 ⟨rfl, hb⟩
    replace hI := Lib.hid (hI.out.bel hb)
    replace hB := hB.trans (hb.mono hB.size)
    clear hb
    go_wp2_with (fail)
    rw [rounds_succ]
    go_wp2_with (fail)
    refine (s2.out _ hI.out).mono ?_
    rintro e u2 ⟨rfl, hb⟩
    replace hI := Lib.hid (hI.out.bel hb)
    replace hB := hB.trans (hb.mono hB.size)
    clear hb
    go_wp2_with (fail)
    rw [rounds_succ]
    go_wp2_with (fail)
    refine (s3.out _ hI.out).mono ?_
    rintro e u3 ⟨rfl, hb⟩
    replace hI := Lib.hid (hI.out.bel hb)
    replace hB := hB.trans (hb.mono hB.size)
    clear hb
    go_wp2_with (fail)
    rw [rounds_succ]
    go_wp2_with (fail)
    refine (s4.out _ hI.out).mono ?_
    rintro e u4 ⟨rfl, hb⟩
    replace hI := Lib.hid (hI.out.bel hb)
    replace hB := hB.trans (hb.mono hB.size)
    clear hb
    go_wp2_with (fail)
    rw [rounds_succ]
    go_wp2_with (fail)
    refine (s5.out _ hI.out).mono ?_
    rintro e u5 ⟨rfl, hb⟩
    replace hI := Lib.hid (hI.out.bel hb)
    replace hB := hB.trans (hb.mono hB.size)
    clear hb
    go_wp2_with (fail)
    rw [rounds_succ]
    go_wp2_with (fail)
    go_returns
    exact ⟨by rw [hx.out, if_pos (by omega)]; rfl, hB⟩
  · have p0 : decide ((0 : Int) ≤ a) = true := decide_eq_true (by omega)
    have p1 : decide ((L.b2 : Int) ≤ a) = false := decide_eq_false (by omega)
    have q1 : decide (a < (L.b2 : Int)) = true := decide_eq_true (by omega)
    have p2 : decide ((L.b3 : Int) ≤ a) = false := decide_eq_false (by omega)
    have q2 : decide (a < (L.b3 : Int)) = true := decide_eq_true (by omega)
    have p3 : decide ((L.b4 : Int) ≤ a) = false := decide_eq_false (by omega)
    have q3 : decide (a < (L.b4 : Int)) = true := decide_eq_true (by omega)
    have p4 : decide ((L.b5 : Int) ≤ a) = false := decide_eq_false (by omega)
    have q4 : decide (a < (L.b5 : Int)) = true := decide_eq_true (by omega)
    have p5 : decide ((L.b6 : Int) ≤ a) = false := decide_eq_false (by omega)
    have q5 : decide (a < (L.b6 : Int)) = true := decide_eq_true (by omega)
    go_enter Try.func20, Try.ntmps20
    go_wp2_with (fail)
    refine wp_loop_rounds 6 ?_
    have hB := Below.refl w.heap.size w
    have hI := h
    rw [rounds_succ]
    go_wp2_with (fail)
    refine (s1.out _ hI.out).mono ?_
    rintro e u1 ⟨rfl, hb⟩
    replace hI := Lib.hid (hI.out.bel hb)
    replace hB := hB.trans (hb.mono hB.size)
    clear hb
    go_wp2_with (fail)
    go_returns
    exact ⟨by rw [hx.out, if_neg (Int.not_lt.2 g), if_pos (by omega : a < (L.b2 : Int))]; rfl, hB⟩
  · have p0 : decide ((0 : Int) ≤ a) = true := decide_eq_true (by omega)
    have p1 : decide ((L.b2 : Int) ≤ a) = true := decide_eq_true (by omega)
    have q1 : decide (a < (L.b2 : Int)) = false := decide_eq_false (by omega)
    have p2 : decide ((L.b3 : Int) ≤ a) = false := decide_eq_false (by omega)
    have q2 : decide (a < (L.b3 : Int)) = true := decide_eq_true (by omega)
    have p3 : decide ((L.b4 : Int) ≤ a) = false := decide_eq_false (by omega)
    have q3 : decide (a < (L.b4 : Int)) = true := decide_eq_true (by omega)
    have p4 : decide ((L.b5 : Int) ≤ a) = false := decide_eq_false (by omega)
    have q4 : decide (a < (L.b5 : Int)) = true := decide_eq_true (by omega)
    have p5 : decide ((L.b6 : Int) ≤ a) = false := decide_eq_false (by omega)
    have q5 : decide (a < (L.b6 : Int)) = true := decide_eq_true (by omega)
    go_enter Try.func20, Try.ntmps20
    go_wp2_with (fail)
    refine wp_loop_rounds 6 ?_
    have hB := Below.refl w.heap.size w
    have hI := h
    rw [rounds_succ]
    go_wp2_with (fail)
    refine (s1.out _ hI.out).mono ?_
    rintro e u1 ⟨rfl, hb⟩
    replace hI := Lib.hid (hI.out.bel hb)
    replace hB := hB.trans (hb.mono hB.size)
    clear hb
    go_wp2_with (fail)
    rw [rounds_succ]
    go_wp2_with (fail)
    refine (s2.out _ hI.out).mono ?_
    rintro e u2 ⟨rfl, hb⟩
    replace hI := Lib.hid (hI.out.bel hb)
    replace hB := hB.trans (hb.mono hB.size)
    clear hb
    go_wp2_with (fail)
    go_returns
    exact ⟨by rw [hx.out, if_neg (Int.not_lt.2 g), if_neg (Int.not_lt.2 (by omega : (L.b2 : Int) ≤ a)), if_pos (by omega : a < (L.b3 : Int))]; rfl, hB⟩
  · have p0 : decide ((0 : Int) ≤ a) = true := decide_eq_true (by omega)
    have p1 : decide ((L.b2 : Int) ≤ a) = true := decide_eq_true (by omega)
    have q1 : decide (a < (L.b2 : Int)) = false := decide_eq_false (by omega)
    have p2 : decide ((L.b3 : Int) ≤ a) = true := decide_eq_true (by omega)
    have q2 : decide (a < (L.b3 : Int)) = false := decide_eq_false (by omega)
    have p3 : decide ((L.b4 : Int) ≤ a) = false := decide_eq_false (by omega)
    have q3 : decide (a < (L.b4 : Int)) = true := decide_eq_true (by omega)
    have p4 : decide ((L.b5 : Int) ≤ a) = false := decide_eq_false (by omega)
    have q4 : decide (a < (L.b5 : Int)) = true := decide_eq_true (by omega)
    have p5 : decide ((L.b6 : Int) ≤ a) = false := decide_eq_false (by omega)
    have q5 : decide (a < (L.b6 : Int)) = true := decide_eq_true (by omega)
    go_enter Try.func20, Try.ntmps20
    go_wp2_with (fail)
    refine wp_loop_rounds 6 ?_
    have hB := Below.refl w.heap.size w
    have hI := h
    rw [rounds_succ]
    go_wp2_with (fail)
    refine (s1.out _ hI.out).mono ?_
    rintro e u1 ⟨rfl, hb⟩
    replace hI := Lib.hid (hI.out.bel hb)
    replace hB := hB.trans (hb.mono hB.size)
    clear hb
    go_wp2_with (fail)
    rw [rounds_succ]
    go_wp2_with (fail)
    refine (s2.out _ hI.out).mono ?_
    rintro e u2 ⟨rfl, hb⟩
    replace hI := Lib.hid (hI.out.bel hb)
    replace hB := hB.trans (hb.mono hB.size)
    clear hb
    go_wp2_with (fail)
    rw [rounds_succ]
    go_wp2_with (fail)
    refine (s3.out _ hI.out).mono ?_
    rintro e u3 ⟨rfl, hb⟩
    replace hI := Lib.hid (hI.out.bel hb)
    replace hB := hB.trans (hb.mono hB.size)
    clear hb
    go_wp2_with (fail)
    go_returns
    exact ⟨by rw [hx.out, if_neg (Int.not_lt.2 g), if_neg (Int.not_lt.2 (by omega : (L.b2 : Int) ≤ a)), if_neg (Int.not_lt.2 (by omega : (L.b3 : Int) ≤ a)), if_pos (by omega : a < (L.b4 : Int))]; rfl, hB⟩
  · have p0 : decide ((0 : Int) ≤ a) = true := decide_eq_true (by omega)
    have p1 : decide ((L.b2 : Int) ≤ a) = true := decide_eq_true (by omega)
    have q1 : decide (a < (L.b2 : Int)) = false := decide_eq_false (by omega)
    have p2 : decide ((L.b3 : Int) ≤ a) = true := decide_eq_true (by omega)
    have q2 : decide (a < (L.b3 : Int)) = false := decide_eq_false (by omega)
    have p3 : decide ((L.b4 : Int) ≤ a) = true := decide_eq_true (by omega)
    have q3 : decide (a < (L.b4 : Int)) = false := decide_eq_false (by omega)
    have p4 : decide ((L.b5 : Int) ≤ a) = false := decide_eq_false (by omega)
    have q4 : decide (a < (L.b5 : Int)) = true := decide_eq_true (by omega)
    have p5 : decide ((L.b6 : Int) ≤ a) = false := decide_eq_false (by omega)
    have q5 : decide (a < (L.b6 : Int)) = true := decide_eq_true (by omega)
    go_enter Try.func20, Try.ntmps20
    go_wp2_with (fail)
    refine wp_loop_rounds 6 ?_
    have hB := Below.refl w.heap.size w
    have hI := h
    rw [rounds_succ]
    go_wp2_with (fail)
    refine (s1.out _ hI.out).mono ?_
    rintro e u1 ⟨rfl, hb⟩
    replace hI := Lib.hid (hI.out.bel hb)
    replace hB := hB.trans (hb.mono hB.size)
    clear hb
    go_wp2_with (fail)
    rw [rounds_succ]
    go_wp2_with (fail)
    refine (s2.out _ hI.out).mono ?_
    rintro e u2 ⟨rfl, hb⟩
    replace hI := Lib.hid (hI.out.bel hb)
    replace hB := hB.trans (hb.mono hB.size)
    clear hb
    go_wp2_with (fail)
    rw [rounds_succ]
    go_wp2_with (fail)
    refine (s3.out _ hI.out).mono ?_
    rintro e u3 ⟨rfl, hb⟩
    replace hI := Lib.hid (hI.out.bel hb)
    replace hB := hB.trans (hb.mono hB.size)
    clear hb
    go_wp2_with (fail)
    rw [rounds_succ]
    go_wp2_with (fail)
    refine (s4.out _ hI.out).mono ?_
    rintro e u4 ⟨rfl, hb⟩
    replace hI := Lib.hid (hI.out.bel hb)
    replace hB := hB.trans (hb.mono hB.size)
    clear hb
    go_wp2_with (fail)
    go_returns
    exact ⟨by rw [hx.out, if_neg (Int.not_lt.2 g), if_neg (Int.not_lt.2 (by omega : (L.b2 : Int) ≤ a)), if_neg (Int.not_lt.2 (by omega : (L.b3 : Int) ≤ a)), if_neg (Int.not_lt.2 (by omega : (L.b4 : Int) ≤ a)), if_pos (by omega : a < (L.b5 : Int))]; rfl, hB⟩
  · have p0 : decide ((0 : Int) ≤ a) = true := decide_eq_true (by omega)
    have p1 : decide ((L.b2 : Int) ≤ a) = true := decide_eq_true (by omega)
    have q1 : decide (a < (L.b2 : Int)) = false := decide_eq_false (by omega)
    have p2 : decide ((L.b3 : Int) ≤ a) = true := decide_eq_true (by omega)
    have q2 : decide (a < (L.b3 : Int)) = false := decide_eq_false (by omega)
    have p3 : decide ((L.b4 : Int) ≤ a) = true := decide_eq_true (by omega)
    have q3 : decide (a < (L.b4 : Int)) = false := decide_eq_false (by omega)
    have p4 : decide ((L.b5 : Int) ≤ a) = true := decide_eq_true (by omega)
    have q4 : decide (a < (L.b5 : Int)) = false := decide_eq_false (by omega)
    have p5 : decide ((L.b6 : Int) ≤ a) = false := decide_eq_false (by omega)
    have q5 : decide (a < (L.b6 : Int)) = true := decide_eq_true (by omega)
    go_enter Try.func20, Try.ntmps20
    go_wp2_with (fail)
    refine wp_loop_rounds 6 ?_
    have hB := Below.refl w.heap.size w
    have hI := h
    rw [rounds_succ]
    go_wp2_with (fail)
    refine (s1.out _ hI.out).mono ?_
    rintro e u1 ⟨rfl, hb⟩
    replace hI := Lib.hid (hI.out.bel hb)
    replace hB := hB.trans (hb.mono hB.size)
    clear hb
    go_wp2_with (fail)
    rw [rounds_succ]
    go_wp2_with (fail)
    refine (s2.out _ hI.out).mono ?_
    rintro e u2 ⟨rfl, hb⟩
    replace hI := Lib.hid (hI.out.bel hb)
    replace hB := hB.trans (hb.mono hB.size)
    clear hb
    go_wp2_with (fail)
    rw [rounds_succ]
    go_wp2_with (fail)
    refine (s3.out _ hI.out).mono ?_
    rintro e u3 ⟨rfl, hb⟩
    replace hI := Lib.hid (hI.out.bel hb)
    replace hB := hB.trans (hb.mono hB.size)
    clear hb
    go_wp2_with (fail)
    rw [rounds_succ]
    go_wp2_with (fail)
    refine (s4.out _ hI.out).mono ?_
    rintro e u4 ⟨rfl, hb⟩
    replace hI := Lib.hid (hI.out.bel hb)
    replace hB := hB.trans (hb.mono hB.size)
    clear hb
    go_wp2_with (fail)
    rw [rounds_succ]
    go_wp2_with (fail)
    refine (s5.out _ hI.out).mono ?_
    rintro e u5 ⟨rfl, hb⟩
    replace hI := Lib.hid (hI.out.bel hb)
    replace hB := hB.trans (hb.mono hB.size)
    clear hb
    go_wp2_with (fail)
    go_returns
    exact ⟨by rw [hx.out, if_neg (Int.not_lt.2 g), if_neg (Int.not_lt.2 (by omega : (L.b2 : Int) ≤ a)), if_neg (Int.not_lt.2 (by omega : (L.b3 : Int) ≤ a)), if_neg (Int.not_lt.2 (by omega : (L.b4 : Int) ≤ a)), if_neg (Int.not_lt.2 (by omega : (L.b5 : Int) ≤ a)), if_pos (by omega : a < (L.b6 : Int))]; rfl, hB⟩
  · have p0 : decide ((0 : Int) ≤ a) = true := decide_eq_true (by omega)
    have p1 : decide ((L.b2 : Int) ≤ a) = true := decide_eq_true (by omega)
    have q1 : decide (a < (L.b2 : Int)) = false := decide_eq_false (by omega)
    have p2 : decide ((L.b3 : Int) ≤ a) = true := decide_eq_true (by omega)
    have q2 : decide (a < (L.b3 : Int)) = false := decide_eq_false (by omega)
    have p3 : decide ((L.b4 : Int) ≤ a) = true := decide_eq_true (by omega)
    have q3 : decide (a < (L.b4 : Int)) = false := decide_eq_false (by omega)
    have p4 : decide ((L.b5 : Int) ≤ a) = true := decide_eq_true (by omega)
    have q4 : decide (a < (L.b5 : Int)) = false := decide_eq_false (by omega)
    have p5 : decide ((L.b6 : Int) ≤ a) = true := decide_eq_true (by omega)
    have q5 : decide (a < (L.b6 : Int)) = false := decide_eq_false (by omega)
    go_enter Try.func20, Try.ntmps20
    go_wp2_with (fail)
    refine wp_loop_rounds 6 ?_
    have hB := Below.refl w.heap.size w
    have hI := h
    rw [rounds_succ]
    go_wp2_with (fail)
    refine (s1.out _ hI.out).mono ?_
    rintro e u1 ⟨rfl, hb⟩
    replace hI := Lib.hid (hI.out.bel hb)
    replace hB := hB.trans (hb.mono hB.size)
    clear hb
    go_wp2_with (fail)
    rw [rounds_succ]
    go_wp2_with (fail)
    refine (s2.out _ hI.out).mono ?_
    rintro e u2 ⟨rfl, hb⟩
    replace hI := Lib.hid (hI.out.bel hb)
    replace hB := hB.trans (hb.mono hB.size)
    clear hb
    go_wp2_with (fail)
    rw [rounds_succ]
    go_wp2_with (fail)
    refine (s3.out _ hI.out).mono ?_
    rintro e u3 ⟨rfl, hb⟩
    replace hI := Lib.hid (hI.out.bel hb)
    replace hB := hB.trans (hb.mono hB.size)
    clear hb
    go_wp2_with (fail)
    rw [rounds_succ]
    go_wp2_with (fail)
    refine (s4.out _ hI.out).mono ?_
    rintro e u4 ⟨rfl, hb⟩
    replace hI := Lib.hid (hI.out.bel hb)
    replace hB := hB.trans (hb.mono hB.size)
    clear hb
    go_wp2_with (fail)
    rw [rounds_succ]
    go_wp2_with (fail)
    refine (s5.out _ hI.out).mono ?_
    rintro e u5 ⟨rfl, hb⟩
    replace hI := Lib.hid (hI.out.bel hb)
    replace hB := hB.trans (hb.mono hB.size)
    clear hb
    go_wp2_with (fail)
    rw [rounds_succ]
    go_wp2_with (fail)
    go_returns
    exact ⟨by rw [hx.out, if_neg (Int.not_lt.2 g), if_neg (Int.not_lt.2 (by omega : (L.b2 : Int) ≤ a)), if_neg (Int.not_lt.2 (by omega : (L.b3 : Int) ≤ a)), if_neg (Int.not_lt.2 (by omega : (L.b4 : Int) ≤ a)), if_neg (Int.not_lt.2 (by omega : (L.b5 : Int) ≤ a)), if_neg (Int.not_lt.2 (by omega : (L.b6 : Int) ≤ a))]; rfl, hB⟩
end
end Go.Proofs.Yteldbkdfphkdbaa
