import Derived.Test.YtoaiiimnfgbcaaaRdLR
import Derived.Test.YtoaiiimnfgbcaaaDcK
namespace Go.Proofs.Ytoaiiimnfgbcaaa
open Go.RowKit
attribute [local go_sem] Oper.semAt_some
set_option linter.unusedVariables false
set_option linter.unusedSimpArgs false
/-! chapter 8: law's begun -/
theorem info_u8t : (Try.prog.info? 5).map (fun i => (i.zero, i.size, i.bytes)) = some (some (.int .u8 0), 1, 1) := by kernel_rfl
theorem make_u8t (n : Nat) (hn : n ≤ 143360) (W : World) : (Instr.makeSlice 65 (.int .i64 (n : Int)) (.int .i64 (n : Int))).run Try.prog W = .ok (.slice (some ⟨W.heap.size, 0, none⟩) n n) (W.alloc (.cells (u8s (List.replicate n 0)).toArray 5)) := by
  obtain ⟨ti, hti, h0⟩ := Option.map_eq_some_iff.1 info_u8t
  simp only [Prod.mk.injEq] at h0
  obtain ⟨htz, hts, htb⟩ := h0
  have h := run_make (P := Try.prog) W 65 5 ti (.int .u8 0) Try.underlying65 hti htz .i64 .i64 (n : Int) (n : Int) (by omega) (Int.le_refl _) (by rw [htb]; omega) (by omega)
  rw [hts, Int.toNat_natCast, made_u8] at h
  exact h
theorem rdnew_any (m n g : Nat) (hg : g ≤ 143360) (w : World) : Calls Try.prog 40 #[.slice (some ⟨m, 0, none⟩) n n, .int .i64 (g : Int)] w fun e w' => e = .returned (.pointer (some ⟨w.heap.size, 0, none⟩)) ∧ Bk w' w.heap.size 67 (rdV m g n false (g + 8) 0) ∧ Below w.heap.size w w' := by
  have hF := Bk.fresh w 67 (rdV m g n false (g + 8) 0)
  have hB := (Below.refl w.heap.size w).alloc (Nat.le_refl _) (.cells (rdV m g n false (g + 8) 0) 67)
  unfold rdV at hF hB ⊢
  have hcast : ((g + 8 : Nat) : Int) = (g : Int) + 8 := by omega
  rw [hcast] at hF hB ⊢
  replace hF := Lib.hid hF
  replace hB := Lib.hid hB
  have hb' : (g : Int) ≤ 143360 := by omega
  clear hcast
  go_enter Try.func40, Try.ntmps40
  go_wp2_with (fail)
  go_returns
  exact ⟨rfl, hF.out, hB.out⟩
theorem win_rep (g n k : Nat) (h : g + n ≤ k) : win g n (List.replicate k 0) = List.replicate n 0 := by
  unfold win
  rw [List.drop_replicate, List.take_replicate, Nat.min_eq_left (by omega)]
theorem Dc.onv {w : World} {d p b r f y h l v : Nat} {L : Lay} {B : List UInt8} {o s : Bool} {vs : Array Value} (D : Dc w d p b L r f y B o s h l) (hv : Bk w v 64 vs) (i : Nat) (x : Value) : Dc (w.setCell ⟨v, i, none⟩ x) d p b L r f y B o s h l :=
  D.far (q := ⟨v, i, none⟩) (hv.ne D.im.st (by decide)).symm (hv.ne D.im.by_ (by decide)).symm (hv.ne D.bk (by decide)).symm x
/-- the first list, when it is done -/
def Ex (E : Option (Nat × Nat × Nat)) (p b : Nat) (L : Lay) (k : Nat) (W : World) : Prop :=
  match E with
  | none => True
  | some (d, q, m) => Dc W d p b L 1 (L.beg 1 + 8) (L.beg 2) (List.replicate L.b6 0) false false (L.beg 1 + 8) 0 ∧ Bk W q 67 (rdV m 0 k false 8 0) ∧ Bk W m 5 (u8s (List.replicate k 0)).toArray
theorem Ex.bel {E : Option (Nat × Nat × Nat)} {p b k : Nat} {L : Lay} {W W' : World} (h : Ex E p b L k W) (hb : Below W.heap.size W W') : Ex E p b L k W' := by
  match E, h with
  | none, _ => trivial
  | some (d, q, m), h => exact ⟨h.1.bel hb, h.2.1.kept hb h.2.1.lt, h.2.2.kept hb h.2.2.lt⟩
theorem Ex.onv {E : Option (Nat × Nat × Nat)} {p b k v : Nat} {L : Lay} {W : World} {vs : Array Value} (h : Ex E p b L k W) (hv : Bk W v 64 vs) (i : Nat) (x : Value) : Ex E p b L k (W.setCell ⟨v, i, none⟩ x) := by
  match E, h with
  | none, _ => trivial
  | some (d, q, m), h => exact ⟨h.1.onv hv i x, h.2.1.other (p := ⟨v, i, none⟩) (hv.ne h.2.1 (by decide)).symm _, h.2.2.other (p := ⟨v, i, none⟩) (hv.ne h.2.2 (by decide)).symm _⟩
/-- what lies beside while begun goes on -/
structure Bg (w : World) (v p b : Nat) (L : Lay) (k u m : Nat) (E : Option (Nat × Nat × Nat)) (vs : Array Value) (W : World) : Prop where
  im : Im W p b L (List.replicate L.b6 0) false false
  wl : Bk W v 64 vs
  s1 : Bk W (v + 1) 3 #[.int .i64 0, .int .i64 (m : Int)]
  s2 : Bk W (v + 2) 3 #[.int .i64 (k : Int), .int .i64 (u : Int)]
  s3 : Bk W (v + 3) 3 #[.int .i64 1, .int .i64 3]
  bel : Below w.heap.size w W
  ex : Ex E p b L k W
theorem Bg.go {w : World} {v p b k u m : Nat} {L : Lay} {E : Option (Nat × Nat × Nat)} {vs : Array Value} {W W' : World} (h : Bg w v p b L k u m E vs W) (hb : Below W.heap.size W W') : Bg w v p b L k u m E vs W' :=
  ⟨h.im.bel hb, h.wl.kept hb h.wl.lt, h.s1.kept hb h.s1.lt, h.s2.kept hb h.s2.lt, h.s3.kept hb h.s3.lt, h.bel.trans (hb.mono h.bel.size), h.ex.bel hb⟩
theorem Bg.put {w : World} {v p b k u m : Nat} {L : Lay} {E : Option (Nat × Nat × Nat)} {vs : Array Value} {W : World} (h : Bg w v p b L k u m E vs W) (hv : w.heap.size ≤ v) (i : Nat) (x : Value) : Bg w v p b L k u m E (vs.setIfInBounds i x) (W.setCell ⟨v, i, none⟩ x) :=
  ⟨⟨h.im.ok, h.im.st.other (p := ⟨v, i, none⟩) (h.wl.ne h.im.st (by decide)).symm _, h.im.by_.other (p := ⟨v, i, none⟩) (h.wl.ne h.im.by_ (by decide)).symm _, h.im.len⟩, h.wl.put i x, h.s1.other (p := ⟨v, i, none⟩) (by simp) _, h.s2.other (p := ⟨v, i, none⟩) (by simp) _, h.s3.other (p := ⟨v, i, none⟩) (by simp) _, h.bel.setCell (p := ⟨v, i, none⟩) hv _, h.ex.onv h.wl i x⟩
set_option maxHeartbeats 8000000 in
set_option maxRecDepth 100000 in
theorem begun_any (n : Int) (w : World) : Calls Try.prog 21 #[LV (layOf8 n)] w fun e w' => ∃ (v p b : Nat) (K T : Ls), e = .returned (.pointer (some ⟨v, 0, none⟩)) ∧ K.r = 1 ∧ T.r = 3 ∧ K.g = 0 ∧ K.n = (layOf8 n).k ∧ T.g = (layOf8 n).k + (layOf8 n).s ∧ T.n = (layOf8 n).u ∧ Al w' p b (layOf8 n) (List.replicate (layOf8 n).b6 0) false K T ∧ So w v p b 0 K T w' := by
  have hnew := fun w1 => new8 n w1
  have hok := layOf8_ok n
  obtain ⟨L, hL⟩ : ∃ L, layOf8 n = L := ⟨_, rfl⟩
  simp only [hL] at hnew hok ⊢
  clear hL
  unfold LV layV at hnew ⊢
  obtain ⟨m, hm⟩ : ∃ m, L.k + L.s = m := ⟨_, rfl⟩
  obtain ⟨k, hk⟩ : ∃ k, L.k = k := ⟨_, rfl⟩
  obtain ⟨u, hu⟩ : ∃ u, L.u = u := ⟨_, rfl⟩
  have hk2 : k ≤ 143360 := by rw [← hk]; unfold Lay.ok at hok; omega
  have hu2 : u ≤ 143360 := by rw [← hu]; unfold Lay.ok at hok; omega
  have hm2 : m ≤ 143360 := by rw [← hm]; unfold Lay.ok at hok; omega
  have hms : k + L.s = m := by rw [← hm, ← hk]
  have hwk : IntKind.i64.wrap ((k : Int) + (L.s : Int)) = (m : Int) := by rw [IntKind.wrap_i64]; omega
  simp only [hm, hk, hu] at hnew ⊢
  rw [hms] at ⊢
  replace hms := Lib.hid hms
  replace hm := Lib.hid hm
  replace hk := Lib.hid hk
  replace hu := Lib.hid hu
  replace hnew := Lib.hid hnew
  replace hok := Lib.hid hok
  go_enter Try.func21, Try.ntmps21
  go_wp2_with (fail)
  refine (hnew.out _).mono ?_
  rintro e w3 ⟨p, b, rfl, hI, zp, zb, hO⟩
  have hR := Bk.fresh w 24 #[.int .i64 (k : Int), .int .i64 (L.s : Int), .int .i64 (u : Int), .int .i64 (L.d : Int), .int .i64 (L.r : Int)]
  have hO1 : Below w.heap.size w (w.alloc (.cells #[.int .i64 (k : Int), .int .i64 (L.s : Int), .int .i64 (u : Int), .int .i64 (L.d : Int), .int .i64 (L.r : Int)] 24)) := (Below.refl _ _).alloc (Nat.le_refl _) _
  have hR := hR.kept hO hR.lt
  have zp : w.heap.size ≤ p := Nat.le_trans hO1.size zp
  have zb : w.heap.size ≤ b := Nat.le_trans hO1.size zb
  have hB3 := hO1.trans (hO.mono hO1.size)
  obtain ⟨q, hq⟩ : ∃ q, w.heap.size = q := ⟨_, rfl⟩
  rw [hq] at hR ⊢
  clear hO hO1 hq
  obtain ⟨v, hv⟩ : ∃ v, w3.heap.size = v := ⟨_, rfl⟩
  have hwv : w.heap.size ≤ v := by rw [← hv]; exact hB3.size
  have c0 := hR.cell 0
  have c1 := hR.cell 1
  have c2 := hR.cell 2
  simp at c0 c1 c2
  have hql := hR.lt
  replace hI := Lib.hid hI
  replace hB3 := Lib.hid hB3
  replace hR := Lib.hid hR
  go_upto_region 5 with (fail)
  obtain ⟨V0, hV0⟩ : ∃ V0, w3.alloc (.cells #[.pointer (some ⟨p, 0, none⟩), .pointer none, .pointer none, .pointer none, .pointer none, .int .i64 0, .int .i64 0, .int .i64 0, .int .i64 0] 64) = V0 := ⟨_, rfl⟩
  have vW := Bk.fresh w3 64 #[.pointer (some ⟨p, 0, none⟩), .pointer none, .pointer none, .pointer none, .pointer none, .int .i64 0, .int .i64 0, .int .i64 0, .int .i64 0]
  have hb0 := (Below.refl w3.heap.size w3).alloc (Nat.le_refl _) (.cells #[.pointer (some ⟨p, 0, none⟩), .pointer none, .pointer none, .pointer none, .pointer none, .int .i64 0, .int .i64 0, .int .i64 0, .int .i64 0] 64)
  have hR := hR.out.past (.cells #[.pointer (some ⟨p, 0, none⟩), .pointer none, .pointer none, .pointer none, .pointer none, .int .i64 0, .int .i64 0, .int .i64 0, .int .i64 0] 64)
  have hz0 : V0.heap.size = v + 1 := by rw [← hV0, ← hv]; simp
  rw [hv] at vW
  try rw [hv]
  rw [hV0] at vW hb0 hR ⊢
  clear hV0 c0 c1 c2
  have c0 := hR.cell 0
  have c1 := hR.cell 1
  have c2 := hR.cell 2
  simp at c0 c1 c2
  have hB3' := hB3.out
  have hI' := hI.out.bel hb0
  replace hB3 := Lib.hid (hB3'.trans (hb0.mono hB3'.size))
  replace hI := Lib.hid hI'
  clear hI' hB3' hb0
  replace hv := Lib.hid hv
  clear hql
  obtain ⟨V1, hV1⟩ : ∃ V1, V0.alloc (.cells #[.int .i64 0, .int .i64 (m : Int)] 3) = V1 := ⟨_, rfl⟩
  obtain ⟨V2, hV2⟩ : ∃ V2, V1.alloc (.cells #[.int .i64 (k : Int), .int .i64 (u : Int)] 3) = V2 := ⟨_, rfl⟩
  obtain ⟨V3, hV3⟩ : ∃ V3, V2.alloc (.cells #[.int .i64 1, .int .i64 3] 3) = V3 := ⟨_, rfl⟩
  have hz1 : V1.heap.size = v + 2 := by rw [← hV1]; simp [hz0]
  have hz2 : V2.heap.size = v + 3 := by rw [← hV2]; simp [hz1]
  have g1 := Bk.fresh V0 3 #[.int .i64 0, .int .i64 (m : Int)]
  rw [hV1, hz0] at g1
  have g2 := Bk.fresh V1 3 #[.int .i64 (k : Int), .int .i64 (u : Int)]
  rw [hV2, hz1] at g2
  have g3 := Bk.fresh V2 3 #[.int .i64 1, .int .i64 3]
  rw [hV3, hz2] at g3
  have b1 := (Below.refl V0.heap.size V0).alloc (Nat.le_refl _) (.cells #[.int .i64 0, .int .i64 (m : Int)] 3)
  have b2 := (b1.alloc b1.size (.cells #[.int .i64 (k : Int), .int .i64 (u : Int)] 3))
  rw [hV1] at b1 b2
  rw [hV2] at b2
  have b3 := (b2.alloc b2.size (.cells #[.int .i64 1, .int .i64 3] 3))
  rw [hV3] at b3
  have g1' := (g1.past (.cells #[.int .i64 (k : Int), .int .i64 (u : Int)] 3))
  rw [hV2] at g1'
  have g1'' := (g1'.past (.cells #[.int .i64 1, .int .i64 3] 3))
  rw [hV3] at g1''
  have g2' := (g2.past (.cells #[.int .i64 1, .int .i64 3] 3))
  rw [hV3] at g2'
  have d0 := (hR.kept b1 hR.lt).cell 0
  have d2 := (hR.kept b1 hR.lt).cell 2
  simp at d0 d2
  have hG : Bg w v p b L k u m none #[.pointer (some ⟨p, 0, none⟩), .pointer none, .pointer none, .pointer none, .pointer none, .int .i64 0, .int .i64 0, .int .i64 0, .int .i64 0] V3 := ⟨hI.out.bel b3, vW.kept b3 vW.lt, g1'', g2', g3, hB3.out.trans (b3.mono hB3.out.size), trivial⟩
  replace hG := Lib.hid hG
  clear hI hB3 vW g1 g2 g3 g1' g1'' g2' b1 b2 b3
  go_upto_region 8 with (fail)
  clear c0 c1 c2 d0 d2 hV1 hV2 hV3 hz0 hz1 hz2 hR hwk
  go_wp2_with (fail)
  refine wp_loop_rounds 3 ?_
  rw [rounds_succ]
  have s3 := hG.out.s3.cell 0
  simp at s3
  go_wp2_with (fail)
  refine (dnew_any hG.out.im 1 (.inl rfl)).mono ?_
  rintro e w4 ⟨d0, hd0, rfl, D0, hb⟩
  have hdw0 := Nat.le_trans hG.out.bel.size hd0
  replace hd0 := Lib.hid hd0
  replace hdw0 := Lib.hid hdw0
  have G4 := hG.out.go hb
  have x0 := G4.wl.cell (1 + 0)
  have x1 := G4.wl.free (1 + 0)
  simp at x0 x1
  have G5 := G4.put hwv (1 + 0) (.pointer (some ⟨d0, 0, none⟩))
  have D5 := D0.onv G4.wl (1 + 0) (.pointer (some ⟨d0, 0, none⟩))
  clear s3
  replace D5 := Lib.hid D5
  replace G5 := Lib.hid G5
  clear G4 D0 hb hG
  go_upto_region 15 with (fail)
  obtain ⟨X1, hX1⟩ : ∃ X1, w4.setCell ⟨v, 1 + 0, none⟩ (.pointer (some ⟨d0, 0, none⟩)) = X1 := ⟨_, rfl⟩
  rw [hX1] at G5 D5
  simp only [Nat.reduceAdd] at hX1
  rw [hX1]
  clear hX1 x0 x1
  have t0 := G5.out.s1.cell 0
  have t1 := G5.out.s2.cell 0
  simp at t0 t1
  have z0 := G5.out.wl.cell (3 + 0)
  have z1 := G5.out.wl.free (3 + 0)
  simp at z0 z1
  have hmk := make_u8t k hk2
  have hbm := (((Below.refl X1.heap.size X1).alloc (Nat.le_refl _) (.cells (u8s (List.replicate k 0)).toArray 5)).drew)
  have bm := (Bk.fresh X1 5 (u8s (List.replicate k 0)).toArray).draw
  obtain ⟨X2, hX2⟩ : ∃ X2, (X1.alloc (.cells (u8s (List.replicate k 0)).toArray 5)).drew = X2 := ⟨_, rfl⟩
  rw [hX2] at hbm bm
  have G6 := G5.out.go hbm
  have D6 := D5.out.bel hbm
  have hnw := rdnew_any X1.heap.size k 0 (by first | exact hm2 | decide) X2
  try simp only [Nat.cast_zero, Int.ofNat_zero, Int.natCast_zero] at hnw
  obtain ⟨m0, hm0⟩ : ∃ m0, X1.heap.size = m0 := ⟨_, rfl⟩
  obtain ⟨q0, hq0⟩ : ∃ q0, X2.heap.size = q0 := ⟨_, rfl⟩
  rw [hm0] at bm hnw
  rw [hq0] at hnw
  have hS6 : Hid (X2.cell? ⟨v + 2, 0, none⟩ = some (.int .i64 k) ∧ X2.cell? ⟨v + 1, 0, none⟩ = some (.int .i64 0)) := Lib.hid ⟨G6.s2.cell 0, G6.s1.cell 0⟩
  have hqm : q0 = m0 + 1 := by rw [← hq0, ← hm0, ← hX2]; show (X1.alloc _).heap.size = _; simp
  replace hbm := Lib.hid hbm
  replace bm := Lib.hid bm
  replace G6 := Lib.hid G6
  replace D6 := Lib.hid D6
  replace hnw := Lib.hid hnw
  replace hqm := Lib.hid hqm
  replace hq0 := Lib.hid hq0
  have hex0 := Lib.hid (show (Ex _ p b L k X1 ∧ Im X1 p b L (List.replicate L.b6 0) false false ∧ w.heap.size ≤ X1.heap.size) from ⟨G5.out.ex, G5.out.im, G5.out.bel.size⟩)
  clear G5 D5
  go_region_held3 (fun w' => w'.cell? ⟨v + 2, 0, none⟩ = some (.int .i64 k) ∧ w'.cell? ⟨v + 1, 0, none⟩ = some (.int .i64 0)) (first | exact hS6.out | exact hS9.out | (simp [go_sem, *]; done) | go_keep)
    ((go_at_call 40; (with_reducible refine Calls.mono hnw.out ?_); rintro e w5 ⟨rfl, bq, hb⟩; have hb2 : Below X2.heap.size X2 w5 := (by first | exact hb | (rw [hq0.out]; exact hb)); have bm := Lib.hid (bm.out.kept hb2 bm.out.lt); have D7 := Lib.hid (D6.out.bel hb2); have G7 := G6.out.go hb2; have z0 := G7.wl.cell (3 + 0); have z1 := G7.wl.free (3 + 0); simp at z0 z1; have G8 := G7.put hwv (3 + 0) (.pointer (some ⟨q0, 0, none⟩)); have hS9 := Lib.hid (show (w5.setCell ⟨v, 3 + 0, none⟩ (.pointer (some ⟨q0, 0, none⟩))).cell? ⟨v + 2, 0, none⟩ = some (.int .i64 k) ∧ (w5.setCell ⟨v, 3 + 0, none⟩ (.pointer (some ⟨q0, 0, none⟩))).cell? ⟨v + 1, 0, none⟩ = some (.int .i64 0) from ⟨G8.s2.cell 0, G8.s1.cell 0⟩); have kS : w5.cell? ⟨v + 2, 0, none⟩ = some (.int .i64 k) ∧ w5.cell? ⟨v + 1, 0, none⟩ = some (.int .i64 0) := ⟨G7.s2.cell 0, G7.s1.cell 0⟩; have bq8 := Lib.hid (bq.other (p := ⟨v, 3 + 0, none⟩) (G7.wl.ne bq (by decide)).symm (.pointer (some ⟨q0, 0, none⟩))); have bm8 := Lib.hid (bm.out.other (p := ⟨v, 3 + 0, none⟩) (G7.wl.ne bm.out (by decide)).symm (.pointer (some ⟨q0, 0, none⟩))); have D8 := Lib.hid (D7.out.onv G7.wl (3 + 0) (.pointer (some ⟨q0, 0, none⟩))); replace G8 := Lib.hid G8; clear G7 hb hb2 bq bm D7))
  replace hm0 := Lib.hid hm0
  obtain ⟨X3, hX3⟩ : ∃ X3, w5.setCell ⟨v, 3 + 0, none⟩ (.pointer (some ⟨q0, 0, none⟩)) = X3 := ⟨_, rfl⟩
  have G9 := G8.out
  have D9 := D8.out
  have bq9 := bq8.out
  have bm9 := bm8.out
  rw [hX3] at G9 D9 bq9 bm9
  simp only [Nat.reduceAdd] at hX3 bq9
  rename_i hHeld_
  clear hHeld_ kS hS9 bq8 bm8 D8 G8 hS6 hbm bm G6 D6 hnw hq0 z0 z1 t0 t1 hmk
  go_upto_region 16 with (fail)
  rw [hX3]
  clear hX3
  have y0 : X3.cell? ⟨v, 3 + 0, none⟩ = some (.pointer (some ⟨q0, 0, none⟩)) := G9.wl.cell (3 + 0)
  have y1 : X3.cell? ⟨q0, 3, none⟩ = some (.int .i64 8) := bq9.cell 3
  have y2 := G9.wl.cell (5 + 0)
  have y3 := G9.wl.free (5 + 0)
  simp at y0 y2 y3
  have G10 := G9.put hwv (5 + 0) (.int .i64 8)
  have D10 := D9.onv G9.wl (5 + 0) (.int .i64 8)
  have bq10 := bq9.other (p := ⟨v, 5 + 0, none⟩) (G9.wl.ne bq9 (by decide)).symm (.int .i64 8)
  have bm10 := bm9.other (p := ⟨v, 5 + 0, none⟩) (G9.wl.ne bm9 (by decide)).symm (.int .i64 8)
  have hS9 := Lib.hid (show (X3.setCell ⟨v, 5 + 0, none⟩ (.int .i64 8)).drew.cell? ⟨v, 3 + 0, none⟩ = some (.pointer (some ⟨q0, 0, none⟩)) ∧ (X3.setCell ⟨v, 5 + 0, none⟩ (.int .i64 8)).drew.cell? ⟨q0, 3, none⟩ = some (.int .i64 8) from ⟨G10.wl.cell (3 + 0), bq10.cell 3⟩)
  replace G10 := Lib.hid G10
  replace D10 := Lib.hid D10
  replace bq10 := Lib.hid bq10
  replace bm10 := Lib.hid bm10
  clear G9 D9 bq9 bm9
  go_region_held3 (fun w' => w'.cell? ⟨v, 3 + 0, none⟩ = some (.pointer (some ⟨q0, 0, none⟩)) ∧ w'.cell? ⟨q0, 3, none⟩ = some (.int .i64 8)) (first | exact hS9.out | (simp [go_sem, *]; done) | go_keep) (fail)
  obtain ⟨Y0, hY0⟩ : ∃ Y, (X3.setCell ⟨v, 5 + 0, none⟩ (.int .i64 8)).drew = Y := ⟨_, rfl⟩
  have G11 := G10.out.go (below_drawn (Below.refl _ _) 1)
  have D11 := D10.out.draw
  have bq11 := bq10.out.draw
  have bm11 := bm10.out.draw
  have G12 : Bg w v p b L k u m none _ (X3.setCell ⟨v, 5 + 0, none⟩ (.int .i64 8)).drew := G11
  rw [hY0] at G12 D11 bq11 bm11
  simp only [Nat.reduceAdd] at hY0
  rw [hY0]
  clear hY0 G11 y0 y1 y2 y3 hS9 G10 D10 bq10 bm10
  have hG := Lib.hid G12
  have dk0 := Lib.hid D11
  have bq0 := Lib.hid bq11
  have bm0 := Lib.hid bm11
  clear G12 D11 bq11 bm11
  have hG2 : Bg w v p b L k u m (some (d0, q0, m0)) _ Y0 := ⟨hG.out.im, hG.out.wl, hG.out.s1, hG.out.s2, hG.out.s3, hG.out.bel, dk0.out, bq0.out, bm0.out⟩
  clear hG dk0 bq0 bm0
  have hG := Lib.hid hG2
  simp only [List.setIfInBounds_toArray, List.set_cons_zero, List.set_cons_succ, Nat.reduceAdd] at hG
  have hy0 := Lib.hid hG2.ex.1.bk.lt
  clear hG2
  go_wp2_with (fail)
  have hqm0 := hqm
  rw [rounds_succ]
  have s3 := hG.out.s3.cell 1
  simp at s3
  go_wp2_with (fail)
  refine (dnew_any hG.out.im 3 (.inr rfl)).mono ?_
  rintro e w4 ⟨d1, hd1, rfl, D1, hb⟩
  have hdw1 := Nat.le_trans hG.out.bel.size hd1
  replace hd1 := Lib.hid hd1
  replace hdw1 := Lib.hid hdw1
  have G4 := hG.out.go hb
  have x0 := G4.wl.cell (1 + 1)
  have x1 := G4.wl.free (1 + 1)
  simp at x0 x1
  have G5 := G4.put hwv (1 + 1) (.pointer (some ⟨d1, 0, none⟩))
  have D5 := D1.onv G4.wl (1 + 1) (.pointer (some ⟨d1, 0, none⟩))
  clear s3
  replace D5 := Lib.hid D5
  replace G5 := Lib.hid G5
  clear G4 D1 hb hG
  go_upto_region 15 with (fail)
  obtain ⟨X1, hX1⟩ : ∃ X1, w4.setCell ⟨v, 1 + 1, none⟩ (.pointer (some ⟨d1, 0, none⟩)) = X1 := ⟨_, rfl⟩
  rw [hX1] at G5 D5
  simp only [Nat.reduceAdd] at hX1
  rw [hX1]
  clear hX1 x0 x1
  have t0 := G5.out.s1.cell 1
  have t1 := G5.out.s2.cell 1
  simp at t0 t1
  have z0 := G5.out.wl.cell (3 + 1)
  have z1 := G5.out.wl.free (3 + 1)
  simp at z0 z1
  have hmk := make_u8t u hu2
  have hbm := (((Below.refl X1.heap.size X1).alloc (Nat.le_refl _) (.cells (u8s (List.replicate u 0)).toArray 5)).drew)
  have bm := (Bk.fresh X1 5 (u8s (List.replicate u 0)).toArray).draw
  obtain ⟨X2, hX2⟩ : ∃ X2, (X1.alloc (.cells (u8s (List.replicate u 0)).toArray 5)).drew = X2 := ⟨_, rfl⟩
  rw [hX2] at hbm bm
  have G6 := G5.out.go hbm
  have D6 := D5.out.bel hbm
  have hnw := rdnew_any X1.heap.size u m (by first | exact hm2 | decide) X2
  try simp only [Nat.cast_zero, Int.ofNat_zero, Int.natCast_zero] at hnw
  obtain ⟨m1, hm1⟩ : ∃ m1, X1.heap.size = m1 := ⟨_, rfl⟩
  obtain ⟨q1, hq1⟩ : ∃ q1, X2.heap.size = q1 := ⟨_, rfl⟩
  rw [hm1] at bm hnw
  rw [hq1] at hnw
  have hS6 : Hid (X2.cell? ⟨v + 2, 1, none⟩ = some (.int .i64 u) ∧ X2.cell? ⟨v + 1, 1, none⟩ = some (.int .i64 m)) := Lib.hid ⟨G6.s2.cell 1, G6.s1.cell 1⟩
  have hqm : q1 = m1 + 1 := by rw [← hq1, ← hm1, ← hX2]; show (X1.alloc _).heap.size = _; simp
  replace hbm := Lib.hid hbm
  replace bm := Lib.hid bm
  replace G6 := Lib.hid G6
  replace D6 := Lib.hid D6
  replace hnw := Lib.hid hnw
  replace hqm := Lib.hid hqm
  replace hq1 := Lib.hid hq1
  have hex1 := Lib.hid (show (Ex _ p b L k X1 ∧ Im X1 p b L (List.replicate L.b6 0) false false ∧ w.heap.size ≤ X1.heap.size) from ⟨G5.out.ex, G5.out.im, G5.out.bel.size⟩)
  clear G5 D5
  go_region_held3 (fun w' => w'.cell? ⟨v + 2, 1, none⟩ = some (.int .i64 u) ∧ w'.cell? ⟨v + 1, 1, none⟩ = some (.int .i64 m)) (first | exact hS6.out | exact hS9.out | (simp [go_sem, *]; done) | go_keep)
    ((go_at_call 40; (with_reducible refine Calls.mono hnw.out ?_); rintro e w5 ⟨rfl, bq, hb⟩; have hb2 : Below X2.heap.size X2 w5 := (by first | exact hb | (rw [hq1.out]; exact hb)); have bm := Lib.hid (bm.out.kept hb2 bm.out.lt); have D7 := Lib.hid (D6.out.bel hb2); have G7 := G6.out.go hb2; have z0 := G7.wl.cell (3 + 1); have z1 := G7.wl.free (3 + 1); simp at z0 z1; have G8 := G7.put hwv (3 + 1) (.pointer (some ⟨q1, 0, none⟩)); have hS9 := Lib.hid (show (w5.setCell ⟨v, 3 + 1, none⟩ (.pointer (some ⟨q1, 0, none⟩))).cell? ⟨v + 2, 1, none⟩ = some (.int .i64 u) ∧ (w5.setCell ⟨v, 3 + 1, none⟩ (.pointer (some ⟨q1, 0, none⟩))).cell? ⟨v + 1, 1, none⟩ = some (.int .i64 m) from ⟨G8.s2.cell 1, G8.s1.cell 1⟩); have kS : w5.cell? ⟨v + 2, 1, none⟩ = some (.int .i64 u) ∧ w5.cell? ⟨v + 1, 1, none⟩ = some (.int .i64 m) := ⟨G7.s2.cell 1, G7.s1.cell 1⟩; have bq8 := Lib.hid (bq.other (p := ⟨v, 3 + 1, none⟩) (G7.wl.ne bq (by decide)).symm (.pointer (some ⟨q1, 0, none⟩))); have bm8 := Lib.hid (bm.out.other (p := ⟨v, 3 + 1, none⟩) (G7.wl.ne bm.out (by decide)).symm (.pointer (some ⟨q1, 0, none⟩))); have D8 := Lib.hid (D7.out.onv G7.wl (3 + 1) (.pointer (some ⟨q1, 0, none⟩))); replace G8 := Lib.hid G8; clear G7 hb hb2 bq bm D7))
  obtain ⟨m8, hm8⟩ : ∃ m8, m + 8 = m8 := ⟨_, rfl⟩
  simp only [hm8] at bq8
  replace hm1 := Lib.hid hm1
  obtain ⟨X3, hX3⟩ : ∃ X3, w5.setCell ⟨v, 3 + 1, none⟩ (.pointer (some ⟨q1, 0, none⟩)) = X3 := ⟨_, rfl⟩
  have G9 := G8.out
  have D9 := D8.out
  have bq9 := bq8.out
  have bm9 := bm8.out
  rw [hX3] at G9 D9 bq9 bm9
  simp only [Nat.reduceAdd] at hX3 bq9
  rename_i hHeld_
  clear hHeld_ kS hS9 bq8 bm8 D8 G8 hS6 hbm bm G6 D6 hnw hq1 z0 z1 t0 t1 hmk
  go_upto_region 16 with (fail)
  rw [hX3]
  clear hX3
  have y0 : X3.cell? ⟨v, 3 + 1, none⟩ = some (.pointer (some ⟨q1, 0, none⟩)) := G9.wl.cell (3 + 1)
  have y1 : X3.cell? ⟨q1, 3, none⟩ = some (.int .i64 m8) := bq9.cell 3
  have y2 := G9.wl.cell (5 + 1)
  have y3 := G9.wl.free (5 + 1)
  simp at y0 y2 y3
  have G10 := G9.put hwv (5 + 1) (.int .i64 m8)
  have D10 := D9.onv G9.wl (5 + 1) (.int .i64 m8)
  have bq10 := bq9.other (p := ⟨v, 5 + 1, none⟩) (G9.wl.ne bq9 (by decide)).symm (.int .i64 m8)
  have bm10 := bm9.other (p := ⟨v, 5 + 1, none⟩) (G9.wl.ne bm9 (by decide)).symm (.int .i64 m8)
  have hS9 := Lib.hid (show (X3.setCell ⟨v, 5 + 1, none⟩ (.int .i64 m8)).drew.cell? ⟨v, 3 + 1, none⟩ = some (.pointer (some ⟨q1, 0, none⟩)) ∧ (X3.setCell ⟨v, 5 + 1, none⟩ (.int .i64 m8)).drew.cell? ⟨q1, 3, none⟩ = some (.int .i64 m8) from ⟨G10.wl.cell (3 + 1), bq10.cell 3⟩)
  replace G10 := Lib.hid G10
  replace D10 := Lib.hid D10
  replace bq10 := Lib.hid bq10
  replace bm10 := Lib.hid bm10
  clear G9 D9 bq9 bm9
  go_region_held3 (fun w' => w'.cell? ⟨v, 3 + 1, none⟩ = some (.pointer (some ⟨q1, 0, none⟩)) ∧ w'.cell? ⟨q1, 3, none⟩ = some (.int .i64 m8)) (first | exact hS9.out | (simp [go_sem, *]; done) | go_keep) (fail)
  obtain ⟨Y1, hY1⟩ : ∃ Y, (X3.setCell ⟨v, 5 + 1, none⟩ (.int .i64 m8)).drew = Y := ⟨_, rfl⟩
  have G11 := G10.out.go (below_drawn (Below.refl _ _) 1)
  have D11 := D10.out.draw
  have bq11 := bq10.out.draw
  have bm11 := bm10.out.draw
  have G12 : Bg w v p b L k u m (some (d0, q0, m0)) _ (X3.setCell ⟨v, 5 + 1, none⟩ (.int .i64 m8)).drew := G11
  rw [hY1] at G12 D11 bq11 bm11
  simp only [Nat.reduceAdd] at hY1
  rw [hY1]
  clear hY1 G11 y0 y1 y2 y3 hS9 G10 D10 bq10 bm10
  have hG := Lib.hid G12
  have dk1 := Lib.hid D11
  have bq1 := Lib.hid bq11
  have bm1 := Lib.hid bm11
  clear G12 D11 bq11 bm11
  simp only [List.setIfInBounds_toArray, List.set_cons_zero, List.set_cons_succ, Nat.reduceAdd] at hG
  go_wp2_with (fail)
  rw [rounds_succ]
  go_wp2_with (fail)
  go_returns
  have e2 : L.beg 2 = 0 + k := by rw [Nat.zero_add]; exact hk.out
  have e3 : L.beg 3 = m := hm.out
  have e4 : L.beg (3 + 1) = m + u := by
    have := hm.out
    have := hu.out
    show L.k + L.s + L.u = m + u
    omega
  have hok' := hok.out
  unfold Lay.ok at hok'
  have hlen : L.b6 = (L.k + L.s + L.u) + L.d + L.r := rfl
  have hkk := hk.out
  have huu := hu.out
  have hmm := hm.out
  have da := hG.out.ex.1
  rw [show L.beg 1 = 0 from rfl, e2] at da
  have dc := dk1.out
  rw [e3, e4] at dc
  have x0 := hex0.out
  have x1 := hex1.out
  have l0 := x0.2.1.by_.lt
  have l1 := x1.2.1.by_.lt
  have l2 := x1.1.2.1.lt
  have l3 := x1.1.2.2.lt
  rw [hm0.out] at l0 x0
  rw [hm1.out] at l1 l2 l3 x1
  have hq0 := hqm
  have hd1' := hd1.out
  have hy0' := hy0.out
  have w0 := hdw0.out
  have w1 := hdw1.out
  refine ⟨v, p, b, ⟨d0, q0, m0, 1, 0, k, 8, 0⟩, ⟨d1, q1, m1, 3, m, u, m8, 0⟩, rfl, rfl, rfl, rfl, rfl, rfl, rfl, ?_, 8, m8, 0, 0, .inl ⟨rfl, ?_⟩⟩
  · have hb6 : (List.replicate L.b6 (0 : UInt8)).length = L.b6 := List.length_replicate
    refine ⟨da, by rw [hm8] at dc; exact hm8 ▸ dc, ⟨hG.out.ex.2.1, ?_, ?_, ?_, ?_, ?_, ?_, ?_, ?_, .inl rfl⟩, ⟨bq1.out, ?_, ?_, ?_, ?_, ?_, ?_, ?_, ?_, .inl rfl⟩, ?_, ?_, ?_, ?_, ?_⟩
    · rw [show win 0 k (List.replicate L.b6 0) = _ from win_rep 0 k L.b6 (by omega)]; exact hG.out.ex.2.2
    · rw [hb6]; show 0 + k ≤ L.b6; omega
    · rfl
    · show k % 8 = 0; omega
    · show 24 ≤ k; omega
    · show 0 + k ≤ 143360; omega
    · show 0 + 8 ≤ 8; omega
    · show 8 ≤ 0 + k; omega
    · rw [show win m u (List.replicate L.b6 0) = _ from win_rep m u L.b6 (by omega)]; exact bm1.out
    · rw [hb6]; show m + u ≤ L.b6; omega
    · show m % 8 = 0; omega
    · show u % 8 = 0; omega
    · show 24 ≤ u; omega
    · show m + u ≤ 143360; omega
    · show m + 8 ≤ m8; omega
    · show m8 ≤ m + u; omega
    · show d0 ≠ d1; omega
    · show q0 ≠ q1; have := hqm.out; omega
    · show m0 ≠ m1; omega
    · show m0 ≠ b ∧ m1 ≠ b; omega
    · show 0 + k ≤ m ∨ m + u ≤ 0; omega
  · have v0 := x0.2.2
    have v1 := x1.2.2
    have v2 := hqm.out
    have v3 := hqm0.out
    refine ⟨hG.out.wl, hG.out.bel, hwv, zb, zp, w0, ?_, v0, w1, ?_, v1⟩
    · show w.heap.size ≤ q0; omega
    · show w.heap.size ≤ q1; omega
end Go.Proofs.Ytoaiiimnfgbcaaa
