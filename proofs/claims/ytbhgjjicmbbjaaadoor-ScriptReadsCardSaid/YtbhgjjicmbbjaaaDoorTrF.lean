import Derived.Test.YtbhgjjicmbbjaaaDoorTrE
namespace Go.Proofs.YtbhgjjicmbbjaaaDoor
open Go.RowKit
set_option linter.unusedVariables false
set_option linter.unusedSimpArgs false
/-! chapter 17: public, private -/
def puV (x : Pu) : Value := .agg #[.string x.out, .int .i64 x.fault, .int .i64 x.fuel]
def prV (x : Pr) : Value := .agg #[.int .i64 x.points, .bool x.said, .int .i64 x.fault, .int .i64 x.fuel, .string x.log]
def inI (x : Int) : Prop := -9223372036854775808 ≤ x ∧ x ≤ 9223372036854775807
def puI (x : Pu) : Prop := inI x.fault ∧ inI x.fuel ∧ x.out.size ≤ 400000
def prI (x : Pr) : Prop := inI x.points ∧ inI x.fault ∧ inI x.fuel ∧ x.log.size ≤ 400000
/-- a box stands beside what is laid -/
structure Bx (w0 : World) (b : Nat) (t : TypeId) (vs : Array Value) (W : World) : Prop where
  mark : Mk W
  bk : Bk W b t vs
  bl : Below w0.heap.size w0 W
section
variable {w0 W W' : World} {b : Nat} {t : TypeId} {vs : Array Value}
theorem Bx.bel (h : Bx w0 b t vs W) (hb : Below W.heap.size W W') : Bx w0 b t vs W' := ⟨h.mark.bel hb, h.bk.kept hb h.bk.lt, h.bl.trans (hb.mono h.bl.size)⟩
theorem Bx.draws (h : Bx w0 b t vs W) (n : Nat) : Bx w0 b t vs (W.drewN n) := h.bel ⟨rfl, rfl, rfl, Nat.le_refl _, fun _ _ => rfl⟩
theorem Bx.draw (h : Bx w0 b t vs W) : Bx w0 b t vs W.drew := h.draws 1
end
theorem Mk.box {w : World} (h : Mk w) (t : TypeId) (vs : Array Value) : Bx w w.heap.size t vs (w.alloc (.cells vs t)) :=
  ⟨h.bel ((Below.refl _ _).alloc (Nat.le_refl _) _), Bk.fresh w t vs, (Below.refl _ _).alloc (Nat.le_refl _) _⟩
theorem cat_run (a b : ByteArray) (hl : a.size + b.size ≤ 140737488355328) (w : World) : (Op.stringOp .add a b).run Tryd.prog w = .ok (.string ⟨(a.data.toList ++ b.data.toList).toArray⟩) w := by
  rw [run_string_add_sum w a b (by omega)]
  congr 2
theorem ba_size (l : List UInt8) : (ByteArray.mk l.toArray).size = l.length := rfl
theorem ba_list (l : List UInt8) : (ByteArray.mk l.toArray).data.toList = l := by simp
theorem itoa_len {n : Int} (h : inI n) : (Lib.itoa n).length ≤ 21 := Lib.itoa_length_le n h.1 h.2
theorem quote_size (s : ByteArray) : (quoteL s.data.toList).length ≤ 4 * s.size + 2 := by
  have := quoteL_len s.data.toList
  rw [data_size] at this
  exact this
set_option maxRecDepth 100000 in
set_option maxHeartbeats 4000000 in
theorem public_any (x : Pu) (hx : puI x) (w : World) (hM : Mk w) : Calls Tryd.prog 27 #[puV x] w fun e w' => e = .returned (.tuple #[.string ⟨(puL x).toArray⟩, .bool (puOk x)]) ∧ Below w.heap.size w w' := by
  obtain ⟨s, f, n⟩ := x
  obtain ⟨h1, h2, h3⟩ := hx
  simp only at h1 h2 h3
  have hwd := Lib.hid (fun W (h : Mk W) => word_any f W h)
  have hit := Lib.hid (fun W (h : Mk W) => itoa_any n h2.1 h2.2 W h)
  have hqu := Lib.hid (fun W => quoted_any s h3 W)
  have hri := Lib.hid (fun W (h : Mk W) => right_any f n s W h)
  have l1 := wordL_len f
  have l2 := itoa_len h2
  have l3 := quote_size s
  obtain ⟨R, hR⟩ : ∃ R, rightP f n s = R := ⟨_, rfl⟩
  have hpu : puOk ⟨s, f, n⟩ = R := hR
  have hpl : puL ⟨s, f, n⟩ = wordL f ++ [32] ++ Lib.itoa n ++ [32] ++ quoteL s.data.toList := rfl
  rw [hpu, hpl]
  rw [hR] at hri
  clear hpu hpl hR
  unfold wordB at hwd
  have c1 := cat_run ⟨(wordL f).toArray⟩ ⟨#[32]⟩ (by rw [ba_size]; show _ + 1 ≤ _; omega)
  have c2 := cat_run ⟨(wordL f ++ [32]).toArray⟩ ⟨(Lib.itoa n).toArray⟩ (by rw [ba_size, ba_size, List.length_append, List.length_singleton]; omega)
  have c3 := cat_run ⟨(wordL f ++ [32] ++ Lib.itoa n).toArray⟩ ⟨#[32]⟩ (by rw [ba_size, List.length_append, List.length_append, List.length_singleton]; show _ + 1 ≤ _; omega)
  have c4 := cat_run ⟨(wordL f ++ [32] ++ Lib.itoa n ++ [32]).toArray⟩ ⟨(quoteL s.data.toList).toArray⟩ (by rw [ba_size, ba_size, List.length_append, List.length_append, List.length_append, List.length_singleton]; omega)
  rw [ba_list, show (⟨#[32]⟩ : ByteArray).data.toList = [32] from rfl] at c1 c3
  rw [ba_list, ba_list] at c2 c4
  obtain ⟨S1, e1⟩ : ∃ S : ByteArray, ⟨(wordL f).toArray⟩ = S := ⟨_, rfl⟩
  obtain ⟨S2, e2⟩ : ∃ S : ByteArray, ⟨(wordL f ++ [32]).toArray⟩ = S := ⟨_, rfl⟩
  obtain ⟨S3, e3⟩ : ∃ S : ByteArray, ⟨(wordL f ++ [32] ++ Lib.itoa n).toArray⟩ = S := ⟨_, rfl⟩
  obtain ⟨S4, e4⟩ : ∃ S : ByteArray, ⟨(wordL f ++ [32] ++ Lib.itoa n ++ [32]).toArray⟩ = S := ⟨_, rfl⟩
  obtain ⟨S5, e5⟩ : ∃ S : ByteArray, ⟨(wordL f ++ [32] ++ Lib.itoa n ++ [32] ++ quoteL s.data.toList).toArray⟩ = S := ⟨_, rfl⟩
  obtain ⟨T1, t1⟩ : ∃ S : ByteArray, ⟨(Lib.itoa n).toArray⟩ = S := ⟨_, rfl⟩
  obtain ⟨T2, t2⟩ : ∃ S : ByteArray, ⟨(quoteL s.data.toList).toArray⟩ = S := ⟨_, rfl⟩
  simp only [e1, e2, e3, e4, e5, t1, t2] at c1 c2 c3 c4 hwd hit hqu
  rw [e5]
  clear e1 e2 e3 e4 e5 t1 t2 l1 l2 l3 h1 h2 h3
  have hZ := hM.box 27 #[.string s, .int .i64 f, .int .i64 n]
  unfold puV
  simp only
  obtain ⟨q, hq⟩ : ∃ q, w.heap.size = q := ⟨_, rfl⟩
  rw [hq] at hZ
  have k0 := hZ.bk.cell 0
  have k1 := hZ.bk.cell 1
  have k2 := hZ.bk.cell 2
  simp at k0 k1 k2
  replace hZ := Lib.hid hZ
  clear hM
  go_enter Tryd.func27, Tryd.ntmps27
  go_upto_region 1 with (fail)
  go_region_held3 (fun w' => w'.cell? ⟨q, 0, none⟩ = some (.string s) ∧ w'.cell? ⟨q, 1, none⟩ = some (.int .i64 f) ∧ w'.cell? ⟨q, 2, none⟩ = some (.int .i64 n)) (first | (simp [go_sem, *]; done) | go_keep) (first
    | (go_at_call 18; (with_reducible refine Calls.mono (hwd.out _ (by first | exact hZ.out.mark | exact hZ.out.draw.mark)) ?_); rintro e w1_ ⟨rfl, hb⟩; have hZ2 := Bx.bel (by first | exact hZ.out | exact hZ.out.draw) hb; replace hZ := Lib.hid hZ2; clear hZ2 hb; have kS : w1_.cell? ⟨q, 0, none⟩ = some (.string s) ∧ w1_.cell? ⟨q, 1, none⟩ = some (.int .i64 f) ∧ w1_.cell? ⟨q, 2, none⟩ = some (.int .i64 n) := ⟨hZ.out.bk.cell 0, hZ.out.bk.cell 1, hZ.out.bk.cell 2⟩)
    | (go_at_call 44; (with_reducible refine Calls.mono (hit.out _ (by first | exact hZ.out.mark | exact hZ.out.draw.mark)) ?_); rintro e w1_ ⟨rfl, hb⟩; have hZ2 := Bx.bel (by first | exact hZ.out | exact hZ.out.draw) hb; replace hZ := Lib.hid hZ2; clear hZ2 hb; have kS : w1_.cell? ⟨q, 0, none⟩ = some (.string s) ∧ w1_.cell? ⟨q, 1, none⟩ = some (.int .i64 f) ∧ w1_.cell? ⟨q, 2, none⟩ = some (.int .i64 n) := ⟨hZ.out.bk.cell 0, hZ.out.bk.cell 1, hZ.out.bk.cell 2⟩)
    | (go_at_call 46; (with_reducible refine Calls.mono (hqu.out _) ?_); rintro e w1_ ⟨rfl, hb⟩; have hZ2 := Bx.bel (by first | exact hZ.out | exact hZ.out.draw) hb; replace hZ := Lib.hid hZ2; clear hZ2 hb; have kS : w1_.cell? ⟨q, 0, none⟩ = some (.string s) ∧ w1_.cell? ⟨q, 1, none⟩ = some (.int .i64 f) ∧ w1_.cell? ⟨q, 2, none⟩ = some (.int .i64 n) := ⟨hZ.out.bk.cell 0, hZ.out.bk.cell 1, hZ.out.bk.cell 2⟩)
    | (go_at_call 47; (with_reducible refine Calls.mono (hri.out _ (by first | exact hZ.out.mark | exact hZ.out.draw.mark)) ?_); rintro e w1_ ⟨rfl, hb⟩; have hZ2 := Bx.bel (by first | exact hZ.out | exact hZ.out.draw) hb; replace hZ := Lib.hid hZ2; clear hZ2 hb; have kS : w1_.cell? ⟨q, 0, none⟩ = some (.string s) ∧ w1_.cell? ⟨q, 1, none⟩ = some (.int .i64 f) ∧ w1_.cell? ⟨q, 2, none⟩ = some (.int .i64 n) := ⟨hZ.out.bk.cell 0, hZ.out.bk.cell 1, hZ.out.bk.cell 2⟩))
  go_wp2_with (fail)
  go_returns
  exact ⟨rfl, hZ.out.bl⟩
end Go.Proofs.YtbhgjjicmbbjaaaDoor
