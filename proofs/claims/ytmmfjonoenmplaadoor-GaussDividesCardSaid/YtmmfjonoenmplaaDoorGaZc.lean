import Derived.Test.YtmmfjonoenmplaaDoorGaZb
namespace Go.Proofs.YtmmfjonoenmplaaDoor
open Go.RowKit Go.Extern.Stop Go.Stop Go.Extern
set_option linter.unusedVariables false
set_option linter.unusedSimpArgs false
/-! the document's Gcd -/
structure G3 (w W : World) (g : Nat) (a b c : Int × Int) : Prop where
  z : Below w.heap.size w W
  a : Bk W g 25 #[.int .i64 a.1, .int .i64 a.2]
  b : Bk W (g + 1) 25 #[.int .i64 b.1, .int .i64 b.2]
  c : Bk W (g + 2) 25 #[.int .i64 c.1, .int .i64 c.2]
  gg : w.heap.size ≤ g
section
variable {w W W' : World} {g : Nat} {a b c : Int × Int}
theorem G3.bel (h : G3 w W g a b c) (hb : Below W.heap.size W W') : G3 w W' g a b c := ⟨h.z.trans (hb.mono h.z.size), h.a.kept hb h.a.lt, h.b.kept hb h.b.lt, h.c.kept hb h.c.lt, h.gg⟩
theorem G3.setA (h : G3 w W g a b c) (u : Int × Int) : G3 w ((W.setCell ⟨g, 0, none⟩ (.int .i64 u.1)).setCell ⟨g, 1, none⟩ (.int .i64 u.2)) g u b c :=
  ⟨(h.z.setCell (p := ⟨g, 0, none⟩) h.gg _).setCell (p := ⟨g, 1, none⟩) h.gg _, (h.a.put 0 _).put 1 _, (h.b.other (p := ⟨g, 0, none⟩) (by simp) _).other (p := ⟨g, 1, none⟩) (by simp) _, (h.c.other (p := ⟨g, 0, none⟩) (by simp) _).other (p := ⟨g, 1, none⟩) (by simp) _, h.gg⟩
theorem G3.setB (h : G3 w W g a b c) (u : Int × Int) : G3 w ((W.setCell ⟨g + 1, 0, none⟩ (.int .i64 u.1)).setCell ⟨g + 1, 1, none⟩ (.int .i64 u.2)) g a u c := by
  have h1 : w.heap.size ≤ g + 1 := Nat.le_succ_of_le h.gg
  exact ⟨(h.z.setCell (p := ⟨g + 1, 0, none⟩) h1 _).setCell (p := ⟨g + 1, 1, none⟩) h1 _, (h.a.other (p := ⟨g + 1, 0, none⟩) (by simp) _).other (p := ⟨g + 1, 1, none⟩) (by simp) _, (h.b.put 0 _).put 1 _, (h.c.other (p := ⟨g + 1, 0, none⟩) (by simp) _).other (p := ⟨g + 1, 1, none⟩) (by simp) _, h.gg⟩
theorem G3.setC (h : G3 w W g a b c) (u : Int × Int) : G3 w ((W.setCell ⟨g + 2, 0, none⟩ (.int .i64 u.1)).setCell ⟨g + 2, 1, none⟩ (.int .i64 u.2)) g a b u := by
  have h1 : w.heap.size ≤ g + 2 := by have := h.gg; omega
  exact ⟨(h.z.setCell (p := ⟨g + 2, 0, none⟩) h1 _).setCell (p := ⟨g + 2, 1, none⟩) h1 _, (h.a.other (p := ⟨g + 2, 0, none⟩) (by simp) _).other (p := ⟨g + 2, 1, none⟩) (by simp) _, (h.b.other (p := ⟨g + 2, 0, none⟩) (by simp) _).other (p := ⟨g + 2, 1, none⟩) (by simp) _, (h.c.put 0 _).put 1 _, h.gg⟩
theorem g3_start (a b : Int × Int) (w : World) : G3 w (((w.alloc (.cells #[.int .i64 a.1, .int .i64 a.2] 25)).alloc (.cells #[.int .i64 b.1, .int .i64 b.2] 25)).alloc (.cells #[.int .i64 0, .int .i64 0] 25)) w.heap.size a b (0, 0) := by
  have e1 : (w.alloc (.cells #[.int .i64 a.1, .int .i64 a.2] 25)).heap.size = w.heap.size + 1 := by simp
  have e2 : ((w.alloc (.cells #[.int .i64 a.1, .int .i64 a.2] 25)).alloc (.cells #[.int .i64 b.1, .int .i64 b.2] 25)).heap.size = w.heap.size + 2 := by simp
  refine ⟨(((Below.refl _ w).alloc (Nat.le_refl _) _).alloc (by rw [e1]; omega) _).alloc (by rw [e2]; omega) _, ((Bk.fresh w _ _).past _).past _, ?_, ?_, Nat.le_refl _⟩
  · have := Bk.fresh (w.alloc (.cells #[.int .i64 a.1, .int .i64 a.2] 25)) 25 #[.int .i64 b.1, .int .i64 b.2]
    rw [e1] at this
    exact this.past _
  · have := Bk.fresh ((w.alloc (.cells #[.int .i64 a.1, .int .i64 a.2] 25)).alloc (.cells #[.int .i64 b.1, .int .i64 b.2] 25)) 25 #[.int .i64 0, .int .i64 0]
    rw [e2] at this
    exact this
end
def muZ (x y : Option Value) : Nat := match x, y with
  | some (.int _ a), some (.int _ b) => normN (a, b)
  | _, _ => 0
set_option maxRecDepth 100000 in
set_option maxHeartbeats 4000000 in
theorem rgcd_any (a b : Int × Int) (ha : Sm a 16777216) (hb : Sm b 16777216) (w : World) : Calls Tryd.prog 18 #[zV a, zV b] w fun e w' => e = .returned (zV (firstZ (gcdZ a b))) ∧ Below w.heap.size w w' := by
  have hS := g3_start a b w
  have hdv := Lib.hid (fun (a b : Int × Int) ha hb h0 w => rdiv_any a b ha hb h0 w)
  have hfi := Lib.hid (fun (a : Int × Int) ha w => rfirst_any a ha w)
  obtain ⟨d, hd⟩ : ∃ d, firstZ (gcdZ a b) = d := ⟨_, rfl⟩
  rw [hd]
  unfold zV
  replace hS := Lib.hid hS
  go_enter Tryd.func18, Tryd.ntmps18
  go_wp2_with (fail)
  obtain ⟨g, hg⟩ : ∃ g, w.heap.size = g := ⟨_, rfl⟩
  rw [hg] at hS ⊢
  go_loopw [15] (fun _ wr => Hid (∃ a' b', firstZ (gcdZ a' b') = d ∧ Sm a' 16777216 ∧ Sm b' 16777216 ∧ G3 w wr g a' b' (0, 0))) (fun _ wr => muZ (wr.cell? ⟨g + 1, 0, none⟩) (wr.cell? ⟨g + 1, 1, none⟩))
  case atStart => exact Lib.hid ⟨a, b, hd, ha, hb, hS.out⟩
  case round =>
    clear hS hd ha hb
    obtain ⟨x, y, hd, hx, hy, hG_⟩ := hrel.out
    clear hrel
    have hG := Lib.hid hG_
    clear hG_
    have a0 := hG.out.a.cell 0
    have a1 := hG.out.a.cell 1
    have a2 := hG.out.a.free 0
    have a3 := hG.out.a.free 1
    have b0 := hG.out.b.cell 0
    have b1 := hG.out.b.cell 1
    have b2 := hG.out.b.free 0
    have b3 := hG.out.b.free 1
    simp at a0 a1 b0 b1
    have hmu : muZ (wr.cell? ⟨g + 1, 0, none⟩) (wr.cell? ⟨g + 1, 1, none⟩) = normN y := by rw [b0, b1]; rfl
    replace hmu := Lib.hid hmu
    by_cases h0 : y = (0, 0)
    · subst h0
      rw [gcdZ_end] at hd
      have rf := hfi.out x hx
      rw [hd] at rf
      unfold zV at rf
      replace rf := Lib.hid rf
      clear hmu
      go_wp2_with (fail)
      refine (rf.out _).mono ?_
      rintro e w3 ⟨rfl, hb_⟩
      replace hG := Lib.hid (hG.out.bel hb_)
      clear hb_ a0 a1 a2 a3 b0 b1 b2 b3
      have c0 := hG.out.c.cell 0
      have c1 := hG.out.c.cell 1
      have c2 := hG.out.c.free 0
      have c3 := hG.out.c.free 1
      simp at c0 c1
      go_wp2_with (fail)
      obtain ⟨w9, hw9⟩ : ∃ w9, (w3.setCell ⟨g + 2, 0, none⟩ (.int .i64 d.1)).setCell ⟨g + 2, 1, none⟩ (.int .i64 d.2) = w9 := ⟨_, rfl⟩
      have hG9 := hG.out.setC d
      rw [hw9] at hG9
      have e0 := hG9.c.cell 0
      have e1 := hG9.c.cell 1
      simp at e0 e1
      have hB9 := Lib.hid hG9.z
      clear hG c0 c1 c2 c3 hG9
      try rw [hw9]
      clear hw9
      refine bodyPost_ret (by simp [results, Tryd.results18, go_sem, *]; rfl) rfl ?_
      exact ⟨rfl, hB9.out⟩
    · have rd := hdv.out x y hx hy h0
      have hst := gcdZ_step (a := x) h0
      have hnl := norm_less x y h0
      have hsr := divR_sm (a := x) h0 hy
      obtain ⟨⟨q1, q2⟩, hq⟩ : ∃ q, divQ x y = q := ⟨_, rfl⟩
      obtain ⟨⟨r1, r2⟩, hr⟩ : ∃ r, divR x y = r := ⟨_, rfl⟩
      rw [hq, hr] at rd
      rw [hr] at hst hnl hsr
      unfold zV at rd
      simp only at rd
      replace rd := Lib.hid rd
      replace hst := Lib.hid hst
      replace hnl := Lib.hid hnl
      replace hsr := Lib.hid hsr
      clear hq hr
      by_cases hy1 : y.1 = 0
      · have hy2 : ¬ y.2 = 0 := fun h2 => h0 (Prod.ext hy1 h2)
        have t1 : (y.1 != 0) = false := by simpa using hy1
        have t2 : (y.2 != 0) = true := by simpa using hy2
        replace hy1 := Lib.hid hy1
        replace hy2 := Lib.hid hy2
        replace h0 := Lib.hid h0
        go_wp2_with (fail)
        refine (rd.out _).mono ?_
        rintro e w3 ⟨rfl, hb_⟩
        have hz3 : g + 2 < w3.heap.size := (hG.out.bel hb_).c.lt
        replace hG := Lib.hid ((hG.out.bel hb_).bel (((Below.refl w3.heap.size w3).alloc (Nat.le_refl _) (.cells #[.int .i64 q1, .int .i64 q2] 25)).alloc (by simp) (.cells #[.int .i64 r1, .int .i64 r2] 25)))
        have hr6 := Bk.fresh (w3.alloc (.cells #[.int .i64 q1, .int .i64 q2] 25)) 25 #[.int .i64 r1, .int .i64 r2]
        simp only [World.size_alloc] at hr6
        clear hb_ a0 a1 a2 a3 b0 b1 b2 b3
        have a0 := hG.out.a.cell 0
        have a1 := hG.out.a.cell 1
        have a2 := hG.out.a.free 0
        have a3 := hG.out.a.free 1
        have b0 := hG.out.b.cell 0
        have b1 := hG.out.b.cell 1
        have b2 := hG.out.b.free 0
        have b3 := hG.out.b.free 1
        simp at a0 a1 b0 b1
        have c0 := hr6.cell 0
        have c1 := hr6.cell 1
        simp at c0 c1
        go_wp2_with (fail)
        have hG2 := (hG.out.setA y).setB (r1, r2)
        refine ⟨Lib.hid ⟨y, (r1, r2), by rw [hst.out]; exact hd, hy, hsr.out, hG2⟩, ?_⟩
        have e0 := hG2.b.cell 0
        have e1 := hG2.b.cell 1
        rw [hmu.out]
        simp only at e0 e1
        rw [e0, e1]
        exact hnl.out
      · have t1 : (y.1 != 0) = true := by simpa using hy1
        replace hy1 := Lib.hid hy1
        replace h0 := Lib.hid h0
        go_wp2_with (fail)
        refine (rd.out _).mono ?_
        rintro e w3 ⟨rfl, hb_⟩
        have hz3 : g + 2 < w3.heap.size := (hG.out.bel hb_).c.lt
        replace hG := Lib.hid ((hG.out.bel hb_).bel (((Below.refl w3.heap.size w3).alloc (Nat.le_refl _) (.cells #[.int .i64 q1, .int .i64 q2] 25)).alloc (by simp) (.cells #[.int .i64 r1, .int .i64 r2] 25)))
        have hr6 := Bk.fresh (w3.alloc (.cells #[.int .i64 q1, .int .i64 q2] 25)) 25 #[.int .i64 r1, .int .i64 r2]
        simp only [World.size_alloc] at hr6
        clear hb_ a0 a1 a2 a3 b0 b1 b2 b3
        have a0 := hG.out.a.cell 0
        have a1 := hG.out.a.cell 1
        have a2 := hG.out.a.free 0
        have a3 := hG.out.a.free 1
        have b0 := hG.out.b.cell 0
        have b1 := hG.out.b.cell 1
        have b2 := hG.out.b.free 0
        have b3 := hG.out.b.free 1
        simp at a0 a1 b0 b1
        have c0 := hr6.cell 0
        have c1 := hr6.cell 1
        simp at c0 c1
        go_wp2_with (fail)
        have hG2 := (hG.out.setA y).setB (r1, r2)
        refine ⟨Lib.hid ⟨y, (r1, r2), by rw [hst.out]; exact hd, hy, hsr.out, hG2⟩, ?_⟩
        have e0 := hG2.b.cell 0
        have e1 := hG2.b.cell 1
        rw [hmu.out]
        simp only at e0 e1
        rw [e0, e1]
        exact hnl.out
end Go.Proofs.YtmmfjonoenmplaaDoor
