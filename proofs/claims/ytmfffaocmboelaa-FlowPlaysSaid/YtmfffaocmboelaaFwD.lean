import Derived.Test.YtmfffaocmboelaaFwC
namespace Go.Proofs.Ytmfffaocmboelaa
open Go.RowKit
set_option linter.unusedVariables false
set_option linter.unusedSimpArgs false
/-! the words of branch, each once -/
/-- a thing's cells at place o of block g -/
structure Tp (w : World) (g o : Nat) (word : ByteArray) (at_ tg : Int) (m : Value) : Prop where
  c0 : w.cell? ⟨g, o, none⟩ = some (.string word)
  c1 : w.cell? ⟨g, o + 1, none⟩ = some (.int .i64 at_)
  c2 : w.cell? ⟨g, o + 2, none⟩ = some (.int .i64 tg)
  c3 : w.cell? ⟨g, o + 3, none⟩ = some m
  fr : ∀ i, w.frozen? ⟨g, i, none⟩ = false
def set4 (w : World) (g o : Nat) (a b c d : Value) : World := (((w.setCell ⟨g, o, none⟩ a).setCell ⟨g, o + 1, none⟩ b).setCell ⟨g, o + 2, none⟩ c).setCell ⟨g, o + 3, none⟩ d
section
variable {w w' : World} {b g o : Nat} {here behind y : Int} {T : Addr} {n0 n1 n2 n3 v m : Value} {l : List Ac} {word : ByteArray} {at_ tg : Int}
theorem Tp.bel {B : Nat} (h : Tp w g o word at_ tg m) (hb : Below B w w') (hg : g < B) : Tp w' g o word at_ tg m :=
  ⟨(hb.cell (p := ⟨g, o, none⟩) hg).trans h.c0, (hb.cell (p := ⟨g, o + 1, none⟩) hg).trans h.c1, (hb.cell (p := ⟨g, o + 2, none⟩) hg).trans h.c2, (hb.cell (p := ⟨g, o + 3, none⟩) hg).trans h.c3, fun i => (hb.frozen (p := ⟨g, i, none⟩) hg).trans (h.fr i)⟩
theorem Wk.draw (h : Wk w b v l here behind T n0 n1 n2 n3) : Wk w.drew b v l here behind T n0 n1 n2 n3 := ⟨h.bk, h.row⟩
theorem Wk.draws (h : Wk w b v l here behind T n0 n1 n2 n3) (n : Nat) : Wk (w.drewN n) b v l here behind T n0 n1 n2 n3 := ⟨h.bk, h.row⟩
theorem Wk.past (h : Wk w b v l here behind T n0 n1 n2 n3) (o : Obj) : Wk (w.alloc o) b v l here behind T n0 n1 n2 n3 := ⟨h.bk.past o, h.row.alloc o⟩
theorem Wk.onl {s : Nat → Prop} (h : Wk w b v l here behind T n0 n1 n2 n3) (hO : Onl s w w') (hs : ∀ k, s k → k < b) : Wk w' b v l here behind T n0 n1 n2 n3 :=
  ⟨hO.bk h.bk (fun e => by have := hs b e; omega), hO.row h.row (fun k hk e => by have := own_ge h.row k hk; have := hs k e; omega)⟩
theorem Onl.set4 {s : Nat → Prop} {a w : World} (h : Onl s a w) (hg : s g) (x0 x1 x2 x3 : Value) : Onl s a (set4 w g o x0 x1 x2 x3) :=
  (((h.put (p := ⟨g, o, none⟩) (.inl hg) _).put (p := ⟨g, o + 1, none⟩) (.inl hg) _).put (p := ⟨g, o + 2, none⟩) (.inl hg) _).put (p := ⟨g, o + 3, none⟩) (.inl hg) _
theorem below_set4 {B : Nat} {a w : World} (h : Below B a w) (hg : B ≤ g) (x0 x1 x2 x3 : Value) : Below B a (set4 w g o x0 x1 x2 x3) :=
  (((h.setCell (p := ⟨g, o, none⟩) hg _).setCell (p := ⟨g, o + 1, none⟩) hg _).setCell (p := ⟨g, o + 2, none⟩) hg _).setCell (p := ⟨g, o + 3, none⟩) hg _
theorem Wk.next (h : Wk w b v l here behind T n0 n1 n2 n3) (m0 m1 m2 m3 : Value) : Wk (set4 w b 4 m0 m1 m2 m3) b v l here behind T m0 m1 m2 m3 := by
  refine ⟨?_, (Onl.set4 (g := b) (o := 4) (Onl.refl (fun k => k = b) w) rfl m0 m1 m2 m3).row h.row (fun k hk e => by have := own_ge h.row k hk; omega)⟩
  exact (((h.bk.put 4 m0).put 5 m1).put 6 m2).put 7 m3
set_option maxHeartbeats 1000000 in
theorem br_if (h : Wk w b (.slice none 0 0) [] here here T n0 n1 n2 n3) (hy : IntKind.i64.wrap (here + 8) = y) :
    Calls Try.prog 19 #[.pointer (some ⟨b, 0, none⟩), .string ⟨#[73, 70]⟩] w fun e w' => e = .returned (.int .i64 1) ∧ ∃ v', Wk w' b v' [⟨false, here, 5, 0⟩] here y T (.string ⟨#[73, 70]⟩) (.int .i64 here) (.int .i64 0) (.slice none 0 0) ∧ Below b w w' := by
  have hL := lay_any h (Nat.zero_le _) 5 0 y hy
  replace hL := Lib.hid hL
  clear h
  go_enter Try.func19, Try.ntmps19
  go_wp2_with (go_at_call 28; refine hL.out.mono ?_; rintro e w1 ⟨rfl, v', hW, hB⟩; have c1 := hW.bk.cell 1; have c2 := hW.bk.cell 2; have c3 := hW.bk.cell 3; have c4 := hW.bk.cell 4; have c5 := hW.bk.cell 5; have c6 := hW.bk.cell 6; have c7 := hW.bk.cell 7; have d4 := hW.bk.free 4; have d5 := hW.bk.free 5; have d6 := hW.bk.free 6; have d7 := hW.bk.free 7; simp at c1 c2 c3 c4 c5 c6 c7; replace hW := Lib.hid hW; replace hB := Lib.hid hB)
  go_returns
  exact ⟨rfl, v', hW.out.next _ _ _ _, below_set4 hB.out (Nat.le_refl _) _ _ _ _⟩
set_option maxHeartbeats 1000000 in
theorem br_begin (h : Wk w b (.slice none 0 0) [] here here T n0 n1 n2 n3) :
    Calls Try.prog 19 #[.pointer (some ⟨b, 0, none⟩), .string ⟨#[66, 69, 71, 73, 78]⟩] w fun e w' => e = .returned (.int .i64 1) ∧ Wk w' b (.slice none 0 0) [] here here T (.string ⟨#[66, 69, 71, 73, 78]⟩) (.int .i64 here) (.int .i64 0) (.slice none 0 0) ∧ Below b w w' := by
  have hW := h
  have c1 := hW.bk.cell 1; have c2 := hW.bk.cell 2; have c3 := hW.bk.cell 3; have c4 := hW.bk.cell 4; have c5 := hW.bk.cell 5; have c6 := hW.bk.cell 6; have c7 := hW.bk.cell 7; have d4 := hW.bk.free 4; have d5 := hW.bk.free 5; have d6 := hW.bk.free 6; have d7 := hW.bk.free 7; simp at c1 c2 c3 c4 c5 c6 c7
  clear hW
  replace h := Lib.hid h
  go_enter Try.func19, Try.ntmps19
  go_wp2_with (fail)
  go_returns
  exact ⟨rfl, h.out.next _ _ _ _, below_set4 (Below.refl _ _) (Nat.le_refl _) _ _ _ _⟩
set_option maxHeartbeats 1000000 in
theorem br_again (h : Wk w b (.slice none 0 0) [] here here ⟨g, o, none⟩ n0 n1 n2 n3) (hT : Tp w g o word at_ tg m) (hg : g < b) (hy : IntKind.i64.wrap (here + 8) = y) :
    Calls Try.prog 19 #[.pointer (some ⟨b, 0, none⟩), .string ⟨#[65, 71, 65, 73, 78]⟩] w fun e w' => e = .returned (.int .i64 4) ∧ ∃ v', Wk w' b v' [⟨false, here, 4, at_⟩] here y ⟨g, o, none⟩ n0 n1 n2 n3 ∧ Below b w w' := by
  have hL := lay_any h (Nat.zero_le _) 4 at_ y hy
  have hW := h
  have t1 := hT.c1
  have c1 := hW.bk.cell 1; have c2 := hW.bk.cell 2; have c3 := hW.bk.cell 3; have c4 := hW.bk.cell 4; have c5 := hW.bk.cell 5; have c6 := hW.bk.cell 6; have c7 := hW.bk.cell 7; have d4 := hW.bk.free 4; have d5 := hW.bk.free 5; have d6 := hW.bk.free 6; have d7 := hW.bk.free 7; simp at c1 c2 c3 c4 c5 c6 c7
  clear hW hT
  replace hL := Lib.hid hL
  clear h
  go_enter Try.func19, Try.ntmps19
  go_wp2_with (go_at_call 28; refine hL.out.mono ?_; rintro e w1 ⟨rfl, v', hW, hB⟩; replace hW := Lib.hid hW; replace hB := Lib.hid hB)
  go_returns
  exact ⟨rfl, v', hW.out, hB.out⟩
set_option maxHeartbeats 1000000 in
theorem br_until (h : Wk w b (.slice none 0 0) [] here here ⟨g, o, none⟩ n0 n1 n2 n3) (hT : Tp w g o word at_ tg m) (hg : g < b) (hy : IntKind.i64.wrap (here + 8) = y) :
    Calls Try.prog 19 #[.pointer (some ⟨b, 0, none⟩), .string ⟨#[85, 78, 84, 73, 76]⟩] w fun e w' => e = .returned (.int .i64 4) ∧ ∃ v', Wk w' b v' [⟨false, here, 5, at_⟩] here y ⟨g, o, none⟩ n0 n1 n2 n3 ∧ Below b w w' := by
  have hL := lay_any h (Nat.zero_le _) 5 at_ y hy
  have hW := h
  have t1 := hT.c1
  have c1 := hW.bk.cell 1; have c2 := hW.bk.cell 2; have c3 := hW.bk.cell 3; have c4 := hW.bk.cell 4; have c5 := hW.bk.cell 5; have c6 := hW.bk.cell 6; have c7 := hW.bk.cell 7; have d4 := hW.bk.free 4; have d5 := hW.bk.free 5; have d6 := hW.bk.free 6; have d7 := hW.bk.free 7; simp at c1 c2 c3 c4 c5 c6 c7
  clear hW hT
  replace hL := Lib.hid hL
  clear h
  go_enter Try.func19, Try.ntmps19
  go_wp2_with (go_at_call 28; refine hL.out.mono ?_; rintro e w1 ⟨rfl, v', hW, hB⟩; replace hW := Lib.hid hW; replace hB := Lib.hid hB)
  go_returns
  exact ⟨rfl, v', hW.out, hB.out⟩
set_option maxHeartbeats 1000000 in
theorem br_while (h : Wk w b (.slice none 0 0) [] here here ⟨g, o, none⟩ n0 n1 n2 n3) (hT : Tp w g o word at_ tg m) (hg : g < b) (hy : IntKind.i64.wrap (here + 8) = y) :
    Calls Try.prog 19 #[.pointer (some ⟨b, 0, none⟩), .string ⟨#[87, 72, 73, 76, 69]⟩] w fun e w' => e = .returned (.int .i64 2) ∧ ∃ v' w1, Wk w1 b v' [⟨false, here, 5, 0⟩] here y ⟨g, o, none⟩ n0 n1 n2 n3 ∧ Below b w w1 ∧ w' = set4 w1 g o (.string ⟨#[87, 72, 73, 76, 69]⟩) (.int .i64 at_) (.int .i64 here) (.slice none 0 0) := by
  have hL := lay_any h (Nat.zero_le _) 5 0 y hy
  replace hL := Lib.hid hL
  replace hT := Lib.hid hT
  replace hg := Lib.hid hg
  clear h
  go_enter Try.func19, Try.ntmps19
  go_wp2_with (go_at_call 28; refine hL.out.mono ?_; rintro e w1 ⟨rfl, v', hW, hB⟩; have c1 := hW.bk.cell 1; have c2 := hW.bk.cell 2; have c3 := hW.bk.cell 3; have c4 := hW.bk.cell 4; have c5 := hW.bk.cell 5; have c6 := hW.bk.cell 6; have c7 := hW.bk.cell 7; have d4 := hW.bk.free 4; have d5 := hW.bk.free 5; have d6 := hW.bk.free 6; have d7 := hW.bk.free 7; simp at c1 c2 c3 c4 c5 c6 c7; replace hW := Lib.hid hW; replace hB := Lib.hid hB)
  have hT1 := hT.out.bel hB.out hg.out
  have t0 := hT1.c0
  have t1 := hT1.c1
  have t2 := hT1.c2
  have t3 := hT1.c3
  have f0 := hT1.fr o
  have f1 := hT1.fr (o + 1)
  have f2 := hT1.fr (o + 2)
  have f3 := hT1.fr (o + 3)
  clear hT1
  go_still_tail 17, (by kernel_rfl)
  change wpList _ _ _ _ _ w1.drew
  go_wp2_with (fail)
  go_returns
  exact ⟨rfl, v', w1.drew, hW.out.draw, hB.out.drew, rfl⟩
/-- a patch of one place, in a region that draws -/
theorem patch_one (h : Wk w b v l here behind T n0 n1 n2 n3) (hl : l.length + 1 ≤ 100000) (p y : Int) :
    Calls Try.prog 21 #[.pointer (some ⟨b, 0, none⟩), .int .i64 y, .slice (some ⟨w.heap.size, 0, none⟩) 1 1] (w.alloc (.cells #[.int .i64 p] 3)).drew fun e w' => e = .returned (.tuple #[]) ∧ ∃ v', Wk w' b v' (l ++ [⟨true, p, 0, y⟩]) here behind T n0 n1 n2 n3 ∧ Below b w w' := by
  have hlt := h.bk.lt
  have := patch_any (h.draw.past (.cells #[.int .i64 p] 3)) (some ⟨w.heap.size, 0, none⟩) 1 [p] (.inr ⟨w.heap.size, #[.int .i64 p], rfl, Bk.fresh w.drew _ _, fun i hi => by
    match i, hi with
    | 0, _ => rfl⟩) hl y
  exact this.mono fun e w' ⟨h1, v', h2, h3⟩ => ⟨h1, v', h2, (((Below.refl b w).drew).alloc (by show b ≤ w.heap.size; omega) _).trans h3⟩
set_option maxHeartbeats 1000000 in
theorem br_then (h : Wk w b (.slice none 0 0) [] here here ⟨g, o, none⟩ n0 n1 n2 n3) (hT : Tp w g o word at_ tg m) (hg : g < b) :
    Calls Try.prog 19 #[.pointer (some ⟨b, 0, none⟩), .string ⟨#[84, 72, 69, 78]⟩] w fun e w' => e = .returned (.int .i64 4) ∧ ∃ v', Wk w' b v' [⟨true, at_, 0, here⟩] here here ⟨g, o, none⟩ n0 n1 n2 n3 ∧ Below b w w' := by
  have hP := patch_one h (by decide) at_ here
  have c1 := h.bk.cell 1
  have c3 := h.bk.cell 3
  have t1 := hT.c1
  simp at c1 c3
  replace hP := Lib.hid hP
  replace hT := Lib.hid hT
  replace hg := Lib.hid hg
  clear h
  go_enter Try.func19, Try.ntmps19
  go_wp2_with (fail)
  go_region_held3 (fun w' => w'.cell? ⟨b, 1, none⟩ = some (.int .i64 here) ∧ w'.cell? ⟨b, 3, none⟩ = some (.pointer (some ⟨g, o, none⟩)) ∧ w'.cell? ⟨g, o + 1, none⟩ = some (.int .i64 at_)) (go_keep)
    ((go_at_call 21; (with_reducible refine Calls.mono hP.out ?_); rintro e w1_ ⟨rfl, v', hW, hB⟩; have kS : w1_.cell? ⟨b, 1, none⟩ = some (.int .i64 here) ∧ w1_.cell? ⟨b, 3, none⟩ = some (.pointer (some ⟨g, o, none⟩)) ∧ w1_.cell? ⟨g, o + 1, none⟩ = some (.int .i64 at_) := ⟨hW.bk.cell 1, hW.bk.cell 3, (hT.out.bel hB hg.out).c1⟩; replace hW := Lib.hid hW; replace hB := Lib.hid hB))
  all_goals (go_wp2_with (fail))
  all_goals go_returns
  all_goals exact ⟨rfl, v', hW.out, hB.out⟩
set_option maxHeartbeats 2000000 in
theorem br_repeat (h : Wk w b (.slice none 0 0) [] here here ⟨g, o, none⟩ n0 n1 n2 n3) (hT : Tp w g o word at_ tg m) (hg : g < b) (hy : IntKind.i64.wrap (here + 8) = y) :
    Calls Try.prog 19 #[.pointer (some ⟨b, 0, none⟩), .string ⟨#[82, 69, 80, 69, 65, 84]⟩] w fun e w' => e = .returned (.int .i64 4) ∧ ∃ v', Wk w' b v' [⟨false, here, 4, at_⟩, ⟨true, tg, 0, y⟩] here y ⟨g, o, none⟩ n0 n1 n2 n3 ∧ Below b w w' := by
  have hL := lay_any h (Nat.zero_le _) 4 at_ y hy
  have e3 := h.bk.cell 3
  have s1 := hT.c1
  simp at e3
  replace hL := Lib.hid hL
  replace hT := Lib.hid hT
  replace hg := Lib.hid hg
  clear h
  go_enter Try.func19, Try.ntmps19
  go_wp2_with (go_at_call 28; refine hL.out.mono ?_; rintro e w1 ⟨rfl, v', hW, hB⟩; have c1 := hW.bk.cell 1; have c2 := hW.bk.cell 2; have c3 := hW.bk.cell 3; have c4 := hW.bk.cell 4; have c5 := hW.bk.cell 5; have c6 := hW.bk.cell 6; have c7 := hW.bk.cell 7; have d4 := hW.bk.free 4; have d5 := hW.bk.free 5; have d6 := hW.bk.free 6; have d7 := hW.bk.free 7; simp at c1 c2 c3 c4 c5 c6 c7; replace hW := Lib.hid hW; replace hB := Lib.hid hB)
  clear c1 c4 c5 c6 c7 d4 d5 d6 d7 e3 s1
  have hP := patch_one hW.out (by simp) tg y
  have hTp := hT.out.bel hB.out hg.out
  have t1 := hTp.c1
  have t2 := hTp.c2
  replace hP := Lib.hid hP
  replace hTp := Lib.hid hTp
  clear hL
  go_region_held3 (fun w' => w'.cell? ⟨b, 2, none⟩ = some (.int .i64 y) ∧ w'.cell? ⟨b, 3, none⟩ = some (.pointer (some ⟨g, o, none⟩)) ∧ w'.cell? ⟨g, o + 2, none⟩ = some (.int .i64 tg)) (go_keep)
    ((go_at_call 21; (with_reducible refine Calls.mono hP.out ?_); rintro e w1_ ⟨rfl, v2, hW2, hB2⟩; have kS : w1_.cell? ⟨b, 2, none⟩ = some (.int .i64 y) ∧ w1_.cell? ⟨b, 3, none⟩ = some (.pointer (some ⟨g, o, none⟩)) ∧ w1_.cell? ⟨g, o + 2, none⟩ = some (.int .i64 tg) := ⟨hW2.bk.cell 2, hW2.bk.cell 3, (hTp.out.bel hB2 hg.out).c2⟩; replace hW2 := Lib.hid hW2; replace hB2 := Lib.hid hB2))
  all_goals (go_wp2_with (fail))
  all_goals go_returns
  all_goals exact ⟨rfl, v2, hW2.out, hB.out.trans hB2.out⟩
set_option maxHeartbeats 2000000 in
theorem br_else (h : Wk w b (.slice none 0 0) [] here here ⟨g, o, none⟩ n0 n1 n2 n3) (hT : Tp w g o word at_ tg m) (hg : g < b) (hy : IntKind.i64.wrap (here + 8) = y) :
    Calls Try.prog 19 #[.pointer (some ⟨b, 0, none⟩), .string ⟨#[69, 76, 83, 69]⟩] w fun e w' => e = .returned (.int .i64 2) ∧ ∃ v' w1, Wk w1 b v' [⟨false, here, 4, 0⟩, ⟨true, at_, 0, y⟩] here y ⟨g, o, none⟩ n0 n1 n2 n3 ∧ Below b w w1 ∧ w' = set4 w1 g o (.string ⟨#[73, 70]⟩) (.int .i64 here) (.int .i64 0) (.slice none 0 0) := by
  have hL := lay_any h (Nat.zero_le _) 4 0 y hy
  replace hL := Lib.hid hL
  replace hT := Lib.hid hT
  replace hg := Lib.hid hg
  clear h
  go_enter Try.func19, Try.ntmps19
  go_wp2_with (go_at_call 28; refine hL.out.mono ?_; rintro e w1 ⟨rfl, v', hW, hB⟩; have c1 := hW.bk.cell 1; have c2 := hW.bk.cell 2; have c3 := hW.bk.cell 3; have c4 := hW.bk.cell 4; have c5 := hW.bk.cell 5; have c6 := hW.bk.cell 6; have c7 := hW.bk.cell 7; have d4 := hW.bk.free 4; have d5 := hW.bk.free 5; have d6 := hW.bk.free 6; have d7 := hW.bk.free 7; simp at c1 c2 c3 c4 c5 c6 c7; replace hW := Lib.hid hW; replace hB := Lib.hid hB)
  clear c1 c4 c5 c6 c7 d4 d5 d6 d7
  have hP := patch_one hW.out (by simp) at_ y
  have hTp := hT.out.bel hB.out hg.out
  have t1 := hTp.c1
  have t2 := hTp.c2
  replace hP := Lib.hid hP
  replace hTp := Lib.hid hTp
  clear hL
  go_region_held3 (fun w' => w'.cell? ⟨b, 2, none⟩ = some (.int .i64 y) ∧ w'.cell? ⟨b, 3, none⟩ = some (.pointer (some ⟨g, o, none⟩)) ∧ w'.cell? ⟨g, o + 1, none⟩ = some (.int .i64 at_)) (go_keep)
    ((go_at_call 21; (with_reducible refine Calls.mono hP.out ?_); rintro e w1_ ⟨rfl, v2, hW2, hB2⟩; have kS : w1_.cell? ⟨b, 2, none⟩ = some (.int .i64 y) ∧ w1_.cell? ⟨b, 3, none⟩ = some (.pointer (some ⟨g, o, none⟩)) ∧ w1_.cell? ⟨g, o + 1, none⟩ = some (.int .i64 at_) := ⟨hW2.bk.cell 2, hW2.bk.cell 3, (hTp.out.bel hB2 hg.out).c1⟩; replace hW2 := Lib.hid hW2; replace hB2 := Lib.hid hB2))
  all_goals (
    have hT1 := hTp.out.bel hB2.out hg.out
    have q0 := hT1.c0
    have q1 := hT1.c1
    have q2 := hT1.c2
    have q3 := hT1.c3
    have f0 := hT1.fr o
    have f1 := hT1.fr (o + 1)
    have f2 := hT1.fr (o + 2)
    have f3 := hT1.fr (o + 3)
    have p1 := hW2.out.bk.cell 1
    have p3 := hW2.out.bk.cell 3
    simp at p1 p3
    clear hT1 c2 c3 t1 t2)
  all_goals (go_wp2_with (fail))
  all_goals (go_still_tail 10, (by kernel_rfl))
  all_goals (change wpList _ _ _ _ _ (World.drew _))
  all_goals (go_wp2_with (fail))
  all_goals go_returns
  all_goals exact ⟨rfl, v2, _, hW2.out.draw, (hB.out.trans hB2.out).drew, rfl⟩
end
end Go.Proofs.Ytmfffaocmboelaa
