import Derived.Test.YtoaiiimnfgbcaaaRdG
import Derived.Test.YtoaiiimnfgbcaaaDcF
namespace Go.Proofs.Ytoaiiimnfgbcaaa
open Go.RowKit
attribute [local go_sem] Oper.semAt_some
set_option linter.unusedVariables false
set_option linter.unusedSimpArgs false
/-! chapter 8: the document's All -/
theorem own_lower {W : World} {base b2 n size : Nat} {e : TypeId} {v : Value} {xs : List Value} (h : W.ownsRow base e size v n xs) (hb : b2 ≤ base) : W.ownsRow b2 e size v n xs := by
  refine ⟨h.1, ?_⟩
  rcases h.2 with hn0 | ⟨k, cap, cur, rfl, hk, rest⟩
  · exact .inl hn0
  · exact .inr ⟨k, cap, cur, rfl, Nat.le_trans hb hk, rest⟩
section
variable {W W' w : World} {q m g₀ n : Nat} {B : List UInt8} {cl : Bool} {h l : Nat}
theorem rhead_one (D : Rd w q m g₀ n B cl h l) (at_ : Int) (hat : at_ ≤ 9223372036854775807) : ∃ (x : Wd) (nx : Int) (ok : Bool), (headP B (g₀ + 8) (g₀ + n) at_ = none ∧ ok = false ∨ headP B (g₀ + 8) (g₀ + n) at_ = some (x, nx) ∧ ok = true) ∧
    Calls Try.prog 56 #[.pointer (some ⟨q, 0, none⟩), .int .i64 at_] w fun e w' => e = .returned (.tuple #[wdV x, .int .i64 nx, .bool ok]) ∧ Below w.heap.size w w' := by
  have hH := rhead_any D at_ hat
  cases hp : headP B (g₀ + 8) (g₀ + n) at_ with
  | none =>
    rw [hp] at hH
    exact ⟨wd0, 0, false, .inl ⟨rfl, rfl⟩, hH⟩
  | some z =>
    obtain ⟨x, nx⟩ := z
    rw [hp] at hH
    exact ⟨x, nx, true, .inr ⟨rfl, rfl⟩, hH⟩
set_option maxRecDepth 100000 in
set_option maxHeartbeats 4000000 in
theorem rall_any (D : Rd w q m g₀ n B cl h l) : Calls Try.prog 24 #[.pointer (some ⟨q, 0, none⟩)] w fun e w' => ∃ A c, e = .returned (.slice A (walkP B (g₀ + 8) (g₀ + n) l).length c) ∧ w'.ownsRow w.heap.size 34 6 (.slice A (walkP B (g₀ + 8) (g₀ + n) l).length c) (walkP B (g₀ + 8) (g₀ + n) l).length (wdsC (walkP B (g₀ + 8) (g₀ + n) l)) ∧ Below w.heap.size w w' := by
  obtain ⟨W0, hW0⟩ : ∃ W0, walkP B (g₀ + 8) (g₀ + n) l = W0 := ⟨_, rfl⟩
  have hW1 : walkF B (g₀ + 8) (g₀ + n) (l + 1) (l : Int) = W0 := hW0
  rw [hW0]
  have hl2 : l ≤ 143360 := by have := D.la; have := D.far; omega
  have c4 := D.c4
  obtain ⟨x0, nx0, ok0, hst0, hH0⟩ := rhead_one D (l : Int) (by omega)
  obtain ⟨f, hf⟩ : ∃ f, g₀ + 8 = f := ⟨_, rfl⟩
  obtain ⟨y, hy⟩ : ∃ y, g₀ + n = y := ⟨_, rfl⟩
  rw [hf, hy] at hst0 hW1
  have hf8 : Hid (8 ≤ f) := show 8 ≤ f by omega
  have hHd := fun (wr : World) (hb : Below w.heap.size w wr) (at_ : Int) (hat : at_ ≤ 9223372036854775807) => rhead_one (D.bel hb) at_ hat
  simp only [hf, hy] at hHd
  have hql : q < w.heap.size := D.bk.lt
  replace hW1 := Lib.hid hW1
  replace hHd := Lib.hid hHd
  replace hH0 := Lib.hid hH0
  replace hst0 := Lib.hid hst0
  replace hl2 := Lib.hid hl2
  simp only [wdV] at hH0
  clear D hW0 hf hy
  go_enter Try.func24, Try.ntmps24
  go_wp2_with (fail)
  refine hH0.out.mono ?_
  rintro e w2 ⟨rfl, hb2⟩
  have r0 := Bk.fresh w2 34 (wdC wd0).toArray
  have hBa : Below w.heap.size w (w2.alloc (.cells (wdC wd0).toArray 34)) := hb2.alloc hb2.size _
  have hgw : w.heap.size ≤ w2.heap.size := hb2.size
  obtain ⟨g, hg⟩ : ∃ g, w2.heap.size = g := ⟨_, rfl⟩
  obtain ⟨W, hW⟩ : ∃ W, w2.alloc (.cells (wdC wd0).toArray 34) = W := ⟨_, rfl⟩
  have hWz : g < W.heap.size := by rw [← hW, ← hg]; simp
  rw [hW] at r0 hBa
  rw [hg] at r0 hgw
  have hW' : w2.alloc (.cells #[.string ⟨#[]⟩, .int .i64 0, .int .i64 0, .bool false, .bool false, .bool false] 34) = W := hW
  have rX : Bk (set6 W g x0) g 34 (wdC x0).toArray := set6_bk r0
  have hBX : Below w.heap.size w (set6 W g x0) := set6_below hBa hgw
  have hXz : g < (set6 W g x0).heap.size := by rw [set6_size]; exact hWz
  have e0 := r0.cell 0
  have e1 := r0.cell 1
  have e2 := r0.cell 2
  have e3 := r0.cell 3
  have e4 := r0.cell 4
  have e5 := r0.cell 5
  simp [wdC, wd0] at e0 e1 e2 e3 e4 e5
  have f0 := r0.free 0
  have f1 := r0.free 1
  have f2 := r0.free 2
  have f3 := r0.free 3
  have f4 := r0.free 4
  have f5 := r0.free 5
  unfold set6 at rX hBX hXz
  replace rX := Lib.hid rX
  replace hBX := Lib.hid hBX
  replace hXz := Lib.hid hXz
  replace hgw := Lib.hid hgw
  clear r0 hBa hW hb2 hH0 hWz
  go_wp2_with (fail)
  go_loopw [3, 4, 6, 7] (fun x3 x4 x6 x7 wr => ∃ (A : Option Addr) (c k : Nat) (at_ nx : Int) (ok : Bool), x3 = .slice A k c ∧ x4 = .int .i64 at_ ∧ x6 = .int .i64 nx ∧ x7 = .bool ok ∧ Hid (∃ (X : List Wd) (t : Nat) (x : Wd), X.length = k ∧ wr.ownsRow (g + 1) 34 6 (.slice A k c) k (wdsC X) ∧ Below w.heap.size w wr ∧ Bk wr g 34 (wdC x).toArray ∧ X ++ walkF B f y t at_ = W0 ∧ at_.toNat < t ∧ k + at_.toNat ≤ l ∧ at_ ≤ l ∧ (headP B f y at_ = none ∧ ok = false ∨ headP B f y at_ = some (x, nx) ∧ ok = true))) (fun _ x4 _ _ _ => mz x4)
  case atStart => exact ⟨none, 0, 0, l, nx0, ok0, rfl, rfl, rfl, rfl, [], l + 1, x0, rfl, World.ownsRow_nil _ _ _ _, hBX.out, rX.out, by simpa using hW1.out, by simp, by simp, by simp, hst0.out⟩
  case round =>
    obtain ⟨A, c, xl, at_, nx, ok, rfl, rfl, rfl, rfl, HR⟩ := hrel
    clear rX hBX hXz hst0 hW1 c4
    obtain ⟨X, t, x, hxl, hrow, hB, hbk, hE, hn, hl, hal, hst⟩ := HR.out
    clear HR
    have hXl : xl ≤ 200000 := by have := hl2.out; omega
    obtain ⟨t, rfl⟩ : ∃ m, t = m + 1 := ⟨t - 1, by omega⟩
    rw [walkF] at hE
    have hgz := hbk.lt
    rcases hst with ⟨hp, rfl⟩ | ⟨hp, rfl⟩
    · rw [hp] at hE
      simp only [List.append_nil] at hE
      subst hE
      replace hrow := Lib.hid hrow
      replace hB := Lib.hid hB
      replace hxl := Lib.hid hxl
      clear hbk hal hn hl
      go_wp2_with (fail)
      go_returns
      refine ⟨A, c, by rw [hxl.out]; rfl, ?_, hB.out⟩
      rw [hxl.out]
      exact own_lower hrow.out (by have := hgw.out; omega)
    · have hge := headP_ge hp
      rw [hp] at hE
      simp only at hE
      have e0 := hbk.cell 0
      have e1 := hbk.cell 1
      have e2 := hbk.cell 2
      have e3 := hbk.cell 3
      have e4 := hbk.cell 4
      have e5 := hbk.cell 5
      simp [wdC, wd0] at e0 e1 e2 e3 e4 e5
      have f0 := hbk.free 0
      have f1 := hbk.free 1
      have f2 := hbk.free 2
      have f3 := hbk.free 3
      have f4 := hbk.free 4
      have f5 := hbk.free 5
      have hrow4 := hrow
      rw [← hxl] at hrow4
      obtain ⟨A', c', w4, hrun, hown, hgr⟩ := wd_append x hrow4 hgz (by omega)
      have hB4 := below_grown hB hgr hB.size (fun q hq => by have := own_ge hrow4 q hq; have := hgw.out; omega)
      have hbk4 := hbk.grown hgr (fun e => by have := own_ge hrow4 g e.symm; omega)
      rw [hxl] at hrun
      unfold wdC at hrun
      have hlen : (X ++ [x]).length = xl + 1 := by rw [List.length_append, hxl]; rfl
      replace hlen := Lib.hid hlen
      replace hrun := Lib.hid hrun
      replace hown := Lib.hid hown
      replace hE := Lib.hid hE
      replace hn := Lib.hid hn
      replace hl := Lib.hid hl
      replace hal := Lib.hid hal
      replace hge := Lib.hid hge
      replace hB4 := Lib.hid hB4
      replace hbk4 := Lib.hid hbk4
      clear hrow4 hgr hrow hB hbk
      by_cases hnx : at_ ≤ nx
      · go_wp2_with (at_builtin; refine wpList_append_run rfl (.tmp 20) (.tmp 22) 49 rfl (.slice A xl c) _ _ rfl rfl hrun.out ?_)
        go_returns
        have hW0 : W0 = X ++ [x] := by rw [← hE.out, if_pos hnx]
        rw [hW0]
        exact ⟨A', c', by rw [hlen.out]; first | rfl, own_lower hown.out (by have := hgw.out; omega), hB4.out⟩
      · have hnz : decide (at_ ≤ nx) = false := by simpa using hnx
        replace hnx := Lib.hid hnx
        obtain ⟨x2, nx2, ok2, hst2, hH2⟩ := hHd.out w4 hB4.out nx (by have := hnx.out; have := hal.out; have := hl2.out; omega)
        simp only [wdV] at hH2
        replace hH2 := Lib.hid hH2
        replace hst2 := Lib.hid hst2
        go_wp2_with (at_builtin; refine wpList_append_run rfl (.tmp 20) (.tmp 22) 49 rfl (.slice A xl c) _ _ rfl rfl hrun.out ?_)
        refine hH2.out.mono ?_
        rintro e w5 ⟨rfl, hb5⟩
        have hbk5 := hbk4.out.kept hb5 hbk4.out.lt
        have hB5 := hB4.out.trans (hb5.mono hB4.out.size)
        have hown5 := own_below hown.out hb5 (Nat.le_refl _)
        have hbk6 : Bk (set6 w5 g x2) g 34 (wdC x2).toArray := set6_bk hbk5
        have hB6 : Below w.heap.size w (set6 w5 g x2) := set6_below hB5 hgw.out
        have hown6 := set6_row (x := x2) (g := g) hown5 (fun q hq => by have := own_ge hown5 q hq; omega)
        clear e0 e1 e2 e3 e4 e5 f0 f1 f2 f3 f4 f5
        have e0 := hbk5.cell 0
        have e1 := hbk5.cell 1
        have e2 := hbk5.cell 2
        have e3 := hbk5.cell 3
        have e4 := hbk5.cell 4
        have e5 := hbk5.cell 5
        simp [wdC, wd0] at e0 e1 e2 e3 e4 e5
        have f0 := hbk5.free 0
        have f1 := hbk5.free 1
        have f2 := hbk5.free 2
        have f3 := hbk5.free 3
        have f4 := hbk5.free 4
        have f5 := hbk5.free 5
        unfold set6 at hbk6 hB6 hown6
        replace hbk6 := Lib.hid hbk6
        replace hB6 := Lib.hid hB6
        replace hown6 := Lib.hid hown6
        clear hbk5 hB5 hown5 hb5 hHd hH2 hrun hB4 hbk4 hown
        go_wp2_with (fail)
        have hW0 : (X ++ [x]) ++ walkF B f y t nx = W0 := by rw [← hE.out, if_neg (by have := hnx.out; omega)]; simp
        refine ⟨⟨A', c', xl + 1, nx, nx2, ok2, rfl, rfl, rfl, rfl, X ++ [x], t, x2, hlen.out, by have := hown6.out; rw [hlen.out] at this; exact this, hB6.out, hbk6.out, hW0, ?_, ?_, ?_, hst2.out⟩, ?_⟩
        · have := hn.out; have := hf8.out; have := hge.out; have := hnx.out; omega
        · have := hl.out; have := hf8.out; have := hge.out; have := hnx.out; omega
        · have := hal.out; have := hf8.out; have := hge.out; have := hnx.out; omega
        · have := hf8.out; have := hge.out; have := hnx.out; simp [mz, intOf]; omega
end
end Go.Proofs.Ytoaiiimnfgbcaaa
