import Derived.Test.YtkopgjdnfjgbjaaStM
import Derived.Test.YtkopgjdnfjgbjaaStN
import Derived.Test.YtkopgjdnfjgbjaaPostOps4
namespace Go.Proofs.Ytkopgjdnfjgbjaa
open Go.RowKit
set_option linter.unusedVariables false
set_option linter.unusedSimpArgs false
/-! StackApart -/
/-- only the data region has turned -/
structure Far (L : Lay) (B B' : List UInt8) : Prop where
  len : B'.length = B.length
  eq : ∀ i, i < L.beg 4 ∨ L.beg 5 ≤ i → B'.getD i 0 = B.getD i 0
theorem Far.refl (L : Lay) (B : List UInt8) : Far L B B := ⟨rfl, fun _ _ => rfl⟩
theorem Far.laid {L : Lay} {B B' : List UInt8} (h : Far L B B') (hL : L.ok) (hl : B.length = L.b6) (k : Nat) (vs : List Int) (hk : k + vs.length ≤ roomOf L 4) : Far L B (laid B' (L.beg 4) k vs) := by
  have hr := reg_lies hL 4 (.inl rfl)
  have hev := hr.even hL
  have hup := hr.up
  have hup : L.beg 5 = L.beg 4 + 8 * roomOf L 4 := hup
  have hb : L.beg 4 + 8 * (k + vs.length) ≤ B'.length := by rw [h.len, hl]; omega
  refine ⟨by rw [laid_len _ _ _ _ hb]; exact h.len, fun i hi => ?_⟩
  rw [laid_far _ _ _ _ _ hb (by omega)]
  exact h.eq i hi
theorem Far.cels {L : Lay} {B B' : List UInt8} (h : Far L B B') (n : Nat) : cels B' (L.beg 5) n = cels B (L.beg 5) n := by
  unfold Go.Proofs.Ytkopgjdnfjgbjaa.cels
  apply List.map_congr_left
  intro i _
  exact cel_congr _ _ _ _ fun k _ => h.eq _ (.inr (by omega))
theorem Far.part {L : Lay} {B B' : List UInt8} (h : Far L B B') (hL : L.ok) (r : Int) (hr : r = 1 ∨ r = 3 ∨ r = 5) : partL L B' r = partL L B r := by
  have m := Lay.mono hL
  unfold partL
  have key : ∀ i, L.from_ r ≤ i → i < L.to_ r → B'.getD i 0 = B.getD i 0 := by
    intro i h1 h2
    refine h.eq i ?_
    rcases hr with rfl | rfl | rfl <;> simp [Lay.from_, Lay.to_, Lay.beg] at h1 h2 ⊢ <;> omega
  apply List.ext_getElem
  · rw [List.length_take, List.length_take, List.length_drop, List.length_drop, h.len]
  · intro i h1 h2
    rw [List.length_take, List.length_drop] at h1 h2
    have := key (L.from_ r + i) (by omega) (by omega)
    rw [List.getD_eq_getElem?_getD, List.getD_eq_getElem?_getD, List.getElem?_eq_getElem (by omega), List.getElem?_eq_getElem (by omega)] at this
    simpa using this
theorem strsize (l : List UInt8) : (ByteArray.mk l.toArray).size = l.length := rfl
theorem part_le {L : Lay} {B : List UInt8} (hL : L.ok) (hl : B.length = L.b6) (r : Int) : (partL L B r).length ≤ 143360 := by
  have m := Lay.mono hL
  unfold partL
  rw [List.length_take, List.length_drop]
  omega
/-! each operation of the data stack, whatever comes of it: only the data region turns -/
section
variable {w0 W : World} {a : Ads} {L : Lay} {B1 B : List UInt8} {d : Nat → Nat}
/-- what an operation leaves -/
def Left (w0 W : World) (a : Ads) (L : Lay) (B1 : List UInt8) (k : Nat) : Prop := ∃ B' d', Wd w0 W a L B' d' ∧ Far L B1 B' ∧ d' 1 = k
theorem any_push (h : Wd w0 W a L B d) (hl : B1.length = L.b6) (hF : Far L B1 B) (A : Option Addr) (n c : Nat) (hV : Ints w0 A n) (hn : n ≤ 140737488351232) :
    Calls Try.prog 18 #[.pointer (some ⟨a.s0, 0, none⟩), .slice A n c] W fun e w' => ∃ v, e = .returned (.int .i64 v) ∧ Left w0 w' a L B1 (d 1) := by
  by_cases hfit : n ≤ roomOf L 4 - d 0
  · obtain ⟨sb, so, vs, hvn, hv0, hvi, hsb⟩ := ints_rowd hV
    have hdp := (h.st 0 (by decide)).dp
    have := wd_push h 0 (by decide) A c sb so vs (by show vs.length ≤ roomOf L 4 - d 0; omega) (hv0.bel h.be (fun h => hsb (by omega)))
    rw [hvn] at this
    exact this.mono fun e w' g => ⟨_, g.1, _, _, g.2.1, hF.laid h.im.ok hl _ _ (by have : d 0 ≤ roomOf L 4 := hdp; omega), upd_other _ _ _ _ (by decide)⟩
  · exact (wd_push_no h 0 (by decide) A n c (by show roomOf L 4 - d 0 < n; omega) (by omega)).mono fun e w' g => ⟨_, g.1, _, _, g.2.1, hF, rfl⟩
theorem any_pop (h : Wd w0 W a L B d) (hF : Far L B1 B) : Calls Try.prog 23 #[.pointer (some ⟨a.s0, 0, none⟩)] W fun e w' => ∃ v f, e = .returned (.tuple #[.int .i64 v, .int .i64 f]) ∧ Left w0 w' a L B1 (d 1) := by
  by_cases h0 : d 0 = 0
  · exact (wd_pop_no h 0 (by decide) h0).mono fun e w' g => ⟨_, _, g.1, _, _, g.2.1, hF, rfl⟩
  · exact (wd_pop h 0 (by decide) (d 0 - 1) (by omega) _ rfl).mono fun e w' g => ⟨_, _, g.1, _, _, g.2.1, hF, upd_other _ _ _ _ (by decide)⟩
theorem any_poke (h : Wd w0 W a L B d) (hl : B1.length = L.b6) (hF : Far L B1 B) (n v : Int) : Calls Try.prog 22 #[.pointer (some ⟨a.s0, 0, none⟩), .int .i64 n, .int .i64 v] W fun e w' => ∃ f, e = .returned (.int .i64 f) ∧ Left w0 w' a L B1 (d 1) := by
  cases hb : hasB n (d 0)
  · exact (wd_poke_no h 0 (by decide) n v hb).mono fun e w' g => ⟨_, g.1, _, _, g.2.1, hF, rfl⟩
  · obtain ⟨i, rfl, hi⟩ := hasB_true hb
    have hdp : d 0 ≤ roomOf L 4 := (h.st 0 (by decide)).dp
    exact (wd_poke h 0 (by decide) i (d 0 - 1 - i) hi rfl v).mono fun e w' g => ⟨_, g.1, _, _, g.2.1, hF.laid h.im.ok hl _ _ (by simp only [List.length_cons, List.length_nil]; omega), rfl⟩
theorem any_roll (h : Wd w0 W a L B d) (hl : B1.length = L.b6) (hF : Far L B1 B) (n : Int) : Calls Try.prog 20 #[.pointer (some ⟨a.s0, 0, none⟩), .int .i64 n] W fun e w' => ∃ f, e = .returned (.int .i64 f) ∧ Left w0 w' a L B1 (d 1) := by
  cases hb : hasB n (d 0)
  · exact (wd_roll_no h 0 (by decide) n hb).mono fun e w' g => ⟨_, g.1, _, _, g.2.1, hF, rfl⟩
  · obtain ⟨i, rfl, hi⟩ := hasB_true hb
    have hdp : d 0 ≤ roomOf L 4 := (h.st 0 (by decide)).dp
    exact (wd_roll h 0 (by decide) i (d 0 - 1 - i) hi rfl).mono fun e w' g => ⟨_, g.1, _, _, g.2.1, hF.laid h.im.ok hl _ _ (by simp only [List.length_append, List.length_map, List.length_range, List.length_cons, List.length_nil]; omega), rfl⟩
theorem any_cut (h : Wd w0 W a L B d) (hl : B1.length = L.b6) (hF : Far L B1 B) (n : Int) : Calls Try.prog 26 #[.pointer (some ⟨a.s0, 0, none⟩), .int .i64 n] W fun e w' => ∃ f, e = .returned (.bool f) ∧ Left w0 w' a L B1 (d 1) := by
  by_cases hb : n < 0 ∨ (roomOf L 4 : Int) < n
  · exact (wd_cut_no h 0 (by decide) n hb).mono fun e w' g => ⟨_, g.1, B, d, by rw [g.2]; exact h, hF, rfl⟩
  · obtain ⟨i, rfl⟩ : ∃ i : Nat, n = i := ⟨n.toNat, by omega⟩
    have hdp : d 0 ≤ roomOf L 4 := (h.st 0 (by decide)).dp
    exact (wd_cut h 0 (by decide) i (by show i ≤ roomOf L 4; omega)).mono fun e w' g => ⟨_, g.1, _, _, g.2.1, hF.laid h.im.ok hl _ _ (by rw [List.length_replicate]; show d 0 + (i - d 0) ≤ roomOf L 4; omega), upd_other _ _ _ _ (by decide)⟩
end
set_option maxRecDepth 100000 in
set_option maxHeartbeats 40000000 in
theorem walk_apart (d r : Int) (A2 : Option Addr) (n2 c2 : Nat) (A : Option Addr) (n c : Nat) (w : World) (hd : inI d) (hr : inI r) (hops : Ops4 w A2 n2) (hv : Ints w A n) (hn : n ≤ 140737488351232) (hnc : n ≤ c) :
    Calls Try.prog 6 #[.int .i64 d, .int .i64 r, .slice A2 n2 c2, .slice A n c] w fun e w' => e = .returned (.bool true) ∧ Below w.heap.size w w' := by
  obtain ⟨sb, so, vs, hvn, hv0, hvi, hsb⟩ := ints_rowd hv
  have hlay := fun w1 => layout4_any d r w1 hd hr
  have hbeg := fun w1 => begun_any d r w1
  have hok := layOf4_ok d r
  obtain ⟨L, hL⟩ : ∃ L, layOf4 d r = L := ⟨_, rfl⟩
  simp only [hL] at hlay hbeg hok
  have hroom5 : 8 ≤ roomOf L 5 := by
    rw [← hL]
    have m := Lay.mono (layOf4_ok d r)
    have : (layOf4 d r).beg (5 + 1) = (layOf4 d r).beg 5 + (layOf4 d r).r := rfl
    unfold roomOf
    rw [this]
    show 8 ≤ ((layOf4 d r).beg 5 + (64 + 8 * pickN r 20) - (layOf4 d r).beg 5) / 8
    omega
  clear hL hv
  have hev := ((reg_lies hok 4 (.inl rfl)).even hok)
  have hev5 := ((reg_lies hok 5 (.inr rfl)).even hok)
  have hroom : roomOf L 4 ≤ 17920 := by omega
  replace hok := Lib.hid hok
  replace hlay := Lib.hid hlay
  replace hbeg := Lib.hid hbeg
  replace hv0 := Lib.hid hv0
  replace hvi := Lib.hid hvi
  replace hsb := Lib.hid hsb
  replace hev := Lib.hid hev
  replace hev5 := Lib.hid hev5
  have hn2 := hops.1
  replace hops := Lib.hid hops
  go_enter Try.func6, Try.ntmps6
  go_wp2_with (fail)
  refine (shown4 _).mono ?_
  rintro e w1 ⟨rfl, hb1⟩
  go_wp2_with (fail)
  refine (hlay.out w1).mono ?_
  rintro e w2 ⟨rfl, hb2⟩
  go_wp2_with (fail)
  refine (hbeg.out w2).mono ?_
  rintro e w3 ⟨a, rfl, hW, -⟩
  replace hW := hW.base (hb1.trans (hb2.mono hb1.size))
  clear hb1 hb2
  obtain ⟨B, hB⟩ : ∃ B, List.replicate L.b6 (0 : UInt8) = B := ⟨_, rfl⟩
  rw [hB] at hW
  clear hB
  have c2' := hW.cells.2.2.1
  replace hW := Lib.hid hW
  have hnI : (n : Int) ≤ 140737488351232 := by omega
  have hvq : ∃ vq : List Int, vq.length = (if 8 < n then 8 else n) ∧ Rowd w A sb so vq ∧ (∀ v ∈ vq, isI v) := by
    split
    · refine ⟨vs.take 8, by simp; omega, fun i hi => ?_, fun v hv => hvi.out v (List.mem_of_mem_take hv)⟩
      have hi' : i < vs.length := by simp at hi; omega
      have := hv0.out i hi'
      simpa using this
    · exact ⟨vs, hvn, hv0.out, hvi.out⟩
  obtain ⟨vq, hq, hvq0, hvqi⟩ := hvq
  have hsq : 0 < vq.length → sb < w.heap.size := fun h => hsb.out (by rw [hq] at h; split at h <;> omega)
  have hle8 : vq.length ≤ 8 := by rw [hq]; split <;> omega
  replace hvq0 := Lib.hid hvq0
  replace hvqi := Lib.hid hvqi
  replace hsq := Lib.hid hsq
  clear hv0 hvi hsb hvn
  by_cases h8 : 8 < n
  · rw [if_pos h8] at hq
    have i8 : (8 : Int) < (n : Int) := by omega
    replace hq := Lib.hid hq
    go_wp2_with (fail)
    have hp : ∃ B1, Calls Try.prog 18 #[.pointer (some ⟨a.s1, 0, none⟩), .slice A vq.length c] w3 fun e w' => e = .returned (.int .i64 0) ∧ Hid (Wd w w' a L B1 (upd (fun _ => 0) 1 (0 + vq.length))) ∧ Hid (cels B1 (L.beg 5) vq.length = vq) := by
      refine ⟨_, (wd_push hW.out 1 (by decide) A c sb so vq (by show vq.length ≤ roomOf L 5 - 0; omega) (hvq0.out.bel hW.out.be hsq.out)).mono fun e w' g => ⟨g.1, Lib.hid g.2.1, Lib.hid ?_⟩⟩
      have h1 := hW.out.im.len
      have h2 := hev5.out.2.1
      show cels (laid B (L.beg 5) 0 vq) (L.beg 5) vq.length = vq
      rw [cels_laid (L.beg 5) B 0 vq.length vq (by omega) (by omega) hvqi.out]
      simp [cels]
    obtain ⟨B1, hp⟩ := hp
    rw [hq.out] at hp
    refine hp.mono ?_
    rintro e w4 ⟨rfl, hW4, hE⟩
    obtain ⟨d1, hd1⟩ : ∃ d1, upd (fun _ => 0) 1 (0 + vq.length) = d1 := ⟨_, rfl⟩
    have hd0 : d1 1 = vq.length := by rw [← hd1, upd_same]; omega
    rw [hq.out] at hd1 hd0
    rw [hd1] at hW4
    clear hp hd1
    replace hd0 := Lib.hid hd0
    have hS : ∀ r : Int, ∃ S : ByteArray, S = ⟨(partL L B1 r).toArray⟩ ∧ S.size ≤ 143360 := fun r => ⟨_, rfl, by rw [strsize]; exact part_le hok.out hW4.out.im.len r⟩
    obtain ⟨S5, hS5, z5⟩ := hS 5
    obtain ⟨S1, hS1, z1⟩ := hS 1
    obtain ⟨S3, hS3, z3⟩ := hS 3
    have hP : ∀ (B' : List UInt8) (d' : Nat → Nat) (w' : World), Wd w w' a L B' d' → Far L B1 B' → (∀ n, Calls Try.prog 11 #[.pointer (some ⟨a.ip, 0, none⟩), .int .i64 5] (w'.drewN n) fun e w2 => e = .returned (.string S5) ∧ ∃ k, w2 = (w'.drewN n).drewN k) ∧ (∀ n, Calls Try.prog 11 #[.pointer (some ⟨a.ip, 0, none⟩), .int .i64 1] (w'.drewN n) fun e w2 => e = .returned (.string S1) ∧ ∃ k, w2 = (w'.drewN n).drewN k) ∧ (∀ n, Calls Try.prog 11 #[.pointer (some ⟨a.ip, 0, none⟩), .int .i64 3] (w'.drewN n) fun e w2 => e = .returned (.string S3) ∧ ∃ k, w2 = (w'.drewN n).drewN k) := by
      intro B' d' w' hw hf
      refine ⟨fun n => ?_, fun n => ?_, fun n => ?_⟩
      · have := Part_any (hw.im.draws n) 5
        rw [hf.part hok.out 5 (by decide), ← hS5] at this
        exact this
      · have := Part_any (hw.im.draws n) 1
        rw [hf.part hok.out 1 (by decide), ← hS1] at this
        exact this
      · have := Part_any (hw.im.draws n) 3
        rw [hf.part hok.out 3 (by decide), ← hS3] at this
        exact this
    clear hS hS5 hS1 hS3
    replace hP := Lib.hid hP
    have zz1 : ¬ (9223372036854775807 < S5.size + S1.size) := by omega
    have zz2 : ¬ (9223372036854775807 < (S5 ++ S1).size + S3.size) := by rw [ByteArray.size_append]; omega
    have c0 := hW4.out.cells.1
    have c1 := hW4.out.cells.2.1
    have hp0 := Lib.hid (hP.out B1 d1 w4 hW4.out (Far.refl L B1))
    clear z1 z3 z5
    go_wp2_with (fail)
    go_quiet ((first | (go_at_call 11; with_reducible exact Calls.quiet_of (hp0.out.1 _)) | (go_at_call 11; with_reducible exact Calls.quiet_of (hp0.out.2.1 _)) | (go_at_call 11; with_reducible exact Calls.quiet_of (hp0.out.2.2 _))))
    go_wp2_with (fail)
    have hW5 := Lib.hid (hW4.out.draws nq)
    obtain ⟨w5, hw5⟩ : ∃ w5, w4.drewN nq = w5 := ⟨_, rfl⟩
    rw [hw5] at hW5 ⊢
    clear hw5 hW4 hp0 c0 c1 hW
    have hl1 := Lib.hid hW5.out.im.len
    have hn2I : (n2 : Int) ≤ 140737488351232 := by omega
    go_loopw [12] (fun x wr => ∃ j : Nat, x = .int .i64 j ∧ j ≤ n2 ∧ j ≤ 100 ∧ ∃ B' d', Hid (Wd w wr a L B' d') ∧ Hid (Far L B1 B') ∧ Hid (d' 1 = d1 1)) (fun x _ => 100 - (intOf x).toNat)
    case atStart => exact ⟨0, rfl, Nat.zero_le _, Nat.zero_le _, B1, d1, hW5, Lib.hid (Far.refl L B1), Lib.hid rfl⟩
    case round =>
      obtain ⟨j, rfl, hj1, hj2, B', d', hWj, hF, hdd⟩ := hrel
      have c0 := hWj.out.cells.1
      have c1 := hWj.out.cells.2.1
      by_cases hj : j < n2 ∧ j < 100
      · obtain ⟨ob, oo, o0, o1, o2, OB, ol, oc, rfl, hlt, g0, g1, g2, g3, r0, r1, r2, hV, hVl⟩ := hops.out.2 j hj.1
        have g0 := (hWj.out.be.cell (p := ⟨ob, oo + j * 4, none⟩) hlt).trans g0
        have g1 := (hWj.out.be.cell (p := ⟨ob, oo + j * 4 + 1, none⟩) hlt).trans g1
        have g2 := (hWj.out.be.cell (p := ⟨ob, oo + j * 4 + 2, none⟩) hlt).trans g2
        have g3 := (hWj.out.be.cell (p := ⟨ob, oo + j * 4 + 3, none⟩) hlt).trans g3
        have j0 : (j : Int) < (n2 : Int) := by omega
        have j1 : (j : Int) < 100 := by omega
        go_wp2_with (fail)
        have hBx := Bk.fresh wr 65 #[.int .i64 o0, .int .i64 o1, .int .i64 o2, .slice OB ol oc]
        have hlx : Below wr.heap.size wr (wr.alloc (.cells #[.int .i64 o0, .int .i64 o1, .int .i64 o2, .slice OB ol oc] 65)) := (Below.refl _ _).alloc (Nat.le_refl _) _
        obtain ⟨X, hX⟩ : ∃ X, wr.alloc (.cells #[.int .i64 o0, .int .i64 o1, .int .i64 o2, .slice OB ol oc] 65) = X := ⟨_, rfl⟩
        rw [hX] at hBx hlx ⊢
        clear hX
        obtain ⟨bx, hbx⟩ : ∃ bx, wr.heap.size = bx := ⟨_, rfl⟩
        rw [hbx] at hBx ⊢
        have hWx := Lib.hid (hWj.out.bel hlx)
        clear hbx hlx g0 g1 g2 g3 c0 c1
        have x2 := hBx.cell 2
        have x3 := hBx.cell 3
        simp at x2 x3
        replace hBx := Lib.hid hBx
        have hpk := pick_any o1 6 X r1.1 r1.2 (by decide) (by decide)
        rw [show (6 : Int).toNat = 6 from rfl] at hpk
        have hk := pickN_lt o1 6 (by decide)
        obtain ⟨kk, hkk⟩ : ∃ kk, pickN o1 6 = kk := ⟨_, rfl⟩
        rw [hkk] at hpk hk
        clear hkk
        refine hpk.mono ?_
        rintro e X1 ⟨rfl, hw_⟩
        have hw_ := hw_.symm
        subst hw_
        clear hpk
        have qP := Lib.hid (any_push hWx.out hl1.out hF.out OB ol oc hV hVl)
        have qO := Lib.hid (any_pop hWx.out hF.out)
        have qK := Lib.hid (any_poke hWx.out hl1.out hF.out o2 j)
        have qR := Lib.hid (any_roll hWx.out hl1.out hF.out o2)
        have qC := Lib.hid (any_cut hWx.out hl1.out hF.out o2)
        clear hV hVl r0 r1 r2 hF hWj hWx
        have hfin : ∀ w', Left w w' a L B1 (d' 1) → (∃ j_1 : Nat, Value.int .i64 ((j : Int) + 1) = .int .i64 j_1 ∧ j_1 ≤ n2 ∧ j_1 ≤ 100 ∧ ∃ B' d', Hid (Wd w w' a L B' d') ∧ Hid (Far L B1 B') ∧ Hid (d' 1 = d1 1)) ∧ 100 - (intOf (.int .i64 ((j : Int) + 1))).toNat < 100 - (intOf (.int .i64 (j : Int))).toNat := by
          rintro w' ⟨B2, d2, h1, h2, h3⟩
          refine ⟨⟨j + 1, rfl, by omega, by omega, B2, d2, Lib.hid h1, Lib.hid h2, Lib.hid (h3.trans hdd.out)⟩, ?_⟩
          simp [intOf]; omega
        replace hfin := Lib.hid hfin
        rcases (by omega : kk = 0 ∨ kk = 1 ∨ kk = 2 ∨ kk = 3 ∨ kk = 4 ∨ kk = 5) with rfl | rfl | rfl | rfl | rfl | rfl
        all_goals clear hk
        · go_wp2_with (go_at_call 18; refine qP.out.mono ?_; rintro e X2 ⟨v, rfl, hL⟩; replace hL := Lib.hid hL)
          exact hfin.out _ hL.out
        · go_wp2_with (go_at_call 18; refine qP.out.mono ?_; rintro e X2 ⟨v, rfl, hL⟩; replace hL := Lib.hid hL)
          exact hfin.out _ hL.out
        · go_wp2_with (go_at_call 23; refine qO.out.mono ?_; rintro e X2 ⟨v, f, rfl, hL⟩; replace hL := Lib.hid hL)
          exact hfin.out _ hL.out
        · go_wp2_with (go_at_call 22; refine qK.out.mono ?_; rintro e X2 ⟨v, rfl, hL⟩; replace hL := Lib.hid hL)
          exact hfin.out _ hL.out
        · go_wp2_with (go_at_call 20; refine qR.out.mono ?_; rintro e X2 ⟨v, rfl, hL⟩; replace hL := Lib.hid hL)
          exact hfin.out _ hL.out
        · go_wp2_with (go_at_call 26; refine qC.out.mono ?_; rintro e X2 ⟨v, rfl, hL⟩; replace hL := Lib.hid hL)
          exact hfin.out _ hL.out
      · have jj : ¬ ((j : Int) < (n2 : Int)) ∨ ((j : Int) < (n2 : Int)) ∧ ¬ ((j : Int) < 100) := by omega
        have hc : Calls Try.prog 16 #[.pointer (some ⟨a.s1, 0, none⟩)] wr fun e w' => ∃ g, e = .returned (.slice (some ⟨g, 0, none⟩) (d1 1) (d1 1)) ∧ Bk w' g 3 (i64s vq).toArray ∧ Hid (Wd w w' a L B' d') := by
          refine (wd_cells hWj.out 1 (by decide)).mono fun e w' ⟨g, h1, _, h3, h4, _⟩ => ⟨g, ?_, ?_, Lib.hid h4⟩
          · rw [hdd.out] at h1; exact h1
          · rw [hdd.out, hd0.out] at h3
            have e5 : cels B' (L.beg (rgOf 1)) = cels B' (L.beg 5) := rfl
            rw [e5, hF.out.cels] at h3
            rw [hE.out] at h3
            exact h3
        rw [hd0.out] at hc
        replace hc := Lib.hid hc
        have c2' := hWj.out.cells.2.2.1
        rcases jj with jj | ⟨jj, jj2⟩
        all_goals (
          go_wp2_with (go_at_call 16; refine hc.out.mono ?_; rintro e X2 ⟨g, rfl, hX, hW6⟩)
          refine (same_any (some ⟨g, 0, none⟩) A _ _ _ c g 0 sb so vq vq X2 (rowd_of hX) (hvq0.out.bel hW6.out.be hsq.out) hq.out hq.out (by omega)).mono ?_
          rintro e w7 ⟨he, q7, hw7⟩
          have he : e = .returned (.bool true) := by rw [he]; simp
          subst he
          have hW7 := Lib.hid (by rw [hw7]; exact hW6.out.draws q7 : Wd w w7 a L B' d')
          have hp7 := Lib.hid (hP.out B' d' w7 hW7.out hF.out)
          clear hX hw7 hW6 hc c2' c1
          have c0 := hW7.out.cells.1
          go_wp2_with (fail)
          go_quiet ((first | (go_at_call 11; with_reducible exact Calls.quiet_of (hp7.out.1 _)) | (go_at_call 11; with_reducible exact Calls.quiet_of (hp7.out.2.1 _)) | (go_at_call 11; with_reducible exact Calls.quiet_of (hp7.out.2.2 _))))
          go_wp2_with (fail)
          go_returns
          exact ⟨rfl, (hW7.out.draws _).be⟩)
  · rw [if_neg h8] at hq
    have i8 : ¬ (8 : Int) < (n : Int) := by omega
    replace hq := Lib.hid hq
    go_wp2_with (fail)
    have hp : ∃ B1, Calls Try.prog 18 #[.pointer (some ⟨a.s1, 0, none⟩), .slice A vq.length c] w3 fun e w' => e = .returned (.int .i64 0) ∧ Hid (Wd w w' a L B1 (upd (fun _ => 0) 1 (0 + vq.length))) ∧ Hid (cels B1 (L.beg 5) vq.length = vq) := by
      refine ⟨_, (wd_push hW.out 1 (by decide) A c sb so vq (by show vq.length ≤ roomOf L 5 - 0; omega) (hvq0.out.bel hW.out.be hsq.out)).mono fun e w' g => ⟨g.1, Lib.hid g.2.1, Lib.hid ?_⟩⟩
      have h1 := hW.out.im.len
      have h2 := hev5.out.2.1
      show cels (laid B (L.beg 5) 0 vq) (L.beg 5) vq.length = vq
      rw [cels_laid (L.beg 5) B 0 vq.length vq (by omega) (by omega) hvqi.out]
      simp [cels]
    obtain ⟨B1, hp⟩ := hp
    rw [hq.out] at hp
    refine hp.mono ?_
    rintro e w4 ⟨rfl, hW4, hE⟩
    obtain ⟨d1, hd1⟩ : ∃ d1, upd (fun _ => 0) 1 (0 + vq.length) = d1 := ⟨_, rfl⟩
    have hd0 : d1 1 = vq.length := by rw [← hd1, upd_same]; omega
    rw [hq.out] at hd1 hd0
    rw [hd1] at hW4
    clear hp hd1
    replace hd0 := Lib.hid hd0
    have hS : ∀ r : Int, ∃ S : ByteArray, S = ⟨(partL L B1 r).toArray⟩ ∧ S.size ≤ 143360 := fun r => ⟨_, rfl, by rw [strsize]; exact part_le hok.out hW4.out.im.len r⟩
    obtain ⟨S5, hS5, z5⟩ := hS 5
    obtain ⟨S1, hS1, z1⟩ := hS 1
    obtain ⟨S3, hS3, z3⟩ := hS 3
    have hP : ∀ (B' : List UInt8) (d' : Nat → Nat) (w' : World), Wd w w' a L B' d' → Far L B1 B' → (∀ n, Calls Try.prog 11 #[.pointer (some ⟨a.ip, 0, none⟩), .int .i64 5] (w'.drewN n) fun e w2 => e = .returned (.string S5) ∧ ∃ k, w2 = (w'.drewN n).drewN k) ∧ (∀ n, Calls Try.prog 11 #[.pointer (some ⟨a.ip, 0, none⟩), .int .i64 1] (w'.drewN n) fun e w2 => e = .returned (.string S1) ∧ ∃ k, w2 = (w'.drewN n).drewN k) ∧ (∀ n, Calls Try.prog 11 #[.pointer (some ⟨a.ip, 0, none⟩), .int .i64 3] (w'.drewN n) fun e w2 => e = .returned (.string S3) ∧ ∃ k, w2 = (w'.drewN n).drewN k) := by
      intro B' d' w' hw hf
      refine ⟨fun n => ?_, fun n => ?_, fun n => ?_⟩
      · have := Part_any (hw.im.draws n) 5
        rw [hf.part hok.out 5 (by decide), ← hS5] at this
        exact this
      · have := Part_any (hw.im.draws n) 1
        rw [hf.part hok.out 1 (by decide), ← hS1] at this
        exact this
      · have := Part_any (hw.im.draws n) 3
        rw [hf.part hok.out 3 (by decide), ← hS3] at this
        exact this
    clear hS hS5 hS1 hS3
    replace hP := Lib.hid hP
    have zz1 : ¬ (9223372036854775807 < S5.size + S1.size) := by omega
    have zz2 : ¬ (9223372036854775807 < (S5 ++ S1).size + S3.size) := by rw [ByteArray.size_append]; omega
    have c0 := hW4.out.cells.1
    have c1 := hW4.out.cells.2.1
    have hp0 := Lib.hid (hP.out B1 d1 w4 hW4.out (Far.refl L B1))
    clear z1 z3 z5
    go_wp2_with (fail)
    go_quiet ((first | (go_at_call 11; with_reducible exact Calls.quiet_of (hp0.out.1 _)) | (go_at_call 11; with_reducible exact Calls.quiet_of (hp0.out.2.1 _)) | (go_at_call 11; with_reducible exact Calls.quiet_of (hp0.out.2.2 _))))
    go_wp2_with (fail)
    have hW5 := Lib.hid (hW4.out.draws nq)
    obtain ⟨w5, hw5⟩ : ∃ w5, w4.drewN nq = w5 := ⟨_, rfl⟩
    rw [hw5] at hW5 ⊢
    clear hw5 hW4 hp0 c0 c1 hW
    have hl1 := Lib.hid hW5.out.im.len
    have hn2I : (n2 : Int) ≤ 140737488351232 := by omega
    go_loopw [12] (fun x wr => ∃ j : Nat, x = .int .i64 j ∧ j ≤ n2 ∧ j ≤ 100 ∧ ∃ B' d', Hid (Wd w wr a L B' d') ∧ Hid (Far L B1 B') ∧ Hid (d' 1 = d1 1)) (fun x _ => 100 - (intOf x).toNat)
    case atStart => exact ⟨0, rfl, Nat.zero_le _, Nat.zero_le _, B1, d1, hW5, Lib.hid (Far.refl L B1), Lib.hid rfl⟩
    case round =>
      obtain ⟨j, rfl, hj1, hj2, B', d', hWj, hF, hdd⟩ := hrel
      have c0 := hWj.out.cells.1
      have c1 := hWj.out.cells.2.1
      by_cases hj : j < n2 ∧ j < 100
      · obtain ⟨ob, oo, o0, o1, o2, OB, ol, oc, rfl, hlt, g0, g1, g2, g3, r0, r1, r2, hV, hVl⟩ := hops.out.2 j hj.1
        have g0 := (hWj.out.be.cell (p := ⟨ob, oo + j * 4, none⟩) hlt).trans g0
        have g1 := (hWj.out.be.cell (p := ⟨ob, oo + j * 4 + 1, none⟩) hlt).trans g1
        have g2 := (hWj.out.be.cell (p := ⟨ob, oo + j * 4 + 2, none⟩) hlt).trans g2
        have g3 := (hWj.out.be.cell (p := ⟨ob, oo + j * 4 + 3, none⟩) hlt).trans g3
        have j0 : (j : Int) < (n2 : Int) := by omega
        have j1 : (j : Int) < 100 := by omega
        go_wp2_with (fail)
        have hBx := Bk.fresh wr 65 #[.int .i64 o0, .int .i64 o1, .int .i64 o2, .slice OB ol oc]
        have hlx : Below wr.heap.size wr (wr.alloc (.cells #[.int .i64 o0, .int .i64 o1, .int .i64 o2, .slice OB ol oc] 65)) := (Below.refl _ _).alloc (Nat.le_refl _) _
        obtain ⟨X, hX⟩ : ∃ X, wr.alloc (.cells #[.int .i64 o0, .int .i64 o1, .int .i64 o2, .slice OB ol oc] 65) = X := ⟨_, rfl⟩
        rw [hX] at hBx hlx ⊢
        clear hX
        obtain ⟨bx, hbx⟩ : ∃ bx, wr.heap.size = bx := ⟨_, rfl⟩
        rw [hbx] at hBx ⊢
        have hWx := Lib.hid (hWj.out.bel hlx)
        clear hbx hlx g0 g1 g2 g3 c0 c1
        have x2 := hBx.cell 2
        have x3 := hBx.cell 3
        simp at x2 x3
        replace hBx := Lib.hid hBx
        have hpk := pick_any o1 6 X r1.1 r1.2 (by decide) (by decide)
        rw [show (6 : Int).toNat = 6 from rfl] at hpk
        have hk := pickN_lt o1 6 (by decide)
        obtain ⟨kk, hkk⟩ : ∃ kk, pickN o1 6 = kk := ⟨_, rfl⟩
        rw [hkk] at hpk hk
        clear hkk
        refine hpk.mono ?_
        rintro e X1 ⟨rfl, hw_⟩
        have hw_ := hw_.symm
        subst hw_
        clear hpk
        have qP := Lib.hid (any_push hWx.out hl1.out hF.out OB ol oc hV hVl)
        have qO := Lib.hid (any_pop hWx.out hF.out)
        have qK := Lib.hid (any_poke hWx.out hl1.out hF.out o2 j)
        have qR := Lib.hid (any_roll hWx.out hl1.out hF.out o2)
        have qC := Lib.hid (any_cut hWx.out hl1.out hF.out o2)
        clear hV hVl r0 r1 r2 hF hWj hWx
        have hfin : ∀ w', Left w w' a L B1 (d' 1) → (∃ j_1 : Nat, Value.int .i64 ((j : Int) + 1) = .int .i64 j_1 ∧ j_1 ≤ n2 ∧ j_1 ≤ 100 ∧ ∃ B' d', Hid (Wd w w' a L B' d') ∧ Hid (Far L B1 B') ∧ Hid (d' 1 = d1 1)) ∧ 100 - (intOf (.int .i64 ((j : Int) + 1))).toNat < 100 - (intOf (.int .i64 (j : Int))).toNat := by
          rintro w' ⟨B2, d2, h1, h2, h3⟩
          refine ⟨⟨j + 1, rfl, by omega, by omega, B2, d2, Lib.hid h1, Lib.hid h2, Lib.hid (h3.trans hdd.out)⟩, ?_⟩
          simp [intOf]; omega
        replace hfin := Lib.hid hfin
        rcases (by omega : kk = 0 ∨ kk = 1 ∨ kk = 2 ∨ kk = 3 ∨ kk = 4 ∨ kk = 5) with rfl | rfl | rfl | rfl | rfl | rfl
        all_goals clear hk
        · go_wp2_with (go_at_call 18; refine qP.out.mono ?_; rintro e X2 ⟨v, rfl, hL⟩; replace hL := Lib.hid hL)
          exact hfin.out _ hL.out
        · go_wp2_with (go_at_call 18; refine qP.out.mono ?_; rintro e X2 ⟨v, rfl, hL⟩; replace hL := Lib.hid hL)
          exact hfin.out _ hL.out
        · go_wp2_with (go_at_call 23; refine qO.out.mono ?_; rintro e X2 ⟨v, f, rfl, hL⟩; replace hL := Lib.hid hL)
          exact hfin.out _ hL.out
        · go_wp2_with (go_at_call 22; refine qK.out.mono ?_; rintro e X2 ⟨v, rfl, hL⟩; replace hL := Lib.hid hL)
          exact hfin.out _ hL.out
        · go_wp2_with (go_at_call 20; refine qR.out.mono ?_; rintro e X2 ⟨v, rfl, hL⟩; replace hL := Lib.hid hL)
          exact hfin.out _ hL.out
        · go_wp2_with (go_at_call 26; refine qC.out.mono ?_; rintro e X2 ⟨v, rfl, hL⟩; replace hL := Lib.hid hL)
          exact hfin.out _ hL.out
      · have jj : ¬ ((j : Int) < (n2 : Int)) ∨ ((j : Int) < (n2 : Int)) ∧ ¬ ((j : Int) < 100) := by omega
        have hc : Calls Try.prog 16 #[.pointer (some ⟨a.s1, 0, none⟩)] wr fun e w' => ∃ g, e = .returned (.slice (some ⟨g, 0, none⟩) (d1 1) (d1 1)) ∧ Bk w' g 3 (i64s vq).toArray ∧ Hid (Wd w w' a L B' d') := by
          refine (wd_cells hWj.out 1 (by decide)).mono fun e w' ⟨g, h1, _, h3, h4, _⟩ => ⟨g, ?_, ?_, Lib.hid h4⟩
          · rw [hdd.out] at h1; exact h1
          · rw [hdd.out, hd0.out] at h3
            have e5 : cels B' (L.beg (rgOf 1)) = cels B' (L.beg 5) := rfl
            rw [e5, hF.out.cels] at h3
            rw [hE.out] at h3
            exact h3
        rw [hd0.out] at hc
        replace hc := Lib.hid hc
        have c2' := hWj.out.cells.2.2.1
        rcases jj with jj | ⟨jj, jj2⟩
        all_goals (
          go_wp2_with (go_at_call 16; refine hc.out.mono ?_; rintro e X2 ⟨g, rfl, hX, hW6⟩)
          refine (same_any (some ⟨g, 0, none⟩) A _ _ _ c g 0 sb so vq vq X2 (rowd_of hX) (hvq0.out.bel hW6.out.be hsq.out) hq.out hq.out (by omega)).mono ?_
          rintro e w7 ⟨he, q7, hw7⟩
          have he : e = .returned (.bool true) := by rw [he]; simp
          subst he
          have hW7 := Lib.hid (by rw [hw7]; exact hW6.out.draws q7 : Wd w w7 a L B' d')
          have hp7 := Lib.hid (hP.out B' d' w7 hW7.out hF.out)
          clear hX hw7 hW6 hc c2' c1
          have c0 := hW7.out.cells.1
          go_wp2_with (fail)
          go_quiet ((first | (go_at_call 11; with_reducible exact Calls.quiet_of (hp7.out.1 _)) | (go_at_call 11; with_reducible exact Calls.quiet_of (hp7.out.2.1 _)) | (go_at_call 11; with_reducible exact Calls.quiet_of (hp7.out.2.2 _))))
          go_wp2_with (fail)
          go_returns
          exact ⟨rfl, (hW7.out.draws _).be⟩)
end Go.Proofs.Ytkopgjdnfjgbjaa
