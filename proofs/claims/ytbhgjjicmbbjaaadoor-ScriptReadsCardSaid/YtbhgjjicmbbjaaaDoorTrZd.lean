import Derived.Test.YtbhgjjicmbbjaaaDoorTrZb
import Derived.Test.YtbhgjjicmbbjaaaDoorTrZc
import Derived.Test.YtbhgjjicmbbjaaaDoorTrSh
import Derived.Test.YtbhgjjicmbbjaaaDoorTrU
import Derived.Test.YtbhgjjicmbbjaaaDoorTrV
namespace Go.Proofs.YtbhgjjicmbbjaaaDoor
open Go.RowKit
set_option linter.unusedVariables false
set_option linter.unusedSimpArgs false
/-! chapter 17, the document's ReadPublic (printed by gen_trz.py) -/
def puB (w' : World) (v : Value) : Rd Pu → Prop
  | .got l => ∃ A c, v = .tuple #[.slice A l.length c, .int .i64 0, .int .i64 0] ∧ PuRow w' A l
  | .bad e k => v = .tuple #[.slice none 0 0, .int .i64 e, .int .i64 (k : Int)]
theorem pu_step {li : ByteArray} {n : Nat} {r was T : List UInt8} {E : Int} {Xs : List Pu} {f u : Int} {t : ByteArray} (hn : Xs.length = n) (h32 : n < 32) (hall : Xs.all puOk = true) (hw : was = linesL puL 1 Xs) (hli : li.data.toList = line1 r) (ht : T = writeT puOk puL (Xs ++ [(⟨t, f, u⟩ : Pu)])) (hE : E = writeE puOk (Xs ++ [(⟨t, f, u⟩ : Pu)]))
    (hln : LnPu (li.extract 0 (li.size - 1)) f u t) :
    (E = 0 → T = was ++ li.data.toList → theX puOk puL (n + 1) (line1 r) = some (⟨t, f, u⟩ : Pu) ∧ (Xs ++ [(⟨t, f, u⟩ : Pu)]).all puOk = true ∧ T = linesL puL 1 (Xs ++ [(⟨t, f, u⟩ : Pu)])) ∧ (¬ (E = 0 ∧ T = was ++ li.data.toList) → theX puOk puL (n + 1) (line1 r) = none) :=
  round2 kind_pu hn h32 hall hw hli ht hE (fun y hy e => by
      obtain ⟨h1, h2, h3, h4⟩ := hln
      obtain ⟨e1, e2, e3⟩ := h4 (n + 1) y hy (cut_end e)
      cases y
      simp only at e1 e2 e3
      rw [e1, e2, e3])
theorem pu_Iof {li : ByteArray} {f u : Int} {t : ByteArray} (hs : li.size ≤ 200000) (hln : LnPu li f u t) : puI (⟨t, f, u⟩ : Pu) := by
  obtain ⟨h1, h2, h3, _⟩ := hln
  have hi : inI f := by unfold inI; omega
  have hs3 : t.size ≤ 400000 := by omega
  exact ⟨hi, h2, hs3⟩
theorem ln_storepu {wr X : World} {F : Nat} (bk : Bk X F 66 #[.int .i64 0, .int .i64 0, .int .i64 0, .bool false, .string ⟨#[]⟩]) (hb : Below wr.heap.size wr X) (hF : wr.heap.size ≤ F) (v0 v1 v2 v3 v4 : Value) :
    Bk (((((X.setCell ⟨F, 0, none⟩ v0).setCell ⟨F, 1, none⟩ v1).setCell ⟨F, 2, none⟩ v2).setCell ⟨F, 3, none⟩ v3).setCell ⟨F, 4, none⟩ v4) F 66 #[v0, v1, v2, v3, v4] ∧
    Below wr.heap.size wr (((((X.setCell ⟨F, 0, none⟩ v0).setCell ⟨F, 1, none⟩ v1).setCell ⟨F, 2, none⟩ v2).setCell ⟨F, 3, none⟩ v3).setCell ⟨F, 4, none⟩ v4) :=
  ⟨((((bk.put 0 v0).put 1 v1).put 2 v2).put 3 v3).put 4 v4, ((((hb.setCell (p := ⟨F, 0, none⟩) hF _).setCell (p := ⟨F, 1, none⟩) hF _).setCell (p := ⟨F, 2, none⟩) hF _).setCell (p := ⟨F, 3, none⟩) hF _).setCell (p := ⟨F, 4, none⟩) hF _⟩
set_option maxRecDepth 100000 in
set_option maxHeartbeats 8000000 in
theorem RReadPublic_any (s : ByteArray) (hs : s.size ≤ 200000) (w : World) : Calls Tryd.prog 23 #[.string s] w fun e w' => (∃ v, e = .returned v ∧ puB w' v (readS puOk puL s.data.toList)) ∧ Below w.heap.size w w' := by
  obtain ⟨R, hR⟩ : ∃ R, readS puOk puL s.data.toList = R := ⟨_, rfl⟩
  rw [hR]
  have hl := Lib.hid (rlines_any s hs w)
  replace hR := Lib.hid hR
  replace hs := Lib.hid hs
  go_enter Tryd.func23, Tryd.ntmps23
  go_wp2_with (fail)
  refine hl.out.mono ?_
  rintro e w1 ⟨⟨AL, n, cL, Ls, rfl, hLn, hn2, hSt, hLS⟩, hb1⟩
  have hB1 := Lib.hid hb1
  replace hSt := Lib.hid hSt
  replace hLn := Lib.hid hLn
  clear hb1 hl
  go_wp2_with (fail)
  go_loopw [5, 7, 8] (fun x5 x7 x8 wr => ∃ (A : Option Addr) (c i : Nat) (T : ByteArray), x5 = .slice A i c ∧ x7 = .string T ∧ x8 = .int .i64 i ∧ i ≤ 32 ∧ i ≤ n ∧ Hid (∃ X r, X.length = i ∧ X.all puOk = true ∧ T.data.toList = linesL puL 1 X ∧ T.size + r.length = s.size ∧ LnS r ((Ls.map toL).drop i) ∧ Rd.join X (readN puOk puL (32 - i) (i + 1) r) = R ∧ wr.ownsRow w1.heap.size 27 3 (.slice A i c) i (pusC X) ∧ Below w1.heap.size w1 wr)) (fun _ _ x8 _ => n - (intOf x8).toNat)
  case atStart =>
    refine ⟨none, 0, 0, ⟨#[]⟩, rfl, rfl, rfl, by decide, Nat.zero_le _, Lib.hid ⟨[], s.data.toList, rfl, rfl, rfl, ?_, by rw [List.drop_zero]; exact hLS, ?_, World.ownsRow_nil _ _ _ _, Below.refl _ _⟩⟩
    · rw [data_size]; show 0 + s.size = s.size; omega
    · rw [← hR.out]
      unfold readS
      cases readN puOk puL 32 1 s.data.toList <;> rfl
  case round =>
    obtain ⟨A, c, i, T, rfl, rfl, rfl, hi, hin, hQ⟩ := hrel
    obtain ⟨X, r, hX, hall, hT, hsum, hLr, hJ, hown, hW⟩ := hQ.out
    clear hR hQ hLS
    by_cases hlt : i < n
    · have hlt' : (i : Int) < (n : Int) := by omega
      obtain ⟨li, hli⟩ : ∃ li, Ls[i]? = some li := ⟨_, List.getElem?_eq_getElem (by rw [hLn.out]; exact hlt)⟩
      have hdr : (Ls.map toL).drop i = toL li :: (Ls.map toL).drop (i + 1) := by
        rw [List.drop_eq_getElem_cons (by rw [List.length_map, hLn.out]; exact hlt), List.getElem_map]
        congr 1
        rw [List.getElem?_eq_getElem (by rw [hLn.out]; exact hlt)] at hli
        rw [Option.some.inj hli]
      rw [hdr] at hLr
      obtain ⟨hr0, hl1, hLr2⟩ := hLr
      have hr9 := rest1_len r hr0
      by_cases h32 : i = 32
      · have hRb : Hid (R = .bad 3 33) := by
          rw [← hJ, h32]
          show Rd.join X (readN puOk puL 0 33 r) = _
          unfold readN
          rw [if_neg hr0]
          rfl
        subst h32
        have hBB := Lib.hid (hB1.out.trans (hW.mono hB1.out.size))
        clear hall hT hsum hJ hown hW hli hdr hr0 hl1 hLr2 hr9 hX hlt
        go_wp2_with (fail)
        go_returns
        refine ⟨⟨_, rfl, ?_⟩, hBB.out⟩
        rw [hRb.out]
        exact rfl
      · have h32' : ((i : Int) == 32) = false := by simp; omega
        have hi32 : i < 32 := by omega
        obtain ⟨m, hm⟩ : ∃ m, 32 - i = m + 1 := ⟨31 - i, by omega⟩
        have hm2 : 32 - (i + 1) = m := by omega
        rw [hm, readN, if_neg hr0] at hJ
        have hls : li.size = (line1 r).length := by rw [← hl1]; exact list_size li
        have hl0 : 1 ≤ li.size := by
          rw [hls]
          exact List.length_pos_iff.2 hr9.2
        have hs2 := hs.out
        have hlz : li.size ≤ 200000 := by omega
        have hTz : T.size ≤ 200000 := by omega
        have hlzI : (li.size : Int) ≤ 200000 := by omega
        have e1 : ((li.size : Int) - 1).toNat = li.size - 1 := by omega
        have g1 : (1 : Int) ≤ (li.size : Int) := by omega
        have ew := Lib.hid (by rw [IntKind.wrap_i64]; omega : IntKind.i64.wrap ((li.size : Int) - 1) = (li.size : Int) - 1)
        have g2 : (li.size : Int) - 1 ≤ (li.size : Int) := by omega
        obtain ⟨b, off, rfl, hbl, hc⟩ := hSt.out i li hli
        have hcell := Lib.hid (fun W (h : Below w1.heap.size w1 W) => (h.cell (p := ⟨b, off + i, none⟩) hbl).trans hc)
        have c0 := hcell.out wr hW
        have hstep := Lib.hid (fun (f u : Int) (t : ByteArray) (E : Int) (TL : List UInt8) (ht : TL = writeT puOk puL (X ++ [(⟨t, f, u⟩ : Pu)])) (hE : E = writeE puOk (X ++ [(⟨t, f, u⟩ : Pu)])) (hln : LnPu (li.extract 0 (li.size - 1)) f u t) => pu_step hX hi32 hall hT hl1 ht hE hln)
        have hq := fun W => rRead_pu (li.extract 0 (li.size - 1)) (by rw [ByteArray.size_extract]; omega) W
        have hIof := fun (f u : Int) (t : ByteArray) (h : LnPu (li.extract 0 (li.size - 1)) f u t) => pu_Iof (by rw [ByteArray.size_extract]; omega) h
        obtain ⟨LI, hLI⟩ : ∃ LI, li.extract 0 (li.size - 1) = LI := ⟨_, rfl⟩
        simp only [hLI] at hstep hq hIof
        replace hq := Lib.hid hq
        replace hIof := Lib.hid hIof
        have hcat := cat_run T li (by omega)
        have hrow := Lib.hid (And.intro hown hW)
        have hnum := Lib.hid (⟨hX, hall, hsum, hr9.1, hls, hLr2, hm2⟩ : X.length = i ∧ X.all puOk = true ∧ T.size + r.length = s.size ∧ (line1 r).length + (rest1 r).length = r.length ∧ li.size = (line1 r).length ∧ LnS (rest1 r) ((Ls.map toL).drop (i + 1)) ∧ 32 - (i + 1) = m)
        replace hJ := Lib.hid hJ
        have hlt9 := Lib.hid (And.intro hi32 hlt)
        clear hall hT hsum hown hW hli hdr hr0 hl1 hLr2 hr9 hX hlt hc hbl hls hm hm2 hi32 h32
        go_upto_region 9 with (fail)
        have c1 := hcell.out _ (hrow.out.2.alloc hrow.out.2.size (.cells (lnV 0 0 0 false ⟨#[]⟩) 66)).drew
        have c2 := hcell.out _ hrow.out.2.drew
        unfold lnV at c1
        go_cut [9] from 14 to 65 (fun s9 wx => ∃ (F : Nat) (f u : Int) (t : ByteArray), s9 = .pointer (some ⟨F, 0, none⟩) ∧ Hid (Bk wx F 66 #[.int .i64 f, .int .i64 u, .int .i64 0, .bool false, .string t] ∧ LnPu LI f u t ∧ Below wr.heap.size wr wx))
        case first =>
          have ew := ew.out
          refine wp_region_held_drew (S := fun w' => w'.cell? ⟨b, off + i, none⟩ = some (.string li)) (by kernel_rfl) c2 (fun hHeld => ?_)
          refine wpAnyH_take (i := 0) (oi := { dst := some 24, op := _, type := _, pos := _, after := _, guard := _ }) (v := ?_) rfl (by kernel_rfl) (by kernel_rfl) (by kernel_rfl) (fun _ _ _ h => h) (Or.inl ⟨by rfl, ?_⟩) (by assumption) ?_
          rotate_left
          focus ((intro w hSw); (try dsimp only at hSw); go_simp; (try (with_reducible rfl)))
          try simp only [Act.put, List.setIfInBounds_toArray, List.set_cons_zero, List.set_cons_succ]
          refine wpAnyH_take (i := 1) (oi := { dst := some 25, op := _, type := _, pos := _, after := _, guard := _ }) (v := ?_) rfl (by kernel_rfl) (by kernel_rfl) (by kernel_rfl) (fun _ _ _ h => h) (Or.inl ⟨by rfl, ?_⟩) (by assumption) ?_
          rotate_left
          focus ((intro w hSw); (try dsimp only at hSw); go_simp; (try (with_reducible rfl)))
          try simp only [Act.put, List.setIfInBounds_toArray, List.set_cons_zero, List.set_cons_succ]
          refine wpAnyH_take (i := 2) (oi := { dst := some 26, op := _, type := _, pos := _, after := _, guard := _ }) (v := ?_) rfl (by kernel_rfl) (by kernel_rfl) (by kernel_rfl) (fun _ _ _ h => h) (Or.inl ⟨by rfl, ?_⟩) (by assumption) ?_
          rotate_left
          focus ((intro w hSw); (try dsimp only at hSw); go_simp; (try (with_reducible rfl)))
          try simp only [Act.put, List.setIfInBounds_toArray, List.set_cons_zero, List.set_cons_succ]
          refine wpAnyH_take (i := 3) (oi := { dst := some 27, op := _, type := _, pos := _, after := _, guard := _ }) (v := ?_) rfl (by kernel_rfl) (by kernel_rfl) (by kernel_rfl) (fun _ _ _ h => h) (Or.inl ⟨by rfl, ?_⟩) (by assumption) ?_
          rotate_left
          focus ((intro w hSw); (try dsimp only at hSw); go_simp; (try (with_reducible rfl)))
          try simp only [Act.put, List.setIfInBounds_toArray, List.set_cons_zero, List.set_cons_succ]
          refine wpAnyH_take (i := 4) (oi := { dst := some 28, op := _, type := _, pos := _, after := _, guard := _ }) (v := ?_) rfl (by kernel_rfl) (by kernel_rfl) (by kernel_rfl) (fun _ _ _ h => h) (Or.inl ⟨by rfl, ?_⟩) (by assumption) ?_
          rotate_left
          focus ((intro w hSw); (try dsimp only at hSw); go_simp; (try (with_reducible rfl)))
          try simp only [Act.put, List.setIfInBounds_toArray, List.set_cons_zero, List.set_cons_succ]
          refine wpAnyH_take (i := 5) (oi := { dst := some 29, op := _, type := _, pos := _, after := _, guard := _ }) (v := ?_) rfl (by kernel_rfl) (by kernel_rfl) (by kernel_rfl) (fun _ _ _ h => h) (Or.inl ⟨by rfl, ?_⟩) (by assumption) ?_
          rotate_left
          focus ((intro w hSw); (try dsimp only at hSw); go_simp; (try (with_reducible rfl)))
          try simp only [Act.put, List.setIfInBounds_toArray, List.set_cons_zero, List.set_cons_succ]
          refine wpAnyH_take (i := 6) (oi := { dst := some 30, op := _, type := _, pos := _, after := _, guard := _ }) (v := ?_) rfl (by kernel_rfl) (by kernel_rfl) (by kernel_rfl) (fun _ _ _ h => h) (Or.inl ⟨by rfl, ?_⟩) (by assumption) ?_
          rotate_left
          focus ((intro w hSw); (try dsimp only at hSw); go_simp; (try (with_reducible rfl)))
          try simp only [Act.put, List.setIfInBounds_toArray, List.set_cons_zero, List.set_cons_succ]
          refine wpAnyH_take (i := 7) (oi := { dst := some 31, op := _, type := _, pos := _, after := _, guard := _ }) (v := ?_) rfl (by kernel_rfl) (by kernel_rfl) (by kernel_rfl) (fun _ _ _ h => h) (Or.inl ⟨by rfl, ?_⟩) (by assumption) ?_
          rotate_left
          focus ((intro w hSw); (try dsimp only at hSw); go_simp; (try (with_reducible rfl)))
          try simp only [Act.put, List.setIfInBounds_toArray, List.set_cons_zero, List.set_cons_succ]
          refine wpAnyH_take (i := 8) (oi := { dst := some 32, op := _, type := _, pos := _, after := _, guard := _ }) (v := ?_) rfl (by kernel_rfl) (by kernel_rfl) (by kernel_rfl) (fun _ _ _ h => h) (Or.inl ⟨by rfl, ?_⟩) (by assumption) ?_
          rotate_left
          focus ((intro w hSw); (try dsimp only at hSw); go_simp; (try (with_reducible rfl)))
          try simp only [Act.put, List.setIfInBounds_toArray, List.set_cons_zero, List.set_cons_succ]
          refine wpAnyH_take (i := 9) (oi := { dst := some 33, op := _, type := _, pos := _, after := _, guard := _ }) (v := ?_) rfl (by kernel_rfl) (by kernel_rfl) (by kernel_rfl) (fun _ _ _ h => h) (Or.inl ⟨by rfl, ?_⟩) (by assumption) ?_
          rotate_left
          focus ((intro w hSw); (try dsimp only at hSw); go_simp; (try (with_reducible rfl)))
          try simp only [Act.put, List.setIfInBounds_toArray, List.set_cons_zero, List.set_cons_succ]
          refine wpAnyH_take (i := 10) (oi := { dst := some 34, op := _, type := _, pos := _, after := _, guard := _ }) (v := ?_) rfl (by kernel_rfl) (by kernel_rfl) (by kernel_rfl) (fun _ _ _ h => h) (Or.inl ⟨by rfl, ?_⟩) (by assumption) ?_
          rotate_left
          focus ((intro w hSw); (try dsimp only at hSw); go_simp; (try (with_reducible rfl)))
          try simp only [Act.put, List.setIfInBounds_toArray, List.set_cons_zero, List.set_cons_succ]
          clear hHeld
          refine wpAnyH_ready (rs := [11, 12]) (by kernel_rfl) (by simp) ?_
          refine AllReadyH.cons (o := { dst := some 35, op := _, type := _, pos := _, after := _, guard := _ }) rfl (fun K hK => ?_) (AllReadyH.cons (o := { dst := some 9, op := _, type := _, pos := _, after := _, guard := _ }) rfl (fun K hK => ?_) AllReadyH.nil)
          · go_simp
            refine Calls.mono (hq.out _) ?_
            rintro e w1_ ⟨⟨f, u, t, rfl, hln⟩, hb1⟩
            have hb1 := (Below.refl wr.heap.size wr).drew.trans hb1
            go_wp2_with (fail)
            refine hK.out _ _ (hcell.out _ (hrow.out.2.trans (hb1.mono hrow.out.2.size))) (fun hHeld => ?_)
            clear hK K hHeld
            try simp only [Act.put, List.setIfInBounds_toArray, List.set_cons_zero, List.set_cons_succ]
            refine wpAnyH_ready (rs := [12]) (by kernel_rfl) (by simp) ?_
            refine AllReadyH.cons (o := { dst := some 9, op := _, type := _, pos := _, after := _, guard := _ }) rfl (fun K hK => ?_) AllReadyH.nil
            go_simp
            have bk := Bk.fresh w1_ 66 (lnV 0 0 0 false ⟨#[]⟩)
            have hb2 := hb1.alloc hb1.size (.cells (lnV 0 0 0 false ⟨#[]⟩) 66)
            have hF : wr.heap.size ≤ w1_.heap.size := hb1.size
            unfold lnV at bk hb2
            refine hK _ _ (hcell.out _ (hrow.out.2.trans (hb2.mono hrow.out.2.size))) (fun hHeld => ?_)
            clear hK K hHeld hb1
            try simp only [Act.put, List.setIfInBounds_toArray, List.set_cons_zero, List.set_cons_succ]
            obtain ⟨F, hFe⟩ : ∃ F, w1_.heap.size = F := ⟨_, rfl⟩
            rw [hFe] at bk hF ⊢
            obtain ⟨Y, hY⟩ : ∃ Y, w1_.alloc (.cells #[.int .i64 0, .int .i64 0, .int .i64 0, .bool false, .string ⟨#[]⟩] 66) = Y := ⟨_, rfl⟩
            rw [hY] at bk hb2 ⊢
            clear hY hFe
            have hst := ln_storepu bk hb2 hF (.int .i64 f) (.int .i64 u) (.int .i64 0) (.bool false) (.string t)
            have l0 := bk.cell 0
            have l1 := bk.cell 1
            have l2 := bk.cell 2
            have l3 := bk.cell 3
            have l4 := bk.cell 4
            have f0 := bk.free 0
            have f1 := bk.free 1
            have f2 := bk.free 2
            have f3 := bk.free 3
            have f4 := bk.free 4
            simp at l0 l1 l2 l3 l4
            replace bk := Lib.hid bk
            replace hb2 := Lib.hid hb2
            replace hst := Lib.hid hst
            replace hln := Lib.hid hln
            refine wpAnyH_ready (rs := [13]) (by kernel_rfl) (by simp) ?_
            refine AllReadyH.cons (o := { dst := none, op := _, type := _, pos := _, after := _, guard := _ }) rfl (fun K hK => ?_) AllReadyH.nil
            go_simp
            refine hK _ _ (hcell.out _ (hrow.out.2.trans (hst.out.2.mono hrow.out.2.size))) (fun hHeld => ?_)
            clear hK K hHeld l0 l1 l2 l3 l4 f0 f1 f2 f3 f4
            try simp only [Act.put, List.setIfInBounds_toArray, List.set_cons_zero, List.set_cons_succ]
            refine wpAnyH_done (by kernel_rfl) ?_ _
            go_wp2_with (fail)
            go_meet
            exact ⟨F, f, u, t, rfl, Lib.hid ⟨hst.out.1, hln.out, hst.out.2⟩⟩
          · go_simp
            have bk := Bk.fresh wr 66 (lnV 0 0 0 false ⟨#[]⟩)
            have hb2 := ((Below.refl wr.heap.size wr).alloc (Nat.le_refl _) (.cells (lnV 0 0 0 false ⟨#[]⟩) 66)).drew
            have hF : wr.heap.size ≤ wr.heap.size := Nat.le_refl _
            unfold lnV at bk hb2
            refine hK _ _ (hcell.out _ (hrow.out.2.trans (hb2.mono hrow.out.2.size))) (fun hHeld => ?_)
            clear hK K hHeld
            try simp only [Act.put, List.setIfInBounds_toArray, List.set_cons_zero, List.set_cons_succ]
            obtain ⟨F, hFe⟩ : ∃ F, wr.heap.size = F := ⟨_, rfl⟩
            have hFd := Lib.hid hFe
            obtain ⟨Y, hY⟩ : ∃ Y, (wr.alloc (.cells #[.int .i64 0, .int .i64 0, .int .i64 0, .bool false, .string ⟨#[]⟩] 66)).drew = Y := ⟨_, rfl⟩
            replace bk := bk.draw
            rw [hY] at bk hb2 ⊢
            rw [hFe] at bk ⊢
            clear hY hFe
            replace hF : wr.heap.size ≤ F := Nat.le_of_eq hFd.out
            refine wpAnyH_ready (rs := [11]) (by kernel_rfl) (by simp) ?_
            refine AllReadyH.cons (o := { dst := some 35, op := _, type := _, pos := _, after := _, guard := _ }) rfl (fun K hK => ?_) AllReadyH.nil
            go_simp
            refine Calls.mono (hq.out _) ?_
            rintro e w1_ ⟨⟨f, u, t, rfl, hln⟩, hb1⟩
            replace bk := bk.kept hb1 bk.lt
            replace hb2 := hb2.trans (hb1.mono hb2.size)
            clear hb1
            go_wp2_with (fail)
            refine hK.out _ _ (hcell.out _ (hrow.out.2.trans (hb2.mono hrow.out.2.size))) (fun hHeld => ?_)
            clear hK K hHeld
            try simp only [Act.put, List.setIfInBounds_toArray, List.set_cons_zero, List.set_cons_succ]
            have hst := ln_storepu bk hb2 hF (.int .i64 f) (.int .i64 u) (.int .i64 0) (.bool false) (.string t)
            have l0 := bk.cell 0
            have l1 := bk.cell 1
            have l2 := bk.cell 2
            have l3 := bk.cell 3
            have l4 := bk.cell 4
            have f0 := bk.free 0
            have f1 := bk.free 1
            have f2 := bk.free 2
            have f3 := bk.free 3
            have f4 := bk.free 4
            simp at l0 l1 l2 l3 l4
            replace bk := Lib.hid bk
            replace hb2 := Lib.hid hb2
            replace hst := Lib.hid hst
            replace hln := Lib.hid hln
            refine wpAnyH_ready (rs := [13]) (by kernel_rfl) (by simp) ?_
            refine AllReadyH.cons (o := { dst := none, op := _, type := _, pos := _, after := _, guard := _ }) rfl (fun K hK => ?_) AllReadyH.nil
            go_simp
            refine hK _ _ (hcell.out _ (hrow.out.2.trans (hst.out.2.mono hrow.out.2.size))) (fun hHeld => ?_)
            clear hK K hHeld l0 l1 l2 l3 l4 f0 f1 f2 f3 f4
            try simp only [Act.put, List.setIfInBounds_toArray, List.set_cons_zero, List.set_cons_succ]
            refine wpAnyH_done (by kernel_rfl) ?_ _
            go_wp2_with (fail)
            go_meet
            exact ⟨F, f, u, t, rfl, Lib.hid ⟨hst.out.1, hln.out, hst.out.2⟩⟩
        case' rest =>
          skip
        obtain ⟨F, f, u, t, rfl, hR1⟩ := hcut
        obtain ⟨hbk, hln, hbc⟩ := hR1.out
        have hX9 := hnum.out.1
        have hi9 := hlt9.out.1
        have hW2 : Below w1.heap.size w1 wc := hrow.out.2.trans (hbc.mono hrow.out.2.size)
        have hown2 := own_below hrow.out.1 hbc (Nat.le_refl _)
        have hI := hIof.out f u t hln
        obtain ⟨A2, c2_, w5, hrun, hown3, hgr⟩ := pu_app (w := wc) (⟨t, f, u⟩ : Pu) hX9 hown2 hW2.size (by omega)
        have hB5 := below_grown2 hW2 hgr hW2.size (own_ge hown2)
        have hlen9 : (X ++ [(⟨t, f, u⟩ : Pu)]).length = i + 1 := by rw [List.length_append, hX9]; rfl
        have hpr := RPublic_any A2 (i + 1) c2_ (X ++ [(⟨t, f, u⟩ : Pu)]) w5 hlen9 (puRow_own hown3 hlen9) (fun y hy => by
          rcases List.mem_append.1 hy with h | h
          · exact puOk_I (List.all_eq_true.1 hnum.out.2.1 y h)
          · rw [List.mem_singleton.1 h]; exact hI) (by omega)
        have hst := hstep.out f u t _ _ rfl rfl hln
        obtain ⟨TL, hTL⟩ : ∃ TL, writeT puOk puL (X ++ [(⟨t, f, u⟩ : Pu)]) = TL := ⟨_, rfl⟩
        obtain ⟨E, hE⟩ : ∃ E, writeE puOk (X ++ [(⟨t, f, u⟩ : Pu)]) = E := ⟨_, rfl⟩
        rw [hTL, hE] at hst hpr
        obtain ⟨TB, hTB⟩ : ∃ TB : ByteArray, ⟨TL.toArray⟩ = TB := ⟨_, rfl⟩
        rw [hTB] at hpr
        have hTBl : TB.data.toList = TL := by rw [← hTB]
        rw [← hTBl] at hst
        have k0 := hbk.cell 0
        have k1 := hbk.cell 1
        have k2 := hbk.cell 2
        have k3 := hbk.cell 3
        have k4 := hbk.cell 4
        simp at k0 k1 k2 k3 k4
        replace hrun := Lib.hid hrun
        replace hpr := Lib.hid hpr
        replace hst := Lib.hid hst
        have hrow3 := Lib.hid (And.intro hown3 hB5)
        clear hR1 hbk hln hbc hW2 hown2 hI hown3 hgr hB5 hTL hE hTB hTBl hq hIof hstep hrow c0 c1 c2 ew hLI
        have hii : (i : Int) ≤ 32 := by omega
        replace hlen9 := Lib.hid hlen9
        replace hX9 := Lib.hid hX9
        replace hi9 := Lib.hid hi9
        go_wp2_with (at_builtin; refine wpList_append_run rfl (.tmp 36) (.tmp 44) 22 rfl (.slice A i c) _ _ rfl rfl hrun.out ?_)
        refine hpr.out.mono ?_
        rintro e w6 ⟨rfl, hb⟩
        have hZ := Lib.hid (And.intro (own_below hrow3.out.1 hb (Nat.le_refl _)) (hrow3.out.2.trans (hb.mono hrow3.out.2.size)))
        have c3 := hcell.out w6 hZ.out.2
        have hbad : Hid (¬ (E = 0 ∧ TB.data.toList = T.data.toList ++ li.data.toList) → R = .bad 4 (i + 1)) := fun h => by
          have h2 := hJ.out
          rw [hst.out.2 h] at h2
          simp only [Rd.join] at h2
          exact h2.symm
        clear hb hpr hrow3 hrun k0 k1 k2 k3 k4
        by_cases hE : E = 0
        · have gE1 : (E == 0) = true := by simp [hE]
          have gE2 : (E != 0) = false := by simp [hE]
          obtain ⟨C, hC⟩ : ∃ C : ByteArray, ⟨(T.data.toList ++ li.data.toList).toArray⟩ = C := ⟨_, rfl⟩
          have hCl : C.data.toList = T.data.toList ++ li.data.toList := by rw [← hC]
          rw [hC] at hcat
          by_cases hTC : TB.data.toList = T.data.toList ++ li.data.toList
          · have g5 : (TB.toList == C.toList) = true := by rw [Lib.toList_data, Lib.toList_data, hTC, hCl]; simp
            have g6 : (TB.toList != C.toList) = false := by rw [Lib.toList_data, Lib.toList_data, hTC, hCl]; simp
            have hgood := hst.out.1 hE hTC
            have hJ2 := hJ.out
            rw [hgood.1] at hJ2
            simp only at hJ2
            rw [Rd.join_join] at hJ2
            have hsz : TB.size = T.size + li.size := by rw [list_size, hTC, List.length_append, ← list_size, ← list_size]
            have hfin : Hid (∃ X r, X.length = i + 1 ∧ X.all puOk = true ∧ TB.data.toList = linesL puL 1 X ∧ TB.size + r.length = s.size ∧ LnS r ((Ls.map toL).drop (i + 1)) ∧ Rd.join X (readN puOk puL (32 - (i + 1)) (i + 1 + 1) r) = R ∧ w6.ownsRow w1.heap.size 27 3 (.slice A2 (i + 1) c2_) (i + 1) (pusC X) ∧ Below w1.heap.size w1 w6) :=
              ⟨X ++ [(⟨t, f, u⟩ : Pu)], rest1 r, hlen9.out, hgood.2.1, hgood.2.2, by have h1 := hnum.out.2.2.1; have h2 := hnum.out.2.2.2.1; have h3 := hnum.out.2.2.2.2.1; omega, hnum.out.2.2.2.2.2.1, by rw [hnum.out.2.2.2.2.2.2]; exact hJ2, hZ.out.1, hZ.out.2⟩
            replace hE := Lib.hid hE
            replace hTC := Lib.hid hTC
            clear hgood hJ2 hsz hbad hst hnum hJ hZ hC hCl
            go_wp2_with (fail)
            exact ⟨⟨A2, c2_, i + 1, TB, rfl, rfl, rfl, by have := hi9.out; omega, by have := hlt9.out; omega, hfin⟩, by simp [intOf]; have := hlt9.out; omega⟩
          · have g5 : (TB.toList == C.toList) = false := by rw [Lib.toList_data, Lib.toList_data, hCl]; simpa using hTC
            have g6 : (TB.toList != C.toList) = true := by rw [Lib.toList_data, Lib.toList_data, hCl]; simpa using hTC
            have hRb := Lib.hid (hbad.out (fun h => hTC h.2))
            have hBB := Lib.hid (hB1.out.trans (hZ.out.2.mono hB1.out.size))
            replace hE := Lib.hid hE
            replace hTC := Lib.hid hTC
            clear hbad hst hnum hJ hZ hC hCl
            go_wp2_with (fail)
            go_returns
            refine ⟨⟨_, rfl, ?_⟩, hBB.out⟩
            rw [hRb.out]
            show _ = _
            simp
        · have gE1 : (E == 0) = false := by simp [hE]
          have gE2 : (E != 0) = true := by simp [hE]
          have hRb := Lib.hid (hbad.out (fun h => hE h.1))
          have hBB := Lib.hid (hB1.out.trans (hZ.out.2.mono hB1.out.size))
          replace hE := Lib.hid hE
          clear hbad hst hnum hJ hZ
          go_wp2_with (fail)
          go_returns
          refine ⟨⟨_, rfl, ?_⟩, hBB.out⟩
          rw [hRb.out]
          show _ = _
          simp
    · have hlt' : ¬ (i : Int) < (n : Int) := by omega
      obtain rfl : i = n := by omega
      have hr0 : r = [] := by
        rw [List.drop_eq_nil_of_le (by rw [List.length_map, hLn.out]; exact Nat.le_refl _)] at hLr
        exact hLr
      have hRg : R = .got X := by
        rw [← hJ, hr0]
        cases h : 32 - i <;> (unfold readN; simp [Rd.join])
      have hfin := Lib.hid (And.intro hRg (And.intro (puRow_own hown hX) (And.intro (hB1.out.trans (hW.mono hB1.out.size)) hX)))
      clear hall hT hsum hLr hJ hown hW hr0 hRg hlt
      replace hX := Lib.hid hX
      go_wp2_with (fail)
      go_returns
      refine ⟨⟨_, rfl, ?_⟩, hfin.out.2.2.1⟩
      rw [hfin.out.1]
      exact ⟨A, c, by rw [hfin.out.2.2.2]; rfl, hfin.out.2.1⟩
end Go.Proofs.YtbhgjjicmbbjaaaDoor
