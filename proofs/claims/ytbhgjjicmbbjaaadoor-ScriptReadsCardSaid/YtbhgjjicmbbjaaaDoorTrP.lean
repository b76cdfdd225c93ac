import Derived.Test.YtbhgjjicmbbjaaaDoorTrO
namespace Go.Proofs.YtbhgjjicmbbjaaaDoor
open Go.RowKit
set_option linter.unusedVariables false
set_option linter.unusedSimpArgs false
/-! chapter 17: read, ReadPublic (printed by gen_trp.py) -/
set_option maxRecDepth 100000 in
set_option maxHeartbeats 8000000 in
theorem read_pu (s : ByteArray) (hs : s.size ≤ 200000) (w : World) (hM : Mk w) : Calls Tryd.prog 34 #[.string s, .func (.func 35) #[] #[], .func (.func 27) #[] #[]] w fun e w' => (∃ v, e = .returned v ∧ puA w w' v (readS puOk puL s.data.toList)) ∧ Below w.heap.size w w' := by
  obtain ⟨R, hR⟩ : ∃ R, readS puOk puL s.data.toList = R := ⟨_, rfl⟩
  rw [hR]
  have hmk := Lib.hid (fun W (h : Below w.heap.size w W) => hM.bel h)
  replace hR := Lib.hid hR
  replace hs := Lib.hid hs
  clear hM
  go_enter Tryd.func34, Tryd.ntmps34
  go_wp2_with (fail)
  go_loopw [0, 9, 10] (fun x0 x9 x10 wr => ∃ (r : ByteArray) (A : Option Addr) (c n i : Nat), x0 = .string r ∧ x9 = .slice A n c ∧ x10 = .int .i64 i ∧ i ≤ 33 ∧ Hid (i = n + 1 ∧ r.size ≤ s.size ∧ ∃ X, X.length = n ∧ wr.ownsRow w.heap.size 27 3 (.slice A n c) n (pusC X) ∧ Below w.heap.size w wr ∧ Rd.join X (readN puOk puL (32 - n) i r.data.toList) = R)) (fun x0 _ _ _ => strN x0)
  case atStart =>
    refine ⟨s, none, 0, 0, 1, rfl, rfl, rfl, by decide, Lib.hid ⟨rfl, Nat.le_refl _, [], rfl, World.ownsRow_nil _ _ _ _, Below.refl _ _, ?_⟩⟩
    rw [← hR.out]
    unfold readS
    cases readN puOk puL 32 1 s.data.toList <;> rfl
  case round =>
    obtain ⟨r, A, c, n, i, rfl, rfl, rfl, hi, hQ⟩ := hrel
    obtain ⟨hin, hrs, X, hX, hown, hW, hJ⟩ := hQ.out
    clear hR hQ
    have hs2 := hs.out
    have hi2 : (i : Int) ≤ 33 := by omega
    by_cases hr0 : r.size = 0
    · have hre : r.toList.isEmpty = true := by
        rw [Lib.toList_data]
        rw [list_size] at hr0
        simpa using List.eq_nil_of_length_eq_zero hr0
      have hrl : r.data.toList = [] := by rw [list_size] at hr0; exact List.eq_nil_of_length_eq_zero hr0
      have hRg : R = .got X := by
        rw [← hJ, hrl]
        cases h : 32 - n <;> (unfold readN; simp [Rd.join])
      have hfin := Lib.hid (And.intro hRg (And.intro hown hW))
      subst hX
      clear hown hW hJ hrl hr0 hRg hrs hin hs2
      go_wp2_with (fail)
      go_returns
      refine ⟨⟨_, rfl, ?_⟩, hfin.out.2.2⟩
      rw [hfin.out.1]
      exact ⟨_, _, rfl, hfin.out.2.1⟩
    · have hre : r.toList.isEmpty = false := by
        rw [Lib.toList_data]
        rw [list_size] at hr0
        cases h : r.data.toList with
        | nil => rw [h] at hr0; exact absurd rfl hr0
        | cons => rfl
      have hrl : r.data.toList ≠ [] := fun h => hr0 (by rw [list_size, h]; rfl)
      have hrp : 0 < r.size := by omega
      by_cases h32 : n = 32
      · have hRb : Hid (R = .bad 3 i) := by
          rw [← hJ, h32]
          show Rd.join X (readN puOk puL 0 i r.data.toList) = _
          unfold readN
          rw [if_neg hrl]
          rfl
        have hgt : (32 : Int) < (i : Int) := by omega
        replace hW := Lib.hid hW
        clear hown hJ hrl hr0 hrs hin hs2 hX h32 hrp
        go_wp2_with (fail)
        go_returns
        refine ⟨⟨_, rfl, ?_⟩, hW.out⟩
        rw [hRb.out]
        exact rfl
      · have hgt : ¬ (32 : Int) < (i : Int) := by omega
        obtain ⟨m, hm⟩ : ∃ m, 32 - n = m + 1 := ⟨31 - n, by omega⟩
        have hm2 : 32 - (n + 1) = m := by omega
        rw [hm, readN, if_neg hrl] at hJ
        -- the parts
        have p1 := untB_size 10 r
        have p2 := untB_size 32 (untB 10 r).1
        have p3 := untB_size 32 (untB 32 (untB 10 r).1).2.1
        have p4 := untB_size 32 (untB 32 (untB 32 (untB 10 r).1).2.1).2.1
        have hround := fun (nv : Int) (ev : Value) (x : Pu) (hA : AtoiP (untB 32 (untB 32 (untB 32 (untB 10 r).1).2.1).2.1).1 nv ev) (hx : MadePu (faultP (untB 32 (untB 32 (untB 10 r).1).2.1).1) nv (untB 32 (untB 32 (untB 32 (untB 10 r).1).2.1).2.1).2.1 x) => round_pu (i := i) (r := r) hA hx
        have hrest : rest1 r.data.toList = (untB 10 r).2.1.data.toList := (untB_list 10 r).2.1.symm
        have hrsz : (untB 10 r).2.1.size < r.size := by
          have h1 := (untB_list 10 r).2.1
          rw [list_size, h1, list_size r]
          rcases (untl_spec 10 r.data.toList).2 with ⟨_, h⟩ | ⟨_, h, h2⟩
          · have h3 := congrArg List.length h
            rw [List.length_append, List.length_cons] at h3
            omega
          · rw [h2, ← list_size]; exact hrp
        have q1 := Lib.hid (fun W => cut_any r 10 (by omega) W)
        have q2 := Lib.hid (fun W => cut_any (untB 10 r).1 32 (by omega) W)
        have q3 := Lib.hid (fun W => cut_any (untB 32 (untB 10 r).1).2.1 32 (by omega) W)
        have q4 := Lib.hid (fun W => cut_any (untB 32 (untB 32 (untB 10 r).1).2.1).2.1 32 (by omega) W)
        have q5 := Lib.hid (fun W (h : Mk W) => atoi_any (untB 32 (untB 32 (untB 32 (untB 10 r).1).2.1).2.1).1 (by omega) W h)
        have q6 := Lib.hid (fun W (h : Mk W) => fault_any (untB 32 (untB 32 (untB 10 r).1).2.1).1 W h)
        have q7 := Lib.hid (fun nv W (h : Mk W) => rpub1_any (faultP (untB 32 (untB 32 (untB 10 r).1).2.1).1) nv (untB 32 (untB 32 (untB 32 (untB 10 r).1).2.1).2.1).2.1 (by omega) W h)
        have hFin := faultP_in (untB 32 (untB 32 (untB 10 r).1).2.1).1
        obtain ⟨⟨U1a, U1b, U1c⟩, hU1⟩ : ∃ U, untB 10 r = U := ⟨_, rfl⟩
        simp only [hU1] at p1 p2 p3 p4 hround hrest hrsz q1 q2 q3 q4 q5 q6 q7 hFin
        obtain ⟨⟨U2a, U2b, U2c⟩, hU2⟩ : ∃ U, untB 32 U1a = U := ⟨_, rfl⟩
        simp only [hU2] at p2 p3 p4 hround q2 q3 q4 q5 q6 q7 hFin
        obtain ⟨⟨U3a, U3b, U3c⟩, hU3⟩ : ∃ U, untB 32 U2b = U := ⟨_, rfl⟩
        simp only [hU3] at p3 p4 hround q3 q4 q5 q6 q7 hFin
        obtain ⟨⟨U4a, U4b, U4c⟩, hU4⟩ : ∃ U, untB 32 U3b = U := ⟨_, rfl⟩
        simp only [hU4] at p4 hround q4 q5 q7
        obtain ⟨F9, hF9⟩ : ∃ F, faultP U3a = F := ⟨_, rfl⟩
        simp only [hF9] at hround q6 q7 hFin
        rw [hrest] at hJ
        have hsz := Lib.hid (And.intro p1 (And.intro p2 (And.intro p3 p4)))
        have hZ := Lib.hid (And.intro hown hW)
        have hnum := Lib.hid (And.intro hin (And.intro hrs (And.intro hX hm2)))
        replace hround := Lib.hid hround
        replace hJ := Lib.hid hJ
        replace hrsz := Lib.hid hrsz
        replace hFin := Lib.hid hFin
        have hit := Lib.hid (fun W (h : Mk W) => itoa_any (i : Int) (by omega) (by omega) W h)
        clear p1 p2 p3 p4 hown hW hrl hr0 hrs hin hX h32 hrp hU1 hU2 hU3 hU4 hF9 hrest hm hm2
        go_wp2_with (fail)
        refine (q1.out _).mono ?_
        rintro e w1 ⟨rfl, hb⟩
        have hZ1 := And.intro (own_below hZ.out.1 hb (Nat.le_refl _)) (hZ.out.2.trans (hb.mono hZ.out.2.size))
        replace hZ := Lib.hid hZ1
        clear hb hZ1
        go_wp2_with (fail)
        refine (q2.out _).mono ?_
        rintro e w2_ ⟨rfl, hb⟩
        have hZ1 := And.intro (own_below hZ.out.1 hb (Nat.le_refl _)) (hZ.out.2.trans (hb.mono hZ.out.2.size))
        replace hZ := Lib.hid hZ1
        clear hb hZ1
        go_wp2_with (fail)
        refine (q3.out _).mono ?_
        rintro e w3 ⟨rfl, hb⟩
        have hZ1 := And.intro (own_below hZ.out.1 hb (Nat.le_refl _)) (hZ.out.2.trans (hb.mono hZ.out.2.size))
        replace hZ := Lib.hid hZ1
        clear hb hZ1
        go_wp2_with (fail)
        refine (q4.out _).mono ?_
        rintro e w4 ⟨rfl, hb⟩
        have hZ1 := And.intro (own_below hZ.out.1 hb (Nat.le_refl _)) (hZ.out.2.trans (hb.mono hZ.out.2.size))
        replace hZ := Lib.hid hZ1
        clear hb hZ1
        go_wp2_with (fail)
        clear q1 q2 q3 q4
        refine (q5.out _ (hmk.out _ hZ.out.2)).mono ?_
        rintro e w5 ⟨⟨nv, ev, rfl, hA⟩, hb⟩
        have hZ1 := And.intro (own_below hZ.out.1 hb (Nat.le_refl _)) (hZ.out.2.trans (hb.mono hZ.out.2.size))
        replace hZ := Lib.hid hZ1
        replace hA := Lib.hid hA
        clear hb hZ1 q5
        go_wp2_with (fail)
        refine (q6.out _ (hmk.out _ hZ.out.2)).mono ?_
        rintro e w6 ⟨rfl, hb⟩
        have hZ1 := And.intro (own_below hZ.out.1 hb (Nat.le_refl _)) (hZ.out.2.trans (hb.mono hZ.out.2.size))
        replace hZ := Lib.hid hZ1
        clear hb hZ1
        go_wp2_with (fail)
        clear q6
        refine (q7.out nv _ (hmk.out _ hZ.out.2)).mono ?_
        rintro e w7 ⟨⟨x, rfl, hx⟩, hb⟩
        have hrd := hround.out nv ev x hA.out hx
        have hI : puI x := by
          have hfi := hFin.out
          have hsz' := hsz.out
          have hai := hA.out.1
          have hs3 := hs.out
          have hs4 := hnum.out.2.1
          obtain ⟨m1, m2, m3, m4⟩ := hx
          unfold puI
          rw [m1, m2]
          exact ⟨by unfold inI; omega, hai, by omega⟩
        have hpb := fun W (h : Mk W) => public_any x hI W h
        have hb0 := hb
        have hZ1 := And.intro (own_below hZ.out.1 hb (Nat.le_refl _)) (hZ.out.2.trans (hb.mono hZ.out.2.size))
        have hok9 : puOk x = true ∨ puOk x = false := by cases puOk x <;> simp
        have happ0 := fun (W : World) (hb : Below w7.heap.size w7 W) => pu_app (w := W) x hnum.out.2.2.1 (own_below (own_below hZ.out.1 hb0 (Nat.le_refl _)) hb (Nat.le_refl _)) (by have h1 := hZ.out.2.size; have h2 := hb0.size; have h3 := hb.size; omega) (by have h1 := hnum.out.1; omega)
        clear hx hb hb0 hround q7 hFin hsz
        replace hrd := Lib.hid hrd
        replace hZ := Lib.hid hZ1
        obtain ⟨o, f, u⟩ := x
        unfold puV at hpb ⊢
        simp only at hpb happ0 ⊢
        have hf := Bk.fresh w7 27 #[.string o, .int .i64 f, .int .i64 u]
        have hba := (Below.refl w7.heap.size w7).alloc (Nat.le_refl _) (.cells #[.string o, .int .i64 f, .int .i64 u] 27)
        obtain ⟨Y, hY⟩ : ∃ Y, w7.alloc (.cells #[.string o, .int .i64 f, .int .i64 u] 27) = Y := ⟨_, rfl⟩
        rw [hY] at hf hba
        have hZ2 := And.intro (own_below hZ.out.1 hba (Nat.le_refl _)) (hZ.out.2.trans (hba.mono hZ.out.2.size))
        replace hZ := Lib.hid hZ2
        replace hf := Lib.hid hf
        replace happ0 := Lib.hid happ0
        replace hba := Lib.hid hba
        obtain ⟨OK, hOK⟩ : ∃ OK, puOk ⟨o, f, u⟩ = OK := ⟨_, rfl⟩
        obtain ⟨L9, hL9⟩ : ∃ L, puL ⟨o, f, u⟩ = L := ⟨_, rfl⟩
        rw [hOK, hL9] at hrd
        have hpb2 := fun W h => (hpb W h)
        simp only [hOK, hL9] at hpb2
        replace hpb := Lib.hid hpb2
        have hbx : ∀ W, Below Y.heap.size Y W → Bk W w7.heap.size 27 #[.string o, .int .i64 f, .int .i64 u] := fun W hb => hf.out.kept hb hf.out.lt
        replace hbx := Lib.hid hbx
        have k0 := hf.out.cell 0
        have k1 := hf.out.cell 1
        have k2 := hf.out.cell 2
        simp at k0 k1 k2
        rw [← hY] at k0 k1 k2
        replace hY := Lib.hid hY
        replace hA := Lib.hid hA
        clear hZ1 hZ2 hpb2 hI hok9
        go_wp2_with (fail)
        rw [hY.out]
        refine (hpb.out _ (hmk.out _ hZ.out.2)).mono ?_
        rintro e w8 ⟨rfl, hb8⟩
        have hZ1 := And.intro (own_below hZ.out.1 hb8 (Nat.le_refl _)) (hZ.out.2.trans (hb8.mono hZ.out.2.size))
        replace hZ := Lib.hid hZ1
        replace hb8 := Lib.hid hb8
        clear hZ1 hpb k0 k1 k2
        -- the cases of the test
        have hbadR : Hid (∀ W, ¬ (U1c = true ∧ ev = .nilIface ∧ OK = true ∧ U2a.data.toList = Lib.itoa (i : Int) ∧ L9 = U2b.data.toList) → puA w W (.tuple #[.slice none 0 0, .int .i64 4, .int .i64 (i : Int)]) R) := fun W h => by
          have h2 := hJ.out
          rw [hrd.out.2 h] at h2
          simp only [Rd.join] at h2
          rw [← h2]
          exact rfl
        replace hOK := Lib.hid hOK
        replace hL9 := Lib.hid hL9
        cases U1c
        · clear hit happ0 hbx hba hb8 hA hnum hrsz hrd hf
          go_wp2_with (fail)
          go_returns
          exact ⟨⟨_, rfl, hbadR.out _ (fun h => by cases h.1)⟩, hZ.out.2⟩
        · have hAc := hA.out.2
          rcases hAc with ⟨rfl, _⟩ | ⟨⟨t1, p1, rfl⟩, _⟩
          · cases OK
            · clear hit happ0 hbx hba hb8 hA hnum hrsz hrd hf
              go_wp2_with (fail)
              go_returns
              exact ⟨⟨_, rfl, hbadR.out _ (fun h => by cases h.2.2.1)⟩, hZ.out.2⟩
            · obtain ⟨S9, hS9⟩ : ∃ S : ByteArray, ⟨(Lib.itoa (i : Int)).toArray⟩ = S := ⟨_, rfl⟩
              obtain ⟨T9, hT9⟩ : ∃ S : ByteArray, ⟨L9.toArray⟩ = S := ⟨_, rfl⟩
              rw [hT9]
              rw [hS9] at hit
              have hSl : S9.toList = Lib.itoa (i : Int) := by rw [← hS9, Lib.toList_data, ba_list]
              have hTl : T9.toList = L9 := by rw [← hT9, Lib.toList_data, ba_list]
              replace hS9 := Lib.hid hS9
              replace hT9 := Lib.hid hT9
              by_cases hn1 : U2a.data.toList = Lib.itoa (i : Int)
              · have g1 : (U2a.toList == S9.toList) = true := by rw [hSl, Lib.toList_data, hn1]; simp
                by_cases hn2 : L9 = U2b.data.toList
                · have g2 : (T9.toList == U2b.toList) = true := by rw [hTl, Lib.toList_data, hn2]; simp
                  have hJ2 := hJ.out
                  rw [hrd.out.1 ⟨rfl, rfl, rfl, hn1, hn2⟩] at hJ2
                  simp only at hJ2
                  rw [Rd.join_join] at hJ2
                  replace hJ2 := Lib.hid hJ2
                  replace hn1 := Lib.hid hn1
                  replace hn2 := Lib.hid hn2
                  clear hSl hTl hA hrd hbadR hJ hf
                  go_wp2_with (fail)
                  refine (hit.out _ (hmk.out _ hZ.out.2)).mono ?_
                  rintro e w9 ⟨rfl, hb⟩
                  have hb9 := hb8.out.trans (hb.mono hb8.out.size)
                  have hZ1 := hZ.out.2.trans (hb.mono hZ.out.2.size)
                  have hbk := hbx.out w9 hb9
                  have hb7 := hba.out.trans (hb9.mono hba.out.size)
                  obtain ⟨A2, c2, w10, hrun, hown2, hgr⟩ := happ0.out w9 hb7
                  have hB10 := below_grown2 hZ1 hgr hZ1.size (own_ge (own_below hZ.out.1 hb (Nat.le_refl _)))
                  have hfin : Hid (i + 1 = n + 1 + 1 ∧ U1b.size ≤ s.size ∧ ∃ X, X.length = n + 1 ∧ w10.ownsRow w.heap.size 27 3 (.slice A2 (n + 1) c2) (n + 1) (pusC X) ∧ Below w.heap.size w w10 ∧ Rd.join X (readN puOk puL (32 - (n + 1)) (i + 1) U1b.data.toList) = R) :=
                    ⟨by have := hnum.out.1; omega, by have := hnum.out.2.1; have := hrsz.out; omega, X ++ [⟨o, f, u⟩], by rw [List.length_append, hnum.out.2.2.1]; rfl, hown2, hB10, by rw [hnum.out.2.2.2]; exact hJ2.out⟩
                  have k0 := hbk.cell 0
                  have k1 := hbk.cell 1
                  have k2 := hbk.cell 2
                  simp at k0 k1 k2
                  replace hrun := Lib.hid hrun
                  have hi9 : Hid (i + 1 ≤ 33) := by have := hnum.out.1; show i + 1 ≤ 33; omega
                  clear hb hb9 hZ1 hbk hb7 hown2 hgr hB10 hit happ0 hbx hba hb8 hJ2 hnum
                  go_wp2_with (at_builtin; refine wpList_append_run rfl (.tmp 98) (.tmp 100) 22 rfl (.slice A n c) _ _ rfl rfl hrun.out ?_)
                  exact ⟨⟨U1b, A2, c2, n + 1, i + 1, rfl, rfl, rfl, hi9.out, hfin⟩, hrsz.out⟩
                · have g2 : (T9.toList == U2b.toList) = false := by rw [hTl, Lib.toList_data]; simpa using hn2
                  replace hn1 := Lib.hid hn1
                  replace hn2 := Lib.hid hn2
                  clear hSl hTl happ0 hbx hba hb8 hA hnum hrsz hrd hf
                  go_wp2_with (fail)
                  refine (hit.out _ (hmk.out _ hZ.out.2)).mono ?_
                  rintro e w9 ⟨rfl, hb⟩
                  have hZ1 := Lib.hid (hZ.out.2.trans (hb.mono hZ.out.2.size))
                  clear hb
                  go_wp2_with (fail)
                  go_returns
                  exact ⟨⟨_, rfl, hbadR.out _ (fun h => hn2.out h.2.2.2.2)⟩, hZ1.out⟩
              · have g1 : (U2a.toList == S9.toList) = false := by rw [hSl, Lib.toList_data]; simpa using hn1
                replace hn1 := Lib.hid hn1
                clear hSl hTl happ0 hbx hba hb8 hA hnum hrsz hrd hf
                go_wp2_with (fail)
                refine (hit.out _ (hmk.out _ hZ.out.2)).mono ?_
                rintro e w9 ⟨rfl, hb⟩
                have hZ1 := Lib.hid (hZ.out.2.trans (hb.mono hZ.out.2.size))
                clear hb
                go_wp2_with (fail)
                go_returns
                exact ⟨⟨_, rfl, hbadR.out _ (fun h => hn1.out h.2.2.2.1)⟩, hZ1.out⟩
          · clear hit happ0 hbx hba hb8 hA hnum hrsz hrd hf
            go_wp2_with (fail)
            go_returns
            exact ⟨⟨_, rfl, hbadR.out _ (fun h => by cases h.2.1)⟩, hZ.out.2⟩
theorem ReadPublic_any (s : ByteArray) (hs : s.size ≤ 200000) (w : World) (hM : Mk w) : Calls Tryd.prog 20 #[.string s] w fun e w' => (∃ v, e = .returned v ∧ puA w w' v (readS puOk puL s.data.toList)) ∧ Below w.heap.size w w' := by
  have h := Lib.hid (read_pu s hs w hM)
  obtain ⟨R, hR⟩ : ∃ R, readS puOk puL s.data.toList = R := ⟨_, rfl⟩
  rw [hR] at h ⊢
  clear hM hs hR
  go_enter Tryd.func20, Tryd.ntmps20
  go_wp2_with (fail)
  refine h.out.mono ?_
  rintro e w1 ⟨⟨v, rfl, hv⟩, hb⟩
  cases R with
  | got l =>
    obtain ⟨A, c, rfl, hown⟩ := hv
    have hf := Lib.hid (And.intro hown hb)
    clear hown hb h
    go_wp2_with (fail)
    go_returns
    exact ⟨⟨_, rfl, A, c, rfl, hf.out.1⟩, hf.out.2⟩
  | bad e k =>
    unfold puA at hv
    subst hv
    replace hb := Lib.hid hb
    clear h
    go_wp2_with (fail)
    go_returns
    exact ⟨⟨_, rfl, rfl⟩, hb.out⟩
end Go.Proofs.YtbhgjjicmbbjaaaDoor
