import Derived.Test.YtndgcndmkfjdgaaDoorPtB
namespace Go.Proofs.YtndgcndmkfjdgaaDoor
open Go.RowKit Go.Extern.Stop Go.Stop Go.Extern
set_option linter.unusedVariables false
set_option linter.unusedSimpArgs false
/-! PlaneTurtles -/
theorem neg_cx (x y : Nat) (w : World) : (Op.unary .neg (.complex .f64 x y)).run Tryd.prog w = Result.ok (.complex .f64 (Op.negFloat .f64 x) (Op.negFloat .f64 y)) w := by
  first | rfl | simp [Op.unary, go_sem]
theorem run_eqCx (d : Nat) (a b : Nat) (ha : (FloatKind.f64.format.order a a == some .eq) = true) (hb : (FloatKind.f64.format.order b b == some .eq) = true) (w : World) : (Op.equalIn (d + 1) 43 (.complex .f64 a b) (.complex .f64 a b)).run Tryd.prog w = Result.ok true w := by
  simp [Op.equalIn, run_underlying Tryd.underlying43, Op.floatCmp, Op.Complex.cmp, asBool, ha, hb]
  exact ⟨ha, hb⟩
theorem run_eqMk (a b : Wp) (ha : (FloatKind.f64.format.order a.1 a.1 == some .eq) = true) (ha' : (FloatKind.f64.format.order a.2 a.2 == some .eq) = true) (hb : (FloatKind.f64.format.order b.1 b.1 == some .eq) = true) (hb' : (FloatKind.f64.format.order b.2 b.2 == some .eq) = true) (w : World) : (Op.equal 65 (.agg #[.complex .f64 a.1 a.2, .complex .f64 b.1 b.2]) (.agg #[.complex .f64 a.1 a.2, .complex .f64 b.1 b.2])).run Tryd.prog w = .ok true w := by
  unfold Op.equal Op.maxDepth
  have hd : (10000 : Nat) = 9998 + 1 + 1 := rfl
  rw [hd, run_equalIn_struct _ _ _ _ _ (by kernel_rfl) (by kernel_rfl)]
  have q1 := run_eqCx 9998 a.1 a.2 ha ha'
  have q2 := run_eqCx 9998 b.1 b.2 hb hb'
  simp [Op.eqFields, go_sem, Program.fieldsOf, q1, q2]
theorem neqMk {x : Mw} {z : Mk} (h : Nk x z) (w : World) : (binOp .neq 65 (.agg #[.complex .f64 x.1.1 x.1.2, .complex .f64 x.2.1 x.2.2]) (.agg #[.complex .f64 x.1.1 x.1.2, .complex .f64 x.2.1 x.2.2])).run Tryd.prog w = .ok (.bool false) w := by
  have h1 := wd_eql h.1.1 h.1.1
  have h2 := wd_eql h.1.2 h.1.2
  have h3 := wd_eql h.2.1 h.2.1
  have h4 := wd_eql h.2.2 h.2.2
  rw [decide_eq_true rfl] at h1 h2 h3 h4
  have := run_eqMk x.1 x.2 h1 h2 h3 h4 w
  simp only [binOp]
  simp [this]
theorem wm_step {s : St} {j : Nat} (h : Wb s j) (hm : ∀ m ∈ s.ms, Sm m.1 (10 * j) ∧ Sm m.2 (10 * j)) (q : Nat) (n : Int) : ∀ m ∈ (wstep s q n).ms, Sm m.1 (10 * (j + 1 : Nat)) ∧ Sm m.2 (10 * (j + 1 : Nat)) := by
  have hup : ∀ m ∈ s.ms, Sm m.1 (10 * (j + 1 : Nat)) ∧ Sm m.2 (10 * (j + 1 : Nat)) := fun m hmm => by
    have := hm m hmm
    unfold Sm at *
    omega
  have hs := (wb_step h q n).1
  unfold wstep at hs ⊢
  split
  · rename_i hq
    rw [if_pos hq] at hs
    unfold fwdS at hs ⊢
    simp only at hs ⊢
    split
    · intro m hmm
      rcases List.mem_append.1 hmm with h1 | h1
      · exact hup m h1
      · obtain rfl := List.mem_singleton.1 h1
        exact ⟨by have := h.1; unfold Sm at *; simp only at *; omega, hs⟩
    · exact hup
  · split
    · exact hup
    · exact hup
theorem wm_iter {s : St} (h : Wb s 0) (h0 : s.ms = []) (f : Nat → Int × Int) : ∀ j, ∀ m ∈ (witer f s j).ms, Sm m.1 (10 * (j : Nat)) ∧ Sm m.2 (10 * (j : Nat))
  | 0 => fun m hm => by
    have : m ∈ s.ms := hm
    rw [h0] at this
    cases this
  | j + 1 => wm_step (wb_iter h f j) (wm_iter h h0 f j) _ _
theorem rot_zero (s : St) : rotS 0 s = s := by
  unfold rotS turnM
  have : s.ms.map (both (fun z => turnZ z 0)) = s.ms := (List.map_congr_left fun m _ => rfl).trans (List.map_id _)
  rw [this]
  rfl
/-- a drawing and the moved one are drawn the same -/
theorem draw_both (A A' : Option Addr) (us : List Mk) (d : Pt) (n c c' : Nat) (w : World) (hl : us.length = n) (h : Mks w A (us.map mkW)) (h' : Mks w A' ((mvM d us).map mkW)) (hD : Dr (us.map mkW) us) (hD' : Dr ((mvM d us).map mkW) (mvM d us)) :
    ∃ (D : ByteArray) (cd : Int), (∀ W, Below w.heap.size w W → Calls Tryd.prog 18 #[.slice A n c] W fun e w' => e = .returned (.tuple #[.string D, .int .i64 cd]) ∧ Below W.heap.size W w') ∧
      (∀ W, Below w.heap.size w W → Calls Tryd.prog 18 #[.slice A' n c'] W fun e w' => e = .returned (.tuple #[.string D, .int .i64 cd]) ∧ Below W.heap.size W w') := by
  by_cases h0 : n = 0
  · subst h0
    exact ⟨⟨#[]⟩, 0, fun W _ => pdraw_nil A c W, fun W _ => pdraw_nil A' c' W⟩
  · obtain ⟨e1, e2, e3⟩ := mv_draw d us (by omega)
    have h1 := fun W (hb : Below w.heap.size w W) => pdraw_go A (us.map mkW) us n c W (by simpa using hl) (by omega) (h.kept hb) hD
    have h2 := fun W (hb : Below w.heap.size w W) => pdraw_go A' ((mvM d us).map mkW) (mvM d us) n c' W (by simpa [mv_len] using hl) (by omega) (h'.kept hb) hD'
    rw [e1, e2, e3] at h2
    by_cases hb : 99 < wide us ∨ 99 < high us
    · rw [if_pos hb] at h1 h2
      exact ⟨_, _, h1, h2⟩
    · rw [if_neg hb] at h1 h2
      exact ⟨_, _, h1, h2⟩
theorem mv_zero (zs : List Mk) : mvM (0, 0) zs = zs := by
  refine (List.map_congr_left fun m _ => ?_).trans (List.map_id _)
  obtain ⟨⟨p1, p2⟩, q1, q2⟩ := m
  simp [both]
theorem same_turned (zs us : List Mk) (n : Int) (d : Pt) (m : Nat) (hm : zs.length = m) (hus : turnM n zs = us) : m = 0 ∨ ∃ k : Nat, k < 4 ∧ fitsN zs (mvM d us) k := by
  by_cases h0 : m = 0
  · exact .inl h0
  · refine .inr ⟨(n % 4).toNat, by omega, ?_⟩
    subst hus
    exact fits_turned zs (0, 0) d n (by omega)
theorem same_back (zs us : List Mk) (n : Int) (m : Nat) (hm : zs.length = m) (hus : turnM n zs = us) : m = 0 ∨ ∃ k : Nat, k < 4 ∧ fitsN us zs k := by
  by_cases h0 : m = 0
  · exact .inl h0
  · refine .inr ⟨((-n) % 4).toNat, by omega, ?_⟩
    subst hus
    exact fits_back zs n (by omega)
theorem mv_ok {us : List Mk} {d : Pt} (h : ∀ z ∈ us, mkOk z) (hs : ∀ z ∈ us, Sm z.1 600 ∧ Sm z.2 600) (hd : Sm d 1000) : ∀ z ∈ mvM d us, mkOk z := fun z hz => by
  obtain ⟨y, hy, rfl⟩ := List.mem_map.1 hz
  have h1 := h y hy
  have h2 := hs y hy
  obtain ⟨⟨p1, p2⟩, q1, q2⟩ := y
  unfold mkOk both Sm at *
  simp only at *
  omega
theorem ok_mem {us : List Mk} (h : Dr (us.map mkW) us) : ∀ z ∈ us, mkOk z := fun z hz => by
  obtain ⟨i, hi, rfl⟩ := List.getElem_of_mem hz
  have := (h.2.2 i (by simpa using hi)).2
  rwa [List.getD_eq_getElem?_getD, List.getElem?_eq_getElem hi] at this
theorem in_mem {us : List Mk} (h : ∀ z ∈ us, mkOk z) : ∀ i, i < us.length → inR (us.getD i m0) := fun i hi => by
  have := h us[i] (List.getElem_mem hi)
  rw [List.getD_eq_getElem?_getD, List.getElem?_eq_getElem hi]
  exact ⟨this.1, this.2.1⟩
set_option maxRecDepth 100000 in
set_option maxHeartbeats 20000000 in
theorem walk_turtles (A : Option Addr) (n c : Nat) (first re im : Int) (w : World) (hM : True) (h : Ops10 w A n) (hf : -9223372036854775808 ≤ first ∧ first ≤ 9223372036854775807) (hre : -9223372036854775808 ≤ re ∧ re ≤ 9223372036854775807) (him : -9223372036854775808 ≤ im ∧ im ≤ 9223372036854775807) :
    Calls Tryd.prog 10 #[.slice A n c, .int .i64 first, .int .i64 re, .int .i64 im] w fun e w' => e = .returned (.bool true) ∧ Below w.heap.size w w' := by
  obtain ⟨f, hst⟩ := steps_of h
  have hn := h.1
  have hsh := Lib.hid (shown_any w)
  have hwk := Lib.hid (fun (k : Int) W (hb : Below w.heap.size w W) => walked_any A n c k f W hn (hst.kept hb))
  obtain ⟨q, hq⟩ : ∃ q, min n 60 = q := ⟨_, rfl⟩
  have hq60 : q ≤ 60 := by omega
  obtain ⟨S, hS⟩ : ∃ S, witer f st0 q = S := ⟨_, rfl⟩
  rw [hq, hS] at hwk
  -- the first's marks, the turned ones'
  have hb0 := wb_iter (wb_start 0) f q
  have hbk := wb_iter (wb_start first) f q
  have hmk := wm_iter (wb_start first) (by rw [rot_s0]) f q
  rw [rot_iter, hS] at hb0 hbk hmk
  rw [rot_zero] at hb0
  clear h hM hst hn
  have hlen : S.ms.length ≤ 60 := Nat.le_trans hb0.2.2 hq60
  obtain ⟨zs, hzs⟩ : ∃ zs, S.ms = zs := ⟨_, rfl⟩
  obtain ⟨us, hus⟩ : ∃ us, turnM first zs = us := ⟨_, rfl⟩
  obtain ⟨m, hm⟩ : ∃ m, zs.length = m := ⟨_, rfl⟩
  have hum : us.length = m := by rw [← hus]; simp [turnM, hm]
  have hrm : (rotS first S).ms = us := by unfold rotS; simp only; rw [hzs, hus]
  rw [hrm] at hmk
  rw [hzs, hm] at hlen
  have hm4 : (m : Int) ≤ 60 := by omega
  obtain ⟨SA, hSA⟩ : ∃ SA, rotS 0 S = SA := ⟨_, rfl⟩
  obtain ⟨SB, hSB⟩ : ∃ SB, rotS first S = SB := ⟨_, rfl⟩
  have hSAm : SA.ms = zs := by rw [← hSA, rot_zero, hzs]
  have hSBm : SB.ms = us := by rw [← hSB, hrm]
  replace hmk := Lib.hid hmk
  replace hus := Lib.hid hus
  replace hm := Lib.hid hm
  replace hum := Lib.hid hum
  replace hSA := Lib.hid hSA
  replace hSB := Lib.hid hSB
  replace hSAm := Lib.hid hSAm
  replace hSBm := Lib.hid hSBm
  clear hb0 hbk hq hS hzs hrm hf
  go_enter Tryd.func10, Tryd.ntmps10
  go_wp2_with (fail)
  refine hsh.out.mono ?_
  rintro e w1 ⟨rfl, hb⟩
  have hW := Lib.hid hb
  clear hsh hb
  go_wp2_with (fail)
  refine (hwk.out 0 w1 hW.out).mono ?_
  rintro e w2 ⟨ta, VA, rfl, TA, hb⟩
  rw [hSA.out] at TA
  replace TA := Lib.hid TA
  replace hW := Lib.hid (hW.out.trans (hb.mono hW.out.size))
  clear hb
  go_wp2_with (fail)
  refine (hwk.out first w2 hW.out).mono ?_
  rintro e w3 ⟨tb, VB, rfl, TB, hb⟩
  rw [hSB.out] at TB
  replace TA := Lib.hid (Tt.bel TA.out hb)
  replace TB := Lib.hid TB
  replace hW := Lib.hid (hW.out.trans (hb.mono hW.out.size))
  clear hb hwk
  have hD := TA.out.dr
  have hDu := TB.out.dr
  rw [hSAm.out] at hD
  rw [hSBm.out] at hDu
  have hk1 := Lib.hid (marks_read TA.out)
  rw [hSAm.out, hm.out] at hk1
  replace hD := Lib.hid hD
  replace hDu := Lib.hid hDu
  go_wp2_with (fail)
  refine hk1.out.mono ?_
  rintro e w4 ⟨A1, c1, rfl, M1, hb⟩
  replace M1 := Lib.hid M1
  replace TB := Lib.hid (Tt.bel TB.out hb)
  replace hW := Lib.hid (hW.out.trans (hb.mono hW.out.size))
  clear hb hk1 TA
  have htn := Lib.hid (pturned_any A1 (zs.map mkW) zs m c1 first w4 (by rw [List.length_map]; exact hm.out) M1.out hD.out)
  go_wp2_with (fail)
  refine htn.out.mono ?_
  rintro e w5 ⟨A2, c2, rfl, M2', hb⟩
  have M2 : Hid (Mks w5 A2 (us.map mkW)) := Lib.hid (by rw [← hus.out]; exact M2')
  clear M2'
  replace M1 := Lib.hid (M1.out.kept hb)
  replace TB := Lib.hid (Tt.bel TB.out hb)
  replace hW := Lib.hid (hW.out.trans (hb.mono hW.out.size))
  clear hb htn
  have hk1 := Lib.hid (marks_read TB.out)
  rw [hSBm.out, hum.out] at hk1
  go_wp2_with (fail)
  refine hk1.out.mono ?_
  rintro e w6 ⟨A3, c3, rfl, M3, hb⟩
  replace M3 := Lib.hid M3
  replace M1 := Lib.hid (M1.out.kept hb)
  replace M2 := Lib.hid (M2.out.kept hb)
  replace hW := Lib.hid (hW.out.trans (hb.mono hW.out.size))
  clear hb hk1 TB
  have hsm := Lib.hid (psame_ok A1 A3 (zs.map mkW) (us.map mkW) zs us m c1 c3 w6 (by rw [List.length_map]; exact hm.out) (by rw [List.length_map]; exact hum.out) M1.out M3.out hD.out hDu.out true ⟨fun _ => by have := same_turned zs us first (0, 0) m hm.out hus.out; rwa [mv_zero] at this, fun _ => rfl⟩)
  go_wp2_with (fail)
  refine hsm.out.mono ?_
  rintro e w7 ⟨rfl, hb⟩
  (first | (replace M1 := Lib.hid (M1.out.kept hb)) | skip)
  (first | (replace M2 := Lib.hid (M2.out.kept hb)) | skip)
  (first | (replace M3 := Lib.hid (M3.out.kept hb)) | skip)
  (first | (replace M4 := Lib.hid (M4.out.kept hb)) | skip)
  (first | (replace M5 := Lib.hid (M5.out.kept hb)) | skip)
  (first | (replace TA := Lib.hid (Tt.bel TA.out hb)) | skip)
  (first | (replace TB := Lib.hid (Tt.bel TB.out hb)) | skip)
  replace hW := Lib.hid (hW.out.trans (hb.mono hW.out.size))
  clear hb
  have hsm := Lib.hid (psame_ok A3 A1 (us.map mkW) (zs.map mkW) us zs m c3 c1 w7 (by rw [List.length_map]; exact hum.out) (by rw [List.length_map]; exact hm.out) M3.out M1.out hDu.out hD.out true ⟨fun _ => same_back zs us first m hm.out hus.out, fun _ => rfl⟩)
  go_wp2_with (fail)
  refine hsm.out.mono ?_
  rintro e w8 ⟨rfl, hb⟩
  (first | (replace M1 := Lib.hid (M1.out.kept hb)) | skip)
  (first | (replace M2 := Lib.hid (M2.out.kept hb)) | skip)
  (first | (replace M3 := Lib.hid (M3.out.kept hb)) | skip)
  (first | (replace M4 := Lib.hid (M4.out.kept hb)) | skip)
  (first | (replace M5 := Lib.hid (M5.out.kept hb)) | skip)
  (first | (replace TA := Lib.hid (Tt.bel TA.out hb)) | skip)
  (first | (replace TB := Lib.hid (Tt.bel TB.out hb)) | skip)
  replace hW := Lib.hid (hW.out.trans (hb.mono hW.out.size))
  clear hb
  clear hsm
  go_wp2_with (fail)
  go_loopw [16] (fun x_ wr => ∃ i : Nat, x_ = .int .i64 i ∧ i ≤ m ∧ Hid (Below w8.heap.size w8 wr)) (fun x_ _ => m - (intOf x_).toNat)
  case atStart => exact ⟨0, rfl, Nat.zero_le _, Lib.hid (Below.refl _ _)⟩
  case round =>
    obtain ⟨i, rfl, hi0, hL⟩ := hrel
    by_cases hi : i < m
    · have i0 : (i : Int) < (m : Int) := by omega
      have hiu : i < us.length := by rw [hum.out]; exact hi
      have hil : i < (us.map mkW).length := by rw [List.length_map]; exact hiu
      obtain ⟨b, off, rfl, hbl, a0, a1, lt1⟩ := (M2.out.kept hL.out) i hil
      obtain ⟨b', off', e', hbl', g0, g1, lt2⟩ := (M3.out.kept hL.out) i hil
      obtain ⟨ob, hob⟩ : ∃ ob, (some ⟨b', off', none⟩ : Option Addr) = ob := ⟨_, rfl⟩
      rw [hob] at e'
      subst e'
      have hnk := (hDu.out.2.2 i hil).1
      obtain ⟨⟨⟨p1, p2⟩, q1, q2⟩, hx⟩ : ∃ p, (us.map mkW)[i] = p := ⟨_, rfl⟩
      rw [hx] at a0 a1 g0 g1 hnk
      simp only at a0 a1 g0 g1
      have hne := neqMk hnk
      simp only at hne
      subst hob
      clear lt1 lt2
      clear hnk hx hbl hbl' hiu hil
      go_upto_region 14 with (fail)
      go_quiet (fail)
      go_wp2_with (fail)
      exact ⟨⟨i + 1, rfl, by omega, Lib.hid (by first | exact below_drewN hL.out | exact below_drew hL.out | exact hL.out)⟩, by simp [intOf]; omega⟩
    · have i0 : ¬ (i : Int) < (m : Int) := by omega
      have hb := hL.out
      clear hL
      (first | (replace M1 := Lib.hid (M1.out.kept hb)) | skip)
      (first | (replace M2 := Lib.hid (M2.out.kept hb)) | skip)
      (first | (replace M3 := Lib.hid (M3.out.kept hb)) | skip)
      (first | (replace M4 := Lib.hid (M4.out.kept hb)) | skip)
      (first | (replace M5 := Lib.hid (M5.out.kept hb)) | skip)
      (first | (replace TA := Lib.hid (Tt.bel TA.out hb)) | skip)
      (first | (replace TB := Lib.hid (Tt.bel TB.out hb)) | skip)
      replace hW := Lib.hid (hW.out.trans (hb.mono hW.out.size))
      clear hb
      clear M2
      have hpk1 := Lib.hid (fun W => pick_any re 2001 W hre.1 hre.2 (by decide) (by decide))
      have hpk2 := Lib.hid (fun W => pick_any im 2001 W him.1 him.2 (by decide) (by decide))
      have e1 : (2001 : Int).toNat = 2001 := rfl
      rw [e1] at hpk1 hpk2
      have hl1 := pickN_lt re 2001 (by decide)
      have hl2 := pickN_lt im 2001 (by decide)
      obtain ⟨k1, hk1⟩ : ∃ k, pickN re 2001 = k := ⟨_, rfl⟩
      obtain ⟨k2, hk2⟩ : ∃ k, pickN im 2001 = k := ⟨_, rfl⟩
      rw [hk1] at hpk1 hl1
      rw [hk2] at hpk2 hl2
      have k10 : (k1 : Int) < 2001 := by omega
      have k20 : (k2 : Int) < 2001 := by omega
      obtain ⟨dx, hdx⟩ : ∃ dx, (k1 : Int) - 1000 = dx := ⟨_, rfl⟩
      obtain ⟨dy, hdy⟩ : ∃ dy, (k2 : Int) - 1000 = dy := ⟨_, rfl⟩
      have hsd : Sm (dx, dy) 1000 := by unfold Sm; simp only; omega
      have hb1 : ∃ b, floatOfInt .f64 dx = b ∧ Wd b dx := ⟨_, rfl, by rw [wd_int _ (by omega)]; exact wd_fi _ false (by omega)⟩
      have hb2 : ∃ b, floatOfInt .f64 dy = b ∧ Wd b dy := ⟨_, rfl, by rw [wd_int _ (by omega)]; exact wd_fi _ false (by omega)⟩
      obtain ⟨b1, hb1, wb1⟩ := hb1
      obtain ⟨b2, hb2, wb2⟩ := hb2
      have hneg := neg_cx b1 b2
      have wn1 := wd_neg wb1
      have wn2 := wd_neg wb2
      obtain ⟨n1, hn1⟩ : ∃ x, Op.negFloat .f64 b1 = x := ⟨_, rfl⟩
      obtain ⟨n2, hn2⟩ : ∃ x, Op.negFloat .f64 b2 = x := ⟨_, rfl⟩
      rw [hn1] at wn1
      rw [hn2] at wn2
      simp only [hn1, hn2] at hneg
      have hNm := Lib.hid (And.intro wb1 wb2)
      have hNn := Lib.hid (And.intro wn1 wn2)
      replace hsd := Lib.hid hsd
      have hoku := ok_mem hDu.out
      have hokv := mv_ok (d := (dx, dy)) hoku (fun z hz => by have := hmk.out z hz; unfold Sm at *; omega) hsd.out
      have hDv := dr_of (zs := mvM (dx, dy) us) (by rw [mv_len, hum.out]; omega) hokv
      have hvm : (mvM (dx, dy) us).length = m := by rw [mv_len]; exact hum.out
      have hin := in_mem hoku
      have hinv := in_mem hokv
      replace hDv := Lib.hid hDv
      replace hvm := Lib.hid hvm
      replace hin := Lib.hid hin
      replace hinv := Lib.hid hinv
      clear hk1 hk2 hl1 hl2 e1 wb1 wb2 wn1 wn2 hn1 hn2 hoku hokv hmk
      go_wp2_with (fail)
      refine (hpk1.out _).mono ?_
      rintro e w9 ⟨rfl, rfl⟩
      go_wp2_with (fail)
      refine (hpk2.out _).mono ?_
      rintro e w9 ⟨rfl, rfl⟩
      clear hpk1 hpk2
      have hmv := Lib.hid (pmoved_any A3 (us.map mkW) us m c3 b1 b2 (dx, dy) w9 (by rw [List.length_map]; exact hum.out) M3.out hDu.out hNm.out (sm_mono hsd.out (by decide)))
      go_wp2_with (fail)
      refine hmv.out.mono ?_
      intro e wa hE
      replace hE := hE.out
      unfold Eachd at hE
      rw [hum.out, if_pos (fun i hi => by
        have := hinv.out i (by rw [hvm.out]; exact hi)
        rw [mv_get _ _ (by rw [hum.out]; exact hi)] at this
        exact this)] at hE
      obtain ⟨A4, c4, rfl, M4, hb⟩ := hE
      have M4 : Hid (Mks wa A4 ((mvM (dx, dy) us).map mkW)) := Lib.hid M4
      replace M1 := Lib.hid (M1.out.kept hb)
      replace M3 := Lib.hid (M3.out.kept hb)
      replace hW := Lib.hid (hW.out.trans (hb.mono hW.out.size))
      clear hb hmv
      have hmv := Lib.hid (pmoved_any A4 ((mvM (dx, dy) us).map mkW) (mvM (dx, dy) us) m c4 n1 n2 (-dx, -dy) wa (by rw [List.length_map]; exact hvm.out) M4.out hDv.out hNn.out (by have := hsd.out; unfold Sm at *; simp only at *; omega))
      go_wp2_with (fail)
      refine hmv.out.mono ?_
      intro e wb hE
      replace hE := hE.out
      unfold Eachd at hE
      rw [hvm.out, if_pos (fun i hi => by
        have h1 := hin.out i (by rw [hum.out]; exact hi)
        have h2 := mv_back (dx, dy) us
        rw [mv_get _ _ (by rw [hum.out]; exact hi)]
        have h3 : both (fun z => (z.1 + (-dx, -dy).1, z.2 + (-dx, -dy).2)) (both (fun z => (z.1 + (dx, dy).1, z.2 + (dx, dy).2)) (us.getD i m0)) = us.getD i m0 := by
          obtain ⟨⟨p1, p2⟩, q1, q2⟩ := us.getD i m0
          simp [both]
          omega
        rw [h3]
        exact h1)] at hE
      obtain ⟨A5, c5, rfl, M5, hb⟩ := hE
      have M5 : Hid (Mks wb A5 (us.map mkW)) := Lib.hid (by have h2 := mv_back (dx, dy) us; unfold mvM at h2 M5; simp only at h2 M5; rw [h2] at M5; exact M5)
      replace M1 := Lib.hid (M1.out.kept hb)
      replace M3 := Lib.hid (M3.out.kept hb)
      replace M4 := Lib.hid (M4.out.kept hb)
      replace hW := Lib.hid (hW.out.trans (hb.mono hW.out.size))
      clear hb hmv hneg
      have hsm := Lib.hid (psame_ok A1 A4 (zs.map mkW) ((mvM (dx, dy) us).map mkW) zs (mvM (dx, dy) us) m c1 c4 wb (by rw [List.length_map]; exact hm.out) (by rw [List.length_map]; exact hvm.out) M1.out M4.out hD.out hDv.out true ⟨fun _ => same_turned zs us first (dx, dy) m hm.out hus.out, fun _ => rfl⟩)
      go_wp2_with (fail)
      refine hsm.out.mono ?_
      rintro e wc ⟨rfl, hb⟩
      replace M3 := Lib.hid (M3.out.kept hb)
      replace M4 := Lib.hid (M4.out.kept hb)
      replace M5 := Lib.hid (M5.out.kept hb)
      replace hW := Lib.hid (hW.out.trans (hb.mono hW.out.size))
      clear hb hsm M1
      go_wp2_with (fail)
      go_loopw [21] (fun x_ wr => ∃ i : Nat, x_ = .int .i64 i ∧ i ≤ m ∧ Hid (Below wc.heap.size wc wr)) (fun x_ _ => m - (intOf x_).toNat)
      case atStart => exact ⟨0, rfl, Nat.zero_le _, Lib.hid (Below.refl _ _)⟩
      case round =>
        obtain ⟨i, rfl, hi0, hL⟩ := hrel
        by_cases hi : i < m
        · have i0 : (i : Int) < (m : Int) := by omega
          have hiu : i < us.length := by rw [hum.out]; exact hi
          have hil : i < (us.map mkW).length := by rw [List.length_map]; exact hiu
          obtain ⟨b, off, rfl, hbl, a0, a1, lt1⟩ := (M5.out.kept hL.out) i hil
          obtain ⟨b', off', e', hbl', g0, g1, lt2⟩ := (M3.out.kept hL.out) i hil
          obtain ⟨ob, hob⟩ : ∃ ob, (some ⟨b', off', none⟩ : Option Addr) = ob := ⟨_, rfl⟩
          rw [hob] at e'
          subst e'
          have hnk := (hDu.out.2.2 i hil).1
          obtain ⟨⟨⟨p1, p2⟩, q1, q2⟩, hx⟩ : ∃ p, (us.map mkW)[i] = p := ⟨_, rfl⟩
          rw [hx] at a0 a1 g0 g1 hnk
          simp only at a0 a1 g0 g1
          have hne := neqMk hnk
          simp only at hne
          subst hob
          clear lt1 lt2
          clear hnk hx hbl hbl' hiu hil
          go_upto_region 24 with (fail)
          go_quiet (fail)
          go_wp2_with (fail)
          exact ⟨⟨i + 1, rfl, by omega, Lib.hid (by first | exact below_drewN hL.out | exact below_drew hL.out | exact hL.out)⟩, by simp [intOf]; omega⟩
        · have i0 : ¬ (i : Int) < (m : Int) := by omega
          have hb := hL.out
          clear hL
          replace M3 := Lib.hid (M3.out.kept hb)
          replace M4 := Lib.hid (M4.out.kept hb)
          replace hW := Lib.hid (hW.out.trans (hb.mono hW.out.size))
          clear hb M5
          obtain ⟨D, cd, hd1, hd2⟩ := draw_both A3 A4 us (dx, dy) m c3 c4 wr hum.out M3.out M4.out hDu.out hDv.out
          have hd1 := Lib.hid (hd1 wr (Below.refl _ _))
          replace hd2 := Lib.hid hd2
          go_wp2_with (fail)
          refine hd1.out.mono ?_
          rintro e wd ⟨rfl, hb⟩
          have hd3 := Lib.hid (hd2.out wd hb)
          replace hW := Lib.hid (hW.out.trans (hb.mono hW.out.size))
          clear hd1 hd2 hb
          go_wp2_with (fail)
          refine hd3.out.mono ?_
          rintro e we ⟨rfl, hb⟩
          replace hW := Lib.hid (hW.out.trans (hb.mono hW.out.size))
          clear hd3 hb
          go_wp2_with (fail)
          go_returns
          exact ⟨by first | rfl | simp, hW.out⟩
end Go.Proofs.YtndgcndmkfjdgaaDoor
