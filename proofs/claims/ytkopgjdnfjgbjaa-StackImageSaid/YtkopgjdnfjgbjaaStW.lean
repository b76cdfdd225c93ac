import Derived.Test.YtkopgjdnfjgbjaaStV
import Derived.Test.YtkopgjdnfjgbjaaPostOps5
namespace Go.Proofs.Ytkopgjdnfjgbjaa
open Go.RowKit
set_option linter.unusedVariables false
set_option linter.unusedSimpArgs false
/-! StackPlays -/
theorem hor_bytes (b0 b1 b2 b3 b4 b5 b6 b7 : Int) (h0 : isB b0) (h1 : isB b1) (h2 : isB b2) (h3 : isB b3) (h4 : isB b4) (h5 : isB b5) (h6 : isB b6) (h7 : isB b7) :
    hor b0 b1 b2 b3 b4 b5 b6 b7 % 256 = b0 ∧ hor b0 b1 b2 b3 b4 b5 b6 b7 / 256 % 256 = b1 ∧ hor b0 b1 b2 b3 b4 b5 b6 b7 / 65536 % 256 = b2 ∧ hor b0 b1 b2 b3 b4 b5 b6 b7 / 16777216 % 256 = b3 ∧ hor b0 b1 b2 b3 b4 b5 b6 b7 / 4294967296 % 256 = b4 ∧ hor b0 b1 b2 b3 b4 b5 b6 b7 / 1099511627776 % 256 = b5 ∧ hor b0 b1 b2 b3 b4 b5 b6 b7 / 281474976710656 % 256 = b6 ∧ hor b0 b1 b2 b3 b4 b5 b6 b7 / 72057594037927936 % 256 = b7 := by
  unfold isB at *
  obtain ⟨S, hS⟩ : ∃ S, 256 * (256 * (256 * (256 * (256 * (256 * (256 * b7 + b6) + b5) + b4) + b3) + b2) + b1) + b0 = S := ⟨_, rfl⟩
  have hh : hor b0 b1 b2 b3 b4 b5 b6 b7 = wrap64 S := by unfold hor; rw [hS]
  have hw : ∃ q : Int, wrap64 S = S + 18446744073709551616 * q := ⟨-((S + 9223372036854775808) / 18446744073709551616), by unfold wrap64; omega⟩
  obtain ⟨q, hq⟩ := hw
  rw [hh, hq, ← hS]
  refine ⟨?_, ?_, ?_, ?_, ?_, ?_, ?_, ?_⟩ <;> omega
theorem by8_hor (c0 c1 c2 c3 c4 c5 c6 c7 : UInt8) : by8 (hor c0.toNat c1.toNat c2.toNat c3.toNat c4.toNat c5.toNat c6.toNat c7.toNat) = [c0, c1, c2, c3, c4, c5, c6, c7] := by
  obtain ⟨e0, e1, e2, e3, e4, e5, e6, e7⟩ := hor_bytes c0.toNat c1.toNat c2.toNat c3.toNat c4.toNat c5.toNat c6.toNat c7.toNat (u8_isB c0) (u8_isB c1) (u8_isB c2) (u8_isB c3) (u8_isB c4) (u8_isB c5) (u8_isB c6) (u8_isB c7)
  have h := by8_is (hor c0.toNat c1.toNat c2.toNat c3.toNat c4.toNat c5.toNat c6.toNat c7.toNat)
  rw [e0, e1, e2, e3, e4, e5, e6, e7] at h
  have h2 : u8s (by8 (hor c0.toNat c1.toNat c2.toNat c3.toNat c4.toNat c5.toNat c6.toNat c7.toNat)) = u8s [c0, c1, c2, c3, c4, c5, c6, c7] := h
  have hinj : ∀ l m : List UInt8, u8s l = u8s m → l = m := by
    intro l
    induction l with
    | nil => intro m hm; cases m with
      | nil => rfl
      | cons x m => simp [u8s] at hm
    | cons x l ih => intro m hm; cases m with
      | nil => simp [u8s] at hm
      | cons y m =>
        simp only [u8s, List.map_cons, List.cons.injEq, Value.int.injEq, true_and] at hm
        obtain ⟨e, hm⟩ := hm
        have e2 : x = y := UInt8.toNat_inj.1 (by omega)
        rw [e2, ih m hm]
  exact hinj _ _ h2
theorem by8_cel (B : List UInt8) (a : Nat) (h : a + 8 ≤ B.length) : by8 (cel B a) = (B.drop a).take 8 := by
  unfold cel
  rw [by8_hor]
  apply List.ext_getElem
  · simp; omega
  · intro i h1 h2
    have hi : i < 8 := h1
    have key : ∀ k (hk : a + k < B.length), B.getD (a + k) 0 = B[a + k] := fun k hk => by rw [List.getD_eq_getElem?_getD, List.getElem?_eq_getElem hk]; rfl
    simp only [List.getElem_take, List.getElem_drop]
    rcases (by omega : i = 0 ∨ i = 1 ∨ i = 2 ∨ i = 3 ∨ i = 4 ∨ i = 5 ∨ i = 6 ∨ i = 7) with rfl | rfl | rfl | rfl | rfl | rfl | rfl | rfl
    · exact key 0 (by omega)
    · exact key 1 (by omega)
    · exact key 2 (by omega)
    · exact key 3 (by omega)
    · exact key 4 (by omega)
    · exact key 5 (by omega)
    · exact key 6 (by omega)
    · exact key 7 (by omega)
theorem cels_bytes (B : List UInt8) (f n : Nat) (h : f + 8 * n ≤ B.length) : (cels B f n).flatMap by8 = (B.drop f).take (8 * n) := by
  induction n with
  | zero => simp [cels]
  | succ n ih =>
    have e : cels B f (n + 1) = cels B f n ++ [cel B (f + 8 * n)] := by simp [cels, List.range_succ]
    rw [e, List.flatMap_append, ih (by omega)]
    simp only [List.flatMap_cons, List.flatMap_nil, List.append_nil]
    rw [by8_cel B _ (by omega), show 8 * (n + 1) = 8 * n + 8 from by omega, List.take_add, List.drop_drop]
theorem part_cells (L : Lay) (hL : L.ok) (B : List UInt8) (hl : B.length = L.b6) (rg : Nat) (hr : rg = 4 ∨ rg = 5) : partL L B (rg : Int) = (cellsOf L B rg).flatMap by8 := by
  have hreg := reg_lies hL rg hr
  have hev := hreg.even hL
  have hup := hreg.up
  unfold cellsOf partL
  rw [cels_bytes B _ _ (by omega)]
  have hfrom : L.from_ rg = L.beg rg := by unfold Lay.from_; rw [if_neg (by omega), if_neg (by omega)]; simp
  have hto : L.to_ rg = L.beg (rg + 1) := by unfold Lay.to_; rw [if_neg (by omega), if_neg (by omega)]; simp
  rw [hfrom, hto]
  congr 1
  omega
theorem Rs.base {w w0 W : World} {a : Ads} {xs : Nat → List Int} {d : Nat → Nat} (h : Rs w0 W a xs d) (hb : Below w.heap.size w w0) : Rs w W a xs d :=
  ⟨h.q, h.ne, h.ng, fun k hk => ⟨Nat.le_trans hb.size (h.lo k hk).1, Nat.le_trans hb.size (h.lo k hk).2⟩⟩
theorem cel_zero (n a : Nat) : cel (List.replicate n 0) a = 0 := by
  have g : ∀ i, (List.replicate n (0 : UInt8)).getD i 0 = 0 := fun i => by
    rw [List.getD_eq_getElem?_getD, List.getElem?_replicate]; split <;> rfl
  unfold cel
  simp only [g]
  simp [hor, wrap64]
theorem cels_zero (n f m : Nat) : cels (List.replicate n 0) f m = List.replicate m 0 := by
  apply List.ext_getElem
  · simp [cels]
  · intro i h1 h2
    simp [cels, cel_zero]
/-- what begun leaves, packed -/
theorem begun_pl {w0 W : World} {a : Ads} {L : Lay} {n : Nat} (hW : Wd w0 W a L (List.replicate n 0) (fun _ => 0)) (hR : Rs w0 W a (fun rg => List.replicate (roomOf L rg) 0) (fun _ => 0)) : Pl w0 W a L (List.replicate n 0) (fun _ => 0) :=
  ⟨hW, hR.congr fun k _ => by unfold cellsOf; rw [cels_zero]⟩
set_option maxRecDepth 100000 in
set_option maxHeartbeats 20000000 in
theorem walk_plays (d r : Int) (A2 : Option Addr) (n2 c2 : Nat) (w : World) (hd : inI d) (hr : inI r) (hops : Ops5 w A2 n2) :
    Calls Try.prog 7 #[.int .i64 d, .int .i64 r, .slice A2 n2 c2] w fun e w' => e = .returned (.bool true) ∧ Below w.heap.size w w' := by
  have hlay := fun w1 => layout4_any d r w1 hd hr
  have hbeg := fun w1 => begun_any d r w1
  have hok := layOf4_ok d r
  obtain ⟨L, hL⟩ : ∃ L, layOf4 d r = L := ⟨_, rfl⟩
  simp only [hL] at hlay hbeg hok
  clear hL
  replace hok := Lib.hid hok
  replace hlay := Lib.hid hlay
  replace hbeg := Lib.hid hbeg
  have hn2 := hops.1
  replace hops := Lib.hid hops
  have hn2I : (n2 : Int) ≤ 140737488351232 := by omega
  go_enter Try.func7, Try.ntmps7
  go_wp2_with (fail)
  refine (shown4 _).mono ?_
  rintro e w1 ⟨rfl, hb1⟩
  go_wp2_with (fail)
  refine (hlay.out w1).mono ?_
  rintro e w2 ⟨rfl, hb2⟩
  unfold LV layV
  go_wp2_with (fail)
  have hb3 : Below w2.heap.size w2 (w2.alloc (.cells #[.int .i64 L.k, .int .i64 L.s, .int .i64 L.u, .int .i64 L.d, .int .i64 L.r] 24)) := (Below.refl _ _).alloc (Nat.le_refl _) _
  have hbg := hbeg.out (w2.alloc (.cells #[.int .i64 L.k, .int .i64 L.s, .int .i64 L.u, .int .i64 L.d, .int .i64 L.r] 24))
  unfold LV layV at hbg
  refine hbg.mono ?_
  rintro e w3 ⟨a, rfl, hW, hR⟩
  have hb12 := hb1.trans (hb2.mono hb1.size)
  have hb := hb12.trans (hb3.mono hb12.size)
  have hP : Hid (∃ B' d', Pl w w3 a L B' d') := Lib.hid ⟨_, _, begun_pl (hW.base hb) (hR.base hb)⟩
  clear hb hb1 hb2 hb3 hb12 hW hR hbg
  go_wp2_with (fail)
  go_loopw [10] (fun x wr => ∃ j : Nat, x = .int .i64 j ∧ j ≤ n2 ∧ j ≤ 300 ∧ Hid (∃ B' d', Pl w wr a L B' d')) (fun x _ => 300 - (intOf x).toNat)
  case atStart => exact ⟨0, rfl, Nat.zero_le _, Nat.zero_le _, hP⟩
  case round =>
    obtain ⟨j, rfl, hj1, hj2, hPj⟩ := hrel
    obtain ⟨B, dd, hPj⟩ := hPj.out
    replace hPj := Lib.hid hPj
    by_cases hj : j < n2 ∧ j < 300
    · obtain ⟨ob, oo, o0, o1, o2, OB, ol, oc, rfl, hlt, g0, g1, g2, g3, r0, r1, r2, hV, hVl, hVn⟩ := hops.out.2 j hj.1
      have g0 := (hPj.out.wd.be.cell (p := ⟨ob, oo + j * 4, none⟩) hlt).trans g0
      have g1 := (hPj.out.wd.be.cell (p := ⟨ob, oo + j * 4 + 1, none⟩) hlt).trans g1
      have g2 := (hPj.out.wd.be.cell (p := ⟨ob, oo + j * 4 + 2, none⟩) hlt).trans g2
      have g3 := (hPj.out.wd.be.cell (p := ⟨ob, oo + j * 4 + 3, none⟩) hlt).trans g3
      have j0 : (j : Int) < (n2 : Int) := by omega
      have j1 : (j : Int) < 300 := by omega
      go_wp2_with (fail)
      refine (does_any hPj.out o0 o1 o2 OB ol oc r0 r1 r2 hV hVl hVn).mono ?_
      rintro e w4 ⟨rfl, B4, d4, hP4⟩
      have hp4 := part_cells L hok.out B4 hP4.wd.im.len 4 (.inl rfl)
      have hp5 := part_cells L hok.out B4 hP4.wd.im.len 5 (.inr rfl)
      obtain ⟨S4, hS4⟩ : ∃ S : ByteArray, ⟨((cellsOf L B4 4).flatMap by8).toArray⟩ = S := ⟨_, rfl⟩
      obtain ⟨S5, hS5⟩ : ∃ S : ByteArray, ⟨((cellsOf L B4 5).flatMap by8).toArray⟩ = S := ⟨_, rfl⟩
      have q4 : ∀ W', Pl w W' a L B4 d4 → Calls Try.prog 11 #[.pointer (some ⟨a.ip, 0, none⟩), .int .i64 4] W' fun e w2 => e = .returned (.string S4) ∧ Hid (Pl w w2 a L B4 d4) := by
        intro W' hp
        refine (Part_any hp.wd.im 4).mono fun e w2 ⟨h1, n, h2⟩ => ⟨?_, Lib.hid (by rw [h2]; exact hp.draws n)⟩
        rw [h1, ← hS4, ← hp4]
        rfl
      have q5 : ∀ W', Pl w W' a L B4 d4 → Calls Try.prog 11 #[.pointer (some ⟨a.ip, 0, none⟩), .int .i64 5] W' fun e w2 => e = .returned (.string S5) ∧ Hid (Pl w w2 a L B4 d4) := by
        intro W' hp
        refine (Part_any hp.wd.im 5).mono fun e w2 ⟨h1, n, h2⟩ => ⟨?_, Lib.hid (by rw [h2]; exact hp.draws n)⟩
        rw [h1, ← hS5, ← hp5]
        rfl
      have y4 : ∀ W', Pl w W' a L B4 d4 → Calls Try.prog 28 #[.pointer (some ⟨a.r0, 0, none⟩)] W' fun e w2 => e = .returned (.string S4) ∧ Hid (Pl w w2 a L B4 d4) := by
        intro W' hp
        refine (rbytes_any (hp.rs.q 0 (by decide)) (by rw [cellsOf_len]; exact (hp.room 0 (by decide)).2.1)).mono fun e w2 ⟨h1, h2⟩ => ⟨?_, Lib.hid (hp.bel h2)⟩
        rw [h1, ← hS4]
        rfl
      have y5 : ∀ W', Pl w W' a L B4 d4 → Calls Try.prog 28 #[.pointer (some ⟨a.r1, 0, none⟩)] W' fun e w2 => e = .returned (.string S5) ∧ Hid (Pl w w2 a L B4 d4) := by
        intro W' hp
        refine (rbytes_any (hp.rs.q 1 (by decide)) (by rw [cellsOf_len]; exact (hp.room 1 (by decide)).2.1)).mono fun e w2 ⟨h1, h2⟩ => ⟨?_, Lib.hid (hp.bel h2)⟩
        rw [h1, ← hS5]
        rfl
      have hPw := Lib.hid hP4
      replace q4 := Lib.hid q4
      replace q5 := Lib.hid q5
      replace y4 := Lib.hid y4
      replace y5 := Lib.hid y5
      have hkS : ∀ W', Pl w W' a L B4 d4 → W'.cell? ⟨a.wp, 0, none⟩ = some (.pointer (some ⟨a.ip, 0, none⟩)) ∧ W'.cell? ⟨a.wp, 4, none⟩ = some (.pointer (some ⟨a.r0, 0, none⟩)) ∧ W'.cell? ⟨a.wp, 5, none⟩ = some (.pointer (some ⟨a.r1, 0, none⟩)) := fun W' hp => ⟨hp.wd.cells.1, hp.wd.cells.2.2.2.2.1, hp.wd.cells.2.2.2.2.2.1⟩
      obtain ⟨u0, u4, u5⟩ := hkS w4 hP4
      replace hkS := Lib.hid hkS
      clear hS4 hS5 hp4 hp5 g0 g1 g2 g3 hP4 hV hVl hVn r0 r1 r2
      go_wp2_with (fail)
      go_region_held3 (fun w' => w'.cell? ⟨a.wp, 0, none⟩ = some (.pointer (some ⟨a.ip, 0, none⟩)) ∧ w'.cell? ⟨a.wp, 4, none⟩ = some (.pointer (some ⟨a.r0, 0, none⟩)) ∧ w'.cell? ⟨a.wp, 5, none⟩ = some (.pointer (some ⟨a.r1, 0, none⟩))) ((simp [go_sem, *]))
        (first
          | (go_at_call 11; (with_reducible refine Calls.mono (q4.out _ (by first | exact hPw.out | exact hPw.out.drew)) ?_); rintro e w5 ⟨rfl, hPw⟩; have kS : w5.cell? ⟨a.wp, 0, none⟩ = some (.pointer (some ⟨a.ip, 0, none⟩)) ∧ w5.cell? ⟨a.wp, 4, none⟩ = some (.pointer (some ⟨a.r0, 0, none⟩)) ∧ w5.cell? ⟨a.wp, 5, none⟩ = some (.pointer (some ⟨a.r1, 0, none⟩)) := hkS.out w5 hPw.out)
          | (go_at_call 11; (with_reducible refine Calls.mono (q5.out _ (by first | exact hPw.out | exact hPw.out.drew)) ?_); rintro e w5 ⟨rfl, hPw⟩; have kS : w5.cell? ⟨a.wp, 0, none⟩ = some (.pointer (some ⟨a.ip, 0, none⟩)) ∧ w5.cell? ⟨a.wp, 4, none⟩ = some (.pointer (some ⟨a.r0, 0, none⟩)) ∧ w5.cell? ⟨a.wp, 5, none⟩ = some (.pointer (some ⟨a.r1, 0, none⟩)) := hkS.out w5 hPw.out)
          | (go_at_call 28; (with_reducible refine Calls.mono (y4.out _ (by first | exact hPw.out | exact hPw.out.drew)) ?_); rintro e w5 ⟨rfl, hPw⟩; have kS : w5.cell? ⟨a.wp, 0, none⟩ = some (.pointer (some ⟨a.ip, 0, none⟩)) ∧ w5.cell? ⟨a.wp, 4, none⟩ = some (.pointer (some ⟨a.r0, 0, none⟩)) ∧ w5.cell? ⟨a.wp, 5, none⟩ = some (.pointer (some ⟨a.r1, 0, none⟩)) := hkS.out w5 hPw.out)
          | (go_at_call 28; (with_reducible refine Calls.mono (y5.out _ (by first | exact hPw.out | exact hPw.out.drew)) ?_); rintro e w5 ⟨rfl, hPw⟩; have kS : w5.cell? ⟨a.wp, 0, none⟩ = some (.pointer (some ⟨a.ip, 0, none⟩)) ∧ w5.cell? ⟨a.wp, 4, none⟩ = some (.pointer (some ⟨a.r0, 0, none⟩)) ∧ w5.cell? ⟨a.wp, 5, none⟩ = some (.pointer (some ⟨a.r1, 0, none⟩)) := hkS.out w5 hPw.out))
      all_goals (go_wp2_with (fail))
      all_goals (
        replace hPw := Lib.hid (by first | exact hPw.out | exact hPw.out.drew | exact hPw.out.draws _ : Pl w _ a L B4 d4)
        clear kS
        go_loopw [12] (fun x wr => ∃ k : Nat, x = .int .i64 k ∧ k ≤ 3 ∧ Hid (Pl w wr a L B4 d4)) (fun x _ => 3 - (intOf x).toNat)
        case atStart => exact ⟨0, rfl, Nat.zero_le _, hPw⟩
        case round =>
          obtain ⟨k, rfl, hk0, hQ⟩ := hrel
          by_cases hk : k < 3
          · have k0 : (0 : Int) ≤ (k : Int) := by omega
            have k3 : (k : Int) < 3 := by omega
            obtain ⟨s1, s2⟩ := hQ.out.wd.slot k hk
            have c0 := (hQ.out.rs.q k hk).c0
            have c1 := (hQ.out.rs.q k hk).c1
            rw [cellsOf_len] at c0
            have hdp := Lib.hid (fun n => depth_any ((hQ.out.draws n).wd.st k hk))
            have hrm := Lib.hid (fun n => room_any ((hQ.out.draws n).wd.st k hk))
            go_wp2_with (fail)
            go_quiet ((first | (go_at_call 14; with_reducible exact Calls.quiet_of_same (hdp.out _)) | (go_at_call 15; with_reducible exact Calls.quiet_of_same (hrm.out _))))
            go_wp2_with (fail)
            refine ⟨⟨k + 1, rfl, by omega, Lib.hid (hQ.out.draws nq)⟩, ?_⟩
            simp [intOf]; omega
          · have k3 : ¬ (k : Int) < 3 := by omega
            go_wp2_with (fail)
            refine ⟨⟨j + 1, rfl, by omega, by omega, Lib.hid ⟨B4, d4, hQ.out⟩⟩, ?_⟩
            simp [intOf]; omega)
    · have jj : ¬ ((j : Int) < (n2 : Int)) ∨ ((j : Int) < (n2 : Int)) ∧ ¬ ((j : Int) < 300) := by omega
      rcases jj with jj | ⟨jj, jj2⟩
      all_goals (
        go_wp2_with (fail)
        go_returns
        exact ⟨rfl, hPj.out.wd.be⟩)
end Go.Proofs.Ytkopgjdnfjgbjaa
