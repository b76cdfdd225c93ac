import Derived.Test.YtpbloennjcjgoaaDoorResE
import Derived.StillTailTactics
namespace Go.Proofs.YtpbloennjcjgoaaDoor
open Go.RowKit
set_option linter.unusedVariables false
set_option linter.unusedSimpArgs false
theorem Bs.drawn {W : World} {b : Nat} {l : List UInt8} (h : Bs W b l) (n : Nat) : Bs (W.drewN n) b l := h
theorem Bs.alloc {W : World} {b : Nat} {l : List UInt8} (h : Bs W b l) (o : Obj) : Bs (W.alloc o) b l :=
  h.kept ((Below.refl W.heap.size W).alloc (Nat.le_refl _) o) h.1
theorem Bs.far {W : World} {b : Nat} {l : List UInt8} (h : Bs W b l) {p : Addr} (hp : p.block ≠ b) (v : Value) : Bs (W.setCell p v) b l :=
  ⟨by simpa [World.setCell] using h.1, fun j hj => ⟨by rw [World.cell?_setCell_other _ _ _ _ (by intro g; apply hp; rw [g])]; exact (h.2 j hj).1, by rw [World.frozen?_setCell]; exact (h.2 j hj).2⟩⟩
/-- while a text is taken apart -/
structure Pa (w W : World) (p2 pn b : Nat) (s : ByteArray) (ns : Array Value) : Prop where
  txt : Bs W b s.data.toList
  res : Bk W p2 23 #[.string ⟨#[]⟩, .string ⟨#[]⟩, .string ⟨#[]⟩, .int .i64 0, .int .i64 0]
  num : Bk W pn 86 ns
  below : Below p2 w W
  lt : p2 < pn
  lb : b < pn
theorem Pa.put {w W : World} {p2 pn b : Nat} {s : ByteArray} {ns : Array Value} (h : Pa w W p2 pn b s ns) (i : Nat) (v : Value) : Pa w (W.setCell ⟨pn, i, none⟩ v) p2 pn b s (ns.setIfInBounds i v) :=
  ⟨h.txt.far (by have := h.lb; show pn ≠ b; omega) v, h.res.other (by have := h.lt; show p2 ≠ pn; omega) v, h.num.put i v, h.below.setCell (by have := h.lt; show p2 ≤ pn; omega) v, h.lt, h.lb⟩
theorem rdN_lt (s : ByteArray) (k : Nat) : rdN s k < 18446744073709551616 := horF_lt _ 8
theorem num_at {w W : World} {p2 pn b : Nat} {s : ByteArray} {ns : Array Value} (h : Pa w W p2 pn b s ns) (k n c : Nat) (hk : k + 8 ≤ s.size) (hn : 8 ≤ n) :
    Calls Tryd.prog 38 #[.slice (some ⟨b, k, none⟩) n c] W fun e w' => e = .returned (.int .u64 (rdN s k : Int)) ∧ w' = W := by
  refine number_any b k n c (fun j => s.data.toList.getD (k + j) 0) W (fun j hj => ?_) hn
  have hl := data_size s
  rw [(h.txt.2 (k + j) (by omega)).1, List.getD_eq_getElem?_getD, List.getElem?_eq_getElem (by omega)]
  rfl
theorem sum_take {w W : World} {p2 pn b : Nat} {s : ByteArray} {ns : Array Value} (h : Pa w W p2 pn b s ns) (n c : Nat) (hn : n ≤ s.size) (hs : n ≤ 1000000000) :
    Calls Tryd.prog 35 #[.slice (some ⟨b, 0, none⟩) n c] W fun e w' => e = .returned (.int .u64 (sumL (s.data.toList.take n) : Int)) ∧ w' = W := by
  have hl := data_size s
  have htl : (s.data.toList.take n).length = n := by rw [List.length_take]; omega
  have g := sum_any b 0 c (s.data.toList.take n) W (fun j hj => by
    rw [Nat.zero_add, (h.txt.2 j (by omega)).1, List.getElem_take]) (by omega)
  rw [htl] at g
  exact g
theorem Pa.drawn {w W : World} {p2 pn b : Nat} {s : ByteArray} {ns : Array Value} (h : Pa w W p2 pn b s ns) (n : Nat) : Pa w (W.drewN n) p2 pn b s ns :=
  ⟨h.txt, h.res, h.num, h.below.trans ⟨rfl, rfl, rfl, Nat.le_refl _, fun _ _ => rfl⟩, h.lt, h.lb⟩
set_option maxHeartbeats 2000000 in
set_option maxRecDepth 100000 in
theorem parse_no (s : ByteArray) (w : World) (hM : Mark w) (hs : s.size ≤ 9223372036854775807) (h52 : 52 ≤ s.size) (hmk : s.data.toList.take 4 = mark4) (hrc : ¬ ((rdN s 4 ≤ 65536 ∧ rdN s 12 ≤ 4096 ∧ rdN s 20 ≤ 4096) ∧ s.size = 52 + rdN s 4 + rdN s 12 + rdN s 20 ∧ sumL (s.data.toList.take (s.size - 8)) = rdN s (s.size - 8))) :
    Calls Tryd.prog 13 #[.string s] w fun e w' => e = .returned (.tuple #[zeroV, .int .i64 4]) ∧ Below w.heap.size w w' := by
  have i52 : ¬ (s.size : Int) < 52 := by omega
  go_enter Tryd.func13, Tryd.ntmps13
  go_wp2_with (fail)
  have hK := Bk.fresh w 23 #[.string ⟨#[]⟩, .string ⟨#[]⟩, .string ⟨#[]⟩, .int .i64 0, .int .i64 0]
  have hBe := (Below.refl w.heap.size w).alloc (Nat.le_refl _) (.cells #[.string ⟨#[]⟩, .string ⟨#[]⟩, .string ⟨#[]⟩, .int .i64 0, .int .i64 0] 23)
  have hM1 := hM.kept hBe hM.1
  obtain ⟨w1, hw1⟩ : ∃ w1, w.alloc (.cells #[.string ⟨#[]⟩, .string ⟨#[]⟩, .string ⟨#[]⟩, .int .i64 0, .int .i64 0] 23) = w1 := ⟨_, rfl⟩
  rw [hw1] at hK hBe hM1 ⊢
  clear hw1 hM
  obtain ⟨p2, hp2⟩ : ∃ p2, w.heap.size = p2 := ⟨_, rfl⟩
  rw [hp2] at hK hBe ⊢
  obtain ⟨W, cap, hconv, hT, hO, hcap⟩ := bytes_made w1 s
  have hK2 := hK.kept hO hK.lt
  have hBe2 := hBe.trans (hO.mono (by rw [← hp2]; exact hBe.size))
  have hM2 := hM1.kept hO hM1.1
  have hpb := hK.lt
  obtain ⟨b, hb⟩ : ∃ b, w1.heap.size = b := ⟨_, rfl⟩
  rw [hb] at hconv hT hO hpb
  clear hK hBe hM1 hO
  have hT := Lib.hid hT
  have m0 : W.cell? ⟨0, 0, none⟩ = some (.int .u8 80) := hM2.2.1
  have m1 := hM2.2.2.1
  have m2 := hM2.2.2.2.1
  have m3 := hM2.2.2.2.2
  have q0 : W.cell? ⟨p2, 0, none⟩ = some (.string ⟨#[]⟩) := hK2.cell 0
  have q1 : W.cell? ⟨p2, 1, none⟩ = some (.string ⟨#[]⟩) := hK2.cell 1
  have q2 : W.cell? ⟨p2, 2, none⟩ = some (.string ⟨#[]⟩) := hK2.cell 2
  have q3 : W.cell? ⟨p2, 3, none⟩ = some (.int .i64 0) := hK2.cell 3
  have q4 : W.cell? ⟨p2, 4, none⟩ = some (.int .i64 0) := hK2.cell 4
  have f0 := hK2.free 0
  have f1 := hK2.free 1
  have f2 := hK2.free 2
  have f3 := hK2.free 3
  have f4 := hK2.free 4
  have hp2 := Lib.hid hp2
  have hK2 := Lib.hid hK2
  have hBe2 := Lib.hid hBe2
  have hl := data_size s
  have c0 := (hT.out.2 0 (by omega)).1
  have c1 := (hT.out.2 1 (by omega)).1
  have c2 := (hT.out.2 2 (by omega)).1
  have c3 := (hT.out.2 3 (by omega)).1
  have ht4 := take4 s (by omega)
  have hl := Lib.hid hl
  generalize s.data.toList[0] = a0 at *
  generalize s.data.toList[1] = a1 at *
  generalize s.data.toList[2] = a2 at *
  generalize s.data.toList[3] = a3 at *
  have hat := array_at ⟨b, 0, none⟩ s.size cap (by omega)
  have hne := neq_arr a0 a1 a2 a3
  rw [ht4] at hmk
  have hmk2 : ([a0, a1, a2, a3] == mark4) = true := by simpa using hmk
  have hmk := Lib.hid hmk
  rw [hconv]
  clear hconv
  go_wp2_with (fail)
  go_quiet (fail)
  clear m0 m1 m2 m3 c0 c1 c2 c3 hat hne
  go_wp2_with (fail)
  have hA : Pa w ((W.drewN nq).alloc (.cells #[.int .u64 0, .int .u64 0, .int .u64 0, .int .u64 0, .int .u64 0] 86)) p2 W.heap.size b s #[.int .u64 0, .int .u64 0, .int .u64 0, .int .u64 0, .int .u64 0] :=
    ⟨hT.out.drawn nq |>.alloc _, (hK2.out.draws nq).past _, Bk.fresh _ _ _, (hBe2.out.trans ⟨rfl, rfl, rfl, Nat.le_refl _, fun _ _ => rfl⟩ : Below p2 w (W.drewN nq)).alloc (Nat.le_of_lt hK2.out.lt) _, hK2.out.lt, hT.out.1⟩
  obtain ⟨W3, hW3⟩ : ∃ W3, (W.drewN nq).alloc (.cells #[.int .u64 0, .int .u64 0, .int .u64 0, .int .u64 0, .int .u64 0] 86) = W3 := ⟨_, rfl⟩
  rw [hW3] at hA ⊢
  clear hW3 hT hK2 hBe2 q0 q1 q2 q3 q4 f0 f1 f2 f3 f4 hM2
  generalize W.heap.size = pn at *
  have e0 : ¬ cap = 4 := by omega
  have e1 : ¬ cap = 12 := by omega
  have e2 : ¬ cap = 20 := by omega
  have e3 : ¬ cap = 28 := by omega
  have e4 : ¬ cap = 36 := by omega
  have i53 : (4 : Int) ≤ s.size := by omega
  refine wp_loop_rounds 6 ?_
  have fr0 := hA.num.free 0
  have ce0 := hA.num.cell 0
  rw [rounds_succ]
  go_wp2_with (fail)
  refine (num_at hA 4 _ _ (by omega) (by omega)).mono ?_
  rintro e w0 ⟨rfl, rfl⟩
  have hA1 := hA.put 0 (.int .u64 (rdN s 4 : Int))
  go_wp2_with (fail)
  obtain ⟨V0, hV⟩ : ∃ V, w0.setCell ⟨pn, 0, none⟩ (.int .u64 (rdN s 4 : Int)) = V := ⟨_, rfl⟩
  rw [hV] at hA1 ⊢
  clear hV hA fr0 ce0
  go_wp2_with (fail)
  have fr1 := hA1.num.free 1
  have ce1 := hA1.num.cell 1
  rw [rounds_succ]
  go_wp2_with (fail)
  refine (num_at hA1 12 _ _ (by omega) (by omega)).mono ?_
  rintro e w1 ⟨rfl, rfl⟩
  have hA2 := hA1.put 1 (.int .u64 (rdN s 12 : Int))
  go_wp2_with (fail)
  obtain ⟨V1, hV⟩ : ∃ V, w1.setCell ⟨pn, 1, none⟩ (.int .u64 (rdN s 12 : Int)) = V := ⟨_, rfl⟩
  rw [hV] at hA2 ⊢
  clear hV hA1 fr1 ce1
  go_wp2_with (fail)
  have fr2 := hA2.num.free 2
  have ce2 := hA2.num.cell 2
  rw [rounds_succ]
  go_wp2_with (fail)
  refine (num_at hA2 20 _ _ (by omega) (by omega)).mono ?_
  rintro e w2 ⟨rfl, rfl⟩
  have hA3 := hA2.put 2 (.int .u64 (rdN s 20 : Int))
  go_wp2_with (fail)
  obtain ⟨V2, hV⟩ : ∃ V, w2.setCell ⟨pn, 2, none⟩ (.int .u64 (rdN s 20 : Int)) = V := ⟨_, rfl⟩
  rw [hV] at hA3 ⊢
  clear hV hA2 fr2 ce2
  go_wp2_with (fail)
  have fr3 := hA3.num.free 3
  have ce3 := hA3.num.cell 3
  rw [rounds_succ]
  go_wp2_with (fail)
  refine (num_at hA3 28 _ _ (by omega) (by omega)).mono ?_
  rintro e w3 ⟨rfl, rfl⟩
  have hA4 := hA3.put 3 (.int .u64 (rdN s 28 : Int))
  go_wp2_with (fail)
  obtain ⟨V3, hV⟩ : ∃ V, w3.setCell ⟨pn, 3, none⟩ (.int .u64 (rdN s 28 : Int)) = V := ⟨_, rfl⟩
  rw [hV] at hA4 ⊢
  clear hV hA3 fr3 ce3
  go_wp2_with (fail)
  have fr4 := hA4.num.free 4
  have ce4 := hA4.num.cell 4
  rw [rounds_succ]
  go_wp2_with (fail)
  refine (num_at hA4 36 _ _ (by omega) (by omega)).mono ?_
  rintro e w4 ⟨rfl, rfl⟩
  have hA5 := hA4.put 4 (.int .u64 (rdN s 36 : Int))
  go_wp2_with (fail)
  obtain ⟨V4, hV⟩ : ∃ V, w4.setCell ⟨pn, 4, none⟩ (.int .u64 (rdN s 36 : Int)) = V := ⟨_, rfl⟩
  rw [hV] at hA5 ⊢
  clear hV hA4 fr4 ce4
  go_wp2_with (fail)
  rw [rounds_succ]
  have lx := rdN_lt s 4
  have ly := rdN_lt s 12
  have lz := rdN_lt s 20
  obtain ⟨en, hen, hen2⟩ : ∃ en : Nat, (s.size : Int) - 8 = (en : Int) ∧ en + 8 = s.size := ⟨s.size - 8, by omega, by omega⟩
  have hA5 := Lib.hid hA5
  have v0 : V4.cell? ⟨pn, 0, none⟩ = some (.int .u64 (rdN s 4 : Int)) := hA5.out.num.cell 0
  have v1 : V4.cell? ⟨pn, 1, none⟩ = some (.int .u64 (rdN s 12 : Int)) := hA5.out.num.cell 1
  have v2 : V4.cell? ⟨pn, 2, none⟩ = some (.int .u64 (rdN s 20 : Int)) := hA5.out.num.cell 2
  have v3 : V4.cell? ⟨pn, 3, none⟩ = some (.int .u64 (rdN s 28 : Int)) := hA5.out.num.cell 3
  have v4 : V4.cell? ⟨pn, 4, none⟩ = some (.int .u64 (rdN s 36 : Int)) := hA5.out.num.cell 4
  clear e0 e1 e2 e3 e4 ht4 hmk hmk2 hl
  have q0 : V4.cell? ⟨p2, 0, none⟩ = some (.string ⟨#[]⟩) := hA5.out.res.cell 0
  have q1 : V4.cell? ⟨p2, 1, none⟩ = some (.string ⟨#[]⟩) := hA5.out.res.cell 1
  have q2 : V4.cell? ⟨p2, 2, none⟩ = some (.string ⟨#[]⟩) := hA5.out.res.cell 2
  have q3 : V4.cell? ⟨p2, 3, none⟩ = some (.int .i64 0) := hA5.out.res.cell 3
  have q4 : V4.cell? ⟨p2, 4, none⟩ = some (.int .i64 0) := hA5.out.res.cell 4
  have f0 := hA5.out.res.free 0
  have f1 := hA5.out.res.free 1
  have f2 := hA5.out.res.free 2
  have f3 := hA5.out.res.free 3
  have f4 := hA5.out.res.free 4
  have hbel := Lib.hid hA5.out.below
  have hres := Lib.hid hA5.out.res
  go_wp2_with (fail)
  by_cases hfit : rdN s 4 ≤ 65536 ∧ rdN s 12 ≤ 4096 ∧ rdN s 20 ≤ 4096
  · obtain ⟨g1, g2, g3⟩ := hfit
    by_cases hsz : s.size = 52 + rdN s 4 + rdN s 12 + rdN s 20
    · have qe : ((en : Int) != 44 + rdN s 4 + rdN s 12 + rdN s 20) = false := by simp; omega
      have e5 : ¬ cap = en := by omega
      have n0 : (0 : Int) ≤ en := by omega
      have n1 : (en : Int) ≤ s.size := by omega
      have n2 : en ≤ s.size := by omega
      have hsum : ¬ sumL (s.data.toList.take en) = rdN s en := fun g => hrc ⟨⟨g1, g2, g3⟩, hsz, by rw [show s.size - 8 = en by omega]; exact g⟩
      have hq : ((rdN s en : Int) != sumL (s.data.toList.take en)) = true := by simp; omega
      have htl : (s.data.toList.take en).length = en := by rw [List.length_take, data_size]; omega
      have htl := Lib.hid htl
      have hsum := Lib.hid hsum
      have hcall : ∀ (W' : World) (ns : Array Value), Pa w W' p2 pn b s ns → Calls Tryd.prog 35 #[.slice (some ⟨b, 0, none⟩) en cap] W' fun e w' => e = .returned (.int .u64 (sumL (s.data.toList.take en) : Int)) ∧ w' = W' := fun W' ns h => sum_take h en cap (by omega) (by omega)
      have hcall := Lib.hid hcall
      clear hsz
      generalize hS : sumL (s.data.toList.take en) = S at *
      go_quiet ((first | (go_at_call 33; exact Calls.quiet_of_same (fits_yes _ _ _ _ g1 g2 g3)) | (go_at_call 38; exact Calls.quiet_of_same (num_at (hA5.out.drawn _) en _ _ (by omega) (by omega))) | (go_at_call 35; exact Calls.quiet_of_same (hcall.out _ _ (hA5.out.drawn _)))))
      go_wp2_with (fail)
      have hK3 := ((((((hres.out.draws nq).put 0 (.string ⟨#[]⟩)).put 1 (.string ⟨#[]⟩)).put 2 (.string ⟨#[]⟩)).put 3 (.int .i64 0)).put 4 (.int .i64 0))
      have hB3 := ((((((hbel.out.trans ⟨rfl, rfl, rfl, Nat.le_refl _, fun _ _ => rfl⟩ : Below p2 w (V4.drewN nq)).setCell (p := ⟨p2, 0, none⟩) (Nat.le_refl _) (.string ⟨#[]⟩)).setCell (p := ⟨p2, 1, none⟩) (Nat.le_refl _) (.string ⟨#[]⟩)).setCell (p := ⟨p2, 2, none⟩) (Nat.le_refl _) (.string ⟨#[]⟩)).setCell (p := ⟨p2, 3, none⟩) (Nat.le_refl _) (.int .i64 0)).setCell (p := ⟨p2, 4, none⟩) (Nat.le_refl _) (.int .i64 0))
      obtain ⟨w9, hw9⟩ : ∃ w9, ((((((V4.drewN nq).setCell ⟨p2, 0, none⟩ (.string ⟨#[]⟩)).setCell ⟨p2, 1, none⟩ (.string ⟨#[]⟩)).setCell ⟨p2, 2, none⟩ (.string ⟨#[]⟩)).setCell ⟨p2, 3, none⟩ (.int .i64 0)).setCell ⟨p2, 4, none⟩ (.int .i64 0)) = w9 := ⟨_, rfl⟩
      rw [hw9] at hK3 hB3 ⊢
      have r0 : w9.cell? ⟨p2, 0, none⟩ = some (.string ⟨#[]⟩) := hK3.cell 0
      have r1 : w9.cell? ⟨p2, 1, none⟩ = some (.string ⟨#[]⟩) := hK3.cell 1
      have r2 : w9.cell? ⟨p2, 2, none⟩ = some (.string ⟨#[]⟩) := hK3.cell 2
      have r3 : w9.cell? ⟨p2, 3, none⟩ = some (.int .i64 0) := hK3.cell 3
      have r4 : w9.cell? ⟨p2, 4, none⟩ = some (.int .i64 0) := hK3.cell 4
      refine bodyPost_ret (by simp [results, Tryd.results13, go_sem, r0, r1, r2, r3, r4]; rfl) rfl ?_
      exact ⟨rfl, by rw [hp2.out]; exact hB3⟩
    · have qe : ((en : Int) != 44 + rdN s 4 + rdN s 12 + rdN s 20) = true := by simp; omega
      go_quiet ((go_at_call 33; exact Calls.quiet_of_same (fits_yes _ _ _ _ g1 g2 g3)))
      go_wp2_with (fail)
      have hK3 := ((((((hres.out.draws nq).put 0 (.string ⟨#[]⟩)).put 1 (.string ⟨#[]⟩)).put 2 (.string ⟨#[]⟩)).put 3 (.int .i64 0)).put 4 (.int .i64 0))
      have hB3 := ((((((hbel.out.trans ⟨rfl, rfl, rfl, Nat.le_refl _, fun _ _ => rfl⟩ : Below p2 w (V4.drewN nq)).setCell (p := ⟨p2, 0, none⟩) (Nat.le_refl _) (.string ⟨#[]⟩)).setCell (p := ⟨p2, 1, none⟩) (Nat.le_refl _) (.string ⟨#[]⟩)).setCell (p := ⟨p2, 2, none⟩) (Nat.le_refl _) (.string ⟨#[]⟩)).setCell (p := ⟨p2, 3, none⟩) (Nat.le_refl _) (.int .i64 0)).setCell (p := ⟨p2, 4, none⟩) (Nat.le_refl _) (.int .i64 0))
      obtain ⟨w9, hw9⟩ : ∃ w9, ((((((V4.drewN nq).setCell ⟨p2, 0, none⟩ (.string ⟨#[]⟩)).setCell ⟨p2, 1, none⟩ (.string ⟨#[]⟩)).setCell ⟨p2, 2, none⟩ (.string ⟨#[]⟩)).setCell ⟨p2, 3, none⟩ (.int .i64 0)).setCell ⟨p2, 4, none⟩ (.int .i64 0)) = w9 := ⟨_, rfl⟩
      rw [hw9] at hK3 hB3 ⊢
      have r0 : w9.cell? ⟨p2, 0, none⟩ = some (.string ⟨#[]⟩) := hK3.cell 0
      have r1 : w9.cell? ⟨p2, 1, none⟩ = some (.string ⟨#[]⟩) := hK3.cell 1
      have r2 : w9.cell? ⟨p2, 2, none⟩ = some (.string ⟨#[]⟩) := hK3.cell 2
      have r3 : w9.cell? ⟨p2, 3, none⟩ = some (.int .i64 0) := hK3.cell 3
      have r4 : w9.cell? ⟨p2, 4, none⟩ = some (.int .i64 0) := hK3.cell 4
      refine bodyPost_ret (by simp [results, Tryd.results13, go_sem, r0, r1, r2, r3, r4]; rfl) rfl ?_
      exact ⟨rfl, by rw [hp2.out]; exact hB3⟩
  · go_quiet ((go_at_call 33; exact Calls.quiet_of_same (fits_no _ _ _ _ hfit)))
    go_wp2_with (fail)
    have hK3 := ((((((hres.out.draws nq).put 0 (.string ⟨#[]⟩)).put 1 (.string ⟨#[]⟩)).put 2 (.string ⟨#[]⟩)).put 3 (.int .i64 0)).put 4 (.int .i64 0))
    have hB3 := ((((((hbel.out.trans ⟨rfl, rfl, rfl, Nat.le_refl _, fun _ _ => rfl⟩ : Below p2 w (V4.drewN nq)).setCell (p := ⟨p2, 0, none⟩) (Nat.le_refl _) (.string ⟨#[]⟩)).setCell (p := ⟨p2, 1, none⟩) (Nat.le_refl _) (.string ⟨#[]⟩)).setCell (p := ⟨p2, 2, none⟩) (Nat.le_refl _) (.string ⟨#[]⟩)).setCell (p := ⟨p2, 3, none⟩) (Nat.le_refl _) (.int .i64 0)).setCell (p := ⟨p2, 4, none⟩) (Nat.le_refl _) (.int .i64 0))
    obtain ⟨w9, hw9⟩ : ∃ w9, ((((((V4.drewN nq).setCell ⟨p2, 0, none⟩ (.string ⟨#[]⟩)).setCell ⟨p2, 1, none⟩ (.string ⟨#[]⟩)).setCell ⟨p2, 2, none⟩ (.string ⟨#[]⟩)).setCell ⟨p2, 3, none⟩ (.int .i64 0)).setCell ⟨p2, 4, none⟩ (.int .i64 0)) = w9 := ⟨_, rfl⟩
    rw [hw9] at hK3 hB3 ⊢
    have r0 : w9.cell? ⟨p2, 0, none⟩ = some (.string ⟨#[]⟩) := hK3.cell 0
    have r1 : w9.cell? ⟨p2, 1, none⟩ = some (.string ⟨#[]⟩) := hK3.cell 1
    have r2 : w9.cell? ⟨p2, 2, none⟩ = some (.string ⟨#[]⟩) := hK3.cell 2
    have r3 : w9.cell? ⟨p2, 3, none⟩ = some (.int .i64 0) := hK3.cell 3
    have r4 : w9.cell? ⟨p2, 4, none⟩ = some (.int .i64 0) := hK3.cell 4
    refine bodyPost_ret (by simp [results, Tryd.results13, go_sem, r0, r1, r2, r3, r4]; rfl) rfl ?_
    exact ⟨rfl, by rw [hp2.out]; exact hB3⟩
end Go.Proofs.YtpbloennjcjgoaaDoor
