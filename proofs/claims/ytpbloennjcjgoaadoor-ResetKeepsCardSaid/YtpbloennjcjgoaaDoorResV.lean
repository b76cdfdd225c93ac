import Derived.Test.YtpbloennjcjgoaaDoorResU
import Derived.Test.YtpbloennjcjgoaaDoorResK
namespace Go.Proofs.YtpbloennjcjgoaaDoor
open Go.RowKit
set_option linter.unusedVariables false
set_option linter.unusedSimpArgs false
/-! law 16's layout, its image, the student's list; what is asked -/
def layOf16 (n : Int) : Lay := ⟨16384, 0, 256 + 8 * pickN n 9, 64 + 8 * pickN n 4, 64⟩
theorem layOf16_ok (n : Int) : (layOf16 n).ok := by
  have h3 := pickN_lt n 9 (by decide)
  have h4 := pickN_lt n 4 (by decide)
  refine ⟨⟨Nat.le_refl _, by show 16384 ≤ 65536; decide, by show 16384 % 8 = 0; decide⟩, ⟨Nat.zero_le _, rfl⟩, ⟨?_, ?_, ?_⟩, ⟨?_, ?_, ?_⟩, ⟨Nat.le_refl _, by show 64 ≤ 4096; decide, by show 64 % 8 = 0; decide⟩⟩
  · show 256 ≤ 256 + 8 * pickN n 9; omega
  · show 256 + 8 * pickN n 9 ≤ 65536; omega
  · show (256 + 8 * pickN n 9) % 8 = 0; omega
  · show 64 ≤ 64 + 8 * pickN n 4; omega
  · show 64 + 8 * pickN n 4 ≤ 4096; omega
  · show (64 + 8 * pickN n 4) % 8 = 0; omega
def LV (L : Lay) : Value := layV L.k L.s L.u L.d L.r
def inI (x : Int) : Prop := -9223372036854775808 ≤ x ∧ x ≤ 9223372036854775807
set_option maxRecDepth 100000 in
set_option maxHeartbeats 4000000 in
theorem layout16_any (d : Int) (w : World) (hd : inI d) :
    Calls Tryd.prog 20 #[.int .i64 d] w fun e' w' => e' = .returned (LV (layOf16 d)) ∧ Below w.heap.size w w' := by
  have q4 := fun W => pick_any d 9 W hd.1 hd.2 (by decide) (by decide)
  have q5 := fun W => pick_any d 4 W hd.1 hd.2 (by decide) (by decide)
  have h4 := pickN_lt d 9 (by decide)
  have h5 := pickN_lt d 4 (by decide)
  have hL : LV (layOf16 d) = .agg #[.int .i64 16384, .int .i64 0, .int .i64 ((256 + 8 * pickN d 9 : Nat) : Int), .int .i64 ((64 + 8 * pickN d 4 : Nat) : Int), .int .i64 64] := rfl
  rw [hL]
  clear hL hd
  simp only [show (9 : Int).toNat = 9 from rfl, show (4 : Int).toNat = 4 from rfl] at q4 q5
  generalize pickN d 9 = x4 at *
  generalize pickN d 4 = x5 at *
  obtain ⟨e4, e4', e5, e5'⟩ : wrap64 (8 * (x4 : Int)) = ((8 * x4 : Nat) : Int) ∧ wrap64 (256 + ((8 * x4 : Nat) : Int)) = ((256 + 8 * x4 : Nat) : Int) ∧ wrap64 (8 * (x5 : Int)) = ((8 * x5 : Nat) : Int) ∧ wrap64 (64 + ((8 * x5 : Nat) : Int)) = ((64 + 8 * x5 : Nat) : Int) := by
    unfold wrap64
    refine ⟨?_, ?_, ?_, ?_⟩ <;> omega
  obtain ⟨y4, hy4⟩ : ∃ y, 8 * x4 = y := ⟨_, rfl⟩
  obtain ⟨y5, hy5⟩ : ∃ y, 8 * x5 = y := ⟨_, rfl⟩
  rw [hy4] at e4 e4' ⊢
  rw [hy5] at e5 e5' ⊢
  clear hy4 hy5 h4 h5
  obtain ⟨z4, hz4⟩ : ∃ z, 256 + y4 = z := ⟨_, rfl⟩
  obtain ⟨z5, hz5⟩ : ∃ z, 64 + y5 = z := ⟨_, rfl⟩
  rw [hz4] at e4' ⊢
  rw [hz5] at e5' ⊢
  clear hz4 hz5
  replace q4 := Lib.hid q4
  replace q5 := Lib.hid q5
  go_enter Tryd.func20, Tryd.ntmps20
  go_wp2_with (fail)
  have hR := Bk.fresh w 49 #[.int .i64 0, .int .i64 0, .int .i64 0, .int .i64 0, .int .i64 0]
  have hB := (Below.refl w.heap.size w).alloc (Nat.le_refl _) (.cells #[.int .i64 0, .int .i64 0, .int .i64 0, .int .i64 0, .int .i64 0] 49)
  obtain ⟨V, hV⟩ : ∃ V, w.alloc (.cells #[.int .i64 0, .int .i64 0, .int .i64 0, .int .i64 0, .int .i64 0] 49) = V := ⟨_, rfl⟩
  rw [hV] at hR hB ⊢
  clear hV
  obtain ⟨q, hq⟩ : ∃ q, w.heap.size = q := ⟨_, rfl⟩
  have hqb : w.heap.size ≤ q := Nat.le_of_eq hq
  rw [hq] at hR ⊢
  have c0 := hR.cell 0
  have c1 := hR.cell 1
  have c2 := hR.cell 2
  have c3 := hR.cell 3
  have c4 := hR.cell 4
  have f0 := hR.free 0
  have f1 := hR.free 1
  have f2 := hR.free 2
  have f3 := hR.free 3
  have f4 := hR.free 4
  simp at c0 c1 c2 c3 c4
  replace hR := Lib.hid hR
  replace hq := Lib.hid hq
  refine (q4.out _).mono ?_
  rintro e w1 ⟨rfl, hw1⟩
  have hw1 := hw1.symm
  subst hw1
  go_wp2_with (fail)
  refine (q5.out _).mono ?_
  rintro e w1 ⟨rfl, hw1⟩
  have hw1 := hw1.symm
  subst hw1
  go_wp2_with (fail)
  have hR3 := (((((hR.out.put 0 (.int .i64 16384)).put 1 (.int .i64 0)).put 2 (.int .i64 (z4 : Int))).put 3 (.int .i64 (z5 : Int))).put 4 (.int .i64 64))
  have hB3 := (((((hB.setCell (p := ⟨q, 0, none⟩) hqb (.int .i64 16384)).setCell (p := ⟨q, 1, none⟩) hqb (.int .i64 0)).setCell (p := ⟨q, 2, none⟩) hqb (.int .i64 (z4 : Int))).setCell (p := ⟨q, 3, none⟩) hqb (.int .i64 (z5 : Int))).setCell (p := ⟨q, 4, none⟩) hqb (.int .i64 64))
  obtain ⟨w9, hw9⟩ : ∃ w9, (((((V.setCell ⟨q, 0, none⟩ (.int .i64 16384)).setCell ⟨q, 1, none⟩ (.int .i64 0)).setCell ⟨q, 2, none⟩ (.int .i64 (z4 : Int))).setCell ⟨q, 3, none⟩ (.int .i64 (z5 : Int))).setCell ⟨q, 4, none⟩ (.int .i64 64)) = w9 := ⟨_, rfl⟩
  rw [hw9] at hR3 hB3 ⊢
  have r0 : w9.cell? ⟨q, 0, none⟩ = some (.int .i64 16384) := hR3.cell 0
  have r1 : w9.cell? ⟨q, 1, none⟩ = some (.int .i64 0) := hR3.cell 1
  have r2 : w9.cell? ⟨q, 2, none⟩ = some (.int .i64 (z4 : Int)) := hR3.cell 2
  have r3 : w9.cell? ⟨q, 3, none⟩ = some (.int .i64 (z5 : Int)) := hR3.cell 3
  have r4 : w9.cell? ⟨q, 4, none⟩ = some (.int .i64 64) := hR3.cell 4
  refine bodyPost_ret (by simp [results, Tryd.results20, go_sem, r0, r1, r2, r3, r4]; rfl) rfl ?_
  exact ⟨rfl, hB3⟩
theorem layOf16_layOk (d : Int) : layOk (layOf16 d).k (layOf16 d).s (layOf16 d).u (layOf16 d).d (layOf16 d).r := by
  have h := layOf16_ok d
  obtain ⟨⟨a1, a2, a3⟩, ⟨b1, b2⟩, ⟨c1, c2, c3⟩, ⟨d1, d2, d3⟩, ⟨e1, e2, e3⟩⟩ := h
  unfold layOk sizeOk
  omega
theorem new16 (d : Int) (w : World) : Calls Tryd.prog 41 #[LV (layOf16 d)] w fun e w' => ∃ (p b : Nat), e = .returned (.tuple #[.pointer (some ⟨p, 0, none⟩), .int .i64 0]) ∧ Im w' p b (layOf16 d) (List.replicate (layOf16 d).b6 0) false false ∧ w.heap.size ≤ p ∧ w.heap.size ≤ b ∧ Below w.heap.size w w' := by
  refine (new_any _ _ _ _ _ w).mono fun e w' h => ?_
  obtain ⟨L, p, b, h1, h2, h3, h4, h5, he, hi, h6, h7, h8⟩ := h.1 (layOf16_layOk d)
  have hL : L = layOf16 d := by
    cases L
    simp only at h1 h2 h3 h4 h5
    have e1 := Int.ofNat.inj h1
    have e2 := Int.ofNat.inj h2
    have e3 := Int.ofNat.inj h3
    have e4 := Int.ofNat.inj h4
    have e5 := Int.ofNat.inj h5
    subst e1 e2 e3 e4 e5
    rfl
  subst hL
  exact ⟨p, b, he, hi, h6, h7, h8⟩
/-- a wordlist's header -/
def dctV (ip fr to_ here latest : Nat) : Array Value := #[.pointer (some ⟨ip, 0, none⟩), .int .i64 fr, .int .i64 to_, .int .i64 here, .int .i64 latest]
section
variable {w : World} {ip b : Nat} {L : Lay} {B : List UInt8} {o s : Bool}
theorem dnew_yes (hi : Im w ip b L B o s) (r : Nat) (hr : r = 1 ∨ r = 3) :
    Calls Tryd.prog 21 #[.pointer (some ⟨ip, 0, none⟩), .int .i64 r] w fun e w' => ∃ q, e = .returned (.tuple #[.pointer (some ⟨q, 0, none⟩), .int .i64 0]) ∧ w.heap.size ≤ q ∧ Bk w' q 95 (dctV ip (L.beg r + 8) (L.beg (r + 1)) (L.beg r + 8) 0) ∧ Below w.heap.size w w' := by
  have hsp := span_any ip b L B o s r w hi
  have hfrom : L.from_ r = L.beg r := by unfold Lay.from_; rw [if_neg (by omega), if_neg (by omega)]; simp
  have hto : L.to_ r = L.beg (r + 1) := by unfold Lay.to_; rw [if_neg (by omega), if_neg (by omega)]; simp
  have hle := Lay.from_le hi.ok r
  have m := Lay.mono hi.ok
  rw [hfrom, hto] at hsp hle
  obtain ⟨f, hf⟩ : ∃ f, L.beg r = f := ⟨_, rfl⟩
  obtain ⟨u, hu⟩ : ∃ u, L.beg (r + 1) = u := ⟨_, rfl⟩
  rw [hf, hu] at hsp hle
  rw [hf, hu]
  have b1 : f ≤ 143360 := by omega
  have e1 : (f : Int) + 8 = ((f + 8 : Nat) : Int) := by omega
  clear hfrom hto m hf hu hi
  replace hsp := Lib.hid hsp
  replace e1 := Lib.hid e1
  rcases hr with rfl | rfl
  all_goals (
    go_enter Tryd.func21, Tryd.ntmps21
    go_wp2_with (go_at_call 42; refine hsp.out.mono ?_; rintro e w1 ⟨rfl, n, hn⟩; have hn := hn.symm; subst hn)
    go_returns
    have hF := Bk.fresh (w.drewN n) 95 #[.pointer (some ⟨ip, 0, none⟩), .int .i64 ((f : Int) + 8), .int .i64 u, .int .i64 ((f : Int) + 8), .int .i64 0]
    rw [e1.out] at hF
    refine ⟨w.heap.size, rfl, Nat.le_refl _, ?_, (⟨rfl, rfl, rfl, Nat.le_refl _, fun _ _ => rfl⟩ : Below w.heap.size w (w.drewN n)).alloc (Nat.le_refl _) _⟩
    rw [e1.out]
    exact hF)
theorem here16_any (q : Nat) (fr to_ here latest : Nat) (h : Bk w q 95 (dctV ip fr to_ here latest)) : Calls Tryd.prog 57 #[.pointer (some ⟨q, 0, none⟩)] w fun e w' => e = .returned (.int .i64 here) ∧ w' = w := by
  have c3 : w.cell? ⟨q, 3, none⟩ = some (.int .i64 here) := h.cell 3
  clear h
  go_enter Tryd.func57, Tryd.ntmps57
  go_wp2_with (fail)
  go_returns
  exact ⟨rfl, rfl⟩
theorem code_arg (w : World) : Calls Tryd.prog 44 #[.iface 25 (.int .i64 1)] w fun e w' => e = .returned (.int .i64 1) ∧ Below w.heap.size w w' := by
  have hI := fun w => is_arg w
  replace hI := Lib.hid hI
  go_enter Tryd.func44, Tryd.ntmps44
  go_wp2_with (fail)
  refine wp_loop_rounds 1 ?_
  rw [rounds_succ]
  go_wp2_with (go_at_call 58; refine (hI.out _).mono ?_; rintro e w1 ⟨rfl, hw_⟩; have hw_ := hw_.symm; subst hw_)
  go_returns
  exact ⟨rfl, (Below.refl _ _).alloc (Nat.le_refl _) _⟩
/-- a list that begins ahead of the student's region is none -/
theorem asked_no (hi : Im w ip b L B o s) (q : Nat) (fr to_ here latest : Nat) (h : Bk w q 95 (dctV ip fr to_ here latest)) (hlt : here < L.beg 3 + 8) :
    Calls Tryd.prog 43 #[.pointer (some ⟨ip, 0, none⟩), .pointer (some ⟨q, 0, none⟩)] w fun e w' => e = .returned (.iface 25 (.int .i64 1)) ∧ ∃ n, w' = w.drewN n := by
  have hsp := span_any ip b L B o s 3 w hi
  rw [show L.from_ 3 = L.beg 3 from rfl, show L.to_ 3 = L.beg 4 from rfl] at hsp
  have m := Lay.mono hi.ok
  have b1 : L.beg 3 ≤ 143360 := by show L.b3 ≤ 143360; omega
  have i1 : (here : Int) < (L.beg 3 : Int) + 8 := by omega
  have hh := fun n => here16_any q fr to_ here latest (h.draws n)
  obtain ⟨f, hf⟩ : ∃ f, L.beg 3 = f := ⟨_, rfl⟩
  obtain ⟨u, hu⟩ : ∃ u, L.beg 4 = u := ⟨_, rfl⟩
  rw [hf, hu] at hsp
  rw [hf] at b1 i1
  clear m hf hu hi h hlt
  replace hsp := Lib.hid hsp
  replace hh := Lib.hid hh
  go_enter Tryd.func43, Tryd.ntmps43
  go_wp2_with (fail)
  refine hsp.out.mono ?_
  rintro e w1 ⟨rfl, n, hn⟩
  have hn := hn.symm
  subst hn
  go_wp2_with (fail)
  refine (hh.out n).mono ?_
  rintro e w1 ⟨rfl, hw_⟩
  have hw_ := hw_.symm
  subst hw_
  go_wp2_with (fail)
  go_returns
  exact ⟨rfl, n, rfl⟩
theorem keep_no (hi : Im w ip b L B o s) (q : Nat) (fr to_ here latest : Nat) (h : Bk w q 95 (dctV ip fr to_ here latest)) (hlt : here < L.beg 3 + 8) :
    Calls Tryd.prog 22 #[.pointer (some ⟨ip, 0, none⟩), .pointer (some ⟨q, 0, none⟩)] w fun e w' => e = .returned (.tuple #[.agg #[.string ⟨#[]⟩, .string ⟨#[]⟩, .string ⟨#[]⟩, .int .i64 0, .int .i64 0], .int .i64 1]) ∧ Below w.heap.size w w' := by
  have hC := Lib.hid (fun w => code_arg w)
  have hA := Lib.hid (fun (w' : World) (hb : Below w.heap.size w w') => asked_no (hi.bel hb) q fr to_ here latest (h.kept hb h.lt) hlt)
  clear hi h
  go_enter Tryd.func22, Tryd.ntmps22
  go_wp2_with (fail)
  have hb0 : Below w.heap.size w (w.alloc (.cells #[.string ⟨#[]⟩, .string ⟨#[]⟩, .string ⟨#[]⟩, .int .i64 0, .int .i64 0] 23)) := (Below.refl _ _).alloc (Nat.le_refl _) _
  have hx := Bk.fresh w 23 #[.string ⟨#[]⟩, .string ⟨#[]⟩, .string ⟨#[]⟩, .int .i64 0, .int .i64 0]
  obtain ⟨X, hX⟩ : ∃ X, w.alloc (.cells #[.string ⟨#[]⟩, .string ⟨#[]⟩, .string ⟨#[]⟩, .int .i64 0, .int .i64 0] 23) = X := ⟨_, rfl⟩
  rw [hX] at hb0 hx ⊢
  obtain ⟨y, hy⟩ : ∃ y, w.heap.size = y := ⟨_, rfl⟩
  have hyl : w.heap.size ≤ y := Nat.le_of_eq hy
  rw [hy] at hx ⊢
  refine (hA.out X hb0).mono ?_
  rintro e w1 ⟨rfl, n, hn⟩
  have hn := hn.symm
  subst hn
  go_wp2_with (fail)
  refine (hC.out _).mono ?_
  rintro e w2 ⟨rfl, hb2⟩
  have hx2 : Bk w2 y 23 #[.string ⟨#[]⟩, .string ⟨#[]⟩, .string ⟨#[]⟩, .int .i64 0, .int .i64 0] := (hx.draws n).kept hb2 (hx.draws n).lt
  have hB : Below y w w2 := by
    rw [← hy]
    have hq : Below w.heap.size X (X.drewN n) := ⟨rfl, rfl, rfl, Nat.le_refl _, fun _ _ => rfl⟩
    exact (hb0.trans hq).trans (hb2.mono hb0.size)
  clear hb2 hb0 hX
  have c0 := hx2.cell 0
  have c1 := hx2.cell 1
  have c2 := hx2.cell 2
  have c3 := hx2.cell 3
  have c4 := hx2.cell 4
  have f0 := hx2.free 0
  have f1 := hx2.free 1
  have f2 := hx2.free 2
  have f3 := hx2.free 3
  have f4 := hx2.free 4
  simp at c0 c1 c2 c3 c4
  replace hx2 := Lib.hid hx2
  go_wp2_with (fail)
  have hR3 := (((((hx2.out.put 0 (.string ⟨#[]⟩)).put 1 (.string ⟨#[]⟩)).put 2 (.string ⟨#[]⟩)).put 3 (.int .i64 0)).put 4 (.int .i64 0))
  have hB3 := (((((hB.setCell (p := ⟨y, 0, none⟩) (Nat.le_refl _) (.string ⟨#[]⟩)).setCell (p := ⟨y, 1, none⟩) (Nat.le_refl _) (.string ⟨#[]⟩)).setCell (p := ⟨y, 2, none⟩) (Nat.le_refl _) (.string ⟨#[]⟩)).setCell (p := ⟨y, 3, none⟩) (Nat.le_refl _) (.int .i64 0)).setCell (p := ⟨y, 4, none⟩) (Nat.le_refl _) (.int .i64 0))
  obtain ⟨w9, hw9⟩ : ∃ w9, (((((w2.setCell ⟨y, 0, none⟩ (.string ⟨#[]⟩)).setCell ⟨y, 1, none⟩ (.string ⟨#[]⟩)).setCell ⟨y, 2, none⟩ (.string ⟨#[]⟩)).setCell ⟨y, 3, none⟩ (.int .i64 0)).setCell ⟨y, 4, none⟩ (.int .i64 0)) = w9 := ⟨_, rfl⟩
  rw [hw9] at hR3 hB3 ⊢
  have r0 : w9.cell? ⟨y, 0, none⟩ = some (.string ⟨#[]⟩) := hR3.cell 0
  have r1 : w9.cell? ⟨y, 1, none⟩ = some (.string ⟨#[]⟩) := hR3.cell 1
  have r2 : w9.cell? ⟨y, 2, none⟩ = some (.string ⟨#[]⟩) := hR3.cell 2
  have r3 : w9.cell? ⟨y, 3, none⟩ = some (.int .i64 0) := hR3.cell 3
  have r4 : w9.cell? ⟨y, 4, none⟩ = some (.int .i64 0) := hR3.cell 4
  refine bodyPost_ret (by simp [results, Tryd.results22, go_sem, r0, r1, r2, r3, r4]; rfl) rfl ?_
  refine ⟨rfl, ?_⟩
  rw [hy]
  exact hB3
theorem lay_no (hi : Im w ip b L B o s) (q : Nat) (fr to_ here latest : Nat) (h : Bk w q 95 (dctV ip fr to_ here latest)) (hlt : here < L.beg 3 + 8) (S D R : ByteArray) (x y : Int) :
    Calls Tryd.prog 23 #[.pointer (some ⟨ip, 0, none⟩), .pointer (some ⟨q, 0, none⟩), .agg #[.string S, .string D, .string R, .int .i64 x, .int .i64 y]] w fun e w' => e = .returned (.int .i64 1) ∧ Below w.heap.size w w' := by
  have hC := Lib.hid (fun w => code_arg w)
  have hA := Lib.hid (fun (w' : World) (hb : Below w.heap.size w w') => asked_no (hi.bel hb) q fr to_ here latest (h.kept hb h.lt) hlt)
  clear hi h
  go_enter Tryd.func23, Tryd.ntmps23
  go_wp2_with (fail)
  refine (hA.out _ ((Below.refl _ _).alloc (Nat.le_refl _) _)).mono ?_
  rintro e w1 ⟨rfl, n, hn⟩
  have hb1 : Below w.heap.size w w1 := by
    rw [hn]
    exact ((Below.refl w.heap.size w).alloc (Nat.le_refl _) _).trans ⟨rfl, rfl, rfl, Nat.le_refl _, fun _ _ => rfl⟩
  clear hn
  go_wp2_with (fail)
  refine (hC.out _).mono ?_
  rintro e w2 ⟨rfl, hb2⟩
  go_wp2_with (fail)
  go_returns
  exact ⟨rfl, hb1.trans (hb2.mono hb1.size)⟩
end
set_option maxHeartbeats 1000000 in
theorem begun16 (d : Int) (w : World) : Calls Tryd.prog 19 #[LV (layOf16 d)] w fun e w' => ∃ ip b q, e = .returned (.tuple #[.pointer (some ⟨ip, 0, none⟩), .pointer (some ⟨q, 0, none⟩)]) ∧ Im w' ip b (layOf16 d) (List.replicate (layOf16 d).b6 0) false false ∧ Bk w' q 95 (dctV ip ((layOf16 d).beg 3 + 8) ((layOf16 d).beg 4) ((layOf16 d).beg 3 + 8) 0) ∧ w.heap.size ≤ ip ∧ w.heap.size ≤ b ∧ w.heap.size ≤ q ∧ Below w.heap.size w w' := by
  have hN := fun w1 => new16 d w1
  obtain ⟨L, hL⟩ : ∃ L, layOf16 d = L := ⟨_, rfl⟩
  simp only [hL] at hN
  rw [hL]
  clear hL
  replace hN := Lib.hid hN
  unfold LV layV
  go_enter Tryd.func19, Tryd.ntmps19
  go_wp2_with (fail)
  have hn := hN.out (w.alloc (.cells #[.int .i64 L.k, .int .i64 L.s, .int .i64 L.u, .int .i64 L.d, .int .i64 L.r] 49))
  unfold LV layV at hn
  refine hn.mono ?_
  rintro e w1 ⟨ip, b, rfl, hI, z1, z2, hb1⟩
  have hb0 : Below w.heap.size w (w.alloc (.cells #[.int .i64 L.k, .int .i64 L.s, .int .i64 L.u, .int .i64 L.d, .int .i64 L.r] 49)) := (Below.refl _ _).alloc (Nat.le_refl _) _
  have z1 := Nat.le_trans hb0.size z1
  have z2 := Nat.le_trans hb0.size z2
  have hb1 := hb0.trans (hb1.mono hb0.size)
  clear hn hb0
  replace hI := Lib.hid hI
  go_wp2_with (fail)
  refine (dnew_yes hI.out 3 (.inr rfl)).mono ?_
  rintro e w2 ⟨q, rfl, z3, hD, hb2⟩
  replace hD := Lib.hid hD
  go_wp2_with (fail)
  go_returns
  exact ⟨ip, b, q, rfl, hI.out.bel hb2, hD.out, z1, z2, Nat.le_trans hb1.size z3, hb1.trans (hb2.mono hb1.size)⟩
set_option maxHeartbeats 2000000 in
theorem walk_alien (d : Int) (S D R : ByteArray) (x y : Int) (w : World) (hM : Mark w) (hd : (Lit.int .i64 d).wf = true) (_ : S.size ≤ maxLen) (_ : D.size ≤ maxLen) (_ : R.size ≤ maxLen) (_ : -9223372036854775808 ≤ x ∧ x ≤ 9223372036854775807) (_ : -9223372036854775808 ≤ y ∧ y ≤ 9223372036854775807) :
    Calls Tryd.prog 6 #[.int .i64 d, .agg #[.string S, .string D, .string R, .int .i64 x, .int .i64 y]] w fun e w' => e = .returned (.bool true) ∧ Below w.heap.size w w' := by
  have hdI : inI d := by simpa [inI, Lit.wf, IntKind.min, IntKind.max, IntKind.signed, IntKind.bits] using hd
  have hlay := fun w1 => layout16_any d w1 hdI
  have hbeg := fun w1 => begun16 d w1
  have hok := layOf16_ok d
  obtain ⟨L, hL⟩ : ∃ L, layOf16 d = L := ⟨_, rfl⟩
  simp only [hL] at hlay hbeg hok
  clear hL hd hdI
  have m := Lay.mono hok
  have hlt : L.beg 1 + 8 < L.beg 3 + 8 := by show 0 + 8 < L.b3 + 8; omega
  replace hlay := Lib.hid hlay
  replace hbeg := Lib.hid hbeg
  replace hok := Lib.hid hok
  replace hlt := Lib.hid hlt
  clear m
  go_enter Tryd.func6, Tryd.ntmps6
  go_wp2_with (fail)
  have hb0 : Below w.heap.size w (w.alloc (.cells #[.string S, .string D, .string R, .int .i64 x, .int .i64 y] 23)) := (Below.refl _ _).alloc (Nat.le_refl _) _
  have hx := Bk.fresh w 23 #[.string S, .string D, .string R, .int .i64 x, .int .i64 y]
  obtain ⟨X, hX⟩ : ∃ X, w.alloc (.cells #[.string S, .string D, .string R, .int .i64 x, .int .i64 y] 23) = X := ⟨_, rfl⟩
  rw [hX] at hb0 hx ⊢
  obtain ⟨bx, hbx⟩ : ∃ bx, w.heap.size = bx := ⟨_, rfl⟩
  rw [hbx] at hx ⊢
  clear hX
  refine (shown_any X (hM.kept hb0 hM.1)).mono ?_
  rintro e w1 ⟨rfl, hb1⟩
  replace hx := hx.kept hb1 hx.lt
  have Hb1 := hb0.trans (hb1.mono hb0.size)
  go_wp2_with (fail)
  refine (hlay.out w1).mono ?_
  rintro e w2 ⟨rfl, hb2⟩
  replace hx := hx.kept hb2 hx.lt
  have Hb2 := Hb1.trans (hb2.mono Hb1.size)
  go_wp2_with (fail)
  refine (hbeg.out w2).mono ?_
  rintro e w3 ⟨ip, b, q, rfl, hI, hD, z1, z2, z3, hb3⟩
  replace hx := hx.kept hb3 hx.lt
  have Hb3 := Hb2.trans (hb3.mono Hb2.size)
  clear hb0 hb1 Hb1 hb2 Hb2 hb3 hD
  replace hI := Lib.hid hI
  replace hx := Lib.hid hx
  go_wp2_with (fail)
  refine (dnew_yes hI.out 1 (.inl rfl)).mono ?_
  rintro e w4 ⟨k, rfl, z4, hK, hb4⟩
  replace hI := Lib.hid (hI.out.bel hb4)
  replace hx := Lib.hid (hx.out.kept hb4 hx.out.lt)
  have Hb4 := Hb3.trans (hb4.mono Hb3.size)
  replace hK := Lib.hid hK
  clear hb4 Hb3
  go_wp2_with (fail)
  refine (keep_no hI.out k _ _ _ _ hK.out hlt.out).mono ?_
  rintro e w5 ⟨rfl, hb5⟩
  replace hI := Lib.hid (hI.out.bel hb5)
  replace hx := Lib.hid (hx.out.kept hb5 hx.out.lt)
  replace hK := Lib.hid (hK.out.kept hb5 hK.out.lt)
  have Hb5 := Hb4.trans (hb5.mono Hb4.size)
  clear hb5 Hb4
  have hp := hx.out.past (.cells #[.string ⟨#[]⟩, .string ⟨#[]⟩, .string ⟨#[]⟩, .int .i64 0, .int .i64 0] 23)
  have x0 := hp.cell 0
  have x1 := hp.cell 1
  have x2 := hp.cell 2
  have x3 := hp.cell 3
  have x4 := hp.cell 4
  simp at x0 x1 x2 x3 x4
  have hb6 : Below w5.heap.size w5 (w5.alloc (.cells #[.string ⟨#[]⟩, .string ⟨#[]⟩, .string ⟨#[]⟩, .int .i64 0, .int .i64 0] 23)) := (Below.refl _ _).alloc (Nat.le_refl _) _
  have hL := Lib.hid (lay_no (hI.out.bel hb6) k _ _ _ _ (hK.out.kept hb6 hK.out.lt) hlt.out S D R x y)
  have Hb6 := Hb5.trans (hb6.mono Hb5.size)
  clear hp hb6
  go_wp2_with (fail)
  refine hL.out.mono ?_
  rintro e w7 ⟨rfl, hb7⟩
  go_wp2_with (fail)
  go_returns
  exact ⟨rfl, Hb6.trans (hb7.mono Hb6.size)⟩
end Go.Proofs.YtpbloennjcjgoaaDoor
