import Derived.Test.YtbhgjjicmbbjaaaDoorTrXa
import Derived.Test.YtbhgjjicmbbjaaaDoorTrPb
import Derived.Test.YtbhgjjicmbbjaaaDoorTrQb
namespace Go.Proofs.YtbhgjjicmbbjaaaDoor
open Go.RowKit
set_option linter.unusedVariables false
set_option linter.unusedSimpArgs false
/-! ScriptBack -/
theorem tsP_len (xs : List Ts) : (tsP xs).length = min xs.length 32 := by unfold tsP; rw [List.length_map, List.length_take]; omega
theorem tsR_len (xs : List Ts) : (tsR xs).length = min xs.length 32 := by unfold tsR; rw [List.length_map, List.length_take]; omega
theorem tsP_ok (xs : List Ts) : (tsP xs).all puOk = true := by
  rw [List.all_eq_true]
  intro x hx
  obtain ⟨t, _, rfl⟩ := List.mem_map.1 hx
  exact tPu_ok t
theorem tsR_ok (xs : List Ts) : (tsR xs).all prOk = true := by
  rw [List.all_eq_true]
  intro x hx
  obtain ⟨t, _, rfl⟩ := List.mem_map.1 hx
  exact tPr_ok t
theorem line_pu_short {x : Pu} (h : puOk x = true) (hs : x.out.size ≤ 2000) (i : Nat) (hi : i ≤ 1000000) : (lineL i (puL x)).length ≤ 9000 := by
  have h1 := wordL_len x.fault
  have h2 := itoa_len (n := x.fuel) (puOk_I h).2.1
  have h3 := quote_size x.out
  have h4 := itoa_nat_len i hi
  unfold lineL puL
  simp only [List.length_append, List.length_cons, List.length_nil]
  omega
theorem line_pr_short {x : Pr} (h : prOk x = true) (hs : x.log.size ≤ 2000) (i : Nat) (hi : i ≤ 1000000) : (lineL i (prL x)).length ≤ 9000 := by
  have h1 := wordL_len x.fault
  have h2 := itoa_len (n := x.fuel) (prOk_I h).2.2.1
  have h3 := quote_size x.log
  have h4 := itoa_nat_len i hi
  have h5 : (ptL x).length ≤ 21 := by
    unfold ptL
    split
    · exact itoa_len (prOk_I h).1
    · decide
  unfold lineL prL
  simp only [List.length_append, List.length_cons, List.length_nil]
  omega
theorem linesL_len2 {X : Type} (bd : X → List UInt8) (M : Nat) : ∀ (l : List X) (i : Nat), i + l.length ≤ 1000000 → (∀ x ∈ l, ∀ i, i ≤ 1000000 → (lineL i (bd x)).length ≤ M) → (linesL bd i l).length ≤ l.length * M
  | [], _, _, _ => by simp [linesL]
  | x :: l, i, hi, h => by
    rw [List.length_cons] at hi
    have h1 := h x (by simp) i (by omega)
    have h2 := linesL_len2 bd M l (i + 1) (by omega) (fun y hy => h y (by simp [hy]))
    rw [linesL, List.length_append, List.length_cons, Nat.succ_mul]
    omega
theorem tsP_lines (xs : List Ts) : (linesL puL 1 (tsP xs)).length ≤ 300000 := by
  have h := linesL_len2 puL 9000 (tsP xs) 1 (by rw [tsP_len]; omega) (fun x hx i hi => by
    obtain ⟨t, _, rfl⟩ := List.mem_map.1 hx
    exact line_pu_short (tPu_ok t) (cutB_size t.text) i hi)
  have h2 := tsP_len xs
  have : (tsP xs).length * 9000 ≤ 32 * 9000 := Nat.mul_le_mul_right _ (by omega)
  omega
theorem tsR_lines (xs : List Ts) : (linesL prL 1 (tsR xs)).length ≤ 300000 := by
  have h := linesL_len2 prL 9000 (tsR xs) 1 (by rw [tsR_len]; omega) (fun x hx i hi => by
    obtain ⟨t, _, rfl⟩ := List.mem_map.1 hx
    exact line_pr_short (tPr_ok t) (cutB_size t.text) i hi)
  have h2 := tsR_len xs
  have : (tsR xs).length * 9000 ≤ 32 * 9000 := Nat.mul_le_mul_right _ (by omega)
  omega
/-- what stands while the two lists are looked at -/
structure Four (w0 : World) (A1 A2 A3 A4 : Option Addr) (P : List Pu) (R : List Pr) (W : World) : Prop where
  a : PuRow W A1 P
  b : PrRow W A2 R
  x : PuRow W A3 P
  y : PrRow W A4 R
  bl : Below w0.heap.size w0 W
theorem Four.draw {w0 W : World} {A1 A2 A3 A4 : Option Addr} {P : List Pu} {R : List Pr} (h : Four w0 A1 A2 A3 A4 P R W) : Four w0 A1 A2 A3 A4 P R W.drew := by
  have hb : Below W.heap.size W W.drew := (Below.refl _ _).drew
  exact ⟨h.a.bel hb, h.b.bel hb, h.x.bel hb, h.y.bel hb, h.bl.drew⟩
theorem Four.draws {w0 W : World} {A1 A2 A3 A4 : Option Addr} {P : List Pu} {R : List Pr} (h : Four w0 A1 A2 A3 A4 P R W) (n : Nat) : Four w0 A1 A2 A3 A4 P R (W.drewN n) := by
  have hb : Below W.heap.size W (W.drewN n) := ⟨rfl, rfl, rfl, Nat.le_refl _, fun _ _ => rfl⟩
  exact ⟨h.a.bel hb, h.b.bel hb, h.x.bel hb, h.y.bel hb, h.bl.trans (hb.mono h.bl.size)⟩
set_option maxRecDepth 100000 in
set_option maxHeartbeats 8000000 in
theorem walk_back (A : Option Addr) (n c : Nat) (w : World) (hM : Mk w) (ho : Tests17 w A n) : Calls Tryd.prog 9 #[.slice A n c] w fun e w' => e = .returned (.bool true) ∧ Below w.heap.size w w' := by
  obtain ⟨xs, hn, hr, hI⟩ := ts_open ho
  have hn4 := ho.1
  have hsh := Lib.hid (shown_any w hM)
  have q0 := Lib.hid (fun W (hb : Below w.heap.size w W) => tests_any A n c xs W hn (hr.bel hb) hI (by omega))
  have hPl : (tsP xs).length = min n 32 := by rw [tsP_len, hn]
  have hRl : (tsR xs).length = min n 32 := by rw [tsR_len, hn]
  have hPo := tsP_ok xs
  have hRo := tsR_ok xs
  have hPs := tsP_lines xs
  have hRs := tsR_lines xs
  obtain ⟨m, hm⟩ : ∃ m, min n 32 = m := ⟨_, rfl⟩
  have hm32 : m ≤ 32 := by omega
  simp only [hm] at q0 hPl hRl
  obtain ⟨P, hP⟩ : ∃ P, tsP xs = P := ⟨_, rfl⟩
  obtain ⟨R, hR⟩ : ∃ R, tsR xs = R := ⟨_, rfl⟩
  simp only [hP, hR] at q0 hPl hRl hPo hRo hPs hRs
  obtain ⟨S, hS⟩ : ∃ S : ByteArray, ⟨(linesL puL 1 P).toArray⟩ = S := ⟨_, rfl⟩
  obtain ⟨T, hT⟩ : ∃ S : ByteArray, ⟨(linesL prL 1 R).toArray⟩ = S := ⟨_, rfl⟩
  have hSl : S.data.toList = linesL puL 1 P := by rw [← hS]
  have hTl : T.data.toList = linesL prL 1 R := by rw [← hT]
  have hSz : S.size ≤ 300000 := by rw [list_size, hSl]; exact hPs
  have hTz : T.size ≤ 300000 := by rw [list_size, hTl]; exact hRs
  have q1 := Lib.hid (fun W (hb : Below w.heap.size w W) A1 c1 (h : PuRow W A1 P) => by
    have q := Public_any A1 m c1 P W (hM.bel hb) hPl h (fun x hx => puOk_I (List.all_eq_true.1 hPo x hx)) (by omega)
    have hw := writeT_ok (bd := puL) (by omega) hPo
    rw [hw.1, hw.2, hS] at q
    exact q)
  have q2 := Lib.hid (fun W (hb : Below w.heap.size w W) A1 c1 (h : PrRow W A1 R) => by
    have q := Private_any A1 m c1 R W (hM.bel hb) hRl h (fun x hx => prOk_I (List.all_eq_true.1 hRo x hx)) (by omega)
    have hw := writeT_ok (bd := prL) (by omega) hRo
    rw [hw.1, hw.2, hT] at q
    exact q)
  have q3 := Lib.hid (fun W (hb : Below w.heap.size w W) => by
    have q := ReadPublic_any3 S hSz W (hM.bel hb)
    rw [hSl, show readS puOk puL (linesL puL 1 P) = .got P from readN_lines kind_pu P 32 1 (by omega) hPo] at q
    exact (q.mono (R' := fun e w' => (∃ A c, e = .returned (.tuple #[.slice A m c, .int .i64 0, .int .i64 0]) ∧ PuRow w' A P) ∧ Below W.heap.size W w') (fun e w' h => by
      obtain ⟨⟨v, rfl, A, c, rfl, h2⟩, hb⟩ := h
      rw [hPl] at h2 ⊢
      exact ⟨⟨A, c, rfl, puRow_own h2 hPl⟩, hb⟩)))
  have q4 := Lib.hid (fun W (hb : Below w.heap.size w W) => by
    have q := ReadPrivate_any3 T hTz W (hM.bel hb)
    rw [hTl, show readS prOk prL (linesL prL 1 R) = .got R from readN_lines kind_pr R 32 1 (by omega) hRo] at q
    exact (q.mono (R' := fun e w' => (∃ A c, e = .returned (.tuple #[.slice A m c, .int .i64 0, .int .i64 0]) ∧ PrRow w' A R) ∧ Below W.heap.size W w') (fun e w' h => by
      obtain ⟨⟨v, rfl, A, c, rfl, h2⟩, hb⟩ := h
      rw [hRl] at h2 ⊢
      exact ⟨⟨A, c, rfl, prRow_own h2 hRl⟩, hb⟩)))
  have hcnt : S.data.toList.count 10 = m := by rw [hSl, linesL_count kind_pu.no10, hPl]
  have hcnt2 := Lib.hid hcnt
  have hmI : (m : Int) ≤ 32 := by omega
  replace hPl := Lib.hid hPl
  replace hRl := Lib.hid hRl
  clear hP hR hS hT hSl hTl hTz hPo hRo hPs hRs hm hr hI hM ho hn hcnt
  go_enter Tryd.func9, Tryd.ntmps9
  go_wp2_with (fail)
  refine hsh.out.mono ?_
  rintro e w1 ⟨rfl, hb⟩
  have hB := Lib.hid hb
  clear hb hsh
  go_wp2_with (fail)
  refine (q0.out w1 hB.out).mono ?_
  rintro e w2 ⟨⟨A1, c1, A2, c2, rfl, o1, o2⟩, hb⟩
  have r1 := puRow_own o1 hPl.out
  have r2 := prRow_own o2 hRl.out
  have hZ := Lib.hid (And.intro r1 (And.intro r2 (hB.out.trans (hb.mono hB.out.size))))
  clear hb q0 o1 o2 r1 r2
  go_wp2_with (fail)
  refine (q1.out w2 hZ.out.2.2 A1 c1 hZ.out.1).mono ?_
  rintro e w3 ⟨rfl, hb⟩
  replace hZ := Lib.hid (And.intro (hZ.out.1.bel hb) (And.intro (hZ.out.2.1.bel hb) (hZ.out.2.2.trans (hb.mono hZ.out.2.2.size))))
  clear hb q1
  go_wp2_with (fail)
  refine (q2.out w3 hZ.out.2.2 A2 c2 hZ.out.2.1).mono ?_
  rintro e w4 ⟨rfl, hb⟩
  replace hZ := Lib.hid (And.intro (hZ.out.1.bel hb) (And.intro (hZ.out.2.1.bel hb) (hZ.out.2.2.trans (hb.mono hZ.out.2.2.size))))
  clear hb q2
  go_wp2_with (fail)
  refine (q3.out w4 hZ.out.2.2).mono ?_
  rintro e w5 ⟨⟨A3, c3, rfl, r3⟩, hb⟩
  replace hZ := Lib.hid (And.intro r3 (And.intro (hZ.out.1.bel hb) (And.intro (hZ.out.2.1.bel hb) (hZ.out.2.2.trans (hb.mono hZ.out.2.2.size)))))
  clear hb q3 r3
  go_wp2_with (fail)
  refine (q4.out w5 hZ.out.2.2.2).mono ?_
  rintro e w6 ⟨⟨A4, c4, rfl, r4⟩, hb⟩
  replace hZ := Lib.hid (⟨hZ.out.2.1.bel hb, hZ.out.2.2.1.bel hb, hZ.out.1.bel hb, r4, hZ.out.2.2.2.trans (hb.mono hZ.out.2.2.2.size)⟩ : Four w A1 A2 A3 A4 P R w6)
  clear hb q4 r4
  go_wp2_with (fail)
  go_loop [16, 17] (fun x16 x17 => ∃ j a : Nat, x16 = .int .i64 j ∧ x17 = .int .i64 a ∧ a ≤ 300000 ∧ j ≤ a ∧ Hid (a ≤ S.size ∧ (S.data.toList.take a).count 10 = j)) (fun _ x17 => S.size - (intOf x17).toNat)
  case atStart => exact ⟨0, 0, rfl, rfl, by decide, Nat.zero_le _, Lib.hid ⟨Nat.zero_le _, rfl⟩⟩
  case round =>
    obtain ⟨j, a, rfl, rfl, ha0, hj0, hQ⟩ := hrel
    obtain ⟨haS, hcj⟩ := hQ.out
    by_cases has : a < S.size
    · have has' : (a : Int) < (S.size : Int) := by omega
      obtain ⟨ch, hch⟩ : ∃ ch, S[a] = ch := ⟨_, rfl⟩
      have hby := byte_at S a has
      rw [hch] at hby
      have htc := take_count hby
      have hidx : ∀ w, (Instr.index 9 (.string S) (.int .i64 (a : Int))).run Tryd.prog w = .ok (.int .u8 (ch.toNat : Int)) w := fun w => by
        rw [run_index_string w 9 S .i64 (a : Int) Tryd.underlying9, dif_pos ⟨by omega, by omega⟩]
        rw [← hch]
        rfl
      have hjm : (j : Int) ≤ 1000000 := by omega
      have ham : Hid (a + 1 ≤ 300000) := by show a + 1 ≤ 300000; omega
      have hjm2 : Hid (j + 1 ≤ a + 1) := by show j + 1 ≤ a + 1; omega
      by_cases hc : ch = 10
      · rw [if_pos hc] at htc
        rw [hc] at hidx
        have hQ2 := Lib.hid (⟨has, by rw [htc, hcj]⟩ : a + 1 ≤ S.size ∧ (S.data.toList.take (a + 1)).count 10 = j + 1)
        clear hQ haS hcj hby htc hch hc has
        go_wp2_with (fail)
        exact ⟨⟨j + 1, a + 1, rfl, rfl, ham.out, hjm2.out, hQ2⟩, by simp [intOf]; omega⟩
      · rw [if_neg hc] at htc
        have hQ2 := Lib.hid (⟨has, by rw [htc, hcj]; rfl⟩ : a + 1 ≤ S.size ∧ (S.data.toList.take (a + 1)).count 10 = j)
        have hcn : ((ch.toNat : Int) == 10) = false := by
          simp only [beq_eq_false_iff_ne, ne_eq]
          intro h
          exact hc (UInt8.toNat_inj.1 (by show ch.toNat = 10; omega))
        obtain ⟨z, hz⟩ : ∃ z, ch.toNat = z := ⟨_, rfl⟩
        rw [hz] at hidx hcn
        clear hQ haS hcj hby htc hch hc hz has
        go_wp2_with (fail)
        exact ⟨⟨j, a + 1, rfl, rfl, ham.out, by have := hjm2.out; omega, hQ2⟩, by simp [intOf]; omega⟩
    · have haE : a = S.size := by omega
      have hjE : j = m := by rw [← hcj, haE, List.take_of_length_le (by rw [data_size]; omega)]; exact hcnt2.out
      subst hjE
      have has' : ¬ (a : Int) < (S.size : Int) := by omega
      clear hQ hcj haE has
      go_wp2_with (fail)
      go_loopw [18] (fun x18 wr => ∃ k : Nat, x18 = .int .i64 k ∧ k ≤ j ∧ Hid (Four w A1 A2 A3 A4 P R wr)) (fun x18 _ => j - (intOf x18).toNat)
      case atStart => exact ⟨0, rfl, Nat.zero_le _, hZ⟩
      case round =>
        obtain ⟨k, rfl, hk0, hF⟩ := hrel
        by_cases hk : k < j
        · have hk' : (k : Int) < (j : Int) := by omega
          obtain ⟨x, hx⟩ : ∃ x, P[k]? = some x := ⟨_, List.getElem?_eq_getElem (by rw [hPl.out]; exact hk)⟩
          obtain ⟨y, hy⟩ : ∃ x, R[k]? = some x := ⟨_, List.getElem?_eq_getElem (by rw [hRl.out]; exact hk)⟩
          obtain ⟨b1, o1, rfl, l1, s0, s1, s2⟩ := hF.out.a k x hx
          obtain ⟨b2, o2, rfl, l2, t0, t1, t2, t3, t4⟩ := hF.out.b k y hy
          obtain ⟨b3, o3, rfl, l3, u0, u1, u2⟩ := hF.out.x k x hx
          obtain ⟨b4, o4, rfl, l4, v0, v1, v2, v3, v4⟩ := hF.out.y k y hy
          obtain ⟨X0, X1, X2⟩ := x
          obtain ⟨Y0, Y1, Y2, Y3, Y4⟩ := y
          simp only at s0 s1 s2 t0 t1 t2 t3 t4 u0 u1 u2 v0 v1 v2 v3 v4
          clear hx hy l1 l2 l3 l4 hZ
          go_wp2_with (fail)
          go_quiet (fail)
          go_wp2_with (fail)
          exact ⟨⟨k + 1, rfl, by omega, Lib.hid (hF.out.draws _)⟩, by simp [intOf]; omega⟩
        · have hk' : ¬ (k : Int) < (j : Int) := by omega
          clear hk hZ
          go_wp2_with (fail)
          go_returns
          exact ⟨rfl, hF.out.bl⟩
end Go.Proofs.YtbhgjjicmbbjaaaDoor
