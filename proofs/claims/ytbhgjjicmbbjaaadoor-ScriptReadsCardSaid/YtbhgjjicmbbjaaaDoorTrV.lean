import Derived.Test.YtbhgjjicmbbjaaaDoorTrU
namespace Go.Proofs.YtbhgjjicmbbjaaaDoor
open Go.RowKit
set_option linter.unusedVariables false
set_option linter.unusedSimpArgs false
/-! chapter 17, the document's: Private -/
structure By (w0 : World) (b : Nat) (t : TypeId) (vs : Array Value) (W : World) : Prop where
  bk : Bk W b t vs
  bl : Below w0.heap.size w0 W
theorem By.bel {w0 W W' : World} {b : Nat} {t : TypeId} {vs : Array Value} (h : By w0 b t vs W) (hb : Below W.heap.size W W') : By w0 b t vs W' := ⟨h.bk.kept hb h.bk.lt, h.bl.trans (hb.mono h.bl.size)⟩
theorem By.draw {w0 W : World} {b : Nat} {t : TypeId} {vs : Array Value} (h : By w0 b t vs W) : By w0 b t vs W.drew := ⟨h.bk.draw, h.bl.drew⟩
set_option maxRecDepth 100000 in
set_option maxHeartbeats 4000000 in
theorem RPrivate_any (A : Option Addr) (n c : Nat) (xs : List Pr) (w : World) (hn : xs.length = n) (hr : PrRow w A xs) (hI : ∀ x ∈ xs, prI x) (hcap : n ≤ 140737488355328) :
    Calls Tryd.prog 15 #[.slice A n c] w fun e w' => e = .returned (.tuple #[.string ⟨(writeT prOk prL xs).toArray⟩, .int .i64 (writeE prOk xs)]) ∧ Below w.heap.size w w' := by
  by_cases h32 : 32 < n
  · have e1 : writeT prOk prL xs = [] := by unfold writeT; rw [if_neg (by rw [hn]; omega)]
    have e2 : writeE prOk xs = 3 := by unfold writeE; rw [if_pos (by rw [hn]; omega)]
    rw [e1, e2]
    have h : (32 : Int) < (n : Int) := by omega
    clear hn hr hI e1 e2 h32
    go_enter Tryd.func15, Tryd.ntmps15
    go_wp2_with (fail)
    go_returns
    exact ⟨rfl, Below.refl _ _⟩
  · obtain ⟨T, hT⟩ : ∃ T : ByteArray, ⟨(writeT prOk prL xs).toArray⟩ = T := ⟨_, rfl⟩
    obtain ⟨E, hE⟩ : ∃ E, writeE prOk xs = E := ⟨_, rfl⟩
    rw [hT, hE]
    have h32' : ¬ (32 : Int) < (n : Int) := by omega
    have hend : xs.all prOk = true → E = 0 ∧ T.data.toList = linesL prL 1 xs := by
      intro h
      rw [← hE, ← hT]
      unfold writeE writeT
      rw [if_neg (by omega), if_pos h, if_pos ⟨by omega, h⟩]
      exact ⟨rfl, by simp⟩
    have hbad : ∀ x ∈ xs, prOk x = false → E = 1 ∧ T = ⟨#[]⟩ := by
      intro x hx h
      have ha : ¬ xs.all prOk = true := by
        intro h2
        have := List.all_eq_true.1 h2 x hx
        rw [h] at this
        cases this
      rw [← hE, ← hT]
      unfold writeE writeT
      rw [if_neg (by omega), if_neg ha, if_neg (fun h => ha h.2)]
      exact ⟨rfl, rfl⟩
    have hlen : ∀ k, k ≤ n → (linesL prL 1 (xs.take k)).length ≤ 64000000 := by
      intro k hk
      have h := lines_pr_len (xs.take k) 1 (fun x hx => hI x (List.mem_of_mem_take hx)) (by rw [List.length_take]; omega)
      rw [List.length_take] at h
      have : min k xs.length ≤ 32 := by omega
      have : min k xs.length * 2000000 ≤ 32 * 2000000 := Nat.mul_le_mul_right _ this
      omega
    replace hE := Lib.hid hE
    replace hT := Lib.hid hT
    replace hend := Lib.hid hend
    replace hbad := Lib.hid hbad
    replace hlen := Lib.hid hlen
    replace hr := Lib.hid hr
    replace hI := Lib.hid hI
    have hn3 : n ≤ 32 := by omega
    clear h32
    replace hn := Lib.hid hn
    go_enter Tryd.func15, Tryd.ntmps15
    go_wp2_with (fail)
    go_loopw [4, 5] (fun x4 x5 wr => ∃ (S : ByteArray) (k : Nat), x4 = .string S ∧ x5 = .int .i64 k ∧ k ≤ n ∧ Hid ((xs.take k).all prOk = true ∧ S.data.toList = linesL prL 1 (xs.take k) ∧ Below w.heap.size w wr)) (fun _ x5 _ => n - (intOf x5).toNat)
    case atStart => exact ⟨⟨#[]⟩, 0, rfl, rfl, Nat.zero_le _, Lib.hid ⟨rfl, rfl, Below.refl _ _⟩⟩
    case round =>
      obtain ⟨S, k, rfl, rfl, hk0, hQ⟩ := hrel
      by_cases hk : k < n
      · obtain ⟨hall, hS, hW⟩ := hQ.out
        have hk' : (k : Int) < (n : Int) := by omega
        have hk4 : (k : Int) + 1 ≤ 33 := by omega
        obtain ⟨x, hx⟩ : ∃ x, xs[k]? = some x := ⟨_, List.getElem?_eq_getElem (by rw [hn.out]; exact hk)⟩
        obtain ⟨b, off, rfl, hbl, c0, c1, c2, c3, c4⟩ := hr.out k x hx
        replace c0 := (hW.cell (p := ⟨b, off + k * 5, none⟩) hbl).trans c0
        replace c1 := (hW.cell (p := ⟨b, off + k * 5 + 1, none⟩) hbl).trans c1
        replace c2 := (hW.cell (p := ⟨b, off + k * 5 + 2, none⟩) hbl).trans c2
        replace c3 := (hW.cell (p := ⟨b, off + k * 5 + 3, none⟩) hbl).trans c3
        replace c4 := (hW.cell (p := ⟨b, off + k * 5 + 4, none⟩) hbl).trans c4
        have hxm : x ∈ xs := List.mem_of_getElem? hx
        have hIx := hI.out x hxm
        have htk : xs.take (k + 1) = xs.take k ++ [x] := by rw [List.take_add_one, hx]; rfl
        have hln : linesL prL 1 (xs.take (k + 1)) = linesL prL 1 (xs.take k) ++ lineL (k + 1) (prL x) := by
          rw [htk, linesL_push, List.length_take, Nat.min_eq_left (by rw [hn.out]; omega), Nat.add_comm 1 k]
        have hl1 := hlen.out k hk0
        rw [← hS, data_size] at hl1
        have hbd := hbad.out x hxm
        have hal : prOk x = true → (xs.take (k + 1)).all prOk = true := fun h => by rw [htk, List.all_append, hall]; simp [h]
        obtain ⟨p, sd, f, u, o⟩ := x
        simp only at c0 c1 c2 c3 c4
        obtain ⟨i0, i1, i2, i3⟩ := hIx
        simp only at i0 i1 i2 i3
        have hoki := prOk_iff (x := ⟨p, sd, f, u, o⟩)
        simp only at hoki
        obtain ⟨R, hR⟩ : ∃ R, rightP f u o = R := ⟨_, rfl⟩
        have hri := Lib.hid (fun W => rright_any f u o W)
        have hRi := rightP_iff (f := f) (fuel := u) (s := o)
        rw [hR] at hri hRi
        have hb1 := (Below.refl wr.heap.size wr).alloc (Nat.le_refl _) (.cells #[.int .i64 p, .bool sd, .int .i64 f, .int .i64 u, .string o] 34)
        have hf := Bk.fresh wr 34 #[.int .i64 p, .bool sd, .int .i64 f, .int .i64 u, .string o]
        obtain ⟨Y, hY⟩ : ∃ Y, wr.alloc (.cells #[.int .i64 p, .bool sd, .int .i64 f, .int .i64 u, .string o] 34) = Y := ⟨_, rfl⟩
        rw [hY] at hb1 hf
        have hZ := Lib.hid (⟨hf, hW.trans (hb1.mono hW.size)⟩ : By w wr.heap.size 34 #[.int .i64 p, .bool sd, .int .i64 f, .int .i64 u, .string o] Y)
        have k2 := hf.cell 2
        have k3 := hf.cell 3
        have k4 := hf.cell 4
        simp at k2 k3 k4
        rw [← hY] at k2 k3 k4
        replace hY := Lib.hid hY
        replace hall := Lib.hid hall
        replace hS := Lib.hid hS
        replace hbd := Lib.hid hbd
        replace hal := Lib.hid hal
        replace hln := Lib.hid hln
        replace hoki := Lib.hid hoki
        replace hRi := Lib.hid hRi
        clear hQ hW hxm hx htk hbl hb1 hf hR
        go_wp2_with (fail)
        rw [hY.out]
        refine (hri.out _).mono ?_
        rintro e w1_ ⟨rfl, hb⟩
        have hZ2 := hZ.out.bel hb
        replace hZ := Lib.hid hZ2
        clear hZ2 hb k2 k3 k4 c0 c1 c2 c3 c4 hri
        have k0 := hZ.out.bk.cell 0
        have k1 := hZ.out.bk.cell 1
        simp at k0 k1
        by_cases hok : prOk ⟨p, sd, f, u, o⟩ = true
        · have hq := hoki.out.1 hok
          have hR1 : R = true := hRi.out.2 hq.1
          subst hR1
          have hal2 := hal.out hok
          obtain ⟨⟨_, u0, u1, _⟩, p0, p1, p2⟩ := hq
          replace hok := Lib.hid hok
          have p0' : ¬ p < 0 := by omega
          have p1' : ¬ (100 : Int) < p := by omega
          have b1 := itoa_nat_len (k + 1) (by omega)
          rw [show ((k + 1 : Nat) : Int) = (k : Int) + 1 by omega] at b1
          have b2 := itoa_len i2
          have b3 := wordL_len f
          have b4 := quote_size o
          have b5 : (ptL ⟨p, sd, f, u, o⟩).length ≤ 21 := by
            unfold ptL
            split
            · exact itoa_len i0
            · simp
          have hd1 := Lib.hid (fun W => (rdigits_any ((k : Int) + 1) (by omega) (by omega) W).mono (R' := fun e w' => e = .returned (.string ⟨(Lib.itoa ((k : Int) + 1)).toArray⟩) ∧ Below W.heap.size W w') (fun e w' h => ⟨h.1, by rw [h.2]; exact Below.refl _ _⟩))
          have hd2 := Lib.hid (fun W => (rdigits_any u u0 u1 W).mono (R' := fun e w' => e = .returned (.string ⟨(Lib.itoa u).toArray⟩) ∧ Below W.heap.size W w') (fun e w' h => ⟨h.1, by rw [h.2]; exact Below.refl _ _⟩))
          have hd3 := Lib.hid (fun W => (rdigits_any p p0 (by omega) W).mono (R' := fun e w' => e = .returned (.string ⟨(Lib.itoa p).toArray⟩) ∧ Below W.heap.size W w') (fun e w' h => ⟨h.1, by rw [h.2]; exact Below.refl _ _⟩))
          have hwd := Lib.hid (fun W => rword_any f W)
          have hqu := Lib.hid (fun W => rquoted_any o i3 W)
          unfold wordB at hwd
          have hle : Lib.itoa ((k : Int) + 1) ++ [32] ++ wordL f ++ [32] ++ Lib.itoa u ++ [32] ++ ptL ⟨p, sd, f, u, o⟩ ++ [32] ++ quoteL o.data.toList ++ [10] = lineL (k + 1) (prL ⟨p, sd, f, u, o⟩) := by
            unfold lineL prL
            rw [show ((k + 1 : Nat) : Int) = (k : Int) + 1 by omega]
            simp
          have hpt : sd = false → (⟨(ptL ⟨p, sd, f, u, o⟩).toArray⟩ : ByteArray) = ⟨#[45]⟩ := fun h => by subst h; rfl
          have hpt2 : sd = true → (⟨(ptL ⟨p, sd, f, u, o⟩).toArray⟩ : ByteArray) = ⟨(Lib.itoa p).toArray⟩ := fun h => by subst h; rfl
          obtain ⟨d1, e1⟩ : ∃ d, Lib.itoa ((k : Int) + 1) = d := ⟨_, rfl⟩
          obtain ⟨d2, e2⟩ : ∃ d, Lib.itoa u = d := ⟨_, rfl⟩
          obtain ⟨w9, e3⟩ : ∃ d, wordL f = d := ⟨_, rfl⟩
          obtain ⟨q9, e4⟩ : ∃ d, quoteL o.data.toList = d := ⟨_, rfl⟩
          obtain ⟨p9, e6⟩ : ∃ d, ptL ⟨p, sd, f, u, o⟩ = d := ⟨_, rfl⟩
          obtain ⟨a0, e5⟩ : ∃ d, S.data.toList = d := ⟨_, rfl⟩
          have hsz : S.size = a0.length := by rw [← e5, data_size]
          simp only [e1, e2, e3, e4, e6] at b1 b2 b3 b4 b5 hd1 hd2 hwd hqu hle hpt hpt2
          have c1 := cat_run S ⟨(d1).toArray⟩ (by simp only [ba_size, hsz, List.length_append, List.length_singleton, show (⟨#[32]⟩ : ByteArray).size = 1 from rfl, show (⟨#[10]⟩ : ByteArray).size = 1 from rfl]; omega)
          have c2 := cat_run ⟨(a0 ++ d1).toArray⟩ ⟨#[32]⟩ (by simp only [ba_size, hsz, List.length_append, List.length_singleton, show (⟨#[32]⟩ : ByteArray).size = 1 from rfl, show (⟨#[10]⟩ : ByteArray).size = 1 from rfl]; omega)
          have c3 := cat_run ⟨(a0 ++ d1 ++ [32]).toArray⟩ ⟨(w9).toArray⟩ (by simp only [ba_size, hsz, List.length_append, List.length_singleton, show (⟨#[32]⟩ : ByteArray).size = 1 from rfl, show (⟨#[10]⟩ : ByteArray).size = 1 from rfl]; omega)
          have c4 := cat_run ⟨(a0 ++ d1 ++ [32] ++ w9).toArray⟩ ⟨#[32]⟩ (by simp only [ba_size, hsz, List.length_append, List.length_singleton, show (⟨#[32]⟩ : ByteArray).size = 1 from rfl, show (⟨#[10]⟩ : ByteArray).size = 1 from rfl]; omega)
          have c5 := cat_run ⟨(a0 ++ d1 ++ [32] ++ w9 ++ [32]).toArray⟩ ⟨(d2).toArray⟩ (by simp only [ba_size, hsz, List.length_append, List.length_singleton, show (⟨#[32]⟩ : ByteArray).size = 1 from rfl, show (⟨#[10]⟩ : ByteArray).size = 1 from rfl]; omega)
          have c6 := cat_run ⟨(a0 ++ d1 ++ [32] ++ w9 ++ [32] ++ d2).toArray⟩ ⟨#[32]⟩ (by simp only [ba_size, hsz, List.length_append, List.length_singleton, show (⟨#[32]⟩ : ByteArray).size = 1 from rfl, show (⟨#[10]⟩ : ByteArray).size = 1 from rfl]; omega)
          have c7 := cat_run ⟨(a0 ++ d1 ++ [32] ++ w9 ++ [32] ++ d2 ++ [32]).toArray⟩ ⟨(p9).toArray⟩ (by simp only [ba_size, hsz, List.length_append, List.length_singleton, show (⟨#[32]⟩ : ByteArray).size = 1 from rfl, show (⟨#[10]⟩ : ByteArray).size = 1 from rfl]; omega)
          have c8 := cat_run ⟨(a0 ++ d1 ++ [32] ++ w9 ++ [32] ++ d2 ++ [32] ++ p9).toArray⟩ ⟨#[32]⟩ (by simp only [ba_size, hsz, List.length_append, List.length_singleton, show (⟨#[32]⟩ : ByteArray).size = 1 from rfl, show (⟨#[10]⟩ : ByteArray).size = 1 from rfl]; omega)
          have c9 := cat_run ⟨(a0 ++ d1 ++ [32] ++ w9 ++ [32] ++ d2 ++ [32] ++ p9 ++ [32]).toArray⟩ ⟨(q9).toArray⟩ (by simp only [ba_size, hsz, List.length_append, List.length_singleton, show (⟨#[32]⟩ : ByteArray).size = 1 from rfl, show (⟨#[10]⟩ : ByteArray).size = 1 from rfl]; omega)
          have c10 := cat_run ⟨(a0 ++ d1 ++ [32] ++ w9 ++ [32] ++ d2 ++ [32] ++ p9 ++ [32] ++ q9).toArray⟩ ⟨#[10]⟩ (by simp only [ba_size, hsz, List.length_append, List.length_singleton, show (⟨#[32]⟩ : ByteArray).size = 1 from rfl, show (⟨#[10]⟩ : ByteArray).size = 1 from rfl]; omega)
          simp only [ba_list, e5, show (⟨#[32]⟩ : ByteArray).data.toList = [32] from rfl, show (⟨#[10]⟩ : ByteArray).data.toList = [10] from rfl] at c1 c2 c3 c4 c5 c6 c7 c8 c9 c10
          obtain ⟨T1, t1⟩ : ∃ T : ByteArray, ⟨(a0 ++ d1).toArray⟩ = T := ⟨_, rfl⟩
          obtain ⟨T2, t2⟩ : ∃ T : ByteArray, ⟨(a0 ++ d1 ++ [32]).toArray⟩ = T := ⟨_, rfl⟩
          obtain ⟨T3, t3⟩ : ∃ T : ByteArray, ⟨(a0 ++ d1 ++ [32] ++ w9).toArray⟩ = T := ⟨_, rfl⟩
          obtain ⟨T4, t4⟩ : ∃ T : ByteArray, ⟨(a0 ++ d1 ++ [32] ++ w9 ++ [32]).toArray⟩ = T := ⟨_, rfl⟩
          obtain ⟨T5, t5⟩ : ∃ T : ByteArray, ⟨(a0 ++ d1 ++ [32] ++ w9 ++ [32] ++ d2).toArray⟩ = T := ⟨_, rfl⟩
          obtain ⟨T6, t6⟩ : ∃ T : ByteArray, ⟨(a0 ++ d1 ++ [32] ++ w9 ++ [32] ++ d2 ++ [32]).toArray⟩ = T := ⟨_, rfl⟩
          obtain ⟨T7, t7⟩ : ∃ T : ByteArray, ⟨(a0 ++ d1 ++ [32] ++ w9 ++ [32] ++ d2 ++ [32] ++ p9).toArray⟩ = T := ⟨_, rfl⟩
          obtain ⟨T8, t8⟩ : ∃ T : ByteArray, ⟨(a0 ++ d1 ++ [32] ++ w9 ++ [32] ++ d2 ++ [32] ++ p9 ++ [32]).toArray⟩ = T := ⟨_, rfl⟩
          obtain ⟨T9, t9⟩ : ∃ T : ByteArray, ⟨(a0 ++ d1 ++ [32] ++ w9 ++ [32] ++ d2 ++ [32] ++ p9 ++ [32] ++ q9).toArray⟩ = T := ⟨_, rfl⟩
          obtain ⟨T10, t10⟩ : ∃ T : ByteArray, ⟨(a0 ++ d1 ++ [32] ++ w9 ++ [32] ++ d2 ++ [32] ++ p9 ++ [32] ++ q9 ++ [10]).toArray⟩ = T := ⟨_, rfl⟩
          obtain ⟨D1, vD1⟩ : ∃ T : ByteArray, ⟨(d1).toArray⟩ = T := ⟨_, rfl⟩
          obtain ⟨W9, vW9⟩ : ∃ T : ByteArray, ⟨(w9).toArray⟩ = T := ⟨_, rfl⟩
          obtain ⟨D2, vD2⟩ : ∃ T : ByteArray, ⟨(d2).toArray⟩ = T := ⟨_, rfl⟩
          obtain ⟨Q9, vQ9⟩ : ∃ T : ByteArray, ⟨(q9).toArray⟩ = T := ⟨_, rfl⟩
          obtain ⟨P9, vP9⟩ : ∃ T : ByteArray, ⟨(p9).toArray⟩ = T := ⟨_, rfl⟩
          have hT8 : Hid (T10.data.toList = linesL prL 1 (xs.take (k + 1))) := by
            show T10.data.toList = _
            rw [hln.out, ← hS.out, e5, ← t10, ← hle]
            simp
          simp only [t1, t2, t3, t4, t5, t6, t7, t8, t9, t10, vD1, vW9, vD2, vQ9, vP9] at c1 c2 c3 c4 c5 c6 c7 c8 c9 c10 hd1 hd2 hwd hqu hpt hpt2
          replace hal2 := Lib.hid hal2
          clear t1 t2 t3 t4 t5 t6 t7 t8 t9 t10 vD1 vW9 vD2 vQ9 vP9 e1 e2 e3 e4 e5 e6 hsz hle b1 b2 b3 b4 b5 hl1 u0 u1 i0 i1 i2 i3
          have hwk : IntKind.i64.wrap ((k : Int) + 1) = (k : Int) + 1 := by rw [IntKind.wrap_i64]; omega
          cases sd
          · obtain rfl := hpt rfl
            have p2' : (p != 0) = false := by
              rcases p2 with h | h
              · cases h
              · simpa using h
            clear hpt hpt2 p2
            have k2 := hZ.out.bk.cell 2
            have k3 := hZ.out.bk.cell 3
            have k4 := hZ.out.bk.cell 4
            simp at k2 k3 k4
            go_upto_region 14 with (fail)
            go_region_held3 (fun w' => w'.cell? ⟨wr.heap.size, 2, none⟩ = some (.int .i64 f) ∧ w'.cell? ⟨wr.heap.size, 3, none⟩ = some (.int .i64 u) ∧ w'.cell? ⟨wr.heap.size, 4, none⟩ = some (.string o)) (first | (simp [go_sem, *]; done) | go_keep) (first
              | (go_at_call 29; (with_reducible refine Calls.mono (hd1.out _) ?_); rintro e w2_ ⟨rfl, hb⟩; have hZ2 := By.bel (by first | exact hZ.out | exact hZ.out.draw) hb; replace hZ := Lib.hid hZ2; clear hZ2 hb; have kS : w2_.cell? ⟨wr.heap.size, 2, none⟩ = some (.int .i64 f) ∧ w2_.cell? ⟨wr.heap.size, 3, none⟩ = some (.int .i64 u) ∧ w2_.cell? ⟨wr.heap.size, 4, none⟩ = some (.string o) := ⟨hZ.out.bk.cell 2, hZ.out.bk.cell 3, hZ.out.bk.cell 4⟩)
              | (go_at_call 29; (with_reducible refine Calls.mono (hd2.out _) ?_); rintro e w2_ ⟨rfl, hb⟩; have hZ2 := By.bel (by first | exact hZ.out | exact hZ.out.draw) hb; replace hZ := Lib.hid hZ2; clear hZ2 hb; have kS : w2_.cell? ⟨wr.heap.size, 2, none⟩ = some (.int .i64 f) ∧ w2_.cell? ⟨wr.heap.size, 3, none⟩ = some (.int .i64 u) ∧ w2_.cell? ⟨wr.heap.size, 4, none⟩ = some (.string o) := ⟨hZ.out.bk.cell 2, hZ.out.bk.cell 3, hZ.out.bk.cell 4⟩)
              | (go_at_call 19; (with_reducible refine Calls.mono (hwd.out _) ?_); rintro e w2_ ⟨rfl, hb⟩; have hZ2 := By.bel (by first | exact hZ.out | exact hZ.out.draw) hb; replace hZ := Lib.hid hZ2; clear hZ2 hb; have kS : w2_.cell? ⟨wr.heap.size, 2, none⟩ = some (.int .i64 f) ∧ w2_.cell? ⟨wr.heap.size, 3, none⟩ = some (.int .i64 u) ∧ w2_.cell? ⟨wr.heap.size, 4, none⟩ = some (.string o) := ⟨hZ.out.bk.cell 2, hZ.out.bk.cell 3, hZ.out.bk.cell 4⟩)
              | (go_at_call 30; (with_reducible refine Calls.mono (hqu.out _) ?_); rintro e w2_ ⟨rfl, hb⟩; have hZ2 := By.bel (by first | exact hZ.out | exact hZ.out.draw) hb; replace hZ := Lib.hid hZ2; clear hZ2 hb; have kS : w2_.cell? ⟨wr.heap.size, 2, none⟩ = some (.int .i64 f) ∧ w2_.cell? ⟨wr.heap.size, 3, none⟩ = some (.int .i64 u) ∧ w2_.cell? ⟨wr.heap.size, 4, none⟩ = some (.string o) := ⟨hZ.out.bk.cell 2, hZ.out.bk.cell 3, hZ.out.bk.cell 4⟩))
            go_wp2_with (fail)
            exact ⟨⟨T10, k + 1, rfl, rfl, by omega, Lib.hid ⟨hal2.out, hT8.out, hZ.out.bl⟩⟩, by simp [intOf]; omega⟩
          · obtain rfl := hpt2 rfl
            clear hpt hpt2 p2
            go_wp2_with (fail)
            refine (hd3.out _).mono ?_
            rintro e w2 ⟨rfl, hb⟩
            have hZ2 := hZ.out.bel hb
            replace hZ := Lib.hid hZ2
            clear hZ2 hb k0 k1
            have k2 := hZ.out.bk.cell 2
            have k3 := hZ.out.bk.cell 3
            have k4 := hZ.out.bk.cell 4
            simp at k2 k3 k4
            go_upto_region 14 with (fail)
            go_region_held3 (fun w' => w'.cell? ⟨wr.heap.size, 2, none⟩ = some (.int .i64 f) ∧ w'.cell? ⟨wr.heap.size, 3, none⟩ = some (.int .i64 u) ∧ w'.cell? ⟨wr.heap.size, 4, none⟩ = some (.string o)) (first | (simp [go_sem, *]; done) | go_keep) (first
              | (go_at_call 29; (with_reducible refine Calls.mono (hd1.out _) ?_); rintro e w2_ ⟨rfl, hb⟩; have hZ2 := By.bel (by first | exact hZ.out | exact hZ.out.draw) hb; replace hZ := Lib.hid hZ2; clear hZ2 hb; have kS : w2_.cell? ⟨wr.heap.size, 2, none⟩ = some (.int .i64 f) ∧ w2_.cell? ⟨wr.heap.size, 3, none⟩ = some (.int .i64 u) ∧ w2_.cell? ⟨wr.heap.size, 4, none⟩ = some (.string o) := ⟨hZ.out.bk.cell 2, hZ.out.bk.cell 3, hZ.out.bk.cell 4⟩)
              | (go_at_call 29; (with_reducible refine Calls.mono (hd2.out _) ?_); rintro e w2_ ⟨rfl, hb⟩; have hZ2 := By.bel (by first | exact hZ.out | exact hZ.out.draw) hb; replace hZ := Lib.hid hZ2; clear hZ2 hb; have kS : w2_.cell? ⟨wr.heap.size, 2, none⟩ = some (.int .i64 f) ∧ w2_.cell? ⟨wr.heap.size, 3, none⟩ = some (.int .i64 u) ∧ w2_.cell? ⟨wr.heap.size, 4, none⟩ = some (.string o) := ⟨hZ.out.bk.cell 2, hZ.out.bk.cell 3, hZ.out.bk.cell 4⟩)
              | (go_at_call 19; (with_reducible refine Calls.mono (hwd.out _) ?_); rintro e w2_ ⟨rfl, hb⟩; have hZ2 := By.bel (by first | exact hZ.out | exact hZ.out.draw) hb; replace hZ := Lib.hid hZ2; clear hZ2 hb; have kS : w2_.cell? ⟨wr.heap.size, 2, none⟩ = some (.int .i64 f) ∧ w2_.cell? ⟨wr.heap.size, 3, none⟩ = some (.int .i64 u) ∧ w2_.cell? ⟨wr.heap.size, 4, none⟩ = some (.string o) := ⟨hZ.out.bk.cell 2, hZ.out.bk.cell 3, hZ.out.bk.cell 4⟩)
              | (go_at_call 30; (with_reducible refine Calls.mono (hqu.out _) ?_); rintro e w2_ ⟨rfl, hb⟩; have hZ2 := By.bel (by first | exact hZ.out | exact hZ.out.draw) hb; replace hZ := Lib.hid hZ2; clear hZ2 hb; have kS : w2_.cell? ⟨wr.heap.size, 2, none⟩ = some (.int .i64 f) ∧ w2_.cell? ⟨wr.heap.size, 3, none⟩ = some (.int .i64 u) ∧ w2_.cell? ⟨wr.heap.size, 4, none⟩ = some (.string o) := ⟨hZ.out.bk.cell 2, hZ.out.bk.cell 3, hZ.out.bk.cell 4⟩))
            go_wp2_with (fail)
            exact ⟨⟨T10, k + 1, rfl, rfl, by omega, Lib.hid ⟨hal2.out, hT8.out, hZ.out.bl⟩⟩, by simp [intOf]; omega⟩
        · have hno : prOk ⟨p, sd, f, u, o⟩ = false := by simpa using hok
          obtain ⟨rfl, rfl⟩ := hbd.out hno
          have hcase : R = false ∨ (R = true ∧ p < 0) ∨ (R = true ∧ ¬ p < 0 ∧ (100 : Int) < p) ∨ (R = true ∧ ¬ p < 0 ∧ ¬ (100 : Int) < p ∧ sd = false ∧ (p != 0) = true) := by
            cases hRc : R
            · exact .inl rfl
            · right
              by_cases q1 : p < 0
              · exact .inl ⟨rfl, q1⟩
              · by_cases q2 : (100 : Int) < p
                · exact .inr (.inl ⟨rfl, q1, q2⟩)
                · refine .inr (.inr ⟨rfl, q1, q2, ?_⟩)
                  have h1 := hRi.out.1 hRc
                  have h2 : ¬ (sd = true ∨ p = 0) := fun h => hok (hoki.out.2 ⟨h1, by omega, by omega, h⟩)
                  exact ⟨by cases sd <;> simp_all, by simp only [bne_iff_ne, ne_eq]; exact fun h => h2 (.inr h)⟩
          clear hok hno hl1 i0 i1 i2 i3
          rcases hcase with rfl | ⟨rfl, q1⟩ | ⟨rfl, q1, q2⟩ | ⟨rfl, q1, q2, rfl, q4⟩
          all_goals
            go_wp2_with (fail)
            go_returns
            exact ⟨rfl, hZ.out.bl⟩
      · have hk' : ¬ (k : Int) < (n : Int) := by omega
        obtain rfl : k = n := by omega
        obtain ⟨hall, hS, hW⟩ := hQ.out
        rw [List.take_of_length_le (by rw [hn.out]; exact Nat.le_refl _)] at hall hS
        obtain ⟨rfl, hT0⟩ := hend.out hall
        have hST : S = T := ba_ext (by rw [hS, hT0])
        subst hST
        replace hW := Lib.hid hW
        clear hall hS hQ hT0
        go_wp2_with (fail)
        go_returns
        exact ⟨rfl, hW.out⟩
end Go.Proofs.YtbhgjjicmbbjaaaDoor
