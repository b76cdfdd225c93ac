import Derived.Test.YtbhgjjicmbbjaaaDoorTrT
namespace Go.Proofs.YtbhgjjicmbbjaaaDoor
open Go.RowKit
set_option linter.unusedVariables false
set_option linter.unusedSimpArgs false
/-! chapter 17, the document's: Public -/
theorem below_eq {B : Nat} {a b c : World} (h : Below B a b) (e : c = b) : Below B a c := by rw [e]; exact h
set_option maxRecDepth 100000 in
set_option maxHeartbeats 4000000 in
theorem RPublic_any (A : Option Addr) (n c : Nat) (xs : List Pu) (w : World) (hn : xs.length = n) (hr : PuRow w A xs) (hI : ∀ x ∈ xs, puI x) (hcap : n ≤ 140737488355328) :
    Calls Tryd.prog 13 #[.slice A n c] w fun e w' => e = .returned (.tuple #[.string ⟨(writeT puOk puL xs).toArray⟩, .int .i64 (writeE puOk xs)]) ∧ Below w.heap.size w w' := by
  by_cases h32 : 32 < n
  · have e1 : writeT puOk puL xs = [] := by unfold writeT; rw [if_neg (by rw [hn]; omega)]
    have e2 : writeE puOk xs = 3 := by unfold writeE; rw [if_pos (by rw [hn]; omega)]
    rw [e1, e2]
    have h : (32 : Int) < (n : Int) := by omega
    clear hn hr hI e1 e2 h32
    go_enter Tryd.func13, Tryd.ntmps13
    go_wp2_with (fail)
    go_returns
    exact ⟨rfl, Below.refl _ _⟩
  · obtain ⟨T, hT⟩ : ∃ T : ByteArray, ⟨(writeT puOk puL xs).toArray⟩ = T := ⟨_, rfl⟩
    obtain ⟨E, hE⟩ : ∃ E, writeE puOk xs = E := ⟨_, rfl⟩
    rw [hT, hE]
    have h32' : ¬ (32 : Int) < (n : Int) := by omega
    have hend : xs.all puOk = true → E = 0 ∧ T.data.toList = linesL puL 1 xs := by
      intro h
      rw [← hE, ← hT]
      unfold writeE writeT
      rw [if_neg (by omega), if_pos h, if_pos ⟨by omega, h⟩]
      exact ⟨rfl, by simp⟩
    have hbad : ∀ x ∈ xs, puOk x = false → E = 1 ∧ T = ⟨#[]⟩ := by
      intro x hx h
      have ha : ¬ xs.all puOk = true := by
        intro h2
        have := List.all_eq_true.1 h2 x hx
        rw [h] at this
        cases this
      rw [← hE, ← hT]
      unfold writeE writeT
      rw [if_neg (by omega), if_neg ha, if_neg (fun h => ha h.2)]
      exact ⟨rfl, rfl⟩
    have hlen : ∀ k, k ≤ n → (linesL puL 1 (xs.take k)).length ≤ 64000000 := by
      intro k hk
      have h := lines_pu_len (xs.take k) 1 (fun x hx => hI x (List.mem_of_mem_take hx)) (by rw [List.length_take]; omega)
      rw [List.length_take] at h
      have : min k xs.length ≤ 32 := by omega
      have : min k xs.length * 2000000 ≤ 32 * 2000000 := Nat.mul_le_mul_right _ this
      omega
    replace hE := Lib.hid hE
    replace hT := Lib.hid hT
    replace hend := Lib.hid hend
    replace hbad := Lib.hid hbad
    replace hlen := Lib.hid hlen
    replace hr := Lib.hid hr
    replace hI := Lib.hid hI
    have hn3 : n ≤ 32 := by omega
    clear h32
    replace hn := Lib.hid hn
    go_enter Tryd.func13, Tryd.ntmps13
    go_wp2_with (fail)
    go_loopw [4, 5] (fun x4 x5 wr => ∃ (S : ByteArray) (k : Nat), x4 = .string S ∧ x5 = .int .i64 k ∧ k ≤ n ∧ Hid ((xs.take k).all puOk = true ∧ S.data.toList = linesL puL 1 (xs.take k) ∧ Below w.heap.size w wr)) (fun _ x5 _ => n - (intOf x5).toNat)
    case atStart => exact ⟨⟨#[]⟩, 0, rfl, rfl, Nat.zero_le _, Lib.hid ⟨rfl, rfl, Below.refl _ _⟩⟩
    case round =>
      obtain ⟨S, k, rfl, rfl, hk0, hQ⟩ := hrel
      by_cases hk : k < n
      · obtain ⟨hall, hS, hW⟩ := hQ.out
        have hk' : (k : Int) < (n : Int) := by omega
        have hk4 : (k : Int) + 1 ≤ 33 := by omega
        obtain ⟨x, hx⟩ : ∃ x, xs[k]? = some x := ⟨_, List.getElem?_eq_getElem (by rw [hn.out]; exact hk)⟩
        obtain ⟨b, off, rfl, hbl, c0, c1, c2⟩ := hr.out k x hx
        have hxm : x ∈ xs := List.mem_of_getElem? hx
        have hIx := hI.out x hxm
        have htk : xs.take (k + 1) = xs.take k ++ [x] := by rw [List.take_add_one, hx]; rfl
        have hln : linesL puL 1 (xs.take (k + 1)) = linesL puL 1 (xs.take k) ++ lineL (k + 1) (puL x) := by
          rw [htk, linesL_push, List.length_take, Nat.min_eq_left (by rw [hn.out]; omega), Nat.add_comm 1 k]
        have hl1 := hlen.out k hk0
        rw [← hS, data_size] at hl1
        have hbd := hbad.out x hxm
        have hal : puOk x = true → (xs.take (k + 1)).all puOk = true := fun h => by rw [htk, List.all_append, hall]; simp [h]
        obtain ⟨o, f, u⟩ := x
        simp only at c0 c1 c2
        obtain ⟨i1, i2, i3⟩ := hIx
        simp only at i1 i2 i3
        have hcell := Lib.hid (fun W (h : Below w.heap.size w W) => (⟨(h.cell (p := ⟨b, off + k * 3, none⟩) hbl).trans c0, (h.cell (p := ⟨b, off + k * 3 + 1, none⟩) hbl).trans c1, (h.cell (p := ⟨b, off + k * 3 + 2, none⟩) hbl).trans c2⟩ : W.cell? ⟨b, off + k * 3, none⟩ = some (.string o) ∧ W.cell? ⟨b, off + k * 3 + 1, none⟩ = some (.int .i64 f) ∧ W.cell? ⟨b, off + k * 3 + 2, none⟩ = some (.int .i64 u)))
        clear c0 c1 c2
        obtain ⟨c0, c1, c2⟩ := hcell.out wr hW
        obtain ⟨OK, hOK⟩ : ∃ OK, puOk ⟨o, f, u⟩ = OK := ⟨_, rfl⟩
        have hri := Lib.hid (fun W => rright_any f u o W)
        rw [show rightP f u o = OK from hOK] at hri
        rw [hOK] at hbd hal
        have hZ := Lib.hid hW
        replace hall := Lib.hid hall
        replace hS := Lib.hid hS
        replace hbd := Lib.hid hbd
        replace hal := Lib.hid hal
        replace hln := Lib.hid hln
        have hokf : Hid (OK = true → 0 ≤ u ∧ u ≤ 1000000) := fun h => by have := rightP_iff.1 (show rightP f u o = true from hOK.trans h); omega
        clear hQ hW hxm hx htk hOK hbl
        go_upto_region 7 with (fail)
        go_region_held3 (fun w' => w'.cell? ⟨b, off + k * 3, none⟩ = some (.string o) ∧ w'.cell? ⟨b, off + k * 3 + 1, none⟩ = some (.int .i64 f) ∧ w'.cell? ⟨b, off + k * 3 + 2, none⟩ = some (.int .i64 u)) (first | (simp [go_sem, *]; done) | go_keep) (
          (go_at_call 28; (with_reducible refine Calls.mono (hri.out _) ?_); rintro e w1_ ⟨rfl, hb⟩; have hZ2 := (Below.trans (by first | exact hZ.out | exact hZ.out.drew) (hb.mono (by first | exact hZ.out.size | exact hZ.out.drew.size)) : Below w.heap.size w w1_); replace hZ := Lib.hid hZ2; clear hZ2 hb; have kS := hcell.out w1_ hZ.out)
          )
        cases OK
        · obtain ⟨rfl, rfl⟩ := hbd.out rfl
          go_wp2_with (fail)
          go_returns
          exact ⟨rfl, hZ.out⟩
        · have hal2 := hal.out rfl
          obtain ⟨u0, u1⟩ := hokf.out rfl
          have b1 := itoa_nat_len (k + 1) (by omega)
          rw [show ((k + 1 : Nat) : Int) = (k : Int) + 1 by omega] at b1
          have b2 := itoa_len i2
          have b3 := wordL_len f
          have b4 := quote_size o
          have hd1 := Lib.hid (fun W => (rdigits_any ((k : Int) + 1) (by omega) (by omega) W).mono (R' := fun e w' => e = .returned (.string ⟨(Lib.itoa ((k : Int) + 1)).toArray⟩) ∧ Below W.heap.size W w') (fun e w' h => ⟨h.1, by rw [h.2]; exact Below.refl _ _⟩))
          have hd2 := Lib.hid (fun W => (rdigits_any u u0 u1 W).mono (R' := fun e w' => e = .returned (.string ⟨(Lib.itoa u).toArray⟩) ∧ Below W.heap.size W w') (fun e w' h => ⟨h.1, by rw [h.2]; exact Below.refl _ _⟩))
          have hwd := Lib.hid (fun W => rword_any f W)
          have hqu := Lib.hid (fun W => rquoted_any o i3 W)
          unfold wordB at hwd
          have hle : Lib.itoa ((k : Int) + 1) ++ [32] ++ wordL f ++ [32] ++ Lib.itoa u ++ [32] ++ quoteL o.data.toList ++ [10] = lineL (k + 1) (puL ⟨o, f, u⟩) := by
            unfold lineL puL
            rw [show ((k + 1 : Nat) : Int) = (k : Int) + 1 by omega]
            simp
          obtain ⟨d1, e1⟩ : ∃ d, Lib.itoa ((k : Int) + 1) = d := ⟨_, rfl⟩
          obtain ⟨d2, e2⟩ : ∃ d, Lib.itoa u = d := ⟨_, rfl⟩
          obtain ⟨w9, e3⟩ : ∃ d, wordL f = d := ⟨_, rfl⟩
          obtain ⟨q9, e4⟩ : ∃ d, quoteL o.data.toList = d := ⟨_, rfl⟩
          obtain ⟨a0, e5⟩ : ∃ d, S.data.toList = d := ⟨_, rfl⟩
          have hsz : S.size = a0.length := by rw [← e5, data_size]
          simp only [e1, e2, e3, e4] at b1 b2 b3 b4 hd1 hd2 hwd hqu hle
          have c1 := cat_run S ⟨(d1).toArray⟩ (by simp only [ba_size, hsz, List.length_append, List.length_singleton, show (⟨#[32]⟩ : ByteArray).size = 1 from rfl, show (⟨#[10]⟩ : ByteArray).size = 1 from rfl]; omega)
          have c2 := cat_run ⟨(a0 ++ d1).toArray⟩ ⟨#[32]⟩ (by simp only [ba_size, hsz, List.length_append, List.length_singleton, show (⟨#[32]⟩ : ByteArray).size = 1 from rfl, show (⟨#[10]⟩ : ByteArray).size = 1 from rfl]; omega)
          have c3 := cat_run ⟨(a0 ++ d1 ++ [32]).toArray⟩ ⟨(w9).toArray⟩ (by simp only [ba_size, hsz, List.length_append, List.length_singleton, show (⟨#[32]⟩ : ByteArray).size = 1 from rfl, show (⟨#[10]⟩ : ByteArray).size = 1 from rfl]; omega)
          have c4 := cat_run ⟨(a0 ++ d1 ++ [32] ++ w9).toArray⟩ ⟨#[32]⟩ (by simp only [ba_size, hsz, List.length_append, List.length_singleton, show (⟨#[32]⟩ : ByteArray).size = 1 from rfl, show (⟨#[10]⟩ : ByteArray).size = 1 from rfl]; omega)
          have c5 := cat_run ⟨(a0 ++ d1 ++ [32] ++ w9 ++ [32]).toArray⟩ ⟨(d2).toArray⟩ (by simp only [ba_size, hsz, List.length_append, List.length_singleton, show (⟨#[32]⟩ : ByteArray).size = 1 from rfl, show (⟨#[10]⟩ : ByteArray).size = 1 from rfl]; omega)
          have c6 := cat_run ⟨(a0 ++ d1 ++ [32] ++ w9 ++ [32] ++ d2).toArray⟩ ⟨#[32]⟩ (by simp only [ba_size, hsz, List.length_append, List.length_singleton, show (⟨#[32]⟩ : ByteArray).size = 1 from rfl, show (⟨#[10]⟩ : ByteArray).size = 1 from rfl]; omega)
          have c7 := cat_run ⟨(a0 ++ d1 ++ [32] ++ w9 ++ [32] ++ d2 ++ [32]).toArray⟩ ⟨(q9).toArray⟩ (by simp only [ba_size, hsz, List.length_append, List.length_singleton, show (⟨#[32]⟩ : ByteArray).size = 1 from rfl, show (⟨#[10]⟩ : ByteArray).size = 1 from rfl]; omega)
          have c8 := cat_run ⟨(a0 ++ d1 ++ [32] ++ w9 ++ [32] ++ d2 ++ [32] ++ q9).toArray⟩ ⟨#[10]⟩ (by simp only [ba_size, hsz, List.length_append, List.length_singleton, show (⟨#[32]⟩ : ByteArray).size = 1 from rfl, show (⟨#[10]⟩ : ByteArray).size = 1 from rfl]; omega)
          simp only [ba_list, e5, show (⟨#[32]⟩ : ByteArray).data.toList = [32] from rfl, show (⟨#[10]⟩ : ByteArray).data.toList = [10] from rfl] at c1 c2 c3 c4 c5 c6 c7 c8
          obtain ⟨T1, t1⟩ : ∃ T : ByteArray, ⟨(a0 ++ d1).toArray⟩ = T := ⟨_, rfl⟩
          obtain ⟨T2, t2⟩ : ∃ T : ByteArray, ⟨(a0 ++ d1 ++ [32]).toArray⟩ = T := ⟨_, rfl⟩
          obtain ⟨T3, t3⟩ : ∃ T : ByteArray, ⟨(a0 ++ d1 ++ [32] ++ w9).toArray⟩ = T := ⟨_, rfl⟩
          obtain ⟨T4, t4⟩ : ∃ T : ByteArray, ⟨(a0 ++ d1 ++ [32] ++ w9 ++ [32]).toArray⟩ = T := ⟨_, rfl⟩
          obtain ⟨T5, t5⟩ : ∃ T : ByteArray, ⟨(a0 ++ d1 ++ [32] ++ w9 ++ [32] ++ d2).toArray⟩ = T := ⟨_, rfl⟩
          obtain ⟨T6, t6⟩ : ∃ T : ByteArray, ⟨(a0 ++ d1 ++ [32] ++ w9 ++ [32] ++ d2 ++ [32]).toArray⟩ = T := ⟨_, rfl⟩
          obtain ⟨T7, t7⟩ : ∃ T : ByteArray, ⟨(a0 ++ d1 ++ [32] ++ w9 ++ [32] ++ d2 ++ [32] ++ q9).toArray⟩ = T := ⟨_, rfl⟩
          obtain ⟨T8, t8⟩ : ∃ T : ByteArray, ⟨(a0 ++ d1 ++ [32] ++ w9 ++ [32] ++ d2 ++ [32] ++ q9 ++ [10]).toArray⟩ = T := ⟨_, rfl⟩
          obtain ⟨D1, vD1⟩ : ∃ T : ByteArray, ⟨(d1).toArray⟩ = T := ⟨_, rfl⟩
          obtain ⟨W9, vW9⟩ : ∃ T : ByteArray, ⟨(w9).toArray⟩ = T := ⟨_, rfl⟩
          obtain ⟨D2, vD2⟩ : ∃ T : ByteArray, ⟨(d2).toArray⟩ = T := ⟨_, rfl⟩
          obtain ⟨Q9, vQ9⟩ : ∃ T : ByteArray, ⟨(q9).toArray⟩ = T := ⟨_, rfl⟩
          have hT8 : Hid (T8.data.toList = linesL puL 1 (xs.take (k + 1))) := by
            show T8.data.toList = _
            rw [hln.out, ← hS.out, e5, ← t8, ← hle]
            simp
          simp only [t1, t2, t3, t4, t5, t6, t7, t8, vD1, vW9, vD2, vQ9] at c1 c2 c3 c4 c5 c6 c7 c8 hd1 hd2 hwd hqu
          replace hal2 := Lib.hid hal2
          clear t1 t2 t3 t4 t5 t6 t7 t8 vD1 vW9 vD2 vQ9 e1 e2 e3 e4 e5 hsz hle b1 b2 b3 b4 hl1 u0 u1 hri i1 i2 i3
          have hwk : IntKind.i64.wrap ((k : Int) + 1) = (k : Int) + 1 := by rw [IntKind.wrap_i64]; omega
          have c0_ := hcell.out _ hZ.out
          obtain ⟨c0, c1_, c2_⟩ := c0_
          go_upto_region 10 with (fail)
          go_region_held3 (fun w' => w'.cell? ⟨b, off + k * 3, none⟩ = some (.string o) ∧ w'.cell? ⟨b, off + k * 3 + 1, none⟩ = some (.int .i64 f) ∧ w'.cell? ⟨b, off + k * 3 + 2, none⟩ = some (.int .i64 u)) (first | (simp [go_sem, *]; done) | go_keep) (first
            | (go_at_call 29; (with_reducible refine Calls.mono (hd1.out _) ?_); rintro e w1_ ⟨rfl, hb⟩; have hZ2 := (Below.trans (by first | exact hZ.out | exact hZ.out.drew) (hb.mono (by first | exact hZ.out.size | exact hZ.out.drew.size)) : Below w.heap.size w w1_); replace hZ := Lib.hid hZ2; clear hZ2 hb; have kS := hcell.out w1_ hZ.out)
            | (go_at_call 29; (with_reducible refine Calls.mono (hd2.out _) ?_); rintro e w1_ ⟨rfl, hb⟩; have hZ2 := (Below.trans (by first | exact hZ.out | exact hZ.out.drew) (hb.mono (by first | exact hZ.out.size | exact hZ.out.drew.size)) : Below w.heap.size w w1_); replace hZ := Lib.hid hZ2; clear hZ2 hb; have kS := hcell.out w1_ hZ.out)
            | (go_at_call 19; (with_reducible refine Calls.mono (hwd.out _) ?_); rintro e w1_ ⟨rfl, hb⟩; have hZ2 := (Below.trans (by first | exact hZ.out | exact hZ.out.drew) (hb.mono (by first | exact hZ.out.size | exact hZ.out.drew.size)) : Below w.heap.size w w1_); replace hZ := Lib.hid hZ2; clear hZ2 hb; have kS := hcell.out w1_ hZ.out)
            | (go_at_call 30; (with_reducible refine Calls.mono (hqu.out _) ?_); rintro e w1_ ⟨rfl, hb⟩; have hZ2 := (Below.trans (by first | exact hZ.out | exact hZ.out.drew) (hb.mono (by first | exact hZ.out.size | exact hZ.out.drew.size)) : Below w.heap.size w w1_); replace hZ := Lib.hid hZ2; clear hZ2 hb; have kS := hcell.out w1_ hZ.out))
          go_wp2_with (fail)
          exact ⟨⟨T8, k + 1, rfl, rfl, by omega, Lib.hid ⟨hal2.out, hT8.out, hZ.out⟩⟩, by simp [intOf]; omega⟩
      · have hk' : ¬ (k : Int) < (n : Int) := by omega
        obtain rfl : k = n := by omega
        obtain ⟨hall, hS, hW⟩ := hQ.out
        rw [List.take_of_length_le (by rw [hn.out]; exact Nat.le_refl _)] at hall hS
        obtain ⟨rfl, hT0⟩ := hend.out hall
        have hST : S = T := ba_ext (by rw [hS, hT0])
        subst hST
        replace hW := Lib.hid hW
        clear hall hS hQ hT0
        go_wp2_with (fail)
        go_returns
        exact ⟨rfl, hW.out⟩
end Go.Proofs.YtbhgjjicmbbjaaaDoor
