import Derived.Test.YtbhgjjicmbbjaaaDoorTrLc
import Derived.Test.YtbhgjjicmbbjaaaDoorPostTests17
namespace Go.Proofs.YtbhgjjicmbbjaaaDoor
open Go.RowKit
set_option linter.unusedVariables false
set_option linter.unusedSimpArgs false
/-! ScriptBack, ScriptApart: the tests that are right -/
/-- which of n things a raw number speaks of -/
def pickN (c : Int) (n : Nat) : Nat := ((if c < 0 then -(c + 1) else c) % (n : Int)).toNat
theorem pickN_lt (c : Int) (n : Nat) (h : 0 < n) : pickN c n < n := by
  unfold pickN
  have g1 := Int.emod_nonneg (if c < 0 then -(c + 1) else c) (by omega : (n : Int) ≠ 0)
  have g2 := Int.emod_lt_of_pos (if c < 0 then -(c + 1) else c) (by omega : (0 : Int) < n)
  omega
theorem pick_any (c n : Int) (w : World) (hc1 : -9223372036854775808 ≤ c) (hc2 : c ≤ 9223372036854775807) (hn : 0 < n) (hn2 : n ≤ 4611686018427387904) : Calls Tryd.prog 22 #[.int .i64 c, .int .i64 n] w fun e w' => e = .returned (.int .i64 (pickN c n.toNat)) ∧ w' = w := by
  have h1 : decide (n = 0) = false := by simp; omega
  have hp : (pickN c n.toNat : Int) = (if c < 0 then -(c + 1) else c) % n := by
    unfold pickN
    have g1 := Int.emod_nonneg (if c < 0 then -(c + 1) else c) (by omega : n ≠ 0)
    rw [show ((n.toNat : Nat) : Int) = n by omega]
    omega
  replace hp := Lib.hid hp
  by_cases h : c < 0
  · have hd : decide (c < 0) = true := by simpa using h
    go_enter Tryd.func22, Tryd.ntmps22
    go_wp2
    go_returns
    have e : -((c + 1).tmod n) = (-(c + 1)) % n := by
      rw [← Int.neg_tmod, Int.tmod_eq_emod_of_nonneg (by omega)]
    refine ⟨?_, rfl⟩
    rw [hp.out, if_pos h, ← e]; rfl
  · have hd : decide (c < 0) = false := by simpa using h
    go_enter Tryd.func22, Tryd.ntmps22
    go_wp2
    go_returns
    refine ⟨?_, rfl⟩
    rw [hp.out, if_neg (Int.not_lt.2 h)]; rfl
structure Ts where
  fault : Int
  fuel : Int
  points : Int
  said : Bool
  text : ByteArray
def TsRow (w : World) (A : Option Addr) (xs : List Ts) : Prop := ∀ (i : Nat) (x : Ts), xs[i]? = some x → ∃ b off, A = some ⟨b, off, none⟩ ∧ b < w.heap.size ∧ w.cell? ⟨b, off + i * 5, none⟩ = some (.int .i64 x.fault) ∧ w.cell? ⟨b, off + i * 5 + 1, none⟩ = some (.int .i64 x.fuel) ∧ w.cell? ⟨b, off + i * 5 + 2, none⟩ = some (.int .i64 x.points) ∧ w.cell? ⟨b, off + i * 5 + 3, none⟩ = some (.bool x.said) ∧ w.cell? ⟨b, off + i * 5 + 4, none⟩ = some (.string x.text)
theorem TsRow.bel {w w' : World} {A : Option Addr} {xs : List Ts} (h : TsRow w A xs) (hb : Below w.heap.size w w') : TsRow w' A xs := by
  intro i x hx
  obtain ⟨b, off, rfl, hl, c0, c1, c2, c3, c4⟩ := h i x hx
  exact ⟨b, off, rfl, Nat.lt_of_lt_of_le hl hb.size, (hb.cell (p := ⟨b, off + i * 5, none⟩) hl).trans c0, (hb.cell (p := ⟨b, off + i * 5 + 1, none⟩) hl).trans c1, (hb.cell (p := ⟨b, off + i * 5 + 2, none⟩) hl).trans c2, (hb.cell (p := ⟨b, off + i * 5 + 3, none⟩) hl).trans c3, (hb.cell (p := ⟨b, off + i * 5 + 4, none⟩) hl).trans c4⟩
def tsI (t : Ts) : Prop := inI t.fault ∧ inI t.fuel ∧ inI t.points ∧ t.text.size ≤ 140737488351232
theorem ts_open {w : World} {A : Option Addr} {n : Nat} (h : Tests17 w A n) : ∃ xs : List Ts, xs.length = n ∧ TsRow w A xs ∧ ∀ x ∈ xs, tsI x := by
  obtain ⟨xs, h1, h2⟩ := list_of (X := Ts) (P := fun i x => (∃ b off, A = some ⟨b, off, none⟩ ∧ b < w.heap.size ∧ w.cell? ⟨b, off + i * 5, none⟩ = some (.int .i64 x.fault) ∧ w.cell? ⟨b, off + i * 5 + 1, none⟩ = some (.int .i64 x.fuel) ∧ w.cell? ⟨b, off + i * 5 + 2, none⟩ = some (.int .i64 x.points) ∧ w.cell? ⟨b, off + i * 5 + 3, none⟩ = some (.bool x.said) ∧ w.cell? ⟨b, off + i * 5 + 4, none⟩ = some (.string x.text)) ∧ tsI x) n (fun i hi => by
    obtain ⟨b, off, v0, v1, v2, v3, v4, rfl, hb, g0, g1, g2, g3, g4, w0, w1, w2, w4⟩ := h.2 i hi
    exact ⟨⟨v0, v1, v2, v3, v4⟩, ⟨b, off, rfl, hb, g0, g1, g2, g3, g4⟩, w0, w1, w2, w4⟩)
  refine ⟨xs, h1, fun i x hx => (h2 i x hx).1, fun x hx => ?_⟩
  obtain ⟨i, hi⟩ := List.getElem?_of_mem hx
  exact (h2 i x hi).2
def cutB (s : ByteArray) : ByteArray := if 2000 < s.size then s.extract 0 2000 else s
theorem cutB_size (s : ByteArray) : (cutB s).size ≤ 2000 := by
  unfold cutB
  split
  · rw [ByteArray.size_extract]; omega
  · omega
def tPu (t : Ts) : Pu := ⟨cutB t.text, pickN t.fault 22, pickN t.fuel 1000001⟩
def tPr (t : Ts) : Pr := ⟨if t.said then (pickN t.points 101 : Int) else 0, t.said, pickN t.fault 22, pickN t.fuel 1000001, cutB t.text⟩
theorem tPu_ok (t : Ts) : puOk (tPu t) = true := by
  have h1 := pickN_lt t.fault 22 (by decide)
  have h2 := pickN_lt t.fuel 1000001 (by decide)
  have h3 := cutB_size t.text
  exact rightP_iff.2 ⟨⟨by show (0 : Int) ≤ (pickN t.fault 22 : Int); omega, by show (pickN t.fault 22 : Int) < 22; omega⟩, by show (0 : Int) ≤ (pickN t.fuel 1000001 : Int); omega, by show (pickN t.fuel 1000001 : Int) ≤ 1000000; omega, by show (cutB t.text).size ≤ 65536; omega⟩
theorem tPr_ok (t : Ts) : prOk (tPr t) = true := by
  have h1 := pickN_lt t.fault 22 (by decide)
  have h2 := pickN_lt t.fuel 1000001 (by decide)
  have h3 := cutB_size t.text
  have h4 := pickN_lt t.points 101 (by decide)
  refine prOk_iff.2 ⟨⟨⟨by show (0 : Int) ≤ (pickN t.fault 22 : Int); omega, by show (pickN t.fault 22 : Int) < 22; omega⟩, by show (0 : Int) ≤ (pickN t.fuel 1000001 : Int); omega, by show (pickN t.fuel 1000001 : Int) ≤ 1000000; omega, by show (cutB t.text).size ≤ 65536; omega⟩, ?_, ?_, ?_⟩
  · unfold tPr; dsimp only; split <;> omega
  · unfold tPr; dsimp only; split <;> omega
  · unfold tPr; dsimp only
    cases t.said
    · right; rfl
    · left; rfl
def tsP (l : List Ts) : List Pu := (l.take 32).map tPu
def tsR (l : List Ts) : List Pr := (l.take 32).map tPr
set_option maxRecDepth 100000 in
set_option maxHeartbeats 8000000 in
theorem tests_any (A : Option Addr) (n c : Nat) (xs : List Ts) (w : World) (hn : xs.length = n) (hr : TsRow w A xs) (hI : ∀ x ∈ xs, tsI x) (hcap : n ≤ 140737488355328) :
    Calls Tryd.prog 21 #[.slice A n c] w fun e w' => (∃ A1 c1 A2 c2, e = .returned (.tuple #[.slice A1 (min n 32) c1, .slice A2 (min n 32) c2]) ∧ w'.ownsRow w.heap.size 27 3 (.slice A1 (min n 32) c1) (min n 32) (pusC (tsP xs)) ∧ w'.ownsRow w.heap.size 34 5 (.slice A2 (min n 32) c2) (min n 32) (prsC (tsR xs))) ∧ Below w.heap.size w w' := by
  have hcap' : (n : Int) ≤ 140737488355328 := by omega
  replace hr := Lib.hid hr
  replace hn := Lib.hid hn
  replace hI := Lib.hid hI
  go_enter Tryd.func21, Tryd.ntmps21
  go_wp2_with (fail)
  go_loopw [4, 5, 6] (fun x4 x5 x6 wr => ∃ (k : Nat) (A1 A2 : Option Addr) (c1 c2 : Nat), x4 = .slice A1 k c1 ∧ x5 = .slice A2 k c2 ∧ x6 = .int .i64 k ∧ k ≤ n ∧ k ≤ 32 ∧ Hid (wr.ownsRow w.heap.size 27 3 (.slice A1 k c1) k (pusC ((xs.take k).map tPu)) ∧ wr.ownsRow w.heap.size 34 5 (.slice A2 k c2) k (prsC ((xs.take k).map tPr)) ∧ Below w.heap.size w wr)) (fun _ _ x6 _ => n - (intOf x6).toNat)
  case atStart => exact ⟨0, none, none, 0, 0, rfl, rfl, rfl, Nat.zero_le _, by decide, Lib.hid ⟨World.ownsRow_nil _ _ _ _, World.ownsRow_nil _ _ _ _, Below.refl _ _⟩⟩
  case round =>
    obtain ⟨k, A1, A2, c1, c2, rfl, rfl, rfl, hk0, hk32, hQ⟩ := hrel
    by_cases hk : k < n ∧ k < 32
    · have hk' : (k : Int) < (n : Int) := by omega
      have hk3 : (k : Int) < 32 := by omega
      obtain ⟨o1, o2, hW⟩ := hQ.out
      obtain ⟨x, hx⟩ : ∃ x, xs[k]? = some x := ⟨_, List.getElem?_eq_getElem (by rw [hn.out]; exact hk.1)⟩
      obtain ⟨b, off, rfl, hbl, d0, d1, d2, d3, d4⟩ := hr.out k x hx
      have hxI := hI.out x (List.mem_of_getElem? hx)
      have ht1 : ((xs.take (k + 1)).map tPu) = ((xs.take k).map tPu) ++ [tPu x] := by rw [List.take_add_one, hx]; simp
      have ht2 : ((xs.take (k + 1)).map tPr) = ((xs.take k).map tPr) ++ [tPr x] := by rw [List.take_add_one, hx]; simp
      have hl1 : ((xs.take k).map tPu).length = k := by rw [List.length_map, List.length_take]; have := hn.out; omega
      have hl2 : ((xs.take k).map tPr).length = k := by rw [List.length_map, List.length_take]; have := hn.out; omega
      replace d0 := (hW.cell (p := ⟨b, off + k * 5, none⟩) hbl).trans d0
      replace d1 := (hW.cell (p := ⟨b, off + k * 5 + 1, none⟩) hbl).trans d1
      replace d2 := (hW.cell (p := ⟨b, off + k * 5 + 2, none⟩) hbl).trans d2
      replace d3 := (hW.cell (p := ⟨b, off + k * 5 + 3, none⟩) hbl).trans d3
      replace d4 := (hW.cell (p := ⟨b, off + k * 5 + 4, none⟩) hbl).trans d4
      obtain ⟨F0, U0, P0, sd, tx⟩ := x
      obtain ⟨i0, i1, i2, i3⟩ := hxI
      unfold inI at i0 i1 i2
      simp only at i0 i1 i2 i3 d0 d1 d2 d3 d4
      obtain ⟨fN, hfN⟩ : ∃ z : Int, (pickN F0 22 : Int) = z := ⟨_, rfl⟩
      obtain ⟨uN, huN⟩ : ∃ z : Int, (pickN U0 1000001 : Int) = z := ⟨_, rfl⟩
      have p1 : ∀ W, Calls Tryd.prog 22 #[.int .i64 F0, .int .i64 22] W fun e w' => e = .returned (.int .i64 fN) ∧ w' = W := fun W => by rw [← hfN]; exact pick_any F0 22 W i0.1 i0.2 (by decide) (by decide)
      have p2 : ∀ W, Calls Tryd.prog 22 #[.int .i64 U0, .int .i64 1000001] W fun e w' => e = .returned (.int .i64 uN) ∧ w' = W := fun W => by rw [← huN]; exact pick_any U0 1000001 W i1.1 i1.2 (by decide) (by decide)
      have p3 : ∀ W, Calls Tryd.prog 22 #[.int .i64 P0, .int .i64 101] W fun e w' => e = .returned (.int .i64 (pickN P0 101 : Int)) ∧ w' = W := fun W => pick_any P0 101 W i2.1 i2.2 (by decide) (by decide)
      replace p1 := Lib.hid p1
      replace p2 := Lib.hid p2
      replace p3 := Lib.hid p3
      replace hfN := Lib.hid hfN
      replace huN := Lib.hid huN
      replace hQ := Lib.hid (And.intro o1 (And.intro o2 hW))
      replace ht1 := Lib.hid ht1
      replace ht2 := Lib.hid ht2
      clear o1 o2 hW hx hbl i0 i1 i2
      have hk9 := Lib.hid hk
      clear hk
      have g4 := (Bk.fresh wr 64 #[.int .i64 F0, .int .i64 U0, .int .i64 P0, .bool sd, .string tx]).free 4
      by_cases htx : 2000 < tx.size
      · have e1 : (2000 : Int) < (tx.size : Int) := by omega
        have e2 : (tx.size : Int) ≤ 140737488351232 := by omega
        have hT : cutB tx = tx.extract 0 2000 := by unfold cutB; rw [if_pos htx]
        go_wp2_with (fail)
        generalize tx.extract 0 2000 = T at hT ⊢
        clear g4
        have hf := Bk.fresh wr 64 #[.int .i64 F0, .int .i64 U0, .int .i64 P0, .bool sd, .string T]
        have hb1 := (Below.refl wr.heap.size wr).alloc (Nat.le_refl _) (.cells #[.int .i64 F0, .int .i64 U0, .int .i64 P0, .bool sd, .string T] 64)
        obtain ⟨Y, hY⟩ : ∃ Y, wr.alloc (.cells #[.int .i64 F0, .int .i64 U0, .int .i64 P0, .bool sd, .string T] 64) = Y := ⟨_, rfl⟩
        rw [hY] at hf hb1 ⊢
        have k0 : Y.cell? ⟨wr.heap.size, 0, none⟩ = some (.int .i64 F0) := hf.cell 0
        have k1 : Y.cell? ⟨wr.heap.size, 1, none⟩ = some (.int .i64 U0) := hf.cell 1
        have k2 : Y.cell? ⟨wr.heap.size, 2, none⟩ = some (.int .i64 P0) := hf.cell 2
        have k3 : Y.cell? ⟨wr.heap.size, 3, none⟩ = some (.bool sd) := hf.cell 3
        have k4 : Y.cell? ⟨wr.heap.size, 4, none⟩ = some (.string T) := hf.cell 4
        have hqY : wr.heap.size < Y.heap.size := hf.lt
        replace hb1 := Lib.hid hb1
        replace hT := Lib.hid hT
        clear hf hY
        refine (p1.out _).mono ?_
        rintro e w1 ⟨rfl, hw1⟩
        replace hw1 := hw1.symm
        subst hw1
        clear p1
        go_wp2_with (fail)
        refine (p2.out _).mono ?_
        rintro e w1 ⟨rfl, hw1⟩
        replace hw1 := hw1.symm
        subst hw1
        clear p2
        cases sd
        · clear p3
          have hZ1 := (Below.refl Y.heap.size Y).alloc (Nat.le_refl _) (.cells #[.int .i64 0, .bool false, .int .i64 fN, .int .i64 uN, .string T] 34)
          have hZf := Bk.fresh Y 34 #[.int .i64 0, .bool false, .int .i64 fN, .int .i64 uN, .string T]
          have hzz : (Y.alloc (.cells #[.int .i64 0, .bool false, .int .i64 fN, .int .i64 uN, .string T] 34)).heap.size = Y.heap.size + 1 := by simp
          have hrows : ∃ A1' c1' w2 A2' c2' w3, (Builtin.append_ #[22, 22] 22 #[.slice A1 k c1, .slice (some ⟨Y.heap.size + 1, 0, none⟩) 1 1]).run Tryd.prog ((Y.alloc (.cells #[.int .i64 0, .bool false, .int .i64 fN, .int .i64 uN, .string T] 34)).alloc (.cells #[.string T, .int .i64 fN, .int .i64 uN] 27)) = .ok (.slice A1' (k + 1) c1') w2 ∧ Bk w2 Y.heap.size 34 #[.int .i64 0, .bool false, .int .i64 fN, .int .i64 uN, .string T] ∧ (Builtin.append_ #[32, 32] 32 #[.slice A2 k c2, .slice (some ⟨w2.heap.size, 0, none⟩) 1 1]).run Tryd.prog (w2.alloc (.cells #[.int .i64 0, .bool false, .int .i64 fN, .int .i64 uN, .string T] 34)) = .ok (.slice A2' (k + 1) c2') w3 ∧ w3.ownsRow w.heap.size 27 3 (.slice A1' (k + 1) c1') (k + 1) (pusC ((xs.take (k + 1)).map tPu)) ∧ w3.ownsRow w.heap.size 34 5 (.slice A2' (k + 1) c2') (k + 1) (prsC ((xs.take (k + 1)).map tPr)) ∧ Below w.heap.size w w3 := by
            obtain ⟨o1, o2, hW⟩ := hQ.out
            have hbZ := hb1.out.trans (hZ1.mono hb1.out.size)
            have oA := own_below o1 hbZ (Nat.le_refl _)
            have oB := own_below o2 hbZ (Nat.le_refl _)
            have hWZ := hW.trans (hbZ.mono hW.size)
            have hk9' := hk9.out
            obtain ⟨A1', c1', w2, hrun1, oA', hg1⟩ := pu_app ⟨T, fN, uN⟩ hl1 oA hWZ.size (by omega)
            have oB' := oB.kept hg1 (own_far oB oA (by decide))
            have hB2 := below_grown2 hWZ hg1 hWZ.size (own_ge oA)
            obtain ⟨A2', c2', w3, hrun2, oB2, hg2⟩ := pr_app ⟨0, false, fN, uN, T⟩ hl2 oB' hB2.size (by omega)
            have oA2 := oA'.kept hg2 (own_far oA' oB' (by decide))
            have hB3 := below_grown2 hB2 hg2 hB2.size (own_ge oB')
            rw [hzz] at hrun1
            refine ⟨A1', c1', w2, A2', c2', w3, hrun1, hZf.grown hg1 (fun e => ?_), hrun2, ?_, ?_, hB3⟩
            · have := (o1.lt _ e.symm).2
              have := hb1.out.size
              omega
            · rw [ht1.out, show tPu ⟨F0, U0, P0, false, tx⟩ = ⟨T, fN, uN⟩ by unfold tPu; simp only; rw [hT.out, hfN.out, huN.out]]
              exact oA2
            · rw [ht2.out, show tPr ⟨F0, U0, P0, false, tx⟩ = ⟨0, false, fN, uN, T⟩ by unfold tPr; simp only [if_true, if_false, Bool.false_eq_true]; rw [hT.out, hfN.out, huN.out]]
              exact oB2
          obtain ⟨A1', c1', w2, A2', c2', w3, hr1, hbk, hr2, hfin⟩ := hrows
          have r0 : w2.cell? ⟨Y.heap.size, 0, none⟩ = some (.int .i64 0) := hbk.cell 0
          have r1 : w2.cell? ⟨Y.heap.size, 1, none⟩ = some (.bool false) := hbk.cell 1
          have r2 : w2.cell? ⟨Y.heap.size, 2, none⟩ = some (.int .i64 fN) := hbk.cell 2
          have r3 : w2.cell? ⟨Y.heap.size, 3, none⟩ = some (.int .i64 uN) := hbk.cell 3
          have r4 : w2.cell? ⟨Y.heap.size, 4, none⟩ = some (.string T) := hbk.cell 4
          replace hr1 := Lib.hid hr1
          replace hr2 := Lib.hid hr2
          replace hfin := Lib.hid hfin
          clear hbk hZ1 hZf hzz hQ ht1 ht2 hl1 hl2 hT hfN huN
          go_wp2_with (at_builtin; first
            | (refine wpList_append_run rfl (.tmp 52) (.tmp 58) 22 rfl (.slice A1 k c1) _ _ rfl rfl hr1.out ?_)
            | (refine wpList_append_run rfl (.tmp 60) (.tmp 62) 32 rfl (.slice A2 k c2) _ _ rfl rfl hr2.out ?_))
          exact ⟨⟨k + 1, A1', A2', c1', c2', rfl, rfl, rfl, by have := hk9.out; omega, by have := hk9.out; omega, hfin⟩, by simp [intOf]; omega⟩
        · go_wp2_with (fail)
          refine (p3.out _).mono ?_
          rintro e w1 ⟨rfl, hw1⟩
          replace hw1 := hw1.symm
          subst hw1
          clear p3
          have hZ1 := (Below.refl Y.heap.size Y).alloc (Nat.le_refl _) (.cells #[.int .i64 (pickN P0 101 : Int), .bool true, .int .i64 fN, .int .i64 uN, .string T] 34)
          have hZf := Bk.fresh Y 34 #[.int .i64 (pickN P0 101 : Int), .bool true, .int .i64 fN, .int .i64 uN, .string T]
          have hzz : (Y.alloc (.cells #[.int .i64 (pickN P0 101 : Int), .bool true, .int .i64 fN, .int .i64 uN, .string T] 34)).heap.size = Y.heap.size + 1 := by simp
          have hrows : ∃ A1' c1' w2 A2' c2' w3, (Builtin.append_ #[22, 22] 22 #[.slice A1 k c1, .slice (some ⟨Y.heap.size + 1, 0, none⟩) 1 1]).run Tryd.prog ((Y.alloc (.cells #[.int .i64 (pickN P0 101 : Int), .bool true, .int .i64 fN, .int .i64 uN, .string T] 34)).alloc (.cells #[.string T, .int .i64 fN, .int .i64 uN] 27)) = .ok (.slice A1' (k + 1) c1') w2 ∧ Bk w2 Y.heap.size 34 #[.int .i64 (pickN P0 101 : Int), .bool true, .int .i64 fN, .int .i64 uN, .string T] ∧ (Builtin.append_ #[32, 32] 32 #[.slice A2 k c2, .slice (some ⟨w2.heap.size, 0, none⟩) 1 1]).run Tryd.prog (w2.alloc (.cells #[.int .i64 (pickN P0 101 : Int), .bool true, .int .i64 fN, .int .i64 uN, .string T] 34)) = .ok (.slice A2' (k + 1) c2') w3 ∧ w3.ownsRow w.heap.size 27 3 (.slice A1' (k + 1) c1') (k + 1) (pusC ((xs.take (k + 1)).map tPu)) ∧ w3.ownsRow w.heap.size 34 5 (.slice A2' (k + 1) c2') (k + 1) (prsC ((xs.take (k + 1)).map tPr)) ∧ Below w.heap.size w w3 := by
            obtain ⟨o1, o2, hW⟩ := hQ.out
            have hbZ := hb1.out.trans (hZ1.mono hb1.out.size)
            have oA := own_below o1 hbZ (Nat.le_refl _)
            have oB := own_below o2 hbZ (Nat.le_refl _)
            have hWZ := hW.trans (hbZ.mono hW.size)
            have hk9' := hk9.out
            obtain ⟨A1', c1', w2, hrun1, oA', hg1⟩ := pu_app ⟨T, fN, uN⟩ hl1 oA hWZ.size (by omega)
            have oB' := oB.kept hg1 (own_far oB oA (by decide))
            have hB2 := below_grown2 hWZ hg1 hWZ.size (own_ge oA)
            obtain ⟨A2', c2', w3, hrun2, oB2, hg2⟩ := pr_app ⟨(pickN P0 101 : Int), true, fN, uN, T⟩ hl2 oB' hB2.size (by omega)
            have oA2 := oA'.kept hg2 (own_far oA' oB' (by decide))
            have hB3 := below_grown2 hB2 hg2 hB2.size (own_ge oB')
            rw [hzz] at hrun1
            refine ⟨A1', c1', w2, A2', c2', w3, hrun1, hZf.grown hg1 (fun e => ?_), hrun2, ?_, ?_, hB3⟩
            · have := (o1.lt _ e.symm).2
              have := hb1.out.size
              omega
            · rw [ht1.out, show tPu ⟨F0, U0, P0, true, tx⟩ = ⟨T, fN, uN⟩ by unfold tPu; simp only; rw [hT.out, hfN.out, huN.out]]
              exact oA2
            · rw [ht2.out, show tPr ⟨F0, U0, P0, true, tx⟩ = ⟨(pickN P0 101 : Int), true, fN, uN, T⟩ by unfold tPr; simp only [if_true, if_false, Bool.false_eq_true]; rw [hT.out, hfN.out, huN.out]]
              exact oB2
          obtain ⟨A1', c1', w2, A2', c2', w3, hr1, hbk, hr2, hfin⟩ := hrows
          have r0 : w2.cell? ⟨Y.heap.size, 0, none⟩ = some (.int .i64 (pickN P0 101 : Int)) := hbk.cell 0
          have r1 : w2.cell? ⟨Y.heap.size, 1, none⟩ = some (.bool true) := hbk.cell 1
          have r2 : w2.cell? ⟨Y.heap.size, 2, none⟩ = some (.int .i64 fN) := hbk.cell 2
          have r3 : w2.cell? ⟨Y.heap.size, 3, none⟩ = some (.int .i64 uN) := hbk.cell 3
          have r4 : w2.cell? ⟨Y.heap.size, 4, none⟩ = some (.string T) := hbk.cell 4
          replace hr1 := Lib.hid hr1
          replace hr2 := Lib.hid hr2
          replace hfin := Lib.hid hfin
          clear hbk hZ1 hZf hzz hQ ht1 ht2 hl1 hl2 hT hfN huN
          go_wp2_with (at_builtin; first
            | (refine wpList_append_run rfl (.tmp 52) (.tmp 58) 22 rfl (.slice A1 k c1) _ _ rfl rfl hr1.out ?_)
            | (refine wpList_append_run rfl (.tmp 60) (.tmp 62) 32 rfl (.slice A2 k c2) _ _ rfl rfl hr2.out ?_))
          exact ⟨⟨k + 1, A1', A2', c1', c2', rfl, rfl, rfl, by have := hk9.out; omega, by have := hk9.out; omega, hfin⟩, by simp [intOf]; omega⟩
      · have e1 : ¬ (2000 : Int) < (tx.size : Int) := by omega
        obtain ⟨T, hTT⟩ : ∃ T, tx = T := ⟨_, rfl⟩
        have hT : cutB tx = T := by unfold cutB; rw [if_neg htx, hTT]
        replace hTT := Lib.hid hTT
        go_wp2_with (fail)
        rw [hTT.out]
        clear g4
        have hf := Bk.fresh wr 64 #[.int .i64 F0, .int .i64 U0, .int .i64 P0, .bool sd, .string T]
        have hb1 := (Below.refl wr.heap.size wr).alloc (Nat.le_refl _) (.cells #[.int .i64 F0, .int .i64 U0, .int .i64 P0, .bool sd, .string T] 64)
        obtain ⟨Y, hY⟩ : ∃ Y, wr.alloc (.cells #[.int .i64 F0, .int .i64 U0, .int .i64 P0, .bool sd, .string T] 64) = Y := ⟨_, rfl⟩
        rw [hY] at hf hb1 ⊢
        have k0 : Y.cell? ⟨wr.heap.size, 0, none⟩ = some (.int .i64 F0) := hf.cell 0
        have k1 : Y.cell? ⟨wr.heap.size, 1, none⟩ = some (.int .i64 U0) := hf.cell 1
        have k2 : Y.cell? ⟨wr.heap.size, 2, none⟩ = some (.int .i64 P0) := hf.cell 2
        have k3 : Y.cell? ⟨wr.heap.size, 3, none⟩ = some (.bool sd) := hf.cell 3
        have k4 : Y.cell? ⟨wr.heap.size, 4, none⟩ = some (.string T) := hf.cell 4
        have hqY : wr.heap.size < Y.heap.size := hf.lt
        replace hb1 := Lib.hid hb1
        replace hT := Lib.hid hT
        clear hf hY
        refine (p1.out _).mono ?_
        rintro e w1 ⟨rfl, hw1⟩
        replace hw1 := hw1.symm
        subst hw1
        clear p1
        go_wp2_with (fail)
        refine (p2.out _).mono ?_
        rintro e w1 ⟨rfl, hw1⟩
        replace hw1 := hw1.symm
        subst hw1
        clear p2
        cases sd
        · clear p3
          have hZ1 := (Below.refl Y.heap.size Y).alloc (Nat.le_refl _) (.cells #[.int .i64 0, .bool false, .int .i64 fN, .int .i64 uN, .string T] 34)
          have hZf := Bk.fresh Y 34 #[.int .i64 0, .bool false, .int .i64 fN, .int .i64 uN, .string T]
          have hzz : (Y.alloc (.cells #[.int .i64 0, .bool false, .int .i64 fN, .int .i64 uN, .string T] 34)).heap.size = Y.heap.size + 1 := by simp
          have hrows : ∃ A1' c1' w2 A2' c2' w3, (Builtin.append_ #[22, 22] 22 #[.slice A1 k c1, .slice (some ⟨Y.heap.size + 1, 0, none⟩) 1 1]).run Tryd.prog ((Y.alloc (.cells #[.int .i64 0, .bool false, .int .i64 fN, .int .i64 uN, .string T] 34)).alloc (.cells #[.string T, .int .i64 fN, .int .i64 uN] 27)) = .ok (.slice A1' (k + 1) c1') w2 ∧ Bk w2 Y.heap.size 34 #[.int .i64 0, .bool false, .int .i64 fN, .int .i64 uN, .string T] ∧ (Builtin.append_ #[32, 32] 32 #[.slice A2 k c2, .slice (some ⟨w2.heap.size, 0, none⟩) 1 1]).run Tryd.prog (w2.alloc (.cells #[.int .i64 0, .bool false, .int .i64 fN, .int .i64 uN, .string T] 34)) = .ok (.slice A2' (k + 1) c2') w3 ∧ w3.ownsRow w.heap.size 27 3 (.slice A1' (k + 1) c1') (k + 1) (pusC ((xs.take (k + 1)).map tPu)) ∧ w3.ownsRow w.heap.size 34 5 (.slice A2' (k + 1) c2') (k + 1) (prsC ((xs.take (k + 1)).map tPr)) ∧ Below w.heap.size w w3 := by
            obtain ⟨o1, o2, hW⟩ := hQ.out
            have hbZ := hb1.out.trans (hZ1.mono hb1.out.size)
            have oA := own_below o1 hbZ (Nat.le_refl _)
            have oB := own_below o2 hbZ (Nat.le_refl _)
            have hWZ := hW.trans (hbZ.mono hW.size)
            have hk9' := hk9.out
            obtain ⟨A1', c1', w2, hrun1, oA', hg1⟩ := pu_app ⟨T, fN, uN⟩ hl1 oA hWZ.size (by omega)
            have oB' := oB.kept hg1 (own_far oB oA (by decide))
            have hB2 := below_grown2 hWZ hg1 hWZ.size (own_ge oA)
            obtain ⟨A2', c2', w3, hrun2, oB2, hg2⟩ := pr_app ⟨0, false, fN, uN, T⟩ hl2 oB' hB2.size (by omega)
            have oA2 := oA'.kept hg2 (own_far oA' oB' (by decide))
            have hB3 := below_grown2 hB2 hg2 hB2.size (own_ge oB')
            rw [hzz] at hrun1
            refine ⟨A1', c1', w2, A2', c2', w3, hrun1, hZf.grown hg1 (fun e => ?_), hrun2, ?_, ?_, hB3⟩
            · have := (o1.lt _ e.symm).2
              have := hb1.out.size
              omega
            · rw [ht1.out, show tPu ⟨F0, U0, P0, false, tx⟩ = ⟨T, fN, uN⟩ by unfold tPu; simp only; rw [hT.out, hfN.out, huN.out]]
              exact oA2
            · rw [ht2.out, show tPr ⟨F0, U0, P0, false, tx⟩ = ⟨0, false, fN, uN, T⟩ by unfold tPr; simp only [if_true, if_false, Bool.false_eq_true]; rw [hT.out, hfN.out, huN.out]]
              exact oB2
          obtain ⟨A1', c1', w2, A2', c2', w3, hr1, hbk, hr2, hfin⟩ := hrows
          have r0 : w2.cell? ⟨Y.heap.size, 0, none⟩ = some (.int .i64 0) := hbk.cell 0
          have r1 : w2.cell? ⟨Y.heap.size, 1, none⟩ = some (.bool false) := hbk.cell 1
          have r2 : w2.cell? ⟨Y.heap.size, 2, none⟩ = some (.int .i64 fN) := hbk.cell 2
          have r3 : w2.cell? ⟨Y.heap.size, 3, none⟩ = some (.int .i64 uN) := hbk.cell 3
          have r4 : w2.cell? ⟨Y.heap.size, 4, none⟩ = some (.string T) := hbk.cell 4
          replace hr1 := Lib.hid hr1
          replace hr2 := Lib.hid hr2
          replace hfin := Lib.hid hfin
          clear hbk hZ1 hZf hzz hQ ht1 ht2 hl1 hl2 hT hfN huN
          go_wp2_with (at_builtin; first
            | (refine wpList_append_run rfl (.tmp 52) (.tmp 58) 22 rfl (.slice A1 k c1) _ _ rfl rfl hr1.out ?_)
            | (refine wpList_append_run rfl (.tmp 60) (.tmp 62) 32 rfl (.slice A2 k c2) _ _ rfl rfl hr2.out ?_))
          exact ⟨⟨k + 1, A1', A2', c1', c2', rfl, rfl, rfl, by have := hk9.out; omega, by have := hk9.out; omega, hfin⟩, by simp [intOf]; omega⟩
        · go_wp2_with (fail)
          refine (p3.out _).mono ?_
          rintro e w1 ⟨rfl, hw1⟩
          replace hw1 := hw1.symm
          subst hw1
          clear p3
          have hZ1 := (Below.refl Y.heap.size Y).alloc (Nat.le_refl _) (.cells #[.int .i64 (pickN P0 101 : Int), .bool true, .int .i64 fN, .int .i64 uN, .string T] 34)
          have hZf := Bk.fresh Y 34 #[.int .i64 (pickN P0 101 : Int), .bool true, .int .i64 fN, .int .i64 uN, .string T]
          have hzz : (Y.alloc (.cells #[.int .i64 (pickN P0 101 : Int), .bool true, .int .i64 fN, .int .i64 uN, .string T] 34)).heap.size = Y.heap.size + 1 := by simp
          have hrows : ∃ A1' c1' w2 A2' c2' w3, (Builtin.append_ #[22, 22] 22 #[.slice A1 k c1, .slice (some ⟨Y.heap.size + 1, 0, none⟩) 1 1]).run Tryd.prog ((Y.alloc (.cells #[.int .i64 (pickN P0 101 : Int), .bool true, .int .i64 fN, .int .i64 uN, .string T] 34)).alloc (.cells #[.string T, .int .i64 fN, .int .i64 uN] 27)) = .ok (.slice A1' (k + 1) c1') w2 ∧ Bk w2 Y.heap.size 34 #[.int .i64 (pickN P0 101 : Int), .bool true, .int .i64 fN, .int .i64 uN, .string T] ∧ (Builtin.append_ #[32, 32] 32 #[.slice A2 k c2, .slice (some ⟨w2.heap.size, 0, none⟩) 1 1]).run Tryd.prog (w2.alloc (.cells #[.int .i64 (pickN P0 101 : Int), .bool true, .int .i64 fN, .int .i64 uN, .string T] 34)) = .ok (.slice A2' (k + 1) c2') w3 ∧ w3.ownsRow w.heap.size 27 3 (.slice A1' (k + 1) c1') (k + 1) (pusC ((xs.take (k + 1)).map tPu)) ∧ w3.ownsRow w.heap.size 34 5 (.slice A2' (k + 1) c2') (k + 1) (prsC ((xs.take (k + 1)).map tPr)) ∧ Below w.heap.size w w3 := by
            obtain ⟨o1, o2, hW⟩ := hQ.out
            have hbZ := hb1.out.trans (hZ1.mono hb1.out.size)
            have oA := own_below o1 hbZ (Nat.le_refl _)
            have oB := own_below o2 hbZ (Nat.le_refl _)
            have hWZ := hW.trans (hbZ.mono hW.size)
            have hk9' := hk9.out
            obtain ⟨A1', c1', w2, hrun1, oA', hg1⟩ := pu_app ⟨T, fN, uN⟩ hl1 oA hWZ.size (by omega)
            have oB' := oB.kept hg1 (own_far oB oA (by decide))
            have hB2 := below_grown2 hWZ hg1 hWZ.size (own_ge oA)
            obtain ⟨A2', c2', w3, hrun2, oB2, hg2⟩ := pr_app ⟨(pickN P0 101 : Int), true, fN, uN, T⟩ hl2 oB' hB2.size (by omega)
            have oA2 := oA'.kept hg2 (own_far oA' oB' (by decide))
            have hB3 := below_grown2 hB2 hg2 hB2.size (own_ge oB')
            rw [hzz] at hrun1
            refine ⟨A1', c1', w2, A2', c2', w3, hrun1, hZf.grown hg1 (fun e => ?_), hrun2, ?_, ?_, hB3⟩
            · have := (o1.lt _ e.symm).2
              have := hb1.out.size
              omega
            · rw [ht1.out, show tPu ⟨F0, U0, P0, true, tx⟩ = ⟨T, fN, uN⟩ by unfold tPu; simp only; rw [hT.out, hfN.out, huN.out]]
              exact oA2
            · rw [ht2.out, show tPr ⟨F0, U0, P0, true, tx⟩ = ⟨(pickN P0 101 : Int), true, fN, uN, T⟩ by unfold tPr; simp only [if_true, if_false, Bool.false_eq_true]; rw [hT.out, hfN.out, huN.out]]
              exact oB2
          obtain ⟨A1', c1', w2, A2', c2', w3, hr1, hbk, hr2, hfin⟩ := hrows
          have r0 : w2.cell? ⟨Y.heap.size, 0, none⟩ = some (.int .i64 (pickN P0 101 : Int)) := hbk.cell 0
          have r1 : w2.cell? ⟨Y.heap.size, 1, none⟩ = some (.bool true) := hbk.cell 1
          have r2 : w2.cell? ⟨Y.heap.size, 2, none⟩ = some (.int .i64 fN) := hbk.cell 2
          have r3 : w2.cell? ⟨Y.heap.size, 3, none⟩ = some (.int .i64 uN) := hbk.cell 3
          have r4 : w2.cell? ⟨Y.heap.size, 4, none⟩ = some (.string T) := hbk.cell 4
          replace hr1 := Lib.hid hr1
          replace hr2 := Lib.hid hr2
          replace hfin := Lib.hid hfin
          clear hbk hZ1 hZf hzz hQ ht1 ht2 hl1 hl2 hT hfN huN
          go_wp2_with (at_builtin; first
            | (refine wpList_append_run rfl (.tmp 52) (.tmp 58) 22 rfl (.slice A1 k c1) _ _ rfl rfl hr1.out ?_)
            | (refine wpList_append_run rfl (.tmp 60) (.tmp 62) 32 rfl (.slice A2 k c2) _ _ rfl rfl hr2.out ?_))
          exact ⟨⟨k + 1, A1', A2', c1', c2', rfl, rfl, rfl, by have := hk9.out; omega, by have := hk9.out; omega, hfin⟩, by simp [intOf]; omega⟩
    · have hQ2 : Hid ((xs.take k) = xs.take 32 ∧ min n 32 = k) := by
        show _ ∧ _
        by_cases hkn : k < n
        · have : k = 32 := by omega
          subst this
          exact ⟨rfl, by omega⟩
        · have hn' := hn.out
          exact ⟨by rw [List.take_of_length_le (by omega), List.take_of_length_le (by omega)], by omega⟩
      by_cases hkn : k < n
      · have hk1 : (k : Int) < (n : Int) := by omega
        have hk2 : ¬ (k : Int) < 32 := by omega
        clear hk
        go_wp2_with (fail)
        go_returns
        unfold tsP tsR
        rw [hQ2.out.2, ← hQ2.out.1]
        exact ⟨⟨A1, c1, A2, c2, rfl, hQ.out.1, hQ.out.2.1⟩, hQ.out.2.2⟩
      · have hk1 : ¬ (k : Int) < (n : Int) := by omega
        clear hk
        go_wp2_with (fail)
        go_returns
        unfold tsP tsR
        rw [hQ2.out.2, ← hQ2.out.1]
        exact ⟨⟨A1, c1, A2, c2, rfl, hQ.out.1, hQ.out.2.1⟩, hQ.out.2.2⟩
end Go.Proofs.YtbhgjjicmbbjaaaDoor
