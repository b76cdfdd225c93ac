import Derived.Test.YtbhgjjicmbbjaaaDoorTrG
import Derived.Test.YtbhgjjicmbbjaaaDoorTrS
namespace Go.Proofs.YtbhgjjicmbbjaaaDoor
open Go.RowKit
set_option linter.unusedVariables false
set_option linter.unusedSimpArgs false
/-! chapter 17: lines, Public, Private (printed by gen_trh.py) -/
theorem linesL_len {X : Type} (bd : X → List UInt8) (M : Nat) : ∀ (l : List X) (i : Nat), (∀ x ∈ l, ∀ i, (lineL i (bd x)).length ≤ M) → (linesL bd i l).length ≤ l.length * M
  | [], _, _ => by simp [linesL]
  | x :: l, i, h => by
    have h1 := h x (by simp) i
    have h2 := linesL_len bd M l (i + 1) (fun y hy => h y (by simp [hy]))
    rw [linesL, List.length_append, List.length_cons, Nat.succ_mul]
    omega
theorem itoa_nat_len (i : Nat) (h : i ≤ 1000000) : (Lib.itoa (i : Int)).length ≤ 21 := itoa_len (n := (i : Int)) ⟨by omega, by omega⟩

/-- the row of tests in memory -/
def PuRow (w : World) (A : Option Addr) (xs : List Pu) : Prop := ∀ (i : Nat) (x : Pu), xs[i]? = some x → ∃ b off, A = some ⟨b, off, none⟩ ∧ b < w.heap.size ∧ w.cell? ⟨b, off + i * 3, none⟩ = some (.string x.out) ∧ w.cell? ⟨b, off + i * 3 + 1, none⟩ = some (.int .i64 x.fault) ∧ w.cell? ⟨b, off + i * 3 + 2, none⟩ = some (.int .i64 x.fuel)
theorem PuRow.bel {w w' : World} {A : Option Addr} {xs : List Pu} (h : PuRow w A xs) (hb : Below w.heap.size w w') : PuRow w' A xs := by
  intro i x hx
  obtain ⟨b, off, rfl, hl, c0, c1, c2⟩ := h i x hx
  exact ⟨b, off, rfl, Nat.lt_of_lt_of_le hl hb.size, (hb.cell (p := ⟨b, off + i * 3, none⟩) hl).trans c0, (hb.cell (p := ⟨b, off + i * 3 + 1, none⟩) hl).trans c1, (hb.cell (p := ⟨b, off + i * 3 + 2, none⟩) hl).trans c2⟩
theorem pu_len (x : Pu) (hx : puI x) : (puL x).length ≤ 1800000 := by
  unfold puI at hx
  unfold puL
  have l1 := wordL_len x.fault
  have l2 := itoa_len hx.2.1
  have l3 := quote_size x.out
  have l5 := hx.2.2
  simp only [List.length_append, List.length_singleton]
  omega
theorem line_pu_len (x : Pu) (hx : puI x) (i : Nat) (hi : i ≤ 1000000) : (lineL i (puL x)).length ≤ 2000000 := by
  have h1 := pu_len x hx
  have h2 := itoa_nat_len i hi
  unfold lineL
  simp only [List.length_append, List.length_singleton]
  omega
theorem lines_pu_len : ∀ (l : List Pu) (i : Nat), (∀ x ∈ l, puI x) → i + l.length ≤ 1000000 → (linesL puL i l).length ≤ l.length * 2000000
  | [], _, _, _ => by simp [linesL]
  | x :: l, i, h, hi => by
    rw [List.length_cons] at hi
    have h1 := line_pu_len x (h x (by simp)) i (by omega)
    have h2 := lines_pu_len l (i + 1) (fun y hy => h y (by simp [hy])) (by omega)
    rw [linesL, List.length_append, List.length_cons, Nat.succ_mul]
    omega
set_option maxRecDepth 100000 in
set_option maxHeartbeats 4000000 in
theorem lines_pu (A : Option Addr) (n c : Nat) (xs : List Pu) (w : World) (hM : Mk w) (hn : xs.length = n) (hr : PuRow w A xs) (hI : ∀ x ∈ xs, puI x) (hcap : n ≤ 140737488355328) :
    Calls Tryd.prog 26 #[.slice A n c, .func (.func 27) #[] #[]] w fun e w' => e = .returned (.tuple #[.string ⟨(writeT puOk puL xs).toArray⟩, .int .i64 (writeE puOk xs)]) ∧ Below w.heap.size w w' := by
  by_cases h32 : 32 < n
  · have e1 : writeT puOk puL xs = [] := by unfold writeT; rw [if_neg (by rw [hn]; omega)]
    have e2 : writeE puOk xs = 3 := by unfold writeE; rw [if_pos (by rw [hn]; omega)]
    rw [e1, e2]
    have h : (32 : Int) < (n : Int) := by omega
    clear hn hr hI hM e1 e2 h32
    go_enter Tryd.func26, Tryd.ntmps26
    go_wp2_with (fail)
    go_returns
    exact ⟨rfl, Below.refl _ _⟩
  · obtain ⟨T, hT⟩ : ∃ T : ByteArray, ⟨(writeT puOk puL xs).toArray⟩ = T := ⟨_, rfl⟩
    obtain ⟨E, hE⟩ : ∃ E, writeE puOk xs = E := ⟨_, rfl⟩
    rw [hT, hE]
    have h32' : ¬ (32 : Int) < (n : Int) := by omega
    have hend : (xs.take n).all puOk = true → E = 0 ∧ T = ⟨(linesL puL 1 xs).toArray⟩ := by
      rw [List.take_of_length_le (by omega)]
      intro h
      rw [← hE, ← hT]
      unfold writeE writeT
      rw [if_neg (by omega), if_pos h, if_pos ⟨by omega, h⟩]
      exact ⟨rfl, rfl⟩
    have hbad : ∀ x ∈ xs, puOk x = false → E = 1 ∧ T = ⟨#[]⟩ := by
      intro x hx h
      have ha : ¬ xs.all puOk = true := by
        intro h2
        have := List.all_eq_true.1 h2 x hx
        rw [h] at this
        cases this
      rw [← hE, ← hT]
      unfold writeE writeT
      rw [if_neg (by omega), if_neg ha, if_neg (fun h => ha h.2)]
      exact ⟨rfl, rfl⟩
    have hlen : ∀ k, k ≤ n → (linesL puL 1 (xs.take k)).length ≤ 64000000 := by
      intro k hk
      have h := lines_pu_len (xs.take k) 1 (fun x hx => hI x (List.mem_of_mem_take hx)) (by rw [List.length_take]; omega)
      rw [List.length_take] at h
      have : min k xs.length ≤ 32 := by omega
      have : min k xs.length * 2000000 ≤ 32 * 2000000 := Nat.mul_le_mul_right _ this
      omega
    have hb0 := (Below.refl w.heap.size w).alloc (Nat.le_refl _) (.cells #[.pointer none, .slice none 0 0] BT)
    have hbd : Lib.IsBuilder BT 5 w.heap.size w.heap.size (Lib.byteCells (linesL puL 1 (xs.take 0))) (w.alloc (.cells #[.pointer none, .slice none 0 0] BT)) :=
      .inl ⟨Nat.le_refl _, .slice none 0 0, Bk.fresh _ _ _, World.ownsRow_nil _ _ _ _, by simp [Value.ownBlock]⟩
    obtain ⟨X, hX⟩ : ∃ X, w.alloc (.cells #[.pointer none, .slice none 0 0] BT) = X := ⟨_, rfl⟩
    obtain ⟨g, hg⟩ : ∃ g, w.heap.size = g := ⟨_, rfl⟩
    rw [hX] at hb0 hbd
    rw [hg] at hbd
    unfold BT at hX
    replace hX := Lib.hid hX
    replace hE := Lib.hid hE
    replace hT := Lib.hid hT
    replace hend := Lib.hid hend
    replace hbad := Lib.hid hbad
    replace hlen := Lib.hid hlen
    replace hr := Lib.hid hr
    replace hI := Lib.hid hI
    rw [hg] at hb0
    have hst := Lib.hid (And.intro hbd hb0)
    have hmk := Lib.hid (fun W (h : Below g w W) => hM.bel (by rw [hg]; exact h))
    clear hM hb0 hbd h32
    replace hn := Lib.hid hn
    go_enter Tryd.func26, Tryd.ntmps26
    go_wp2_with (fail)
    try rw [hX.out]
    go_loopw [16] (fun x16 wr => ∃ k : Nat, x16 = .int .i64 k ∧ k ≤ n ∧ Hid ((xs.take k).all puOk = true ∧ Lib.IsBuilder BT 5 g g (Lib.byteCells (linesL puL 1 (xs.take k))) wr ∧ Below g w wr)) (fun x16 _ => n - (intOf x16).toNat)
    case atStart => exact ⟨0, rfl, Nat.zero_le _, Lib.hid ⟨rfl, hst.out.1, hst.out.2⟩⟩
    case round =>
      obtain ⟨k, rfl, hk0, hQ⟩ := hrel
      clear hst
      by_cases hk : k < n
      · obtain ⟨hall, hB, hW⟩ := hQ.out
        have hk' : (k : Int) < (n : Int) := by omega
        have hk3 : (k : Int) ≤ 32 := by omega
        have hk4 : (k : Int) + 1 ≤ 33 := by omega
        obtain ⟨x, hx⟩ : ∃ x, xs[k]? = some x := ⟨_, List.getElem?_eq_getElem (by rw [hn.out]; exact hk)⟩
        obtain ⟨b, off, rfl, hbl, c0, c1, c2⟩ := hr.out k x hx
        replace c0 := (hW.cell (p := ⟨b, off + k * 3, none⟩) (by rw [← hg]; exact hbl)).trans c0
        replace c1 := (hW.cell (p := ⟨b, off + k * 3 + 1, none⟩) (by rw [← hg]; exact hbl)).trans c1
        replace c2 := (hW.cell (p := ⟨b, off + k * 3 + 2, none⟩) (by rw [← hg]; exact hbl)).trans c2
        have hxm : x ∈ xs := List.mem_of_getElem? hx
        have hb1 := (Below.refl wr.heap.size wr).alloc (Nat.le_refl _) (.cells #[.string x.out, .int .i64 x.fault, .int .i64 x.fuel] 27)
        have hpu := public_any x (hI.out x hxm) (wr.alloc (.cells #[.string x.out, .int .i64 x.fault, .int .i64 x.fuel] 27)) ((hmk.out _ hW).bel hb1)
        have hB1 := isb_below hB hb1
        have hgw : g ≤ wr.heap.size := by have := hW.size; rw [hg] at this; exact this
        have hW1 := hW.trans (hb1.mono hgw)
        obtain ⟨Y, hY⟩ : ∃ Y, wr.alloc (.cells #[.string x.out, .int .i64 x.fault, .int .i64 x.fuel] 27) = Y := ⟨_, rfl⟩
        rw [hY] at hb1 hpu hB1 hW1
        unfold puV at hpu
        replace hpu := Lib.hid hpu
        replace hY := Lib.hid hY
        have hZ := Lib.hid (And.intro hB1 hW1)
        have htk : xs.take (k + 1) = xs.take k ++ [x] := by rw [List.take_add_one, hx]; rfl
        have hln : linesL puL 1 (xs.take (k + 1)) = linesL puL 1 (xs.take k) ++ lineL (k + 1) (puL x) := by
          rw [htk, linesL_push, List.length_take, Nat.min_eq_left (by rw [hn.out]; omega), Nat.add_comm 1 k]
        have hl1 := hlen.out k hk0
        have hl2 := pu_len x (hI.out x hxm)
        have hl3 := itoa_nat_len (k + 1) (by omega)
        have hit := Lib.hid (fun W (h : Mk W) => itoa_any ((k : Int) + 1) (by omega) (by omega) W h)
        have hcast : ((k + 1 : Nat) : Int) = (k : Int) + 1 := by omega
        rw [hcast] at hl3
        have d1 := cat_run ⟨(Lib.itoa ((k : Int) + 1)).toArray⟩ ⟨#[32]⟩ (by rw [ba_size]; show _ + 1 ≤ _; omega)
        have d2 := cat_run ⟨(Lib.itoa ((k : Int) + 1) ++ [32]).toArray⟩ ⟨(puL x).toArray⟩ (by rw [ba_size, ba_size, List.length_append, List.length_singleton]; omega)
        have d3 := cat_run ⟨(Lib.itoa ((k : Int) + 1) ++ [32] ++ puL x).toArray⟩ ⟨#[10]⟩ (by rw [ba_size, List.length_append, List.length_append, List.length_singleton]; show _ + 1 ≤ _; omega)
        rw [ba_list, show (⟨#[32]⟩ : ByteArray).data.toList = [32] from rfl] at d1
        rw [ba_list, ba_list] at d2
        rw [ba_list, show (⟨#[10]⟩ : ByteArray).data.toList = [10] from rfl] at d3
        have hle : Lib.itoa ((k : Int) + 1) ++ [32] ++ puL x ++ [10] = lineL (k + 1) (puL x) := by unfold lineL; rw [hcast]
        rw [hle] at d3
        have hwr := Lib.hid (fun W (h : Lib.IsBuilder BT 5 g g (Lib.byteCells (linesL puL 1 (xs.take k))) W) (hs : g ≤ W.heap.size) => bwrite_any g g (Lib.byteCells (linesL puL 1 (xs.take k))) ⟨(lineL (k + 1) (puL x)).toArray⟩ W h (by
          rw [Lib.byteCells_length, ba_size, ← hle]
          simp only [List.length_append, List.length_singleton]
          omega) hs)
        rw [cells_str, cells_cat, ← hln] at hwr
        obtain ⟨S0, e0⟩ : ∃ S : ByteArray, ⟨(Lib.itoa ((k : Int) + 1)).toArray⟩ = S := ⟨_, rfl⟩
        obtain ⟨S1, e1⟩ : ∃ S : ByteArray, ⟨(Lib.itoa ((k : Int) + 1) ++ [32]).toArray⟩ = S := ⟨_, rfl⟩
        obtain ⟨S2, e2⟩ : ∃ S : ByteArray, ⟨(Lib.itoa ((k : Int) + 1) ++ [32] ++ puL x).toArray⟩ = S := ⟨_, rfl⟩
        obtain ⟨S3, e3⟩ : ∃ S : ByteArray, ⟨(lineL (k + 1) (puL x)).toArray⟩ = S := ⟨_, rfl⟩
        obtain ⟨S4, e4⟩ : ∃ S : ByteArray, ⟨(puL x).toArray⟩ = S := ⟨_, rfl⟩
        simp only [e0, e1, e2, e3, e4] at d1 d2 d3 hit hwr hpu
        clear e0 e1 e2 e3 e4 hle hcast hl1 hl2 hl3 hln hB hW hb1 hB1 hW1 hbl
        cases hok : puOk x
        · rw [hok] at hpu
          obtain ⟨rfl, rfl⟩ := hbad.out x hxm hok
          replace hok := Lib.hid hok
          clear hQ hx hxm d1 d2 d3 hall htk hgw
          go_wp2_with (fail)
          try rw [hY.out]
          refine hpu.out.mono ?_
          rintro e w1_ ⟨rfl, hb⟩
          have hf := Lib.hid (hZ.out.2.trans (hb.mono (by have := hZ.out.2.size; rw [hg] at this; exact this)))
          clear hb
          go_wp2_with (fail)
          go_returns
          exact ⟨rfl, by rw [hg]; exact hf.out⟩
        · rw [hok] at hpu
          have hall2 : (xs.take (k + 1)).all puOk = true := by rw [htk, List.all_append, hall]; simp [hok]
          replace hok := Lib.hid hok
          replace hall2 := Lib.hid hall2
          replace hgw := Lib.hid hgw
          clear hQ hx hxm hall htk
          go_wp2_with (fail)
          try rw [hY.out]
          refine hpu.out.mono ?_
          rintro e w1_ ⟨rfl, hb⟩
          have g1 : g ≤ w1_.heap.size := by have h1 := hZ.out.2.size; have h2 := hb.size; rw [hg] at h1; omega
          have hZ2 := And.intro (isb_below hZ.out.1 hb) (hZ.out.2.trans (hb.mono (by have := hZ.out.2.size; rw [hg] at this; exact this)))
          replace hZ := Lib.hid hZ2
          replace g1 := Lib.hid g1
          clear hb hZ2
          go_wp2_with (fail)
          refine (hit.out _ (hmk.out _ hZ.out.2)).mono ?_
          rintro e w2_ ⟨rfl, hb⟩
          have g2 : g ≤ w2_.heap.size := Nat.le_trans g1.out hb.size
          have hZ2 := And.intro (isb_below hZ.out.1 hb) (hZ.out.2.trans (hb.mono g1.out))
          replace hZ := Lib.hid hZ2
          replace g2 := Lib.hid g2
          clear hb hZ2
          go_wp2_with (fail)
          refine (hwr.out _ hZ.out.1 g2.out).mono ?_
          rintro e w3_ ⟨rfl, hbd, hb⟩
          have hZ2 := Lib.hid (⟨hall2.out, hbd, hZ.out.2.trans hb⟩ : (xs.take (k + 1)).all puOk = true ∧ Lib.IsBuilder BT 5 g g (Lib.byteCells (linesL puL 1 (xs.take (k + 1)))) w3_ ∧ Below g w w3_)
          clear hb hbd
          go_wp2_with (fail)
          exact ⟨⟨k + 1, rfl, by omega, hZ2⟩, by simp [intOf]; omega⟩
      · have hk' : ¬ (k : Int) < (n : Int) := by omega
        obtain rfl : k = n := by omega
        obtain ⟨hall, hB, hW⟩ := hQ.out
        obtain ⟨rfl, hT0⟩ := hend.out hall
        rw [List.take_of_length_le (by rw [hn.out]; exact Nat.le_refl _)] at hB
        have hgw : g ≤ wr.heap.size := by have := hW.size; rw [hg] at this; exact this
        have hs := Tryd.Builder_String_any g g (linesL puL 1 xs) wr hB hgw
        rw [← hT0] at hs
        clear hT0
        replace hs := Lib.hid hs
        replace hW := Lib.hid hW
        clear hall hB hgw hQ
        go_wp2_with (fail)
        refine hs.out.mono ?_
        rintro e w1_ ⟨rfl, hb⟩
        go_wp2_with (fail)
        go_returns
        exact ⟨rfl, by rw [hg]; exact hW.out.trans hb⟩

/-- the row of tests in memory -/
def PrRow (w : World) (A : Option Addr) (xs : List Pr) : Prop := ∀ (i : Nat) (x : Pr), xs[i]? = some x → ∃ b off, A = some ⟨b, off, none⟩ ∧ b < w.heap.size ∧ w.cell? ⟨b, off + i * 5, none⟩ = some (.int .i64 x.points) ∧ w.cell? ⟨b, off + i * 5 + 1, none⟩ = some (.bool x.said) ∧ w.cell? ⟨b, off + i * 5 + 2, none⟩ = some (.int .i64 x.fault) ∧ w.cell? ⟨b, off + i * 5 + 3, none⟩ = some (.int .i64 x.fuel) ∧ w.cell? ⟨b, off + i * 5 + 4, none⟩ = some (.string x.log)
theorem PrRow.bel {w w' : World} {A : Option Addr} {xs : List Pr} (h : PrRow w A xs) (hb : Below w.heap.size w w') : PrRow w' A xs := by
  intro i x hx
  obtain ⟨b, off, rfl, hl, c0, c1, c2, c3, c4⟩ := h i x hx
  exact ⟨b, off, rfl, Nat.lt_of_lt_of_le hl hb.size, (hb.cell (p := ⟨b, off + i * 5, none⟩) hl).trans c0, (hb.cell (p := ⟨b, off + i * 5 + 1, none⟩) hl).trans c1, (hb.cell (p := ⟨b, off + i * 5 + 2, none⟩) hl).trans c2, (hb.cell (p := ⟨b, off + i * 5 + 3, none⟩) hl).trans c3, (hb.cell (p := ⟨b, off + i * 5 + 4, none⟩) hl).trans c4⟩
theorem pr_len (x : Pr) (hx : prI x) : (prL x).length ≤ 1800000 := by
  unfold prI at hx
  unfold prL
  have l1 := wordL_len x.fault
  have l2 := itoa_len hx.2.2.1
  have l3 := quote_size x.log
  have l5 := hx.2.2.2
  have l4 : (ptL x).length ≤ 21 := by
    unfold ptL
    split
    · exact itoa_len hx.1
    · simp
  simp only [List.length_append, List.length_singleton]
  omega
theorem line_pr_len (x : Pr) (hx : prI x) (i : Nat) (hi : i ≤ 1000000) : (lineL i (prL x)).length ≤ 2000000 := by
  have h1 := pr_len x hx
  have h2 := itoa_nat_len i hi
  unfold lineL
  simp only [List.length_append, List.length_singleton]
  omega
theorem lines_pr_len : ∀ (l : List Pr) (i : Nat), (∀ x ∈ l, prI x) → i + l.length ≤ 1000000 → (linesL prL i l).length ≤ l.length * 2000000
  | [], _, _, _ => by simp [linesL]
  | x :: l, i, h, hi => by
    rw [List.length_cons] at hi
    have h1 := line_pr_len x (h x (by simp)) i (by omega)
    have h2 := lines_pr_len l (i + 1) (fun y hy => h y (by simp [hy])) (by omega)
    rw [linesL, List.length_append, List.length_cons, Nat.succ_mul]
    omega
set_option maxRecDepth 100000 in
set_option maxHeartbeats 4000000 in
theorem lines_pr (A : Option Addr) (n c : Nat) (xs : List Pr) (w : World) (hM : Mk w) (hn : xs.length = n) (hr : PrRow w A xs) (hI : ∀ x ∈ xs, prI x) (hcap : n ≤ 140737488355328) :
    Calls Tryd.prog 31 #[.slice A n c, .func (.func 32) #[] #[]] w fun e w' => e = .returned (.tuple #[.string ⟨(writeT prOk prL xs).toArray⟩, .int .i64 (writeE prOk xs)]) ∧ Below w.heap.size w w' := by
  by_cases h32 : 32 < n
  · have e1 : writeT prOk prL xs = [] := by unfold writeT; rw [if_neg (by rw [hn]; omega)]
    have e2 : writeE prOk xs = 3 := by unfold writeE; rw [if_pos (by rw [hn]; omega)]
    rw [e1, e2]
    have h : (32 : Int) < (n : Int) := by omega
    clear hn hr hI hM e1 e2 h32
    go_enter Tryd.func31, Tryd.ntmps31
    go_wp2_with (fail)
    go_returns
    exact ⟨rfl, Below.refl _ _⟩
  · obtain ⟨T, hT⟩ : ∃ T : ByteArray, ⟨(writeT prOk prL xs).toArray⟩ = T := ⟨_, rfl⟩
    obtain ⟨E, hE⟩ : ∃ E, writeE prOk xs = E := ⟨_, rfl⟩
    rw [hT, hE]
    have h32' : ¬ (32 : Int) < (n : Int) := by omega
    have hend : (xs.take n).all prOk = true → E = 0 ∧ T = ⟨(linesL prL 1 xs).toArray⟩ := by
      rw [List.take_of_length_le (by omega)]
      intro h
      rw [← hE, ← hT]
      unfold writeE writeT
      rw [if_neg (by omega), if_pos h, if_pos ⟨by omega, h⟩]
      exact ⟨rfl, rfl⟩
    have hbad : ∀ x ∈ xs, prOk x = false → E = 1 ∧ T = ⟨#[]⟩ := by
      intro x hx h
      have ha : ¬ xs.all prOk = true := by
        intro h2
        have := List.all_eq_true.1 h2 x hx
        rw [h] at this
        cases this
      rw [← hE, ← hT]
      unfold writeE writeT
      rw [if_neg (by omega), if_neg ha, if_neg (fun h => ha h.2)]
      exact ⟨rfl, rfl⟩
    have hlen : ∀ k, k ≤ n → (linesL prL 1 (xs.take k)).length ≤ 64000000 := by
      intro k hk
      have h := lines_pr_len (xs.take k) 1 (fun x hx => hI x (List.mem_of_mem_take hx)) (by rw [List.length_take]; omega)
      rw [List.length_take] at h
      have : min k xs.length ≤ 32 := by omega
      have : min k xs.length * 2000000 ≤ 32 * 2000000 := Nat.mul_le_mul_right _ this
      omega
    have hb0 := (Below.refl w.heap.size w).alloc (Nat.le_refl _) (.cells #[.pointer none, .slice none 0 0] BT)
    have hbd : Lib.IsBuilder BT 5 w.heap.size w.heap.size (Lib.byteCells (linesL prL 1 (xs.take 0))) (w.alloc (.cells #[.pointer none, .slice none 0 0] BT)) :=
      .inl ⟨Nat.le_refl _, .slice none 0 0, Bk.fresh _ _ _, World.ownsRow_nil _ _ _ _, by simp [Value.ownBlock]⟩
    obtain ⟨X, hX⟩ : ∃ X, w.alloc (.cells #[.pointer none, .slice none 0 0] BT) = X := ⟨_, rfl⟩
    obtain ⟨g, hg⟩ : ∃ g, w.heap.size = g := ⟨_, rfl⟩
    rw [hX] at hb0 hbd
    rw [hg] at hbd
    unfold BT at hX
    replace hX := Lib.hid hX
    replace hE := Lib.hid hE
    replace hT := Lib.hid hT
    replace hend := Lib.hid hend
    replace hbad := Lib.hid hbad
    replace hlen := Lib.hid hlen
    replace hr := Lib.hid hr
    replace hI := Lib.hid hI
    rw [hg] at hb0
    have hst := Lib.hid (And.intro hbd hb0)
    have hmk := Lib.hid (fun W (h : Below g w W) => hM.bel (by rw [hg]; exact h))
    clear hM hb0 hbd h32
    replace hn := Lib.hid hn
    go_enter Tryd.func31, Tryd.ntmps31
    go_wp2_with (fail)
    try rw [hX.out]
    go_loopw [16] (fun x16 wr => ∃ k : Nat, x16 = .int .i64 k ∧ k ≤ n ∧ Hid ((xs.take k).all prOk = true ∧ Lib.IsBuilder BT 5 g g (Lib.byteCells (linesL prL 1 (xs.take k))) wr ∧ Below g w wr)) (fun x16 _ => n - (intOf x16).toNat)
    case atStart => exact ⟨0, rfl, Nat.zero_le _, Lib.hid ⟨rfl, hst.out.1, hst.out.2⟩⟩
    case round =>
      obtain ⟨k, rfl, hk0, hQ⟩ := hrel
      clear hst
      by_cases hk : k < n
      · obtain ⟨hall, hB, hW⟩ := hQ.out
        have hk' : (k : Int) < (n : Int) := by omega
        have hk3 : (k : Int) ≤ 32 := by omega
        have hk4 : (k : Int) + 1 ≤ 33 := by omega
        obtain ⟨x, hx⟩ : ∃ x, xs[k]? = some x := ⟨_, List.getElem?_eq_getElem (by rw [hn.out]; exact hk)⟩
        obtain ⟨b, off, rfl, hbl, c0, c1, c2, c3, c4⟩ := hr.out k x hx
        replace c0 := (hW.cell (p := ⟨b, off + k * 5, none⟩) (by rw [← hg]; exact hbl)).trans c0
        replace c1 := (hW.cell (p := ⟨b, off + k * 5 + 1, none⟩) (by rw [← hg]; exact hbl)).trans c1
        replace c2 := (hW.cell (p := ⟨b, off + k * 5 + 2, none⟩) (by rw [← hg]; exact hbl)).trans c2
        replace c3 := (hW.cell (p := ⟨b, off + k * 5 + 3, none⟩) (by rw [← hg]; exact hbl)).trans c3
        replace c4 := (hW.cell (p := ⟨b, off + k * 5 + 4, none⟩) (by rw [← hg]; exact hbl)).trans c4
        have hxm : x ∈ xs := List.mem_of_getElem? hx
        have hb1 := (Below.refl wr.heap.size wr).alloc (Nat.le_refl _) (.cells #[.int .i64 x.points, .bool x.said, .int .i64 x.fault, .int .i64 x.fuel, .string x.log] 34)
        have hpu := private_any x (hI.out x hxm) (wr.alloc (.cells #[.int .i64 x.points, .bool x.said, .int .i64 x.fault, .int .i64 x.fuel, .string x.log] 34)) ((hmk.out _ hW).bel hb1)
        have hB1 := isb_below hB hb1
        have hgw : g ≤ wr.heap.size := by have := hW.size; rw [hg] at this; exact this
        have hW1 := hW.trans (hb1.mono hgw)
        obtain ⟨Y, hY⟩ : ∃ Y, wr.alloc (.cells #[.int .i64 x.points, .bool x.said, .int .i64 x.fault, .int .i64 x.fuel, .string x.log] 34) = Y := ⟨_, rfl⟩
        rw [hY] at hb1 hpu hB1 hW1
        unfold prV at hpu
        replace hpu := Lib.hid hpu
        replace hY := Lib.hid hY
        have hZ := Lib.hid (And.intro hB1 hW1)
        have htk : xs.take (k + 1) = xs.take k ++ [x] := by rw [List.take_add_one, hx]; rfl
        have hln : linesL prL 1 (xs.take (k + 1)) = linesL prL 1 (xs.take k) ++ lineL (k + 1) (prL x) := by
          rw [htk, linesL_push, List.length_take, Nat.min_eq_left (by rw [hn.out]; omega), Nat.add_comm 1 k]
        have hl1 := hlen.out k hk0
        have hl2 := pr_len x (hI.out x hxm)
        have hl3 := itoa_nat_len (k + 1) (by omega)
        have hit := Lib.hid (fun W (h : Mk W) => itoa_any ((k : Int) + 1) (by omega) (by omega) W h)
        have hcast : ((k + 1 : Nat) : Int) = (k : Int) + 1 := by omega
        rw [hcast] at hl3
        have d1 := cat_run ⟨(Lib.itoa ((k : Int) + 1)).toArray⟩ ⟨#[32]⟩ (by rw [ba_size]; show _ + 1 ≤ _; omega)
        have d2 := cat_run ⟨(Lib.itoa ((k : Int) + 1) ++ [32]).toArray⟩ ⟨(prL x).toArray⟩ (by rw [ba_size, ba_size, List.length_append, List.length_singleton]; omega)
        have d3 := cat_run ⟨(Lib.itoa ((k : Int) + 1) ++ [32] ++ prL x).toArray⟩ ⟨#[10]⟩ (by rw [ba_size, List.length_append, List.length_append, List.length_singleton]; show _ + 1 ≤ _; omega)
        rw [ba_list, show (⟨#[32]⟩ : ByteArray).data.toList = [32] from rfl] at d1
        rw [ba_list, ba_list] at d2
        rw [ba_list, show (⟨#[10]⟩ : ByteArray).data.toList = [10] from rfl] at d3
        have hle : Lib.itoa ((k : Int) + 1) ++ [32] ++ prL x ++ [10] = lineL (k + 1) (prL x) := by unfold lineL; rw [hcast]
        rw [hle] at d3
        have hwr := Lib.hid (fun W (h : Lib.IsBuilder BT 5 g g (Lib.byteCells (linesL prL 1 (xs.take k))) W) (hs : g ≤ W.heap.size) => bwrite_any g g (Lib.byteCells (linesL prL 1 (xs.take k))) ⟨(lineL (k + 1) (prL x)).toArray⟩ W h (by
          rw [Lib.byteCells_length, ba_size, ← hle]
          simp only [List.length_append, List.length_singleton]
          omega) hs)
        rw [cells_str, cells_cat, ← hln] at hwr
        obtain ⟨S0, e0⟩ : ∃ S : ByteArray, ⟨(Lib.itoa ((k : Int) + 1)).toArray⟩ = S := ⟨_, rfl⟩
        obtain ⟨S1, e1⟩ : ∃ S : ByteArray, ⟨(Lib.itoa ((k : Int) + 1) ++ [32]).toArray⟩ = S := ⟨_, rfl⟩
        obtain ⟨S2, e2⟩ : ∃ S : ByteArray, ⟨(Lib.itoa ((k : Int) + 1) ++ [32] ++ prL x).toArray⟩ = S := ⟨_, rfl⟩
        obtain ⟨S3, e3⟩ : ∃ S : ByteArray, ⟨(lineL (k + 1) (prL x)).toArray⟩ = S := ⟨_, rfl⟩
        obtain ⟨S4, e4⟩ : ∃ S : ByteArray, ⟨(prL x).toArray⟩ = S := ⟨_, rfl⟩
        simp only [e0, e1, e2, e3, e4] at d1 d2 d3 hit hwr hpu
        clear e0 e1 e2 e3 e4 hle hcast hl1 hl2 hl3 hln hB hW hb1 hB1 hW1 hbl
        cases hok : prOk x
        · rw [hok] at hpu
          obtain ⟨rfl, rfl⟩ := hbad.out x hxm hok
          replace hok := Lib.hid hok
          clear hQ hx hxm d1 d2 d3 hall htk hgw
          go_wp2_with (fail)
          try rw [hY.out]
          refine hpu.out.mono ?_
          rintro e w1_ ⟨rfl, hb⟩
          have hf := Lib.hid (hZ.out.2.trans (hb.mono (by have := hZ.out.2.size; rw [hg] at this; exact this)))
          clear hb
          go_wp2_with (fail)
          go_returns
          exact ⟨rfl, by rw [hg]; exact hf.out⟩
        · rw [hok] at hpu
          have hall2 : (xs.take (k + 1)).all prOk = true := by rw [htk, List.all_append, hall]; simp [hok]
          replace hok := Lib.hid hok
          replace hall2 := Lib.hid hall2
          replace hgw := Lib.hid hgw
          clear hQ hx hxm hall htk
          go_wp2_with (fail)
          try rw [hY.out]
          refine hpu.out.mono ?_
          rintro e w1_ ⟨rfl, hb⟩
          have g1 : g ≤ w1_.heap.size := by have h1 := hZ.out.2.size; have h2 := hb.size; rw [hg] at h1; omega
          have hZ2 := And.intro (isb_below hZ.out.1 hb) (hZ.out.2.trans (hb.mono (by have := hZ.out.2.size; rw [hg] at this; exact this)))
          replace hZ := Lib.hid hZ2
          replace g1 := Lib.hid g1
          clear hb hZ2
          go_wp2_with (fail)
          refine (hit.out _ (hmk.out _ hZ.out.2)).mono ?_
          rintro e w2_ ⟨rfl, hb⟩
          have g2 : g ≤ w2_.heap.size := Nat.le_trans g1.out hb.size
          have hZ2 := And.intro (isb_below hZ.out.1 hb) (hZ.out.2.trans (hb.mono g1.out))
          replace hZ := Lib.hid hZ2
          replace g2 := Lib.hid g2
          clear hb hZ2
          go_wp2_with (fail)
          refine (hwr.out _ hZ.out.1 g2.out).mono ?_
          rintro e w3_ ⟨rfl, hbd, hb⟩
          have hZ2 := Lib.hid (⟨hall2.out, hbd, hZ.out.2.trans hb⟩ : (xs.take (k + 1)).all prOk = true ∧ Lib.IsBuilder BT 5 g g (Lib.byteCells (linesL prL 1 (xs.take (k + 1)))) w3_ ∧ Below g w w3_)
          clear hb hbd
          go_wp2_with (fail)
          exact ⟨⟨k + 1, rfl, by omega, hZ2⟩, by simp [intOf]; omega⟩
      · have hk' : ¬ (k : Int) < (n : Int) := by omega
        obtain rfl : k = n := by omega
        obtain ⟨hall, hB, hW⟩ := hQ.out
        obtain ⟨rfl, hT0⟩ := hend.out hall
        rw [List.take_of_length_le (by rw [hn.out]; exact Nat.le_refl _)] at hB
        have hgw : g ≤ wr.heap.size := by have := hW.size; rw [hg] at this; exact this
        have hs := Tryd.Builder_String_any g g (linesL prL 1 xs) wr hB hgw
        rw [← hT0] at hs
        clear hT0
        replace hs := Lib.hid hs
        replace hW := Lib.hid hW
        clear hall hB hgw hQ
        go_wp2_with (fail)
        refine hs.out.mono ?_
        rintro e w1_ ⟨rfl, hb⟩
        go_wp2_with (fail)
        go_returns
        exact ⟨rfl, by rw [hg]; exact hW.out.trans hb⟩
end Go.Proofs.YtbhgjjicmbbjaaaDoor
