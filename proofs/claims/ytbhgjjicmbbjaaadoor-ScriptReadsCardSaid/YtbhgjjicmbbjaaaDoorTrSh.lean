import Derived.Test.YtbhgjjicmbbjaaaDoorTrP
import Derived.Test.YtbhgjjicmbbjaaaDoorTrI
namespace Go.Proofs.YtbhgjjicmbbjaaaDoor
open Go.RowKit
set_option linter.unusedVariables false
set_option linter.unusedSimpArgs false
/-! chapter 17: the examples -/
theorem it1 (n : Nat) (h : n < 10) : Lib.itoa (n : Int) = [UInt8.ofNat (48 + n)] := by rw [itoa_nat, Lib.decDigits_one h]
theorem it2 (n : Nat) (h1 : ¬ n < 10) (h2 : n < 100) : Lib.itoa (n : Int) = [UInt8.ofNat (48 + n / 10), UInt8.ofNat (48 + n % 10)] := by rw [itoa_nat, Lib.decDigits_two h1 h2]
def ex1 : List Pu := [⟨⟨#[53, 32]⟩, 0, 15⟩, ⟨⟨#[97, 34, 10]⟩, 7, 0⟩]
def ex1L : List UInt8 := [49, 32, 111, 107, 32, 49, 53, 32, 34, 53, 32, 34, 10, 50, 32, 100, 105, 118, 32, 48, 32, 34, 97, 92, 120, 50, 50, 92, 120, 48, 97, 34, 10]
theorem ex1_lines : linesL puL 1 ex1 = ex1L := by
  have a1 := it1 1 (by decide)
  have a2 := it1 2 (by decide)
  have a3 := it2 15 (by decide) (by decide)
  have a4 := it1 0 (by decide)
  unfold ex1 linesL linesL linesL lineL puL
  simp only at a1 a2 a3 a4 ⊢
  rw [show ((1 : Nat) : Int) = 1 from rfl] at a1
  rw [show ((1 + 1 : Nat) : Int) = ((2 : Nat) : Int) from rfl, a2, show ((1 : Nat) : Int) = 1 from rfl, a1, show (15 : Int) = ((15 : Nat) : Int) from rfl, a3, show Lib.itoa 0 = Lib.itoa ((0 : Nat) : Int) from rfl, a4]
  decide +kernel
theorem ex1_ok : ex1.all puOk = true := by decide +kernel
def ex2 : List Pr := [⟨42, true, 0, 20, ⟨#[108]⟩⟩]
def ex2L : List UInt8 := [49, 32, 111, 107, 32, 50, 48, 32, 52, 50, 32, 34, 108, 34, 10]
theorem ex2_lines : linesL prL 1 ex2 = ex2L := by
  have a1 := it1 1 (by decide)
  have a3 := it2 20 (by decide) (by decide)
  have a4 := it2 42 (by decide) (by decide)
  unfold ex2 linesL linesL lineL prL ptL
  simp only [if_true] at a1 a3 a4 ⊢
  rw [show ((1 : Nat) : Int) = 1 from rfl] at a1
  rw [show ((1 : Nat) : Int) = 1 from rfl, a1, show (20 : Int) = ((20 : Nat) : Int) from rfl, a3, show Lib.itoa 42 = Lib.itoa ((42 : Nat) : Int) from rfl, a4]
  decide +kernel
theorem ex2_ok : ex2.all prOk = true := by decide +kernel
def ex3 : List Pr := [⟨42, true, 0, 0, ⟨#[]⟩⟩, ⟨7, true, 0, 0, ⟨#[]⟩⟩, ⟨0, false, 0, 0, ⟨#[]⟩⟩]
theorem ex3_pts : ptsP ex3 = (49, 2) := by decide +kernel
theorem writeT_ok {X : Type} {ok : X → Bool} {bd : X → List UInt8} {l : List X} (h : l.length ≤ 32) (ho : l.all ok = true) : writeT ok bd l = linesL bd 1 l ∧ writeE ok l = 0 := by
  unfold writeT writeE
  rw [if_pos ⟨h, ho⟩, if_neg (by omega), if_pos ho]
  exact ⟨rfl, rfl⟩
theorem flat_at {α : Type} (f : α → List Value) (sz : Nat) (hf : ∀ x, (f x).length = sz) : ∀ (X : List α) (i : Nat) (x : α), X[i]? = some x → ∀ j, j < sz → (X.flatMap f)[i * sz + j]? = (f x)[j]?
  | [], i, x, h, j, hj => by simp at h
  | y :: X, 0, x, h, j, hj => by
    simp at h
    subst h
    rw [List.flatMap_cons, List.getElem?_append_left (by rw [hf]; omega)]
    simp
  | y :: X, i + 1, x, h, j, hj => by
    rw [List.flatMap_cons, List.getElem?_append_right (by rw [hf, Nat.succ_mul]; omega), hf, show (i + 1) * sz + j - sz = i * sz + j by rw [Nat.succ_mul]; omega]
    exact flat_at f sz hf X i x (by simpa using h) j hj
theorem puRow_of {w : World} {b : Nat} {xs : List Pu} (h : Bk w b 27 (pusC xs).toArray) : PuRow w (some ⟨b, 0, none⟩) xs := by
  intro i x hx
  have key := fun j hj => (h.cell (i * 3 + j)).trans ((by simp : (pusC xs).toArray[i * 3 + j]? = (pusC xs)[i * 3 + j]?).trans (flat_at puC 3 (fun _ => rfl) xs i x hx j hj))
  refine ⟨b, 0, rfl, h.lt, ?_⟩
  simp only [Nat.zero_add]
  exact ⟨key 0 (by decide), key 1 (by decide), key 2 (by decide)⟩
theorem puRow_own {w : World} {base : Nat} {A : Option Addr} {n c : Nat} {xs : List Pu} (h : w.ownsRow base 27 3 (.slice A n c) n (pusC xs)) (hn : xs.length = n) : PuRow w A xs := by
  intro i x hx
  have hlt := (List.getElem?_eq_some_iff.1 hx).1
  rcases h.2 with ⟨e, h0⟩ | ⟨g, cap, cur, e, hb, hh, _⟩
  · omega
  · injection e with e1 _ e2
    subst e1
    have key := fun j hj => h.cells (g := g) rfl (i * 3 + j) _ (flat_at puC 3 (fun _ => rfl) xs i x hx j hj |>.trans (List.getElem?_eq_getElem (by rw [show (puC x).length = 3 from rfl]; exact hj)))
    have ea : ∀ j, ((⟨g, 0, none⟩ : Addr).add j) = ⟨g, j, none⟩ := fun j => by unfold Addr.add; split <;> simp_all
    simp only [ea] at key
    refine ⟨g, 0, rfl, (Array.getElem?_eq_some_iff.1 hh).1, ?_⟩
    simp only [Nat.zero_add]
    exact ⟨key 0 (by decide), key 1 (by decide), key 2 (by decide)⟩
theorem prRow_of {w : World} {b : Nat} {xs : List Pr} (h : Bk w b 34 (prsC xs).toArray) : PrRow w (some ⟨b, 0, none⟩) xs := by
  intro i x hx
  have key := fun j hj => (h.cell (i * 5 + j)).trans ((by simp : (prsC xs).toArray[i * 5 + j]? = (prsC xs)[i * 5 + j]?).trans (flat_at prC 5 (fun _ => rfl) xs i x hx j hj))
  refine ⟨b, 0, rfl, h.lt, ?_⟩
  simp only [Nat.zero_add]
  exact ⟨key 0 (by decide), key 1 (by decide), key 2 (by decide), key 3 (by decide), key 4 (by decide)⟩
theorem prRow_own {w : World} {base : Nat} {A : Option Addr} {n c : Nat} {xs : List Pr} (h : w.ownsRow base 34 5 (.slice A n c) n (prsC xs)) (hn : xs.length = n) : PrRow w A xs := by
  intro i x hx
  have hlt := (List.getElem?_eq_some_iff.1 hx).1
  rcases h.2 with ⟨e, h0⟩ | ⟨g, cap, cur, e, hb, hh, _⟩
  · omega
  · injection e with e1 _ e2
    subst e1
    have key := fun j hj => h.cells (g := g) rfl (i * 5 + j) _ (flat_at prC 5 (fun _ => rfl) xs i x hx j hj |>.trans (List.getElem?_eq_getElem (by rw [show (prC x).length = 5 from rfl]; exact hj)))
    have ea : ∀ j, ((⟨g, 0, none⟩ : Addr).add j) = ⟨g, j, none⟩ := fun j => by unfold Addr.add; split <;> simp_all
    simp only [ea] at key
    refine ⟨g, 0, rfl, (Array.getElem?_eq_some_iff.1 hh).1, ?_⟩
    simp only [Nat.zero_add]
    exact ⟨key 0 (by decide), key 1 (by decide), key 2 (by decide), key 3 (by decide), key 4 (by decide)⟩
theorem exs_row {w w' : World} (hb : Below w.heap.size w w') (h : Mk w) : Mk w' := h.bel hb
set_option maxRecDepth 100000 in
set_option maxHeartbeats 4000000 in
theorem shown_any (w : World) (hM : Mk w) : Calls Tryd.prog 10 #[] w fun e w' => e = .returned (.bool true) ∧ Below w.heap.size w w' := by
  have hmk := Lib.hid (fun W (h : Below w.heap.size w W) => hM.bel h)
  have hw1 := writeT_ok (ok := puOk) (bd := puL) (l := ex1) (by decide) ex1_ok
  have hw2 := writeT_ok (ok := prOk) (bd := prL) (l := ex2) (by decide) ex2_ok
  rw [ex1_lines] at hw1
  rw [ex2_lines] at hw2
  have hI1 : ∀ x ∈ ex1, puI x := fun x hx => puOk_I (List.all_eq_true.1 ex1_ok x hx)
  have hI2 : ∀ x ∈ ex2, prI x := fun x hx => prOk_I (List.all_eq_true.1 ex2_ok x hx)
  have q1 := Lib.hid (fun (W : World) (hb : Below w.heap.size w W) => by
    have h := Public_any (some ⟨W.heap.size, 0, none⟩) 2 2 ex1 (W.alloc (.cells (pusC ex1).toArray 27)) ((hM.bel hb).bel ((Below.refl _ _).alloc (Nat.le_refl _) _)) rfl (puRow_of (Bk.fresh W _ _)) hI1 (by decide)
    rw [hw1.1, hw1.2] at h
    exact (h.mono (R' := fun e w' => e = .returned (.tuple #[.string ⟨ex1L.toArray⟩, .int .i64 0]) ∧ Below W.heap.size W w') (fun e w' h => ⟨h.1, ((Below.refl W.heap.size W).alloc (Nat.le_refl _) _).trans (h.2.mono (by simp))⟩)))
  have q2 := Lib.hid (fun (W : World) (hb : Below w.heap.size w W) => by
    have h := Private_any (some ⟨W.heap.size, 0, none⟩) 1 1 ex2 (W.alloc (.cells (prsC ex2).toArray 34)) ((hM.bel hb).bel ((Below.refl _ _).alloc (Nat.le_refl _) _)) rfl (prRow_of (Bk.fresh W _ _)) hI2 (by decide)
    rw [hw2.1, hw2.2] at h
    exact (h.mono (R' := fun e w' => e = .returned (.tuple #[.string ⟨ex2L.toArray⟩, .int .i64 0]) ∧ Below W.heap.size W w') (fun e w' h => ⟨h.1, ((Below.refl W.heap.size W).alloc (Nat.le_refl _) _).trans (h.2.mono (by simp))⟩)))
  have q3 := Lib.hid (fun (W : World) (hb : Below w.heap.size w W) => by
    have h := ReadPublic_any ⟨ex1L.toArray⟩ (by decide) W (hM.bel hb)
    rw [show (⟨ex1L.toArray⟩ : ByteArray).data.toList = linesL puL 1 ex1 by rw [ex1_lines], show readS puOk puL (linesL puL 1 ex1) = .got ex1 from readN_lines kind_pu ex1 32 1 (by decide) ex1_ok] at h
    exact (h.mono (R' := fun e w' => (∃ A c, e = .returned (.tuple #[.slice A 2 c, .int .i64 0, .int .i64 0])) ∧ Below W.heap.size W w') (fun e w' h => by
      obtain ⟨⟨v, rfl, A, c, rfl, _⟩, hb⟩ := h
      exact ⟨⟨A, c, rfl⟩, hb⟩)))
  have q4 := Lib.hid (fun (W : World) (hb : Below w.heap.size w W) => by
    have h := points_any (some ⟨W.heap.size, 0, none⟩) 3 3 ex3 (W.alloc (.cells (prsC ex3).toArray 34)) rfl (prRow_of (Bk.fresh W _ _)) (by decide)
    rw [ex3_pts] at h
    exact (h.mono (R' := fun e w' => e = .returned (.tuple #[.int .i64 49, .int .i64 2]) ∧ Below W.heap.size W w') (fun e w' h => ⟨h.1, ((Below.refl W.heap.size W).alloc (Nat.le_refl _) _).trans (h.2.mono (by simp))⟩)))
  have q5 := Lib.hid (fun (W : World) (hb : Below w.heap.size w W) => word_any 11 W (hM.bel hb))
  rw [show wordB 11 = ⟨#[99, 97, 112]⟩ from rfl] at q5
  simp only [show (pusC ex1).toArray = #[.string ⟨#[53, 32]⟩, .int .i64 0, .int .i64 15, .string ⟨#[97, 34, 10]⟩, .int .i64 7, .int .i64 0] from rfl] at q1
  simp only [show (prsC ex2).toArray = #[.int .i64 42, .bool true, .int .i64 0, .int .i64 20, .string ⟨#[108]⟩] from rfl] at q2
  simp only [show (prsC ex3).toArray = #[.int .i64 42, .bool true, .int .i64 0, .int .i64 0, .string ⟨#[]⟩, .int .i64 7, .bool true, .int .i64 0, .int .i64 0, .string ⟨#[]⟩, .int .i64 0, .bool false, .int .i64 0, .int .i64 0, .string ⟨#[]⟩] from rfl] at q4
  obtain ⟨S1, hS1⟩ : ∃ S : ByteArray, ⟨ex1L.toArray⟩ = S := ⟨_, rfl⟩
  obtain ⟨S2, hS2⟩ : ∃ S : ByteArray, ⟨ex2L.toArray⟩ = S := ⟨_, rfl⟩
  have t1 : S1.toList = ex1L := by rw [← hS1, Lib.toList_data]
  have t2 : S2.toList = ex2L := by rw [← hS2, Lib.toList_data]
  unfold ex1L at t1
  unfold ex2L at t2
  rw [hS1] at q1 q3
  rw [hS2] at q2
  have hB := Lib.hid (Below.refl w.heap.size w)
  clear hM hw1 hw2 hI1 hI2 hS1 hS2
  go_enter Tryd.func10, Tryd.ntmps10
  go_wp2_with (fail)
  refine (q1.out w hB.out).mono ?_
  rintro e w1 ⟨rfl, hb⟩
  replace hB := Lib.hid (hB.out.trans (hb.mono hB.out.size))
  clear hb q1
  go_wp2_with (fail)
  refine (q2.out w1 hB.out).mono ?_
  rintro e w2 ⟨rfl, hb⟩
  replace hB := Lib.hid (hB.out.trans (hb.mono hB.out.size))
  clear hb q2
  go_wp2_with (fail)
  refine (q3.out w2 hB.out).mono ?_
  rintro e w3 ⟨⟨A, c, rfl⟩, hb⟩
  replace hB := Lib.hid (hB.out.trans (hb.mono hB.out.size))
  clear hb q3
  go_wp2_with (fail)
  refine (q4.out w3 hB.out).mono ?_
  rintro e w4 ⟨rfl, hb⟩
  replace hB := Lib.hid (hB.out.trans (hb.mono hB.out.size))
  clear hb q4
  go_wp2_with (fail)
  refine (q5.out w4 hB.out).mono ?_
  rintro e w5 ⟨rfl, hb⟩
  replace hB := Lib.hid (hB.out.trans (hb.mono hB.out.size))
  clear hb q5
  go_wp2_with (fail)
  go_returns
  exact ⟨rfl, hB.out⟩
theorem long_any (n : Int) (w : World) : Calls Tryd.prog 11 #[.int .i64 n] w fun e w' => e = .returned (.bool (decide (200000 < n))) ∧ w' = w := by
  go_enter Tryd.func11, Tryd.ntmps11
  go_wp2_with (fail)
  go_returns
  exact ⟨rfl, rfl⟩
end Go.Proofs.YtbhgjjicmbbjaaaDoor
