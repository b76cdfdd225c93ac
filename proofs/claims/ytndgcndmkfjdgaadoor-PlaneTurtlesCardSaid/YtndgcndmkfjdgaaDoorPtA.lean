import Derived.Test.YtndgcndmkfjdgaaDoorPlU
import Derived.Test.YtndgcndmkfjdgaaDoorPpB
import Derived.Test.YtndgcndmkfjdgaaDoorPick
import Derived.Test.YtndgcndmkfjdgaaDoorPlDr
namespace Go.Proofs.YtndgcndmkfjdgaaDoor
open Go.RowKit Go.Extern.Stop Go.Stop Go.Extern
set_option linter.unusedVariables false
set_option linter.unusedSimpArgs false
/-! PlaneTurtles: what the same steps do to a turned turtle; moved drawings are drawn the same -/
def st0 : St := ⟨(0, 0), (1, 0), true, []⟩
theorem turnK_add : ∀ (j k : Nat) (a : Pt), turnK (j + k) a = turnK j (turnK k a)
  | 0, k, a => by rw [Nat.zero_add]; rfl
  | j + 1, k, a => by rw [show j + 1 + k = (j + k) + 1 by omega, turnK_next, turnK_next, turnK_add j k a]
theorem turnK_four (a : Pt) : turnK 4 a = a := by
  obtain ⟨x, y⟩ := a
  show rotZ (rotZ (rotZ (rotZ (x, y)))) = (x, y)
  simp [rotZ]
theorem turnK_mod (k : Nat) (a : Pt) : turnK k a = turnK (k % 4) a := by
  induction k using Nat.strongRecOn with
  | _ k ih =>
    by_cases h : k < 4
    · rw [Nat.mod_eq_of_lt h]
    · have e : k = (k - 4) + 4 := by omega
      rw [show turnK k a = turnK ((k - 4) + 4) a by rw [← e], turnK_add, turnK_four, ih (k - 4) (by omega)]
      congr 1
      omega
theorem turn_add (a : Pt) (j k : Int) : turnZ (turnZ a k) j = turnZ a (j + k) := by
  unfold turnZ
  rw [← turnK_add, turnK_mod]
  congr 1
  omega
theorem turn_zero (a : Pt) : turnZ a 0 = a := rfl
theorem turn_back (a : Pt) (k : Int) : turnZ (turnZ a k) (-k) = a := by rw [turn_add]; rw [show -k + k = 0 by omega]; rfl
theorem rot_lin (a b : Pt) (d : Int) : rotZ (a.1 + d * b.1, a.2 + d * b.2) = ((rotZ a).1 + d * (rotZ b).1, (rotZ a).2 + d * (rotZ b).2) := by
  simp only [rotZ, Prod.mk.injEq]
  constructor
  · rw [Int.mul_neg]; omega
  · trivial
theorem turnK_lin (d : Int) : ∀ (k : Nat) (a b : Pt), turnK k (toZ a b d) = toZ (turnK k a) (turnK k b) d
  | 0, _, _ => rfl
  | k + 1, a, b => by
    rw [turnK_next, turnK_next, turnK_next, turnK_lin d k a b]
    exact rot_lin _ _ d
theorem turn_lin (a b : Pt) (d k : Int) : turnZ (toZ a b d) k = toZ (turnZ a k) (turnZ b k) d := turnK_lin d _ a b
theorem turn_sub (a b : Pt) (k : Int) : turnZ (a.1 + b.1, a.2 + b.2) k = ((turnZ a k).1 + (turnZ b k).1, (turnZ a k).2 + (turnZ b k).2) := by
  have := turn_lin a b 1 k
  unfold toZ at this
  simpa using this
def turnM (k : Int) (l : List Mk) : List Mk := l.map (both (fun z => turnZ z k))
def rotS (k : Int) (s : St) : St := ⟨turnZ s.a k, turnZ s.v k, s.dn, turnM k s.ms⟩
def fwdS (s : St) (d : Int) : St := ⟨toZ s.a s.v d, s.v, s.dn, if s.dn = true ∧ d ≠ 0 then s.ms ++ [(s.a, toZ s.a s.v d)] else s.ms⟩
def wstep (s : St) (q : Nat) (n : Int) : St :=
  if q ≤ 1 then fwdS s ((pickN n 21 : Int) - 10) else if q = 2 then ⟨s.a, turnZ s.v n, s.dn, s.ms⟩ else ⟨s.a, s.v, n.tmod 3 != 0, s.ms⟩
theorem rot_fwd (k : Int) (s : St) (d : Int) : fwdS (rotS k s) d = rotS k (fwdS s d) := by
  unfold fwdS rotS
  simp only [turn_lin, St.mk.injEq, true_and]
  split
  · simp [turnM, both, turn_lin]
  · rfl
theorem rot_step (k : Int) (s : St) (q : Nat) (n : Int) : wstep (rotS k s) q n = rotS k (wstep s q n) := by
  unfold wstep
  split
  · exact rot_fwd k s _
  · split
    · unfold rotS
      simp only [St.mk.injEq, true_and, and_true]
      rw [turn_add, turn_add, Int.add_comm]
    · rfl
def witer (f : Nat → Int × Int) (s : St) : Nat → St
  | 0 => s
  | j + 1 => wstep (witer f s j) (pickN (f j).1 4) (f j).2
theorem rot_iter (k : Int) (f : Nat → Int × Int) (s : St) : ∀ j, witer f (rotS k s) j = rotS k (witer f s j)
  | 0 => rfl
  | j + 1 => by
    show wstep (witer f (rotS k s) j) _ _ = _
    rw [rot_iter k f s j, rot_step]
    rfl
/-- where it may be behind j steps -/
def Wb (s : St) (j : Nat) : Prop := Sm s.a (10 * j) ∧ Unit4 s.v ∧ s.ms.length ≤ j
theorem unit_toZ {a v : Pt} {B d : Int} (ha : Sm a B) (hv : Unit4 v) (hd : -10 ≤ d ∧ d ≤ 10) : Sm (toZ a v d) (B + 10) := by
  have h := mul_unit hv d
  unfold Sm toZ at *
  simp only
  omega
theorem wb_step {s : St} {j : Nat} (h : Wb s j) (q : Nat) (n : Int) : Wb (wstep s q n) (j + 1) := by
  obtain ⟨h1, h2, h3⟩ := h
  have hp := pickN_lt n 21 (by decide)
  unfold wstep
  split
  · refine ⟨?_, h2, ?_⟩
    · have := unit_toZ h1 h2 (d := (pickN n 21 : Int) - 10) (by omega)
      unfold fwdS
      simp only
      unfold Sm at *
      omega
    · unfold fwdS
      simp only
      split
      · rw [List.length_append]; simp; omega
      · omega
  · split
    · exact ⟨by unfold Sm at *; simp only; omega, unit_turn h2 n, by simp only; omega⟩
    · exact ⟨by unfold Sm at *; simp only; omega, h2, by simp only; omega⟩
theorem wb_iter {s : St} (h : Wb s 0) (f : Nat → Int × Int) : ∀ j, Wb (witer f s j) j
  | 0 => h
  | j + 1 => wb_step (wb_iter h f j) _ _
theorem unit_start (k : Int) : Unit4 (turnZ (1, 0) k) := unit_turn (.inl rfl) k
theorem turnK_nil (k : Nat) : turnK k (0, 0) = (0, 0) := by
  induction k with
  | zero => rfl
  | succ k ih => rw [turnK_next, ih]; rfl
theorem rot_s0 (k : Int) : rotS k st0 = ⟨(0, 0), turnZ (1, 0) k, true, []⟩ := by
  show (⟨turnK (k % 4).toNat (0, 0), turnZ (1, 0) k, true, []⟩ : St) = _
  rw [turnK_nil]
theorem wb_start (k : Int) : Wb (rotS k st0) 0 := by
  rw [rot_s0]
  exact ⟨by unfold Sm; simp, unit_start k, Nat.le_refl _⟩
theorem getD_map {l : List Mk} {g : Pt → Pt} {i : Nat} (h : i < l.length) : (l.map (both g)).getD i m0 = both g (l.getD i m0) := map_getD h
/-- a drawing fits on itself, turned, moved -/
theorem fits_turned (zs : List Mk) (k d : Int × Int) (n : Int) (h0 : 0 < zs.length) : fitsN zs ((turnM n zs).map (both (fun z => (z.1 + d.1, z.2 + d.2)))) (n % 4).toNat := by
  intro i hi
  have e : ∀ a, turnZ a (((n % 4).toNat : Nat) : Int) = turnZ a n := fun a => by
    unfold turnZ
    congr 1
    omega
  have hl : (turnM n zs).length = zs.length := by simp [turnM]
  rw [getD_map (by rw [hl]; exact h0), getD_map (by rw [hl]; exact hi)]
  unfold turnM
  rw [getD_map h0, getD_map hi]
  unfold fitsZ both
  simp only [e]
  omega
theorem fits_back (zs : List Mk) (n : Int) (h0 : 0 < zs.length) : fitsN (turnM n zs) zs ((-n) % 4).toNat := by
  intro i hi
  have hl : (turnM n zs).length = zs.length := by simp [turnM]
  rw [hl] at hi
  have e : ∀ a, turnZ (turnZ a n) ((((-n) % 4).toNat : Nat) : Int) = a := fun a => by
    rw [turn_add]
    unfold turnZ
    rw [show ((((((-n) % 4).toNat : Nat) : Int) + n) % 4).toNat = 0 by omega]
    rfl
  unfold turnM
  rw [getD_map h0, getD_map hi]
  unfold fitsZ both
  simp only [e]
  omega
/-- moved by d -/
def mvM (d : Pt) (l : List Mk) : List Mk := l.map (both (fun z => (z.1 + d.1, z.2 + d.2)))
theorem mv_len (d : Pt) (l : List Mk) : (mvM d l).length = l.length := by simp [mvM]
theorem mv_get (d : Pt) (l : List Mk) {i : Nat} (h : i < l.length) : (mvM d l).getD i m0 = both (fun z => (z.1 + d.1, z.2 + d.2)) (l.getD i m0) := getD_map h
theorem mv_lo (d : Pt) (zs : List Mk) (h0 : 0 < zs.length) : ∀ j, j ≤ zs.length → loN (mvM d zs) j = ((loN zs j).1 + d.1, (loN zs j).2 + d.2) ∧ hiN (mvM d zs) j = ((hiN zs j).1 + d.1, (hiN zs j).2 + d.2)
  | 0, _ => by
    unfold loN hiN
    rw [mv_get d zs h0]
    exact ⟨rfl, rfl⟩
  | j + 1, hj => by
    obtain ⟨a, b⟩ := mv_lo d zs h0 j (by omega)
    unfold loN hiN
    rw [a, b, mv_get d zs (by omega)]
    unfold both
    simp only [Prod.mk.injEq]
    omega
theorem mv_loZ (d : Pt) (zs : List Mk) (h0 : 0 < zs.length) : loZ (mvM d zs) = ((loZ zs).1 + d.1, (loZ zs).2 + d.2) ∧ hiZ (mvM d zs) = ((hiZ zs).1 + d.1, (hiZ zs).2 + d.2) := by
  unfold loZ hiZ
  rw [mv_len]
  exact mv_lo d zs h0 _ (Nat.le_refl _)
theorem mv_sign (d : Pt) : ∀ (l : List Mk) (x y : Int) (a u : Bool), signF (mvM d l) (x + d.1, y + d.2) a u = signF l (x, y) a u
  | [], _, _, _, _ => rfl
  | m :: l, x, y, a, u => by
    have e : mvM d (m :: l) = both (fun z => (z.1 + d.1, z.2 + d.2)) m :: mvM d l := rfl
    obtain ⟨⟨p1, p2⟩, q1, q2⟩ := m
    rw [e, signF, signF, mv_sign d l, mv_sign d l, mv_sign d l]
    unfold both betw
    simp only [Prod.mk.injEq]
    have r1 : ((p1 + d.1 = x + d.1 ∧ p2 + d.2 = y + d.2) ∨ q1 + d.1 = x + d.1 ∧ q2 + d.2 = y + d.2) ↔ ((p1 = x ∧ p2 = y) ∨ q1 = x ∧ q2 = y) := by omega
    have r2 : (p2 + d.2 = y + d.2 ∧ q2 + d.2 = y + d.2 ∧ (p1 + d.1 < x + d.1 ∧ x + d.1 < q1 + d.1 ∨ q1 + d.1 < x + d.1 ∧ x + d.1 < p1 + d.1)) ↔ (p2 = y ∧ q2 = y ∧ (p1 < x ∧ x < q1 ∨ q1 < x ∧ x < p1)) := by omega
    have r3 : (p1 + d.1 = x + d.1 ∧ q1 + d.1 = x + d.1 ∧ (p2 + d.2 < y + d.2 ∧ y + d.2 < q2 + d.2 ∨ q2 + d.2 < y + d.2 ∧ y + d.2 < p2 + d.2)) ↔ (p1 = x ∧ q1 = x ∧ (p2 < y ∧ y < q2 ∨ q2 < y ∧ y < p2)) := by omega
    simp only [r1, r2, r3]
theorem mv_line (d : Pt) (zs : List Mk) (x y : Int) (n : Nat) : lineL (mvM d zs) (x + d.1) (y + d.2) n = lineL zs x y n := by
  unfold lineL signZ
  refine List.map_congr_left fun i _ => ?_
  rw [show x + d.1 + (i : Int) = (x + i) + d.1 by omega, mv_sign]
theorem mv_rows (d : Pt) (zs : List Mk) (x y : Int) (m n : Nat) : rowsL (mvM d zs) (x + d.1) (y + d.2) m n = rowsL zs x y m n := by
  unfold rowsL
  have : (fun (i : Nat) => Lib.trimRightB (lineL (mvM d zs) (x + d.1) (y + d.2 - (i : Int)) m) 32 ++ [10]) = fun (i : Nat) => Lib.trimRightB (lineL zs x (y - (i : Int)) m) 32 ++ [10] := by
    funext i
    rw [show y + d.2 - (i : Int) = (y - i) + d.2 by omega, mv_line]
  rw [this]
theorem mv_draw (d : Pt) (zs : List Mk) (h0 : 0 < zs.length) : wide (mvM d zs) = wide zs ∧ high (mvM d zs) = high zs ∧ drawZ (mvM d zs) = drawZ zs := by
  obtain ⟨h1, h2⟩ := mv_loZ d zs h0
  have hw : wide (mvM d zs) = wide zs := by unfold wide; rw [h1, h2]; simp only; omega
  have hh : high (mvM d zs) = high zs := by unfold high; rw [h1, h2]; simp only; omega
  refine ⟨hw, hh, ?_⟩
  unfold drawZ
  rw [hw, hh, h1, h2, mv_rows]
theorem mv_back (d : Pt) (zs : List Mk) : mvM (-d.1, -d.2) (mvM d zs) = zs := by
  unfold mvM
  rw [List.map_map]
  refine (List.map_congr_left fun m _ => ?_).trans (List.map_id _)
  obtain ⟨⟨p1, p2⟩, q1, q2⟩ := m
  simp [both]
  omega
end Go.Proofs.YtndgcndmkfjdgaaDoor
