import Derived.Test.YtkopgjdnfjgbjaaStL
import Derived.Test.YtkopgjdnfjgbjaaPostInts
namespace Go.Proofs.Ytkopgjdnfjgbjaa
open Go.RowKit
set_option linter.unusedVariables false
set_option linter.unusedSimpArgs false
/-! StackBack -/
theorem cels_at (B : List UInt8) (f n i : Nat) (h : i < n) : (cels B f n)[i]? = some (cel B (f + 8 * i)) := by
  simp [cels, h]
/-- what Roll makes of a region's cells -/
theorem roll_cels (f : Nat) (B : List UInt8) (i D n : Nat) (hi : i < D) (hn : D ≤ n) (h : f + 8 * n ≤ B.length) :
    cels (laid B f i (((List.range (D - 1 - i)).map fun j => cel B (f + 8 * (i + 1 + j))) ++ [cel B (f + 8 * i)])) f n = (cels B f n).take i ++ ((((cels B f n).drop (i + 1)).take (D - 1 - i) ++ [cel B (f + 8 * i)]) ++ (cels B f n).drop D) := by
  have hl : (((List.range (D - 1 - i)).map fun j => cel B (f + 8 * (i + 1 + j))) ++ [cel B (f + 8 * i)]).length = D - i := by simp; omega
  rw [cels_laid f B i n _ (by rw [hl]; omega) (by rw [hl]; omega) (by
    intro v hv
    simp only [List.mem_append, List.mem_map, List.mem_singleton] at hv
    rcases hv with ⟨j, _, rfl⟩ | rfl <;> exact cel_isI _ _), hl, show i + (D - i) = D from by omega]
  congr 2
  congr 1
  apply List.ext_getElem
  · simp [cels]; omega
  · intro j h1 h2
    simp only [List.length_map, List.length_range] at h1
    simp [cels]
/-- a list, turned round by j -/
def rot (j : Nat) (l : List Int) : List Int := l.drop j ++ l.take j
theorem rot_len (j : Nat) (l : List Int) : (rot j l).length = l.length := by simp [rot]; omega
theorem rot_zero (l : List Int) : rot 0 l = l := by simp [rot]
theorem rot_all (l : List Int) : rot l.length l = l := by simp [rot]
theorem rot_step (j : Nat) (l : List Int) (h : j < l.length) : ∃ x t, rot j l = x :: t ∧ rot (j + 1) l = t ++ [x] := by
  refine ⟨l[j], l.drop (j + 1) ++ l.take j, ?_, ?_⟩
  · unfold rot
    rw [List.drop_eq_getElem_cons h]
    rfl
  · unfold rot
    rw [List.append_assoc, ← List.take_append_getElem h]
/-- one more Roll -/
theorem roll_once (f : Nat) (B : List UInt8) (vs : List Int) (i j n : Nat) (hn : vs.length = n) (hi : i < n) (hj : j < n - i) (h : f + 8 * n ≤ B.length) (he : cels B f n = vs.take i ++ rot j (vs.drop i)) :
    cels (laid B f i (((List.range (n - 1 - i)).map fun j => cel B (f + 8 * (i + 1 + j))) ++ [cel B (f + 8 * i)])) f n = vs.take i ++ rot (j + 1) (vs.drop i) := by
  rw [roll_cels f B i n n hi (Nat.le_refl _) h]
  obtain ⟨x, t, h1, h2⟩ := rot_step j (vs.drop i) (by simp; omega)
  have hti : (vs.take i).length = i := by simp; omega
  have hr := rot_len j (vs.drop i)
  rw [h1] at he hr
  simp only [List.length_cons, List.length_drop] at hr
  have hx : cel B (f + 8 * i) = x := by
    have := cels_at B f n i hi
    rw [he, List.getElem?_append_right (by omega), hti, Nat.sub_self] at this
    simpa using this.symm
  have hl : (cels B f n).length = n := cels_len B f n
  rw [hx, h2, List.drop_eq_nil_of_le (by omega : (cels B f n).length ≤ n), he]
  rw [List.take_left' hti, List.append_nil]
  congr 2
  rw [show vs.take i ++ x :: t = (vs.take i ++ [x]) ++ t from by simp, List.drop_left' (by simp; omega), List.take_of_length_le (by omega)]
theorem ints_rowd {W : World} {A : Option Addr} {n : Nat} (h : Ints W A n) : ∃ (sb so : Nat) (vs : List Int), vs.length = n ∧ Rowd W A sb so vs ∧ (∀ v ∈ vs, isI v) ∧ (0 < n → sb < W.heap.size) := by
  by_cases h0 : n = 0
  · subst h0
    exact ⟨0, 0, [], rfl, fun i hi => absurd hi (by simp), fun v hv => (by cases hv), fun h => absurd h (by omega)⟩
  · obtain ⟨b, off, v, rfl, hb, _, _⟩ := h.2 0 (by omega)
    have key : ∀ k, k ≤ n → ∃ vs : List Int, vs.length = k ∧ (∀ i (hi : i < vs.length), W.cell? ⟨b, off + i, none⟩ = some (.int .i64 vs[i])) ∧ ∀ v ∈ vs, isI v := by
      intro k
      induction k with
      | zero => intro _; exact ⟨[], rfl, fun i hi => absurd hi (by simp), fun v hv => (by cases hv)⟩
      | succ k ih =>
        intro hk
        obtain ⟨vs, h1, h2, h3⟩ := ih (by omega)
        obtain ⟨b', off', v, e, _, hc, hr⟩ := h.2 k (by omega)
        injection e with e
        injection e with e1 e2
        subst e1 e2
        refine ⟨vs ++ [v], by simp [h1], fun i hi => ?_, fun x hx => ?_⟩
        · by_cases hik : i < vs.length
          · rw [List.getElem_append_left hik]; exact h2 i hik
          · have : i = k := by simp at hi; omega
            subst this
            rw [hc]
            simp [← h1]
        · rcases List.mem_append.1 hx with hx | hx
          · exact h3 x hx
          · obtain rfl := List.mem_singleton.1 hx
            unfold isI; omega
    obtain ⟨vs, h1, h2, h3⟩ := key n (Nat.le_refl _)
    exact ⟨b, off, vs, h1, fun i hi => ⟨rfl, h2 i hi⟩, h3, fun _ => hb⟩
theorem Wd.base {w w0 W : World} {a : Ads} {L : Lay} {B : List UInt8} {d : Nat → Nat} (h : Wd w0 W a L B d) (hb : Below w.heap.size w w0) : Wd w W a L B d :=
  ⟨h.wl, h.im, h.st, h.ne, ⟨Nat.le_trans hb.size h.low.1, Nat.le_trans hb.size h.low.2.1, Nat.le_trans hb.size h.low.2.2⟩, fun k hk => Nat.le_trans hb.size (h.los k hk), hb.trans (h.be.mono hb.size)⟩
theorem Wd.cells {w0 W : World} {a : Ads} {L : Lay} {B : List UInt8} {d : Nat → Nat} (h : Wd w0 W a L B d) : W.cell? ⟨a.wp, 0, none⟩ = some (.pointer (some ⟨a.ip, 0, none⟩)) ∧ W.cell? ⟨a.wp, 1, none⟩ = some (.pointer (some ⟨a.s0, 0, none⟩)) ∧ W.cell? ⟨a.wp, 2, none⟩ = some (.pointer (some ⟨a.s1, 0, none⟩)) ∧ W.cell? ⟨a.wp, 3, none⟩ = some (.pointer (some ⟨a.s2, 0, none⟩)) ∧ W.cell? ⟨a.wp, 4, none⟩ = some (.pointer (some ⟨a.r0, 0, none⟩)) ∧ W.cell? ⟨a.wp, 5, none⟩ = some (.pointer (some ⟨a.r1, 0, none⟩)) ∧ W.cell? ⟨a.wp, 6, none⟩ = some (.pointer (some ⟨a.r2, 0, none⟩)) :=
  ⟨h.wl.cell 0, h.wl.cell 1, h.wl.cell 2, h.wl.cell 3, h.wl.cell 4, h.wl.cell 5, h.wl.cell 6⟩
end Go.Proofs.Ytkopgjdnfjgbjaa
