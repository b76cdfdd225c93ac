import Derived.Test.YtmmfjonoenmplaaDoorGbB
import Derived.Test.YtmmfjonoenmplaaDoorGbD
namespace Go.Proofs.YtmmfjonoenmplaaDoor
open Go.RowKit Go.Extern.Stop Go.Stop Go.Extern
set_option linter.unusedVariables false
set_option linter.unusedSimpArgs false
/-! chapter 2: the program's digits -/
/-- what is laid, besides the table: the two errors of Atoi -/
structure Er (w : World) (a1 a2 : Addr) : Prop where
  ran : w.cell? ⟨1, 0, none⟩ = some (sentV a1)
  syn : w.cell? ⟨3, 0, none⟩ = some (sentV a2)
  ne : a2 ≠ a1
  h1 : ∃ c t, w.heap[a1.block]? = some (.cells c t (0, 0))
  h2 : ∃ c t, w.heap[a2.block]? = some (.cells c t (0, 0))
theorem Er.bel {w w' : World} {a1 a2 : Addr} (h : Er w a1 a2) (hb : Below w.heap.size w w') : Er w' a1 a2 where
  ran := (hb.cell (show (⟨1, 0, none⟩ : Addr).block < w.heap.size from Lib.lt_of_cell h.ran)).trans h.ran
  syn := (hb.cell (show (⟨3, 0, none⟩ : Addr).block < w.heap.size from Lib.lt_of_cell h.syn)).trans h.syn
  ne := h.ne
  h1 := by
    obtain ⟨c, t, h⟩ := h.h1
    exact ⟨c, t, (hb.block _ (Array.getElem?_eq_some_iff.1 h).1).trans h⟩
  h2 := by
    obtain ⟨c, t, h⟩ := h.h2
    exact ⟨c, t, (hb.block _ (Array.getElem?_eq_some_iff.1 h).1).trans h⟩
structure Mq (w : World) : Prop where
  tab : Tab w
  err : ∃ a1 a2, Er w a1 a2
theorem Mq.bel {w w' : World} (h : Mq w) (hb : Below w.heap.size w w') : Mq w' := ⟨h.tab.bel hb, by obtain ⟨a1, a2, h⟩ := h.err; exact ⟨a1, a2, h.bel hb⟩⟩
def inQ (x : Int) : Prop := -9223372036854775808 ≤ x ∧ x ≤ 9223372036854775807
/-- what Atoi answers of the front of a text, and what errors.Is makes of it -/
def AtQ (L : List UInt8) (w w' : World) (e : Ending) : Prop :=
  ((dgs L ≠ [] ∧ inQ (vlD L) ∧ e = .returned (.tuple #[.int .i64 (vlD L), .nilIface])) ∨
  (∃ N v, inQ v ∧ e = .returned (.tuple #[.int .i64 v, numV N]) ∧ ((dgs L = [] ∧ ∀ n, Calls Tryd.prog 60 #[numV N, (w'.cell? ⟨1, 0, none⟩).getD .nilIface] (w'.drewN n) fun e w2 => e = .returned (.bool false) ∧ ∃ k, w2 = (w'.drewN n).drewN k) ∨
    (dgs L ≠ [] ∧ (sgD L = 1 → vlD L < -16777216) ∧ (sgD L = 0 → 16777216 < vlD L) ∧ ∀ n, Calls Tryd.prog 60 #[numV N, (w'.cell? ⟨1, 0, none⟩).getD .nilIface] (w'.drewN n) fun e w2 => e = .returned (.bool true) ∧ ∃ k, w2 = (w'.drewN n).drewN k)))) ∧ Below w.heap.size w w'
theorem atoi_q (s S : ByteArray) (hS : S.data.toList = s.data.toList.take (iN s.data.toList)) (hs : S.size ≤ 281474976710656) (w : World) (hM : Mq w) : Calls Tryd.prog 65 #[.string S] w (fun e w' => AtQ s.data.toList w w' e) := by
  obtain ⟨a1, a2, hE⟩ := hM.err
  have hf := atoi_front s.data.toList
  rw [← hS] at hf
  have his : ∀ (w' : World) (N : Nat) (a : Addr) (f : ByteArray), (Below w.heap.size w w') → (a = a1 ∨ a = a2) → w'.heap[N]? = some (.cells #[.string f, .string S, sentV a] 134 (0, 0)) → ∀ n, Calls Tryd.prog 60 #[numV N, (w'.cell? ⟨1, 0, none⟩).getD .nilIface] (w'.drewN n) fun e w2 => (∃ r : Bool, e = .returned (.bool r) ∧ (r = true ↔ a = a1)) ∧ ∃ k, w2 = (w'.drewN n).drewN k := by
    intro w' N a f hb ha hN n
    have hE' := hE.bel hb
    rw [hE'.ran]
    obtain ⟨c1, t1, h1⟩ := hE'.h1
    obtain ⟨c2, t2, h2⟩ := hE'.h2
    rcases ha with rfl | rfl
    · exact is_num N a a f S (w'.drewN n) hN h1 h1
    · exact is_num N a a1 f S (w'.drewN n) hN h2 h1
  rcases hf with ⟨h1, h2⟩ | ⟨h1, h2⟩ | ⟨h1, h2, h3, h4⟩
  · refine (Tryd.strconv_Atoi_syntax S hs h2 _ w hE.syn (.inr ⟨_, _, rfl⟩)).mono ?_
    rintro e w' ⟨N, rfl, _, hN, hb⟩
    refine ⟨.inr ⟨N, 0, by unfold inQ; omega, rfl, .inl ⟨h1, fun n => (his w' N a2 _ hb (.inr rfl) hN n).mono ?_⟩⟩, hb⟩
    rintro e w2 ⟨⟨r, rfl, hr⟩, hk⟩
    cases r
    · exact ⟨rfl, hk⟩
    · exact absurd (hr.1 rfl) hE.ne
  · refine (Tryd.strconv_Atoi_ok S (by omega) _ h2 w).mono ?_
    rintro e w' ⟨rfl, hw⟩
    refine ⟨.inl ⟨h1, Lib.atoiAll_bounds h2, rfl⟩, ?_⟩
    rcases hw with rfl | ⟨t, rfl⟩
    · exact Below.refl _ _
    · exact Lib.bytesWorld_below _ _ _
  · refine (Tryd.strconv_Atoi_range S hs h2 _ w hE.ran (.inr ⟨_, _, rfl⟩)).mono ?_
    rintro e w' ⟨N, rfl, _, hN, hb⟩
    refine ⟨.inr ⟨N, _, Lib.atoiSat_bounds _, rfl, .inr ⟨h1, h3, h4, fun n => (his w' N a1 _ hb (.inl rfl) hN n).mono ?_⟩⟩, hb⟩
    rintro e w2 ⟨⟨r, rfl, hr⟩, hk⟩
    cases r
    · exact absurd (hr.2 rfl) (by simp)
    · exact ⟨rfl, hk⟩
end Go.Proofs.YtmmfjonoenmplaaDoor
