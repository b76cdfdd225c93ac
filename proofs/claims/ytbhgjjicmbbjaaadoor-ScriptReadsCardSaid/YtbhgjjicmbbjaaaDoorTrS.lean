import Derived.Test.YtbhgjjicmbbjaaaDoorBlk
import Derived.Test.YtbhgjjicmbbjaaaDoorOwn
import Derived.Test.YtbhgjjicmbbjaaaDoorShelf
import Derived.Shelf.Strings.Builder1
namespace Go.Proofs.YtbhgjjicmbbjaaaDoor
open Go.RowKit
set_option linter.unusedVariables false
set_option linter.unusedSimpArgs false
/-! strings.Builder: copyCheck, WriteString, by Go's own text -/
theorem info_builder : (Tryd.prog.info? 79).map (·.size) = some 2 := by kernel_rfl
theorem lies_builder : liesAt Tryd.prog Tryd.prog.depth 79 (2 / Tryd.prog.cellsOf 79) 0 79 1 = true := by kernel_rfl
theorem info_u8b : (Tryd.prog.info? 5).map (fun i => (i.zero, i.size, i.bytes)) = some (some (.int .u8 0), 1, 1) := by kernel_rfl
abbrev BT : TypeId := 79
set_option maxRecDepth 100000 in
theorem bcheck_used (b : Nat) (w : World) (h0 : w.cell? ⟨b, 0, none⟩ = some (.pointer (some ⟨b, 0, none⟩))) :
    Calls Tryd.prog 62 #[.pointer (some ⟨b, 0, none⟩)] w fun e w' => e = .returned (.tuple #[]) ∧ w' = w := by
  obtain ⟨j, hj, _⟩ := Option.map_eq_some_iff.1 info_builder
  have hne := fun w => Lib.run_neq_ptr_same (P := Tryd.prog) w (tp := 76) ⟨b, 0, none⟩ Tryd.underlying76 hj
  clear hj
  go_enter Tryd.func62, Tryd.ntmps62
  go_wp2_with (fail)
  go_returns
  exact ⟨rfl, rfl⟩
set_option maxRecDepth 100000 in
theorem bcheck_fresh (b : Nat) (w : World) (h0 : w.cell? ⟨b, 0, none⟩ = some (.pointer none)) (hsh : w.shape? b = some (79, 2)) (hfz : w.frozen? ⟨b, 0, none⟩ = false) :
    Calls Tryd.prog 62 #[.pointer (some ⟨b, 0, none⟩)] w fun e w' => e = .returned (.tuple #[]) ∧ w' = w.setCell ⟨b, 0, none⟩ (.pointer (some ⟨b, 0, none⟩)) := by
  obtain ⟨j, hj, hjs⟩ := Option.map_eq_some_iff.1 info_builder
  have r1 := Lib.run_to_unsafe (P := Tryd.prog) w (src := 76) (dst := 112) ⟨b, 0, none⟩ Tryd.underlying76 Tryd.underlying112 hj (by rw [hjs]; decide) hsh (Nat.zero_lt_succ 1)
  have r2 := Lib.run_from_unsafe (P := Tryd.prog) w (src := 112) (dst := 76) ⟨b, 0, none⟩ Tryd.underlying112 Tryd.underlying76 hj hsh lies_builder
  have h8 := @run_callFunc_extern Tryd.prog 78 _ Extern.AbiNoEscape.same Tryd.func78 (by kernel_rfl) (by kernel_rfl) (by kernel_rfl) (by kernel_rfl)
  have r3 : ∀ (x : Value) (w : World), (Extern.AbiNoEscape.same #[x]).run Tryd.prog w = .ok x w := fun x w => rfl
  clear hj hsh hjs
  go_enter Tryd.func62, Tryd.ntmps62
  go_wp2_with (fail)
  go_returns
  exact ⟨rfl, rfl⟩
theorem bcheck_any (B b : Nat) (bs : List Value) (w : World) (h : Lib.IsBuilder BT 5 B b bs w) :
    Calls Tryd.prog 62 #[.pointer (some ⟨b, 0, none⟩)] w fun e w' => e = .returned (.tuple #[]) ∧ (Lib.BuilderAt BT 5 B b (.pointer (some ⟨b, 0, none⟩)) bs w' ∧ Below B w w') := by
  rcases h with h | h
  · refine (bcheck_fresh b w h.cell0 h.shape h.frozen0).mono ?_
    rintro e w' ⟨rfl, rfl⟩
    exact ⟨rfl, h.used _, (Below.refl B w).setCell (p := ⟨b, 0, none⟩) h.1 _⟩
  · refine (bcheck_used b w h.cell0).mono ?_
    rintro e w' ⟨rfl, rfl⟩
    exact ⟨rfl, h, Below.refl B _⟩
set_option maxHeartbeats 2000000 in
set_option maxRecDepth 100000 in
theorem bwrite_any (B b : Nat) (bs : List Value) (s : ByteArray) (w : World) (h : Lib.IsBuilder BT 5 B b bs w) (hlen : bs.length + s.size ≤ 140737488355328) (hBw : B ≤ w.heap.size) :
    Calls Tryd.prog 43 #[.pointer (some ⟨b, 0, none⟩), .string s] w fun e w' => e = .returned (.tuple #[.int .i64 s.size, .nilIface]) ∧ (Lib.IsBuilder BT 5 B b (bs ++ Lib.strCells s) w' ∧ Below B w w') := by
  obtain ⟨i0, hi, hz0, hz1, hz2⟩ := info_parts info_u8b
  have hck := Lib.hid (bcheck_any B b bs w h)
  clear h
  go_enter Tryd.func43, Tryd.ntmps43
  go_wp2_with (fail)
  refine hck.out.mono ?_
  rintro e w1 ⟨rfl, h1, hb1⟩
  obtain ⟨hB, v, hbk, hown, hne⟩ := h1
  have c0 : w1.cell? ⟨b, 0, none⟩ = some (.pointer (some ⟨b, 0, none⟩)) := by rw [Lib.cell_of_heap hbk]; rfl
  have c1 : w1.cell? ⟨b, 1, none⟩ = some v := by rw [Lib.cell_of_heap hbk]; rfl
  replace hown := Lib.hid hown
  replace hbk := Lib.hid hbk
  replace hb1 := Lib.hid hb1
  clear hck
  go_wp2_with (at_builtin; refine Lib.wpList_append_own_string _ rfl _ _ 77 9 rfl B 5 i0 Tryd.underlying77 Tryd.underlying9 hi hz0 hz1 hz2 _ _ _ rfl hown.out s rfl ?c3 ?c4 ?c5 ?_)
  case c3 => unfold maxLen; omega
  case c4 => omega
  case c5 => have := hb1.out.size; omega
  intro v' w2 hown' hgrow _
  have hlt : b < w1.heap.size := (Array.getElem?_eq_some_iff.1 hbk.out).1
  have hb2 : w2.heap[b]? = some (.cells #[.pointer (some ⟨b, 0, none⟩), v] BT (0, 0)) := by
    rw [hgrow.block b hlt (fun e => hne e.symm)]
    exact hbk.out
  have d0 : w2.cell? ⟨b, 0, none⟩ = some (.pointer (some ⟨b, 0, none⟩)) := by rw [Lib.cell_of_heap hb2]; rfl
  have d1 : w2.cell? ⟨b, 1, none⟩ = some v := by rw [Lib.cell_of_heap hb2]; rfl
  have f1 : w2.frozen? ⟨b, 1, none⟩ = false := Lib.frozen_of_heap hb2 1
  obtain ⟨ao, n', cap, rfl⟩ : ∃ ao n' cap, v' = .slice ao n' cap := by
    rcases hown'.2 with ⟨hv, _⟩ | ⟨g, cap, cur, hv, _⟩
    · exact ⟨_, _, _, hv⟩
    · exact ⟨_, _, _, hv⟩
  have hfin : Lib.IsBuilder BT 5 B b (bs ++ Lib.strCells s) (w2.setCell ⟨b, 1, none⟩ (.slice ao n' cap)) := .inr (Lib.BuilderAt.put (T := BT) (e := 5) hB hb2 (bs' := bs ++ Lib.strCells s) (by simpa [Lib.strCells_length] using hown') (by decide))
  have hfb : Below B w (w2.setCell ⟨b, 1, none⟩ (.slice ao n' cap)) := (hb1.out.grown hgrow (by have := hb1.out.size; omega) (fun k hk => (hown.out.lt k hk).1)).setCell (p := ⟨b, 1, none⟩) hB _
  replace hfin := Lib.hid hfin
  replace hfb := Lib.hid hfb
  clear hown' hgrow hb2 hlt c0 c1
  go_wp2_with (fail)
  go_returns
  exact ⟨rfl, hfin.out, hfb.out⟩
theorem isb_below {B b : Nat} {bs : List Value} {w w' : World} (h : Lib.IsBuilder BT 5 B b bs w) (hb : Below w.heap.size w w') : Lib.IsBuilder BT 5 B b bs w' := by
  have key : ∀ p, Lib.BuilderAt BT 5 B b p bs w → Lib.BuilderAt BT 5 B b p bs w' := fun p ⟨h1, v, h2, h3, h4⟩ =>
    ⟨h1, v, (hb.block b (Array.getElem?_eq_some_iff.1 h2).1).trans h2, own_below h3 hb (Nat.le_refl _), h4⟩
  exact h.elim (fun h => .inl (key _ h)) (fun h => .inr (key _ h))
theorem cells_str (l : List UInt8) : Lib.strCells ⟨l.toArray⟩ = Lib.byteCells l := by
  rfl
theorem cells_cat (l m : List UInt8) : Lib.byteCells l ++ Lib.byteCells m = Lib.byteCells (l ++ m) := by simp [Lib.byteCells]
end Go.Proofs.YtbhgjjicmbbjaaaDoor
