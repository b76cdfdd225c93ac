import Derived.Test.YtkopgjdnfjgbjaaImE
import Derived.Test.YtkopgjdnfjgbjaaImP
import Derived.StillTailTactics
namespace Go.Proofs.Ytkopgjdnfjgbjaa
open Go.RowKit
set_option linter.unusedVariables false
set_option linter.unusedSimpArgs false
/-! a stack in memory, over a region of an image -/
def stkV (ip f room depth : Nat) (un ov : Int) : Array Value := #[.pointer (some ⟨ip, 0, none⟩), .int .i64 f, .int .i64 room, .int .i64 depth, .int .i64 un, .int .i64 ov]
/-- where a stack lies: region 4 or 5, so many cells -/
structure Reg (L : Lay) (rg f room : Nat) : Prop where
  r4 : rg = 4 ∨ rg = 5
  fr : L.beg rg = f
  up : L.beg (rg + 1) = f + 8 * room
theorem Reg.row {L : Lay} (hL : L.ok) {rg f room : Nat} (h : Reg L rg f room) (o s : Bool) (i right : Nat) (hi : i < room) : rowOk L o s 0 ((f + 8 * i : Nat) : Int) 8 right := by
  refine row_in hL rg _ (by rcases h.r4 with e | e <;> omega) (by rcases h.r4 with e | e <;> omega) (by rw [h.fr]; omega) (by rw [h.up]; omega) (by rw [h.up]; omega) (.inl ?_)
  rcases h.r4 with e | e <;> subst e <;> cases o <;> cases s <;> rfl
theorem Reg.even {L : Lay} (hL : L.ok) {rg f room : Nat} (h : Reg L rg f room) : f % 8 = 0 ∧ f + 8 * room ≤ L.b6 ∧ L.b6 ≤ 143360 := by
  have m := Lay.mono hL
  have e := Lay.even hL
  obtain ⟨r4, fr, up⟩ := h
  rcases r4 with rfl | rfl <;> simp only [Lay.beg] at fr up <;> omega
theorem carry {W W' : World} {b o : Nat} {v : Value} (h : Below W.heap.size W W') (hz : b < W.heap.size) (hc : W.cell? ⟨b, o, none⟩ = some v) : W'.cell? ⟨b, o, none⟩ = some v := (h.cell (p := ⟨b, o, none⟩) hz).trans hc
structure Stk (W : World) (p ip : Nat) (f room depth : Nat) (un ov : Int) : Prop where
  st : Bk W p 78 (stkV ip f room depth un ov)
  dp : depth ≤ room
section
variable {W W' : World} {p ip f room depth : Nat} {un ov : Int}
theorem Stk.bel (h : Stk W p ip f room depth un ov) (hb : Below W.heap.size W W') : Stk W' p ip f room depth un ov := ⟨h.st.kept hb h.st.lt, h.dp⟩
theorem Stk.only {g : Nat} (h : Stk W p ip f room depth un ov) (hb : Only g W W') (hn : p ≠ g) : Stk W' p ip f room depth un ov := ⟨hb.bk h.st hn, h.dp⟩
theorem Stk.c0 (h : Stk W p ip f room depth un ov) : W.cell? ⟨p, 0, none⟩ = some (.pointer (some ⟨ip, 0, none⟩)) := h.st.cell 0
theorem Stk.c1 (h : Stk W p ip f room depth un ov) : W.cell? ⟨p, 1, none⟩ = some (.int .i64 f) := h.st.cell 1
theorem Stk.c2 (h : Stk W p ip f room depth un ov) : W.cell? ⟨p, 2, none⟩ = some (.int .i64 room) := h.st.cell 2
theorem Stk.c3 (h : Stk W p ip f room depth un ov) : W.cell? ⟨p, 3, none⟩ = some (.int .i64 depth) := h.st.cell 3
theorem Stk.c4 (h : Stk W p ip f room depth un ov) : W.cell? ⟨p, 4, none⟩ = some (.int .i64 un) := h.st.cell 4
theorem Stk.c5 (h : Stk W p ip f room depth un ov) : W.cell? ⟨p, 5, none⟩ = some (.int .i64 ov) := h.st.cell 5
theorem Stk.deep (h : Stk W p ip f room depth un ov) (d : Nat) (hd : d ≤ room) : Stk (W.setCell ⟨p, 3, none⟩ (.int .i64 d)) p ip f room d un ov := ⟨h.st.put 3 (.int .i64 d), hd⟩
theorem Im.notStk {b : Nat} {L : Lay} {B : List UInt8} {o s : Bool} (h : Im W ip b L B o s) (g : Stk W p ip f room depth un ov) : p ≠ ip ∧ p ≠ b := ⟨g.st.ne h.st (by decide), g.st.ne h.by_ (by decide)⟩
end
section
variable {w : World} {p ip b f room depth rg : Nat} {un ov : Int} {L : Lay} {B : List UInt8} {o s : Bool}
theorem depth_any (h : Stk w p ip f room depth un ov) : Calls Try.prog 14 #[.pointer (some ⟨p, 0, none⟩)] w fun e w' => e = .returned (.int .i64 depth) ∧ w' = w := by
  have c3 := h.c3
  clear h
  go_enter Try.func14, Try.ntmps14
  go_wp2_with (fail)
  go_returns
  exact ⟨rfl, rfl⟩
theorem room_any (h : Stk w p ip f room depth un ov) : Calls Try.prog 15 #[.pointer (some ⟨p, 0, none⟩)] w fun e w' => e = .returned (.int .i64 room) ∧ w' = w := by
  have c2 := h.c2
  clear h
  go_enter Try.func15, Try.ntmps15
  go_wp2_with (fail)
  go_returns
  exact ⟨rfl, rfl⟩
set_option maxHeartbeats 1000000 in
theorem get_any (hi : Im w ip b L B o s) (h : Stk w p ip f room depth un ov) (hr : Reg L rg f room) (i : Nat) (hlt : i < room) (v : Int) (hv : cel B (f + 8 * i) = v) : Calls Try.prog 32 #[.pointer (some ⟨p, 0, none⟩), .int .i64 i] w fun e w' => e = .returned (.int .i64 v) ∧ Below w.heap.size w w' := by
  have c0 := h.c0
  have c1 := h.c1
  have hev := hr.even hi.ok
  have hpz := h.st.lt
  have hc := cell_yes (w := w.drew) (hi.draws 1) (f + 8 * i) v (by omega) (hr.row hi.ok o s i 1 hlt) hv
  clear h
  have e1 : IntKind.i64.wrap (8 * (i : Int)) = ((8 * i : Nat) : Int) := by rw [IntKind.wrap_i64]; omega
  have e2 : IntKind.i64.wrap ((f : Int) + ((8 * i : Nat) : Int)) = ((f + 8 * i : Nat) : Int) := by rw [IntKind.wrap_i64]; omega
  obtain ⟨y, hy⟩ : ∃ y, 8 * i = y := ⟨_, rfl⟩
  rw [hy] at e1 e2 hc
  obtain ⟨z, hz⟩ : ∃ z, f + y = z := ⟨_, rfl⟩
  rw [hz] at e2 hc
  clear hy hz
  replace hc := Lib.hid hc
  clear hi
  go_enter Try.func32, Try.ntmps32
  go_wp2_with (fail)
  go_region_held3 (fun w' => w'.cell? ⟨p, 0, none⟩ = some (.pointer (some ⟨ip, 0, none⟩)) ∧ w'.cell? ⟨p, 1, none⟩ = some (.int .i64 f)) ((simp [go_sem, *]))
    ((go_at_call 42; (with_reducible refine Calls.mono hc.out ?_); rintro e w1_ ⟨rfl, hb1⟩; have kS : w1_.cell? ⟨p, 0, none⟩ = some (.pointer (some ⟨ip, 0, none⟩)) ∧ w1_.cell? ⟨p, 1, none⟩ = some (.int .i64 f) := by (refine ⟨?_, ?_⟩ <;> (refine carry hb1 (by first | omega | (simp only [World.size_drew]; omega)) ?_; simp [go_sem, *]))))
  all_goals (go_wp2_with (fail))
  all_goals go_returns
  all_goals exact ⟨rfl, (⟨rfl, rfl, rfl, Nat.le_refl _, fun _ _ => rfl⟩ : Below w.heap.size w w.drew).trans hb1⟩
set_option maxHeartbeats 1000000 in
theorem set_any (hi : Im w ip b L B o s) (h : Stk w p ip f room depth un ov) (hr : Reg L rg f room) (i : Nat) (hlt : i < room) (v : Int) : Calls Try.prog 34 #[.pointer (some ⟨p, 0, none⟩), .int .i64 i, .int .i64 v] w fun e w' => e = .returned (.tuple #[]) ∧ Im w' ip b L (splice B (f + 8 * i) (by8 v)) o s ∧ Only b w w' := by
  have c0 := h.c0
  have c1 := h.c1
  have hev := hr.even hi.ok
  have hc := setcell_yes (w := w.drew) (hi.draws 1) (f + 8 * i) v (by omega) (hr.row hi.ok o s i 2 hlt)
  clear h
  have e1 : IntKind.i64.wrap (8 * (i : Int)) = ((8 * i : Nat) : Int) := by rw [IntKind.wrap_i64]; omega
  have e2 : IntKind.i64.wrap ((f : Int) + ((8 * i : Nat) : Int)) = ((f + 8 * i : Nat) : Int) := by rw [IntKind.wrap_i64]; omega
  obtain ⟨B', hB⟩ : ∃ B', splice B (f + 8 * i) (by8 v) = B' := ⟨_, rfl⟩
  rw [hB] at hc ⊢
  clear hB
  obtain ⟨y, hy⟩ : ∃ y, 8 * i = y := ⟨_, rfl⟩
  rw [hy] at e1 e2 hc
  obtain ⟨z, hz⟩ : ∃ z, f + y = z := ⟨_, rfl⟩
  rw [hz] at e2 hc
  clear hy hz
  replace hc := Lib.hid hc
  clear hi
  go_enter Try.func34, Try.ntmps34
  go_wp2_with (fail)
  go_still_tail 12, (by kernel_rfl)
  change wpList _ _ _ _ _ w.drew
  go_wp2_with (fail)
  refine hc.out.mono ?_
  rintro e w1 ⟨rfl, hI, hO⟩
  replace hI := Lib.hid hI
  replace hO := Lib.hid hO
  go_wp2_with (fail)
  go_end0
  exact ⟨rfl, hI.out, (Only.drawn b w 1).trans hO.out⟩
end
end Go.Proofs.Ytkopgjdnfjgbjaa
