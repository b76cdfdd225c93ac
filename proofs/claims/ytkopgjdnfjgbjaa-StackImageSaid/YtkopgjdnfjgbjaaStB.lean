import Derived.Test.YtkopgjdnfjgbjaaStA
namespace Go.Proofs.Ytkopgjdnfjgbjaa
open Go.RowKit
set_option linter.unusedVariables false
set_option linter.unusedSimpArgs false
/-! has, Peek, Pop, Poke, Reset -/
def hasB (n : Int) (depth : Nat) : Bool := decide (0 ≤ n) && decide (n < depth)
theorem hasB_true {n : Int} {depth : Nat} (h : hasB n depth = true) : ∃ i : Nat, n = i ∧ i < depth := by
  simp only [hasB, Bool.and_eq_true, decide_eq_true_eq] at h
  exact ⟨n.toNat, by omega, by omega⟩
section
variable {w : World} {p ip b f room depth rg : Nat} {un ov : Int} {L : Lay} {B : List UInt8} {o s : Bool}
theorem has_any (h : Stk w p ip f room depth un ov) (n : Int) : Calls Try.prog 35 #[.pointer (some ⟨p, 0, none⟩), .int .i64 n] w fun e w' => e = .returned (.bool (hasB n depth)) ∧ w' = w := by
  have c3 := h.c3
  clear h
  by_cases h1 : 0 ≤ n
  · by_cases h2 : n < depth
    · have e : hasB n depth = true := by simp [hasB, h1, h2]
      rw [e]
      clear e
      go_enter Try.func35, Try.ntmps35
      go_wp2_with (fail)
      go_returns
      exact ⟨rfl, rfl⟩
    · have e : hasB n depth = false := by simp [hasB, h1, h2]
      rw [e]
      clear e
      go_enter Try.func35, Try.ntmps35
      go_wp2_with (fail)
      go_returns
      exact ⟨rfl, rfl⟩
  · have e : hasB n depth = false := by simp [hasB, h1]
    rw [e]
    clear e
    go_enter Try.func35, Try.ntmps35
    go_wp2_with (fail)
    go_returns
    exact ⟨rfl, rfl⟩
set_option maxHeartbeats 1000000 in
theorem peek_no (h : Stk w p ip f room depth un ov) (n : Int) (hn : hasB n depth = false) : Calls Try.prog 29 #[.pointer (some ⟨p, 0, none⟩), .int .i64 n] w fun e w' => e = .returned (.tuple #[.int .i64 0, .int .i64 un]) ∧ Below w.heap.size w w' := by
  have c4 := h.c4
  have hh := has_any h n
  rw [hn] at hh
  clear h hn
  replace hh := Lib.hid hh
  go_enter Try.func29, Try.ntmps29
  go_wp2_with (go_at_call 35; refine hh.out.mono ?_; rintro e w1 ⟨rfl, rfl⟩)
  go_quiet (fail)
  all_goals (go_wp2_with (fail))
  go_returns
  exact ⟨rfl, ⟨rfl, rfl, rfl, Nat.le_refl _, fun _ _ => rfl⟩⟩
set_option maxHeartbeats 1000000 in
theorem peek_yes (hi : Im w ip b L B o s) (h : Stk w p ip f room depth un ov) (hr : Reg L rg f room) (n i : Nat) (hn : n < depth) (hx : depth - 1 - n = i) (v : Int) (hv : cel B (f + 8 * i) = v) : Calls Try.prog 29 #[.pointer (some ⟨p, 0, none⟩), .int .i64 n] w fun e w' => e = .returned (.tuple #[.int .i64 v, .int .i64 0]) ∧ Below w.heap.size w w' := by
  have c3 := h.c3
  have hd := h.dp
  have hev := hr.even hi.ok
  have hh := has_any h (n : Int)
  have hy : hasB (n : Int) depth = true := by simp [hasB, hn]
  rw [hy] at hh
  have hg := get_any hi h hr i (by omega) v hv
  have e1 : IntKind.i64.wrap ((depth : Int) - 1) = ((depth - 1 : Nat) : Int) := by rw [IntKind.wrap_i64]; omega
  have e2 : IntKind.i64.wrap (((depth - 1 : Nat) : Int) - (n : Int)) = (i : Int) := by rw [IntKind.wrap_i64]; omega
  clear h hy hi hr hd hev hv hx hn
  replace hh := Lib.hid hh
  replace hg := Lib.hid hg
  go_enter Try.func29, Try.ntmps29
  go_wp2_with (first | (go_at_call 35; refine hh.out.mono ?_; rintro e w1 ⟨rfl, rfl⟩) | (go_at_call 32; refine hg.out.mono ?_; rintro e w1 ⟨rfl, hb1⟩))
  go_returns
  exact ⟨rfl, hb1⟩
set_option maxHeartbeats 1000000 in
theorem pop_no (h : Stk w p ip f room 0 un ov) (hu : un ≠ 0) : Calls Try.prog 23 #[.pointer (some ⟨p, 0, none⟩)] w fun e w' => e = .returned (.tuple #[.int .i64 0, .int .i64 un]) ∧ Below w.heap.size w w' := by
  have hh := peek_no h 0 (by simp [hasB])
  clear h
  replace hh := Lib.hid hh
  go_enter Try.func23, Try.ntmps23
  go_wp2_with (go_at_call 29; refine hh.out.mono ?_; rintro e w1 ⟨rfl, hb1⟩)
  go_returns
  exact ⟨rfl, hb1⟩
set_option maxHeartbeats 1000000 in
theorem pop_yes (hi : Im w ip b L B o s) (h : Stk w p ip f room (depth + 1) un ov) (hr : Reg L rg f room) (v : Int) (hv : cel B (f + 8 * depth) = v) : Calls Try.prog 23 #[.pointer (some ⟨p, 0, none⟩)] w fun e w' => e = .returned (.tuple #[.int .i64 v, .int .i64 0]) ∧ Stk w' p ip f room depth un ov ∧ Only p w w' := by
  have hd := h.dp
  have hev := hr.even hi.ok
  have hh := peek_yes hi h hr 0 depth (by omega) (by omega) v hv
  have hk : ∀ w1, Below w.heap.size w w1 → w1.cell? ⟨p, 3, none⟩ = some (.int .i64 ((depth + 1 : Nat) : Int)) ∧ w1.frozen? ⟨p, 3, none⟩ = false ∧ Stk (w1.setCell ⟨p, 3, none⟩ (.int .i64 depth)) p ip f room depth un ov ∧ Only p w (w1.setCell ⟨p, 3, none⟩ (.int .i64 depth)) := fun w1 hb => ⟨(h.bel hb).c3, (h.bel hb).st.free 3, (h.bel hb).deep depth (by omega), (Only.of_below hb p).put 3 _⟩
  have e1 : wrap64 (depth : Int) = (depth : Int) := by unfold wrap64; omega
  clear h hd hev hi hr hv
  replace hh := Lib.hid hh
  replace hk := Lib.hid hk
  go_enter Try.func23, Try.ntmps23
  go_wp2_with (go_at_call 29; refine hh.out.mono ?_; rintro e w1 ⟨rfl, hb1⟩; obtain ⟨d1, d0, d2, d3⟩ := hk.out w1 hb1; replace d2 := Lib.hid d2; replace d3 := Lib.hid d3)
  go_returns
  exact ⟨rfl, d2.out, d3.out⟩
set_option maxHeartbeats 1000000 in
theorem poke_no (h : Stk w p ip f room depth un ov) (n v : Int) (hn : hasB n depth = false) : Calls Try.prog 22 #[.pointer (some ⟨p, 0, none⟩), .int .i64 n, .int .i64 v] w fun e w' => e = .returned (.int .i64 un) ∧ Below w.heap.size w w' := by
  have c4 := h.c4
  have hh := has_any h n
  rw [hn] at hh
  clear h hn
  replace hh := Lib.hid hh
  go_enter Try.func22, Try.ntmps22
  go_wp2_with (go_at_call 35; refine hh.out.mono ?_; rintro e w1 ⟨rfl, rfl⟩)
  go_returns
  exact ⟨rfl, ⟨rfl, rfl, rfl, Nat.le_refl _, fun _ _ => rfl⟩⟩
set_option maxHeartbeats 1000000 in
theorem poke_yes (hi : Im w ip b L B o s) (h : Stk w p ip f room depth un ov) (hr : Reg L rg f room) (n i : Nat) (hn : n < depth) (hx : depth - 1 - n = i) (v : Int) : Calls Try.prog 22 #[.pointer (some ⟨p, 0, none⟩), .int .i64 n, .int .i64 v] w fun e w' => e = .returned (.int .i64 0) ∧ Im w' ip b L (splice B (f + 8 * i) (by8 v)) o s ∧ Only b w w' := by
  have c3 := h.c3
  have hd := h.dp
  have hev := hr.even hi.ok
  have hh := has_any h (n : Int)
  have hy : hasB (n : Int) depth = true := by simp [hasB, hn]
  rw [hy] at hh
  have hg := set_any hi h hr i (by omega) v
  obtain ⟨B', hB⟩ : ∃ B', splice B (f + 8 * i) (by8 v) = B' := ⟨_, rfl⟩
  rw [hB] at hg ⊢
  have e1 : IntKind.i64.wrap ((depth : Int) - 1) = ((depth - 1 : Nat) : Int) := by rw [IntKind.wrap_i64]; omega
  have e2 : IntKind.i64.wrap (((depth - 1 : Nat) : Int) - (n : Int)) = (i : Int) := by rw [IntKind.wrap_i64]; omega
  clear h hy hi hr hd hev hx hn hB
  replace hh := Lib.hid hh
  replace hg := Lib.hid hg
  go_enter Try.func22, Try.ntmps22
  go_wp2_with (first | (go_at_call 35; refine hh.out.mono ?_; rintro e w1 ⟨rfl, rfl⟩) | (go_at_call 34; refine hg.out.mono ?_; rintro e w1 ⟨rfl, hI, hO⟩; replace hI := Lib.hid hI; replace hO := Lib.hid hO))
  go_returns
  exact ⟨rfl, hI.out, hO.out⟩
theorem reset_any (h : Stk w p ip f room depth un ov) : Calls Try.prog 40 #[.pointer (some ⟨p, 0, none⟩)] w fun e w' => e = .returned (.tuple #[]) ∧ Stk w' p ip f room 0 un ov ∧ Only p w w' := by
  have hk : w.cell? ⟨p, 3, none⟩ = some (.int .i64 depth) ∧ w.frozen? ⟨p, 3, none⟩ = false ∧ Stk (w.setCell ⟨p, 3, none⟩ (.int .i64 0)) p ip f room 0 un ov ∧ Only p w (w.setCell ⟨p, 3, none⟩ (.int .i64 0)) := ⟨h.c3, h.st.free 3, h.deep 0 (Nat.zero_le _), (Only.refl p w).put 3 _⟩
  obtain ⟨c3, d0, d2, d3⟩ := hk
  clear h
  replace d2 := Lib.hid d2
  replace d3 := Lib.hid d3
  go_enter Try.func40, Try.ntmps40
  go_wp2_with (fail)
  go_end0
  exact ⟨rfl, d2.out, d3.out⟩
end
end Go.Proofs.Ytkopgjdnfjgbjaa
