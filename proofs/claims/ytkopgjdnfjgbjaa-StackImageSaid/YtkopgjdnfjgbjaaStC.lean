import Derived.Test.YtkopgjdnfjgbjaaStB
namespace Go.Proofs.Ytkopgjdnfjgbjaa
open Go.RowKit
set_option linter.unusedVariables false
set_option linter.unusedSimpArgs false
/-! Roll, Cut -/
/-- the cells from j on, k of them, each takes its upper neighbour's value -/
def slide (B : List UInt8) (f j : Nat) : Nat → List UInt8
  | 0 => B
  | k + 1 => slide (splice B (f + 8 * j) (by8 (cel B (f + 8 * (j + 1))))) f (j + 1) k
section
variable {w : World} {p ip b f room depth rg : Nat} {un ov : Int} {L : Lay} {B : List UInt8} {o s : Bool}
set_option maxHeartbeats 1000000 in
theorem roll_no (h : Stk w p ip f room depth un ov) (n : Int) (hn : hasB n depth = false) : Calls Try.prog 20 #[.pointer (some ⟨p, 0, none⟩), .int .i64 n] w fun e w' => e = .returned (.int .i64 un) ∧ Below w.heap.size w w' := by
  have c4 := h.c4
  have hh := has_any h n
  rw [hn] at hh
  clear h hn
  replace hh := Lib.hid hh
  go_enter Try.func20, Try.ntmps20
  go_wp2_with (go_at_call 35; refine hh.out.mono ?_; rintro e w1 ⟨rfl, rfl⟩)
  go_returns
  exact ⟨rfl, ⟨rfl, rfl, rfl, Nat.le_refl _, fun _ _ => rfl⟩⟩
/-- where Roll's loop stands at cell j: from T on nothing turns -/
structure Rol (w wr : World) (p ip b f room depth : Nat) (un ov : Int) (L : Lay) (T : List UInt8) (o s : Bool) (j : Nat) : Prop where
  im : ∃ Bj, Im wr ip b L Bj o s ∧ slide Bj f j (depth - 1 - j) = T
  st : Stk wr p ip f room depth un ov
  on : Only b w wr
set_option maxHeartbeats 2000000 in
theorem roll_yes (hi : Im w ip b L B o s) (h : Stk w p ip f room depth un ov) (hr : Reg L rg f room) (n i : Nat) (hn : n < depth) (hx : depth - 1 - n = i) (v : Int) (hv : cel B (f + 8 * i) = v) :
    Calls Try.prog 20 #[.pointer (some ⟨p, 0, none⟩), .int .i64 n] w fun e w' => e = .returned (.int .i64 0) ∧ Im w' ip b L (splice (slide B f i (depth - 1 - i)) (f + 8 * (depth - 1)) (by8 v)) o s ∧ Only b w w' := by
  have c3 := h.c3
  have hd := h.dp
  have hev := hr.even hi.ok
  have hok := hi.ok
  have hpb := (hi.notStk h).2
  have hh := has_any h (n : Int)
  have hy : hasB (n : Int) depth = true := by simp [hasB, hn]
  rw [hy] at hh
  have hg := get_any hi h hr i (by omega) v hv
  obtain ⟨T, hT⟩ : ∃ T, slide B f i (depth - 1 - i) = T := ⟨_, rfl⟩
  rw [hT]
  have hrel0 : ∀ w1, Below w.heap.size w w1 → Rol w w1 p ip b f room depth un ov L T o s i := fun w1 hb => ⟨⟨B, hi.bel hb, hT⟩, h.bel hb, Only.of_below hb b⟩
  have hid' : i < depth := by omega
  have e1 : IntKind.i64.wrap ((depth : Int) - 1) = ((depth - 1 : Nat) : Int) := by rw [IntKind.wrap_i64]; omega
  have e2 : IntKind.i64.wrap (((depth - 1 : Nat) : Int) - (n : Int)) = (i : Int) := by rw [IntKind.wrap_i64]; omega
  have b1 : depth ≤ 17920 := by omega
  have q1 : wrap64 ((depth : Int) - 1) = ((depth - 1 : Nat) : Int) := by unfold wrap64; omega
  have q2 : wrap64 (((depth - 1 : Nat) : Int) - (n : Int)) = (i : Int) := by unfold wrap64; omega
  clear hi hev hv hx hT h
  obtain ⟨Q, hQ⟩ : ∃ Q, splice T (f + 8 * (depth - 1)) (by8 v) = Q := ⟨_, rfl⟩
  rw [hQ]
  replace hQ := Lib.hid hQ
  replace hh := Lib.hid hh
  replace hg := Lib.hid hg
  replace hrel0 := Lib.hid hrel0
  go_enter Try.func20, Try.ntmps20
  go_wp2_with (first | (go_at_call 35; refine hh.out.mono ?_; rintro e w1 ⟨rfl, hw1⟩; have hw1 := hw1.symm; subst hw1) | (go_at_call 32; refine hg.out.mono ?_; rintro e w1 ⟨rfl, hb1⟩))
  go_loopw [5] (fun x wr => ∃ j : Nat, x = .int .i64 j ∧ i ≤ j ∧ j < depth ∧ Rol w wr p ip b f room depth un ov L T o s j) (fun x _ => depth - (intOf x).toNat)
  case atStart => exact ⟨i, rfl, Nat.le_refl _, hid', hrel0.out _ hb1⟩
  case round =>
    obtain ⟨j, rfl, hj0, hj1, hR⟩ := hrel
    have r3 := hR.st.c3
    replace hR := Lib.hid hR
    clear e1 e2 q2
    have q1' := Lib.hid q1
    clear q1
    by_cases hj : j + 1 < depth
    · have j0 : (j : Int) < ((depth - 1 : Nat) : Int) := by omega
      have j1 : (decide ((j : Int) < ((depth - 1 : Nat) : Int))) = true := by simpa using j0
      have q3 : wrap64 ((j : Int) + 1) = ((j + 1 : Nat) : Int) := by unfold wrap64; omega
      obtain ⟨⟨Bj, iB, iT⟩, iS, iO⟩ := hR.out
      obtain ⟨x, hx⟩ : ∃ x, cel Bj (f + 8 * (j + 1)) = x := ⟨_, rfl⟩
      have hg2 := get_any iB iS hr (j + 1) (by omega) x hx
      obtain ⟨B2, hB2⟩ : ∃ B2, splice Bj (f + 8 * j) (by8 x) = B2 := ⟨_, rfl⟩
      have hs2 : ∀ w1, Below wr.heap.size wr w1 → Calls Try.prog 34 #[.pointer (some ⟨p, 0, none⟩), .int .i64 j, .int .i64 x] w1 fun e w' => e = .returned (.tuple #[]) ∧ Im w' ip b L B2 o s ∧ Only b w1 w' := by
        intro w1 hb
        have := set_any (iB.bel hb) (iS.bel hb) hr j (by omega) x
        rw [hB2] at this
        exact this
      have hT2 : slide B2 f (j + 1) (depth - 1 - (j + 1)) = T := by
        rw [← iT, ← hB2, ← hx, show depth - 1 - j = (depth - 1 - (j + 1)) + 1 from by omega]; rfl
      clear hB2 hx
      replace hT2 := Lib.hid hT2
      clear iB iS iO iT
      replace hg2 := Lib.hid hg2
      replace hs2 := Lib.hid hs2
      have q1 := q1'.out
      go_wp2_with (first | (go_at_call 32; refine hg2.out.mono ?_; rintro e w2 ⟨rfl, hb2⟩) | (go_at_call 34; refine (hs2.out w2 hb2).mono ?_; rintro e w3 ⟨rfl, hI, hO⟩; replace hI := Lib.hid hI; replace hO := Lib.hid hO))
      refine ⟨⟨j + 1, rfl, by omega, by omega, ⟨⟨B2, hI.out, hT2.out⟩, (hR.out.st.bel hb2).only hO.out hpb, (hR.out.on.trans (Only.of_below hb2 b)).trans hO.out⟩⟩, ?_⟩
      simp [intOf]; omega
    · have e : depth - 1 = j := by omega
      obtain ⟨⟨Bj, iB, iT⟩, iS, iO⟩ := hR.out
      have iT : Bj = T := by rw [← iT, e, Nat.sub_self]; rfl
      subst iT
      have hs2 : Calls Try.prog 34 #[.pointer (some ⟨p, 0, none⟩), .int .i64 j, .int .i64 v] wr fun e w' => e = .returned (.tuple #[]) ∧ Im w' ip b L Q o s ∧ Only b wr w' := by
        have := set_any iB iS hr j (by omega) v
        rw [← e, hQ.out, e] at this
        exact this
      clear iB iS
      replace hs2 := Lib.hid hs2
      have q1 := q1'.out
      rw [e] at q1
      clear q1' 
      have j2 : ¬ ((j : Int) < (depth : Int) - 1) := by clear q1; omega
      clear e hj
      go_wp2_with (go_at_call 34; refine hs2.out.mono ?_; rintro e w3 ⟨rfl, hI, hO⟩; replace hI := Lib.hid hI; replace hO := Lib.hid hO)
      go_returns
      exact ⟨rfl, hI.out, iO.trans hO.out⟩
/-- where Cut's loop stands -/
def blank (B : List UInt8) (f j : Nat) : Nat → List UInt8
  | 0 => B
  | k + 1 => blank (splice B (f + 8 * j) (by8 0)) f (j + 1) k
structure Cuts (w wr : World) (p ip b f room depth d : Nat) (un ov : Int) (L : Lay) (T : List UInt8) (o s : Bool) (j : Nat) : Prop where
  im : ∃ Bj, Im wr ip b L Bj o s ∧ blank Bj f j (d - j) = T
  st : Stk wr p ip f room depth un ov
  on : Only b w wr
/-- only two blocks have turned, and what is new -/
structure Duo (g h : Nat) (W W' : World) : Prop where
  os : W'.os = W.os
  tape : W'.tape = W.tape
  output : W'.output = W.output
  size : W.heap.size ≤ W'.heap.size
  block : ∀ k, k < W.heap.size → k ≠ g → k ≠ h → W'.heap[k]? = W.heap[k]?
theorem Duo.refl (g h : Nat) (a : World) : Duo g h a a := ⟨rfl, rfl, rfl, Nat.le_refl _, fun _ _ _ _ => rfl⟩
theorem Duo.trans {g h : Nat} {a b c : World} (x : Duo g h a b) (y : Duo g h b c) : Duo g h a c :=
  ⟨y.os.trans x.os, y.tape.trans x.tape, y.output.trans x.output, Nat.le_trans x.size y.size, fun i hi h1 h2 => (y.block i (Nat.lt_of_lt_of_le hi x.size) h1 h2).trans (x.block i hi h1 h2)⟩
theorem Duo.one {g h : Nat} {a b : World} (x : Only g a b) : Duo g h a b := ⟨x.os, x.tape, x.output, x.size, fun k hk h1 _ => x.block k hk h1⟩
theorem Duo.two {g h : Nat} {a b : World} (x : Only h a b) : Duo g h a b := ⟨x.os, x.tape, x.output, x.size, fun k hk _ h2 => x.block k hk h2⟩
theorem Duo.bel {g h : Nat} {a b : World} (x : Below a.heap.size a b) : Duo g h a b := ⟨x.os, x.tape, x.output, x.size, fun k hk _ _ => x.block k hk⟩
theorem Duo.bk {g h k : Nat} {a b : World} {t : TypeId} {vs : Array Value} (x : Duo g h a b) (hk : Bk a k t vs) (h1 : k ≠ g) (h2 : k ≠ h) : Bk b k t vs := (x.block k hk.lt h1 h2).trans hk
theorem Duo.below {g h : Nat} {a b : World} (x : Duo g h a b) {B : Nat} (h1 : B ≤ g) (h2 : B ≤ h) (hB : B ≤ a.heap.size) : Below B a b := ⟨x.os, x.tape, x.output, x.size, fun k hk => x.block k (by omega) (by omega) (by omega)⟩
set_option maxHeartbeats 1000000 in
theorem cut_no (h : Stk w p ip f room depth un ov) (d : Int) (hn : d < 0 ∨ (room : Int) < d) : Calls Try.prog 26 #[.pointer (some ⟨p, 0, none⟩), .int .i64 d] w fun e w' => e = .returned (.bool false) ∧ w' = w := by
  have c2 := h.c2
  clear h
  by_cases h1 : d < 0
  · go_enter Try.func26, Try.ntmps26
    go_wp2_with (fail)
    go_returns
    exact ⟨rfl, rfl⟩
  · have h2 : (room : Int) < d := by omega
    clear hn
    go_enter Try.func26, Try.ntmps26
    go_wp2_with (fail)
    go_returns
    exact ⟨rfl, rfl⟩
set_option maxHeartbeats 2000000 in
theorem cut_yes (hi : Im w ip b L B o s) (h : Stk w p ip f room depth un ov) (hr : Reg L rg f room) (d : Nat) (hn : d ≤ room) :
    Calls Try.prog 26 #[.pointer (some ⟨p, 0, none⟩), .int .i64 d] w fun e w' => e = .returned (.bool true) ∧ Im w' ip b L (blank B f depth (d - depth)) o s ∧ Stk w' p ip f room d un ov ∧ Duo p b w w' := by
  have c2 := h.c2
  have c3 := h.c3
  have hev := hr.even hi.ok
  have hok := hi.ok
  have hpb := (hi.notStk h).2
  obtain ⟨T, hT⟩ : ∃ T, blank B f depth (d - depth) = T := ⟨_, rfl⟩
  rw [hT]
  have hrel0 : Cuts w w p ip b f room depth d un ov L T o s depth := ⟨⟨B, hi, hT⟩, h, Only.refl b w⟩
  have b1 : d ≤ 17920 := by omega
  have b2 : depth ≤ 17920 := by have := h.dp; omega
  have b3 : ¬ ((room : Int) < (d : Int)) := by omega
  have b4 : ¬ ((d : Int) < 0) := by omega
  clear hi hev hT h
  replace hrel0 := Lib.hid hrel0
  go_enter Try.func26, Try.ntmps26
  go_wp2_with (fail)
  go_loopw [5] (fun x wr => ∃ j : Nat, x = .int .i64 j ∧ depth ≤ j ∧ (j ≤ d ∨ j = depth) ∧ Cuts w wr p ip b f room depth d un ov L T o s j) (fun x _ => d - (intOf x).toNat)
  case atStart => exact ⟨depth, rfl, Nat.le_refl _, .inr rfl, hrel0.out⟩
  case round =>
    obtain ⟨j, rfl, hj0, hj1, hR⟩ := hrel
    replace hR := Lib.hid hR
    by_cases hj : j < d
    · have j0 : (j : Int) < (d : Int) := by omega
      obtain ⟨⟨Bj, iB, iT⟩, iS, iO⟩ := hR.out
      obtain ⟨B2, hB2⟩ : ∃ B2, splice Bj (f + 8 * j) (by8 0) = B2 := ⟨_, rfl⟩
      have hs2 : Calls Try.prog 34 #[.pointer (some ⟨p, 0, none⟩), .int .i64 j, .int .i64 0] wr fun e w' => e = .returned (.tuple #[]) ∧ Im w' ip b L B2 o s ∧ Only b wr w' := by
        have := set_any iB iS hr j (by omega) 0
        rw [hB2] at this
        exact this
      have hT2 : blank B2 f (j + 1) (d - (j + 1)) = T := by
        rw [← iT, ← hB2, show d - j = (d - (j + 1)) + 1 from by omega]; rfl
      clear hB2 iB iS iO iT
      replace hT2 := Lib.hid hT2
      replace hs2 := Lib.hid hs2
      go_wp2_with (go_at_call 34; refine hs2.out.mono ?_; rintro e w3 ⟨rfl, hI, hO⟩; replace hI := Lib.hid hI; replace hO := Lib.hid hO)
      refine ⟨⟨j + 1, rfl, by omega, by omega, ⟨⟨B2, hI.out, hT2.out⟩, hR.out.st.only hO.out hpb, hR.out.on.trans hO.out⟩⟩, ?_⟩
      simp [intOf]; omega
    · have j0 : ¬ ((j : Int) < (d : Int)) := by omega
      obtain ⟨⟨Bj, iB, iT⟩, iS, iO⟩ := hR.out
      have iT : Bj = T := by rw [← iT, show d - j = 0 from by omega]; rfl
      subst iT
      have r3 := iS.c3
      have f3 := iS.st.free 3
      have hI : Im (wr.setCell ⟨p, 3, none⟩ (.int .i64 d)) ip b L Bj o s := iB.far (iB.notStk iS).1.symm (iB.notStk iS).2.symm _
      have hS : Stk (wr.setCell ⟨p, 3, none⟩ (.int .i64 d)) p ip f room d un ov := iS.deep d hn
      have hO : Duo p b w (wr.setCell ⟨p, 3, none⟩ (.int .i64 d)) := (Duo.two iO).trans (Duo.one ((Only.refl p wr).put 3 _))
      replace hI := Lib.hid hI
      replace hS := Lib.hid hS
      replace hO := Lib.hid hO
      clear iB iS iO
      go_wp2_with (fail)
      go_returns
      exact ⟨rfl, hI.out, hS.out, hO.out⟩
end
end Go.Proofs.Ytkopgjdnfjgbjaa
