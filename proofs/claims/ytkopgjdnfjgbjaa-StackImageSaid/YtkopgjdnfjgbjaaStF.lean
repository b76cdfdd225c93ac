import Derived.Test.YtkopgjdnfjgbjaaStE
import Derived.Defers
namespace Go.Proofs.Ytkopgjdnfjgbjaa
open Go.RowKit
set_option linter.unusedVariables false
set_option linter.unusedSimpArgs false
/-! Push -/
def laid (B : List UInt8) (f k : Nat) : List Int → List UInt8
  | [] => B
  | v :: vs => laid (splice B (f + 8 * k) (by8 v)) f (k + 1) vs
section
variable {w : World} {p ip b f room depth rg : Nat} {un ov : Int} {L : Lay} {B : List UInt8} {o s : Bool}
set_option maxHeartbeats 1000000 in
theorem late_any (p h0 h1 n c depth : Nat) (A : Option Addr) (w : World) (c0 : w.cell? ⟨h0, 0, none⟩ = some (.pointer (some ⟨p, 0, none⟩))) (c1 : w.cell? ⟨h1, 0, none⟩ = some (.slice A n c)) (c3 : w.cell? ⟨p, 3, none⟩ = some (.int .i64 depth)) (f3 : w.frozen? ⟨p, 3, none⟩ = false) (hb : depth + n ≤ 17920) (u : FrameMode) :
    CallsD Try.prog 33 #[.pointer (some ⟨h0, 0, none⟩), .pointer (some ⟨h1, 0, none⟩)] u w fun e u' w' => u' = u ∧ (e = .returned (.tuple #[]) ∧ w' = w.drew.setCell ⟨p, 3, none⟩ (.int .i64 ((depth + n : Nat) : Int))) := by
  have e1 : IntKind.i64.wrap ((depth : Int) + (n : Int)) = ((depth + n : Nat) : Int) := by rw [IntKind.wrap_i64]; omega
  have n1 : (n : Int) ≤ 17920 := by clear e1; omega
  obtain ⟨x, hx⟩ : ∃ x, depth + n = x := ⟨_, rfl⟩
  rw [hx] at e1 ⊢
  clear hx hb
  go_enter_d Try.func33, Try.ntmps33
  go_wp2_with (fail)
  go_still_tail 9, (by kernel_rfl)
  change wpList _ _ _ _ _ w.drew
  go_wp2_with (fail)
  go_end0
  exact ⟨rfl, rfl⟩
/-- ints that lie in a row of memory -/
def Rowd (w : World) (A : Option Addr) (sb so : Nat) (vs : List Int) : Prop := ∀ i (h : i < vs.length), A = some ⟨sb, so, none⟩ ∧ w.cell? ⟨sb, so + i, none⟩ = some (.int .i64 vs[i])
set_option maxHeartbeats 2000000 in
theorem push_no (h : Stk w p ip f room depth un ov) (hb : room ≤ 17920) (A : Option Addr) (n c : Nat) (hn : room - depth < n) (hm : (n : Int) ≤ 140737488355328) :
    Calls Try.prog 18 #[.pointer (some ⟨p, 0, none⟩), .slice A n c] w fun e w' => e = .returned (.int .i64 ov) ∧ Below w.heap.size w w' := by
  have c2 := h.c2
  have c3 := h.c3
  have c5 := h.c5
  have hd := h.dp
  have hz := h.st.lt
  have i1 : ((room : Int) - (depth : Int)) < (n : Int) := by omega
  have e1 : IntKind.i64.wrap ((room : Int) - (depth : Int)) = (room : Int) - depth := by rw [IntKind.wrap_i64]; omega
  obtain ⟨W2, hW2⟩ : ∃ W2, (w.alloc (.cells #[.pointer (some ⟨p, 0, none⟩)] 31)).alloc (.cells #[.slice A n c] 38) = W2 := ⟨_, rfl⟩
  have hB : Below w.heap.size w W2 := by
    rw [← hW2]
    exact ((Below.refl _ _).alloc (Nat.le_refl _) _).alloc (by simp) _
  have k0 : W2.cell? ⟨w.heap.size, 0, none⟩ = some (.pointer (some ⟨p, 0, none⟩)) := by
    rw [← hW2]
    exact ((Bk.fresh w _ _).past _).cell 0
  have k1 : W2.cell? ⟨w.heap.size + 1, 0, none⟩ = some (.slice A n c) := by
    rw [← hW2]
    simp
  have k2 := carry hB hz c2
  have k3 := carry hB hz c3
  have k5 := carry hB hz c5
  clear h hd hn c2 c3 c5
  go_enter_defers Try.func18, Try.ntmps18
  go_wp2_with (fail)
  go_quiet (fail)
  go_wp2_with (fail)
  exact ⟨_, results_tmp rfl _ _ _, rfl, hB.trans ⟨rfl, rfl, rfl, Nat.le_refl _, fun _ _ => rfl⟩⟩
structure Pus (w wr : World) (p ip b f room depth h0 : Nat) (un ov : Int) (L : Lay) (T : List UInt8) (o s : Bool) (A : Option Addr) (n c sb so : Nat) (vs : List Int) (j : Nat) : Prop where
  im : ∃ Bj, Im wr ip b L Bj o s ∧ laid Bj f (depth + j) (vs.drop j) = T
  st : Stk wr p ip f room depth un ov
  k0 : wr.cell? ⟨h0, 0, none⟩ = some (.pointer (some ⟨p, 0, none⟩))
  k1 : wr.cell? ⟨h0 + 1, 0, none⟩ = some (.slice A n c)
  row : Rowd wr A sb so vs
  on : Only b w wr
  lt : h0 + 1 < wr.heap.size
set_option maxHeartbeats 2000000 in
theorem push_yes (hi : Im w ip b L B o s) (h : Stk w p ip f room depth un ov) (hr : Reg L rg f room) (A : Option Addr) (c sb so : Nat) (vs : List Int) (hn : vs.length ≤ room - depth) (hv : Rowd w A sb so vs) :
    Calls Try.prog 18 #[.pointer (some ⟨p, 0, none⟩), .slice A vs.length c] w fun e w' => e = .returned (.int .i64 0) ∧ Im w' ip b L (laid B f depth vs) o s ∧ Stk w' p ip f room (depth + vs.length) un ov ∧ Duo p b w w' := by
  have hev := hr.even hi.ok
  have hpb := (hi.notStk h).2
  have hd := h.dp
  have hz := h.st.lt
  have hvn : ∀ i (hh : i < vs.length), sb < w.heap.size ∧ sb ≠ b := fun i hh => by
    have hc := (hv i hh).2
    refine ⟨World.block_lt_of_cell? w _ hc, fun e => ?_⟩
    subst e
    rw [hi.by_.cell] at hc
    simp [u8s] at hc
  have b1 : room ≤ 17920 := by omega
  obtain ⟨n, hnn⟩ : ∃ n, vs.length = n := ⟨_, rfl⟩
  have i1 : ¬ (((room : Int) - (depth : Int)) < (n : Int)) := by omega
  have i2 : (n : Int) ≤ 17920 := by omega
  have i3 : depth + n ≤ room := by omega
  have e1 : IntKind.i64.wrap ((room : Int) - (depth : Int)) = (room : Int) - depth := by rw [IntKind.wrap_i64]; omega
  obtain ⟨T, hT⟩ : ∃ T, laid B f depth vs = T := ⟨_, rfl⟩
  obtain ⟨W2, hW2⟩ : ∃ W2, (w.alloc (.cells #[.pointer (some ⟨p, 0, none⟩)] 31)).alloc (.cells #[.slice A n c] 38) = W2 := ⟨_, rfl⟩
  have hB : Below w.heap.size w W2 := by
    rw [← hW2]
    exact ((Below.refl _ _).alloc (Nat.le_refl _) _).alloc (by simp) _
  obtain ⟨h0, hh0⟩ : ∃ h0, w.heap.size = h0 := ⟨_, rfl⟩
  have k0 : W2.cell? ⟨h0, 0, none⟩ = some (.pointer (some ⟨p, 0, none⟩)) := by
    rw [← hW2, ← hh0]
    exact ((Bk.fresh w _ _).past _).cell 0
  have k1 : W2.cell? ⟨h0 + 1, 0, none⟩ = some (.slice A n c) := by
    rw [← hW2, ← hh0]
    simp
  have hS : Pus W2 W2 p ip b f room depth h0 un ov L T o s A n c sb so vs 0 := by
    refine ⟨⟨B, hi.bel hB, by simpa using hT⟩, h.bel hB, k0, k1, fun i hh => ⟨(hv i hh).1, carry hB (hvn i hh).1 (hv i hh).2⟩, Only.refl _ _, ?_⟩
    rw [← hW2, ← hh0]; simp
  have k2 := hS.st.c2
  have k3 := hS.st.c3
  have hDuo : Duo p b w W2 := Duo.bel hB
  rw [hnn] at hn ⊢
  rw [hT]
  rw [hh0] at hB
  have hbz : b < h0 ∧ p < h0 := by rw [← hh0]; exact ⟨hi.by_.lt, hz⟩
  replace hbz := Lib.hid hbz
  clear hi h hv hT hd hz hn hev
  replace hnn := Lib.hid hnn
  replace hS := Lib.hid hS
  replace i3 := Lib.hid i3
  replace hDuo := Lib.hid hDuo
  replace hvn := Lib.hid hvn
  have hmf : ∀ (fn : Fn) (first cap : Array Value) (w : World), (Instr.makeFunc fn first cap).run Try.prog w = .ok (.func fn first cap) w := fun _ _ _ _ => rfl
  go_enter_defers Try.func18, Try.ntmps18
  go_wp2_with (fail)
  go_quiet (fail)
  go_wp2_with (fail)
  have hS3 : Pus W2 (W2.drewN nq) p ip b f room depth h0 un ov L T o s A n c sb so vs 0 := ⟨by obtain ⟨Bj, i1, i2⟩ := hS.out.im; exact ⟨Bj, i1.draws nq, i2⟩, ⟨hS.out.st.st.draws nq, hS.out.st.dp⟩, hS.out.k0, hS.out.k1, hS.out.row, hS.out.on.draws nq, hS.out.lt⟩
  replace hS3 := Lib.hid hS3
  obtain ⟨W3, hW3⟩ : ∃ W3, W2.drewN nq = W3 := ⟨_, rfl⟩
  rw [hW3] at hS3 ⊢
  clear hW3 k0 k1 k2 k3 hS
  go_loopw [29] (fun x wr => ∃ j : Nat, x = .int .i64 j ∧ j ≤ n ∧ Pus W2 wr p ip b f room depth h0 un ov L T o s A n c sb so vs j) (fun x _ => n - (intOf x).toNat)
  case atStart => exact ⟨0, rfl, Nat.zero_le _, hS3.out⟩
  case round =>
    obtain ⟨j, rfl, hj0, hR⟩ := hrel
    have r0 := hR.k0
    have r1 := hR.k1
    have r3 := hR.st.c3
    replace hR := Lib.hid hR
    clear e1
    by_cases hj : j < n
    · have hj' : j < vs.length := by rw [hnn.out]; exact hj
      obtain ⟨rA, r4⟩ := hR.out.row j hj'
      subst rA
      obtain ⟨v, hv⟩ : ∃ v, vs[j] = v := ⟨_, rfl⟩
      rw [hv] at r4
      have j0 : (j : Int) < (n : Int) := by omega
      have hid3 := i3.out
      obtain ⟨⟨Bj, iB, iT⟩, iS, _, _, _, iO, _⟩ := hR.out
      have hbn := (hvn.out j hj')
      obtain ⟨B2, hB2⟩ : ∃ B2, splice Bj (f + 8 * (depth + j)) (by8 v) = B2 := ⟨_, rfl⟩
      have hs2 : Calls Try.prog 34 #[.pointer (some ⟨p, 0, none⟩), .int .i64 ((depth : Int) + (j : Int)), .int .i64 v] wr fun e w' => e = .returned (.tuple #[]) ∧ Im w' ip b L B2 o s ∧ Only b wr w' := by
        have := set_any iB iS hr (depth + j) (by omega) v
        rw [hB2, Int.natCast_add] at this
        exact this
      have hT2 : laid B2 f (depth + (j + 1)) (vs.drop (j + 1)) = T := by
        rw [← iT, ← hB2, ← hv, List.drop_eq_getElem_cons hj']; rfl
      have b5 : (depth : Int) + (j : Int) ≤ 17920 := by omega
      clear hB2 iB iS iO iT hv hid3
      replace hbn := Lib.hid hbn
      replace hT2 := Lib.hid hT2
      replace hs2 := Lib.hid hs2
      go_wp2_with (go_at_call 34; refine hs2.out.mono ?_; rintro e w3 ⟨rfl, hI, hO⟩; replace hI := Lib.hid hI; replace hO := Lib.hid hO)
      have hO' := hO.out
      have hR' := hR.out
      have hz' := hbz.out
      have hlt := hR'.lt
      refine ⟨⟨j + 1, rfl, by omega, ⟨⟨B2, hI.out, hT2.out⟩, hR'.st.only hO' hpb, ?_, ?_, ?_, hR'.on.trans hO', Nat.lt_of_lt_of_le hlt hO'.size⟩⟩, ?_⟩
      · exact (World.cell?_of_block (w := wr) (a := ⟨h0, 0, none⟩) (hO'.block h0 (by omega) (by omega))).trans r0
      · exact (World.cell?_of_block (w := wr) (a := ⟨h0 + 1, 0, none⟩) (hO'.block (h0 + 1) (by omega) (by omega))).trans r1
      · intro i hh
        refine ⟨rfl, (World.cell?_of_block (w := wr) (a := ⟨sb, so + i, none⟩) (hO'.block sb ?_ hbn.out.2)).trans (hR'.row i hh).2⟩
        exact World.block_lt_of_cell? wr _ (hR'.row i hh).2
      · simp [intOf]; omega
    · have e : j = n := by omega
      subst e
      go_wp2_with (fail)
      obtain ⟨⟨Bj, iB, iT⟩, iS, _, _, _, iO, _⟩ := hR.out
      have hid3 := i3.out
      have iT : Bj = T := by
        rw [← iT, ← hnn.out, List.drop_length]; rfl
      subst iT
      refine leaves_cons (f := 33) (args := #[.pointer (some ⟨h0, 0, none⟩), .pointer (some ⟨h0 + 1, 0, none⟩)]) (by simp) (by simp [go_sem]) ?_
      refine (late_any p h0 (h0 + 1) j c depth A wr r0 r1 r3 (iS.st.free 3) (by omega) _).mono ?_
      rintro e u' w'' ⟨rfl, rfl, rfl⟩
      refine ⟨_, results_tmp rfl _ _ _, rfl, ?_, ?_, ?_⟩
      · exact (iB.draws 1).far (iB.notStk iS).1.symm (iB.notStk iS).2.symm _
      · have := (iS.bel (W' := wr.drew) ⟨rfl, rfl, rfl, Nat.le_refl _, fun _ _ => rfl⟩).deep (depth + j) (by omega)
        exact this
      · exact hDuo.out.trans ((Duo.two (iO.draws 1)).trans (Duo.one ((Only.refl p _).put 3 _)))
end
end Go.Proofs.Ytkopgjdnfjgbjaa
