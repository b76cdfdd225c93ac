import Derived.Test.YtbhgjjicmbbjaaaDoorTrN
namespace Go.Proofs.YtbhgjjicmbbjaaaDoor
open Go.RowKit
set_option linter.unusedVariables false
set_option linter.unusedSimpArgs false
/-! chapter 17: read (printed by gen_tro.py) -/
theorem untB_list (c : UInt8) (s : ByteArray) : (untB c s).1.data.toList = (untl c s.data.toList).1 ∧ (untB c s).2.1.data.toList = (untl c s.data.toList).2.1 ∧ (untB c s).2.2 = (untl c s.data.toList).2.2 := by
  unfold untB
  exact ⟨by simp, by simp, rfl⟩
theorem no10_line {l : List UInt8} : (10 : UInt8) ∉ (untl 10 l).1 := (untl_spec 10 l).1

def puC (x : Pu) : List Value := [.string x.out, .int .i64 x.fault, .int .i64 x.fuel]
def pusC (X : List Pu) : List Value := X.flatMap puC
theorem pusC_push (X : List Pu) (x : Pu) : pusC X ++ puC x = pusC (X ++ [x]) := by simp [pusC]
theorem pu_info : (Tryd.prog.info? 27).map (fun i => (i.zero, i.size, i.bytes)) = some (some (puV ⟨⟨#[]⟩, 0, 0⟩), 3, 32) := by kernel_rfl
theorem pu_app {w : World} {base : Nat} {v : Value} {X : List Pu} {n : Nat} (x : Pu) (hn : X.length = n) (h : w.ownsRow base 27 3 v n (pusC X)) (hb : base ≤ w.heap.size) (hl : n ≤ 1000000) :
    ∃ A' c' w2, (Builtin.append_ #[22, 22] 22 #[v, .slice (some ⟨w.heap.size, 0, none⟩) 1 1]).run Tryd.prog (w.alloc (.cells #[.string x.out, .int .i64 x.fault, .int .i64 x.fuel] 27)) = .ok (.slice A' (n + 1) c') w2 ∧
      w2.ownsRow base 27 3 (.slice A' (n + 1) c') (n + 1) (pusC (X ++ [x])) ∧ w.grownBy w2 v.ownBlock := by
  obtain ⟨i9, hi, hz0, hz1, hz2⟩ := info_parts pu_info
  have hrow := h.alloc (.cells #[.string x.out, .int .i64 x.fault, .int .i64 x.fuel] 27)
  obtain ⟨v', w2, hrun, hown, hgr, _⟩ := run_append_own (P := Tryd.prog) (w.alloc (.cells #[.string x.out, .int .i64 x.fault, .int .i64 x.fuel] 27)) base 22 22 27 i9 _ 3 32 Tryd.underlying22 hi hz0 hz1 hz2 rfl (by decide) v n (pusC X) hrow ⟨w.heap.size, 0, none⟩ 1 1 (puC x) rfl (fun j u hu => by
    have := (Bk.fresh w 27 #[.string x.out, .int .i64 x.fault, .int .i64 x.fuel]).cell j
    rw [show ((⟨w.heap.size, 0, none⟩ : Addr).add j) = ⟨w.heap.size, j, none⟩ by unfold Addr.add; split <;> simp_all]
    exact this.trans (by simpa [puC] using hu)) (fun u hu => by simp [puC] at hu; rcases hu with rfl | rfl | rfl <;> rfl) (by unfold maxLen; omega) (by omega) (by simp; omega)
  rw [pusC_push] at hown
  obtain ⟨A', c', rfl⟩ := own_form hown
  have hg0 := World.grownBy_alloc w (.cells #[.string x.out, .int .i64 x.fault, .int .i64 x.fuel] 27) v.ownBlock
  exact ⟨A', c', w2, hrun, hown, ⟨hgr.os.trans hg0.os, hgr.tape.trans hg0.tape, hgr.output.trans hg0.output, Nat.le_trans hg0.size hgr.size, fun k hk hn => (hgr.block k (Nat.lt_of_lt_of_le hk hg0.size) hn).trans (hg0.block k hk hn)⟩⟩

/-- a round's answer -/
theorem round_pu {i : Nat} {r : ByteArray} {nv : Int} {ev : Value} {x : Pu} (hA : AtoiP (untB 32 (untB 32 (untB 32 (untB 10 r).1).2.1).2.1).1 nv ev) (hx : MadePu (faultP (untB 32 (untB 32 (untB 10 r).1).2.1).1) nv (untB 32 (untB 32 (untB 32 (untB 10 r).1).2.1).2.1).2.1 x) :
    ((untB 10 r).2.2 = true ∧ ev = .nilIface ∧ puOk x = true ∧ (untB 32 (untB 10 r).1).1.data.toList = Lib.itoa (i : Int) ∧ puL x = (untB 32 (untB 10 r).1).2.1.data.toList → theX puOk puL i (line1 r.data.toList) = some x) ∧
    (¬ ((untB 10 r).2.2 = true ∧ ev = .nilIface ∧ puOk x = true ∧ (untB 32 (untB 10 r).1).1.data.toList = Lib.itoa (i : Int) ∧ puL x = (untB 32 (untB 10 r).1).2.1.data.toList) → theX puOk puL i (line1 r.data.toList) = none) := by
  constructor
  · rintro ⟨h1, _, h3, h4, h5⟩
    rw [(untB_list 10 r).2.2] at h1
    rw [(untB_list 32 _).1, (untB_list 10 r).1] at h4
    rw [(untB_list 32 _).2.1, (untB_list 10 r).1] at h5
    have hl : (untl 10 r.data.toList).1 = Lib.itoa (i : Int) ++ [32] ++ puL x := by
      rcases (untl_spec 32 (untl 10 r.data.toList).1).2 with ⟨_, h⟩ | ⟨_, _, h⟩
      · rw [h, h4, ← h5]; simp
      · rw [h] at h5
        have : puL x ≠ [] := by unfold puL; simp
        exact absurd h5 this
    have he : line1 r.data.toList = lineL i (puL x) := by
      unfold line1 lineL
      rw [h1, hl]
      rfl
    rw [he]
    exact theX_yes kind_pu h3
  · intro hno
    cases hy : theX puOk puL i (line1 r.data.toList) with
    | none => rfl
    | some y =>
      exfalso
      apply hno
      obtain ⟨y1, y2⟩ := theX_spec hy
      have hend : (untl 10 r.data.toList).2.2 = true := by
        cases h : (untl 10 r.data.toList).2.2
        · unfold line1 at y2
          rw [h] at y2
          simp only [Bool.false_eq_true, if_false, List.append_nil] at y2
          have : (10 : UInt8) ∈ (untl 10 r.data.toList).1 := by rw [y2]; unfold lineL; simp
          exact absurd this no10_line
        · rfl
      have hl : (untl 10 r.data.toList).1 = Lib.itoa (i : Int) ++ [32] ++ puL y := by
        unfold line1 lineL at y2
        rw [hend] at y2
        exact List.append_cancel_right y2
      have e1 := untB_list 10 r
      rw [hl] at e1
      have u2 : untl 32 (Lib.itoa (i : Int) ++ [32] ++ puL y) = (Lib.itoa (i : Int), puL y, true) := by
        rw [List.append_assoc]
        exact untl_app 32 _ _ (no32_itoa _)
      have e2 := untB_list 32 (untB 10 r).1
      rw [e1.1, u2] at e2
      have e3 := untB_list 32 (untB 32 (untB 10 r).1).2.1
      rw [e2.2.1, puL_untl y] at e3
      have e4 := untB_list 32 (untB 32 (untB 32 (untB 10 r).1).2.1).2.1
      rw [e3.2.1, puL_untl2 y] at e4
      have oy := rightP_iff.1 y1
      have hw : (untB 32 (untB 32 (untB 10 r).1).2.1).1 = wordB y.fault := ba_ext (by rw [e3.1]; unfold wordB; simp)
      have hf : faultP (untB 32 (untB 32 (untB 10 r).1).2.1).1 = y.fault := by rw [hw]; exact faultP_word oy.1
      have hat : Lib.atoiAll (untB 32 (untB 32 (untB 32 (untB 10 r).1).2.1).2.1).1.data.toList = .ok y.fuel := by
        rw [e4.1]
        exact atoiAll_itoa _ oy.2.1 oy.2.2.1
      have hev : ev = .nilIface ∧ nv = y.fuel := by
        rcases hA.2 with ⟨h, h2⟩ | ⟨_, h2⟩
        · rw [hat] at h2
          injection h2 with h2
          exact ⟨h, h2.symm⟩
        · exact absurd hat (h2 _)
      have hxy : x = y := by
        obtain ⟨m1, m2, m3, m4⟩ := hx
        rw [hf] at m1
        rw [hev.2] at m2
        have m5 := ba_ext (m4 _ e4.2.1)
        cases x; cases y
        simp only at m1 m2 m5
        rw [m1, m2, m5]
      rw [hxy]
      exact ⟨e1.2.2.trans hend, hev.1, y1, e2.1, e2.2.1.symm⟩
theorem puOk_I {x : Pu} (h : puOk x = true) : puI x := by
  have h := rightP_iff.1 h
  unfold puI inI
  omega
/-- what read answers -/
def puA (w w' : World) (v : Value) : Rd Pu → Prop
  | .got l => ∃ A c, v = .tuple #[.slice A l.length c, .int .i64 0, .int .i64 0] ∧ w'.ownsRow w.heap.size 27 3 (.slice A l.length c) l.length (pusC l)
  | .bad e k => v = .tuple #[.slice none 0 0, .int .i64 e, .int .i64 (k : Int)]

def prC (x : Pr) : List Value := [.int .i64 x.points, .bool x.said, .int .i64 x.fault, .int .i64 x.fuel, .string x.log]
def prsC (X : List Pr) : List Value := X.flatMap prC
theorem prsC_push (X : List Pr) (x : Pr) : prsC X ++ prC x = prsC (X ++ [x]) := by simp [prsC]
theorem pr_info : (Tryd.prog.info? 34).map (fun i => (i.zero, i.size, i.bytes)) = some (some (prV ⟨0, false, 0, 0, ⟨#[]⟩⟩), 5, 48) := by kernel_rfl
theorem pr_app {w : World} {base : Nat} {v : Value} {X : List Pr} {n : Nat} (x : Pr) (hn : X.length = n) (h : w.ownsRow base 34 5 v n (prsC X)) (hb : base ≤ w.heap.size) (hl : n ≤ 1000000) :
    ∃ A' c' w2, (Builtin.append_ #[32, 32] 32 #[v, .slice (some ⟨w.heap.size, 0, none⟩) 1 1]).run Tryd.prog (w.alloc (.cells #[.int .i64 x.points, .bool x.said, .int .i64 x.fault, .int .i64 x.fuel, .string x.log] 34)) = .ok (.slice A' (n + 1) c') w2 ∧
      w2.ownsRow base 34 5 (.slice A' (n + 1) c') (n + 1) (prsC (X ++ [x])) ∧ w.grownBy w2 v.ownBlock := by
  obtain ⟨i9, hi, hz0, hz1, hz2⟩ := info_parts pr_info
  have hrow := h.alloc (.cells #[.int .i64 x.points, .bool x.said, .int .i64 x.fault, .int .i64 x.fuel, .string x.log] 34)
  obtain ⟨v', w2, hrun, hown, hgr, _⟩ := run_append_own (P := Tryd.prog) (w.alloc (.cells #[.int .i64 x.points, .bool x.said, .int .i64 x.fault, .int .i64 x.fuel, .string x.log] 34)) base 32 32 34 i9 _ 5 48 Tryd.underlying32 hi hz0 hz1 hz2 rfl (by decide) v n (prsC X) hrow ⟨w.heap.size, 0, none⟩ 1 1 (prC x) rfl (fun j u hu => by
    have := (Bk.fresh w 34 #[.int .i64 x.points, .bool x.said, .int .i64 x.fault, .int .i64 x.fuel, .string x.log]).cell j
    rw [show ((⟨w.heap.size, 0, none⟩ : Addr).add j) = ⟨w.heap.size, j, none⟩ by unfold Addr.add; split <;> simp_all]
    exact this.trans (by simpa [prC] using hu)) (fun u hu => by simp [prC] at hu; rcases hu with rfl | rfl | rfl | rfl | rfl <;> rfl) (by unfold maxLen; omega) (by omega) (by simp; omega)
  rw [prsC_push] at hown
  obtain ⟨A', c', rfl⟩ := own_form hown
  have hg0 := World.grownBy_alloc w (.cells #[.int .i64 x.points, .bool x.said, .int .i64 x.fault, .int .i64 x.fuel, .string x.log] 34) v.ownBlock
  exact ⟨A', c', w2, hrun, hown, ⟨hgr.os.trans hg0.os, hgr.tape.trans hg0.tape, hgr.output.trans hg0.output, Nat.le_trans hg0.size hgr.size, fun k hk hn => (hgr.block k (Nat.lt_of_lt_of_le hk hg0.size) hn).trans (hg0.block k hk hn)⟩⟩

/-- a round's answer -/
theorem round_pr {i : Nat} {r : ByteArray} {nv : Int} {ev : Value} {x : Pr} (hA : AtoiP (untB 32 (untB 32 (untB 32 (untB 10 r).1).2.1).2.1).1 nv ev) (hx : MadePr (faultP (untB 32 (untB 32 (untB 10 r).1).2.1).1) nv (untB 32 (untB 32 (untB 32 (untB 10 r).1).2.1).2.1).2.1 x) :
    ((untB 10 r).2.2 = true ∧ ev = .nilIface ∧ prOk x = true ∧ (untB 32 (untB 10 r).1).1.data.toList = Lib.itoa (i : Int) ∧ prL x = (untB 32 (untB 10 r).1).2.1.data.toList → theX prOk prL i (line1 r.data.toList) = some x) ∧
    (¬ ((untB 10 r).2.2 = true ∧ ev = .nilIface ∧ prOk x = true ∧ (untB 32 (untB 10 r).1).1.data.toList = Lib.itoa (i : Int) ∧ prL x = (untB 32 (untB 10 r).1).2.1.data.toList) → theX prOk prL i (line1 r.data.toList) = none) := by
  constructor
  · rintro ⟨h1, _, h3, h4, h5⟩
    rw [(untB_list 10 r).2.2] at h1
    rw [(untB_list 32 _).1, (untB_list 10 r).1] at h4
    rw [(untB_list 32 _).2.1, (untB_list 10 r).1] at h5
    have hl : (untl 10 r.data.toList).1 = Lib.itoa (i : Int) ++ [32] ++ prL x := by
      rcases (untl_spec 32 (untl 10 r.data.toList).1).2 with ⟨_, h⟩ | ⟨_, _, h⟩
      · rw [h, h4, ← h5]; simp
      · rw [h] at h5
        have : prL x ≠ [] := by unfold prL; simp
        exact absurd h5 this
    have he : line1 r.data.toList = lineL i (prL x) := by
      unfold line1 lineL
      rw [h1, hl]
      rfl
    rw [he]
    exact theX_yes kind_pr h3
  · intro hno
    cases hy : theX prOk prL i (line1 r.data.toList) with
    | none => rfl
    | some y =>
      exfalso
      apply hno
      obtain ⟨y1, y2⟩ := theX_spec hy
      have hend : (untl 10 r.data.toList).2.2 = true := by
        cases h : (untl 10 r.data.toList).2.2
        · unfold line1 at y2
          rw [h] at y2
          simp only [Bool.false_eq_true, if_false, List.append_nil] at y2
          have : (10 : UInt8) ∈ (untl 10 r.data.toList).1 := by rw [y2]; unfold lineL; simp
          exact absurd this no10_line
        · rfl
      have hl : (untl 10 r.data.toList).1 = Lib.itoa (i : Int) ++ [32] ++ prL y := by
        unfold line1 lineL at y2
        rw [hend] at y2
        exact List.append_cancel_right y2
      have e1 := untB_list 10 r
      rw [hl] at e1
      have u2 : untl 32 (Lib.itoa (i : Int) ++ [32] ++ prL y) = (Lib.itoa (i : Int), prL y, true) := by
        rw [List.append_assoc]
        exact untl_app 32 _ _ (no32_itoa _)
      have e2 := untB_list 32 (untB 10 r).1
      rw [e1.1, u2] at e2
      have e3 := untB_list 32 (untB 32 (untB 10 r).1).2.1
      rw [e2.2.1, prL_untl y] at e3
      have e4 := untB_list 32 (untB 32 (untB 32 (untB 10 r).1).2.1).2.1
      rw [e3.2.1, prL_untl2 y] at e4
      have oy := prOk_iff.1 y1
      have hw : (untB 32 (untB 32 (untB 10 r).1).2.1).1 = wordB y.fault := ba_ext (by rw [e3.1]; unfold wordB; simp)
      have hf : faultP (untB 32 (untB 32 (untB 10 r).1).2.1).1 = y.fault := by rw [hw]; exact faultP_word oy.1.1
      have hat : Lib.atoiAll (untB 32 (untB 32 (untB 32 (untB 10 r).1).2.1).2.1).1.data.toList = .ok y.fuel := by
        rw [e4.1]
        exact atoiAll_itoa _ oy.1.2.1 oy.1.2.2.1
      have hev : ev = .nilIface ∧ nv = y.fuel := by
        rcases hA.2 with ⟨h, h2⟩ | ⟨_, h2⟩
        · rw [hat] at h2
          injection h2 with h2
          exact ⟨h, h2.symm⟩
        · exact absurd hat (h2 _)
      have hxy : x = y := by
        obtain ⟨m1, m2, m3, m4, m5⟩ := hx
        rw [hf] at m1
        rw [hev.2] at m2
        obtain ⟨p1, p2, p3⟩ := m5 y y1 e4.2.1
        cases x; cases y
        simp only at m1 m2 p1 p2 p3
        rw [m1, m2, p1, p2, p3]
      rw [hxy]
      exact ⟨e1.2.2.trans hend, hev.1, y1, e2.1, e2.2.1.symm⟩
theorem prOk_I {x : Pr} (h : prOk x = true) : prI x := by
  have h := prOk_iff.1 h
  unfold prI inI
  omega
/-- what read answers -/
def prA (w w' : World) (v : Value) : Rd Pr → Prop
  | .got l => ∃ A c, v = .tuple #[.slice A l.length c, .int .i64 0, .int .i64 0] ∧ w'.ownsRow w.heap.size 34 5 (.slice A l.length c) l.length (prsC l)
  | .bad e k => v = .tuple #[.slice none 0 0, .int .i64 e, .int .i64 (k : Int)]
end Go.Proofs.YtbhgjjicmbbjaaaDoor
