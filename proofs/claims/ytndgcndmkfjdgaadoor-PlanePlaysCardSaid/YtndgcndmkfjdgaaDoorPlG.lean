import Derived.Test.YtndgcndmkfjdgaaDoorPlF
namespace Go.Proofs.YtndgcndmkfjdgaaDoor
open Go.RowKit Go.Extern.Stop Go.Stop Go.Extern
set_option linter.unusedVariables false
set_option linter.unusedSimpArgs false
/-! the turtle: Turn, Marks -/
theorem unit_turn {v : Pt} (h : Unit4 v) (n : Int) : Unit4 (turnZ v n) := by
  rcases turn_form v n with ⟨_, e⟩ | ⟨_, e⟩ | ⟨_, e⟩ | ⟨_, e⟩ <;> rw [e] <;> rcases h with rfl | rfl | rfl | rfl <;> unfold Unit4 <;> decide
section
variable {w : World} {base t : Nat} {V : Value} {a v : Pt} {dn : Bool} {ms : List Mk}
theorem tturn (T : Tt w base t V a v dn ms) (n : Int) : Calls Tryd.prog 28 #[.pointer (some ⟨t, 0, none⟩), .int .i64 n] w fun e w' => e = .returned (.tuple #[]) ∧ Tt w' base t V a (turnZ v n) dn ms ∧ Only t w w' := by
  have c1 := T.bk.cell 1
  have hs : Sm v 16777216 := sm_mono T.un.sm (by decide)
  have hk := fun w => turn_ok (wz v) v n (wz_nm hs) hs w
  unfold wz at hk
  simp only at hk
  simp [cw] at c1
  have key : ∀ W, Below w.heap.size w W → Tt (W.setCell ⟨t, 1, none⟩ (.complex .f64 (fi (turnZ v n).1 false) (fi (turnZ v n).2 false))) base t V a (turnZ v n) dn ms ∧ Only t w (W.setCell ⟨t, 1, none⟩ (.complex .f64 (fi (turnZ v n).1 false) (fi (turnZ v n).2 false))) := fun W hb => by
    refine ⟨?_, ((Only.of_below hb t).put 1 _)⟩
    have T2 := T.bel hb
    exact T2.put (vs := #[]) (T2.bk.put 1 _) ((Only.refl t W).put 1 _) T.sa (unit_turn T.un n)
  have fr : ∀ W, Below w.heap.size w W → W.frozen? ⟨t, 1, none⟩ = false ∧ W.cell? ⟨t, 1, none⟩ = some (.complex .f64 (fi v.1 false) (fi v.2 false)) := fun W hb => ⟨(T.bel hb).bk.free 1, by have := (T.bel hb).bk.cell 1; simpa [cw] using this⟩
  replace hk := Lib.hid hk
  replace key := Lib.hid key
  replace fr := Lib.hid fr
  clear T hs
  go_enter Tryd.func28, Tryd.ntmps28
  go_wp2_with (fail)
  refine (hk.out _).mono ?_
  rintro e w1 ⟨rfl, hb⟩
  obtain ⟨f1, f2⟩ := fr.out w1 hb
  unfold cw
  go_wp2_with (fail)
  go_returns
  exact ⟨rfl, (key.out w1 hb).1, (key.out w1 hb).2⟩
set_option maxRecDepth 100000 in
set_option maxHeartbeats 1000000 in
theorem tmarks (T : Tt w base t V a v dn ms) : Calls Tryd.prog 24 #[.pointer (some ⟨t, 0, none⟩)] w fun e w' => ∃ A c, e = .returned (.slice A ms.length c) ∧ w'.ownsRow w.heap.size 65 2 (.slice A ms.length c) ms.length (mwsC (ms.map mkW)) ∧ Below w.heap.size w w' := by
  have c3 := T.bk.cell 3
  simp at c3
  have hcl : Calls Tryd.prog 51 #[V] w fun e w' => ∃ A c, e = .returned (.slice A ms.length c) ∧ w'.ownsRow w.heap.size 65 2 (.slice A ms.length c) ms.length (mwsC (ms.map mkW)) ∧ Below w.heap.size w w' := by
    have hr := T.row
    have hle := T.le
    obtain ⟨i9, hi, hz0, hz1, hz2⟩ := info_parts info_mark
    have hL1 : (mwsC (ms.map mkW)).length = ms.length * 2 := by rw [mwsC_len, List.length_map]
    have h1 := mwsC_one (ms.map mkW)
    obtain ⟨n, hn⟩ : ∃ n, ms.length = n := ⟨_, rfl⟩
    obtain ⟨news, hw⟩ : ∃ news, mwsC (ms.map mkW) = news := ⟨_, rfl⟩
    rw [hn, hw] at hr hL1
    rw [hw] at h1
    rw [hn] at hle
    rw [hn, hw]
    clear hn hw T c3
    have q22 : ∀ (w : World) (a : Option Addr) (n c n' c' : Nat), (binOp .eql 24 (.slice a n c) (.slice none n' c')).run Tryd.prog w = .ok (.bool a.isNone) w := fun w a n c n' c' => Lib.run_eql_slice_nil w _ _ a n c n' c' Tryd.underlying24
    rcases hr.2 with ⟨rfl, h0⟩ | ⟨g, cap, cur, rfl, hb, hg, _⟩
    · subst h0
      obtain rfl : news = [] := List.eq_nil_of_length_eq_zero (by rw [hL1])
      clear hr hi hz0 hz1 hz2 h1 hL1
      go_enter Tryd.func51, Tryd.ntmps51
      go_wp2_with (fail)
      go_returns
      exact ⟨none, 0, rfl, World.ownsRow_nil _ _ _ _, Below.refl _ _⟩
    · have hc : ∀ j u, news[j]? = some u → w.cell? ⟨g, 0 + j, none⟩ = some u := fun j u hu => by
        have := hr.cells (g := g) rfl j u hu
        rw [Nat.zero_add]
        rwa [show ((⟨g, 0, none⟩ : Addr).add j) = ⟨g, j, none⟩ by unfold Addr.add; split <;> simp_all] at this
      replace hc := Lib.hid hc
      replace h1 := Lib.hid h1
      clear hr hb hg
      have hq : n ≤ maxLen := by unfold maxLen; omega
      go_enter Tryd.func51, Tryd.ntmps51
      go_wp2_with (at_builtin; refine wpList_append_own _ rfl _ _ 24 rfl w.heap.size 65 i9 _ 2 32 Tryd.underlying24 hi hz0 hz1 hz2 rfl (by decide) _ _ _ rfl (World.ownsRow_made w #[] 0 (Nat.le_refl _) (Nat.zero_le _) (by simp)) ⟨g, 0, none⟩ n cap news rfl ?qc1 ?qc2 ?qc3 ?qc4 ?qc5 ?qc6 ?_)
      case qc1 => exact hL1
      case qc2 =>
        intro j u hj
        have := hc.out j u hj
        rw [show ((⟨g, 0, none⟩ : Addr).add j) = ⟨g, 0 + j, none⟩ by unfold Addr.add; split <;> simp_all]
        exact Lib.cell?_alloc_some _ this
      case qc3 => exact h1.out
      case qc4 => rw [Nat.zero_add]; exact hq
      case qc5 => rw [Nat.zero_add]; omega
      case qc6 => simp
      intro v' w1 hown hgrow hnil
      have hb1 := ((Below.refl _ w).alloc (Nat.le_refl _) _).grown hgrow (by simp) (by intro k hk; simp [Value.ownBlock] at hk; omega)
      try rw [Nat.zero_add, List.nil_append] at hown
      obtain ⟨A, c, rfl⟩ := own_form hown
      replace hown := Lib.hid hown
      replace hb1 := Lib.hid hb1
      clear hgrow hnil
      go_wp2_with (fail)
      go_returns
      exact ⟨A, c, rfl, hown.out, hb1.out⟩
  replace hcl := Lib.hid hcl
  clear T
  go_enter Tryd.func24, Tryd.ntmps24
  go_wp2_with (fail)
  refine hcl.out.mono ?_
  rintro e w1 ⟨A, c, rfl, h1, h2⟩
  replace h1 := Lib.hid h1
  go_wp2_with (fail)
  go_returns
  exact ⟨A, c, rfl, h1.out, h2⟩
end
end Go.Proofs.YtndgcndmkfjdgaaDoor
