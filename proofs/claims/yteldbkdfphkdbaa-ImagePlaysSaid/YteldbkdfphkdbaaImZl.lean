import Derived.Test.YteldbkdfphkdbaaImZk
namespace Go.Proofs.Yteldbkdfphkdbaa
open Go.RowKit
set_option linter.unusedVariables false
set_option linter.unusedSimpArgs false
/-! play, other: one call on both images -/
abbrev Bz (v0 : World) (F : List (Nat × TypeId × Array Value)) (pp p p2 : Nat) : Bas := ⟨v0, (pp, 71, #[.pointer (some ⟨p, 0, none⟩), .pointer (some ⟨p2, 0, none⟩)]) :: F⟩
abbrev Bo (v0 : World) (F : List (Nat × TypeId × Array Value)) (pp p p2 y : Nat) (o0 o1 o2 o3 o4 o5 o6 : Int) (fr : Bool) (tx : ByteArray) : Bas :=
  ⟨v0, (y, 62, #[.int .i64 o0, .int .i64 o1, .int .i64 o2, .int .i64 o3, .int .i64 o4, .int .i64 o5, .int .i64 o6, .bool fr, .string tx]) :: (Bz v0 F pp p p2).F⟩
section
variable {v0 w : World} {F : List (Nat × TypeId × Array Value)} {pp p b p2 b2 y : Nat} {L : Lay} {B B2 : List UInt8} {o s o2' s2 : Bool} {o0 o1 o2 o3 o4 o5 o6 : Int} {fr : Bool} {tx : ByteArray}
theorem bo_S (h : Tw (Bo v0 F pp p p2 y o0 o1 o2 o3 o4 o5 o6 fr tx) w p b p2 b2 L B o s B2 o2' s2) : w.cell? ⟨pp, 0, none⟩ = some (.pointer (some ⟨p, 0, none⟩)) ∧ w.cell? ⟨pp, 1, none⟩ = some (.pointer (some ⟨p2, 0, none⟩)) ∧ w.cell? ⟨y, 2, none⟩ = some (.int .i64 o2) ∧ w.cell? ⟨y, 5, none⟩ = some (.int .i64 o5) ∧ w.cell? ⟨y, 6, none⟩ = some (.int .i64 o6) ∧ w.cell? ⟨y, 8, none⟩ = some (.string tx) :=
  ⟨h.drop.top.cell 0, h.drop.top.cell 1, h.top.cell 2, h.top.cell 5, h.top.cell 6, h.top.cell 8⟩
/-- a region's walk under less that is held: under more -/
theorem wpAnyH_mono {P : Program} {md : Region.Mode} {ops : Array Oper} {Q : Exit → Act → World → Prop} {S S' : World → Prop} (hs : ∀ w, S' w → S w) : ∀ (fuel : Nat) (listed : Array Bool) (a : Act) (w : World), wpAnyH P md ops Q S' fuel listed a w → wpAnyH P md ops Q S fuel listed a w
  | 0, _, _, _, h => h
  | fuel + 1, _, _, _, h => ⟨h.1, fun i hi => wpOp_mono (fun a' w' h' => ⟨hs _ h'.1, wpAnyH_mono hs fuel _ a' w' h'.2⟩) (h.2 i hi)⟩
theorem two_part2 {w0 : Bas} {p b p2 b2 : Nat} {L : Lay} {B : List UInt8} {o s : Bool} (hL : L.ok) (r : Int) : ∃ T : ByteArray, T.size ≤ 143360 ∧
    LC w0 p b p2 b2 L 27 #[.pointer (some ⟨p, 0, none⟩), .int .i64 r] (.string T) B o s B o s ∧
    DC w0 p b p2 b2 L 56 #[.pointer (some ⟨p2, 0, none⟩), .int .i64 r] (.string T) B o s B o s := by
  refine ⟨⟨(partL L B r).toArray⟩, ?_, fun W1 B2 o2 s2 h => (Part_any h.im r).mono fun e w' g => ⟨g.1, Lib.hid (by obtain ⟨n, hn⟩ := g.2; rw [hn]; exact h.draws n)⟩, fun W1 B1 o1 s1 h => (rpart_any h.rf r).mono fun e w' g => ⟨g.1, Lib.hid (h.bel g.2)⟩⟩
  have h1 := Lay.from_le hL r
  have h2 := Lay.mono hL
  rw [size_list]
  unfold partL
  rw [List.length_take]
  omega
theorem put_text (tx T : ByteArray) (h1 : (1 : Int) ≤ tx.size) (h2 : (1 : Int) ≤ T.size) (h3 : T.size ≤ 143360) : ∃ S : ByteArray, ∀ W, (Op.stringOp .add (tx.extract 0 1) (T.extract 1 T.size)).run Try.prog W = .ok (.string S) W := by
  refine ⟨_, fun W => run_string_add_sum W _ _ ?_⟩
  rw [ByteArray.size_extract, ByteArray.size_extract]
  omega
set_option maxRecDepth 100000 in
set_option maxHeartbeats 8000000 in
theorem other_any (hT : Tw (Bz v0 F pp p p2) w p b p2 b2 L B o s B o s) (k : Nat) (hk : k = 10 ∨ k = 11 ∨ k = 12 ∨ k = 13) (hpk : pickN o0 14 = k) (i0 : inI o0) (i2 : inI o2) (i6 : inI o6) (hx : tx.size ≤ 140737488351232) :
    Calls Try.prog 55 #[.pointer (some ⟨pp, 0, none⟩), .agg #[.int .i64 o0, .int .i64 o1, .int .i64 o2, .int .i64 o3, .int .i64 o4, .int .i64 o5, .int .i64 o6, .bool fr, .string tx]] w fun e w' => e = .returned (.bool true) ∧ Hid (∃ B' o' s', Tw (Bz v0 F pp p p2) w' p b p2 b2 L B' o' s' B' o' s') := by
  have hpk1 := fun W => pick_any o0 14 W i0.1 i0.2 (by decide) (by decide)
  simp only [show (14 : Int).toNat = 14 from rfl, hpk] at hpk1
  have hT1 := hT.made 62 #[.int .i64 o0, .int .i64 o1, .int .i64 o2, .int .i64 o3, .int .i64 o4, .int .i64 o5, .int .i64 o6, .bool fr, .string tx]
  replace hpk1 := Lib.hid hpk1
  clear hT hpk
  go_enter Try.func55, Try.ntmps55
  go_wp2_with (fail)
  obtain ⟨y, hy⟩ : ∃ y, w.heap.size = y := ⟨_, rfl⟩
  obtain ⟨X, hX⟩ : ∃ X, w.alloc (.cells #[.int .i64 o0, .int .i64 o1, .int .i64 o2, .int .i64 o3, .int .i64 o4, .int .i64 o5, .int .i64 o6, .bool fr, .string tx] 62) = X := ⟨_, rfl⟩
  rw [hy, hX] at hT1
  rw [hX, hy]
  clear hX hy
  have hT : Hid (Tw (Bo v0 F pp p p2 y o0 o1 o2 o3 o4 o5 o6 fr tx) X p b p2 b2 L B o s B o s) := Lib.hid hT1
  have hx : (tx.size : Int) ≤ 140737488351232 := by omega
  clear hT1
  refine (hpk1.out _).mono ?_
  rintro e w1 ⟨rfl, hw_⟩
  have hw_ := hw_.symm
  subst hw_
  obtain ⟨k0, k1, k2, k5, k6, k8⟩ := bo_S hT.out
  clear hpk1
  rcases hk with rfl | rfl | rfl | rfl
  · by_cases h2 : o6.tmod 2 = 0
    · go_wp2_with (fail)
      obtain ⟨res, o', hL, hR⟩ := two_open (w0 := Bo v0 F pp p p2 y o0 o1 o2 o3 o4 o5 o6 fr tx) (p := p) (b := b) (p2 := p2) (b2 := b2) (L := L) (B := B) (o := o) (s := s)
      unfold LC at hL
      unfold DC at hR
      replace hL := Lib.hid hL
      replace hR := Lib.hid hR
      go_region_held3 (fun w' => w'.cell? ⟨pp, 0, none⟩ = some (.pointer (some ⟨p, 0, none⟩)) ∧ w'.cell? ⟨pp, 1, none⟩ = some (.pointer (some ⟨p2, 0, none⟩)) ∧ w'.cell? ⟨y, 2, none⟩ = some (.int .i64 o2) ∧ w'.cell? ⟨y, 5, none⟩ = some (.int .i64 o5) ∧ w'.cell? ⟨y, 6, none⟩ = some (.int .i64 o6) ∧ w'.cell? ⟨y, 8, none⟩ = some (.string tx)) ((simp [go_sem, *]))
        (first
          | (go_at_call 34; (with_reducible refine Calls.mono (hL.out _ _ _ _ (by first | exact hT.out | exact hT.out.drew)) ?_); rintro e w1_ ⟨rfl, hT⟩; have kS := bo_S hT.out)
          | (go_at_call 62; (with_reducible refine Calls.mono (hR.out _ _ _ _ (by first | exact hT.out | exact hT.out.drew)) ?_); rintro e w1_ ⟨rfl, hT⟩; have kS := bo_S hT.out))
      all_goals (
        go_wp2_with (fail)
        go_returns
        exact ⟨rfl, Lib.hid ⟨_, _, _, (by first | exact hT.out | exact hT.out.drew | exact hT.out.draws _ : Tw _ _ _ _ _ _ _ _ _ _ _ _ _).drop⟩⟩
      )
    · go_wp2_with (fail)
      obtain ⟨res, hL, hR⟩ := two_seal (w0 := Bo v0 F pp p p2 y o0 o1 o2 o3 o4 o5 o6 fr tx) (p := p) (b := b) (p2 := p2) (b2 := b2) (L := L) (B := B) (o := o) (s := s)
      unfold LC at hL
      unfold DC at hR
      replace hL := Lib.hid hL
      replace hR := Lib.hid hR
      refine wp_region_held_drew (S := fun w' => w'.cell? ⟨pp, 0, none⟩ = some (.pointer (some ⟨p, 0, none⟩)) ∧ w'.cell? ⟨pp, 1, none⟩ = some (.pointer (some ⟨p2, 0, none⟩))) (by kernel_rfl) ⟨k0, k1⟩ (fun hHeld => ?_)
      replace hT := Lib.hid hT.out.drew
      refine wpAnyH_take (i := 0) (oi := { dst := some 26, op := _, type := _, pos := _, after := _, guard := _ }) (v := ?_) rfl (by kernel_rfl) (by kernel_rfl) (by kernel_rfl) (fun _ _ _ h => h) (Or.inl ⟨by rfl, ?_⟩) (by assumption) ?_
      rotate_left
      focus ((intro w hSw); (try dsimp only at hSw); go_simp; (try (with_reducible rfl)))
      try simp only [Act.put, List.setIfInBounds_toArray, List.set_cons_zero, List.set_cons_succ]
      refine wpAnyH_take (i := 1) (oi := { dst := some 27, op := _, type := _, pos := _, after := _, guard := _ }) (v := ?_) rfl (by kernel_rfl) (by kernel_rfl) (by kernel_rfl) (fun _ _ _ h => h) (Or.inl ⟨by rfl, ?_⟩) (by assumption) ?_
      rotate_left
      focus ((intro w hSw); (try dsimp only at hSw); go_simp; (try (with_reducible rfl)))
      try simp only [Act.put, List.setIfInBounds_toArray, List.set_cons_zero, List.set_cons_succ]
      refine wpAnyH_take (i := 2) (oi := { dst := some 28, op := _, type := _, pos := _, after := _, guard := _ }) (v := ?_) rfl (by kernel_rfl) (by kernel_rfl) (by kernel_rfl) (fun _ _ _ h => h) (Or.inl ⟨by rfl, ?_⟩) (by assumption) ?_
      rotate_left
      focus ((intro w hSw); (try dsimp only at hSw); go_simp; (try (with_reducible rfl)))
      try simp only [Act.put, List.setIfInBounds_toArray, List.set_cons_zero, List.set_cons_succ]
      refine wpAnyH_take (i := 3) (oi := { dst := some 29, op := _, type := _, pos := _, after := _, guard := _ }) (v := ?_) rfl (by kernel_rfl) (by kernel_rfl) (by kernel_rfl) (fun _ _ _ h => h) (Or.inl ⟨by rfl, ?_⟩) (by assumption) ?_
      rotate_left
      focus ((intro w hSw); (try dsimp only at hSw); go_simp; (try (with_reducible rfl)))
      try simp only [Act.put, List.setIfInBounds_toArray, List.set_cons_zero, List.set_cons_succ]
      refine wpAnyH_take (i := 5) (oi := { dst := some 31, op := _, type := _, pos := _, after := _, guard := _ }) (v := ?_) rfl (by kernel_rfl) (by kernel_rfl) (by kernel_rfl) (fun _ _ _ h => h) (Or.inl ⟨by rfl, ?_⟩) (by assumption) ?_
      rotate_left
      focus ((intro w hSw); (try dsimp only at hSw); go_simp; (try (with_reducible rfl)))
      try simp only [Act.put, List.setIfInBounds_toArray, List.set_cons_zero, List.set_cons_succ]
      refine wpAnyH_take (i := 6) (oi := { dst := some 32, op := _, type := _, pos := _, after := _, guard := _ }) (v := ?_) rfl (by kernel_rfl) (by kernel_rfl) (by kernel_rfl) (fun _ _ _ h => h) (Or.inl ⟨by rfl, ?_⟩) (by assumption) ?_
      rotate_left
      focus ((intro w hSw); (try dsimp only at hSw); go_simp; (try (with_reducible rfl)))
      try simp only [Act.put, List.setIfInBounds_toArray, List.set_cons_zero, List.set_cons_succ]
      refine wpAnyH_take (i := 7) (oi := { dst := some 33, op := _, type := _, pos := _, after := _, guard := _ }) (v := ?_) rfl (by kernel_rfl) (by kernel_rfl) (by kernel_rfl) (fun _ _ _ h => h) (Or.inl ⟨by rfl, ?_⟩) (by assumption) ?_
      rotate_left
      focus ((intro w hSw); (try dsimp only at hSw); go_simp; (try (with_reducible rfl)))
      try simp only [Act.put, List.setIfInBounds_toArray, List.set_cons_zero, List.set_cons_succ]
      refine wpAnyH_take (i := 8) (oi := { dst := some 34, op := _, type := _, pos := _, after := _, guard := _ }) (v := ?_) rfl (by kernel_rfl) (by kernel_rfl) (by kernel_rfl) (fun _ _ _ h => h) (Or.inl ⟨by rfl, ?_⟩) (by assumption) ?_
      rotate_left
      focus ((intro w hSw); (try dsimp only at hSw); go_simp; (try (with_reducible rfl)))
      try simp only [Act.put, List.setIfInBounds_toArray, List.set_cons_zero, List.set_cons_succ]
      refine wpAnyH_ready (rs := [4]) (by kernel_rfl) (by simp) ?_
      refine AllReadyH.cons (o := { dst := some 30, op := _, type := _, pos := _, after := _, guard := _ }) rfl (fun K hK => ?_) AllReadyH.nil
      go_simp
      refine Calls.mono (hL.out _ _ _ _ hT.out) ?_
      rintro e w1_ ⟨rfl, hT⟩
      go_wp2_with (fail)
      refine hK.out _ _ ⟨(bo_S hT.out).1, (bo_S hT.out).2.1⟩ (fun hHeld => ?_)
      clear hK K
      try simp only [Act.put, List.setIfInBounds_toArray, List.set_cons_zero, List.set_cons_succ]
      refine wpAnyH_ready (rs := [9]) (by kernel_rfl) (by simp) ?_
      refine AllReadyH.cons (o := { dst := some 35, op := _, type := _, pos := _, after := _, guard := _ }) rfl (fun K hK => ?_) AllReadyH.nil
      go_simp
      refine Calls.mono (hR.out _ _ _ _ hT.out) ?_
      rintro e w2_ ⟨rfl, hT⟩
      go_wp2_with (fail)
      refine hK.out _ _ ⟨(bo_S hT.out).1, (bo_S hT.out).2.1⟩ (fun hHeld => ?_)
      clear hK K
      try simp only [Act.put, List.setIfInBounds_toArray, List.set_cons_zero, List.set_cons_succ]
      refine wpAnyH_mono (S' := fun w' => w'.cell? ⟨pp, 0, none⟩ = some (.pointer (some ⟨p, 0, none⟩)) ∧ w'.cell? ⟨pp, 1, none⟩ = some (.pointer (some ⟨p2, 0, none⟩)) ∧ w'.cell? ⟨p2, 7, none⟩ = some (.bool true)) (fun _ h => ⟨h.1, h.2.1⟩) _ _ _ _ ?_
      have hHeld2 : w2_.cell? ⟨pp, 0, none⟩ = some (.pointer (some ⟨p, 0, none⟩)) ∧ w2_.cell? ⟨pp, 1, none⟩ = some (.pointer (some ⟨p2, 0, none⟩)) ∧ w2_.cell? ⟨p2, 7, none⟩ = some (.bool true) := ⟨(bo_S hT.out).1, (bo_S hT.out).2.1, hT.out.rf.c7⟩
      refine wpAnyH_take (i := 10) (oi := { dst := some 36, op := _, type := _, pos := _, after := _, guard := _ }) (v := ?_) rfl (by kernel_rfl) (by kernel_rfl) (by kernel_rfl) (fun _ _ _ h => h) (Or.inl ⟨by rfl, ?_⟩) (by assumption) ?_
      rotate_left
      focus ((intro w hSw); (try dsimp only at hSw); go_simp; (try (with_reducible rfl)))
      try simp only [Act.put, List.setIfInBounds_toArray, List.set_cons_zero, List.set_cons_succ]
      refine wpAnyH_take (i := 11) (oi := { dst := some 37, op := _, type := _, pos := _, after := _, guard := _ }) (v := ?_) rfl (by kernel_rfl) (by kernel_rfl) (by kernel_rfl) (fun _ _ _ h => h) (Or.inl ⟨by rfl, ?_⟩) (by assumption) ?_
      rotate_left
      focus ((intro w hSw); (try dsimp only at hSw); go_simp; (try (with_reducible rfl)))
      try simp only [Act.put, List.setIfInBounds_toArray, List.set_cons_zero, List.set_cons_succ]
      refine wpAnyH_take (i := 12) (oi := { dst := some 38, op := _, type := _, pos := _, after := _, guard := _ }) (v := ?_) rfl (by kernel_rfl) (by kernel_rfl) (by kernel_rfl) (fun _ _ _ h => h) (Or.inl ⟨by rfl, ?_⟩) (by assumption) ?_
      rotate_left
      focus ((intro w hSw); (try dsimp only at hSw); go_simp; (try (with_reducible rfl)))
      try simp only [Act.put, List.setIfInBounds_toArray, List.set_cons_zero, List.set_cons_succ]
      refine wpAnyH_take (i := 13) (oi := { dst := some 39, op := _, type := _, pos := _, after := _, guard := _ }) (v := ?_) rfl (by kernel_rfl) (by kernel_rfl) (by kernel_rfl) (fun _ _ _ h => h) (Or.inl ⟨by rfl, ?_⟩) (by assumption) ?_
      rotate_left
      focus ((intro w hSw); (try dsimp only at hSw); go_simp; (try (with_reducible rfl)))
      try simp only [Act.put, List.setIfInBounds_toArray, List.set_cons_zero, List.set_cons_succ]
      refine wpAnyH_take (i := 14) (oi := { dst := some 40, op := _, type := _, pos := _, after := _, guard := _ }) (v := ?_) rfl (by kernel_rfl) (by kernel_rfl) (by kernel_rfl) (fun _ _ _ h => h) (Or.inl ⟨by rfl, ?_⟩) (by assumption) ?_
      rotate_left
      focus ((intro w hSw); (try dsimp only at hSw); go_simp; (try (with_reducible rfl)))
      try simp only [Act.put, List.setIfInBounds_toArray, List.set_cons_zero, List.set_cons_succ]
      refine wpAnyH_take (i := 15) (oi := { dst := some 41, op := _, type := _, pos := _, after := _, guard := _ }) (v := ?_) rfl (by kernel_rfl) (by kernel_rfl) (by kernel_rfl) (fun _ _ _ h => h) (Or.inl ⟨by rfl, ?_⟩) (by assumption) ?_
      rotate_left
      focus ((intro w hSw); (try dsimp only at hSw); go_simp; (try (with_reducible rfl)))
      try simp only [Act.put, List.setIfInBounds_toArray, List.set_cons_zero, List.set_cons_succ]
      refine wpAnyH_take (i := 17) (oi := { dst := some 43, op := _, type := _, pos := _, after := _, guard := _ }) (v := ?_) rfl (by kernel_rfl) (by kernel_rfl) (by kernel_rfl) (fun _ _ _ h => h) (Or.inl ⟨by rfl, ?_⟩) (by assumption) ?_
      rotate_left
      focus ((intro w hSw); (try dsimp only at hSw); go_simp; (try (with_reducible rfl)))
      try simp only [Act.put, List.setIfInBounds_toArray, List.set_cons_zero, List.set_cons_succ]
      refine wpAnyH_take (i := 18) (oi := { dst := some 44, op := _, type := _, pos := _, after := _, guard := _ }) (v := ?_) rfl (by kernel_rfl) (by kernel_rfl) (by kernel_rfl) (fun _ _ _ h => h) (Or.inl ⟨by rfl, ?_⟩) (by assumption) ?_
      rotate_left
      focus ((intro w hSw); (try dsimp only at hSw); go_simp; (try (with_reducible rfl)))
      try simp only [Act.put, List.setIfInBounds_toArray, List.set_cons_zero, List.set_cons_succ]
      refine wpAnyH_take (i := 19) (oi := { dst := some 45, op := _, type := _, pos := _, after := _, guard := _ }) (v := ?_) rfl (by kernel_rfl) (by kernel_rfl) (by kernel_rfl) (fun _ _ _ h => h) (Or.inl ⟨by rfl, ?_⟩) (by assumption) ?_
      rotate_left
      focus ((intro w hSw); (try dsimp only at hSw); go_simp; (try (with_reducible rfl)))
      try simp only [Act.put, List.setIfInBounds_toArray, List.set_cons_zero, List.set_cons_succ]
      refine wpAnyH_take (i := 20) (oi := { dst := some 46, op := _, type := _, pos := _, after := _, guard := _ }) (v := ?_) rfl (by kernel_rfl) (by kernel_rfl) (by kernel_rfl) (fun _ _ _ h => h) (Or.inl ⟨by rfl, ?_⟩) (by assumption) ?_
      rotate_left
      focus ((intro w hSw); (try dsimp only at hSw); go_simp; (try (with_reducible rfl)))
      try simp only [Act.put, List.setIfInBounds_toArray, List.set_cons_zero, List.set_cons_succ]
      refine wpAnyH_take (i := 21) (oi := { dst := some 47, op := _, type := _, pos := _, after := _, guard := _ }) (v := ?_) rfl (by kernel_rfl) (by kernel_rfl) (by kernel_rfl) (fun _ _ _ h => h) (Or.inl ⟨by rfl, ?_⟩) (by assumption) ?_
      rotate_left
      focus ((intro w hSw); (try dsimp only at hSw); go_simp; (try (with_reducible rfl)))
      try simp only [Act.put, List.setIfInBounds_toArray, List.set_cons_zero, List.set_cons_succ]
      refine wpAnyH_take (i := 22) (oi := { dst := some 48, op := _, type := _, pos := _, after := _, guard := _ }) (v := ?_) rfl (by kernel_rfl) (by kernel_rfl) (by kernel_rfl) (fun _ _ _ h => h) (Or.inl ⟨by rfl, ?_⟩) (by assumption) ?_
      rotate_left
      focus ((intro w hSw); (try dsimp only at hSw); go_simp; (try (with_reducible rfl)))
      try simp only [Act.put, List.setIfInBounds_toArray, List.set_cons_zero, List.set_cons_succ]
      refine wpAnyH_take (i := 23) (oi := { dst := some 49, op := _, type := _, pos := _, after := _, guard := _ }) (v := ?_) rfl (by kernel_rfl) (by kernel_rfl) (by kernel_rfl) (fun _ _ _ h => h) (Or.inl ⟨by rfl, ?_⟩) (by assumption) ?_
      rotate_left
      focus ((intro w hSw); (try dsimp only at hSw); go_simp; (try (with_reducible rfl)))
      try simp only [Act.put, List.setIfInBounds_toArray, List.set_cons_zero, List.set_cons_succ]
      refine wpAnyH_ready (rs := [16]) (by kernel_rfl) (by simp) ?_
      refine AllReadyH.cons (o := { dst := some 42, op := _, type := _, pos := _, after := _, guard := _ }) rfl (fun K hK => ?_) AllReadyH.nil
      go_simp
      refine Calls.mono (sealed_any hT.out.im) ?_
      rintro e w3_ ⟨rfl, hw_⟩
      have hw_ := hw_.symm
      subst hw_
      go_wp2_with (fail)
      refine hK.out _ _ hHeld2 (fun hHeld => ?_)
      clear hK K
      try simp only [Act.put, List.setIfInBounds_toArray, List.set_cons_zero, List.set_cons_succ]
      refine wpAnyH_take (i := 24) (oi := { dst := some 50, op := _, type := _, pos := _, after := _, guard := _ }) (v := ?_) rfl (by kernel_rfl) (by kernel_rfl) (by kernel_rfl) (fun _ _ _ h => h) (Or.inl ⟨by rfl, ?_⟩) (by assumption) ?_
      rotate_left
      focus ((intro w hSw); (try dsimp only at hSw); go_simp; (try (with_reducible rfl)))
      try simp only [Act.put, List.setIfInBounds_toArray, List.set_cons_zero, List.set_cons_succ]
      refine wpAnyH_take (i := 25) (oi := { dst := some 51, op := _, type := _, pos := _, after := _, guard := _ }) (v := ?_) rfl (by kernel_rfl) (by kernel_rfl) (by kernel_rfl) (fun _ _ _ h => h) (Or.inl ⟨by rfl, ?_⟩) (by assumption) ?_
      rotate_left
      focus ((intro w hSw); (try dsimp only at hSw); go_simp; (try (with_reducible rfl)))
      try simp only [Act.put, List.setIfInBounds_toArray, List.set_cons_zero, List.set_cons_succ]
      refine wpAnyH_take (i := 26) (oi := { dst := some 4, op := _, type := _, pos := _, after := _, guard := _ }) (v := ?_) rfl (by kernel_rfl) (by kernel_rfl) (by kernel_rfl) (fun _ _ _ h => h) (Or.inl ⟨by rfl, ?_⟩) (by assumption) ?_
      rotate_left
      focus ((intro w hSw); (try dsimp only at hSw); go_simp; (try (with_reducible rfl)))
      try simp only [Act.put, List.setIfInBounds_toArray, List.set_cons_zero, List.set_cons_succ]
      refine wpAnyH_done (by kernel_rfl) ?_ _
      go_wp2_with (fail)
      go_returns
      exact ⟨rfl, Lib.hid ⟨_, _, _, (by first | exact hT.out | exact hT.out.drew | exact hT.out.draws _ : Tw _ _ _ _ _ _ _ _ _ _ _ _ _).drop⟩⟩
  · go_wp2_with (fail)
    obtain ⟨res, B', hL, hR⟩ := two_load (w0 := Bo v0 F pp p p2 y o0 o1 o2 o3 o4 o5 o6 fr tx) (p := p) (b := b) (p2 := p2) (b2 := b2) (L := L) (B := B) (o := o) (s := s) tx (by omega)
    unfold LC at hL
    unfold DC at hR
    replace hL := Lib.hid hL
    replace hR := Lib.hid hR
    go_region_held3 (fun w' => w'.cell? ⟨pp, 0, none⟩ = some (.pointer (some ⟨p, 0, none⟩)) ∧ w'.cell? ⟨pp, 1, none⟩ = some (.pointer (some ⟨p2, 0, none⟩)) ∧ w'.cell? ⟨y, 2, none⟩ = some (.int .i64 o2) ∧ w'.cell? ⟨y, 5, none⟩ = some (.int .i64 o5) ∧ w'.cell? ⟨y, 6, none⟩ = some (.int .i64 o6) ∧ w'.cell? ⟨y, 8, none⟩ = some (.string tx)) ((simp [go_sem, *]))
      (first
        | (go_at_call 29; (with_reducible refine Calls.mono (hL.out _ _ _ _ (by first | exact hT.out | exact hT.out.drew)) ?_); rintro e w1_ ⟨rfl, hT⟩; have kS := bo_S hT.out)
        | (go_at_call 64; (with_reducible refine Calls.mono (hR.out _ _ _ _ (by first | exact hT.out | exact hT.out.drew)) ?_); rintro e w1_ ⟨rfl, hT⟩; have kS := bo_S hT.out))
    all_goals (
      go_wp2_with (fail)
      go_returns
      exact ⟨rfl, Lib.hid ⟨_, _, _, (by first | exact hT.out | exact hT.out.drew | exact hT.out.draws _ : Tw _ _ _ _ _ _ _ _ _ _ _ _ _).drop⟩⟩
    )
  · go_wp2_with (fail)
    obtain ⟨T, hL, hR⟩ := two_part (w0 := Bo v0 F pp p p2 y o0 o1 o2 o3 o4 o5 o6 fr tx) (p := p) (b := b) (p2 := p2) (b2 := b2) (L := L) (B := B) (o := o) (s := s) o2
    unfold LC at hL
    unfold DC at hR
    replace hL := Lib.hid hL
    replace hR := Lib.hid hR
    go_region_held3 (fun w' => w'.cell? ⟨pp, 0, none⟩ = some (.pointer (some ⟨p, 0, none⟩)) ∧ w'.cell? ⟨pp, 1, none⟩ = some (.pointer (some ⟨p2, 0, none⟩)) ∧ w'.cell? ⟨y, 2, none⟩ = some (.int .i64 o2) ∧ w'.cell? ⟨y, 5, none⟩ = some (.int .i64 o5) ∧ w'.cell? ⟨y, 6, none⟩ = some (.int .i64 o6) ∧ w'.cell? ⟨y, 8, none⟩ = some (.string tx)) ((simp [go_sem, *]))
      (first
        | (go_at_call 27; (with_reducible refine Calls.mono (hL.out _ _ _ _ (by first | exact hT.out | exact hT.out.drew)) ?_); rintro e w1_ ⟨rfl, hT⟩; have kS := bo_S hT.out)
        | (go_at_call 56; (with_reducible refine Calls.mono (hR.out _ _ _ _ (by first | exact hT.out | exact hT.out.drew)) ?_); rintro e w1_ ⟨rfl, hT⟩; have kS := bo_S hT.out))
    all_goals (
      go_wp2_with (fail)
      go_returns
      exact ⟨rfl, Lib.hid ⟨_, _, _, (by first | exact hT.out | exact hT.out.drew | exact hT.out.draws _ : Tw _ _ _ _ _ _ _ _ _ _ _ _ _).drop⟩⟩
    )
  · obtain ⟨T, hTl, hL, hR⟩ := two_part2 (w0 := Bo v0 F pp p p2 y o0 o1 o2 o3 o4 o5 o6 fr tx) (p := p) (b := b) (p2 := p2) (b2 := b2) (L := L) (B := B) (o := o) (s := s) hT.out.im.ok o2
    unfold DC at hR
    clear hL
    replace hR := Lib.hid hR
    go_wp2_with (fail)
    go_region_held3 (fun w' => w'.cell? ⟨pp, 0, none⟩ = some (.pointer (some ⟨p, 0, none⟩)) ∧ w'.cell? ⟨pp, 1, none⟩ = some (.pointer (some ⟨p2, 0, none⟩)) ∧ w'.cell? ⟨y, 2, none⟩ = some (.int .i64 o2) ∧ w'.cell? ⟨y, 5, none⟩ = some (.int .i64 o5) ∧ w'.cell? ⟨y, 6, none⟩ = some (.int .i64 o6) ∧ w'.cell? ⟨y, 8, none⟩ = some (.string tx)) ((simp [go_sem, *]))
      (first
        | (go_at_call 56; (with_reducible refine Calls.mono (hR.out _ _ _ _ (by first | exact hT.out | exact hT.out.drew)) ?_); rintro e w1_ ⟨rfl, hT⟩; have kS := bo_S hT.out))
    clear k0 k1 k2 k5 k6 k8 hR
    obtain ⟨k0, k1, k2, k5, k6, k8⟩ := bo_S hT.out
    by_cases hS : 0 < tx.size ∧ 0 < T.size
    · obtain ⟨s1, s2⟩ := hS
      have s1 : (0 : Int) < (tx.size : Int) := by omega
      have s2 : (0 : Int) < (T.size : Int) := by omega
      have q1 : ∀ W, (Instr.slice 9 (.string tx) none (some (.int .i64 1)) none).run Try.prog W = .ok (.string (tx.extract 0 1)) W := fun W => run_slice_string_h W 9 tx Try.underlying9 .i64 1 (by decide) (by omega)
      have q2 : ∀ W, (Instr.slice 9 (.string T) (some (.int .i64 1)) none none).run Try.prog W = .ok (.string (T.extract 1 T.size)) W := fun W => run_slice_string_l W 9 T Try.underlying9 .i64 1 (by decide) (by omega)
      obtain ⟨S5, q3⟩ := put_text tx T (by omega) (by omega) hTl
      go_wp2_with (fail)
      go_quiet (fail)
      have hT := Lib.hid (hT.out.draws nq)
      clear k0 k1 k2 k5 k6 k8
      obtain ⟨k0, k1, k2, k5, k6, k8⟩ := bo_S hT.out
      obtain ⟨w5, hw5⟩ : ∃ w5, w1_.drewN nq = w5 := ⟨_, rfl⟩
      rw [hw5] at hT k0 k1 k2 k5 k6 k8 ⊢
      clear hw5 kS
      by_cases h3 : o6.tmod 3 = 0
      · go_wp2_with (fail)
        obtain ⟨res, B', hL, hR⟩ := two_put (w0 := Bo v0 F pp p p2 y o0 o1 o2 o3 o4 o5 o6 fr tx) (p := p) (b := b) (p2 := p2) (b2 := b2) (L := L) (B := B) (o := o) (s := s) o2 tx
        unfold LC at hL
        unfold DC at hR
        replace hL := Lib.hid hL
        replace hR := Lib.hid hR
        go_region_held3 (fun w' => w'.cell? ⟨pp, 0, none⟩ = some (.pointer (some ⟨p, 0, none⟩)) ∧ w'.cell? ⟨pp, 1, none⟩ = some (.pointer (some ⟨p2, 0, none⟩)) ∧ w'.cell? ⟨y, 2, none⟩ = some (.int .i64 o2) ∧ w'.cell? ⟨y, 5, none⟩ = some (.int .i64 o5) ∧ w'.cell? ⟨y, 6, none⟩ = some (.int .i64 o6) ∧ w'.cell? ⟨y, 8, none⟩ = some (.string tx)) ((simp [go_sem, *]))
          (first
            | (go_at_call 28; (with_reducible refine Calls.mono (hL.out _ _ _ _ (by first | exact hT.out | exact hT.out.drew)) ?_); rintro e w1_ ⟨rfl, hT⟩; have kS := bo_S hT.out)
            | (go_at_call 65; (with_reducible refine Calls.mono (hR.out _ _ _ _ (by first | exact hT.out | exact hT.out.drew)) ?_); rintro e w1_ ⟨rfl, hT⟩; have kS := bo_S hT.out))
        all_goals (
          go_wp2_with (fail)
          go_returns
          exact ⟨rfl, Lib.hid ⟨_, _, _, (by first | exact hT.out | exact hT.out.drew | exact hT.out.draws _ : Tw _ _ _ _ _ _ _ _ _ _ _ _ _).drop⟩⟩
        )
      · go_wp2_with (fail)
        obtain ⟨res, B', hL, hR⟩ := two_put (w0 := Bo v0 F pp p p2 y o0 o1 o2 o3 o4 o5 o6 fr tx) (p := p) (b := b) (p2 := p2) (b2 := b2) (L := L) (B := B) (o := o) (s := s) o2 S5
        unfold LC at hL
        unfold DC at hR
        replace hL := Lib.hid hL
        replace hR := Lib.hid hR
        go_region_held3 (fun w' => w'.cell? ⟨pp, 0, none⟩ = some (.pointer (some ⟨p, 0, none⟩)) ∧ w'.cell? ⟨pp, 1, none⟩ = some (.pointer (some ⟨p2, 0, none⟩)) ∧ w'.cell? ⟨y, 2, none⟩ = some (.int .i64 o2) ∧ w'.cell? ⟨y, 5, none⟩ = some (.int .i64 o5) ∧ w'.cell? ⟨y, 6, none⟩ = some (.int .i64 o6) ∧ w'.cell? ⟨y, 8, none⟩ = some (.string tx)) ((simp [go_sem, *]))
          (first
            | (go_at_call 28; (with_reducible refine Calls.mono (hL.out _ _ _ _ (by first | exact hT.out | exact hT.out.drew)) ?_); rintro e w1_ ⟨rfl, hT⟩; have kS := bo_S hT.out)
            | (go_at_call 65; (with_reducible refine Calls.mono (hR.out _ _ _ _ (by first | exact hT.out | exact hT.out.drew)) ?_); rintro e w1_ ⟨rfl, hT⟩; have kS := bo_S hT.out))
        all_goals (
          go_wp2_with (fail)
          go_returns
          exact ⟨rfl, Lib.hid ⟨_, _, _, (by first | exact hT.out | exact hT.out.drew | exact hT.out.draws _ : Tw _ _ _ _ _ _ _ _ _ _ _ _ _).drop⟩⟩
        )
    · rcases (by omega : ¬ (0 < tx.size) ∨ 0 < tx.size ∧ ¬ 0 < T.size) with s1 | ⟨s1, s2⟩
      · have s1 : ¬ (0 : Int) < (tx.size : Int) := by omega
        by_cases h3 : o6.tmod 3 = 0
        · go_wp2_with (fail)
          obtain ⟨res, B', hL, hR⟩ := two_put (w0 := Bo v0 F pp p p2 y o0 o1 o2 o3 o4 o5 o6 fr tx) (p := p) (b := b) (p2 := p2) (b2 := b2) (L := L) (B := B) (o := o) (s := s) o2 tx
          unfold LC at hL
          unfold DC at hR
          replace hL := Lib.hid hL
          replace hR := Lib.hid hR
          go_region_held3 (fun w' => w'.cell? ⟨pp, 0, none⟩ = some (.pointer (some ⟨p, 0, none⟩)) ∧ w'.cell? ⟨pp, 1, none⟩ = some (.pointer (some ⟨p2, 0, none⟩)) ∧ w'.cell? ⟨y, 2, none⟩ = some (.int .i64 o2) ∧ w'.cell? ⟨y, 5, none⟩ = some (.int .i64 o5) ∧ w'.cell? ⟨y, 6, none⟩ = some (.int .i64 o6) ∧ w'.cell? ⟨y, 8, none⟩ = some (.string tx)) ((simp [go_sem, *]))
            (first
              | (go_at_call 28; (with_reducible refine Calls.mono (hL.out _ _ _ _ (by first | exact hT.out | exact hT.out.drew)) ?_); rintro e w1_ ⟨rfl, hT⟩; have kS := bo_S hT.out)
              | (go_at_call 65; (with_reducible refine Calls.mono (hR.out _ _ _ _ (by first | exact hT.out | exact hT.out.drew)) ?_); rintro e w1_ ⟨rfl, hT⟩; have kS := bo_S hT.out))
          all_goals (
            go_wp2_with (fail)
            go_returns
            exact ⟨rfl, Lib.hid ⟨_, _, _, (by first | exact hT.out | exact hT.out.drew | exact hT.out.draws _ : Tw _ _ _ _ _ _ _ _ _ _ _ _ _).drop⟩⟩
          )
        · go_wp2_with (fail)
          obtain ⟨res, B', hL, hR⟩ := two_put (w0 := Bo v0 F pp p p2 y o0 o1 o2 o3 o4 o5 o6 fr tx) (p := p) (b := b) (p2 := p2) (b2 := b2) (L := L) (B := B) (o := o) (s := s) o2 T
          unfold LC at hL
          unfold DC at hR
          replace hL := Lib.hid hL
          replace hR := Lib.hid hR
          go_region_held3 (fun w' => w'.cell? ⟨pp, 0, none⟩ = some (.pointer (some ⟨p, 0, none⟩)) ∧ w'.cell? ⟨pp, 1, none⟩ = some (.pointer (some ⟨p2, 0, none⟩)) ∧ w'.cell? ⟨y, 2, none⟩ = some (.int .i64 o2) ∧ w'.cell? ⟨y, 5, none⟩ = some (.int .i64 o5) ∧ w'.cell? ⟨y, 6, none⟩ = some (.int .i64 o6) ∧ w'.cell? ⟨y, 8, none⟩ = some (.string tx)) ((simp [go_sem, *]))
            (first
              | (go_at_call 28; (with_reducible refine Calls.mono (hL.out _ _ _ _ (by first | exact hT.out | exact hT.out.drew)) ?_); rintro e w1_ ⟨rfl, hT⟩; have kS := bo_S hT.out)
              | (go_at_call 65; (with_reducible refine Calls.mono (hR.out _ _ _ _ (by first | exact hT.out | exact hT.out.drew)) ?_); rintro e w1_ ⟨rfl, hT⟩; have kS := bo_S hT.out))
          all_goals (
            go_wp2_with (fail)
            go_returns
            exact ⟨rfl, Lib.hid ⟨_, _, _, (by first | exact hT.out | exact hT.out.drew | exact hT.out.draws _ : Tw _ _ _ _ _ _ _ _ _ _ _ _ _).drop⟩⟩
          )
      · have s1 : (0 : Int) < (tx.size : Int) := by omega
        have s2 : ¬ (0 : Int) < (T.size : Int) := by omega
        by_cases h3 : o6.tmod 3 = 0
        · go_wp2_with (fail)
          obtain ⟨res, B', hL, hR⟩ := two_put (w0 := Bo v0 F pp p p2 y o0 o1 o2 o3 o4 o5 o6 fr tx) (p := p) (b := b) (p2 := p2) (b2 := b2) (L := L) (B := B) (o := o) (s := s) o2 tx
          unfold LC at hL
          unfold DC at hR
          replace hL := Lib.hid hL
          replace hR := Lib.hid hR
          go_region_held3 (fun w' => w'.cell? ⟨pp, 0, none⟩ = some (.pointer (some ⟨p, 0, none⟩)) ∧ w'.cell? ⟨pp, 1, none⟩ = some (.pointer (some ⟨p2, 0, none⟩)) ∧ w'.cell? ⟨y, 2, none⟩ = some (.int .i64 o2) ∧ w'.cell? ⟨y, 5, none⟩ = some (.int .i64 o5) ∧ w'.cell? ⟨y, 6, none⟩ = some (.int .i64 o6) ∧ w'.cell? ⟨y, 8, none⟩ = some (.string tx)) ((simp [go_sem, *]))
            (first
              | (go_at_call 28; (with_reducible refine Calls.mono (hL.out _ _ _ _ (by first | exact hT.out | exact hT.out.drew)) ?_); rintro e w1_ ⟨rfl, hT⟩; have kS := bo_S hT.out)
              | (go_at_call 65; (with_reducible refine Calls.mono (hR.out _ _ _ _ (by first | exact hT.out | exact hT.out.drew)) ?_); rintro e w1_ ⟨rfl, hT⟩; have kS := bo_S hT.out))
          all_goals (
            go_wp2_with (fail)
            go_returns
            exact ⟨rfl, Lib.hid ⟨_, _, _, (by first | exact hT.out | exact hT.out.drew | exact hT.out.draws _ : Tw _ _ _ _ _ _ _ _ _ _ _ _ _).drop⟩⟩
          )
        · go_wp2_with (fail)
          obtain ⟨res, B', hL, hR⟩ := two_put (w0 := Bo v0 F pp p p2 y o0 o1 o2 o3 o4 o5 o6 fr tx) (p := p) (b := b) (p2 := p2) (b2 := b2) (L := L) (B := B) (o := o) (s := s) o2 T
          unfold LC at hL
          unfold DC at hR
          replace hL := Lib.hid hL
          replace hR := Lib.hid hR
          go_region_held3 (fun w' => w'.cell? ⟨pp, 0, none⟩ = some (.pointer (some ⟨p, 0, none⟩)) ∧ w'.cell? ⟨pp, 1, none⟩ = some (.pointer (some ⟨p2, 0, none⟩)) ∧ w'.cell? ⟨y, 2, none⟩ = some (.int .i64 o2) ∧ w'.cell? ⟨y, 5, none⟩ = some (.int .i64 o5) ∧ w'.cell? ⟨y, 6, none⟩ = some (.int .i64 o6) ∧ w'.cell? ⟨y, 8, none⟩ = some (.string tx)) ((simp [go_sem, *]))
            (first
              | (go_at_call 28; (with_reducible refine Calls.mono (hL.out _ _ _ _ (by first | exact hT.out | exact hT.out.drew)) ?_); rintro e w1_ ⟨rfl, hT⟩; have kS := bo_S hT.out)
              | (go_at_call 65; (with_reducible refine Calls.mono (hR.out _ _ _ _ (by first | exact hT.out | exact hT.out.drew)) ?_); rintro e w1_ ⟨rfl, hT⟩; have kS := bo_S hT.out))
          all_goals (
            go_wp2_with (fail)
            go_returns
            exact ⟨rfl, Lib.hid ⟨_, _, _, (by first | exact hT.out | exact hT.out.drew | exact hT.out.draws _ : Tw _ _ _ _ _ _ _ _ _ _ _ _ _).drop⟩⟩
          )
end
end Go.Proofs.Yteldbkdfphkdbaa
