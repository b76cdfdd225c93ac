import Derived.Test.YteldbkdfphkdbaaImZm
namespace Go.Proofs.Yteldbkdfphkdbaa
open Go.RowKit
set_option linter.unusedVariables false
set_option linter.unusedSimpArgs false
section
variable {v0 w : World} {F : List (Nat × TypeId × Array Value)} {pp p b p2 b2 y : Nat} {L : Lay} {B B2 : List UInt8} {o s o2' s2 : Bool} {o0 o1 o2 o3 o4 o5 o6 : Int} {tx : ByteArray}
set_option maxRecDepth 100000 in
set_option maxHeartbeats 16000000 in
theorem play_near_3 (hk0 : pickN o0 14 = 3)(hT : Tw (Bz v0 F pp p p2) w p b p2 b2 L B o s B o s) (i0 : inI o0) (i1 : inI o1) (i2 : inI o2) (i3 : inI o3) (i4 : inI o4) (i5 : inI o5) (i6 : inI o6) (hx : tx.size ≤ 140737488351232) :
    Calls Try.prog 38 #[.pointer (some ⟨pp, 0, none⟩), .agg #[.int .i64 o0, .int .i64 o1, .int .i64 o2, .int .i64 o3, .int .i64 o4, .int .i64 o5, .int .i64 o6, .bool false, .string tx]] w fun e w' => e = .returned (.bool true) ∧ Hid (∃ B' o' s', Tw (Bz v0 F pp p p2) w' p b p2 b2 L B' o' s' B' o' s') := by
  have hpk1 := fun W => pick_any o0 14 W i0.1 i0.2 (by decide) (by decide)
  have hpk2 := fun W => pick_any o1 3 W i1.1 i1.2 (by decide) (by decide)
  have hkk := pickN_lt o0 14 (by decide)
  simp only [show (14 : Int).toNat = 14 from rfl] at hpk1
  simp only [show (3 : Int).toNat = 3 from rfl] at hpk2
  obtain ⟨md0, hmd0⟩ : ∃ md : Int, ((pickN o1 3 : Nat) : Int) = md := ⟨_, rfl⟩
  simp only [hmd0] at hpk2
  obtain ⟨k, hpk⟩ : ∃ k, pickN o0 14 = k := ⟨_, rfl⟩
  rw [hpk] at hkk
  simp only [hpk] at hpk1
  have hT1 := hT.made 62 #[.int .i64 o0, .int .i64 o1, .int .i64 o2, .int .i64 o3, .int .i64 o4, .int .i64 o5, .int .i64 o6, .bool false, .string tx]
  have hLok := Lib.hid hT.im.ok
  obtain ⟨c, hc⟩ : ∃ c : UInt8, o6 % 256 = (c.toNat : Int) := ⟨UInt8.ofNat (o6 % 256).toNat, by simp; omega⟩
  have hu : IntKind.u8.wrap o6 = (c.toNat : Int) := by rw [← hc]; simp [IntKind.wrap, IntKind.bits, IntKind.signed]
  replace hpk := Lib.hid hpk
  replace hpk1 := Lib.hid hpk1
  replace hpk2 := Lib.hid hpk2
  clear hT
  go_enter Try.func38, Try.ntmps38
  go_wp2_with (fail)
  obtain ⟨y, hy⟩ : ∃ y, w.heap.size = y := ⟨_, rfl⟩
  obtain ⟨X, hX⟩ : ∃ X, w.alloc (.cells #[.int .i64 o0, .int .i64 o1, .int .i64 o2, .int .i64 o3, .int .i64 o4, .int .i64 o5, .int .i64 o6, .bool false, .string tx] 62) = X := ⟨_, rfl⟩
  rw [hy, hX] at hT1
  rw [hX, hy]
  clear hX hy
  have hT : Hid (Tw (Bo v0 F pp p p2 y o0 o1 o2 o3 o4 o5 o6 false tx) X p b p2 b2 L B o s B o s) := Lib.hid hT1
  clear hT1
  refine (place_bo hT.out o2 o3 i2 i3).mono ?_
  rintro e w1 ⟨at_, rfl, hat, hT⟩
  obtain ⟨k0, k1, k2, k5, k6, k8⟩ := bo_S hT.out
  obtain ⟨l0, l1, l3, l4, l7⟩ := bo_A hT.out
  go_wp2_with (fail)
  refine (place_bo hT.out o6 o4 i6 i4).mono ?_
  rintro e w2 ⟨to_, rfl, hto, hT⟩
  clear k0 k1 k2 k5 k6 k8 l0 l1 l3 l4 l7
  obtain ⟨k0, k1, k2, k5, k6, k8⟩ := bo_S hT.out
  obtain ⟨l0, l1, l3, l4, l7⟩ := bo_A hT.out
  go_wp2_with (fail)
  refine (hpk2.out _).mono ?_
  rintro e w3 ⟨rfl, hw_⟩
  have hw_ := hw_.symm
  subst hw_
  go_wp2_with (fail)
  refine (hpk1.out _).mono ?_
  rintro e w3 ⟨rfl, hw_⟩
  have hw_ := hw_.symm
  subst hw_
  clear hpk1 hpk2 l0 l1 l3 l4 l7 hmd0
  clear hkk
  obtain rfl : k = 3 := hpk.out.symm.trans hk0
  obtain ⟨v, res, hL, hR⟩ := two_cell (w0 := Bo v0 F pp p p2 y o0 o1 o2 o3 o4 o5 o6 false tx) (p := p) (b := b) (p2 := p2) (b2 := b2) (L := L) (B := B) (o := o) (s := s) (mode := md0) hLok.out at_ hat
  go_wp2_with (fail)
  unfold LC at hL
  unfold DC at hR
  replace hL := Lib.hid hL
  replace hR := Lib.hid hR
  refine (hL.out _ _ _ _ hT.out).mono ?_
  rintro e w4 ⟨rfl, hT⟩
  clear k0 k1 k2 k5 k6 k8
  obtain ⟨k0, k1, k2, k5, k6, k8⟩ := bo_S hT.out
  go_wp2_with (fail)
  refine (hR.out _ _ _ _ hT.out).mono ?_
  rintro e w5 ⟨rfl, hT⟩
  clear k0 k1 k2 k5 k6 k8
  obtain ⟨k0, k1, k2, k5, k6, k8⟩ := bo_S hT.out
  go_wp2_with (fail)
  go_returns
  exact ⟨rfl, Lib.hid ⟨_, _, _, (by first | exact hT.out | exact hT.out.drew | exact hT.out.draws _ : Tw _ _ _ _ _ _ _ _ _ _ _ _ _).drop⟩⟩
set_option maxRecDepth 100000 in
set_option maxHeartbeats 16000000 in
theorem play_near_4 (hk0 : pickN o0 14 = 4)(hT : Tw (Bz v0 F pp p p2) w p b p2 b2 L B o s B o s) (i0 : inI o0) (i1 : inI o1) (i2 : inI o2) (i3 : inI o3) (i4 : inI o4) (i5 : inI o5) (i6 : inI o6) (hx : tx.size ≤ 140737488351232) :
    Calls Try.prog 38 #[.pointer (some ⟨pp, 0, none⟩), .agg #[.int .i64 o0, .int .i64 o1, .int .i64 o2, .int .i64 o3, .int .i64 o4, .int .i64 o5, .int .i64 o6, .bool false, .string tx]] w fun e w' => e = .returned (.bool true) ∧ Hid (∃ B' o' s', Tw (Bz v0 F pp p p2) w' p b p2 b2 L B' o' s' B' o' s') := by
  have hpk1 := fun W => pick_any o0 14 W i0.1 i0.2 (by decide) (by decide)
  have hpk2 := fun W => pick_any o1 3 W i1.1 i1.2 (by decide) (by decide)
  have hkk := pickN_lt o0 14 (by decide)
  simp only [show (14 : Int).toNat = 14 from rfl] at hpk1
  simp only [show (3 : Int).toNat = 3 from rfl] at hpk2
  obtain ⟨md0, hmd0⟩ : ∃ md : Int, ((pickN o1 3 : Nat) : Int) = md := ⟨_, rfl⟩
  simp only [hmd0] at hpk2
  obtain ⟨k, hpk⟩ : ∃ k, pickN o0 14 = k := ⟨_, rfl⟩
  rw [hpk] at hkk
  simp only [hpk] at hpk1
  have hT1 := hT.made 62 #[.int .i64 o0, .int .i64 o1, .int .i64 o2, .int .i64 o3, .int .i64 o4, .int .i64 o5, .int .i64 o6, .bool false, .string tx]
  have hLok := Lib.hid hT.im.ok
  obtain ⟨c, hc⟩ : ∃ c : UInt8, o6 % 256 = (c.toNat : Int) := ⟨UInt8.ofNat (o6 % 256).toNat, by simp; omega⟩
  have hu : IntKind.u8.wrap o6 = (c.toNat : Int) := by rw [← hc]; simp [IntKind.wrap, IntKind.bits, IntKind.signed]
  replace hpk := Lib.hid hpk
  replace hpk1 := Lib.hid hpk1
  replace hpk2 := Lib.hid hpk2
  clear hT
  go_enter Try.func38, Try.ntmps38
  go_wp2_with (fail)
  obtain ⟨y, hy⟩ : ∃ y, w.heap.size = y := ⟨_, rfl⟩
  obtain ⟨X, hX⟩ : ∃ X, w.alloc (.cells #[.int .i64 o0, .int .i64 o1, .int .i64 o2, .int .i64 o3, .int .i64 o4, .int .i64 o5, .int .i64 o6, .bool false, .string tx] 62) = X := ⟨_, rfl⟩
  rw [hy, hX] at hT1
  rw [hX, hy]
  clear hX hy
  have hT : Hid (Tw (Bo v0 F pp p p2 y o0 o1 o2 o3 o4 o5 o6 false tx) X p b p2 b2 L B o s B o s) := Lib.hid hT1
  clear hT1
  refine (place_bo hT.out o2 o3 i2 i3).mono ?_
  rintro e w1 ⟨at_, rfl, hat, hT⟩
  obtain ⟨k0, k1, k2, k5, k6, k8⟩ := bo_S hT.out
  obtain ⟨l0, l1, l3, l4, l7⟩ := bo_A hT.out
  go_wp2_with (fail)
  refine (place_bo hT.out o6 o4 i6 i4).mono ?_
  rintro e w2 ⟨to_, rfl, hto, hT⟩
  clear k0 k1 k2 k5 k6 k8 l0 l1 l3 l4 l7
  obtain ⟨k0, k1, k2, k5, k6, k8⟩ := bo_S hT.out
  obtain ⟨l0, l1, l3, l4, l7⟩ := bo_A hT.out
  go_wp2_with (fail)
  refine (hpk2.out _).mono ?_
  rintro e w3 ⟨rfl, hw_⟩
  have hw_ := hw_.symm
  subst hw_
  go_wp2_with (fail)
  refine (hpk1.out _).mono ?_
  rintro e w3 ⟨rfl, hw_⟩
  have hw_ := hw_.symm
  subst hw_
  clear hpk1 hpk2 l0 l1 l3 l4 l7 hmd0
  clear hkk
  obtain rfl : k = 4 := hpk.out.symm.trans hk0
  obtain ⟨res, B', hL, hR⟩ := two_setcell (w0 := Bo v0 F pp p p2 y o0 o1 o2 o3 o4 o5 o6 false tx) (p := p) (b := b) (p2 := p2) (b2 := b2) (L := L) (B := B) (o := o) (s := s) (mode := md0) hLok.out at_ o6 ⟨i6.1, Int.lt_of_le_of_lt i6.2 (by decide)⟩ hat
  go_wp2_with (fail)
  unfold LC at hL
  unfold DC at hR
  replace hL := Lib.hid hL
  replace hR := Lib.hid hR
  go_region_held3 (fun w' => w'.cell? ⟨pp, 0, none⟩ = some (.pointer (some ⟨p, 0, none⟩)) ∧ w'.cell? ⟨pp, 1, none⟩ = some (.pointer (some ⟨p2, 0, none⟩)) ∧ w'.cell? ⟨y, 2, none⟩ = some (.int .i64 o2) ∧ w'.cell? ⟨y, 5, none⟩ = some (.int .i64 o5) ∧ w'.cell? ⟨y, 6, none⟩ = some (.int .i64 o6) ∧ w'.cell? ⟨y, 8, none⟩ = some (.string tx)) ((simp [go_sem, *]))
    (first
      | (go_at_call 24; (with_reducible refine Calls.mono (hL.out _ _ _ _ (by first | exact hT.out | exact hT.out.drew)) ?_); rintro e w1_ ⟨rfl, hT⟩; have kS := bo_S hT.out)
      | (go_at_call 51; (with_reducible refine Calls.mono (hR.out _ _ _ _ (by first | exact hT.out | exact hT.out.drew)) ?_); rintro e w1_ ⟨rfl, hT⟩; have kS := bo_S hT.out))
  all_goals (
    go_wp2_with (fail)
    go_returns
    exact ⟨rfl, Lib.hid ⟨_, _, _, (by first | exact hT.out | exact hT.out.drew | exact hT.out.draws _ : Tw _ _ _ _ _ _ _ _ _ _ _ _ _).drop⟩⟩
  )
set_option maxRecDepth 100000 in
set_option maxHeartbeats 16000000 in
theorem play_near_5 (hk0 : pickN o0 14 = 5)(hT : Tw (Bz v0 F pp p p2) w p b p2 b2 L B o s B o s) (i0 : inI o0) (i1 : inI o1) (i2 : inI o2) (i3 : inI o3) (i4 : inI o4) (i5 : inI o5) (i6 : inI o6) (hx : tx.size ≤ 140737488351232) :
    Calls Try.prog 38 #[.pointer (some ⟨pp, 0, none⟩), .agg #[.int .i64 o0, .int .i64 o1, .int .i64 o2, .int .i64 o3, .int .i64 o4, .int .i64 o5, .int .i64 o6, .bool false, .string tx]] w fun e w' => e = .returned (.bool true) ∧ Hid (∃ B' o' s', Tw (Bz v0 F pp p p2) w' p b p2 b2 L B' o' s' B' o' s') := by
  have hpk1 := fun W => pick_any o0 14 W i0.1 i0.2 (by decide) (by decide)
  have hpk2 := fun W => pick_any o1 3 W i1.1 i1.2 (by decide) (by decide)
  have hkk := pickN_lt o0 14 (by decide)
  simp only [show (14 : Int).toNat = 14 from rfl] at hpk1
  simp only [show (3 : Int).toNat = 3 from rfl] at hpk2
  obtain ⟨md0, hmd0⟩ : ∃ md : Int, ((pickN o1 3 : Nat) : Int) = md := ⟨_, rfl⟩
  simp only [hmd0] at hpk2
  obtain ⟨k, hpk⟩ : ∃ k, pickN o0 14 = k := ⟨_, rfl⟩
  rw [hpk] at hkk
  simp only [hpk] at hpk1
  have hT1 := hT.made 62 #[.int .i64 o0, .int .i64 o1, .int .i64 o2, .int .i64 o3, .int .i64 o4, .int .i64 o5, .int .i64 o6, .bool false, .string tx]
  have hLok := Lib.hid hT.im.ok
  obtain ⟨c, hc⟩ : ∃ c : UInt8, o6 % 256 = (c.toNat : Int) := ⟨UInt8.ofNat (o6 % 256).toNat, by simp; omega⟩
  have hu : IntKind.u8.wrap o6 = (c.toNat : Int) := by rw [← hc]; simp [IntKind.wrap, IntKind.bits, IntKind.signed]
  replace hpk := Lib.hid hpk
  replace hpk1 := Lib.hid hpk1
  replace hpk2 := Lib.hid hpk2
  clear hT
  go_enter Try.func38, Try.ntmps38
  go_wp2_with (fail)
  obtain ⟨y, hy⟩ : ∃ y, w.heap.size = y := ⟨_, rfl⟩
  obtain ⟨X, hX⟩ : ∃ X, w.alloc (.cells #[.int .i64 o0, .int .i64 o1, .int .i64 o2, .int .i64 o3, .int .i64 o4, .int .i64 o5, .int .i64 o6, .bool false, .string tx] 62) = X := ⟨_, rfl⟩
  rw [hy, hX] at hT1
  rw [hX, hy]
  clear hX hy
  have hT : Hid (Tw (Bo v0 F pp p p2 y o0 o1 o2 o3 o4 o5 o6 false tx) X p b p2 b2 L B o s B o s) := Lib.hid hT1
  clear hT1
  refine (place_bo hT.out o2 o3 i2 i3).mono ?_
  rintro e w1 ⟨at_, rfl, hat, hT⟩
  obtain ⟨k0, k1, k2, k5, k6, k8⟩ := bo_S hT.out
  obtain ⟨l0, l1, l3, l4, l7⟩ := bo_A hT.out
  go_wp2_with (fail)
  refine (place_bo hT.out o6 o4 i6 i4).mono ?_
  rintro e w2 ⟨to_, rfl, hto, hT⟩
  clear k0 k1 k2 k5 k6 k8 l0 l1 l3 l4 l7
  obtain ⟨k0, k1, k2, k5, k6, k8⟩ := bo_S hT.out
  obtain ⟨l0, l1, l3, l4, l7⟩ := bo_A hT.out
  go_wp2_with (fail)
  refine (hpk2.out _).mono ?_
  rintro e w3 ⟨rfl, hw_⟩
  have hw_ := hw_.symm
  subst hw_
  go_wp2_with (fail)
  refine (hpk1.out _).mono ?_
  rintro e w3 ⟨rfl, hw_⟩
  have hw_ := hw_.symm
  subst hw_
  clear hpk1 hpk2 l0 l1 l3 l4 l7 hmd0
  clear hkk
  obtain rfl : k = 5 := hpk.out.symm.trans hk0
  obtain ⟨res, B', hL, hR⟩ := two_setcell (w0 := Bo v0 F pp p p2 y o0 o1 o2 o3 o4 o5 o6 false tx) (p := p) (b := b) (p2 := p2) (b2 := b2) (L := L) (B := B) (o := o) (s := s) (mode := md0) hLok.out at_ o6 ⟨i6.1, Int.lt_of_le_of_lt i6.2 (by decide)⟩ hat
  go_wp2_with (fail)
  unfold LC at hL
  unfold DC at hR
  replace hL := Lib.hid hL
  replace hR := Lib.hid hR
  go_region_held3 (fun w' => w'.cell? ⟨pp, 0, none⟩ = some (.pointer (some ⟨p, 0, none⟩)) ∧ w'.cell? ⟨pp, 1, none⟩ = some (.pointer (some ⟨p2, 0, none⟩)) ∧ w'.cell? ⟨y, 2, none⟩ = some (.int .i64 o2) ∧ w'.cell? ⟨y, 5, none⟩ = some (.int .i64 o5) ∧ w'.cell? ⟨y, 6, none⟩ = some (.int .i64 o6) ∧ w'.cell? ⟨y, 8, none⟩ = some (.string tx)) ((simp [go_sem, *]))
    (first
      | (go_at_call 24; (with_reducible refine Calls.mono (hL.out _ _ _ _ (by first | exact hT.out | exact hT.out.drew)) ?_); rintro e w1_ ⟨rfl, hT⟩; have kS := bo_S hT.out)
      | (go_at_call 51; (with_reducible refine Calls.mono (hR.out _ _ _ _ (by first | exact hT.out | exact hT.out.drew)) ?_); rintro e w1_ ⟨rfl, hT⟩; have kS := bo_S hT.out))
  all_goals (
    go_wp2_with (fail)
    go_returns
    exact ⟨rfl, Lib.hid ⟨_, _, _, (by first | exact hT.out | exact hT.out.drew | exact hT.out.draws _ : Tw _ _ _ _ _ _ _ _ _ _ _ _ _).drop⟩⟩
  )
end
end Go.Proofs.Yteldbkdfphkdbaa
