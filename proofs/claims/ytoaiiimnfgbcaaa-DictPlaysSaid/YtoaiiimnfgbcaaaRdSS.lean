import Derived.Test.YtoaiiimnfgbcaaaRdLR
namespace Go.Proofs.Ytoaiiimnfgbcaaa
open Go.RowKit
attribute [local go_sem] Oper.semAt_some
set_option linter.unusedVariables false
set_option linter.unusedSimpArgs false
/-! chapter 8: law's does, kind by kind -/
set_option maxHeartbeats 4000000 in
set_option maxRecDepth 100000 in
theorem does_0 {w W : World} {v p b kk : Nat} {a c : Ls} {L : Lay} {B : List UInt8} {s : Bool} (H : Al W p b L B s a c) (S : So w v p b kk a c W) (of kd N : Int) (ch : UInt8) (nm : ByteArray)
    (hof : -9223372036854775808 ≤ of ∧ of ≤ 9223372036854775807) (hkd : -9223372036854775808 ≤ kd ∧ kd ≤ 9223372036854775807) (hN : -9223372036854775808 ≤ N ∧ N ≤ 9223372036854775807) (hnm : nm.size ≤ maxLen) (hk : pickN of 2 = kk) (hkk : pickN kd 16 = 0) :
    Calls Try.prog 22 #[.pointer (some ⟨v, 0, none⟩), .agg #[.int .i64 of, .int .i64 kd, .int .i64 N, .int .u8 (ch.toNat : Int), .string nm]] W fun e W' => e = .returned (.bool true) ∧ Dn w v p b kk L a c W' := by
  have hp1 := fun w => pick_any of 2 w hof.1 hof.2 (by decide) (by decide)
  have hp2 := fun w => pick_any kd 16 w hkd.1 hkd.2 (by decide) (by decide)
  have e2 : (2 : Int).toNat = 2 := rfl
  have e16 : (16 : Int).toNat = 16 := rfl
  simp only [e2, e16, hk, hkk] at hp1 hp2
  clear e2 e16
  replace hp1 := Lib.hid hp1
  replace hp2 := Lib.hid hp2
  have hk2 := S.two
  have X := Ss.enter H S #[.int .i64 of, .int .i64 kd, .int .i64 N, .int .u8 (ch.toNat : Int), .string nm]
  have hgl : W.heap.size < (W.alloc (.cells #[.int .i64 of, .int .i64 kd, .int .i64 N, .int .u8 (ch.toNat : Int), .string nm] 58)).heap.size := X.bx.lt
  obtain ⟨V, hV⟩ : ∃ V, W.alloc (.cells #[.int .i64 of, .int .i64 kd, .int .i64 N, .int .u8 (ch.toNat : Int), .string nm] 58) = V := ⟨_, rfl⟩
  obtain ⟨g, hg⟩ : ∃ g, W.heap.size = g := ⟨_, rfl⟩
  rw [hV, hg] at X
  have c0 := X.so.c0
  have c1 := X.so.c1
  have c3 := X.so.c3
  have o0 := X.bx.cell 0
  have o1 := X.bx.cell 1
  have o2 := X.bx.cell 2
  have o3 := X.bx.cell 3
  have o4 := X.bx.cell 4
  simp at o0 o1 o2 o3 o4
  have k0 : (0 : Int) ≤ kk := by omega
  have k1 : (kk : Int) < 2 := by omega
  clear H S hgl hof hkd
  replace X := Lib.hid X
  replace hk2 := Lib.hid hk2
  replace hk := Lib.hid hk
  replace hkk := Lib.hid hkk
  go_enter Try.func22, Try.ntmps22
  go_wp2_with (fail)
  clear hV hg
  refine (hp1.out _).mono ?_
  rintro e w1 ⟨rfl, hw1⟩
  have hw1 := hw1.symm
  subst hw1
  go_wp2_with (fail)
  refine (hp2.out _).mono ?_
  rintro e w1 ⟨rfl, hw1⟩
  have hw1 := hw1.symm
  subst hw1
  obtain ⟨k, P⟩ := pr_allot X.out.draw.al N hN
  have P1 := (X.out.draw.pair P).1
  replace P1 := Lib.hid P1
  clear P hk hkk hp1 hp2 hk2
  clear X
  go_wp2_with (fail)
  go_region_held3 (fun w' => w'.cell? ⟨g, 2, none⟩ = some (.int .i64 N)) (first | (simp [go_sem, *]; done) | go_keep)
    (first
      | (go_at_call 41; (with_reducible refine Calls.mono P1.out ?_); rintro e w1_ ⟨rfl, b1_, P2⟩; have kS : w1_.cell? ⟨g, 2, none⟩ = some (.int .i64 N) := b1_.cell 2; clear b1_; replace P2 := Lib.hid P2)
      | (go_at_call 42; (with_reducible refine Calls.mono P2.out ?_); rintro e w2_ ⟨rfl, b2_, B2, h2, l2, X2⟩; have kS : w2_.cell? ⟨g, 2, none⟩ = some (.int .i64 N) := b2_.cell 2; clear b2_; replace X2 := Lib.hid X2))
  go_wp2_with (fail)
  go_returns
  exact ⟨rfl, X2.out.dn⟩
set_option maxHeartbeats 4000000 in
set_option maxRecDepth 100000 in
theorem does_1 {w W : World} {v p b kk : Nat} {a c : Ls} {L : Lay} {B : List UInt8} {s : Bool} (H : Al W p b L B s a c) (S : So w v p b kk a c W) (of kd N : Int) (ch : UInt8) (nm : ByteArray)
    (hof : -9223372036854775808 ≤ of ∧ of ≤ 9223372036854775807) (hkd : -9223372036854775808 ≤ kd ∧ kd ≤ 9223372036854775807) (hN : -9223372036854775808 ≤ N ∧ N ≤ 9223372036854775807) (hnm : nm.size ≤ maxLen) (hk : pickN of 2 = kk) (hkk : pickN kd 16 = 1) :
    Calls Try.prog 22 #[.pointer (some ⟨v, 0, none⟩), .agg #[.int .i64 of, .int .i64 kd, .int .i64 N, .int .u8 (ch.toNat : Int), .string nm]] W fun e W' => e = .returned (.bool true) ∧ Dn w v p b kk L a c W' := by
  have hp1 := fun w => pick_any of 2 w hof.1 hof.2 (by decide) (by decide)
  have hp2 := fun w => pick_any kd 16 w hkd.1 hkd.2 (by decide) (by decide)
  have e2 : (2 : Int).toNat = 2 := rfl
  have e16 : (16 : Int).toNat = 16 := rfl
  simp only [e2, e16, hk, hkk] at hp1 hp2
  clear e2 e16
  replace hp1 := Lib.hid hp1
  replace hp2 := Lib.hid hp2
  have hk2 := S.two
  have X := Ss.enter H S #[.int .i64 of, .int .i64 kd, .int .i64 N, .int .u8 (ch.toNat : Int), .string nm]
  have hgl : W.heap.size < (W.alloc (.cells #[.int .i64 of, .int .i64 kd, .int .i64 N, .int .u8 (ch.toNat : Int), .string nm] 58)).heap.size := X.bx.lt
  obtain ⟨V, hV⟩ : ∃ V, W.alloc (.cells #[.int .i64 of, .int .i64 kd, .int .i64 N, .int .u8 (ch.toNat : Int), .string nm] 58) = V := ⟨_, rfl⟩
  obtain ⟨g, hg⟩ : ∃ g, W.heap.size = g := ⟨_, rfl⟩
  rw [hV, hg] at X
  have c0 := X.so.c0
  have c1 := X.so.c1
  have c3 := X.so.c3
  have o0 := X.bx.cell 0
  have o1 := X.bx.cell 1
  have o2 := X.bx.cell 2
  have o3 := X.bx.cell 3
  have o4 := X.bx.cell 4
  simp at o0 o1 o2 o3 o4
  have k0 : (0 : Int) ≤ kk := by omega
  have k1 : (kk : Int) < 2 := by omega
  clear H S hgl hof hkd
  replace X := Lib.hid X
  replace hk2 := Lib.hid hk2
  replace hk := Lib.hid hk
  replace hkk := Lib.hid hkk
  go_enter Try.func22, Try.ntmps22
  go_wp2_with (fail)
  clear hV hg
  refine (hp1.out _).mono ?_
  rintro e w1 ⟨rfl, hw1⟩
  have hw1 := hw1.symm
  subst hw1
  go_wp2_with (fail)
  refine (hp2.out _).mono ?_
  rintro e w1 ⟨rfl, hw1⟩
  have hw1 := hw1.symm
  subst hw1
  obtain ⟨k, P⟩ := pr_comma X.out.draw.al N hN
  have P1 := (X.out.draw.pair P).1
  replace P1 := Lib.hid P1
  clear P hk hkk hp1 hp2 hk2
  clear X
  go_wp2_with (fail)
  go_region_held3 (fun w' => w'.cell? ⟨g, 2, none⟩ = some (.int .i64 N)) (first | (simp [go_sem, *]; done) | go_keep)
    (first
      | (go_at_call 27; (with_reducible refine Calls.mono P1.out ?_); rintro e w1_ ⟨rfl, b1_, P2⟩; have kS : w1_.cell? ⟨g, 2, none⟩ = some (.int .i64 N) := b1_.cell 2; clear b1_; replace P2 := Lib.hid P2)
      | (go_at_call 43; (with_reducible refine Calls.mono P2.out ?_); rintro e w2_ ⟨rfl, b2_, B2, h2, l2, X2⟩; have kS : w2_.cell? ⟨g, 2, none⟩ = some (.int .i64 N) := b2_.cell 2; clear b2_; replace X2 := Lib.hid X2))
  go_wp2_with (fail)
  go_returns
  exact ⟨rfl, X2.out.dn⟩
set_option maxHeartbeats 4000000 in
set_option maxRecDepth 100000 in
theorem does_2 {w W : World} {v p b kk : Nat} {a c : Ls} {L : Lay} {B : List UInt8} {s : Bool} (H : Al W p b L B s a c) (S : So w v p b kk a c W) (of kd N : Int) (ch : UInt8) (nm : ByteArray)
    (hof : -9223372036854775808 ≤ of ∧ of ≤ 9223372036854775807) (hkd : -9223372036854775808 ≤ kd ∧ kd ≤ 9223372036854775807) (hN : -9223372036854775808 ≤ N ∧ N ≤ 9223372036854775807) (hnm : nm.size ≤ maxLen) (hk : pickN of 2 = kk) (hkk : pickN kd 16 = 2) :
    Calls Try.prog 22 #[.pointer (some ⟨v, 0, none⟩), .agg #[.int .i64 of, .int .i64 kd, .int .i64 N, .int .u8 (ch.toNat : Int), .string nm]] W fun e W' => e = .returned (.bool true) ∧ Dn w v p b kk L a c W' := by
  have hp1 := fun w => pick_any of 2 w hof.1 hof.2 (by decide) (by decide)
  have hp2 := fun w => pick_any kd 16 w hkd.1 hkd.2 (by decide) (by decide)
  have e2 : (2 : Int).toNat = 2 := rfl
  have e16 : (16 : Int).toNat = 16 := rfl
  simp only [e2, e16, hk, hkk] at hp1 hp2
  clear e2 e16
  replace hp1 := Lib.hid hp1
  replace hp2 := Lib.hid hp2
  have hk2 := S.two
  have X := Ss.enter H S #[.int .i64 of, .int .i64 kd, .int .i64 N, .int .u8 (ch.toNat : Int), .string nm]
  have hgl : W.heap.size < (W.alloc (.cells #[.int .i64 of, .int .i64 kd, .int .i64 N, .int .u8 (ch.toNat : Int), .string nm] 58)).heap.size := X.bx.lt
  obtain ⟨V, hV⟩ : ∃ V, W.alloc (.cells #[.int .i64 of, .int .i64 kd, .int .i64 N, .int .u8 (ch.toNat : Int), .string nm] 58) = V := ⟨_, rfl⟩
  obtain ⟨g, hg⟩ : ∃ g, W.heap.size = g := ⟨_, rfl⟩
  rw [hV, hg] at X
  have c0 := X.so.c0
  have c1 := X.so.c1
  have c3 := X.so.c3
  have o0 := X.bx.cell 0
  have o1 := X.bx.cell 1
  have o2 := X.bx.cell 2
  have o3 := X.bx.cell 3
  have o4 := X.bx.cell 4
  simp at o0 o1 o2 o3 o4
  have k0 : (0 : Int) ≤ kk := by omega
  have k1 : (kk : Int) < 2 := by omega
  clear H S hgl hof hkd
  replace X := Lib.hid X
  replace hk2 := Lib.hid hk2
  replace hk := Lib.hid hk
  replace hkk := Lib.hid hkk
  go_enter Try.func22, Try.ntmps22
  go_wp2_with (fail)
  clear hV hg
  refine (hp1.out _).mono ?_
  rintro e w1 ⟨rfl, hw1⟩
  have hw1 := hw1.symm
  subst hw1
  go_wp2_with (fail)
  refine (hp2.out _).mono ?_
  rintro e w1 ⟨rfl, hw1⟩
  have hw1 := hw1.symm
  subst hw1
  obtain ⟨k, P⟩ := pr_comma X.out.draw.al N hN
  have P1 := (X.out.draw.pair P).1
  replace P1 := Lib.hid P1
  clear P hk hkk hp1 hp2 hk2
  clear X
  go_wp2_with (fail)
  go_region_held3 (fun w' => w'.cell? ⟨g, 2, none⟩ = some (.int .i64 N)) (first | (simp [go_sem, *]; done) | go_keep)
    (first
      | (go_at_call 27; (with_reducible refine Calls.mono P1.out ?_); rintro e w1_ ⟨rfl, b1_, P2⟩; have kS : w1_.cell? ⟨g, 2, none⟩ = some (.int .i64 N) := b1_.cell 2; clear b1_; replace P2 := Lib.hid P2)
      | (go_at_call 43; (with_reducible refine Calls.mono P2.out ?_); rintro e w2_ ⟨rfl, b2_, B2, h2, l2, X2⟩; have kS : w2_.cell? ⟨g, 2, none⟩ = some (.int .i64 N) := b2_.cell 2; clear b2_; replace X2 := Lib.hid X2))
  go_wp2_with (fail)
  go_returns
  exact ⟨rfl, X2.out.dn⟩
set_option maxHeartbeats 4000000 in
set_option maxRecDepth 100000 in
theorem does_3 {w W : World} {v p b kk : Nat} {a c : Ls} {L : Lay} {B : List UInt8} {s : Bool} (H : Al W p b L B s a c) (S : So w v p b kk a c W) (of kd N : Int) (ch : UInt8) (nm : ByteArray)
    (hof : -9223372036854775808 ≤ of ∧ of ≤ 9223372036854775807) (hkd : -9223372036854775808 ≤ kd ∧ kd ≤ 9223372036854775807) (hN : -9223372036854775808 ≤ N ∧ N ≤ 9223372036854775807) (hnm : nm.size ≤ maxLen) (hk : pickN of 2 = kk) (hkk : pickN kd 16 = 3) :
    Calls Try.prog 22 #[.pointer (some ⟨v, 0, none⟩), .agg #[.int .i64 of, .int .i64 kd, .int .i64 N, .int .u8 (ch.toNat : Int), .string nm]] W fun e W' => e = .returned (.bool true) ∧ Dn w v p b kk L a c W' := by
  have hp1 := fun w => pick_any of 2 w hof.1 hof.2 (by decide) (by decide)
  have hp2 := fun w => pick_any kd 16 w hkd.1 hkd.2 (by decide) (by decide)
  have e2 : (2 : Int).toNat = 2 := rfl
  have e16 : (16 : Int).toNat = 16 := rfl
  simp only [e2, e16, hk, hkk] at hp1 hp2
  clear e2 e16
  replace hp1 := Lib.hid hp1
  replace hp2 := Lib.hid hp2
  have hk2 := S.two
  have X := Ss.enter H S #[.int .i64 of, .int .i64 kd, .int .i64 N, .int .u8 (ch.toNat : Int), .string nm]
  have hgl : W.heap.size < (W.alloc (.cells #[.int .i64 of, .int .i64 kd, .int .i64 N, .int .u8 (ch.toNat : Int), .string nm] 58)).heap.size := X.bx.lt
  obtain ⟨V, hV⟩ : ∃ V, W.alloc (.cells #[.int .i64 of, .int .i64 kd, .int .i64 N, .int .u8 (ch.toNat : Int), .string nm] 58) = V := ⟨_, rfl⟩
  obtain ⟨g, hg⟩ : ∃ g, W.heap.size = g := ⟨_, rfl⟩
  rw [hV, hg] at X
  have c0 := X.so.c0
  have c1 := X.so.c1
  have c3 := X.so.c3
  have o0 := X.bx.cell 0
  have o1 := X.bx.cell 1
  have o2 := X.bx.cell 2
  have o3 := X.bx.cell 3
  have o4 := X.bx.cell 4
  simp at o0 o1 o2 o3 o4
  have k0 : (0 : Int) ≤ kk := by omega
  have k1 : (kk : Int) < 2 := by omega
  clear H S hgl hof hkd
  replace X := Lib.hid X
  replace hk2 := Lib.hid hk2
  replace hk := Lib.hid hk
  replace hkk := Lib.hid hkk
  go_enter Try.func22, Try.ntmps22
  go_wp2_with (fail)
  clear hV hg
  refine (hp1.out _).mono ?_
  rintro e w1 ⟨rfl, hw1⟩
  have hw1 := hw1.symm
  subst hw1
  go_wp2_with (fail)
  refine (hp2.out _).mono ?_
  rintro e w1 ⟨rfl, hw1⟩
  have hw1 := hw1.symm
  subst hw1
  obtain ⟨k, P⟩ := pr_ccomma X.out.draw.al ch
  have P1 := (X.out.draw.pair P).1
  replace P1 := Lib.hid P1
  clear P hk hkk hp1 hp2 hk2
  clear X
  go_wp2_with (fail)
  go_region_held3 (fun w' => w'.cell? ⟨g, 3, none⟩ = some (.int .u8 (ch.toNat : Int))) (first | (simp [go_sem, *]; done) | go_keep)
    (first
      | (go_at_call 28; (with_reducible refine Calls.mono P1.out ?_); rintro e w1_ ⟨rfl, b1_, P2⟩; have kS : w1_.cell? ⟨g, 3, none⟩ = some (.int .u8 (ch.toNat : Int)) := b1_.cell 3; clear b1_; replace P2 := Lib.hid P2)
      | (go_at_call 44; (with_reducible refine Calls.mono P2.out ?_); rintro e w2_ ⟨rfl, b2_, B2, h2, l2, X2⟩; have kS : w2_.cell? ⟨g, 3, none⟩ = some (.int .u8 (ch.toNat : Int)) := b2_.cell 3; clear b2_; replace X2 := Lib.hid X2))
  go_wp2_with (fail)
  go_returns
  exact ⟨rfl, X2.out.dn⟩
set_option maxHeartbeats 4000000 in
set_option maxRecDepth 100000 in
theorem does_4 {w W : World} {v p b kk : Nat} {a c : Ls} {L : Lay} {B : List UInt8} {s : Bool} (H : Al W p b L B s a c) (S : So w v p b kk a c W) (of kd N : Int) (ch : UInt8) (nm : ByteArray)
    (hof : -9223372036854775808 ≤ of ∧ of ≤ 9223372036854775807) (hkd : -9223372036854775808 ≤ kd ∧ kd ≤ 9223372036854775807) (hN : -9223372036854775808 ≤ N ∧ N ≤ 9223372036854775807) (hnm : nm.size ≤ maxLen) (hk : pickN of 2 = kk) (hkk : pickN kd 16 = 4) :
    Calls Try.prog 22 #[.pointer (some ⟨v, 0, none⟩), .agg #[.int .i64 of, .int .i64 kd, .int .i64 N, .int .u8 (ch.toNat : Int), .string nm]] W fun e W' => e = .returned (.bool true) ∧ Dn w v p b kk L a c W' := by
  have hp1 := fun w => pick_any of 2 w hof.1 hof.2 (by decide) (by decide)
  have hp2 := fun w => pick_any kd 16 w hkd.1 hkd.2 (by decide) (by decide)
  have e2 : (2 : Int).toNat = 2 := rfl
  have e16 : (16 : Int).toNat = 16 := rfl
  simp only [e2, e16, hk, hkk] at hp1 hp2
  clear e2 e16
  replace hp1 := Lib.hid hp1
  replace hp2 := Lib.hid hp2
  have hk2 := S.two
  have X := Ss.enter H S #[.int .i64 of, .int .i64 kd, .int .i64 N, .int .u8 (ch.toNat : Int), .string nm]
  have hgl : W.heap.size < (W.alloc (.cells #[.int .i64 of, .int .i64 kd, .int .i64 N, .int .u8 (ch.toNat : Int), .string nm] 58)).heap.size := X.bx.lt
  obtain ⟨V, hV⟩ : ∃ V, W.alloc (.cells #[.int .i64 of, .int .i64 kd, .int .i64 N, .int .u8 (ch.toNat : Int), .string nm] 58) = V := ⟨_, rfl⟩
  obtain ⟨g, hg⟩ : ∃ g, W.heap.size = g := ⟨_, rfl⟩
  rw [hV, hg] at X
  have c0 := X.so.c0
  have c1 := X.so.c1
  have c3 := X.so.c3
  have o0 := X.bx.cell 0
  have o1 := X.bx.cell 1
  have o2 := X.bx.cell 2
  have o3 := X.bx.cell 3
  have o4 := X.bx.cell 4
  simp at o0 o1 o2 o3 o4
  have k0 : (0 : Int) ≤ kk := by omega
  have k1 : (kk : Int) < 2 := by omega
  clear H S hgl hof hkd
  replace X := Lib.hid X
  replace hk2 := Lib.hid hk2
  replace hk := Lib.hid hk
  replace hkk := Lib.hid hkk
  go_enter Try.func22, Try.ntmps22
  go_wp2_with (fail)
  clear hV hg
  refine (hp1.out _).mono ?_
  rintro e w1 ⟨rfl, hw1⟩
  have hw1 := hw1.symm
  subst hw1
  go_wp2_with (fail)
  refine (hp2.out _).mono ?_
  rintro e w1 ⟨rfl, hw1⟩
  have hw1 := hw1.symm
  subst hw1
  obtain ⟨k, P⟩ := pr_align X.out.al
  have P1 := (X.out.pair P).1
  replace P1 := Lib.hid P1
  clear P hk hkk hp1 hp2 hk2 X
  go_wp2_with (fail)
  refine P1.out.mono ?_
  rintro e w1_ ⟨rfl, b1_, P2⟩
  have o4 := b1_.cell 4
  simp at o4
  replace P2 := Lib.hid P2
  clear b1_
  go_wp2_with (fail)
  refine P2.out.mono ?_
  rintro e w2_ ⟨rfl, b2_, B2, h2, l2, X2⟩
  replace X2 := Lib.hid X2
  clear b2_
  go_wp2_with (fail)
  go_returns
  exact ⟨rfl, X2.out.dn⟩
set_option maxHeartbeats 4000000 in
set_option maxRecDepth 100000 in
theorem does_5 {w W : World} {v p b kk : Nat} {a c : Ls} {L : Lay} {B : List UInt8} {s : Bool} (H : Al W p b L B s a c) (S : So w v p b kk a c W) (of kd N : Int) (ch : UInt8) (nm : ByteArray)
    (hof : -9223372036854775808 ≤ of ∧ of ≤ 9223372036854775807) (hkd : -9223372036854775808 ≤ kd ∧ kd ≤ 9223372036854775807) (hN : -9223372036854775808 ≤ N ∧ N ≤ 9223372036854775807) (hnm : nm.size ≤ maxLen) (hk : pickN of 2 = kk) (hkk : pickN kd 16 = 5) :
    Calls Try.prog 22 #[.pointer (some ⟨v, 0, none⟩), .agg #[.int .i64 of, .int .i64 kd, .int .i64 N, .int .u8 (ch.toNat : Int), .string nm]] W fun e W' => e = .returned (.bool true) ∧ Dn w v p b kk L a c W' := by
  have hp1 := fun w => pick_any of 2 w hof.1 hof.2 (by decide) (by decide)
  have hp2 := fun w => pick_any kd 16 w hkd.1 hkd.2 (by decide) (by decide)
  have e2 : (2 : Int).toNat = 2 := rfl
  have e16 : (16 : Int).toNat = 16 := rfl
  simp only [e2, e16, hk, hkk] at hp1 hp2
  clear e2 e16
  replace hp1 := Lib.hid hp1
  replace hp2 := Lib.hid hp2
  have hk2 := S.two
  have X := Ss.enter H S #[.int .i64 of, .int .i64 kd, .int .i64 N, .int .u8 (ch.toNat : Int), .string nm]
  have hgl : W.heap.size < (W.alloc (.cells #[.int .i64 of, .int .i64 kd, .int .i64 N, .int .u8 (ch.toNat : Int), .string nm] 58)).heap.size := X.bx.lt
  obtain ⟨V, hV⟩ : ∃ V, W.alloc (.cells #[.int .i64 of, .int .i64 kd, .int .i64 N, .int .u8 (ch.toNat : Int), .string nm] 58) = V := ⟨_, rfl⟩
  obtain ⟨g, hg⟩ : ∃ g, W.heap.size = g := ⟨_, rfl⟩
  rw [hV, hg] at X
  have c0 := X.so.c0
  have c1 := X.so.c1
  have c3 := X.so.c3
  have o0 := X.bx.cell 0
  have o1 := X.bx.cell 1
  have o2 := X.bx.cell 2
  have o3 := X.bx.cell 3
  have o4 := X.bx.cell 4
  simp at o0 o1 o2 o3 o4
  have k0 : (0 : Int) ≤ kk := by omega
  have k1 : (kk : Int) < 2 := by omega
  clear H S hgl hof hkd
  replace X := Lib.hid X
  replace hk2 := Lib.hid hk2
  replace hk := Lib.hid hk
  replace hkk := Lib.hid hkk
  go_enter Try.func22, Try.ntmps22
  go_wp2_with (fail)
  clear hV hg
  refine (hp1.out _).mono ?_
  rintro e w1 ⟨rfl, hw1⟩
  have hw1 := hw1.symm
  subst hw1
  go_wp2_with (fail)
  refine (hp2.out _).mono ?_
  rintro e w1 ⟨rfl, hw1⟩
  have hw1 := hw1.symm
  subst hw1
  obtain ⟨k, x, P⟩ := pr_create X.out.al nm hnm
  have P1 := (X.out.pair P).1
  replace P1 := Lib.hid P1
  clear P hk hkk hp1 hp2 hk2 X
  go_wp2_with (fail)
  refine P1.out.mono ?_
  rintro e w1_ ⟨rfl, b1_, P2⟩
  have o4 := b1_.cell 4
  simp at o4
  replace P2 := Lib.hid P2
  clear b1_
  go_wp2_with (fail)
  refine P2.out.mono ?_
  rintro e w2_ ⟨rfl, b2_, B2, h2, l2, X2⟩
  replace X2 := Lib.hid X2
  clear b2_
  go_wp2_with (fail)
  go_returns
  exact ⟨rfl, X2.out.dn⟩
set_option maxHeartbeats 4000000 in
set_option maxRecDepth 100000 in
theorem does_6 {w W : World} {v p b kk : Nat} {a c : Ls} {L : Lay} {B : List UInt8} {s : Bool} (H : Al W p b L B s a c) (S : So w v p b kk a c W) (of kd N : Int) (ch : UInt8) (nm : ByteArray)
    (hof : -9223372036854775808 ≤ of ∧ of ≤ 9223372036854775807) (hkd : -9223372036854775808 ≤ kd ∧ kd ≤ 9223372036854775807) (hN : -9223372036854775808 ≤ N ∧ N ≤ 9223372036854775807) (hnm : nm.size ≤ maxLen) (hk : pickN of 2 = kk) (hkk : pickN kd 16 = 6) :
    Calls Try.prog 22 #[.pointer (some ⟨v, 0, none⟩), .agg #[.int .i64 of, .int .i64 kd, .int .i64 N, .int .u8 (ch.toNat : Int), .string nm]] W fun e W' => e = .returned (.bool true) ∧ Dn w v p b kk L a c W' := by
  have hp1 := fun w => pick_any of 2 w hof.1 hof.2 (by decide) (by decide)
  have hp2 := fun w => pick_any kd 16 w hkd.1 hkd.2 (by decide) (by decide)
  have e2 : (2 : Int).toNat = 2 := rfl
  have e16 : (16 : Int).toNat = 16 := rfl
  simp only [e2, e16, hk, hkk] at hp1 hp2
  clear e2 e16
  replace hp1 := Lib.hid hp1
  replace hp2 := Lib.hid hp2
  have hk2 := S.two
  have X := Ss.enter H S #[.int .i64 of, .int .i64 kd, .int .i64 N, .int .u8 (ch.toNat : Int), .string nm]
  have hgl : W.heap.size < (W.alloc (.cells #[.int .i64 of, .int .i64 kd, .int .i64 N, .int .u8 (ch.toNat : Int), .string nm] 58)).heap.size := X.bx.lt
  obtain ⟨V, hV⟩ : ∃ V, W.alloc (.cells #[.int .i64 of, .int .i64 kd, .int .i64 N, .int .u8 (ch.toNat : Int), .string nm] 58) = V := ⟨_, rfl⟩
  obtain ⟨g, hg⟩ : ∃ g, W.heap.size = g := ⟨_, rfl⟩
  rw [hV, hg] at X
  have c0 := X.so.c0
  have c1 := X.so.c1
  have c3 := X.so.c3
  have o0 := X.bx.cell 0
  have o1 := X.bx.cell 1
  have o2 := X.bx.cell 2
  have o3 := X.bx.cell 3
  have o4 := X.bx.cell 4
  simp at o0 o1 o2 o3 o4
  have k0 : (0 : Int) ≤ kk := by omega
  have k1 : (kk : Int) < 2 := by omega
  clear H S hgl hof hkd
  replace X := Lib.hid X
  replace hk2 := Lib.hid hk2
  replace hk := Lib.hid hk
  replace hkk := Lib.hid hkk
  go_enter Try.func22, Try.ntmps22
  go_wp2_with (fail)
  clear hV hg
  refine (hp1.out _).mono ?_
  rintro e w1 ⟨rfl, hw1⟩
  have hw1 := hw1.symm
  subst hw1
  go_wp2_with (fail)
  refine (hp2.out _).mono ?_
  rintro e w1 ⟨rfl, hw1⟩
  have hw1 := hw1.symm
  subst hw1
  obtain ⟨k, x, P⟩ := pr_create X.out.al nm hnm
  have P1 := (X.out.pair P).1
  replace P1 := Lib.hid P1
  clear P hk hkk hp1 hp2 hk2 X
  go_wp2_with (fail)
  refine P1.out.mono ?_
  rintro e w1_ ⟨rfl, b1_, P2⟩
  have o4 := b1_.cell 4
  simp at o4
  replace P2 := Lib.hid P2
  clear b1_
  go_wp2_with (fail)
  refine P2.out.mono ?_
  rintro e w2_ ⟨rfl, b2_, B2, h2, l2, X2⟩
  replace X2 := Lib.hid X2
  clear b2_
  go_wp2_with (fail)
  go_returns
  exact ⟨rfl, X2.out.dn⟩
set_option maxHeartbeats 4000000 in
set_option maxRecDepth 100000 in
theorem does_7 {w W : World} {v p b kk : Nat} {a c : Ls} {L : Lay} {B : List UInt8} {s : Bool} (H : Al W p b L B s a c) (S : So w v p b kk a c W) (of kd N : Int) (ch : UInt8) (nm : ByteArray)
    (hof : -9223372036854775808 ≤ of ∧ of ≤ 9223372036854775807) (hkd : -9223372036854775808 ≤ kd ∧ kd ≤ 9223372036854775807) (hN : -9223372036854775808 ≤ N ∧ N ≤ 9223372036854775807) (hnm : nm.size ≤ maxLen) (hk : pickN of 2 = kk) (hkk : pickN kd 16 = 7) :
    Calls Try.prog 22 #[.pointer (some ⟨v, 0, none⟩), .agg #[.int .i64 of, .int .i64 kd, .int .i64 N, .int .u8 (ch.toNat : Int), .string nm]] W fun e W' => e = .returned (.bool true) ∧ Dn w v p b kk L a c W' := by
  have hp1 := fun w => pick_any of 2 w hof.1 hof.2 (by decide) (by decide)
  have hp2 := fun w => pick_any kd 16 w hkd.1 hkd.2 (by decide) (by decide)
  have e2 : (2 : Int).toNat = 2 := rfl
  have e16 : (16 : Int).toNat = 16 := rfl
  simp only [e2, e16, hk, hkk] at hp1 hp2
  clear e2 e16
  replace hp1 := Lib.hid hp1
  replace hp2 := Lib.hid hp2
  have hk2 := S.two
  have X := Ss.enter H S #[.int .i64 of, .int .i64 kd, .int .i64 N, .int .u8 (ch.toNat : Int), .string nm]
  have hgl : W.heap.size < (W.alloc (.cells #[.int .i64 of, .int .i64 kd, .int .i64 N, .int .u8 (ch.toNat : Int), .string nm] 58)).heap.size := X.bx.lt
  obtain ⟨V, hV⟩ : ∃ V, W.alloc (.cells #[.int .i64 of, .int .i64 kd, .int .i64 N, .int .u8 (ch.toNat : Int), .string nm] 58) = V := ⟨_, rfl⟩
  obtain ⟨g, hg⟩ : ∃ g, W.heap.size = g := ⟨_, rfl⟩
  rw [hV, hg] at X
  have c0 := X.so.c0
  have c1 := X.so.c1
  have c3 := X.so.c3
  have o0 := X.bx.cell 0
  have o1 := X.bx.cell 1
  have o2 := X.bx.cell 2
  have o3 := X.bx.cell 3
  have o4 := X.bx.cell 4
  simp at o0 o1 o2 o3 o4
  have k0 : (0 : Int) ≤ kk := by omega
  have k1 : (kk : Int) < 2 := by omega
  clear H S hgl hof hkd
  replace X := Lib.hid X
  replace hk2 := Lib.hid hk2
  replace hk := Lib.hid hk
  replace hkk := Lib.hid hkk
  go_enter Try.func22, Try.ntmps22
  go_wp2_with (fail)
  clear hV hg
  refine (hp1.out _).mono ?_
  rintro e w1 ⟨rfl, hw1⟩
  have hw1 := hw1.symm
  subst hw1
  go_wp2_with (fail)
  refine (hp2.out _).mono ?_
  rintro e w1 ⟨rfl, hw1⟩
  have hw1 := hw1.symm
  subst hw1
  obtain ⟨k, x, P⟩ := pr_create X.out.al nm hnm
  have P1 := (X.out.pair P).1
  replace P1 := Lib.hid P1
  clear P hk hkk hp1 hp2 hk2 X
  go_wp2_with (fail)
  refine P1.out.mono ?_
  rintro e w1_ ⟨rfl, b1_, P2⟩
  have o4 := b1_.cell 4
  simp at o4
  replace P2 := Lib.hid P2
  clear b1_
  go_wp2_with (fail)
  refine P2.out.mono ?_
  rintro e w2_ ⟨rfl, b2_, B2, h2, l2, X2⟩
  replace X2 := Lib.hid X2
  clear b2_
  go_wp2_with (fail)
  go_returns
  exact ⟨rfl, X2.out.dn⟩
set_option maxHeartbeats 4000000 in
set_option maxRecDepth 100000 in
theorem does_8 {w W : World} {v p b kk : Nat} {a c : Ls} {L : Lay} {B : List UInt8} {s : Bool} (H : Al W p b L B s a c) (S : So w v p b kk a c W) (of kd N : Int) (ch : UInt8) (nm : ByteArray)
    (hof : -9223372036854775808 ≤ of ∧ of ≤ 9223372036854775807) (hkd : -9223372036854775808 ≤ kd ∧ kd ≤ 9223372036854775807) (hN : -9223372036854775808 ≤ N ∧ N ≤ 9223372036854775807) (hnm : nm.size ≤ maxLen) (hk : pickN of 2 = kk) (hkk : pickN kd 16 = 8) :
    Calls Try.prog 22 #[.pointer (some ⟨v, 0, none⟩), .agg #[.int .i64 of, .int .i64 kd, .int .i64 N, .int .u8 (ch.toNat : Int), .string nm]] W fun e W' => e = .returned (.bool true) ∧ Dn w v p b kk L a c W' := by
  have hp1 := fun w => pick_any of 2 w hof.1 hof.2 (by decide) (by decide)
  have hp2 := fun w => pick_any kd 16 w hkd.1 hkd.2 (by decide) (by decide)
  have e2 : (2 : Int).toNat = 2 := rfl
  have e16 : (16 : Int).toNat = 16 := rfl
  simp only [e2, e16, hk, hkk] at hp1 hp2
  clear e2 e16
  replace hp1 := Lib.hid hp1
  replace hp2 := Lib.hid hp2
  have hk2 := S.two
  have X := Ss.enter H S #[.int .i64 of, .int .i64 kd, .int .i64 N, .int .u8 (ch.toNat : Int), .string nm]
  have hgl : W.heap.size < (W.alloc (.cells #[.int .i64 of, .int .i64 kd, .int .i64 N, .int .u8 (ch.toNat : Int), .string nm] 58)).heap.size := X.bx.lt
  obtain ⟨V, hV⟩ : ∃ V, W.alloc (.cells #[.int .i64 of, .int .i64 kd, .int .i64 N, .int .u8 (ch.toNat : Int), .string nm] 58) = V := ⟨_, rfl⟩
  obtain ⟨g, hg⟩ : ∃ g, W.heap.size = g := ⟨_, rfl⟩
  rw [hV, hg] at X
  have c0 := X.so.c0
  have c1 := X.so.c1
  have c3 := X.so.c3
  have o0 := X.bx.cell 0
  have o1 := X.bx.cell 1
  have o2 := X.bx.cell 2
  have o3 := X.bx.cell 3
  have o4 := X.bx.cell 4
  simp at o0 o1 o2 o3 o4
  have k0 : (0 : Int) ≤ kk := by omega
  have k1 : (kk : Int) < 2 := by omega
  clear H S hgl hof hkd
  replace X := Lib.hid X
  replace hk2 := Lib.hid hk2
  replace hk := Lib.hid hk
  replace hkk := Lib.hid hkk
  go_enter Try.func22, Try.ntmps22
  go_wp2_with (fail)
  clear hV hg
  refine (hp1.out _).mono ?_
  rintro e w1 ⟨rfl, hw1⟩
  have hw1 := hw1.symm
  subst hw1
  go_wp2_with (fail)
  refine (hp2.out _).mono ?_
  rintro e w1 ⟨rfl, hw1⟩
  have hw1 := hw1.symm
  subst hw1
  have P := pr_show X.out.al
  have P1 := (X.out.pair P).1
  replace P1 := Lib.hid P1
  clear P hk hkk hp1 hp2 hk2 X
  go_wp2_with (fail)
  refine P1.out.mono ?_
  rintro e w1_ ⟨rfl, b1_, P2⟩
  have o4 := b1_.cell 4
  simp at o4
  replace P2 := Lib.hid P2
  clear b1_
  go_wp2_with (fail)
  refine P2.out.mono ?_
  rintro e w2_ ⟨rfl, b2_, B2, h2, l2, X2⟩
  replace X2 := Lib.hid X2
  clear b2_
  go_wp2_with (fail)
  go_returns
  exact ⟨rfl, X2.out.dn⟩
set_option maxHeartbeats 4000000 in
set_option maxRecDepth 100000 in
theorem does_9 {w W : World} {v p b kk : Nat} {a c : Ls} {L : Lay} {B : List UInt8} {s : Bool} (H : Al W p b L B s a c) (S : So w v p b kk a c W) (of kd N : Int) (ch : UInt8) (nm : ByteArray)
    (hof : -9223372036854775808 ≤ of ∧ of ≤ 9223372036854775807) (hkd : -9223372036854775808 ≤ kd ∧ kd ≤ 9223372036854775807) (hN : -9223372036854775808 ≤ N ∧ N ≤ 9223372036854775807) (hnm : nm.size ≤ maxLen) (hk : pickN of 2 = kk) (hkk : pickN kd 16 = 9) :
    Calls Try.prog 22 #[.pointer (some ⟨v, 0, none⟩), .agg #[.int .i64 of, .int .i64 kd, .int .i64 N, .int .u8 (ch.toNat : Int), .string nm]] W fun e W' => e = .returned (.bool true) ∧ Dn w v p b kk L a c W' := by
  have hp1 := fun w => pick_any of 2 w hof.1 hof.2 (by decide) (by decide)
  have hp2 := fun w => pick_any kd 16 w hkd.1 hkd.2 (by decide) (by decide)
  have e2 : (2 : Int).toNat = 2 := rfl
  have e16 : (16 : Int).toNat = 16 := rfl
  simp only [e2, e16, hk, hkk] at hp1 hp2
  clear e2 e16
  replace hp1 := Lib.hid hp1
  replace hp2 := Lib.hid hp2
  have hk2 := S.two
  have X := Ss.enter H S #[.int .i64 of, .int .i64 kd, .int .i64 N, .int .u8 (ch.toNat : Int), .string nm]
  have hgl : W.heap.size < (W.alloc (.cells #[.int .i64 of, .int .i64 kd, .int .i64 N, .int .u8 (ch.toNat : Int), .string nm] 58)).heap.size := X.bx.lt
  obtain ⟨V, hV⟩ : ∃ V, W.alloc (.cells #[.int .i64 of, .int .i64 kd, .int .i64 N, .int .u8 (ch.toNat : Int), .string nm] 58) = V := ⟨_, rfl⟩
  obtain ⟨g, hg⟩ : ∃ g, W.heap.size = g := ⟨_, rfl⟩
  rw [hV, hg] at X
  have c0 := X.so.c0
  have c1 := X.so.c1
  have c3 := X.so.c3
  have o0 := X.bx.cell 0
  have o1 := X.bx.cell 1
  have o2 := X.bx.cell 2
  have o3 := X.bx.cell 3
  have o4 := X.bx.cell 4
  simp at o0 o1 o2 o3 o4
  have k0 : (0 : Int) ≤ kk := by omega
  have k1 : (kk : Int) < 2 := by omega
  clear H S hgl hof hkd
  replace X := Lib.hid X
  replace hk2 := Lib.hid hk2
  replace hk := Lib.hid hk
  replace hkk := Lib.hid hkk
  go_enter Try.func22, Try.ntmps22
  go_wp2_with (fail)
  clear hV hg
  refine (hp1.out _).mono ?_
  rintro e w1 ⟨rfl, hw1⟩
  have hw1 := hw1.symm
  subst hw1
  go_wp2_with (fail)
  refine (hp2.out _).mono ?_
  rintro e w1 ⟨rfl, hw1⟩
  have hw1 := hw1.symm
  subst hw1
  have P := pr_imm X.out.al
  have P1 := (X.out.pair P).1
  replace P1 := Lib.hid P1
  clear P hk hkk hp1 hp2 hk2 X
  go_wp2_with (fail)
  refine P1.out.mono ?_
  rintro e w1_ ⟨rfl, b1_, P2⟩
  have o4 := b1_.cell 4
  simp at o4
  replace P2 := Lib.hid P2
  clear b1_
  go_wp2_with (fail)
  refine P2.out.mono ?_
  rintro e w2_ ⟨rfl, b2_, B2, h2, l2, X2⟩
  replace X2 := Lib.hid X2
  clear b2_
  go_wp2_with (fail)
  go_returns
  exact ⟨rfl, X2.out.dn⟩
set_option maxHeartbeats 4000000 in
set_option maxRecDepth 100000 in
theorem does_10 {w W : World} {v p b kk : Nat} {a c : Ls} {L : Lay} {B : List UInt8} {s : Bool} (H : Al W p b L B s a c) (S : So w v p b kk a c W) (of kd N : Int) (ch : UInt8) (nm : ByteArray)
    (hof : -9223372036854775808 ≤ of ∧ of ≤ 9223372036854775807) (hkd : -9223372036854775808 ≤ kd ∧ kd ≤ 9223372036854775807) (hN : -9223372036854775808 ≤ N ∧ N ≤ 9223372036854775807) (hnm : nm.size ≤ maxLen) (hk : pickN of 2 = kk) (hkk : pickN kd 16 = 10) :
    Calls Try.prog 22 #[.pointer (some ⟨v, 0, none⟩), .agg #[.int .i64 of, .int .i64 kd, .int .i64 N, .int .u8 (ch.toNat : Int), .string nm]] W fun e W' => e = .returned (.bool true) ∧ Dn w v p b kk L a c W' := by
  have hp1 := fun w => pick_any of 2 w hof.1 hof.2 (by decide) (by decide)
  have hp2 := fun w => pick_any kd 16 w hkd.1 hkd.2 (by decide) (by decide)
  have e2 : (2 : Int).toNat = 2 := rfl
  have e16 : (16 : Int).toNat = 16 := rfl
  simp only [e2, e16, hk, hkk] at hp1 hp2
  clear e2 e16
  replace hp1 := Lib.hid hp1
  replace hp2 := Lib.hid hp2
  have hk2 := S.two
  have X := Ss.enter H S #[.int .i64 of, .int .i64 kd, .int .i64 N, .int .u8 (ch.toNat : Int), .string nm]
  have hgl : W.heap.size < (W.alloc (.cells #[.int .i64 of, .int .i64 kd, .int .i64 N, .int .u8 (ch.toNat : Int), .string nm] 58)).heap.size := X.bx.lt
  obtain ⟨V, hV⟩ : ∃ V, W.alloc (.cells #[.int .i64 of, .int .i64 kd, .int .i64 N, .int .u8 (ch.toNat : Int), .string nm] 58) = V := ⟨_, rfl⟩
  obtain ⟨g, hg⟩ : ∃ g, W.heap.size = g := ⟨_, rfl⟩
  rw [hV, hg] at X
  have c0 := X.so.c0
  have c1 := X.so.c1
  have c3 := X.so.c3
  have o0 := X.bx.cell 0
  have o1 := X.bx.cell 1
  have o2 := X.bx.cell 2
  have o3 := X.bx.cell 3
  have o4 := X.bx.cell 4
  simp at o0 o1 o2 o3 o4
  have k0 : (0 : Int) ≤ kk := by omega
  have k1 : (kk : Int) < 2 := by omega
  clear H S hgl hof hkd
  replace X := Lib.hid X
  replace hk2 := Lib.hid hk2
  replace hk := Lib.hid hk
  replace hkk := Lib.hid hkk
  go_enter Try.func22, Try.ntmps22
  go_wp2_with (fail)
  clear hV hg
  refine (hp1.out _).mono ?_
  rintro e w1 ⟨rfl, hw1⟩
  have hw1 := hw1.symm
  subst hw1
  go_wp2_with (fail)
  refine (hp2.out _).mono ?_
  rintro e w1 ⟨rfl, hw1⟩
  have hw1 := hw1.symm
  subst hw1
  have P := pr_inl X.out.al
  have P1 := (X.out.pair P).1
  replace P1 := Lib.hid P1
  clear P hk hkk hp1 hp2 hk2 X
  go_wp2_with (fail)
  refine P1.out.mono ?_
  rintro e w1_ ⟨rfl, b1_, P2⟩
  have o4 := b1_.cell 4
  simp at o4
  replace P2 := Lib.hid P2
  clear b1_
  go_wp2_with (fail)
  refine P2.out.mono ?_
  rintro e w2_ ⟨rfl, b2_, B2, h2, l2, X2⟩
  replace X2 := Lib.hid X2
  clear b2_
  go_wp2_with (fail)
  go_returns
  exact ⟨rfl, X2.out.dn⟩
end Go.Proofs.Ytoaiiimnfgbcaaa

namespace Go.Proofs.Ytoaiiimnfgbcaaa
open Go.RowKit
attribute [local go_sem] Oper.semAt_some
set_option linter.unusedVariables false
set_option linter.unusedSimpArgs false
/-! chapter 8: law's does: Mark, Back, what is written, Seal -/
section
variable {w W W1 W2 : World} {v p b kk g : Nat} {a c : Ls} {L : Lay} {B : List UInt8} {s : Bool} {O vs : Array Value}
theorem Al.onbv (H : Al W p b L B s a c) (hv : Bk W v 64 vs) (O : Onb v v W W1) : Al W1 p b L B s a c := by
  have n1 := (hv.ne H.da.im.st (by decide)).symm
  have n2 := (hv.ne H.da.im.by_ (by decide)).symm
  have n3 := (hv.ne H.da.bk (by decide)).symm
  have n4 := (hv.ne H.dc.bk (by decide)).symm
  have n5 := (hv.ne H.ra.bk (by decide)).symm
  have n6 := (hv.ne H.ra.by_ (by decide)).symm
  have n7 := (hv.ne H.rc.bk (by decide)).symm
  have n8 := (hv.ne H.rc.by_ (by decide)).symm
  exact ⟨H.da.onb O n1 n1 n2 n2 n3 n3, H.dc.onb O n1 n1 n2 n2 n4 n4, H.ra.onb O n5 n5 n6 n6, H.rc.onb O n7 n7 n8 n8, H.nd, H.nq, H.nm, H.nb, H.ap⟩
theorem Ss.putv (X : Ss w v p b kk g L B s a c O W) (i : Nat) (x : Value) (hS : So w v p b kk a c (W.setCell ⟨v, i, none⟩ x)) : Ss w v p b kk g L B s a c O (W.setCell ⟨v, i, none⟩ x) := by
  obtain ⟨vs, hv⟩ := X.so.wl
  exact ⟨X.al.onbv hv (Onb.ofb ((Only.refl v W).put i x)), hS, X.bx.other (p := ⟨v, i, none⟩) (hv.ne X.bx (by decide)).symm _⟩
theorem Ss.put5 (X : Ss w v p b kk g L B s a c O W) (x : Int) : Ss w v p b kk g L B s a c O (W.setCell ⟨v, 5 + kk, none⟩ (.int .i64 x)) := X.putv _ _ (X.so.put5 x)
theorem Ss.put7 (X : Ss w v p b kk g L B s a c O W) (x : Int) : Ss w v p b kk g L B s a c O (W.setCell ⟨v, 7 + kk, none⟩ (.int .i64 x)) := X.putv _ _ (X.so.put7 x)
theorem Ss.dn0 (X : Ss w v p b kk g L B s a c O W) : Dn w v p b kk L a c W := ⟨s, B, a.h, a.l, X.al, X.so⟩
/-- what Back answers -/
noncomputable def backK (a : Ls) (x z : Int) : Int := by
  classical
  exact if backOk (a.g + 8) (a.g + a.n) x z then 0 else 1
theorem pr_backK (H : Al W p b L B s a c) (x z : Int) : Prd W p b L s a c 17 #[.pointer (some ⟨a.d, 0, none⟩), .int .i64 x, .int .i64 z] (.int .i64 (backK a x z)) 53 #[.pointer (some ⟨a.q, 0, none⟩), .int .i64 x, .int .i64 z] (.int .i64 (backK a x z)) := by
  unfold backK
  by_cases hb : backOk (a.g + 8) (a.g + a.n) x z
  · rw [if_pos hb]
    exact H.yes (fun W1 D => back_yes D x z hb) (fun W1 R => rback_yes R x z hb) (Outw.refl _ _ _)
  · rw [if_neg hb]
    exact H.no (fun W1 D => drw (back_bad D x z hb)) (fun W1 R => rback_bad R x z hb)
end
set_option maxHeartbeats 4000000 in
set_option maxRecDepth 100000 in
theorem does_12 {w W : World} {v p b kk : Nat} {a c : Ls} {L : Lay} {B : List UInt8} {s : Bool} (H : Al W p b L B s a c) (S : So w v p b kk a c W) (of kd N : Int) (ch : UInt8) (nm : ByteArray)
    (hof : -9223372036854775808 ≤ of ∧ of ≤ 9223372036854775807) (hkd : -9223372036854775808 ≤ kd ∧ kd ≤ 9223372036854775807) (hN : -9223372036854775808 ≤ N ∧ N ≤ 9223372036854775807) (hnm : nm.size ≤ maxLen) (hk : pickN of 2 = kk) (hkk : pickN kd 16 = 12) :
    Calls Try.prog 22 #[.pointer (some ⟨v, 0, none⟩), .agg #[.int .i64 of, .int .i64 kd, .int .i64 N, .int .u8 (ch.toNat : Int), .string nm]] W fun e W' => e = .returned (.bool true) ∧ Dn w v p b kk L a c W' := by
  have hp1 := fun w => pick_any of 2 w hof.1 hof.2 (by decide) (by decide)
  have hp2 := fun w => pick_any kd 16 w hkd.1 hkd.2 (by decide) (by decide)
  have e2 : (2 : Int).toNat = 2 := rfl
  have e16 : (16 : Int).toNat = 16 := rfl
  simp only [e2, e16, hk, hkk] at hp1 hp2
  clear e2 e16
  replace hp1 := Lib.hid hp1
  replace hp2 := Lib.hid hp2
  have hk2 := S.two
  have X := Ss.enter H S #[.int .i64 of, .int .i64 kd, .int .i64 N, .int .u8 (ch.toNat : Int), .string nm]
  have hgl : W.heap.size < (W.alloc (.cells #[.int .i64 of, .int .i64 kd, .int .i64 N, .int .u8 (ch.toNat : Int), .string nm] 58)).heap.size := X.bx.lt
  obtain ⟨V, hV⟩ : ∃ V, W.alloc (.cells #[.int .i64 of, .int .i64 kd, .int .i64 N, .int .u8 (ch.toNat : Int), .string nm] 58) = V := ⟨_, rfl⟩
  obtain ⟨g, hg⟩ : ∃ g, W.heap.size = g := ⟨_, rfl⟩
  rw [hV, hg] at X
  have c0 := X.so.c0
  have c1 := X.so.c1
  have c3 := X.so.c3
  have o0 := X.bx.cell 0
  have o1 := X.bx.cell 1
  have o2 := X.bx.cell 2
  have o3 := X.bx.cell 3
  have o4 := X.bx.cell 4
  simp at o0 o1 o2 o3 o4
  have k0 : (0 : Int) ≤ kk := by omega
  have k1 : (kk : Int) < 2 := by omega
  clear H S hgl hof hkd
  replace X := Lib.hid X
  replace hk2 := Lib.hid hk2
  replace hk := Lib.hid hk
  replace hkk := Lib.hid hkk
  go_enter Try.func22, Try.ntmps22
  go_wp2_with (fail)
  clear hV hg
  refine (hp1.out _).mono ?_
  rintro e w1 ⟨rfl, hw1⟩
  have hw1 := hw1.symm
  subst hw1
  go_wp2_with (fail)
  refine (hp2.out _).mono ?_
  rintro e w1 ⟨rfl, hw1⟩
  have hw1 := hw1.symm
  subst hw1
  have hM := mark_any X.out.al.da
  replace hM := Lib.hid hM
  go_wp2_with (fail)
  refine hM.out.mono ?_
  rintro e w1_ ⟨rfl, n1, rfl⟩
  have X1 := X.out.draws n1
  obtain ⟨V1, hV1⟩ : ∃ V1, V.drewN n1 = V1 := ⟨_, rfl⟩
  rw [hV1] at X1 ⊢
  clear hV1 hM X c0 c1 c3 o0 o1 o2 o3 o4
  have f5 := X1.so.free (5 + kk)
  have f7 := X1.so.free (7 + kk)
  obtain ⟨u5, h5⟩ := X1.so.c5
  obtain ⟨u7, h7⟩ := X1.so.c7
  have X2 := (X1.put5 (a.h : Int)).put7 (a.l : Int)
  have q3 := X2.al.ra.c3
  have q4 := X2.al.ra.c4
  obtain ⟨V2, hV2⟩ : ∃ V2, (V1.setCell ⟨v, 5 + kk, none⟩ (.int .i64 (a.h : Int))).setCell ⟨v, 7 + kk, none⟩ (.int .i64 (a.l : Int)) = V2 := ⟨_, rfl⟩
  rw [hV2] at X2 q3 q4
  replace X2 := Lib.hid X2
  clear X1
  clear hp1 hp2 hk2 hk hkk
  go_upto_region 45 with (fail)
  clear h5 h7 f5 f7 hV2
  go_wp2_with (fail)
  go_returns
  exact ⟨rfl, X2.out.dn0⟩
set_option maxHeartbeats 4000000 in
set_option maxRecDepth 100000 in
theorem does_13 {w W : World} {v p b kk : Nat} {a c : Ls} {L : Lay} {B : List UInt8} {s : Bool} (H : Al W p b L B s a c) (S : So w v p b kk a c W) (of kd N : Int) (ch : UInt8) (nm : ByteArray)
    (hof : -9223372036854775808 ≤ of ∧ of ≤ 9223372036854775807) (hkd : -9223372036854775808 ≤ kd ∧ kd ≤ 9223372036854775807) (hN : -9223372036854775808 ≤ N ∧ N ≤ 9223372036854775807) (hnm : nm.size ≤ maxLen) (hk : pickN of 2 = kk) (hkk : pickN kd 16 = 13) :
    Calls Try.prog 22 #[.pointer (some ⟨v, 0, none⟩), .agg #[.int .i64 of, .int .i64 kd, .int .i64 N, .int .u8 (ch.toNat : Int), .string nm]] W fun e W' => e = .returned (.bool true) ∧ Dn w v p b kk L a c W' := by
  have hp1 := fun w => pick_any of 2 w hof.1 hof.2 (by decide) (by decide)
  have hp2 := fun w => pick_any kd 16 w hkd.1 hkd.2 (by decide) (by decide)
  have e2 : (2 : Int).toNat = 2 := rfl
  have e16 : (16 : Int).toNat = 16 := rfl
  simp only [e2, e16, hk, hkk] at hp1 hp2
  clear e2 e16
  replace hp1 := Lib.hid hp1
  replace hp2 := Lib.hid hp2
  have hk2 := S.two
  have X := Ss.enter H S #[.int .i64 of, .int .i64 kd, .int .i64 N, .int .u8 (ch.toNat : Int), .string nm]
  have hgl : W.heap.size < (W.alloc (.cells #[.int .i64 of, .int .i64 kd, .int .i64 N, .int .u8 (ch.toNat : Int), .string nm] 58)).heap.size := X.bx.lt
  obtain ⟨V, hV⟩ : ∃ V, W.alloc (.cells #[.int .i64 of, .int .i64 kd, .int .i64 N, .int .u8 (ch.toNat : Int), .string nm] 58) = V := ⟨_, rfl⟩
  obtain ⟨g, hg⟩ : ∃ g, W.heap.size = g := ⟨_, rfl⟩
  rw [hV, hg] at X
  have c0 := X.so.c0
  have c1 := X.so.c1
  have c3 := X.so.c3
  have o0 := X.bx.cell 0
  have o1 := X.bx.cell 1
  have o2 := X.bx.cell 2
  have o3 := X.bx.cell 3
  have o4 := X.bx.cell 4
  simp at o0 o1 o2 o3 o4
  have k0 : (0 : Int) ≤ kk := by omega
  have k1 : (kk : Int) < 2 := by omega
  clear H S hgl hof hkd
  replace X := Lib.hid X
  replace hk2 := Lib.hid hk2
  replace hk := Lib.hid hk
  replace hkk := Lib.hid hkk
  go_enter Try.func22, Try.ntmps22
  go_wp2_with (fail)
  clear hV hg
  refine (hp1.out _).mono ?_
  rintro e w1 ⟨rfl, hw1⟩
  have hw1 := hw1.symm
  subst hw1
  go_wp2_with (fail)
  refine (hp2.out _).mono ?_
  rintro e w1 ⟨rfl, hw1⟩
  have hw1 := hw1.symm
  subst hw1
  obtain ⟨x, c5⟩ := X.out.so.c5
  obtain ⟨z, c7⟩ := X.out.so.c7
  have q1 := X.out.al.ra.c1
  clear hk hkk hk2
  by_cases h5 : N.tmod 5 = 0
  · have t5 : (N.tmod 5 == 0) = true := by simpa using h5
    clear h5
    go_upto_region 50 with (fail)
    go_quiet (fail)
    have Y := X.out.draws nq
    obtain ⟨V1, hV1⟩ : ∃ V1, V.drewN nq = V1 := ⟨_, rfl⟩
    rw [hV1] at Y ⊢
    clear hV1 X c0 c1 c3 o0 o1 o2 o3 o4 c5 c7 q1 hp1 hp2
    have o2 := Y.bx.cell 2
    simp at o2
    have q1 := Y.al.ra.c1
    have X := Lib.hid Y
    clear Y
    go_upto_region 51 with (fail)
    go_quiet (fail)
    have Y := X.out.draws nq
    obtain ⟨V2, hV2⟩ : ∃ V2, V1.drewN nq = V2 := ⟨_, rfl⟩
    rw [hV2] at Y ⊢
    clear hV2 X o2 q1
    replace Y := Lib.hid Y
    have P1 := fun x z => (Y.out.pair (pr_backK Y.out.al x z)).1
    replace P1 := Lib.hid P1
    go_wp2_with (fail)
    refine (P1.out _ _).mono ?_
    rintro e w1_ ⟨rfl, b1_, P2⟩
    replace P2 := Lib.hid P2
    clear b1_
    go_wp2_with (fail)
    refine P2.out.mono ?_
    rintro e w2_ ⟨rfl, b2_, B2, h2, l2, X2⟩
    replace X2 := Lib.hid X2
    clear b2_
    go_wp2_with (fail)
    go_returns
    exact ⟨rfl, X2.out.dn⟩
  · have t5 : (N.tmod 5 == 0) = false := by simpa using h5
    have Y := X
    clear X h5
    have P1 := fun x z => (Y.out.pair (pr_backK Y.out.al x z)).1
    replace P1 := Lib.hid P1
    go_wp2_with (fail)
    refine (P1.out _ _).mono ?_
    rintro e w1_ ⟨rfl, b1_, P2⟩
    replace P2 := Lib.hid P2
    clear b1_
    go_wp2_with (fail)
    refine P2.out.mono ?_
    rintro e w2_ ⟨rfl, b2_, B2, h2, l2, X2⟩
    replace X2 := Lib.hid X2
    clear b2_
    go_wp2_with (fail)
    go_returns
    exact ⟨rfl, X2.out.dn⟩
end Go.Proofs.Ytoaiiimnfgbcaaa

namespace Go.Proofs.Ytoaiiimnfgbcaaa
open Go.RowKit
attribute [local go_sem] Oper.semAt_some
set_option linter.unusedVariables false
set_option linter.unusedSimpArgs false
/-! chapter 8: law's does: somebody writes -/
section
variable {w W W1 W2 : World} {v p b kk g : Nat} {a c : Ls} {L : Lay} {B : List UInt8} {s : Bool} {O vs : Array Value}
theorem Ss.write (X : Ss w v p b kk g L B s a c O W) (i : Nat) (x : UInt8) (hi : i < a.n) (hc : shut a.r s = false) (n : Nat) : Calls Try.prog 54 #[.pointer (some ⟨p, 0, none⟩), .int .i64 0, .int .i64 ((a.g + i : Nat) : Int), .int .u8 (x.toNat : Int)] ((W.setCell ⟨a.m, i, none⟩ (.int .u8 (x.toNat : Int))).drewN n) fun e W2 => e = .returned (.int .i64 0) ∧ Ss w v p b kk g L (B.set (a.g + i) x) s a c O W2 := by
  have Y := X.draws n
  have H := Y.al
  have O0 : Onb a.m a.q (W.drewN n) ((W.drewN n).setCell ⟨a.m, i, none⟩ (.int .u8 (x.toNat : Int))) := Onb.ofb ((Only.refl a.m _).put i _)
  have S1 := Y.so.docu H.ra O0
  have b1 := O0.bk Y.bx (Y.bx.ne H.ra.by_ (by decide)) (Y.bx.ne H.ra.bk (by decide))
  refine (pr_write H i x hi hc).mono ?_
  rintro e W2 ⟨rfl, H2, hO⟩
  have O2 : Onb b a.d _ W2 := Onb.ofb hO
  exact ⟨rfl, H2, S1.prog (H.midd O0).1 O2, O2.bk b1 (Y.bx.ne H.da.im.by_ (by decide)) (Y.bx.ne H.da.bk (by decide))⟩
end
set_option maxHeartbeats 4000000 in
set_option maxRecDepth 100000 in
theorem does_14 {w W : World} {v p b kk : Nat} {a c : Ls} {L : Lay} {B : List UInt8} {s : Bool} (H : Al W p b L B s a c) (S : So w v p b kk a c W) (of kd N : Int) (ch : UInt8) (nm : ByteArray)
    (hof : -9223372036854775808 ≤ of ∧ of ≤ 9223372036854775807) (hkd : -9223372036854775808 ≤ kd ∧ kd ≤ 9223372036854775807) (hN : -9223372036854775808 ≤ N ∧ N ≤ 9223372036854775807) (hnm : nm.size ≤ maxLen) (hk : pickN of 2 = kk) (hkk : pickN kd 16 = 14) :
    Calls Try.prog 22 #[.pointer (some ⟨v, 0, none⟩), .agg #[.int .i64 of, .int .i64 kd, .int .i64 N, .int .u8 (ch.toNat : Int), .string nm]] W fun e W' => e = .returned (.bool true) ∧ Dn w v p b kk L a c W' := by
  have hp1 := fun w => pick_any of 2 w hof.1 hof.2 (by decide) (by decide)
  have hp2 := fun w => pick_any kd 16 w hkd.1 hkd.2 (by decide) (by decide)
  have e2 : (2 : Int).toNat = 2 := rfl
  have e16 : (16 : Int).toNat = 16 := rfl
  simp only [e2, e16, hk, hkk] at hp1 hp2
  clear e2 e16
  replace hp1 := Lib.hid hp1
  replace hp2 := Lib.hid hp2
  have hk2 := S.two
  have X := Ss.enter H S #[.int .i64 of, .int .i64 kd, .int .i64 N, .int .u8 (ch.toNat : Int), .string nm]
  have hgl : W.heap.size < (W.alloc (.cells #[.int .i64 of, .int .i64 kd, .int .i64 N, .int .u8 (ch.toNat : Int), .string nm] 58)).heap.size := X.bx.lt
  obtain ⟨V, hV⟩ : ∃ V, W.alloc (.cells #[.int .i64 of, .int .i64 kd, .int .i64 N, .int .u8 (ch.toNat : Int), .string nm] 58) = V := ⟨_, rfl⟩
  obtain ⟨g, hg⟩ : ∃ g, W.heap.size = g := ⟨_, rfl⟩
  rw [hV, hg] at X
  have c0 := X.so.c0
  have c1 := X.so.c1
  have c3 := X.so.c3
  have o0 := X.bx.cell 0
  have o1 := X.bx.cell 1
  have o2 := X.bx.cell 2
  have o3 := X.bx.cell 3
  have o4 := X.bx.cell 4
  simp at o0 o1 o2 o3 o4
  have k0 : (0 : Int) ≤ kk := by omega
  have k1 : (kk : Int) < 2 := by omega
  clear H S hgl hof hkd
  replace X := Lib.hid X
  replace hk2 := Lib.hid hk2
  replace hk := Lib.hid hk
  replace hkk := Lib.hid hkk
  go_enter Try.func22, Try.ntmps22
  go_wp2_with (fail)
  clear hV hg
  refine (hp1.out _).mono ?_
  rintro e w1 ⟨rfl, hw1⟩
  have hw1 := hw1.symm
  subst hw1
  go_wp2_with (fail)
  refine (hp2.out _).mono ?_
  rintro e w1 ⟨rfl, hw1⟩
  have hw1 := hw1.symm
  subst hw1
  have hpN0 := fun w => pick_any N (a.n : Int) w hN.1 hN.2 (by have := X.out.al.ra.n24; omega) (by have := X.out.al.ra.far; omega)
  have hiN := pickN_lt N a.n (by have := X.out.al.ra.n24; omega)
  rw [Int.toNat_natCast] at hpN0
  obtain ⟨i, hi0⟩ : ∃ i, pickN N a.n = i := ⟨_, rfl⟩
  rw [hi0] at hpN0 hiN
  have hpN := Lib.hid hpN0
  have q0 := X.out.al.ra.c0
  have hfar := X.out.al.ra.far
  clear hpN0 hi0 hk hkk hk2
  go_wp2_with (fail)
  go_quiet ((go_at_call 18; with_reducible exact Calls.quiet_of_same (hpN.out _)))
  have Y := X.out.draws nq
  obtain ⟨V1, hV1⟩ : ∃ V1, V.drewN nq = V1 := ⟨_, rfl⟩
  rw [hV1] at Y ⊢
  clear hV1 X c0 c1 c3 o0 o1 o2 o3 o4 q0 hp1 hp2 hpN
  have q2 := Y.al.ra.c2
  have c0 := Y.so.c0
  have q0 := Y.al.ra.c0
  have q1 := Y.al.ra.c1
  have q4 := Y.al.ra.c4
  have o2 := Y.bx.cell 2
  have o3 := Y.bx.cell 3
  simp at o2 o3
  cases hc : shut a.r s
  · rw [hc] at q2
    by_cases h3 : N.tmod 3 = 0
    · have t3 : (N.tmod 3 == 0) = true := by simpa using h3
      clear h3
      by_cases hl : a.l = 0
      · have t4 : ((a.l : Int) != 0) = false := by simp [hl]
        clear hl
        have m0 := Y.al.ra.byte i hiN
        have m1 := Y.al.ra.by_.free i
        have O0 : Onb a.m a.q V1 (V1.setCell ⟨a.m, i, none⟩ (.int .u8 (ch.toNat : Int))) := Onb.ofb ((Only.refl a.m _).put i _)
        have S2 := Y.so.docu Y.al.ra O0
        have b2 := O0.bk Y.bx (Y.bx.ne Y.al.ra.by_ (by decide)) (Y.bx.ne Y.al.ra.bk (by decide))
        have k2 := Y.al.ra.bk.other (p := ⟨a.m, i, none⟩) (Y.al.ra.bk.ne Y.al.ra.by_ (by decide)) (.int .u8 (ch.toNat : Int))
        have hW := Y.write i ch hiN hc 2
        simp only [Int.natCast_add] at hW
        have hZ : Hid ((V1.setCell ⟨a.m, i, none⟩ (.int .u8 (ch.toNat : Int))).drew.cell? ⟨a.q, 0, none⟩ = some (.slice (some ⟨a.m, 0, none⟩) a.n a.n) ∧ (V1.setCell ⟨a.m, i, none⟩ (.int .u8 (ch.toNat : Int))).drew.cell? ⟨g, 3, none⟩ = some (.int .u8 (ch.toNat : Int))) := Lib.hid ⟨k2.cell 0, b2.cell 3⟩
        have n1 : (i : Int) < a.n := by omega
        have n2 : (0 : Int) ≤ i := by omega
        have n3 : ¬ (i : Int) ≥ a.n := by omega
        have e1 : IntKind.i64.wrap ((a.g : Int) + i) = (a.g : Int) + i := by rw [IntKind.wrap_i64]; omega
        replace hW := Lib.hid hW
        replace S2 := Lib.hid S2
        replace b2 := Lib.hid b2
        replace k2 := Lib.hid k2
        clear Y
        replace hc := Lib.hid hc
        clear O0 hiN hfar
        go_upto_region 61 with (fail)
        go_region_held3 (fun w' => w'.cell? ⟨a.q, 0, none⟩ = some (.slice (some ⟨a.m, 0, none⟩) a.n a.n) ∧ w'.cell? ⟨g, 3, none⟩ = some (.int .u8 (ch.toNat : Int))) (first | exact hZ.out | (simp [go_sem, *]; done) | go_keep) (fail)
        obtain ⟨V2, hV2⟩ : ∃ V2, (V1.setCell ⟨a.m, i, none⟩ (.int .u8 (ch.toNat : Int))).drew = V2 := ⟨_, rfl⟩
        have hW2 : Calls Try.prog 54 _ (V1.setCell ⟨a.m, i, none⟩ (.int .u8 (ch.toNat : Int))).drew.drew _ := hW.out
        have S3 : So w v p b kk a c (V1.setCell ⟨a.m, i, none⟩ (.int .u8 (ch.toNat : Int))).drew := S2.out.bel' (below_drawn (Below.refl _ _) 1)
        have b3 := b2.out.draw
        have k3 := k2.out.draw
        rw [hV2] at hW2 S3 b3 k3 ⊢
        replace hW2 := Lib.hid hW2
        clear hW hZ hV2 k2 b2 S2 m0 m1 c0 q0 q1 q4 o2 o3
        have c0 := S3.c0
        have q1 : V2.cell? ⟨a.q, 1, none⟩ = some (.int .i64 a.g) := k3.cell 1
        have o3 := b3.cell 3
        simp at o3
        clear S3 b3 k3 q2 t3 t4
        go_upto_region 62 with (fail)
        go_region_held3 (fun w' => w'.cell? ⟨v, 0, none⟩ = some (.pointer (some ⟨p, 0, none⟩)) ∧ w'.cell? ⟨a.q, 1, none⟩ = some (.int .i64 (a.g : Int)) ∧ w'.cell? ⟨g, 3, none⟩ = some (.int .u8 (ch.toNat : Int))) (first | (simp [go_sem, *]; done) | go_keep)
          ((go_at_call 54; (with_reducible refine Calls.mono hW2.out ?_); rintro e w4_ ⟨rfl, X2⟩; have kS : w4_.cell? ⟨v, 0, none⟩ = some (.pointer (some ⟨p, 0, none⟩)) ∧ w4_.cell? ⟨a.q, 1, none⟩ = some (.int .i64 (a.g : Int)) ∧ w4_.cell? ⟨g, 3, none⟩ = some (.int .u8 (ch.toNat : Int)) := ⟨X2.so.c0, X2.al.ra.c1, X2.bx.cell 3⟩; replace X2 := Lib.hid X2))
        go_wp2_with (fail)
        go_returns
        exact ⟨rfl, X2.out.dn0⟩
      · have t4 : ((a.l : Int) != 0) = true := by simpa using hl
        have hpM0 := fun w => pick_any N 12 w hN.1 hN.2 (by decide) (by decide)
        have hj := pickN_lt N 12 (by decide)
        rw [show (12 : Int).toNat = 12 from rfl] at hpM0
        obtain ⟨j, hj0⟩ : ∃ j, pickN N 12 = j := ⟨_, rfl⟩
        rw [hj0] at hpM0 hj
        have hla := Y.al.ra.la
        obtain ⟨d, hd⟩ : ∃ d, a.l - a.g = d := ⟨_, rfl⟩
        obtain ⟨i2, hi2⟩ : ∃ i2, d + j = i2 := ⟨_, rfl⟩
        have e5 : IntKind.i64.wrap ((a.l : Int) - a.g) = (d : Int) := by rw [IntKind.wrap_i64]; omega
        have e6 : IntKind.i64.wrap ((d : Int) + j) = (i2 : Int) := by rw [IntKind.wrap_i64]; omega
        have hpM := Lib.hid hpM0
        replace Y := Lib.hid Y
        clear hpM0 hj0 hla hl hd hiN
        go_upto_region 58 with (fail)
        go_quiet ((go_at_call 18; with_reducible exact Calls.quiet_of_same (hpM.out _)))
        have Z := Y.out.draws nq
        clear Y c0 q0 q1 q4 o2 o3 q2
        have Y := Z
        clear Z
        obtain ⟨V3, hV3⟩ : ∃ V3, V1.drewN nq = V3 := ⟨_, rfl⟩
        rw [hV3] at Y ⊢
        clear hV3 hpM e5 e6 hi2 hj
        obtain ⟨V1, hV1⟩ : ∃ V1, V3 = V1 := ⟨_, rfl⟩
        rw [hV1] at Y ⊢
        clear hV1
        have q2 := Y.al.ra.c2
        rw [hc] at q2
        have c0 := Y.so.c0
        have q0 := Y.al.ra.c0
        have q1 := Y.al.ra.c1
        have q4 := Y.al.ra.c4
        have o2 := Y.bx.cell 2
        have o3 := Y.bx.cell 3
        simp at o2 o3
        obtain ⟨i, hi⟩ : ∃ i, i2 = i := ⟨_, rfl⟩
        rw [hi]
        clear hi
        by_cases hiN : i < a.n
        · clear t4
          have t4 := True.intro
          have m0 := Y.al.ra.byte i hiN
          have m1 := Y.al.ra.by_.free i
          have O0 : Onb a.m a.q V1 (V1.setCell ⟨a.m, i, none⟩ (.int .u8 (ch.toNat : Int))) := Onb.ofb ((Only.refl a.m _).put i _)
          have S2 := Y.so.docu Y.al.ra O0
          have b2 := O0.bk Y.bx (Y.bx.ne Y.al.ra.by_ (by decide)) (Y.bx.ne Y.al.ra.bk (by decide))
          have k2 := Y.al.ra.bk.other (p := ⟨a.m, i, none⟩) (Y.al.ra.bk.ne Y.al.ra.by_ (by decide)) (.int .u8 (ch.toNat : Int))
          have hW := Y.write i ch hiN hc 2
          simp only [Int.natCast_add] at hW
          have hZ : Hid ((V1.setCell ⟨a.m, i, none⟩ (.int .u8 (ch.toNat : Int))).drew.cell? ⟨a.q, 0, none⟩ = some (.slice (some ⟨a.m, 0, none⟩) a.n a.n) ∧ (V1.setCell ⟨a.m, i, none⟩ (.int .u8 (ch.toNat : Int))).drew.cell? ⟨g, 3, none⟩ = some (.int .u8 (ch.toNat : Int))) := Lib.hid ⟨k2.cell 0, b2.cell 3⟩
          have n1 : (i : Int) < a.n := by omega
          have n2 : (0 : Int) ≤ i := by omega
          have n3 : ¬ (i : Int) ≥ a.n := by omega
          have e1 : IntKind.i64.wrap ((a.g : Int) + i) = (a.g : Int) + i := by rw [IntKind.wrap_i64]; omega
          replace hW := Lib.hid hW
          replace S2 := Lib.hid S2
          replace b2 := Lib.hid b2
          replace k2 := Lib.hid k2
          clear Y
          replace hc := Lib.hid hc
          clear O0 hiN hfar
          go_upto_region 61 with (fail)
          go_region_held3 (fun w' => w'.cell? ⟨a.q, 0, none⟩ = some (.slice (some ⟨a.m, 0, none⟩) a.n a.n) ∧ w'.cell? ⟨g, 3, none⟩ = some (.int .u8 (ch.toNat : Int))) (first | exact hZ.out | (simp [go_sem, *]; done) | go_keep) (fail)
          obtain ⟨V2, hV2⟩ : ∃ V2, (V1.setCell ⟨a.m, i, none⟩ (.int .u8 (ch.toNat : Int))).drew = V2 := ⟨_, rfl⟩
          have hW2 : Calls Try.prog 54 _ (V1.setCell ⟨a.m, i, none⟩ (.int .u8 (ch.toNat : Int))).drew.drew _ := hW.out
          have S3 : So w v p b kk a c (V1.setCell ⟨a.m, i, none⟩ (.int .u8 (ch.toNat : Int))).drew := S2.out.bel' (below_drawn (Below.refl _ _) 1)
          have b3 := b2.out.draw
          have k3 := k2.out.draw
          rw [hV2] at hW2 S3 b3 k3 ⊢
          replace hW2 := Lib.hid hW2
          clear hW hZ hV2 k2 b2 S2 m0 m1 c0 q0 q1 q4 o2 o3
          have c0 := S3.c0
          have q1 : V2.cell? ⟨a.q, 1, none⟩ = some (.int .i64 a.g) := k3.cell 1
          have o3 := b3.cell 3
          simp at o3
          clear S3 b3 k3 q2 t3 t4
          go_upto_region 62 with (fail)
          go_region_held3 (fun w' => w'.cell? ⟨v, 0, none⟩ = some (.pointer (some ⟨p, 0, none⟩)) ∧ w'.cell? ⟨a.q, 1, none⟩ = some (.int .i64 (a.g : Int)) ∧ w'.cell? ⟨g, 3, none⟩ = some (.int .u8 (ch.toNat : Int))) (first | (simp [go_sem, *]; done) | go_keep)
            ((go_at_call 54; (with_reducible refine Calls.mono hW2.out ?_); rintro e w4_ ⟨rfl, X2⟩; have kS : w4_.cell? ⟨v, 0, none⟩ = some (.pointer (some ⟨p, 0, none⟩)) ∧ w4_.cell? ⟨a.q, 1, none⟩ = some (.int .i64 (a.g : Int)) ∧ w4_.cell? ⟨g, 3, none⟩ = some (.int .u8 (ch.toNat : Int)) := ⟨X2.so.c0, X2.al.ra.c1, X2.bx.cell 3⟩; replace X2 := Lib.hid X2))
          go_wp2_with (fail)
          go_returns
          exact ⟨rfl, X2.out.dn0⟩
        · have n3 : (i : Int) ≥ a.n := by omega
          replace Y := Lib.hid Y
          go_wp2_with (fail)
          go_returns
          exact ⟨rfl, Y.out.dn0⟩
    · have t3 : (N.tmod 3 == 0) = false := by simpa using h3
      clear h3
      have t4 := True.intro
      have m0 := Y.al.ra.byte i hiN
      have m1 := Y.al.ra.by_.free i
      have O0 : Onb a.m a.q V1 (V1.setCell ⟨a.m, i, none⟩ (.int .u8 (ch.toNat : Int))) := Onb.ofb ((Only.refl a.m _).put i _)
      have S2 := Y.so.docu Y.al.ra O0
      have b2 := O0.bk Y.bx (Y.bx.ne Y.al.ra.by_ (by decide)) (Y.bx.ne Y.al.ra.bk (by decide))
      have k2 := Y.al.ra.bk.other (p := ⟨a.m, i, none⟩) (Y.al.ra.bk.ne Y.al.ra.by_ (by decide)) (.int .u8 (ch.toNat : Int))
      have hW := Y.write i ch hiN hc 2
      simp only [Int.natCast_add] at hW
      have hZ : Hid ((V1.setCell ⟨a.m, i, none⟩ (.int .u8 (ch.toNat : Int))).drew.cell? ⟨a.q, 0, none⟩ = some (.slice (some ⟨a.m, 0, none⟩) a.n a.n) ∧ (V1.setCell ⟨a.m, i, none⟩ (.int .u8 (ch.toNat : Int))).drew.cell? ⟨g, 3, none⟩ = some (.int .u8 (ch.toNat : Int))) := Lib.hid ⟨k2.cell 0, b2.cell 3⟩
      have n1 : (i : Int) < a.n := by omega
      have n2 : (0 : Int) ≤ i := by omega
      have n3 : ¬ (i : Int) ≥ a.n := by omega
      have e1 : IntKind.i64.wrap ((a.g : Int) + i) = (a.g : Int) + i := by rw [IntKind.wrap_i64]; omega
      replace hW := Lib.hid hW
      replace S2 := Lib.hid S2
      replace b2 := Lib.hid b2
      replace k2 := Lib.hid k2
      clear Y
      replace hc := Lib.hid hc
      clear O0 hiN hfar
      go_upto_region 61 with (fail)
      go_region_held3 (fun w' => w'.cell? ⟨a.q, 0, none⟩ = some (.slice (some ⟨a.m, 0, none⟩) a.n a.n) ∧ w'.cell? ⟨g, 3, none⟩ = some (.int .u8 (ch.toNat : Int))) (first | exact hZ.out | (simp [go_sem, *]; done) | go_keep) (fail)
      obtain ⟨V2, hV2⟩ : ∃ V2, (V1.setCell ⟨a.m, i, none⟩ (.int .u8 (ch.toNat : Int))).drew = V2 := ⟨_, rfl⟩
      have hW2 : Calls Try.prog 54 _ (V1.setCell ⟨a.m, i, none⟩ (.int .u8 (ch.toNat : Int))).drew.drew _ := hW.out
      have S3 : So w v p b kk a c (V1.setCell ⟨a.m, i, none⟩ (.int .u8 (ch.toNat : Int))).drew := S2.out.bel' (below_drawn (Below.refl _ _) 1)
      have b3 := b2.out.draw
      have k3 := k2.out.draw
      rw [hV2] at hW2 S3 b3 k3 ⊢
      replace hW2 := Lib.hid hW2
      clear hW hZ hV2 k2 b2 S2 m0 m1 c0 q0 q1 q4 o2 o3
      have c0 := S3.c0
      have q1 : V2.cell? ⟨a.q, 1, none⟩ = some (.int .i64 a.g) := k3.cell 1
      have o3 := b3.cell 3
      simp at o3
      clear S3 b3 k3 q2 t3 t4
      go_upto_region 62 with (fail)
      go_region_held3 (fun w' => w'.cell? ⟨v, 0, none⟩ = some (.pointer (some ⟨p, 0, none⟩)) ∧ w'.cell? ⟨a.q, 1, none⟩ = some (.int .i64 (a.g : Int)) ∧ w'.cell? ⟨g, 3, none⟩ = some (.int .u8 (ch.toNat : Int))) (first | (simp [go_sem, *]; done) | go_keep)
        ((go_at_call 54; (with_reducible refine Calls.mono hW2.out ?_); rintro e w4_ ⟨rfl, X2⟩; have kS : w4_.cell? ⟨v, 0, none⟩ = some (.pointer (some ⟨p, 0, none⟩)) ∧ w4_.cell? ⟨a.q, 1, none⟩ = some (.int .i64 (a.g : Int)) ∧ w4_.cell? ⟨g, 3, none⟩ = some (.int .u8 (ch.toNat : Int)) := ⟨X2.so.c0, X2.al.ra.c1, X2.bx.cell 3⟩; replace X2 := Lib.hid X2))
      go_wp2_with (fail)
      go_returns
      exact ⟨rfl, X2.out.dn0⟩
  · rw [hc] at q2
    have hS := fun n => pr_setbyte (Y.al.draws n) i ch hiN hc
    simp only [Int.natCast_add] at hS
    have e1 : IntKind.i64.wrap ((a.g : Int) + i) = (a.g : Int) + i := by rw [IntKind.wrap_i64]; omega
    replace hS := Lib.hid hS
    replace Y := Lib.hid Y
    replace hiN := Lib.hid hiN
    go_wp2_with (fail)
    go_quiet ((go_at_call 54; with_reducible exact Calls.quiet_of_same (hS.out _)))
    go_wp2_with (fail)
    go_returns
    exact ⟨rfl, (Y.out.draws _).dn0⟩
end Go.Proofs.Ytoaiiimnfgbcaaa

namespace Go.Proofs.Ytoaiiimnfgbcaaa
open Go.RowKit
attribute [local go_sem] Oper.semAt_some
set_option linter.unusedVariables false
set_option linter.unusedSimpArgs false
/-! chapter 8: law's does: Seal -/
section
variable {w W W1 W2 : World} {v p b kk g : Nat} {a c : Ls} {L : Lay} {B : List UInt8} {s : Bool} {O vs : Array Value}
theorem So.onp {o : Bool} (S : So w v p b kk a c W) (hI : Im W p b L B o s) (O : Only p W W1) : So w v p b kk a c W1 := by
  obtain ⟨x0, x1, y0, y1, ⟨h, k⟩ | ⟨h, k⟩⟩ := S
  · exact ⟨x0, x1, y0, y1, .inl ⟨h, O.bk k.wl (k.wl.ne hI.st (by decide)), k.bel.trans (O.below k.lo.2.2.1 k.bel.size), k.lo⟩⟩
  · exact ⟨x0, x1, y0, y1, .inr ⟨h, O.bk k.wl (k.wl.ne hI.st (by decide)), k.bel.trans (O.below k.lo.2.2.1 k.bel.size), k.lo⟩⟩
theorem So.q0 (S : So w v p b kk a c W) : W.cell? ⟨v, 3, none⟩ = some (.pointer (some ⟨(if kk = 0 then a.q else c.q), 0, none⟩)) := by
  obtain ⟨x0, x1, y0, y1, ⟨rfl, k⟩ | ⟨rfl, k⟩⟩ := S
  · exact k.wl.cell 3
  · exact k.wl.cell 3
/-- Seal -/
theorem Ss.seal (X : Ss w v p b kk g L B s a c O W) (hr : kk = 0 ∧ a.r = 1 ∧ c.r = 3 ∨ kk = 1 ∧ a.r = 3 ∧ c.r = 1) : ∃ q0, W.cell? ⟨v, 3, none⟩ = some (.pointer (some ⟨q0, 0, none⟩)) ∧ Calls Try.prog 55 #[.pointer (some ⟨p, 0, none⟩)] W fun e W1 => (∃ k : Int, e = .returned (.int .i64 k)) ∧ W1.cell? ⟨v, 3, none⟩ = some (.pointer (some ⟨q0, 0, none⟩)) ∧ W1.frozen? ⟨q0, 2, none⟩ = false ∧ (∃ t, W1.cell? ⟨q0, 2, none⟩ = some (.bool t)) ∧ Dn w v p b kk L a c (W1.setCell ⟨q0, 2, none⟩ (.bool true)) := by
  have hS := X.so.q0
  rcases hr with ⟨rfl, ha, hc⟩ | ⟨rfl, ha, hc⟩
  · rw [if_pos rfl] at hS
    obtain ⟨k, hk⟩ := pr_seal X.al ha hc
    refine ⟨a.q, hS, hk.mono ?_⟩
    rintro e W1 ⟨rfl, hO, ⟨cl, R1⟩, H2⟩
    have S1 := X.so.onp X.al.da.im hO
    exact ⟨⟨k, rfl⟩, by have := S1.q0; rw [if_pos rfl] at this; exact this, R1.bk.free 2, ⟨cl, R1.c2⟩, true, B, a.h, a.l, H2, S1.docu R1 (Onb.ofd ((Only.refl a.q W1).put 2 _))⟩
  · rw [if_neg (by decide)] at hS
    obtain ⟨k, hk⟩ := pr_seal X.al.swap hc ha
    refine ⟨c.q, hS, hk.mono ?_⟩
    rintro e W1 ⟨rfl, hO, ⟨cl, R1⟩, H2⟩
    have S1 := X.so.onp X.al.da.im hO
    refine ⟨⟨k, rfl⟩, by have := S1.q0; rw [if_neg (by decide)] at this; exact this, R1.bk.free 2, ⟨cl, R1.c2⟩, true, B, a.h, a.l, H2.swap, ?_⟩
    exact (S1.swap.docu R1 (Onb.ofd ((Only.refl c.q W1).put 2 _))).swap
end
set_option maxHeartbeats 4000000 in
set_option maxRecDepth 100000 in
theorem does_15 {w W : World} {v p b kk : Nat} {a c : Ls} {L : Lay} {B : List UInt8} {s : Bool} (hr : kk = 0 ∧ a.r = 1 ∧ c.r = 3 ∨ kk = 1 ∧ a.r = 3 ∧ c.r = 1) (H : Al W p b L B s a c) (S : So w v p b kk a c W) (of kd N : Int) (ch : UInt8) (nm : ByteArray)
    (hof : -9223372036854775808 ≤ of ∧ of ≤ 9223372036854775807) (hkd : -9223372036854775808 ≤ kd ∧ kd ≤ 9223372036854775807) (hN : -9223372036854775808 ≤ N ∧ N ≤ 9223372036854775807) (hnm : nm.size ≤ maxLen) (hk : pickN of 2 = kk) (hkk : pickN kd 16 = 15) :
    Calls Try.prog 22 #[.pointer (some ⟨v, 0, none⟩), .agg #[.int .i64 of, .int .i64 kd, .int .i64 N, .int .u8 (ch.toNat : Int), .string nm]] W fun e W' => e = .returned (.bool true) ∧ Dn w v p b kk L a c W' := by
  have hp1 := fun w => pick_any of 2 w hof.1 hof.2 (by decide) (by decide)
  have hp2 := fun w => pick_any kd 16 w hkd.1 hkd.2 (by decide) (by decide)
  have e2 : (2 : Int).toNat = 2 := rfl
  have e16 : (16 : Int).toNat = 16 := rfl
  simp only [e2, e16, hk, hkk] at hp1 hp2
  clear e2 e16
  replace hp1 := Lib.hid hp1
  replace hp2 := Lib.hid hp2
  have hk2 := S.two
  have X := Ss.enter H S #[.int .i64 of, .int .i64 kd, .int .i64 N, .int .u8 (ch.toNat : Int), .string nm]
  have hgl : W.heap.size < (W.alloc (.cells #[.int .i64 of, .int .i64 kd, .int .i64 N, .int .u8 (ch.toNat : Int), .string nm] 58)).heap.size := X.bx.lt
  obtain ⟨V, hV⟩ : ∃ V, W.alloc (.cells #[.int .i64 of, .int .i64 kd, .int .i64 N, .int .u8 (ch.toNat : Int), .string nm] 58) = V := ⟨_, rfl⟩
  obtain ⟨g, hg⟩ : ∃ g, W.heap.size = g := ⟨_, rfl⟩
  rw [hV, hg] at X
  have c0 := X.so.c0
  have c1 := X.so.c1
  have c3 := X.so.c3
  have o0 := X.bx.cell 0
  have o1 := X.bx.cell 1
  have o2 := X.bx.cell 2
  have o3 := X.bx.cell 3
  have o4 := X.bx.cell 4
  simp at o0 o1 o2 o3 o4
  have k0 : (0 : Int) ≤ kk := by omega
  have k1 : (kk : Int) < 2 := by omega
  clear H S hgl hof hkd
  replace X := Lib.hid X
  replace hk2 := Lib.hid hk2
  replace hk := Lib.hid hk
  replace hkk := Lib.hid hkk
  go_enter Try.func22, Try.ntmps22
  go_wp2_with (fail)
  clear hV hg
  refine (hp1.out _).mono ?_
  rintro e w1 ⟨rfl, hw1⟩
  have hw1 := hw1.symm
  subst hw1
  go_wp2_with (fail)
  refine (hp2.out _).mono ?_
  rintro e w1 ⟨rfl, hw1⟩
  have hw1 := hw1.symm
  subst hw1
  obtain ⟨q0, c3', hS⟩ := X.out.seal hr
  replace hS := Lib.hid hS
  clear hr hk hkk hk2
  by_cases h11 : N.tmod 11 = 0
  · have t11 : (N.tmod 11 == 0) = true := by simpa using h11
    clear h11
    go_wp2_with (fail)
    refine hS.out.mono ?_
    rintro e w1_ ⟨⟨k, rfl⟩, z1, z2, ⟨t, z3⟩, X2⟩
    replace X2 := Lib.hid X2
    clear c3' c0 c1 c3 o0 o1 o2 o3 o4 X hS
    go_wp2_with (fail)
    go_returns
    exact ⟨rfl, X2.out⟩
  · have t11 : (N.tmod 11 == 0) = false := by simpa using h11
    clear h11
    go_wp2_with (fail)
    go_returns
    exact ⟨rfl, X.out.dn0⟩
end Go.Proofs.Ytoaiiimnfgbcaaa
