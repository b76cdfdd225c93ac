import Derived.Test.YtihepdnnafdkdaaScanC
namespace Go.Proofs.Ytihepdnnafdkdaa
open Go.RowKit
set_option linter.unusedVariables false
set_option linter.unusedSimpArgs false
set_option maxHeartbeats 1000000 in
/-- Until, the byte is there -/
theorem until_yes (b : Nat) (s : ByteArray) (k : Nat) (x : UInt8) (w : World) (h : Src w b s k) (hk : k ≤ s.size) (hs : s.size ≤ 60000) (hf : stop (isNot x) s k < s.size) :
    Calls Try.prog 14 #[.pointer (some ⟨b, 0, none⟩), .int .u8 x.toNat] w fun e w' => e = .returned (.tuple #[.string (s.extract k (stop (isNot x) s k)), .int .i64 ((stop (isNot x) s k : Int) + 1 - k), .int .i64 0]) ∧ Src w' b s (stop (isNot x) s k + 1) ∧ Only b w w' := by
  have c1 : w.cell? ⟨b, 1, none⟩ = some (.int .i64 k) := h.cell 1
  have c2 : w.cell? ⟨b, 2, none⟩ = some (.int .i64 (lfs s k)) := h.cell 2
  have hb := h.lt
  go_enter Try.func14, Try.ntmps14
  go_wp2_with (fail)
  have H0 : Src ((w.alloc (.cells #[.int .u8 x.toNat] 5)).alloc (.cells #[.int .i64 k, .int .i64 (lfs s k)] 51)) b s k := (Bk.past h _).past _
  have G0 : Bk ((w.alloc (.cells #[.int .u8 x.toNat] 5)).alloc (.cells #[.int .i64 k, .int .i64 (lfs s k)] 51)) w.heap.size 5 #[.int .u8 x.toNat] := (Bk.fresh w _ _).past _
  have V0 : Bk ((w.alloc (.cells #[.int .u8 x.toNat] 5)).alloc (.cells #[.int .i64 k, .int .i64 (lfs s k)] 51)) (w.heap.size + 1) 51 #[.int .i64 k, .int .i64 (lfs s k)] := by
    have := Bk.fresh (w.alloc (.cells #[.int .u8 x.toNat] 5)) 51 #[.int .i64 k, .int .i64 (lfs s k)]
    simpa using this
  have O0 : Only b w ((w.alloc (.cells #[.int .u8 x.toNat] 5)).alloc (.cells #[.int .i64 k, .int .i64 (lfs s k)] 51)) := ((Only.refl b w).past _).past _
  refine (goes_until b s k x w.heap.size _ H0 hk hs G0 (by omega)).mono ?_
  rintro e w1 ⟨rfl, hS1, hO1, hG1⟩
  have hp := stop_le (isNot x) s k hk
  have V1 := hO1.bk V0 (by omega)
  have O1 := O0.trans hO1
  generalize hpp : stop (isNot x) s k = p at *
  clear c1 c2
  have d1 : w1.cell? ⟨b, 1, none⟩ = some (.int .i64 p) := hS1.cell 1
  have d2 : w1.cell? ⟨b, 2, none⟩ = some (.int .i64 (lfs s p)) := hS1.cell 2
  go_wp2_with (fail)
  refine (step_in b s p _ (Bk.past hS1 _) hf hs).mono ?_
  rintro e w3 ⟨rfl, hS3, hO3⟩
  have hb1 := hS1.lt
  have V3 := hO3.bk (V1.past _) (by omega)
  have P3 := hO3.bk (Bk.fresh w1 51 #[.int .i64 p, .int .i64 (lfs s p)]) (by omega)
  have O3 := (O1.past _).trans hO3
  have cw0 : w3.cell? ⟨w.heap.size + 1, 0, none⟩ = some (.int .i64 k) := V3.cell 0
  have cw1 : w3.cell? ⟨w.heap.size + 1, 1, none⟩ = some (.int .i64 (lfs s k)) := V3.cell 1
  have cp0 : w3.cell? ⟨w1.heap.size, 0, none⟩ = some (.int .i64 p) := P3.cell 0
  have cp1 : w3.cell? ⟨w1.heap.size, 1, none⟩ = some (.int .i64 (lfs s p)) := P3.cell 1
  have cn1 : w3.cell? ⟨b, 1, none⟩ = some (.int .i64 (p + 1 : Nat)) := hS3.cell 1
  have cn2 : w3.cell? ⟨b, 2, none⟩ = some (.int .i64 (lfs s (p + 1))) := hS3.cell 2
  have ne : ((((p + 1 : Nat) : Int)) == (p : Int)) = false := by simp; omega
  clear d1 d2
  go_wp2_with (fail)
  go_quiet (fail)
  go_wp2
  go_quiet (fail)
  go_wp2
  go_returns
  subst hpp
  exact ⟨rfl, (hS3.draws _).draws _, (O3.draws _).draws _⟩
set_option maxHeartbeats 1000000 in
/-- Until, the byte is not there -/
theorem until_no (b : Nat) (s : ByteArray) (k : Nat) (x : UInt8) (w : World) (h : Src w b s k) (hk : k ≤ s.size) (hs : s.size ≤ 60000) (hf : stop (isNot x) s k = s.size) :
    Calls Try.prog 14 #[.pointer (some ⟨b, 0, none⟩), .int .u8 x.toNat] w fun e w' => e = .returned (.tuple #[.string ByteArray.empty, .int .i64 0, .int .i64 21]) ∧ Src w' b s k ∧ Only b w w' := by
  have c1 : w.cell? ⟨b, 1, none⟩ = some (.int .i64 k) := h.cell 1
  have c2 : w.cell? ⟨b, 2, none⟩ = some (.int .i64 (lfs s k)) := h.cell 2
  have hb := h.lt
  go_enter Try.func14, Try.ntmps14
  go_wp2_with (fail)
  have H0 : Src ((w.alloc (.cells #[.int .u8 x.toNat] 5)).alloc (.cells #[.int .i64 k, .int .i64 (lfs s k)] 51)) b s k := (Bk.past h _).past _
  have G0 : Bk ((w.alloc (.cells #[.int .u8 x.toNat] 5)).alloc (.cells #[.int .i64 k, .int .i64 (lfs s k)] 51)) w.heap.size 5 #[.int .u8 x.toNat] := (Bk.fresh w _ _).past _
  have V0 : Bk ((w.alloc (.cells #[.int .u8 x.toNat] 5)).alloc (.cells #[.int .i64 k, .int .i64 (lfs s k)] 51)) (w.heap.size + 1) 51 #[.int .i64 k, .int .i64 (lfs s k)] := by
    have := Bk.fresh (w.alloc (.cells #[.int .u8 x.toNat] 5)) 51 #[.int .i64 k, .int .i64 (lfs s k)]
    simpa using this
  have O0 : Only b w ((w.alloc (.cells #[.int .u8 x.toNat] 5)).alloc (.cells #[.int .i64 k, .int .i64 (lfs s k)] 51)) := ((Only.refl b w).past _).past _
  refine (goes_until b s k x w.heap.size _ H0 hk hs G0 (by omega)).mono ?_
  rintro e w1 ⟨rfl, hS1, hO1, hG1⟩
  rw [hf] at hS1
  have V1 := hO1.bk V0 (by omega)
  have O1 := O0.trans hO1
  generalize s.extract k (stop (isNot x) s k) = tx at *
  clear c1 c2
  have d1 : w1.cell? ⟨b, 1, none⟩ = some (.int .i64 s.size) := hS1.cell 1
  have d2 : w1.cell? ⟨b, 2, none⟩ = some (.int .i64 (lfs s s.size)) := hS1.cell 2
  go_wp2_with (fail)
  refine (step_end b s _ (Bk.past hS1 _)).mono ?_
  rintro e w3 ⟨rfl, n, rfl⟩
  have hb1 := hS1.lt
  have hS3 : Src ((w1.alloc (.cells #[.int .i64 s.size, .int .i64 (lfs s s.size)] 51)).drewN n) b s s.size := (Bk.past hS1 _).draws n
  have V3 : Bk ((w1.alloc (.cells #[.int .i64 s.size, .int .i64 (lfs s s.size)] 51)).drewN n) _ _ _ := (V1.past _).draws n
  have P3 : Bk ((w1.alloc (.cells #[.int .i64 s.size, .int .i64 (lfs s s.size)] 51)).drewN n) _ _ _ := (Bk.fresh w1 51 #[.int .i64 s.size, .int .i64 (lfs s s.size)]).draws n
  have O3 := (O1.past (.cells #[.int .i64 s.size, .int .i64 (lfs s s.size)] 51)).draws n
  generalize (w1.alloc (.cells #[.int .i64 s.size, .int .i64 (lfs s s.size)] 51)).drewN n = w3 at *
  have cw0 : w3.cell? ⟨w.heap.size + 1, 0, none⟩ = some (.int .i64 k) := V3.cell 0
  have cw1 : w3.cell? ⟨w.heap.size + 1, 1, none⟩ = some (.int .i64 (lfs s k)) := V3.cell 1
  have cp0 : w3.cell? ⟨w1.heap.size, 0, none⟩ = some (.int .i64 s.size) := P3.cell 0
  have cp1 : w3.cell? ⟨w1.heap.size, 1, none⟩ = some (.int .i64 (lfs s s.size)) := P3.cell 1
  have cn1 : w3.cell? ⟨b, 1, none⟩ = some (.int .i64 s.size) := hS3.cell 1
  have cn2 : w3.cell? ⟨b, 2, none⟩ = some (.int .i64 (lfs s s.size)) := hS3.cell 2
  have fn1 : w3.frozen? ⟨b, 1, none⟩ = false := hS3.free 1
  have fn2 : w3.frozen? ⟨b, 2, none⟩ = false := hS3.free 2
  clear d1 d2
  go_wp2_with (fail)
  go_quiet (fail)
  go_wp2
  go_returns
  exact ⟨rfl, Bk.put (Bk.put (hS3.draws _) 1 _) 2 _, ((O3.draws _).put _ _).put _ _⟩
theorem rlong_any (s : ByteArray) (w : World) : Calls Try.prog 11 #[.string s] w fun e w' => e = .returned (.bool (decide ((60000 : Int) < s.size))) ∧ w' = w := by
  go_enter Try.func11, Try.ntmps11
  go_wp2
  go_returns
  exact ⟨rfl, rfl⟩
set_option maxHeartbeats 1000000 in
theorem rrest_any (s : ByteArray) (k : Nat) (w : World) (hk : k ≤ s.size) (hs : s.size ≤ 60000) :
    Calls Try.prog 17 #[.string s, .int .i64 k] w fun e w' => e = .returned (.int .i64 ((lNext s k : Int) - k)) ∧ w' = w := by
  go_enter Try.func17, Try.ntmps17
  go_wp2
  go_loop [5] (fun i => ∃ j : Nat, i = .int .i64 j ∧ k ≤ j ∧ j ≤ s.size ∧ stop (isNot 10) s k = stop (isNot 10) s j) (fun i => s.size - (intOf i).toNat)
  case atStart => exact ⟨k, rfl, Nat.le_refl _, hk, rfl⟩
  case round =>
    obtain ⟨j, rfl, h1, h2, hE⟩ := hrel
    have HE := Lib.hid hE
    clear hE
    by_cases hj : j < s.size
    · cases hp : isNot 10 s[j]
      · have E := Lib.hid (HE.out.trans (stop_no _ s j hj hp))
        have q : ((s[j].toNat : Int) == 10) = true := by simpa [isNot] using hp
        have q2 : ((s[j].toNat : Int) != 10) = false := by rw [bne, q]; rfl
        have N : Hid ((lNext s k : Int) = j + 1) := by
          show (lNext s k : Int) = j + 1
          unfold lNext nxt; rw [E.out, if_pos hj]; rfl
        go_wp2
        go_returns
        exact ⟨by rw [N.out]; rfl, rfl⟩
      · have E := Lib.hid (HE.out.trans (stop_go _ s j hj hp))
        have q : ((s[j].toNat : Int) == 10) = false := by simpa [isNot] using hp
        have q2 : ((s[j].toNat : Int) != 10) = true := by rw [bne, q]; rfl
        go_wp2
        go_round
        case rel => exact ⟨j + 1, by go_num, by omega, by omega, E.out⟩
        case measure => simp [intOf]; omega
    · have e : j = s.size := by omega
      subst e
      have N : Hid ((lNext s k : Int) = s.size) := by
        show (lNext s k : Int) = s.size
        unfold lNext nxt; rw [HE.out, stop_end _ s s.size (Nat.le_refl _), if_neg (by omega)]
      go_wp2
      go_returns
      exact ⟨by rw [N.out]; rfl, rfl⟩
end Go.Proofs.Ytihepdnnafdkdaa
