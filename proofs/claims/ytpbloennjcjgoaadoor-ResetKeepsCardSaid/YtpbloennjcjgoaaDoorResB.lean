import Derived.Test.YtpbloennjcjgoaaDoorResA
namespace Go.Proofs.YtpbloennjcjgoaaDoor
open Go.RowKit
set_option linter.unusedVariables false
set_option linter.unusedSimpArgs false
/-- a number out of eight bytes, the highest first taken in -/
def horF (b : Nat → UInt8) : Nat → Nat
  | 0 => 0
  | j + 1 => horF b j * 256 + (b (7 - j)).toNat
theorem horF_lt (b : Nat → UInt8) : ∀ j, horF b j < 256 ^ j
  | 0 => by unfold horF; decide
  | j + 1 => by
    have h1 := horF_lt b j
    have h2 := (b (7 - j)).toNat_lt
    unfold horF
    rw [Nat.pow_succ]; omega
theorem or_byte (m c : Nat) (hm : m < 72057594037927936) (hc : c < 256) : bits BinOp.or IntKind.u64 ((m : Int) * 256) (c : Int) = ((m * 256 + c : Nat) : Int) := by
  have e : (m * 256) ||| c = m * 256 + c := by
    have := (Nat.shiftLeft_add_eq_or_of_lt (show c < 2 ^ 8 from hc) m).symm
    rw [Nat.shiftLeft_eq] at this
    exact this
  unfold bits
  rw [wrapu]
  have h1 : (BitVec.ofInt IntKind.u64.bits ((m : Int) * 256)).toNat = m * 256 := by
    have : ((m : Int) * 256) = ((m * 256 : Nat) : Int) := by simp
    rw [this]; simp [IntKind.bits]; omega
  have h2 : (BitVec.ofInt IntKind.u64.bits (c : Int)).toNat = c := by
    simp [IntKind.bits]; omega
  simp only [BitVec.toNat_or, h1, h2, e]
  omega
set_option maxHeartbeats 1000000 in
set_option maxRecDepth 100000 in
theorem number_any (g off n c : Nat) (b : Nat → UInt8) (w : World) (hc : ∀ j, j < 8 → w.cell? ⟨g, off + j, none⟩ = some (.int .u8 ((b j).toNat : Int))) (hn : 8 ≤ n) :
    Calls Tryd.prog 38 #[.slice (some ⟨g, off, none⟩) n c] w fun e w' => e = .returned (.int .u64 (horF b 8)) ∧ w' = w := by
  have hcx := Lib.hid hc
  clear hc
  go_enter Tryd.func38, Tryd.ntmps38
  go_wp2_with (fail)
  go_loop [3, 4] (fun n i => ∃ k : Nat, i = .int .i64 ((7 : Int) - k) ∧ k ≤ 8 ∧ n = .int .u64 ((horF b k : Nat) : Int)) (fun _ i => (intOf i + 1).toNat)
  case atStart => exact ⟨0, rfl, by omega, rfl⟩
  case round =>
    obtain ⟨k, rfl, hk, rfl⟩ := hrel
    by_cases hlt : k < 8
    · obtain ⟨j, hj, hj2, hj8⟩ : ∃ j : Nat, (7 : Int) - k = (j : Int) ∧ 7 - k = j ∧ j < 8 := ⟨7 - k, by omega, rfl, by omega⟩
      have j0 : (0 : Int) ≤ j := by omega
      have j1 : (j : Int) < n := by omega
      have hx := hcx.out j hj8
      have h1 := horF_lt b k
      have hp : 256 ^ k ≤ 72057594037927936 := by
        have : 256 ^ k ≤ 256 ^ 7 := Nat.pow_le_pow_right (by decide) (by omega)
        simpa using this
      have hnx : Hid (horF b (k + 1) = horF b k * 256 + (b j).toNat) := by show horF b (k + 1) = _; rw [← hj2]; rfl
      have hlt64 : horF b k < 72057594037927936 := by omega
      clear h1 hp
      generalize horF b k = m at *
      obtain ⟨c, hc⟩ : ∃ c, b j = c := ⟨_, rfl⟩
      rw [hc] at hx hnx
      have ho := or_byte m c.toNat hlt64 c.toNat_lt
      have hj2 := Lib.hid hj2
      go_wp2_with (fail)
      refine ⟨⟨k + 1, congrArg (Value.int .i64) (by omega), by omega, ?_⟩, by simp [intOf]; omega⟩
      rw [wrapu, Int.emod_eq_of_lt (by omega) (by have := c.toNat_lt; omega), hnx.out, ho]
    · have e : k = 8 := by omega
      subst e
      go_wp2_with (fail)
      go_returns
      exact ⟨rfl, rfl⟩
set_option maxHeartbeats 1000000 in
set_option maxRecDepth 100000 in
theorem read_any (s : ByteArray) (at_ : Nat) (b : Nat → UInt8) (w : World) (hb : ∀ j (h : at_ + j < s.size), j < 8 → b j = s[at_ + j]) (hn : at_ + 8 ≤ s.size) (hs : s.size ≤ 9223372036854775807) :
    Calls Tryd.prog 39 #[.string s, .int .i64 at_] w fun e w' => e = .returned (.int .u64 (horF b 8)) ∧ w' = w := by
  have hcx := Lib.hid hb
  clear hb
  go_enter Tryd.func39, Tryd.ntmps39
  go_wp2_with (fail)
  go_loop [5, 6] (fun n i => ∃ k : Nat, i = .int .i64 ((7 : Int) - k) ∧ k ≤ 8 ∧ n = .int .u64 ((horF b k : Nat) : Int)) (fun _ i => (intOf i + 1).toNat)
  case atStart => exact ⟨0, rfl, by omega, rfl⟩
  case round =>
    obtain ⟨k, rfl, hk, rfl⟩ := hrel
    by_cases hlt : k < 8
    · obtain ⟨j, hj, hj2, hj8⟩ : ∃ j : Nat, (7 : Int) - k = (j : Int) ∧ 7 - k = j ∧ j < 8 := ⟨7 - k, by omega, rfl, by omega⟩
      have j0 : (0 : Int) ≤ j := by omega
      obtain ⟨a, ha⟩ : ∃ a : Nat, at_ + j = a := ⟨_, rfl⟩
      have hap : (at_ : Int) + j = (a : Int) := by omega
      have a0 : (0 : Int) ≤ a := by omega
      have a1 : (a : Int) < s.size := by omega
      have has : a < s.size := by omega
      have hx : b j = s[a] := by have := hcx.out j (by omega) hj8; rw [this]; congr 1
      have h1 := horF_lt b k
      have hp : 256 ^ k ≤ 72057594037927936 := by
        have : 256 ^ k ≤ 256 ^ 7 := Nat.pow_le_pow_right (by decide) (by omega)
        simpa using this
      have hnx : Hid (horF b (k + 1) = horF b k * 256 + (b j).toNat) := by show horF b (k + 1) = _; rw [← hj2]; rfl
      have hlt64 : horF b k < 72057594037927936 := by omega
      clear h1 hp
      generalize horF b k = m at *
      obtain ⟨c, hc⟩ : ∃ c, s[a] = c := ⟨_, rfl⟩
      rw [hx, hc] at hnx
      have ho := or_byte m c.toNat hlt64 c.toNat_lt
      have hj2 := Lib.hid hj2
      have ha := Lib.hid ha
      clear hx
      go_wp2_with (fail)
      refine ⟨⟨k + 1, congrArg (Value.int .i64) (by omega), by omega, ?_⟩, by simp [intOf]; omega⟩
      rw [wrapu, Int.emod_eq_of_lt (by omega) (by have := c.toNat_lt; omega), hnx.out, ho]
    · have e : k = 8 := by omega
      subst e
      go_wp2_with (fail)
      go_returns
      exact ⟨rfl, rfl⟩
set_option maxHeartbeats 1000000 in
set_option maxRecDepth 100000 in
theorem rsum_any (s : ByteArray) (w : World) (hl : s.size ≤ 1000000000000) :
    Calls Tryd.prog 37 #[.string s] w fun e w' => e = .returned (.int .u64 (sumL s.data.toList)) ∧ w' = w := by
  have hsz := Lib.hid (data_size s)
  go_enter Tryd.func37, Tryd.ntmps37
  go_wp2_with (fail)
  go_loop [3, 4] (fun n i => ∃ k : Nat, i = .int .i64 k ∧ k ≤ s.size ∧ n = .int .u64 ((sumL (s.data.toList.take k) : Nat) : Int)) (fun _ i => s.size - (intOf i).toNat)
  case atStart => exact ⟨0, rfl, by omega, rfl⟩
  case round =>
    obtain ⟨k, rfl, hk, rfl⟩ := hrel
    have k0 : (0 : Int) ≤ k := by omega
    by_cases hlt : k < s.size
    · have k1 : (k : Int) < s.size := by omega
      have hn := sumL_next s.data.toList k (by rw [hsz.out]; exact hlt)
      have hce : s.data.toList[k]'(by rw [hsz.out]; exact hlt) = s[k] := rfl
      rw [hce] at hn
      have h1 := sumL_lt (s.data.toList.take k)
      generalize sumL (s.data.toList.take k) = m at *
      obtain ⟨c, hc⟩ : ∃ c, s[k] = c := ⟨_, rfl⟩
      rw [hc] at hn
      have hn := Lib.hid hn
      clear hce
      go_wp2_with (fail)
      refine ⟨⟨k + 1, by go_num, by omega, ?_⟩, by simp [intOf]; omega⟩
      rw [hn.out, wrapu, wrapu, wrapu]
      congr 1
      have := c.toNat_lt
      simp only [Int.emod_add_emod, Int.add_emod_emod]
      omega
    · have e : k = s.size := by omega
      subst e
      have ht : s.data.toList.take s.size = s.data.toList := by rw [← hsz.out]; exact List.take_length
      have ht := Lib.hid ht
      go_wp2_with (fail)
      go_returns
      exact ⟨by first | rfl | (rw [ht.out]; rfl), rfl⟩
end Go.Proofs.YtpbloennjcjgoaaDoor
