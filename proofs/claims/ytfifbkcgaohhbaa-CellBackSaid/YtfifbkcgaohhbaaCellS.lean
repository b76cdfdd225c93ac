import Derived.Test.YtfifbkcgaohhbaaCellO
namespace Go.Proofs.Ytfifbkcgaohhbaa
open Go.RowKit
set_option linter.unusedVariables false
set_option linter.unusedSimpArgs false
/-! CellBytes -/
theorem bytesV_U {a : Int} (h : isI a) : bytesV (IntKind.u64.wrap a) = bytesV a := by
  obtain ⟨h0, h1⟩ := h
  have e0 : IntKind.u64.wrap a % 256 = a % 256 := by rw [IntKind.wrap_u64]; omega
  have e1 : IntKind.u64.wrap a / 256 % 256 = a / 256 % 256 := by rw [IntKind.wrap_u64]; omega
  have e2 : IntKind.u64.wrap a / 65536 % 256 = a / 65536 % 256 := by rw [IntKind.wrap_u64]; omega
  have e3 : IntKind.u64.wrap a / 16777216 % 256 = a / 16777216 % 256 := by rw [IntKind.wrap_u64]; omega
  have e4 : IntKind.u64.wrap a / 4294967296 % 256 = a / 4294967296 % 256 := by rw [IntKind.wrap_u64]; omega
  have e5 : IntKind.u64.wrap a / 1099511627776 % 256 = a / 1099511627776 % 256 := by rw [IntKind.wrap_u64]; omega
  have e6 : IntKind.u64.wrap a / 281474976710656 % 256 = a / 281474976710656 % 256 := by rw [IntKind.wrap_u64]; omega
  have e7 : IntKind.u64.wrap a / 72057594037927936 % 256 = a / 72057594037927936 % 256 := by rw [IntKind.wrap_u64]; omega
  unfold bytesV
  rw [e0, e1, e2, e3, e4, e5, e6, e7]
theorem or_nat (a b : Nat) (ha : a < 9223372036854775808) (hb : b < 9223372036854775808) : bits .or .i64 (a : Int) (b : Int) = ((a ||| b : Nat) : Int) := by
  have hx : a ||| b < 2 ^ 63 := Nat.or_lt_two_pow (by omega) (by omega)
  have e : bits .or .i64 (a : Int) (b : Int) = IntKind.i64.wrap ((BitVec.ofInt 64 (a : Int) ||| BitVec.ofInt 64 (b : Int)).toNat : Int) := rfl
  rw [e, BitVec.toNat_or, ofInt_u64 a (by omega), ofInt_u64 b (by omega), IntKind.wrap_i64]
  omega
theorem or_step {x b : Int} (i : Nat) (hi : i ≤ 55) (x0 : 0 ≤ x) (x1 : x < 2 ^ i) (b0 : 0 ≤ b) (b1 : b ≤ 255) : bits .or .i64 x (b * 2 ^ i) = x + b * 2 ^ i := by
  obtain ⟨x, rfl⟩ := Int.eq_ofNat_of_zero_le x0
  obtain ⟨b, rfl⟩ := Int.eq_ofNat_of_zero_le b0
  have hx : x < 2 ^ i := by exact_mod_cast x1
  have hp : 2 ^ i ≤ 2 ^ 55 := Nat.pow_le_pow_right (by decide) hi
  have hb : b * 2 ^ i ≤ 255 * 2 ^ 55 := Nat.mul_le_mul (by omega) hp
  have e : (b : Int) * 2 ^ i = ((b * 2 ^ i : Nat) : Int) := by rw [Int.natCast_mul, Int.natCast_pow]; rfl
  rw [e, or_nat _ _ (by omega) (by omega), Nat.or_comm, nat_join i _ _ (by simp) hx]
  omega
theorem or_top {x b : Int} (x0 : 0 ≤ x) (x1 : x < 72057594037927936) (b0 : 0 ≤ b) (b1 : b ≤ 255) : bits .or .i64 x (wrap64 (b * 72057594037927936)) = wrap64 (x + b * 72057594037927936) := by
  obtain ⟨x, rfl⟩ := Int.eq_ofNat_of_zero_le x0
  obtain ⟨b, rfl⟩ := Int.eq_ofNat_of_zero_le b0
  have e : bits .or .i64 (x : Int) (wrap64 ((b : Int) * 72057594037927936)) = IntKind.i64.wrap ((BitVec.ofInt 64 (x : Int) ||| BitVec.ofInt 64 (wrap64 ((b : Int) * 72057594037927936))).toNat : Int) := rfl
  have e2 : BitVec.ofInt 64 (wrap64 ((b : Int) * 72057594037927936)) = BitVec.ofInt 64 ((b * 72057594037927936 : Nat) : Int) := by
    apply BitVec.eq_of_toInt_eq
    rw [toInt_ofInt (wrap64_isI _), BitVec.toInt_ofInt, Int.bmod_def]
    simp only [show ((2 ^ 64 : Nat) : Int) = 18446744073709551616 from rfl]
    unfold wrap64
    split <;> omega
  rw [e, e2, BitVec.toNat_or, ofInt_u64 x (by omega), ofInt_u64 _ (by omega), Nat.or_comm, nat_join 56 _ _ (by omega) (by omega), wrap64_of]
  congr 1
  omega
theorem or_8 {x b : Int} (x0 : 0 ≤ x) (x1 : x < 256) (b0 : 0 ≤ b) (b1 : b ≤ 255) : bits .or .i64 x (b * 256) = x + b * 256 := by
  have e : (2 : Int) ^ 8 = 256 := by decide +kernel
  have h := or_step (x := x) (b := b) 8 (by decide) x0 (by rw [e]; exact x1) b0 b1
  rw [e] at h
  exact h
theorem or_16 {x b : Int} (x0 : 0 ≤ x) (x1 : x < 65536) (b0 : 0 ≤ b) (b1 : b ≤ 255) : bits .or .i64 x (b * 65536) = x + b * 65536 := by
  have e : (2 : Int) ^ 16 = 65536 := by decide +kernel
  have h := or_step (x := x) (b := b) 16 (by decide) x0 (by rw [e]; exact x1) b0 b1
  rw [e] at h
  exact h
theorem or_24 {x b : Int} (x0 : 0 ≤ x) (x1 : x < 16777216) (b0 : 0 ≤ b) (b1 : b ≤ 255) : bits .or .i64 x (b * 16777216) = x + b * 16777216 := by
  have e : (2 : Int) ^ 24 = 16777216 := by decide +kernel
  have h := or_step (x := x) (b := b) 24 (by decide) x0 (by rw [e]; exact x1) b0 b1
  rw [e] at h
  exact h
theorem or_32 {x b : Int} (x0 : 0 ≤ x) (x1 : x < 4294967296) (b0 : 0 ≤ b) (b1 : b ≤ 255) : bits .or .i64 x (b * 4294967296) = x + b * 4294967296 := by
  have e : (2 : Int) ^ 32 = 4294967296 := by decide +kernel
  have h := or_step (x := x) (b := b) 32 (by decide) x0 (by rw [e]; exact x1) b0 b1
  rw [e] at h
  exact h
theorem or_40 {x b : Int} (x0 : 0 ≤ x) (x1 : x < 1099511627776) (b0 : 0 ≤ b) (b1 : b ≤ 255) : bits .or .i64 x (b * 1099511627776) = x + b * 1099511627776 := by
  have e : (2 : Int) ^ 40 = 1099511627776 := by decide +kernel
  have h := or_step (x := x) (b := b) 40 (by decide) x0 (by rw [e]; exact x1) b0 b1
  rw [e] at h
  exact h
theorem or_48 {x b : Int} (x0 : 0 ≤ x) (x1 : x < 281474976710656) (b0 : 0 ≤ b) (b1 : b ≤ 255) : bits .or .i64 x (b * 281474976710656) = x + b * 281474976710656 := by
  have e : (2 : Int) ^ 48 = 281474976710656 := by decide +kernel
  have h := or_step (x := x) (b := b) 48 (by decide) x0 (by rw [e]; exact x1) b0 b1
  rw [e] at h
  exact h
theorem or_0 {b : Int} (b0 : 0 ≤ b) (b1 : b ≤ 255) : bits .or .i64 0 b = b := by
  have h := or_step (x := 0) (b := b) 0 (by decide) (by omega) (by decide) b0 b1
  rw [Int.pow_zero, Int.mul_one, Int.zero_add] at h
  exact h
theorem of_is {b0 b1 b2 b3 b4 b5 b6 b7 : Int} (h0 : isB b0) (h1 : isB b1) (h2 : isB b2) (h3 : isB b3) (h4 : isB b4) (h5 : isB b5) (h6 : isB b6) (h7 : isB b7) : orN b0 b1 b2 b3 b4 b5 b6 b7 = hor b0 b1 b2 b3 b4 b5 b6 b7 := by
  unfold isB at *
  unfold orN hor
  rw [or_0 (by omega) (by omega), or_8 (by omega) (by omega) (by omega) (by omega), or_16 (by omega) (by omega) (by omega) (by omega), or_24 (by omega) (by omega) (by omega) (by omega),
    or_32 (by omega) (by omega) (by omega) (by omega), or_40 (by omega) (by omega) (by omega) (by omega), or_48 (by omega) (by omega) (by omega) (by omega), or_top (by omega) (by omega) (by omega) (by omega)]
  congr 1
  omega
theorem eqBytes (a : Int) (w : World) : (binOp .eql 42 (bytesV a) (bytesV a)).run Try.prog w = .ok (.bool true) w := by
  unfold bytesV
  rw [run_eql_struct]
  have h := eqArr (a % 256) (a / 256 % 256) (a / 65536 % 256) (a / 16777216 % 256) (a / 4294967296 % 256) (a / 1099511627776 % 256) (a / 281474976710656 % 256) (a / 72057594037927936 % 256) w
  unfold arr8 at h
  rw [h]
  rfl
theorem grdBytes (a : Int) (x y : Operand) (w : World) : (eqGuard .eql 42 x y (bytesV a) (bytesV a)).run Try.prog w = .ok () w := by
  unfold bytesV
  simp [go_sem]
theorem rbytes_is (a : Int) (w : World) (h : isI a) :
    Calls Try.prog 30 #[.int .i64 a] w fun e w' => e = .returned (bytesV a) ∧ Below w.heap.size w w' := by
  have k := rbytes_any a w
  rw [bytesV_U h] at k
  exact k
theorem of_at (b0 b1 b2 b3 b4 b5 b6 b7 : Int) (w : World) (h0 : isB b0) (h1 : isB b1) (h2 : isB b2) (h3 : isB b3) (h4 : isB b4) (h5 : isB b5) (h6 : isB b6) (h7 : isB b7) :
    Calls Try.prog 31 #[arr8 b0 b1 b2 b3 b4 b5 b6 b7] w fun e w' => e = .returned (.int .i64 (hor b0 b1 b2 b3 b4 b5 b6 b7)) ∧ Below w.heap.size w w' := by
  have k := of_any b0 b1 b2 b3 b4 b5 b6 b7 w h0 h1 h2 h3 h4 h5 h6 h7
  rw [of_is h0 h1 h2 h3 h4 h5 h6 h7] at k
  exact k
set_option maxHeartbeats 1000000 in
theorem walk_bytes (a b0 b1 b2 b3 b4 b5 b6 b7 : Int) (ha : (Lit.int .i64 a).wf = true) (h0 : isB b0) (h1 : isB b1) (h2 : isB b2) (h3 : isB b3) (h4 : isB b4) (h5 : isB b5) (h6 : isB b6) (h7 : isB b7) (w : World) :
    Calls Try.prog 6 #[.int .i64 a, .agg #[.int .u8 b0, .int .u8 b1, .int .u8 b2, .int .u8 b3, .int .u8 b4, .int .u8 b5, .int .u8 b6, .int .u8 b7]] w fun e w' => e = .returned (.bool true) ∧ Below w.heap.size w w' := by
  have HA := isI_of ha
  have hq := eqBytes a
  have hg := grdBytes a
  go_enter Try.func6, Try.ntmps6
  go_wp2_with (fail)
  refine (shown_any _).mono ?_
  rintro e w0 ⟨rfl, hb⟩
  have c0 : w0.cell? ⟨w.heap.size, 0, none⟩ = some (.int .u8 b0) := carry hb (by simp) (by simp [go_sem])
  have c1 : w0.cell? ⟨w.heap.size, 1, none⟩ = some (.int .u8 b1) := carry hb (by simp) (by simp [go_sem])
  have c2 : w0.cell? ⟨w.heap.size, 2, none⟩ = some (.int .u8 b2) := carry hb (by simp) (by simp [go_sem])
  have c3 : w0.cell? ⟨w.heap.size, 3, none⟩ = some (.int .u8 b3) := carry hb (by simp) (by simp [go_sem])
  have c4 : w0.cell? ⟨w.heap.size, 4, none⟩ = some (.int .u8 b4) := carry hb (by simp) (by simp [go_sem])
  have c5 : w0.cell? ⟨w.heap.size, 5, none⟩ = some (.int .u8 b5) := carry hb (by simp) (by simp [go_sem])
  have c6 : w0.cell? ⟨w.heap.size, 6, none⟩ = some (.int .u8 b6) := carry hb (by simp) (by simp [go_sem])
  have c7 : w0.cell? ⟨w.heap.size, 7, none⟩ = some (.int .u8 b7) := carry hb (by simp) (by simp [go_sem])
  have hB : Below w.heap.size w w0 := ((Below.refl _ _).alloc (Nat.le_refl _) _).trans (hb.mono (by simp))
  have hz : w.heap.size < w0.heap.size := bsize hb (by simp)
  clear hb
  go_wp2_with (fail)
  go_region_held3 (fun w' => w'.cell? ⟨w.heap.size, 0, none⟩ = some (.int .u8 b0) ∧ w'.cell? ⟨w.heap.size, 1, none⟩ = some (.int .u8 b1) ∧ w'.cell? ⟨w.heap.size, 2, none⟩ = some (.int .u8 b2) ∧ w'.cell? ⟨w.heap.size, 3, none⟩ = some (.int .u8 b3) ∧ w'.cell? ⟨w.heap.size, 4, none⟩ = some (.int .u8 b4) ∧ w'.cell? ⟨w.heap.size, 5, none⟩ = some (.int .u8 b5) ∧ w'.cell? ⟨w.heap.size, 6, none⟩ = some (.int .u8 b6) ∧ w'.cell? ⟨w.heap.size, 7, none⟩ = some (.int .u8 b7)) ((simp [go_sem, *]))
    (first
      | (go_at_call 29; refine (bytes_any _ _).mono ?_; rintro e w1 ⟨rfl, hb1⟩; have hz1 : w.heap.size < w1.heap.size := (by have := hb1.size; (try simp only [World.size_drew] at this); omega); have hB1 : Below w.heap.size w w1 := Below.trans (by first | assumption | (refine Below.drew ?_; assumption)) (hb1.mono (by first | omega | (simp only [World.size_drew]; omega))); have kS : w1.cell? ⟨w.heap.size, 0, none⟩ = some (.int .u8 b0) ∧ w1.cell? ⟨w.heap.size, 1, none⟩ = some (.int .u8 b1) ∧ w1.cell? ⟨w.heap.size, 2, none⟩ = some (.int .u8 b2) ∧ w1.cell? ⟨w.heap.size, 3, none⟩ = some (.int .u8 b3) ∧ w1.cell? ⟨w.heap.size, 4, none⟩ = some (.int .u8 b4) ∧ w1.cell? ⟨w.heap.size, 5, none⟩ = some (.int .u8 b5) ∧ w1.cell? ⟨w.heap.size, 6, none⟩ = some (.int .u8 b6) ∧ w1.cell? ⟨w.heap.size, 7, none⟩ = some (.int .u8 b7) := by (refine ⟨?_, ?_, ?_, ?_, ?_, ?_, ?_, ?_⟩ <;> (refine carry hb1 (by first | omega | (simp only [World.size_drew]; omega)) ?_; simp [go_sem, *])))
      | (go_at_call 30; refine (rbytes_is _ _ HA).mono ?_; rintro e w1 ⟨rfl, hb1⟩; have hz1 : w.heap.size < w1.heap.size := (by have := hb1.size; (try simp only [World.size_drew] at this); omega); have hB1 : Below w.heap.size w w1 := Below.trans (by first | assumption | (refine Below.drew ?_; assumption)) (hb1.mono (by first | omega | (simp only [World.size_drew]; omega))); have kS : w1.cell? ⟨w.heap.size, 0, none⟩ = some (.int .u8 b0) ∧ w1.cell? ⟨w.heap.size, 1, none⟩ = some (.int .u8 b1) ∧ w1.cell? ⟨w.heap.size, 2, none⟩ = some (.int .u8 b2) ∧ w1.cell? ⟨w.heap.size, 3, none⟩ = some (.int .u8 b3) ∧ w1.cell? ⟨w.heap.size, 4, none⟩ = some (.int .u8 b4) ∧ w1.cell? ⟨w.heap.size, 5, none⟩ = some (.int .u8 b5) ∧ w1.cell? ⟨w.heap.size, 6, none⟩ = some (.int .u8 b6) ∧ w1.cell? ⟨w.heap.size, 7, none⟩ = some (.int .u8 b7) := by (refine ⟨?_, ?_, ?_, ?_, ?_, ?_, ?_, ?_⟩ <;> (refine carry hb1 (by first | omega | (simp only [World.size_drew]; omega)) ?_; simp [go_sem, *])))
      | (go_at_call 31; refine (of_at _ _ _ _ _ _ _ _ _ h0 h1 h2 h3 h4 h5 h6 h7).mono ?_; rintro e w1 ⟨rfl, hb1⟩; have hz1 : w.heap.size < w1.heap.size := (by have := hb1.size; (try simp only [World.size_drew] at this); omega); have hB1 : Below w.heap.size w w1 := Below.trans (by first | assumption | (refine Below.drew ?_; assumption)) (hb1.mono (by first | omega | (simp only [World.size_drew]; omega))); have kS : w1.cell? ⟨w.heap.size, 0, none⟩ = some (.int .u8 b0) ∧ w1.cell? ⟨w.heap.size, 1, none⟩ = some (.int .u8 b1) ∧ w1.cell? ⟨w.heap.size, 2, none⟩ = some (.int .u8 b2) ∧ w1.cell? ⟨w.heap.size, 3, none⟩ = some (.int .u8 b3) ∧ w1.cell? ⟨w.heap.size, 4, none⟩ = some (.int .u8 b4) ∧ w1.cell? ⟨w.heap.size, 5, none⟩ = some (.int .u8 b5) ∧ w1.cell? ⟨w.heap.size, 6, none⟩ = some (.int .u8 b6) ∧ w1.cell? ⟨w.heap.size, 7, none⟩ = some (.int .u8 b7) := by (refine ⟨?_, ?_, ?_, ?_, ?_, ?_, ?_, ?_⟩ <;> (refine carry hb1 (by first | omega | (simp only [World.size_drew]; omega)) ?_; simp [go_sem, *])))
      | (go_at_call 32; refine (rof_any _ _ _ _ _ _ _ _ _ h0 h1 h2 h3 h4 h5 h6 h7).mono ?_; rintro e w1 ⟨rfl, hb1⟩; have hz1 : w.heap.size < w1.heap.size := (by have := hb1.size; (try simp only [World.size_drew] at this); omega); have hB1 : Below w.heap.size w w1 := Below.trans (by first | assumption | (refine Below.drew ?_; assumption)) (hb1.mono (by first | omega | (simp only [World.size_drew]; omega))); have kS : w1.cell? ⟨w.heap.size, 0, none⟩ = some (.int .u8 b0) ∧ w1.cell? ⟨w.heap.size, 1, none⟩ = some (.int .u8 b1) ∧ w1.cell? ⟨w.heap.size, 2, none⟩ = some (.int .u8 b2) ∧ w1.cell? ⟨w.heap.size, 3, none⟩ = some (.int .u8 b3) ∧ w1.cell? ⟨w.heap.size, 4, none⟩ = some (.int .u8 b4) ∧ w1.cell? ⟨w.heap.size, 5, none⟩ = some (.int .u8 b5) ∧ w1.cell? ⟨w.heap.size, 6, none⟩ = some (.int .u8 b6) ∧ w1.cell? ⟨w.heap.size, 7, none⟩ = some (.int .u8 b7) := by (refine ⟨?_, ?_, ?_, ?_, ?_, ?_, ?_, ?_⟩ <;> (refine carry hb1 (by first | omega | (simp only [World.size_drew]; omega)) ?_; simp [go_sem, *]))))
  go_wp2
  go_returns
  exact ⟨rfl, by assumption⟩
end Go.Proofs.Ytfifbkcgaohhbaa
