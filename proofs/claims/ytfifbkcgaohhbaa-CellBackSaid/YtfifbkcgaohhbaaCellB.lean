import Derived.Test.YtfifbkcgaohhbaaCellA
import Derived.Test.YtfifbkcgaohhbaaCellP
import Derived.Lib.Hide
import Derived.Shelf.Spec.BitsCarry
import Derived.Deep.DeepCutAuto
import Derived.Deep.CutBlock
namespace Go.Proofs.Ytfifbkcgaohhbaa
open Go.RowKit
set_option linter.unusedVariables false
set_option linter.unusedSimpArgs false
def DivP (a b Y u v1 v0 : Int) (s : Nat) (w : World) (e : Ending) (w' : World) : Prop := ∃ Q R, DivD a b Y u v1 v0 s Q R ∧ e = .returned (.tuple #[.int .u64 Q, .int .u64 R]) ∧ w' = w
set_option maxHeartbeats 1000000 in
theorem div64_a (hi lo y Y a b u v v1 v0 q1 r1 : Int) (w : World) (h0 : 0 < hi) (h1 : hi < y) (h2 : y < 18446744073709551616) (h3 : 0 ≤ lo) (h4 : lo < 18446744073709551616) (s : Nat) (hs : s ≤ 63)
    (hl : 64 - (Lib.bitLen y.toNat : Int) = s) (e1 : IntKind.u64.wrap (y * 2 ^ s) = Y) (e2 : Y / 4294967296 = a) (e3 : bits .and .u64 Y 4294967295 = b)
    (e4 : bits .or .u64 (IntKind.u64.wrap (hi * 2 ^ s)) (lo / 2 ^ (64 - s)) = u) (e5 : IntKind.u64.wrap (lo * 2 ^ s) = v) (e6 : v / 4294967296 = v1) (e7 : bits .and .u64 v 4294967295 = v0)
    (e8 : u / a = q1) (e9 : IntKind.u64.wrap (u - IntKind.u64.wrap (q1 * a)) = r1) (ha0 : 2147483648 ≤ a) (ha1 : a ≤ 4294967295) (hu0 : 0 ≤ u) (hu1 : u ≤ 18446744073709551615) (hv0 : 0 ≤ v1) (hv1 : v1 ≤ 4294967295) (hb0 : 0 ≤ b) (hb1 : b ≤ 4294967295) (hYe : Y = a * 4294967296 + b) (hY1 : Y ≤ 18446744073709551615) (hv00 : 0 ≤ v0) (hv01 : v0 ≤ 4294967295) 
    (huY : u < Y) (kn : Kn a b u v1 q1 r1) :
    Calls Try.prog 39 #[.int .u64 hi, .int .u64 lo, .int .u64 y] w (DivP a b Y u v1 v0 s w) := by
  have HL := Lib.hid hl; clear hl
  have HY := Lib.hid hYe
  have hY0 : 0 ≤ a * 4294967296 + b := by omega
  have hY : u * 4294967296 + v1 < 4294967296 * (a * 4294967296 + b) := by omega
  clear hYe
  have g1 : (y == 0) = false := beq_eq_false_iff_ne.2 (by omega)
  have g2 : (hi == 0) = false := beq_eq_false_iff_ne.2 (by omega)
  go_enter Try.func39, Try.ntmps39
  go_wp2_with (fail)
  refine (Try.bits_LeadingZeros64 _ _ (by omega) (by omega)).mono ?_
  rintro e w' ⟨rfl, rfl⟩
  rw [HL.out]
  go_upto_block 0 with (fail)
  go_cut [15, 16] (fun q r wx => wx = w' ∧ ∃ q' : Int, q = .int .u64 q' ∧ Kd a b u v1 q')
  case first =>
    go_wp2
    go_loop [15, 16] (fun q r => ∃ q' r' : Int, q = .int .u64 q' ∧ r = .int .u64 r' ∧ Kn a b u v1 q' r') (fun q _ => (intOf q).toNat)
    case atStart => exact ⟨q1, r1, by rw [e8], rfl, kn⟩
    case round =>
      obtain ⟨q, r, rfl, rfl, k⟩ := hrel
      clear kn e8 e9 e1 e2 e3 e4 e5 e6 e7 h0 h1 h2 h3 h4 g1 g2
      obtain ⟨p0, p1⟩ := k.prod hb0 hb1
      have k0 := k.q0
      have k1 := k.q1
      have k2 := k.r0
      have k3 := k.r1
      by_cases c1 : 4294967296 ≤ q
      · have kl := k.less hv0 hY hY0 (.inl c1)
        have k4 := kl.2
        by_cases c3 : 4294967296 ≤ r + a
        · have KD := Lib.hid (k.last kl hb0 hb1 hv0 hY (by omega) c3)
          clear k kl
          go_wp2
          go_meet
          case rel => exact ⟨rfl, _, rfl, KD.out⟩
        · have KN := Lib.hid (k.next kl (by omega) (by omega))
          clear kl k
          go_wp2
          go_round
          case rel => exact ⟨_, _, rfl, rfl, KN.out⟩
          case measure => simp [intOf]; omega
      · by_cases c2 : 4294967296 * r + v1 < q * b
        · have kl := k.less hv0 hY hY0 (.inr c2)
          have k4 := kl.2
          by_cases c3 : 4294967296 ≤ r + a
          · have KD := Lib.hid (k.last kl hb0 hb1 hv0 hY (by omega) c3)
            clear k kl
            go_wp2
            go_meet
            case rel => exact ⟨rfl, _, rfl, KD.out⟩
          · have KN := Lib.hid (k.next kl (by omega) (by omega))
            clear kl k
            go_wp2
            go_round
            case rel => exact ⟨_, _, rfl, rfl, KN.out⟩
            case measure => simp [intOf]; omega
        · have KD := Lib.hid (k.done (by omega) (by omega))
          clear k
          go_wp2
          go_meet
          case rel => exact ⟨rfl, _, rfl, KD.out⟩
  case rest =>
    obtain ⟨rfl, q, rfl, kd⟩ := hcut
    clear kn e8 e9 e1 e2 e3 e4 e5 e6 e7 h1 h2 h3 h4 g1 g2 HL
    obtain ⟨x0, x1, ex⟩ := kd.rest HY.out hY1
    obtain ⟨x, hx⟩ : ∃ x, x = u * 4294967296 + v1 - q * Y := ⟨_, rfl⟩
    rw [← hx] at x0 x1 ex
    have HX := Lib.hid hx
    clear hx
    have xa : x < a * 4294967296 + b := by rw [← HY.out]; exact x1
    have xb : x ≤ 18446744073709551615 := by omega
    have kn := Kn.start ha0 ha1 x0 xa hb0 hb1 hv00 hv01
    have er := Kn.left ha0 ha1 x0 xb
    obtain ⟨q2, e8⟩ : ∃ q2, x / a = q2 := ⟨_, rfl⟩
    obtain ⟨r2, e9⟩ : ∃ r2, x % a = r2 := ⟨_, rfl⟩
    rw [e8, e9] at kn
    rw [e8, e9] at er
    clear e9
    go_upto_block 2 with (fail)
    have hY2 : x * 4294967296 + v0 < 4294967296 * (a * 4294967296 + b) := by omega
    go_cut [18] (fun z wx => wx = wc ∧ ∃ q' : Int, z = .int .u64 q' ∧ Kd a b x v0 q')
    case first =>
      go_wp2
      go_loop [18, 16] (fun q r => ∃ q' r' : Int, q = .int .u64 q' ∧ r = .int .u64 r' ∧ Kn a b x v0 q' r') (fun q _ => (intOf q).toNat)
      case atStart => exact ⟨q2, r2, by rw [e8], rfl, kn⟩
      case round =>
        obtain ⟨q, r, rfl, rfl, k⟩ := hrel
        clear kn e8 er ex kd
        obtain ⟨p0, p1⟩ := k.prod hb0 hb1
        have k0 := k.q0
        have k1 := k.q1
        have k2 := k.r0
        have k3 := k.r1
        by_cases c1 : 4294967296 ≤ q
        · have kl := k.less hv00 hY2 hY0 (.inl c1)
          have k4 := kl.2
          by_cases c3 : 4294967296 ≤ r + a
          · have KD := Lib.hid (k.last kl hb0 hb1 hv00 hY2 (by omega) c3)
            clear k kl
            go_wp2
            go_meet
            case rel => exact ⟨rfl, _, rfl, KD.out⟩
          · have KN := Lib.hid (k.next kl (by omega) (by omega))
            clear kl k
            go_wp2
            go_round
            case rel => exact ⟨_, _, rfl, rfl, KN.out⟩
            case measure => simp [intOf]; omega
        · by_cases c2 : 4294967296 * r + v0 < q * b
          · have kl := k.less hv00 hY2 hY0 (.inr c2)
            have k4 := kl.2
            by_cases c3 : 4294967296 ≤ r + a
            · have KD := Lib.hid (k.last kl hb0 hb1 hv00 hY2 (by omega) c3)
              clear k kl
              go_wp2
              go_meet
              case rel => exact ⟨rfl, _, rfl, KD.out⟩
            · have KN := Lib.hid (k.next kl (by omega) (by omega))
              clear kl k
              go_wp2
              go_round
              case rel => exact ⟨_, _, rfl, rfl, KN.out⟩
              case measure => simp [intOf]; omega
          · have KD := Lib.hid (k.done (by omega) (by omega))
            clear k
            go_wp2
            go_meet
            case rel => exact ⟨rfl, _, rfl, KD.out⟩
    case rest =>
      obtain ⟨rfl, q0, rfl, kd2⟩ := hcut
      obtain ⟨y0, y1, ey⟩ := kd2.rest HY.out hY1
      have k0 := kd.q0
      have k1 := kd.q1
      have k2 := kd2.q0
      have k3 := kd2.q1
      clear ex er e8
      go_wp2
      refine bodyPost_ret (results_tmp2 rfl _ _ _) rfl ?_
      exact ⟨_, _, ⟨_, _, _, kd, HX.out, kd2, rfl, rfl⟩, rfl, rfl⟩
theorem div64_0 (lo y : Int) (w : World) (h1 : 0 < y) (h2 : y < 18446744073709551616) (h3 : 0 ≤ lo) (h4 : lo ≤ 18446744073709551615) :
    Calls Try.prog 39 #[.int .u64 0, .int .u64 lo, .int .u64 y] w fun e w' => e = .returned (.tuple #[.int .u64 (lo / y), .int .u64 (lo % y)]) ∧ ∃ n, w' = w.drewN n := by
  have g1 : (y == 0) = false := beq_eq_false_iff_ne.2 (by omega)
  have g3 : ¬ y = 0 := by omega
  go_enter Try.func39, Try.ntmps39
  go_wp2
  go_quiet (fail)
  go_wp2
  go_ret2
  exact ⟨rfl, _, rfl⟩
/-- bits.Div64 where there is a quotient -/
theorem div64 (hi lo y : Int) (w : World) (h0 : 0 ≤ hi) (h1 : hi < y) (h2 : y < 18446744073709551616) (h3 : 0 ≤ lo) (h4 : lo < 18446744073709551616) :
    Calls Try.prog 39 #[.int .u64 hi, .int .u64 lo, .int .u64 y] w fun e w' => e = .returned (.tuple #[.int .u64 (quoW hi lo y), .int .u64 (remW hi lo y)]) ∧ ∃ n, w' = w.drewN n := by
  by_cases hz : hi = 0
  · subst hz
    have e1 : quoW 0 lo y = lo / y := by unfold quoW; rw [Int.zero_mul, Int.zero_add]
    have e2 : remW 0 lo y = lo % y := by unfold remW; rw [Int.zero_mul, Int.zero_add]
    rw [e1, e2]
    exact div64_0 lo y w h1 h2 h3 (by omega)
  · obtain ⟨s, Y, a, b, u, v, v1, v0, hs, f1, f2, f3, f4, f5, f6, f7, f8, f9, f10, f11, f12, f13, f14, f15, f16, f17, f18, f19, f20, f21, f22, f23⟩ := div_facts hi lo y (by omega) h1 h2 h3 h4
    refine (div64_a hi lo y Y a b u v v1 v0 (u / a) (u % a) w (by omega) h1 h2 h3 h4 s hs f1 f2 f3 f4 f5 f6 f7 f8 rfl (Kn.left f9 f10 f11 (by omega)) f9 f10 f11 (by omega) f12 f13 f14 f15 f16 f17 f18 f19 f20 (Kn.start f9 f10 f11 (by omega) f14 f15 f12 f13)).mono ?_
    rintro e w' ⟨Q, R, hd, rfl, rfl⟩
    obtain ⟨rfl, rfl⟩ := hd.is (by omega) f16 f21 f17 f22 f23
    exact ⟨rfl, 0, rfl⟩
theorem udivide_no (lo hi n : Int) (w : World) (h : ¬ IntKind.u64.wrap hi < IntKind.u64.wrap n) :
    Calls Try.prog 33 #[.agg #[.int .i64 lo, .int .i64 hi], .int .i64 n] w fun e w' => e = .returned (.tuple #[.int .i64 0, .int .i64 0, .int .i64 7]) ∧ Below w.heap.size w w' := by
  go_enter Try.func33, Try.ntmps33
  go_wp2
  go_returns
  exact ⟨rfl, by go_grown⟩
theorem udivide_yes (lo hi n : Int) (w : World) (h : IntKind.u64.wrap hi < IntKind.u64.wrap n) :
    Calls Try.prog 33 #[.agg #[.int .i64 lo, .int .i64 hi], .int .i64 n] w fun e w' => e = .returned (.tuple #[.int .i64 (wrap64 (quoW (IntKind.u64.wrap hi) (IntKind.u64.wrap lo) (IntKind.u64.wrap n))), .int .i64 (wrap64 (remW (IntKind.u64.wrap hi) (IntKind.u64.wrap lo) (IntKind.u64.wrap n))), .int .i64 0]) ∧ Below w.heap.size w w' := by
  obtain ⟨a0, a1⟩ := isU_wrap hi
  obtain ⟨b0, b1⟩ := isU_wrap lo
  obtain ⟨c0, c1⟩ := isU_wrap n
  go_enter Try.func33, Try.ntmps33
  go_wp2_with (fail)
  refine (div64 _ _ _ _ a0 h c1 b0 b1).mono ?_
  rintro e w' ⟨rfl, m, rfl⟩
  go_wp2
  go_returns
  exact ⟨rfl, by refine below_drewN ?_ _; go_grown⟩

/-- the model's own entry for bits.Sub64 -/
theorem sub64 (x y b : Nat) (hb : b ≤ 1) (w : World) : (callFunc 46 #[.int .u64 x, .int .u64 y, .int .u64 b]).run Try.prog w =
      .ok (.value (.tuple #[.int .u64 (((x + 18446744073709551616 - y - b) % 18446744073709551616 : Nat) : Int), .int .u64 ((if x < y + b then 1 else 0 : Nat) : Int)])) w := by
  rw [run_callFunc_extern Try.func46 (by kernel_rfl) (by kernel_rfl) (by kernel_rfl) (e := sub64Entry) (by kernel_rfl), run_sub64 x y b hb]
  rfl
/-- the borrow, the two halves of the opposite wide -/
def oBor (lo : Int) : Int := if IntKind.u64.wrap lo = 0 then 0 else 1
def oLo (lo : Int) : Int := -IntKind.u64.wrap lo % 18446744073709551616
def oHi (lo hi : Int) : Int := (-IntKind.u64.wrap hi - oBor lo) % 18446744073709551616
theorem sub_lo (lo : Int) (w : World) : (callFunc 46 #[.int .u64 0, .int .u64 (IntKind.u64.wrap lo), .int .u64 0]).run Try.prog w = .ok (.value (.tuple #[.int .u64 (oLo lo), .int .u64 (oBor lo)])) w := by
  obtain ⟨a0, a1⟩ := isU_wrap lo
  unfold oLo oBor
  obtain ⟨n, hn⟩ := Int.eq_ofNat_of_zero_le a0
  rw [hn] at a1 ⊢
  have h := sub64 0 n 0 (by omega) w
  rw [show ((0 : Nat) : Int) = 0 from rfl] at h
  rw [h]
  have e1 : (((0 + 18446744073709551616 - n - 0) % 18446744073709551616 : Nat) : Int) = -(n : Int) % 18446744073709551616 := by omega
  have e2 : ((if 0 < n + 0 then 1 else 0 : Nat) : Int) = if (n : Int) = 0 then 0 else 1 := by split <;> split <;> omega
  rw [e1, e2]
theorem oBor_is (lo : Int) : ∃ b : Nat, oBor lo = b ∧ b ≤ 1 := by
  unfold oBor
  split
  · exact ⟨0, rfl, by omega⟩
  · exact ⟨1, rfl, by omega⟩
theorem sub_hi (lo hi : Int) (w : World) : (callFunc 46 #[.int .u64 0, .int .u64 (IntKind.u64.wrap hi), .int .u64 (oBor lo)]).run Try.prog w = .ok (.value (.tuple #[.int .u64 (oHi lo hi), .int .u64 (if 0 < IntKind.u64.wrap hi + oBor lo then 1 else 0)])) w := by
  obtain ⟨a0, a1⟩ := isU_wrap hi
  unfold oHi
  obtain ⟨n, hn⟩ := Int.eq_ofNat_of_zero_le a0
  obtain ⟨b, hb, hb1⟩ : ∃ b : Nat, oBor lo = b ∧ b ≤ 1 := oBor_is lo
  rw [hn] at a1 ⊢
  rw [hb]
  have h := sub64 0 n b hb1 w
  rw [show ((0 : Nat) : Int) = 0 from rfl] at h
  rw [h]
  have e1 : (((0 + 18446744073709551616 - n - b) % 18446744073709551616 : Nat) : Int) = (-(n : Int) - b) % 18446744073709551616 := by omega
  have e2 : ((if 0 < n + b then 1 else 0 : Nat) : Int) = if 0 < (n : Int) + b then 1 else 0 := by split <;> split <;> omega
  rw [e1, e2]
theorem opposite_any (lo hi : Int) (w : World) :
    Calls Try.prog 44 #[.agg #[.int .i64 lo, .int .i64 hi]] w fun e w' => e = .returned (.agg #[.int .i64 (wrap64 (oLo lo)), .int .i64 (wrap64 (oHi lo hi))]) ∧ Below w.heap.size w w' := by
  have h1 := sub_lo lo
  obtain ⟨c, hc⟩ : ∃ c, c = (if 0 < IntKind.u64.wrap hi + oBor lo then 1 else 0 : Int) := ⟨_, rfl⟩
  have h2 := sub_hi lo hi
  rw [← hc] at h2
  clear hc
  go_enter Try.func44, Try.ntmps44
  go_wp2
  go_returns
  exact ⟨rfl, by go_grown⟩

/-- the quotient, what is left, the fault: of a wide by a cell without signs -/
def uq (lo hi n : Int) : Int := if IntKind.u64.wrap hi < IntKind.u64.wrap n then wrap64 (quoW (IntKind.u64.wrap hi) (IntKind.u64.wrap lo) (IntKind.u64.wrap n)) else 0
def ur (lo hi n : Int) : Int := if IntKind.u64.wrap hi < IntKind.u64.wrap n then wrap64 (remW (IntKind.u64.wrap hi) (IntKind.u64.wrap lo) (IntKind.u64.wrap n)) else 0
def uf (hi n : Int) : Int := if IntKind.u64.wrap hi < IntKind.u64.wrap n then 0 else 7
theorem udivide_any (lo hi n : Int) (w : World) :
    Calls Try.prog 33 #[.agg #[.int .i64 lo, .int .i64 hi], .int .i64 n] w fun e w' => e = .returned (.tuple #[.int .i64 (uq lo hi n), .int .i64 (ur lo hi n), .int .i64 (uf hi n)]) ∧ Below w.heap.size w w' := by
  unfold uq ur uf
  by_cases h : IntKind.u64.wrap hi < IntKind.u64.wrap n
  · rw [if_pos h, if_pos h, if_pos h]; exact udivide_yes lo hi n w h
  · rw [if_neg h, if_neg h, if_neg h]; exact udivide_no lo hi n w h
end Go.Proofs.Ytfifbkcgaohhbaa
