import Derived.Test.YteldbkdfphkdbaaImE
import Derived.Lib.MakeNoZero
import Derived.Shelf.Bits.Mul64
import Derived.StillTailTactics
import Derived.Deep.RegionWith
namespace Go.Proofs.Yteldbkdfphkdbaa
open Go.RowKit
set_option linter.unusedVariables false
set_option linter.unusedSimpArgs false
/-! bytes.Repeat of one byte; Fill -/
theorem mul64_one (n : Nat) (hn : n ≤ 1048576) (w : World) : Calls Try.prog 69 #[.int .u64 1, .int .u64 n] w fun e w' => e = .returned (.tuple #[.int .u64 0, .int .u64 n]) ∧ w' = w := by
  have hm : bits .and .u64 (n : Int) 4294967295 = (n : Int) := by rw [Go.Proofs.Mul64.maskN n (by omega)]; congr 1; omega
  have hd : (n : Int) / 4294967296 = 0 := by omega
  have hw : IntKind.u64.wrap (n : Int) = (n : Int) := by rw [IntKind.wrap_u64]; omega
  have h0 : (n : Int) ≤ 1048576 := by omega
  have h1 : bits .and .u64 1 4294967295 = 1 := by decide +kernel
  have h2 : bits .and .u64 0 4294967295 = 0 := by decide +kernel
  have h3 : IntKind.u64.wrap 0 = 0 := by decide +kernel
  go_enter Try.func69, Try.ntmps69
  go_wp2_with (fail)
  go_returns
  exact ⟨rfl, rfl⟩
theorem mul_one (n : Nat) (hn : n ≤ 1048576) (w : World) : Calls Try.prog 66 #[.int .u64 1, .int .u64 n] w fun e w' => e = .returned (.tuple #[.int .u64 0, .int .u64 n]) ∧ w' = w := by
  have h := mul64_one n hn w
  go_enter Try.func66, Try.ntmps66
  go_wp2_with (go_at_call 69; refine h.mono ?_; rintro e w1 ⟨rfl, hw_⟩; have hw_ := hw_.symm; subst hw_)
  go_returns
  exact ⟨rfl, rfl⟩
/-- the first bp cells of block g are byte c -/
def Filled (W : World) (g cap bp : Nat) (c : UInt8) : Prop := ∃ cur : Array Value, Bk W g 5 cur ∧ cur.size = cap ∧ ∀ j, j < bp → cur[j]? = some (.int .u8 (c.toNat : Int))
/-- m bytes c are copied behind the bp that stand there -/
theorem copy_more (w : World) (g cap bp m : Nat) (c : UInt8) (hF : Filled w g cap bp c) (sp : Addr) (sLen sCap dLen dCap : Nat) (hm : m = Nat.min sLen dLen) (hsrc : ∀ j, j < m → w.cell? (sp.add j) = some (.int .u8 (c.toNat : Int))) (hfit : bp + m ≤ cap) :
    ∃ w', (Builtin.copy_ #[76, 76] 3 #[.slice (some ⟨g, bp, none⟩) dLen dCap, .slice (some sp) sLen sCap]).run Try.prog w = .ok (goInt m) w' ∧ Filled w' g cap (bp + m) c ∧ Only g w w' := by
  obtain ⟨cur, hB, hs, hc⟩ := hF
  have hl : (u8s (List.replicate m c)).length = m := by rw [u8s_len, List.length_replicate]
  have hrun := run_copy_row (P := Try.prog) w 76 76 3 5 g bp dLen dCap sp sLen sCap cur 5 (u8s (List.replicate m c)) Try.underlying76 size_u8 hB (by rw [hl]; exact hm) (fun j v hv => by
    have hj : j < m := by
      have := (List.getElem?_eq_some_iff.1 hv).1
      rw [hl] at this; exact this
    rw [u8s_at _ j (by rw [List.length_replicate]; exact hj)] at hv
    injection hv with hv
    rw [← hv, List.getElem_replicate]
    exact hsrc j hj) (by rw [hl]; omega) (u8s_one _)
  rw [hl] at hrun
  refine ⟨_, hrun, ⟨_, hB.row _, by simp [hl]; omega, fun j hj => ?_⟩, Only.row g _⟩
  rw [List.getElem?_toArray]
  have ht : (cur.toList.take bp).length = bp := by simp; omega
  by_cases h1 : j < bp
  · rw [List.append_assoc, List.getElem?_append_left (by omega), List.getElem?_take_of_lt h1]
    simpa using hc j h1
  · rw [List.append_assoc, List.getElem?_append_right (by omega), ht, List.getElem?_append_left (by rw [hl]; omega), u8s_at _ _ (by rw [List.length_replicate]; omega), List.getElem_replicate]
set_option maxRecDepth 100000 in
set_option maxHeartbeats 4000000 in
theorem repeat_any (bs n : Nat) (c : UInt8) (w : World) (hc : w.cell? ⟨bs, 0, none⟩ = some (.int .u8 (c.toNat : Int))) (hn : 0 < n) (hn2 : n ≤ 1048576) :
    Calls Try.prog 58 #[.slice (some ⟨bs, 0, none⟩) 1 1, .int .i64 n] w fun e w' => ∃ g cap, e = .returned (.slice (some ⟨g, 0, none⟩) n n) ∧ Filled w' g cap n c ∧ n ≤ cap ∧ Below w.heap.size w w' := by
  have hbs := World.block_lt_of_cell? w ⟨bs, 0, none⟩ hc
  have hbs : bs < w.heap.size := hbs
  have hmul := mul_one n hn2
  have h67 := @run_callFunc_extern Try.prog 67 _ (Extern.BytealgMakeNoZero.makeNoZero #[3] #[76]) Try.func67 (by kernel_rfl) (by kernel_rfl) (by kernel_rfl) (by kernel_rfl)
  obtain ⟨cs, hmk, hcs, _⟩ := Lib.run_makeNoZero (P := Try.prog) w #[3] 76 5 Try.underlying76 n (by omega)
  have i0 : (n : Int) ≤ 1048576 := by omega
  have i1 : (0 : Int) < (n : Int) := by omega
  have i2 : ((n : Int) == 0) = false := by simp; omega
  have hu : IntKind.u64.wrap (n : Int) = (n : Int) := by rw [IntKind.wrap_u64]; omega
  replace hmul := Lib.hid hmul
  obtain ⟨g, hg⟩ : ∃ g, w.heap.size = g := ⟨_, rfl⟩
  obtain ⟨cap, hcap⟩ : ∃ cap, cs.size = cap := ⟨_, rfl⟩
  have hF0 : Filled (w.drew.drew.alloc (.cells cs 5)) g cap 0 c := ⟨cs, by rw [← hg]; exact Bk.fresh w.drew.drew 5 cs, hcap, fun j hj => absurd hj (by omega)⟩
  have hB0 : Below g w (w.drew.drew.alloc (.cells cs 5)) := by rw [← hg]; exact (⟨rfl, rfl, rfl, Nat.le_refl _, fun _ _ => rfl⟩ : Below w.heap.size w w.drew.drew).alloc (Nat.le_refl _) _
  have hc0 : (w.drew.drew.alloc (.cells cs 5)).cell? ⟨bs, 0, none⟩ = some (.int .u8 (c.toNat : Int)) := (hB0.cell (p := ⟨bs, 0, none⟩) (by rw [← hg]; exact hbs)).trans hc
  rw [hg, hcap] at hmk
  rw [hcap] at hcs
  obtain ⟨w2, hr2, hF2, hO2⟩ := copy_more _ g cap 0 1 c hF0 ⟨bs, 0, none⟩ 1 1 n n (by show 1 = min 1 n; omega) (fun j hj => by
    have e : j = 0 := by omega
    subst e
    rw [show ((⟨bs, 0, none⟩ : Addr).add 0) = ⟨bs, 0, none⟩ by unfold Addr.add; split <;> simp_all]
    exact hc0) (by omega)
  have hB2 : Below g w w2 := hB0.trans (hO2.below (Nat.le_refl _) (by rw [← hg]; exact hB0.size))
  have hr2 : (Builtin.copy_ #[76, 76] 3 #[.slice (some ⟨g, 0, none⟩) n n, .slice (some ⟨bs, 0, none⟩) 1 1]).run Try.prog (w.drew.drew.alloc (.cells cs 5)) = .ok (.int .i64 1) w2 := hr2
  obtain ⟨X, hX⟩ : ∃ X, w.drew.drew.alloc (.cells cs 5) = X := ⟨_, rfl⟩
  rw [hX] at hmk hr2
  clear hX hF0 hB0 hc0 hO2 hc hbs
  have hF2 : Filled w2 g cap 1 c := hF2
  replace hF2 := Lib.hid hF2
  replace hB2 := Lib.hid hB2
  replace hcs := Lib.hid hcs
  replace hg := Lib.hid hg
  have hK : ∃ K : Nat, 0 < K ∧ K ≤ n ∧ (8192 < n ∧ K = 8192 ∨ ¬ 8192 < n ∧ K = n) := by
    by_cases h : 8192 < n
    · exact ⟨8192, by decide, by omega, .inl ⟨h, rfl⟩⟩
    · exact ⟨n, hn, Nat.le_refl _, .inr ⟨h, rfl⟩⟩
  obtain ⟨K, hK0, hKn, hKc⟩ := hK
  rcases hKc with ⟨h8, rfl⟩ | ⟨h8, rfl⟩
  · have i8 : (8192 : Int) < (n : Int) := by omega
    go_enter Try.func58, Try.ntmps58
    go_wp2_with (go_at_call 66; refine (hmul.out _).mono ?_; rintro e w1 ⟨rfl, hw_⟩; have hw_ := hw_.symm; subst hw_)
    clear hmk h67 hr2
    go_loopw [10] (fun x wr => ∃ bp : Nat, x = .int .i64 bp ∧ 0 < bp ∧ bp ≤ n ∧ Hid (Filled wr g cap bp c) ∧ Hid (Below g w wr)) (fun x _ => n - (intOf x).toNat)
    case atStart => exact ⟨1, rfl, by decide, hn, hF2, hB2⟩
    case round =>
      obtain ⟨bp, rfl, hb0, hb1, hF, hB⟩ := hrel
      by_cases hb : bp < n
      · have j0 : (bp : Int) < (n : Int) := by omega
        have j1 : (0 : Int) ≤ (bp : Int) := by omega
        have hsrc : ∀ m, m ≤ bp → ∀ j, j < m → (wr.drew).cell? ((⟨g, 0, none⟩ : Addr).add j) = some (.int .u8 (c.toNat : Int)) := by
          intro m hm j hj
          obtain ⟨cur, q1, q2, q3⟩ := hF.out
          rw [show ((⟨g, 0, none⟩ : Addr).add j) = ⟨g, j, none⟩ by unfold Addr.add; split <;> simp_all]
          exact (q1.cell j).trans (q3 j (by omega))
        by_cases hbK : bp ≤ 8192
        · have k0 : (bp : Int) ≤ (8192 : Int) := by omega
          have k1 : min (bp : Int) (8192 : Int) = (bp : Int) := by omega
          obtain ⟨w4, hrun, hF4, hO4⟩ := copy_more wr.drew g cap bp (Nat.min bp (n - bp)) c hF.out ⟨g, 0, none⟩ bp n (n - bp) (n - bp) rfl (hsrc _ (Nat.min_le_left _ _)) (by have := Nat.min_le_right bp (n - bp); have := hcs.out; show bp + min bp (n - bp) ≤ cap; omega)
          obtain ⟨m, hm⟩ : ∃ m, Nat.min bp (n - bp) = m := ⟨_, rfl⟩
          have hm' : min bp (n - bp) = m := hm
          rw [hm] at hrun hF4
          have hB4 : Below g w w4 := hB.out.trans ((⟨rfl, rfl, rfl, Nat.le_refl _, fun _ _ => rfl⟩ : Below g wr wr.drew).trans (hO4.below (Nat.le_refl _) (by rw [← hg.out]; exact Nat.le_trans (by rw [hg.out]; exact Nat.le_refl _) (Nat.le_trans (Nat.le_of_eq (by rw [hg.out] : g = w.heap.size)) hB.out.size))))
          replace hF4 := Lib.hid hF4
          replace hB4 := Lib.hid hB4
          have hm1 : (m : Int) ≤ 1048576 ∧ (bp : Int) + (m : Int) ≤ 1048576 ∧ (0 : Int) ≤ m := by omega
          obtain ⟨hm1, hm2, hm3⟩ := hm1
          have hm4 := Lib.hid (by omega : bp + m ≤ n ∧ n - (bp + m) < n - bp ∧ 0 < bp + m)
          have q1 : IntKind.i64.wrap ((bp : Int) + (m : Int)) = ((bp + m : Nat) : Int) := by rw [IntKind.wrap_i64]; omega
          clear hsrc hm hm' hO4
          go_wp2_with (fail)
          go_region_with (fail)
          all_goals (go_wp2_with (fail))
          all_goals (try go_simp)
          all_goals (
            refine ⟨⟨bp + m, by rw [Int.natCast_add], hm4.out.2.2, hm4.out.1, hF4⟩, ?_⟩
            have h1 : (intOf (Value.int .i64 ((bp : Int) + (m : Int)))).toNat = bp + m := by simp [intOf]; omega
            rw [h1]
            exact hm4.out.2.1)
        · skip
          have k0 : ¬ (bp : Int) ≤ (8192 : Int) := by omega
          have k1 : min (bp : Int) (8192 : Int) = (8192 : Int) := by omega
          obtain ⟨w4, hrun, hF4, hO4⟩ := copy_more wr.drew g cap bp (Nat.min 8192 (n - bp)) c hF.out ⟨g, 0, none⟩ 8192 n (n - bp) (n - bp) rfl (hsrc _ (by have := Nat.min_le_left 8192 (n - bp); exact Nat.le_trans this (by omega))) (by have := Nat.min_le_right 8192 (n - bp); have := hcs.out; show bp + min 8192 (n - bp) ≤ cap; omega)
          obtain ⟨m, hm⟩ : ∃ m, Nat.min 8192 (n - bp) = m := ⟨_, rfl⟩
          have hm' : min 8192 (n - bp) = m := hm
          rw [hm] at hrun hF4
          have hB4 : Below g w w4 := hB.out.trans ((⟨rfl, rfl, rfl, Nat.le_refl _, fun _ _ => rfl⟩ : Below g wr wr.drew).trans (hO4.below (Nat.le_refl _) (by rw [← hg.out]; exact Nat.le_trans (by rw [hg.out]; exact Nat.le_refl _) (Nat.le_trans (Nat.le_of_eq (by rw [hg.out] : g = w.heap.size)) hB.out.size))))
          replace hF4 := Lib.hid hF4
          replace hB4 := Lib.hid hB4
          have hm1 : (m : Int) ≤ 1048576 ∧ (bp : Int) + (m : Int) ≤ 1048576 ∧ (0 : Int) ≤ m := by omega
          obtain ⟨hm1, hm2, hm3⟩ := hm1
          have hm4 := Lib.hid (by omega : bp + m ≤ n ∧ n - (bp + m) < n - bp ∧ 0 < bp + m)
          have q1 : IntKind.i64.wrap ((bp : Int) + (m : Int)) = ((bp + m : Nat) : Int) := by rw [IntKind.wrap_i64]; omega
          clear hsrc hm hm' hO4
          go_wp2_with (fail)
          go_region_with (fail)
          all_goals (go_wp2_with (fail))
          all_goals (try go_simp)
          all_goals (
            refine ⟨⟨bp + m, by rw [Int.natCast_add], hm4.out.2.2, hm4.out.1, hF4⟩, ?_⟩
            have h1 : (intOf (Value.int .i64 ((bp : Int) + (m : Int)))).toNat = bp + m := by simp [intOf]; omega
            rw [h1]
            exact hm4.out.2.1)
      · have e : bp = n := by omega
        subst e
        go_wp2_with (fail)
        go_returns
        exact ⟨g, cap, rfl, hF.out, hcs.out, by rw [hg.out]; exact hB.out⟩
  · have i8 : ¬ (8192 : Int) < (K : Int) := by omega
    go_enter Try.func58, Try.ntmps58
    go_wp2_with (go_at_call 66; refine (hmul.out _).mono ?_; rintro e w1 ⟨rfl, hw_⟩; have hw_ := hw_.symm; subst hw_)
    clear hmk h67 hr2
    go_loopw [10] (fun x wr => ∃ bp : Nat, x = .int .i64 bp ∧ 0 < bp ∧ bp ≤ K ∧ Hid (Filled wr g cap bp c) ∧ Hid (Below g w wr)) (fun x _ => K - (intOf x).toNat)
    case atStart => exact ⟨1, rfl, by decide, hn, hF2, hB2⟩
    case round =>
      obtain ⟨bp, rfl, hb0, hb1, hF, hB⟩ := hrel
      by_cases hb : bp < K
      · have j0 : (bp : Int) < (K : Int) := by omega
        have j1 : (0 : Int) ≤ (bp : Int) := by omega
        have hsrc : ∀ m, m ≤ bp → ∀ j, j < m → (wr.drew).cell? ((⟨g, 0, none⟩ : Addr).add j) = some (.int .u8 (c.toNat : Int)) := by
          intro m hm j hj
          obtain ⟨cur, q1, q2, q3⟩ := hF.out
          rw [show ((⟨g, 0, none⟩ : Addr).add j) = ⟨g, j, none⟩ by unfold Addr.add; split <;> simp_all]
          exact (q1.cell j).trans (q3 j (by omega))
        by_cases hbK : bp ≤ K
        · have k0 : (bp : Int) ≤ (K : Int) := by omega
          have k1 : min (bp : Int) (K : Int) = (bp : Int) := by omega
          obtain ⟨w4, hrun, hF4, hO4⟩ := copy_more wr.drew g cap bp (Nat.min bp (K - bp)) c hF.out ⟨g, 0, none⟩ bp K (K - bp) (K - bp) rfl (hsrc _ (Nat.min_le_left _ _)) (by have := Nat.min_le_right bp (K - bp); have := hcs.out; show bp + min bp (K - bp) ≤ cap; omega)
          obtain ⟨m, hm⟩ : ∃ m, Nat.min bp (K - bp) = m := ⟨_, rfl⟩
          have hm' : min bp (K - bp) = m := hm
          rw [hm] at hrun hF4
          have hB4 : Below g w w4 := hB.out.trans ((⟨rfl, rfl, rfl, Nat.le_refl _, fun _ _ => rfl⟩ : Below g wr wr.drew).trans (hO4.below (Nat.le_refl _) (by rw [← hg.out]; exact Nat.le_trans (by rw [hg.out]; exact Nat.le_refl _) (Nat.le_trans (Nat.le_of_eq (by rw [hg.out] : g = w.heap.size)) hB.out.size))))
          replace hF4 := Lib.hid hF4
          replace hB4 := Lib.hid hB4
          have hm1 : (m : Int) ≤ 1048576 ∧ (bp : Int) + (m : Int) ≤ 1048576 ∧ (0 : Int) ≤ m := by omega
          obtain ⟨hm1, hm2, hm3⟩ := hm1
          have hm4 := Lib.hid (by omega : bp + m ≤ K ∧ K - (bp + m) < K - bp ∧ 0 < bp + m)
          have q1 : IntKind.i64.wrap ((bp : Int) + (m : Int)) = ((bp + m : Nat) : Int) := by rw [IntKind.wrap_i64]; omega
          clear hsrc hm hm' hO4
          go_wp2_with (fail)
          go_region_with (fail)
          all_goals (go_wp2_with (fail))
          all_goals (try go_simp)
          all_goals (
            refine ⟨⟨bp + m, by rw [Int.natCast_add], hm4.out.2.2, hm4.out.1, hF4⟩, ?_⟩
            have h1 : (intOf (Value.int .i64 ((bp : Int) + (m : Int)))).toNat = bp + m := by simp [intOf]; omega
            rw [h1]
            exact hm4.out.2.1)
        · skip
          exact absurd (Nat.le_of_lt hb) hbK
      · have e : bp = K := by omega
        subst e
        go_wp2_with (fail)
        go_returns
        exact ⟨g, cap, rfl, hF.out, hcs.out, by rw [hg.out]; exact hB.out⟩
section
variable {p b : Nat} {L : Lay} {B : List UInt8} {o s : Bool} {mode : Int} {w : World}
theorem fill_neg (x n : Int) (c : UInt8) (hn : n < 0) : Calls Try.prog 46 #[.pointer (some ⟨p, 0, none⟩), .int .i64 mode, .int .i64 x, .int .i64 n, .int .u8 (c.toNat : Int)] w fun e w' => e = .returned (.int .i64 19) ∧ w' = w := by
  go_enter Try.func46, Try.ntmps46
  go_wp2_with (fail)
  go_returns
  exact ⟨rfl, rfl⟩
theorem repeat_zero (bs : Nat) (w : World) : Calls Try.prog 58 #[.slice (some ⟨bs, 0, none⟩) 1 1, .int .i64 0] w fun e w' => (∃ g, e = .returned (.slice (some ⟨g, 0, none⟩) 0 0)) ∧ Below w.heap.size w w' := by
  go_enter Try.func58, Try.ntmps58
  go_wp2_with (fail)
  go_returns
  exact ⟨⟨_, rfl⟩, (Below.refl _ _).alloc (Nat.le_refl _) _⟩
theorem fill_zero (h : Im w p b L B o s) (x : Int) (c : UInt8) : Calls Try.prog 46 #[.pointer (some ⟨p, 0, none⟩), .int .i64 mode, .int .i64 x, .int .i64 0, .int .u8 (c.toNat : Int)] w fun e w' => e = .returned (.int .i64 0) ∧ Below w.heap.size w w' := by
  have hR := Lib.hid (row_zero p b L B o s mode x 2 w h)
  have hrun : ∀ (W : World) g, (Builtin.copy_ #[76, 76] 3 #[.slice none 0 0, .slice (some ⟨g, 0, none⟩) 0 0]).run Try.prog W = .ok (goInt 0) W := fun W g => run_copy_none (P := Try.prog) W 76 76 3 5 none (some ⟨g, 0, none⟩) 0 0 0 0 Try.underlying76 size_u8 rfl
  clear h
  go_enter Try.func46, Try.ntmps46
  go_wp2_with (fail)
  refine hR.out.mono ?_
  rintro e w1 ⟨rfl, hw_⟩
  have hw_ := hw_.symm
  subst hw_
  go_wp2_with (fail)
  refine (repeat_zero _ _).mono ?_
  rintro e w2 ⟨⟨g, rfl⟩, hb⟩
  have hb2 := ((Below.refl w.heap.size w).alloc (Nat.le_refl _) (.cells #[.int .u8 (c.toNat : Int)] 5))
  have hb3 := hb2.trans (hb.mono hb2.size)
  have hr := hrun w2 g
  clear hrun hb hb2
  go_wp2_with (fail)
  go_returns
  exact ⟨rfl, hb3⟩
theorem fill_no (h : Im w p b L B o s) (x n : Int) (c : UInt8) (hn : 0 < n) (hn2 : n ≤ 9223372036854775807) (hx : -9223372036854775808 ≤ x ∧ x ≤ 9223372036854775807) (hok : ¬ rowOk L o s mode x n 2) : Calls Try.prog 46 #[.pointer (some ⟨p, 0, none⟩), .int .i64 mode, .int .i64 x, .int .i64 n, .int .u8 (c.toNat : Int)] w fun e w' => e = .returned (.int .i64 5) ∧ w' = w := by
  have hR := Lib.hid (row_no p b L B o s mode x n 2 w h hn hn2 hx (.inr rfl) hok)
  have h0 : ¬ n < 0 := by omega
  clear h hok
  go_enter Try.func46, Try.ntmps46
  go_wp2_with (fail)
  refine hR.out.mono ?_
  rintro e w1 ⟨rfl, hw_⟩
  have hw_ := hw_.symm
  subst hw_
  go_wp2_with (fail)
  go_returns
  exact ⟨rfl, rfl⟩
set_option maxRecDepth 100000 in
set_option maxHeartbeats 1000000 in
theorem fill_yes (h : Im w p b L B o s) (x n : Nat) (c : UInt8) (hn : 0 < n) (hx : rowOk L o s mode x n 2) : Calls Try.prog 46 #[.pointer (some ⟨p, 0, none⟩), .int .i64 mode, .int .i64 x, .int .i64 n, .int .u8 (c.toNat : Int)] w fun e w' => e = .returned (.int .i64 0) ∧ Im w' p b L (splice B x (List.replicate n c)) o s ∧ Only b w w' := by
  have hR := Lib.hid (row_at h x n 2 hn (.inr rfl) hx)
  have hlx := row_len h.ok hx
  have m := Lay.mono h.ok
  have hn2 : n ≤ 1048576 := by omega
  have h0 : ¬ (n : Int) < 0 := by omega
  have hst := h
  replace hst := Lib.hid hst
  clear h hx
  go_enter Try.func46, Try.ntmps46
  go_wp2_with (fail)
  refine hR.out.mono ?_
  rintro e w1 ⟨rfl, hw_⟩
  have hw_ := hw_.symm
  subst hw_
  go_wp2_with (fail)
  have hb2 := ((Below.refl w.heap.size w).alloc (Nat.le_refl _) (.cells #[.int .u8 (c.toNat : Int)] 5))
  have hc2 := (Bk.fresh w 5 #[.int .u8 (c.toNat : Int)]).cell 0
  refine (repeat_any w.heap.size n c _ hc2 hn hn2).mono ?_
  rintro e w2 ⟨g, cap, rfl, hF, hcap, hb⟩
  have hb3 := hb2.trans (hb.mono hb2.size)
  have hI := hst.out.bel hb3
  obtain ⟨cur, q1, q2, q3⟩ := hF
  have hl : (List.replicate n c).length = n := List.length_replicate
  obtain ⟨w4, hrun, hbk, hon⟩ := copy_u8 (P := Try.prog) w2 76 76 3 5 Try.underlying76 size_u8 (some ⟨b, x, none⟩) (some ⟨g, 0, none⟩) n n n n b x B 5 hI.by_ (List.replicate n c) (by rw [hl]; exact (Nat.min_self n).symm) (fun _ => ⟨rfl, _, rfl, fun j hj => by
    rw [show ((⟨g, 0, none⟩ : Addr).add j) = ⟨g, j, none⟩ by unfold Addr.add; split <;> simp_all]
    rw [q1.cell j, q3 j (by rw [hl] at hj; exact hj), List.getElem_replicate]⟩) (by rw [hl, hI.len]; omega)
  have hend : Im w4 p b L (splice B x (List.replicate n c)) o s := hI.turned hbk hon (splice_len _ _ _ (by rw [hl, hI.len]; omega))
  rw [hl] at hrun
  have hO : Only b w w4 := (Only.of_below hb3 b).trans hon
  replace hend := Lib.hid hend
  replace hO := Lib.hid hO
  clear hbk hon q1 q2 q3 hI hb hb2 hb3 hc2
  go_wp2_with (fail)
  go_returns
  exact ⟨rfl, hend.out, hO.out⟩
end
end Go.Proofs.Yteldbkdfphkdbaa
