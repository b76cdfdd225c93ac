import Derived.Test.YtpbloennjcjgoaaDoorOwn
namespace Go.Proofs.YtpbloennjcjgoaaDoor
open Go.RowKit
set_option linter.unusedVariables false
set_option linter.unusedSimpArgs false
/-- eight bytes, the lowest first -/
def le8 (n : Nat) : List UInt8 := (List.range 8).map fun i => UInt8.ofNat (n / 256 ^ i)
theorem le8_length (n : Nat) : (le8 n).length = 8 := rfl
theorem le8_take (n k : Nat) (hk : k < 8) : (le8 n).take (k + 1) = (le8 n).take k ++ [UInt8.ofNat (n / 256 ^ k)] := by
  rw [List.take_succ_eq_append_getElem (by rw [le8_length]; exact hk)]
  simp [le8]
theorem byte_is (m : Nat) : (((m : Nat) : Int) % 256) = ((UInt8.ofNat m).toNat : Int) := by simp
theorem next_is (n k : Nat) : ((n / 256 ^ k : Nat) : Int) / 256 = ((n / 256 ^ (k + 1) : Nat) : Int) := by
  have : n / 256 ^ (k + 1) = n / 256 ^ k / 256 := by rw [Nat.pow_succ, Nat.div_div_eq_div_mul]
  rw [this]; simp
theorem r16_below_grown {B : Nat} {a w w' : World} {v : Value} {base n size : Nat} {e : TypeId} {xs : List Value} (h : Below B a w) (ho : w.ownsRow base e size v n xs) (hB : B ≤ base) (hs : base ≤ w.heap.size) (hg : w.grownBy w' v.ownBlock) : Below B a w' :=
  h.grown hg (by omega) (fun k e => by have := (ho.lt k e).1; omega)
set_option maxHeartbeats 1000000 in
set_option maxRecDepth 100000 in
theorem laid_any (v : Value) (L : List UInt8) (n base : Nat) (w : World) (hown : w.ownsRow base 5 1 v L.length (u8s L)) (hb : base ≤ w.heap.size) (hL : L.length ≤ 1000000000000) (hn : n < 18446744073709551616) :
    Calls Tryd.prog 34 #[v, .int .u64 n] w fun e w' => ∃ v', e = .returned v' ∧ w'.ownsRow base 5 1 v' (L ++ le8 n).length (u8s (L ++ le8 n)) ∧ Below base w w' := by
  obtain ⟨ti, hj, hy0, hy1, hy2⟩ := info_parts info_u8
  have hown := Lib.hid hown
  go_enter Tryd.func34, Tryd.ntmps34
  go_wp2_with (fail)
  go_loopw [0, 1, 5] (fun v m i wr => ∃ k : Nat, i = .int .i64 k ∧ k ≤ 8 ∧ m = .int .u64 ((n / 256 ^ k : Nat) : Int) ∧ wr.ownsRow base 5 1 v (L ++ (le8 n).take k).length (u8s (L ++ (le8 n).take k)) ∧ Below base w wr) (fun _ _ i _ => 8 - (intOf i).toNat)
  case atStart => exact ⟨0, rfl, by omega, by simp, by simpa using hown.out, Below.refl _ _⟩
  case round =>
    obtain ⟨k, rfl, hk, rfl, ho, hB⟩ := hrel
    have hbs := hB.size
    have hlen : (L ++ (le8 n).take k).length = L.length + k := by rw [List.length_append, List.length_take, le8_length]; omega
    have hlen := Lib.hid hlen
    have ho := Lib.hid ho
    have hB := Lib.hid hB
    have hn2 : n / 256 ^ k < 18446744073709551616 := Nat.lt_of_le_of_lt (Nat.div_le_self _ _) hn
    have hbi := byte_is (n / 256 ^ k)
    have hni := next_is n k
    have htk := le8_take n k
    generalize hm : n / 256 ^ k = m at *
    have hm := Lib.hid hm
    obtain ⟨c, hc⟩ : ∃ c, UInt8.ofNat m = c := ⟨_, rfl⟩
    rw [hc] at hbi
    simp only [hc] at htk
    by_cases h8 : k < 8
    · have i8 : (k : Int) < 8 := by omega
      go_wp2_with (at_builtin; refine wpList_append_own _ rfl (.tmp 7) (.tmp 10) 38 rfl base 5 ti (.int .u8 0) 1 1 Tryd.underlying38 hj hy0 hy1 hy2 rfl (by decide) _ (L ++ (le8 n).take k).length (u8s (L ++ (le8 n).take k)) rfl (ho.out.alloc _) ⟨wr.heap.size, 0, none⟩ 1 1 (u8s [c]) rfl rfl ?c1 ?c2 (by rw [hlen.out]; unfold maxLen; omega) (by rw [hlen.out]; omega) (by simp; omega) ?_)
      case c1 =>
        intro j u hj
        match j, hj with
        | 0, hj => simp [u8s] at hj; subst hj; simp [Addr.add]
      case c2 => intro u hu; simp [u8s] at hu; subst hu; rfl
      intro v' w' hown' hgr _
      have hl1 : (L ++ (le8 n).take (k + 1)).length = (L ++ (le8 n).take k).length + 1 := by
        simp only [List.length_append, List.length_take, le8_length]; omega
      have he : u8s (L ++ (le8 n).take (k + 1)) = u8s (L ++ (le8 n).take k) ++ u8s [c] := by
        rw [u8s_append, htk h8, List.append_assoc]
      have hB' := r16_below_grown (hB.out.alloc (by omega) (.cells (u8s [c]).toArray 5)) (ho.out.alloc _) (Nat.le_refl _) (by simp; omega) hgr
      have hown2 : w'.ownsRow base 5 1 v' (L ++ (le8 n).take (k + 1)).length (u8s (L ++ (le8 n).take (k + 1))) := by
        rw [hl1, hlen.out, he]; exact hown'
      clear hown' hgr hl1 he
      have hown2 := Lib.hid hown2
      go_wp2
      exact ⟨⟨k + 1, by go_num, by omega, rfl, hown2.out, hB'⟩, by simp [intOf]; omega⟩
    · have e8 : k = 8 := by omega
      subst e8
      have htk : (le8 n).take 8 = le8 n := rfl
      go_wp2_with (fail)
      go_returns
      have ho := ho.out
      rw [htk] at ho
      exact ⟨_, rfl, ho, hB.out⟩
theorem wrapu (x : Int) : IntKind.u64.wrap x = x % 18446744073709551616 := by
  simp [IntKind.wrap, IntKind.bits, IntKind.signed]
/-- the sum of bytes -/
def sumL (l : List UInt8) : Nat := l.foldl (fun n c => (n * 131 + c.toNat) % 18446744073709551616) 0
theorem sumL_lt (l : List UInt8) : sumL l < 18446744073709551616 := by
  unfold sumL
  rcases List.eq_nil_or_concat l with rfl | ⟨m, c, rfl⟩
  · decide
  · rw [List.concat_eq_append, List.foldl_append]; exact Nat.mod_lt _ (by decide)
theorem sumL_next (l : List UInt8) (k : Nat) (hk : k < l.length) : sumL (l.take (k + 1)) = (sumL (l.take k) * 131 + l[k].toNat) % 18446744073709551616 := by
  rw [List.take_succ_eq_append_getElem hk]
  unfold sumL
  rw [List.foldl_append]; rfl
set_option maxHeartbeats 1000000 in
set_option maxRecDepth 100000 in
theorem sum_any (g off c : Nat) (l : List UInt8) (w : World) (hc : ∀ j (h : j < l.length), w.cell? ⟨g, off + j, none⟩ = some (.int .u8 (l[j].toNat : Int))) (hl : l.length ≤ 1000000000000) :
    Calls Tryd.prog 35 #[.slice (some ⟨g, off, none⟩) l.length c] w fun e w' => e = .returned (.int .u64 (sumL l)) ∧ w' = w := by
  have hcx := Lib.hid hc
  clear hc
  go_enter Tryd.func35, Tryd.ntmps35
  go_wp2_with (fail)
  go_loop [3, 8] (fun n i => ∃ k : Nat, i = .int .i64 k ∧ k ≤ l.length ∧ n = .int .u64 ((sumL (l.take k) : Nat) : Int)) (fun _ i => l.length - (intOf i).toNat)
  case atStart => exact ⟨0, rfl, by omega, rfl⟩
  case round =>
    obtain ⟨k, rfl, hk, rfl⟩ := hrel
    have k0 : (0 : Int) ≤ k := by omega
    by_cases hlt : k < l.length
    · have k1 : (k : Int) < l.length := by omega
      have hx := hcx.out k hlt
      have hn := Lib.hid (sumL_next l k hlt)
      have h1 := sumL_lt (l.take k)
      generalize sumL (l.take k) = m at *
      obtain ⟨c, hc⟩ : ∃ c, l[k] = c := ⟨_, rfl⟩
      rw [hc] at hx hn
      have hc := Lib.hid hc
      go_wp2_with (fail)
      refine ⟨⟨k + 1, by go_num, by omega, ?_⟩, by simp [intOf]; omega⟩
      rw [hn.out, wrapu, wrapu, wrapu]
      congr 1
      have := c.toNat_lt
      simp only [Int.emod_add_emod, Int.add_emod_emod]
      omega
    · have e : k = l.length := by omega
      subst e
      have ht : l.take l.length = l := List.take_length
      have ht := Lib.hid ht
      go_wp2_with (fail)
      go_returns
      exact ⟨rfl, rfl⟩
end Go.Proofs.YtpbloennjcjgoaaDoor
