import Derived.Test.YteldbkdfphkdbaaImZj
import Derived.Test.YteldbkdfphkdbaaPick
namespace Go.Proofs.Yteldbkdfphkdbaa
open Go.RowKit
set_option linter.unusedVariables false
set_option linter.unusedSimpArgs false
/-! place: an address that an op speaks of -/
section
variable {v0 w : World} {F : List (Nat × TypeId × Array Value)} {pp p b p2 b2 : Nat} {L : Lay} {B B2 : List UInt8} {o s o2 s2 : Bool}
theorem inI_wrap64 (n : Int) : inI (wrap64 n) := by unfold inI wrap64; omega
theorem inI_mod (f : Nat) (n : Int) (h : (f : Int) ≤ 143360) : inI ((f : Int) + n % 1024) := by unfold inI; omega
set_option maxRecDepth 100000 in
set_option maxHeartbeats 4000000 in
theorem place_any (h : Tw ⟨v0, (pp, 71, #[.pointer (some ⟨p, 0, none⟩), .pointer (some ⟨p2, 0, none⟩)]) :: F⟩ w p b p2 b2 L B o s B2 o2 s2) (o0 o1 o3 o4 o5 o6 o7 r n : Int) (fr : Bool) (tx : ByteArray) (hr : inI r) (hn : inI n) :
    Calls Try.prog 47 #[.pointer (some ⟨pp, 0, none⟩), .agg #[.int .i64 o0, .int .i64 o1, .int .i64 o3, .int .i64 o4, .int .i64 o5, .int .i64 o6, .int .i64 o7, .bool fr, .string tx], .int .i64 r, .int .i64 n] w fun e w' => ∃ v, e = .returned (.int .i64 v) ∧ inI v ∧ Hid (Tw ⟨v0, (pp, 71, #[.pointer (some ⟨p, 0, none⟩), .pointer (some ⟨p2, 0, none⟩)]) :: F⟩ w' p b p2 b2 L B o s B2 o2 s2) := by
  have hpk := fun W => pick_any r 5 W hr.1 hr.2 (by decide) (by decide)
  have hlt := pickN_lt r 5 (by decide)
  simp only [show (5 : Int).toNat = 5 from rfl] at hpk
  generalize pickN r 5 = k at *
  have hsp := fun (W : World) (hW : Below w.heap.size w W) => rspan_any (h.rf.bel hW) (1 + (k : Int))
  have hb := Lay.from_le h.rf.ok (1 + (k : Int))
  have hm := Lay.mono h.rf.ok
  obtain ⟨f, hf⟩ : ∃ f, L.from_ (1 + (k : Int)) = f := ⟨_, rfl⟩
  obtain ⟨t, ht⟩ : ∃ t, L.to_ (1 + (k : Int)) = t := ⟨_, rfl⟩
  rw [hf, ht] at hb
  simp only [hf, ht] at hsp
  have f0 : (f : Int) ≤ 143360 := by omega
  have t0 : (t : Int) ≤ 143360 := by omega
  have hwr : IntKind.i64.wrap (1 + (k : Int)) = 1 + (k : Int) := by rw [IntKind.wrap_i64]; omega
  have hP := h.top
  have hlp := hP.lt
  replace h := Lib.hid h
  replace hpk := Lib.hid hpk
  replace hsp := Lib.hid hsp
  clear hm hb hr
  have hX := Lib.hid (h.out.bel ((Below.refl _ _).alloc (Nat.le_refl _) (.cells #[.int .i64 o0, .int .i64 o1, .int .i64 o3, .int .i64 o4, .int .i64 o5, .int .i64 o6, .int .i64 o7, .bool fr, .string tx] 62)))
  cases fr
  · go_enter Try.func47, Try.ntmps47
    go_wp2_with (fail)
    obtain ⟨X, hXe⟩ : ∃ X, w.alloc (.cells #[.int .i64 o0, .int .i64 o1, .int .i64 o3, .int .i64 o4, .int .i64 o5, .int .i64 o6, .int .i64 o7, .bool false, .string tx] 62) = X := ⟨_, rfl⟩
    have hlX := Lib.hid (by rw [← hXe]; exact (Below.refl _ _).alloc (Nat.le_refl _) _ : Below w.heap.size w X)
    rw [hXe] at hX ⊢
    clear hXe
    have c1 := hX.out.top.cell 1
    simp at c1
    have hsp2 := Lib.hid (fun (W : World) (hW : Tw ⟨v0, (pp, 71, #[.pointer (some ⟨p, 0, none⟩), .pointer (some ⟨p2, 0, none⟩)]) :: F⟩ W p b p2 b2 L B o s B2 o2 s2) => rspan_any hW.rf (1 + (k : Int)))
    simp only [hf, ht] at hsp2
    clear hsp
    go_region_held3 (fun w' => w'.cell? ⟨pp, 1, none⟩ = some (.pointer (some ⟨p2, 0, none⟩))) ((simp [go_sem, *]))
      (first
        | (go_at_call 22; (with_reducible refine Calls.mono (hpk.out _) ?_); rintro e w1_ ⟨rfl, hw_⟩; replace hX := Lib.hid (by rw [hw_]; first | exact hX.out | exact hX.out.drew : Tw ⟨v0, (pp, 71, #[.pointer (some ⟨p, 0, none⟩), .pointer (some ⟨p2, 0, none⟩)]) :: F⟩ w1_ p b p2 b2 L B o s B2 o2 s2); clear hw_; have kS : w1_.cell? ⟨pp, 1, none⟩ = some (.pointer (some ⟨p2, 0, none⟩)) := hX.out.top.cell 1)
        | (go_at_call 16; (with_reducible refine Calls.mono (hsp2.out _ (by first | exact hX.out | exact hX.out.drew)) ?_); rintro e w1_ ⟨rfl, hb1⟩; replace hX := Lib.hid (by first | exact hX.out.bel hb1 | exact hX.out.drew.bel hb1 : Tw ⟨v0, (pp, 71, #[.pointer (some ⟨p, 0, none⟩), .pointer (some ⟨p2, 0, none⟩)]) :: F⟩ w1_ p b p2 b2 L B o s B2 o2 s2); clear hb1; have kS : w1_.cell? ⟨pp, 1, none⟩ = some (.pointer (some ⟨p2, 0, none⟩)) := hX.out.top.cell 1))
    by_cases hn0 : n < 0
    · go_wp2_with (fail)
      go_returns
      exact ⟨_, rfl, inI_wrap64 _, hX⟩
    · go_wp2_with (fail)
      go_returns
      exact ⟨_, rfl, inI_mod _ _ f0, hX⟩
  · go_enter Try.func47, Try.ntmps47
    go_wp2_with (fail)
    go_returns
    exact ⟨n, rfl, hn, hX⟩
end
end Go.Proofs.Yteldbkdfphkdbaa
