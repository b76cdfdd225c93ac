import Derived.Test.YtkopgjdnfjgbjaaStS
namespace Go.Proofs.Ytkopgjdnfjgbjaa
open Go.RowKit
set_option linter.unusedVariables false
set_option linter.unusedSimpArgs false
/-! both: the stacks, and the document's -/
def updX (xs : Nat → List Int) (r : Nat) (ys : List Int) : Nat → List Int := fun i => if i = r then ys else xs i
theorem updX_same (xs : Nat → List Int) (r : Nat) (ys : List Int) : updX xs r ys r = ys := by simp [updX]
theorem updX_other (xs : Nat → List Int) (r i : Nat) (ys : List Int) (h : i ≠ r) : updX xs r ys i = xs i := by simp [updX, h]
theorem rgOf_g (a : Ads) (h : a.g4 ≠ a.g5) (i k : Nat) (hi : i < 3) (hk : k < 3) : (rgOf i = rgOf k → a.g i = a.g k) ∧ (rgOf i ≠ rgOf k → a.g i ≠ a.g k) := by
  rcases (by omega : i = 0 ∨ i = 1 ∨ i = 2) with rfl | rfl | rfl <;> rcases (by omega : k = 0 ∨ k = 1 ∨ k = 2) with rfl | rfl | rfl <;> simp [rgOf, Ads.g, h, Ne.symm h]
section
variable {w0 W W' : World} {a : Ads} {L : Lay} {B B' : List UInt8} {d dr : Nat → Nat} {xs : Nat → List Int}
theorem Rs.draws (h : Rs w0 W a xs d) (n : Nat) : Rs w0 (W.drewN n) a xs d := h.bel ⟨rfl, rfl, rfl, Nat.le_refl _, fun _ _ => rfl⟩
theorem Rs.congr {xs' : Nat → List Int} (h : Rs w0 W a xs d) (he : ∀ k, k < 3 → xs (rgOf k) = xs' (rgOf k)) : Rs w0 W a xs' d := ⟨fun k hk => by rw [← he k hk]; exact h.q k hk, h.ne, h.ng, h.lo⟩
/-- a stack's operation leaves the document's as they are -/
theorem Rs.duo (h : Rs w0 W a xs dr) (hW : Wd w0 W a L B d) (k : Nat) (hk : k < 3) (hD : Duo (a.s k) a.b W W') : Rs w0 W' a xs dr :=
  ⟨fun i hi => ⟨hD.bk (h.q i hi).st ((h.q i hi).st.ne (hW.st k hk).st (by decide)) ((h.q i hi).st.ne hW.im.by_ (by decide)), hD.bk (h.q i hi).row ((h.q i hi).row.ne (hW.st k hk).st (by decide)) ((h.q i hi).row.ne hW.im.by_ (by decide))⟩, h.ne, h.ng, h.lo⟩
/-- the document's operation leaves the stacks as they are -/
theorem Wd.ref (h : Wd w0 W a L B d) (hR : Rs w0 W a xs dr) (k : Nat) (hk : k < 3) (hD : Duo (a.r k) (a.g k) W W') : Wd w0 W' a L B d :=
  ⟨hD.bk h.wl (h.wl.ne (hR.q k hk).st (by decide)) (h.wl.ne (hR.q k hk).row (by decide)),
   ⟨h.im.ok, hD.bk h.im.st (h.im.st.ne (hR.q k hk).st (by decide)) (h.im.st.ne (hR.q k hk).row (by decide)), hD.bk h.im.by_ (h.im.by_.ne (hR.q k hk).st (by decide)) (h.im.by_.ne (hR.q k hk).row (by decide)), h.im.len⟩,
   fun i hi => ⟨hD.bk (h.st i hi).st ((h.st i hi).st.ne (hR.q k hk).st (by decide)) ((h.st i hi).st.ne (hR.q k hk).row (by decide)), (h.st i hi).dp⟩, h.ne, h.low, h.los, h.be.trans (hD.below (hR.lo k hk).1 (hR.lo k hk).2 h.be.size)⟩
theorem Rs.turned (h : Rs w0 W a xs d) (k : Nat) (hk : k < 3) (ys : List Int) (d1 : Nat) (hl : ys.length = (xs (rgOf k)).length) (hq : Rf W' (a.r k) (a.g k) ys d1 (unOf k) (ovOf k)) (hD : Duo (a.r k) (a.g k) W W') : Rs w0 W' a (updX xs (rgOf k) ys) (upd d k d1) := by
  refine ⟨fun i hi => ?_, h.ne, h.ng, h.lo⟩
  by_cases e : i = k
  · subst e
    rw [updX_same, upd_same]
    exact hq
  · rw [upd_other _ _ _ _ e]
    have hst := hD.bk (h.q i hi).st (h.ne i k hi hk e) ((h.q i hi).st.ne (h.q k hk).row (by decide))
    by_cases er : rgOf i = rgOf k
    · rw [er, updX_same]
      rw [er, ← hl] at hst
      have hg := (rgOf_g a h.ng i k hi hk).1 er
      refine ⟨hst, ?_⟩
      rw [hg]
      exact hq.row
    · rw [updX_other _ _ _ _ er]
      exact ⟨hst, hD.bk (h.q i hi).row ((h.q i hi).row.ne (h.q k hk).st (by decide)) ((rgOf_g a h.ng i k hi hk).2 er)⟩
/-- what both have -/
def cellsOf (L : Lay) (B : List UInt8) : Nat → List Int := fun rg => cels B (L.beg rg) (roomOf L rg)
structure Pl (w0 W : World) (a : Ads) (L : Lay) (B : List UInt8) (d : Nat → Nat) : Prop where
  wd : Wd w0 W a L B d
  rs : Rs w0 W a (cellsOf L B) d
theorem Pl.bel (h : Pl w0 W a L B d) (hb : Below W.heap.size W W') : Pl w0 W' a L B d := ⟨h.wd.bel hb, h.rs.bel hb⟩
theorem Pl.draws (h : Pl w0 W a L B d) (n : Nat) : Pl w0 (W.drewN n) a L B d := ⟨h.wd.draws n, h.rs.draws n⟩
theorem laid_upd (hW : Wd w0 W a L B d) (k i : Nat) (vs : List Int) (hi : i + vs.length ≤ roomOf L (rgOf k)) (hv : ∀ v ∈ vs, isI v) (j : Nat) : updX (cellsOf L B) (rgOf k) (over (cellsOf L B (rgOf k)) i vs) (rgOf j) = cellsOf L (laid B (L.beg (rgOf k)) i vs) (rgOf j) := by
  have hr := hW.reg k
  have hev := hr.even hW.im.ok
  have hl := hW.im.len
  by_cases e : rgOf j = rgOf k
  · rw [e, updX_same]
    unfold cellsOf over
    rw [cels_laid _ _ _ _ _ (by omega) hi hv]
  · rw [updX_other _ _ _ _ e]
    unfold cellsOf cels
    apply List.map_congr_left
    intro x hx
    have hx := List.mem_range.1 hx
    have hr2 := hW.reg j
    have hev2 := hr2.even hW.im.ok
    rw [laid_celfar _ _ _ _ _ (by omega)]
    have h4 := rgOf_is j
    have h5 := rgOf_is k
    have m := Lay.mono hW.im.ok
    have hup := hr.up
    have hup2 := hr2.up
    rcases h4 with h4 | h4 <;> rcases h5 with h5 | h5 <;> rw [h4] at hx hup2 e ⊢ <;> rw [h5] at hup hi e ⊢ <;> first | exact absurd rfl e | (have e5 : L.beg (4 + 1) = L.beg 5 := rfl; omega)
theorem Pl.laid (h : Pl w0 W a L B d) (k i d1 : Nat) (vs : List Int) (hi : i + vs.length ≤ roomOf L (rgOf k)) (hv : ∀ v ∈ vs, isI v) (hW : Wd w0 W' a L (laid B (L.beg (rgOf k)) i vs) (upd d k d1)) (hR : Rs w0 W' a (updX (cellsOf L B) (rgOf k) (over (cellsOf L B (rgOf k)) i vs)) (upd d k d1)) : Pl w0 W' a L (laid B (L.beg (rgOf k)) i vs) (upd d k d1) :=
  ⟨hW, hR.congr fun j _ => laid_upd h.wd k i vs hi hv j⟩
theorem upd_id (d : Nat → Nat) (k : Nat) : upd d k (d k) = d := by
  funext i
  by_cases e : i = k
  · subst e; rw [upd_same]
  · rw [upd_other _ _ _ _ e]
theorem updX_id (xs : Nat → List Int) (r : Nat) : updX xs r (xs r) = xs := by
  funext i
  by_cases e : i = r
  · subst e; rw [updX_same]
  · rw [updX_other _ _ _ _ e]
theorem cellsOf_len (L : Lay) (B : List UInt8) (rg : Nat) : (cellsOf L B rg).length = roomOf L rg := cels_len _ _ _
theorem cellsOf_at (L : Lay) (B : List UInt8) (rg i : Nat) (h : i < roomOf L rg) : (cellsOf L B rg)[i]? = some (cel B (L.beg rg + 8 * i)) := cels_at _ _ _ _ h
theorem over_one (xs : List Int) (i : Nat) (v : Int) (h : i < xs.length) : xs.set i v = over xs i [v] := by
  have := over_step xs i [] v (by simpa using h)
  rw [over_nil] at this
  simpa using this
/-- what Roll does, as one list laid over the cells -/
def rolled (xs : List Int) (i d : Nat) (v : Int) : List Int := (xs.drop (i + 1)).take (d - 1 - i) ++ [v]
theorem rolled_len (xs : List Int) (i d : Nat) (v : Int) (hi : i < d) (hd : d ≤ xs.length) : (rolled xs i d v).length = d - i := by simp [rolled]; omega
theorem rolled_over (xs : List Int) (i d : Nat) (v : Int) (hi : i < d) (hd : d ≤ xs.length) : xs.take i ++ (((xs.drop (i + 1)).take (d - 1 - i) ++ [v]) ++ xs.drop d) = over xs i (rolled xs i d v) := by
  unfold over
  rw [rolled_len _ _ _ _ hi hd, show i + (d - i) = d from by omega]
  rfl
theorem rolled_is (L : Lay) (B : List UInt8) (rg i d : Nat) (hi : i < d) (hd : d ≤ roomOf L rg) : ((List.range (d - 1 - i)).map fun j => cel B (L.beg rg + 8 * (i + 1 + j))) ++ [cel B (L.beg rg + 8 * i)] = rolled (cellsOf L B rg) i d (cel B (L.beg rg + 8 * i)) := by
  unfold rolled
  congr 1
  apply List.ext_getElem
  · simp [cellsOf, cels]; omega
  · intro j h1 h2
    simp [cellsOf, cels]
end
end Go.Proofs.Ytkopgjdnfjgbjaa
