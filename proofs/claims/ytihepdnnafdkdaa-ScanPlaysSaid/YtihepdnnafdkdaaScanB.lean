import Derived.Test.YtihepdnnafdkdaaScanA
namespace Go.Proofs.Ytihepdnnafdkdaa
open Go.RowKit
set_option linter.unusedVariables false
set_option linter.unusedSimpArgs false
def isBlank (c : UInt8) : Bool := decide ((c.toNat : Int) ≤ 32)
def isInk (c : UInt8) : Bool := decide (32 < (c.toNat : Int))
def isNot (x c : UInt8) : Bool := !((c.toNat : Int) == x.toNat)
/-- how far a run of bytes goes -/
def runs (p : UInt8 → Bool) (s : ByteArray) : Nat → Nat → Nat
  | 0, k => k
  | f + 1, k => if k < s.size ∧ p (s.data.toList.getD k 0) = true then runs p s f (k + 1) else k
def stop (p : UInt8 → Bool) (s : ByteArray) (k : Nat) : Nat := runs p s (s.size - k) k
theorem at_is (s : ByteArray) (k : Nat) (hk : k < s.size) : s.data.toList.getD k 0 = s[k] := by
  rw [List.getD_eq_getElem?_getD, List.getElem?_eq_getElem (by simpa using hk)]; rfl
theorem stop_go (p : UInt8 → Bool) (s : ByteArray) (k : Nat) (hk : k < s.size) (h : p s[k] = true) : stop p s k = stop p s (k + 1) := by
  unfold stop
  obtain ⟨f, hf⟩ : ∃ f, s.size - k = f + 1 := ⟨s.size - k - 1, by omega⟩
  rw [hf, show s.size - (k + 1) = f by omega]
  unfold runs
  rw [if_pos ⟨hk, by rw [at_is s k hk]; exact h⟩]
  cases f <;> rfl
theorem stop_no (p : UInt8 → Bool) (s : ByteArray) (k : Nat) (hk : k < s.size) (h : p s[k] = false) : stop p s k = k := by
  unfold stop
  obtain ⟨f, hf⟩ : ∃ f, s.size - k = f + 1 := ⟨s.size - k - 1, by omega⟩
  rw [hf]
  unfold runs
  rw [if_neg]
  rintro ⟨_, h2⟩
  rw [at_is s k hk, h] at h2
  cases h2
theorem stop_end (p : UInt8 → Bool) (s : ByteArray) (k : Nat) (hk : s.size ≤ k) : stop p s k = k := by
  unfold stop
  rw [show s.size - k = 0 by omega]; rfl
theorem runs_ge (p : UInt8 → Bool) (s : ByteArray) : ∀ f k, k ≤ runs p s f k ∧ (k ≤ s.size → runs p s f k ≤ s.size)
  | 0, k => ⟨Nat.le_refl _, fun h => h⟩
  | f + 1, k => by
    unfold runs
    split
    · rename_i h
      have ⟨a, b⟩ := runs_ge p s f (k + 1)
      exact ⟨by omega, fun _ => b (by omega)⟩
    · exact ⟨Nat.le_refl _, fun h => h⟩
theorem stop_ge (p : UInt8 → Bool) (s : ByteArray) (k : Nat) : k ≤ stop p s k := (runs_ge p s _ k).1
theorem stop_le (p : UInt8 → Bool) (s : ByteArray) (k : Nat) (h : k ≤ s.size) : stop p s k ≤ s.size := (runs_ge p s _ k).2 h
/-- a source's next stand, one byte on if there is one -/
def nxt (s : ByteArray) (k : Nat) : Nat := if k < s.size then k + 1 else k
theorem Src.draws {W : World} {b : Nat} {s : ByteArray} {k : Nat} (h : Src W b s k) (n : Nat) : Src (W.drewN n) b s k := h
theorem Src.lt {W : World} {b : Nat} {s : ByteArray} {k : Nat} (h : Src W b s k) : b < W.heap.size := Bk.lt h
theorem step_any (b : Nat) (s : ByteArray) (k : Nat) (w : World) (h : Src w b s k) (hk : k ≤ s.size) (hs : s.size ≤ 60000) :
    Calls Try.prog 27 #[.pointer (some ⟨b, 0, none⟩)] w fun e w' => e = .returned (.tuple #[]) ∧ Src w' b s (nxt s k) ∧ Only b w w' := by
  unfold nxt
  by_cases hlt : k < s.size
  · rw [if_pos hlt]; exact step_in b s k w h hlt hs
  · have e : k = s.size := by omega
    subst e
    rw [if_neg hlt]
    exact (step_end b s w h).mono fun e w' ⟨he, n, hw⟩ => ⟨he, by rw [hw]; exact h, by rw [hw]; exact (Only.refl b w).draws n⟩
theorem blank_any (c : UInt8) (w : World) : Calls Try.prog 25 #[.int .u8 c.toNat] w fun e w' => e = .returned (.bool (isBlank c)) ∧ ∃ n, w' = w.drewN n := by
  go_enter Try.func25, Try.ntmps25
  go_wp2
  go_returns
  exact ⟨rfl, 0, rfl⟩
theorem ink_any (c : UInt8) (w : World) : Calls Try.prog 26 #[.int .u8 c.toNat] w fun e w' => e = .returned (.bool (isInk c)) ∧ ∃ n, w' = w.drewN n := by
  go_enter Try.func26, Try.ntmps26
  go_wp2
  go_returns
  exact ⟨rfl, 0, rfl⟩
theorem nl_any (c : UInt8) (w : World) : Calls Try.prog 29 #[.int .u8 c.toNat] w fun e w' => e = .returned (.bool ((isNot 10) c)) ∧ ∃ n, w' = w.drewN n := by
  go_enter Try.func29, Try.ntmps29
  go_wp2
  go_returns
  exact ⟨rfl, 0, rfl⟩
set_option maxHeartbeats 1000000 in
theorem goes_blank (b : Nat) (s : ByteArray) (k : Nat) (w : World) (h : Src w b s k) (hk : k ≤ s.size) (hs : s.size ≤ 60000) :
    Calls Try.prog 24 #[.pointer (some ⟨b, 0, none⟩), .func (.func 25) #[] #[]] w fun e w' => e = .returned (.string (s.extract k (stop isBlank s k))) ∧ Src w' b s (stop isBlank s k) ∧ Only b w w' := by
  have c1 : w.cell? ⟨b, 1, none⟩ = some (.int .i64 k) := h.cell 1
  go_enter Try.func24, Try.ntmps24
  go_wp2
  go_loopg [35] (s.size - k) (fun n _ wr => ∃ j : Nat, n = s.size - j ∧ k ≤ j ∧ j ≤ s.size ∧ stop isBlank s k = stop isBlank s j ∧ Src wr b s j ∧ Only b w wr)
  case atStart => exact ⟨k, rfl, Nat.le_refl _, hk, rfl, h, Only.refl _ _⟩
  case round =>
    obtain ⟨j, rfl, h1, h2, hE, hS, hO⟩ := hrel
    have d0 : wr.cell? ⟨b, 0, none⟩ = some (.string s) := hS.cell 0
    have d1 : wr.cell? ⟨b, 1, none⟩ = some (.int .i64 j) := hS.cell 1
    have HE := Lib.hid hE
    clear c1 h hE
    have fin : isBlank = isBlank → stop isBlank s j = j → stop isBlank s k = j := fun _ e => HE.out.trans e
    have FIN := Lib.hid fin
    clear fin
    by_cases hj : j < s.size
    · have i0 : (0 : Int) ≤ j := by omega
      have i1 : (j : Int) < s.size := by omega
      have i2 : (k : Int) ≤ j := by omega
      cases hp : isBlank s[j]
      · have E := Lib.hid (FIN.out rfl (stop_no isBlank s j hj hp))
        go_wp2
        go_quiet ((go_at_call 25; exact Calls.quiet_of (blank_any _ _)))
        go_wp2
        go_quiet (fail)
        go_wp2
        go_returns
        exact ⟨by rw [E.out]; rfl, by rw [E.out]; exact (hS.draws _).draws _, (hO.draws _).draws _⟩
      · have E := Lib.hid (stop_go isBlank s j hj hp)
        go_wp2
        go_quiet ((go_at_call 25; exact Calls.quiet_of (blank_any _ _)))
        go_wp2_with (fail)
        refine (step_in b s j _ (hS.draws _) hj hs).mono ?_
        rintro e w1 ⟨rfl, hS1, hO1⟩
        go_wp2
        go_roundg (s.size - (j + 1))
        case measure => omega
        case rel => exact ⟨j + 1, rfl, by omega, by omega, by rw [HE.out, E.out], hS1, (hO.draws _).trans hO1⟩
    · have e : j = s.size := by omega
      subst e
      have E := Lib.hid (FIN.out rfl (stop_end isBlank s s.size (Nat.le_refl _)))
      have i2 : (k : Int) ≤ s.size := by omega
      go_wp2
      go_quiet (fail)
      go_wp2
      go_quiet (fail)
      go_wp2
      go_returns
      exact ⟨by rw [E.out]; rfl, by rw [E.out]; exact (hS.draws _).draws _, (hO.draws _).draws _⟩
set_option maxHeartbeats 1000000 in
theorem goes_ink (b : Nat) (s : ByteArray) (k : Nat) (w : World) (h : Src w b s k) (hk : k ≤ s.size) (hs : s.size ≤ 60000) :
    Calls Try.prog 24 #[.pointer (some ⟨b, 0, none⟩), .func (.func 26) #[] #[]] w fun e w' => e = .returned (.string (s.extract k (stop isInk s k))) ∧ Src w' b s (stop isInk s k) ∧ Only b w w' := by
  have c1 : w.cell? ⟨b, 1, none⟩ = some (.int .i64 k) := h.cell 1
  go_enter Try.func24, Try.ntmps24
  go_wp2
  go_loopg [35] (s.size - k) (fun n _ wr => ∃ j : Nat, n = s.size - j ∧ k ≤ j ∧ j ≤ s.size ∧ stop isInk s k = stop isInk s j ∧ Src wr b s j ∧ Only b w wr)
  case atStart => exact ⟨k, rfl, Nat.le_refl _, hk, rfl, h, Only.refl _ _⟩
  case round =>
    obtain ⟨j, rfl, h1, h2, hE, hS, hO⟩ := hrel
    have d0 : wr.cell? ⟨b, 0, none⟩ = some (.string s) := hS.cell 0
    have d1 : wr.cell? ⟨b, 1, none⟩ = some (.int .i64 j) := hS.cell 1
    have HE := Lib.hid hE
    clear c1 h hE
    have fin : isInk = isInk → stop isInk s j = j → stop isInk s k = j := fun _ e => HE.out.trans e
    have FIN := Lib.hid fin
    clear fin
    by_cases hj : j < s.size
    · have i0 : (0 : Int) ≤ j := by omega
      have i1 : (j : Int) < s.size := by omega
      have i2 : (k : Int) ≤ j := by omega
      cases hp : isInk s[j]
      · have E := Lib.hid (FIN.out rfl (stop_no isInk s j hj hp))
        go_wp2
        go_quiet ((go_at_call 26; exact Calls.quiet_of (ink_any _ _)))
        go_wp2
        go_quiet (fail)
        go_wp2
        go_returns
        exact ⟨by rw [E.out]; rfl, by rw [E.out]; exact (hS.draws _).draws _, (hO.draws _).draws _⟩
      · have E := Lib.hid (stop_go isInk s j hj hp)
        go_wp2
        go_quiet ((go_at_call 26; exact Calls.quiet_of (ink_any _ _)))
        go_wp2_with (fail)
        refine (step_in b s j _ (hS.draws _) hj hs).mono ?_
        rintro e w1 ⟨rfl, hS1, hO1⟩
        go_wp2
        go_roundg (s.size - (j + 1))
        case measure => omega
        case rel => exact ⟨j + 1, rfl, by omega, by omega, by rw [HE.out, E.out], hS1, (hO.draws _).trans hO1⟩
    · have e : j = s.size := by omega
      subst e
      have E := Lib.hid (FIN.out rfl (stop_end isInk s s.size (Nat.le_refl _)))
      have i2 : (k : Int) ≤ s.size := by omega
      go_wp2
      go_quiet (fail)
      go_wp2
      go_quiet (fail)
      go_wp2
      go_returns
      exact ⟨by rw [E.out]; rfl, by rw [E.out]; exact (hS.draws _).draws _, (hO.draws _).draws _⟩
set_option maxHeartbeats 1000000 in
theorem goes_nl (b : Nat) (s : ByteArray) (k : Nat) (w : World) (h : Src w b s k) (hk : k ≤ s.size) (hs : s.size ≤ 60000) :
    Calls Try.prog 24 #[.pointer (some ⟨b, 0, none⟩), .func (.func 29) #[] #[]] w fun e w' => e = .returned (.string (s.extract k (stop (isNot 10) s k))) ∧ Src w' b s (stop (isNot 10) s k) ∧ Only b w w' := by
  have c1 : w.cell? ⟨b, 1, none⟩ = some (.int .i64 k) := h.cell 1
  go_enter Try.func24, Try.ntmps24
  go_wp2
  go_loopg [35] (s.size - k) (fun n _ wr => ∃ j : Nat, n = s.size - j ∧ k ≤ j ∧ j ≤ s.size ∧ stop (isNot 10) s k = stop (isNot 10) s j ∧ Src wr b s j ∧ Only b w wr)
  case atStart => exact ⟨k, rfl, Nat.le_refl _, hk, rfl, h, Only.refl _ _⟩
  case round =>
    obtain ⟨j, rfl, h1, h2, hE, hS, hO⟩ := hrel
    have d0 : wr.cell? ⟨b, 0, none⟩ = some (.string s) := hS.cell 0
    have d1 : wr.cell? ⟨b, 1, none⟩ = some (.int .i64 j) := hS.cell 1
    have HE := Lib.hid hE
    clear c1 h hE
    have fin : (isNot 10) = (isNot 10) → stop (isNot 10) s j = j → stop (isNot 10) s k = j := fun _ e => HE.out.trans e
    have FIN := Lib.hid fin
    clear fin
    by_cases hj : j < s.size
    · have i0 : (0 : Int) ≤ j := by omega
      have i1 : (j : Int) < s.size := by omega
      have i2 : (k : Int) ≤ j := by omega
      cases hp : (isNot 10) s[j]
      · have E := Lib.hid (FIN.out rfl (stop_no (isNot 10) s j hj hp))
        go_wp2
        go_quiet ((go_at_call 29; exact Calls.quiet_of (nl_any _ _)))
        go_wp2
        go_quiet (fail)
        go_wp2
        go_returns
        exact ⟨by rw [E.out]; rfl, by rw [E.out]; exact (hS.draws _).draws _, (hO.draws _).draws _⟩
      · have E := Lib.hid (stop_go (isNot 10) s j hj hp)
        go_wp2
        go_quiet ((go_at_call 29; exact Calls.quiet_of (nl_any _ _)))
        go_wp2_with (fail)
        refine (step_in b s j _ (hS.draws _) hj hs).mono ?_
        rintro e w1 ⟨rfl, hS1, hO1⟩
        go_wp2
        go_roundg (s.size - (j + 1))
        case measure => omega
        case rel => exact ⟨j + 1, rfl, by omega, by omega, by rw [HE.out, E.out], hS1, (hO.draws _).trans hO1⟩
    · have e : j = s.size := by omega
      subst e
      have E := Lib.hid (FIN.out rfl (stop_end (isNot 10) s s.size (Nat.le_refl _)))
      have i2 : (k : Int) ≤ s.size := by omega
      go_wp2
      go_quiet (fail)
      go_wp2
      go_quiet (fail)
      go_wp2
      go_returns
      exact ⟨by rw [E.out]; rfl, by rw [E.out]; exact (hS.draws _).draws _, (hO.draws _).draws _⟩
theorem Bk.kept2 {W W' : World} {b g : Nat} {t : TypeId} {vs : Array Value} (h : Bk W g t vs) (ho : Only b W W') (hn : g ≠ b) : Bk W' g t vs := ho.bk h hn
theorem until_any (x : UInt8) (g : Nat) (c : UInt8) (w : World) (hx : Bk w g 5 #[.int .u8 x.toNat]) : Calls Try.prog 28 #[.int .u8 c.toNat, .pointer (some ⟨g, 0, none⟩)] w fun e w' => e = .returned (.bool (isNot x c)) ∧ ∃ n, w' = w.drewN n := by
  have c0 : w.cell? ⟨g, 0, none⟩ = some (.int .u8 x.toNat) := hx.cell 0
  go_enter Try.func28, Try.ntmps28
  go_wp2
  go_returns
  exact ⟨rfl, 0, rfl⟩
set_option maxHeartbeats 1000000 in
theorem goes_until (b : Nat) (s : ByteArray) (k : Nat) (x : UInt8) (g : Nat) (w : World) (h : Src w b s k) (hk : k ≤ s.size) (hs : s.size ≤ 60000) (hx : Bk w g 5 #[.int .u8 x.toNat]) (hgb : g ≠ b) :
    Calls Try.prog 24 #[.pointer (some ⟨b, 0, none⟩), .func (.func 28) #[] #[.pointer (some ⟨g, 0, none⟩)]] w fun e w' => e = .returned (.string (s.extract k (stop (isNot x) s k))) ∧ Src w' b s (stop (isNot x) s k) ∧ Only b w w' ∧ Bk w' g 5 #[.int .u8 x.toNat] := by
  have c1 : w.cell? ⟨b, 1, none⟩ = some (.int .i64 k) := h.cell 1
  go_enter Try.func24, Try.ntmps24
  go_wp2
  go_loopg [35] (s.size - k) (fun n _ wr => ∃ j : Nat, n = s.size - j ∧ k ≤ j ∧ j ≤ s.size ∧ stop (isNot x) s k = stop (isNot x) s j ∧ Src wr b s j ∧ Only b w wr ∧ Bk wr g 5 #[.int .u8 x.toNat])
  case atStart => exact ⟨k, rfl, Nat.le_refl _, hk, rfl, h, Only.refl _ _, hx⟩
  case round =>
    obtain ⟨j, rfl, h1, h2, hE, hS, hO, hX⟩ := hrel
    have d0 : wr.cell? ⟨b, 0, none⟩ = some (.string s) := hS.cell 0
    have d1 : wr.cell? ⟨b, 1, none⟩ = some (.int .i64 j) := hS.cell 1
    have HE := Lib.hid hE
    clear c1 h hE
    have fin : (isNot x) = (isNot x) → stop (isNot x) s j = j → stop (isNot x) s k = j := fun _ e => HE.out.trans e
    have FIN := Lib.hid fin
    clear fin
    by_cases hj : j < s.size
    · have i0 : (0 : Int) ≤ j := by omega
      have i1 : (j : Int) < s.size := by omega
      have i2 : (k : Int) ≤ j := by omega
      cases hp : (isNot x) s[j]
      · have E := Lib.hid (FIN.out rfl (stop_no (isNot x) s j hj hp))
        go_wp2
        go_quiet ((go_at_call 28; exact Calls.quiet_of (until_any x g _ _ (hX.draws _))))
        go_wp2
        go_quiet (fail)
        go_wp2
        go_returns
        exact ⟨by rw [E.out]; rfl, by rw [E.out]; exact (hS.draws _).draws _, (hO.draws _).draws _, (hX.draws _).draws _⟩
      · have E := Lib.hid (stop_go (isNot x) s j hj hp)
        go_wp2
        go_quiet ((go_at_call 28; exact Calls.quiet_of (until_any x g _ _ (hX.draws _))))
        go_wp2_with (fail)
        refine (step_in b s j _ (hS.draws _) hj hs).mono ?_
        rintro e w1 ⟨rfl, hS1, hO1⟩
        go_wp2
        go_roundg (s.size - (j + 1))
        case measure => omega
        case rel => exact ⟨j + 1, rfl, by omega, by omega, by rw [HE.out, E.out], hS1, (hO.draws _).trans hO1, (hX.draws _).kept2 hO1 hgb⟩
    · have e : j = s.size := by omega
      subst e
      have E := Lib.hid (FIN.out rfl (stop_end (isNot x) s s.size (Nat.le_refl _)))
      have i2 : (k : Int) ≤ s.size := by omega
      go_wp2
      go_quiet (fail)
      go_wp2
      go_quiet (fail)
      go_wp2
      go_returns
      exact ⟨by rw [E.out]; rfl, by rw [E.out]; exact (hS.draws _).draws _, (hO.draws _).draws _, (hX.draws _).draws _⟩
end Go.Proofs.Ytihepdnnafdkdaa
