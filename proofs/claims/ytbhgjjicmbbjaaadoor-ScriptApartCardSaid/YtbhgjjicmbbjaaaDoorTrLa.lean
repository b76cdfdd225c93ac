import Derived.Test.YtbhgjjicmbbjaaaDoorTrSh
import Derived.Test.YtbhgjjicmbbjaaaDoorTrV
import Derived.Test.YtbhgjjicmbbjaaaDoorPostPubs17
import Derived.Test.YtbhgjjicmbbjaaaDoorPostPrivs17
namespace Go.Proofs.YtbhgjjicmbbjaaaDoor
open Go.RowKit
set_option linter.unusedVariables false
set_option linter.unusedSimpArgs false
/-! ScriptPublics, ScriptPrivates -/
theorem list_of {X : Type} {P : Nat → X → Prop} : ∀ (n : Nat), (∀ i, i < n → ∃ x, P i x) → ∃ xs : List X, xs.length = n ∧ ∀ i x, xs[i]? = some x → P i x
  | 0, _ => ⟨[], rfl, fun i x h => by simp at h⟩
  | n + 1, h => by
    obtain ⟨xs, h1, h2⟩ := list_of n (fun i hi => h i (by omega))
    obtain ⟨x, hx⟩ := h n (by omega)
    refine ⟨xs ++ [x], by simp [h1], fun i y hy => ?_⟩
    by_cases hi : i < n
    · rw [List.getElem?_append_left (by omega)] at hy
      exact h2 i y hy
    · rw [List.getElem?_append_right (by omega)] at hy
      have : i = n := by
        have := (List.getElem?_eq_some_iff.1 hy).1
        simp at this
        omega
      subst this
      simp [h1] at hy
      subst hy
      exact hx
theorem pubs_list {w : World} {A : Option Addr} {n : Nat} (h : Pubs17 w A n) : ∃ xs : List Pu, xs.length = n ∧ PuRow w A xs ∧ ∀ x ∈ xs, inI x.fault ∧ inI x.fuel := by
  obtain ⟨xs, h1, h2⟩ := list_of (X := Pu) (P := fun i x => (∃ b off, A = some ⟨b, off, none⟩ ∧ b < w.heap.size ∧ w.cell? ⟨b, off + i * 3, none⟩ = some (.string x.out) ∧ w.cell? ⟨b, off + i * 3 + 1, none⟩ = some (.int .i64 x.fault) ∧ w.cell? ⟨b, off + i * 3 + 2, none⟩ = some (.int .i64 x.fuel)) ∧ inI x.fault ∧ inI x.fuel) n (fun i hi => by
    obtain ⟨b, off, v0, v1, v2, rfl, hb, g0, g1, g2, w0, w1, w2⟩ := h.2 i hi
    exact ⟨⟨v0, v1, v2⟩, ⟨b, off, rfl, hb, g0, g1, g2⟩, w1, w2⟩)
  refine ⟨xs, h1, fun i x hx => (h2 i x hx).1, fun x hx => ?_⟩
  obtain ⟨i, hi⟩ := List.getElem?_of_mem hx
  exact (h2 i x hi).2
theorem privs_list {w : World} {A : Option Addr} {n : Nat} (h : Privs17 w A n) : ∃ xs : List Pr, xs.length = n ∧ PrRow w A xs ∧ ∀ x ∈ xs, inI x.points ∧ inI x.fault ∧ inI x.fuel := by
  obtain ⟨xs, h1, h2⟩ := list_of (X := Pr) (P := fun i x => (∃ b off, A = some ⟨b, off, none⟩ ∧ b < w.heap.size ∧ w.cell? ⟨b, off + i * 5, none⟩ = some (.int .i64 x.points) ∧ w.cell? ⟨b, off + i * 5 + 1, none⟩ = some (.bool x.said) ∧ w.cell? ⟨b, off + i * 5 + 2, none⟩ = some (.int .i64 x.fault) ∧ w.cell? ⟨b, off + i * 5 + 3, none⟩ = some (.int .i64 x.fuel) ∧ w.cell? ⟨b, off + i * 5 + 4, none⟩ = some (.string x.log)) ∧ inI x.points ∧ inI x.fault ∧ inI x.fuel) n (fun i hi => by
    obtain ⟨b, off, v0, v1, v2, v3, v4, rfl, hb, g0, g1, g2, g3, g4, w0, w2, w3, w4⟩ := h.2 i hi
    exact ⟨⟨v0, v1, v2, v3, v4⟩, ⟨b, off, rfl, hb, g0, g1, g2, g3, g4⟩, w0, w2, w3⟩)
  refine ⟨xs, h1, fun i x hx => (h2 i x hx).1, fun x hx => ?_⟩
  obtain ⟨i, hi⟩ := List.getElem?_of_mem hx
  exact (h2 i x hi).2
theorem pu_open {w : World} {A : Option Addr} {n : Nat} (h : Pubs17 w A n) : ∃ xs : List Pu, xs.length = n ∧ PuRow w A xs ∧ ∀ x ∈ xs, inI x.fault ∧ inI x.fuel := pubs_list h
theorem pr_open {w : World} {A : Option Addr} {n : Nat} (h : Privs17 w A n) : ∃ xs : List Pr, xs.length = n ∧ PrRow w A xs ∧ ∀ x ∈ xs, inI x.points ∧ inI x.fault ∧ inI x.fuel := privs_list h
set_option maxRecDepth 100000 in
set_option maxHeartbeats 4000000 in
theorem walk_pus (A : Option Addr) (n c : Nat) (w : World) (hM : Mk w) (ho : Pubs17 w A n) : Calls Tryd.prog 3 #[.slice A n c] w fun e w' => e = .returned (.bool true) ∧ Below w.heap.size w w' := by
  obtain ⟨xs, hn, hr, hI0⟩ := pu_open ho
  have hn4 := ho.1
  have hn5 : (n : Int) ≤ 140737488351232 := by omega
  have hsh := Lib.hid (shown_any w hM)
  have hmk := Lib.hid (fun W (h : Below w.heap.size w W) => hM.bel h)
  replace hr := Lib.hid hr
  replace hI0 := Lib.hid hI0
  replace hn := Lib.hid hn
  clear hM ho
  go_enter Tryd.func3, Tryd.ntmps3
  go_wp2_with (fail)
  refine hsh.out.mono ?_
  rintro e w1 ⟨rfl, hb1⟩
  replace hb1 := Lib.hid hb1
  clear hsh
  go_wp2_with (fail)
  go_loopw [4] (fun x4 wr => ∃ k : Nat, x4 = .int .i64 k ∧ k ≤ n ∧ Hid (wr = w1 ∧ ∀ j x, j < k → xs[j]? = some x → x.out.size ≤ 200000)) (fun x4 _ => n - (intOf x4).toNat)
  case atStart => exact ⟨0, rfl, Nat.zero_le _, Lib.hid ⟨rfl, fun j x hj => absurd hj (Nat.not_lt_zero _)⟩⟩
  case round =>
    obtain ⟨k, rfl, hk0, hQ⟩ := hrel
    have hwr := hQ.out.1
    subst hwr
    by_cases hk : k < n
    · have hk' : (k : Int) < (n : Int) := by omega
      obtain ⟨x, hx⟩ : ∃ x, xs[k]? = some x := ⟨_, List.getElem?_eq_getElem (by rw [hn.out]; exact hk)⟩
      have hrow := hr.out.bel hb1.out k x hx
      obtain ⟨b, off, rfl, hbl, hcs⟩ := hrow
      have ct := hcs.1
      have hlg := long_any (x.out.size : Int) wr
      obtain ⟨tx, htx⟩ : ∃ t, x.out = t := ⟨_, rfl⟩
      rw [htx] at ct hlg
      clear hcs hbl
      by_cases h2 : 200000 < tx.size
      · rw [show decide ((200000 : Int) < (tx.size : Int)) = true by simp; omega] at hlg
        replace hlg := Lib.hid hlg
        clear hQ hx htx h2
        go_wp2_with (fail)
        refine hlg.out.mono ?_
        rintro e w2 ⟨rfl, rfl⟩
        go_wp2_with (fail)
        go_returns
        exact ⟨rfl, hb1.out⟩
      · rw [show decide ((200000 : Int) < (tx.size : Int)) = false by simp; omega] at hlg
        replace hlg := Lib.hid hlg
        have hQ2 : ∀ j y, j < k + 1 → xs[j]? = some y → y.out.size ≤ 200000 := fun j y hj hy => by
          rcases (by omega : j < k ∨ j = k) with h | rfl
          · exact hQ.out.2 j y h hy
          · rw [hx] at hy
            injection hy with hy
            rw [← hy, htx]
            omega
        replace hQ2 := Lib.hid hQ2
        clear hQ hx htx h2
        go_wp2_with (fail)
        refine hlg.out.mono ?_
        rintro e w2 ⟨rfl, hw2⟩
        replace hw2 := hw2.symm
        subst hw2
        go_wp2_with (fail)
        exact ⟨⟨k + 1, rfl, by omega, by first | exact Lib.hid ⟨rfl, hQ2.out⟩ | exact Lib.hid ⟨trivial, hQ2.out⟩⟩, by simp [intOf]; omega⟩
    · have hk' : ¬ (k : Int) < (n : Int) := by omega
      obtain rfl : k = n := by omega
      have hI : ∀ x ∈ xs, puI x := fun x hx => by
        obtain ⟨j, hj⟩ := List.getElem?_of_mem hx
        have h1 := hQ.out.2 j x (by have := (List.getElem?_eq_some_iff.1 hj).1; rw [hn.out] at this; exact this) hj
        have h2 := hI0.out x hx
        unfold puI
        exact ⟨h2.1, h2.2, by omega⟩
      have q1 := Lib.hid (fun W (hb : Below w.heap.size w W) => Public_any A k c xs W (hmk.out W hb) hn.out (hr.out.bel hb) hI (by omega))
      have q2 := Lib.hid (fun W (hb : Below w.heap.size w W) => RPublic_any A k c xs W hn.out (hr.out.bel hb) hI (by omega))
      obtain ⟨T, hT⟩ : ∃ T : ByteArray, ⟨(writeT puOk puL xs).toArray⟩ = T := ⟨_, rfl⟩
      obtain ⟨E, hE⟩ : ∃ E, writeE puOk xs = E := ⟨_, rfl⟩
      simp only [hT, hE] at q1 q2
      clear hQ hI hT hE
      go_wp2_with (fail)
      refine (q1.out wr hb1.out).mono ?_
      rintro e w2 ⟨rfl, hb⟩
      have hb2 := Lib.hid (hb1.out.trans (hb.mono hb1.out.size))
      clear hb
      go_wp2_with (fail)
      refine (q2.out w2 hb2.out).mono ?_
      rintro e w3 ⟨rfl, hb⟩
      have hb3 := Lib.hid (hb2.out.trans (hb.mono hb2.out.size))
      clear hb q1 q2
      go_wp2_with (fail)
      go_returns
      exact ⟨rfl, hb3.out⟩
set_option maxRecDepth 100000 in
set_option maxHeartbeats 4000000 in
theorem walk_prs (A : Option Addr) (n c : Nat) (w : World) (hM : Mk w) (ho : Privs17 w A n) : Calls Tryd.prog 4 #[.slice A n c] w fun e w' => e = .returned (.bool true) ∧ Below w.heap.size w w' := by
  obtain ⟨xs, hn, hr, hI0⟩ := pr_open ho
  have hn4 := ho.1
  have hn5 : (n : Int) ≤ 140737488351232 := by omega
  have hsh := Lib.hid (shown_any w hM)
  have hmk := Lib.hid (fun W (h : Below w.heap.size w W) => hM.bel h)
  replace hr := Lib.hid hr
  replace hI0 := Lib.hid hI0
  replace hn := Lib.hid hn
  clear hM ho
  go_enter Tryd.func4, Tryd.ntmps4
  go_wp2_with (fail)
  refine hsh.out.mono ?_
  rintro e w1 ⟨rfl, hb1⟩
  replace hb1 := Lib.hid hb1
  clear hsh
  go_wp2_with (fail)
  go_loopw [4] (fun x4 wr => ∃ k : Nat, x4 = .int .i64 k ∧ k ≤ n ∧ Hid (wr = w1 ∧ ∀ j x, j < k → xs[j]? = some x → x.log.size ≤ 200000)) (fun x4 _ => n - (intOf x4).toNat)
  case atStart => exact ⟨0, rfl, Nat.zero_le _, Lib.hid ⟨rfl, fun j x hj => absurd hj (Nat.not_lt_zero _)⟩⟩
  case round =>
    obtain ⟨k, rfl, hk0, hQ⟩ := hrel
    have hwr := hQ.out.1
    subst hwr
    by_cases hk : k < n
    · have hk' : (k : Int) < (n : Int) := by omega
      obtain ⟨x, hx⟩ : ∃ x, xs[k]? = some x := ⟨_, List.getElem?_eq_getElem (by rw [hn.out]; exact hk)⟩
      have hrow := hr.out.bel hb1.out k x hx
      obtain ⟨b, off, rfl, hbl, hcs⟩ := hrow
      have ct := hcs.2.2.2.2
      have hlg := long_any (x.log.size : Int) wr
      obtain ⟨tx, htx⟩ : ∃ t, x.log = t := ⟨_, rfl⟩
      rw [htx] at ct hlg
      clear hcs hbl
      by_cases h2 : 200000 < tx.size
      · rw [show decide ((200000 : Int) < (tx.size : Int)) = true by simp; omega] at hlg
        replace hlg := Lib.hid hlg
        clear hQ hx htx h2
        go_wp2_with (fail)
        refine hlg.out.mono ?_
        rintro e w2 ⟨rfl, rfl⟩
        go_wp2_with (fail)
        go_returns
        exact ⟨rfl, hb1.out⟩
      · rw [show decide ((200000 : Int) < (tx.size : Int)) = false by simp; omega] at hlg
        replace hlg := Lib.hid hlg
        have hQ2 : ∀ j y, j < k + 1 → xs[j]? = some y → y.log.size ≤ 200000 := fun j y hj hy => by
          rcases (by omega : j < k ∨ j = k) with h | rfl
          · exact hQ.out.2 j y h hy
          · rw [hx] at hy
            injection hy with hy
            rw [← hy, htx]
            omega
        replace hQ2 := Lib.hid hQ2
        clear hQ hx htx h2
        go_wp2_with (fail)
        refine hlg.out.mono ?_
        rintro e w2 ⟨rfl, hw2⟩
        replace hw2 := hw2.symm
        subst hw2
        go_wp2_with (fail)
        exact ⟨⟨k + 1, rfl, by omega, by first | exact Lib.hid ⟨rfl, hQ2.out⟩ | exact Lib.hid ⟨trivial, hQ2.out⟩⟩, by simp [intOf]; omega⟩
    · have hk' : ¬ (k : Int) < (n : Int) := by omega
      obtain rfl : k = n := by omega
      have hI : ∀ x ∈ xs, prI x := fun x hx => by
        obtain ⟨j, hj⟩ := List.getElem?_of_mem hx
        have h1 := hQ.out.2 j x (by have := (List.getElem?_eq_some_iff.1 hj).1; rw [hn.out] at this; exact this) hj
        have h2 := hI0.out x hx
        unfold prI
        exact ⟨h2.1, h2.2.1, h2.2.2, by omega⟩
      have q1 := Lib.hid (fun W (hb : Below w.heap.size w W) => Private_any A k c xs W (hmk.out W hb) hn.out (hr.out.bel hb) hI (by omega))
      have q2 := Lib.hid (fun W (hb : Below w.heap.size w W) => RPrivate_any A k c xs W hn.out (hr.out.bel hb) hI (by omega))
      obtain ⟨T, hT⟩ : ∃ T : ByteArray, ⟨(writeT prOk prL xs).toArray⟩ = T := ⟨_, rfl⟩
      obtain ⟨E, hE⟩ : ∃ E, writeE prOk xs = E := ⟨_, rfl⟩
      simp only [hT, hE] at q1 q2
      clear hQ hI hT hE
      go_wp2_with (fail)
      refine (q1.out wr hb1.out).mono ?_
      rintro e w2 ⟨rfl, hb⟩
      have hb2 := Lib.hid (hb1.out.trans (hb.mono hb1.out.size))
      clear hb
      go_wp2_with (fail)
      refine (q2.out w2 hb2.out).mono ?_
      rintro e w3 ⟨rfl, hb⟩
      have hb3 := Lib.hid (hb2.out.trans (hb.mono hb2.out.size))
      clear hb q1 q2
      go_wp2_with (fail)
      go_returns
      exact ⟨rfl, hb3.out⟩
end Go.Proofs.YtbhgjjicmbbjaaaDoor
