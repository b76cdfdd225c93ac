import Derived.Test.YtbhgjjicmbbjaaaDoorTrO
import Derived.Test.YtbhgjjicmbbjaaaDoorTrR
namespace Go.Proofs.YtbhgjjicmbbjaaaDoor
open Go.RowKit
set_option linter.unusedVariables false
set_option linter.unusedSimpArgs false
/-! chapter 17, the document's: until, number, six -/
theorem untl_at {c : UInt8} {L : List UInt8} {k : Nat} (hk : L[k]? = some c) (hn : ∀ j, j < k → L[j]? ≠ some c) : untl c L = (L.take k, L.drop (k + 1), true) := by
  have hlt : k < L.length := (List.getElem?_eq_some_iff.1 hk).1
  have h1 : c ∉ L.take k := by
    intro hm
    obtain ⟨j, hj⟩ := List.getElem?_of_mem hm
    rw [List.getElem?_take] at hj
    split at hj
    · exact hn j (by assumption) hj
    · cases hj
  have h2 : L = L.take k ++ c :: L.drop (k + 1) := by
    have h3 : L.drop k = c :: L.drop (k + 1) := by
      rw [List.drop_eq_getElem_cons hlt]
      congr 1
      rw [List.getElem?_eq_getElem hlt] at hk
      exact Option.some.inj hk
    rw [← h3, List.take_append_drop]
  conv => lhs; rw [h2]
  exact untl_app c _ _ h1
theorem below_drawn1 (w : World) : Below w.heap.size w w.drew := ⟨rfl, rfl, rfl, Nat.le_refl _, fun _ _ => rfl⟩
theorem byte_at (s : ByteArray) (k : Nat) (h : k < s.size) : s.data.toList[k]? = some s[k] := by
  rw [List.getElem?_eq_getElem (by rw [data_size]; exact h)]
  rfl
set_option maxRecDepth 100000 in
theorem runtil_any (s : ByteArray) (hs : s.size ≤ 4000000) (w : World) : Calls Tryd.prog 56 #[.string s] w fun e w' => e = .returned (.tuple #[.string (untB 32 s).1, .string (untB 32 s).2.1]) ∧ Below w.heap.size w w' := by
  have hs' : (s.size : Int) ≤ 4000000 := by omega
  obtain ⟨U, hU⟩ : ∃ U, untB 32 s = U := ⟨_, rfl⟩
  have hhit := Lib.hid (fun (k : Nat) (hk : s.data.toList[k]? = some 32) (hn : ∀ j, j < k → s.data.toList[j]? ≠ some 32) => by
    have h := untl_at hk hn
    have h1 := untB_hit 32 s (by rw [h])
    obtain ⟨i, e0, e1, e2, e3⟩ := h1
    rw [h] at e0
    simp only [List.length_take] at e0
    have hlt := (List.getElem?_eq_some_iff.1 hk).1
    have hik : i = k := by omega
    rw [hik] at e2 e3
    rw [hU] at e2 e3
    exact (⟨e2, e3⟩ : U.1 = s.extract 0 k ∧ U.2.1 = s.extract (k + 1) s.size))
  have hmiss := Lib.hid (fun (hn : ∀ j, j < s.size → s.data.toList[j]? ≠ some 32) => by
    have h : (untl 32 s.data.toList).2.2 = false := by
      rw [untl_none]
      intro hm
      obtain ⟨j, hj⟩ := List.getElem?_of_mem hm
      have := (List.getElem?_eq_some_iff.1 hj).1
      exact hn j (by rw [data_size] at this; exact this) hj
    have h1 := untB_miss 32 s h
    rw [hU] at h1
    exact h1)
  rw [hU]
  obtain ⟨U1, U2, U3⟩ := U
  simp only at hhit hmiss ⊢
  clear hU
  go_enter Tryd.func56, Tryd.ntmps56
  go_wp2_with (fail)
  go_loop [4] (fun x4 => ∃ k : Nat, x4 = .int .i64 k ∧ k ≤ s.size ∧ Hid (∀ j, j < k → s.data.toList[j]? ≠ some 32)) (fun x4 => s.size - (intOf x4).toNat)
  case atStart => exact ⟨0, rfl, Nat.zero_le _, Lib.hid (fun j hj => absurd hj (Nat.not_lt_zero _))⟩
  case round =>
    obtain ⟨k, rfl, hk, hQ⟩ := hrel
    by_cases hlt : k < s.size
    · have hlt' : (k : Int) < (s.size : Int) := by omega
      have hby := byte_at s k hlt
      obtain ⟨ch, hch⟩ : ∃ ch, s[k] = ch := ⟨_, rfl⟩
      rw [hch] at hby
      have hidx : ∀ w, (Instr.index 9 (.string s) (.int .i64 (k : Int))).run Tryd.prog w = .ok (.int .u8 (ch.toNat : Int)) w := fun w => by
        rw [run_index_string w 9 s .i64 (k : Int) Tryd.underlying9, dif_pos ⟨by omega, by omega⟩]
        rw [← hch]
        rfl
      by_cases hc : ch = 32
      · rw [hc] at hby hidx
        obtain ⟨e1, e2⟩ := hhit.out k hby hQ.out
        subst e1 e2
        have q1 : (k : Int) + 1 ≤ (s.size : Int) := by omega
        have q2 : (k : Int) ≤ 4000000 := by omega
        have q3 : (k : Int) ≤ (s.size : Int) := by omega
        replace hby := Lib.hid hby
        clear hQ hch hc hhit hmiss
        go_upto_region 5 with (fail)
        go_region
        go_wp2_with (fail)
        go_returns
        exact ⟨rfl, below_drawn1 _⟩
      · have hQ2 : Hid (∀ j, j < k + 1 → s.data.toList[j]? ≠ some 32) := fun j hj => by
          rcases (by omega : j < k ∨ j = k) with h | rfl
          · exact hQ.out j h
          · rw [hby]; intro h; exact hc (Option.some.inj h)
        have hcn : ((ch.toNat : Int) == 32) = false := by
          simp only [beq_eq_false_iff_ne, ne_eq]
          intro h
          exact hc (UInt8.toNat_inj.1 (by show ch.toNat = 32; omega))
        obtain ⟨z, hz⟩ : ∃ z, ch.toNat = z := ⟨_, rfl⟩
        rw [hz] at hidx hcn
        replace hz := Lib.hid hz
        clear hQ hby hch hc hhit hmiss
        go_wp2_with (fail)
        exact ⟨⟨k + 1, rfl, by omega, hQ2⟩, by simp [intOf]; omega⟩
    · have hlt' : ¬ (k : Int) < (s.size : Int) := by omega
      obtain rfl : k = s.size := by omega
      obtain ⟨e1, e2⟩ := hmiss.out hQ.out
      subst e1 e2
      clear hQ hhit hmiss
      go_wp2_with (fail)
      go_returns
      exact ⟨rfl, Below.refl _ _⟩
end Go.Proofs.YtbhgjjicmbbjaaaDoor
