import Derived.Test.YtihepdnnafdkdaaProg
import Derived.Test.YtihepdnnafdkdaaBlk
namespace Go.Proofs.Ytihepdnnafdkdaa
open Go.RowKit
set_option linter.unusedVariables false
set_option linter.unusedSimpArgs false
/-- line feeds among the first k bytes -/
def lfs (s : ByteArray) : Nat → Nat
  | 0 => 0
  | k + 1 => lfs s k + (if (s.data.toList.getD k 0) = 10 then 1 else 0)
theorem lfs_le (s : ByteArray) : ∀ k, lfs s k ≤ k
  | 0 => Nat.le_refl _
  | k + 1 => by have := lfs_le s k; unfold lfs; split <;> omega
/-- a source in memory: its text, how far it has been read, line feeds -/
def Src (W : World) (b : Nat) (s : ByteArray) (k : Nat) : Prop := Bk W b 53 #[.string s, .int .i64 k, .int .i64 (lfs s k)]
theorem lfs_yes (s : ByteArray) (k : Nat) (hk : k < s.size) (h : ((s[k].toNat : Int) == 10) = true) : ((lfs s k : Int) + 1) = (lfs s (k + 1) : Int) := by
  have e : s.data.toList.getD k 0 = s[k] := by
    rw [List.getD_eq_getElem?_getD, List.getElem?_eq_getElem (by simpa using hk)]; rfl
  have : s[k] = 10 := by
    have := beq_iff_eq.1 h
    exact UInt8.toNat_inj.1 (by simpa using (by omega : s[k].toNat = 10))
  rw [show lfs s (k + 1) = lfs s k + (if (s.data.toList.getD k 0) = 10 then 1 else 0) from rfl, e, if_pos this]
  omega
theorem lfs_no (s : ByteArray) (k : Nat) (hk : k < s.size) (h : ((s[k].toNat : Int) == 10) = false) : (lfs s k : Int) = (lfs s (k + 1) : Int) := by
  have e : s.data.toList.getD k 0 = s[k] := by
    rw [List.getD_eq_getElem?_getD, List.getElem?_eq_getElem (by simpa using hk)]; rfl
  have : ¬ s[k] = 10 := fun g => by rw [g] at h; exact absurd h (by decide)
  rw [show lfs s (k + 1) = lfs s k + (if (s.data.toList.getD k 0) = 10 then 1 else 0) from rfl, e, if_neg this]
  omega
theorem Src.set1 {W : World} {b : Nat} {s : ByteArray} {k : Nat} {l : Int} (h : Bk W b 53 #[.string s, .int .i64 k, .int .i64 l]) (e : l = (lfs s (k + 1) : Int)) : Src (W.setCell ⟨b, 1, none⟩ (.int .i64 ((k : Int) + 1))) b s (k + 1) := by
  subst e
  exact h.put 1 _
theorem Bk.set2 {W : World} {b : Nat} {t : TypeId} {x y z : Value} (h : Bk W b t #[x, y, z]) (u : Value) : Bk (W.setCell ⟨b, 2, none⟩ u) b t #[x, y, u] := h.put 2 u
set_option maxHeartbeats 400000 in
theorem step_in (b : Nat) (s : ByteArray) (k : Nat) (w : World) (h : Src w b s k) (hk : k < s.size) (hs : s.size ≤ 60000) :
    Calls Try.prog 27 #[.pointer (some ⟨b, 0, none⟩)] w fun e w' => e = .returned (.tuple #[]) ∧ Src w' b s (k + 1) ∧ Only b w w' := by
  have c0 : w.cell? ⟨b, 0, none⟩ = some (.string s) := h.cell 0
  have c1 : w.cell? ⟨b, 1, none⟩ = some (.int .i64 k) := h.cell 1
  have c2 : w.cell? ⟨b, 2, none⟩ = some (.int .i64 (lfs s k)) := h.cell 2
  have f1 : w.frozen? ⟨b, 1, none⟩ = false := h.free 1
  have f2 : w.frozen? ⟨b, 2, none⟩ = false := h.free 2
  have hl := lfs_le s k
  have i0 : (0 : Int) ≤ k := by omega
  have i1 : (k : Int) < s.size := by omega
  cases hb : ((s[k].toNat : Int) == 10)
  · have e1 := Lib.hid (lfs_no s k hk hb)
    go_enter Try.func27, Try.ntmps27
    go_wp2
    go_quiet (fail)
    go_wp2
    go_quiet (fail)
    go_wp2
    go_end0
    exact ⟨rfl, Src.set1 (h.draws _) e1.out, ((Only.refl b w).draws _).put _ _⟩
  · have e1 := Lib.hid (lfs_yes s k hk hb)
    go_enter Try.func27, Try.ntmps27
    go_wp2
    go_quiet (fail)
    go_wp2
    go_quiet (fail)
    go_wp2
    go_end0
    exact ⟨rfl, Src.set1 ((h.draws _).set2 _) e1.out, (((Only.refl b w).draws _).put _ _).put _ _⟩
set_option maxHeartbeats 400000 in
theorem step_end (b : Nat) (s : ByteArray) (w : World) (h : Src w b s s.size) :
    Calls Try.prog 27 #[.pointer (some ⟨b, 0, none⟩)] w fun e w' => e = .returned (.tuple #[]) ∧ ∃ n, w' = w.drewN n := by
  have c0 : w.cell? ⟨b, 0, none⟩ = some (.string s) := h.cell 0
  have c1 : w.cell? ⟨b, 1, none⟩ = some (.int .i64 s.size) := h.cell 1
  go_enter Try.func27, Try.ntmps27
  go_wp2
  go_quiet (fail)
  go_wp2
  go_end0
  exact ⟨rfl, _, rfl⟩
end Go.Proofs.Ytihepdnnafdkdaa
