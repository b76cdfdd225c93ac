import Derived.Test.YtpbloennjcjgoaaDoorDcD
namespace Go.Proofs.YtpbloennjcjgoaaDoor
open Go.RowKit
set_option linter.unusedVariables false
set_option linter.unusedSimpArgs false
/-! chapter 16: the student's list: asked, Keep, Lay -/
section
variable {w w' W W' : World} {d p b : Nat} {L : Lay} {f y : Nat} {B : List UInt8} {o s : Bool} {h l : Nat}
theorem asked_yes (D : Dc w d p b L 3 f y B o s h l) : Calls Tryd.prog 43 #[.pointer (some ⟨p, 0, none⟩), .pointer (some ⟨d, 0, none⟩)] w fun e w' => e = .returned .nilIface ∧ ∃ n, w' = w.drewN n := by
  have hsp := span_any p b L B o s 3 w D.im
  rw [show L.from_ 3 = L.beg 3 from rfl, show L.to_ 3 = L.beg 4 from rfl] at hsp
  have hok := D.ok
  have fx := D.fx
  have yx : y = L.beg 4 := D.yx
  have lo := D.lo
  have hi := D.hi
  obtain ⟨f0, hf⟩ : ∃ f0, L.beg 3 = f0 := ⟨_, rfl⟩
  rw [hf, ← yx] at hsp
  rw [hf] at fx
  have i1 : ¬ (h : Int) < (f0 : Int) + 8 := by omega
  have i2 : ¬ (y : Int) < (h : Int) := by omega
  have i3 : (f0 : Int) ≤ 143360 := by omega
  have hh := fun n => here_any (D.draws n)
  clear D hok fx yx lo hi hf
  replace hsp := Lib.hid hsp
  replace hh := Lib.hid hh
  go_enter Tryd.func43, Tryd.ntmps43
  go_wp2_with (fail)
  refine hsp.out.mono ?_
  rintro e w1 ⟨rfl, n, hn⟩
  have hn := hn.symm
  subst hn
  go_wp2_with (fail)
  refine (hh.out n).mono ?_
  rintro e w1 ⟨rfl, rfl⟩
  go_wp2_with (fail)
  refine (hh.out n).mono ?_
  rintro e w1 ⟨rfl, rfl⟩
  go_wp2_with (fail)
  go_returns
  exact ⟨rfl, n, rfl⟩
/-- the list is somewhere else, and other bytes lie there; nothing else has turned -/
def Goes (d p b : Nat) (L : Lay) (f y : Nat) (w w' : World) : Prop := ∃ B' h' l', Dc w' d p b L 3 f y B' false false h' l' ∧ Onb b d w w'
theorem Goes.of (D : Dc w' d p b L 3 f y B false false h l) (hO : Onb b d w w') : Goes d p b L f y w w' := ⟨_, _, _, D, hO⟩
theorem Goes.stay (D : Dc w d p b L 3 f y B false false h l) (hb : Below w.heap.size w w') : Goes d p b L f y w w' := ⟨_, _, _, D.bel hb, Onb.ofbel hb⟩
theorem Goes.draws (D : Dc w d p b L 3 f y B false false h l) (n : Nat) : Goes d p b L f y w (w.drewN n) := ⟨_, _, _, D.draws n, (Onb.refl b d w).draws n⟩
theorem create_some (D : Dc w d p b L 3 f y B false false h l) (nm : ByteArray) (hs : nm.size ≤ maxLen) : Calls Tryd.prog 48 #[.pointer (some ⟨d, 0, none⟩), .string nm] w fun e w' => (∃ v k : Int, e = .returned (.tuple #[.int .i64 v, .int .i64 k])) ∧ Goes d p b L f y w w' := by
  cases hk : nameOk nm
  · exact (cr_name D nm hs hk).mono fun e w' ⟨he, hb⟩ => ⟨⟨_, _, he⟩, .stay D hb⟩
  · by_cases hf : y < upN h + (8 + upN (1 + nm.size))
    · exact (cr_full D nm hs hk hf).mono fun e w' ⟨he, hb⟩ => ⟨⟨_, _, he⟩, .stay D hb⟩
    · exact (cr_yes D nm hs hk hf rfl).mono fun e w' ⟨he, hD, hO⟩ => ⟨⟨_, _, he⟩, .of hD hO⟩
theorem show_some (D : Dc w d p b L 3 f y B false false h l) : Calls Tryd.prog 49 #[.pointer (some ⟨d, 0, none⟩)] w fun e w' => e = .returned (.tuple #[]) ∧ Goes d p b L f y w w' :=
  (flag_0 D).mono fun e w' ⟨he, hD, hO⟩ => ⟨he, .of hD hO⟩
theorem comma_some (D : Dc w d p b L 3 f y B false false h l) (v : Int) : Calls Tryd.prog 50 #[.pointer (some ⟨d, 0, none⟩), .int .i64 v] w fun e w' => (∃ k : Int, e = .returned (.int .i64 k)) ∧ Goes d p b L f y w w' := by
  by_cases hf : y < h + 8
  · exact (cm_full D v hf).mono fun e w' ⟨he, n, hn⟩ => ⟨⟨_, he⟩, hn ▸ .draws D n⟩
  · by_cases h8 : h % 8 = 0
    · exact (cm_yes D v (by omega) h8 rfl).mono fun e w' ⟨he, hD, hO⟩ => ⟨⟨_, he⟩, .of hD hO⟩
    · exact (cm_bad D v (by omega) 6 (.inl ⟨h8, rfl⟩)).mono fun e w' ⟨he, n, hn⟩ => ⟨⟨_, he⟩, hn ▸ .draws D n⟩
theorem allot_some (D : Dc w d p b L 3 f y B false false h l) (n : Int) (hb : -9223372036854775808 ≤ n ∧ n ≤ 9223372036854775807) : Calls Tryd.prog 51 #[.pointer (some ⟨d, 0, none⟩), .int .i64 n] w fun e w' => (∃ k : Int, e = .returned (.int .i64 k)) ∧ Goes d p b L f y w w' := by
  by_cases hn : n < (f : Int) - h ∨ (y : Int) - h < n
  · exact (allot_full D n hn hb).mono fun e w' ⟨he, m, hm⟩ => ⟨⟨_, he⟩, hm ▸ .draws D m⟩
  · exact (allot_yes D n (by omega) (by omega)).mono fun e w' ⟨he, hD, hO⟩ => ⟨⟨_, he⟩, .of hD hO⟩
theorem setbyte_some (D : Dc w d p b L 3 f y B false false h l) (a : Int) (ha : -9223372036854775808 ≤ a ∧ a ≤ 9223372036854775807) (c : UInt8) : Calls Tryd.prog 31 #[.pointer (some ⟨p, 0, none⟩), .int .i64 0, .int .i64 a, .int .u8 (c.toNat : Int)] w fun e w' => (∃ k : Int, e = .returned (.int .i64 k)) ∧ Goes d p b L f y w w' := by
  by_cases hok : rowOk L false false 0 a 1 2
  · have h0 : ¬ a < 0 := fun hn => hok.1 (by unfold Lay.reg; rw [if_pos hn])
    obtain ⟨n, rfl⟩ : ∃ n : Nat, a = n := ⟨a.toNat, by omega⟩
    exact (setbyte_yes D.im n c hok).mono fun e w' ⟨he, hI, hO⟩ => ⟨⟨_, he⟩, .of (D.turn hI hO) (Onb.ofb hO)⟩
  · exact (setbyte_no D.im a _ ha hok).mono fun e w' ⟨he, hw⟩ => ⟨⟨_, he⟩, by rw [hw]; exact .of D (Onb.refl b d w)⟩
end
end Go.Proofs.YtpbloennjcjgoaaDoor
