import Derived.Test.YtpbloennjcjgoaaDoorKlC
import Derived.Test.YtpbloennjcjgoaaDoorPick
namespace Go.Proofs.YtpbloennjcjgoaaDoor
open Go.RowKit
set_option linter.unusedVariables false
set_option linter.unusedSimpArgs false
/-! chapter 16: does: whatever is done, the list is somewhere and bytes lie there -/
section
variable {w w' W W' : World} {d p b : Nat} {L : Lay} {f y : Nat} {B : List UInt8} {h l : Nat}
/-- the step's box stands, and the list is somewhere -/
def Dw (w : World) (d p b : Nat) (L : Lay) (f y q : Nat) (kd N : Int) (S : ByteArray) (W : World) : Prop := Bk W q 59 #[.int .i64 kd, .int .i64 N, .string S] ∧ q ≠ b ∧ q ≠ d ∧ Goes d p b L f y w W
variable {q : Nat} {kd N : Int} {S : ByteArray}
theorem Dw.go (H : Dw w d p b L f y q kd N S W) (hG : Goes d p b L f y W W') : Dw w d p b L f y q kd N S W' := by
  obtain ⟨h1, h2, h3, B1, x1, x2, D1, O1⟩ := H
  obtain ⟨B2, y1, y2, D2, O2⟩ := hG
  exact ⟨O2.bk h1 h2 h3, h2, h3, B2, y1, y2, D2, O1.trans O2⟩
theorem Dw.draws (H : Dw w d p b L f y q kd N S W) (n : Nat) : Dw w d p b L f y q kd N S (W.drewN n) := by
  obtain ⟨h1, h2, h3, B1, x1, x2, D1, O1⟩ := H
  exact ⟨h1.draws n, h2, h3, B1, x1, x2, D1.draws n, O1.draws n⟩
theorem Dw.draw (H : Dw w d p b L f y q kd N S W) : Dw w d p b L f y q kd N S W.drew := H.draws 1
set_option maxRecDepth 100000 in
set_option maxHeartbeats 8000000 in
theorem does_any (D : Dc w d p b L 3 f y B false false h l) (kd N : Int) (S : ByteArray) (hkd : -9223372036854775808 ≤ kd ∧ kd ≤ 9223372036854775807) (hN : -9223372036854775808 ≤ N ∧ N ≤ 9223372036854775807) (hS : S.size ≤ 140737488351232) :
    Calls Tryd.prog 24 #[.pointer (some ⟨p, 0, none⟩), .pointer (some ⟨d, 0, none⟩), .agg #[.int .i64 kd, .int .i64 N, .string S]] w fun e w' => e = .returned (.tuple #[]) ∧ Goes d p b L f y w w' := by
  have hbl : b < w.heap.size := D.im.by_.lt
  have hdl : d < w.heap.size := D.bk.lt
  have m := Lay.mono D.im.ok
  have H0 : Dw w d p b L f y w.heap.size kd N S (w.alloc (.cells #[.int .i64 kd, .int .i64 N, .string S] 59)) :=
    ⟨Bk.fresh _ _ _, by omega, by omega, _, _, _, D.bel ((Below.refl _ _).alloc (Nat.le_refl _) _), (Onb.refl b d w).past _⟩
  obtain ⟨X, hX⟩ : ∃ X, w.alloc (.cells #[.int .i64 kd, .int .i64 N, .string S] 59) = X := ⟨_, rfl⟩
  obtain ⟨q, hq⟩ : ∃ q, w.heap.size = q := ⟨_, rfl⟩
  rw [hX, hq] at H0
  have H := Lib.hid H0
  have hsp := Lib.hid (fun (r : Int) (W : World) (H : Dw w d p b L f y q kd N S W) => let ⟨_, _, _, B1, _, _, D1, _⟩ := H; span_any p b L B1 false false r W D1.im)
  have hsp3 := fun W H => hsp.out 3 W H
  have hsp4 := fun W H => hsp.out 4 W H
  rw [show L.from_ 3 = L.b3 from rfl, show L.to_ 3 = L.b4 from rfl] at hsp3
  rw [show L.from_ 4 = L.b4 from rfl, show L.to_ 4 = L.b5 from rfl] at hsp4
  obtain ⟨f3, hf3⟩ : ∃ x, L.b3 = x := ⟨_, rfl⟩
  obtain ⟨f4, hf4⟩ : ∃ x, L.b4 = x := ⟨_, rfl⟩
  obtain ⟨f5, hf5⟩ : ∃ x, L.b5 = x := ⟨_, rfl⟩
  rw [hf3, hf4] at hsp3
  rw [hf4, hf5] at hsp4
  have g1 : f3 < f4 ∧ f4 < f5 ∧ f5 ≤ 143360 := by omega
  replace hsp3 := Lib.hid hsp3
  replace hsp4 := Lib.hid hsp4
  have hpk := Lib.hid (fun W => pick_any kd 5 W hkd.1 hkd.2 (by decide) (by decide))
  have e5 : (5 : Int).toNat = 5 := rfl
  rw [e5] at hpk
  have hkl := pickN_lt kd 5 (by decide)
  obtain ⟨k, hk⟩ : ∃ k, pickN kd 5 = k := ⟨_, rfl⟩
  rw [hk] at hpk hkl
  replace g1 := Lib.hid g1
  have c0 := H.out.1.cell 0
  have c1 := H.out.1.cell 1
  have c2 := H.out.1.cell 2
  simp at c0 c1 c2
  rw [← hX] at c0 c1 c2
  replace hX := Lib.hid hX
  clear H0 hsp m hf3 hf4 hf5 e5 hk D hbl hdl hkd
  go_enter Tryd.func24, Tryd.ntmps24
  go_wp2_with (fail)
  try rw [hX.out]
  refine (hsp3.out X H.out).mono ?_
  rintro e w1 ⟨rfl, n, hn⟩
  have H1 := H.out.draws n
  rw [← hn] at H1
  replace H := Lib.hid H1
  clear H1 hn c0 c1 c2 hX hsp3
  have c0 := H.out.1.cell 0
  have c1 := H.out.1.cell 1
  have c2 := H.out.1.cell 2
  simp at c0 c1 c2
  go_wp2_with (fail)
  refine (hpk.out _).mono ?_
  rintro e w2 ⟨rfl, rfl⟩
  clear hpk
  rcases (by omega : k = 0 ∨ k = 1 ∨ k = 2 ∨ k = 3 ∨ k = 4) with rfl | rfl | rfl | rfl | rfl
  · as_aux_lemma =>
      have hc : Calls Tryd.prog 48 #[.pointer (some ⟨d, 0, none⟩), .string S] w2 fun e w' => (∃ v k : Int, e = .returned (.tuple #[.int .i64 v, .int .i64 k])) ∧ Goes d p b L f y w2 w' := by
        obtain ⟨_, _, _, B1, _, _, D1, _⟩ := H.out
        exact create_some D1 S (by unfold maxLen; omega)
      replace hc := Lib.hid hc
      go_wp2_with (fail)
      refine hc.out.mono ?_
      rintro e w3 ⟨⟨v, k, rfl⟩, hG⟩
      have H2 := H.out.go hG
      replace H := Lib.hid H2
      clear H2 hG hc
      have hc : Calls Tryd.prog 49 #[.pointer (some ⟨d, 0, none⟩)] w3 fun e w' => e = .returned (.tuple #[]) ∧ Goes d p b L f y w3 w' := by
        obtain ⟨_, _, _, B1, _, _, D1, _⟩ := H.out
        exact show_some D1
      replace hc := Lib.hid hc
      go_wp2_with (fail)
      refine hc.out.mono ?_
      rintro e w4 ⟨rfl, hG⟩
      have H2 := H.out.go hG
      replace H := Lib.hid H2
      clear H2 hG hc
      go_wp2_with (fail)
      go_returns
      exact ⟨rfl, H.out.2.2.2⟩
  · as_aux_lemma =>
      have hc : Calls Tryd.prog 50 #[.pointer (some ⟨d, 0, none⟩), .int .i64 N] w2 fun e w' => (∃ k : Int, e = .returned (.int .i64 k)) ∧ Goes d p b L f y w2 w' := by
        obtain ⟨_, _, _, B1, _, _, D1, _⟩ := H.out
        exact comma_some D1 N
      replace hc := Lib.hid hc
      go_wp2_with (fail)
      refine hc.out.mono ?_
      rintro e w3 ⟨⟨v, rfl⟩, hG⟩
      have H2 := H.out.go hG
      replace H := Lib.hid H2
      clear H2 hG hc
      go_wp2_with (fail)
      go_returns
      exact ⟨rfl, H.out.2.2.2⟩
  · as_aux_lemma =>
      obtain ⟨g2, g3, g4⟩ := g1.out
      obtain ⟨dd, hdd⟩ : ∃ dd : Int, (f4 : Int) - (f3 : Int) = dd := ⟨_, rfl⟩
      have hpn := Lib.hid (fun W => pick_any N dd W hN.1 hN.2 (by omega) (by omega))
      have hpl := pickN_lt N dd.toNat (by omega)
      obtain ⟨k, hk⟩ : ∃ k, pickN N dd.toNat = k := ⟨_, rfl⟩
      rw [hk] at hpn hpl
      obtain ⟨a1, ha1⟩ : ∃ a1 : Int, (f3 : Int) + (k : Int) = a1 := ⟨_, rfl⟩
      have hk3 : 0 ≤ a1 ∧ a1 ≤ 143360 := by omega
      have hw1 : IntKind.i64.wrap ((f4 : Int) - (f3 : Int)) = dd := by rw [hdd, IntKind.wrap_i64]; omega
      have hw2 : IntKind.i64.wrap ((f3 : Int) + (k : Int)) = a1 := by rw [ha1, IntKind.wrap_i64]; omega
      replace hw1 := Lib.hid hw1
      replace hw2 := Lib.hid hw2
      have hS4 : (S.size : Int) ≤ 140737488351232 := by omega
      have gz3 : (f3 : Int) ≤ 143360 := by omega
      have gz4 : (f4 : Int) ≤ 143360 := by omega
      clear hk hpl hsp4 hdd ha1
      go_wp2_with (fail)
      go_loopw [8] (fun x wr => ∃ j : Nat, x = .int .i64 j ∧ j ≤ S.size ∧ Hid (Dw w d p b L f y q kd N S wr)) (fun x _ => S.size - (intOf x).toNat)
      case atStart => exact ⟨0, rfl, Nat.zero_le _, H⟩
      case round =>
        obtain ⟨j, rfl, hj0, HQ⟩ := hrel
        clear H c0 c1 c2
        have H := HQ
        have c0 := H.out.1.cell 0
        have c1 := H.out.1.cell 1
        have c2 := H.out.1.cell 2
        simp at c0 c1 c2
        by_cases hj : j < S.size
        · have j0 : (j : Int) < (S.size : Int) := by omega
          obtain ⟨c, hc⟩ : ∃ c, S[j] = c := ⟨_, rfl⟩
          have hidx : ∀ w, (Instr.index 9 (.string S) (.int .i64 (j : Int))).run Tryd.prog w = .ok (.int .u8 (c.toNat : Int)) w := fun w => by
            rw [run_index_string w 9 S .i64 (j : Int) Tryd.underlying9, dif_pos ⟨by omega, by omega⟩]
            rw [← hc]
            rfl
          obtain ⟨aa, haa⟩ : ∃ aa : Int, a1 + (j : Int) = aa := ⟨_, rfl⟩
          have hab : -9223372036854775808 ≤ aa ∧ aa ≤ 9223372036854775807 := by omega
          have hw3 : IntKind.i64.wrap (a1 + (j : Int)) = aa := by rw [haa, IntKind.wrap_i64]; omega
          have hsb := Lib.hid (fun (W : World) (H : Dw w d p b L f y q kd N S W) => let ⟨_, _, _, B1, _, _, D1, _⟩ := H; setbyte_some D1 aa hab c)
          replace hc := Lib.hid hc
          have hw1' := hw1.out
          have hw2' := hw2.out
          clear haa
          go_upto_region 12 with (fail)
          go_region_held3 (fun w' => w'.cell? ⟨q, 1, none⟩ = some (.int .i64 N) ∧ w'.cell? ⟨q, 2, none⟩ = some (.string S)) (go_keep) ((first | (go_at_call 15; (with_reducible refine Calls.mono (hpn.out _) ?_); rintro e w1_ ⟨rfl, rfl⟩) | (go_at_call 31; (with_reducible refine Calls.mono (hsb.out _ H.out.draw) ?_); rintro e w1_ ⟨⟨v_, rfl⟩, hG⟩; have H2 := (H.out.draw).go hG; replace H := Lib.hid H2; clear H2 hG; have kS : w1_.cell? ⟨q, 1, none⟩ = some (.int .i64 N) ∧ w1_.cell? ⟨q, 2, none⟩ = some (.string S) := ⟨H.out.1.cell 1, H.out.1.cell 2⟩)))
          all_goals
            clear c0 c1 c2 hw1' hw2' hw3
            go_wp2_with (fail)
            exact ⟨⟨j + 1, rfl, by omega, H⟩, by simp [intOf]; omega⟩
        · have j0 : ¬ (j : Int) < (S.size : Int) := by omega
          go_wp2_with (fail)
          go_returns
          exact ⟨rfl, H.out.2.2.2⟩
  · as_aux_lemma =>
      obtain ⟨g2, g3, g4⟩ := g1.out
      obtain ⟨dd, hdd⟩ : ∃ dd : Int, (f5 : Int) - (f4 : Int) = dd := ⟨_, rfl⟩
      have hpn := Lib.hid (fun W => pick_any N dd W hN.1 hN.2 (by omega) (by omega))
      have hpl := pickN_lt N dd.toNat (by omega)
      obtain ⟨k, hk⟩ : ∃ k, pickN N dd.toNat = k := ⟨_, rfl⟩
      rw [hk] at hpn hpl
      obtain ⟨aa, haa⟩ : ∃ aa : Int, (f4 : Int) + (k : Int) = aa := ⟨_, rfl⟩
      have hab : -9223372036854775808 ≤ aa ∧ aa ≤ 9223372036854775807 := by omega
      have hw1 : IntKind.i64.wrap ((f5 : Int) - (f4 : Int)) = dd := by rw [hdd, IntKind.wrap_i64]; omega
      have hw2 : IntKind.i64.wrap ((f4 : Int) + (k : Int)) = aa := by rw [haa, IntKind.wrap_i64]; omega
      replace hw1 := Lib.hid hw1
      replace hw2 := Lib.hid hw2
      obtain ⟨c, hc⟩ : ∃ c : UInt8, IntKind.u8.wrap (S.size : Int) = (c.toNat : Int) := ⟨UInt8.ofNat S.size, by rw [UInt8.toNat_ofNat']; show ((S.size : Int) % 256 : Int) = _; omega⟩
      have hsb := Lib.hid (fun (W : World) (H : Dw w d p b L f y q kd N S W) => let ⟨_, _, _, B1, _, _, D1, _⟩ := H; setbyte_some D1 aa hab c)
      have gz4 : (f4 : Int) ≤ 143360 := by omega
      have gz5 : (f5 : Int) ≤ 143360 := by omega
      have gk : (k : Int) ≤ 143360 := by omega
      clear hk hpl
      go_wp2_with (fail)
      refine (hsp4.out w2 H.out).mono ?_
      rintro e w3 ⟨rfl, n, hn⟩
      have H1 := H.out.draws n
      rw [← hn] at H1
      replace H := Lib.hid H1
      clear H1 hn c0 c1 c2 hsp4
      have c0 := H.out.1.cell 0
      have c1 := H.out.1.cell 1
      have c2 := H.out.1.cell 2
      simp at c0 c1 c2
      have hw1' := hw1.out
      have hw2' := hw2.out
      clear haa hdd
      go_upto_region 15 with (fail)
      go_region_held3 (fun w' => w'.cell? ⟨q, 1, none⟩ = some (.int .i64 N) ∧ w'.cell? ⟨q, 2, none⟩ = some (.string S)) (go_keep) ((first | (go_at_call 15; (with_reducible refine Calls.mono (hpn.out _) ?_); rintro e w1_ ⟨rfl, rfl⟩) | (go_at_call 31; (with_reducible refine Calls.mono (hsb.out _ H.out.draw) ?_); rintro e w1_ ⟨⟨v_, rfl⟩, hG⟩; have H2 := (H.out.draw).go hG; replace H := Lib.hid H2; clear H2 hG; have kS : w1_.cell? ⟨q, 1, none⟩ = some (.int .i64 N) ∧ w1_.cell? ⟨q, 2, none⟩ = some (.string S) := ⟨H.out.1.cell 1, H.out.1.cell 2⟩)))
      clear c0 c1 c2 hw1' hw2'
      go_wp2_with (fail)
      go_returns
      exact ⟨rfl, H.out.2.2.2⟩
  · as_aux_lemma =>
      have hc : Calls Tryd.prog 51 #[.pointer (some ⟨d, 0, none⟩), .int .i64 N] w2 fun e w' => (∃ k : Int, e = .returned (.int .i64 k)) ∧ Goes d p b L f y w2 w' := by
        obtain ⟨_, _, _, B1, _, _, D1, _⟩ := H.out
        exact allot_some D1 N hN
      replace hc := Lib.hid hc
      go_wp2_with (fail)
      refine hc.out.mono ?_
      rintro e w3 ⟨⟨v, rfl⟩, hG⟩
      have H2 := H.out.go hG
      replace H := Lib.hid H2
      clear H2 hG hc
      go_wp2_with (fail)
      go_returns
      exact ⟨rfl, H.out.2.2.2⟩
end
end Go.Proofs.YtpbloennjcjgoaaDoor
