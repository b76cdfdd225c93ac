import Derived.Test.YtpbloennjcjgoaaDoorKlA
import Derived.Test.YtpbloennjcjgoaaDoorKmM
import Derived.Test.YtpbloennjcjgoaaDoorKlD
import Derived.Test.YtpbloennjcjgoaaDoorPick
import Derived.Test.YtpbloennjcjgoaaDoorKlF
import Derived.Test.YtpbloennjcjgoaaDoorKlG
import Derived.Maps.AppendAt
namespace Go.Proofs.YtpbloennjcjgoaaDoor
open Go.RowKit
set_option linter.unusedVariables false
set_option linter.unusedSimpArgs false
/-! chapter 16: as KlA, and byte 100 stays -/
section
variable {w w' W W' : World} {d p b r : Nat} {L : Lay} {f y : Nat} {B : List UInt8} {o s : Bool} {h l : Nat} {ch : UInt8}
/-- the list is somewhere else, and other bytes lie there, but byte 100 is what it was; nothing else has turned -/
def GoesC (ch : UInt8) (d p b : Nat) (L : Lay) (f y : Nat) (w w' : World) : Prop := ∃ B' h' l', Dc w' d p b L 3 f y B' false false h' l' ∧ B'.getD 100 0 = ch ∧ Onb b d w w'
theorem GoesC.of (D : Dc w' d p b L 3 f y B false false h l) (hc : B.getD 100 0 = ch) (hO : Onb b d w w') : GoesC ch d p b L f y w w' := ⟨_, _, _, D, hc, hO⟩
theorem GoesC.stay (D : Dc w d p b L 3 f y B false false h l) (hc : B.getD 100 0 = ch) (hb : Below w.heap.size w w') : GoesC ch d p b L f y w w' := ⟨_, _, _, D.bel hb, hc, Onb.ofbel hb⟩
theorem GoesC.draws (D : Dc w d p b L 3 f y B false false h l) (hc : B.getD 100 0 = ch) (n : Nat) : GoesC ch d p b L f y w (w.drewN n) := ⟨_, _, _, D.draws n, hc, (Onb.refl b d w).draws n⟩
theorem Dc.len (D : Dc W d p b L r f y B o s h l) : y ≤ B.length := by have := D.ok; have := D.im.len; omega
theorem create_someC (D : Dc w d p b L 3 f y B false false h l) (hc : B.getD 100 0 = ch) (h100 : 100 < f) (nm : ByteArray) (hs : nm.size ≤ maxLen) : Calls Tryd.prog 48 #[.pointer (some ⟨d, 0, none⟩), .string nm] w fun e w' => (∃ v k : Int, e = .returned (.tuple #[.int .i64 v, .int .i64 k])) ∧ GoesC ch d p b L f y w w' := by
  cases hk : nameOk nm
  · exact (cr_name D nm hs hk).mono fun e w' ⟨he, hb⟩ => ⟨⟨_, _, he⟩, .stay D hc hb⟩
  · by_cases hf : y < upN h + (8 + upN (1 + nm.size))
    · exact (cr_full D nm hs hk hf).mono fun e w' ⟨he, hb⟩ => ⟨⟨_, _, he⟩, .stay D hc hb⟩
    · have hu := upN_le h
      have lo := D.lo
      have hl := D.len
      exact (cr_yes D nm hs hk hf rfl).mono fun e w' ⟨he, hD, hO⟩ => ⟨⟨_, _, he⟩, .of hD (by rw [crB_lo _ _ _ _ (by omega) _ (by omega)]; exact hc) hO⟩
theorem show_someC (D : Dc w d p b L 3 f y B false false h l) (hc : B.getD 100 0 = ch) (h100 : 100 < f) : Calls Tryd.prog 49 #[.pointer (some ⟨d, 0, none⟩)] w fun e w' => e = .returned (.tuple #[]) ∧ GoesC ch d p b L f y w w' :=
  (flag_0 D).mono fun e w' ⟨he, hD, hO⟩ => ⟨he, .of hD (by
    rcases D.la with h0 | h0
    · unfold mkB; rw [if_pos (.inl h0)]; exact hc
    · rw [mkB_lo _ _ _ _ _ _ (by omega)]; exact hc) hO⟩
theorem comma_someC (D : Dc w d p b L 3 f y B false false h l) (hc : B.getD 100 0 = ch) (h100 : 100 < f) (v : Int) : Calls Tryd.prog 50 #[.pointer (some ⟨d, 0, none⟩), .int .i64 v] w fun e w' => (∃ k : Int, e = .returned (.int .i64 k)) ∧ GoesC ch d p b L f y w w' := by
  by_cases hf : y < h + 8
  · exact (cm_full D v hf).mono fun e w' ⟨he, n, hn⟩ => ⟨⟨_, he⟩, hn ▸ .draws D hc n⟩
  · by_cases h8 : h % 8 = 0
    · have lo := D.lo
      have hl := D.len
      exact (cm_yes D v (by omega) h8 rfl).mono fun e w' ⟨he, hD, hO⟩ => ⟨⟨_, he⟩, .of hD (by rw [getD_lo _ _ _ _ (by rw [by8_length]; omega) (by omega)]; exact hc) hO⟩
    · exact (cm_bad D v (by omega) 6 (.inl ⟨h8, rfl⟩)).mono fun e w' ⟨he, n, hn⟩ => ⟨⟨_, he⟩, hn ▸ .draws D hc n⟩
theorem allot_someC (D : Dc w d p b L 3 f y B false false h l) (hc : B.getD 100 0 = ch) (n : Int) (hb : -9223372036854775808 ≤ n ∧ n ≤ 9223372036854775807) : Calls Tryd.prog 51 #[.pointer (some ⟨d, 0, none⟩), .int .i64 n] w fun e w' => (∃ k : Int, e = .returned (.int .i64 k)) ∧ GoesC ch d p b L f y w w' := by
  by_cases hn : n < (f : Int) - h ∨ (y : Int) - h < n
  · exact (allot_full D n hn hb).mono fun e w' ⟨he, m, hm⟩ => ⟨⟨_, he⟩, hm ▸ .draws D hc m⟩
  · exact (allot_yes D n (by omega) (by omega)).mono fun e w' ⟨he, hD, hO⟩ => ⟨⟨_, he⟩, .of hD hc hO⟩
theorem setbyte_someC (D : Dc w d p b L 3 f y B false false h l) (hc : B.getD 100 0 = ch) (a : Int) (ha : -9223372036854775808 ≤ a ∧ a ≤ 9223372036854775807) (h100 : 100 < a) (c : UInt8) : Calls Tryd.prog 31 #[.pointer (some ⟨p, 0, none⟩), .int .i64 0, .int .i64 a, .int .u8 (c.toNat : Int)] w fun e w' => (∃ k : Int, e = .returned (.int .i64 k)) ∧ GoesC ch d p b L f y w w' := by
  by_cases hok : rowOk L false false 0 a 1 2
  · have h0 : ¬ a < 0 := fun hn => hok.1 (by unfold Lay.reg; rw [if_pos hn])
    obtain ⟨n, rfl⟩ : ∃ n : Nat, a = n := ⟨a.toNat, by omega⟩
    exact (setbyte_yes D.im n c hok).mono fun e w' ⟨he, hI, hO⟩ => ⟨⟨_, he⟩, .of (D.turn hI hO) (by rw [getD_set, if_neg (by omega)]; exact hc) (Onb.ofb hO)⟩
  · exact (setbyte_no D.im a _ ha hok).mono fun e w' ⟨he, hw⟩ => ⟨⟨_, he⟩, by rw [hw]; exact .of D hc (Onb.refl b d w)⟩
end
end Go.Proofs.YtpbloennjcjgoaaDoor

namespace Go.Proofs.YtpbloennjcjgoaaDoor
open Go.RowKit
set_option linter.unusedVariables false
set_option linter.unusedSimpArgs false
/-! chapter 16: does: whatever is done, the list is somewhere and bytes lie there -/
section
variable {w w' W W' : World} {d p b : Nat} {L : Lay} {f y : Nat} {B : List UInt8} {h l : Nat} {ch : UInt8}
/-- the step's box stands, and the list is somewhere -/
def DwC (ch : UInt8) (w : World) (d p b : Nat) (L : Lay) (f y q : Nat) (kd N : Int) (S : ByteArray) (W : World) : Prop := Bk W q 59 #[.int .i64 kd, .int .i64 N, .string S] ∧ q ≠ b ∧ q ≠ d ∧ GoesC ch d p b L f y w W
variable {q : Nat} {kd N : Int} {S : ByteArray}
theorem DwC.go (H : DwC ch w d p b L f y q kd N S W) (hG : GoesC ch d p b L f y W W') : DwC ch w d p b L f y q kd N S W' := by
  obtain ⟨h1, h2, h3, B1, x1, x2, D1, C1, O1⟩ := H
  obtain ⟨B2, y1, y2, D2, C2, O2⟩ := hG
  exact ⟨O2.bk h1 h2 h3, h2, h3, B2, y1, y2, D2, C2, O1.trans O2⟩
theorem DwC.draws (H : DwC ch w d p b L f y q kd N S W) (n : Nat) : DwC ch w d p b L f y q kd N S (W.drewN n) := by
  obtain ⟨h1, h2, h3, B1, x1, x2, D1, C1, O1⟩ := H
  exact ⟨h1.draws n, h2, h3, B1, x1, x2, D1.draws n, C1, O1.draws n⟩
theorem DwC.draw (H : DwC ch w d p b L f y q kd N S W) : DwC ch w d p b L f y q kd N S W.drew := H.draws 1
set_option maxRecDepth 100000 in
set_option maxHeartbeats 8000000 in
theorem does_anyC (D : Dc w d p b L 3 f y B false false h l) (hc0 : B.getD 100 0 = ch) (h100 : 100 < L.b3) (kd N : Int) (S : ByteArray) (hkd : -9223372036854775808 ≤ kd ∧ kd ≤ 9223372036854775807) (hN : -9223372036854775808 ≤ N ∧ N ≤ 9223372036854775807) (hS : S.size ≤ 140737488351232) :
    Calls Tryd.prog 24 #[.pointer (some ⟨p, 0, none⟩), .pointer (some ⟨d, 0, none⟩), .agg #[.int .i64 kd, .int .i64 N, .string S]] w fun e w' => e = .returned (.tuple #[]) ∧ GoesC ch d p b L f y w w' := by
  have hbl : b < w.heap.size := D.im.by_.lt
  have hdl : d < w.heap.size := D.bk.lt
  have m := Lay.mono D.im.ok
  have hf1 : Hid (100 < f) := Lib.hid (by have := D.fx; have h3 : L.beg 3 = L.b3 := rfl; omega)
  have hb34 : L.b3 < L.b4 := by omega
  have H0 : DwC ch w d p b L f y w.heap.size kd N S (w.alloc (.cells #[.int .i64 kd, .int .i64 N, .string S] 59)) :=
    ⟨Bk.fresh _ _ _, by omega, by omega, _, _, _, D.bel ((Below.refl _ _).alloc (Nat.le_refl _) _), hc0, (Onb.refl b d w).past _⟩
  obtain ⟨X, hX⟩ : ∃ X, w.alloc (.cells #[.int .i64 kd, .int .i64 N, .string S] 59) = X := ⟨_, rfl⟩
  obtain ⟨q, hq⟩ : ∃ q, w.heap.size = q := ⟨_, rfl⟩
  rw [hX, hq] at H0
  have H := Lib.hid H0
  have hsp := Lib.hid (fun (r : Int) (W : World) (H : DwC ch w d p b L f y q kd N S W) => let ⟨_, _, _, B1, _, _, D1, _⟩ := H; span_any p b L B1 false false r W D1.im)
  have hsp3 := fun W H => hsp.out 3 W H
  have hsp4 := fun W H => hsp.out 4 W H
  rw [show L.from_ 3 = L.b3 from rfl, show L.to_ 3 = L.b4 from rfl] at hsp3
  rw [show L.from_ 4 = L.b4 from rfl, show L.to_ 4 = L.b5 from rfl] at hsp4
  obtain ⟨f3, hf3⟩ : ∃ x, L.b3 = x := ⟨_, rfl⟩
  obtain ⟨f4, hf4⟩ : ∃ x, L.b4 = x := ⟨_, rfl⟩
  obtain ⟨f5, hf5⟩ : ∃ x, L.b5 = x := ⟨_, rfl⟩
  rw [hf3, hf4] at hsp3
  rw [hf4, hf5] at hsp4
  have g1 : f3 < f4 ∧ f4 < f5 ∧ f5 ≤ 143360 ∧ 100 < f3 := by omega
  replace hsp3 := Lib.hid hsp3
  replace hsp4 := Lib.hid hsp4
  have hpk := Lib.hid (fun W => pick_any kd 5 W hkd.1 hkd.2 (by decide) (by decide))
  have e5 : (5 : Int).toNat = 5 := rfl
  rw [e5] at hpk
  have hkl := pickN_lt kd 5 (by decide)
  obtain ⟨k, hk⟩ : ∃ k, pickN kd 5 = k := ⟨_, rfl⟩
  rw [hk] at hpk hkl
  replace g1 := Lib.hid g1
  have c0 := H.out.1.cell 0
  have c1 := H.out.1.cell 1
  have c2 := H.out.1.cell 2
  simp at c0 c1 c2
  rw [← hX] at c0 c1 c2
  replace hX := Lib.hid hX
  clear H0 hsp m hf3 hf4 hf5 e5 hk D hbl hdl hkd
  go_enter Tryd.func24, Tryd.ntmps24
  go_wp2_with (fail)
  try rw [hX.out]
  refine (hsp3.out X H.out).mono ?_
  rintro e w1 ⟨rfl, n, hn⟩
  have H1 := H.out.draws n
  rw [← hn] at H1
  replace H := Lib.hid H1
  clear H1 hn c0 c1 c2 hX hsp3
  have c0 := H.out.1.cell 0
  have c1 := H.out.1.cell 1
  have c2 := H.out.1.cell 2
  simp at c0 c1 c2
  go_wp2_with (fail)
  refine (hpk.out _).mono ?_
  rintro e w2 ⟨rfl, rfl⟩
  clear hpk
  rcases (by omega : k = 0 ∨ k = 1 ∨ k = 2 ∨ k = 3 ∨ k = 4) with rfl | rfl | rfl | rfl | rfl
  · as_aux_lemma =>
      have hc : Calls Tryd.prog 48 #[.pointer (some ⟨d, 0, none⟩), .string S] w2 fun e w' => (∃ v k : Int, e = .returned (.tuple #[.int .i64 v, .int .i64 k])) ∧ GoesC ch d p b L f y w2 w' := by
        obtain ⟨_, _, _, B1, _, _, D1, C1, _⟩ := H.out
        exact create_someC D1 C1 hf1.out S (by unfold maxLen; omega)
      replace hc := Lib.hid hc
      go_wp2_with (fail)
      refine hc.out.mono ?_
      rintro e w3 ⟨⟨v, k, rfl⟩, hG⟩
      have H2 := H.out.go hG
      replace H := Lib.hid H2
      clear H2 hG hc
      have hc : Calls Tryd.prog 49 #[.pointer (some ⟨d, 0, none⟩)] w3 fun e w' => e = .returned (.tuple #[]) ∧ GoesC ch d p b L f y w3 w' := by
        obtain ⟨_, _, _, B1, _, _, D1, C1, _⟩ := H.out
        exact show_someC D1 C1 hf1.out
      replace hc := Lib.hid hc
      go_wp2_with (fail)
      refine hc.out.mono ?_
      rintro e w4 ⟨rfl, hG⟩
      have H2 := H.out.go hG
      replace H := Lib.hid H2
      clear H2 hG hc
      go_wp2_with (fail)
      go_returns
      exact ⟨rfl, H.out.2.2.2⟩
  · as_aux_lemma =>
      have hc : Calls Tryd.prog 50 #[.pointer (some ⟨d, 0, none⟩), .int .i64 N] w2 fun e w' => (∃ k : Int, e = .returned (.int .i64 k)) ∧ GoesC ch d p b L f y w2 w' := by
        obtain ⟨_, _, _, B1, _, _, D1, C1, _⟩ := H.out
        exact comma_someC D1 C1 hf1.out N
      replace hc := Lib.hid hc
      go_wp2_with (fail)
      refine hc.out.mono ?_
      rintro e w3 ⟨⟨v, rfl⟩, hG⟩
      have H2 := H.out.go hG
      replace H := Lib.hid H2
      clear H2 hG hc
      go_wp2_with (fail)
      go_returns
      exact ⟨rfl, H.out.2.2.2⟩
  · as_aux_lemma =>
      obtain ⟨g2, g3, g4, g5⟩ := g1.out
      obtain ⟨dd, hdd⟩ : ∃ dd : Int, (f4 : Int) - (f3 : Int) = dd := ⟨_, rfl⟩
      have hpn := Lib.hid (fun W => pick_any N dd W hN.1 hN.2 (by omega) (by omega))
      have hpl := pickN_lt N dd.toNat (by omega)
      obtain ⟨k, hk⟩ : ∃ k, pickN N dd.toNat = k := ⟨_, rfl⟩
      rw [hk] at hpn hpl
      obtain ⟨a1, ha1⟩ : ∃ a1 : Int, (f3 : Int) + (k : Int) = a1 := ⟨_, rfl⟩
      have hk3 : 100 < a1 ∧ a1 ≤ 143360 := by omega
      have hw1 : IntKind.i64.wrap ((f4 : Int) - (f3 : Int)) = dd := by rw [hdd, IntKind.wrap_i64]; omega
      have hw2 : IntKind.i64.wrap ((f3 : Int) + (k : Int)) = a1 := by rw [ha1, IntKind.wrap_i64]; omega
      replace hw1 := Lib.hid hw1
      replace hw2 := Lib.hid hw2
      have hS4 : (S.size : Int) ≤ 140737488351232 := by omega
      have gz3 : (f3 : Int) ≤ 143360 := by omega
      have gz4 : (f4 : Int) ≤ 143360 := by omega
      clear hk hpl hsp4 hdd ha1
      go_wp2_with (fail)
      go_loopw [8] (fun x wr => ∃ j : Nat, x = .int .i64 j ∧ j ≤ S.size ∧ Hid (DwC ch w d p b L f y q kd N S wr)) (fun x _ => S.size - (intOf x).toNat)
      case atStart => exact ⟨0, rfl, Nat.zero_le _, H⟩
      case round =>
        obtain ⟨j, rfl, hj0, HQ⟩ := hrel
        clear H c0 c1 c2
        have H := HQ
        have c0 := H.out.1.cell 0
        have c1 := H.out.1.cell 1
        have c2 := H.out.1.cell 2
        simp at c0 c1 c2
        by_cases hj : j < S.size
        · have j0 : (j : Int) < (S.size : Int) := by omega
          obtain ⟨c, hc⟩ : ∃ c, S[j] = c := ⟨_, rfl⟩
          have hidx : ∀ w, (Instr.index 9 (.string S) (.int .i64 (j : Int))).run Tryd.prog w = .ok (.int .u8 (c.toNat : Int)) w := fun w => by
            rw [run_index_string w 9 S .i64 (j : Int) Tryd.underlying9, dif_pos ⟨by omega, by omega⟩]
            rw [← hc]
            rfl
          obtain ⟨aa, haa⟩ : ∃ aa : Int, a1 + (j : Int) = aa := ⟨_, rfl⟩
          have hab : -9223372036854775808 ≤ aa ∧ aa ≤ 9223372036854775807 := by omega
          have h1a : 100 < aa := by omega
          have hw3 : IntKind.i64.wrap (a1 + (j : Int)) = aa := by rw [haa, IntKind.wrap_i64]; omega
          have hsb := Lib.hid (fun (W : World) (H : DwC ch w d p b L f y q kd N S W) => let ⟨_, _, _, B1, _, _, D1, C1, _⟩ := H; setbyte_someC D1 C1 aa hab h1a c)
          replace hc := Lib.hid hc
          have hw1' := hw1.out
          have hw2' := hw2.out
          clear haa
          go_upto_region 12 with (fail)
          go_region_held3 (fun w' => w'.cell? ⟨q, 1, none⟩ = some (.int .i64 N) ∧ w'.cell? ⟨q, 2, none⟩ = some (.string S)) (go_keep) ((first | (go_at_call 15; (with_reducible refine Calls.mono (hpn.out _) ?_); rintro e w1_ ⟨rfl, rfl⟩) | (go_at_call 31; (with_reducible refine Calls.mono (hsb.out _ H.out.draw) ?_); rintro e w1_ ⟨⟨v_, rfl⟩, hG⟩; have H2 := (H.out.draw).go hG; replace H := Lib.hid H2; clear H2 hG; have kS : w1_.cell? ⟨q, 1, none⟩ = some (.int .i64 N) ∧ w1_.cell? ⟨q, 2, none⟩ = some (.string S) := ⟨H.out.1.cell 1, H.out.1.cell 2⟩)))
          all_goals
            clear c0 c1 c2 hw1' hw2' hw3
            go_wp2_with (fail)
            exact ⟨⟨j + 1, rfl, by omega, H⟩, by simp [intOf]; omega⟩
        · have j0 : ¬ (j : Int) < (S.size : Int) := by omega
          go_wp2_with (fail)
          go_returns
          exact ⟨rfl, H.out.2.2.2⟩
  · as_aux_lemma =>
      obtain ⟨g2, g3, g4, g5⟩ := g1.out
      obtain ⟨dd, hdd⟩ : ∃ dd : Int, (f5 : Int) - (f4 : Int) = dd := ⟨_, rfl⟩
      have hpn := Lib.hid (fun W => pick_any N dd W hN.1 hN.2 (by omega) (by omega))
      have hpl := pickN_lt N dd.toNat (by omega)
      obtain ⟨k, hk⟩ : ∃ k, pickN N dd.toNat = k := ⟨_, rfl⟩
      rw [hk] at hpn hpl
      obtain ⟨aa, haa⟩ : ∃ aa : Int, (f4 : Int) + (k : Int) = aa := ⟨_, rfl⟩
      have hab : -9223372036854775808 ≤ aa ∧ aa ≤ 9223372036854775807 := by omega
      have h1a : 100 < aa := by omega
      have hw1 : IntKind.i64.wrap ((f5 : Int) - (f4 : Int)) = dd := by rw [hdd, IntKind.wrap_i64]; omega
      have hw2 : IntKind.i64.wrap ((f4 : Int) + (k : Int)) = aa := by rw [haa, IntKind.wrap_i64]; omega
      replace hw1 := Lib.hid hw1
      replace hw2 := Lib.hid hw2
      obtain ⟨c, hc⟩ : ∃ c : UInt8, IntKind.u8.wrap (S.size : Int) = (c.toNat : Int) := ⟨UInt8.ofNat S.size, by rw [UInt8.toNat_ofNat']; show ((S.size : Int) % 256 : Int) = _; omega⟩
      have hsb := Lib.hid (fun (W : World) (H : DwC ch w d p b L f y q kd N S W) => let ⟨_, _, _, B1, _, _, D1, C1, _⟩ := H; setbyte_someC D1 C1 aa hab h1a c)
      have gz4 : (f4 : Int) ≤ 143360 := by omega
      have gz5 : (f5 : Int) ≤ 143360 := by omega
      have gk : (k : Int) ≤ 143360 := by omega
      clear hk hpl
      go_wp2_with (fail)
      refine (hsp4.out w2 H.out).mono ?_
      rintro e w3 ⟨rfl, n, hn⟩
      have H1 := H.out.draws n
      rw [← hn] at H1
      replace H := Lib.hid H1
      clear H1 hn c0 c1 c2 hsp4
      have c0 := H.out.1.cell 0
      have c1 := H.out.1.cell 1
      have c2 := H.out.1.cell 2
      simp at c0 c1 c2
      have hw1' := hw1.out
      have hw2' := hw2.out
      clear haa hdd
      go_upto_region 15 with (fail)
      go_region_held3 (fun w' => w'.cell? ⟨q, 1, none⟩ = some (.int .i64 N) ∧ w'.cell? ⟨q, 2, none⟩ = some (.string S)) (go_keep) ((first | (go_at_call 15; (with_reducible refine Calls.mono (hpn.out _) ?_); rintro e w1_ ⟨rfl, rfl⟩) | (go_at_call 31; (with_reducible refine Calls.mono (hsb.out _ H.out.draw) ?_); rintro e w1_ ⟨⟨v_, rfl⟩, hG⟩; have H2 := (H.out.draw).go hG; replace H := Lib.hid H2; clear H2 hG; have kS : w1_.cell? ⟨q, 1, none⟩ = some (.int .i64 N) ∧ w1_.cell? ⟨q, 2, none⟩ = some (.string S) := ⟨H.out.1.cell 1, H.out.1.cell 2⟩)))
      clear c0 c1 c2 hw1' hw2'
      go_wp2_with (fail)
      go_returns
      exact ⟨rfl, H.out.2.2.2⟩
  · as_aux_lemma =>
      have hc : Calls Tryd.prog 51 #[.pointer (some ⟨d, 0, none⟩), .int .i64 N] w2 fun e w' => (∃ k : Int, e = .returned (.int .i64 k)) ∧ GoesC ch d p b L f y w2 w' := by
        obtain ⟨_, _, _, B1, _, _, D1, C1, _⟩ := H.out
        exact allot_someC D1 C1 N hN
      replace hc := Lib.hid hc
      go_wp2_with (fail)
      refine hc.out.mono ?_
      rintro e w3 ⟨⟨v, rfl⟩, hG⟩
      have H2 := H.out.go hG
      replace H := Lib.hid H2
      clear H2 hG hc
      go_wp2_with (fail)
      go_returns
      exact ⟨rfl, H.out.2.2.2⟩
end
end Go.Proofs.YtpbloennjcjgoaaDoor

namespace Go.Proofs.YtpbloennjcjgoaaDoor
open Go.RowKit
set_option linter.unusedVariables false
set_option linter.unusedSimpArgs false
/-! chapter 16, plain: the words depend on the region's bytes alone; byte 100 behind Lay -/
theorem headP_in {B B' : List UInt8} {f y : Nat} (hl : B'.length = B.length) (hB : y ≤ B.length) (hs : ∀ i, f ≤ i → i < y → B'.getD i 0 = B.getD i 0) (at_ : Int) : headP B' f y at_ = headP B f y at_ := by
  unfold headP
  by_cases c1 : at_ % 8 = 0 ∧ (f : Int) ≤ at_ ∧ at_ + 16 ≤ y
  · rw [if_pos c1, if_pos c1]
    obtain ⟨a, ha⟩ : ∃ a : Nat, at_.toNat = a := ⟨_, rfl⟩
    rw [ha]
    have h1 : f ≤ a := by omega
    have h2 : a + 16 ≤ y := by omega
    have e8 : B'.getD (a + 8) 0 = B.getD (a + 8) 0 := hs _ (by omega) (by omega)
    rw [e8]
    by_cases c2 : (B.getD (a + 8) 0).toNat % 32 ≠ 0 ∧ upN (a + 9 + (B.getD (a + 8) 0).toNat % 32) ≤ y
    · rw [if_pos c2, if_pos c2]
      have hu := upN_le (a + 9 + (B.getD (a + 8) 0).toNat % 32)
      have ec : cel B' a = cel B a := cel_congr _ _ _ _ (fun k hk => hs _ (by omega) (by omega))
      have er : rowL B' (a + 9) ((B.getD (a + 8) 0).toNat % 32) = rowL B (a + 9) ((B.getD (a + 8) 0).toNat % 32) := by
        refine list_ext _ _ (by rw [rowL_len _ _ _ (by omega), rowL_len _ _ _ (by omega)]) (fun i hi => ?_)
        rw [rowL_len _ _ _ (by omega)] at hi
        unfold rowL
        rw [getD_drop _ _ _ _ hi, getD_drop _ _ _ _ hi]
        exact hs _ (by omega) (by omega)
      unfold wdB
      rw [ec, er]
    · rw [if_neg c2, if_neg c2]
  · rw [if_neg c1, if_neg c1]
theorem walkF_in {B B' : List UInt8} {f y : Nat} (hl : B'.length = B.length) (hB : y ≤ B.length) (hs : ∀ i, f ≤ i → i < y → B'.getD i 0 = B.getD i 0) : ∀ (n : Nat) (at_ : Int), walkF B' f y n at_ = walkF B f y n at_
  | 0, _ => rfl
  | n + 1, at_ => by
    unfold walkF
    rw [headP_in hl hB hs at_]
    cases headP B f y at_ with
    | none => rfl
    | some v =>
      obtain ⟨x, nx⟩ := v
      simp only
      rw [walkF_in hl hB hs n nx]
theorem walkP_in {B B' : List UInt8} {f y l : Nat} (hl : B'.length = B.length) (hB : y ≤ B.length) (hs : ∀ i, f ≤ i → i < y → B'.getD i 0 = B.getD i 0) : walkP B' f y l = walkP B f y l := walkF_in hl hB hs _ _
theorem part_eq {L : Lay} {B B' : List UInt8} (h : strL L B' 3 = strL L B 3) (i : Nat) (h1 : L.b3 ≤ i) (h2 : i < L.b4) : B'.getD i 0 = B.getD i 0 := by
  have e : partL L B' 3 = partL L B 3 := by
    unfold strL at h
    have := congrArg (fun b : ByteArray => b.data.toList) h
    simpa using this
  unfold partL at e
  have h3 : L.from_ 3 = L.b3 := rfl
  have h4 : L.to_ 3 = L.b4 := rfl
  rw [h3, h4] at e
  have h5 := congrArg (fun l : List UInt8 => l.getD (i - L.b3) 0) e
  try simp only at h5
  rw [getD_drop _ _ _ _ (by omega), getD_drop _ _ _ _ (by omega), show L.b3 + (i - L.b3) = i by omega] at h5
  exact h5
theorem lay_100 (L : Lay) (hok : L.ok) (B : List UInt8) (hB : B.length = L.b6) (h100 : 100 < L.b3) (S1 S2 S3 : ByteArray) (h1 : S1.size = L.u) (h2 : S2.size = L.d) (h3 : S3.size = L.r) :
    (splice (splice (splice B (L.from_ 3) S1.data.toList) (L.from_ 4) S2.data.toList) (L.from_ 5) S3.data.toList).getD 100 0 = B.getD 100 0 := by
  have m := Lay.mono hok
  have l1 : S1.data.toList.length = L.u := by rw [data_size]; exact h1
  have l2 : S2.data.toList.length = L.d := by rw [data_size]; exact h2
  have l3 : S3.data.toList.length = L.r := by rw [data_size]; exact h3
  have f3 : L.from_ 3 = L.b3 := rfl
  have f4 : L.from_ 4 = L.b4 := rfl
  have f5 : L.from_ 5 = L.b5 := rfl
  have b4 : L.b4 = L.b3 + L.u := rfl
  have b5 : L.b5 = L.b4 + L.d := rfl
  have b6 : L.b6 = L.b5 + L.r := rfl
  have s1 : (splice B (L.from_ 3) S1.data.toList).length = B.length := splice_len _ _ _ (by rw [l1, f3]; omega)
  have s2 : (splice (splice B (L.from_ 3) S1.data.toList) (L.from_ 4) S2.data.toList).length = B.length := by rw [splice_len _ _ _ (by rw [l2, f4, s1]; omega), s1]
  rw [getD_lo _ _ _ _ (by rw [l3, f5, s2]; omega) (by rw [f5]; omega), getD_lo _ _ _ _ (by rw [l2, f4, s1]; omega) (by rw [f4]; omega), getD_lo _ _ _ _ (by rw [l1, f3]; omega) (by rw [f3]; omega)]
theorem laid_len (L : Lay) (hok : L.ok) (B : List UInt8) (hB : B.length = L.b6) (S1 S2 S3 : ByteArray) (h1 : S1.size = L.u) (h2 : S2.size = L.d) (h3 : S3.size = L.r) :
    (splice (splice (splice B (L.from_ 3) S1.data.toList) (L.from_ 4) S2.data.toList) (L.from_ 5) S3.data.toList).length = B.length := by
  have m := Lay.mono hok
  have l1 : S1.data.toList.length = L.u := by rw [data_size]; exact h1
  have l2 : S2.data.toList.length = L.d := by rw [data_size]; exact h2
  have l3 : S3.data.toList.length = L.r := by rw [data_size]; exact h3
  have f3 : L.from_ 3 = L.b3 := rfl
  have f4 : L.from_ 4 = L.b4 := rfl
  have f5 : L.from_ 5 = L.b5 := rfl
  have b4 : L.b4 = L.b3 + L.u := rfl
  have b5 : L.b5 = L.b4 + L.d := rfl
  have b6 : L.b6 = L.b5 + L.r := rfl
  have s1 : (splice B (L.from_ 3) S1.data.toList).length = B.length := splice_len _ _ _ (by rw [l1, f3]; omega)
  have s2 : (splice (splice B (L.from_ 3) S1.data.toList) (L.from_ 4) S2.data.toList).length = B.length := by rw [splice_len _ _ _ (by rw [l2, f4, s1]; omega), s1]
  rw [splice_len _ _ _ (by rw [l3, f5, s2]; omega), s2]
theorem strL_sizes {L : Lay} {B : List UInt8} (hok : L.ok) (hB : B.length = L.b6) : (strL L B 3).size = L.u ∧ (strL L B 4).size = L.d ∧ (strL L B 5).size = L.r := by
  have m := Lay.mono hok
  have b4 : L.b4 = L.b3 + L.u := rfl
  have b5 : L.b5 = L.b4 + L.d := rfl
  have b6 : L.b6 = L.b5 + L.r := rfl
  have hh : ∀ r : Int, (strL L B r).size = min (L.to_ r - L.from_ r) (B.length - L.from_ r) := fun r => by
    unfold strL partL
    rw [← data_size]
    simp [List.length_take, List.length_drop]
  have f3 : L.from_ 3 = L.b3 := rfl
  have t3 : L.to_ 3 = L.b4 := rfl
  have f4 : L.from_ 4 = L.b4 := rfl
  have t4 : L.to_ 4 = L.b5 := rfl
  have f5 : L.from_ 5 = L.b5 := rfl
  have t5 : L.to_ 5 = L.b6 := rfl
  rw [hh, hh, hh, f3, t3, f4, t4, f5, t5]
  omega
/-- the words that the laid state tells are those that were kept -/
theorem walk_laid {L : Lay} {B0 B : List UInt8} {f y l : Nat} (hok : L.ok) (h0 : B0.length = L.b6) (hB : B.length = L.b6) (hf : f = L.beg 3 + 8) (hy : y = L.beg 4) :
    walkP (splice (splice (splice B (L.from_ 3) (strL L B0 3).data.toList) (L.from_ 4) (strL L B0 4).data.toList) (L.from_ 5) (strL L B0 5).data.toList) f y l = walkP B0 f y l := by
  have m := Lay.mono hok
  have b3 : L.beg 3 = L.b3 := rfl
  have b4 : L.beg 4 = L.b4 := rfl
  have g4 : L.b4 = L.b3 + L.u := rfl
  have g5 : L.b5 = L.b4 + L.d := rfl
  have g6 : L.b6 = L.b5 + L.r := rfl
  obtain ⟨z1, z2, z3⟩ := strL_sizes hok h0
  have hr := laid_read L hok B hB (strL L B0 3) (strL L B0 4) (strL L B0 5) z1 z2 z3
  have hl := laid_len L hok B hB (strL L B0 3) (strL L B0 4) (strL L B0 5) z1 z2 z3
  refine walkP_in (by rw [hl, hB, h0]) (by rw [h0, hy, b4]; omega) (fun i h1 h2 => ?_)
  exact part_eq hr.1 i (by omega) (by omega)
end Go.Proofs.YtpbloennjcjgoaaDoor

namespace Go.Proofs.YtpbloennjcjgoaaDoor
open Go.RowKit Go.Shelf
attribute [local go_sem] Oper.semAt_some
set_option linter.unusedVariables false
set_option linter.unusedSimpArgs false
/-! ResetKeeps: what holds in the two ranges' rounds -/
theorem wd_append_at {w : World} {base : Nat} {v : Value} {X : List Wd} (x : Wd) (h : w.ownsRow base 72 6 v X.length (wdsC X)) (hb : base ≤ w.heap.size) (hl : X.length ≤ 1000000) :
    ∃ A' c' w2, (Builtin.append_ #[67, 67] 67 #[v, .slice (some ⟨w.heap.size, 0, none⟩) 1 1]).run Tryd.prog (w.alloc (.cells (wdC x).toArray 72)) = .ok (.slice A' (X ++ [x]).length c') w2 ∧
      w2.ownsRow base 72 6 (.slice A' (X ++ [x]).length c') (X ++ [x]).length (wdsC (X ++ [x])) ∧ w.grownBy w2 v.ownBlock ∧
      ((Value.slice A' (X ++ [x]).length c').ownBlock = v.ownBlock ∨ ∃ g, (Value.slice A' (X ++ [x]).length c').ownBlock = some g ∧ w.heap.size ≤ g) := by
  obtain ⟨i9, hi, hz0, hz1, hz2⟩ := info_parts info_word
  have hrow := h.alloc (.cells (wdC x).toArray 72)
  obtain ⟨v', w2, hrun, hown, hgr, _, hat⟩ := run_append_own_at (P := Tryd.prog) (w.alloc (.cells (wdC x).toArray 72)) base 67 67 72 i9 _ 6 40 Tryd.underlying67 hi hz0 hz1 hz2 rfl (by decide) v X.length (wdsC X) hrow ⟨w.heap.size, 0, none⟩ 1 1 (wdC x) rfl (fun j u hu => by
    have := (Bk.fresh w 72 (wdC x).toArray).cell j
    rw [show ((⟨w.heap.size, 0, none⟩ : Addr).add j) = ⟨w.heap.size, j, none⟩ by unfold Addr.add; split <;> simp_all]
    exact this.trans (by simpa [wdC] using hu)) (fun u hu => by simp [wdC] at hu; rcases hu with rfl | rfl | rfl | rfl | rfl | rfl <;> rfl) (by unfold maxLen; omega) (by omega) (by simp; omega)
  have e : X.length + 1 = (X ++ [x]).length := by simp
  rw [e, wdsC_push] at hown
  obtain ⟨A', c', rfl⟩ := own_form hown
  have hg0 := World.grownBy_alloc w (.cells (wdC x).toArray 72) v.ownBlock
  refine ⟨A', c', w2, hrun, hown, ⟨hgr.os.trans hg0.os, hgr.tape.trans hg0.tape, hgr.output.trans hg0.output, Nat.le_trans hg0.size hgr.size, fun k hk hn => (hgr.block k (Nat.lt_of_lt_of_le hk hg0.size) hn).trans (hg0.block k hk hn)⟩, ?_⟩
  rcases hat with h1 | h1
  · exact .inl h1
  · exact .inr ⟨_, h1, by rw [World.size_alloc]; omega⟩
theorem bkOf_of {lb : Nat} {W : World} {v : Value} (h : Bk W lb 67 #[v]) : bkOf lb W = v.ownBlock := by
  have c := h.cell 0
  simp at c
  unfold bkOf
  rw [c]
/-- an append onto the variable's slice, and the store of it -/
theorem kd_append {lb : Nat} {W W2 : World} {v v' : Value} (hl : Bk W lb 67 #[v]) (hl2 : Bk W2 lb 67 #[v]) (hg : W.grownBy W2 v.ownBlock) (hat : v'.ownBlock = v.ownBlock ∨ ∃ g, v'.ownBlock = some g ∧ W.heap.size ≤ g) : Kd lb (fun i => i = lb) W (W2.setCell ⟨lb, 0, none⟩ v') := by
  have h3 : Bk (W2.setCell ⟨lb, 0, none⟩ v') lb 67 #[v'] := hl2.put 0 v'
  refine ⟨by rw [World.size_setCell]; exact hg.size, fun _ => ⟨⟨_, h3, rfl⟩, fun k o hk _ hx hb => ?_, ?_⟩⟩
  · rw [bkOf_of hl] at hb
    exact (Below.heap_setCell W2 ⟨lb, 0, none⟩ v' k hx).trans ((hg.block k (Array.getElem?_eq_some_iff.1 hk).1 hb.symm).trans hk)
  · rw [bkOf_of hl, bkOf_of h3]
    exact hat
/-- whatever is no cells stays when a row of the own grows -/
theorem kf_grown {K : Nat} {W W2 : World} {base n size : Nat} {e : TypeId} {v : Value} {xs : List Value} (hr : W.ownsRow base e size v n xs) (hg : W.grownBy W2 v.ownBlock) : KeepsOthers W W2 := ⟨hg.size, fun k o hk ho => (hg.block k (Array.getElem?_eq_some_iff.1 hk).1 (fun e => by
  rcases hr.2 with ⟨rfl, _⟩ | ⟨g, cap, cur, rfl, _, hgg, _⟩
  · simp [Value.ownBlock] at e
  · simp [Value.ownBlock] at e
    subst e
    rw [hgg] at hk
    injection hk with hk
    subst hk
    cases ho)).trans hk⟩
/-- what holds in the rounds of the range that gathers the words -/
structure Ia (w : World) (lb q kx d p b : Nat) (L : Lay) (f y : Nat) (B : List UInt8) (h l : Nat) (P3 P4 P5 : ByteArray) (K0 : Nat) (pre : List NW) (W : World) : Prop where
  lst : ∃ A c, Bk W lb 67 #[.slice A pre.length c] ∧ W.ownsRow w.heap.size 72 6 (.slice A pre.length c) pre.length (wdsC (pre.map (·.1)))
  res : Bk W q 4 #[.bool false]
  st : Bk W kx 23 (stB P3 P4 P5 h l)
  bel : Below w.heap.size w W
  dc : Dc W d p b L 3 f y B false false h l
  lo : K0 ≤ W.heap.size
section
variable {w W W' : World} {lb q kx d p b : Nat} {L : Lay} {f y : Nat} {B : List UInt8} {h l : Nat} {P3 P4 P5 : ByteArray} {K0 : Nat} {pre : List NW}
theorem Ia.own (K : Nat) (hK : w.heap.size ≤ K) : OwnFrom K (Ia w lb q kx d p b L f y B h l P3 P4 P5 K0) := fun s A A' row hs hg hr => by
  have hr2 := fun r e => (hr r e).2
  obtain ⟨A2, c2, h1, h2⟩ := hs.lst
  exact ⟨⟨A2, c2, own_bk _ _ _ s A A' row h1 hg hr2, own_row _ _ _ _ _ _ s A A' row h2 hg hr2⟩, own_bk _ _ _ s A A' row hs.res hg hr2, own_bk _ _ _ s A A' row hs.st hg hr2,
    ownFrom_below (Nat.le_refl _) hK s A A' row hs.bel hg hr, own_dc _ _ _ _ _ _ _ _ _ _ _ _ s A A' row hs.dc hg hr2, Nat.le_trans hs.lo hg.size⟩
theorem Ia.kept (hs : Ia w lb q kx d p b L f y B h l P3 P4 P5 K0 pre W) (hb : Below W.heap.size W W') : Ia w lb q kx d p b L f y B h l P3 P4 P5 K0 pre W' := by
  obtain ⟨A2, c2, h1, h2⟩ := hs.lst
  exact ⟨⟨A2, c2, h1.kept hb h1.lt, own_below h2 hb (Nat.le_refl _)⟩, hs.res.kept hb hs.res.lt, hs.st.kept hb hs.st.lt, hs.bel.trans (hb.mono hs.bel.size), hs.dc.bel hb, Nat.le_trans hs.lo hb.size⟩
/-- a round: the append -/
theorem Ia.push {A : Option Addr} {c : Nat} (x : NW) (hs : Ia w lb q kx d p b L f y B h l P3 P4 P5 K0 pre W) (hK : w.heap.size ≤ K0) (hlw : w.heap.size ≤ lb) (hlen : pre.length ≤ 1000000) (h1 : Bk W lb 67 #[.slice A pre.length c]) (h2 : W.ownsRow w.heap.size 72 6 (.slice A pre.length c) pre.length (wdsC (pre.map (·.1)))) :
    ∃ A' c' w2, (Builtin.append_ #[67, 67] 67 #[.slice A pre.length c, .slice (some ⟨W.heap.size, 0, none⟩) 1 1]).run Tryd.prog (W.alloc (.cells (wdC x.1).toArray 72)) = .ok (.slice A' (pre.length + 1) c') w2 ∧
      Bk w2 lb 67 #[.slice A pre.length c] ∧
      KeepsFrom K0 W (w2.setCell ⟨lb, 0, none⟩ (.slice A' (pre.length + 1) c')) ∧ Kd lb (fun i => i = lb) W (w2.setCell ⟨lb, 0, none⟩ (.slice A' (pre.length + 1) c')) ∧
      Ia w lb q kx d p b L f y B h l P3 P4 P5 K0 (pre ++ [x]) (w2.setCell ⟨lb, 0, none⟩ (.slice A' (pre.length + 1) c')) := by
  have hbw := hs.bel.size
  have hrow : W.ownsRow w.heap.size 72 6 (.slice A pre.length c) (pre.map (·.1)).length (wdsC (pre.map (·.1))) := by rw [List.length_map]; exact h2
  obtain ⟨A', c', w2, hrun, hown, hgr, hat⟩ := wd_append_at x.1 hrow hbw (by rw [List.length_map]; exact hlen)
  have e1 : (pre.map (·.1) ++ [x.1]).length = pre.length + 1 := by simp
  have e2 : pre.map (·.1) ++ [x.1] = (pre ++ [x]).map (·.1) := by simp
  rw [e1] at hrun hown hat
  rw [e2] at hown
  have l2 := h1.grown hgr (row_ne hrow h1 (by decide)).symm
  have hown2 := Onb.row (b := lb) (d := lb) (Onb.ofd ((Only.refl lb w2).put 0 (.slice A' (pre.length + 1) c'))) hown (row_ne hown l2 (by decide)) (row_ne hown l2 (by decide))
  have k1 := hs.res.grown hgr (row_ne hrow hs.res (by decide)).symm
  have k2 := hs.st.grown hgr (row_ne hrow hs.st (by decide)).symm
  have D := hs.dc.grown hgr (row_ne hrow hs.dc.im.st (by decide)) (row_ne hrow hs.dc.im.by_ (by decide)) (row_ne hrow hs.dc.bk (by decide))
  have l3 := l2.put 0 (.slice A' (pre.length + 1) c')
  have e3 : pre.length + 1 = (pre ++ [x]).length := by simp
  refine ⟨A', c', w2, hrun, l2, ((kf_grown (K := K0) hrow hgr).trans (KeepsOthers.setCell _ _ _)).from _, kd_append h1 l2 hgr hat, ?_⟩
  refine ⟨⟨A', c', by rw [← e3]; exact l3, by rw [← e3]; exact hown2⟩, ?_, ?_, ?_, ?_, ?_⟩
  · exact k1.other (p := ⟨lb, 0, none⟩) (l2.ne k1 (by decide)).symm _
  · exact k2.other (p := ⟨lb, 0, none⟩) (l2.ne k2 (by decide)).symm _
  · exact (below_grown hs.bel hgr hbw (fun g hg => own_ge hrow g hg)).setCell (p := ⟨lb, 0, none⟩) hlw _
  · exact D.far (q := ⟨lb, 0, none⟩) (l2.ne D.im.st (by decide)).symm (l2.ne D.im.by_ (by decide)).symm (l2.ne D.bk (by decide)).symm _
  · rw [World.size_setCell]; exact Nat.le_trans hs.lo hgr.size
end
/-- what holds from the first range on: the words' row, the state, the result; a deferred call that lies by -/
structure Pz (w : World) (lb q kx D' : Nat) (A : Option Addr) (c : Nat) (X : List Wd) (P3 P4 P5 : ByteArray) (h0 l0 : Nat) (W : World) : Prop where
  lst : Bk W lb 67 #[.slice A X.length c]
  row : W.ownsRow w.heap.size 72 6 (.slice A X.length c) X.length (wdsC X)
  res : Bk W q 4 #[.bool false]
  st : Bk W kx 23 (stB P3 P4 P5 h0 l0)
  bel : Below w.heap.size w W
  de : W.heap[D']? = some (.deferred (some []))
section
variable {w W W' : World} {lb q kx D' : Nat} {A : Option Addr} {c : Nat} {X : List Wd} {P3 P4 P5 : ByteArray} {h0 l0 : Nat}
theorem Pz.bel' (H : Pz w lb q kx D' A c X P3 P4 P5 h0 l0 W) (hb : Below W.heap.size W W') : Pz w lb q kx D' A c X P3 P4 P5 h0 l0 W' :=
  ⟨H.lst.kept hb H.lst.lt, own_below H.row hb (Nat.le_refl _), H.res.kept hb H.res.lt, H.st.kept hb H.st.lt, H.bel.trans (hb.mono H.bel.size), (hb.block D' (Array.getElem?_eq_some_iff.1 H.de).1).trans H.de⟩
theorem Pz.draws (H : Pz w lb q kx D' A c X P3 P4 P5 h0 l0 W) (n : Nat) : Pz w lb q kx D' A c X P3 P4 P5 h0 l0 (W.drewN n) := H.bel' (below_drawn (Below.refl _ _) n)
theorem Pz.onb {b d p r f y h l : Nat} {L : Lay} {B : List UInt8} {o s : Bool} (H : Pz w lb q kx D' A c X P3 P4 P5 h0 l0 W) (D : Dc W d p b L r f y B o s h l) (hb : w.heap.size ≤ b) (hd : w.heap.size ≤ d) (O : Onb b d W W') : Pz w lb q kx D' A c X P3 P4 P5 h0 l0 W' := by
  refine ⟨O.bk H.lst (H.lst.ne D.im.by_ (by decide)) (H.lst.ne D.bk (by decide)), O.row H.row (row_ne H.row D.im.by_ (by decide)) (row_ne H.row D.bk (by decide)), O.bk H.res (H.res.ne D.im.by_ (by decide)) (H.res.ne D.bk (by decide)), O.bk H.st (H.st.ne D.im.by_ (by decide)) (H.st.ne D.bk (by decide)), H.bel.trans (O.below hb hd H.bel.size), ?_⟩
  have hd0 := H.de
  refine (O.block D' (Array.getElem?_eq_some_iff.1 hd0).1 ?_ ?_).trans hd0
  · rintro rfl
    have := D.im.by_
    unfold Bk at this
    rw [hd0] at this
    cases this
  · rintro rfl
    have := D.bk
    unfold Bk at this
    rw [hd0] at this
    cases this
/-- the list, its bytes' one, and the rest -/
def Kz (w : World) (lb q kx D' : Nat) (A : Option Addr) (c : Nat) (X : List Wd) (P3 P4 P5 : ByteArray) (h0 l0 : Nat) (b d p : Nat) (L : Lay) (f y : Nat) (ch : UInt8) (W : World) : Prop := (∃ B h l, Dc W d p b L 3 f y B false false h l ∧ B.getD 100 0 = ch) ∧ Pz w lb q kx D' A c X P3 P4 P5 h0 l0 W
theorem Kz.goes {b d p f y : Nat} {L : Lay} {ch : UInt8} (K : Kz w lb q kx D' A c X P3 P4 P5 h0 l0 b d p L f y ch W) (hb : w.heap.size ≤ b) (hd : w.heap.size ≤ d) (G : GoesC ch d p b L f y W W') : Kz w lb q kx D' A c X P3 P4 P5 h0 l0 b d p L f y ch W' := by
  obtain ⟨⟨B, h, l, D, _⟩, H⟩ := K
  obtain ⟨B', h', l', D', h100, hO⟩ := G
  exact ⟨⟨B', h', l', D', h100⟩, H.onb D hb hd hO⟩
/-- what holds in the rounds of the range that compares them -/
structure Ib (w : World) (lb q kx kx2 cx d p b : Nat) (D' : Nat) (A : Option Addr) (c : Nat) (X : List Wd) (P3 P4 P5 : ByteArray) (h0 l0 : Nat) (L : Lay) (f y : Nat) (B : List UInt8) (K0 : Nat) (pre : List NW) (W : World) : Prop where
  pfx : pre.map (·.1) <+: X
  cnt : Bk W cx 3 #[.int .i64 (pre.length : Int)]
  pz : Pz w lb q kx D' A c X P3 P4 P5 h0 l0 W
  st2 : Bk W kx2 23 (stB P3 P4 P5 h0 l0)
  dc : Dc W d p b L 3 f y B false false h0 l0
  lo : K0 ≤ W.heap.size
section
variable {kx2 cx d p b : Nat} {L : Lay} {f y : Nat} {B : List UInt8} {K0 : Nat} {pre : List NW}
theorem Ib.own (K : Nat) (hK : w.heap.size ≤ K) (hD : D' < K) : OwnFrom K (Ib w lb q kx kx2 cx d p b D' A c X P3 P4 P5 h0 l0 L f y B K0) := fun s A A' row hs hg hr => by
  have hr2 := fun r e => (hr r e).2
  refine ⟨hs.pfx, own_bk _ _ _ s A A' row hs.cnt hg hr2, ⟨own_bk _ _ _ s A A' row hs.pz.lst hg hr2, own_row _ _ _ _ _ _ s A A' row hs.pz.row hg hr2, own_bk _ _ _ s A A' row hs.pz.res hg hr2, own_bk _ _ _ s A A' row hs.pz.st hg hr2, ownFrom_below (Nat.le_refl _) hK s A A' row hs.pz.bel hg hr, ?_⟩, own_bk _ _ _ s A A' row hs.st2 hg hr2, own_dc _ _ _ _ _ _ _ _ _ _ _ _ s A A' row hs.dc hg hr2, Nat.le_trans hs.lo hg.size⟩
  exact (hg.block D' (Array.getElem?_eq_some_iff.1 hs.pz.de).1 (fun e => by have := (hr D' e.symm).1; omega)).trans hs.pz.de
theorem Ib.kept (hs : Ib w lb q kx kx2 cx d p b D' A c X P3 P4 P5 h0 l0 L f y B K0 pre W) (hb : Below W.heap.size W W') : Ib w lb q kx kx2 cx d p b D' A c X P3 P4 P5 h0 l0 L f y B K0 pre W' :=
  ⟨hs.pfx, hs.cnt.kept hb hs.cnt.lt, hs.pz.bel' hb, hs.st2.kept hb hs.st2.lt, hs.dc.bel hb, Nat.le_trans hs.lo hb.size⟩
/-- the count goes on -/
theorem Ib.put (hs : Ib w lb q kx kx2 cx d p b D' A c X P3 P4 P5 h0 l0 L f y B K0 pre W) (hc : w.heap.size ≤ cx) (x : NW) (hx : (pre ++ [x]).map (·.1) <+: X) : Ib w lb q kx kx2 cx d p b D' A c X P3 P4 P5 h0 l0 L f y B K0 (pre ++ [x]) (W.setCell ⟨cx, 0, none⟩ (.int .i64 ((pre.length + 1 : Nat) : Int))) := by
  have n1 := hs.cnt.ne hs.pz.lst (by decide)
  have n2 := hs.cnt.ne hs.pz.res (by decide)
  have n3 := hs.cnt.ne hs.pz.st (by decide)
  have n4 := hs.cnt.ne hs.st2 (by decide)
  have e3 : pre.length + 1 = (pre ++ [x]).length := by simp
  refine ⟨hx, by rw [← e3]; exact hs.cnt.put 0 _, ⟨hs.pz.lst.other (p := ⟨cx, 0, none⟩) n1.symm _, ?_, hs.pz.res.other (p := ⟨cx, 0, none⟩) n2.symm _, hs.pz.st.other (p := ⟨cx, 0, none⟩) n3.symm _, hs.pz.bel.setCell (p := ⟨cx, 0, none⟩) hc _, (KeepsOthers.setCell W ⟨cx, 0, none⟩ _).same D' _ hs.pz.de rfl⟩, hs.st2.other (p := ⟨cx, 0, none⟩) n4.symm _, ?_, by rw [World.size_setCell]; exact hs.lo⟩
  · exact Onb.row (b := cx) (d := cx) (Onb.ofd ((Only.refl cx W).put 0 _)) hs.pz.row (row_ne hs.pz.row hs.cnt (by decide)) (row_ne hs.pz.row hs.cnt (by decide))
  · exact hs.dc.far (q := ⟨cx, 0, none⟩) (hs.cnt.ne hs.dc.im.st (by decide)).symm (hs.cnt.ne hs.dc.im.by_ (by decide)).symm (hs.cnt.ne hs.dc.bk (by decide)).symm _
end
/-- the row's cells at a word -/
theorem row_cell2 {K m : Nat} (hs : W.ownsRow K 72 6 (.slice A X.length c) X.length (wdsC X)) {z : Wd} (hz : X[m]? = some z) : ∃ gq, A = some ⟨gq, 0, none⟩ ∧ ∀ j, j < 6 → W.cell? ⟨gq, m * 6 + j, none⟩ = (wdC z)[j]? := by
  obtain ⟨hlt, hzz⟩ := List.getElem?_eq_some_iff.1 hz
  obtain ⟨gq, rfl⟩ : ∃ gq, A = some ⟨gq, 0, none⟩ := by
    rcases hs.2 with ⟨_, h0⟩ | ⟨q, cap, cur, e, _⟩
    · omega
    · injection e with e1 _ _; exact ⟨q, e1⟩
  refine ⟨gq, rfl, fun j hj => ?_⟩
  rw [hs.cellAt _ (by omega)]
  exact wdsC_at X m z hz j hj
theorem row_len2 {K : Nat} (hs : W.ownsRow K 72 6 (.slice A X.length c) X.length (wdsC X)) (hl : X.length ≤ 1000000) : True := trivial
end
/-- byte 100 lies in the kernel's region -/
theorem ok100 {L : Lay} (hok : L.ok) (hk : L.k = 16384) (rt : Int) : rowOk L false false 0 (100 : Int) 1 rt := by
  refine row_in hok 1 100 (by omega) (by omega) ?_ ?_ ?_ (.inl rfl)
  · show ((L.beg 1 : Nat) : Int) ≤ 100
    have : L.beg 1 = 0 := rfl
    omega
  · have : L.beg (1 + 1) = L.k := rfl
    omega
  · have : L.beg (1 + 1) = L.k := rfl
    omega
end Go.Proofs.YtpbloennjcjgoaaDoor
