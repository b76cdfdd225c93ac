import Derived.Test.YtmfffaocmboelaaDwM
import Derived.Test.YtmfffaocmboelaaPick
import Derived.Test.YtmfffaocmboelaaPostOps12
namespace Go.Proofs.Ytmfffaocmboelaa
open Go.RowKit
set_option linter.unusedVariables false
set_option linter.unusedSimpArgs false
/-! FlowPlays -/
def sel (p : Nat) (L M : List Th) : List Th := if p = 0 then L else M
/-- the two flows of each, in order -/
def Qs (w : World) (F : Nat) (L M : List Th) (i : Nat) : Prop := ∃ v u a b X Y Z T, Qf w F v X L (F + 1) u Y M (F + 3) a Z L (F + 4) b T M i F
theorem Qs.at {w : World} {F i p : Nat} {L M : List Th} (h : Qs w F L M i) (hp : p < 2) : ∃ v u a b X Y Z T, Qf w (F + p) v X (sel p L M) (F + 1 - p) u Y (sel p M L) (F + 3 + p) a Z (sel p L M) (F + 4 - p) b T (sel p M L) i F := by
  obtain ⟨v, u, a, b, X, Y, Z, T, h⟩ := h
  match p, hp with
  | 0, _ => exact ⟨v, u, a, b, X, Y, Z, T, h⟩
  | 1, _ => exact ⟨u, v, b, a, Y, X, T, Z, h.swap⟩
theorem Qs.back {w : World} {F i p : Nat} {L M : List Th} {v u a b : Value} {X Y Z T : List (Th × Value)} (hp : p < 2) (h : Qf w (F + p) v X L (F + 1 - p) u Y M (F + 3 + p) a Z L (F + 4 - p) b T M i F) : Qs w F (sel p L M) (sel p M L) i := by
  match p, hp with
  | 0, _ => exact ⟨v, u, a, b, X, Y, Z, T, h⟩
  | 1, _ => exact ⟨u, v, b, a, Y, X, T, Z, h.swap⟩
theorem Qf.draw {w : World} {F G P Q i B : Nat} {v u a b : Value} {X Y Z T : List (Th × Value)} {L M L' M' : List Th} (h : Qf w F v X L G u Y M P a Z L' Q b T M' i B) : Qf w.drew F v X L G u Y M P a Z L' Q b T M' i B := h.kept ((Below.refl _ _).drew)
theorem row_if17 (r : Nat) (hr : r ≤ 17) : decide (0 ≤ (if r = 17 then (-1 : Int) else (r : Int))) = !decide (r = 17) := by
  by_cases h : r = 17
  · rw [if_pos h, decide_eq_true h]; rfl
  · rw [if_neg h, decide_eq_false h]; simp
set_option maxHeartbeats 8000000 in
set_option maxRecDepth 100000 in
theorem walk_fplays (A : Option Addr) (n c : Nat) (w : World) (hS : Ops12 w A n) :
    Calls Try.prog 6 #[.slice A n c] w fun e w' => e = .returned (.bool true) ∧ Below w.heap.size w w' := by
  have hn := hS.1
  have q1 : (n : Int) ≤ 140737488351232 := by omega
  replace hS := Lib.hid hS
  go_enter Try.func6, Try.ntmps6
  go_wp2_with (fail)
  refine (shown_any w).mono ?_
  rintro e w0 ⟨rfl, hb0⟩
  replace hb0 := Lib.hid hb0
  go_wp2_with (fail)
  refine (new_any w0).mono ?_
  rintro e w1 ⟨rfl, hw1⟩
  replace hw1 := Lib.hid hw1
  go_wp2_with (fail)
  refine (new_any w1).mono ?_
  rintro e w2 ⟨rfl, hw2⟩
  replace hw2 := Lib.hid hw2
  have hz1 : w1.heap.size = w0.heap.size + 1 := by rw [hw1.out]; simp
  have hz2 : w2.heap.size = w0.heap.size + 2 := by rw [hw2.out]; simp [hz1]
  rw [hz1]
  obtain ⟨F, hF⟩ : ∃ F, w0.heap.size = F := ⟨_, rfl⟩
  rw [hF] at hz1 hz2 ⊢
  obtain ⟨o1, ho1⟩ : ∃ o, Obj.cells #[.pointer (some ⟨F, 0, none⟩), .pointer (some ⟨F + 1, 0, none⟩)] 23 = o := ⟨_, rfl⟩
  obtain ⟨o2, ho2⟩ : ∃ o, Obj.cells #[.pointer (some ⟨F + 2 + 1, 0, none⟩), .pointer (some ⟨F + 2 + 1 + 1, 0, none⟩)] 42 = o := ⟨_, rfl⟩
  have hQ := qf_new w0 w1 w2 _ _ _ _ o1 o2 hw1.out hw2.out rfl rfl rfl rfl
  rw [hF] at hQ
  have b1 : Bk ((((w2.alloc o1).alloc (.cells #[.slice none 0 0] 45)).alloc (.cells #[.slice none 0 0] 45)).alloc o2) (F + 2) 23 #[.pointer (some ⟨F, 0, none⟩), .pointer (some ⟨F + 1, 0, none⟩)] := by
    have := Bk.fresh w2 23 #[.pointer (some ⟨F, 0, none⟩), .pointer (some ⟨F + 1, 0, none⟩)]
    rw [hz2, ho1] at this
    exact ((this.past _).past _).past _
  have b2 : Bk ((((w2.alloc o1).alloc (.cells #[.slice none 0 0] 45)).alloc (.cells #[.slice none 0 0] 45)).alloc o2) (F + 5) 42 #[.pointer (some ⟨F + 3, 0, none⟩), .pointer (some ⟨F + 4, 0, none⟩)] := by
    have := Bk.fresh (((w2.alloc o1).alloc (.cells #[.slice none 0 0] 45)).alloc (.cells #[.slice none 0 0] 45)) 42 #[.pointer (some ⟨F + 3, 0, none⟩), .pointer (some ⟨F + 4, 0, none⟩)]
    have hz5 : (((w2.alloc o1).alloc (.cells #[.slice none 0 0] 45)).alloc (.cells #[.slice none 0 0] 45)).heap.size = F + 5 := by simp [hz2]
    rw [hz5] at this
    rw [← ho2]
    exact this
  have hBw : Below w.heap.size w ((((w2.alloc o1).alloc (.cells #[.slice none 0 0] 45)).alloc (.cells #[.slice none 0 0] 45)).alloc o2) := by
    have hh : w.heap.size ≤ w0.heap.size := hb0.out.size
    have h1 : Below w.heap.size w w1 := by rw [hw1.out]; exact hb0.out.alloc hh _
    have h2 : Below w.heap.size w w2 := by rw [hw2.out]; exact h1.alloc (by omega) _
    exact (((h2.alloc (by omega) _).alloc (by simp; omega) _).alloc (by simp; omega) _).alloc (by simp; omega) _
  have c0 := b1.cell 0
  have c1 := b1.cell 1
  simp at c0 c1
  replace hBw := Lib.hid hBw
  replace hQ := Lib.hid hQ
  replace b1 := Lib.hid b1
  replace b2 := Lib.hid b2
  have hwF : w.heap.size ≤ F := by rw [← hF]; exact hb0.out.size
  replace hwF := Lib.hid hwF
  replace hF := Lib.hid hF
  clear hz1
  go_wp2_with (fail)
  clear c0 c1
  generalize ((((w2.alloc o1).alloc (.cells #[.slice none 0 0] 45)).alloc (.cells #[.slice none 0 0] 45)).alloc o2) = W at *
  rw [show F + 2 + 1 + 1 + 1 = F + 5 from rfl]
  clear hw1 hw2 hz2 ho1 ho2
  go_loopw [6] (fun x6 wr => ∃ (i : Nat) (L M : List Th), x6 = .int .i64 i ∧ i ≤ n ∧ i ≤ 400 ∧ Qs wr F L M (2 * i) ∧ Bk wr (F + 2) 23 #[.pointer (some ⟨F, 0, none⟩), .pointer (some ⟨F + 1, 0, none⟩)] ∧ Bk wr (F + 5) 42 #[.pointer (some ⟨F + 3, 0, none⟩), .pointer (some ⟨F + 4, 0, none⟩)] ∧ Below w.heap.size w wr) (fun x6 _ => n - (intOf x6).toNat)
  case atStart => exact ⟨0, [], [], rfl, by omega, by omega, ⟨_, _, _, _, _, _, _, _, hQ.out⟩, b1.out, b2.out, hBw.out⟩
  case round =>
    clear hQ b1 b2 hBw
    obtain ⟨i, L, M, rfl, hin, hi4, hQ, b1, b2, hBw⟩ := hrel
    have i0 : (0 : Int) ≤ i := by omega
    by_cases hi : i < n ∧ i < 400
    · have i1 : (i : Int) < n := by omega
      have i2 : (i : Int) < 400 := by omega
      obtain ⟨ob, oo, ofk, s, here, rfl, hob, o0, o1, o2, hofk, hss, hhere⟩ := hS.out.2 i hi.1
      have k0 : wr.cell? ⟨ob, oo + i * 3, none⟩ = some (.int .i64 ofk) := (hBw.cell (p := ⟨ob, oo + i * 3, none⟩) hob).trans o0
      have hs : s.size ≤ maxLen := Nat.le_trans hss (by decide)
      have hpk := pick_any ofk 2 wr hofk.1 hofk.2 (by decide) (by decide)
      have hpl := pickN_lt ofk 2 (by decide)
      simp only [show ((2 : Int).toNat) = 2 from rfl] at hpk
      obtain ⟨p, hp⟩ : ∃ p, pickN ofk 2 = p := ⟨_, rfl⟩
      rw [hp] at hpk hpl
      obtain ⟨v, u, a, b, X, Y, Z, T, hQ⟩ := hQ.at hpl
      obtain ⟨L1, hL1⟩ : ∃ L1, sel p L M = L1 := ⟨_, rfl⟩
      obtain ⟨M1, hM1⟩ : ∃ M1, sel p M L = M1 := ⟨_, rfl⟩
      rw [hL1, hM1] at hQ
      obtain ⟨st, hst⟩ : ∃ st, Go.Proofs.Ytmfffaocmboelaa.step L1 (row s) here = st := ⟨_, rfl⟩
      have hsl := step_len L1 (row s) here (2 * i) hQ.f.ord
      rw [hst] at hsl
      replace hsl := Lib.hid hsl
      have hw1 := hQ.draw.prog s here hs (by omega) st hst
      have d1 : ∀ W' : World, Bk W' (F + 2) 23 #[.pointer (some ⟨F, 0, none⟩), .pointer (some ⟨F + 1, 0, none⟩)] → W'.cell? ⟨F + 2, p, none⟩ = some (.pointer (some ⟨F + p, 0, none⟩)) := fun W' h => by
        have := h.cell p
        rw [this]
        match p, hpl with
        | 0, _ => rfl
        | 1, _ => rfl
      have d2 : ∀ W' : World, Bk W' (F + 5) 42 #[.pointer (some ⟨F + 3, 0, none⟩), .pointer (some ⟨F + 4, 0, none⟩)] → W'.cell? ⟨F + 5, p, none⟩ = some (.pointer (some ⟨F + 3 + p, 0, none⟩)) := fun W' h => by
        have := h.cell p
        rw [this]
        match p, hpl with
        | 0, _ => rfl
        | 1, _ => rfl
      have k1 : wr.cell? ⟨ob, oo + i * 3 + 1, none⟩ = some (.string s) := (hBw.cell (p := ⟨ob, oo + i * 3 + 1, none⟩) hob).trans o1
      have k2 : wr.cell? ⟨ob, oo + i * 3 + 2, none⟩ = some (.int .i64 here) := (hBw.cell (p := ⟨ob, oo + i * 3 + 2, none⟩) hob).trans o2
      have k3 := d1 wr b1
      have p0 : (0 : Int) ≤ p := by omega
      have p1 : (p : Int) < 2 := by omega
      replace hBw := Lib.hid hBw
      replace hQ := Lib.hid hQ
      replace b1 := Lib.hid b1
      replace b2 := Lib.hid b2
      replace o1 := Lib.hid o1
      replace o2 := Lib.hid o2
      replace hpk := Lib.hid hpk
      replace hp := Lib.hid hp
      replace hpl := Lib.hid hpl
      replace hw1 := Lib.hid hw1
      replace hst := Lib.hid hst
      replace d1 := Lib.hid d1
      replace d2 := Lib.hid d2
      replace hL1 := Lib.hid hL1
      replace hM1 := Lib.hid hM1
      replace hob := Lib.hid hob
      clear o0
      go_wp2_with (go_at_call 12; refine hpk.out.mono ?_; rintro e w3 ⟨rfl, hw3⟩; replace hw3 := hw3.symm; subst hw3)
      clear k0
      go_region_held3 (fun w' => w'.cell? ⟨ob, oo + i * 3 + 1, none⟩ = some (.string s) ∧ w'.cell? ⟨ob, oo + i * 3 + 2, none⟩ = some (.int .i64 here) ∧ w'.cell? ⟨F + 2, p, none⟩ = some (.pointer (some ⟨F + p, 0, none⟩))) (go_keep)
        ((go_at_call 9; (with_reducible refine Calls.mono hw1.out ?_); rintro e w1_ ⟨va, v2, X2, rfl, hA, hQ2, hB2, hk2⟩; have kS : w1_.cell? ⟨ob, oo + i * 3 + 1, none⟩ = some (.string s) ∧ w1_.cell? ⟨ob, oo + i * 3 + 2, none⟩ = some (.int .i64 here) ∧ w1_.cell? ⟨F + 2, p, none⟩ = some (.pointer (some ⟨F + p, 0, none⟩)) := ⟨((hBw.out.drew.trans (hB2.mono hwF.out)).cell (p := ⟨ob, oo + i * 3 + 1, none⟩) hob.out).trans o1.out, ((hBw.out.drew.trans (hB2.mono hwF.out)).cell (p := ⟨ob, oo + i * 3 + 2, none⟩) hob.out).trans o2.out, d1.out _ (hk2 _ _ _ b1.out.draw (by decide) (by decide) (by decide))⟩; replace hA := Lib.hid hA; replace hQ2 := Lib.hid hQ2; replace hB2 := Lib.hid hB2; replace hk2 := Lib.hid hk2))
      obtain ⟨w4, hw4⟩ : ∃ w4, w1_ = w4 := ⟨_, rfl⟩
      rw [hw4] at hA hQ2 hB2 hk2 ⊢
      rename_i hHeld_
      clear hHeld_ hw4 kS k1 k2 k3 hw1
      have hBw4 := hBw.out.drew.trans (hB2.out.mono hwF.out)
      have b14 := hk2.out _ _ _ b1.out.draw (by decide) (by decide) (by decide)
      have b24 := hk2.out _ _ _ b2.out.draw (by decide) (by decide) (by decide)
      have hw2 := hQ2.out.draw.doc s here hs hhere (by omega) st hst.out
      have k1 := (hBw4.cell (p := ⟨ob, oo + i * 3 + 1, none⟩) hob.out).trans o1.out
      have k2 := (hBw4.cell (p := ⟨ob, oo + i * 3 + 2, none⟩) hob.out).trans o2.out
      have k3 := d2.out _ b24
      have hzA : F ≤ wr.drew.heap.size := by have := hQ.out.f.lt (.inl rfl); show F ≤ wr.heap.size; omega
      replace hzA := Lib.hid hzA
      replace hBw4 := Lib.hid hBw4
      replace b14 := Lib.hid b14
      replace b24 := Lib.hid b24
      replace hw2 := Lib.hid hw2
      clear hBw b1 b2 hB2 hk2 hQ
      go_wp2_with (fail)
      go_region_held3 (fun w' => w'.cell? ⟨ob, oo + i * 3 + 1, none⟩ = some (.string s) ∧ w'.cell? ⟨ob, oo + i * 3 + 2, none⟩ = some (.int .i64 here) ∧ w'.cell? ⟨F + 5, p, none⟩ = some (.pointer (some ⟨F + 3 + p, 0, none⟩))) (go_keep)
        ((go_at_call 15; (with_reducible refine Calls.mono hw2.out ?_); rintro e w2_ ⟨vb, u2, Y2, rfl, hC, hQ5, hB5, hk5, hr5⟩; have kS : w2_.cell? ⟨ob, oo + i * 3 + 1, none⟩ = some (.string s) ∧ w2_.cell? ⟨ob, oo + i * 3 + 2, none⟩ = some (.int .i64 here) ∧ w2_.cell? ⟨F + 5, p, none⟩ = some (.pointer (some ⟨F + 3 + p, 0, none⟩)) := ⟨((hBw4.out.drew.trans (hB5.mono hwF.out)).cell (p := ⟨ob, oo + i * 3 + 1, none⟩) hob.out).trans o1.out, ((hBw4.out.drew.trans (hB5.mono hwF.out)).cell (p := ⟨ob, oo + i * 3 + 2, none⟩) hob.out).trans o2.out, d2.out _ (hk5 _ _ _ b24.out.draw (by decide) (by decide) (by decide))⟩; replace hC := Lib.hid hC; replace hQ5 := Lib.hid hQ5; replace hB5 := Lib.hid hB5; replace hk5 := Lib.hid hk5; replace hr5 := Lib.hid hr5))
      obtain ⟨w5, hw5⟩ : ∃ w5, w2_ = w5 := ⟨_, rfl⟩
      rw [hw5] at hC hQ5 hB5 hk5 hr5 ⊢
      rename_i hHeld_
      clear hHeld_ hw5 kS k1 k2 k3 hw2
      have hBw5 := hBw4.out.drew.trans (hB5.out.mono hwF.out)
      have b15 := hk5.out _ _ _ b14.out.draw (by decide) (by decide) (by decide)
      have b25 : Bk w5 (F + 5) 42 _ := hk5.out _ _ _ b24.out.draw (by decide) (by decide) (by decide)
      have hA5 := hr5.out _ _ _ _ (show w4.drew.ownsRow _ _ _ _ _ _ from hA.out)
      have hlen : st.acts.length ≤ 100000 := by have := hsl.out; omega
      replace hBw5 := Lib.hid hBw5
      replace b15 := Lib.hid b15
      replace b25 := Lib.hid b25
      replace hA5 := Lib.hid hA5
      clear hBw4 b14 b24 hB5 hk5 hr5 hQ2 hA
      go_wp2_with (fail)
      refine (sameActs_yes (lies_row hA5.out) (lies_row hC.out) hlen).mono ?_
      rintro e w6 ⟨rfl, m6, hw6⟩
      have hQ6 := hQ5.out.draws m6
      rw [← hw6] at hQ6
      have b16 := show Bk (w5.drewN m6) (F + 2) 23 _ from b15.out
      rw [← hw6] at b16
      have b26 := show Bk (w5.drewN m6) (F + 5) 42 _ from b25.out
      rw [← hw6] at b26
      have hA6 : w6.ownsRow wr.drew.heap.size 36 4 va st.acts.length (actC st.acts) := by rw [hw6]; exact hA5.out
      have hBw6 : Below w.heap.size w w6 := by rw [hw6]; exact below_drewN hBw5.out m6
      clear hw6 hQ5 b15 b25 hA5 hBw5 hC
      have k1 := (hBw6.cell (p := ⟨ob, oo + i * 3 + 1, none⟩) hob.out).trans o1.out
      have hob6 : ob < w6.heap.size := Nat.lt_of_lt_of_le hob.out hBw6.size
      have hK := Known_any s hs
      have hR := rrow_any s
      have hre := row_if17 (row s) (row_le s)
      obtain ⟨rr, hrr⟩ : ∃ rr : Int, (if row s = 17 then (-1 : Int) else (row s : Int)) = rr := ⟨_, rfl⟩
      obtain ⟨kb, hkb⟩ : ∃ kb : Bool, (!decide (row s = 17)) = kb := ⟨_, rfl⟩
      simp only [hkb] at hK
      simp only [hrr] at hR
      rw [hrr, hkb] at hre
      have e1 : (st.f != st.f) = false := by simp
      have e2 : (kb != kb) = false := by simp
      replace hK := Lib.hid hK
      replace hR := Lib.hid hR
      replace hrr := Lib.hid hrr
      replace hkb := Lib.hid hkb
      replace hQ6 := Lib.hid hQ6
      replace b16 := Lib.hid b16
      replace b26 := Lib.hid b26
      replace hA6 := Lib.hid hA6
      replace hBw6 := Lib.hid hBw6
      replace hob6 := Lib.hid hob6
      go_wp2_with (fail)
      go_region_held3 (fun w' => Below w6.heap.size w6 w' ∧ w'.cell? ⟨ob, oo + i * 3 + 1, none⟩ = some (.string s)) (first | exact ⟨(Below.refl _ _).drew, k1⟩ | go_keep)
        ((first | (go_at_call 10; refine Calls.mono (hK.out _) ?_; rintro e w_ ⟨rfl, hb_⟩; have kS : Below w6.heap.size w6 w_ ∧ w_.cell? ⟨ob, oo + i * 3 + 1, none⟩ = some (.string s) := ⟨(‹Below w6.heap.size w6 _ ∧ _›).1.trans (hb_.mono (‹Below w6.heap.size w6 _ ∧ _›).1.size), (hb_.cell (p := ⟨ob, oo + i * 3 + 1, none⟩) (Nat.lt_of_lt_of_le hob6.out (‹Below w6.heap.size w6 _ ∧ _›).1.size)).trans (‹Below w6.heap.size w6 _ ∧ _›).2⟩; clear hb_) | (go_at_call 11; refine Calls.mono (hR.out _ hs) ?_; rintro e w_ ⟨rfl, hb_⟩; have kS : Below w6.heap.size w6 w_ ∧ w_.cell? ⟨ob, oo + i * 3 + 1, none⟩ = some (.string s) := ⟨(‹Below w6.heap.size w6 _ ∧ _›).1.trans (hb_.mono (‹Below w6.heap.size w6 _ ∧ _›).1.size), (hb_.cell (p := ⟨ob, oo + i * 3 + 1, none⟩) (Nat.lt_of_lt_of_le hob6.out (‹Below w6.heap.size w6 _ ∧ _›).1.size)).trans (‹Below w6.heap.size w6 _ ∧ _›).2⟩; clear hb_)))
      have hB7 := kS.1
      obtain ⟨w7, hw7⟩ : ∃ w7, w_ = w7 := ⟨_, rfl⟩
      rw [hw7] at hB7 ⊢
      rename_i wz_ kz_ hHeld_
      clear hHeld_ hw7 kS kz_ k1 hK hR e1 e2 hre
      have hQ7 := hQ6.out.kept hB7
      have b17 := b16.out.kept hB7 b16.out.lt
      have b27 := b26.out.kept hB7 b26.out.lt
      have hA7 := own_below hA6.out hB7 (Nat.le_refl _)
      have hBw7 := hBw6.out.trans (hB7.mono hBw6.out.size)
      obtain ⟨Aa, ca, hva⟩ := own_form hA7
      subst hva
      obtain ⟨la, hla⟩ : ∃ la, st.acts.length = la := ⟨_, rfl⟩
      rw [hla] at hA7 hlen ⊢
      have hl0 : (la : Int) ≤ 100000 := by omega
      have hbA := hA7
      replace hQ7 := Lib.hid hQ7
      replace b17 := Lib.hid b17
      replace b27 := Lib.hid b27
      replace hA7 := Lib.hid hA7
      replace hBw7 := Lib.hid hBw7
      replace hla := Lib.hid hla
      replace hbA := Lib.hid hbA
      clear hQ6 b16 b26 hA6 hBw6 hob6 hB7
      go_wp2_with (fail)
      go_loopw [13] (fun x13 wi => ∃ (k : Nat) (xs : List Value), x13 = .int .i64 k ∧ k ≤ la ∧ wi.ownsRow 0 36 4 (.slice Aa la ca) la xs ∧ Onl (fun q => (Value.slice Aa la ca).ownBlock = some q) w7 wi) (fun x13 _ => la - (intOf x13).toNat)
      case atStart => exact ⟨0, _, rfl, by omega, own_base hbA.out (Nat.zero_le _), Onl.refl _ _⟩
      case round =>
        clear hbA
        obtain ⟨k, xs, rfl, hk, hrow, hO⟩ := hrel
        have g0 : (0 : Int) ≤ k := by omega
        by_cases hkl : k < la
        · have g1 : (k : Int) < la := by omega
          obtain ⟨ga, hga⟩ : ∃ ga, Aa = some ⟨ga, 0, none⟩ := by
            rcases hrow.2 with ⟨_, h0⟩ | ⟨q, cap, cur, e, _⟩
            · omega
            · injection e with e1 _ _; exact ⟨q, e1⟩
          subst hga
          have hxl : xs.length = la * 4 := hrow.1
          have y0 := (hrow.cellAt (k * 4) (by omega)).trans (List.getElem?_eq_getElem (by omega))
          have y1 := (hrow.cellAt (k * 4 + 1) (by omega)).trans (List.getElem?_eq_getElem (by omega))
          have y2 := (hrow.cellAt (k * 4 + 2) (by omega)).trans (List.getElem?_eq_getElem (by omega))
          have y3 := (hrow.cellAt (k * 4 + 3) (by omega)).trans (List.getElem?_eq_getElem (by omega))
          have f0 := hrow.frozenAt (k * 4)
          have f1 := hrow.frozenAt (k * 4 + 1)
          have f2 := hrow.frozenAt (k * 4 + 2)
          have f3 := hrow.frozenAt (k * 4 + 3)
          generalize xs[k * 4] = z0 at y0
          generalize xs[k * 4 + 1] = z1 at y1
          generalize xs[k * 4 + 2] = z2 at y2
          generalize xs[k * 4 + 3] = z3 at y3
          have hst := ((((hrow.stored (k * 4) (.bool true)).1.stored (k * 4 + 1) (.int .i64 (-1))).1.stored (k * 4 + 2) (.int .i64 0)).1.stored (k * 4 + 3) (.int .i64 (-1))).1
          have hO2 := (((hO.put (p := ⟨ga, k * 4, none⟩) (.inl rfl) (.bool true)).put (p := ⟨ga, k * 4 + 1, none⟩) (.inl rfl) (.int .i64 (-1))).put (p := ⟨ga, k * 4 + 2, none⟩) (.inl rfl) (.int .i64 0)).put (p := ⟨ga, k * 4 + 3, none⟩) (.inl rfl) (.int .i64 (-1))
          replace hst := Lib.hid hst
          replace hO2 := Lib.hid hO2
          clear hrow hO hxl
          go_wp2_with (fail)
          exact ⟨⟨k + 1, _, rfl, by omega, hst.out, hO2.out⟩, by simp [intOf]; omega⟩
        · obtain rfl : k = la := by omega
          have g1 : ¬ (k : Int) < k := by omega
          have hQ8 := hQ7.out.acts (own_base hA7.out (Nat.zero_le _)) hO
          have b18 := hO.bk b17.out (fun e => b17.out.far hA7.out (by decide) e.symm)
          have b28 := hO.bk b27.out (fun e => b27.out.far hA7.out (by decide) e.symm)
          have hBw8 : Below w.heap.size w wr := by
            refine hBw7.out.trans (hO.below (by have := hBw7.out.size; exact this) (fun q hq => ?_))
            have := own_ge hA7.out q hq
            have := hzA.out
            have := hwF.out
            omega
          obtain ⟨L2, hL2⟩ : ∃ L2, sel p st.L M1 = L2 := ⟨_, rfl⟩
          obtain ⟨M2, hM2⟩ : ∃ M2, sel p M1 st.L = M2 := ⟨_, rfl⟩
          have hQs := Qs.back hpl.out hQ8
          rw [hL2, hM2] at hQs
          replace hQs := Lib.hid hQs
          replace b18 := Lib.hid b18
          replace b28 := Lib.hid b28
          replace hBw8 := Lib.hid hBw8
          clear hrow hO hQ8 hQ7 b17 b27 hA7 hBw7 hkl
          go_wp2_with (fail)
          obtain ⟨w8, hw8⟩ : ∃ w8, wr = w8 := ⟨_, rfl⟩
          rw [hw8] at hQs b18 b28 hBw8 ⊢
          clear hw8
          go_loopw [14] (fun x14 wi => ∃ (k2 z : Nat), x14 = .int .i64 k2 ∧ k2 ≤ 2 ∧ wi = w8.drewN z) (fun x14 _ => 2 - (intOf x14).toNat)
          case atStart => exact ⟨0, 0, rfl, by omega, rfl⟩
          case round =>
            obtain ⟨k2, z, rfl, hk2, hz⟩ := hrel
            have g2 : (0 : Int) ≤ k2 := by omega
            have hQz : Qs wr F L2 M2 (2 * i + 1 + 1) := by
              obtain ⟨v, u, a, b, X, Y, Z, T, h⟩ := hQs.out
              rw [hz]
              exact ⟨v, u, a, b, X, Y, Z, T, h.draws z⟩
            have HZ : Hid (∃ z, wr = w8.drewN z) := ⟨z, hz⟩
            have c1 := show Bk (w8.drewN z) (F + 2) 23 _ from b18.out
            have c2 := show Bk (w8.drewN z) (F + 5) 42 _ from b28.out
            rw [← hz] at c1 c2
            clear hz
            by_cases hk3 : k2 < 2
            · have g3 : (k2 : Int) < 2 := by omega
              obtain ⟨v, u, a, b, X, Y, Z, T, h⟩ := hQz.at hk3
              have hcc1 : wr.cell? ⟨F + 2, k2, none⟩ = some (.pointer (some ⟨F + k2, 0, none⟩)) := by
                rw [c1.cell k2]
                match k2, hk3 with
                | 0, _ => rfl
                | 1, _ => rfl
              have hcc2 : wr.cell? ⟨F + 5, k2, none⟩ = some (.pointer (some ⟨F + 3 + k2, 0, none⟩)) := by
                rw [c2.cell k2]
                match k2, hk3 with
                | 0, _ => rfl
                | 1, _ => rfl
              obtain ⟨lx, hlx⟩ : ∃ lx, (sel k2 L2 M2).length = lx := ⟨_, rfl⟩
              have hX : X.length = lx := by have := congrArg List.length h.f.th; rw [List.length_map] at this; omega
              have hZ : Z.length = lx := by have := congrArg List.length h.p.th; rw [List.length_map] at this; omega
              obtain ⟨Az, cz, haz⟩ := own_form h.p.dl.rw.row
              have hf := h.p.dl.bk.cell 0
              rw [haz, hZ] at hf
              simp at hf
              have hOp : ∀ m, Calls Try.prog 13 #[.pointer (some ⟨F + k2, 0, none⟩)] (wr.drewN m) fun e w' => e = .returned (.int .i64 lx) ∧ w' = wr.drewN m := fun m => by
                have := open_any (h.draws m).f.fl
                rw [hX] at this
                exact this
              have hEn : ∀ m, Calls Try.prog 14 #[.pointer (some ⟨F + k2, 0, none⟩)] (wr.drewN m) fun e w' => e = .returned (.int .i64 (if lx = 0 then 0 else 10)) ∧ w' = wr.drewN m := fun m => by
                have := end_any (h.draws m).f.fl
                rw [hX] at this
                exact this
              have e3 : ((lx : Int) != lx) = false := by simp
              replace hOp := Lib.hid hOp
              clear h hX hZ haz hlx c1 c2 hQz
              by_cases h0 : lx = 0
              · subst h0
                simp only [if_true] at hEn
                replace hEn := Lib.hid hEn
                go_wp2_with (fail)
                go_quiet ((first | (go_at_call 13; with_reducible exact Calls.quiet_of_same (hOp.out _)) | (go_at_call 14; with_reducible exact Calls.quiet_of_same (hEn.out _))))
                go_wp2_with (fail)
                obtain ⟨z, hz⟩ := HZ.out
                exact ⟨⟨k2 + 1, z + nq, rfl, by omega, by rw [hz, World.drewN_drewN]⟩, by simp [intOf]; omega⟩
              · have i5 : (0 : Int) < lx := by omega
                simp only [if_neg h0] at hEn
                replace hEn := Lib.hid hEn
                clear h0
                go_wp2_with (fail)
                go_quiet ((first | (go_at_call 13; with_reducible exact Calls.quiet_of_same (hOp.out _)) | (go_at_call 14; with_reducible exact Calls.quiet_of_same (hEn.out _))))
                go_wp2_with (fail)
                obtain ⟨z, hz⟩ := HZ.out
                exact ⟨⟨k2 + 1, z + nq, rfl, by omega, by rw [hz, World.drewN_drewN]⟩, by simp [intOf]; omega⟩
            · obtain rfl : k2 = 2 := by omega
              have hBr : Below w.heap.size w wr := by obtain ⟨z, hz⟩ := HZ.out; rw [hz]; exact below_drewN hBw8.out z
              have e5 : IntKind.i64.wrap ((i : Int) + 1) = ((i + 1 : Nat) : Int) := by rw [IntKind.wrap_i64]; omega
              replace hQz := Lib.hid hQz
              replace c1 := Lib.hid c1
              replace c2 := Lib.hid c2
              replace hBr := Lib.hid hBr
              clear HZ hk3
              go_wp2_with (fail)
              exact ⟨⟨i + 1, L2, M2, rfl, by omega, by omega, hQz.out, c1.out, c2.out, hBr.out⟩, by simp [intOf]; omega⟩
    · have hBw9 := Lib.hid hBw
      clear hQ b1 b2 hBw
      by_cases hjn2 : i < n
      · have j1 : (i : Int) < n := by omega
        have j5 : ¬ (i : Int) < 400 := by omega
        clear hi
        go_wp2_with (fail)
        go_returns
        exact ⟨rfl, hBw9.out⟩
      · have j1 : ¬ (i : Int) < n := by omega
        clear hi
        go_wp2_with (fail)
        go_returns
        exact ⟨rfl, hBw9.out⟩
end Go.Proofs.Ytmfffaocmboelaa
