import Derived.Test.YtbhgjjicmbbjaaaDoorTrLb
namespace Go.Proofs.YtbhgjjicmbbjaaaDoor
open Go.RowKit
set_option linter.unusedVariables false
set_option linter.unusedSimpArgs false
/-! ScriptTexts -/
theorem take_count {P : List UInt8} {a : Nat} {c : UInt8} (h : P[a]? = some c) : (P.take (a + 1)).count 10 = (P.take a).count 10 + if c = 10 then 1 else 0 := by
  rw [List.take_add_one, h, List.count_append]
  congr 1
  by_cases hc : c = 10
  · rw [if_pos hc, hc]; rfl
  · rw [if_neg hc]
    simp [hc]
set_option maxRecDepth 100000 in
set_option maxHeartbeats 4000000 in
theorem walk_texts (s : ByteArray) (w : World) (hM : Mk w) (hs : s.size ≤ maxLen) : Calls Tryd.prog 6 #[.string s] w fun e w' => e = .returned (.bool true) ∧ Below w.heap.size w w' := by
  have hsh := Lib.hid (shown_any w hM)
  have hmk := Lib.hid (fun W (h : Below w.heap.size w W) => hM.bel h)
  have hsi : (s.size : Int) ≤ 9223372036854775807 := by unfold maxLen at hs; omega
  have hlg := fun W => long_any (s.size : Int) W
  by_cases hlong : 200000 < s.size
  · rw [show decide ((200000 : Int) < (s.size : Int)) = true by simp; omega] at hlg
    replace hlg := Lib.hid hlg
    clear hM hs hmk hlong
    go_enter Tryd.func6, Tryd.ntmps6
    go_wp2_with (fail)
    refine hsh.out.mono ?_
    rintro e w1 ⟨rfl, hb⟩
    replace hb := Lib.hid hb
    clear hsh
    go_wp2_with (fail)
    refine (hlg.out _).mono ?_
    rintro e w2 ⟨rfl, rfl⟩
    go_wp2_with (fail)
    go_returns
    exact ⟨rfl, hb.out⟩
  · rw [show decide ((200000 : Int) < (s.size : Int)) = false by simp; omega] at hlg
    replace hlg := Lib.hid hlg
    have hs2 : s.size ≤ 200000 := by omega
    have hrp := Lib.hid (fun W (h : Below w.heap.size w W) => ReadPublic_any s hs2 W (hM.bel h))
    have hread := Lib.hid (fun (t : ByteArray) (ht : t.size ≤ 200000) (l : List Pu) (hl : l.length ≤ 32) (ho : l.all puOk = true) (he : t.data.toList = linesL puL 1 l) (W : World) (h : Below w.heap.size w W) => by
      have q := ReadPublic_any t ht W (hM.bel h)
      rw [he, show readS puOk puL (linesL puL 1 l) = .got l from readN_lines kind_pu l 32 1 hl ho] at q
      exact (q.mono (R' := fun e w' => (∃ A c, e = .returned (.tuple #[.slice A l.length c, .int .i64 0, .int .i64 0])) ∧ Below W.heap.size W w') (fun e w' h => by
        obtain ⟨⟨v, rfl, A, c, rfl, _⟩, hb⟩ := h
        exact ⟨⟨A, c, rfl⟩, hb⟩)))
    have hpub := Lib.hid (fun (A : Option Addr) (c : Nat) (l : List Pu) (hl : l.length ≤ 32) (ho : l.all puOk = true) (he : s.data.toList = linesL puL 1 l) (W : World) (h : Below w.heap.size w W) (hr : PuRow W A l) => by
      have q := Public_any A l.length c l W (hM.bel h) rfl hr (fun x hx => puOk_I (List.all_eq_true.1 ho x hx)) (by omega)
      have hw := writeT_ok (bd := puL) hl ho
      rw [hw.1, hw.2, ← he, show (⟨s.data.toList.toArray⟩ : ByteArray) = s from ba_ext (by simp)] at q
      exact q)
    obtain ⟨R, hR⟩ : ∃ R, readS puOk puL s.data.toList = R := ⟨_, rfl⟩
    rw [hR] at hrp
    clear hM hs hlong
    replace hs2 := Lib.hid hs2
    go_enter Tryd.func6, Tryd.ntmps6
    go_wp2_with (fail)
    refine hsh.out.mono ?_
    rintro e w1 ⟨rfl, hb⟩
    have hB := Lib.hid hb
    clear hsh hb
    go_wp2_with (fail)
    refine (hlg.out _).mono ?_
    rintro e w1' ⟨rfl, hw1⟩
    replace hw1 := hw1.symm
    subst hw1
    clear hlg
    go_wp2_with (fail)
    refine (hrp.out w1 hB.out).mono ?_
    rintro e w2 ⟨⟨v, rfl, hv⟩, hb⟩
    have hB2 := hB.out.trans (hb.mono hB.out.size)
    clear hrp
    cases R with
    | got l =>
      obtain ⟨A, c, rfl, hown⟩ := hv
      obtain ⟨g1, g2, g3⟩ := readN_got 32 1 s.data.toList l hR
      have hpb := Lib.hid (hpub.out A c l g3 g2 g1 w2 hB2 (puRow_own hown rfl))
      replace hB := Lib.hid hB2
      clear hb hB2 hown g1 g2 g3 hpub hread hR
      go_wp2_with (fail)
      refine hpb.out.mono ?_
      rintro e w3 ⟨rfl, hb⟩
      have hB3 := Lib.hid (hB.out.trans (hb.mono hB.out.size))
      clear hb hpb
      go_wp2_with (fail)
      go_returns
      exact ⟨rfl, hB3.out⟩
    | bad e k =>
      unfold puA at hv
      subst hv
      obtain ⟨he, l, r, hlk, hl32, hsl, hrne, hok⟩ := readN_bad 32 1 s.data.toList e k hR
      replace hB := Lib.hid hB2
      replace hrne := Lib.hid hrne
      obtain ⟨m, hm⟩ : ∃ m, l.length = m := ⟨_, rfl⟩
      obtain ⟨P, hP⟩ : ∃ P, linesL puL 1 l = P := ⟨_, rfl⟩
      have hcP : P.count 10 = m := by rw [← hP, linesL_count kind_pu.no10, hm]
      have hlast : P = [] ∨ ∃ p, P = p ++ [10] := by rw [← hP]; exact linesL_last l 1
      rw [hP] at hsl
      have hszP : P.length ≤ 200000 := by have h1 := congrArg List.length hsl; rw [data_size, List.length_append] at h1; have := hs2.out; omega
      have hrl : 0 < r.length := List.length_pos_iff.2 hrne.out
      have hszP2 : P.length < 200000 + 1 := by omega
      have hszs : P.length + 1 ≤ 200000 := by have h1 := congrArg List.length hsl; rw [data_size, List.length_append] at h1; have := hs2.out; omega
      have hfacts := Lib.hid (⟨hsl, hcP, hlast, by omega, hszs⟩ : s.data.toList = P ++ r ∧ P.count 10 = m ∧ (P = [] ∨ ∃ p, P = p ++ [10]) ∧ m ≤ 1000000 ∧ P.length + 1 ≤ 200000)
      have hread2 := Lib.hid (fun (t : ByteArray) (ht : t.size ≤ 200000) (he : t.data.toList = P) => hread.out t ht l hl32 hok (he.trans hP.symm))
      rw [hm] at hread2
      have hk1 : (k : Int) - 1 = (m : Int) := by omega
      have hk2 : (k : Int) ≤ 100 := by omega
      have hk3 : (1 : Int) ≤ (k : Int) := by omega
      clear hread hpub hR hb hB2 hP hcP hlast hsl hszP hszP2 hszs hrl hok hl32 hlk
      have hread := hread2
      clear hread2 hm
      rcases he with rfl | rfl
      · skip
        have hsh2 : ¬ (k : Int) < 1 := by omega
        go_wp2_with (fail)
        go_loop [10, 11] (fun x10 x11 => ∃ j a : Nat, x10 = .int .i64 j ∧ x11 = .int .i64 a ∧ a ≤ 200000 ∧ j ≤ m ∧ Hid (a ≤ P.length ∧ (P.take a).count 10 = j)) (fun _ x11 => s.size - (intOf x11).toNat)
        case atStart => exact ⟨0, 0, rfl, rfl, by decide, Nat.zero_le _, Lib.hid ⟨Nat.zero_le _, rfl⟩⟩
        case round =>
          obtain ⟨j, a, rfl, rfl, ha0, hj0, hQ⟩ := hrel
          obtain ⟨haP, hcj⟩ := hQ.out
          have hfa := hfacts.out
          by_cases hj : j < m
          · have halt : a < P.length := by
              apply Classical.byContradiction
              intro hn
              have : a = P.length := by omega
              rw [this, List.take_length, hfa.2.1] at hcj
              omega
            have has : a < s.size := by rw [list_size, hfa.1, List.length_append]; omega
            have hj' : (j : Int) < (m : Int) := by omega
            have has' : (a : Int) < (s.size : Int) := by omega
            obtain ⟨ch, hch⟩ : ∃ ch, s[a] = ch := ⟨_, rfl⟩
            have hby := byte_at s a has
            rw [hch, hfa.1, List.getElem?_append_left halt] at hby
            have htc := take_count hby
            have hidx : ∀ w, (Instr.index 9 (.string s) (.int .i64 (a : Int))).run Tryd.prog w = .ok (.int .u8 (ch.toNat : Int)) w := fun w => by
              rw [run_index_string w 9 s .i64 (a : Int) Tryd.underlying9, dif_pos ⟨by omega, by omega⟩]
              rw [← hch]
              rfl
            have ha200 : Hid (a + 1 ≤ 200000) := by have := hfa.2.2.2.2; show a + 1 ≤ 200000; omega
            have hjm : (j : Int) ≤ 1000000 := by have := hfa.2.2.2.1; omega
            by_cases hc : ch = 10
            · rw [if_pos hc] at htc
              rw [hc] at hidx
              have hQ2 := Lib.hid (⟨halt, by rw [htc, hcj]⟩ : a + 1 ≤ P.length ∧ (P.take (a + 1)).count 10 = j + 1)
              clear hQ haP hcj hfa halt hby htc hch hc
              go_wp2_with (fail)
              exact ⟨⟨j + 1, a + 1, rfl, rfl, ha200.out, by omega, hQ2⟩, by simp [intOf]; omega⟩
            · rw [if_neg hc] at htc
              have hQ2 := Lib.hid (⟨halt, by rw [htc, hcj]; rfl⟩ : a + 1 ≤ P.length ∧ (P.take (a + 1)).count 10 = j)
              have hcn : ((ch.toNat : Int) == 10) = false := by
                simp only [beq_eq_false_iff_ne, ne_eq]
                intro h
                exact hc (UInt8.toNat_inj.1 (by show ch.toNat = 10; omega))
              obtain ⟨z, hz⟩ : ∃ z, ch.toNat = z := ⟨_, rfl⟩
              rw [hz] at hidx hcn
              clear hQ haP hcj hfa halt hby htc hch hc hz
              go_wp2_with (fail)
              exact ⟨⟨j, a + 1, rfl, rfl, ha200.out, by omega, hQ2⟩, by simp [intOf]; omega⟩
          · obtain rfl : j = m := by omega
            have haE : a = P.length := stop_at hfa.2.2.1 haP (by rw [hcj, hfa.2.1])
            have has : a < s.size := by
              rw [list_size, hfa.1, List.length_append, haE]
              have : 0 < r.length := List.length_pos_iff.2 hrne.out
              omega
            have hj' : ¬ (j : Int) < (j : Int) := by omega
            have has' : (a : Int) < (s.size : Int) := by omega
            have has2 : ¬ (s.size : Int) ≤ (a : Int) := by omega
            have hxl : (s.extract 0 a).data.toList = P := by
              rw [ext_list, hfa.1, haE]
              simp
            have hrd := hread.out (s.extract 0 a) (by rw [list_size, ext_list, List.length_take]; omega) hxl
            have hle : (a : Int) ≤ 200000 := by omega
            clear hQ haP hcj hfa haE hxl
            go_wp2_with (fail)
            refine (hrd w2 hB.out).mono ?_
            rintro e w3 ⟨⟨A3, c3, rfl⟩, hb⟩
            have hB3 := Lib.hid (hB.out.trans (hb.mono hB.out.size))
            clear hb hrd
            go_wp2_with (fail)
            go_returns
            exact ⟨rfl, hB3.out⟩
      · skip
        have hsh2 : ¬ (k : Int) < 1 := by omega
        go_wp2_with (fail)
        go_loop [10, 11] (fun x10 x11 => ∃ j a : Nat, x10 = .int .i64 j ∧ x11 = .int .i64 a ∧ a ≤ 200000 ∧ j ≤ m ∧ Hid (a ≤ P.length ∧ (P.take a).count 10 = j)) (fun _ x11 => s.size - (intOf x11).toNat)
        case atStart => exact ⟨0, 0, rfl, rfl, by decide, Nat.zero_le _, Lib.hid ⟨Nat.zero_le _, rfl⟩⟩
        case round =>
          obtain ⟨j, a, rfl, rfl, ha0, hj0, hQ⟩ := hrel
          obtain ⟨haP, hcj⟩ := hQ.out
          have hfa := hfacts.out
          by_cases hj : j < m
          · have halt : a < P.length := by
              apply Classical.byContradiction
              intro hn
              have : a = P.length := by omega
              rw [this, List.take_length, hfa.2.1] at hcj
              omega
            have has : a < s.size := by rw [list_size, hfa.1, List.length_append]; omega
            have hj' : (j : Int) < (m : Int) := by omega
            have has' : (a : Int) < (s.size : Int) := by omega
            obtain ⟨ch, hch⟩ : ∃ ch, s[a] = ch := ⟨_, rfl⟩
            have hby := byte_at s a has
            rw [hch, hfa.1, List.getElem?_append_left halt] at hby
            have htc := take_count hby
            have hidx : ∀ w, (Instr.index 9 (.string s) (.int .i64 (a : Int))).run Tryd.prog w = .ok (.int .u8 (ch.toNat : Int)) w := fun w => by
              rw [run_index_string w 9 s .i64 (a : Int) Tryd.underlying9, dif_pos ⟨by omega, by omega⟩]
              rw [← hch]
              rfl
            have ha200 : Hid (a + 1 ≤ 200000) := by have := hfa.2.2.2.2; show a + 1 ≤ 200000; omega
            have hjm : (j : Int) ≤ 1000000 := by have := hfa.2.2.2.1; omega
            by_cases hc : ch = 10
            · rw [if_pos hc] at htc
              rw [hc] at hidx
              have hQ2 := Lib.hid (⟨halt, by rw [htc, hcj]⟩ : a + 1 ≤ P.length ∧ (P.take (a + 1)).count 10 = j + 1)
              clear hQ haP hcj hfa halt hby htc hch hc
              go_wp2_with (fail)
              exact ⟨⟨j + 1, a + 1, rfl, rfl, ha200.out, by omega, hQ2⟩, by simp [intOf]; omega⟩
            · rw [if_neg hc] at htc
              have hQ2 := Lib.hid (⟨halt, by rw [htc, hcj]; rfl⟩ : a + 1 ≤ P.length ∧ (P.take (a + 1)).count 10 = j)
              have hcn : ((ch.toNat : Int) == 10) = false := by
                simp only [beq_eq_false_iff_ne, ne_eq]
                intro h
                exact hc (UInt8.toNat_inj.1 (by show ch.toNat = 10; omega))
              obtain ⟨z, hz⟩ : ∃ z, ch.toNat = z := ⟨_, rfl⟩
              rw [hz] at hidx hcn
              clear hQ haP hcj hfa halt hby htc hch hc hz
              go_wp2_with (fail)
              exact ⟨⟨j, a + 1, rfl, rfl, ha200.out, by omega, hQ2⟩, by simp [intOf]; omega⟩
          · obtain rfl : j = m := by omega
            have haE : a = P.length := stop_at hfa.2.2.1 haP (by rw [hcj, hfa.2.1])
            have has : a < s.size := by
              rw [list_size, hfa.1, List.length_append, haE]
              have : 0 < r.length := List.length_pos_iff.2 hrne.out
              omega
            have hj' : ¬ (j : Int) < (j : Int) := by omega
            have has' : (a : Int) < (s.size : Int) := by omega
            have has2 : ¬ (s.size : Int) ≤ (a : Int) := by omega
            have hxl : (s.extract 0 a).data.toList = P := by
              rw [ext_list, hfa.1, haE]
              simp
            have hrd := hread.out (s.extract 0 a) (by rw [list_size, ext_list, List.length_take]; omega) hxl
            have hle : (a : Int) ≤ 200000 := by omega
            clear hQ haP hcj hfa haE hxl
            go_wp2_with (fail)
            refine (hrd w2 hB.out).mono ?_
            rintro e w3 ⟨⟨A3, c3, rfl⟩, hb⟩
            have hB3 := Lib.hid (hB.out.trans (hb.mono hB.out.size))
            clear hb hrd
            go_wp2_with (fail)
            go_returns
            exact ⟨rfl, hB3.out⟩
end Go.Proofs.YtbhgjjicmbbjaaaDoor
