import Derived.Test.YtbhgjjicmbbjaaaDoorTrK
namespace Go.Proofs.YtbhgjjicmbbjaaaDoor
open Go.RowKit
set_option linter.unusedVariables false
set_option linter.unusedSimpArgs false
/-! chapter 17: ParseUint of two bytes at base 16 -/
theorem hx_val : ∀ a : Fin 16, (hx a.val).toNat = if a.val < 10 then 48 + a.val else 87 + a.val := by decide +kernel
theorem low_val : ∀ z : Fin 256, ∃ y : Fin 256, bits .or .u8 (z.val : Int) 32 = (y.val : Int) ∧ (97 ≤ z.val → z.val ≤ 102 → y.val = z.val) ∧ (48 ≤ z.val → z.val ≤ 57 → y.val = z.val) ∧ (z.val = 95 → y.val = 127) := by
  intro z
  have h : ∀ z : Fin 256, 0 ≤ bits .or .u8 (z.val : Int) 32 ∧ bits .or .u8 (z.val : Int) 32 < 256 ∧ (97 ≤ z.val → z.val ≤ 102 → bits .or .u8 (z.val : Int) 32 = (z.val : Int)) ∧ (48 ≤ z.val → z.val ≤ 57 → bits .or .u8 (z.val : Int) 32 = (z.val : Int)) ∧ (z.val = 95 → bits .or .u8 (z.val : Int) 32 = 127) := by decide +kernel
  obtain ⟨h1, h2, h3, h4, h5⟩ := h z
  refine ⟨⟨(bits .or .u8 (z.val : Int) 32).toNat, by omega⟩, by simp; omega, ?_, ?_, ?_⟩
  · intro a b; have := h3 a b; simp only; omega
  · intro a b; have := h4 a b; simp only; omega
  · intro a; have := h5 a; simp only; omega
/-- what a byte says as a digit at base 16: the value, where it is one -/
def Dig (z d : Nat) : Prop := ∀ a : Nat, a < 16 → z = (hx a).toNat → d = a
theorem dig_num {z : Nat} (h1 : 48 ≤ z) (h2 : z ≤ 57) : Dig z (z - 48) := fun a ha e => by
  have := hx_val ⟨a, ha⟩
  simp only at this
  rw [← e] at this
  split at this <;> omega
theorem dig_let {z y : Nat} (h0 : ¬ (48 ≤ z ∧ z ≤ 57)) (hy : 97 ≤ z → z ≤ 102 → y = z) : Dig z (y - 87) := fun a ha e => by
  have h := hx_val ⟨a, ha⟩
  simp only at h
  rw [← e] at h
  split at h
  · omega
  · have := hy (by omega) (by omega); omega
theorem dig_no {z y : Nat} (h0 : ¬ (48 ≤ z ∧ z ≤ 57)) (hy : 97 ≤ z → z ≤ 102 → y = z) (hn : ¬ (97 ≤ y ∧ y ≤ 102)) : ∀ a : Nat, a < 16 → z ≠ (hx a).toNat := fun a ha e => by
  have h := hx_val ⟨a, ha⟩
  simp only at h
  rw [← e] at h
  split at h
  · omega
  · have := hy (by omega) (by omega); omega
/-- two digits' value -/
def Hex2 (s : ByteArray) (n : Nat) : Prop := ∀ a b : Nat, a < 16 → b < 16 → s.data.toList = [hx a, hx b] → n = a * 16 + b
set_option maxRecDepth 100000 in
set_option maxHeartbeats 4000000 in
theorem ipu_any (s : ByteArray) (hs : s.size = 2) (w : World) : Calls Tryd.prog 70 #[.string s, .int .i64 16, .int .i64 8] w fun e w' => (∃ (n : Nat) (ev : Value), e = .returned (.tuple #[.int .u64 n, ev]) ∧ n < 256 ∧ Hex2 s n ∧ (ev = .nilIface ∨ ev = .iface 106 (.int .i64 2))) ∧ Below w.heap.size w w' := by
  obtain ⟨W, cap, hrun, hBs, hb, hcap⟩ := bytes_made w s
  rw [hs] at hrun
  have hne : (s.toList.isEmpty) = false := by
    rw [Lib.toList_data]
    cases hl : s.data.toList with
    | nil => have := data_size s; rw [hl, hs] at this; cases this
    | cons => rfl
  obtain ⟨g, hg⟩ : ∃ g, w.heap.size = g := ⟨_, rfl⟩
  rw [hg] at hrun hBs
  obtain ⟨z0, z1, hl⟩ : ∃ z0 z1, s.data.toList = [z0, z1] := by
    have := data_size s
    rw [hs] at this
    match h : s.data.toList, this with
    | [a, b], _ => exact ⟨a, b, rfl⟩
  have k0 := (hBs.2 0 (by rw [hl]; exact Nat.zero_lt_succ 1)).1
  have k1 := (hBs.2 1 (by rw [hl]; exact Nat.lt_succ_self 1)).1
  simp only [hl, List.getElem_cons_zero, List.getElem_cons_succ] at k0 k1
  replace hb := Lib.hid hb
  clear hBs
  go_enter Tryd.func70, Tryd.ntmps70
  go_wp2_with (fail)
  go_loop [12, 13, 101] (fun x12 x13 x101 => ∃ k n : Nat, x12 = .bool false ∧ x13 = .int .u64 n ∧ x101 = .int .i64 k ∧ k ≤ 2 ∧ n < 16 ^ k ∧ Hid (∀ a b : Nat, a < 16 → b < 16 → [z0, z1] = [hx a, hx b] → n = if k = 0 then 0 else if k = 1 then a else a * 16 + b)) (fun _ _ x101 => 2 - (intOf x101).toNat)
  case atStart => exact ⟨0, 0, rfl, rfl, rfl, by decide, by decide, Lib.hid (fun _ _ _ _ _ => rfl)⟩
  case round =>
    obtain ⟨k, n, rfl, rfl, rfl, hk, hn, hQ⟩ := hrel
    rcases (by omega : k = 0 ∨ k = 1 ∨ k = 2) with rfl | rfl | rfl
    · obtain rfl : n = 0 := by simpa using hn
      obtain ⟨z, hz⟩ : ∃ z, z0.toNat = z := ⟨_, rfl⟩
      rw [hz] at k0
      have hzl : z < 256 := by rw [← hz]; exact z0.toNat_lt
      obtain ⟨y, hy, hyl, hyn, hyu⟩ := low_val ⟨z, hzl⟩
      obtain ⟨y, hyb⟩ := y
      simp only at hy hyl hyn hyu
      by_cases hA : 48 ≤ z ∧ z ≤ 57
      · obtain ⟨a1, a2⟩ := hA
        have b1 : (48 : Int) ≤ (z : Int) := by omega
        have b2 : (z : Int) ≤ 57 := by omega
        have h95 : ((z : Int) == 95) = false := by simp; omega
        have hdd : Dig z (z - 48) := dig_num a1 a2
        obtain ⟨d, hd⟩ : ∃ d, z - 48 = d := ⟨_, rfl⟩
        rw [hd] at hdd
        have hd2 : d < 16 := by omega
        have hwz : (z : Int) - 48 = (d : Int) := by omega
        have hnx : ∀ a b : Nat, a < 16 → b < 16 → [z0, z1] = [hx a, hx b] → 0 * 16 + d = if 0 + 1 = 0 then 0 else if 0 + 1 = 1 then a else a * 16 + b := by
          intro a b ha hb e
          have h1 := hQ.out a b ha hb e
          simp only [List.cons.injEq, and_true] at e
          have h2 : d = if 0 = 0 then a else b := by
            first
              | exact hdd a ha (by rw [← hz, e.1])
              | exact hdd b hb (by rw [← hz, e.2])
          simp at h1 h2 ⊢
          omega
        replace hnx := Lib.hid hnx
        have hd3 : (d : Int) < 16 := by omega
        have hkeep := Lib.hid (And.intro hn hd2)
        clear hQ hn hd2 hdd hzl hyb hyl hyn hz hyu
        try clear hn2
        try clear a1 a2
        try clear hd
        go_upto_region 46 with (first | (go_at_call 84; refine (Tryd.internal_strconv_lower _ _).mono ?_; rintro e w' ⟨rfl, rfl⟩) | fail)
        try clear hwz2
        try clear hwz
        try clear hdb
        clear b1 b2
        skip
        go_wp2_with (first | (go_at_call 84; refine (Tryd.internal_strconv_lower _ _).mono ?_; rintro e w' ⟨rfl, rfl⟩) | fail)
        exact ⟨⟨0 + 1, 0 * 16 + d, rfl, congrArg (Value.int .u64) (by first | omega | (have := hkk.out; omega)), rfl, by omega, by have := hkeep.out; omega, hnx⟩, by simp [intOf]⟩
      · have hsp : (z : Int) < 48 ∨ ((48 : Int) ≤ z ∧ (57 : Int) < z) := by omega
        by_cases hY : 97 ≤ y ∧ y ≤ 102
        · obtain ⟨a1, a2⟩ := hY
          have b1 : (97 : Int) ≤ (y : Int) := by omega
          have b2 : (y : Int) ≤ 122 := by omega
          have hdd : Dig z (y - 87) := dig_let hA hyl
          obtain ⟨d, hd⟩ : ∃ d, y - 87 = d := ⟨_, rfl⟩
          obtain ⟨d0, hd0⟩ : ∃ d, y - 97 = d := ⟨_, rfl⟩
          rw [hd] at hdd
          have hd2 : d < 16 := by omega
          have hwz : (y : Int) - 97 = (d0 : Int) := by omega
          have hwz2 : (d0 : Int) + 10 = (d : Int) := by omega
          have hdb : (d0 : Int) ≤ 100 := by omega
          have h95 : ((z : Int) == 95) = false := by simp; omega
          have hnx : ∀ a b : Nat, a < 16 → b < 16 → [z0, z1] = [hx a, hx b] → 0 * 16 + d = if 0 + 1 = 0 then 0 else if 0 + 1 = 1 then a else a * 16 + b := by
            intro a b ha hb e
            have h1 := hQ.out a b ha hb e
            simp only [List.cons.injEq, and_true] at e
            have h2 : d = if 0 = 0 then a else b := by
              first
                | exact hdd a ha (by rw [← hz, e.1])
                | exact hdd b hb (by rw [← hz, e.2])
            simp at h1 h2 ⊢
            omega
          clear hA hd0
          rcases hsp with c1 | ⟨c1, c2⟩
          all_goals
            replace hnx := Lib.hid hnx
            have hd3 : (d : Int) < 16 := by omega
            have hkeep := Lib.hid (And.intro hn hd2)
            clear hQ hn hd2 hdd hzl hyb hyl hyn hz hyu
            try clear hn2
            try clear a1 a2
            try clear hd
            go_upto_region 46 with (first | (go_at_call 84; refine (Tryd.internal_strconv_lower _ _).mono ?_; rintro e w' ⟨rfl, rfl⟩) | fail)
            try clear hwz2
            try clear hwz
            try clear hdb
            clear b1 b2
            skip
            go_wp2_with (first | (go_at_call 84; refine (Tryd.internal_strconv_lower _ _).mono ?_; rintro e w' ⟨rfl, rfl⟩) | fail)
            exact ⟨⟨0 + 1, 0 * 16 + d, rfl, congrArg (Value.int .u64) (by first | omega | (have := hkk.out; omega)), rfl, by omega, by have := hkeep.out; omega, hnx⟩, by simp [intOf]⟩
        · have hno : Hex2 s 0 := fun a b ha hb e => by
            rw [hl] at e
            simp only [List.cons.injEq, and_true] at e
            first
              | exact absurd (by rw [← hz, e.1]) (dig_no hA hyl hY a ha)
              | exact absurd (by rw [← hz, e.2]) (dig_no hA hyl hY b hb)
          have hcase : (y : Int) < 97 ∨ ((97 : Int) ≤ y ∧ (122 : Int) < y) ∨ ((97 : Int) ≤ y ∧ (y : Int) ≤ 122) := by omega
          rcases hcase with g1 | ⟨g1, g2⟩ | ⟨g1, g2⟩
          · have h95 : ((z : Int) == 95) = false := by simp; omega
            clear hA hY
            rcases hsp with c1 | ⟨c1, c2⟩
            all_goals
              replace hno := Lib.hid hno
              clear hQ hn hzl hyb hyl hyn hz hyu
              try clear hn2
              skip
              go_wp2_with (first | (go_at_call 84; refine (Tryd.internal_strconv_lower _ _).mono ?_; rintro e w' ⟨rfl, rfl⟩) | fail)
              go_returns
              exact ⟨⟨0, _, rfl, by decide, hno.out, .inr rfl⟩, by first | exact hb.out | (rw [← hg]; exact hb.out)⟩
          · by_cases hu : z = 95
            · subst hu
              have hy2 : bits .or .u8 95 32 = 127 := by decide
              clear hA hY hsp hy g1 g2 hyu hyb hyl hyn
              clear y
              replace hno := Lib.hid hno
              clear hQ hn hzl hz
              try clear hn2
              go_wp2_with (first | (go_at_call 84; refine (Tryd.internal_strconv_lower _ _).mono ?_; rintro e w' ⟨rfl, rfl⟩) | fail)
              go_returns
              exact ⟨⟨0, _, rfl, by decide, hno.out, .inr rfl⟩, by first | exact hb.out | (rw [← hg]; exact hb.out)⟩
            · have h95 : ((z : Int) == 95) = false := by simp; omega
              clear hA hY hu
              rcases hsp with c1 | ⟨c1, c2⟩
              all_goals
                replace hno := Lib.hid hno
                clear hQ hn hzl hyb hyl hyn hz hyu
                try clear hn2
                skip
                go_wp2_with (first | (go_at_call 84; refine (Tryd.internal_strconv_lower _ _).mono ?_; rintro e w' ⟨rfl, rfl⟩) | fail)
                go_returns
                exact ⟨⟨0, _, rfl, by decide, hno.out, .inr rfl⟩, by first | exact hb.out | (rw [← hg]; exact hb.out)⟩
          · obtain ⟨d0, hd0⟩ : ∃ d, y - 97 = d := ⟨_, rfl⟩
            obtain ⟨d, hd⟩ : ∃ d, d0 + 10 = d := ⟨_, rfl⟩
            have hwz : (y : Int) - 97 = (d0 : Int) := by omega
            have hwz2 : (d0 : Int) + 10 = (d : Int) := by omega
            have hdb : (d0 : Int) ≤ 100 := by omega
            have hd3 : ¬ (d : Int) < 16 := by omega
            have h95 : ((z : Int) == 95) = false := by simp; omega
            clear hA hY hd0 hd
            rcases hsp with c1 | ⟨c1, c2⟩
            all_goals
              replace hno := Lib.hid hno
              clear hQ hn hzl hyb hyl hyn hz hyu
              try clear hn2
              skip
              go_wp2_with (first | (go_at_call 84; refine (Tryd.internal_strconv_lower _ _).mono ?_; rintro e w' ⟨rfl, rfl⟩) | fail)
              go_returns
              exact ⟨⟨0, _, rfl, by decide, hno.out, .inr rfl⟩, by first | exact hb.out | (rw [← hg]; exact hb.out)⟩
    · have hn2 : n < 16 := by simpa using hn
      have hn3 : (n : Int) < 16 := by omega
      obtain ⟨z, hz⟩ : ∃ z, z1.toNat = z := ⟨_, rfl⟩
      rw [hz] at k1
      have hzl : z < 256 := by rw [← hz]; exact z1.toNat_lt
      obtain ⟨y, hy, hyl, hyn, hyu⟩ := low_val ⟨z, hzl⟩
      obtain ⟨y, hyb⟩ := y
      simp only at hy hyl hyn hyu
      by_cases hA : 48 ≤ z ∧ z ≤ 57
      · obtain ⟨a1, a2⟩ := hA
        have b1 : (48 : Int) ≤ (z : Int) := by omega
        have b2 : (z : Int) ≤ 57 := by omega
        have h95 : ((z : Int) == 95) = false := by simp; omega
        have hdd : Dig z (z - 48) := dig_num a1 a2
        obtain ⟨d, hd⟩ : ∃ d, z - 48 = d := ⟨_, rfl⟩
        rw [hd] at hdd
        have hd2 : d < 16 := by omega
        have hwz : (z : Int) - 48 = (d : Int) := by omega
        have hnx : ∀ a b : Nat, a < 16 → b < 16 → [z0, z1] = [hx a, hx b] → n * 16 + d = if 1 + 1 = 0 then 0 else if 1 + 1 = 1 then a else a * 16 + b := by
          intro a b ha hb e
          have h1 := hQ.out a b ha hb e
          simp only [List.cons.injEq, and_true] at e
          have h2 : d = if 1 = 0 then a else b := by
            first
              | exact hdd a ha (by rw [← hz, e.1])
              | exact hdd b hb (by rw [← hz, e.2])
          simp at h1 h2 ⊢
          omega
        replace hnx := Lib.hid hnx
        have hd3 : (d : Int) < 16 := by omega
        have hkeep := Lib.hid (And.intro hn hd2)
        clear hQ hn hd2 hdd hzl hyb hyl hyn hz hyu
        try clear hn2
        try clear a1 a2
        try clear hd
        go_upto_region 46 with (first | (go_at_call 84; refine (Tryd.internal_strconv_lower _ _).mono ?_; rintro e w' ⟨rfl, rfl⟩) | fail)
        try clear hwz2
        try clear hwz
        try clear hdb
        clear b1 b2
        (obtain ⟨m1, hm1⟩ : ∃ m1 : Nat, (n : Int) * 16 = (m1 : Int) := ⟨n * 16, (by omega)⟩; obtain ⟨m2, hm2⟩ : ∃ m2 : Nat, (m1 : Int) + (d : Int) = (m2 : Int) := ⟨m1 + d, (by omega)⟩; have q1 : (m1 : Int) ≤ (m2 : Int) := (by omega); have q2 : (m2 : Int) ≤ 255 := (by omega); have q3 : (m1 : Int) ≤ 255 := (by omega); have hkk := Lib.hid (And.intro hm1 hm2); have hcut : ¬ (1152921504606846976 : Int) ≤ (n : Int) := (by omega))
        go_wp2_with (first | (go_at_call 84; refine (Tryd.internal_strconv_lower _ _).mono ?_; rintro e w' ⟨rfl, rfl⟩) | fail)
        exact ⟨⟨1 + 1, n * 16 + d, rfl, congrArg (Value.int .u64) (by first | omega | (have := hkk.out; omega)), rfl, by omega, by have := hkeep.out; omega, hnx⟩, by simp [intOf]⟩
      · have hsp : (z : Int) < 48 ∨ ((48 : Int) ≤ z ∧ (57 : Int) < z) := by omega
        by_cases hY : 97 ≤ y ∧ y ≤ 102
        · obtain ⟨a1, a2⟩ := hY
          have b1 : (97 : Int) ≤ (y : Int) := by omega
          have b2 : (y : Int) ≤ 122 := by omega
          have hdd : Dig z (y - 87) := dig_let hA hyl
          obtain ⟨d, hd⟩ : ∃ d, y - 87 = d := ⟨_, rfl⟩
          obtain ⟨d0, hd0⟩ : ∃ d, y - 97 = d := ⟨_, rfl⟩
          rw [hd] at hdd
          have hd2 : d < 16 := by omega
          have hwz : (y : Int) - 97 = (d0 : Int) := by omega
          have hwz2 : (d0 : Int) + 10 = (d : Int) := by omega
          have hdb : (d0 : Int) ≤ 100 := by omega
          have h95 : ((z : Int) == 95) = false := by simp; omega
          have hnx : ∀ a b : Nat, a < 16 → b < 16 → [z0, z1] = [hx a, hx b] → n * 16 + d = if 1 + 1 = 0 then 0 else if 1 + 1 = 1 then a else a * 16 + b := by
            intro a b ha hb e
            have h1 := hQ.out a b ha hb e
            simp only [List.cons.injEq, and_true] at e
            have h2 : d = if 1 = 0 then a else b := by
              first
                | exact hdd a ha (by rw [← hz, e.1])
                | exact hdd b hb (by rw [← hz, e.2])
            simp at h1 h2 ⊢
            omega
          clear hA hd0
          rcases hsp with c1 | ⟨c1, c2⟩
          all_goals
            replace hnx := Lib.hid hnx
            have hd3 : (d : Int) < 16 := by omega
            have hkeep := Lib.hid (And.intro hn hd2)
            clear hQ hn hd2 hdd hzl hyb hyl hyn hz hyu
            try clear hn2
            try clear a1 a2
            try clear hd
            go_upto_region 46 with (first | (go_at_call 84; refine (Tryd.internal_strconv_lower _ _).mono ?_; rintro e w' ⟨rfl, rfl⟩) | fail)
            try clear hwz2
            try clear hwz
            try clear hdb
            clear b1 b2
            (obtain ⟨m1, hm1⟩ : ∃ m1 : Nat, (n : Int) * 16 = (m1 : Int) := ⟨n * 16, (by omega)⟩; obtain ⟨m2, hm2⟩ : ∃ m2 : Nat, (m1 : Int) + (d : Int) = (m2 : Int) := ⟨m1 + d, (by omega)⟩; have q1 : (m1 : Int) ≤ (m2 : Int) := (by omega); have q2 : (m2 : Int) ≤ 255 := (by omega); have q3 : (m1 : Int) ≤ 255 := (by omega); have hkk := Lib.hid (And.intro hm1 hm2); have hcut : ¬ (1152921504606846976 : Int) ≤ (n : Int) := (by omega))
            go_wp2_with (first | (go_at_call 84; refine (Tryd.internal_strconv_lower _ _).mono ?_; rintro e w' ⟨rfl, rfl⟩) | fail)
            exact ⟨⟨1 + 1, n * 16 + d, rfl, congrArg (Value.int .u64) (by first | omega | (have := hkk.out; omega)), rfl, by omega, by have := hkeep.out; omega, hnx⟩, by simp [intOf]⟩
        · have hno : Hex2 s 0 := fun a b ha hb e => by
            rw [hl] at e
            simp only [List.cons.injEq, and_true] at e
            first
              | exact absurd (by rw [← hz, e.1]) (dig_no hA hyl hY a ha)
              | exact absurd (by rw [← hz, e.2]) (dig_no hA hyl hY b hb)
          have hcase : (y : Int) < 97 ∨ ((97 : Int) ≤ y ∧ (122 : Int) < y) ∨ ((97 : Int) ≤ y ∧ (y : Int) ≤ 122) := by omega
          rcases hcase with g1 | ⟨g1, g2⟩ | ⟨g1, g2⟩
          · have h95 : ((z : Int) == 95) = false := by simp; omega
            clear hA hY
            rcases hsp with c1 | ⟨c1, c2⟩
            all_goals
              replace hno := Lib.hid hno
              clear hQ hn hzl hyb hyl hyn hz hyu
              try clear hn2
              skip
              go_wp2_with (first | (go_at_call 84; refine (Tryd.internal_strconv_lower _ _).mono ?_; rintro e w' ⟨rfl, rfl⟩) | fail)
              go_returns
              exact ⟨⟨0, _, rfl, by decide, hno.out, .inr rfl⟩, by first | exact hb.out | (rw [← hg]; exact hb.out)⟩
          · by_cases hu : z = 95
            · subst hu
              have hy2 : bits .or .u8 95 32 = 127 := by decide
              clear hA hY hsp hy g1 g2 hyu hyb hyl hyn
              clear y
              replace hno := Lib.hid hno
              clear hQ hn hzl hz
              try clear hn2
              go_wp2_with (first | (go_at_call 84; refine (Tryd.internal_strconv_lower _ _).mono ?_; rintro e w' ⟨rfl, rfl⟩) | fail)
              go_returns
              exact ⟨⟨0, _, rfl, by decide, hno.out, .inr rfl⟩, by first | exact hb.out | (rw [← hg]; exact hb.out)⟩
            · have h95 : ((z : Int) == 95) = false := by simp; omega
              clear hA hY hu
              rcases hsp with c1 | ⟨c1, c2⟩
              all_goals
                replace hno := Lib.hid hno
                clear hQ hn hzl hyb hyl hyn hz hyu
                try clear hn2
                skip
                go_wp2_with (first | (go_at_call 84; refine (Tryd.internal_strconv_lower _ _).mono ?_; rintro e w' ⟨rfl, rfl⟩) | fail)
                go_returns
                exact ⟨⟨0, _, rfl, by decide, hno.out, .inr rfl⟩, by first | exact hb.out | (rw [← hg]; exact hb.out)⟩
          · obtain ⟨d0, hd0⟩ : ∃ d, y - 97 = d := ⟨_, rfl⟩
            obtain ⟨d, hd⟩ : ∃ d, d0 + 10 = d := ⟨_, rfl⟩
            have hwz : (y : Int) - 97 = (d0 : Int) := by omega
            have hwz2 : (d0 : Int) + 10 = (d : Int) := by omega
            have hdb : (d0 : Int) ≤ 100 := by omega
            have hd3 : ¬ (d : Int) < 16 := by omega
            have h95 : ((z : Int) == 95) = false := by simp; omega
            clear hA hY hd0 hd
            rcases hsp with c1 | ⟨c1, c2⟩
            all_goals
              replace hno := Lib.hid hno
              clear hQ hn hzl hyb hyl hyn hz hyu
              try clear hn2
              skip
              go_wp2_with (first | (go_at_call 84; refine (Tryd.internal_strconv_lower _ _).mono ?_; rintro e w' ⟨rfl, rfl⟩) | fail)
              go_returns
              exact ⟨⟨0, _, rfl, by decide, hno.out, .inr rfl⟩, by first | exact hb.out | (rw [← hg]; exact hb.out)⟩
    · have hn2 : n < 256 := by simpa using hn
      have hx2 : Hex2 s n := fun a b ha hb e => by
        rw [hl] at e
        simpa using hQ.out a b ha hb e
      replace hx2 := Lib.hid hx2
      replace hn2 := Lib.hid hn2
      clear hQ hn
      go_wp2_with (fail)
      go_returns
      exact ⟨⟨n, _, rfl, hn2.out, hx2.out, .inl rfl⟩, by first | exact hb.out | (rw [← hg]; exact hb.out)⟩
end Go.Proofs.YtbhgjjicmbbjaaaDoor
