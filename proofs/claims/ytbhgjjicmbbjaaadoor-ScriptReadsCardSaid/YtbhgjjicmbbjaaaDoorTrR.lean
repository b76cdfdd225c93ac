import Derived.Test.YtbhgjjicmbbjaaaDoorTrI
namespace Go.Proofs.YtbhgjjicmbbjaaaDoor
open Go.RowKit
set_option linter.unusedVariables false
set_option linter.unusedSimpArgs false
/-! chapter 17, the document's: Word, right, digits -/
def strN0 (v : Value) : Nat := match v with | .string s => s.size | _ => 0
set_option maxRecDepth 100000 in
theorem rword_any (f : Int) (w : World) : Calls Tryd.prog 19 #[.int .i64 f] w fun e w' => e = .returned (.string (wordB f)) ∧ Below w.heap.size w w' := by
  have hB := Bk.fresh w 9 wsV
  have hb := (Below.refl w.heap.size w).alloc (Nat.le_refl _) (.cells wsV 9)
  replace hb := Lib.hid hb
  by_cases h : 0 ≤ f ∧ f < 22
  · have hat := wsV_at f h
    obtain ⟨h1, h2⟩ := h
    obtain ⟨k, rfl⟩ : ∃ k : Nat, f = k := ⟨f.toNat, by omega⟩
    obtain ⟨S, hS⟩ : ∃ S, wordB (k : Int) = S := ⟨_, rfl⟩
    rw [hS] at hat ⊢
    clear hS
    rw [Int.toNat_natCast] at hat
    have c := hB.cell k
    rw [hat] at c
    have h3 : ¬ (22 : Int) ≤ (k : Int) := by omega
    unfold wsV wsL at c hb
    simp only [List.map_cons, List.map_nil] at c hb
    clear hat hB
    go_enter Tryd.func19, Tryd.ntmps19
    go_wp2_with (fail)
    go_returns
    exact ⟨rfl, hb.out⟩
  · rw [wordB_none f h]
    unfold wsV wsL at hb
    simp only [List.map_cons, List.map_nil] at hb
    rcases (by omega : f < 0 ∨ (0 ≤ f ∧ 22 ≤ f)) with h1 | ⟨h1, h2⟩
    all_goals
      clear h hB
      go_enter Tryd.func19, Tryd.ntmps19
      go_wp2_with (fail)
      go_returns
      exact ⟨rfl, hb.out⟩
set_option maxRecDepth 100000 in
theorem rright_any (f fuel : Int) (s : ByteArray) (w : World) : Calls Tryd.prog 28 #[.int .i64 f, .int .i64 fuel, .string s] w fun e w' => e = .returned (.bool (rightP f fuel s)) ∧ Below w.heap.size w w' := by
  have hf := Lib.hid (rword_any f w)
  obtain ⟨R, hR⟩ : ∃ R, rightP f fuel s = R := ⟨_, rfl⟩
  rw [hR]
  obtain ⟨W, hW⟩ : ∃ W, wordB f = W := ⟨_, rfl⟩
  rw [hW] at hf
  go_enter Tryd.func28, Tryd.ntmps28
  go_wp2_with (fail)
  refine hf.out.mono ?_
  rintro e w1 ⟨rfl, hb⟩
  replace hb := Lib.hid hb
  clear hf
  replace hR := Lib.hid hR
  replace hW := Lib.hid hW
  go_wp2_with (fail)
  all_goals
    go_returns
    refine ⟨?_, hb.out⟩
    have e1 : wordL f = W.toList := by rw [← hW.out, Lib.toList_data]; rfl
    have e2 : ((s.size : Int) ≤ 65536) ↔ s.size ≤ 65536 := by omega
    rw [← hR.out]
    unfold rightP
    rw [e1]
    clear e1 hW hR hb
    simp_all
    try omega
theorem rbase_any (w : World) : Calls Tryd.prog 64 #[.int .i64 10] w fun e w' => e = .returned (.bool true) ∧ w' = w := by
  go_enter Tryd.func64, Tryd.ntmps64
  go_wp2_with (fail)
  go_returns
  exact ⟨rfl, rfl⟩
def digB : ByteArray := ⟨#[48, 49, 50, 51, 52, 53, 54, 55, 56, 57, 65, 66, 67, 68, 69, 70, 71, 72, 73, 74, 75, 76, 77, 78, 79, 80, 81, 82, 83, 84, 85, 86, 87, 88, 89, 90]⟩
theorem digB_fin : ∀ k : Fin 10, ((digB.data.toList.drop k.val).take (k.val + 1 - k.val)) = [UInt8.ofNat (48 + k.val)] := by decide +kernel
theorem digB_at (k : Nat) (h : k < 10) : digB.extract k (k + 1) = ⟨#[UInt8.ofNat (48 + k)]⟩ := by
  rw [Lib.extract_eq, digB_fin ⟨k, h⟩]
theorem dec_short0 : ∀ (k u : Nat), u < 10 ^ (k + 1) → (Lib.decDigits u).length ≤ k + 1
  | 0, u, h => by rw [Lib.decDigits, dif_pos (by simpa using h)]; simp
  | k + 1, u, h => by
    rw [Lib.decDigits]
    split
    · simp
    · have := dec_short0 k (u / 10) (by rw [Nat.pow_succ] at h; omega)
      simp; omega
/-- how far the digits have come -/
def DigP (n u : Nat) (l : List UInt8) : Prop := (l = [] ∧ u = n) ∨ (l ≠ [] ∧ ((u = 0 ∧ l = Lib.decDigits n) ∨ (u ≠ 0 ∧ Lib.decDigits u ++ l = Lib.decDigits n)))
theorem digP_step {n u : Nat} {l : List UInt8} (h : DigP n u l) (hc : l = [] ∨ u ≠ 0) : DigP n (u / 10) (UInt8.ofNat (48 + u % 10) :: l) := by
  have key : Lib.decDigits u ++ l = Lib.decDigits n := by
    rcases h with ⟨h1, h2⟩ | ⟨h1, h2 | h2⟩
    · rw [h1, h2]; simp
    · rcases hc with hc | hc
      · exact absurd hc h1
      · exact absurd h2.1 hc
    · exact h2.2
  refine .inr ⟨by simp, ?_⟩
  rw [Lib.decDigits] at key
  split at key
  · rename_i h10
    left
    refine ⟨by omega, ?_⟩
    rw [← key, Nat.mod_eq_of_lt h10]
    rfl
  · rename_i h10
    right
    exact ⟨by omega, by rw [← key]; simp⟩
theorem digP_len {n u : Nat} {l : List UInt8} (h : DigP n u l) (hn : n ≤ 1000000) : l.length ≤ 7 := by
  have hd := dec_short0 6 n (by omega)
  rcases h with ⟨h1, h2⟩ | ⟨h1, h2 | h2⟩
  · rw [h1]; simp
  · rw [h2.2]; exact hd
  · have := congrArg List.length h2.2
    rw [List.length_append] at this
    omega
set_option maxRecDepth 100000 in
theorem runsigned_any (n : Nat) (hn : n ≤ 1000000) (w : World) : Calls Tryd.prog 65 #[.int .i64 (n : Int), .int .i64 10] w fun e w' => e = .returned (.string ⟨(Lib.decDigits n).toArray⟩) ∧ w' = w := by
  have hb := Lib.hid rbase_any
  have hn' : (n : Int) ≤ 1000000 := by omega
  obtain ⟨T, hT⟩ : ∃ T : ByteArray, ⟨(Lib.decDigits n).toArray⟩ = T := ⟨_, rfl⟩
  rw [hT]
  have hTl : Hid (T.data.toList = Lib.decDigits n) := by rw [← hT]; simp [Hid]
  clear hT
  go_enter Tryd.func65, Tryd.ntmps65
  go_wp2_with (fail)
  refine (hb.out _).mono ?_
  rintro e w1 ⟨rfl, rfl⟩
  clear hb
  go_wp2_with (fail)
  go_loop [6, 7] (fun x6 x7 => ∃ (u : Nat) (S : ByteArray), x6 = .int .u64 u ∧ x7 = .string S ∧ u ≤ 1000000 ∧ Hid (DigP n u S.data.toList)) (fun x6 x7 => (intOf x6).toNat + if strN0 x7 = 0 then 1 else 0)
  case atStart => exact ⟨n, ⟨#[]⟩, rfl, rfl, hn, Lib.hid (.inl ⟨rfl, rfl⟩)⟩
  case round =>
    obtain ⟨u, S, rfl, rfl, hu, hQ⟩ := hrel
    by_cases hc : S.data.toList = [] ∨ (S.data.toList ≠ [] ∧ u ≠ 0)
    · have hnx := Lib.hid (digP_step hQ.out (hc.elim .inl fun h => .inr h.2))
      have hl := digP_len hQ.out hn
      rw [data_size] at hl
      obtain ⟨k, hk⟩ : ∃ k, u % 10 = k := ⟨_, rfl⟩
      have hk10 : k < 10 := by omega
      have hk2 : (u : Int) % 10 = (k : Int) := by omega
      have hk3 : (k : Int) ≤ 9 := by omega
      have hdg := digB_at k hk10
      unfold digB at hdg
      have hcat := cat_run ⟨#[UInt8.ofNat (48 + k)]⟩ S (by show 1 + S.size ≤ _; omega)
      rw [show (⟨#[UInt8.ofNat (48 + k)]⟩ : ByteArray).data.toList ++ S.data.toList = UInt8.ofNat (48 + k) :: S.data.toList from rfl] at hcat
      rw [hk] at hnx
      obtain ⟨S2, hS2⟩ : ∃ S2 : ByteArray, ⟨(UInt8.ofNat (48 + k) :: S.data.toList).toArray⟩ = S2 := ⟨_, rfl⟩
      obtain ⟨D, hD⟩ : ∃ D : ByteArray, ⟨#[UInt8.ofNat (48 + k)]⟩ = D := ⟨_, rfl⟩
      rw [hS2, hD] at hcat
      rw [hD] at hdg
      have hnx2 : Hid (DigP n (u / 10) S2.data.toList) := by rw [← hS2]; exact hnx.out
      have hsz : Hid (strN0 (.string S2) ≠ 0) := by
        show strN0 (.string S2) ≠ 0
        rw [← hS2]
        show (UInt8.ofNat (48 + k) :: S.data.toList).length ≠ 0
        simp
      have hu2 : ((u / 10 : Nat) : Int) = (u : Int) / 10 := by omega
      replace hu2 := Lib.hid hu2
      rcases hc with hc | ⟨hc, hu0⟩
      · have ht : S.toList.isEmpty = true := by rw [Lib.toList_data, hc]; rfl
        have hs0 : Hid (strN0 (.string S) = 0) := by
          show S.size = 0
          rw [← data_size, hc]
          rfl
        replace hc := Lib.hid hc
        clear hnx hk hk10 hl hQ hS2 hD
        go_wp2_with (fail)
        refine ⟨⟨u / 10, S2, by rw [hu2.out], rfl, by omega, hnx2⟩, ?_⟩
        rw [if_neg hsz.out, if_pos hs0.out, ← hu2.out]
        simp [intOf]
        omega
      · have ht : S.toList.isEmpty = false := by
          rw [Lib.toList_data]
          cases h : S.data.toList with
          | nil => exact absurd h hc
          | cons => rfl
        have hup : (0 : Int) < (u : Int) := by omega
        replace hc := Lib.hid hc
        replace hu0 := Lib.hid hu0
        clear hnx hk hk10 hl hQ hS2 hD
        go_wp2_with (fail)
        refine ⟨⟨u / 10, S2, by rw [hu2.out], rfl, by omega, hnx2⟩, ?_⟩
        rw [if_neg hsz.out, ← hu2.out]
        have := hu0.out
        simp [intOf]
        omega
    · have hS0 : S.data.toList ≠ [] := fun h => hc (.inl h)
      have hu0 : u = 0 := Classical.byContradiction fun h => hc (.inr ⟨hS0, h⟩)
      have ht : S.toList.isEmpty = false := by
        rw [Lib.toList_data]
        cases h : S.data.toList with
        | nil => exact absurd h hS0
        | cons => rfl
      have hST : S = T := ba_ext (by
        rw [hTl.out]
        rcases hQ.out with h | ⟨_, h | h⟩
        · exact absurd h.1 hS0
        · exact h.2
        · exact absurd hu0 h.1)
      subst hu0 hST
      clear hS0 hc hQ hTl
      go_wp2_with (fail)
      go_returns
      exact ⟨rfl, rfl⟩
set_option maxRecDepth 100000 in
theorem rdigits_any (n : Int) (h0 : 0 ≤ n) (hn : n ≤ 1000000) (w : World) : Calls Tryd.prog 29 #[.int .i64 n] w fun e w' => e = .returned (.string ⟨(Lib.itoa n).toArray⟩) ∧ w' = w := by
  rw [itoa_pos h0]
  obtain ⟨k, rfl⟩ : ∃ k : Nat, n = k := ⟨n.toNat, by omega⟩
  rw [Int.toNat_natCast]
  have hu := Lib.hid (fun w => runsigned_any k (by omega) w)
  have hb := Lib.hid rbase_any
  obtain ⟨T, hT⟩ : ∃ T : ByteArray, ⟨(Lib.decDigits k).toArray⟩ = T := ⟨_, rfl⟩
  rw [hT] at hu ⊢
  have hp : ∀ w, Calls Tryd.prog 48 #[.int .i64 (k : Int), .int .i64 10] w fun e w' => e = .returned (.string T) ∧ w' = w := by
    intro w
    clear hT
    go_enter Tryd.func48, Tryd.ntmps48
    go_wp2_with (fail)
    refine (hb.out _).mono ?_
    rintro e w1 ⟨rfl, rfl⟩
    go_wp2_with (fail)
    refine (hu.out _).mono ?_
    rintro e w1 ⟨rfl, rfl⟩
    go_wp2_with (fail)
    go_returns
    exact ⟨rfl, rfl⟩
  replace hp := Lib.hid hp
  clear hu hb hT h0
  go_enter Tryd.func29, Tryd.ntmps29
  go_wp2_with (fail)
  refine (hp.out _).mono ?_
  rintro e w1 ⟨rfl, rfl⟩
  go_wp2_with (fail)
  go_returns
  exact ⟨rfl, rfl⟩
end Go.Proofs.YtbhgjjicmbbjaaaDoor
