import Derived.Test.YtmfffaocmboelaaFwH
namespace Go.Proofs.Ytmfffaocmboelaa
open Go.RowKit
set_option linter.unusedVariables false
set_option linter.unusedSimpArgs false
/-! what a word wants; the words that branch does not know; what a word does, as a plain law -/
/-- what kind a row wants on top; 0: nothing -/
def wantK : Nat → Nat
  | 1 => 1
  | 2 => 1
  | 4 => 2
  | 5 => 2
  | 6 => 2
  | 7 => 3
  | 10 => 4
  | 11 => 4
  | 14 => 5
  | 15 => 6
  | 16 => 5
  | _ => 0
theorem wants_0 (w : World) : Calls Try.prog 18 #[.string ⟨#[73, 70]⟩] w fun e w' => e = .returned (.string (kn (wantK 0))) ∧ w' = w := by
  go_enter Try.func18, Try.ntmps18
  go_wp2
  go_returns
  exact ⟨rfl, rfl⟩
theorem wants_1 (w : World) : Calls Try.prog 18 #[.string ⟨#[69, 76, 83, 69]⟩] w fun e w' => e = .returned (.string (kn (wantK 1))) ∧ w' = w := by
  go_enter Try.func18, Try.ntmps18
  go_wp2
  go_returns
  exact ⟨rfl, rfl⟩
theorem wants_2 (w : World) : Calls Try.prog 18 #[.string ⟨#[84, 72, 69, 78]⟩] w fun e w' => e = .returned (.string (kn (wantK 2))) ∧ w' = w := by
  go_enter Try.func18, Try.ntmps18
  go_wp2
  go_returns
  exact ⟨rfl, rfl⟩
theorem wants_3 (w : World) : Calls Try.prog 18 #[.string ⟨#[66, 69, 71, 73, 78]⟩] w fun e w' => e = .returned (.string (kn (wantK 3))) ∧ w' = w := by
  go_enter Try.func18, Try.ntmps18
  go_wp2
  go_returns
  exact ⟨rfl, rfl⟩
theorem wants_4 (w : World) : Calls Try.prog 18 #[.string ⟨#[65, 71, 65, 73, 78]⟩] w fun e w' => e = .returned (.string (kn (wantK 4))) ∧ w' = w := by
  go_enter Try.func18, Try.ntmps18
  go_wp2
  go_returns
  exact ⟨rfl, rfl⟩
theorem wants_5 (w : World) : Calls Try.prog 18 #[.string ⟨#[85, 78, 84, 73, 76]⟩] w fun e w' => e = .returned (.string (kn (wantK 5))) ∧ w' = w := by
  go_enter Try.func18, Try.ntmps18
  go_wp2
  go_returns
  exact ⟨rfl, rfl⟩
theorem wants_6 (w : World) : Calls Try.prog 18 #[.string ⟨#[87, 72, 73, 76, 69]⟩] w fun e w' => e = .returned (.string (kn (wantK 6))) ∧ w' = w := by
  go_enter Try.func18, Try.ntmps18
  go_wp2
  go_returns
  exact ⟨rfl, rfl⟩
theorem wants_7 (w : World) : Calls Try.prog 18 #[.string ⟨#[82, 69, 80, 69, 65, 84]⟩] w fun e w' => e = .returned (.string (kn (wantK 7))) ∧ w' = w := by
  go_enter Try.func18, Try.ntmps18
  go_wp2
  go_returns
  exact ⟨rfl, rfl⟩
theorem wants_8 (w : World) : Calls Try.prog 18 #[.string ⟨#[68, 79]⟩] w fun e w' => e = .returned (.string (kn (wantK 8))) ∧ w' = w := by
  go_enter Try.func18, Try.ntmps18
  go_wp2
  go_returns
  exact ⟨rfl, rfl⟩
theorem wants_9 (w : World) : Calls Try.prog 18 #[.string ⟨#[63, 68, 79]⟩] w fun e w' => e = .returned (.string (kn (wantK 9))) ∧ w' = w := by
  go_enter Try.func18, Try.ntmps18
  go_wp2
  go_returns
  exact ⟨rfl, rfl⟩
theorem wants_10 (w : World) : Calls Try.prog 18 #[.string ⟨#[76, 79, 79, 80]⟩] w fun e w' => e = .returned (.string (kn (wantK 10))) ∧ w' = w := by
  go_enter Try.func18, Try.ntmps18
  go_wp2
  go_returns
  exact ⟨rfl, rfl⟩
theorem wants_11 (w : World) : Calls Try.prog 18 #[.string ⟨#[43, 76, 79, 79, 80]⟩] w fun e w' => e = .returned (.string (kn (wantK 11))) ∧ w' = w := by
  go_enter Try.func18, Try.ntmps18
  go_wp2
  go_returns
  exact ⟨rfl, rfl⟩
theorem wants_12 (w : World) : Calls Try.prog 18 #[.string ⟨#[76, 69, 65, 86, 69]⟩] w fun e w' => e = .returned (.string (kn (wantK 12))) ∧ w' = w := by
  go_enter Try.func18, Try.ntmps18
  go_wp2
  go_returns
  exact ⟨rfl, rfl⟩
theorem wants_13 (w : World) : Calls Try.prog 18 #[.string ⟨#[67, 65, 83, 69]⟩] w fun e w' => e = .returned (.string (kn (wantK 13))) ∧ w' = w := by
  go_enter Try.func18, Try.ntmps18
  go_wp2
  go_returns
  exact ⟨rfl, rfl⟩
theorem wants_14 (w : World) : Calls Try.prog 18 #[.string ⟨#[79, 70]⟩] w fun e w' => e = .returned (.string (kn (wantK 14))) ∧ w' = w := by
  go_enter Try.func18, Try.ntmps18
  go_wp2
  go_returns
  exact ⟨rfl, rfl⟩
theorem wants_15 (w : World) : Calls Try.prog 18 #[.string ⟨#[69, 78, 68, 79, 70]⟩] w fun e w' => e = .returned (.string (kn (wantK 15))) ∧ w' = w := by
  go_enter Try.func18, Try.ntmps18
  go_wp2
  go_returns
  exact ⟨rfl, rfl⟩
theorem wants_16 (w : World) : Calls Try.prog 18 #[.string ⟨#[69, 78, 68, 67, 65, 83, 69]⟩] w fun e w' => e = .returned (.string (kn (wantK 16))) ∧ w' = w := by
  go_enter Try.func18, Try.ntmps18
  go_wp2
  go_returns
  exact ⟨rfl, rfl⟩
theorem wants_any (r : Nat) (hr : r < 17) (w : World) : Calls Try.prog 18 #[.string (nm r)] w fun e w' => e = .returned (.string (kn (wantK r))) ∧ w' = w := by
  match r, hr with
  | 0, _ => exact wants_0 w
  | 1, _ => exact wants_1 w
  | 2, _ => exact wants_2 w
  | 3, _ => exact wants_3 w
  | 4, _ => exact wants_4 w
  | 5, _ => exact wants_5 w
  | 6, _ => exact wants_6 w
  | 7, _ => exact wants_7 w
  | 8, _ => exact wants_8 w
  | 9, _ => exact wants_9 w
  | 10, _ => exact wants_10 w
  | 11, _ => exact wants_11 w
  | 12, _ => exact wants_12 w
  | 13, _ => exact wants_13 w
  | 14, _ => exact wants_14 w
  | 15, _ => exact wants_15 w
  | 16, _ => exact wants_16 w
  | k + 17, h => exact absurd h (by omega)
set_option maxRecDepth 100000 in
theorem brn_8 (w : World) (b : Nat) : Calls Try.prog 19 #[.pointer (some ⟨b, 0, none⟩), .string ⟨#[68, 79]⟩] w fun e w' => e = .returned (.int .i64 0) ∧ w' = w := by
  go_enter Try.func19, Try.ntmps19
  go_wp2
  go_returns
  exact ⟨rfl, rfl⟩
set_option maxRecDepth 100000 in
theorem brn_9 (w : World) (b : Nat) : Calls Try.prog 19 #[.pointer (some ⟨b, 0, none⟩), .string ⟨#[63, 68, 79]⟩] w fun e w' => e = .returned (.int .i64 0) ∧ w' = w := by
  go_enter Try.func19, Try.ntmps19
  go_wp2
  go_returns
  exact ⟨rfl, rfl⟩
set_option maxRecDepth 100000 in
theorem brn_10 (w : World) (b : Nat) : Calls Try.prog 19 #[.pointer (some ⟨b, 0, none⟩), .string ⟨#[76, 79, 79, 80]⟩] w fun e w' => e = .returned (.int .i64 0) ∧ w' = w := by
  go_enter Try.func19, Try.ntmps19
  go_wp2
  go_returns
  exact ⟨rfl, rfl⟩
set_option maxRecDepth 100000 in
theorem brn_11 (w : World) (b : Nat) : Calls Try.prog 19 #[.pointer (some ⟨b, 0, none⟩), .string ⟨#[43, 76, 79, 79, 80]⟩] w fun e w' => e = .returned (.int .i64 0) ∧ w' = w := by
  go_enter Try.func19, Try.ntmps19
  go_wp2
  go_returns
  exact ⟨rfl, rfl⟩
set_option maxRecDepth 100000 in
theorem brn_12 (w : World) (b : Nat) : Calls Try.prog 19 #[.pointer (some ⟨b, 0, none⟩), .string ⟨#[76, 69, 65, 86, 69]⟩] w fun e w' => e = .returned (.int .i64 0) ∧ w' = w := by
  go_enter Try.func19, Try.ntmps19
  go_wp2
  go_returns
  exact ⟨rfl, rfl⟩
set_option maxRecDepth 100000 in
theorem brn_13 (w : World) (b : Nat) : Calls Try.prog 19 #[.pointer (some ⟨b, 0, none⟩), .string ⟨#[67, 65, 83, 69]⟩] w fun e w' => e = .returned (.int .i64 0) ∧ w' = w := by
  go_enter Try.func19, Try.ntmps19
  go_wp2
  go_returns
  exact ⟨rfl, rfl⟩
set_option maxRecDepth 100000 in
theorem brn_14 (w : World) (b : Nat) : Calls Try.prog 19 #[.pointer (some ⟨b, 0, none⟩), .string ⟨#[79, 70]⟩] w fun e w' => e = .returned (.int .i64 0) ∧ w' = w := by
  go_enter Try.func19, Try.ntmps19
  go_wp2
  go_returns
  exact ⟨rfl, rfl⟩
set_option maxRecDepth 100000 in
theorem brn_15 (w : World) (b : Nat) : Calls Try.prog 19 #[.pointer (some ⟨b, 0, none⟩), .string ⟨#[69, 78, 68, 79, 70]⟩] w fun e w' => e = .returned (.int .i64 0) ∧ w' = w := by
  go_enter Try.func19, Try.ntmps19
  go_wp2
  go_returns
  exact ⟨rfl, rfl⟩
set_option maxRecDepth 100000 in
theorem brn_16 (w : World) (b : Nat) : Calls Try.prog 19 #[.pointer (some ⟨b, 0, none⟩), .string ⟨#[69, 78, 68, 67, 65, 83, 69]⟩] w fun e w' => e = .returned (.int .i64 0) ∧ w' = w := by
  go_enter Try.func19, Try.ntmps19
  go_wp2
  go_returns
  exact ⟨rfl, rfl⟩
theorem brn_any (r : Nat) (hr : 8 ≤ r) (hr2 : r < 17) (w : World) (b : Nat) : Calls Try.prog 19 #[.pointer (some ⟨b, 0, none⟩), .string (nm r)] w fun e w' => e = .returned (.int .i64 0) ∧ w' = w := by
  obtain ⟨k, rfl⟩ : ∃ k, r = k + 8 := ⟨r - 8, by omega⟩
  have hk : k < 9 := by omega
  clear hr hr2
  match k, hk with
  | 0, _ => exact brn_8 w b
  | 1, _ => exact brn_9 w b
  | 2, _ => exact brn_10 w b
  | 3, _ => exact brn_11 w b
  | 4, _ => exact brn_12 w b
  | 5, _ => exact brn_13 w b
  | 6, _ => exact brn_14 w b
  | 7, _ => exact brn_15 w b
  | 8, _ => exact brn_16 w b
  | k + 9, h => exact absurd h (by omega)
/-! the plain law -/
def th0 : Th := ⟨0, 0, 0, []⟩
/-- the topmost thing -/
def topT (L : List Th) : Th := L.getLastD th0
def nxt (y : Int) : Int := IntKind.i64.wrap (y + 8)
/-- what a word has done ahead of the push or the pop: how it ends (0: not, 1: opens, 2: stays, 3: ends, 4: closes), what is laid, where the code stands behind it, what is open, what is opened -/
structure Ef where
  how : Nat
  acts : List Ac
  bh : Int
  L : List Th
  nx : Th
def eff (L : List Th) (r : Nat) (here : Int) : Ef :=
  match r with
  | 0 => ⟨1, [⟨false, here, 5, 0⟩], nxt here, L, ⟨1, here, 0, []⟩⟩
  | 1 => ⟨2, [⟨false, here, 4, 0⟩, ⟨true, (topT L).at_, 0, nxt here⟩], nxt here, L.dropLast ++ [⟨1, here, 0, []⟩], th0⟩
  | 2 => ⟨4, [⟨true, (topT L).at_, 0, here⟩], here, L, th0⟩
  | 3 => ⟨1, [], here, L, ⟨2, here, 0, []⟩⟩
  | 4 => ⟨4, [⟨false, here, 4, (topT L).at_⟩], nxt here, L, th0⟩
  | 5 => ⟨4, [⟨false, here, 5, (topT L).at_⟩], nxt here, L, th0⟩
  | 6 => ⟨2, [⟨false, here, 5, 0⟩], nxt here, L.dropLast ++ [⟨3, (topT L).at_, here, []⟩], th0⟩
  | 7 => ⟨4, [⟨false, here, 4, (topT L).at_⟩, ⟨true, (topT L).tgt, 0, nxt here⟩], nxt here, L, th0⟩
  | 8 => ⟨1, [⟨false, here, 6, 0⟩], nxt here, L, ⟨4, nxt here, 0, []⟩⟩
  | 9 => ⟨1, [⟨false, here, 7, 0⟩], nxt here, L, ⟨4, nxt here, 0, [here]⟩⟩
  | 10 => ⟨3, [⟨false, here, 8, (topT L).at_⟩], nxt here, L, th0⟩
  | 11 => ⟨3, [⟨false, here, 9, (topT L).at_⟩], nxt here, L, th0⟩
  | 12 =>
    match doFrom L L.length with
    | none => ⟨0, [], here, L, th0⟩
    | some j => ⟨2, [⟨false, here, 10, 0⟩, ⟨false, nxt here, 4, 0⟩], nxt (nxt here), L.set j ((L.getD j th0).plus (nxt here)), th0⟩
  | 13 => ⟨1, [], here, L, ⟨5, 0, 0, []⟩⟩
  | 14 => ⟨1, [⟨false, here, 24, 0⟩, ⟨false, nxt here, 58, 0⟩, ⟨false, nxt (nxt here), 5, 0⟩, ⟨false, nxt (nxt (nxt here)), 22, 0⟩], nxt (nxt (nxt (nxt here))), L, ⟨6, nxt (nxt here), 0, []⟩⟩
  | 15 => ⟨4, [⟨false, here, 4, 0⟩, ⟨true, (topT L).at_, 0, nxt here⟩], nxt here, L.set (L.length - 2) ((L.getD (L.length - 2) th0).plus here), th0⟩
  | 16 => ⟨3, [⟨false, here, 22, 0⟩], nxt here, L, th0⟩
  | _ => ⟨0, [], here, L, th0⟩
/-- a word: a fault, what is to be done, what is open then -/
structure St where
  f : Int
  acts : List Ac
  L : List Th
def step (L : List Th) (r : Nat) (here : Int) : St :=
  if 17 ≤ r then ⟨8, [], L⟩
  else if wantK r ≠ 0 ∧ (topT L).k ≠ wantK r then ⟨10, [], L⟩
  else match (eff L r here).how with
  | 1 => if L.length = 16 then ⟨20, [], L⟩ else ⟨0, (eff L r here).acts, L ++ [(eff L r here).nx]⟩
  | 2 => ⟨0, (eff L r here).acts, (eff L r here).L⟩
  | 3 => ⟨0, (eff L r here).acts ++ pas (topT L).more (eff L r here).bh, L.dropLast⟩
  | 4 => ⟨0, (eff L r here).acts, (eff L r here).L.dropLast⟩
  | _ => ⟨10, [], L⟩
end Go.Proofs.Ytmfffaocmboelaa
