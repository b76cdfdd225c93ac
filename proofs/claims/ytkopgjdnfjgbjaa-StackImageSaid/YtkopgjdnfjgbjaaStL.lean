import Derived.Test.YtkopgjdnfjgbjaaStI
import Derived.Test.YtkopgjdnfjgbjaaStJ
namespace Go.Proofs.Ytkopgjdnfjgbjaa
open Go.RowKit
set_option linter.unusedVariables false
set_option linter.unusedSimpArgs false
/-! three stacks over one image, as law 4 has them: one packed fact, and each operation's contract over it -/
/-- where all lies -/
structure Ads where
  wp : Nat
  ip : Nat
  b : Nat
  s0 : Nat
  s1 : Nat
  s2 : Nat
  r0 : Nat
  r1 : Nat
  r2 : Nat
  g4 : Nat
  g5 : Nat
def Ads.s (a : Ads) : Nat → Nat
  | 0 => a.s0
  | 1 => a.s1
  | _ => a.s2
def Ads.r (a : Ads) : Nat → Nat
  | 0 => a.r0
  | 1 => a.r1
  | _ => a.r2
/-- a stack's region, its faults -/
def rgOf : Nat → Nat
  | 1 => 5
  | _ => 4
def unOf : Nat → Int
  | 1 => 3
  | _ => 1
def ovOf : Nat → Int
  | 1 => 4
  | _ => 2
def Ads.g (a : Ads) : Nat → Nat
  | 1 => a.g5
  | _ => a.g4
theorem rgOf_is (k : Nat) : rgOf k = 4 ∨ rgOf k = 5 := by
  unfold rgOf
  split
  · exact .inr rfl
  · exact .inl rfl
theorem unOf_ne (k : Nat) : unOf k ≠ 0 := by
  unfold unOf
  split <;> decide
theorem ovOf_ne (k : Nat) : ovOf k ≠ 0 := by
  unfold ovOf
  split <;> decide
def wldV (a : Ads) : Array Value := #[.pointer (some ⟨a.ip, 0, none⟩), .pointer (some ⟨a.s0, 0, none⟩), .pointer (some ⟨a.s1, 0, none⟩), .pointer (some ⟨a.s2, 0, none⟩), .pointer (some ⟨a.r0, 0, none⟩), .pointer (some ⟨a.r1, 0, none⟩), .pointer (some ⟨a.r2, 0, none⟩)]
def upd (d : Nat → Nat) (k v : Nat) : Nat → Nat := fun i => if i = k then v else d i
theorem upd_same (d : Nat → Nat) (k v : Nat) : upd d k v k = v := by simp [upd]
theorem upd_other (d : Nat → Nat) (k v i : Nat) (h : i ≠ k) : upd d k v i = d i := by simp [upd, h]
/-- the image and the stacks -/
structure Wd (w0 W : World) (a : Ads) (L : Lay) (B : List UInt8) (d : Nat → Nat) : Prop where
  wl : Bk W a.wp 46 (wldV a)
  im : Im W a.ip a.b L B false false
  st : ∀ k, k < 3 → Stk W (a.s k) a.ip (L.beg (rgOf k)) (roomOf L (rgOf k)) (d k) (unOf k) (ovOf k)
  ne : ∀ i j, i < 3 → j < 3 → i ≠ j → a.s i ≠ a.s j
  low : w0.heap.size ≤ a.wp ∧ w0.heap.size ≤ a.ip ∧ w0.heap.size ≤ a.b
  los : ∀ k, k < 3 → w0.heap.size ≤ a.s k
  be : Below w0.heap.size w0 W
section
variable {w0 W W' : World} {a : Ads} {L : Lay} {B B' : List UInt8} {d : Nat → Nat}
theorem Wd.bel (h : Wd w0 W a L B d) (hb : Below W.heap.size W W') : Wd w0 W' a L B d :=
  ⟨h.wl.kept hb h.wl.lt, h.im.bel hb, fun k hk => (h.st k hk).bel hb, h.ne, h.low, h.los, h.be.trans (hb.mono h.be.size)⟩
theorem Wd.draws (h : Wd w0 W a L B d) (n : Nat) : Wd w0 (W.drewN n) a L B d := h.bel ⟨rfl, rfl, rfl, Nat.le_refl _, fun _ _ => rfl⟩
theorem Wd.reg (h : Wd w0 W a L B d) (k : Nat) : Reg L (rgOf k) (L.beg (rgOf k)) (roomOf L (rgOf k)) := reg_lies h.im.ok _ (rgOf_is k)
theorem Wd.nb (h : Wd w0 W a L B d) (k : Nat) (hk : k < 3) : a.s k ≠ a.ip ∧ a.s k ≠ a.b := h.im.notStk (h.st k hk)
theorem Wd.nw (h : Wd w0 W a L B d) (k : Nat) (hk : k < 3) : a.s k ≠ a.wp := (h.st k hk).st.ne h.wl (by decide)
theorem Wd.wb (h : Wd w0 W a L B d) : a.wp ≠ a.b ∧ a.wp ≠ a.ip := ⟨h.wl.ne h.im.by_ (by decide), h.wl.ne h.im.st (by decide)⟩
/-- one stack, and the bytes, have turned -/
theorem Wd.turned (h : Wd w0 W a L B d) (k : Nat) (hk : k < 3) (d1 : Nat) (hI : Im W' a.ip a.b L B' false false) (hS : Stk W' (a.s k) a.ip (L.beg (rgOf k)) (roomOf L (rgOf k)) d1 (unOf k) (ovOf k)) (hD : Duo (a.s k) a.b W W') : Wd w0 W' a L B' (upd d k d1) := by
  refine ⟨hD.bk h.wl (h.nw k hk).symm h.wb.1, hI, fun i hi => ?_, h.ne, h.low, h.los, h.be.trans (hD.below (h.los k hk) h.low.2.2 h.be.size)⟩
  by_cases e : i = k
  · subst e
    rw [upd_same]
    exact hS
  · rw [upd_other _ _ _ _ e]
    exact ⟨hD.bk (h.st i hi).st (h.ne i k hi hk e) (h.nb i hi).2, (h.st i hi).dp⟩
/-- the bytes have turned -/
theorem Wd.bytes (h : Wd w0 W a L B d) (hI : Im W' a.ip a.b L B' false false) (hO : Only a.b W W') : Wd w0 W' a L B' d :=
  ⟨hO.bk h.wl h.wb.1, hI, fun i hi => ⟨hO.bk (h.st i hi).st (h.nb i hi).2, (h.st i hi).dp⟩, h.ne, h.low, h.los, h.be.trans (hO.below h.low.2.2 h.be.size)⟩
/-- one stack's depth has turned -/
theorem Wd.deep (h : Wd w0 W a L B d) (k : Nat) (hk : k < 3) (d1 : Nat) (hS : Stk W' (a.s k) a.ip (L.beg (rgOf k)) (roomOf L (rgOf k)) d1 (unOf k) (ovOf k)) (hO : Only (a.s k) W W') : Wd w0 W' a L B (upd d k d1) :=
  h.turned k hk d1 (h.im.only hO (h.nb k hk).1.symm (h.nb k hk).2.symm) hS (Duo.one hO)
/-! the operations -/
theorem wd_push_no (h : Wd w0 W a L B d) (k : Nat) (hk : k < 3) (A : Option Addr) (n c : Nat) (hn : roomOf L (rgOf k) - d k < n) (hm : (n : Int) ≤ 140737488355328) :
    Calls Try.prog 18 #[.pointer (some ⟨a.s k, 0, none⟩), .slice A n c] W fun e w' => e = .returned (.int .i64 (ovOf k)) ∧ Wd w0 w' a L B d ∧ Below W.heap.size W w' := by
  have hev := (h.reg k).even h.im.ok
  exact (push_no (h.st k hk) (by omega) A n c hn hm).mono fun e w' g => ⟨g.1, h.bel g.2, g.2⟩
theorem wd_push (h : Wd w0 W a L B d) (k : Nat) (hk : k < 3) (A : Option Addr) (c sb so : Nat) (vs : List Int) (hn : vs.length ≤ roomOf L (rgOf k) - d k) (hv : Rowd W A sb so vs) :
    Calls Try.prog 18 #[.pointer (some ⟨a.s k, 0, none⟩), .slice A vs.length c] W fun e w' => e = .returned (.int .i64 0) ∧ Wd w0 w' a L (laid B (L.beg (rgOf k)) (d k) vs) (upd d k (d k + vs.length)) ∧ Duo (a.s k) a.b W w' :=
  (push_yes h.im (h.st k hk) (h.reg k) A c sb so vs hn hv).mono fun e w' g => ⟨g.1, h.turned k hk _ g.2.1 g.2.2.1 g.2.2.2, g.2.2.2⟩
theorem wd_peek_no (h : Wd w0 W a L B d) (k : Nat) (hk : k < 3) (n : Int) (hn : hasB n (d k) = false) : Calls Try.prog 29 #[.pointer (some ⟨a.s k, 0, none⟩), .int .i64 n] W fun e w' => e = .returned (.tuple #[.int .i64 0, .int .i64 (unOf k)]) ∧ Wd w0 w' a L B d ∧ Below W.heap.size W w' :=
  (peek_no (h.st k hk) n hn).mono fun e w' g => ⟨g.1, h.bel g.2, g.2⟩
theorem wd_peek (h : Wd w0 W a L B d) (k : Nat) (hk : k < 3) (n i : Nat) (hn : n < d k) (hx : d k - 1 - n = i) (v : Int) (hv : cel B (L.beg (rgOf k) + 8 * i) = v) : Calls Try.prog 29 #[.pointer (some ⟨a.s k, 0, none⟩), .int .i64 n] W fun e w' => e = .returned (.tuple #[.int .i64 v, .int .i64 0]) ∧ Wd w0 w' a L B d ∧ Below W.heap.size W w' :=
  (peek_yes h.im (h.st k hk) (h.reg k) n i hn hx v hv).mono fun e w' g => ⟨g.1, h.bel g.2, g.2⟩
theorem wd_pop_no (h : Wd w0 W a L B d) (k : Nat) (hk : k < 3) (hn : d k = 0) : Calls Try.prog 23 #[.pointer (some ⟨a.s k, 0, none⟩)] W fun e w' => e = .returned (.tuple #[.int .i64 0, .int .i64 (unOf k)]) ∧ Wd w0 w' a L B d ∧ Below W.heap.size W w' := by
  have hs := h.st k hk
  rw [hn] at hs
  exact (pop_no hs (unOf_ne k)).mono fun e w' g => ⟨g.1, h.bel g.2, g.2⟩
theorem wd_pop (h : Wd w0 W a L B d) (k : Nat) (hk : k < 3) (n : Nat) (hn : d k = n + 1) (v : Int) (hv : cel B (L.beg (rgOf k) + 8 * n) = v) : Calls Try.prog 23 #[.pointer (some ⟨a.s k, 0, none⟩)] W fun e w' => e = .returned (.tuple #[.int .i64 v, .int .i64 0]) ∧ Wd w0 w' a L B (upd d k n) ∧ Only (a.s k) W w' := by
  have hs := h.st k hk
  rw [hn] at hs
  exact (pop_yes h.im hs (h.reg k) v hv).mono fun e w' g => ⟨g.1, h.deep k hk n g.2.1 g.2.2, g.2.2⟩
theorem wd_poke_no (h : Wd w0 W a L B d) (k : Nat) (hk : k < 3) (n v : Int) (hn : hasB n (d k) = false) : Calls Try.prog 22 #[.pointer (some ⟨a.s k, 0, none⟩), .int .i64 n, .int .i64 v] W fun e w' => e = .returned (.int .i64 (unOf k)) ∧ Wd w0 w' a L B d ∧ Below W.heap.size W w' :=
  (poke_no (h.st k hk) n v hn).mono fun e w' g => ⟨g.1, h.bel g.2, g.2⟩
theorem wd_poke (h : Wd w0 W a L B d) (k : Nat) (hk : k < 3) (n i : Nat) (hn : n < d k) (hx : d k - 1 - n = i) (v : Int) : Calls Try.prog 22 #[.pointer (some ⟨a.s k, 0, none⟩), .int .i64 n, .int .i64 v] W fun e w' => e = .returned (.int .i64 0) ∧ Wd w0 w' a L (laid B (L.beg (rgOf k)) i [v]) d ∧ Only a.b W w' :=
  (poke_yes h.im (h.st k hk) (h.reg k) n i hn hx v).mono fun e w' g => ⟨g.1, h.bytes g.2.1 g.2.2, g.2.2⟩
theorem wd_roll_no (h : Wd w0 W a L B d) (k : Nat) (hk : k < 3) (n : Int) (hn : hasB n (d k) = false) : Calls Try.prog 20 #[.pointer (some ⟨a.s k, 0, none⟩), .int .i64 n] W fun e w' => e = .returned (.int .i64 (unOf k)) ∧ Wd w0 w' a L B d ∧ Below W.heap.size W w' :=
  (roll_no (h.st k hk) n hn).mono fun e w' g => ⟨g.1, h.bel g.2, g.2⟩
theorem wd_roll (h : Wd w0 W a L B d) (k : Nat) (hk : k < 3) (n i : Nat) (hn : n < d k) (hx : d k - 1 - n = i) : Calls Try.prog 20 #[.pointer (some ⟨a.s k, 0, none⟩), .int .i64 n] W fun e w' => e = .returned (.int .i64 0) ∧ Wd w0 w' a L (laid B (L.beg (rgOf k)) i (((List.range (d k - 1 - i)).map fun j => cel B (L.beg (rgOf k) + 8 * (i + 1 + j))) ++ [cel B (L.beg (rgOf k) + 8 * i)])) d ∧ Only a.b W w' := by
  have hev := (h.reg k).even h.im.ok
  have hd := (h.st k hk).dp
  have hl := h.im.len
  refine (roll_yes h.im (h.st k hk) (h.reg k) n i hn hx _ rfl).mono fun e w' g => ?_
  rw [roll_laid _ B i (d k) (by omega) (by omega)] at g
  exact ⟨g.1, h.bytes g.2.1 g.2.2, g.2.2⟩
theorem wd_reset (h : Wd w0 W a L B d) (k : Nat) (hk : k < 3) : Calls Try.prog 40 #[.pointer (some ⟨a.s k, 0, none⟩)] W fun e w' => e = .returned (.tuple #[]) ∧ Wd w0 w' a L B (upd d k 0) ∧ Only (a.s k) W w' :=
  (reset_any (h.st k hk)).mono fun e w' g => ⟨g.1, h.deep k hk 0 g.2.1 g.2.2, g.2.2⟩
theorem wd_cut_no (h : Wd w0 W a L B d) (k : Nat) (hk : k < 3) (n : Int) (hn : n < 0 ∨ (roomOf L (rgOf k) : Int) < n) : Calls Try.prog 26 #[.pointer (some ⟨a.s k, 0, none⟩), .int .i64 n] W fun e w' => e = .returned (.bool false) ∧ w' = W :=
  cut_no (h.st k hk) n hn
theorem wd_cut (h : Wd w0 W a L B d) (k : Nat) (hk : k < 3) (n : Nat) (hn : n ≤ roomOf L (rgOf k)) : Calls Try.prog 26 #[.pointer (some ⟨a.s k, 0, none⟩), .int .i64 n] W fun e w' => e = .returned (.bool true) ∧ Wd w0 w' a L (laid B (L.beg (rgOf k)) (d k) (List.replicate (n - d k) 0)) (upd d k n) ∧ Duo (a.s k) a.b W w' := by
  refine (cut_yes h.im (h.st k hk) (h.reg k) n hn).mono fun e w' g => ?_
  rw [blank_laid] at g
  exact ⟨g.1, h.turned k hk _ g.2.1 g.2.2.1 g.2.2.2, g.2.2.2⟩
theorem wd_cells (h : Wd w0 W a L B d) (k : Nat) (hk : k < 3) : Calls Try.prog 16 #[.pointer (some ⟨a.s k, 0, none⟩)] W fun e w' => ∃ g, e = .returned (.slice (some ⟨g, 0, none⟩) (d k) (d k)) ∧ W.heap.size ≤ g ∧ Bk w' g 3 (i64s (cels B (L.beg (rgOf k)) (d k))).toArray ∧ Wd w0 w' a L B d ∧ Below W.heap.size W w' :=
  (cells_any h.im (h.st k hk) (h.reg k)).mono fun e w' ⟨g, h1, h2, h3, h4⟩ => ⟨g, h1, h2, h3, h.bel h4, h4⟩
theorem wd_part (h : Wd w0 W a L B d) (r : Int) : Calls Try.prog 11 #[.pointer (some ⟨a.ip, 0, none⟩), .int .i64 r] W fun e w' => e = .returned (.string ⟨(partL L B r).toArray⟩) ∧ Wd w0 w' a L B d ∧ ∃ n, w' = W.drewN n :=
  (Part_any h.im r).mono fun e w' ⟨h1, n, h2⟩ => ⟨h1, by rw [h2]; exact h.draws n, n, h2⟩
/-- a row of ints that the call made -/
theorem rowd_of {W : World} {g : Nat} {xs : List Int} (h : Bk W g 3 (i64s xs).toArray) : Rowd W (some ⟨g, 0, none⟩) g 0 xs := by
  intro i hi
  refine ⟨rfl, ?_⟩
  rw [h.cell]
  simp [i64s, List.getElem?_eq_getElem hi]
theorem Rowd.bel {W W' : World} {A : Option Addr} {sb so : Nat} {xs : List Int} (h : Rowd W A sb so xs) {K : Nat} (hb : Below K W W') (hs : 0 < xs.length → sb < K) : Rowd W' A sb so xs := fun i hi => ⟨(h i hi).1, (hb.cell (p := ⟨sb, so + i, none⟩) (hs (by omega))).trans (h i hi).2⟩
end
end Go.Proofs.Ytkopgjdnfjgbjaa
