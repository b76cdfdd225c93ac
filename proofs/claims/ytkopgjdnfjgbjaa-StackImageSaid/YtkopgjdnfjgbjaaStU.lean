import Derived.Test.YtkopgjdnfjgbjaaStT
namespace Go.Proofs.Ytkopgjdnfjgbjaa
open Go.RowKit
set_option linter.unusedVariables false
set_option linter.unusedSimpArgs false
/-! each operation, done with the stack and with the document's: the same answer, the same cells -/
/-- a contract of the stack's operation that leaves the document's as they are -/
def SC (w0 : World) (a : Ads) (L : Lay) (B : List UInt8) (d : Nat → Nat) (fn : FuncId) (args : Array Value) (res : Value) (B' : List UInt8) (d' : Nat → Nat) : Prop :=
  ∀ W1 xs1 dr, Wd w0 W1 a L B d → Rs w0 W1 a xs1 dr → Calls Try.prog fn args W1 fun e w' => e = .returned res ∧ Hid (Wd w0 w' a L B' d') ∧ Hid (Rs w0 w' a xs1 dr) ∧ Hid (∀ g vs, Bk W1 g 65 vs → Bk w' g 65 vs)
/-- .. of the document's operation that leaves the stacks as they are -/
def RC (w0 : World) (a : Ads) (L : Lay) (xs : Nat → List Int) (d : Nat → Nat) (fn : FuncId) (args : Array Value) (res : Value) (xs' : Nat → List Int) (d' : Nat → Nat) : Prop :=
  ∀ W1 B1 ds, Wd w0 W1 a L B1 ds → Rs w0 W1 a xs d → Calls Try.prog fn args W1 fun e w' => e = .returned res ∧ Hid (Wd w0 w' a L B1 ds) ∧ Hid (Rs w0 w' a xs' d') ∧ Hid (∀ g vs, Bk W1 g 65 vs → Bk w' g 65 vs)
section
variable {w0 W : World} {a : Ads} {L : Lay} {B : List UInt8} {d : Nat → Nat}
theorem SC.of {fn : FuncId} {args : Array Value} {res : Value} {B' : List UInt8} {d' : Nat → Nat} (k : Nat) (hk : k < 3) (h : ∀ W1, Wd w0 W1 a L B d → Calls Try.prog fn args W1 fun e w' => e = .returned res ∧ Wd w0 w' a L B' d' ∧ Duo (a.s k) a.b W1 w') : SC w0 a L B d fn args res B' d' :=
  fun W1 xs1 dr hW hR => (h W1 hW).mono fun e w' g => ⟨g.1, Lib.hid g.2.1, Lib.hid (hR.duo hW k hk g.2.2), Lib.hid fun b vs hB => g.2.2.bk hB (hB.ne (hW.st k hk).st (by decide)) (hB.ne hW.im.by_ (by decide))⟩
theorem RC.of {fn : FuncId} {args : Array Value} {res : Value} {xs xs' : Nat → List Int} {d' : Nat → Nat} (k : Nat) (hk : k < 3) (h : ∀ W1, Rs w0 W1 a xs d → Calls Try.prog fn args W1 fun e w' => e = .returned res ∧ Rs w0 w' a xs' d' ∧ Duo (a.r k) (a.g k) W1 w') : RC w0 a L xs d fn args res xs' d' :=
  fun W1 B1 ds hW hR => (h W1 hR).mono fun e w' g => ⟨g.1, Lib.hid (hW.ref hR k hk g.2.2), Lib.hid g.2.1, Lib.hid fun b vs hB => g.2.2.bk hB (hB.ne (hR.q k hk).st (by decide)) (hB.ne (hR.q k hk).row (by decide))⟩
theorem Duo.same (g h : Nat) {W W' : World} (e : W' = W) : Duo g h W W' := by subst e; exact Duo.refl g h W'
theorem Duo.drew (g h : Nat) {W W' : World} (e : ∃ n, W' = W.drewN n) : Duo g h W W' := by obtain ⟨n, rfl⟩ := e; exact Duo.bel ⟨rfl, rfl, rfl, Nat.le_refl _, fun _ _ => rfl⟩
/-- .. of the document's operation, in terms of its own stack -/
theorem RC.own {fn : FuncId} {args : Array Value} {res : Value} {xs : Nat → List Int} (k : Nat) (hk : k < 3) (ys : List Int) (d1 : Nat) (hl : ys.length = (xs (rgOf k)).length) (h : ∀ W1, Rf W1 (a.r k) (a.g k) (xs (rgOf k)) (d k) (unOf k) (ovOf k) → Calls Try.prog fn args W1 fun e w' => e = .returned res ∧ Rf w' (a.r k) (a.g k) ys d1 (unOf k) (ovOf k) ∧ Duo (a.r k) (a.g k) W1 w') : RC w0 a L xs d fn args res (updX xs (rgOf k) ys) (upd d k d1) :=
  RC.of k hk fun W1 hR => (h W1 (hR.q k hk)).mono fun e w' g => ⟨g.1, hR.turned k hk ys d1 hl g.2.1 g.2.2, g.2.2⟩
theorem RC.none {fn : FuncId} {args : Array Value} {res : Value} {xs : Nat → List Int} (k : Nat) (hk : k < 3) (h : ∀ W1, Rf W1 (a.r k) (a.g k) (xs (rgOf k)) (d k) (unOf k) (ovOf k) → Calls Try.prog fn args W1 fun e w' => e = .returned res ∧ ∃ n, w' = W1.drewN n) : RC w0 a L xs d fn args res xs d :=
  RC.of k hk fun W1 hR => (h W1 (hR.q k hk)).mono fun e w' g => ⟨g.1, by obtain ⟨n, hn⟩ := g.2; rw [hn]; exact hR.draws n, Duo.drew _ _ g.2⟩
/-- what a pair of operations leaves -/
def Ends (w0 : World) (a : Ads) (L : Lay) (B' : List UInt8) (d' : Nat → Nat) (xs' : Nat → List Int) : Prop := ∀ W', Wd w0 W' a L B' d' → Rs w0 W' a xs' d' → Pl w0 W' a L B' d'
theorem Ends.none (w0 : World) (a : Ads) (L : Lay) (B : List UInt8) (d : Nat → Nat) : Ends w0 a L B d (cellsOf L B) := fun _ h1 h2 => ⟨h1, h2⟩
theorem Ends.laid (h : Pl w0 W a L B d) (k i d1 : Nat) (vs : List Int) (hi : i + vs.length ≤ roomOf L (rgOf k)) (hv : ∀ v ∈ vs, isI v) : Ends w0 a L (Go.Proofs.Ytkopgjdnfjgbjaa.laid B (L.beg (rgOf k)) i vs) (upd d k d1) (updX (cellsOf L B) (rgOf k) (over (cellsOf L B (rgOf k)) i vs)) := fun _ h1 h2 => h.laid k i d1 vs hi hv h1 h2
theorem Pl.room (h : Pl w0 W a L B d) (k : Nat) (hk : k < 3) : d k ≤ roomOf L (rgOf k) ∧ roomOf L (rgOf k) ≤ 17920 ∧ (cellsOf L B (rgOf k)).length = roomOf L (rgOf k) := by
  have hev := (h.wd.reg k).even h.wd.im.ok
  exact ⟨(h.wd.st k hk).dp, by omega, cellsOf_len _ _ _⟩
theorem both_peek (h : Pl w0 W a L B d) (k : Nat) (hk : k < 3) (n : Int) : ∃ res : Int × Int, SC w0 a L B d 29 #[.pointer (some ⟨a.s k, 0, none⟩), .int .i64 n] (.tuple #[.int .i64 res.1, .int .i64 res.2]) B d ∧ RC w0 a L (cellsOf L B) d 37 #[.pointer (some ⟨a.r k, 0, none⟩), .int .i64 n] (.tuple #[.int .i64 res.1, .int .i64 res.2]) (cellsOf L B) d := by
  obtain ⟨hd, hm, hl⟩ := h.room k hk
  cases hb : hasB n (d k)
  · exact ⟨(0, unOf k), SC.of k hk fun W1 hW => (wd_peek_no hW k hk n hb).mono fun e w' g => ⟨g.1, g.2.1, Duo.bel g.2.2⟩, RC.none k hk fun W1 hR => rpeek_no hR n hb⟩
  · obtain ⟨i, rfl, hi⟩ := hasB_true hb
    refine ⟨(cel B (L.beg (rgOf k) + 8 * (d k - 1 - i)), 0), SC.of k hk fun W1 hW => (wd_peek hW k hk i (d k - 1 - i) hi rfl _ rfl).mono fun e w' g => ⟨g.1, g.2.1, Duo.bel g.2.2⟩, RC.none k hk fun W1 hR => (rpeek_yes hR i (d k - 1 - i) hi rfl (by omega) (by omega) _ (cellsOf_at L B _ _ (by omega))).mono fun e w' g => ⟨g.1, 0, g.2⟩⟩
theorem both_pop (h : Pl w0 W a L B d) (k : Nat) (hk : k < 3) : ∃ (res : Int × Int) (d' : Nat → Nat), SC w0 a L B d 23 #[.pointer (some ⟨a.s k, 0, none⟩)] (.tuple #[.int .i64 res.1, .int .i64 res.2]) B d' ∧ RC w0 a L (cellsOf L B) d 36 #[.pointer (some ⟨a.r k, 0, none⟩)] (.tuple #[.int .i64 res.1, .int .i64 res.2]) (cellsOf L B) d' := by
  obtain ⟨hd, hm, hl⟩ := h.room k hk
  by_cases h0 : d k = 0
  · exact ⟨(0, unOf k), d, SC.of k hk fun W1 hW => (wd_pop_no hW k hk h0).mono fun e w' g => ⟨g.1, g.2.1, Duo.bel g.2.2⟩, RC.none k hk fun W1 hR => rpop_no (by rw [← h0]; exact hR)⟩
  · obtain ⟨n, hn⟩ : ∃ n, d k = n + 1 := ⟨d k - 1, by omega⟩
    refine ⟨(cel B (L.beg (rgOf k) + 8 * n), 0), upd d k n, SC.of k hk fun W1 hW => (wd_pop hW k hk n hn _ rfl).mono fun e w' g => ⟨g.1, g.2.1, Duo.one g.2.2⟩, ?_⟩
    have := RC.own (w0 := w0) (L := L) (xs := cellsOf L B) (d := d) (fn := 36) (args := #[.pointer (some ⟨a.r k, 0, none⟩)]) (res := .tuple #[.int .i64 (cel B (L.beg (rgOf k) + 8 * n)), .int .i64 0]) k hk (cellsOf L B (rgOf k)) n rfl fun W1 hR => (rpop_yes (by rw [← hn]; exact hR) (by omega) (by omega) _ (cellsOf_at L B _ _ (by omega))).mono fun e w' g => ⟨g.1, g.2.1, Duo.one g.2.2⟩
    rw [updX_id] at this
    exact this
theorem both_poke (h : Pl w0 W a L B d) (k : Nat) (hk : k < 3) (n v : Int) (hv : isI v) : ∃ (res : Int) (B' : List UInt8) (d' : Nat → Nat) (xs' : Nat → List Int), SC w0 a L B d 22 #[.pointer (some ⟨a.s k, 0, none⟩), .int .i64 n, .int .i64 v] (.int .i64 res) B' d' ∧ RC w0 a L (cellsOf L B) d 38 #[.pointer (some ⟨a.r k, 0, none⟩), .int .i64 n, .int .i64 v] (.int .i64 res) xs' d' ∧ Ends w0 a L B' d' xs' := by
  obtain ⟨hd, hm, hl⟩ := h.room k hk
  cases hb : hasB n (d k)
  · exact ⟨unOf k, B, d, cellsOf L B, SC.of k hk fun W1 hW => (wd_poke_no hW k hk n v hb).mono fun e w' g => ⟨g.1, g.2.1, Duo.bel g.2.2⟩, RC.none k hk fun W1 hR => (rpoke_no hR n v hb).mono fun e w' g => ⟨g.1, 0, g.2⟩, Ends.none w0 a L B d⟩
  · obtain ⟨i, rfl, hi⟩ := hasB_true hb
    refine ⟨0, _, upd d k (d k), _, SC.of k hk fun W1 hW => (wd_poke hW k hk i (d k - 1 - i) hi rfl v).mono fun e w' g => ⟨g.1, by rw [upd_id]; exact g.2.1, Duo.two g.2.2⟩, RC.own k hk (over (cellsOf L B (rgOf k)) (d k - 1 - i) [v]) (d k) ?_ fun W1 hR => (rpoke_yes hR i (d k - 1 - i) hi rfl (by omega) (by omega) v).mono fun e w' g => ⟨g.1, ?_, Duo.two g.2.2⟩, Ends.laid h k (d k - 1 - i) (d k) [v] (by simp only [List.length_cons, List.length_nil]; omega) (by simpa using hv)⟩
    · rw [over_len _ _ _ (by simp only [List.length_cons, List.length_nil]; omega)]
    · rw [← over_one _ _ _ (by omega)]; exact g.2.1
theorem both_roll (h : Pl w0 W a L B d) (k : Nat) (hk : k < 3) (n : Int) : ∃ (res : Int) (B' : List UInt8) (d' : Nat → Nat) (xs' : Nat → List Int), SC w0 a L B d 20 #[.pointer (some ⟨a.s k, 0, none⟩), .int .i64 n] (.int .i64 res) B' d' ∧ RC w0 a L (cellsOf L B) d 39 #[.pointer (some ⟨a.r k, 0, none⟩), .int .i64 n] (.int .i64 res) xs' d' ∧ Ends w0 a L B' d' xs' := by
  obtain ⟨hd, hm, hl⟩ := h.room k hk
  cases hb : hasB n (d k)
  · exact ⟨unOf k, B, d, cellsOf L B, SC.of k hk fun W1 hW => (wd_roll_no hW k hk n hb).mono fun e w' g => ⟨g.1, g.2.1, Duo.bel g.2.2⟩, RC.none k hk fun W1 hR => (rroll_no hR n hb).mono fun e w' g => ⟨g.1, 0, g.2⟩, Ends.none w0 a L B d⟩
  · obtain ⟨i, rfl, hi⟩ := hasB_true hb
    obtain ⟨q, hq⟩ : ∃ q, d k - 1 - i = q := ⟨_, rfl⟩
    have hrl := rolled_len (cellsOf L B (rgOf k)) q (d k) (cel B (L.beg (rgOf k) + 8 * q)) (by omega) (by omega)
    refine ⟨0, _, upd d k (d k), _, SC.of k hk fun W1 hW => (wd_roll hW k hk i q hi hq).mono fun e w' g => ⟨g.1, by rw [upd_id]; exact g.2.1, Duo.two g.2.2⟩, RC.own k hk (over (cellsOf L B (rgOf k)) q (rolled (cellsOf L B (rgOf k)) q (d k) (cel B (L.beg (rgOf k) + 8 * q)))) (d k) ?_ fun W1 hR => (rroll_yes hR i q hi hq (by omega) (by omega) _ (cellsOf_at L B _ _ (by omega))).mono fun e w' g => ⟨g.1, ?_, Duo.two g.2.2⟩, ?_⟩
    · rw [over_len _ _ _ (by omega)]
    · rw [← rolled_over _ _ _ _ (by omega) (by omega)]; exact g.2.1
    · rw [rolled_is L B (rgOf k) q (d k) (by omega) (by omega)]
      refine Ends.laid h k q (d k) _ (by omega) ?_
      intro v hv
      unfold rolled at hv
      rcases List.mem_append.1 hv with hv | hv
      · have hv := List.mem_of_mem_drop (List.mem_of_mem_take hv)
        unfold cellsOf cels at hv
        obtain ⟨j, _, rfl⟩ := List.mem_map.1 hv
        exact cel_isI _ _
      · obtain rfl := List.mem_singleton.1 hv
        exact cel_isI _ _
theorem both_cut (h : Pl w0 W a L B d) (k : Nat) (hk : k < 3) (n : Int) : ∃ (res : Bool) (B' : List UInt8) (d' : Nat → Nat) (xs' : Nat → List Int), SC w0 a L B d 26 #[.pointer (some ⟨a.s k, 0, none⟩), .int .i64 n] (.bool res) B' d' ∧ RC w0 a L (cellsOf L B) d 41 #[.pointer (some ⟨a.r k, 0, none⟩), .int .i64 n] (.bool res) xs' d' ∧ Ends w0 a L B' d' xs' := by
  obtain ⟨hd, hm, hl⟩ := h.room k hk
  by_cases hb : n < 0 ∨ (roomOf L (rgOf k) : Int) < n
  · exact ⟨false, B, d, cellsOf L B, SC.of k hk fun W1 hW => (wd_cut_no hW k hk n hb).mono fun e w' g => ⟨g.1, by rw [g.2]; exact hW, Duo.same _ _ g.2⟩, RC.none k hk fun W1 hR => (rcut_no hR n (by rw [hl]; exact hb)).mono fun e w' g => ⟨g.1, 0, g.2⟩, Ends.none w0 a L B d⟩
  · obtain ⟨i, rfl⟩ : ∃ i : Nat, n = i := ⟨n.toNat, by omega⟩
    refine ⟨true, _, upd d k i, _, SC.of k hk fun W1 hW => (wd_cut hW k hk i (by omega)).mono fun e w' g => ⟨g.1, g.2.1, g.2.2⟩, RC.own k hk (over (cellsOf L B (rgOf k)) (d k) (List.replicate (i - d k) 0)) i ?_ fun W1 hR => rcut_yes hR i (by omega) (by omega) (by omega), Ends.laid h k (d k) i _ (by rw [List.length_replicate]; omega) ?_⟩
    · rw [over_len _ _ _ (by rw [List.length_replicate]; omega)]
    · intro v hv
      rw [(List.mem_replicate.1 hv).2]
      unfold isI; decide
theorem both_reset (h : Pl w0 W a L B d) (k : Nat) (hk : k < 3) : SC w0 a L B d 40 #[.pointer (some ⟨a.s k, 0, none⟩)] (.tuple #[]) B (upd d k 0) :=
  SC.of k hk fun W1 hW => (wd_reset hW k hk).mono fun e w' g => ⟨g.1, g.2.1, Duo.one g.2.2⟩
theorem Rs.reset {xs : Nat → List Int} (h : Rs w0 W a xs d) (k : Nat) (hk : k < 3) : Rs w0 (W.setCell ⟨a.r k, 1, none⟩ (.int .i64 0)) a xs (upd d k 0) := by
  have := h.turned (W' := W.setCell ⟨a.r k, 1, none⟩ (.int .i64 0)) k hk (xs (rgOf k)) 0 rfl ((h.q k hk).deep 0) (Duo.one ((Only.refl _ _).put _ _))
  rw [updX_id] at this
  exact this
theorem both_push (h : Pl w0 W a L B d) (k : Nat) (hk : k < 3) (vs : List Int) (hn : vs.length ≤ 140737488351232) (hv : ∀ v ∈ vs, isI v) : ∃ (res : Int) (B' : List UInt8) (d' : Nat → Nat) (xs' : Nat → List Int),
    (∀ W1 xs1 dr (A : Option Addr) (c sb so : Nat), Wd w0 W1 a L B d → Rs w0 W1 a xs1 dr → Rowd W1 A sb so vs → Calls Try.prog 18 #[.pointer (some ⟨a.s k, 0, none⟩), .slice A vs.length c] W1 fun e w' => e = .returned (.int .i64 res) ∧ Hid (Wd w0 w' a L B' d') ∧ Hid (Rs w0 w' a xs1 dr) ∧ Duo (a.s k) a.b W1 w') ∧
    (∀ W1 B1 ds (A : Option Addr) (c sb so : Nat), Wd w0 W1 a L B1 ds → Rs w0 W1 a (cellsOf L B) d → Rowd W1 A sb so vs → (0 < vs.length → sb ≠ a.r k ∧ sb ≠ a.g k) → Calls Try.prog 24 #[.pointer (some ⟨a.r k, 0, none⟩), .slice A vs.length c] W1 fun e w' => e = .returned (.int .i64 res) ∧ Hid (Wd w0 w' a L B1 ds) ∧ Hid (Rs w0 w' a xs' d') ∧ Duo (a.r k) (a.g k) W1 w') ∧
    Ends w0 a L B' d' xs' := by
  obtain ⟨hd, hm, hl⟩ := h.room k hk
  by_cases hfit : vs.length ≤ roomOf L (rgOf k) - d k
  · refine ⟨0, _, upd d k (d k + vs.length), _, fun W1 xs1 dr A c sb so hW hR hr => (wd_push hW k hk A c sb so vs hfit hr).mono fun e w' g => ⟨g.1, Lib.hid g.2.1, Lib.hid (hR.duo hW k hk g.2.2), g.2.2⟩, fun W1 B1 ds A c sb so hW hR hr hne => (rpush_yes (hR.q k hk) (by omega) (by omega) A c sb so vs vs.length rfl (by omega) hr hne).mono fun e w' g => ⟨g.1, Lib.hid (hW.ref hR k hk g.2.2), Lib.hid (hR.turned k hk _ _ ?_ g.2.1 g.2.2), g.2.2⟩, Ends.laid h k (d k) _ vs (by omega) hv⟩
    rw [over_len _ _ _ (by omega)]
  · refine ⟨ovOf k, B, d, cellsOf L B, fun W1 xs1 dr A c sb so hW hR hr => (wd_push_no hW k hk A vs.length c (by omega) (by omega)).mono fun e w' g => ⟨g.1, Lib.hid g.2.1, Lib.hid (hR.duo hW k hk (Duo.bel g.2.2)), Duo.bel g.2.2⟩, fun W1 B1 ds A c sb so hW hR hr hne => (rpush_no (hR.q k hk) (by omega) (by omega) A vs.length c (by omega) (by omega)).mono fun e w' g => ?_, Ends.none w0 a L B d⟩
    obtain ⟨g1, n, rfl⟩ := g
    exact ⟨g1, Lib.hid (hW.draws n), Lib.hid (hR.draws n), Duo.drew _ _ ⟨n, rfl⟩⟩
end
end Go.Proofs.Ytkopgjdnfjgbjaa
