import Derived.Test.YtndgcndmkfjdgaaDoorPlK
namespace Go.Proofs.YtndgcndmkfjdgaaDoor
open Go.RowKit Go.Extern.Stop Go.Stop Go.Extern
set_option linter.unusedVariables false
set_option linter.unusedSimpArgs false
/-! the law's marks -/
/-- raw marks that came in -/
def Raws (W : World) (A : Option Addr) (rs : List Mw) : Prop := ∀ j (h : j < rs.length), ∃ b off, A = some ⟨b, off, none⟩ ∧ b < W.heap.size ∧ (W.cell? ⟨b, off + j * 4, none⟩ = some (.float .f64 rs[j].1.1) ∧ W.cell? ⟨b, off + j * 4 + 1, none⟩ = some (.float .f64 rs[j].1.2)) ∧ (W.cell? ⟨b, off + j * 4 + 2, none⟩ = some (.float .f64 rs[j].2.1) ∧ W.cell? ⟨b, off + j * 4 + 3, none⟩ = some (.float .f64 rs[j].2.2)) ∧ Ltw rs[j]
def rkC (m : Mk) : List Value := [.int .i64 m.1.1, .int .i64 m.1.2, .int .i64 m.2.1, .int .i64 m.2.2]
def rksC (zs : List Mk) : List Value := zs.flatMap rkC
theorem rksC_len (xs : List Mk) : (rksC xs).length = xs.length * 4 := by
  induction xs with
  | nil => rfl
  | cons x xs ih => simp only [rksC, List.flatMap_cons, List.length_append, List.length_cons] at ih ⊢; rw [ih]; simp [rkC]; omega
theorem rksC_push (X : List Mk) (x : Mk) : rksC X ++ rkC x = rksC (X ++ [x]) := by simp [rksC]
theorem rksC_at (X : List Mk) (i : Nat) (h : i < X.length) (j : Nat) (hj : j < 4) : (rksC X)[i * 4 + j]? = (rkC (X.getD i m0))[j]? := by
  induction X generalizing i with
  | nil => exact absurd h (Nat.not_lt_zero _)
  | cons y ys ih =>
    have hl : (rkC y).length = 4 := rfl
    cases i with
    | zero =>
      simp only [rksC, List.flatMap_cons]
      rw [List.getElem?_append_left (by rw [hl]; omega)]
      rw [List.getD_cons_zero]
      congr 1; omega
    | succ i =>
      have := ih i (by simpa using h)
      simp only [rksC, List.flatMap_cons] at this ⊢
      rw [List.getElem?_append_right (by rw [hl]; omega), hl, List.getD_cons_succ]
      rw [show (i + 1) * 4 + j - 4 = i * 4 + j by omega]
      exact this
theorem own_rks {W : World} {base n c : Nat} {A : Option Addr} {zs : List Mk} (h : W.ownsRow base 85 4 (.slice A n c) n (rksC zs)) : n = zs.length ∧ Rks W A zs := by
  have hn : n = zs.length := by have := h.1; rw [rksC_len] at this; omega
  subst hn
  refine ⟨rfl, fun j hj => ?_⟩
  rcases h.2 with ⟨e, h0⟩ | ⟨g, cap, cur, e, hb, hg, _, _, _, hx⟩
  · omega
  · injection e with e1 _ _
    subst e1
    have key : ∀ i u, (rksC zs)[i]? = some u → W.cell? ⟨g, i, none⟩ = some u := fun i u hu => by
      have := h.cells (g := g) rfl i u hu
      rwa [show ((⟨g, 0, none⟩ : Addr).add i) = ⟨g, i, none⟩ by unfold Addr.add; split <;> simp_all] at this
    refine ⟨g, 0, rfl, (Array.getElem?_eq_some_iff.1 hg).1, ⟨?_, ?_⟩, ?_, ?_⟩
    · rw [Nat.zero_add]; exact key _ _ (by have := rksC_at zs j hj 0 (by decide); rw [Nat.add_zero] at this; rw [this]; rfl)
    · rw [Nat.zero_add]; exact key _ _ (by rw [rksC_at zs j hj 1 (by decide)]; rfl)
    · rw [Nat.zero_add]; exact key _ _ (by rw [rksC_at zs j hj 2 (by decide)]; rfl)
    · rw [Nat.zero_add]; exact key _ _ (by rw [rksC_at zs j hj 3 (by decide)]; rfl)
theorem info_rmark : (Tryd.prog.info? 85).map (fun i => (i.zero, i.size, i.bytes)) = some (some (.agg #[.int .i64 0, .int .i64 0, .int .i64 0, .int .i64 0]), 4, 32) := by kernel_rfl
theorem rkC_one (x : Mk) : ∀ u ∈ rkC x, u.oneCell' = true := by
  intro u hu
  simp [rkC] at hu
  rcases hu with rfl | rfl | rfl | rfl <;> rfl
/-- one element more, whatever the length that memory takes -/
theorem app_one2 {P : Program} {w : World} {t e : TypeId} {i : TypeInfo} {z : Value} {size bytes base : Nat} (ht : P.underlying t = some (.slice e)) (hi : P.info? e = some i) (hz : i.zero = some z)
    (hsize : i.size = size) (hby : i.bytes = bytes) (hzs : z.cells.size = size) (hsz : 0 < size) {v : Value} {n : Nat} {xs : List Value} (h : w.ownsRow base e size v n xs) (hb : base ≤ w.heap.size) (news : List Value) (hl : news.length = size) (h1 : ∀ u ∈ news, u.oneCell' = true) (hn : (n + 1) * bytes ≤ 140737488355328) (hn2 : n + 1 ≤ maxLen) :
    ∃ A' c' w2, (Builtin.append_ #[t, t] t #[v, .slice (some ⟨w.heap.size, 0, none⟩) 1 1]).run P (w.alloc (.cells news.toArray e)) = .ok (.slice A' (n + 1) c') w2 ∧ w2.ownsRow base e size (.slice A' (n + 1) c') (n + 1) (xs ++ news) ∧ w.grownBy w2 v.ownBlock := by
  have hnews : ∀ j u, news[j]? = some u → (w.alloc (.cells news.toArray e)).cell? ((⟨w.heap.size, 0, none⟩ : Addr).add j) = some u := fun j u hu => by
    rw [addr_add0, (Bk.fresh w e news.toArray).cell j]
    simpa using hu
  have hg0 := World.grownBy_alloc w (.cells news.toArray e) v.ownBlock
  obtain ⟨v', w2, hrun, hown, hgr, _⟩ := run_append_own (P := P) (w.alloc (.cells news.toArray e)) base t t e i z size bytes ht hi hz hsize hby hzs hsz v n xs (h.alloc _) ⟨w.heap.size, 0, none⟩ 1 1 news (by omega) hnews h1 hn2 hn (by simp; omega)
  obtain ⟨A', c', rfl⟩ := own_form hown
  exact ⟨A', c', w2, hrun, hown, grown_trans hg0 hgr⟩
theorem below_grown2 {B : Nat} {a b c : World} {row : Option Nat} (h : Below B a b) (hg : b.grownBy c row) (hB : B ≤ b.heap.size) (hr : ∀ k, row = some k → B ≤ k) : Below B a c :=
  ⟨hg.os.trans h.os, hg.tape.trans h.tape, hg.output.trans h.output, Nat.le_trans h.size hg.size, fun k hk => (hg.block k (by omega) (fun e => by have := hr k e.symm; omega)).trans (h.block k hk)⟩
theorem mw_append {w : World} {base : Nat} {V : Value} {n : Nat} {xs : List Mw} (x : Mw) (h : w.ownsRow base 65 2 V n (mwsC xs)) (hb : base ≤ w.heap.size) (hl : n ≤ 4398046511102) :
    ∃ A' c' w2, (Builtin.append_ #[24, 24] 24 #[V, .slice (some ⟨w.heap.size, 0, none⟩) 1 1]).run Tryd.prog (w.alloc (.cells #[.complex .f64 x.1.1 x.1.2, .complex .f64 x.2.1 x.2.2] 65)) = .ok (.slice A' (n + 1) c') w2 ∧
      w2.ownsRow base 65 2 (.slice A' (n + 1) c') (n + 1) (mwsC (xs ++ [x])) ∧ w.grownBy w2 V.ownBlock := by
  obtain ⟨i9, hi, hz0, hz1, hz2⟩ := info_parts info_mark
  obtain ⟨A', c', w2, hrun, hown, hgr⟩ := app_one2 (P := Tryd.prog) (w := w) Tryd.underlying24 hi hz0 hz1 hz2 rfl (by decide) h hb (mwC x) rfl (mwC_one _) (by omega) (by unfold maxLen; omega)
  rw [mwsC_push] at hown
  exact ⟨A', c', w2, hrun, hown, hgr⟩
theorem rk_append {w : World} {base : Nat} {V : Value} {n : Nat} {zs : List Mk} (m : Mk) (h : w.ownsRow base 85 4 V n (rksC zs)) (hb : base ≤ w.heap.size) (hl : n ≤ 4398046511102) :
    ∃ A' c' w2, (Builtin.append_ #[25, 25] 25 #[V, .slice (some ⟨w.heap.size, 0, none⟩) 1 1]).run Tryd.prog (w.alloc (.cells #[.int .i64 m.1.1, .int .i64 m.1.2, .int .i64 m.2.1, .int .i64 m.2.2] 85)) = .ok (.slice A' (n + 1) c') w2 ∧
      w2.ownsRow base 85 4 (.slice A' (n + 1) c') (n + 1) (rksC (zs ++ [m])) ∧ w.grownBy w2 V.ownBlock := by
  obtain ⟨i9, hi, hz0, hz1, hz2⟩ := info_parts info_rmark
  obtain ⟨A', c', w2, hrun, hown, hgr⟩ := app_one2 (P := Tryd.prog) (w := w) Tryd.underlying25 hi hz0 hz1 hz2 rfl (by decide) h hb (rkC m) rfl (rkC_one _) (by omega) (by unfold maxLen; omega)
  rw [rksC_push] at hown
  exact ⟨A', c', w2, hrun, hown, hgr⟩
/-- a raw mark, what the document has of it, and whether it is right -/
def Refd (x : Mw) (z : Mk) (ok : Bool) : Prop := (Sm z.1 16777216 ∧ Sm z.2 16777216) ∧ (ok = true ↔ (Rt x.1.1 ∧ Rt x.1.2) ∧ Rt x.2.1 ∧ Rt x.2.2) ∧ (ok = true → Nk x z)
/-- the document's of many -/
def Refs (xs : List Mw) (zs : List Mk) (r : Bool) : Prop := zs.length = xs.length ∧ Sms zs ∧ (r = true ↔ ∀ x ∈ xs, (Rt x.1.1 ∧ Rt x.1.2) ∧ Rt x.2.1 ∧ Rt x.2.2) ∧ (r = true → Nks xs zs)
theorem Refs.next {xs : List Mw} {zs : List Mk} {r : Bool} (h : Refs xs zs r) {x : Mw} {z : Mk} {ok : Bool} (hx : Refd x z ok) : Refs (xs ++ [x]) (zs ++ [z]) (r && ok) := by
  obtain ⟨h1, h2, h3, h4⟩ := h
  obtain ⟨g1, g2, g3⟩ := hx
  have hget : ∀ i, (zs ++ [z]).getD i m0 = if i < zs.length then zs.getD i m0 else if i = zs.length then z else m0 := fun i => by
    rw [List.getD_eq_getElem?_getD, List.getD_eq_getElem?_getD]
    split
    · rw [List.getElem?_append_left (by assumption)]
    · rw [List.getElem?_append_right (by omega)]
      split
      · next e => subst e; simp
      · rw [List.getElem?_eq_none (by simp; omega)]; rfl
  refine ⟨by simp [h1], fun i hi => ?_, ?_, fun hr => ?_⟩
  · rw [hget]
    split
    · exact h2 i (by assumption)
    · simp at hi
      rw [if_pos (by omega)]
      exact g1
  · rw [Bool.and_eq_true, h3, g2]
    constructor
    · rintro ⟨a, b⟩ y hy
      rcases List.mem_append.1 hy with hy | hy
      · exact a y hy
      · simp at hy; subst hy; exact b
    · intro a
      exact ⟨fun y hy => a y (List.mem_append_left _ hy), a x (by simp)⟩
  · rw [Bool.and_eq_true] at hr
    obtain ⟨_, hN⟩ := h4 hr.1
    refine ⟨by simp [h1], fun i hi => ?_⟩
    rw [hget]
    by_cases hi2 : i < xs.length
    · rw [if_pos (by omega), List.getElem_append_left hi2]
      exact hN i hi2
    · have : i = xs.length := by simp at hi; omega
      subst this
      rw [if_neg (by omega), if_pos h1.symm]
      simp
      exact g3 hr.2
theorem refs_nil : Refs [] [] true := ⟨rfl, fun j h => absurd h (Nat.not_lt_zero _), ⟨fun _ x hx => (by cases hx), fun _ => rfl⟩, fun _ => ⟨rfl, fun i h => absurd h (Nat.not_lt_zero _)⟩⟩
theorem rof_refd {x : Wp} (lx : x.1 < 18446744073709551616 ∧ x.2 < 18446744073709551616) (w : World) : Calls Tryd.prog 36 #[.float .f64 x.1, .float .f64 x.2] w fun e w' => ∃ (z : Pt) (ok : Bool), e = .returned (.tuple #[.agg #[.int .i64 z.1, .int .i64 z.2], .bool ok]) ∧ (Sm z 16777216 ∧ (ok = true ↔ Rt x.1 ∧ Rt x.2) ∧ (ok = true → Nm x z)) ∧ Below w.heap.size w w' := by
  refine (rof_any x lx w).mono ?_
  rintro e w' ⟨z, ok, rfl, ⟨h1, h2, h3⟩, hb⟩
  refine ⟨z, ok, rfl, ⟨h1, h2, fun h => ?_⟩, hb⟩
  obtain ⟨a, ha, hs⟩ := rt_nm (h2.1 h)
  rw [h3 a ha hs]
  exact ha
theorem of_after {W w1 : World} {z1 z2 : Int} (h : Below W.drew.heap.size W.drew w1) : Bk (w1.alloc (.cells #[.int .i64 z1, .int .i64 z2] 58)) w1.heap.size 58 #[.int .i64 z1, .int .i64 z2] ∧ Below W.heap.size W (w1.alloc (.cells #[.int .i64 z1, .int .i64 z2] 58)) :=
  ⟨Bk.fresh _ _ _, (((Below.refl W.heap.size W).drew).trans h).alloc h.size _⟩
theorem of_ahead {W w1 : World} {z1 z2 : Int} (h : Below (W.alloc (.cells #[.int .i64 0, .int .i64 0] 58)).drew.heap.size (W.alloc (.cells #[.int .i64 0, .int .i64 0] 58)).drew w1) :
    Bk ((w1.setCell ⟨W.heap.size, 0, none⟩ (.int .i64 z1)).setCell ⟨W.heap.size, 1, none⟩ (.int .i64 z2)) W.heap.size 58 #[.int .i64 z1, .int .i64 z2] ∧ Below W.heap.size W ((w1.setCell ⟨W.heap.size, 0, none⟩ (.int .i64 z1)).setCell ⟨W.heap.size, 1, none⟩ (.int .i64 z2)) := by
  have hk := Bk.kept (Bk.fresh W 58 #[.int .i64 0, .int .i64 0]).draw h (by simp)
  exact ⟨by simpa using (hk.put 0 (.int .i64 z1)).put 1 (.int .i64 z2), (((((Below.refl W.heap.size W).alloc (Nat.le_refl _) _).drew).trans (h.mono (by simp))).setCell (Nat.le_refl _) _).setCell (Nat.le_refl _) _⟩
set_option maxRecDepth 100000 in
set_option maxHeartbeats 4000000 in
theorem marks_any (A : Option Addr) (rs : List Mw) (n c : Nat) (w : World) (hm : rs.length = n) (hn : n ≤ 4398046511102) (h : Raws w A rs) : Calls Tryd.prog 12 #[.slice A n c] w fun e w' => ∃ (A1 A2 : Option Addr) (c1 c2 : Nat) (zs : List Mk) (r : Bool), e = .returned (.tuple #[.slice A1 n c1, .slice A2 n c2, .bool r]) ∧ Mks w' A1 rs ∧ Rks w' A2 zs ∧ Refs rs zs r ∧ Below w.heap.size w w' := by
  have hn4 : (n : Int) ≤ 4398046511102 := by omega
  have hl : ∀ x ∈ rs, Ltw x := fun x hx => by
    obtain ⟨i, hi, rfl⟩ := List.getElem_of_mem hx
    obtain ⟨_, _, _, _, _, _, h⟩ := h i hi
    exact h
  replace h := Lib.hid h
  replace hm := Lib.hid hm
  replace hl := Lib.hid hl
  have key : ∃ Q : Ending → World → Prop, Q = (fun e w' => ∃ (A1 A2 : Option Addr) (c1 c2 : Nat) (zs : List Mk) (r : Bool), e = .returned (.tuple #[.slice A1 n c1, .slice A2 n c2, .bool r]) ∧ Mks w' A1 rs ∧ Rks w' A2 zs ∧ Refs rs zs r ∧ Below w.heap.size w w') := ⟨_, rfl⟩
  obtain ⟨Q, hQ⟩ := key
  rw [← hQ]
  have hfin : ∀ (A1 A2 : Option Addr) (c1 c2 : Nat) (zs : List Mk) (r : Bool) (w' : World), Mks w' A1 rs → Rks w' A2 zs → Refs rs zs r → Below w.heap.size w w' → Q (.returned (.tuple #[.slice A1 n c1, .slice A2 n c2, .bool r])) w' := fun A1 A2 c1 c2 zs r w' a b d f => by
    rw [hQ]
    exact ⟨A1, A2, c1, c2, zs, r, rfl, a, b, d, f⟩
  replace hfin := Lib.hid hfin
  clear hQ
  suffices hsuf : Calls Tryd.prog 12 #[.slice A n c] w fun e w' => Hid (Q e w') from hsuf.mono fun e w' h => h.out
  go_enter Tryd.func12, Tryd.ntmps12
  go_wp2_with (fail)
  go_loopw [5, 6, 7, 8] (fun s1 s2 s3 x wr => ∃ (j : Nat) (A1 A2 : Option Addr) (c1 c2 : Nat) (r : Bool), s1 = .slice A1 j c1 ∧ s2 = .slice A2 j c2 ∧ s3 = .bool r ∧ x = .int .i64 j ∧ j ≤ n ∧ Hid (wr.ownsRow w.heap.size 65 2 (.slice A1 j c1) j (mwsC (rs.take j)) ∧ (∃ zs, wr.ownsRow w.heap.size 85 4 (.slice A2 j c2) j (rksC zs) ∧ Refs (rs.take j) zs r) ∧ Below w.heap.size w wr)) (fun _ _ _ x _ => n - (intOf x).toNat)
  case atStart => exact ⟨0, none, none, 0, 0, true, rfl, rfl, rfl, rfl, Nat.zero_le _, Lib.hid ⟨World.ownsRow_nil _ _ _ _, ⟨[], World.ownsRow_nil _ _ _ _, refs_nil⟩, Below.refl _ _⟩⟩
  case round =>
    obtain ⟨j, A1, A2, c1, c2, r, rfl, rfl, rfl, rfl, hj0, hR⟩ := hrel
    obtain ⟨hrow, ⟨zs, hrk, hrf⟩, hW⟩ := hR.out
    clear hR
    by_cases hj : j < n
    · have j0 : (j : Int) < (n : Int) := by omega
      have hjl : j < rs.length := by rw [hm.out]; exact hj
      obtain ⟨b, off, rfl, hbl, ⟨c0, d0⟩, ⟨c3, d3⟩, hL⟩ := h.out j hjl
      have htk : rs.take (j + 1) = rs.take j ++ [rs[j]] := by rw [List.take_add_one, List.getElem?_eq_getElem hjl]; rfl
      obtain ⟨⟨⟨p1, p2⟩, q1, q2⟩, hx⟩ : ∃ p, rs[j] = p := ⟨_, rfl⟩
      rw [hx] at c0 d0 c3 d3 hL htk
      simp only at c0 d0 c3 d3
      have hBr : ∀ W, Below w.heap.size wr W ∨ w.heap.size ≤ w.heap.size := fun W => .inr (Nat.le_refl _)
      clear hBr
      have hcell : ∀ W, Below w.heap.size w W → W.cell? ⟨b, off + j * 4, none⟩ = some (.float .f64 p1) ∧ W.cell? ⟨b, off + j * 4 + 1, none⟩ = some (.float .f64 p2) ∧ W.cell? ⟨b, off + j * 4 + 2, none⟩ = some (.float .f64 q1) ∧ W.cell? ⟨b, off + j * 4 + 3, none⟩ = some (.float .f64 q2) := fun W hb =>
        ⟨(hb.cell (p := ⟨b, off + j * 4, none⟩) hbl).trans c0, (hb.cell (p := ⟨b, off + j * 4 + 1, none⟩) hbl).trans d0, (hb.cell (p := ⟨b, off + j * 4 + 2, none⟩) hbl).trans c3, (hb.cell (p := ⟨b, off + j * 4 + 3, none⟩) hbl).trans d3⟩
      obtain ⟨A3, c5, w2, hrun, hown, hgr⟩ := mw_append (w := wr.drew) (V := .slice A1 j c1) ((p1, p2), q1, q2) (own_draws hrow 1) hW.size (by omega)
      rw [← htk] at hown
      have hB2 := below_grown2 (below_drew hW) hgr hW.size (own_ge hrow)
      have hrk2 := (own_draws hrk 1).kept (row := (Value.slice A1 j c1).ownBlock) hgr (by
        rcases own_far hrk hrow (by decide) with h | h
        · exact .inl h
        · exact .inr h)
      have f0 := hcell wr hW
      have f1 := hcell wr.drew (below_drew hW)
      have f2 := hcell w2 hB2
      obtain ⟨f0a, f0b, f0c, f0d⟩ := f0
      replace hrun := Lib.hid hrun
      replace hown := Lib.hid hown
      replace hB2 := Lib.hid hB2
      replace hrk2 := Lib.hid hrk2
      replace hcell := Lib.hid hcell
      replace hL := Lib.hid hL
      replace hrf := Lib.hid hrf
      replace htk := Lib.hid htk
      replace hW := Lib.hid hW
      clear hrow hrk hgr f1 f2 hx
      go_wp2_with (fail)
      go_cut [5] from 13 to 85 (fun s wx => s = .slice A3 (j + 1) c5 ∧ wx = w2)
      case first =>
        go_region_held3 (fun w' => (w'.cell? ⟨b, off + j * 4, none⟩ = some (.float .f64 p1) ∧ w'.cell? ⟨b, off + j * 4 + 1, none⟩ = some (.float .f64 p2)) ∧ w'.cell? ⟨b, off + j * 4 + 2, none⟩ = some (.float .f64 q1) ∧ w'.cell? ⟨b, off + j * 4 + 3, none⟩ = some (.float .f64 q2)) (first | (simp [go_sem, *]; done) | go_keep) ((refine step_append_run rfl (.tmp 19) (.tmp 43) 24 rfl (.slice A1 j c1) _ _ rfl rfl hrun.out ?_; have kS : (w2.cell? ⟨b, off + j * 4, none⟩ = some (.float .f64 p1) ∧ w2.cell? ⟨b, off + j * 4 + 1, none⟩ = some (.float .f64 p2)) ∧ w2.cell? ⟨b, off + j * 4 + 2, none⟩ = some (.float .f64 q1) ∧ w2.cell? ⟨b, off + j * 4 + 3, none⟩ = some (.float .f64 q2) := ⟨⟨(hcell.out w2 hB2.out).1, (hcell.out w2 hB2.out).2.1⟩, (hcell.out w2 hB2.out).2.2⟩))
        all_goals (go_wp2_with (fail); go_meet; exact ⟨rfl, rfl⟩)
      case rest =>
        obtain ⟨rfl, hwc⟩ := hcut
        replace hwc := hwc.symm
        subst hwc
        clear hrun f0a f0b f0c f0d
        have hlj : (rs.take j).length = j := by rw [List.length_take]; omega
        replace hlj := Lib.hid hlj
        have hof1 := Lib.hid (fun W => rof_refd (x := (p1, p2)) hL.out.1 W)
        have hof2 := Lib.hid (fun W => rof_refd (x := (q1, q2)) hL.out.2 W)
        go_upto_region 8 with (fail)
        have hal := below_drew (hB2.out.alloc hB2.out.size (.cells #[.int .i64 0, .int .i64 0] 58))
        obtain ⟨m0, m1, m2, m3⟩ := hcell.out _ hal
        obtain ⟨d0', d1', d2', d3'⟩ := hcell.out _ (below_drew hB2.out)
        clear hal
        go_cut [9, 10] from 13 to 85 (fun s9 s10 wx => ∃ (F : Nat) (ok : Bool), s9 = .pointer (some ⟨F, 0, none⟩) ∧ s10 = .bool ok ∧ Hid (∃ z : Pt, (Sm z 16777216 ∧ (ok = true ↔ Rt p1 ∧ Rt p2) ∧ (ok = true → Nm (p1, p2) z)) ∧ Bk wx F 58 #[.int .i64 z.1, .int .i64 z.2] ∧ Below w2.heap.size w2 wx))
        case first =>
          go_region_with ((go_at_call 36; (with_reducible refine Calls.mono (hof1.out _) ?_); rintro e w1_ ⟨⟨z1, z2⟩, ok, rfl, hRd, hb1⟩; replace hRd := Lib.hid hRd; (first | (have bk := Bk.kept (Bk.fresh w2.drew 58 #[.int .i64 0, .int .i64 0]) hb1 (by simp); have l0 := bk.cell 0; have l1 := bk.cell 1; have f0 := bk.free 0; have f1 := bk.free 1; simp at l0 l1 f0 f1; clear bk) | skip); replace hb1 := Lib.hid hb1))
          all_goals
            go_wp2_with (fail)
            go_meet
            first
              | exact ⟨_, ok, rfl, rfl, Lib.hid ⟨(z1, z2), hRd.out, of_after hb1.out⟩⟩
              | exact ⟨_, ok, rfl, rfl, Lib.hid ⟨(z1, z2), hRd.out, of_ahead hb1.out⟩⟩
        case' rest =>
          clear m0 m1 m2 m3 d0' d1' d2' d3'
        obtain ⟨F1, ok1, rfl, rfl, hR1⟩ := hcut
        obtain ⟨za, hza, hk1, hb1⟩ := hR1.out
        have hB3 := Lib.hid (hB2.out.trans (hb1.mono hB2.out.size))
        have hown3 := Lib.hid (own_below hown.out hb1 (Nat.le_refl _))
        have hrk3 := Lib.hid (own_below hrk2.out hb1 (Nat.le_refl _))
        obtain ⟨w3, hw3⟩ : ∃ w3, w3 = wc := ⟨_, rfl⟩
        subst hw3
        replace hza := Lib.hid hza
        replace hk1 := Lib.hid hk1
        clear hR1 hb1 hown hrk2 hB2 hof1
        go_upto_region 9 with (fail)
        have hal := below_drew (hB3.out.alloc hB3.out.size (.cells #[.int .i64 0, .int .i64 0] 58))
        obtain ⟨m0, m1, m2, m3⟩ := hcell.out _ hal
        obtain ⟨d0', d1', d2', d3'⟩ := hcell.out _ (below_drew hB3.out)
        clear hal
        go_cut [11, 12] from 13 to 85 (fun s9 s10 wx => ∃ (F : Nat) (ok : Bool), s9 = .pointer (some ⟨F, 0, none⟩) ∧ s10 = .bool ok ∧ Hid (∃ z : Pt, (Sm z 16777216 ∧ (ok = true ↔ Rt q1 ∧ Rt q2) ∧ (ok = true → Nm (q1, q2) z)) ∧ Bk wx F 58 #[.int .i64 z.1, .int .i64 z.2] ∧ Below w3.heap.size w3 wx))
        case first =>
          go_region_with ((go_at_call 36; (with_reducible refine Calls.mono (hof2.out _) ?_); rintro e w1_ ⟨⟨z1, z2⟩, ok, rfl, hRd, hb1⟩; replace hRd := Lib.hid hRd; (first | (have bk := Bk.kept (Bk.fresh w3.drew 58 #[.int .i64 0, .int .i64 0]) hb1 (by simp); have l0 := bk.cell 0; have l1 := bk.cell 1; have f0 := bk.free 0; have f1 := bk.free 1; simp at l0 l1 f0 f1; clear bk) | skip); replace hb1 := Lib.hid hb1))
          all_goals
            go_wp2_with (fail)
            go_meet
            first
              | exact ⟨_, ok, rfl, rfl, Lib.hid ⟨(z1, z2), hRd.out, of_after hb1.out⟩⟩
              | exact ⟨_, ok, rfl, rfl, Lib.hid ⟨(z1, z2), hRd.out, of_ahead hb1.out⟩⟩
        case' rest =>
          clear m0 m1 m2 m3 d0' d1' d2' d3'
        obtain ⟨F2, ok2, rfl, rfl, hR2⟩ := hcut
        obtain ⟨zb, hzb, hk2, hb2⟩ := hR2.out
        have hB4 := hB3.out.trans (hb2.mono hB3.out.size)
        have hown4 := own_below hown3.out hb2 (Nat.le_refl _)
        have hrk4 := own_below hrk3.out hb2 (Nat.le_refl _)
        have hk14 := hk1.out.kept hb2 hk1.out.lt
        obtain ⟨w4, hw4⟩ : ∃ w4, w4 = wc := ⟨_, rfl⟩
        subst hw4
        have hrd : Refd ((p1, p2), q1, q2) (za, zb) (ok1 && ok2) := by
          refine ⟨⟨hza.out.1, hzb.1⟩, ?_, fun hh => ?_⟩
          · rw [Bool.and_eq_true, hza.out.2.1, hzb.2.1]
          · rw [Bool.and_eq_true] at hh
            exact ⟨hza.out.2.2 hh.1, hzb.2.2 hh.2⟩
        have hnx := hrf.out.next hrd
        rw [← htk.out] at hnx
        obtain ⟨A5, c6, w5, hrun, hown5, hgr⟩ := rk_append (w := w4) (V := .slice A2 j c2) (za, zb) hrk4 hB4.size (by omega)
        have hB5 := below_grown2 hB4 hgr hB4.size (own_ge hrk4)
        have hrow5 := hown4.kept (row := (Value.slice A2 j c2).ownBlock) hgr (by
          rcases own_far hown4 hrk4 (by decide) with h | h
          · exact .inl h
          · exact .inr h)
        have e0 := hk14.cell 0
        have e1 := hk14.cell 1
        have e2 := hk2.cell 0
        have e3 := hk2.cell 1
        simp at e0 e1 e2 e3
        obtain ⟨za1, za2⟩ := za
        obtain ⟨zb1, zb2⟩ := zb
        simp only at e0 e1 e2 e3 hrun
        replace hrun := Lib.hid hrun
        replace hown5 := Lib.hid hown5
        replace hrow5 := Lib.hid hrow5
        replace hB5 := Lib.hid hB5
        replace hnx := Lib.hid hnx
        clear hza hzb hk1 hk2 hk14 hR2 hb2 hown3 hown4 hrk3 hrk4 hB3 hB4 hrd hgr hof2 hrf htk hL hcell c0 d0 c3 d3
        go_upto_region 10 with (fail)
        go_cut [7] from 13 to 85 (fun s wx => s = .bool (r && (ok1 && ok2)) ∧ wx = w4)
        case first =>
          cases r <;> cases ok1 <;> cases ok2 <;> (go_wp2_with (fail); go_meet; exact ⟨rfl, rfl⟩)
        case rest =>
          obtain ⟨rfl, hwc⟩ := hcut
          replace hwc := hwc.symm
          subst hwc
          go_wp2_with (refine wpList_append_run rfl _ _ 25 rfl _ _ _ rfl rfl hrun.out ?_)
          exact ⟨⟨j + 1, A3, A5, c5, c6, (r && (ok1 && ok2)), rfl, rfl, rfl, rfl, by omega, Lib.hid ⟨hrow5.out, ⟨_, hown5.out, hnx.out⟩, hB5.out⟩⟩, by simp [intOf]; omega⟩
    · have j0 : ¬ (j : Int) < (n : Int) := by omega
      obtain rfl : j = n := by omega
      rw [List.take_of_length_le (by rw [hm.out]; exact Nat.le_refl _)] at hrow hrf
      have h1 := Lib.hid (own_mks hrow hl.out).2
      have h2 := Lib.hid (own_rks hrk).2
      replace hrf := Lib.hid hrf
      replace hW := Lib.hid hW
      clear hrow hrk
      go_wp2_with (fail)
      go_returns
      exact Lib.hid (hfin.out A1 A2 c1 c2 zs r _ h1.out h2.out hrf.out hW.out)
end Go.Proofs.YtndgcndmkfjdgaaDoor
