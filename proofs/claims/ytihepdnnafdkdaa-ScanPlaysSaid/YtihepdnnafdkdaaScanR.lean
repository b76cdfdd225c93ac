import Derived.Test.YtihepdnnafdkdaaScanQ
import Derived.Test.YtihepdnnafdkdaaScanH
import Derived.Test.YtihepdnnafdkdaaPostOps6
namespace Go.Proofs.Ytihepdnnafdkdaa
open Go.RowKit
set_option linter.unusedVariables false
set_option linter.unusedSimpArgs false
def upd (f : Nat → Nat) (k m : Nat) : Nat → Nat := fun i => if i = k then m else f i
/-- two sources, what was said of them -/
structure Pl (W0 W : World) (tb g ab : Nat) (cur : Array Value) (S : Nat → Nat) (T : Nat → ByteArray) (P Q : Nat → Nat) : Prop where
  txt : Bk W tb 9 #[.string (T 0), .string (T 1)]
  lst : Bk W g 23 cur
  pos : Bk W ab 3 #[.int .i64 (P 0), .int .i64 (P 1)]
  src0 : Src W (S 0) (T 0) (Q 0)
  src1 : Src W (S 1) (T 1) (Q 1)
  le0 : Q 0 ≤ (T 0).size
  le1 : Q 1 ≤ (T 1).size
  below : Below W0.heap.size W0 W
/-- where they lie -/
structure Pos (W0 : World) (tb g ab : Nat) (cur : Array Value) (S : Nat → Nat) : Prop where
  c0 : cur[0]? = some (.pointer (some ⟨S 0, 0, none⟩))
  c1 : cur[1]? = some (.pointer (some ⟨S 1, 0, none⟩))
  n01 : S 0 ≠ S 1
  s0 : S 0 ≠ tb ∧ S 0 ≠ g ∧ S 0 ≠ ab ∧ W0.heap.size ≤ S 0
  s1 : S 1 ≠ tb ∧ S 1 ≠ g ∧ S 1 ≠ ab ∧ W0.heap.size ≤ S 1
  ab_ : ab ≠ tb ∧ ab ≠ g ∧ W0.heap.size ≤ ab
section
variable {W0 W W' : World} {tb g ab : Nat} {cur : Array Value} {S : Nat → Nat} {T : Nat → ByteArray} {P Q : Nat → Nat}
theorem two {k : Nat} (hk : k < 2) : k = 0 ∨ k = 1 := by omega
theorem Pl.t (h : Pl W0 W tb g ab cur S T P Q) {k : Nat} (hk : k < 2) : W.cell? ⟨tb, k, none⟩ = some (.string (T k)) := by
  rcases two hk with rfl | rfl
  · exact h.txt.cell 0
  · exact h.txt.cell 1
theorem Pl.l (h : Pl W0 W tb g ab cur S T P Q) (hp : Pos W0 tb g ab cur S) {k : Nat} (hk : k < 2) : W.cell? ⟨g, k, none⟩ = some (.pointer (some ⟨S k, 0, none⟩)) := by
  rcases two hk with rfl | rfl
  · exact (h.lst.cell 0).trans hp.c0
  · exact (h.lst.cell 1).trans hp.c1
theorem Pl.p (h : Pl W0 W tb g ab cur S T P Q) {k : Nat} (hk : k < 2) : W.cell? ⟨ab, k, none⟩ = some (.int .i64 (P k)) := by
  rcases two hk with rfl | rfl
  · exact h.pos.cell 0
  · exact h.pos.cell 1
theorem Pl.s (h : Pl W0 W tb g ab cur S T P Q) {k : Nat} (hk : k < 2) : Src W (S k) (T k) (Q k) := by
  rcases two hk with rfl | rfl
  · exact h.src0
  · exact h.src1
theorem Pl.le (h : Pl W0 W tb g ab cur S T P Q) {k : Nat} (hk : k < 2) : Q k ≤ (T k).size := by
  rcases two hk with rfl | rfl
  · exact h.le0
  · exact h.le1
theorem Pl.step (h : Pl W0 W tb g ab cur S T P Q) (hp : Pos W0 tb g ab cur S) {k m : Nat} (hk : k < 2) (ho : Only (S k) W W') (hs : Src W' (S k) (T k) m) (hm : m ≤ (T k).size) : Pl W0 W' tb g ab cur S T P (upd Q k m) := by
  have hb := h.below.size
  rcases two hk with rfl | rfl
  · refine ⟨ho.bk h.txt hp.s0.1.symm, ho.bk h.lst hp.s0.2.1.symm, ho.bk h.pos hp.s0.2.2.1.symm, hs, ?_, hm, h.le1, h.below.trans (ho.below hp.s0.2.2.2 hb)⟩
    exact ho.bk h.src1 hp.n01.symm
  · refine ⟨ho.bk h.txt hp.s1.1.symm, ho.bk h.lst hp.s1.2.1.symm, ho.bk h.pos hp.s1.2.2.1.symm, ?_, hs, h.le0, hm, h.below.trans (ho.below hp.s1.2.2.2 hb)⟩
    exact ho.bk h.src0 hp.n01
theorem Pl.store (h : Pl W0 W tb g ab cur S T P Q) (hp : Pos W0 tb g ab cur S) {k : Nat} (hk : k < 2) (m : Nat) : Pl W0 (W.setCell ⟨ab, k, none⟩ (.int .i64 (m : Int))) tb g ab cur S T (upd P k m) Q := by
  refine ⟨h.txt.other hp.ab_.1.symm _, h.lst.other hp.ab_.2.1.symm _, ?_, h.src0.other hp.s0.2.2.1 _, h.src1.other hp.s1.2.2.1 _, h.le0, h.le1, h.below.setCell hp.ab_.2.2 _⟩
  rcases two hk with rfl | rfl
  · exact h.pos.put 0 _
  · exact h.pos.put 1 _
theorem Pl.draws (h : Pl W0 W tb g ab cur S T P Q) (n : Nat) : Pl W0 (W.drewN n) tb g ab cur S T P Q :=
  ⟨h.txt, h.lst, h.pos, h.src0, h.src1, h.le0, h.le1, h.below.trans ⟨rfl, rfl, rfl, Nat.le_refl _, fun _ _ => rfl⟩⟩
end
theorem Bk.ne {W : World} {b b' : Nat} {t t' : TypeId} {vs vs' : Array Value} (h : Bk W b t vs) (h' : Bk W b' t' vs') (hne : t ≠ t') : b ≠ b' := by
  rintro rfl
  unfold Bk at h h'
  rw [h] at h'
  injection h' with h'
  injection h' with _ ht
  exact hne ht
theorem own_block {W : World} {base n : Nat} {e : TypeId} {v : Value} {xs : List Value} (h : W.ownsRow base e 1 v n xs) (hn : 0 < n) : ∃ (g cap : Nat) (cur : Array Value), v = .slice (some ⟨g, 0, none⟩) n cap ∧ base ≤ g ∧ Bk W g e cur ∧ ∀ (j : Nat) (u : Value), xs[j]? = some u → cur[j]? = some u := by
  rcases h.2 with ⟨_, h0⟩ | ⟨g, cap, cur, e1, hb, hg, hnc, hm, hsz, hx⟩
  · omega
  · refine ⟨g, cap, cur, e1, hb, hg, fun j u hu => ?_⟩
    rw [← hx, List.getElem?_take] at hu
    split at hu
    · simpa using hu
    · cases hu
theorem upd_same (f : Nat → Nat) (k m : Nat) : upd f k m k = m := by simp [upd]
theorem upd_far (f : Nat → Nat) (k j m : Nat) (h : j ≠ k) : upd f k m j = f j := by simp [upd, h]
theorem info_src : (Try.prog.info? 23).map (fun i => (i.zero, i.size, i.bytes)) = some (some (.pointer none), 1, 8) := by kernel_rfl
theorem runtil_yes (s : ByteArray) (k st : Nat) (x : UInt8) (w : World) (hk : k ≤ s.size) (hs : s.size ≤ 60000) (he : stop (isNot x) s k = st) (hl : st < s.size) :
    Calls Try.prog 15 #[.string s, .int .i64 k, .int .u8 x.toNat] w fun e w' => e = .returned (.tuple #[.string (s.extract k st), .int .i64 ((st : Int) + 1 - k), .bool true]) ∧ w' = w :=
  (runtil_any s k x w hk hs).mono fun _ _ ⟨h1, h2⟩ => ⟨h1.trans (untilOut_yes s k st x he hl).symm, h2⟩
theorem runtil_no (s : ByteArray) (k : Nat) (x : UInt8) (w : World) (hk : k ≤ s.size) (hs : s.size ≤ 60000) (he : stop (isNot x) s k = s.size) :
    Calls Try.prog 15 #[.string s, .int .i64 k, .int .u8 x.toNat] w fun e w' => e = .returned (.tuple #[.string ByteArray.empty, .int .i64 0, .bool false]) ∧ w' = w :=
  (runtil_any s k x w hk hs).mono fun _ _ ⟨h1, h2⟩ => ⟨h1.trans (untilOut_no s k x he).symm, h2⟩
set_option maxHeartbeats 2000000 in
set_option maxRecDepth 100000 in
theorem walk_plays (a b : ByteArray) (A : Option Addr) (n c : Nat) (w : World) (ha : a.size ≤ maxLen) (hb : b.size ≤ maxLen) (ho : Ops w A n) :
    Calls Try.prog 4 #[.string a, .string b, .slice A n c] w fun e w' => e = .returned (.bool true) ∧ Below w.heap.size w w' := by
  obtain ⟨ti, hi, hz0, hz1, hz2⟩ := info_parts info_src
  have ho := Lib.hid ho
  go_enter Try.func4, Try.ntmps4
  go_wp2_with (fail)
  refine (shown_any w).mono ?_
  rintro e w0 ⟨rfl, hB0⟩
  have hT := Bk.fresh w0 9 #[.string a, .string b]
  have hB := hB0.alloc hB0.size (.cells #[.string a, .string b] 9)
  have hsz : (w0.alloc (.cells #[.string a, .string b] 9)).heap.size = w0.heap.size + 1 := by simp
  have ht0 := hT.cell 0
  have ht1 := hT.cell 1
  go_wp2_with (fail)
  have hw1 : ∃ w1, w0.alloc (.cells #[.string a, .string b] 9) = w1 := ⟨_, rfl⟩
  obtain ⟨w1, hw1⟩ := hw1
  rw [hw1] at hT hB hsz ht0 ht1 ⊢
  clear hw1
  generalize w0.heap.size = tb at *
  have hbt := hB.size
  refine wp_loop_rounds 3 ?_
  rw [rounds_succ]
  by_cases hl : 60000 < a.size
  · have i1 : (60000 : Int) < a.size := by omega
    go_wp2_with (fail)
    refine (new_long a _ hl).mono ?_
    rintro e w2 ⟨rfl, rfl⟩
    go_wp2_with (fail)
    refine (rlong_any a _).mono ?_
    rintro e w3 ⟨rfl, rfl⟩
    rw [decide_eq_true i1]
    go_wp2
    go_returns
    exact ⟨rfl, hB⟩
  · have i1 : ¬ (60000 : Int) < a.size := by omega
    have hla : a.size ≤ 60000 := by omega
    go_wp2_with (fail)
    refine (new_ok a _ hla).mono ?_
    rintro e w2 ⟨rfl, rfl⟩
    have hS := new_src a w1
    have hT2 := hT.past (.cells #[.string a, .int .i64 0, .int .i64 0] 53)
    have hB2 := hB.alloc hbt (.cells #[.string a, .int .i64 0, .int .i64 0] 53)
    have hsz2 : (w1.alloc (.cells #[.string a, .int .i64 0, .int .i64 0] 53)).heap.size = w1.heap.size + 1 := by simp
    have hts := hT.lt
    clear hT hB ht0 ht1 hsz
    generalize w1.alloc (.cells #[.string a, .int .i64 0, .int .i64 0] 53) = w2 at *
    generalize w1.heap.size = sa at *
    have ht0 := hT2.cell 0
    have ht1 := hT2.cell 1
    have Hsz2 := Lib.hid hsz2
    clear hsz2
    go_wp2_with (fail)
    refine (rlong_any a _).mono ?_
    rintro e w3 ⟨rfl, rfl⟩
    rw [decide_eq_false (by omega : ¬ (60000 : Int) < a.size)]
    go_wp2_with (at_builtin; refine wpList_append_own _ rfl (.tmp 67) (.tmp 69) 34 rfl (sa + 1) 23 ti (.pointer none) 1 8 Try.underlying34 hi hz0 hz1 hz2 rfl (by decide) _ 0 [] rfl (World.ownsRow_nil _ _ _ _) ⟨w3.heap.size, 0, none⟩ 1 1 [.pointer (some ⟨sa, 0, none⟩)] rfl rfl ?c1 ?c2 (by decide) (by decide) (by have := Hsz2.out; simp; omega) ?_)
    case c1 =>
      intro j u hj
      match j, hj with
      | 0, hj => simp at hj; subst hj; simp [Addr.add]
    case c2 => intro u hu; simp at hu; subst hu; rfl
    intro v1 w4 hown1 hgr1 _
    have hT4 := (hT2.past _).grown hgr1 (by simp [Value.ownBlock])
    have hS4 : Src w4 sa a 0 := Bk.grown (hS.past _) hgr1 (by simp [Value.ownBlock])
    have hB4 := (hB2.alloc hB2.size _).grown hgr1 (by have := hB2.size; simp; omega) (fun k e => by simp [Value.ownBlock] at e)
    clear hT2 hS hB2 hgr1 ht0 ht1 Hsz2
    have ht0 := hT4.cell 0
    have ht1 := hT4.cell 1
    have hown1 := Lib.hid hown1
    go_wp2_with (fail)
    rw [rounds_succ]
    by_cases hl : 60000 < b.size
    · have i2 : (60000 : Int) < b.size := by omega
      go_wp2_with (fail)
      refine (new_long b _ hl).mono ?_
      rintro e w2 ⟨rfl, rfl⟩
      go_wp2_with (fail)
      refine (rlong_any b _).mono ?_
      rintro e w5 ⟨rfl, rfl⟩
      rw [decide_eq_true i2]
      go_wp2
      go_returns
      exact ⟨rfl, hB4⟩
    · have i2 : ¬ (60000 : Int) < b.size := by omega
      have hlb : b.size ≤ 60000 := by omega
      go_wp2_with (fail)
      refine (new_ok b _ hlb).mono ?_
      rintro e w5 ⟨rfl, rfl⟩
      have hQ := new_src b w4
      have hT5 := hT4.past (.cells #[.string b, .int .i64 0, .int .i64 0] 53)
      have hS5 : Src _ sa a 0 := hS4.past (.cells #[.string b, .int .i64 0, .int .i64 0] 53)
      have hB5 := hB4.alloc hB4.size (.cells #[.string b, .int .i64 0, .int .i64 0] 53)
      have hown5 := hown1.out.alloc (.cells #[.string b, .int .i64 0, .int .i64 0] 53)
      have hsz2 : (w4.alloc (.cells #[.string b, .int .i64 0, .int .i64 0] 53)).heap.size = w4.heap.size + 1 := by simp
      have hss := hS4.lt
      have hbs := hB4.size
      clear hT4 hS4 hB4 ht0 ht1 hown1
      generalize w4.alloc (.cells #[.string b, .int .i64 0, .int .i64 0] 53) = w5 at *
      generalize w4.heap.size = sb at *
      have ht0 := hT5.cell 0
      have ht1 := hT5.cell 1
      have Hsz2 := Lib.hid hsz2
      clear hsz2
      have hown5 := Lib.hid hown5
      go_wp2_with (fail)
      refine (rlong_any b _).mono ?_
      rintro e w6 ⟨rfl, rfl⟩
      rw [decide_eq_false (by omega : ¬ (60000 : Int) < b.size)]
      go_wp2_with (at_builtin; refine wpList_append_own _ rfl (.tmp 67) (.tmp 69) 34 rfl (sa + 1) 23 ti (.pointer none) 1 8 Try.underlying34 hi hz0 hz1 hz2 rfl (by decide) _ 1 [.pointer (some ⟨sa, 0, none⟩)] rfl (hown5.out.alloc _) ⟨w6.heap.size, 0, none⟩ 1 1 [.pointer (some ⟨sb, 0, none⟩)] rfl rfl ?d1 ?d2 (by decide) (by decide) (by have := Hsz2.out; simp; omega) ?_)
      case d1 =>
        intro j u hj
        match j, hj with
        | 0, hj => simp at hj; subst hj; simp [Addr.add]
      case d2 => intro u hu; simp at hu; subst hu; rfl
      intro v2 w7 hown7 hgr7 _
      have hr7 : ∀ k, v1.ownBlock = some k → sa + 1 ≤ k ∧ k < w6.heap.size := fun k e => hown5.out.lt k e
      have hT7 := (hT5.past (.cells #[.pointer (some ⟨sb, 0, none⟩)] 23)).grown hgr7 (fun e => by have := hr7 _ e.symm; omega)
      have hS7 : Src w7 sa a 0 := Bk.grown (hS5.past (.cells #[.pointer (some ⟨sb, 0, none⟩)] 23)) hgr7 (fun e => by have := hr7 _ e.symm; omega)
      have hB7 := (hB5.alloc hB5.size (.cells #[.pointer (some ⟨sb, 0, none⟩)] 23)).grown hgr7 (by have := hB5.size; simp; omega) (fun k e => by have := hr7 _ e; omega)
      have hQ7 : Src w7 sb b 0 := Bk.grown (hQ.past (.cells #[.pointer (some ⟨sb, 0, none⟩)] 23)) hgr7 (fun e => by
        obtain ⟨g, cap, cur, e1, _, hg, _⟩ := own_block hown5.out (by decide)
        rw [e1] at e
        simp [Value.ownBlock] at e
        exact Bk.ne hg hQ (by decide) e.symm)
      clear hT5 hS5 hB5 hQ hgr7 ht0 ht1 hown5 Hsz2 hr7
      obtain ⟨g, cap, cur, rfl, hga, hG7, hcur⟩ := own_block hown7 (by decide)
      have hc0 := hcur 0 _ rfl
      have hc1 := hcur 1 _ rfl
      have hgt := Bk.ne hG7 hT7 (by decide)
      have hgs := Bk.ne hG7 hS7 (by decide)
      have hgq := Bk.ne hG7 hQ7 (by decide)
      have hts2 := Bk.ne hT7 hS7 (by decide)
      have htq2 := Bk.ne hT7 hQ7 (by decide)
      clear hown7 hcur
      go_wp2_with (fail)
      rw [rounds_succ]
      go_wp2_with (fail)
      have hbs8 := hB7.size
      have hP8 : Pl w (w7.alloc (.cells #[.int .i64 0, .int .i64 0] 3)) tb g w7.heap.size cur (fun i => if i = 0 then sa else sb) (fun i => if i = 0 then a else b) (fun _ => 0) (fun _ => 0) :=
        ⟨hT7.past _, hG7.past _, Bk.fresh _ _ _, hS7.past _, hQ7.past _, Nat.zero_le _, Nat.zero_le _, hB7.alloc hbs8 _⟩
      have hPos : Pos w tb g w7.heap.size cur (fun i => if i = 0 then sa else sb) :=
        ⟨hc0, hc1, by show sa ≠ sb; omega, ⟨hts2.symm, hgs.symm, by have := hS7.lt; show sa ≠ _; omega, hbt⟩, ⟨htq2.symm, hgq.symm, by have := hQ7.lt; show sb ≠ _; omega, hbs⟩, ⟨by have := hT7.lt; omega, by have := hG7.lt; omega, hbs8⟩⟩
      have hTT : ∀ k, k < 2 → ((fun i => if i = 0 then a else b) k : ByteArray).size ≤ 60000 := fun k hk => by show (if k = 0 then a else b : ByteArray).size ≤ 60000; split <;> assumption
      generalize (fun i => if i = 0 then sa else sb) = S at *
      generalize (fun i => if i = 0 then a else b : Nat → ByteArray) = T at *
      obtain ⟨w8, hw8⟩ : ∃ w8, w7.alloc (.cells #[.int .i64 0, .int .i64 0] 3) = w8 := ⟨_, rfl⟩
      rw [hw8] at hP8 ⊢
      clear hw8 hT7 hS7 hB7 hQ7 hG7 hc0 hc1
      generalize w7.heap.size = ab at *
      have hTT := Lib.hid hTT
      have hPos := Lib.hid hPos
      have HO := Lib.hid ho.out
      clear ho hbs8 hgt hgs hgq hts2 htq2
      go_loopw [14] (fun i wr => ∃ (i' : Nat) (P : Nat → Nat), i = .int .i64 i' ∧ i' ≤ n ∧ Pl w wr tb g ab cur S T P P) (fun i _ => n - (intOf i).toNat)
      case atStart => exact ⟨0, _, rfl, by omega, hP8⟩
      case round =>
        obtain ⟨i, P, rfl, hin, hP⟩ := hrel
        clear hP8
        by_cases h1 : i < n
        · have i1 : (i : Int) < n := by omega
          by_cases h4 : i < 400
          · have i4 : (i : Int) < 400 := by omega
            have i0 : (0 : Int) ≤ i := by omega
            obtain ⟨ob, off, f, kd, x, rfl, hob, o0, o1, o2, hf, hkd⟩ := HO.out.2 i h1
            have p0 := (hP.below.cell (p := ⟨ob, off + i * 3, none⟩) hob).trans o0
            have p1 := (hP.below.cell (p := ⟨ob, off + i * 3 + 1, none⟩) hob).trans o1
            have p2 := (hP.below.cell (p := ⟨ob, off + i * 3 + 2, none⟩) hob).trans o2
            have o2 := Lib.hid o2
            clear o0 o1
            go_wp2_with (fail)
            refine (pick_any f 2 _ hf.1 hf.2 (by decide) (by decide)).mono ?_
            rintro e w9 ⟨k, rfl, hk2, rfl⟩
            have hk : k < 2 := by omega
            obtain ⟨j, hkj, hj, hjk⟩ : ∃ j : Nat, (1 : Int) - k = (j : Int) ∧ j < 2 ∧ j ≠ k := ⟨1 - k, by omega, by omega, by omega⟩
            have j2 : (j : Int) < 2 := by omega
            have k0 : (0 : Int) ≤ k := by omega
            have j0 : (0 : Int) ≤ j := by omega
            have hts := hTT.out k hk
            have ct := hP.t hk
            have cg := hP.l hPos.out hk
            have ca := hP.p hk
            go_wp2_with (fail)
            refine (pick_any kd 4 _ hkd.1 hkd.2 (by decide) (by decide)).mono ?_
            rintro e w10 ⟨q, rfl, hq4, rfl⟩
            have hq : q = 0 ∨ q = 1 ∨ q = 2 ∨ q = 3 := by omega
            rcases hq with rfl | rfl | rfl | rfl
            · go_wp2_with (fail)
              refine (word_any (S k) (T k) (P k) _ (hP.s hk) (hP.le hk) hts).mono ?_
              rintro e w11 ⟨rfl, hS11, hO11⟩
              have hbd := w_bounds (T k) (P k) (hP.le hk)
              have hP11 := hP.step hPos.out hk hO11 hS11 hbd.2.2.2.2.2
              have hle := hP.le hk
              clear ct cg ca p0 p1 p2 hS11 hO11 hP
              have ct11 := hP11.t hk
              have ca11 := hP11.p hk
              have fr11 := hP11.pos.free k
              go_wp2_with (fail)
              refine (rword_any (T k) (P k) _ hle hts).mono ?_
              rintro e w12 ⟨rfl, rfl⟩
              generalize wNext (T k) (P k) = m at *
              have hm1 : m ≤ (T k).size := hbd.2.2.2.2.2
              have q0 : (P k : Int) + (m - P k) = m := by omega
              clear hbd
              go_wp2_with (fail)
              obtain ⟨w13, hw13⟩ : ∃ w13, w12.setCell ⟨ab, k, none⟩ (.int .i64 (m : Int)) = w13 := ⟨_, rfl⟩
              have hP13 := hP11.store hPos.out hk m
              rw [hw13] at hP13 ⊢
              clear hw13 hP11 ct11 ca11 fr11
              have ck := hP13.p hk
              have cj := hP13.p hj
              have ct13 := hP13.t hk
              have cl13 := hP13.l hPos.out hj
              have sk := hP13.s hk
              have sj := hP13.s hj
              rw [upd_same] at ck sk
              rw [upd_far _ _ _ _ hjk] at cj sj
              have hP13 := Lib.hid hP13
              go_quiet ((first | (go_at_call 10; exact Calls.quiet_of_same (at_any (S k) (T k) m _ (sk.draws _))) | (go_at_call 10; exact Calls.quiet_of_same (at_any (S j) (T j) (P j) _ (sj.draws _))) | (go_at_call 18; exact Calls.quiet_of_same (line_any (S k) (T k) m _ (sk.draws _) (by omega))) | (go_at_call 19; exact Calls.quiet_of_same (rline_any (T k) m _ hm1 hts))))
              go_wp2
              exact ⟨⟨i + 1, upd P k m, by simp, by omega, (hP13.out.draws _)⟩, by simp [intOf]; omega⟩
            · go_wp2_with (fail)
              refine (word_any (S k) (T k) (P k) _ (hP.s hk) (hP.le hk) hts).mono ?_
              rintro e w11 ⟨rfl, hS11, hO11⟩
              have hbd := w_bounds (T k) (P k) (hP.le hk)
              have hP11 := hP.step hPos.out hk hO11 hS11 hbd.2.2.2.2.2
              have hle := hP.le hk
              clear ct cg ca p0 p1 p2 hS11 hO11 hP
              have ct11 := hP11.t hk
              have ca11 := hP11.p hk
              have fr11 := hP11.pos.free k
              go_wp2_with (fail)
              refine (rword_any (T k) (P k) _ hle hts).mono ?_
              rintro e w12 ⟨rfl, rfl⟩
              generalize wNext (T k) (P k) = m at *
              have hm1 : m ≤ (T k).size := hbd.2.2.2.2.2
              have q0 : (P k : Int) + (m - P k) = m := by omega
              clear hbd
              go_wp2_with (fail)
              obtain ⟨w13, hw13⟩ : ∃ w13, w12.setCell ⟨ab, k, none⟩ (.int .i64 (m : Int)) = w13 := ⟨_, rfl⟩
              have hP13 := hP11.store hPos.out hk m
              rw [hw13] at hP13 ⊢
              clear hw13 hP11 ct11 ca11 fr11
              have ck := hP13.p hk
              have cj := hP13.p hj
              have ct13 := hP13.t hk
              have cl13 := hP13.l hPos.out hj
              have sk := hP13.s hk
              have sj := hP13.s hj
              rw [upd_same] at ck sk
              rw [upd_far _ _ _ _ hjk] at cj sj
              have hP13 := Lib.hid hP13
              go_quiet ((first | (go_at_call 10; exact Calls.quiet_of_same (at_any (S k) (T k) m _ (sk.draws _))) | (go_at_call 10; exact Calls.quiet_of_same (at_any (S j) (T j) (P j) _ (sj.draws _))) | (go_at_call 18; exact Calls.quiet_of_same (line_any (S k) (T k) m _ (sk.draws _) (by omega))) | (go_at_call 19; exact Calls.quiet_of_same (rline_any (T k) m _ hm1 hts))))
              go_wp2
              exact ⟨⟨i + 1, upd P k m, by simp, by omega, (hP13.out.draws _)⟩, by simp [intOf]; omega⟩
            · have hle := hP.le hk
              have hst := stop_le (isNot x) (T k) (P k) hle
              have hst2 := stop_ge (isNot x) (T k) (P k)
              by_cases hfd : stop (isNot x) (T k) (P k) < (T k).size
              · obtain ⟨m, hm⟩ : ∃ m, m = stop (isNot x) (T k) (P k) + 1 := ⟨_, rfl⟩
                have hm1 : m ≤ (T k).size := by omega
                have hmm := Lib.hid hm
                clear hm
                go_wp2_with (fail)
                refine (until_yes (S k) (T k) (P k) x _ (hP.s hk) hle hts hfd).mono ?_
                rintro e w11 ⟨rfl, hS11, hO11⟩
                have hP11 := hP.step hPos.out hk hO11 hS11 (by omega)
                clear ct cg ca p0 p1 p2 hS11 hO11 hP
                have ct11 := hP11.t hk
                have ca11 := hP11.p hk
                have fr11 := hP11.pos.free k
                have p11 := (hP11.below.cell (p := ⟨ob, off + i * 3 + 2, none⟩) hob).trans o2.out
                go_wp2_with (fail)
                rw [← hmm.out] at hP11
                have q0 : (P k : Int) + ((stop (isNot x) (T k) (P k) : Int) + 1 - P k) = (m : Int) := by have := hmm.out; omega
                have hse : ∃ st, stop (isNot x) (T k) (P k) = st := ⟨_, rfl⟩
                obtain ⟨st, hse⟩ := hse
                rw [hse] at hfd q0 ⊢
                have hse := Lib.hid hse
                clear hst hst2
                go_quiet ((go_at_call 15; exact Calls.quiet_of_same (runtil_yes (T k) (P k) st x _ hle hts hse.out hfd)))
                go_wp2_with (fail)
                obtain ⟨w13, hw13⟩ : ∃ w13, (w11.drewN nq).setCell ⟨ab, k, none⟩ (.int .i64 (m : Int)) = w13 := ⟨_, rfl⟩
                have hP13 := (hP11.draws nq).store hPos.out hk m
                rw [hw13] at hP13 ⊢
                clear hw13 hP11 ct11 ca11 fr11 p11
                have ck := hP13.p hk
                have cj := hP13.p hj
                have ct13 := hP13.t hk
                have cl13 := hP13.l hPos.out hj
                have sk := hP13.s hk
                have sj := hP13.s hj
                rw [upd_same] at ck sk
                rw [upd_far _ _ _ _ hjk] at cj sj
                have hP13 := Lib.hid hP13
                go_quiet ((first | (go_at_call 10; exact Calls.quiet_of_same (at_any (S k) (T k) m _ (sk.draws _))) | (go_at_call 10; exact Calls.quiet_of_same (at_any (S j) (T j) (P j) _ (sj.draws _))) | (go_at_call 18; exact Calls.quiet_of_same (line_any (S k) (T k) m _ (sk.draws _) (by omega))) | (go_at_call 19; exact Calls.quiet_of_same (rline_any (T k) m _ hm1 hts))))
                go_wp2
                exact ⟨⟨i + 1, upd P k m, by simp, by omega, (hP13.out.draws _)⟩, by simp [intOf]; omega⟩
              · have hfd2 : stop (isNot x) (T k) (P k) = (T k).size := by omega
                have hm1 : P k ≤ (T k).size := hle
                go_wp2_with (fail)
                refine (until_no (S k) (T k) (P k) x _ (hP.s hk) hle hts hfd2).mono ?_
                rintro e w11 ⟨rfl, hS11, hO11⟩
                have hP11 := hP.step hPos.out hk hO11 hS11 hle
                clear ct cg ca p0 p1 p2 hS11 hO11 hP
                have ct11 := hP11.t hk
                have ca11 := hP11.p hk
                have fr11 := hP11.pos.free k
                have p11 := (hP11.below.cell (p := ⟨ob, off + i * 3 + 2, none⟩) hob).trans o2.out
                have hfd2 := Lib.hid hfd2
                clear hst hst2 hfd
                go_wp2_with (fail)
                go_quiet ((go_at_call 15; exact Calls.quiet_of_same (runtil_no (T k) (P k) x _ hle hts hfd2.out)))
                go_wp2_with (fail)
                obtain ⟨w13, hw13⟩ : ∃ w13, (w11.drewN nq).setCell ⟨ab, k, none⟩ (.int .i64 (P k : Int)) = w13 := ⟨_, rfl⟩
                have hP13 := (hP11.draws nq).store hPos.out hk (P k)
                rw [hw13] at hP13 ⊢
                clear hw13 hP11 ct11 ca11 fr11 p11
                have ck := hP13.p hk
                have cj := hP13.p hj
                have ct13 := hP13.t hk
                have cl13 := hP13.l hPos.out hj
                have sk := hP13.s hk
                have sj := hP13.s hj
                rw [upd_same] at ck sk
                rw [upd_far _ _ _ _ hjk] at cj sj
                have hP13 := Lib.hid hP13
                go_quiet ((first | (go_at_call 10; exact Calls.quiet_of_same (at_any (S k) (T k) (P k) _ (sk.draws _))) | (go_at_call 10; exact Calls.quiet_of_same (at_any (S j) (T j) (P j) _ (sj.draws _))) | (go_at_call 18; exact Calls.quiet_of_same (line_any (S k) (T k) (P k) _ (sk.draws _) (by omega))) | (go_at_call 19; exact Calls.quiet_of_same (rline_any (T k) (P k) _ hm1 hts))))
                go_wp2
                exact ⟨⟨i + 1, upd P k (P k), by simp, by omega, (hP13.out.draws _)⟩, by simp [intOf]; omega⟩
            · go_wp2_with (fail)
              refine (rest_any (S k) (T k) (P k) _ (hP.s hk) (hP.le hk) hts).mono ?_
              rintro e w11 ⟨rfl, hS11, hO11⟩
              have hbd := l_bounds (T k) (P k) (hP.le hk)
              have hP11 := hP.step hPos.out hk hO11 hS11 hbd.2
              have hle := hP.le hk
              clear ct cg ca p0 p1 p2 hS11 hO11 hP
              have ct11 := hP11.t hk
              have ca11 := hP11.p hk
              have fr11 := hP11.pos.free k
              go_wp2_with (fail)
              refine (rrest_any (T k) (P k) _ hle hts).mono ?_
              rintro e w12 ⟨rfl, rfl⟩
              generalize lNext (T k) (P k) = m at *
              have hm1 : m ≤ (T k).size := hbd.2
              have q0 : (P k : Int) + (m - P k) = m := by omega
              clear hbd
              go_wp2_with (fail)
              obtain ⟨w13, hw13⟩ : ∃ w13, w12.setCell ⟨ab, k, none⟩ (.int .i64 (m : Int)) = w13 := ⟨_, rfl⟩
              have hP13 := hP11.store hPos.out hk m
              rw [hw13] at hP13 ⊢
              clear hw13 hP11 ct11 ca11 fr11
              have ck := hP13.p hk
              have cj := hP13.p hj
              have ct13 := hP13.t hk
              have cl13 := hP13.l hPos.out hj
              have sk := hP13.s hk
              have sj := hP13.s hj
              rw [upd_same] at ck sk
              rw [upd_far _ _ _ _ hjk] at cj sj
              have hP13 := Lib.hid hP13
              go_quiet ((first | (go_at_call 10; exact Calls.quiet_of_same (at_any (S k) (T k) m _ (sk.draws _))) | (go_at_call 10; exact Calls.quiet_of_same (at_any (S j) (T j) (P j) _ (sj.draws _))) | (go_at_call 18; exact Calls.quiet_of_same (line_any (S k) (T k) m _ (sk.draws _) (by omega))) | (go_at_call 19; exact Calls.quiet_of_same (rline_any (T k) m _ hm1 hts))))
              go_wp2
              exact ⟨⟨i + 1, upd P k m, by simp, by omega, (hP13.out.draws _)⟩, by simp [intOf]; omega⟩
          · have i4 : ¬ (i : Int) < 400 := by omega
            go_wp2
            go_returns
            exact ⟨rfl, hP.below⟩
        · have i1 : ¬ (i : Int) < n := by omega
          go_wp2
          go_returns
          exact ⟨rfl, hP.below⟩
end Go.Proofs.Ytihepdnnafdkdaa
