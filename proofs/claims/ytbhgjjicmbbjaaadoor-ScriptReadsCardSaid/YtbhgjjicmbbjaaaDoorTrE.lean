import Derived.Test.YtbhgjjicmbbjaaaDoorTrD
import Derived.Test.YtbhgjjicmbbjaaaDoorOwn
namespace Go.Proofs.YtbhgjjicmbbjaaaDoor
open Go.RowKit
set_option linter.unusedVariables false
set_option linter.unusedSimpArgs false
/-! chapter 17: quoted -/
theorem u8s_one (l : List UInt8) : ∀ u ∈ u8s l, u.oneCell' = true := by
  intro u hu
  obtain ⟨c, _, rfl⟩ := List.mem_map.1 hu
  rfl
theorem u8_app {w : World} {base : Nat} {V : Value} {n : Nat} {L : List UInt8} (M : List UInt8) (h : w.ownsRow base 5 1 V n (u8s L)) (hb : base ≤ w.heap.size) (hl : n + M.length ≤ 4398046511102) :
    ∃ A' c' w2, (Builtin.append_ #[77, 77] 77 #[V, .slice (some ⟨w.heap.size, 0, none⟩) M.length M.length]).run Tryd.prog (w.alloc (.cells (u8s M).toArray 5)) = .ok (.slice A' (n + M.length) c') w2 ∧
      w2.ownsRow base 5 1 (.slice A' (n + M.length) c') (n + M.length) (u8s (L ++ M)) ∧ w.grownBy w2 V.ownBlock := by
  obtain ⟨i9, hi, hz0, hz1, hz2⟩ := info_parts info_u8
  have hrow := h.alloc (.cells (u8s M).toArray 5)
  obtain ⟨v', w2, hrun, hown, hgr, _⟩ := run_append_own (P := Tryd.prog) (w.alloc (.cells (u8s M).toArray 5)) base 77 77 5 i9 _ 1 1 Tryd.underlying77 hi hz0 hz1 hz2 rfl (by decide) V n (u8s L) hrow ⟨w.heap.size, 0, none⟩ M.length M.length (u8s M) (by simp [u8s]) (fun j u hu => by
    have := (Bk.fresh w 5 (u8s M).toArray).cell j
    rw [show ((⟨w.heap.size, 0, none⟩ : Addr).add j) = ⟨w.heap.size, j, none⟩ by unfold Addr.add; split <;> simp_all]
    exact this.trans (by simpa using hu)) (u8s_one M) (by unfold maxLen; omega) (by omega) (by simp; omega)
  obtain ⟨A', c', rfl⟩ := own_form hown
  have hg0 := World.grownBy_alloc w (.cells (u8s M).toArray 5) V.ownBlock
  refine ⟨A', c', w2, hrun, ?_, ⟨hgr.os.trans hg0.os, hgr.tape.trans hg0.tape, hgr.output.trans hg0.output, Nat.le_trans hg0.size hgr.size, fun k hk hn => (hgr.block k (Nat.lt_of_lt_of_le hk hg0.size) hn).trans (hg0.block k hk hn)⟩⟩
  rw [← u8s_append]
  exact hown
theorem u8_appd {w : World} {base : Nat} {V : Value} {n : Nat} {L : List UInt8} (M : List UInt8) (h : w.ownsRow base 5 1 V n (u8s L)) (hb : base ≤ w.heap.size) (hl : n + M.length ≤ 4398046511102) :
    ∃ A' c' w2, (Builtin.append_ #[77, 77] 77 #[V, .slice (some ⟨w.heap.size, 0, none⟩) M.length M.length]).run Tryd.prog (w.alloc (.cells (u8s M).toArray 5)).drew = .ok (.slice A' (n + M.length) c') w2 ∧
      w2.ownsRow base 5 1 (.slice A' (n + M.length) c') (n + M.length) (u8s (L ++ M)) ∧ w.grownBy w2 V.ownBlock := by
  obtain ⟨i9, hi, hz0, hz1, hz2⟩ := info_parts info_u8
  have hrow := own_draws (h.alloc (.cells (u8s M).toArray 5)) 1
  obtain ⟨v', w2, hrun, hown, hgr, _⟩ := run_append_own (P := Tryd.prog) (w.alloc (.cells (u8s M).toArray 5)).drew base 77 77 5 i9 _ 1 1 Tryd.underlying77 hi hz0 hz1 hz2 rfl (by decide) V n (u8s L) hrow ⟨w.heap.size, 0, none⟩ M.length M.length (u8s M) (by simp [u8s]) (fun j u hu => by
    have := (Bk.fresh w 5 (u8s M).toArray).cell j
    rw [show ((⟨w.heap.size, 0, none⟩ : Addr).add j) = ⟨w.heap.size, j, none⟩ by unfold Addr.add; split <;> simp_all]
    exact this.trans (by simpa using hu)) (u8s_one M) (by unfold maxLen; omega) (by omega) (Nat.le_trans hb (by show w.heap.size ≤ (w.alloc _).heap.size; simp))
  obtain ⟨A', c', rfl⟩ := own_form hown
  have hg0 := World.grownBy_alloc w (.cells (u8s M).toArray 5) V.ownBlock
  refine ⟨A', c', w2, hrun, ?_, ⟨hgr.os.trans hg0.os, hgr.tape.trans hg0.tape, hgr.output.trans hg0.output, Nat.le_trans hg0.size hgr.size, fun k hk hn => (hgr.block k (Nat.lt_of_lt_of_le hk hg0.size) hn).trans (hg0.block k hk hn)⟩⟩
  rw [← u8s_append]
  exact hown
theorem wpList_append_run {P : Program} {w w2 : World} {ops : Array Oper} {rest : List Oper} {o : Oper} {a : Act} {Q : Exit → Act → World → Prop} (hgd : o.guard = none) (s x : Operand) (t : TypeId)
    (ho : o.op = .call { callee := .builtin .append, args := #[s, x], argTypes := #[t, t] }) (v0 v1 V : Value) (hs : a.eval s = v0) (hx : a.eval x = V)
    (hrun : (Builtin.append_ #[t, t] o.type #[v0, V]).run P w = .ok v1 w2) (h : wpList P ops Q rest (a.put o.dst v1) w2) : wpList P ops Q (o :: rest) a w := by
  refine wpList_plain hgd fun K hK => ?_
  unfold Oper.wp execOp
  simp only [ho, resolve, invoke, builtin, Sem.run_bind, Sem.run_pure, Result.andThen_ok, List.map_toArray, List.map_cons, List.map_nil, hs, hx, hrun]
  exact hK _ _ h
theorem step_append_run {P : Program} {w w2 : World} {ops : Array Oper} {o : Oper} {a : Act} {K : Act → World → Prop} {Q : Exit → Act → World → Prop} {E : Prop} (hgd : o.guard = none) (s x : Operand) (t : TypeId)
    (ho : o.op = .call { callee := .builtin .append, args := #[s, x], argTypes := #[t, t] }) (v0 v1 V : Value) (hs : a.eval s = v0) (hx : a.eval x = V)
    (hrun : (Builtin.append_ #[t, t] o.type #[v0, V]).run P w = .ok v1 w2) (h : K (a.put o.dst v1) w2) :
    if Region.wanted o (yielded ops a.tmps) = true then Oper.wp P o a w K Q else E := by
  have hw : Region.wanted o (yielded ops a.tmps) = true := by simp [Region.wanted, hgd]
  rw [if_pos hw]
  unfold Oper.wp execOp
  simp only [ho, resolve, invoke, builtin, Sem.run_bind, Sem.run_pure, Result.andThen_ok, List.map_toArray, List.map_cons, List.map_nil, hs, hx, hrun]
  exact h
theorem below_grown2 {B : Nat} {a b c : World} {row : Option Nat} (h : Below B a b) (hg : b.grownBy c row) (hB : B ≤ b.heap.size) (hr : ∀ k, row = some k → B ≤ k) : Below B a c :=
  ⟨hg.os.trans h.os, hg.tape.trans h.tape, hg.output.trans h.output, Nat.le_trans h.size hg.size, fun k hk => (hg.block k (by omega) (fun e => by have := hr k e.symm; omega)).trans (h.block k hk)⟩
theorem own_ge {W : World} {base n size : Nat} {e : TypeId} {v : Value} {xs : List Value} (h : W.ownsRow base e size v n xs) : ∀ k, v.ownBlock = some k → base ≤ k := by
  intro k hk
  rcases h.2 with ⟨rfl, _⟩ | ⟨g, cap, cur, rfl, hb, _⟩
  · simp [Value.ownBlock] at hk
  · simp [Value.ownBlock] at hk; omega
def hxB : ByteArray := ⟨#[48, 49, 50, 51, 52, 53, 54, 55, 56, 57, 97, 98, 99, 100, 101, 102]⟩
theorem and15 : ∀ z : Fin 256, bits .and .u8 (z.val : Int) 15 = ((z.val % 16 : Nat) : Int) := by decide +kernel
theorem hxB_at : ∀ k : Fin 16, hxB.data[k.val]? = some (hx k.val) := by decide +kernel
theorem hx_index (k : Int) (h0 : 0 ≤ k) (h1 : k < 16) (kd : IntKind) (w : World) : (Instr.index 9 (.string hxB) (.int kd k)).run Tryd.prog w = .ok (.int .u8 ((hx k.toNat).toNat : Int)) w := by
  have hsz : hxB.size = 16 := rfl
  rw [run_index_string w 9 hxB kd k Tryd.underlying9, dif_pos ⟨h0, by rw [hsz]; exact h1⟩]
  have h := hxB_at ⟨k.toNat, by omega⟩
  have h2 : hxB[k.toNat]'(by rw [hsz]; omega) = hx k.toNat := by
    have h3 : hxB.data[k.toNat]? = some (hxB.data[k.toNat]'(by have : hxB.data.size = 16 := rfl; omega)) := Array.getElem?_eq_getElem _
    rw [h3] at h
    exact Option.some.inj h
  rw [h2]
set_option maxRecDepth 100000 in
set_option maxHeartbeats 4000000 in
theorem quoted_any (s : ByteArray) (hs : s.size ≤ 400000) (w : World) : Calls Tryd.prog 46 #[.string s] w fun e w' => e = .returned (.string ⟨(quoteL s.data.toList).toArray⟩) ∧ Below w.heap.size w w' := by
  have hs' : (s.size : Int) ≤ 400000 := by omega
  go_enter Tryd.func46, Tryd.ntmps46
  go_wp2_with (fail)
  go_loopw [3, 9] (fun x3 x9 wr => ∃ (A : Option Addr) (c n k : Nat), x3 = .slice A n c ∧ x9 = .int .i64 k ∧ k ≤ s.size ∧ n ≤ 4 * k + 1 ∧ Hid (∃ L, L.length = n ∧ wr.ownsRow w.heap.size 5 1 (.slice A n c) n (u8s L) ∧ Below w.heap.size w wr ∧ L = 34 :: (s.data.toList.take k).flatMap qb)) (fun _ x9 _ => s.size - (intOf x9).toNat)
  case atStart =>
    refine ⟨_, _, _, 0, rfl, rfl, Nat.zero_le _, Nat.le_refl _, [34], rfl, ?_, (Below.refl _ _).alloc (Nat.le_refl _) _, rfl⟩
    exact World.ownsRow_lit (base := w.heap.size) (e := 5) (size := 1) w #[.int .u8 34] 1 (Nat.le_refl _) (by unfold maxLen; omega) rfl
  case round =>
    obtain ⟨A, c, n, k, rfl, rfl, hk, hn, hQ⟩ := hrel
    by_cases hlt : k < s.size
    · have hlt' : (k : Int) < (s.size : Int) := by omega
      obtain ⟨ch, hch⟩ : ∃ ch, s[k] = ch := ⟨_, rfl⟩
      have hidx : ∀ w, (Instr.index 9 (.string s) (.int .i64 (k : Int))).run Tryd.prog w = .ok (.int .u8 (ch.toNat : Int)) w := fun w => by
        rw [run_index_string w 9 s .i64 (k : Int) Tryd.underlying9, dif_pos ⟨by omega, by omega⟩]
        rw [← hch]
        rfl
      have hcl := ch.toNat_lt
      obtain ⟨z, hz⟩ : ∃ z, ch.toNat = z := ⟨_, rfl⟩
      rw [hz] at hidx hcl
      have hzi : (z : Int) < 256 := by omega
      have htk : s.data.toList.take (k + 1) = s.data.toList.take k ++ [ch] := by
        rw [List.take_add_one, List.getElem?_eq_getElem (by rw [data_size]; exact hlt)]
        congr 1
        rw [← hch]
        rfl
      by_cases h1 : z < 32
      · skip
        have h1' : (z : Int) < 32 := by omega
        obtain ⟨L, hL, hown, hB, hLe⟩ := hQ.out
        have e1 := hx_index ((z : Int) / 16) (by omega) (by omega) .u8
        have e2 := hx_index ((z : Int) % 16) (by omega) (by omega) .u8
        have ea : bits .and .u8 (z : Int) 15 = (z : Int) % 16 := and15 ⟨z, by omega⟩
        rw [show ((z : Int) % 16).toNat = z % 16 by omega] at e2
        rw [show ((z : Int) / 16).toNat = z / 16 by omega] at e1
        obtain ⟨x1, hx1⟩ : ∃ x, hx (z / 16) = x := ⟨_, rfl⟩
        obtain ⟨x2, hx2⟩ : ∃ x, hx (z % 16) = x := ⟨_, rfl⟩
        rw [hx1] at e1
        rw [hx2] at e2
        unfold hxB at e1 e2
        have hqb : qb ch = [92, 120, x1, x2] := by
          unfold qb
          rw [if_pos (by unfold odd; rw [hz]; simp; omega), hz, hx1, hx2]
        have hnx : L ++ [92, 120, x1, x2] = 34 :: (s.data.toList.take (k + 1)).flatMap qb := by rw [hLe, htk, List.flatMap_append, List.cons_append]; simp [hqb]
        have hnl : (L ++ [92, 120, x1, x2]).length = n + 4 := by rw [List.length_append, hL]; rfl
        obtain ⟨A2, c2, w5, hrun, hown2, hgr⟩ := u8_appd (w := wr) [92, 120, x1, x2] hown hB.size (by simp; omega)
        have hnw : Hid (∃ L, L.length = n + 4 ∧ w5.ownsRow w.heap.size 5 1 (.slice A2 (n + 4) c2) (n + 4) (u8s L) ∧ Below w.heap.size w w5 ∧ L = 34 :: (s.data.toList.take (k + 1)).flatMap qb) := ⟨_, hnl, hown2, below_grown2 hB hgr hB.size (own_ge hown), hnx⟩
        simp [u8s] at hrun
        replace hrun := Lib.hid hrun
        replace hL := Lib.hid hL
        replace hLe := Lib.hid hLe
        replace hz := Lib.hid hz
        replace hn := Lib.hid hn
        replace hk := Lib.hid hk
        replace hcl := Lib.hid hcl
        replace hch := Lib.hid hch
        clear hown hB hQ hgr hqb hnx hnl hown2 htk hx1 hx2
        go_upto_region 7 with (fail)
        clear h1
        try clear h1'
        try clear h2
        try clear h2'
        try clear h3
        try clear h3'
        try clear h4
        try clear h4'
        go_region_held3 (fun _ => True) (first | (simp [go_sem, *]; done) | go_keep) (first
          | (refine step_append_run rfl (.tmp 29) (.tmp 36) 77 rfl (.slice A n c) _ _ rfl rfl hrun.out ?_; have kS : True := trivial))
        all_goals
          go_wp2_with (fail)
          exact ⟨⟨A2, c2, n + 4, k + 1, rfl, rfl, by have := hk.out; omega, by have := hn.out; omega, hnw⟩, by simp [intOf]; omega⟩
      · have h1' : ¬ (z : Int) < 32 := by omega
        by_cases h2 : 126 < z
        · skip
          have h2' : (126 : Int) < z := by omega
          obtain ⟨L, hL, hown, hB, hLe⟩ := hQ.out
          have e1 := hx_index ((z : Int) / 16) (by omega) (by omega) .u8
          have e2 := hx_index ((z : Int) % 16) (by omega) (by omega) .u8
          have ea : bits .and .u8 (z : Int) 15 = (z : Int) % 16 := and15 ⟨z, by omega⟩
          rw [show ((z : Int) % 16).toNat = z % 16 by omega] at e2
          rw [show ((z : Int) / 16).toNat = z / 16 by omega] at e1
          obtain ⟨x1, hx1⟩ : ∃ x, hx (z / 16) = x := ⟨_, rfl⟩
          obtain ⟨x2, hx2⟩ : ∃ x, hx (z % 16) = x := ⟨_, rfl⟩
          rw [hx1] at e1
          rw [hx2] at e2
          unfold hxB at e1 e2
          have hqb : qb ch = [92, 120, x1, x2] := by
            unfold qb
            rw [if_pos (by unfold odd; rw [hz]; simp; omega), hz, hx1, hx2]
          have hnx : L ++ [92, 120, x1, x2] = 34 :: (s.data.toList.take (k + 1)).flatMap qb := by rw [hLe, htk, List.flatMap_append, List.cons_append]; simp [hqb]
          have hnl : (L ++ [92, 120, x1, x2]).length = n + 4 := by rw [List.length_append, hL]; rfl
          obtain ⟨A2, c2, w5, hrun, hown2, hgr⟩ := u8_appd (w := wr) [92, 120, x1, x2] hown hB.size (by simp; omega)
          have hnw : Hid (∃ L, L.length = n + 4 ∧ w5.ownsRow w.heap.size 5 1 (.slice A2 (n + 4) c2) (n + 4) (u8s L) ∧ Below w.heap.size w w5 ∧ L = 34 :: (s.data.toList.take (k + 1)).flatMap qb) := ⟨_, hnl, hown2, below_grown2 hB hgr hB.size (own_ge hown), hnx⟩
          simp [u8s] at hrun
          replace hrun := Lib.hid hrun
          replace hL := Lib.hid hL
          replace hLe := Lib.hid hLe
          replace hz := Lib.hid hz
          replace hn := Lib.hid hn
          replace hk := Lib.hid hk
          replace hcl := Lib.hid hcl
          replace hch := Lib.hid hch
          clear hown hB hQ hgr hqb hnx hnl hown2 htk hx1 hx2
          go_upto_region 7 with (fail)
          clear h1
          try clear h1'
          try clear h2
          try clear h2'
          try clear h3
          try clear h3'
          try clear h4
          try clear h4'
          go_region_held3 (fun _ => True) (first | (simp [go_sem, *]; done) | go_keep) (first
            | (refine step_append_run rfl (.tmp 29) (.tmp 36) 77 rfl (.slice A n c) _ _ rfl rfl hrun.out ?_; have kS : True := trivial))
          all_goals
            go_wp2_with (fail)
            exact ⟨⟨A2, c2, n + 4, k + 1, rfl, rfl, by have := hk.out; omega, by have := hn.out; omega, hnw⟩, by simp [intOf]; omega⟩
        · have h2' : ¬ (126 : Int) < z := by omega
          by_cases h3 : z = 34
          · skip
            subst h3
            obtain ⟨L, hL, hown, hB, hLe⟩ := hQ.out
            have e1 : ∀ w, (Instr.index 9 (.string hxB) (.int .u8 2)).run Tryd.prog w = .ok (.int .u8 50) w := hx_index 2 (by decide) (by decide) .u8
            have e2 : ∀ w, (Instr.index 9 (.string hxB) (.int .u8 2)).run Tryd.prog w = .ok (.int .u8 50) w := hx_index 2 (by decide) (by decide) .u8
            have ea : bits .and .u8 34 15 = 2 := by decide
            unfold hxB at e1 e2
            have hqb : qb ch = [92, 120, 50, 50] := by
              unfold qb
              rw [if_pos (by unfold odd; rw [hz]; simp), hz]
              rfl
            have hnx : L ++ [92, 120, 50, 50] = 34 :: (s.data.toList.take (k + 1)).flatMap qb := by rw [hLe, htk, List.flatMap_append, List.cons_append]; simp [hqb]
            have hnl : (L ++ [92, 120, 50, 50]).length = n + 4 := by rw [List.length_append, hL]; rfl
            obtain ⟨A2, c2, w5, hrun, hown2, hgr⟩ := u8_appd (w := wr) [92, 120, 50, 50] hown hB.size (by simp; omega)
            have hnw : Hid (∃ L, L.length = n + 4 ∧ w5.ownsRow w.heap.size 5 1 (.slice A2 (n + 4) c2) (n + 4) (u8s L) ∧ Below w.heap.size w w5 ∧ L = 34 :: (s.data.toList.take (k + 1)).flatMap qb) := ⟨_, hnl, hown2, below_grown2 hB hgr hB.size (own_ge hown), hnx⟩
            simp [u8s] at hrun
            replace hrun := Lib.hid hrun
            replace hL := Lib.hid hL
            replace hLe := Lib.hid hLe
            replace hz := Lib.hid hz
            replace hn := Lib.hid hn
            replace hk := Lib.hid hk
            replace hcl := Lib.hid hcl
            replace hch := Lib.hid hch
            clear hown hB hQ hgr hqb hnx hnl hown2 htk
            go_upto_region 7 with (fail)
            clear h1
            try clear h1'
            try clear h2
            try clear h2'
            try clear h3
            try clear h3'
            try clear h4
            try clear h4'
            go_region_held3 (fun _ => True) (first | (simp [go_sem, *]; done) | go_keep) (first
              | (refine step_append_run rfl (.tmp 29) (.tmp 36) 77 rfl (.slice A n c) _ _ rfl rfl hrun.out ?_; have kS : True := trivial))
            all_goals
              go_wp2_with (fail)
              exact ⟨⟨A2, c2, n + 4, k + 1, rfl, rfl, by have := hk.out; omega, by have := hn.out; omega, hnw⟩, by simp [intOf]; omega⟩
          · have h3' : ((z : Int) == 34) = false := by simp; omega
            by_cases h4 : z = 92
            · skip
              subst h4
              obtain ⟨L, hL, hown, hB, hLe⟩ := hQ.out
              have e1 : ∀ w, (Instr.index 9 (.string hxB) (.int .u8 5)).run Tryd.prog w = .ok (.int .u8 53) w := hx_index 5 (by decide) (by decide) .u8
              have e2 : ∀ w, (Instr.index 9 (.string hxB) (.int .u8 12)).run Tryd.prog w = .ok (.int .u8 99) w := hx_index 12 (by decide) (by decide) .u8
              have ea : bits .and .u8 92 15 = 12 := by decide
              unfold hxB at e1 e2
              have hqb : qb ch = [92, 120, 53, 99] := by
                unfold qb
                rw [if_pos (by unfold odd; rw [hz]; simp), hz]
                rfl
              have hnx : L ++ [92, 120, 53, 99] = 34 :: (s.data.toList.take (k + 1)).flatMap qb := by rw [hLe, htk, List.flatMap_append, List.cons_append]; simp [hqb]
              have hnl : (L ++ [92, 120, 53, 99]).length = n + 4 := by rw [List.length_append, hL]; rfl
              obtain ⟨A2, c2, w5, hrun, hown2, hgr⟩ := u8_appd (w := wr) [92, 120, 53, 99] hown hB.size (by simp; omega)
              have hnw : Hid (∃ L, L.length = n + 4 ∧ w5.ownsRow w.heap.size 5 1 (.slice A2 (n + 4) c2) (n + 4) (u8s L) ∧ Below w.heap.size w w5 ∧ L = 34 :: (s.data.toList.take (k + 1)).flatMap qb) := ⟨_, hnl, hown2, below_grown2 hB hgr hB.size (own_ge hown), hnx⟩
              simp [u8s] at hrun
              replace hrun := Lib.hid hrun
              replace hL := Lib.hid hL
              replace hLe := Lib.hid hLe
              replace hz := Lib.hid hz
              replace hn := Lib.hid hn
              replace hk := Lib.hid hk
              replace hcl := Lib.hid hcl
              replace hch := Lib.hid hch
              clear hown hB hQ hgr hqb hnx hnl hown2 htk
              go_upto_region 7 with (fail)
              clear h1
              try clear h1'
              try clear h2
              try clear h2'
              try clear h3
              try clear h3'
              try clear h4
              try clear h4'
              go_region_held3 (fun _ => True) (first | (simp [go_sem, *]; done) | go_keep) (first
                | (refine step_append_run rfl (.tmp 29) (.tmp 36) 77 rfl (.slice A n c) _ _ rfl rfl hrun.out ?_; have kS : True := trivial))
              all_goals
                go_wp2_with (fail)
                exact ⟨⟨A2, c2, n + 4, k + 1, rfl, rfl, by have := hk.out; omega, by have := hn.out; omega, hnw⟩, by simp [intOf]; omega⟩
            · skip
              have h4' : ((z : Int) == 92) = false := by simp; omega
              obtain ⟨L, hL, hown, hB, hLe⟩ := hQ.out
              have hqb : qb ch = [ch] := by
                unfold qb
                rw [if_neg (by unfold odd; rw [hz]; simp; omega)]
              have hnx : L ++ [ch] = 34 :: (s.data.toList.take (k + 1)).flatMap qb := by rw [hLe, htk, List.flatMap_append, List.cons_append]; simp [hqb]
              have hnl : (L ++ [ch]).length = n + 1 := by rw [List.length_append, hL]; rfl
              obtain ⟨A2, c2, w5, hrun, hown2, hgr⟩ := u8_app (w := wr) [ch] hown hB.size (by simp; omega)
              have hnw : Hid (∃ L, L.length = n + 1 ∧ w5.ownsRow w.heap.size 5 1 (.slice A2 (n + 1) c2) (n + 1) (u8s L) ∧ Below w.heap.size w w5 ∧ L = 34 :: (s.data.toList.take (k + 1)).flatMap qb) := ⟨_, hnl, hown2, below_grown2 hB hgr hB.size (own_ge hown), hnx⟩
              simp [u8s] at hrun
              rw [hz] at hrun
              replace hrun := Lib.hid hrun
              replace hn := Lib.hid hn
              replace hk := Lib.hid hk
              clear hown hB hQ hgr hqb hnx hnl hown2 htk hL hLe hz hcl hch
              go_wp2_with (at_builtin; refine wpList_append_run rfl (.tmp 38) (.tmp 40) 77 rfl (.slice A n c) _ _ rfl rfl hrun.out ?_)
              exact ⟨⟨A2, c2, n + 1, k + 1, rfl, rfl, by have := hk.out; omega, by have := hn.out; omega, hnw⟩, by simp [intOf]; omega⟩
    · skip
      have hlt' : ¬ (k : Int) < (s.size : Int) := by omega
      obtain ⟨L, hL, hown, hB, hLe⟩ := hQ.out
      obtain rfl : k = s.size := by omega
      rw [List.take_of_length_le (by rw [data_size]; exact Nat.le_refl _)] at hLe
      have hnx : L ++ [34] = quoteL s.data.toList := by rw [hLe]; rfl
      have hnl : (L ++ [34]).length = n + 1 := by rw [List.length_append, hL]; rfl
      obtain ⟨A2, c2, w5, hrun, hown2, hgr⟩ := u8_app (w := wr) [34] hown hB.size (by simp; omega)
      have hst := own_string w5 w.heap.size c2 A2 (L ++ [34]) (by rw [hnl]; exact hown2)
      rw [hnl, hnx] at hst
      have hB5 := Lib.hid (below_grown2 hB hgr hB.size (own_ge hown))
      obtain ⟨T, hT⟩ : ∃ T : ByteArray, ⟨(quoteL s.data.toList).toArray⟩ = T := ⟨_, rfl⟩
      simp [u8s] at hrun
      replace hrun := Lib.hid hrun
      clear hown hB hQ hgr hnx hnl hown2 hL hLe hlt
      go_wp2_with (at_builtin; refine wpList_append_run rfl (.tmp 43) (.tmp 44) 77 rfl (.slice A n c) _ _ rfl rfl hrun.out ?_)
      go_returns
      exact ⟨rfl, hB5.out⟩
end Go.Proofs.YtbhgjjicmbbjaaaDoor
