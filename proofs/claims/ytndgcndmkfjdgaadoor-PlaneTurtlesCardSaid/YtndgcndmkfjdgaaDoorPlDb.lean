import Derived.Test.YtndgcndmkfjdgaaDoorPlDa
import Derived.Test.YtndgcndmkfjdgaaDoorPlY
namespace Go.Proofs.YtndgcndmkfjdgaaDoor
open Go.RowKit Go.Extern.Stop Go.Stop Go.Extern
set_option linter.unusedVariables false
set_option linter.unusedSimpArgs false
/-! the document's Draw -/
theorem trim_space (l : List UInt8) : Lib.trimRightB (l ++ [32]) 32 = Lib.trimRightB l 32 := by
  unfold Lib.trimRightB
  rw [List.reverse_append]
  rfl
theorem trim_else (l : List UInt8) (c : UInt8) (h : c ≠ 32) : Lib.trimRightB (l ++ [c]) 32 = l ++ [c] := by
  unfold Lib.trimRightB
  rw [List.reverse_append, List.reverse_singleton, List.singleton_append, List.dropWhile_cons_of_neg (by simpa using h), List.reverse_cons, List.reverse_reverse]
theorem trim_take (l : List UInt8) : l.take (Lib.trimRightB l 32).length = Lib.trimRightB l 32 := by
  have h : Lib.trimRightB l 32 <+: l := by
    unfold Lib.trimRightB
    have := List.reverse_prefix.2 (List.dropWhile_suffix (fun x : UInt8 => x == 32) (l := l.reverse))
    rwa [List.reverse_reverse] at this
  exact (List.prefix_iff_eq_take.1 h).symm
theorem u8s_one (l : List UInt8) : ∀ u ∈ u8s l, u.oneCell' = true := by
  intro u hu
  obtain ⟨c, _, rfl⟩ := List.mem_map.1 hu
  rfl
theorem info_u8c : (Tryd.prog.info? 5).map (fun i => (i.zero, i.size, i.bytes)) = some (some (.int .u8 0), 1, 1) := by kernel_rfl
theorem u8_push {w : World} {base : Nat} {V : Value} {n : Nat} {L : List UInt8} (c : UInt8) (h : w.ownsRow base 5 1 V n (u8s L)) (hb : base ≤ w.heap.size) (hl : n ≤ 4398046511102) :
    ∃ A' c' w2, (Builtin.append_ #[89, 89] 89 #[V, .slice (some ⟨w.heap.size, 0, none⟩) 1 1]).run Tryd.prog (w.alloc (.cells #[.int .u8 (c.toNat : Int)] 5)) = .ok (.slice A' (n + 1) c') w2 ∧
      w2.ownsRow base 5 1 (.slice A' (n + 1) c') (n + 1) (u8s (L ++ [c])) ∧ w.grownBy w2 V.ownBlock := by
  obtain ⟨i9, hi, hz0, hz1, hz2⟩ := info_parts info_u8c
  obtain ⟨A', c', w2, hrun, hown, hgr⟩ := app_one2 (P := Tryd.prog) (w := w) Tryd.underlying89 hi hz0 hz1 hz2 rfl (by decide) h hb [.int .u8 (c.toNat : Int)] rfl (u8s_one [c]) (by omega) (by unfold maxLen; omega)
  refine ⟨A', c', w2, hrun, ?_, hgr⟩
  rw [← u8s_append]
  exact hown
theorem u8_more {w : World} {base : Nat} {V : Value} {n : Nat} {L : List UInt8} (M : List UInt8) (a : Addr) (cc : Nat) (h : w.ownsRow base 5 1 V n (u8s L)) (hb : base ≤ w.heap.size) (hl : n + M.length ≤ 4398046511102) (hM : ∀ j u, (u8s M)[j]? = some u → w.cell? (a.add j) = some u) :
    ∃ A' c' w2, (Builtin.append_ #[89, 89] 89 #[V, .slice (some a) M.length cc]).run Tryd.prog w = .ok (.slice A' (n + M.length) c') w2 ∧
      w2.ownsRow base 5 1 (.slice A' (n + M.length) c') (n + M.length) (u8s (L ++ M)) ∧ w.grownBy w2 V.ownBlock := by
  obtain ⟨i9, hi, hz0, hz1, hz2⟩ := info_parts info_u8c
  obtain ⟨v', w2, hrun, hown, hgr, _⟩ := run_append_own (P := Tryd.prog) w base 89 89 5 i9 _ 1 1 Tryd.underlying89 hi hz0 hz1 hz2 rfl (by decide) V n (u8s L) h a M.length cc (u8s M) (by simp [u8s]) hM (u8s_one M) (by unfold maxLen; omega) (by omega) hb
  obtain ⟨A', c', rfl⟩ := own_form hown
  refine ⟨A', c', w2, hrun, ?_, hgr⟩
  rw [← u8s_append]
  exact hown
theorem imin (a b c : Int) (ts : Array TypeId) (t : TypeId) (w : World) : (Builtin.min_ ts t #[.int .i64 a, .int .i64 b, .int .i64 c]).run Tryd.prog w = .ok (.int .i64 (min (min a b) c)) w := by
  by_cases h1 : a ≤ b <;> by_cases h2 : min a b ≤ c <;> simp [Builtin.min_, Builtin.min2, go_sem, h1, h2] <;> omega
theorem imax (a b c : Int) (ts : Array TypeId) (t : TypeId) (w : World) : (Builtin.max_ ts t #[.int .i64 a, .int .i64 b, .int .i64 c]).run Tryd.prog w = .ok (.int .i64 (max (max a b) c)) w := by
  by_cases h1 : a ≤ b <;> by_cases h2 : max a b ≤ c <;> simp [Builtin.max_, Builtin.max2, go_sem, h1, h2] <;> omega
set_option maxRecDepth 100000 in
set_option maxHeartbeats 8000000 in
theorem rdraw_any (A : Option Addr) (zs : List Mk) (n c : Nat) (w : World) (hm : zs.length = n) (h0 : 0 < n) (h : Rks w A zs) (hR : rightZ zs) (hS : Sms zs) :
    Calls Tryd.prog 19 #[.slice A n c] w fun e w' => e = .returned (if 99 < wide zs ∨ 99 < high zs then .tuple #[.string ⟨#[]⟩, .bool false] else .tuple #[.string ⟨(drawZ zs).toArray⟩, .bool true]) ∧ Below w.heap.size w w' := by
  obtain ⟨V, hV⟩ : ∃ V, (if 99 < wide zs ∨ 99 < high zs then Value.tuple #[.string ⟨#[]⟩, .bool false] else .tuple #[.string ⟨(drawZ zs).toArray⟩, .bool true]) = V := ⟨_, rfl⟩
  rw [hV]
  have hn : n ≤ 4096 := by rw [← hm]; exact hR.1
  have hn4 : (n : Int) ≤ 4096 := by omega
  have hne : ((n : Int) == 0) = false := by simp; omega
  have hn0 : (0 : Int) < n := by omega
  have hlo := lo_sm zs hS
  obtain ⟨b, off, rfl⟩ := rks_form h (by omega)
  have hce := rks_at h (j := 0) (by omega)
  rw [Nat.zero_mul, Nat.add_zero] at hce
  obtain ⟨hbl, ⟨c0, c1⟩, _⟩ := hce
  have hl0 : loN zs 0 = (zs.getD 0 m0).1 := rfl
  have hu0 : hiN zs 0 = (zs.getD 0 m0).1 := rfl
  obtain ⟨⟨a1, a2⟩, ha⟩ : ∃ p, (zs.getD 0 m0).1 = p := ⟨_, rfl⟩
  rw [ha] at c0 c1 hl0 hu0
  simp only at c0 c1
  obtain ⟨g, hg⟩ : ∃ g, w.heap.size = g := ⟨_, rfl⟩
  have hB1 := (Below.refl w.heap.size w).alloc (Nat.le_refl _) (.cells #[.int .i64 a1, .int .i64 a2] 58)
  have d0 := (hB1.cell (p := ⟨b, off, none⟩) hbl).trans c0
  have d1 := (hB1.cell (p := ⟨b, off + 1, none⟩) hbl).trans c1
  have hB2 := hB1.alloc hB1.size (.cells #[.int .i64 a1, .int .i64 a2] 58)
  have bk1 := (Bk.fresh w 58 #[.int .i64 a1, .int .i64 a2]).past (.cells #[.int .i64 a1, .int .i64 a2] 58)
  have bk2 := Bk.fresh (w.alloc (.cells #[.int .i64 a1, .int .i64 a2] 58)) 58 #[.int .i64 a1, .int .i64 a2]
  rw [World.size_alloc] at bk2
  have hX : ∃ X, (w.alloc (.cells #[.int .i64 a1, .int .i64 a2] 58)).alloc (.cells #[.int .i64 a1, .int .i64 a2] 58) = X := ⟨_, rfl⟩
  replace h := Lib.hid h
  replace hm := Lib.hid hm
  replace hV := Lib.hid hV
  replace hR := Lib.hid hR
  replace hlo := Lib.hid hlo
  replace hS := Lib.hid hS
  replace hl0 := Lib.hid hl0
  replace hu0 := Lib.hid hu0
  replace hbl := Lib.hid hbl
  replace hB2 := Lib.hid hB2
  replace bk1 := Lib.hid bk1
  replace bk2 := Lib.hid bk2
  clear ha hB1
  go_enter Tryd.func19, Tryd.ntmps19
  go_wp2_with (fail)
  obtain ⟨X, hX⟩ := hX
  have hlK : Bk X g 58 #[.int .i64 a1, .int .i64 a2] := by rw [← hX, ← hg]; exact bk1.out
  have huK : Bk X (g + 1) 58 #[.int .i64 a1, .int .i64 a2] := by rw [← hX, ← hg]; exact bk2.out
  have hBX : Below g w X := by rw [← hX, ← hg]; exact hB2.out
  rw [hX]
  replace hlK := Lib.hid hlK
  replace huK := Lib.hid huK
  replace hBX := Lib.hid hBX
  have hbg : b < g := by rw [← hg]; exact hbl.out
  have hg1 : (g + 1 : Nat) ≠ g := by omega
  replace hbg := Lib.hid hbg
  replace hg := Lib.hid hg
  clear bk1 bk2 hB2 hX c0 c1 d0 d1 hbl
  go_loopw [6] (fun x wr => ∃ j : Nat, x = .int .i64 j ∧ j ≤ n ∧ Hid (∃ lo hi : Pt, loN zs j = lo ∧ hiN zs j = hi ∧ Bk wr g 58 #[.int .i64 lo.1, .int .i64 lo.2] ∧ Bk wr (g + 1) 58 #[.int .i64 hi.1, .int .i64 hi.2] ∧ Below g w wr)) (fun x _ => n - (intOf x).toNat)
  case atStart => exact ⟨0, rfl, Nat.zero_le _, Lib.hid ⟨_, _, hl0.out, hu0.out, hlK.out, huK.out, hBX.out⟩⟩
  case round =>
    obtain ⟨j, rfl, hj0, hQ⟩ := hrel
    clear hl0 hu0 hlK huK hBX
    obtain ⟨⟨l1, l2⟩, ⟨u1, u2⟩, hlo1, hhi1, hlK, huK, hW⟩ := hQ.out
    clear hQ
    simp only at hlK huK
    by_cases hj : j < n
    · have j0 : (j : Int) < (n : Int) := by omega
      have hjl : j < zs.length := by rw [hm.out]; exact hj
      have hcc := (rks_at h.out hjl).2
      have hlN : loN zs (j + 1) = (min (min (loN zs j).1 (zs.getD j m0).1.1) (zs.getD j m0).2.1, min (min (loN zs j).2 (zs.getD j m0).1.2) (zs.getD j m0).2.2) := rfl
      have huN : hiN zs (j + 1) = (max (max (hiN zs j).1 (zs.getD j m0).1.1) (zs.getD j m0).2.1, max (max (hiN zs j).2 (zs.getD j m0).1.2) (zs.getD j m0).2.2) := rfl
      obtain ⟨⟨⟨a1, a2⟩, b1, b2⟩, hx⟩ : ∃ m, zs.getD j m0 = m := ⟨_, rfl⟩
      rw [hlo1, hx] at hlN
      rw [hhi1, hx] at huN
      rw [hx] at hcc
      simp only at hcc hlN huN
      have hcell := Lib.hid (fun W (hb : Below g w W) => (⟨⟨(hb.cell (p := ⟨b, off + j * 4, none⟩) hbg.out).trans hcc.1.1, (hb.cell (p := ⟨b, off + j * 4 + 1, none⟩) hbg.out).trans hcc.1.2⟩, (hb.cell (p := ⟨b, off + j * 4 + 2, none⟩) hbg.out).trans hcc.2.1, (hb.cell (p := ⟨b, off + j * 4 + 3, none⟩) hbg.out).trans hcc.2.2⟩ : (W.cell? ⟨b, off + j * 4, none⟩ = some (.int .i64 a1) ∧ W.cell? ⟨b, off + j * 4 + 1, none⟩ = some (.int .i64 a2)) ∧ W.cell? ⟨b, off + j * 4 + 2, none⟩ = some (.int .i64 b1) ∧ W.cell? ⟨b, off + j * 4 + 3, none⟩ = some (.int .i64 b2)))
      have m1 := fun ts t w => imin l1 a1 b1 ts t w
      have m2 := fun ts t w => imin l2 a2 b2 ts t w
      have m3 := fun ts t w => imax u1 a1 b1 ts t w
      have m4 := fun ts t w => imax u2 a2 b2 ts t w
      obtain ⟨n1, hn1⟩ : ∃ v, min (min l1 a1) b1 = v := ⟨_, rfl⟩
      obtain ⟨n2, hn2⟩ : ∃ v, min (min l2 a2) b2 = v := ⟨_, rfl⟩
      obtain ⟨x1, hx1⟩ : ∃ v, max (max u1 a1) b1 = v := ⟨_, rfl⟩
      obtain ⟨x2, hx2⟩ : ∃ v, max (max u2 a2) b2 = v := ⟨_, rfl⟩
      simp only [hn1, hn2] at m1 m2 hlN
      simp only [hx1, hx2] at m3 m4 huN
      have hl2 := (hlK.put 0 (.int .i64 n1)).put 1 (.int .i64 n2)
      have hu2 := (huK.other (p := ⟨g, 0, none⟩) hg1 (.int .i64 n1)).other (p := ⟨g, 1, none⟩) hg1 (.int .i64 n2)
      have hW2 := (hW.setCell (p := ⟨g, 0, none⟩) (Nat.le_refl g) (.int .i64 n1)).setCell (p := ⟨g, 1, none⟩) (Nat.le_refl g) (.int .i64 n2)
      obtain ⟨⟨e0, e1⟩, e2, e3⟩ := hcell.out _ hW
      have k0 := hlK.cell 0
      have k1 := hlK.cell 1
      have k2 := hlK.free 0
      have k3 := hlK.free 1
      have k4 := huK.cell 0
      have k5 := huK.cell 1
      have k6 := huK.free 0
      have k7 := huK.free 1
      simp at k0 k1 k4 k5
      replace hlN := Lib.hid hlN
      replace huN := Lib.hid huN
      replace hl2 := Lib.hid hl2
      replace hu2 := Lib.hid hu2
      replace hW2 := Lib.hid hW2
      replace hW := Lib.hid hW
      clear hlK huK hlo1 hhi1 hx hcc hn1 hn2 hx1 hx2
      go_upto_region 8 with (fail)
      go_still_tail 31, (by kernel_rfl)
      change wpList _ _ _ _ _ wr.drew
      go_upto_region 9 with (fail)
      obtain ⟨W8, hW8⟩ : ∃ W8, ((wr.setCell ⟨g, 0, none⟩ (.int .i64 n1)).setCell ⟨g, 1, none⟩ (.int .i64 n2)).drew = W8 := ⟨_, rfl⟩
      have hl3 : Bk W8 g 58 #[.int .i64 n1, .int .i64 n2] := by rw [← hW8]; exact hl2.out.draw
      have hu3 : Bk W8 (g + 1) 58 #[.int .i64 u1, .int .i64 u2] := by rw [← hW8]; exact hu2.out.draw
      have hW3 : Below g w W8 := by rw [← hW8]; exact below_drew hW2.out
      clear k0 k1 k2 k3 k4 k5 k6 k7 e0 e1 e2 e3 hl2 hu2 hW2
      rw [hW8]
      obtain ⟨⟨e0, e1⟩, e2, e3⟩ := hcell.out _ hW3
      have k4 := hu3.cell 0
      have k5 := hu3.cell 1
      have k6 := hu3.free 0
      have k7 := hu3.free 1
      simp at k4 k5
      have hl4 := (hl3.other (p := ⟨g + 1, 0, none⟩) (by simp) (.int .i64 x1)).other (p := ⟨g + 1, 1, none⟩) (by simp) (.int .i64 x2)
      have hu4 := (hu3.put 0 (.int .i64 x1)).put 1 (.int .i64 x2)
      have hW4 := (hW3.setCell (p := ⟨g + 1, 0, none⟩) (Nat.le_succ g) (.int .i64 x1)).setCell (p := ⟨g + 1, 1, none⟩) (Nat.le_succ g) (.int .i64 x2)
      replace hl4 := Lib.hid hl4
      replace hu4 := Lib.hid hu4
      replace hW4 := Lib.hid hW4
      clear hl3 hu3 hW3 hW8 m1 m2 hW hcell
      go_still_tail 31, (by kernel_rfl)
      change wpList _ _ _ _ _ W8.drew
      go_wp2_with (fail)
      exact ⟨⟨j + 1, rfl, by omega, Lib.hid ⟨(n1, n2), (x1, x2), hlN.out, huN.out, hl4.out.draw, hu4.out.draw, below_drew hW4.out⟩⟩, by simp [intOf]; omega⟩
    · have j0 : ¬ (j : Int) < (n : Int) := by omega
      obtain rfl : j = n := by omega
      clear hj hj0
      have hzl := hm.out
      have hL : loZ zs = (l1, l2) := by unfold loZ; rw [hzl]; exact hlo1
      have hU : hiZ zs = (u1, u2) := by unfold hiZ; rw [hzl]; exact hhi1
      have hsm := hlo.out j (by omega) (by omega)
      rw [hlo1, hhi1] at hsm
      have hord := lo_hi zs j
      rw [hlo1, hhi1] at hord
      have hwd : u1 - l1 = wide zs := by unfold wide; rw [hL, hU]
      have hhg : u2 - l2 = high zs := by unfold high; rw [hL, hU]
      have hdz : drawZ zs = rowsL zs l1 u2 ((wide zs).toNat + 1) ((high zs).toNat + 1) := by unfold drawZ; rw [hL, hU]
      unfold Sm at hsm
      simp only at hsm hord
      obtain ⟨⟨s1, s2, s3, s4⟩, s5, s6, s7, s8⟩ := hsm
      have k0 := hlK.cell 0
      have k1 := hlK.cell 1
      have k2 := hlK.free 0
      have k3 := hlK.free 1
      have k4 := huK.cell 0
      have k5 := huK.cell 1
      have k6 := huK.free 0
      have k7 := huK.free 1
      simp at k0 k1 k4 k5
      by_cases t1 : 99 < wide zs
      · have t1' : (99 : Int) < u1 - l1 := by omega
        have hv : Value.tuple #[.string ⟨#[]⟩, .bool false] = V := by rw [← hV.out, if_pos (.inl t1)]
        clear hord hwd hhg hdz t1 hL hU hlo1 hhi1 hlK huK
        replace hv := Lib.hid hv
        go_wp2_with (fail)
        go_returns
        exact ⟨by rw [← hv.out]; rfl, by rw [hg.out]; exact hW⟩
      · have t1' : ¬ (99 : Int) < u1 - l1 := by omega
        by_cases t2 : 99 < high zs
        · have t2' : (99 : Int) < u2 - l2 := by omega
          have hv : Value.tuple #[.string ⟨#[]⟩, .bool false] = V := by rw [← hV.out, if_pos (.inr t2)]
          clear hord hwd hhg hdz t1 t2 hL hU hlo1 hhi1 hlK huK
          replace hv := Lib.hid hv
          go_wp2_with (fail)
          go_returns
          exact ⟨by rw [← hv.out]; rfl, by rw [hg.out]; exact hW⟩
        · have t2' : ¬ (99 : Int) < u2 - l2 := by omega
          have hv : Value.tuple #[.string ⟨(rowsL zs l1 u2 ((wide zs).toNat + 1) ((high zs).toNat + 1)).toArray⟩, .bool true] = V := by rw [← hV.out, if_neg (by omega), hdz]
          obtain ⟨M, hM⟩ : ∃ M, (wide zs).toNat + 1 = M := ⟨_, rfl⟩
          obtain ⟨N, hN⟩ : ∃ N, (high zs).toNat + 1 = N := ⟨_, rfl⟩
          rw [hM, hN] at hv
          have hx9 : u1 = l1 + M - 1 := by omega
          have hy0 : l2 = u2 - N + 1 := by omega
          have hM1 : 1 ≤ M ∧ M ≤ 100 := by omega
          have hN1 : 1 ≤ N ∧ N ≤ 100 := by omega
          have hsz : g + 2 ≤ wr.heap.size := huK.lt
          replace hv := Lib.hid hv
          replace hx9 := Lib.hid hx9
          replace hy0 := Lib.hid hy0
          replace hM1 := Lib.hid hM1
          replace hN1 := Lib.hid hN1
          replace hlK := Lib.hid hlK
          replace huK := Lib.hid huK
          replace hW := Lib.hid hW
          replace hsz := Lib.hid hsz
          clear hord hwd hhg hdz t1 t2 hL hU hlo1 hhi1 hM hN hlo hS hzl
          go_wp2_with (fail)
          clear k0 k1 k2 k3 k4 k5 k6 k7 t1' t2'
          have hr0 : rowsL zs l1 u2 M 0 = [] := rfl
          go_loopw [7, 8] (fun s x wr => ∃ (i m7 c7 : Nat) (A7 : Option Addr) (yv : Int), s = .slice A7 m7 c7 ∧ x = .int .i64 yv ∧ i ≤ N ∧ Hid (yv = u2 - (i : Int) ∧ m7 = (rowsL zs l1 u2 M i).length ∧ wr.ownsRow (g + 2) 5 1 (.slice A7 m7 c7) m7 (u8s (rowsL zs l1 u2 M i)) ∧ Bk wr g 58 #[.int .i64 l1, .int .i64 l2] ∧ Bk wr (g + 1) 58 #[.int .i64 u1, .int .i64 u2] ∧ Below g w wr)) (fun _ x _ => (intOf x + 1 - l2).toNat)
          case atStart => exact ⟨0, 0, 0, none, u2, rfl, rfl, Nat.zero_le _, Lib.hid ⟨by omega, by rw [hr0]; rfl, by rw [hr0]; exact World.ownsRow_nil _ _ _ _, hlK.out, huK.out, hW.out⟩⟩
          case round =>
            obtain ⟨i, m7, c7, A7, yv, rfl, rfl, hi, hQ⟩ := hrel
            clear hlK huK hW hsz hr0
            obtain ⟨hyv, hm7, hrow, hlK, huK, hW⟩ := hQ.out
            clear hQ
            have hsz : g + 2 ≤ wr.heap.size := huK.lt
            have hml : m7 ≤ 10200 := by
              have := rowsL_len zs l1 u2 M i
              have h1 := hM1.out
              have h2 := hN1.out
              have h3 : i * (M + 1) ≤ 100 * 101 := Nat.mul_le_mul (by omega) (by omega)
              omega
            have k0 := hlK.cell 0
            have k1 := hlK.cell 1
            have k2 := hlK.free 0
            have k3 := hlK.free 1
            have k4 := huK.cell 0
            have k5 := huK.cell 1
            have k6 := huK.free 0
            have k7 := huK.free 1
            simp at k0 k1 k4 k5
            have hy1 : -16777218 ≤ yv ∧ yv ≤ 16777216 := by have := hy0.out; have := hN1.out; omega
            obtain ⟨hy2, hy3⟩ := hy1
            by_cases hgo : i < N
            · have gg : l2 ≤ yv := by have := hy0.out; omega
              have hL0 : lineL zs l1 yv 0 = [] := rfl
              have hrn := rowsL_next zs l1 u2 M i
              rw [← hyv] at hrn
              have hrl := rowsL_len zs l1 u2 M i
              replace hrow := Lib.hid hrow
              replace hlK := Lib.hid hlK
              replace huK := Lib.hid huK
              replace hW := Lib.hid hW
              replace hyv := Lib.hid hyv
              replace hm7 := Lib.hid hm7
              replace hrn := Lib.hid hrn
              replace hml := Lib.hid hml
              replace hsz := Lib.hid hsz
              clear hrl
              go_wp2_with (fail)
              obtain ⟨Wo, hWo⟩ : ∃ Wo, Wo = wr := ⟨_, rfl⟩
              obtain ⟨Bl, hBl⟩ : ∃ Bl, Wo.heap.size = Bl := ⟨_, rfl⟩
              have hBlg : g + 2 ≤ Bl := by rw [← hBl, hWo]; exact hsz.out
              subst hWo
              replace hBl := Lib.hid hBl
              replace hBlg := Lib.hid hBlg
              clear k0 k1 k2 k3 k4 k5 k6 k7
              go_loopw [9, 10, 11] (fun s t x wq => ∃ (k c9 la : Nat) (A9 : Option Addr) (xv : Int), s = .slice A9 k c9 ∧ t = .int .i64 la ∧ x = .int .i64 xv ∧ k ≤ M ∧ Hid (xv = l1 + (k : Int) ∧ la = (Lib.trimRightB (lineL zs l1 yv k) 32).length ∧ wq.ownsRow Bl 5 1 (.slice A9 k c9) k (u8s (lineL zs l1 yv k)) ∧ Below Bl Wo wq)) (fun _ _ x _ => (u1 + 1 - intOf x).toNat)
              case atStart => exact ⟨0, 0, 0, none, l1, rfl, rfl, rfl, Nat.zero_le _, Lib.hid ⟨by omega, by rw [hL0]; rfl, by rw [hL0]; exact World.ownsRow_nil _ _ _ _, by rw [← hBl.out]; exact Below.refl _ _⟩⟩
              case round =>
                obtain ⟨k, c9, la, A9, xv, rfl, rfl, rfl, hk, hQ⟩ := hrel
                obtain ⟨hxv, hla, hline, hWq⟩ := hQ.out
                clear hQ hL0
                have hlq := hlK.out.kept hWq (by have := hlK.out.lt; rw [hBl.out] at this; exact this)
                have huq := huK.out.kept hWq (by have := huK.out.lt; rw [hBl.out] at this; exact this)
                have k0 := huq.cell 0
                have k2 := huq.free 0
                simp at k0
                have hx1 : -16777216 ≤ xv ∧ xv ≤ 16777217 := by have := hx9.out; have := hM1.out; omega
                obtain ⟨hx2, hx3⟩ := hx1
                have hWw : Below g w wr := hW.out.trans (hWq.mono (by have := hBlg.out; omega))
                by_cases hkM : k < M
                · have ll : xv ≤ u1 := by have := hx9.out; omega
                  have hsg := rsign_any _ zs j c xv yv wr hm.out hn (h.out.kept (by rw [hg.out]; exact hWw)) hR.out
                  have hln := lineL_next zs l1 yv k
                  rw [← hxv] at hln
                  obtain ⟨sg, hsg1⟩ : ∃ z, signZ zs (xv, yv) = z := ⟨_, rfl⟩
                  rw [hsg1] at hsg hln
                  obtain ⟨cv, hcv⟩ : ∃ cv : Int, (sg.toNat : Int) = cv := ⟨_, rfl⟩
                  rw [hcv] at hsg
                  replace hsg := Lib.hid hsg
                  replace hline := Lib.hid hline
                  replace hWq := Lib.hid hWq
                  replace hWw := Lib.hid hWw
                  replace hxv := Lib.hid hxv
                  replace hla := Lib.hid hla
                  clear hlq huq hsg1
                  go_wp2_with (fail)
                  refine hsg.out.mono ?_
                  rintro e w2 ⟨rfl, hb2⟩
                  have hsq : Bl ≤ wr.heap.size := by rw [← hBl.out]; exact hWq.out.size
                  have hline2 := own_below hline.out hb2 (Nat.le_refl _)
                  have hsq2 : Bl ≤ w2.heap.size := Nat.le_trans hsq hb2.size
                  obtain ⟨A', c', w3, hrun, hown, hgr⟩ := u8_push sg hline2 hsq2 (by have := hM1.out; omega)
                  rw [hcv] at hrun
                  have hB3 := below_grown2 (hWq.out.trans (hb2.mono hsq)) hgr hsq2 (own_ge hline2)
                  rw [← hln] at hown
                  replace hrun := Lib.hid hrun
                  replace hown := Lib.hid hown
                  replace hB3 := Lib.hid hB3
                  clear hsg hb2 hline2 hline hWw hgr hsq hsq2 k0 k2
                  by_cases hs : sg = 32
                  · have hla2 : la = (Lib.trimRightB (lineL zs l1 yv (k + 1)) 32).length := by rw [hln, hs, trim_space]; exact hla.out
                    have hcv2 : (cv == 32) = true := by rw [← hcv, hs]; rfl
                    replace hla2 := Lib.hid hla2
                    clear hln hla hs hcv
                    go_wp2_with (refine wpList_append_run rfl _ _ 89 rfl _ _ _ rfl rfl hrun.out ?_)
                    exact ⟨⟨k + 1, c', la, A', xv + 1, rfl, rfl, rfl, by omega, Lib.hid ⟨by have := hxv.out; omega, hla2.out, hown.out, hB3.out⟩⟩, by simp [intOf]; omega⟩
                  · have hla2 : k + 1 = (Lib.trimRightB (lineL zs l1 yv (k + 1)) 32).length := by rw [hln, trim_else _ _ hs, List.length_append, lineL_len]; rfl
                    have hcv2 : (cv == 32) = false := by
                      rw [Bool.eq_false_iff]
                      intro hh
                      have h1 : cv = 32 := by simpa using hh
                      exact hs (UInt8.toNat_inj.1 (by show sg.toNat = 32; omega))
                    replace hla2 := Lib.hid hla2
                    clear hln hla hs hcv
                    go_upto_region 23 with (refine wpList_append_run rfl _ _ 89 rfl _ _ _ rfl rfl hrun.out ?_)
                    go_wp2_with (fail)
                    exact ⟨⟨k + 1, c', k + 1, A', xv + 1, rfl, rfl, rfl, by omega, Lib.hid ⟨by have := hxv.out; omega, hla2.out, hown.out, hB3.out⟩⟩, by simp [intOf]; omega⟩
                · have ll : ¬ xv ≤ u1 := by have := hx9.out; omega
                  obtain rfl : k = M := by omega
                  have hM1' := hM1.out
                  obtain ⟨gl, rfl, hgl, hgl2, hkc, hcs⟩ := own_at hline (by omega)
                  have hlk : la ≤ k := by rw [hla]; exact Nat.le_trans (trim_len _ _) (by rw [lineL_len]; exact Nat.le_refl _)
                  obtain ⟨T, hT⟩ : ∃ T, Lib.trimRightB (lineL zs l1 yv k) 32 = T := ⟨_, rfl⟩
                  have htk := trim_take (lineL zs l1 yv k)
                  rw [hT] at htk hrn hla
                  have hrw := hrow.out
                  have hrowq := own_below hrw hWq (by rw [hBl.out]; exact Nat.le_refl _)
                  have hsq : g + 2 ≤ wr.heap.size := by have := hWw; have := hlq.lt; have := huq.lt; omega
                  have hcc : ∀ (n : Nat) (u : Value), (u8s T)[n]? = some u → wr.cell? ((⟨gl, 0, none⟩ : Addr).add n) = some u := fun n u hu => by
                    rw [addr_add0]
                    refine hcs n u ?_
                    rw [← htk] at hu
                    unfold u8s at hu ⊢
                    rw [List.map_take, List.getElem?_take] at hu
                    split at hu
                    · exact hu
                    · cases hu
                  obtain ⟨A', c', w2, hrun, hown, hgr⟩ := u8_more T ⟨gl, 0, none⟩ c9 hrowq hsq (by have := hml.out; rw [← hla]; omega) hcc
                  rw [← hla] at hrun hown
                  have hne1 : some g ≠ (Value.slice A7 m7 c7).ownBlock := fun e => by have := own_ge hrowq g e.symm; omega
                  have hne2 : some (g + 1) ≠ (Value.slice A7 m7 c7).ownBlock := fun e => by have := own_ge hrowq (g + 1) e.symm; omega
                  have hl2 := hlq.grown hgr hne1
                  have hu2 := huq.grown hgr hne2
                  have hB2 := below_grown2 hWw hgr (by omega) (fun k hk => by have := own_ge hrowq k hk; omega)
                  have hsq2 : g + 2 ≤ w2.heap.size := Nat.le_trans hsq hgr.size
                  obtain ⟨A5, c5, w3, hrun5, hown5, hgr5⟩ := u8_push 10 hown hsq2 (by have := hml.out; omega)
                  have hne3 : some g ≠ (Value.slice A' (m7 + la) c').ownBlock := fun e => by have := own_ge hown g e.symm; omega
                  have hne4 : some (g + 1) ≠ (Value.slice A' (m7 + la) c').ownBlock := fun e => by have := own_ge hown (g + 1) e.symm; omega
                  have hl3 := hl2.grown hgr5 hne3
                  have hu3 := hu2.grown hgr5 hne4
                  have hB3 := below_grown2 hB2 hgr5 (by omega) (fun k hk => by have := own_ge hown k hk; omega)
                  rw [List.append_assoc, ← hrn] at hown5
                  have hm8 : m7 + la + 1 = (rowsL zs l1 u2 k (i + 1)).length := by rw [hrn, List.length_append, List.length_append, ← hla, ← hm7.out]; rfl
                  have h10 : (((10 : UInt8).toNat : Nat) : Int) = 10 := rfl
                  rw [h10] at hrun5
                  have la1 : (la : Int) ≤ (k : Int) := by omega
                  have la2 : (la : Int) ≤ (c9 : Int) := by omega
                  have la3 : la ≤ c9 := by omega
                  replace hrun := Lib.hid hrun
                  replace hrun5 := Lib.hid hrun5
                  replace hown5 := Lib.hid hown5
                  replace hl3 := Lib.hid hl3
                  replace hu3 := Lib.hid hu3
                  replace hB3 := Lib.hid hB3
                  replace hm8 := Lib.hid hm8
                  replace hxv := Lib.hid hxv
                  replace hla := Lib.hid hla
                  clear hgr hgr5 hne1 hne2 hne3 hne4 hl2 hu2 hB2 hsq hsq2 hown hcc hrowq hrw htk hT hrn hcs hkc hline hWq hWw hlq huq h10 hgl hgl2 hrow hlK huK hW hm7
                  go_upto_region 26 with (refine wpList_append_run rfl _ _ 89 rfl _ _ _ rfl rfl hrun.out ?_)
                  go_wp2_with (refine wpList_append_run rfl _ _ 89 rfl _ _ _ rfl rfl hrun5.out ?_)
                  exact ⟨⟨i + 1, m7 + la + 1, c5, A5, yv - 1, rfl, rfl, by omega, Lib.hid ⟨by have := hyv.out; omega, hm8.out, hown5.out, hl3.out, hu3.out, hB3.out⟩⟩, by simp [intOf]; omega⟩
            · have gg : ¬ l2 ≤ yv := by have := hy0.out; omega
              obtain rfl : i = N := by omega
              have hst := own_string wr (g + 2) c7 A7 (rowsL zs l1 u2 M i) (by rw [← hm7]; exact hrow)
              rw [← hm7] at hst
              replace hW := Lib.hid hW
              clear hlK huK hrow hm7 hyv
              go_wp2_with (fail)
              go_returns
              exact ⟨by rw [← hv.out]; rfl, by rw [hg.out]; exact hW.out⟩
end Go.Proofs.YtndgcndmkfjdgaaDoor
