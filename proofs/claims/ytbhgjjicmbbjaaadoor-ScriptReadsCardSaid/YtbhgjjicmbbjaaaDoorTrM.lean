import Derived.Test.YtbhgjjicmbbjaaaDoorTrL
namespace Go.Proofs.YtbhgjjicmbbjaaaDoor
open Go.RowKit
set_option linter.unusedVariables false
set_option linter.unusedSimpArgs false
/-! chapter 17: strconv.ParseUint; bare -/
set_option maxRecDepth 100000 in
theorem pu_any (s : ByteArray) (hs : s.size = 2) (w : World) (hM : Mk w) : Calls Tryd.prog 55 #[.string s, .int .i64 16, .int .i64 8] w fun e w' => (∃ (n : Nat) (ev : Value), e = .returned (.tuple #[.int .u64 n, ev]) ∧ n < 256 ∧ Hex2 s n) ∧ Below w.heap.size w w' := by
  have hi := Lib.hid (ipu_any s hs w)
  replace hM := Lib.hid hM
  have hs2 := Lib.hid hs
  clear hs
  go_enter Tryd.func55, Tryd.ntmps55
  go_wp2_with (fail)
  refine hi.out.mono ?_
  rintro e w1 ⟨⟨n, ev, rfl, hn, hx, hev⟩, hb⟩
  replace hn := Lib.hid hn
  replace hx := Lib.hid hx
  have hM1 := Lib.hid (hM.out.bel hb)
  replace hb := Lib.hid hb
  clear hi
  rcases hev with rfl | rfl
  · go_wp2_with (fail)
    go_returns
    exact ⟨⟨n, _, rfl, hn.out, hx.out⟩, hb.out⟩
  · obtain ⟨te, pe, hv⟩ := hM1.out.syn
    have hto := Lib.hid (Tryd.strconv_toError_syntax ⟨#[80, 97, 114, 115, 101, 85, 105, 110, 116]⟩ s 16 8 (.iface te pe) w1 (by rw [hs2.out]; decide) hv (.inr ⟨te, pe, rfl⟩))
    clear hv
    go_wp2_with (fail)
    refine hto.out.mono ?_
    rintro e w2 ⟨N, rfl, _, _, hb2⟩
    have hb3 := Lib.hid (hb.out.trans (hb2.mono hb.out.size))
    clear hb2
    go_wp2_with (fail)
    go_returns
    exact ⟨⟨n, _, rfl, hn.out, hx.out⟩, hb3.out⟩
/-! bare -/
theorem quote_trim (l : List UInt8) : Lib.trimSuffix (Lib.trimPrefix (quoteL l) [34]) [34] = l.flatMap qb := by
  have h1 : Lib.trimPrefix (quoteL l) [34] = l.flatMap qb ++ [34] := by
    unfold Lib.trimPrefix quoteL
    simp [Lib.hasPrefix]
  rw [h1]
  unfold Lib.trimSuffix
  have h2 : Lib.hasSuffix (l.flatMap qb ++ [34]) [34] = true := by
    unfold Lib.hasSuffix
    rw [List.isSuffixOf_iff_suffix]
    exact List.suffix_append _ _
  rw [if_pos h2]
  simp
theorem trimP_len (l p : List UInt8) : (Lib.trimPrefix l p).length ≤ l.length := by
  unfold Lib.trimPrefix
  split
  · rw [List.length_drop]; omega
  · exact Nat.le_refl _
theorem trimS_len (l p : List UInt8) : (Lib.trimSuffix l p).length ≤ l.length := by
  unfold Lib.trimSuffix
  split
  · rw [List.length_take]; omega
  · exact Nat.le_refl _
theorem qb_head (c : UInt8) (r : List UInt8) : (odd c = true → qb c ++ r = 92 :: 120 :: hx (c.toNat / 16) :: hx (c.toNat % 16) :: r) ∧ (odd c = false → qb c ++ r = c :: r ∧ c ≠ 92) := by
  unfold qb
  constructor
  · intro h; rw [if_pos h]; rfl
  · intro h
    rw [if_neg (by simp [h])]
    refine ⟨rfl, fun e => ?_⟩
    subst e
    revert h
    decide
def strN (v : Value) : Nat := match v with | .string s => s.size | _ => 0
/-- how far bare has come: what it has taken, what is left -/
def BareP (s r : ByteArray) (L : List UInt8) : Prop := ∀ l, s.data.toList = quoteL l → ∃ l1 l2, l = l1 ++ l2 ∧ L = l1 ∧ r.data.toList = l2.flatMap qb
theorem ext_list (s : ByteArray) (a b : Nat) : (s.extract a b).data.toList = (s.data.toList.drop a).take (b - a) := by rw [Lib.extract_eq]
theorem ext_tail (s : ByteArray) (a : Nat) : (s.extract a s.size).data.toList = s.data.toList.drop a := by
  rw [ext_list, List.take_of_length_le (by rw [List.length_drop, data_size]; exact Nat.le_refl _)]
theorem list_size (s : ByteArray) : s.size = s.data.toList.length := (data_size s).symm
theorem bare_hex {s r t : ByteArray} {L : List UInt8} {n : Nat} (h : BareP s r L) (hp : Lib.hasPrefix r.data.toList [92, 120] = true) (ht : t.data.toList = r.data.toList.drop 2) (h2 : Hex2 (t.extract 0 2) n) (hn : n < 256) :
    BareP s (t.extract 2 t.size) (L ++ [UInt8.ofNat n]) := by
  intro l hl
  obtain ⟨l1, l2, e1, e2, e3⟩ := h l hl
  match l2, e1, e3 with
  | [], e1, e3 => rw [e3] at hp; cases hp
  | c :: l3, e1, e3 =>
    rw [List.flatMap_cons] at e3
    have hq := qb_head c (l3.flatMap qb)
    cases ho : odd c
    · have h3 := hq.2 ho
      rw [e3, h3.1] at hp
      unfold Lib.hasPrefix at hp
      rw [List.isPrefixOf] at hp
      simp at hp
      exact absurd hp.1.symm h3.2
    · have h3 := hq.1 ho
      rw [h3] at e3
      rw [e3] at ht
      have hc := c.toNat_lt
      have hv := h2 (c.toNat / 16) (c.toNat % 16) (by omega) (by omega) (by rw [ext_list, ht]; rfl)
      refine ⟨l1 ++ [c], l3, by rw [e1]; simp, ?_, by rw [ext_tail, ht]; rfl⟩
      rw [e2]
      congr 2
      rw [show n = c.toNat by omega]
      exact UInt8.ofNat_toNat
theorem bare_one {s r : ByteArray} {L : List UInt8} {c0 : UInt8} {rl : List UInt8} (h : BareP s r L) (hr : r.data.toList = c0 :: rl) (hp : Lib.hasPrefix r.data.toList [92, 120] = false ∨ r.data.toList.length < 4) :
    BareP s (r.extract 1 r.size) (L ++ [c0]) := by
  intro l hl
  obtain ⟨l1, l2, e1, e2, e3⟩ := h l hl
  match l2, e1, e3 with
  | [], e1, e3 => rw [e3] at hr; cases hr
  | c :: l3, e1, e3 =>
    rw [List.flatMap_cons] at e3
    have hq := qb_head c (l3.flatMap qb)
    cases ho : odd c
    · have h3 := hq.2 ho
      rw [h3.1] at e3
      rw [e3] at hr
      injection hr with hr1 hr2
      exact ⟨l1 ++ [c], l3, by rw [e1]; simp, by rw [e2, hr1], by rw [ext_tail, e3]; rfl⟩
    · have h3 := hq.1 ho
      rw [h3] at e3
      rcases hp with hp | hp
      · rw [e3] at hp
        unfold Lib.hasPrefix at hp
        simp at hp
      · rw [e3] at hp
        simp at hp
        omega
set_option maxRecDepth 100000 in
set_option maxHeartbeats 4000000 in
theorem bare_any (s : ByteArray) (hs : s.size ≤ 400000) (w : World) (hM : Mk w) : Calls Tryd.prog 36 #[.string s] w fun e w' => (∃ t : ByteArray, e = .returned (.string t) ∧ t.size ≤ s.size ∧ ∀ l, s.data.toList = quoteL l → t.data.toList = l) ∧ Below w.heap.size w w' := by
  have hA := Lib.hid (fun w => Tryd.strings_TrimPrefix s ⟨#[34]⟩ w)
  obtain ⟨s1, hs1⟩ : ∃ S : ByteArray, (⟨(Lib.trimPrefix s.data.toList [34]).toArray⟩ : ByteArray) = S := ⟨_, rfl⟩
  have hz1 : s1.size ≤ s.size := by rw [← hs1, ba_size, list_size s]; exact trimP_len _ _
  have hB := Lib.hid (fun w => Tryd.strings_TrimSuffix s1 ⟨#[34]⟩ w (by omega))
  obtain ⟨s2, hs2⟩ : ∃ S : ByteArray, (⟨(Lib.trimSuffix s1.data.toList [34]).toArray⟩ : ByteArray) = S := ⟨_, rfl⟩
  have hz2 : s2.size ≤ s.size := by rw [← hs2, ba_size]; have := trimS_len s1.data.toList [34]; rw [data_size] at this; omega
  have hP0 : BareP s s2 [] := by
    intro l hl
    refine ⟨[], l, rfl, rfl, ?_⟩
    rw [← hs2, ba_list, ← hs1, ba_list, hl, quote_trim]
  rw [show (⟨#[34]⟩ : ByteArray).data.toList = [34] from rfl, hs1] at hA
  rw [show (⟨#[34]⟩ : ByteArray).data.toList = [34] from rfl, hs2] at hB
  replace hP0 := Lib.hid hP0
  replace hs := Lib.hid hs
  replace hz2 := Lib.hid hz2
  have hmk := Lib.hid (fun W (h : Below w.heap.size w W) => hM.bel h)
  clear hs1 hs2 hz1 hM
  go_enter Tryd.func36, Tryd.ntmps36
  go_wp2_with (fail)
  refine (hA.out _).mono ?_
  rintro e w1 ⟨rfl, rfl⟩
  go_wp2_with (fail)
  refine (hB.out _).mono ?_
  rintro e w2 ⟨rfl, rfl⟩
  clear hA hB
  go_wp2_with (fail)
  go_loopw [0, 3] (fun x0 x3 wr => ∃ (r : ByteArray) (A : Option Addr) (c n : Nat), x0 = .string r ∧ x3 = .slice A n c ∧ Hid (n + r.size ≤ s.size ∧ ∃ L, L.length = n ∧ wr.ownsRow w2.heap.size 5 1 (.slice A n c) n (u8s L) ∧ Below w2.heap.size w2 wr ∧ BareP s r L)) (fun x0 _ _ => strN x0)
  case atStart => exact ⟨s2, none, 0, 0, rfl, rfl, Lib.hid ⟨by have := hz2.out; omega, [], rfl, World.ownsRow_nil _ _ _ _, Below.refl _ _, hP0.out⟩⟩
  case round =>
    obtain ⟨r, A, c, n, rfl, rfl, hQ⟩ := hrel
    obtain ⟨hle, L, hL, hown, hW, hP⟩ := hQ.out
    clear hP0 hz2
    have hs4 := hs.out
    by_cases hr0 : r.size = 0
    · have hre : r.toList.isEmpty = true := by
        rw [Lib.toList_data]
        rw [list_size] at hr0
        simpa using List.eq_nil_of_length_eq_zero hr0
      subst hL
      have hst := own_string wr w2.heap.size c A L hown
      have hfin : ∀ l, s.data.toList = quoteL l → L = l := by
        intro l hl
        obtain ⟨l1, l2, e1, e2, e3⟩ := hP l hl
        have : l2.flatMap qb = [] := by rw [← e3]; rw [list_size] at hr0; exact List.eq_nil_of_length_eq_zero hr0
        have h2 : l2 = [] := fqb_inj (l := l2) (m := []) this
        rw [e1, h2, e2]; simp
      have hend := Lib.hid (And.intro hle (And.intro hfin hW))
      clear hQ hown hP hfin hW hle hs4 hr0
      go_wp2_with (fail)
      go_returns
      exact ⟨⟨_, rfl, by rw [ba_size]; have := hend.out.1; omega, fun l hl => by rw [ba_list]; exact hend.out.2.1 l hl⟩, hend.out.2.2⟩
    · have hre : r.toList.isEmpty = false := by
        rw [Lib.toList_data]
        rw [list_size] at hr0
        cases h : r.data.toList with
        | nil => rw [h] at hr0; exact absurd rfl hr0
        | cons => rfl
      have hcp := Lib.hid (fun w => Tryd.strings_CutPrefix r ⟨#[92, 120]⟩ w)
      rw [show (⟨#[92, 120]⟩ : ByteArray).data.toList = [92, 120] from rfl] at hcp
      obtain ⟨t, ht⟩ : ∃ S : ByteArray, (⟨(Lib.trimPrefix r.data.toList [92, 120]).toArray⟩ : ByteArray) = S := ⟨_, rfl⟩
      rw [ht] at hcp
      have htl : t.data.toList = Lib.trimPrefix r.data.toList [92, 120] := by rw [← ht, ba_list]
      have hts : t.size ≤ r.size := by rw [list_size t, htl, list_size r]; exact trimP_len _ _
      have hti : (t.size : Int) ≤ 400000 := by omega
      have hri : (r.size : Int) ≤ 400000 := by omega
      clear ht
      by_cases hyes : Lib.hasPrefix r.data.toList [92, 120] = true ∧ 2 ≤ t.size
      · obtain ⟨hp, h2⟩ := hyes
        have htd : t.data.toList = r.data.toList.drop 2 := by rw [htl]; unfold Lib.trimPrefix; rw [if_pos hp]; rfl
        have hrs : r.size = t.size + 2 := by
          have h3 := congrArg List.length htd
          rw [List.length_drop, ← list_size, ← list_size] at h3
          omega
        rw [hp] at hcp
        have h2' : (2 : Int) ≤ (t.size : Int) := by omega
        have hpu := Lib.hid (fun W (h : Mk W) => pu_any (t.extract 0 2) (by rw [list_size, ext_list, List.length_take, List.drop_zero, ← list_size]; omega) W h)
        have hQ2 := Lib.hid (fun (m : Nat) (hm : m < 256) (hx : Hex2 (t.extract 0 2) m) => bare_hex hP hp htd hx hm)
        have hsz : (t.extract 2 t.size).size = t.size - 2 := by rw [list_size, ext_tail, List.length_drop, ← list_size]
        have happ := Lib.hid (fun (m : Nat) (W : World) (hb : Below wr.heap.size wr W) => u8_appd (w := W) [UInt8.ofNat m] (own_below hown hb (Nat.le_refl _)) (Nat.le_trans hW.size hb.size) (by simp; omega))
        have hWh := Lib.hid hW
        have hkeep := Lib.hid (And.intro hle (And.intro hL (And.intro hsz hrs)))
        have hge := Lib.hid (own_ge hown)
        clear hQ hown hP hW hle hL hs4 hr0 hp htd htl hts hsz hrs h2
        go_wp2_with (fail)
        refine (hcp.out _).mono ?_
        rintro e w3 ⟨rfl, hw3⟩
        replace hw3 := hw3.symm
        subst hw3
        go_wp2_with (fail)
        refine (hpu.out _ (hmk.out _ hWh.out)).mono ?_
        rintro e w4 ⟨⟨m, ev, rfl, hm, hx⟩, hb⟩
        obtain ⟨A2, c2, w5, hrun, hown2, hgr⟩ := happ.out m w4 hb
        have hm' : (m : Int) ≤ 255 := by omega
        have hwm : IntKind.u8.wrap (m : Int) = (m : Int) := by show ((m : Int) % 256 : Int) = _; omega
        have hB5 := below_grown2 (hWh.out.trans (hb.mono hWh.out.size)) hgr (Nat.le_trans hWh.out.size hb.size) hge.out
        have hfin : Hid (n + 1 + (t.extract 2 t.size).size ≤ s.size ∧ ∃ L, L.length = n + 1 ∧ w5.ownsRow w2.heap.size 5 1 (.slice A2 (n + 1) c2) (n + 1) (u8s L) ∧ Below w2.heap.size w2 w5 ∧ BareP s (t.extract 2 t.size) L) :=
          ⟨by have := hkeep.out; omega, L ++ [UInt8.ofNat m], by rw [List.length_append, hkeep.out.2.1]; rfl, hown2, hB5, hQ2.out m hm hx⟩
        have hmm : (UInt8.ofNat m).toNat = m := by rw [UInt8.toNat_ofNat']; omega
        simp [u8s] at hrun
        rw [show (m : Int) % 256 = (m : Int) by omega] at hrun
        replace hrun := Lib.hid hrun
        have hms := Lib.hid (by have := hkeep.out; omega : (t.extract 2 t.size).size < r.size)
        clear hcp hpu happ hQ2 hown2 hgr hB5 hkeep hge hb hmm hm hx hWh
        go_upto_region 7 with (fail)
        go_region_held3 (fun _ => True) (first | (simp [go_sem, *]; done) | go_keep) (first
          | (refine step_append_run rfl (.tmp 30) (.tmp 33) 77 rfl (.slice A n c) _ _ rfl rfl hrun.out ?_; have kS : True := trivial))
        all_goals
          go_wp2_with (fail)
          exact ⟨⟨_, A2, c2, n + 1, rfl, rfl, hfin⟩, hms.out⟩
      · have hcase : Lib.hasPrefix r.data.toList [92, 120] = false ∨ (Lib.hasPrefix r.data.toList [92, 120] = true ∧ (t.size : Int) < 2 ∧ r.data.toList.length < 4) := by
          cases hp : Lib.hasPrefix r.data.toList [92, 120]
          · exact .inl rfl
          · have h2 : t.size < 2 := Nat.lt_of_not_le fun h => hyes ⟨hp, h⟩
            refine .inr ⟨rfl, by omega, ?_⟩
            have htd : t.data.toList = r.data.toList.drop 2 := by rw [htl]; unfold Lib.trimPrefix; rw [if_pos hp]; rfl
            have h3 := congrArg List.length htd
            rw [List.length_drop, ← list_size] at h3
            omega
        obtain ⟨c0, rl, hrl⟩ : ∃ c0 rl, r.data.toList = c0 :: rl := by
          cases h : r.data.toList with
          | nil => rw [list_size, h] at hr0; exact absurd rfl hr0
          | cons a l => exact ⟨a, l, rfl⟩
        have hP2 : BareP s (r.extract 1 r.size) (L ++ [c0]) := bare_one hP hrl (hcase.elim .inl fun h => .inr h.2.2)
        have hidx : ∀ w, (Instr.index 9 (.string r) (.int .i64 0)).run Tryd.prog w = .ok (.int .u8 (c0.toNat : Int)) w := fun w => by
          rw [run_index_string w 9 r .i64 0 Tryd.underlying9, dif_pos ⟨by omega, by omega⟩]
          have h : r[(0 : Int).toNat]'(by show 0 < r.size; omega) = c0 := by
            have h2 : r.data.toList[0]? = some c0 := by rw [hrl]; rfl
            show r.data[0]'_ = c0
            have h3 : r.data[0]? = some (r.data[0]'(by have : r.data.size = r.size := rfl; omega)) := Array.getElem?_eq_getElem _
            rw [← Array.getElem?_toList, h2] at h3
            exact (Option.some.inj h3).symm
          rw [h]
        have hr1 : (1 : Int) ≤ (r.size : Int) := by omega
        obtain ⟨A2, c2, w5, hrun, hown2, hgr⟩ := u8_appd (w := wr) [c0] hown hW.size (by simp; omega)
        have hB5 := below_grown2 hW hgr hW.size (own_ge hown)
        have hsz : (r.extract 1 r.size).size = r.size - 1 := by rw [list_size, ext_tail, List.length_drop, ← list_size]
        have hfin : Hid (n + 1 + (r.extract 1 r.size).size ≤ s.size ∧ ∃ L, L.length = n + 1 ∧ w5.ownsRow w2.heap.size 5 1 (.slice A2 (n + 1) c2) (n + 1) (u8s L) ∧ Below w2.heap.size w2 w5 ∧ BareP s (r.extract 1 r.size) L) :=
          ⟨by omega, L ++ [c0], by rw [List.length_append, hL]; rfl, hown2, hB5, hP2⟩
        have hms := Lib.hid (by omega : (r.extract 1 r.size).size < r.size)
        simp [u8s] at hrun
        replace hrun := Lib.hid hrun
        clear hQ hown hP hW hle hL hs4 hr0 htl hts hrl hown2 hgr hB5 hsz hP2 hyes
        rcases hcase with hp | ⟨hp, h2, _⟩
        all_goals
          rw [hp] at hcp
          replace hp := Lib.hid hp
          go_wp2_with (fail)
          refine (hcp.out _).mono ?_
          rintro e w3 ⟨rfl, hw3⟩
          replace hw3 := hw3.symm
          subst hw3
          go_upto_region 8 with (fail)
          go_region_held3 (fun _ => True) (first | (simp [go_sem, *]; done) | go_keep) (first
            | (refine step_append_run rfl (.tmp 37) (.tmp 40) 77 rfl (.slice A n c) _ _ rfl rfl hrun.out ?_; have kS : True := trivial))
          all_goals
            go_wp2_with (fail)
            exact ⟨⟨_, A2, c2, n + 1, rfl, rfl, hfin⟩, hms.out⟩
end Go.Proofs.YtbhgjjicmbbjaaaDoor
