import Derived.Test.YtihepdnnafdkdaaScanP
namespace Go.Proofs.Ytihepdnnafdkdaa
open Go.RowKit
set_option linter.unusedVariables false
set_option linter.unusedSimpArgs false
theorem blank_of (x : UInt8) : ∃ y : UInt8, (x.toNat : Int) % 33 = (y.toNat : Int) ∧ isBlank y = true := by
  refine ⟨UInt8.ofNat (x.toNat % 33), ?_, ?_⟩
  · simp; omega
  · unfold isBlank; simp; omega
theorem own_form {W : World} {base n size : Nat} {e : TypeId} {v : Value} {xs : List Value} (h : W.ownsRow base e size v n xs) : ∃ A c, v = .slice A n c := by
  rcases h.2 with ⟨rfl, rfl⟩ | ⟨g, cap, cur, rfl, _⟩
  · exact ⟨_, _, rfl⟩
  · exact ⟨_, _, rfl⟩
theorem own_string (W : World) (base c : Nat) (A : Option Addr) (L : List UInt8) (h : W.ownsRow base 5 1 (.slice A L.length c) L.length (u8s L)) :
    (convert 27 9 (.slice A L.length c)).run Try.prog W = .ok (.string ⟨L.toArray⟩) W := by
  rcases h.2 with ⟨e, hn⟩ | ⟨g, cap, cur, e, _⟩
  · injection e with e1 _ e2
    subst e1
    have : L = [] := List.eq_nil_of_length_eq_zero hn
    subst this
    show (convert 27 9 (.slice none 0 c)).run Try.prog W = _
    rw [run_convert_bytes_string (P := Try.prog) W 27 9 5 none 0 c Try.underlying27 Try.underlying5 Try.underlying9]
    rfl
  · injection e with e1 _ e2
    subst e1
    refine run_convert_bytes_back (P := Try.prog) W 27 9 5 ⟨g, 0, none⟩ c L Try.underlying27 Try.underlying5 Try.underlying9 (fun j hj => ?_)
    exact h.cells (g := g) rfl j _ (by simp [u8s, List.getElem?_eq_getElem hj])
theorem own_at {W : World} {base n c : Nat} {e : TypeId} {A : Option Addr} {xs : List Value} (h : W.ownsRow base e 1 (.slice A n c) n xs) (hn : 0 < n) : ∃ g, A = some ⟨g, 0, none⟩ ∧ base ≤ g ∧ g < W.heap.size ∧ ∀ j u, xs[j]? = some u → W.cell? ⟨g, j, none⟩ = some u := by
  rcases h.2 with ⟨e, hn⟩ | ⟨g, cap, cur, e, hb, _⟩
  · omega
  · injection e with e1 _ e2
    subst e1
    refine ⟨g, rfl, hb, (h.lt g rfl).2, fun j u hu => ?_⟩
    have := h.cells (g := g) rfl j u hu
    rwa [show ((⟨g, 0, none⟩ : Addr).add j) = ⟨g, j, none⟩ by unfold Addr.add; split <;> simp_all] at this
theorem own_only2 {W W' : World} {g base size n : Nat} {e : TypeId} {v : Value} {xs : List Value} (h : W.ownsRow base e size v n xs) (ho : Only g W W') (hg : v.ownBlock ≠ some g) : W'.ownsRow base e size v n xs := by
  refine ⟨h.1, ?_⟩
  rcases h.2 with hn | ⟨k, cap, cur, rfl, hb, hgg, rest⟩
  · exact .inl hn
  · refine .inr ⟨k, cap, cur, rfl, hb, ?_, rest⟩
    rw [ho.block k (Array.getElem?_eq_some_iff.1 hgg).1 (by simpa [Value.ownBlock] using hg)]
    exact hgg
theorem flat_le (ws : List ByteArray) (y : UInt8) (j : Nat) : (flat (ws.take j) y).length ≤ (flat ws y).length := by
  have e : flat ws y = flat (ws.take j) y ++ flat (ws.drop j) y := by
    unfold flat
    rw [← List.flatMap_append, List.take_append_drop]
  rw [e, List.length_append]; omega
theorem rd_any (b : Nat) (ws : List ByteArray) (y : UInt8) (hw : ∀ w ∈ ws, Inky w) (hx : isBlank y = true) (j : Nat) (h : j < ws.length) (v : ByteArray) (hv : ws[j] = v) (T : ByteArray) (hT : (ByteArray.mk (flat ws y).toArray) = T) (hs : T.size ≤ 60000) (w : World) (hS : Src w b T (flat (ws.take j) y).length) :
    Calls Try.prog 9 #[.pointer (some ⟨b, 0, none⟩)] w fun e w' => e = .returned (.tuple #[.string v, .int .i64 ((v.size : Int) + 1)]) ∧ Src w' b T (flat (ws.take (j + 1)) y).length ∧ Only b w w' := by
  subst hv; subst hT
  have r := read_flat ws y hw hx j h
  have g := word_any b _ _ w hS r.2.2.2.2 hs
  rw [r.1, r.2.1, r.2.2.1, r.2.2.2.1, show (((flat (ws.take (j + 1)) y).length : Nat) : Int) - (flat (ws.take j) y).length = (ws[j].size : Int) + 1 by have := flat_next ws y j h; omega] at g
  exact g
theorem rd_end (b : Nat) (s : ByteArray) (hs : s.size ≤ 60000) (w : World) (hS : Src w b s s.size) :
    Calls Try.prog 9 #[.pointer (some ⟨b, 0, none⟩)] w fun e w' => e = .returned (.tuple #[.string ByteArray.empty, .int .i64 0]) ∧ Only b w w' := by
  have r := read_flat_end s
  have g := word_any b _ _ w hS (Nat.le_refl _) hs
  rw [r.1, r.2.1, r.2.2, show s.extract s.size s.size = ByteArray.empty by ext1; simp, show ((s.size : Nat) : Int) - s.size = 0 by omega] at g
  exact g.mono fun e w' ⟨h1, _, h3⟩ => ⟨h1, h3⟩
/-- a word that is read -/
theorem word_is (s : ByteArray) (k : Nat) (hk : k ≤ s.size) : ((s.extract (wBeg s k) (wEnd s k)).size = 0 ∧ wNext s k = s.size ∨ Inky (s.extract (wBeg s k) (wEnd s k)) ∧ k < wNext s k) ∧ k ≤ wNext s k ∧ wNext s k ≤ s.size ∧ (s.extract (wBeg s k) (wEnd s k)).size ≤ wNext s k - k := by
  have b := w_bounds s k hk
  have e : (s.extract (wBeg s k) (wEnd s k)).size = wEnd s k - wBeg s k := by simp [ByteArray.size_extract]; omega
  refine ⟨?_, by omega, by omega, by omega⟩
  by_cases h : wBeg s k < wEnd s k
  · exact .inr ⟨word_inky s k hk h, by omega⟩
  · exact .inl ⟨by omega, (word_end s k hk (by omega)).2⟩
set_option maxHeartbeats 2000000 in
set_option maxRecDepth 100000 in
theorem walk_words (s : ByteArray) (b : Int) (hs : s.size ≤ maxLen) (hb : (Lit.int .u8 b).wf = true) (w : World) :
    Calls Try.prog 3 #[.string s, .int .u8 b] w fun e w' => e = .returned (.bool true) ∧ Below w.heap.size w w' := by
  obtain ⟨x, rfl⟩ := byte_of b hb
  obtain ⟨y, hy, hyb⟩ := blank_of x
  have HYB := Lib.hid hyb
  clear hyb hb
  obtain ⟨i9, hi, hz0, hz1, hz2⟩ := info_parts info_str
  obtain ⟨i5, hj, hy0, hy1, hy2⟩ := info_parts info_u8
  go_enter Try.func3, Try.ntmps3
  go_wp2_with (fail)
  refine (shown_any w).mono ?_
  rintro e w0 ⟨rfl, hB0⟩
  by_cases hl : 60000 < s.size
  · go_wp2_with (fail)
    refine (new_long s w0 hl).mono ?_
    rintro e w1 ⟨rfl, rfl⟩
    have i1 : 60000 < (s.size : Int) := by omega
    go_wp2
    go_returns
    exact ⟨rfl, hB0⟩
  · have hle : s.size ≤ 60000 := by omega
    go_wp2_with (fail)
    refine (new_ok s w0 hle).mono ?_
    rintro e w1 ⟨rfl, rfl⟩
    have hS0 := new_src s w0
    have hO0 := (Only.refl w0.heap.size w0).past (.cells #[.string s, .int .i64 0, .int .i64 0] 53)
    have hsz : (w0.alloc (.cells #[.string s, .int .i64 0, .int .i64 0] 53)).heap.size = w0.heap.size + 1 := by simp
    generalize w0.alloc (.cells #[.string s, .int .i64 0, .int .i64 0] 53) = w1 at *
    go_wp2_with (fail)
    have hW0 : Wd w0 w1 (w0.heap.size + 1) w0.heap.size s 0 y (.slice none 0 0) [] (.slice none 0 0) [] :=
      ⟨hS0, World.ownsRow_nil _ _ _ _, World.ownsRow_nil _ _ _ _, hO0.below (Nat.le_refl _) (Nat.le_refl _), by omega, by omega⟩
    clear hS0 hO0 hsz
    generalize hsb : w0.heap.size = sb at *
    go_loopw [8, 9, 10] (fun vb vw n wr => ∃ (k : Nat) (ws : List ByteArray), n = .int .i64 k ∧ k ≤ s.size ∧ Wd w0 wr (sb + 1) sb s k y vw ws vb (flat ws y) ∧ (∀ w ∈ ws, Inky w) ∧ ws.length ≤ k ∧ (flat ws y).length ≤ 2 * k) (fun _ _ n _ => s.size - (intOf n).toNat)
    case atStart => exact ⟨0, [], rfl, by omega, hW0, by simp, by simp, by simp [flat]⟩
    case round =>
      obtain ⟨k, ws, rfl, hk, hW, hI, hL1, hL2⟩ := hrel
      have HI := Lib.hid hI
      clear hI hW0
      obtain ⟨hwd, hk1, hk2, hk3⟩ := word_is s k hk
      have hS := hW.src
      have hW := Lib.hid hW
      go_wp2_with (fail)
      refine (word_any sb s k wr hS hk hle).mono ?_
      rintro e w2 ⟨rfl, hS2, hO2⟩
      have hW2 := Lib.hid (hW.out.only hO2 hS2 (by have := hS.lt; omega))
      clear hW hO2
      generalize hwe : s.extract (wBeg s k) (wEnd s k) = wd at *
      generalize hme : wNext s k = m at *
      have HWD := Lib.hid hwd
      clear hwd hS
      have q0 : (k : Int) + (m - k) = m := by omega
      have q2 : ¬ (m : Int) - k < wd.size := by omega
      have q3 : ¬ (s.size : Int) < m := by omega
      cases hem : wd.toList.isEmpty
      · have hwi : Inky wd ∧ k < m := by
          rcases HWD.out with h | h
          · rw [ByteArray.toList_eq] at hem
            have : wd.data.toList.length = wd.size := by first | (simp; done) | (simp; rfl)
            have h3 : wd.data.toList = [] := List.eq_nil_of_length_eq_zero (by omega)
            rw [h3] at hem; cases hem
          · exact h
        obtain ⟨hwi, hkm⟩ := hwi
        have HWI := Lib.hid hwi
        clear hwi HWD
        go_wp2_with (fail)
        refine (at_any _ s m _ hS2).mono ?_
        rintro e w3 ⟨rfl, rfl⟩
        have hbs := hW2.out.size
        go_wp2_with (at_builtin; refine wpList_append_own _ rfl (.tmp 67) (.tmp 69) 28 rfl (sb + 1) 9 i9 (.string ByteArray.empty) 1 16 Try.underlying28 hi hz0 hz1 hz2 rfl (by decide) _ ws.length (strs ws) rfl (hW2.out.own1.alloc _) ⟨w3.heap.size, 0, none⟩ 1 1 [.string wd] rfl rfl ?c1 ?c2 (by unfold maxLen; omega) (by omega) (by simp; omega) ?_)
        case c1 =>
          intro j u hj
          match j, hj with
          | 0, hj => simp at hj; subst hj; simp [Addr.add]
        case c2 => intro u hu; simp at hu; subst hu; rfl
        intro vw' w4 hown1 hgr1 _
        have hW4 := Lib.hid ((hW2.out.alloc _).grow1 hown1 hgr1)
        clear hown1 hgr1 hS2 hW2
        have hbs4 := hW4.out.size
        go_wp2_with (at_builtin; refine Lib.wpList_append_own_string _ rfl (.tmp 71) (.tmp 72) 27 9 rfl (sb + 1) 5 i5 Try.underlying27 Try.underlying9 hj hy0 hy1 hy2 _ (flat ws y).length (u8s (flat ws y)) rfl hW4.out.own2 wd rfl (by unfold maxLen; omega) (by omega) hbs4 ?_)
        intro vb' w5 hown2 hgr2 _
        have hW5 := Lib.hid (hW4.out.grow2 (M := wd.data.toList) hown2 (by first | (simp; done) | (simp; rfl)) hgr2)
        clear hown2 hgr2 hW4
        have hbs5 := hW5.out.size
        have hl5 : (flat ws y ++ wd.data.toList).length = (flat ws y).length + wd.size := by
          rw [List.length_append]; congr 1
        have hl5 := Lib.hid hl5
        go_wp2_with (at_builtin; refine wpList_append_own _ rfl (.tmp 74) (.tmp 76) 27 rfl (sb + 1) 5 i5 (.int .u8 0) 1 1 Try.underlying27 hj hy0 hy1 hy2 rfl (by decide) _ (flat ws y ++ wd.data.toList).length (u8s (flat ws y ++ wd.data.toList)) rfl (hW5.out.own2.alloc _) ⟨w5.heap.size, 0, none⟩ 1 1 (u8s [y]) rfl rfl ?d1 ?d2 (by rw [hl5.out]; unfold maxLen; omega) (by rw [hl5.out]; omega) (by simp; omega) ?_)
        case d1 =>
          intro j u hj
          match j, hj with
          | 0, hj => simp [u8s] at hj; subst hj; simp [Addr.add]
        case d2 => intro u hu; simp [u8s] at hu; subst hu; rfl
        intro vb'' w6 hown3 hgr3 _
        have hW6 := Lib.hid ((hW5.out.alloc _).grow2 (M := [y]) (m := 1) (by rw [hl5.out]; exact hown3) rfl hgr3)
        clear hown3 hgr3 hW5
        go_wp2
        refine ⟨⟨m, ws ++ [wd], by simp, hk2, by rw [flat_push]; exact hW6.out, ?_, ?_, ?_⟩, ?_⟩
        · intro w hw
          rcases List.mem_append.1 hw with h | h
          · exact HI.out w h
          · simp at h; subst h; exact HWI.out
        · simp; omega
        · rw [flat_push]
          have : wd.data.toList.length = wd.size := by first | (simp; done) | (simp; rfl)
          simp only [List.length_append, this]; simp; omega
        · simp [intOf]; omega
      · have hm : m = s.size := by
          rcases HWD.out with h | h
          · exact h.2
          · rw [ByteArray.toList_eq] at hem
            have h0 := h.1.1
            have : wd.data.toList.length = wd.size := by first | (simp; done) | (simp; rfl)
            have h3 : wd.data.toList = [] := List.isEmpty_iff.1 hem
            rw [h3] at this; simp at this; omega
        subst hm
        clear HWD hk3
        obtain ⟨A, cap, rfl⟩ := own_form hW2.out.own2
        obtain ⟨A', cap', rfl⟩ := own_form hW2.out.own1
        by_cases h6 : 60000 < (flat ws y).length
        · have i6 : 60000 < ((flat ws y).length : Int) := by omega
          go_wp2_with (fail)
          refine (at_any _ s s.size _ hS2).mono ?_
          rintro e w3 ⟨rfl, rfl⟩
          go_wp2
          go_returns
          exact ⟨rfl, hB0.trans (hW2.out.below.mono (by have := hB0.size; omega))⟩
        · have i6 : ¬ 60000 < ((flat ws y).length : Int) := by omega
          have hconv := own_string w2 _ cap A _ hW2.out.own2
          have hconv2 := hconv
          go_wp2_with (fail)
          refine (at_any _ s s.size _ hS2).mono ?_
          rintro e w3 ⟨rfl, rfl⟩
          go_wp2_with (fail)
          have hTs : (ByteArray.mk (flat ws y).toArray).size = (flat ws y).length := rfl
          generalize hT : ByteArray.mk (flat ws y).toArray = T at *
          have hTl : T.size ≤ 60000 := by omega
          refine (new_ok T _ hTl).mono ?_
          rintro e w4 ⟨rfl, rfl⟩
          have hT0 := new_src T w3
          have hB4 : Below sb w0 (w3.alloc (.cells #[.string T, .int .i64 0, .int .i64 0] 53)) := (hW2.out.below).alloc (by have := hS2.lt; omega) _
          have hown4 := hW2.out.own1.alloc (.cells #[.string T, .int .i64 0, .int .i64 0] 53)
          have hfar : (Value.slice A' ws.length cap').ownBlock ≠ some w3.heap.size := fun e => by have := (hW2.out.own1.lt _ e).2; omega
          have hge : sb ≤ w3.heap.size := by have := hS2.lt; omega
          generalize w3.alloc (.cells #[.string T, .int .i64 0, .int .i64 0] 53) = w4 at *
          generalize w3.heap.size = tb at *
          clear hW2 hS2 hW hconv hconv2
          have hfar := Lib.hid hfar
          have HT := Lib.hid hT
          clear hT hwe hme
          have HTs := Lib.hid hTs
          clear hTs
          go_wp2_with (fail)
          go_loopw [14] (fun i wr => ∃ (j : Nat), i = .int .i64 j ∧ j ≤ ws.length ∧ Src wr tb T (flat (ws.take j) y).length ∧ wr.ownsRow (sb + 1) 9 1 (.slice A' ws.length cap') ws.length (strs ws) ∧ Below sb w0 wr) (fun i _ => ws.length - (intOf i).toNat)
          case atStart => exact ⟨0, rfl, by omega, hT0, hown4, hB4⟩
          case round =>
            obtain ⟨j, rfl, hj, hS, hown, hB⟩ := hrel
            clear hT0 hown4 hB4
            have hown := Lib.hid hown
            have hB := Lib.hid hB
            by_cases hlt : j < ws.length
            · have j1 : (j : Int) < ws.length := by omega
              have j0 : (0 : Int) ≤ j := by omega
              obtain ⟨g, rfl, hg1, hg2, hcx⟩ := own_at hown.out (by omega)
              obtain ⟨v, hv⟩ : ∃ v, ws[j] = v := ⟨_, rfl⟩
              have hc := hcx j (.string v) (by simp [strs, List.getElem?_eq_getElem hlt, hv])
              clear hcx
              have hvl : v.size ≤ 60000 := by
                have h1 := flat_next ws y j hlt
                have h2 := flat_le ws y (j + 1)
                have h3 := HTs.out
                rw [hv] at h1; omega
              have HV := Lib.hid hv
              clear hv
              go_wp2_with (fail)
              refine (rd_any tb ws y HI.out HYB.out j hlt v HV.out T HT.out hTl _ hS).mono ?_
              rintro e w5 ⟨rfl, hS5, hO5⟩
              have hc5 : w5.cell? ⟨g, j, none⟩ = some (.string v) := by
                rw [← hc]; exact World.cell?_of_block (hO5.block g hg2 (fun e => hfar.out (by simp [Value.ownBlock, e])))
              have hown5 := Lib.hid (own_only2 hown.out hO5 hfar.out)
              have hB5 := Lib.hid (hB.out.trans (hO5.below hge (by have := hS.lt; omega)))
              clear hc hS
              go_wp2
              exact ⟨⟨j + 1, by simp, by omega, hS5, hown5.out, hB5.out⟩, by simp [intOf]; omega⟩
            · have e : j = ws.length := by omega
              subst e
              have hS' : Src wr tb T T.size := by
                have h1 : (flat (ws.take ws.length) y).length = T.size := by rw [List.take_length]; exact HTs.out.symm
                rw [h1] at hS; exact hS
              go_wp2_with (fail)
              refine (rd_end tb T hTl _ hS').mono ?_
              rintro e w5 ⟨rfl, hO5⟩
              go_wp2
              go_returns
              exact ⟨rfl, hB0.trans ((hB.out.trans (hO5.below hge (by have := hS.lt; omega))).mono (by have := hB0.size; omega))⟩
end Go.Proofs.Ytihepdnnafdkdaa
