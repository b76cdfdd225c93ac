import Derived.Test.YtbhgjjicmbbjaaaDoorTrZa
import Derived.Test.YtbhgjjicmbbjaaaDoorTrYb
namespace Go.Proofs.YtbhgjjicmbbjaaaDoor
open Go.RowKit
set_option linter.unusedVariables false
set_option linter.unusedSimpArgs false
/-! chapter 17, the document's lines -/
def strsC (L : List ByteArray) : List Value := L.map Value.string
theorem str_info : (Tryd.prog.info? 9).map (fun i => (i.zero, i.size, i.bytes)) = some (some (.string ⟨#[]⟩), 1, 16) := by kernel_rfl
theorem str_app {w : World} {base : Nat} {V : Value} {n : Nat} {L : List ByteArray} (x : ByteArray) (h : w.ownsRow base 9 1 V n (strsC L)) (hb : base ≤ w.heap.size) (hl : n ≤ 1000000) :
    ∃ A' c' w2, (Builtin.append_ #[59, 59] 59 #[V, .slice (some ⟨w.heap.size, 0, none⟩) 1 1]).run Tryd.prog (w.alloc (.cells #[.string x] 9)) = .ok (.slice A' (n + 1) c') w2 ∧
      w2.ownsRow base 9 1 (.slice A' (n + 1) c') (n + 1) (strsC (L ++ [x])) ∧ w.grownBy w2 V.ownBlock := by
  obtain ⟨i9, hi, hz0, hz1, hz2⟩ := info_parts str_info
  have hrow := h.alloc (.cells #[.string x] 9)
  obtain ⟨v', w2, hrun, hown, hgr, _⟩ := run_append_own (P := Tryd.prog) (w.alloc (.cells #[.string x] 9)) base 59 59 9 i9 _ 1 16 Tryd.underlying59 hi hz0 hz1 hz2 rfl (by decide) V n (strsC L) hrow ⟨w.heap.size, 0, none⟩ 1 1 [.string x] rfl (fun j u hu => by
    have := (Bk.fresh w 9 #[.string x]).cell j
    rw [show ((⟨w.heap.size, 0, none⟩ : Addr).add j) = ⟨w.heap.size, j, none⟩ by unfold Addr.add; split <;> simp_all]
    exact this.trans (by simpa using hu)) (fun u hu => by simp at hu; rw [hu]; rfl) (by unfold maxLen; omega) (by omega) (by simp; omega)
  obtain ⟨A', c', rfl⟩ := own_form hown
  have hg0 := World.grownBy_alloc w (.cells #[.string x] 9) V.ownBlock
  refine ⟨A', c', w2, hrun, ?_, ⟨hgr.os.trans hg0.os, hgr.tape.trans hg0.tape, hgr.output.trans hg0.output, Nat.le_trans hg0.size hgr.size, fun k hk hn => (hgr.block k (Nat.lt_of_lt_of_le hk hg0.size) hn).trans (hg0.block k hk hn)⟩⟩
  rw [show strsC (L ++ [x]) = strsC L ++ [.string x] by simp [strsC]]
  exact hown
def StRow (w : World) (A : Option Addr) (xs : List ByteArray) : Prop := ∀ (i : Nat) (x : ByteArray), xs[i]? = some x → ∃ b off, A = some ⟨b, off, none⟩ ∧ b < w.heap.size ∧ w.cell? ⟨b, off + i, none⟩ = some (.string x)
theorem StRow.bel {w w' : World} {A : Option Addr} {xs : List ByteArray} (h : StRow w A xs) (hb : Below w.heap.size w w') : StRow w' A xs := by
  intro i x hx
  obtain ⟨b, off, h1, h2, h3⟩ := h i x hx
  exact ⟨b, off, h1, Nat.lt_of_lt_of_le h2 hb.size, (hb.cell (p := ⟨b, off + i, none⟩) h2).trans h3⟩
theorem stRow_own {w : World} {base : Nat} {A : Option Addr} {n c : Nat} {xs : List ByteArray} (h : w.ownsRow base 9 1 (.slice A n c) n (strsC xs)) (hn : xs.length = n) : StRow w A xs := by
  intro i x hx
  have hlt := (List.getElem?_eq_some_iff.1 hx).1
  rcases h.2 with ⟨e, h0⟩ | ⟨g, cap, cur, e, hb, hh, _⟩
  · omega
  · injection e with e1 _ e2
    subst e1
    have key := h.cells (g := g) rfl i (.string x) (by simp [strsC, hx])
    have ea : ∀ j, ((⟨g, 0, none⟩ : Addr).add j) = ⟨g, j, none⟩ := fun j => by unfold Addr.add; split <;> simp_all
    simp only [ea] at key
    refine ⟨g, 0, rfl, (Array.getElem?_eq_some_iff.1 hh).1, ?_⟩
    simp only [Nat.zero_add]
    exact key
def toL (b : ByteArray) : List UInt8 := b.data.toList
set_option maxRecDepth 100000 in
set_option maxHeartbeats 4000000 in
theorem rlines_any (s : ByteArray) (hs : s.size ≤ 200000) (w : World) : Calls Tryd.prog 37 #[.string s] w fun e w' => (∃ (A : Option Addr) (n c : Nat) (Ls : List ByteArray), e = .returned (.slice A n c) ∧ Ls.length = n ∧ n ≤ 200001 ∧ StRow w' A Ls ∧ LnS s.data.toList (Ls.map toL)) ∧ Below w.heap.size w w' := by
  have hs' : (s.size : Int) ≤ 200000 := by omega
  go_enter Tryd.func37, Tryd.ntmps37
  go_wp2_with (fail)
  go_loopw [3, 4, 5] (fun x3 x4 x5 wr => ∃ (A : Option Addr) (c n a i : Nat), x3 = .slice A n c ∧ x4 = .int .i64 a ∧ x5 = .int .i64 i ∧ i ≤ s.size ∧ a ≤ i ∧ n ≤ i ∧ Hid (∃ L, L.length = n ∧ wr.ownsRow w.heap.size 9 1 (.slice A n c) n (strsC L) ∧ Below w.heap.size w wr ∧ LnQ s.data.toList a i (L.map toL))) (fun _ _ x5 _ => s.size - (intOf x5).toNat)
  case atStart => exact ⟨none, 0, 0, 0, 0, rfl, rfl, rfl, Nat.zero_le _, Nat.le_refl _, Nat.le_refl _, Lib.hid ⟨[], rfl, World.ownsRow_nil _ _ _ _, Below.refl _ _, LnQ.zero _⟩⟩
  case round =>
    obtain ⟨A, c, n, a, i, rfl, rfl, rfl, hi, hai, hni, hQ⟩ := hrel
    obtain ⟨L, hL, hown, hW, hP⟩ := hQ.out
    by_cases hlt : i < s.size
    · have hlt' : (i : Int) < (s.size : Int) := by omega
      have hby := byte_at s i hlt
      obtain ⟨ch, hch⟩ : ∃ ch, s[i] = ch := ⟨_, rfl⟩
      rw [hch] at hby
      have hidx : ∀ w, (Instr.index 9 (.string s) (.int .i64 (i : Int))).run Tryd.prog w = .ok (.int .u8 (ch.toNat : Int)) w := fun w => by
        rw [run_index_string w 9 s .i64 (i : Int) Tryd.underlying9, dif_pos ⟨by omega, by omega⟩]
        rw [← hch]
        rfl
      clear hch
      by_cases hc : ch = 10
      · rw [hc] at hidx hby
        have hP2 := hP.yes hai hby
        have hsl : toL (s.extract a (i + 1)) = (s.data.toList.drop a).take (i + 1 - a) := ext_list s a (i + 1)
        obtain ⟨X, hX⟩ : ∃ X, s.extract a (i + 1) = X := ⟨_, rfl⟩
        rw [hX] at hsl
        obtain ⟨A2, c2, w5, hrun, hown2, hgr⟩ := str_app (w := wr) X hown hW.size (by omega)
        have hB5 := below_grown2 hW hgr hW.size (own_ge hown)
        have hfin : Hid (∃ L, L.length = n + 1 ∧ w5.ownsRow w.heap.size 9 1 (.slice A2 (n + 1) c2) (n + 1) (strsC L) ∧ Below w.heap.size w w5 ∧ LnQ s.data.toList (i + 1) (i + 1) (L.map toL)) :=
          ⟨L ++ [X], by rw [List.length_append, hL]; rfl, hown2, hB5, by rw [List.map_append, List.map_singleton, hsl]; exact hP2⟩
        have e1 : ((i : Int) + 1).toNat = i + 1 := by omega
        have q1 : (a : Int) ≤ (i : Int) + 1 := by omega
        have q2 : (i : Int) + 1 ≤ (s.size : Int) := by omega
        replace hrun := Lib.hid hrun
        have hlt9 := Lib.hid (And.intro hlt (And.intro hai hni))
        clear hQ hc hlt hown hW hP hby hL hP2 hown2 hgr hB5 hsl
        go_wp2_with (at_builtin; refine wpList_append_run rfl (.tmp 16) (.tmp 22) 59 rfl (.slice A n c) _ _ rfl rfl hrun.out ?_)
        exact ⟨⟨A2, c2, n + 1, i + 1, i + 1, rfl, rfl, rfl, by have := hlt9.out; omega, Nat.le_refl _, by have := hlt9.out; omega, hfin⟩, by simp [intOf]; have := hlt9.out; omega⟩
      · have hP2 := hP.no (by rw [hby]; intro e; exact hc (Option.some.inj e))
        have hfin : Hid (∃ L, L.length = n ∧ wr.ownsRow w.heap.size 9 1 (.slice A n c) n (strsC L) ∧ Below w.heap.size w wr ∧ LnQ s.data.toList a (i + 1) (L.map toL)) := ⟨L, hL, hown, hW, hP2⟩
        have hcn : ((ch.toNat : Int) == 10) = false := by
          simp only [beq_eq_false_iff_ne, ne_eq]
          intro h
          exact hc (UInt8.toNat_inj.1 (by show ch.toNat = 10; omega))
        obtain ⟨z, hz⟩ : ∃ z, ch.toNat = z := ⟨_, rfl⟩
        rw [hz] at hidx hcn
        have hlt9 := Lib.hid (And.intro hlt (And.intro hai hni))
        clear hQ hc hlt hown hW hP hby hL hP2 hz
        go_wp2_with (fail)
        exact ⟨⟨A, c, n, a, i + 1, rfl, rfl, rfl, by have := hlt9.out; omega, by have := hlt9.out; omega, by have := hlt9.out; omega, hfin⟩, by simp [intOf]; have := hlt9.out; omega⟩
    · have hlt' : ¬ (i : Int) < (s.size : Int) := by omega
      obtain rfl : i = s.size := by omega
      by_cases ha : a < s.size
      · have ha' : (a : Int) < (s.size : Int) := by omega
        have hP2 := LnQ.end_ (s := s.data.toList) (a := a) (L := L.map toL) (by rw [data_size]; exact hP) (by rw [data_size]; exact ha)
        have hsl : toL (s.extract a s.size) = s.data.toList.drop a := ext_tail s a
        obtain ⟨X, hX⟩ : ∃ X, s.extract a s.size = X := ⟨_, rfl⟩
        rw [hX] at hsl
        obtain ⟨A2, c2, w5, hrun, hown2, hgr⟩ := str_app (w := wr) X hown hW.size (by omega)
        have hB5 := below_grown2 hW hgr hW.size (own_ge hown)
        have hfin := Lib.hid (And.intro (stRow_own hown2 (by rw [List.length_append, hL]; rfl)) (And.intro hB5 (by rw [List.map_append, List.map_singleton, hsl]; exact hP2 : LnS s.data.toList ((L ++ [X]).map toL))))
        replace hrun := Lib.hid hrun
        have hlt9 := Lib.hid (And.intro hni hs)
        have hL9 := Lib.hid hL
        clear hQ hlt hown hW hP hL hP2 hown2 hgr hB5 hsl
        go_wp2_with (at_builtin; refine wpList_append_run rfl (.tmp 30) (.tmp 34) 59 rfl (.slice A n c) _ _ rfl rfl hrun.out ?_)
        go_returns
        exact ⟨⟨A2, n + 1, ⟨c2, rfl⟩, L ++ [X], by rw [List.length_append, hL9.out]; rfl, by have := hlt9.out; omega, hfin.out.1, hfin.out.2.2⟩, hfin.out.2.1⟩
      · have ha' : ¬ (a : Int) < (s.size : Int) := by omega
        have hP2 := LnQ.full hP (by rw [data_size]; omega)
        have hfin := Lib.hid (And.intro (stRow_own hown hL) (And.intro hW (And.intro hP2 (And.intro hL (And.intro hni hs)))))
        clear hQ hlt hown hW hP hL hP2 ha
        go_wp2_with (fail)
        go_returns
        exact ⟨⟨A, n, ⟨c, rfl⟩, L, hfin.out.2.2.2.1, by have := hfin.out.2.2.2.2; omega, hfin.out.1, hfin.out.2.2.1⟩, hfin.out.2.1⟩
end Go.Proofs.YtbhgjjicmbbjaaaDoor
