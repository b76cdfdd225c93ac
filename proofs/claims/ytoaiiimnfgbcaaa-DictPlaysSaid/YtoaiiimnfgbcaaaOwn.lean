import Derived.Test.YtoaiiimnfgbcaaaBlk
import Derived.Test.YtoaiiimnfgbcaaaProg
import Derived.Laws.IdiomStrings
import Derived.Lib.AppendStr
import Derived.Laws.OwnMore
import Derived.OwnWalk
namespace Go.Proofs.Ytoaiiimnfgbcaaa
open Go.RowKit
set_option linter.unusedVariables false
set_option linter.unusedSimpArgs false
/-! what a slice of the call's own is worth over calls, new blocks, appends -/
def u8s (l : List UInt8) : List Value := l.map fun c => Value.int .u8 (c.toNat : Int)
theorem u8s_append (l m : List UInt8) : u8s l ++ u8s m = u8s (l ++ m) := by simp [u8s]
theorem u8s_strCells (s : ByteArray) : Lib.strCells s = u8s s.data.toList := rfl
theorem u8s_at (l : List UInt8) (j : Nat) (h : j < l.length) : (u8s l)[j]? = some (.int .u8 (l[j].toNat : Int)) := by simp [u8s, List.getElem?_eq_getElem h]
theorem size_list (l : List UInt8) : (ByteArray.mk l.toArray).size = l.length := rfl
theorem data_size (s : ByteArray) : s.data.toList.length = s.size := by first | (simp; done) | (simp; rfl)
theorem own_only {W W' : World} {g base size n : Nat} {e : TypeId} {v : Value} {xs : List Value} (h : W.ownsRow base e size v n xs) (ho : Only g W W') (hg : v.ownBlock ≠ some g) : W'.ownsRow base e size v n xs := by
  refine ⟨h.1, ?_⟩
  rcases h.2 with hn | ⟨k, cap, cur, rfl, hb, hgg, rest⟩
  · exact .inl hn
  · refine .inr ⟨k, cap, cur, rfl, hb, ?_, rest⟩
    rw [ho.block k (Array.getElem?_eq_some_iff.1 hgg).1 (by simpa [Value.ownBlock] using hg)]
    exact hgg
theorem own_below {W W' : World} {B base size n : Nat} {e : TypeId} {v : Value} {xs : List Value} (h : W.ownsRow base e size v n xs) (hb : Below B W W') (hB : W.heap.size ≤ B) : W'.ownsRow base e size v n xs := by
  refine ⟨h.1, ?_⟩
  rcases h.2 with hn | ⟨k, cap, cur, rfl, hb0, hgg, rest⟩
  · exact .inl hn
  · refine .inr ⟨k, cap, cur, rfl, hb0, ?_, rest⟩
    rw [hb.block k (by have := (Array.getElem?_eq_some_iff.1 hgg).1; omega)]
    exact hgg
theorem own_base {W : World} {base base' size n : Nat} {e : TypeId} {v : Value} {xs : List Value} (h : W.ownsRow base e size v n xs) (hb : base' ≤ base) : W.ownsRow base' e size v n xs := by
  refine ⟨h.1, ?_⟩
  rcases h.2 with hn | ⟨k, cap, cur, rfl, hb0, rest⟩
  · exact .inl hn
  · exact .inr ⟨k, cap, cur, rfl, by omega, rest⟩
theorem own_draws {W : World} {base size n : Nat} {e : TypeId} {v : Value} {xs : List Value} (h : W.ownsRow base e size v n xs) (k : Nat) : (W.drewN k).ownsRow base e size v n xs := h
theorem own_far {W : World} {b b' n n' size size' : Nat} {e e' : TypeId} {v v' : Value} {xs ys : List Value} (h : W.ownsRow b e size v n xs) (h' : W.ownsRow b' e' size' v' n' ys) (hne : e ≠ e') : v.ownBlock = none ∨ v.ownBlock ≠ v'.ownBlock := by
  rcases h.2 with ⟨rfl, _⟩ | ⟨g, cap, cur, rfl, _, hg, _⟩
  · exact .inl rfl
  · right
    rcases h'.2 with ⟨rfl, _⟩ | ⟨g', cap', cur', rfl, _, hg', _⟩
    · simp [Value.ownBlock]
    · simp only [Value.ownBlock]
      intro e1
      injection e1 with e1
      subst e1
      rw [hg] at hg'
      injection hg' with hg'
      injection hg' with _ ht
      exact hne ht
theorem own_form {W : World} {base n size : Nat} {e : TypeId} {v : Value} {xs : List Value} (h : W.ownsRow base e size v n xs) : ∃ A c, v = .slice A n c := by
  rcases h.2 with ⟨rfl, rfl⟩ | ⟨g, cap, cur, rfl, _⟩
  · exact ⟨_, _, rfl⟩
  · exact ⟨_, _, rfl⟩
theorem own_block {W : World} {base n : Nat} {e : TypeId} {v : Value} {xs : List Value} (h : W.ownsRow base e 1 v n xs) (hn : 0 < n) : ∃ (g cap : Nat) (cur : Array Value), v = .slice (some ⟨g, 0, none⟩) n cap ∧ base ≤ g ∧ Bk W g e cur ∧ (∀ (j : Nat) (u : Value), xs[j]? = some u → cur[j]? = some u) ∧ cur.size = cap ∧ n ≤ cap := by
  rcases h.2 with ⟨_, h0⟩ | ⟨g, cap, cur, e1, hb, hg, hnc, hm, hsz, hx⟩
  · omega
  · refine ⟨g, cap, cur, e1, hb, hg, fun j u hu => ?_, by omega, hnc⟩
    rw [← hx, List.getElem?_take] at hu
    split at hu
    · simpa using hu
    · cases hu
theorem own_at {W : World} {base n c : Nat} {e : TypeId} {A : Option Addr} {xs : List Value} (h : W.ownsRow base e 1 (.slice A n c) n xs) (hn : 0 < n) : ∃ g, A = some ⟨g, 0, none⟩ ∧ base ≤ g ∧ g < W.heap.size ∧ n ≤ c ∧ ∀ j u, xs[j]? = some u → W.cell? ⟨g, j, none⟩ = some u := by
  rcases h.2 with ⟨e, hn⟩ | ⟨g, cap, cur, e, hb, hh, hnc, _⟩
  · omega
  · injection e with e1 _ e2
    subst e1
    refine ⟨g, rfl, hb, (h.lt g rfl).2, by omega, fun j u hu => ?_⟩
    have := h.cells (g := g) rfl j u hu
    rwa [show ((⟨g, 0, none⟩ : Addr).add j) = ⟨g, j, none⟩ by unfold Addr.add; split <;> simp_all] at this
theorem Bk.grown {W W' : World} {b : Nat} {t : TypeId} {vs : Array Value} {row : Option Nat} (h : Bk W b t vs) (hg : W.grownBy W' row) (hn : some b ≠ row) : Bk W' b t vs := (hg.block b h.lt hn).trans h
theorem Bk.ne {W : World} {b b' : Nat} {t t' : TypeId} {vs vs' : Array Value} (h : Bk W b t vs) (h' : Bk W b' t' vs') (hne : t ≠ t') : b ≠ b' := by
  rintro rfl
  unfold Bk at h h'
  rw [h] at h'
  injection h' with h'
  injection h' with _ ht
  exact hne ht
/-! a string out of a slice of the call's own -/
set_option maxRecDepth 100000 in
theorem own_string (W : World) (base c : Nat) (A : Option Addr) (L : List UInt8) (h : W.ownsRow base 5 1 (.slice A L.length c) L.length (u8s L)) :
    (convert 65 9 (.slice A L.length c)).run Try.prog W = .ok (.string ⟨L.toArray⟩) W := by
  rcases h.2 with ⟨e, hn⟩ | ⟨g, cap, cur, e, _⟩
  · injection e with e1 _ e2
    subst e1
    have : L = [] := List.eq_nil_of_length_eq_zero hn
    subst this
    show (convert 65 9 (.slice none 0 c)).run Try.prog W = _
    rw [run_convert_bytes_string (P := Try.prog) W 65 9 5 none 0 c Try.underlying65 Try.underlying5 Try.underlying9]
    rfl
  · injection e with e1 _ e2
    subst e1
    refine run_convert_bytes_back (P := Try.prog) W 65 9 5 ⟨g, 0, none⟩ c L Try.underlying65 Try.underlying5 Try.underlying9 (fun j hj => ?_)
    exact h.cells (g := g) rfl j _ (by simp [u8s, List.getElem?_eq_getElem hj])
/-- block b begins with these bytes, which may be written -/
def Bs (W : World) (b : Nat) (l : List UInt8) : Prop := b < W.heap.size ∧ ∀ j (hj : j < l.length), W.cell? ⟨b, j, none⟩ = some (.int .u8 (l[j].toNat : Int)) ∧ W.frozen? ⟨b, j, none⟩ = false
theorem Bs.set {W : World} {b : Nat} {l : List UInt8} (h : Bs W b l) (k : Nat) (c : UInt8) (hk : k < l.length) : Bs (W.setCell ⟨b, k, none⟩ (.int .u8 (c.toNat : Int))) b (l.set k c) := by
  refine ⟨by simpa [World.setCell] using h.1, fun j hj => ?_⟩
  have hj' : j < l.length := by simpa using hj
  refine ⟨?_, by rw [World.frozen?_setCell]; exact (h.2 j hj').2⟩
  by_cases e : j = k
  · subst e
    rw [World.cell?_setCell_same _ _ _ (h.2 j hj').1]
    simp
  · rw [World.cell?_setCell_other _ _ _ _ (by intro g; injection g with _ g; omega), (h.2 j hj').1]
    rw [List.getElem_set_ne (by omega)]
theorem Bs.kept {W W' : World} {B b : Nat} {l : List UInt8} (h : Bs W b l) (hb : Below B W W') (hB : b < B) : Bs W' b l :=
  ⟨Nat.lt_of_lt_of_le h.1 hb.size, fun j hj => ⟨(hb.cell (p := ⟨b, j, none⟩) hB).trans (h.2 j hj).1, (hb.frozen (p := ⟨b, j, none⟩) hB).trans (h.2 j hj).2⟩⟩
theorem bytes_made (w : World) (s : ByteArray) : ∃ (W : World) (cap : Nat), (convert 9 65 (.string s)).run Try.prog w = .ok (.slice (some ⟨w.heap.size, 0, none⟩) s.size cap) W ∧ Bs W w.heap.size s.data.toList ∧ Below w.heap.size w W ∧ s.size ≤ cap := by
  refine ⟨_, _, run_bytes_of_string (P := Try.prog) w 9 65 5 s Try.underlying9 Try.underlying65 Try.underlying5, ⟨?_, fun j hj => ⟨?_, ?_⟩⟩, ?_, ?_⟩
  · simp
  · have hj' : j < s.data.size := by simpa using hj
    have := World.cell?_alloc_mark w.drew (bytesRow s (grownCap w s.size 0 5)) 5 ((bytesRow s (grownCap w s.size 0 5)).size, (bytesRow s (grownCap w s.size 0 5)).size + 1) j
    rw [bytesRow_at s _ j hj'] at this
    exact this
  · have hj' : j < s.data.size := by simpa using hj
    have := World.frozen?_alloc_mark w.drew (bytesRow s (grownCap w s.size 0 5)) 5 (bytesRow s (grownCap w s.size 0 5)).size ((bytesRow s (grownCap w s.size 0 5)).size + 1) j
    refine this.trans ?_
    have : j < (bytesRow s (grownCap w s.size 0 5)).size := by
      have h2 : s.data.size ≤ grownCap w s.size 0 5 := grownCap_ge w s.size 0 5
      simp [bytesRow]; omega
    simp; omega
  · exact ((Below.refl _ w).drew).alloc (Nat.le_refl _) _
  · exact grownCap_ge _ _ _ _
theorem string_made (w : World) (b cap : Nat) (l : List UInt8) (h : Bs w b l) : (convert 65 9 (.slice (some ⟨b, 0, none⟩) l.length cap)).run Try.prog w = .ok (.string ⟨l.toArray⟩) w := by
  refine run_convert_bytes_back (P := Try.prog) w 65 9 5 ⟨b, 0, none⟩ cap l Try.underlying65 Try.underlying5 Try.underlying9 (fun j hj => ?_)
  rw [show ((⟨b, 0, none⟩ : Addr).add j) = ⟨b, j, none⟩ by unfold Addr.add; split <;> simp_all]
  exact (h.2 j hj).1
theorem info_str : (Try.prog.info? 9).map (fun i => (i.zero, i.size, i.bytes)) = some (some (.string ByteArray.empty), 1, 16) := by kernel_rfl
theorem info_u8 : (Try.prog.info? 5).map (fun i => (i.zero, i.size, i.bytes)) = some (some (.int .u8 0), 1, 1) := by kernel_rfl
end Go.Proofs.Ytoaiiimnfgbcaaa
