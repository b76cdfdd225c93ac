import Derived.Test.YtoaiiimnfgbcaaaOwn
import Derived.Laws.CopyOwn
import Derived.Laws.MakeOwn
namespace Go.Proofs.Ytoaiiimnfgbcaaa
open Go.RowKit
set_option linter.unusedVariables false
set_option linter.unusedSimpArgs false
/-! bytes laid over a block of bytes: copy out of a row, out of a text; clear -/
theorem splice_len (B : List UInt8) (off : Nat) (cs : List UInt8) (h : off + cs.length ≤ B.length) : (splice B off cs).length = B.length := length_splice B off cs h
theorem u8s_len (l : List UInt8) : (u8s l).length = l.length := by simp [u8s]
theorem u8s_splice (B cs : List UInt8) (off : Nat) : (u8s B).take off ++ (u8s cs ++ (u8s B).drop (off + (u8s cs).length)) = u8s (splice B off cs) := by
  simp [u8s, splice]
theorem u8s_one (cs : List UInt8) : ∀ v ∈ u8s cs, v.oneCell' = true := by
  intro v hv
  obtain ⟨c, _, rfl⟩ := List.mem_map.1 hv
  rfl
theorem Bk.row {W : World} {g : Nat} {t : TypeId} {vs : Array Value} (h : Bk W g t vs) (cs : Array Value) : Bk (W.setRow g cs) g t cs := setRow_heap W g vs cs t (0, 0) h
theorem Bk.rowOther {W : World} {b g : Nat} {t : TypeId} {vs : Array Value} (h : Bk W b t vs) (hn : b ≠ g) (cs : Array Value) : Bk (W.setRow g cs) b t vs := (setRow_other W g b cs hn).trans h
theorem Only.row {W : World} (g : Nat) (cs : Array Value) : Only g W (W.setRow g cs) :=
  ⟨rfl, rfl, rfl, by simp, fun k _ hn => setRow_other W g k cs hn⟩
section
variable {P : Program}
/-- copy: bytes of a row (it may be the same block) -/
theorem copy_u8 (w : World) (dT sT ty elem : TypeId) (hu : P.underlying dT = some (.slice elem)) (hsz : (P.info? elem).map (·.size) = some 1)
    (dp sp : Option Addr) (dLen dCap sLen sCap g off : Nat) (B : List UInt8) (t : TypeId) (hg : Bk w g t (u8s B).toArray) (cs : List UInt8) (hn : cs.length = Nat.min sLen dLen)
    (hpos : 0 < cs.length → dp = some ⟨g, off, none⟩ ∧ ∃ ad, sp = some ad ∧ ∀ j (hj : j < cs.length), w.cell? (ad.add j) = some (.int .u8 (cs[j].toNat : Int)))
    (hfit : off + cs.length ≤ B.length) :
    ∃ w', (Builtin.copy_ #[dT, sT] ty #[.slice dp dLen dCap, .slice sp sLen sCap]).run P w = .ok (goInt cs.length) w' ∧ Bk w' g t (u8s (splice B off cs)).toArray ∧ Only g w w' := by
  by_cases h0 : cs.length = 0
  · obtain rfl : cs = [] := List.eq_nil_of_length_eq_zero h0
    refine ⟨w, run_copy_none (P := P) w dT sT ty elem dp sp dLen dCap sLen sCap hu hsz (by simpa using hn.symm), ?_, Only.refl g w⟩
    have e : splice B off ([] : List UInt8) = B := by simp [splice]
    rw [e]; exact hg
  · obtain ⟨rfl, ad, rfl, hsrc⟩ := hpos (by omega)
    have hrun := run_copy_row (P := P) w dT sT ty elem g off dLen dCap ad sLen sCap (u8s B).toArray t (u8s cs) hu hsz hg (by rw [u8s_len]; exact hn) (fun j v hv => by
      have hj : j < cs.length := by
        have := (List.getElem?_eq_some_iff.1 hv).1
        rw [u8s_len] at this; exact this
      rw [u8s_at cs j hj] at hv
      injection hv with hv
      rw [← hv]; exact hsrc j hj) (by simp [u8s]; omega) (u8s_one cs)
    rw [u8s_len] at hrun
    refine ⟨_, hrun, ?_, Only.row g _⟩
    have e := u8s_splice B cs off
    rw [u8s_len] at e
    have := hg.row (u8s (splice B off cs)).toArray
    rw [← e] at this ⊢
    simpa using this
theorem run_copy_str (w : World) (dT sT ty elem : TypeId) (g off dLen dCap : Nat) (s : ByteArray) (cur : Array Value) (t : TypeId) (cs : List UInt8)
    (hu : P.underlying dT = some (.slice elem)) (hs : (P.info? elem).map (·.size) = some 1)
    (hg : w.heap[g]? = some (.cells cur t (0, 0))) (hc : cs = s.data.toList.take (Nat.min s.size dLen)) (hfit : off + cs.length ≤ cur.size) :
    (Builtin.copy_ #[dT, sT] ty #[.slice (some ⟨g, off, none⟩) dLen dCap, .string s]).run P w =
      .ok (goInt (Nat.min s.size dLen)) (w.setRow g (cur.toList.take off ++ u8s cs ++ cur.toList.drop (off + cs.length)).toArray) := by
  have hst := run_storeCells_at P g off t (u8s cs) 0 cur w hg (by rw [u8s_len]; simpa using hfit) (u8s_one cs)
  have hcs : (Array.map (fun b : UInt8 => Value.int .u8 (b.toNat : Int)) (s.extract 0 (Nat.min s.size dLen)).data).toList = u8s cs := by
    rw [hc, Array.toList_map, ByteArray.data_extract, Array.toList_extract]
    simp [u8s]
  rw [u8s_len] at hst
  cases hq : P.info? elem with
  | none => simp [hq] at hs
  | some i =>
    have hi : i.size = 1 := by simpa [hq] using hs
    have hcs2 : List.map (fun b : UInt8 => Value.int .u8 (b.toNat : Int)) (s.extract 0 (Nat.min s.size dLen)).data.toList = u8s cs := by
      rw [← hcs, Array.toList_map]
    simp [Builtin.copy_, run_underlying hu, Builtin.lenOf, Builtin.firstCells, sizeOf, typeInfo, hq, hi]
    simp [u8s] at hst hcs2
    rw [hcs2]
    simp [hst, u8s]
/-- copy: bytes of a text -/
theorem copy_text (w : World) (dT sT ty elem : TypeId) (hu : P.underlying dT = some (.slice elem)) (hsz : (P.info? elem).map (·.size) = some 1)
    (A : Option Addr) (g off dLen dCap : Nat) (S : ByteArray) (B : List UInt8) (t : TypeId) (hg : Bk w g t (u8s B).toArray) (cs : List UInt8) (hc : cs = S.data.toList.take (Nat.min S.size dLen)) (hA : 0 < cs.length → A = some ⟨g, off, none⟩) (hfit : off + cs.length ≤ B.length) :
    ∃ w', (Builtin.copy_ #[dT, sT] ty #[.slice A dLen dCap, .string S]).run P w = .ok (goInt (Nat.min S.size dLen)) w' ∧ Bk w' g t (u8s (splice B off cs)).toArray ∧ Only g w w' := by
  have hcl : cs.length = Nat.min S.size dLen := by
    rw [hc, List.length_take, data_size]; exact Nat.min_eq_left (Nat.min_le_left _ _)
  by_cases h0 : 0 < cs.length
  · obtain rfl := hA h0
    have hrun := run_copy_str (P := P) w dT sT ty elem g off dLen dCap S (u8s B).toArray t cs hu hsz hg hc (by simp [u8s]; omega)
    refine ⟨_, hrun, ?_, Only.row g _⟩
    have e := u8s_splice B cs off
    rw [u8s_len] at e
    have := hg.row (u8s (splice B off cs)).toArray
    rw [← e] at this ⊢
    simpa using this
  · have hcs : cs = [] := List.eq_nil_of_length_eq_zero (by omega)
    have hm : Nat.min S.size dLen = 0 := by omega
    refine ⟨w, ?_, ?_, Only.refl g w⟩
    · rw [hm]
      cases hq : P.info? elem with
      | none => simp [hq] at hsz
      | some i =>
        have hx : (S.extract 0 0).data = #[] := by simp
        cases A <;> simp [Builtin.copy_, run_underlying hu, Builtin.lenOf, Builtin.firstCells, sizeOf, typeInfo, hq, hm, storeCells]
    · have e : splice B off cs = B := by rw [hcs]; simp [splice]
      rw [e]; exact hg
/-- clear: noughts -/
theorem run_clear_u8 (w : World) (dT ty elem : TypeId) (g off n cap : Nat) (cur : Array Value) (t : TypeId) (i : TypeInfo)
    (hu : P.underlying dT = some (.slice elem)) (hi : P.info? elem = some i) (hz : i.zero = some (.int .u8 0))
    (hg : w.heap[g]? = some (.cells cur t (0, 0))) (hfit : off + n ≤ cur.size) (hn : 0 < n) :
    (Builtin.clear_ #[dT] ty #[.slice (some ⟨g, off, none⟩) n cap]).run P w =
      .ok (.tuple #[]) (w.setRow g (cur.toList.take off ++ u8s (List.replicate n 0) ++ cur.toList.drop (off + n)).toArray) := by
  have hst := run_storeCells_at P g off t (u8s (List.replicate n 0)) 0 cur w hg (by rw [u8s_len]; simpa using hfit) (u8s_one _)
  rw [u8s_len, List.length_replicate] at hst
  have hz2 : (Builtin.zeroCells (Value.cells (.int .u8 0)) n).toList = u8s (List.replicate n 0) := by
    apply List.ext_getElem
    · simp [Builtin.zeroCells, Value.cells, u8s]
    · intro j h1 h2
      simp [Builtin.zeroCells, Value.cells, u8s, Nat.mod_one]
  obtain ⟨m, rfl⟩ : ∃ m, n = m + 1 := ⟨n - 1, by omega⟩
  simp [Builtin.clear_, run_underlying hu, zeroValue, typeInfo, hi, hz, hz2]
  simp at hst
  simp [hst]
theorem clear_u8 (w : World) (dT ty elem : TypeId) (i : TypeInfo) (hu : P.underlying dT = some (.slice elem)) (hi : P.info? elem = some i) (hz : i.zero = some (.int .u8 0))
    (A : Option Addr) (g off n cap : Nat) (B : List UInt8) (t : TypeId) (hg : Bk w g t (u8s B).toArray) (hA : 0 < n → A = some ⟨g, off, none⟩) (hfit : off + n ≤ B.length) :
    ∃ w', (Builtin.clear_ #[dT] ty #[.slice A n cap]).run P w = .ok (.tuple #[]) w' ∧ Bk w' g t (u8s (splice B off (List.replicate n 0))).toArray ∧ Only g w w' := by
  by_cases hn : 0 < n
  · obtain rfl := hA hn
    have hrun := run_clear_u8 (P := P) w dT ty elem g off n cap (u8s B).toArray t i hu hi hz hg (by simp [u8s]; omega) hn
    refine ⟨_, hrun, ?_, Only.row g _⟩
    have e := u8s_splice B (List.replicate n 0) off
    rw [u8s_len, List.length_replicate] at e
    have := hg.row (u8s (splice B off (List.replicate n 0))).toArray
    rw [← e] at this ⊢
    simpa using this
  · obtain rfl : n = 0 := by omega
    refine ⟨w, ?_, ?_, Only.refl g w⟩
    · cases A <;> simp [Builtin.clear_, run_underlying hu]
    · have e : splice B off (List.replicate 0 (0 : UInt8)) = B := by simp [splice]
      rw [e]; exact hg
end
theorem made_u8 (n : Nat) : madeCells (Value.cells (.int .u8 0)) (n * 1) = (u8s (List.replicate n 0)).toArray := by
  apply Array.ext
  · simp [madeCells, u8s]
  · intro j h1 h2
    simp [madeCells, Value.cells, u8s, Nat.mod_one]
theorem size_u8 : (Try.prog.info? 5).map (·.size) = some 1 := by kernel_rfl
theorem i64_and7 (n : Int) : bits .and .i64 n 7 = n % 8 := by
  have h7 : (BitVec.ofInt 64 7).toNat = 2 ^ 3 - 1 := by decide
  have e : bits .and .i64 n 7 = IntKind.i64.wrap ((BitVec.ofInt 64 n &&& BitVec.ofInt 64 7).toNat : Int) := rfl
  rw [e, BitVec.toNat_and, h7, Nat.and_two_pow_sub_one_eq_mod, BitVec.toNat_ofInt, IntKind.wrap_i64]
  omega
end Go.Proofs.Ytoaiiimnfgbcaaa
