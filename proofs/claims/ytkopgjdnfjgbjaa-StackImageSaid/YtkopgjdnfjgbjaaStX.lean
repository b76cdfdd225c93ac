import Derived.Test.YtkopgjdnfjgbjaaStW
namespace Go.Proofs.Ytkopgjdnfjgbjaa
open Go.RowKit
set_option linter.unusedVariables false
set_option linter.unusedSimpArgs false
/-! StackImage: the plain law -/
/-- a cell, read byte by byte from its last one down -/
def accV (b : Nat → UInt8) : Nat → Int
  | 0 => 0
  | j + 1 => accV b j * 256 + ((b (7 - j)).toNat : Int)
theorem acc_hor (b : Nat → UInt8) : wrap64 (accV b 8) = hor (b 0).toNat (b 1).toNat (b 2).toNat (b 3).toNat (b 4).toNat (b 5).toNat (b 6).toNat (b 7).toNat := by
  unfold hor
  congr 1
  simp only [accV, show 7 - 0 = 7 from rfl, show 7 - 1 = 6 from rfl, show 7 - 2 = 5 from rfl, show 7 - 3 = 4 from rfl, show 7 - 4 = 3 from rfl, show 7 - 5 = 2 from rfl, show 7 - 6 = 1 from rfl, show 7 - 7 = 0 from rfl]
  omega
theorem or_low (x b : Int) (b0 : 0 ≤ b) (b1 : b ≤ 255) : bits .or .i64 (wrap64 (x * 256)) b = wrap64 (x * 256 + b) := by
  obtain ⟨b, rfl⟩ := Int.eq_ofNat_of_zero_le b0
  obtain ⟨m, hm, t, hx⟩ : ∃ m : Nat, m < 72057594037927936 ∧ ∃ t : Int, x = m + 72057594037927936 * t := ⟨(x % 72057594037927936).toNat, by omega, x / 72057594037927936, by omega⟩
  subst hx
  have e : bits .or .i64 (wrap64 (((m : Int) + 72057594037927936 * t) * 256)) (b : Int) = IntKind.i64.wrap ((BitVec.ofInt 64 (wrap64 (((m : Int) + 72057594037927936 * t) * 256)) ||| BitVec.ofInt 64 (b : Int)).toNat : Int) := rfl
  have e2 : BitVec.ofInt 64 (wrap64 (((m : Int) + 72057594037927936 * t) * 256)) = BitVec.ofInt 64 ((m * 256 : Nat) : Int) := by
    apply BitVec.eq_of_toInt_eq
    rw [toInt_ofInt (wrap64_isI _), BitVec.toInt_ofInt, Int.bmod_def]
    simp only [show ((2 ^ 64 : Nat) : Int) = 18446744073709551616 from rfl]
    unfold wrap64
    split <;> omega
  rw [e, e2, BitVec.toNat_or, ofInt_u64 b (by omega), ofInt_u64 (m * 256) (by omega), nat_join 8 _ _ (by omega) (by omega), wrap64_of]
  unfold wrap64
  omega
theorem acc_step (b : Nat → UInt8) (j : Nat) : bits .or .i64 (wrap64 (wrap64 (accV b j) * 256)) ((b (7 - j)).toNat : Int) = wrap64 (accV b (j + 1)) := by
  have hc := (b (7 - j)).toNat_lt
  have e : wrap64 (wrap64 (accV b j) * 256) = wrap64 (accV b j * 256) := by
    unfold wrap64
    omega
  rw [e, or_low _ _ (by omega) (by omega)]
  rfl
theorem put_cel (B P : List UInt8) (f i : Nat) (hi : 8 * i + 8 ≤ P.length) (hf : f + P.length ≤ B.length) : cel (splice B f P) (f + 8 * i) = wrap64 (accV (fun k => P.getD (8 * i + k) 0) 8) := by
  rw [acc_hor]
  have h := cel_congr (splice B f P) P (f + 8 * i) (8 * i) fun k hk => by
    rw [getD_in B P f _ hf (by omega) (by omega)]
    congr 1
    omega
  rw [h]
  rfl
section
variable {w W : World} {a : Ads} {L : Lay} {B : List UInt8} {d : Nat → Nat}
theorem push_pair (h : Pl w W a L B d) (A : Option Addr) (n c sb so : Nat) (vs : List Int) (hvn : vs.length = n) (hn : n ≤ 140737488351232) (hv0 : Rowd w A sb so vs) (hvi : ∀ v ∈ vs, isI v) (hsb : 0 < vs.length → sb < w.heap.size) : ∃ (res : Int) (B' : List UInt8) (d' : Nat → Nat) (xs' : Nat → List Int),
    (∀ W1 xs1 dr, Wd w W1 a L B d → Rs w W1 a xs1 dr → Calls Try.prog 18 #[.pointer (some ⟨a.s0, 0, none⟩), .slice A n c] W1 fun e w' => e = .returned (.int .i64 res) ∧ Hid (Wd w w' a L B' d') ∧ Hid (Rs w w' a xs1 dr) ∧ Hid (∀ g vs, Bk W1 g 24 vs → Bk w' g 24 vs)) ∧
    (∀ W1 B1 ds, Wd w W1 a L B1 ds → Rs w W1 a (cellsOf L B) d → Calls Try.prog 24 #[.pointer (some ⟨a.r0, 0, none⟩), .slice A n c] W1 fun e w' => e = .returned (.int .i64 res) ∧ Hid (Wd w w' a L B1 ds) ∧ Hid (Rs w w' a xs' d') ∧ Hid (∀ g vs, Bk W1 g 24 vs → Bk w' g 24 vs)) ∧
    Ends w a L B' d' xs' := by
  subst hvn
  obtain ⟨res, B', d', xs', h1, h2, h3⟩ := both_push h 0 (by decide) vs hn hvi
  refine ⟨res, B', d', xs', fun W1 xs1 dr hW hR => (h1 W1 xs1 dr A c sb so hW hR (hv0.bel hW.be hsb)).mono fun e w' g => ⟨g.1, g.2.1, g.2.2.1, Lib.hid fun b vs hB => g.2.2.2.bk hB (hB.ne (hW.st 0 (by decide)).st (by decide)) (hB.ne hW.im.by_ (by decide))⟩, fun W1 B1 ds hW hR => (h2 W1 B1 ds A c sb so hW hR (hv0.bel hW.be hsb) fun hp => ?_).mono fun e w' g => ⟨g.1, g.2.1, g.2.2.1, Lib.hid fun b vs hB => g.2.2.2.bk hB (hB.ne (hR.q 0 (by decide)).st (by decide)) (hB.ne (hR.q 0 (by decide)).row (by decide))⟩, h3⟩
  have h4 := hsb hp
  have h5 := hR.lo 0 (by decide)
  omega
theorem bs_of {W : World} {g : Nat} {l : List UInt8} (h : Bk W g 5 (u8s l).toArray) : Bs W g l :=
  ⟨h.lt, fun j hj => ⟨by rw [h.cell]; simpa using u8s_at l j hj, h.free j⟩⟩
theorem put_any {xs : Nat → List Int} {dr : Nat → Nat} {pb : Nat} {P : List UInt8} (hW : Wd w W a L B d) (hR : Rs w W a xs dr) (hB : Bk W pb 5 (u8s P).toArray) (hne : pb ≠ a.b) (hP : P.length = L.d) :
    Calls Try.prog 25 #[.pointer (some ⟨a.ip, 0, none⟩), .int .i64 4, .string ⟨P.toArray⟩] W fun e w' => e = .returned (.int .i64 0) ∧ Hid (Wd w w' a L (splice B (L.beg 4) P) d) ∧ Hid (Rs w w' a xs dr) ∧ Hid (Bk w' pb 5 (u8s P).toArray) := by
  have hf := from_of L 4 (by decide) (by decide)
  have hf1 : L.from_ 4 = L.beg 4 := hf.1
  have hf2 : L.to_ 4 = L.beg 4 + L.d := hf.2
  have h := put_yes hW.im 4 ⟨P.toArray⟩ (by decide) (by decide) (by simp) (by rw [hf1, hf2, size_list, hP]; omega)
  rw [hf1] at h
  exact h.mono fun e w' g => ⟨g.1, Lib.hid (hW.bytes g.2.1 g.2.2), Lib.hid (hR.duo hW 0 (by decide) (Duo.two g.2.2)), Lib.hid (g.2.2.bk hB hne)⟩
theorem cells_wd {D : Nat} (hW : Wd w W a L B d) (hD : d 0 = D) : Calls Try.prog 16 #[.pointer (some ⟨a.s0, 0, none⟩)] W fun e w' => ∃ g, e = .returned (.slice (some ⟨g, 0, none⟩) D D) ∧ Hid (Bk w' g 3 (i64s (cels B (L.beg 4) D)).toArray) ∧ Hid (Wd w w' a L B d) ∧ Hid (Below W.heap.size W w') := by
  subst hD
  exact (wd_cells hW 0 (by decide)).mono fun e w' ⟨g, h1, _, h3, h4, h5⟩ => ⟨g, h1, Lib.hid h3, Lib.hid h4, Lib.hid h5⟩
theorem room_data (hW : Wd w W a L B d) {D : Nat} (hD : d 0 = D) : 8 * D ≤ L.d ∧ L.beg 4 + L.d ≤ B.length := by
  subst hD
  have h := (hW.st 0 (by decide)).dp
  have m := Lay.mono hW.im.ok
  have e4 : rgOf 0 = 4 := rfl
  have e5 : L.beg (4 + 1) = L.beg 4 + L.d := rfl
  have e6 : L.b6 = L.beg 4 + L.d + L.r := rfl
  rw [e4] at h
  unfold roomOf at h
  rw [e5] at h
  have hl := hW.im.len
  omega
theorem cell_is {D : Nat} {P : List UInt8} {g i : Nat} (hX : Bk W g 3 (i64s (cels (splice B (L.beg 4) P) (L.beg 4) D)).toArray) (hi : i < D) (hp : 8 * D ≤ P.length) (hf : L.beg 4 + P.length ≤ B.length) : W.cell? ⟨g, i, none⟩ = some (.int .i64 (wrap64 (accV (fun k => P.getD (8 * i + k) 0) 8))) := by
  rw [← put_cel B P (L.beg 4) i (by omega) hf, hX.cell]
  have := cels_at (splice B (L.beg 4) P) (L.beg 4) D i hi
  simp [i64s, this]
theorem byte_pb {P : List UInt8} {g i : Nat} (hX : Bk W g 5 (u8s P).toArray) (hi : i < P.length) : W.cell? ⟨g, i, none⟩ = some (.int .u8 ((P.getD i 0).toNat : Int)) := by
  rw [hX.cell, List.getD_eq_getElem?_getD, List.getElem?_eq_getElem hi]
  simpa using u8s_at P i hi
end
end Go.Proofs.Ytkopgjdnfjgbjaa
