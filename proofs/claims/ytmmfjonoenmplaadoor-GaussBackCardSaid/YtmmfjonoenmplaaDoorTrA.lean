import Derived.Lib.ItoaNum
import Derived.Lib.ItoaLen
import Derived.Lib.AtoiAllCases
import Derived.Lib.AtoiTie
import Derived.Lib.CutLaws
import Derived.Lib.Fields
namespace Go.Proofs.YtmmfjonoenmplaaDoor
open Go
set_option linter.unusedVariables false
set_option linter.unusedSimpArgs false
/-! chapter 17, plain: what is written, what is read -/
def wsL : List (List UInt8) := [[111, 107], [117, 110, 100, 101, 114], [111, 118, 101, 114], [114, 117, 110, 100, 101, 114], [114, 111, 118, 101, 114], [102, 101, 110, 99, 101], [97, 108, 105, 103, 110], [100, 105, 118], [119, 111, 114, 100], [102, 117, 108, 108], [98, 97, 108, 97, 110, 99, 101], [99, 97, 112], [111, 117, 116], [102, 117, 101, 108], [111, 112], [110, 97, 109, 101], [109, 111, 100, 101], [97, 98, 111, 114, 116], [105, 110, 112, 117, 116], [114, 97, 110, 103, 101], [110, 101, 115, 116], [116, 101, 120, 116]]
/-- a fault's word -/
def wordL (f : Int) : List UInt8 := if 0 ≤ f then wsL.getD f.toNat [] else []
def hx (k : Nat) : UInt8 := if k < 10 then UInt8.ofNat (48 + k) else UInt8.ofNat (87 + k)
/-- must a byte be written by its number? -/
def odd (c : UInt8) : Bool := decide (c.toNat < 32) || decide (126 < c.toNat) || decide (c.toNat = 34) || decide (c.toNat = 92)
def qb (c : UInt8) : List UInt8 := if odd c then [92, 120, hx (c.toNat / 16), hx (c.toNat % 16)] else [c]
def quoteL (l : List UInt8) : List UInt8 := 34 :: (l.flatMap qb ++ [34])
theorem wsL_fields : Lib.fields [111, 107, 32, 117, 110, 100, 101, 114, 32, 111, 118, 101, 114, 32, 114, 117, 110, 100, 101, 114, 32, 114, 111, 118, 101, 114, 32, 102, 101, 110, 99, 101, 32, 97, 108, 105, 103, 110, 32, 100, 105, 118, 32, 119, 111, 114, 100, 32, 102, 117, 108, 108, 32, 98, 97, 108, 97, 110, 99, 101, 32, 99, 97, 112, 32, 111, 117, 116, 32, 102, 117, 101, 108, 32, 111, 112, 32, 110, 97, 109, 101, 32, 109, 111, 100, 101, 32, 97, 98, 111, 114, 116, 32, 105, 110, 112, 117, 116, 32, 114, 97, 110, 103, 101, 32, 110, 101, 115, 116, 32, 116, 101, 120, 116] = wsL := by decide +kernel
theorem wsL_len : wsL.length = 22 := rfl
theorem wsL_all : ∀ i : Fin 22, (wsL.getD i.val []).length ≤ 7 ∧ wsL.getD i.val [] ≠ [] ∧ ∀ b ∈ wsL.getD i.val [], 97 ≤ b.toNat ∧ b.toNat ≤ 122 := by decide +kernel
theorem wsL_inj : ∀ i j : Fin 22, wsL.getD i.val [] = wsL.getD j.val [] → i = j := by decide +kernel
theorem wordL_len (f : Int) : (wordL f).length ≤ 7 := by
  unfold wordL
  split
  · by_cases h : f.toNat < 22
    · exact (wsL_all ⟨_, h⟩).1
    · rw [List.getD_eq_getElem?_getD, List.getElem?_eq_none (by rw [wsL_len]; omega)]; simp
  · simp
theorem wordL_some {f : Int} : wordL f ≠ [] ↔ 0 ≤ f ∧ f < 22 := by
  unfold wordL
  constructor
  · intro h
    split at h
    · refine ⟨by assumption, ?_⟩
      apply Classical.byContradiction
      intro hn
      exact h (by rw [List.getD_eq_getElem?_getD, List.getElem?_eq_none (by rw [wsL_len]; omega)]; rfl)
    · exact absurd rfl h
  · rintro ⟨h1, h2⟩
    rw [if_pos h1]
    exact (wsL_all ⟨f.toNat, by omega⟩).2.1
theorem wordL_bytes (f : Int) : ∀ b ∈ wordL f, 97 ≤ b.toNat ∧ b.toNat ≤ 122 := by
  by_cases h : wordL f = []
  · rw [h]; intro b hb; cases hb
  · have h2 := wordL_some.1 h
    unfold wordL
    rw [if_pos h2.1]
    exact (wsL_all ⟨f.toNat, by omega⟩).2.2
theorem wordL_inj {f g : Int} (h : wordL f = wordL g) (hf : 0 ≤ f ∧ f < 22) (hg : 0 ≤ g ∧ g < 22) : f = g := by
  unfold wordL at h
  rw [if_pos hf.1, if_pos hg.1] at h
  have := wsL_inj ⟨f.toNat, by omega⟩ ⟨g.toNat, by omega⟩ h
  have : f.toNat = g.toNat := by simpa using congrArg Fin.val this
  omega
/-! quoted texts -/
theorem hx_fin : ∀ i j : Fin 16, hx i.val = hx j.val → i = j := by decide +kernel
theorem hx_bytes : ∀ i : Fin 16, 48 ≤ (hx i.val).toNat ∧ (hx i.val).toNat ≤ 102 := by decide +kernel
theorem hx_inj {a b : Nat} (ha : a < 16) (hb : b < 16) (h : hx a = hx b) : a = b := by
  have := hx_fin ⟨a, ha⟩ ⟨b, hb⟩ h
  simpa using congrArg Fin.val this
theorem qb_bytes (c : UInt8) : ∀ b ∈ qb c, 32 ≤ b.toNat ∧ b.toNat ≤ 126 ∧ b.toNat ≠ 34 := by
  have hc := c.toNat_lt
  unfold qb
  split
  · intro b hb
    have h1 := hx_bytes ⟨c.toNat / 16, by omega⟩
    have h2 := hx_bytes ⟨c.toNat % 16, by omega⟩
    simp only [List.mem_cons, List.not_mem_nil, or_false] at hb
    rcases hb with rfl | rfl | rfl | rfl
    · decide
    · decide
    · simp only at h1; omega
    · simp only at h2; omega
  · rename_i h
    intro b hb
    simp only [List.mem_cons, List.not_mem_nil, or_false] at hb
    subst hb
    simp [odd] at h
    omega
theorem qb_len (c : UInt8) : (qb c).length ≤ 4 ∧ 1 ≤ (qb c).length := by unfold qb; split <;> simp
theorem fqb_len (l : List UInt8) : (l.flatMap qb).length ≤ 4 * l.length := by
  induction l with
  | nil => simp
  | cons a l ih => rw [List.flatMap_cons, List.length_append, List.length_cons]; have := (qb_len a).1; omega
theorem quoteL_len (l : List UInt8) : (quoteL l).length ≤ 4 * l.length + 2 := by
  unfold quoteL
  rw [List.length_cons, List.length_append, List.length_singleton]
  have := fqb_len l
  omega
theorem quoteL_no10 (l : List UInt8) : ∀ b ∈ quoteL l, b.toNat ≠ 10 := by
  intro b hb
  unfold quoteL at hb
  rw [List.mem_cons, List.mem_append, List.mem_flatMap] at hb
  rcases hb with rfl | ⟨c, _, hb⟩ | hb
  · decide
  · have := qb_bytes c b hb; omega
  · simp at hb; subst hb; decide
theorem qb_inj {c d : UInt8} {m n : List UInt8} (h : qb c ++ m = qb d ++ n) : c = d ∧ m = n := by
  have hc := c.toNat_lt
  have hd := d.toNat_lt
  unfold qb at h
  split at h <;> split at h
  · rename_i h1 h2
    simp only [List.cons_append, List.nil_append, List.cons.injEq, true_and] at h
    obtain ⟨a1, a2, a3⟩ := h
    have e1 := hx_inj (by omega) (by omega) a1
    have e2 := hx_inj (by omega) (by omega) a2
    exact ⟨UInt8.toNat_inj.1 (by omega), a3⟩
  · rename_i h1 h2
    simp only [List.cons_append, List.nil_append, List.cons.injEq] at h
    obtain ⟨rfl, _⟩ := h
    simp [odd] at h2
  · rename_i h1 h2
    simp only [List.cons_append, List.nil_append, List.cons.injEq] at h
    obtain ⟨rfl, _⟩ := h
    simp [odd] at h1
  · simp only [List.cons_append, List.nil_append, List.cons.injEq] at h
    exact h
theorem fqb_inj : ∀ {l m : List UInt8}, l.flatMap qb = m.flatMap qb → l = m
  | [], [], _ => rfl
  | [], d :: m, h => by
    have h1 := congrArg List.length h
    rw [List.flatMap_cons, List.length_append, List.flatMap_nil, List.length_nil] at h1
    have h2 := (qb_len d).2
    omega
  | c :: l, [], h => by
    have h1 := congrArg List.length h
    rw [List.flatMap_cons, List.length_append, List.flatMap_nil, List.length_nil] at h1
    have h2 := (qb_len c).2
    omega
  | c :: l, d :: m, h => by
    rw [List.flatMap_cons, List.flatMap_cons] at h
    obtain ⟨rfl, h2⟩ := qb_inj h
    rw [fqb_inj h2]
theorem quoteL_inj {l m : List UInt8} (h : quoteL l = quoteL m) : l = m := by
  unfold quoteL at h
  simp only [List.cons.injEq, true_and] at h
  exact fqb_inj (List.append_cancel_right h)
/-! numerals -/
theorem dec_bytes (u : Nat) : ∀ b ∈ Lib.decDigits u, 48 ≤ b.toNat ∧ b.toNat ≤ 57 := by
  induction u using Nat.strongRecOn with
  | _ u ih =>
    intro b hb
    rw [Lib.decDigits] at hb
    split at hb
    · rw [List.mem_singleton] at hb; subst hb
      rw [UInt8.toNat_ofNat']; omega
    · rw [List.mem_append] at hb
      rcases hb with hb | hb
      · exact ih _ (by omega) b hb
      · rw [List.mem_singleton] at hb; subst hb
        rw [UInt8.toNat_ofNat']; omega
theorem itoa_bytes (n : Int) : ∀ b ∈ Lib.itoa n, 45 ≤ b.toNat ∧ b.toNat ≤ 57 := by
  intro b hb
  unfold Lib.itoa at hb
  split at hb
  · rw [List.mem_cons] at hb
    rcases hb with rfl | hb
    · decide
    · have := dec_bytes _ b hb; omega
  · have := dec_bytes _ b hb; omega
/-- what digits say -/
def decV (l : List UInt8) : Nat := l.foldl (fun a b => a * 10 + (b.toNat - 48)) 0
theorem decV_dec (u : Nat) : decV (Lib.decDigits u) = u := by
  induction u using Nat.strongRecOn with
  | _ u ih =>
    rw [Lib.decDigits]
    split
    · show 0 * 10 + ((UInt8.ofNat (48 + u)).toNat - 48) = u
      rw [UInt8.toNat_ofNat']; omega
    · unfold decV
      rw [List.foldl_append]
      have := ih (u / 10) (by omega)
      unfold decV at this
      rw [this]
      show u / 10 * 10 + ((UInt8.ofNat (48 + u % 10)).toNat - 48) = u
      rw [UInt8.toNat_ofNat']; omega
theorem dec_ne (u : Nat) : Lib.decDigits u ≠ [] := by
  rw [Lib.decDigits]; split <;> simp
theorem itoa_nat (n : Nat) : Lib.itoa (n : Int) = Lib.decDigits n := by
  unfold Lib.itoa
  rw [if_neg (by omega)]
  rfl
theorem itoa_pos {n : Int} (h : 0 ≤ n) : Lib.itoa n = Lib.decDigits n.toNat := by
  unfold Lib.itoa
  rw [if_neg (by omega)]
theorem itoa_inj {a b : Int} (ha : 0 ≤ a) (hb : 0 ≤ b) (h : Lib.itoa a = Lib.itoa b) : a = b := by
  rw [itoa_pos ha, itoa_pos hb] at h
  have := congrArg decV h
  rw [decV_dec, decV_dec] at this
  omega
end Go.Proofs.YtmmfjonoenmplaaDoor
