/-
  The sum of bytes, in plain Lean: no program, no memory, no condition.
-/
namespace Go.Proofs.Ytopemjbakpahfaa.Crc
abbrev W32 := BitVec 32
def poly : W32 := 0xEDB88320#32
/-- One bit's step. -/
def sB (y : W32) : W32 := (y >>> 1) ^^^ (if y.getLsbD 0 then poly else 0#32)
def iter {α : Type} (f : α → α) : Nat → α → α
  | 0, x => x
  | k + 1, x => f (iter f k x)
def nB (y : W32) : W32 := iter sB 8 y
def wide (b : UInt8) : W32 := BitVec.ofNat 32 b.toNat
def next (c : W32) (b : UInt8) : W32 := nB (c ^^^ wide b)
def go (c : W32) (l : List UInt8) : W32 := l.foldl next c
def sum (l : List UInt8) : W32 := ~~~ (go (BitVec.allOnes 32) l)

theorem go_nil (c : W32) : go c [] = c := rfl
theorem go_cons (c : W32) (b : UInt8) (l : List UInt8) : go c (b :: l) = go (next c b) l := rfl
theorem go_append (c : W32) (l m : List UInt8) : go c (l ++ m) = go (go c l) m := by simp [go]
theorem go_snoc (c : W32) (l : List UInt8) (b : UInt8) : go c (l ++ [b]) = next (go c l) b := by simp [go]

theorem sB_bit (y : W32) (i : Nat) (_ : i < 32) : (sB y).getLsbD i = (y.getLsbD (i + 1) ^^ (y.getLsbD 0 && poly.getLsbD i)) := by
  unfold sB
  rw [BitVec.getLsbD_xor, BitVec.getLsbD_ushiftRight, Nat.add_comm]
  cases y.getLsbD 0 <;> simp
theorem sB_xor (x y : W32) : sB (x ^^^ y) = sB x ^^^ sB y := by
  apply BitVec.eq_of_getLsbD_eq
  intro i hi
  rw [BitVec.getLsbD_xor, sB_bit _ _ hi, sB_bit _ _ hi, sB_bit _ _ hi]
  simp only [BitVec.getLsbD_xor]
  cases x.getLsbD 0 <;> cases y.getLsbD 0 <;> cases x.getLsbD (i + 1) <;> cases y.getLsbD (i + 1) <;> cases poly.getLsbD i <;> rfl
theorem iter_xor (k : Nat) (x y : W32) : iter sB k (x ^^^ y) = iter sB k x ^^^ iter sB k y := by
  induction k with
  | zero => rfl
  | succ k ih => simp only [iter, ih, sB_xor]
theorem nB_xor (x y : W32) : nB (x ^^^ y) = nB x ^^^ nB y := iter_xor 8 x y
theorem wide_xor (x y : UInt8) : wide (x ^^^ y) = wide x ^^^ wide y := by
  apply BitVec.eq_of_toNat_eq
  have hx := UInt8.toNat_lt x
  have hy := UInt8.toNat_lt y
  have h : x.toNat ^^^ y.toNat < 2 ^ 8 := Nat.xor_lt_two_pow hx hy
  simp only [wide, BitVec.toNat_ofNat, BitVec.toNat_xor, UInt8.toNat_xor]
  rw [Nat.mod_eq_of_lt (by omega), Nat.mod_eq_of_lt (by omega), Nat.mod_eq_of_lt (by omega)]
theorem next_xor (c d : W32) (x y : UInt8) : next (c ^^^ d) (x ^^^ y) = next c x ^^^ next d y := by
  unfold next
  rw [wide_xor, ← nB_xor]
  congr 1
  apply BitVec.eq_of_getLsbD_eq
  intro i _
  simp only [BitVec.getLsbD_xor]
  cases c.getLsbD i <;> cases d.getLsbD i <;> cases (wide x).getLsbD i <;> cases (wide y).getLsbD i <;> rfl
theorem sB_zero_iff {y : W32} : sB y = 0#32 ↔ y = 0#32 := by
  constructor
  · intro h
    have h31 : y.getLsbD 0 = false := by
      have := congrArg (fun z : W32 => z.getLsbD 31) h
      simp only [sB_bit _ 31 (by omega)] at this
      simpa [poly] using this
    apply BitVec.eq_of_getLsbD_eq
    intro i hi
    cases i with
    | zero => simpa using h31
    | succ i =>
      have := congrArg (fun z : W32 => z.getLsbD i) h
      simp only [sB_bit _ i (by omega), h31] at this
      simpa using this
  · intro h; subst h; decide
theorem iter_zero_iff (k : Nat) {y : W32} : iter sB k y = 0#32 ↔ y = 0#32 := by
  induction k with
  | zero => exact Iff.rfl
  | succ k ih => simp only [iter, sB_zero_iff, ih]
theorem nB_zero_iff {y : W32} : nB y = 0#32 ↔ y = 0#32 := iter_zero_iff 8
theorem xor_zero_iff {x y : W32} : x ^^^ y = 0#32 ↔ x = y := by
  constructor
  · intro h
    have : x ^^^ y ^^^ y = y := by rw [h]; simp
    rwa [BitVec.xor_assoc, BitVec.xor_self, BitVec.xor_zero] at this
  · intro h; subst h; simp
theorem nB_inj {x y : W32} (h : nB x = nB y) : x = y := by
  rw [← xor_zero_iff, ← nB_xor, nB_zero_iff, xor_zero_iff] at h; exact h
theorem next_inj {c d : W32} {b : UInt8} (h : next c b = next d b) : c = d := by
  have := nB_inj h
  have h2 : c ^^^ wide b ^^^ wide b = d ^^^ wide b ^^^ wide b := by rw [this]
  simpa [BitVec.xor_assoc] using h2
theorem go_inj {l : List UInt8} : ∀ {c d : W32}, go c l = go d l → c = d := by
  induction l with
  | nil => intro c d h; exact h
  | cons b l ih => intro c d h; exact next_inj (ih h)
theorem sB_even {y : W32} (h : y.getLsbD 0 = false) : sB y = y >>> 1 := by unfold sB; rw [h]; simp
/-- Where the upper k bits of k steps are none, the steps have but shifted. -/
theorem iter_top (k : Nat) (hk : k ≤ 32) (z : W32) : (∀ i, 32 - k ≤ i → i < 32 → (iter sB k z).getLsbD i = false) → (∀ i, i < k → z.getLsbD i = false) ∧ iter sB k z = z >>> k := by
  induction k with
  | zero => intro _; exact ⟨fun i hi => by omega, by simp [iter]⟩
  | succ k ih =>
    intro h
    simp only [iter] at h ⊢
    have hl : (iter sB k z).getLsbD 0 = false := by
      have := h 31 (by omega) (by omega)
      rw [sB_bit _ 31 (by omega)] at this
      simpa [poly] using this
    have hs : sB (iter sB k z) = (iter sB k z) >>> 1 := sB_even hl
    have ih' := ih (by omega) (fun i h1 h2 => by
      have := h (i - 1) (by omega) (by omega)
      rw [hs, BitVec.getLsbD_ushiftRight] at this
      rwa [show 1 + (i - 1) = i by omega] at this)
    refine ⟨fun i hi => ?_, ?_⟩
    · rcases Nat.lt_or_ge i k with h1 | h1
      · exact ih'.1 i h1
      · have : i = k := by omega
        subst this
        rw [ih'.2, BitVec.getLsbD_ushiftRight] at hl
        simpa using hl
    · rw [hs, ih'.2, BitVec.shiftRight_add]
theorem wide_bit (b : UInt8) (i : Nat) : (wide b).getLsbD i = (decide (i < 8) && b.toNat.testBit i) := by
  unfold wide
  rw [BitVec.getLsbD_ofNat]
  have hb := UInt8.toNat_lt b
  by_cases h : i < 8
  · simp [h, show i < 32 by omega]
  · have : b.toNat.testBit i = false := Nat.testBit_lt_two_pow (Nat.lt_of_lt_of_le hb (Nat.pow_le_pow_right (by omega) (by omega)))
    simp [this]
theorem wide_zero {b : UInt8} (h : wide b = 0#32) : b = 0 := by
  have := congrArg BitVec.toNat h
  have hb := UInt8.toNat_lt b
  simp only [wide, BitVec.toNat_ofNat] at this
  rw [Nat.mod_eq_of_lt (by omega)] at this
  exact UInt8.toNat_inj.1 (by simpa using this)
/-- Up to four bytes whose steps leave nothing are none. -/
theorem burst (n : Nat) : n ≤ 4 → ∀ l : List UInt8, l.length = n → (∀ i, 32 - 8 * n ≤ i → i < 32 → (go 0#32 l).getLsbD i = false) → (∀ b ∈ l, b = 0) ∧ go 0#32 l = 0#32 := by
  induction n with
  | zero => intro _ l hl _; have := List.eq_nil_of_length_eq_zero hl; subst this; exact ⟨by simp, rfl⟩
  | succ n ih =>
    intro hn l hl h
    rcases List.eq_nil_or_concat l with rfl | ⟨l', b, rfl⟩
    · simp at hl
    · have hl' : l'.length = n := by simpa using hl
      rw [List.concat_eq_append] at *
      rw [go_snoc] at h ⊢
      unfold next at h ⊢
      have h8 := iter_top 8 (by omega) (go 0#32 l' ^^^ wide b) (fun i h1 h2 => h i (by omega) h2)
      have hv : nB (go 0#32 l' ^^^ wide b) = (go 0#32 l' ^^^ wide b) >>> 8 := h8.2
      have hu := ih (by omega) l' hl' (fun i h1 h2 => by
        have h3 := h (i - 8) (by omega) (by omega)
        rw [hv, BitVec.getLsbD_ushiftRight, show 8 + (i - 8) = i by omega, BitVec.getLsbD_xor, wide_bit] at h3
        simpa [show ¬ i < 8 by omega] using h3)
      have hz : wide b = 0#32 := by
        apply BitVec.eq_of_getLsbD_eq
        intro i hi
        by_cases h1 : i < 8
        · have := h8.1 i h1
          rw [hu.2] at this
          simpa using this
        · rw [wide_bit]; simp [h1]
      have hb := wide_zero hz
      refine ⟨fun x hx => ?_, ?_⟩
      · rcases List.mem_append.1 hx with h1 | h1
        · exact hu.1 x h1
        · simp at h1; rw [h1]; exact hb
      · rw [hu.2, hz]; decide
theorem go_zip : ∀ (l m : List UInt8) (c d : W32), l.length = m.length → go c l ^^^ go d m = go (c ^^^ d) (List.zipWith (· ^^^ ·) l m) := by
  intro l
  induction l with
  | nil => intro m c d h; have := List.eq_nil_of_length_eq_zero h.symm; subst this; rfl
  | cons a l ih =>
    intro m c d h
    cases m with
    | nil => simp at h
    | cons b m =>
      simp only [go_cons, List.zipWith_cons_cons]
      rw [ih m _ _ (by simpa using h), next_xor]
/-- Bytes that differ in up to four that stand together have unlike sums. -/
theorem apart {p l m r : List UInt8} (hl : l.length = m.length) (h4 : l.length ≤ 4) (hs : sum (p ++ l ++ r) = sum (p ++ m ++ r)) : l = m := by
  unfold sum at hs
  have h1 : go (BitVec.allOnes 32) (p ++ l ++ r) = go (BitVec.allOnes 32) (p ++ m ++ r) := by
    have := congrArg (fun x : W32 => ~~~ x) hs
    simpa using this
  rw [go_append, go_append, go_append, go_append] at h1
  have h2 := go_inj h1
  have h3 := go_zip l m (go (BitVec.allOnes 32) p) (go (BitVec.allOnes 32) p) hl
  rw [h2, BitVec.xor_self, BitVec.xor_self] at h3
  have h4' := burst l.length h4 (List.zipWith (· ^^^ ·) l m) (by simp [hl]) (fun i _ _ => by rw [← h3]; simp)
  apply List.ext_getElem hl
  intro i h5 h6
  have h7 := h4'.1 (l[i] ^^^ m[i]) (by
    rw [List.mem_iff_getElem]
    exact ⟨i, by simp; omega, by simp⟩)
  exact UInt8.xor_eq_zero_iff.1 h7
end Go.Proofs.Ytopemjbakpahfaa.Crc
