/-
  Contracts and plain laws, part 1 (texts: Kit, Mem, Crc, OpenB, OpenC, Frames, C1, C2, C3). No condition but what each states.
-/
import Derived.Test.YtopemjbakpahfaaProg
import Derived.WalkKit
import Derived.LoopTactic
import Derived.Outline
import Derived.LoopN
import Derived.BigQuiet
import Derived.Deep.QuietTactic
import Derived.Lib.Hide
import Derived.Laws.StructEq
import Derived.Maps.AppendAt
import Derived.ProofKit
import Derived.OpenShut
import Derived.Below
import Derived.Lib.SmallJoins
import Derived.Deep.Fields
import Derived.Laws.IdiomStrings
import Derived.Lib.BufferRead
/-
  Small lemmas of this claim's own about regions that draw their order while what they call makes memory: no condition.
-/
namespace Go.Proofs.Ytopemjbakpahfaa
open Go.RowKit

theorem wp_region_keep {P : Program} {Q : Exit → Act → World → Prop} {a : Act} {w : World} {id : Nat} {l : List Oper} (hm : P.follows .mixedOrders = true) (hB : Region.lexB .any l.toArray = true)
    (h : wpQuiet P l.toArray (Below w.heap.size w) (fun a' => ∀ w1, Below w.heap.size w w1 → Q .normal a' w1) l a) : (Code.region id l.toArray true).wp P Q a w :=
  wp_region_quiet (C := Below w.heap.size w) hm hB ⟨rfl, rfl, rfl, Nat.le_refl _, fun _ _ => rfl⟩ (by simpa using h)
theorem below_fact {w : World} {a : Addr} {v : Value} (h : w.cell? a = some v) : ∀ w1, Below w.heap.size w w1 → w1.cell? a = some v :=
  fun _ hw => (hw.cell (World.block_lt_of_cell? w a h)).trans h
theorem below_on {w w1 w2 : World} (h : Below w.heap.size w w1) (h2 : Below w1.heap.size w1 w2) : Below w.heap.size w w2 := h.trans (h2.mono h.size)
theorem below_onto {B : Nat} {w w1 w2 : World} (h : Below B w w1) (hB : B ≤ w.heap.size) (h2 : Below w1.heap.size w1 w2) : Below B w w2 := h.trans (h2.mono (Nat.le_trans hB h.size))
theorem quiet_mk {P : Program} {C : World → Prop} {o : Oper} {a : Act} {K : Act → Prop} {v : Value} (h : ∀ w, C w → Oper.quietUpon P C w v ((execOp a.eval o).run P w)) (hk : K (a.put o.dst v)) : o.quiet P a C K := ⟨v, h, hk⟩
@[go_sem ↓] theorem isSome_setCell (w : World) (a b : Addr) (v : Value) : ((w.setCell a v).cell? b).isSome = (w.cell? b).isSome := by
  simp only [World.cell?, World.setCell, Array.getElem?_modify]
  by_cases h : a.block = b.block
  · rw [if_pos h, ← h]
    cases hh : w.heap[a.block]? with
    | none => simp
    | some o =>
      cases o <;> simp
      split
      · rfl
      · split
        · rfl
        · rw [Array.getElem?_setIfInBounds]
          split
          · split <;> simp_all
          · rfl
  · rw [if_neg h]
@[go_sem ↓] theorem setCell_twice (w : World) (a : Addr) (u v : Value) : (w.setCell a u).setCell a v = w.setCell a v := by
  simp only [World.setCell]
  congr 1
  ext i
  · simp
  · rename_i h1 h2
    simp only [Array.getElem_modify]
    split
    · rename_i h3
      cases w.heap[i]'(by simpa using h1) <;> simp
      split <;> simp
    · rfl
theorem below_free {w w1 : World} {b : Nat} (h : ∀ o, w.frozen? ⟨b, o, none⟩ = false) (hb : Below w.heap.size w w1) (hlt : b < w.heap.size) : ∀ o, w1.frozen? ⟨b, o, none⟩ = false :=
  fun o => (hb.frozen (p := ⟨b, o, none⟩) hlt).trans (h o)
theorem bcell {W w1 : World} (hb : Below W.heap.size W w1) : (∀ b o, b < W.heap.size → w1.cell? ⟨b, o, none⟩ = W.cell? ⟨b, o, none⟩) ∧ (∀ b o, b < W.heap.size → w1.frozen? ⟨b, o, none⟩ = W.frozen? ⟨b, o, none⟩) :=
  ⟨fun b o h => hb.cell (p := ⟨b, o, none⟩) h, fun b o h => hb.frozen (p := ⟨b, o, none⟩) h⟩
end Go.Proofs.Ytopemjbakpahfaa
/-
  Small facts on worlds: blocks that are carried over calls, slices of bytes as plain lists. They speak of no program. No condition.
-/
namespace Go.Proofs.Ytopemjbakpahfaa
open Go.RowKit
theorem below_blk {w w1 : World} {b : Nat} {f : Nat → Option Value} (hb : Below w.heap.size w w1) (h : ∀ o, w.cell? ⟨b, o, none⟩ = f o) (hlt : b < w.heap.size) : ∀ o, w1.cell? ⟨b, o, none⟩ = f o := by
  intro o
  rw [hb.cell (p := ⟨b, o, none⟩) hlt, ← h o]
theorem alloc_blk {w : World} {X : Obj} {b : Nat} {f : Nat → Option Value} (h : ∀ o, w.cell? ⟨b, o, none⟩ = f o) (hlt : b < w.heap.size) : ∀ o, (w.alloc X).cell? ⟨b, o, none⟩ = f o := by
  intro o
  rw [← h o]
  exact World.cell?_of_block (w := w) (Below.heap_alloc w X b hlt)
theorem alloc_free {w : World} {X : Obj} {b : Nat} (h : ∀ j, w.frozen? ⟨b, j, none⟩ = false) (hlt : b < w.heap.size) : ∀ j, (w.alloc X).frozen? ⟨b, j, none⟩ = false := by
  intro j
  rw [← h j]
  exact World.frozen?_of_block (w := w) (Below.heap_alloc w X b hlt)
theorem below_alloc (w : World) (X : Obj) : Below w.heap.size w (w.alloc X) := (Below.refl _ _).alloc (Nat.le_refl _) X
theorem new_blk (w : World) (xs : Array Value) (t : TypeId) : ∀ o, (w.alloc (.cells xs t)).cell? ⟨w.heap.size, o, none⟩ = xs[o]? := by
  intro o
  exact cell_of_row (w.alloc (.cells xs t)) w.heap.size o xs t (0, 0) (heap_alloc_new w _)
theorem new_free (w : World) (xs : Array Value) (t : TypeId) : ∀ j, (w.alloc (.cells xs t)).frozen? ⟨w.heap.size, j, none⟩ = false := by
  intro j; go_simp
theorem alloc_cell {w : World} {X : Obj} {a : Addr} {v : Value} (h : w.cell? a = some v) : (w.alloc X).cell? a = some v :=
  below_fact h _ (below_alloc w X)
theorem cell_one_at {w : World} {n : Nat} (hn : w.heap.size = n) {x : Value} {t : TypeId} : ∀ j u, [x][j]? = some u → (w.alloc (.cells #[x] t)).cell? ((⟨n, 0, none⟩ : Addr).add j) = some u := by
  subst hn; exact cell_one_new w x t
theorem below_drewN {B : Nat} {a w : World} (h : Below B a w) (n : Nat) : Below B a (w.drewN n) := h.trans ⟨by simp [World.drewN], by simp [World.drewN], by simp [World.drewN], by simp [World.drewN], fun _ _ => by simp [World.drewN]⟩
theorem ownsRow_base {w : World} {base base' : Nat} {t : TypeId} {s n : Nat} {v : Value} {xs : List Value} (h : w.ownsRow base t s v n xs) (hb : base' ≤ base) : w.ownsRow base' t s v n xs := by
  refine ⟨h.1, ?_⟩
  rcases h.2 with h2 | ⟨g, cap, cur, hv, hg, r⟩
  · exact .inl h2
  · exact .inr ⟨g, cap, cur, hv, Nat.le_trans hb hg, r⟩
theorem owns_below {w w1 : World} {base : Nat} {t : TypeId} {s n : Nat} {v : Value} {xs : List Value} (h : w.ownsRow base t s v n xs) (hb : Below w.heap.size w w1) : w1.ownsRow base t s v n xs :=
  h.kept (row := none) ⟨hb.os, hb.tape, hb.output, hb.size, fun k hk _ => hb.block k hk⟩ (by cases v.ownBlock <;> simp)
/-- A byte's cell. -/
def byteV (b : UInt8) : Value := .int .u8 (b.toNat : Int)
/-- The slice at a reads as these bytes. -/
def RB (w : World) (a : Option Addr) (l : List UInt8) : Prop :=
  ∀ i, i < l.length → ∃ g off, a = some ⟨g, off, none⟩ ∧ g < w.heap.size ∧ w.cell? ⟨g, off + i, none⟩ = some (byteV (l.getD i 0))
theorem RB.below {w w1 : World} {a : Option Addr} {l : List UInt8} (h : RB w a l) (hb : Below w.heap.size w w1) : RB w1 a l := by
  intro i hi
  obtain ⟨g, off, e, hg, hc⟩ := h i hi
  exact ⟨g, off, e, Nat.lt_of_lt_of_le hg hb.size, (hb.cell (p := ⟨g, off + i, none⟩) hg).trans hc⟩
theorem RB.alloc {w : World} {a : Option Addr} {l : List UInt8} (h : RB w a l) (X : Obj) : RB (w.alloc X) a l := h.below (below_alloc w X)
theorem RB.drewN {w : World} {a : Option Addr} {l : List UInt8} (h : RB w a l) (n : Nat) : RB (w.drewN n) a l := h.below (below_drewN (Below.refl _ _) n)
theorem RB.nil (w : World) (a : Option Addr) : RB w a [] := fun i hi => absurd hi (by simp)
theorem RB.take {w : World} {a : Option Addr} {l : List UInt8} (h : RB w a l) (k : Nat) : RB w a (l.take k) := by
  intro i hi
  simp at hi
  obtain ⟨g, off, e, hg, hc⟩ := h i (by omega)
  refine ⟨g, off, e, hg, ?_⟩
  rw [hc]
  simp [List.getD, show i < k by omega]
theorem RB.drop {w : World} {g off : Nat} {l : List UInt8} (h : RB w (some ⟨g, off, none⟩) l) (k : Nat) : RB w (some ⟨g, off + k, none⟩) (l.drop k) := by
  intro i hi
  simp at hi
  obtain ⟨g', off', e, hg, hc⟩ := h (k + i) (by omega)
  simp at e
  obtain ⟨rfl, rfl⟩ := e
  refine ⟨g, off + k, rfl, hg, ?_⟩
  rw [Nat.add_assoc, hc]
  simp [List.getD]
theorem RB.news {w : World} {ad : Addr} {l : List UInt8} (h : RB w (some ad) l) : ∀ j u, (l.map byteV)[j]? = some u → w.cell? (ad.add j) = some u := by
  intro j u hu
  have hj : j < l.length := by
    rcases Nat.lt_or_ge j l.length with h1 | h1
    · exact h1
    · rw [List.getElem?_eq_none (by simpa using h1)] at hu; cases hu
  obtain ⟨g, off, e, _, hc⟩ := h j hj
  simp at e
  subst e
  simp [hj] at hu
  subst hu
  unfold Addr.add
  split
  · rename_i h0; subst h0; simpa [hj] using hc
  · simpa [hj] using hc
theorem RB.of_owns {w : World} {base n : Nat} {t : TypeId} {v : Value} {l : List UInt8} (h : w.ownsRow base t 1 v n (l.map byteV)) : ∃ a cap, v = .slice a l.length cap ∧ l.length ≤ cap ∧ (a = none → cap = 0) ∧ RB w a l := by
  have hn : n = l.length := by have := h.1; simp at this; omega
  subst hn
  rcases h.2 with ⟨rfl, h0⟩ | ⟨g, cap, cur, rfl, hg, hh, h1, h2, h3, h4⟩
  · exact ⟨none, 0, by rw [h0], by omega, fun _ => rfl, fun i hi => by omega⟩
  · refine ⟨_, _, rfl, h1, fun e => (by cases e), fun i hi => ⟨g, 0, rfl, lt_of_block hh, ?_⟩⟩
    rw [Nat.zero_add, cell_of_row w g i cur t (0, 0) hh]
    have : (cur.toList.take (l.length * 1))[i]? = (l.map byteV)[i]? := by rw [h4]
    rw [List.getElem?_take, if_pos (by omega)] at this
    simpa [hi] using this
theorem take_snoc {α : Type} (l : List α) (k : Nat) (d : α) (h : k < l.length) : l.take (k + 1) = l.take k ++ [l.getD k d] := by
  rw [List.take_succ_eq_append_getElem h]; simp [h]
theorem oneCell_bytes (l : List UInt8) : ∀ u ∈ l.map byteV, u.oneCell' = true := by
  intro u hu
  simp only [List.mem_map] at hu
  obtain ⟨b, _, rfl⟩ := hu
  rfl
end Go.Proofs.Ytopemjbakpahfaa
/-
  The sum of bytes, in plain Lean: no program, no memory, no condition.
-/
namespace Go.Proofs.Ytopemjbakpahfaa.Crc
abbrev W32 := BitVec 32
def poly : W32 := 0xEDB88320#32
/-- One bit's step. -/
def sB (y : W32) : W32 := (y >>> 1) ^^^ (if y.getLsbD 0 then poly else 0#32)
def iter {α : Type} (f : α → α) : Nat → α → α
  | 0, x => x
  | k + 1, x => f (iter f k x)
def nB (y : W32) : W32 := iter sB 8 y
def wide (b : UInt8) : W32 := BitVec.ofNat 32 b.toNat
def next (c : W32) (b : UInt8) : W32 := nB (c ^^^ wide b)
def go (c : W32) (l : List UInt8) : W32 := l.foldl next c
def sum (l : List UInt8) : W32 := ~~~ (go (BitVec.allOnes 32) l)

theorem go_nil (c : W32) : go c [] = c := rfl
theorem go_cons (c : W32) (b : UInt8) (l : List UInt8) : go c (b :: l) = go (next c b) l := rfl
theorem go_append (c : W32) (l m : List UInt8) : go c (l ++ m) = go (go c l) m := by simp [go]
theorem go_snoc (c : W32) (l : List UInt8) (b : UInt8) : go c (l ++ [b]) = next (go c l) b := by simp [go]

theorem sB_bit (y : W32) (i : Nat) (_ : i < 32) : (sB y).getLsbD i = (y.getLsbD (i + 1) ^^ (y.getLsbD 0 && poly.getLsbD i)) := by
  unfold sB
  rw [BitVec.getLsbD_xor, BitVec.getLsbD_ushiftRight, Nat.add_comm]
  cases y.getLsbD 0 <;> simp
theorem sB_xor (x y : W32) : sB (x ^^^ y) = sB x ^^^ sB y := by
  apply BitVec.eq_of_getLsbD_eq
  intro i hi
  rw [BitVec.getLsbD_xor, sB_bit _ _ hi, sB_bit _ _ hi, sB_bit _ _ hi]
  simp only [BitVec.getLsbD_xor]
  cases x.getLsbD 0 <;> cases y.getLsbD 0 <;> cases x.getLsbD (i + 1) <;> cases y.getLsbD (i + 1) <;> cases poly.getLsbD i <;> rfl
theorem iter_xor (k : Nat) (x y : W32) : iter sB k (x ^^^ y) = iter sB k x ^^^ iter sB k y := by
  induction k with
  | zero => rfl
  | succ k ih => simp only [iter, ih, sB_xor]
theorem nB_xor (x y : W32) : nB (x ^^^ y) = nB x ^^^ nB y := iter_xor 8 x y
theorem wide_xor (x y : UInt8) : wide (x ^^^ y) = wide x ^^^ wide y := by
  apply BitVec.eq_of_toNat_eq
  have hx := UInt8.toNat_lt x
  have hy := UInt8.toNat_lt y
  have h : x.toNat ^^^ y.toNat < 2 ^ 8 := Nat.xor_lt_two_pow hx hy
  simp only [wide, BitVec.toNat_ofNat, BitVec.toNat_xor, UInt8.toNat_xor]
  rw [Nat.mod_eq_of_lt (by omega), Nat.mod_eq_of_lt (by omega), Nat.mod_eq_of_lt (by omega)]
theorem next_xor (c d : W32) (x y : UInt8) : next (c ^^^ d) (x ^^^ y) = next c x ^^^ next d y := by
  unfold next
  rw [wide_xor, ← nB_xor]
  congr 1
  apply BitVec.eq_of_getLsbD_eq
  intro i _
  simp only [BitVec.getLsbD_xor]
  cases c.getLsbD i <;> cases d.getLsbD i <;> cases (wide x).getLsbD i <;> cases (wide y).getLsbD i <;> rfl
theorem sB_zero_iff {y : W32} : sB y = 0#32 ↔ y = 0#32 := by
  constructor
  · intro h
    have h31 : y.getLsbD 0 = false := by
      have := congrArg (fun z : W32 => z.getLsbD 31) h
      simp only [sB_bit _ 31 (by omega)] at this
      simpa [poly] using this
    apply BitVec.eq_of_getLsbD_eq
    intro i hi
    cases i with
    | zero => simpa using h31
    | succ i =>
      have := congrArg (fun z : W32 => z.getLsbD i) h
      simp only [sB_bit _ i (by omega), h31] at this
      simpa using this
  · intro h; subst h; decide
theorem iter_zero_iff (k : Nat) {y : W32} : iter sB k y = 0#32 ↔ y = 0#32 := by
  induction k with
  | zero => exact Iff.rfl
  | succ k ih => simp only [iter, sB_zero_iff, ih]
theorem nB_zero_iff {y : W32} : nB y = 0#32 ↔ y = 0#32 := iter_zero_iff 8
theorem xor_zero_iff {x y : W32} : x ^^^ y = 0#32 ↔ x = y := by
  constructor
  · intro h
    have : x ^^^ y ^^^ y = y := by rw [h]; simp
    rwa [BitVec.xor_assoc, BitVec.xor_self, BitVec.xor_zero] at this
  · intro h; subst h; simp
theorem nB_inj {x y : W32} (h : nB x = nB y) : x = y := by
  rw [← xor_zero_iff, ← nB_xor, nB_zero_iff, xor_zero_iff] at h; exact h
theorem next_inj {c d : W32} {b : UInt8} (h : next c b = next d b) : c = d := by
  have := nB_inj h
  have h2 : c ^^^ wide b ^^^ wide b = d ^^^ wide b ^^^ wide b := by rw [this]
  simpa [BitVec.xor_assoc] using h2
theorem go_inj {l : List UInt8} : ∀ {c d : W32}, go c l = go d l → c = d := by
  induction l with
  | nil => intro c d h; exact h
  | cons b l ih => intro c d h; exact next_inj (ih h)
theorem sB_even {y : W32} (h : y.getLsbD 0 = false) : sB y = y >>> 1 := by unfold sB; rw [h]; simp
/-- Where the upper k bits of k steps are none, the steps have but shifted. -/
theorem iter_top (k : Nat) (hk : k ≤ 32) (z : W32) : (∀ i, 32 - k ≤ i → i < 32 → (iter sB k z).getLsbD i = false) → (∀ i, i < k → z.getLsbD i = false) ∧ iter sB k z = z >>> k := by
  induction k with
  | zero => intro _; exact ⟨fun i hi => by omega, by simp [iter]⟩
  | succ k ih =>
    intro h
    simp only [iter] at h ⊢
    have hl : (iter sB k z).getLsbD 0 = false := by
      have := h 31 (by omega) (by omega)
      rw [sB_bit _ 31 (by omega)] at this
      simpa [poly] using this
    have hs : sB (iter sB k z) = (iter sB k z) >>> 1 := sB_even hl
    have ih' := ih (by omega) (fun i h1 h2 => by
      have := h (i - 1) (by omega) (by omega)
      rw [hs, BitVec.getLsbD_ushiftRight] at this
      rwa [show 1 + (i - 1) = i by omega] at this)
    refine ⟨fun i hi => ?_, ?_⟩
    · rcases Nat.lt_or_ge i k with h1 | h1
      · exact ih'.1 i h1
      · have : i = k := by omega
        subst this
        rw [ih'.2, BitVec.getLsbD_ushiftRight] at hl
        simpa using hl
    · rw [hs, ih'.2, BitVec.shiftRight_add]
theorem wide_bit (b : UInt8) (i : Nat) : (wide b).getLsbD i = (decide (i < 8) && b.toNat.testBit i) := by
  unfold wide
  rw [BitVec.getLsbD_ofNat]
  have hb := UInt8.toNat_lt b
  by_cases h : i < 8
  · simp [h, show i < 32 by omega]
  · have : b.toNat.testBit i = false := Nat.testBit_lt_two_pow (Nat.lt_of_lt_of_le hb (Nat.pow_le_pow_right (by omega) (by omega)))
    simp [this]
theorem wide_zero {b : UInt8} (h : wide b = 0#32) : b = 0 := by
  have := congrArg BitVec.toNat h
  have hb := UInt8.toNat_lt b
  simp only [wide, BitVec.toNat_ofNat] at this
  rw [Nat.mod_eq_of_lt (by omega)] at this
  exact UInt8.toNat_inj.1 (by simpa using this)
/-- Up to four bytes whose steps leave nothing are none. -/
theorem burst (n : Nat) : n ≤ 4 → ∀ l : List UInt8, l.length = n → (∀ i, 32 - 8 * n ≤ i → i < 32 → (go 0#32 l).getLsbD i = false) → (∀ b ∈ l, b = 0) ∧ go 0#32 l = 0#32 := by
  induction n with
  | zero => intro _ l hl _; have := List.eq_nil_of_length_eq_zero hl; subst this; exact ⟨by simp, rfl⟩
  | succ n ih =>
    intro hn l hl h
    rcases List.eq_nil_or_concat l with rfl | ⟨l', b, rfl⟩
    · simp at hl
    · have hl' : l'.length = n := by simpa using hl
      rw [List.concat_eq_append] at *
      rw [go_snoc] at h ⊢
      unfold next at h ⊢
      have h8 := iter_top 8 (by omega) (go 0#32 l' ^^^ wide b) (fun i h1 h2 => h i (by omega) h2)
      have hv : nB (go 0#32 l' ^^^ wide b) = (go 0#32 l' ^^^ wide b) >>> 8 := h8.2
      have hu := ih (by omega) l' hl' (fun i h1 h2 => by
        have h3 := h (i - 8) (by omega) (by omega)
        rw [hv, BitVec.getLsbD_ushiftRight, show 8 + (i - 8) = i by omega, BitVec.getLsbD_xor, wide_bit] at h3
        simpa [show ¬ i < 8 by omega] using h3)
      have hz : wide b = 0#32 := by
        apply BitVec.eq_of_getLsbD_eq
        intro i hi
        by_cases h1 : i < 8
        · have := h8.1 i h1
          rw [hu.2] at this
          simpa using this
        · rw [wide_bit]; simp [h1]
      have hb := wide_zero hz
      refine ⟨fun x hx => ?_, ?_⟩
      · rcases List.mem_append.1 hx with h1 | h1
        · exact hu.1 x h1
        · simp at h1; rw [h1]; exact hb
      · rw [hu.2, hz]; decide
theorem go_zip : ∀ (l m : List UInt8) (c d : W32), l.length = m.length → go c l ^^^ go d m = go (c ^^^ d) (List.zipWith (· ^^^ ·) l m) := by
  intro l
  induction l with
  | nil => intro m c d h; have := List.eq_nil_of_length_eq_zero h.symm; subst this; rfl
  | cons a l ih =>
    intro m c d h
    cases m with
    | nil => simp at h
    | cons b m =>
      simp only [go_cons, List.zipWith_cons_cons]
      rw [ih m _ _ (by simpa using h), next_xor]
/-- Bytes that differ in up to four that stand together have unlike sums. -/
theorem apart {p l m r : List UInt8} (hl : l.length = m.length) (h4 : l.length ≤ 4) (hs : sum (p ++ l ++ r) = sum (p ++ m ++ r)) : l = m := by
  unfold sum at hs
  have h1 : go (BitVec.allOnes 32) (p ++ l ++ r) = go (BitVec.allOnes 32) (p ++ m ++ r) := by
    have := congrArg (fun x : W32 => ~~~ x) hs
    simpa using this
  rw [go_append, go_append, go_append, go_append] at h1
  have h2 := go_inj h1
  have h3 := go_zip l m (go (BitVec.allOnes 32) p) (go (BitVec.allOnes 32) p) hl
  rw [h2, BitVec.xor_self, BitVec.xor_self] at h3
  have h4' := burst l.length h4 (List.zipWith (· ^^^ ·) l m) (by simp [hl]) (fun i _ _ => by rw [← h3]; simp)
  apply List.ext_getElem hl
  intro i h5 h6
  have h7 := h4'.1 (l[i] ^^^ m[i]) (by
    rw [List.mem_iff_getElem]
    exact ⟨i, by simp; omega, by simp⟩)
  exact UInt8.xor_eq_zero_iff.1 h7
end Go.Proofs.Ytopemjbakpahfaa.Crc
/-
  Opening an argument of a law: bytes, a word of 32 bits, a byte, as plain values. No condition.
-/
namespace Go.Proofs.Ytopemjbakpahfaa
open Go.ChangeShapes Go.WideShapes Go.ChangeAt Go.RowKit
section
variable {H : Type} {enc : TypeId × Value → H} {P : Program} {w : World} {base : Nat} {spare : Nat → Bool} {held : Bool}
theorem wf_u8 {n : Int} (h : (Lit.int .u8 n).wf = true) : 0 ≤ n ∧ n < 256 := by
  simp [Lit.wf, IntKind.min, IntKind.max, IntKind.signed, IntKind.bits] at h
  omega
theorem wf_u32 {n : Int} (h : (Lit.int .u32 n).wf = true) : 0 ≤ n ∧ n < 4294967296 := by
  simp [Lit.wf, IntKind.min, IntKind.max, IntKind.signed, IntKind.bits] at h
  omega
theorem u8_of {n : Int} (h : (Lit.int .u8 n).wf = true) : ∃ b : UInt8, n = (b.toNat : Int) := by
  have := wf_u8 h
  refine ⟨UInt8.ofNat n.toNat, ?_⟩
  simp only [UInt8.toNat_ofNat']
  omega
theorem u32_of {n : Int} (h : (Lit.int .u32 n).wf = true) : ∃ c : Crc.W32, n = (c.toNat : Int) := by
  have := wf_u32 h
  refine ⟨BitVec.ofNat 32 n.toNat, ?_⟩
  simp only [BitVec.toNat_ofNat]
  omega
theorem bytes_of_cells {a : Addr} {cap len : Nat} {zs : List Int} (hl : len ≤ cap) (hz : zs.length = cap) (hc : ∀ i, i < zs.length → w.cell? (a.add i) = some (.int .u8 (zs.getD i 0))) (hw : ∀ n ∈ zs, (Lit.int .u8 n).wf = true) :
    ∃ l : List UInt8, l.length = len ∧ RB w (some a) l := by
  refine ⟨(zs.take len).map (fun z => UInt8.ofNat z.toNat), by simp; omega, ?_⟩
  intro i hi
  have hi' : i < len := by simp at hi; omega
  have h0 := hc 0 (by omega)
  obtain ⟨g, off, spot⟩ := a
  have hspot : spot = none := by simpa [Addr.add] using World.cell?_spot h0
  subst hspot
  refine ⟨g, off, rfl, World.block_lt_of_cell? w _ h0, ?_⟩
  have h := hc i (by omega)
  have e : (⟨g, off, none⟩ : Addr).add i = ⟨g, off + i, none⟩ := by
    unfold Addr.add; split
    · rename_i h; subst h; rfl
    · rfl
  rw [e] at h
  rw [h]
  have hiz : i < zs.length := by omega
  have hb := wf_u8 (hw (zs[i]) (List.getElem_mem hiz))
  have hx : (((zs.take len).map (fun z => UInt8.ofNat z.toNat)).getD i 0) = UInt8.ofNat (zs[i]).toNat := by simp [List.getD, hi', hiz]
  unfold byteV
  rw [hx, UInt8.toNat_ofNat']
  have hy : zs.getD i 0 = zs[i] := by simp [List.getD, hiz]
  rw [hy]
  congr 2
  omega
theorem open_bytes {r : Reach} {b0 : Nat} {t e : TypeId} {v : Value} {d : DataW H} {p : List MemPlace} (ht : P.underlying t = some (.slice e)) (he : P.underlying e = some (.int .u8)) (hE : P.cellsOf e = 1)
    (hv : Value.okWide P w r b0 t v) (h : DataW.Trod enc P w 0 (fun _ => true) held t v d p) :
    ∃ (l : List UInt8) (a : Option Addr) (cap : Nat), v = .slice a l.length cap ∧ l.length ≤ cap ∧ cap ≤ maxLen ∧ (a = none → cap = 0) ∧ RB w a l := by
  obtain ⟨a0, len0, cap0, rfl⟩ := okWide_slice ht hv
  obtain ⟨fuel, hf⟩ := h
  rcases open_ints ht he hE hf with ⟨hcs, _⟩ | ⟨x, l, c, zs, hcs, _, hl, hm, hz, _, hcell, hwz⟩
  · simp [Value.cells] at hcs
    obtain ⟨rfl, rfl, rfl⟩ := hcs
    exact ⟨[], none, 0, rfl, Nat.le_refl _, Nat.zero_le _, fun _ => rfl, RB.nil _ _⟩
  · simp [Value.cells] at hcs
    obtain ⟨rfl, rfl, rfl⟩ := hcs
    obtain ⟨l, rfl, hr⟩ := bytes_of_cells hl (by simpa using hz) hcell hwz
    exact ⟨l, _, _, rfl, hl, hm, fun e => (by cases e), hr⟩
end
/-- A string value out of bytes. -/
def strV (l : List UInt8) : Value := .string ⟨l.toArray⟩
theorem conv_str (w : World) (a : Option Addr) (cap : Nat) (l : List UInt8) (hn : a = none → l.length = 0) (hr : RB w a l) : (convert 22 9 (.slice a l.length cap)).run Try.prog w = .ok (strV l) w := by
  cases a with
  | none =>
    have := hn rfl
    rw [List.eq_nil_of_length_eq_zero this]
    exact Lib.run_convert_nil_bytes w 22 9 5 cap Try.underlying22 Try.underlying5 Try.underlying9
  | some ad =>
    refine run_convert_bytes_back w 22 9 5 ad cap l Try.underlying22 Try.underlying5 Try.underlying9 fun j hj => ?_
    exact hr.news j _ (by simp [hj, byteV])
theorem conv_bs {w : World} {v : Value} {base n : Nat} {l : List UInt8} (h : w.ownsRow base 5 1 v n (l.map byteV)) : (convert 22 9 v).run Try.prog w = .ok (strV l) w := by
  obtain ⟨a, cap, rfl, h1, h2, h3⟩ := RB.of_owns h
  exact conv_str w a cap l (fun e => by have := h2 e; omega) h3
theorem strV_inj {l m : List UInt8} (h : (⟨l.toArray⟩ : ByteArray) = ⟨m.toArray⟩) : l = m := by
  have : (⟨l.toArray⟩ : ByteArray).data = (⟨m.toArray⟩ : ByteArray).data := by rw [h]
  simpa using this
end Go.Proofs.Ytopemjbakpahfaa
/-
  Opening an argument of a law: four bytes. No condition.
-/
namespace Go.Proofs.Ytopemjbakpahfaa
open Go.ChangeShapes Go.WideShapes Go.ChangeAt Go.RowKit
section
variable {H : Type} {enc : TypeId × Value → H} {P : Program} {w : World} {base : Nat} {spare : Nat → Bool} {held : Bool}
theorem okWide_arr {r : Reach} {b0 n : Nat} {t e : TypeId} {v : Value} (ht : P.underlying t = some (.array n e)) (hv : Value.okWide P w r b0 t v) : ∃ cs : Array Value, v = .agg cs ∧ cs.size = P.cellsOf t := by
  unfold Value.okWide at hv
  rw [ht] at hv
  obtain ⟨cs, h1, h2, _⟩ := hv
  exact ⟨cs, h1, h2⟩
theorem trod_u8 {n : Nat} {e : TypeId} {c : Value} {y : DataW H × List MemPlace} (he : P.underlying e = some (.int .u8)) (h : DataW.trod enc P w base spare held n e [c] = some y) : ∃ b : UInt8, c = .int .u8 (b.toNat : Int) := by
  obtain ⟨n, e, _, w⟩ := DataW.trod_int he h
  obtain ⟨b, rfl⟩ := u8_of w
  simp at e; exact ⟨b, e⟩
theorem open_four {r : Reach} {b0 : Nat} {t e : TypeId} {v : Value} {d : DataW H} {p : List MemPlace} (ht : P.underlying t = some (.array 4 e)) (he : P.underlying e = some (.int .u8)) (hC : P.cellsOf t = 4) (hE : P.cellsOf e = 1)
    (hv : Value.okWide P w r b0 t v) (h : DataW.Trod enc P w base spare held t v d p) :
    ∃ x y z u : UInt8, v = .agg #[.int .u8 (x.toNat : Int), .int .u8 (y.toNat : Int), .int .u8 (z.toNat : Int), .int .u8 (u.toNat : Int)] := by
  obtain ⟨cs, rfl, hsz⟩ := okWide_arr ht hv
  obtain ⟨l⟩ := cs
  match l, hsz.trans hC with
  | [c0, c1, c2, c3], _ =>
    obtain ⟨fuel, hf⟩ := h
    obtain ⟨xs, m, _, _, _, hlen, hg⟩ := DataW.trod_array ht hf
    match xs, hlen with
    | [y0, y1, y2, y3], _ =>
      have g0 := hg 0 (by omega)
      have g1 := hg 1 (by omega)
      have g2 := hg 2 (by omega)
      have g3 := hg 3 (by omega)
      simp [Value.cells, hE] at g0 g1 g2 g3
      obtain ⟨x, rfl⟩ := trod_u8 he g0
      obtain ⟨y, rfl⟩ := trod_u8 he g1
      obtain ⟨z, rfl⟩ := trod_u8 he g2
      obtain ⟨u, rfl⟩ := trod_u8 he g3
      exact ⟨x, y, z, u, rfl⟩
end
end Go.Proofs.Ytopemjbakpahfaa
/-
  Frames of bytes, in plain Lean: no program, no memory, no condition.
-/
namespace Go.Proofs.Ytopemjbakpahfaa.Crc
/-- A number in so many bytes, the greatest first. -/
def be : Nat → Nat → List UInt8
  | 0, _ => []
  | k + 1, n => UInt8.ofNat (n / 2 ^ (8 * k)) :: be k n
theorem be_length (k n : Nat) : (be k n).length = k := by
  induction k with
  | zero => rfl
  | succ k ih => simp [be, ih]
def num (l : List UInt8) : Nat := l.foldl (fun n x => 256 * n + x.toNat) 0
theorem num_acc (l : List UInt8) : ∀ a : Nat, l.foldl (fun n x => 256 * n + x.toNat) a = a * 256 ^ l.length + num l := by
  induction l with
  | nil => intro a; simp [num]
  | cons x l ih =>
    intro a
    simp only [List.foldl_cons, num, List.length_cons]
    rw [ih, ih (256 * 0 + x.toNat)]
    rw [Nat.pow_succ, Nat.add_mul, ← Nat.add_assoc]
    congr 2
    · rw [Nat.mul_comm 256 a, Nat.mul_assoc, Nat.mul_comm 256]
    · simp
theorem num_cons (x : UInt8) (l : List UInt8) : num (x :: l) = x.toNat * 256 ^ l.length + num l := by
  have := num_acc l (256 * 0 + x.toNat)
  simp only [num, List.foldl_cons]
  rw [this]; simp [num]
theorem num_snoc (l : List UInt8) (x : UInt8) : num (l ++ [x]) = 256 * num l + x.toNat := by simp [num]
theorem num_lt (l : List UInt8) : num l < 256 ^ l.length := by
  induction l with
  | nil => simp [num]
  | cons x l ih =>
    rw [num_cons, List.length_cons, Nat.pow_succ]
    have hx := UInt8.toNat_lt x
    have : (x.toNat + 1) * 256 ^ l.length ≤ 256 * 256 ^ l.length := Nat.mul_le_mul_right _ (by omega)
    rw [Nat.add_mul] at this
    omega
theorem num_be (k n : Nat) : num (be k n) = n % 256 ^ k := by
  induction k with
  | zero => simp [be, num, Nat.mod_one]
  | succ k ih =>
    rw [be, num_cons, be_length, ih, UInt8.toNat_ofNat']
    have h256 : (2 : Nat) ^ (8 * k) = 256 ^ k := by rw [Nat.pow_mul]
    have hm : n % (256 ^ k * 256) = n % 256 ^ k + 256 ^ k * (n / 256 ^ k % 256) := Nat.mod_mul
    rw [h256, Nat.pow_succ 256 k, hm, Nat.mul_comm, Nat.add_comm]
theorem num_inj : ∀ {l m : List UInt8}, l.length = m.length → num l = num m → l = m := by
  intro l
  induction l with
  | nil => intro m h _; exact (List.eq_nil_of_length_eq_zero h.symm).symm
  | cons x l ih =>
    intro m h hn
    cases m with
    | nil => simp at h
    | cons y m =>
      have hl : l.length = m.length := by simpa using h
      rw [num_cons, num_cons, ← hl] at hn
      have h1 := num_lt l
      have h2 := num_lt m
      rw [← hl] at h2
      have hp : 0 < 256 ^ l.length := Nat.pow_pos (by omega)
      have hq : x.toNat = y.toNat := by
        have e1 : (x.toNat * 256 ^ l.length + num l) / 256 ^ l.length = x.toNat := by
          rw [Nat.mul_comm, Nat.mul_add_div hp, Nat.div_eq_of_lt h1, Nat.add_zero]
        have e2 : (y.toNat * 256 ^ l.length + num m) / 256 ^ l.length = y.toNat := by
          rw [Nat.mul_comm, Nat.mul_add_div hp, Nat.div_eq_of_lt h2, Nat.add_zero]
        rw [← e1, ← e2, hn]
      rw [hq] at hn
      rw [ih hl (by omega), UInt8.toNat_inj.1 hq]
def head (l : List UInt8) : List UInt8 := be 2 l.length ++ be 4 (sum l).toNat
def frame (l : List UInt8) : List UInt8 := head l ++ l
theorem head_length (l : List UInt8) : (head l).length = 6 := by simp [head, be_length]
theorem frame_length (l : List UInt8) : (frame l).length = l.length + 6 := by simp [frame, head_length]; omega
/-- What the first frame holds, and what stands behind it. -/
def cut (b : List UInt8) : Option (List UInt8 × List UInt8) :=
  if b.length < 6 then none
  else if 4096 < num (b.take 2) ∨ b.length - 6 < num (b.take 2) then none
  else if (sum ((b.drop 6).take (num (b.take 2)))).toNat = num ((b.drop 2).take 4) then some ((b.drop 6).take (num (b.take 2)), (b.drop 6).drop (num (b.take 2)))
  else none
theorem cut_frame {l : List UInt8} (r : List UInt8) (hl : l.length ≤ 4096) : cut (frame l ++ r) = some (l, r) := by
  have h2 : (frame l ++ r).take 2 = be 2 l.length := by
    simp [frame, head, List.append_assoc, be_length]
  have h6 : (frame l ++ r).drop 6 = l ++ r := by
    rw [frame, List.append_assoc, List.drop_append, head_length]; simp [List.drop_eq_nil_of_le, head_length]
  have h4 : ((frame l ++ r).drop 2).take 4 = be 4 (sum l).toNat := by
    simp [frame, head, List.append_assoc, be_length]
  have hn : num (be 2 l.length) = l.length := by rw [num_be]; exact Nat.mod_eq_of_lt (by omega)
  unfold cut
  rw [h2, h6, h4, hn, num_be, Nat.mod_eq_of_lt (by have := (sum l).isLt; omega)]
  have hlen : (frame l ++ r).length = l.length + 6 + r.length := by rw [List.length_append, frame_length]
  rw [if_neg (by omega), if_neg (by omega)]
  simp
theorem cut_some {b h r : List UInt8} (hc : cut b = some (h, r)) : h.length ≤ 4096 ∧ b = frame h ++ r ∧ b.length = 6 + h.length + r.length := by
  unfold cut at hc
  split at hc
  · cases hc
  · rename_i h1
    split at hc
    · cases hc
    · rename_i h2
      split at hc
      · rename_i h3
        simp only [Option.some.injEq, Prod.mk.injEq] at hc
        obtain ⟨rfl, rfl⟩ := hc
        have hl : ((b.drop 6).take (num (b.take 2))).length = num (b.take 2) := by simp; omega
        have hb2 : b.take 2 = be 2 ((b.drop 6).take (num (b.take 2))).length := by
          rw [hl]
          apply num_inj
          · simp [be_length]; omega
          · rw [num_be]; exact (Nat.mod_eq_of_lt (by omega)).symm
        have hb4 : (b.drop 2).take 4 = be 4 (sum ((b.drop 6).take (num (b.take 2)))).toNat := by
          apply num_inj
          · simp [be_length]; omega
          · rw [num_be, h3]; exact (Nat.mod_eq_of_lt (by have := num_lt ((b.drop 2).take 4); simp at this; omega)).symm
        refine ⟨by omega, ?_, ?_⟩
        · unfold frame head
          rw [← hb2, ← hb4]
          rw [List.append_assoc, List.append_assoc, List.take_append_drop]
          rw [show b.drop 6 = (b.drop 2).drop 4 by simp, List.take_append_drop, List.take_append_drop]
        · simp; omega
      · cases hc
/-- What all frames hold with which bytes begin, and how long they are. -/
def allF : Nat → List UInt8 → List (List UInt8) × Nat
  | 0, _ => ([], 0)
  | k + 1, b =>
    match cut b with
    | none => ([], 0)
    | some (h, r) => (h :: (allF k r).1, 6 + h.length + (allF k r).2)
def all (b : List UInt8) : List (List UInt8) × Nat := allF (b.length + 1) b
theorem allF_more : ∀ (k : Nat) (b : List UInt8), b.length < k → ∀ k', b.length < k' → allF k b = allF k' b := by
  intro k
  induction k with
  | zero => intro b h; omega
  | succ k ih =>
    intro b h k' h'
    cases k' with
    | zero => omega
    | succ k' =>
      simp only [allF]
      cases hc : cut b with
      | none => rfl
      | some q =>
        obtain ⟨h1, r⟩ := q
        have := (cut_some hc).2.2
        simp only []
        rw [ih r (by omega) k' (by omega)]
theorem all_none {b : List UInt8} (h : cut b = none) : all b = ([], 0) := by unfold all allF; rw [h]
theorem all_some {b h r : List UInt8} (hc : cut b = some (h, r)) : all b = (h :: (all r).1, 6 + h.length + (all r).2) := by
  have hl := (cut_some hc).2.2
  unfold all
  rw [allF, hc]
  simp only []
  rw [allF_more b.length r (by omega) (r.length + 1) (by omega)]
/-- Frames together. -/
def join : List (List UInt8) → Option (List UInt8)
  | [] => some []
  | l :: m => if 4096 < l.length then none else (join m).map (frame l ++ ·)
theorem all_join : ∀ (l : List (List UInt8)) (b r : List UInt8), join l = some b → all (b ++ r) = (l ++ (all r).1, b.length + (all r).2) := by
  intro l
  induction l with
  | nil => intro b r h; simp [join] at h; subst h; simp
  | cons x l ih =>
    intro b r h
    unfold join at h
    split at h
    · cases h
    · cases hj : join l with
      | none => rw [hj] at h; cases h
      | some c =>
        rw [hj] at h
        simp at h
        subst h
        rw [List.append_assoc, all_some (cut_frame (c ++ r) (by omega)), ih c r hj]
        simp [frame_length]
        omega
end Go.Proofs.Ytopemjbakpahfaa.Crc
/-
  The contracts of Next, of the program and of the reference: for every word and every byte. No condition.
-/
namespace Go.Proofs.Ytopemjbakpahfaa
open Go.RowKit Crc
theorem ofInt32 (y : W32) : BitVec.ofInt 32 (y.toNat : Int) = y := by simp
theorem wrap32 (y : W32) : IntKind.u32.wrap (y.toNat : Int) = (y.toNat : Int) := by
  have h := y.isLt
  exact IntWalk.u32_in _ (by omega)
theorem bits_xor (x y : W32) : bits .xor .u32 (x.toNat : Int) (y.toNat : Int) = ((x ^^^ y).toNat : Int) := by
  show IntKind.u32.wrap ((BitVec.ofInt 32 (x.toNat : Int) ^^^ BitVec.ofInt 32 (y.toNat : Int) : W32).toNat : Int) = _
  rw [ofInt32, ofInt32, wrap32]
theorem and1 (y : W32) : y &&& 1#32 = if y.getLsbD 0 then 1#32 else 0#32 := by
  apply BitVec.eq_of_getLsbD_eq
  intro i hi
  rw [BitVec.getLsbD_and, BitVec.getLsbD_one]
  cases i with
  | zero => cases h0 : y.getLsbD 0 <;> simp
  | succ i => cases h0 : y.getLsbD 0 <;> simp
theorem bits_and1 (y : W32) : bits .and .u32 (y.toNat : Int) (1 : Int) = (if y.getLsbD 0 then (1 : Int) else 0) := by
  show IntKind.u32.wrap ((BitVec.ofInt 32 (y.toNat : Int) &&& 1#32 : W32).toNat : Int) = _
  rw [ofInt32, wrap32, and1]
  cases h0 : y.getLsbD 0 <;> simp
theorem shr1 (y : W32) : ((y.toNat : Int) / (2 : Int)) = ((y >>> 1).toNat : Int) := by
  rw [BitVec.toNat_ushiftRight]; simp [Nat.shiftRight_succ]
theorem step_val (y : W32) : bits .xor .u32 ((y.toNat : Int) / (2 : Int)) ((3988292384 : Int) * bits .and .u32 (y.toNat : Int) (1 : Int) % (4294967296 : Int)) = ((sB y).toNat : Int) := by
  rw [bits_and1, shr1]
  have h : ((3988292384 : Int) * (if y.getLsbD 0 then (1 : Int) else 0) % (4294967296 : Int)) = (((if y.getLsbD 0 then poly else 0#32) : W32).toNat : Int) := by
    cases y.getLsbD 0 <;> simp [poly]
  rw [h, bits_xor]
  rfl
theorem xor_byte (c : W32) (b : UInt8) : bits .xor .u32 (c.toNat : Int) (b.toNat : Int) = ((c ^^^ wide b).toNat : Int) := by
  have : (b.toNat : Int) = ((wide b).toNat : Int) := by
    have hb := UInt8.toNat_lt b
    simp only [wide, BitVec.toNat_ofNat]
    rw [Nat.mod_eq_of_lt (by omega)]
  rw [this, bits_xor]
theorem ret_int {k : IntKind} {a b : Int} (h : a = b) : Ending.returned (.int k a) = .returned (.int k b) := by rw [h]
theorem ret_bool {a b : Bool} (h : a = b) : Ending.returned (.bool a) = .returned (.bool b) := by rw [h]
theorem next_any (c : W32) (b : UInt8) (w : World) : Calls Try.prog 30 #[.int .u32 (c.toNat : Int), .int .u8 (b.toNat : Int)] w fun e w' => e = .returned (.int .u32 ((next c b).toNat : Int)) ∧ w = w' := by
  have hb := UInt8.toNat_lt b
  have hx := Lib.hid (xor_byte c b)
  go_enter Try.func30, Try.ntmps30
  go_wp2
  go_loop [0, 9] (fun v i => ∃ k : Nat, i = .int .i64 k ∧ k ≤ 8 ∧ v = .int .u32 ((iter sB k (c ^^^ wide b)).toNat : Int)) (fun _ i => 8 - (intOf i).toNat)
  case atStart => exact ⟨0, rfl, by omega, by rw [hx.out]; rfl⟩
  case round =>
    obtain ⟨k, rfl, hk, rfl⟩ := hrel
    have hs := Lib.hid (step_val (iter sB k (c ^^^ wide b)))
    have hn : Hid (k = 8 → nB (c ^^^ wide b) = iter sB k (c ^^^ wide b)) := fun h => by rw [h]; rfl
    have hi : Hid (iter sB (k + 1) (c ^^^ wide b) = sB (iter sB k (c ^^^ wide b))) := rfl
    generalize iter sB k (c ^^^ wide b) = y at hs hn hi
    by_cases hlt : (k : Int) < 8
    · go_wp2
      go_round
      case rel => exact ⟨k + 1, rfl, by omega, by rw [hi.out, ← hs.out]⟩
      case measure => simp [intOf]; omega
    · go_wp2
      go_ret
      exact ⟨ret_int (by unfold next; rw [hn.out (by omega)]), rfl⟩
theorem odd_bit (y : W32) : ((y.toNat : Int) % 2 == 1) = y.getLsbD 0 := by
  rw [BitVec.getLsbD, Nat.testBit_zero, Bool.eq_iff_iff]
  simp
  omega
theorem half_odd (y : W32) (h : y.getLsbD 0 = true) : bits .xor .u32 ((y.toNat : Int) / (2 : Int)) (3988292384 : Int) = ((sB y).toNat : Int) := by
  have : (3988292384 : Int) = (poly.toNat : Int) := by decide
  rw [shr1, this, bits_xor]; unfold sB; rw [h]; rfl
theorem half_even (y : W32) (h : y.getLsbD 0 = false) : ((y.toNat : Int) / (2 : Int)) = ((sB y).toNat : Int) := by
  rw [shr1, sB_even h]
theorem rnext_any (c : W32) (b : UInt8) (w : World) : Calls Try.prog 31 #[.int .u32 (c.toNat : Int), .int .u8 (b.toNat : Int)] w fun e w' => e = .returned (.int .u32 ((next c b).toNat : Int)) ∧ w = w' := by
  have hb := UInt8.toNat_lt b
  have hx := Lib.hid (xor_byte c b)
  go_enter Try.func31, Try.ntmps31
  go_wp2
  go_loop [0, 5] (fun v i => ∃ k : Nat, i = .int .i64 k ∧ k ≤ 8 ∧ v = .int .u32 ((iter sB k (c ^^^ wide b)).toNat : Int)) (fun _ i => 8 - (intOf i).toNat)
  case atStart => exact ⟨0, rfl, by omega, by rw [hx.out]; rfl⟩
  case round =>
    obtain ⟨k, rfl, hk, rfl⟩ := hrel
    have hn : Hid (k = 8 → nB (c ^^^ wide b) = iter sB k (c ^^^ wide b)) := fun h => by rw [h]; rfl
    have hi : Hid (iter sB (k + 1) (c ^^^ wide b) = sB (iter sB k (c ^^^ wide b))) := rfl
    generalize iter sB k (c ^^^ wide b) = y at hn hi
    have hy := y.isLt
    by_cases hlt : (k : Int) < 8
    · cases hbit : y.getLsbD 0
      · have ho : ((y.toNat : Int) % 2 == 1) = false := by rw [odd_bit, hbit]
        have he := Lib.hid (half_even y hbit)
        clear hbit
        go_wp2
        go_round
        case rel => exact ⟨k + 1, rfl, by omega, by rw [hi.out, ← he.out]⟩
        case measure => simp [intOf]; omega
      · have ho : ((y.toNat : Int) % 2 == 1) = true := by rw [odd_bit, hbit]
        have he := Lib.hid (half_odd y hbit)
        clear hbit
        go_wp2
        go_round
        case rel => exact ⟨k + 1, rfl, by omega, by rw [hi.out, ← he.out]⟩
        case measure => simp [intOf]; omega
    · go_wp2
      go_ret
      exact ⟨ret_int (by unfold next; rw [hn.out (by omega)]), rfl⟩
end Go.Proofs.Ytopemjbakpahfaa
/-
  The contracts of Sum, of the program and of the reference, and of number: for all bytes. No condition but that the machine's numbers hold the length.
-/
namespace Go.Proofs.Ytopemjbakpahfaa
open Go.RowKit Crc
theorem xor_ones (y : W32) : bits .xor .u32 (y.toNat : Int) (4294967295 : Int) = ((~~~ y).toNat : Int) := by
  have h : (4294967295 : Int) = ((BitVec.allOnes 32).toNat : Int) := by decide
  rw [h, bits_xor, BitVec.xor_allOnes]
theorem max_xor (y : W32) : bits .xor .u32 IntKind.u32.max (y.toNat : Int) = ((~~~ y).toNat : Int) := by
  have h : IntKind.u32.max = ((BitVec.allOnes 32).toNat : Int) := by decide
  rw [h, bits_xor, BitVec.xor_comm, BitVec.xor_allOnes]
theorem sum_any (l : List UInt8) (a : Option Addr) (cap : Nat) (w : World) (hl : (l.length : Int) ≤ 9223372036854775807) (hr : RB w a l) :
    Calls Try.prog 28 #[.slice a l.length cap] w fun e w' => e = .returned (.int .u32 ((sum l).toNat : Int)) ∧ w = w' := by
  have HR := Lib.hid hr
  clear hr
  go_enter Try.func28, Try.ntmps28
  go_wp2
  go_loop [3, 8] (fun v i => ∃ k : Nat, i = .int .i64 k ∧ k ≤ l.length ∧ v = .int .u32 ((go (BitVec.allOnes 32) (l.take k)).toNat : Int)) (fun _ i => l.length - (intOf i).toNat)
  case atStart => exact ⟨0, rfl, by omega, rfl⟩
  case round =>
    obtain ⟨k, rfl, hk, rfl⟩ := hrel
    by_cases hlt : k < l.length
    · obtain ⟨g, off, rfl, _, hc⟩ := HR.out k hlt
      have hs : Hid (go (BitVec.allOnes 32) (l.take (k + 1)) = next (go (BitVec.allOnes 32) (l.take k)) (l.getD k 0)) := by rw [take_snoc l k 0 hlt, go_snoc]; rfl
      generalize l.getD k 0 = b at hc hs
      generalize go (BitVec.allOnes 32) (l.take k) = y at hs
      unfold byteV at hc
      have hlt' : (k : Int) < (l.length : Int) := by omega
      have h0 : (0 : Int) ≤ (k : Int) := by omega
      go_wp2_with (go_at_call 30; refine (next_any _ _ _).mono ?_; rintro e w' ⟨rfl, rfl⟩)
      go_round
      case rel => exact ⟨k + 1, rfl, hlt, by rw [hs.out]⟩
      case measure => simp [intOf]; omega
    · have hkl : k = l.length := by omega
      have hs : Hid (sum l = ~~~ (go (BitVec.allOnes 32) (l.take k))) := by rw [hkl, List.take_length]; rfl
      generalize go (BitVec.allOnes 32) (l.take k) = y at hs
      have hn := Lib.hid (max_xor y)
      have hy := y.isLt
      have hlt' : ¬ (k : Int) < (l.length : Int) := by omega
      clear hkl
      go_wp2
      go_ret
      exact ⟨ret_int (by rw [hs.out, ← hn.out]), rfl⟩
theorem rsum_any (l : List UInt8) (a : Option Addr) (cap : Nat) (w : World) (hl : (l.length : Int) ≤ 9223372036854775807) (hr : RB w a l) :
    Calls Try.prog 29 #[.slice a l.length cap] w fun e w' => e = .returned (.int .u32 ((sum l).toNat : Int)) ∧ w = w' := by
  have HR := Lib.hid hr
  clear hr
  go_enter Try.func29, Try.ntmps29
  go_wp2
  go_loop [3, 4] (fun v i => ∃ k : Nat, i = .int .i64 k ∧ k ≤ l.length ∧ v = .int .u32 ((go (BitVec.allOnes 32) (l.take k)).toNat : Int)) (fun _ i => l.length - (intOf i).toNat)
  case atStart => exact ⟨0, rfl, by omega, rfl⟩
  case round =>
    obtain ⟨k, rfl, hk, rfl⟩ := hrel
    by_cases hlt : k < l.length
    · obtain ⟨g, off, rfl, _, hc⟩ := HR.out k hlt
      have hs : Hid (go (BitVec.allOnes 32) (l.take (k + 1)) = next (go (BitVec.allOnes 32) (l.take k)) (l.getD k 0)) := by rw [take_snoc l k 0 hlt, go_snoc]; rfl
      generalize l.getD k 0 = b at hc hs
      generalize go (BitVec.allOnes 32) (l.take k) = y at hs
      unfold byteV at hc
      have hlt' : (k : Int) < (l.length : Int) := by omega
      have h0 : (0 : Int) ≤ (k : Int) := by omega
      go_wp2_with (go_at_call 31; refine (rnext_any _ _ _).mono ?_; rintro e w' ⟨rfl, rfl⟩)
      go_round
      case rel => exact ⟨k + 1, rfl, hlt, by rw [hs.out]⟩
      case measure => simp [intOf]; omega
    · have hkl : k = l.length := by omega
      have hs : Hid (sum l = ~~~ (go (BitVec.allOnes 32) (l.take k))) := by rw [hkl, List.take_length]; rfl
      generalize go (BitVec.allOnes 32) (l.take k) = y at hs
      have hn := Lib.hid (xor_ones y)
      have hy := y.isLt
      have hlt' : ¬ (k : Int) < (l.length : Int) := by omega
      clear hkl
      go_wp2
      go_ret
      exact ⟨ret_int (by rw [hs.out, ← hn.out]), rfl⟩
end Go.Proofs.Ytopemjbakpahfaa
/-
  The contracts of number and put: bytes as a number, a number as bytes.
-/
namespace Go.Proofs.Ytopemjbakpahfaa
open Go.RowKit Crc
theorem bits_or64 {a b : Nat} (ha : a < 2 ^ 64) (hb : b < 2 ^ 64) : bits .or .u64 (a : Int) (b : Int) = ((a ||| b : Nat) : Int) := by
  show IntKind.u64.wrap ((BitVec.ofInt 64 (a : Int) ||| BitVec.ofInt 64 (b : Int)).toNat : Int) = _
  have h1 : (BitVec.ofInt 64 (a : Int) ||| BitVec.ofInt 64 (b : Int)).toNat = a ||| b := by
    rw [BitVec.toNat_or, BitVec.ofInt_natCast, BitVec.ofInt_natCast, BitVec.toNat_ofNat, BitVec.toNat_ofNat, Nat.mod_eq_of_lt ha, Nat.mod_eq_of_lt hb]
  rw [h1]
  have h2 : a ||| b < 2 ^ 64 := Nat.or_lt_two_pow ha hb
  exact IntWalk.u64_in _ (by omega)
theorem or_byte (n : Nat) (b : UInt8) (hn : n < 2 ^ 32) : bits .or .u64 ((n : Int) * 256) (b.toNat : Int) = ((256 * n + b.toNat : Nat) : Int) := by
  have hb := UInt8.toNat_lt b
  have h : ((n : Int) * 256) = ((2 ^ 8 * n : Nat) : Int) := by omega
  rw [h, bits_or64 (by omega) (by omega), ← Nat.two_pow_add_eq_or_of_lt hb]
theorem number_any (l : List UInt8) (a : Option Addr) (cap : Nat) (w : World) (hl : l.length ≤ 4) (hr : RB w a l) :
    Calls Try.prog 101 #[.slice a l.length cap] w fun e w' => e = .returned (.int .u64 (num l : Int)) ∧ w = w' := by
  have HR := Lib.hid hr
  clear hr
  have hl' : (l.length : Int) ≤ 4 := by omega
  go_enter Try.func101, Try.ntmps101
  go_wp2
  go_loop [3, 8] (fun v i => ∃ k : Nat, i = .int .i64 k ∧ k ≤ l.length ∧ v = .int .u64 (num (l.take k) : Int)) (fun _ i => l.length - (intOf i).toNat)
  case atStart => exact ⟨0, rfl, by omega, rfl⟩
  case round =>
    obtain ⟨k, rfl, hk, rfl⟩ := hrel
    by_cases hlt : k < l.length
    · obtain ⟨g, off, rfl, _, hc⟩ := HR.out k hlt
      have hs : Hid (num (l.take (k + 1)) = 256 * num (l.take k) + (l.getD k 0).toNat) := by rw [take_snoc l k 0 hlt, num_snoc]; rfl
      have hn : num (l.take k) < 16777216 := by
        have := num_lt (l.take k)
        have h3 : (l.take k).length ≤ 3 := by simp; omega
        have h4 : 256 ^ (l.take k).length ≤ 256 ^ 3 := Nat.pow_le_pow_right (by omega) h3
        omega
      generalize l.getD k 0 = b at hc hs
      generalize num (l.take k) = y at hs hn
      unfold byteV at hc
      have hb := UInt8.toNat_lt b
      have ho := Lib.hid (or_byte y b (by omega))
      have hlt' : (k : Int) < (l.length : Int) := by omega
      have h0 : (0 : Int) ≤ (k : Int) := by omega
      have hn' : (y : Int) < 16777216 := by omega
      go_wp2
      go_round
      case rel => exact ⟨k + 1, rfl, hlt, by rw [hs.out, ← ho.out]⟩
      case measure => simp [intOf]; omega
    · have hkl : k = l.length := by omega
      have hs : Hid (num l = num (l.take k)) := by rw [hkl, List.take_length]; rfl
      generalize num (l.take k) = y at hs
      have hlt' : ¬ (k : Int) < (l.length : Int) := by omega
      clear hkl
      go_wp2
      go_ret
      exact ⟨ret_int (by rw [hs.out]), rfl⟩
end Go.Proofs.Ytopemjbakpahfaa
