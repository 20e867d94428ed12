/-
  Contracts and plain laws, part 43 (texts: S19). No condition but what each states.
-/
import Derived.Test.YtopemjbakpahfaaSn42
/-
  Rows of a law's own beside a store. No condition but that the lengths are small.
-/
namespace Go.Proofs.Ytopemjbakpahfaa
open Go.RowKit Disk Jour Crc Slot
set_option linter.unusedSimpArgs false
set_option linter.unusedVariables false
/-- What is changed of the law's own blocks leaves the store. -/
theorem Held.own {n0 : Nat} {H : Nat → Prop} {w w' : World} {S B : Nat} {d : Dev} {s : St} (h : Held n0 H w S B d s) (hf : Frm H w w') : Held n0 H w' S B d s := by
  obtain ⟨⟨F, G, h1, h2, h3⟩, h4, h5⟩ := h
  have := hf.size
  exact ⟨⟨F, G, h1.frm hf (fun k hk => (h2 k hk).2) (fun k hk => (h3 k hk).2), h2, h3⟩, fun k hk => by have := h4 k hk; omega, by omega⟩
theorem owns_block5 {w : World} {g : Nat} {l : List UInt8} (h : w.heap[g]? = some (.cells (l.map byteV).toArray 5 (0, 0))) (hl : l.length ≤ 1000000) : w.ownsRow 0 5 1 (.slice (some ⟨g, 0, none⟩) l.length l.length) l.length (l.map byteV) :=
  ⟨by simp, .inr ⟨g, l.length, _, rfl, Nat.zero_le _, h, Nat.le_refl _, by unfold maxLen; omega, by simp, by rw [List.take_of_length_le (by simp)]⟩⟩
/-- A row of rows, and one more. -/
theorem rows_snoc {H : Nat → Prop} {w w6 : World} {rv v6 u : Value} {L : List (List UInt8)} {b : List UInt8} {vs : List Value} (r1 : w.ownsRow 0 22 1 rv L.length vs) (r2 : ∀ k, rv.ownBlock = some k → H k) (r3 : Elems H w vs L) (hu : BsG H w u b) (hH : ∀ k, H k → k < w.heap.size) (X : Obj)
    (o6 : w6.ownsRow 0 22 1 v6 (L.length + 1) (vs ++ [u])) (g6 : (w.alloc X).grownBy w6 rv.ownBlock) (at6 : v6.ownBlock = rv.ownBlock ∨ v6.ownBlock = some (w.alloc X).heap.size) :
    RowsG (fun k => H k ∨ (w.heap.size ≤ k ∧ k < w6.heap.size)) w6 v6 (L ++ [b]) ∧ Frm H w w6 := by
  have b5 := below_alloc w X
  have hs5 : (w.alloc X).heap.size = w.heap.size + 1 := by simp
  have hs6 := g6.size
  have row5 : RowOf (w.alloc X) rv.ownBlock 22 := rowOf_owns (owns_below r1 b5)
  have keep : ∀ {u : Value} {l : List UInt8}, BsG H w u l → BsG (fun k => H k ∨ (w.heap.size ≤ k ∧ k < w6.heap.size)) w6 u l := fun {u l} h =>
    ⟨owns_other (owns_below h.1 b5) g6 row5 (by decide), fun k hk => .inl (h.2 k hk)⟩
  have hvl : vs.length = L.length := by have := r1.1; omega
  refine ⟨⟨vs ++ [u], ?_, fun k hk => ?_, ?_⟩, ?_⟩
  · rw [show (L ++ [b]).length = L.length + 1 by simp]; exact o6
  · rcases at6 with h | h
    · exact .inl (r2 k (h ▸ hk))
    · have hl := o6.lt k hk
      rw [h] at hk; cases hk
      exact .inr ⟨by omega, hl.2⟩
  · have e1 : Elems (fun k => H k ∨ (w.heap.size ≤ k ∧ k < w6.heap.size)) w6 vs L := fun i u l a c => keep (r3 i u l a c)
    exact e1.snoc hvl (keep hu)
  · exact (Frm.of_below (F := H) b5).trans (Frm.grown (F := H) g6 (fun k hk => r2 k hk)) (fun k hk => .inl hk)
theorem RowsG.rr {H : Nat → Prop} {w : World} {v : Value} {L : List (List UInt8)} (h : RowsG H w v L) : ∃ a cap, v = .slice a L.length cap ∧ L.length ≤ cap ∧ (a = none → cap = 0) ∧ RR w a L := by
  obtain ⟨vs, h1, h2, h3⟩ := h
  have hvl : vs.length = L.length := by have := h1.1; omega
  exact RR.of_rows (base := 0) ⟨vs, by rw [hvl]; exact h1, hvl, fun i u l a c => (h3 i u l a c).1⟩
theorem run_neq_str (w : World) (a : List UInt8) : (binOp .neq 9 (strV a) (strV a)).run Try.prog w = .ok (.bool false) w := by
  unfold strV; go_simp
@[go_sem] theorem run_guard_str (w : World) (a b : List UInt8) (x y : Operand) : (eqGuard .neq 9 x y (strV a) (strV b)).run Try.prog w = .ok () w := by
  unfold strV; go_simp
theorem conv_blk {w : World} {g : Nat} {l : List UInt8} (h : RB w (some ⟨g, 0, none⟩) l) : (convert 22 9 (.slice (some ⟨g, 0, none⟩) l.length l.length)).run Try.prog w = .ok (strV l) w := conv_str w _ _ l (fun e => by cases e) h
theorem low2_eq (x : Int) : ∃ n : Nat, bits .and .i64 x 3 = (n : Int) ∧ n ≤ 3 := by
  obtain ⟨r, h1, h2⟩ := and_le x 3 (by decide)
  have h1' : bits .and .i64 x 3 = (r : Int) := h1
  exact ⟨r, h1', by omega⟩
theorem app_row {w : World} {ops : Array Oper} {rest : List Oper} {o : Oper} {a : Act} {Q : Exit → Act → World → Prop} (hgd : o.guard = none) (s x : Operand) (ho : o.op = .call { callee := .builtin .append, args := #[s, x], argTypes := #[56, 56] })
    (v u : Value) (n : Nat) (vs : List Value) (g : Nat) (hs : a.eval s = v) (hown : w.ownsRow 0 22 1 v n vs) (hx : a.eval x = .slice (some ⟨g, 0, none⟩) 1 1)
    (hc : w.cell? ⟨g, 0, none⟩ = some u) (h1 : u.oneCell' = true) (hb : n ≤ 1000000)
    (hK : ∀ v' w', w'.ownsRow 0 22 1 v' (n + 1) (vs ++ [u]) → w.grownBy w' v.ownBlock → (v'.ownBlock = v.ownBlock ∨ v'.ownBlock = some w.heap.size) → wpList Try.prog ops Q rest (a.put o.dst v') w') : wpList Try.prog ops Q (o :: rest) a w := by
  obtain ⟨i0, hi, hz0, hz1, hz2⟩ := info22i
  obtain ⟨v', w', hrun, own', g', _, r3⟩ := run_append_own_at (P := Try.prog) w 0 56 o.type 22 i0 (.slice none 0 0) 1 24 Try.underlying56 hi hz0 hz1 hz2 rfl (by decide) v n vs hown ⟨g, 0, none⟩ 1 1 [u] rfl (by
    intro j z hz
    match j with
    | 0 => simp only [List.getElem?_cons_zero, Option.some.injEq] at hz; subst hz; rw [Addr.add_lit]; exact hc
    | j + 1 => simp at hz) (by
    intro z hz
    obtain rfl := List.mem_singleton.1 hz
    exact h1) (by unfold maxLen; omega) (by omega) (Nat.zero_le _)
  exact Lib.wpList_append_run w hgd s x 56 56 ho v _ hs hx v' w' hrun (hK v' w' own' g' r3)
end Go.Proofs.Ytopemjbakpahfaa
