/-
  Rows of the call's own: numbers that count up; texts. All pending writes kept. No condition but that the lengths are small.
-/
import Derived.Test.YtopemjbakpahfaaDPlain
import Derived.Maps.AppendAt
namespace Go.Proofs.Ytopemjbakpahfaa
open Go.RowKit Disk
theorem info3 : (Try.prog.info? 3).map (fun i => (i.zero, i.size, i.bytes)) = some (some (.int .i64 0), 1, 8) := by kernel_rfl
theorem info9 : (Try.prog.info? 9).map (fun i => (i.zero, i.size, i.bytes)) = some (some (.string ⟨#[]⟩), 1, 16) := by kernel_rfl
/-- Numbers from nought on. -/
def iota (n : Nat) : List Int := (List.range n).map (fun i : Nat => (i : Int))
def intV (i : Int) : Value := .int .i64 i
theorem iota_length (n : Nat) : (iota n).length = n := by simp [iota]
theorem iota_succ (n : Nat) : iota (n + 1) = iota n ++ [(n : Int)] := by simp [iota, List.range_succ]
theorem mem_iota {n i : Nat} (h : i < n) : (i : Int) ∈ iota n := by simp [iota]; exact ⟨i, h, rfl⟩
theorem sel_all (n : Nat) : ∀ (l : List (Nat × List UInt8)) (i : Nat), i + l.length ≤ n → sel (iota n) i l = l := by
  intro l
  induction l with
  | nil => intro i _; rfl
  | cons p l ih =>
    intro i h
    simp only [List.length_cons] at h
    unfold sel
    rw [if_pos (mem_iota (by omega)), ih _ (by omega)]
/-- Numbers of the call's own are read wherever their block stays. -/
theorem ri_owns {w : World} {base n : Nat} {v : Value} {l : List Int} (h : w.ownsRow base 3 1 v n (l.map intV)) :
    ∃ a c, v = .slice a l.length c ∧ l.length = n ∧ ∀ w', w.heap.size ≤ w'.heap.size → (∀ k, v.ownBlock = some k → w'.heap[k]? = w.heap[k]?) → RI w' a l := by
  have hn : l.length = n := by have := h.1; simpa using this
  rcases h.2 with ⟨rfl, h0⟩ | ⟨g, cap, cur, rfl, hb, hg, hnc, hcm, hcs, htake⟩
  · refine ⟨none, 0, by rw [hn, h0], hn, fun w' _ _ i hi => ?_⟩
    omega
  · refine ⟨some ⟨g, 0, none⟩, cap, by rw [hn], hn, fun w' hs hk i hi => ⟨g, 0, rfl, ?_, ?_⟩⟩
    · exact Nat.lt_of_lt_of_le (h.lt g rfl).2 hs
    · have h1 := h.cells (g := g) rfl i (intV (l.getD i 0)) (by simp [List.getD, hi])
      have h2 : w'.cell? ⟨g, i, none⟩ = w.cell? ⟨g, i, none⟩ := World.cell?_of_block (hk g rfl)
      rw [Nat.zero_add, h2]
      simpa [Addr.add_lit, intV] using h1
/-- A text of a row of the call's own. -/
theorem text_owns {w : World} {base n : Nat} {v : Value} {L : List (List UInt8)} (h : w.ownsRow base 9 1 v n (L.map strV)) {i : Nat} (hi : i < L.length) :
    ∃ g c, v = .slice (some ⟨g, 0, none⟩) n c ∧ w.cell? ⟨g, i, none⟩ = some (strV (L.getD i [])) := by
  have hn : L.length = n := by have := h.1; simpa using this
  rcases h.2 with ⟨rfl, h0⟩ | ⟨g, cap, cur, rfl, hb, hg, hnc, hcm, hcs, htake⟩
  · omega
  · have h1 := h.cells (g := g) rfl i (strV (L.getD i [])) (by simp [List.getD, hi])
    exact ⟨g, cap, rfl, by simpa [Addr.add_lit] using h1⟩
theorem cell_lit (w : World) (v : Value) (t : TypeId) (fr : Nat × Nat) (g : Nat) (hg : w.heap.size = g) : (w.alloc (.cells #[v] t fr)).cell? ⟨g, 0, none⟩ = some v := by
  subst hg
  exact Joins.cell_of_block (heap_alloc_new w _) 0
section
variable {w : World} {ops : Array Oper} {rest : List Oper} {o : Oper} {a : Act} {Q : Exit → Act → World → Prop}
/-- A number appended to numbers of the call's own. -/
theorem app_int (hgd : o.guard = none) (s x : Operand) (ho : o.op = .call { callee := .builtin .append, args := #[s, x], argTypes := #[37, 37] })
    (base : Nat) (v : Value) (l : List Int) (z : Int) (g : Nat) (hs : a.eval s = v) (hown : w.ownsRow base 3 1 v l.length (l.map intV)) (hx : a.eval x = .slice (some ⟨g, 0, none⟩) 1 1)
    (hc : w.cell? ⟨g, 0, none⟩ = some (intV z)) (hb : l.length ≤ 1000000000) (b3 : base ≤ w.heap.size)
    (hK : ∀ v' w', w'.ownsRow base 3 1 v' (l ++ [z]).length ((l ++ [z]).map intV) → w.grownBy w' v.ownBlock → (v'.ownBlock = v.ownBlock ∨ v'.ownBlock = some w.heap.size) → wpList Try.prog ops Q rest (a.put o.dst v') w') : wpList Try.prog ops Q (o :: rest) a w := by
  obtain ⟨i0, hi, hz0, hz1, hz2⟩ := info_parts info3
  obtain ⟨v', w', hrun, own', g', _, r3⟩ := run_append_own_at (P := Try.prog) w base 37 o.type 3 i0 (.int .i64 0) 1 8 Try.underlying37 hi hz0 hz1 hz2 rfl (by decide) v l.length _ hown ⟨g, 0, none⟩ 1 1 [intV z] rfl (by
    intro j u hu
    match j with
    | 0 => simp only [List.getElem?_cons_zero, Option.some.injEq] at hu; subst hu; rw [Addr.add_lit]; exact hc
    | j + 1 => simp at hu) (by
    intro u hu
    obtain rfl := List.mem_singleton.1 hu
    rfl) (by unfold maxLen; omega) (by omega) b3
  exact Lib.wpList_append_run w hgd s x 37 37 ho v _ hs hx v' w' hrun (hK v' w' (by simpa using own') g' r3)
/-- A text appended to texts of the call's own. -/
theorem app_text (hgd : o.guard = none) (s x : Operand) (ho : o.op = .call { callee := .builtin .append, args := #[s, x], argTypes := #[48, 48] })
    (base : Nat) (v : Value) (L : List (List UInt8)) (z : List UInt8) (g : Nat) (hs : a.eval s = v) (hown : w.ownsRow base 9 1 v L.length (L.map strV)) (hx : a.eval x = .slice (some ⟨g, 0, none⟩) 1 1)
    (hc : w.cell? ⟨g, 0, none⟩ = some (strV z)) (hb : L.length ≤ 1000000000) (b3 : base ≤ w.heap.size)
    (hK : ∀ v' w', w'.ownsRow base 9 1 v' (L ++ [z]).length ((L ++ [z]).map strV) → w.grownBy w' v.ownBlock → (v'.ownBlock = v.ownBlock ∨ v'.ownBlock = some w.heap.size) → wpList Try.prog ops Q rest (a.put o.dst v') w') : wpList Try.prog ops Q (o :: rest) a w := by
  obtain ⟨i0, hi, hz0, hz1, hz2⟩ := info_parts info9
  obtain ⟨v', w', hrun, own', g', _, r3⟩ := run_append_own_at (P := Try.prog) w base 48 o.type 9 i0 (.string ⟨#[]⟩) 1 16 Try.underlying48 hi hz0 hz1 hz2 rfl (by decide) v L.length _ hown ⟨g, 0, none⟩ 1 1 [strV z] rfl (by
    intro j u hu
    match j with
    | 0 => simp only [List.getElem?_cons_zero, Option.some.injEq] at hu; subst hu; rw [Addr.add_lit]; exact hc
    | j + 1 => simp at hu) (by
    intro u hu
    obtain rfl := List.mem_singleton.1 hu
    rfl) (by unfold maxLen; omega) (by omega) b3
  exact Lib.wpList_append_run w hgd s x 48 48 ho v _ hs hx v' w' hrun (hK v' w' (by simpa using own') g' r3)
end
end Go.Proofs.Ytopemjbakpahfaa
