/-
  Laws for records of many cells: stored into new memory, appended; bytes copied. No condition but that the lengths are small.
-/
import Derived.Test.YtopemjbakpahfaaFrm
import Derived.Deep.WholeRow
import Derived.Maps.AppendAt
namespace Go.Proofs.Ytopemjbakpahfaa
open Go.RowKit
/-- A whole record into the block that was made last. -/
theorem wpList_store_new {ops : Array Oper} {rest : List Oper} {op : Oper} {a : Act} {w : World} {Q : Exit → Act → World → Prop} (hgd : op.guard = none) (ty : TypeId) (x y : Operand) (ho : op.op = .store ty x y)
    (c c' : Array Value) (hx : a.eval x = .pointer (some ⟨w.heap.size, 0, none⟩)) (hy : a.eval y = .agg c')
    (hi : (Try.prog.info? ty).map (·.size) = some c'.size) (hs : c.size = c'.size) (h1 : c'.all (·.oneCell') = true)
    (h : wpList Try.prog ops Q rest (a.put op.dst undef) (w.alloc (.cells c' ty))) : wpList Try.prog ops Q (op :: rest) a (w.alloc (.cells c ty)) :=
  wpList_plain hgd fun K hK => by
    unfold Oper.wp execOp
    simp only [ho, hx, hy, Instr.storeAt, Instr.sureAddr, Sem.run_bind, Sem.run_pure, Result.andThen_ok, run_storeVar_new w ty c c' hi hs h1]
    exact hK _ _ h
/-- Bytes copied into a row. -/
theorem wpList_copy_bytes {ops : Array Oper} {rest : List Oper} {o : Oper} {a : Act} {w : World} {Q : Exit → Act → World → Prop} (hgd : o.guard = none) (d s : Operand)
    (ho : o.op = .call { callee := .builtin .copy, args := #[d, s], argTypes := #[22, 22] }) (b off n c : Nat) (hd : a.eval d = .slice (some ⟨b, off, none⟩) n c) (pa : Option Addr) (l : List UInt8) (sc : Nat) (hs : a.eval s = .slice pa l.length sc)
    (hn : pa = none → l = []) (hr : RB w pa l) (hl : l.length ≤ n) (hth : w.there b off l.length)
    (h : wpList Try.prog ops Q rest (a.put o.dst (goInt (l.length : Nat))) (w.setCells b off (l.map byteV))) : wpList Try.prog ops Q (o :: rest) a w := by
  refine wpList_plain hgd fun K hK => ?_
  have h5 : (Try.prog.info? 5).map (·.size) = some 1 := by kernel_rfl
  have hrun : (Builtin.copy_ #[22, 22] o.type #[.slice (some ⟨b, off, none⟩) n c, .slice pa l.length sc]).run Try.prog w = .ok (goInt (l.length : Nat)) (w.setCells b off (l.map byteV)) := by
    cases l with
    | nil => exact run_copy_none w 22 22 o.type 5 _ _ _ _ _ _ Try.underlying22 h5 (by simp)
    | cons x l =>
      cases pa with
      | none => exact absurd (hn rfl) (by simp)
      | some ad =>
        have := run_copy_cells (P := Try.prog) w 22 22 o.type 5 b off n c ad (x :: l).length sc ((x :: l).map byteV) Try.underlying22 h5 (by simp only [List.length_map, Nat.min_def]; rw [if_pos hl]) hr.news
          (fun j hj => (hth j (by simpa using hj)).1) (fun j hj => (hth j (by simpa using hj)).2) (oneCell_bytes _)
        simpa using this
  unfold Oper.wp
  simp [execOp, ho, resolve, invoke, builtin, hd, hs, hrun, Result.andThen]
  exact hK _ _ h
theorem fold_from : ∀ (L : List Value) (k : Nat) (C : Array Value), k + L.length = C.size → (L.zipIdx k).foldl (fun cs x => cs.setIfInBounds x.2 x.1) C = (C.toList.take k ++ L).toArray := by
  intro L
  induction L with
  | nil =>
    intro k C h
    simp at h
    simp [← h, List.take_of_length_le]
  | cons v L ih =>
    intro k C h
    simp only [List.length_cons] at h
    rw [List.zipIdx_cons, List.foldl_cons, ih (k + 1) _ (by simp; omega)]
    congr 1
    simp only [Array.toList_setIfInBounds]
    rw [List.take_set, List.take_succ_eq_append_getElem (by simp; omega), List.set_append_right _ _ (by simp; omega)]
    simp [Nat.min_eq_left (show k ≤ C.size by omega)]
/-- A record written, cell by cell, over another. -/
theorem fold_set (L : List Value) (C : Array Value) (h : C.size = L.length) : List.foldl (fun cs x => cs.setIfInBounds x.2 x.1) C L.zipIdx = L.toArray := by
  have := fold_from L 0 C (by omega)
  simpa using this
/-- append to a row of records of the call's own, as one step of a region whose order is drawn. -/
theorem wp_append_rec {o : Oper} {a : Act} {w : World} {K : Act → World → Prop} {Q : Exit → Act → World → Prop}
    (s x : Operand) (t : TypeId) (hop : o.op = Op.call { callee := Callee.builtin Builtin.append, args := #[s, x], argTypes := #[t, t] })
    (base : Nat) (e : TypeId) (i : TypeInfo) (z : Value) (size bytes : Nat) (h1 : Try.prog.underlying t = some (.slice e)) (h2 : Try.prog.info? e = some i) (h3 : i.zero = some z) (h4 : i.size = size) (h5 : i.bytes = bytes) (h6 : z.cells.size = size) (h7 : 0 < size)
    (v : Value) (k : Nat) (xs : List Value) (hs : a.eval s = v) (hown : w.ownsRow base e size v k xs) (ad : Addr) (m c : Nat) (news : List Value) (hx : a.eval x = .slice (some ad) m c) (hn : news.length = m * size)
    (hc : ∀ j u, news[j]? = some u → w.cell? (ad.add j) = some u) (h1c : ∀ u ∈ news, u.oneCell' = true) (b1 : k + m ≤ maxLen) (b2 : (k + m) * bytes ≤ 140737488355328) (b3 : base ≤ w.heap.size)
    (hK : ∀ v' w', w'.ownsRow base e size v' (k + m) (xs ++ news) → w.grownBy w' v.ownBlock → (v'.ownBlock = v.ownBlock ∨ v'.ownBlock = some w.heap.size) → K (a.put o.dst v') w') : o.wp Try.prog a w K Q := by
  obtain ⟨v', w', hrun, r1, r2, _, r3⟩ := run_append_own_at (P := Try.prog) w base t o.type e i z size bytes h1 h2 h3 h4 h5 h6 h7 v k xs hown ad m c news hn hc h1c b1 b2 b3
  unfold Oper.wp
  simp [execOp, hop, resolve, invoke, builtin, hs, hx, hrun, Result.andThen]
  exact hK v' w' r1 r2 r3
end Go.Proofs.Ytopemjbakpahfaa
