/-
  Contracts and plain laws, part 6 (texts: Dev2, Rec). No condition but what each states.
-/
import Derived.Test.YtopemjbakpahfaaSn05
import Derived.StillTail
import Derived.StillTailTactics
import Derived.Deep.WholeRow
import Derived.Maps.AppendAt
/-
  The device's own small steps: a write kept, a call counted, armed. No condition but that its numbers are small.
-/
namespace Go.Proofs.Ytopemjbakpahfaa
open Go.RowKit Disk
theorem size110 : (Try.prog.info? 110).map (·.size) = some 32 := by kernel_rfl
theorem size112 : (Try.prog.info? 112).map (·.size) = some 33 := by kernel_rfl
theorem still_load_mid {ops : Array Oper} {op : Oper} {a : Act} {w : World} {K : Act → Prop} {E : Prop} (hg : op.guard = none) (ty : TypeId) (x : Operand) (ho : op.op = .load ty x)
    (b o : Nat) (hx : a.eval x = .pointer (some ⟨b, o, none⟩)) (cs : List Value) (d : TypeDesc) (hc : w.rangeAt b o cs)
    (hu : Try.prog.underlying ty = some d) (hd : d.isRow = true) (hi : (Try.prog.info? ty).map (·.size) = some cs.length)
    (h : K (a.put op.dst (.agg cs.toArray))) : if Region.wanted op (yielded ops a.tmps) = true then op.still Try.prog a w K else E := by
  have hw : Region.wanted op (yielded ops a.tmps) = true := by simp [Region.wanted, hg]
  rw [if_pos hw]
  unfold Oper.still execOp
  simp only [ho, hx, Instr.loadAt, Instr.sureAddr, Sem.run_bind, Sem.run_pure, Result.andThen_ok, run_loadVar_mid w b o ty cs d hc hu hd hi, Oper.stillUpon_value]
  exact h
theorem bytes_one (l : List UInt8) : (l.map byteV).toArray.all (·.oneCell') = true := all_oneCell_toArray (oneCell_bytes l)
theorem kept_put {F : Nat → Prop} {w : World} {K : Nat} {l : List (List UInt8)} (h : Kept F w K l) (hf : full l) {p : Nat × List UInt8} (hp : p.1 < l.length) (h32 : p.2.length = 32) : Kept F (w.setCells K (32 * p.1) (p.2.map byteV)) K (put l p) := by
  have ht : w.there K (32 * p.1) ((p.2.map byteV).length) := by
    intro j hj
    have := h.thr (32 * p.1 + j) (by simp at hj; omega)
    simpa using this
  refine ⟨typed_setCells _ _ _ h.typ, ?_, ?_, h.f⟩
  · intro k hk
    rw [put_length] at hk
    rw [put_get]
    by_cases e : p.1 = k
    · rw [if_pos ⟨e, hk⟩, ← e]
      exact World.rangeAt_setCells_same w K (32 * p.1) (p.2.map byteV) ht
    · rw [if_neg (fun h => e h.1)]
      refine World.rangeAt_setCells_apart (h.rng k hk) K (32 * p.1) (p.2.map byteV) ?_
      have := hf k hk
      rw [List.length_map, List.length_map, this, h32]
      omega
  · rw [put_length]; exact World.there_setCells h.thr _ _ _
theorem block_apart {A : World} {b c : Nat} {cs : Array Value} {s t : TypeId} (h : A.heap[b]? = some (.cells cs s (0, 0))) (k : Typed A c t) (hne : s ≠ t) : c ≠ b := by
  rintro rfl
  obtain ⟨C, hC⟩ := k
  rw [h] at hC; cases hC; exact hne rfl
theorem row_apart {A : World} {b base n z : Nat} {cs : Array Value} {s t : TypeId} {v : Value} {xs : List Value} (h : A.heap[b]? = some (.cells cs s (0, 0))) (k : A.ownsRow base t z v n xs) (hne : s ≠ t) : ∀ g, v.ownBlock = some g → g ≠ b := by
  rintro g hg rfl
  rcases k.2 with ⟨rfl, _⟩ | ⟨g', cap, cur, rfl, _, hh, _⟩
  · simp [Value.ownBlock] at hg
  · obtain rfl : g' = g := by simpa [Value.ownBlock] using hg
    rw [h] at hh; cases hh; exact hne rfl
/-- A device in memory, its blocks named. -/
structure DevV (F : Nat → Prop) (w : World) (B K : Nat) (vp : Value) (d : Dev) : Prop where
  blk : w.heap[B]? = some (.cells (dcells d K vp) 107 (0, 0))
  kept : Kept F w K d.kept
  pend : Pend F w vp d.pend
  ok : d.ok
  f : F B
  arm : d.armed ≤ 9223372036854775807
  lt : ∀ k, F k → k < w.heap.size
theorem DevV.dev {F : Nat → Prop} {w : World} {B K : Nat} {vp : Value} {d : Dev} (h : DevV F w B K vp d) : IsDev F w B d := ⟨⟨K, vp, h.blk, h.kept, h.pend⟩, h.ok, h.f, h.arm, h.lt⟩
theorem IsDev.v {F : Nat → Prop} {w : World} {B : Nat} {d : Dev} (h : IsDev F w B d) : ∃ K vp, DevV F w B K vp d := by
  obtain ⟨⟨K, vp, h1, h2, h3⟩, h4, h5, h6, h7⟩ := h
  exact ⟨K, vp, h1, h2, h3, h4, h5, h6, h7⟩
/-- What keep does in memory: the sector is stored. -/
def KeepOf (F : Nat → Prop) (w : World) (B K : Nat) (vp : Value) (d : Dev) (p : Nat × List UInt8) (en : Ending) (w' : World) : Prop := (∃ v, en = .returned v) ∧ Frm F w w' ∧ DevV F w' B K vp { d with kept := put d.kept p }
set_option maxRecDepth 100000 in
set_option maxHeartbeats 2000000 in
theorem keep_any {F : Nat → Prop} {w : World} {B K : Nat} {vp : Value} {d : Dev} (h : DevV F w B K vp d) (p : Nat × List UInt8) (hp : p.1 < d.kept.length) (h32 : p.2.length = 32) :
    Calls Try.prog 88 #[.pointer (some ⟨B, 0, none⟩), .agg (pcells p).toArray] w (KeepOf F w B K vp d p) := by
  obtain ⟨hb, hk, hpd, hok, hf, hga, hlt⟩ := h
  have c0 : w.cell? ⟨B, 0, none⟩ = some (.slice (some ⟨K, 0, none⟩) d.kept.length d.kept.length) := Joins.cell_of_block hb 0
  go_enter Try.func88, Try.ntmps88
  go_wp2_with fail
  have W1h : (w.alloc (.cells (pcells p).toArray 112)).heap[w.heap.size]? = some (.cells (pcells p).toArray 112 (0, 0)) := heap_alloc_new w _
  have W1b := (Below.heap_alloc w (.cells (pcells p).toArray 112) B (Array.getElem?_eq_some_iff.1 hb).1).trans hb
  have k1 : Kept F (w.alloc (.cells (pcells p).toArray 112)) K d.kept := hk.same (Below.heap_alloc w _ K hk.typ.lt) hk.f
  have p1 : Pend F (w.alloc (.cells (pcells p).toArray 112)) vp d.pend := hpd.same (fun k hk => Below.heap_alloc w _ k (hpd.own.lt k hk).2) (fun _ h => h)
  have hr1 : (w.alloc (.cells (pcells p).toArray 112)).rangeAt w.heap.size 1 (p.2.map byteV) := by
    intro j v hv
    rw [Joins.cell_of_block W1h]
    simpa [pcells, Nat.add_comm] using hv
  have cz : (w.alloc (.cells (pcells p).toArray 112)).cell? ⟨w.heap.size, 0, none⟩ = some (.int .i64 (p.1 : Int)) := Joins.cell_of_block W1h 0
  have c1 : (w.alloc (.cells (pcells p).toArray 112)).cell? ⟨B, 0, none⟩ = some (.slice (some ⟨K, 0, none⟩) d.kept.length d.kept.length) := Joins.cell_of_block W1b 0
  have fr1 : Frm F w (w.alloc (.cells (pcells p).toArray 112)) := Frm.of_below (below_alloc w _)
  generalize hW : w.alloc (.cells (pcells p).toArray 112) = W at W1b k1 p1 hr1 cz c1 fr1 ⊢
  have hpi : (p.1 : Int) < (d.kept.length : Int) := by omega
  have hp0 : (0 : Int) ≤ (p.1 : Int) := by omega
  refine wp_region_still_tail 9 (by kernel_rfl) (by kernel_rfl) ?_
  simp only [List.take_succ_cons, List.take_zero, List.drop_succ_cons, List.drop_zero]
  change wpStill _ _ W.drew (fun a' => wpList _ _ _ _ a' W.drew) _ _
  have czd : W.drew.cell? ⟨w.heap.size, 0, none⟩ = some (.int .i64 (p.1 : Int)) := cz
  have c1d : W.drew.cell? ⟨B, 0, none⟩ = some (.slice (some ⟨K, 0, none⟩) d.kept.length d.kept.length) := c1
  repeat (first
    | (refine wpStill_step (fun K hK => ?_); refine still_load_mid rfl 110 (.tmp 10) rfl w.heap.size 1 rfl (p.2.map byteV) _ hr1 Try.underlying110 rfl (by rw [List.length_map, h32]; exact size110) ?_; refine hK _ ?_; clear hK K)
    | still_step)
  refine wpStill_nil ?_
  have kd : Kept F W.drew K d.kept := k1.same rfl k1.f
  have pd : Pend F W.drew vp d.pend := p1.same (fun _ _ => rfl) (fun _ h => h)
  have hth : W.drew.there K (32 * p.1) ((p.2.map byteV).toArray.size) := by
    intro j hj
    have := kd.thr (32 * p.1 + j) (by simp at hj; omega)
    simpa using this
  have hbd : W.drew.heap[B]? = some (.cells (dcells d K vp) 107 (0, 0)) := W1b
  refine wpList_store_mid rfl 110 (.tmp 12) (.tmp 11) rfl K (32 * p.1) (p.2.map byteV).toArray (by first | rfl | (rw [Nat.mul_comm]; rfl)) rfl hth (by rw [List.size_toArray, List.length_map, h32]; exact size110) (bytes_one _) ?_
  have fin : ∀ v, KeepOf F w B K vp d p (.returned v) (W.drew.setCells K (32 * p.1) (p.2.map byteV)) := by
    refine fun v => ⟨⟨v, rfl⟩, (fr1.trans (Frm.of_below (F := F) (Below.refl _ W).drew) (fun k hk => .inl hk)).trans (frm_setCells hk.f _ _ _) (fun k hk => .inl hk), ?_, kept_put kd hok.1 hp h32, ?_, ?_, hf, hga, fun k hk => by have h1 := hlt k hk; have h2 := fr1.size; rw [size_setCells]; show k < W.heap.size; omega⟩
    · rw [heap_setCells (block_apart hbd kd.typ (by decide)).symm]
      show W.drew.heap[B]? = some (.cells (dcells _ K vp) 107 (0, 0))
      rw [hbd]
      simp [dcells, put_length]
    · exact pd.same (fun g hg => heap_setCells (fun e => by
        subst e
        obtain ⟨C, hC⟩ := kd.typ
        exact row_apart hC pd.own (by decide) g hg rfl) _ _ _) (fun _ h => h)
    · refine ⟨full_put hok.1 h32, fun q hq => ?_⟩
      have := hok.2 q hq
      exact ⟨by show _ < (put d.kept p).length; rw [put_length]; exact this.1, this.2⟩
  have FN := Lib.hid fin
  clear fin
  go_wp2
  go_end0
  exact FN.out _
/-- Where only a number of the device was stored. -/
theorem dev_set {F : Nat → Prop} {w : World} {B K : Nat} {d e : Dev} {vp vq : Value} (hb : w.heap[B]? = some (.cells (dcells d K vp) 107 (0, 0))) (hk : Kept F w K d.kept) (hp : Pend F w vq e.pend) (i : Nat) (v : Value)
    (he : (dcells d K vp).setIfInBounds i v = dcells e K vq) (hkk : e.kept = d.kept) (hf : F B) (hok : e.ok) (ha : e.armed ≤ 9223372036854775807) (hlt : ∀ k, F k → k < w.heap.size) : IsDev F (w.setCell ⟨B, i, none⟩ v) B e := by
  refine ⟨⟨K, vq, ?_, ?_, hp.same (fun g hg => Below.heap_setCell _ _ _ _ (row_apart hb hp.own (by decide) g hg)) (fun _ h => h)⟩, hok, hf, ha, fun k hk => by simpa using hlt k hk⟩
  · rw [← he]; exact Joins.block_setCell hb v
  · rw [hkk]; exact hk.same (Below.heap_setCell _ _ _ _ (block_apart hb hk.typ (by decide))) hk.f
def StopsOf (F : Nat → Prop) (w : World) (B : Nat) (d : Dev) (en : Ending) (w' : World) : Prop := en = .returned (.bool (decide (d.armed = 1))) ∧ Frm F w w' ∧ IsDev F w' B d.step
theorem stops_any {F : Nat → Prop} {w : World} {B : Nat} {d : Dev} (h : IsDev F w B d) : Calls Try.prog 87 #[.pointer (some ⟨B, 0, none⟩)] w (StopsOf F w B d) := by
  obtain ⟨⟨K, vp, hb, hk, hpd⟩, hok, hf, hga, hlt⟩ := h
  have c2 : w.cell? ⟨B, 2, none⟩ = some (.bool d.down) := Joins.cell_of_block hb 2
  have c3 : w.cell? ⟨B, 3, none⟩ = some (.int .i64 (d.armed : Int)) := Joins.cell_of_block hb 3
  have f2 : w.frozen? ⟨B, 2, none⟩ = false := Joins.unfrozen_of_block hb 2
  have f3 : w.frozen? ⟨B, 3, none⟩ = false := Joins.unfrozen_of_block hb 3
  have hai : (d.armed : Int) ≤ 9223372036854775807 := by omega
  have heq : ((d.armed : Int) == 1) = decide (d.armed = 1) := by
    by_cases e : d.armed = 1
    · rw [e]; rfl
    · rw [decide_eq_false e, beq_eq_false_iff_ne]; omega
  have fin : ∀ v x, v = Value.bool (decide (d.armed = 1)) → x = ((d.armed - 1 : Nat) : Int) → StopsOf F w B d (.returned v) ((w.setCell ⟨B, 2, none⟩ (.bool (decide (d.armed = 1)))).setCell ⟨B, 3, none⟩ (.int .i64 x)) := by
    intro v x hv hx
    subst hx
    have h1 : IsDev F (w.setCell ⟨B, 2, none⟩ (.bool (decide (d.armed = 1)))) B { d with down := decide (d.armed = 1) } := dev_set (e := { d with down := decide (d.armed = 1) }) hb hk hpd 2 _ rfl rfl hf hok hga hlt
    refine ⟨by rw [hv], (Frm.setCell w 2 _ hf).trans (Frm.setCell _ 3 _ hf) (fun k hk => .inl hk), ?_⟩
    obtain ⟨⟨K1, vp1, hb1, hk1, hp1⟩, _, _, _, hl1⟩ := h1
    exact dev_set (e := d.step) hb1 hk1 hp1 3 _ rfl rfl hf (step_ok hok) (by show d.armed - 1 ≤ _; omega) hl1
  have FN := Lib.hid fin
  clear fin
  go_enter Try.func87, Try.ntmps87
  go_wp2
  all_goals
    go_ret
    exact FN.out _ _ rfl (by omega)
def ArmOf (F : Nat → Prop) (w : World) (B : Nat) (d : Dev) (n : Int) (en : Ending) (w' : World) : Prop := (∃ v, en = .returned v) ∧ Frm F w w' ∧ IsDev F w' B (d.arm n)
theorem arm_any {F : Nat → Prop} {w : World} {B : Nat} {d : Dev} (h : IsDev F w B d) (n : Int) (hn : n ≤ 9223372036854775807) : Calls Try.prog 45 #[.pointer (some ⟨B, 0, none⟩), .int .i64 n] w (ArmOf F w B d n) := by
  obtain ⟨⟨K, vp, hb, hk, hpd⟩, hok, hf, hga, hlt⟩ := h
  have c3 : w.cell? ⟨B, 3, none⟩ = some (.int .i64 (d.armed : Int)) := Joins.cell_of_block hb 3
  have f3 : w.frozen? ⟨B, 3, none⟩ = false := Joins.unfrozen_of_block hb 3
  have fin : ∀ v x, x = ((n.toNat : Nat) : Int) → ArmOf F w B d n (.returned v) (w.setCell ⟨B, 3, none⟩ (.int .i64 x)) := fun v x hx => by
    subst hx
    exact
    ⟨⟨v, rfl⟩, Frm.setCell w 3 _ hf, dev_set (e := d.arm n) hb hk hpd 3 _ rfl rfl hf hok (by show n.toNat ≤ _; omega) hlt⟩
  have FN := Lib.hid fin
  clear fin
  go_enter Try.func45, Try.ntmps45
  go_wp2
  all_goals
    go_end0
    exact FN.out _ _ (by omega)
end Go.Proofs.Ytopemjbakpahfaa
/-
  Laws for records of many cells: stored into new memory, appended; bytes copied. No condition but that the lengths are small.
-/
namespace Go.Proofs.Ytopemjbakpahfaa
open Go.RowKit
/-- A whole record into the block that was made last. -/
theorem wpList_store_new {ops : Array Oper} {rest : List Oper} {op : Oper} {a : Act} {w : World} {Q : Exit → Act → World → Prop} (hgd : op.guard = none) (ty : TypeId) (x y : Operand) (ho : op.op = .store ty x y)
    (c c' : Array Value) (hx : a.eval x = .pointer (some ⟨w.heap.size, 0, none⟩)) (hy : a.eval y = .agg c')
    (hi : (Try.prog.info? ty).map (·.size) = some c'.size) (hs : c.size = c'.size) (h1 : c'.all (·.oneCell') = true)
    (h : wpList Try.prog ops Q rest (a.put op.dst undef) (w.alloc (.cells c' ty))) : wpList Try.prog ops Q (op :: rest) a (w.alloc (.cells c ty)) :=
  wpList_plain hgd fun K hK => by
    unfold Oper.wp execOp
    simp only [ho, hx, hy, Instr.storeAt, Instr.sureAddr, Sem.run_bind, Sem.run_pure, Result.andThen_ok, run_storeVar_new w ty c c' hi hs h1]
    exact hK _ _ h
/-- Bytes copied into a row. -/
theorem wpList_copy_bytes {ops : Array Oper} {rest : List Oper} {o : Oper} {a : Act} {w : World} {Q : Exit → Act → World → Prop} (hgd : o.guard = none) (d s : Operand)
    (ho : o.op = .call { callee := .builtin .copy, args := #[d, s], argTypes := #[22, 22] }) (b off n c : Nat) (hd : a.eval d = .slice (some ⟨b, off, none⟩) n c) (pa : Option Addr) (l : List UInt8) (sc : Nat) (hs : a.eval s = .slice pa l.length sc)
    (hn : pa = none → l = []) (hr : RB w pa l) (hl : l.length ≤ n) (hth : w.there b off l.length)
    (h : wpList Try.prog ops Q rest (a.put o.dst (goInt (l.length : Nat))) (w.setCells b off (l.map byteV))) : wpList Try.prog ops Q (o :: rest) a w := by
  refine wpList_plain hgd fun K hK => ?_
  have h5 : (Try.prog.info? 5).map (·.size) = some 1 := by kernel_rfl
  have hrun : (Builtin.copy_ #[22, 22] o.type #[.slice (some ⟨b, off, none⟩) n c, .slice pa l.length sc]).run Try.prog w = .ok (goInt (l.length : Nat)) (w.setCells b off (l.map byteV)) := by
    cases l with
    | nil => exact run_copy_none w 22 22 o.type 5 _ _ _ _ _ _ Try.underlying22 h5 (by simp)
    | cons x l =>
      cases pa with
      | none => exact absurd (hn rfl) (by simp)
      | some ad =>
        have := run_copy_cells (P := Try.prog) w 22 22 o.type 5 b off n c ad (x :: l).length sc ((x :: l).map byteV) Try.underlying22 h5 (by simp only [List.length_map, Nat.min_def]; rw [if_pos hl]) hr.news
          (fun j hj => (hth j (by simpa using hj)).1) (fun j hj => (hth j (by simpa using hj)).2) (oneCell_bytes _)
        simpa using this
  unfold Oper.wp
  simp [execOp, ho, resolve, invoke, builtin, hd, hs, hrun, Result.andThen]
  exact hK _ _ h
theorem fold_from : ∀ (L : List Value) (k : Nat) (C : Array Value), k + L.length = C.size → (L.zipIdx k).foldl (fun cs x => cs.setIfInBounds x.2 x.1) C = (C.toList.take k ++ L).toArray := by
  intro L
  induction L with
  | nil =>
    intro k C h
    simp at h
    simp [← h, List.take_of_length_le]
  | cons v L ih =>
    intro k C h
    simp only [List.length_cons] at h
    rw [List.zipIdx_cons, List.foldl_cons, ih (k + 1) _ (by simp; omega)]
    congr 1
    simp only [Array.toList_setIfInBounds]
    rw [List.take_set, List.take_succ_eq_append_getElem (by simp; omega), List.set_append_right _ _ (by simp; omega)]
    simp [Nat.min_eq_left (show k ≤ C.size by omega)]
/-- A record written, cell by cell, over another. -/
theorem fold_set (L : List Value) (C : Array Value) (h : C.size = L.length) : List.foldl (fun cs x => cs.setIfInBounds x.2 x.1) C L.zipIdx = L.toArray := by
  have := fold_from L 0 C (by omega)
  simpa using this
/-- append to a row of records of the call's own, as one step of a region whose order is drawn. -/
theorem wp_append_rec {o : Oper} {a : Act} {w : World} {K : Act → World → Prop} {Q : Exit → Act → World → Prop}
    (s x : Operand) (t : TypeId) (hop : o.op = Op.call { callee := Callee.builtin Builtin.append, args := #[s, x], argTypes := #[t, t] })
    (base : Nat) (e : TypeId) (i : TypeInfo) (z : Value) (size bytes : Nat) (h1 : Try.prog.underlying t = some (.slice e)) (h2 : Try.prog.info? e = some i) (h3 : i.zero = some z) (h4 : i.size = size) (h5 : i.bytes = bytes) (h6 : z.cells.size = size) (h7 : 0 < size)
    (v : Value) (k : Nat) (xs : List Value) (hs : a.eval s = v) (hown : w.ownsRow base e size v k xs) (ad : Addr) (m c : Nat) (news : List Value) (hx : a.eval x = .slice (some ad) m c) (hn : news.length = m * size)
    (hc : ∀ j u, news[j]? = some u → w.cell? (ad.add j) = some u) (h1c : ∀ u ∈ news, u.oneCell' = true) (b1 : k + m ≤ maxLen) (b2 : (k + m) * bytes ≤ 140737488355328) (b3 : base ≤ w.heap.size)
    (hK : ∀ v' w', w'.ownsRow base e size v' (k + m) (xs ++ news) → w.grownBy w' v.ownBlock → (v'.ownBlock = v.ownBlock ∨ v'.ownBlock = some w.heap.size) → K (a.put o.dst v') w') : o.wp Try.prog a w K Q := by
  obtain ⟨v', w', hrun, r1, r2, _, r3⟩ := run_append_own_at (P := Try.prog) w base t o.type e i z size bytes h1 h2 h3 h4 h5 h6 h7 v k xs hown ad m c news hn hc h1c b1 b2 b3
  unfold Oper.wp
  simp [execOp, hop, resolve, invoke, builtin, hs, hx, hrun, Result.andThen]
  exact hK v' w' r1 r2 r3
end Go.Proofs.Ytopemjbakpahfaa
