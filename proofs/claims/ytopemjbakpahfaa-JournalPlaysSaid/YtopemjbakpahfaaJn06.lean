/-
  Contracts and plain laws, part 6 (texts: Iter, Boxes, All, Small, Next). No condition but what each states.
-/
import Derived.Test.YtopemjbakpahfaaJn05
import Derived.Shelf.Abstract
import Derived.WalkKit
import Derived.LoopNIn
import Derived.Maps.AppendAt
import Derived.Shelf.RegionOpen
/-
  The iterator over frames: its state lies in a captured cell.
-/
namespace Go.Proofs.Ytopemjbakpahfaa
open Go.RowKit Crc
attribute [local go_sem] Oper.semAt_some
/-- A piece: what a frame holds, what stands behind it, and the two values. -/
structure Piece where
  h : List UInt8
  r : List UInt8
  v1 : Value
  v2 : Value
def Piece.enc (x : Piece) : Array Value := #[x.v1, x.v2]
def leftOf (b : List UInt8) (pre : List Piece) : List UInt8 := (pre.getLast?.map Piece.r).getD b
theorem leftOf_snoc (b : List UInt8) (pre : List Piece) (x : Piece) : leftOf b (pre ++ [x]) = x.r := by simp [leftOf]
def IsPiece (w0 : World) (b : List UInt8) (pre : List Piece) (x : Piece) : Prop := cut (leftOf b pre) = some (x.h, x.r) ∧ Bs w0 x.v1 x.h ∧ Bs w0 x.v2 x.r
def lenAt (Bn : Nat) (W : World) : Nat := match W.cell? ⟨Bn, 0, none⟩ with
  | some (.slice _ n _) => n
  | _ => 0
theorem grown_below {w w' : World} (h : Below w.heap.size w w') : w.grownBy w' none := ⟨h.os, h.tape, h.output, h.size, fun k hk _ => h.block k hk⟩
set_option maxRecDepth 100000 in
set_option maxHeartbeats 1000000 in
theorem frames1_in (b : List UInt8) (hlen : b.length ≤ 1000000) (w0 w : World) (Bn n : Nat) (hBn : w0.heap.size ≤ Bn) (hw : Below w0.heap.size w0 w) (v0 : Value) (hc : Boxed w Bn 22 v0) (hv : Bs w0 v0 b) :
    SeqCell Fence.wide n Try.prog 103 #[.pointer (some ⟨Bn, 0, none⟩)] Piece.enc w0.heap.size Bn (IsPiece w0 b) (fun xs => cut (leftOf b xs) = none) w := by
  intro l J W hW hJ hY h0
  refine callsIn_of_wp Try.func103 rfl trivial ?_ rfl
  simp only [Try.ntmps103, List.size_toArray, List.length_cons, List.length_nil, Nat.reduceAdd, Nat.reduceSub, Array.replicate_succ, Array.replicate_zero, List.push_toArray, List.append_toArray, List.nil_append, List.cons_append]
  gi_wp2
  gi_loopw [3] (fun _ wr => ∃ (pre : List Piece) (v : Value), Boxed wr Bn 22 v ∧ Bs w0 v (leftOf b pre) ∧ (leftOf b pre).length ≤ 1000000 ∧ Below w0.heap.size w0 wr ∧ J pre wr)
    (fun _ wr => lenAt Bn wr)
  case atStart =>
    exact ⟨[], v0, hW.2.trans hc, hv, hlen, hw.trans hW.1, h0⟩
  case round =>
    obtain ⟨pre, v, hcell, hbs, hl, hbl, hJs⟩ := hrel
    obtain ⟨a, cap, rfl, hlc, hnc, hrb⟩ := hbs
    have hcl := hcell.cell
    have HL := Lib.hid (show lenAt Bn wr = (leftOf b pre).length by unfold lenAt; rw [hcl])
    have HB := Lib.hid hbl
    have HR := Lib.hid hrb
    clear hbl hrb
    gi_wp2_with fail
    refine ⟨trivial, fun h => (by cases h), (callsIn_wide.2 (cut_any (leftOf b pre) a cap wr hlc hl (HR.out.below HB.out))).mono ?_⟩
    rintro en w1 ⟨hb1, ⟨e, v1, v2, rfl⟩ | ⟨h, r, v1, v2, e, rfl, hpp⟩⟩
    · have E := Lib.hid e
      clear e
      have hJ1 := hJ _ _ _ none hJs (grown_below hb1) (fun r e => by cases e)
      gi_wp2
      refine ⟨fun _ h => (by cases h), ?_⟩
      gi_wp2
      refine bodyPost_ret (results_none rfl _ _ _) rfl ?_
      exact ⟨⟨_, rfl⟩, pre, E.out, hJ1⟩
    · obtain ⟨p1, p2⟩ := hpp w0 HR.out
      have hJ1 := hJ _ _ _ none hJs (grown_below hb1) (fun r e => by cases e)
      have hcs := Lib.hid (cut_some e).2.2
      obtain ⟨fn, tmps, assign, body, hy, hRd⟩ := hY pre ⟨h, r, v1, v2⟩ w1 hJ1 ⟨e, p1, p2⟩
      have hbx := hcell.kept (grown_below hb1) (by simp)
      have E := Lib.hid e
      have P2 := Lib.hid p2
      clear e
      obtain ⟨a2, cap2, rfl, q1, q2, q3⟩ := p2
      dsimp only [Piece.enc] at hy
      gi_wp2
      refine ⟨fun h => (by cases h), hRd.mono ?_⟩
      rintro e W' ⟨rfl, hJ3, hk3⟩
      have hbx3 : Boxed W' Bn 22 _ := hk3.2.trans hbx
      have hc3 := hbx3.cell
      have hf3 := hbx3.frozen
      gi_wp2
      go_roundw
      case rel =>
        refine ⟨pre ++ [⟨h, r, v1, .slice a2 r.length cap2⟩], _, hbx3.set _, by rw [leftOf_snoc]; exact P2.out, by rw [leftOf_snoc]; have := hcs.out; show r.length ≤ _; omega, ?_, ?_⟩
        · exact ((HB.out.trans (hb1.mono HB.out.size)).trans hk3.1).setCell (p := ⟨Bn, 0, none⟩) hBn _
        · exact hJ _ _ _ (some Bn) hJ3 (grownBy_setCell' _ _ _) (fun r e => by cases e; rfl)
      case measure =>
        have := hcs.out
        rw [HL.out]
        unfold lenAt
        rw [(hbx3.set _).cell]
        show r.length < _
        omega
end Go.Proofs.Ytopemjbakpahfaa
/-
  What one round of All leaves: the boxes, the row of rows. It speaks of no program's text. No condition.
-/
namespace Go.Proofs.Ytopemjbakpahfaa
open Go.RowKit Crc
/-- The row lies in a block of cells of this type. -/
def RowOf (A : World) (row : Option Nat) (t : TypeId) : Prop := ∀ r, row = some r → ∃ (cs : Array Value) (fr : Nat × Nat), A.heap[r]? = some (.cells cs t fr)
theorem rowOf_owns {A : World} {base n s : Nat} {t : TypeId} {v : Value} {xs : List Value} (h : A.ownsRow base t s v n xs) : RowOf A v.ownBlock t := by
  intro r hr
  rcases h.2 with ⟨rfl, _⟩ | ⟨g, cap, cur, rfl, _, hg, _⟩
  · simp [Value.ownBlock] at hr
  · obtain rfl : g = r := by simpa [Value.ownBlock] using hr
    exact ⟨cur, _, hg⟩
theorem rowOf_box {A : World} {B : Nat} {t : TypeId} {v : Value} (h : Boxed A B t v) : RowOf A (some B) t := fun r e => by cases e; exact ⟨_, _, h⟩
theorem owns_other {A B : World} {base e n s : Nat} {t : TypeId} {u : Value} {xs : List Value} {row : Option Nat} (h : A.ownsRow base e s u n xs) (hg : A.grownBy B row) (hr : RowOf A row t) (hne : t ≠ e) : B.ownsRow base e s u n xs := by
  refine h.kept hg ?_
  rcases h.2 with ⟨rfl, _⟩ | ⟨g, cap, cur, rfl, hb, hgb, _⟩
  · exact .inl rfl
  · refine .inr fun e' => ?_
    obtain ⟨cs, fr, h1⟩ := hr g (by rw [← e']; rfl)
    rw [hgb] at h1; cases h1; exact hne rfl
theorem box_other {A B : World} {k : Nat} {e t : TypeId} {v : Value} {row : Option Nat} (h : Boxed A k e v) (hg : A.grownBy B row) (hr : RowOf A row t) (hne : t ≠ e) : Boxed B k e v := by
  refine h.kept hg fun e' => ?_
  obtain ⟨cs, fr, h1⟩ := hr k e'.symm
  have h2 : A.heap[k]? = _ := h
  rw [h2] at h1; cases h1; exact hne rfl
theorem keepsOthers_row {A B : World} {t : TypeId} {row : Option Nat} (hg : A.grownBy B row) (hr : RowOf A row t) : KeepsOthers A B :=
  KeepsOthers.of_grownBy hg fun j o e hj => by
    obtain ⟨cs, fr, h1⟩ := hr j e
    rw [h1] at hj; cases hj; rfl
theorem box_at {A B : World} {k base : Nat} {e t : TypeId} {v u : Value} {n s : Nat} {xs : List Value} (h : Boxed A k e v) (hr : A.ownsRow base t s u n xs) (hg : A.grownBy B u.ownBlock) (hk : k < base) : Boxed B k e v :=
  h.kept hg fun e' => by have := (hr.lt k e'.symm).1; omega
theorem row_snoc {W : World} {base base' : Nat} {vs : List Value} {L : List (List UInt8)} {u : Value} {x : List UInt8} (hl : vs.length = L.length)
    (h : ∀ (i : Nat) (u : Value) (l : List UInt8), vs[i]? = some u → L[i]? = some l → W.ownsRow base' 5 1 u l.length (l.map byteV)) (hu : W.ownsRow base 5 1 u x.length (x.map byteV)) (hb : base' ≤ base) :
    ∀ (i : Nat) (u' : Value) (l : List UInt8), (vs ++ [u])[i]? = some u' → (L ++ [x])[i]? = some l → W.ownsRow base' 5 1 u' l.length (l.map byteV) := by
  intro i u' l h1 h2
  rcases Nat.lt_or_ge i vs.length with hi | hi
  · rw [List.getElem?_append_left hi] at h1
    rw [List.getElem?_append_left (by omega)] at h2
    exact h i u' l h1 h2
  · rw [List.getElem?_append_right hi] at h1
    rw [List.getElem?_append_right (by omega)] at h2
    have h3 : i - vs.length = 0 := by
      rcases Nat.eq_zero_or_pos (i - vs.length) with h3 | h3
      · exact h3
      · rw [List.getElem?_eq_none (by simp; omega)] at h1; cases h1
    rw [h3] at h1
    rw [← hl, h3] at h2
    simp at h1 h2
    subst h1 h2
    exact ownsRow_base hu hb
theorem RB.drew {w : World} {a : Option Addr} {l : List UInt8} (h : RB w a l) : RB w.drew a l := h.below ((Below.refl _ w).drew)
theorem allF_len : ∀ (k : Nat) (b : List UInt8), (allF k b).1.length ≤ b.length := by
  intro k
  induction k with
  | zero => intro b; simp [allF]
  | succ k ih =>
    intro b
    unfold allF
    split
    · simp
    · rename_i h r e
      have := (cut_some e).2.2
      have := ih r
      simp only [List.length_cons]
      omega
theorem all_len (b : List UInt8) : (all b).1.length ≤ b.length := allF_len _ b
/-- append to a row of the call's own, as one step of a region whose order is drawn. -/
theorem step_append_own {F : Fence} {n : Nat} {P : Program} (w : World) {o : Oper} {a : Act} {K : Act → World → Prop} {Q : Exit → Act → World → Prop}
    (s x : Operand) (t : TypeId) (hop : o.op = Op.call { callee := Callee.builtin Builtin.append, args := #[s, x], argTypes := #[t, t] })
    (base : Nat) (e : TypeId) (i : TypeInfo) (z : Value) (size bytes : Nat) (h1 : P.underlying t = some (.slice e)) (h2 : P.info? e = some i) (h3 : i.zero = some z) (h4 : i.size = size) (h5 : i.bytes = bytes) (h6 : z.cells.size = size) (h7 : 0 < size)
    (v : Value) (k : Nat) (xs : List Value) (hs : a.eval s = v) (hown : w.ownsRow base e size v k xs) (ad : Addr) (m c : Nat) (news : List Value) (hx : a.eval x = .slice (some ad) m c) (hn : news.length = m * size)
    (hc : ∀ j u, news[j]? = some u → w.cell? (ad.add j) = some u) (h1c : ∀ u ∈ news, u.oneCell' = true) (b1 : k + m ≤ maxLen) (b2 : (k + m) * bytes ≤ 140737488355328) (b3 : base ≤ w.heap.size)
    (hK : ∀ v' w', w'.ownsRow base e size v' (k + m) (xs ++ news) → w.grownBy w' v.ownBlock → (v' = .slice none 0 0 ↔ v = .slice none 0 0 ∧ m = 0) → K (a.put o.dst v') w') :
    o.wpIn F n P a w K Q := by
  obtain ⟨v', w', hrun, r1, r2, r3⟩ := run_append_own (P := P) w base t o.type e i z size bytes h1 h2 h3 h4 h5 h6 h7 v k xs hown ad m c news hn hc h1c b1 b2 b3
  unfold Oper.wpIn
  refine ⟨by simp [Oper.about, hop, resolve, Target.leads, Sem.run_pure], ?_⟩
  rw [Oper.semAt_plain F _ _ (by rw [hop]; intro c hc'; cases hc')]
  simp [execOp, hop, resolve, invoke, builtin, hs, hx, hrun, Result.andThen]
  exact hK v' w' r1 r2 r3
end Go.Proofs.Ytopemjbakpahfaa
/-
  The contract of All: what all frames hold, for all bytes.
-/
namespace Go.Proofs.Ytopemjbakpahfaa
open Go.RowKit Crc
attribute [local go_sem] Oper.semAt_some
theorem frames_any (v : Value) (w : World) (a : Option Addr) (n c : Nat) (hv : v = .slice a n c) : Calls Try.prog 91 #[v] w fun en w' => en = .returned (.func (.func 103) #[] #[.pointer (some ⟨w.heap.size, 0, none⟩)]) ∧ w' = w.alloc (.cells #[v] 22) := by
  subst hv
  go_enter Try.func91, Try.ntmps91
  go_wp2
  go_ret
  exact ⟨rfl, rfl⟩
theorem info22 : (Try.prog.info? 22).map (fun i => (i.zero, i.size, i.bytes)) = some (some (.slice none 0 0), 1, 24) := by kernel_rfl
/-- The lists that All hands back: new memory. -/
def RowsOf (W : World) (base : Nat) (v : Value) (L : List (List UInt8)) : Prop :=
  ∃ vs : List Value, W.ownsRow base 22 1 v vs.length vs ∧ vs.length = L.length ∧ ∀ (i : Nat) (u : Value) (l : List UInt8), vs[i]? = some u → L[i]? = some l → W.ownsRow base 5 1 u l.length (l.map byteV)
def AllOf (b : List UInt8) (w : World) (en : Ending) (w' : World) : Prop :=
  Below w.heap.size w w' ∧ ∃ v, en = .returned (.tuple #[v, .int .i64 ((all b).2 : Int)]) ∧ RowsOf w' w.heap.size v (all b).1
def AllI (b : List UInt8) (w0 : World) (v0 : Value) (pre : List Piece) (W : World) : Prop :=
  Boxed W w0.heap.size 22 v0 ∧ (∃ v, Boxed W (w0.heap.size + 1) 56 v ∧ RowsOf W (w0.heap.size + 4) v (pre.map Piece.h)) ∧
  Boxed W (w0.heap.size + 2) 3 (.int .i64 ((b.length : Int) - ((leftOf b pre).length : Int))) ∧ w0.heap.size + 4 ≤ W.heap.size ∧ Below w0.heap.size w0 W ∧
  (leftOf b pre).length ≤ b.length ∧ all b = (pre.map Piece.h ++ (all (leftOf b pre)).1, b.length - (leftOf b pre).length + (all (leftOf b pre)).2)
theorem owns_grown {A B : World} {base e n : Nat} {v : Value} {xs : List Value} {row : Option Nat} (h : A.ownsRow base e 1 v n xs) (hg : A.grownBy B row) (hr : ∀ r, row = some r → r < base ∨ ∃ o : Obj, A.heap[r]? = some o ∧ o.isCells = false) : B.ownsRow base e 1 v n xs := by
  refine h.kept hg ?_
  rcases h.2 with ⟨rfl, _⟩ | ⟨g, cap, cur, rfl, hb, hgb, _⟩
  · exact .inl rfl
  · refine .inr fun e' => ?_
    obtain h1 | ⟨o, h1, h2⟩ := hr g (by rw [← e']; rfl)
    · omega
    · rw [hgb] at h1; cases h1; cases h2
theorem allI_own (b : List UInt8) (w0 : World) (v0 : Value) (s : List Piece) (A B : World) (row : Option Nat) (h : AllI b w0 v0 s A) (hg : A.grownBy B row)
    (hr : ∀ r, row = some r → r = w0.heap.size + 3 ∨ (w0.heap.size + 4 ≤ r ∧ ∃ o : Obj, A.heap[r]? = some o ∧ o.isCells = false)) : AllI b w0 v0 s B := by
  obtain ⟨h1, ⟨v, h2, vs, h3, h4, h5⟩, h6, h7, h8, h9⟩ := h
  have ne : ∀ k, k < w0.heap.size + 3 → some k ≠ row := fun k hk e => by have := hr k e.symm; omega
  have ro : ∀ r, row = some r → r < w0.heap.size + 4 ∨ ∃ o : Obj, A.heap[r]? = some o ∧ o.isCells = false := fun r e => (hr r e).elim (fun h => .inl (by omega)) (fun h => .inr h.2)
  exact ⟨h1.kept hg (ne _ (by omega)), ⟨v, h2.kept hg (ne _ (by omega)), vs, owns_grown h3 hg ro, h4, fun i u l e1 e2 => owns_grown (h5 i u l e1 e2) hg ro⟩, h6.kept hg (ne _ (by omega)), Nat.le_trans h7 hg.size,
    h8.grown hg h8.size (fun k e => by have := hr k e; omega), h9⟩
def AllRound (b : List UInt8) (w0 : World) (v0 : Value) (pre : List Piece) (x : Piece) (W W' : World) : Prop :=
  KeepsOthers W W' ∧ Keep w0.heap.size (w0.heap.size + 3) W W' ∧ AllI b w0 v0 (pre ++ [x]) W'
theorem all_round (b : List UInt8) (w0 : World) (v0 : Value) (pre : List Piece) (x : Piece) (W A w1 : World) (vo v' vc nv : Value) (vs : List Value)
    (hI1 : Boxed W w0.heap.size 22 v0) (hvo : Boxed W (w0.heap.size + 1) 56 vo) (hrow : W.ownsRow (w0.heap.size + 4) 22 1 vo vs.length vs) (hrl : vs.length = (pre.map Piece.h).length)
    (hrs : ∀ (i : Nat) (u : Value) (l : List UInt8), vs[i]? = some u → (pre.map Piece.h)[i]? = some l → W.ownsRow (w0.heap.size + 4) 5 1 u l.length (l.map byteV))
    (hI3 : Boxed W (w0.heap.size + 2) 3 nv) (hI4 : w0.heap.size + 4 ≤ W.heap.size) (hI5 : Below w0.heap.size w0 W)
    (hI6 : (leftOf b pre).length ≤ b.length) (hI7 : all b = (pre.map Piece.h ++ (all (leftOf b pre)).1, b.length - (leftOf b pre).length + (all (leftOf b pre)).2))
    (g1 : cut (leftOf b pre) = some (x.h, x.r)) (hA : Below W.heap.size W A) (oc : A.ownsRow W.heap.size 5 1 vc x.h.length (x.h.map byteV))
    (hown : w1.ownsRow (w0.heap.size + 4) 22 1 v' (vs.length + 1) (vs ++ [vc])) (hgrow : A.grownBy w1 vo.ownBlock) :
    (Boxed w1 (w0.heap.size + 1) 56 vo ∧ Boxed (w1.setCell ⟨w0.heap.size + 1, 0, none⟩ v') w0.heap.size 22 v0 ∧ Boxed (w1.setCell ⟨w0.heap.size + 1, 0, none⟩ v') (w0.heap.size + 2) 3 nv) ∧
    AllRound b w0 v0 pre x W ((w1.setCell ⟨w0.heap.size + 1, 0, none⟩ v').setCell ⟨w0.heap.size + 2, 0, none⟩ (.int .i64 ((b.length : Int) - (x.r.length : Int)))) := by
  have gA := grown_below hA
  have nn : ∀ k : Nat, some k ≠ (none : Option Nat) := fun k e => by cases e
  have rn : RowOf W none 22 := fun r e => by cases e
  have hrowA := owns_below hrow hA
  have ra := rowOf_owns hrowA
  have b1 := box_at (hI1.kept gA (nn _)) hrowA hgrow (by omega)
  have b2 := box_at (hvo.kept gA (nn _)) hrowA hgrow (by omega)
  have b3 := box_at (hI3.kept gA (nn _)) hrowA hgrow (by omega)
  have b1' := b1.other (B' := w0.heap.size + 1) (by omega) v'
  have b2' := b2.set v'
  have b3' := b3.other (B' := w0.heap.size + 1) (by omega) v'
  refine ⟨⟨b2, b1', b3'⟩, ?_, ?_, ?_⟩
  · exact (((keepsOthers_row gA rn).trans (keepsOthers_row hgrow ra)).trans (KeepsOthers.setCell _ _ _)).trans (KeepsOthers.setCell _ _ _)
  · refine ⟨?_, ?_⟩
    · exact (((hA.mono (by omega)).grown hgrow (by have := hA.size; omega) (fun k hk => by have := (hrowA.lt k hk).1; omega)).setCell (p := ⟨w0.heap.size + 1, 0, none⟩) (by simp) _).setCell (p := ⟨w0.heap.size + 2, 0, none⟩) (by simp) _
    · rw [Below.heap_setCell _ _ _ _ (by simp), Below.heap_setCell _ _ _ _ (by simp)]
      have h1 := hgrow.block (w0.heap.size + 3) (by have := hA.size; omega) (fun e => by have := (hrowA.lt _ e.symm).1; omega)
      rw [h1]
      exact hA.block _ (by omega)
  · have o1 := owns_other hown (grownBy_setCell' w1 (w0.heap.size + 1) v') (rowOf_box b2) (by decide)
    have o2 := owns_other o1 (grownBy_setCell' _ (w0.heap.size + 2) (.int .i64 ((b.length : Int) - (x.r.length : Int)))) (rowOf_box b3') (by decide)
    have each : ∀ {u : Value} {l : List UInt8} {base : Nat}, A.ownsRow base 5 1 u l.length (l.map byteV) → ((w1.setCell ⟨w0.heap.size + 1, 0, none⟩ v').setCell ⟨w0.heap.size + 2, 0, none⟩ (.int .i64 ((b.length : Int) - (x.r.length : Int)))).ownsRow base 5 1 u l.length (l.map byteV) := fun h =>
      owns_other (owns_other (owns_other h hgrow ra (by decide)) (grownBy_setCell' w1 (w0.heap.size + 1) v') (rowOf_box b2) (by decide)) (grownBy_setCell' _ (w0.heap.size + 2) (.int .i64 ((b.length : Int) - (x.r.length : Int)))) (rowOf_box b3') (by decide)
    refine ⟨b1'.other (by omega) _, ⟨v', b2'.other (by omega) _, vs ++ [vc], by simpa using o2, by simp [hrl], ?_⟩, ?_, ?_, ?_, ?_, ?_⟩
    · rw [List.map_append, List.map_cons, List.map_nil]
      exact row_snoc hrl (fun i u l e1 e2 => each (owns_below (hrs i u l e1 e2) hA)) (each oc) hI4
    · rw [leftOf_snoc]; exact b3'.set _
    · have := hA.size; have := hgrow.size; simp; omega
    · exact ((((hI5.trans (hA.mono (by omega)))).grown hgrow (by have := hA.size; omega) (fun k hk => by have := (hrowA.lt k hk).1; omega)).setCell (p := ⟨w0.heap.size + 1, 0, none⟩) (by simp) _).setCell (p := ⟨w0.heap.size + 2, 0, none⟩) (by simp) _
    · rw [leftOf_snoc]; have := (cut_some g1).2.2; omega
    · rw [leftOf_snoc, hI7, all_some g1]
      have := (cut_some g1).2.2
      simp only [Prod.mk.injEq, List.map_append, List.map_cons, List.map_nil, List.append_assoc, List.cons_append, List.nil_append, true_and]
      omega
set_option maxRecDepth 100000 in
set_option maxHeartbeats 2000000 in
theorem All_any (b : List UInt8) (a : Option Addr) (cap : Nat) (w : World) (hc : b.length ≤ cap) (hb : b.length ≤ 1000000) (hn : a = none → cap = 0) (hr : RB w a b) : Calls Try.prog 46 #[.slice a b.length cap] w (AllOf b w) := by
  refine (callsIn_wide (n := 3)).1 ?_
  refine callsIn_of_wp_marks Try.func46 rfl trivial ?_ rfl
  simp only [Try.ntmps46, List.size_toArray, List.length_cons, List.length_nil, Nat.reduceAdd, Nat.reduceSub, Array.replicate_succ, Array.replicate_zero, List.push_toArray, List.append_toArray, List.nil_append, List.cons_append]
  have HR := Lib.hid hr
  clear hr
  gi_wp2_with fail
  refine ⟨trivial, (callsIn_wide.2 (frames_any _ _ a b.length cap rfl)).mono ?_⟩
  rintro en w1 ⟨rfl, rfl⟩
  gi_wp2_with fail
  obtain ⟨W0, hW0⟩ : ∃ W0, (((w.alloc (Obj.cells #[Value.slice a b.length cap] 22)).alloc (Obj.cells #[Value.slice none 0 0] 56)).alloc (Obj.cells #[Value.int IntKind.i64 0] 3)).alloc (Obj.cells #[Value.slice a b.length cap] 22) = W0 := ⟨_, rfl⟩
  have hsz : W0.heap.size = w.heap.size + 4 := by rw [← hW0]; simp
  have hI0 : AllI b w (.slice a b.length cap) [] W0 := by
    rw [← hW0]
    refine ⟨(((Boxed.new w 22 _).alloc _).alloc _).alloc _, ⟨.slice none 0 0, ?_, [], World.ownsRow_nil _ _ _ _, rfl, fun i u l h => (by simp at h)⟩, ?_, by simp, ?_, by simp [leftOf], by simp [leftOf]⟩
    · have := ((Boxed.new (w.alloc (Obj.cells #[Value.slice a b.length cap] 22)) 56 (.slice none 0 0)).alloc (Obj.cells #[Value.int IntKind.i64 0] 3)).alloc (Obj.cells #[Value.slice a b.length cap] 22)
      simpa only [World.size_alloc] using this
    · have := (Boxed.new ((w.alloc (Obj.cells #[Value.slice a b.length cap] 22)).alloc (Obj.cells #[Value.slice none 0 0] 56)) 3 (.int .i64 0)).alloc (Obj.cells #[Value.slice a b.length cap] 22)
      simpa [leftOf] using this
    · exact ((((Below.refl _ w).alloc (Nat.le_refl _) _).alloc (by simp) _).alloc (by simp; omega) _).alloc (by simp; omega) _
  have hBx : Boxed W0 (w.heap.size + 3) 22 (.slice a b.length cap) := by
    rw [← hW0]
    have := Boxed.new (((w.alloc (Obj.cells #[Value.slice a b.length cap] 22)).alloc (Obj.cells #[Value.slice none 0 0] 56)).alloc (Obj.cells #[Value.int IntKind.i64 0] 3)) 22 (.slice a b.length cap)
    simp only [World.size_alloc, Nat.add_assoc, Nat.reduceAdd] at this
    exact this
  simp only [Nat.add_assoc, Nat.reduceAdd]
  rw [hW0]
  refine range_cell rfl (by omega) (gf := 103) (lb := #[.pointer (some ⟨w.heap.size + 3, 0, none⟩)]) rfl trivial (enters_of Try.func103 (by kernel_rfl) rfl) (n₀ := w.heap.size) (Bn := w.heap.size + 3) (by omega) (by omega)
    (frames1_in b hb w W0 (w.heap.size + 3) _ (by omega) hI0.2.2.2.2.1 _ hBx ⟨a, cap, rfl, hc, hn, HR.out⟩) (fun _ => rfl)
    (AllI b w (.slice a b.length cap)) (fun s A B row h hg hr => allI_own b w _ s A B row h hg (fun r e => (hr r e).elim .inl (fun h => .inr ⟨by omega, h.2⟩))) hI0
    (fun x => { tmps := #[.slice a b.length cap, .pointer (some ⟨w.heap.size, 0, none⟩), .slice none 0 0, .int .i64 0, .pointer (some ⟨w.heap.size + 1, 0, none⟩), .pointer (some ⟨w.heap.size + 2, 0, none⟩), x.v1, x.v2, .slice a b.length cap, .func (.func 103) #[] #[.pointer (some ⟨w.heap.size + 3, 0, none⟩)], x.v1, x.v2, undef, undef, undef, undef, undef, undef, undef, undef, undef, undef, undef, undef], defers := [] }) ?assign ?body ?done
  case assign =>
    rintro l ⟨h, r, v1, v2⟩ W K hK
    dsimp only [Piece.enc] at hK ⊢
    gi_wp2
    exact hK
  case body =>
    obtain ⟨i0, hi, hz0, hz1, hz2⟩ := info_parts info22
    rintro l pre ⟨h, r, v1, v2⟩ W ⟨hI1, ⟨vo, hvo, vs, hrow, hrl, hrs⟩, hI3, hI4, hI5, hI6, hI7⟩ ⟨g1, g2, g3⟩ hsz2
    dsimp only at g1 g2 g3
    obtain ⟨c1, k1, rfl, q1, q2, q3⟩ := g2
    obtain ⟨c2, k2, rfl, q4, q5, q6⟩ := g3
    dsimp only
    have Q3 := Lib.hid (q3.below hI5)
    have G1 := Lib.hid g1
    have hh := (cut_some g1).1
    have hlen := (cut_some g1).2.2
    have hvl : vs.length ≤ 1000000 := by
      have h1 := all_len b
      rw [hI7] at h1
      simp at h1 hrl
      omega
    have hvd := hvo.kept (grown_below ((Below.refl _ W).drew)) (by simp)
    have hrd := owns_below hrow ((Below.refl _ W).drew)
    have hcd := hvd.cell
    have hfd := hvd.frozen
    have HRL := Lib.hid hrl
    clear q3 q6 g1 hrl
    gi_wp2
    have hm : Try.prog.follows .mixedOrders = true := by kernel_rfl
    refine wpIn_region_any hm ?_
    change wpAnyIn _ _ _ _ _ _ _ _ _ (World.drew _)
    repeat' (first
      | refine wpAnyIn_done (by decide +kernel) ?_ _
      | (refine wpAnyIn_ready (rs := [0, 1]) (by decide +kernel) (by simp) ?_; refine AllReadyIn.cons rfl (fun K hK => ?_) (AllReadyIn.cons rfl (fun K hK => ?_) AllReadyIn.nil))
      | (refine wpAnyIn_ready (rs := [0, 2]) (by decide +kernel) (by simp) ?_; refine AllReadyIn.cons rfl (fun K hK => ?_) (AllReadyIn.cons rfl (fun K hK => ?_) AllReadyIn.nil))
      | (refine wpAnyIn_ready (rs := [0, 3]) (by decide +kernel) (by simp) ?_; refine AllReadyIn.cons rfl (fun K hK => ?_) (AllReadyIn.cons rfl (fun K hK => ?_) AllReadyIn.nil))
      | (refine wpAnyIn_ready (rs := [0]) (by decide +kernel) (by simp) ?_; refine AllReadyIn.cons rfl (fun K hK => ?_) AllReadyIn.nil)
      | (refine wpAnyIn_ready (rs := [1]) (by decide +kernel) (by simp) ?_; refine AllReadyIn.cons rfl (fun K hK => ?_) AllReadyIn.nil)
      | (refine wpAnyIn_ready (rs := [2]) (by decide +kernel) (by simp) ?_; refine AllReadyIn.cons rfl (fun K hK => ?_) AllReadyIn.nil)
      | (refine wpAnyIn_ready (rs := [3]) (by decide +kernel) (by simp) ?_; refine AllReadyIn.cons rfl (fun K hK => ?_) AllReadyIn.nil)
      | (refine wpAnyIn_ready (rs := [4]) (by decide +kernel) (by simp) ?_; refine AllReadyIn.cons rfl (fun K hK => ?_) AllReadyIn.nil)
      | (refine wpAnyIn_ready (rs := [5]) (by decide +kernel) (by simp) ?_; refine AllReadyIn.cons rfl (fun K hK => ?_) AllReadyIn.nil)
      | (refine step_append_own _ (.tmp 12) (.tmp 15) 56 rfl (w.heap.size + 4) 22 i0 (.slice none 0 0) 1 24 Try.underlying56 hi hz0 hz1 hz2 rfl (by decide) _ _ _ rfl (hrow2.alloc _) ⟨w2.heap.size, 0, none⟩ 1 1 [_] rfl rfl (cell_one_new _ _ _) (by simp [Value.oneCell']) (by unfold maxLen; omega) (by omega) (by have := bc.size; simp at this ⊢; omega) ?_; intro v' w1 hown' hgrow _; obtain ⟨g', cap', rfl⟩ := ownsRow_succ hown'; have hv3 := box_at (hv2.alloc _) (hrow2.alloc _) hgrow (by omega); have hc3 := hv3.cell; have hf3 := hv3.frozen; refine hK _ _ ?_; clear hK K; go_simp)
      | (go_simp; refine ⟨trivial, (CallsIn.inRound l (callsIn_wide.2 (clone_any h c1 k1 _ (by omega) q1 q2 Q3.out.drew))).mono ?_⟩; rintro e w2 ⟨vc, rfl, oc, bc⟩; obtain ⟨ac, capc, rfl, _, _, _⟩ := RB.of_owns oc; have hv2 := hvd.kept (grown_below bc) (by simp); have hc2 := hv2.cell; have hf2 := hv2.frozen; have hrow2 := owns_below hrd bc; have hc2a := (hv2.alloc (.cells #[.slice ac h.length capc] 22)).cell; refine hK _ _ ?_; clear hK K)
      | (go_simp; refine hK _ _ ?_; clear hK K))
    all_goals
      have hA : Below W.heap.size W (w2.alloc (.cells #[.slice ac h.length capc] 22)) := ((Below.refl _ W).drew.trans bc).alloc (by have := bc.size; simpa using this) _
      have R := all_round b w (.slice a b.length cap) pre ⟨h, r, .slice c1 h.length k1, .slice c2 r.length k2⟩ W _ w1 vo _ _ _ vs hI1 hvo hrow HRL.out hrs hI3 hI4 hI5 hI6 hI7 G1.out hA (oc.alloc _) hown' hgrow
      obtain ⟨⟨_, hb1, hb3⟩, hR⟩ := R
      have e1 := hb1.cell
      have e3 := hb3.cell
      have e3f := hb3.frozen
      have HR2 := Lib.hid hR
      clear hR hA
      gi_wp2
      exact ⟨HR2.out.1.from _, HR2.out.2.1, HR2.out.2.2⟩
  case done =>
    rintro xs W hS ⟨hI1, ⟨vo, hvo, vs, hrow, hrl, hrs⟩, hI3, hI4, hI5, hI6, hI7⟩ hK
    gi_wp2
    have hm : Try.prog.follows .mixedOrders = true := by kernel_rfl
    have hvd := hvo.kept (grown_below ((Below.refl _ W).drew)) (by simp)
    have hcd := hvd.cell
    have hnd := (hI3.kept (grown_below ((Below.refl _ W).drew)) (by simp)).cell
    gi_region
    have hKd : W.drew.heap[W0.heap.size]? = some (.deferred (some [])) := hK
    have hrd := owns_below hrow ((Below.refl _ W).drew)
    have hBd : Below w.heap.size w (W.drew.putObj W0.heap.size (.deferred none)) := hI5.drew.trans (below_put _ (by omega) hKd)
    have HI := Lib.hid hI7
    clear hI7
    all_goals gi_wp2
    all_goals refine ⟨by simp, .inl ⟨_, _, rfl, run_takeDeferred hKd, ?_⟩⟩
    all_goals refine ⟨.tuple #[vo, .int .i64 ((b.length : Int) - ((leftOf b xs).length : Int))], by simp [results, Try.results46, go_sem], ?_⟩
    all_goals
      have h1 := HI.out
      rw [all_none hS] at h1
      simp only [List.append_nil, Nat.add_zero] at h1
      refine ⟨hBd, vo, ?_, vs, ownsRow_base (ownsRow_putObj hrd _ hKd rfl) (by omega), ?_, ?_⟩
      · have h2 : ((b.length - (leftOf b xs).length : Nat) : Int) = (b.length : Int) - ((leftOf b xs).length : Int) := by omega
        rw [h1, h2]
      · rw [h1]; exact hrl
      · rw [h1]
        intro i u l e1 e2
        exact ownsRow_base (ownsRow_putObj (owns_below (hrs i u l e1 e2) ((Below.refl _ W).drew)) _ hKd rfl) (by omega)
end Go.Proofs.Ytopemjbakpahfaa
/-
  The small case of the statements on sums comes out right. No condition.
-/
namespace Go.Proofs.Ytopemjbakpahfaa
open Go.RowKit Crc
theorem Bs.of_owns {w : World} {base n : Nat} {v : Value} {l : List UInt8} (h : w.ownsRow base 5 1 v n (l.map byteV)) : ∃ a cap, v = .slice a l.length cap ∧ l.length ≤ cap ∧ (a = none → cap = 0 ∧ l = []) ∧ RB w a l := by
  obtain ⟨a, cap, e, h1, h2, h3⟩ := RB.of_owns h
  exact ⟨a, cap, e, h1, fun e => ⟨h2 e, List.eq_nil_of_length_eq_zero (by have := h2 e; omega)⟩, h3⟩
def abc : List UInt8 := [97, 98, 99]
def nine : List UInt8 := [49, 50, 51, 52, 53, 54, 55, 56, 57]
theorem sum_nine : (sum nine).toNat = 3421780262 := by decide +kernel
theorem sum_nil : (sum []).toNat = 0 := by decide +kernel
theorem cut_bad : cut [0, 0, 1, 2, 3, 4] = none := by decide +kernel
theorem cut_abc : cut (frame abc ++ [7]) = some (abc, [7]) := cut_frame [7] (by decide)
theorem all_abc : all (frame abc ++ frame abc) = ([abc, abc], 18) := by
  have h := all_join [abc, abc] (frame abc ++ frame abc) [] (by simp [join, abc])
  have h0 : all [] = ([], 0) := all_none (by decide +kernel)
  rw [List.append_nil, h0] at h
  rw [h]
  rfl
theorem str_lit (l : List UInt8) (w : World) (base n : Nat) (v : Value) (h : w.ownsRow base 5 1 v n (l.map byteV)) : (convert 22 9 v).run Try.prog w = .ok (.string ⟨l.toArray⟩) w := conv_bs h
theorem Cut_at (b : List UInt8) (a : Option Addr) (len cap : Nat) (w : World) (hl : b.length = len) (hc : b.length ≤ cap) (hb : b.length ≤ 1000000) (hr : RB w a b) : Calls Try.prog 26 #[.slice a len cap] w (CutNew b w) := by
  subst hl; exact Cut_any b a cap w hc hb hr
theorem All_at (b : List UInt8) (a : Option Addr) (len cap : Nat) (w : World) (hl : b.length = len) (hc : b.length ≤ cap) (hb : b.length ≤ 1000000) (hn : a = none → cap = 0) (hr : RB w a b) : Calls Try.prog 46 #[.slice a len cap] w (AllOf b w) := by
  subst hl; exact All_any b a cap w hc hb hn hr
theorem frame_at (l : List UInt8) (a : Option Addr) (len cap : Nat) (w : World) (hlen : l.length = len) (hl : l.length ≤ 4096) (hc : l.length ≤ cap) (hn : a = none → cap = 0) (hr : RB w a l) : Calls Try.prog 24 #[.slice a len cap] w (Framed l w) := by
  subst hlen; exact frame_any l a cap w hl hc hn hr
set_option maxRecDepth 100000 in
set_option maxHeartbeats 2000000 in
theorem small_any (w : World) : Calls Try.prog 23 #[] w fun en w' => en = .returned (.bool true) ∧ Below w.heap.size w w' := by
  have kc := conv_const
  go_enter Try.func23, Try.ntmps23
  go_wp2_with fail
  refine (frame_any abc _ _ _ (by decide) (by decide) (fun e => by cases e) (RB.lit w abc _ _ _ rfl rfl)).mono ?_
  rintro en w1 ⟨v1, rfl, o1, b1⟩
  have B1 : Below w.heap.size w w1 := below_on (below_alloc w _) b1
  obtain ⟨a1, c1, rfl, l1, n1, r1⟩ := Bs.of_owns o1
  have R1 := Lib.hid r1
  clear b1 r1
  have S1 := B1.size
  go_wp2_with (first
    | (at_builtin; refine app_bytes rfl (.tmp 18) (.tmp 19) rfl w1.heap.size _ [] (frame abc) _ rfl (owns_bytes w1 [] _ _ _ rfl (Nat.le_refl _) rfl (by decide)) _ rfl n1 (R1.out.alloc _) (by decide) (by simp) ?_; intro v2 w2 o2 b2 _; have B2 := (below_alloc w1 _).trans b2; clear b2)
    | (at_builtin; refine app_bytes rfl (.tmp 20) (.tmp 21) rfl w1.heap.size _ (frame abc) [7] _ rfl (o2.alloc _) _ rfl (fun e => by cases e) (RB.lit w2 [7] _ _ _ rfl rfl) (by decide) (Nat.le_trans B2.size (by simp)) ?_; intro v3 w3 o3 b3 _; have B3 := (B2.alloc B2.size _).trans b3; obtain ⟨a3, c3, rfl, l3, n3, r3⟩ := Bs.of_owns o3; clear o3 b3 o2 B2))
  refine (Cut_at (frame abc ++ [7]) _ _ _ _ (by simp) l3 (by decide) r3).mono ?_
  rintro en w4 ⟨b4, ⟨e, _⟩ | ⟨h, r, v4, v5, e, rfl, o4, o5⟩⟩
  · rw [cut_abc] at e; cases e
  rw [cut_abc] at e
  obtain ⟨rfl, rfl⟩ : abc = h ∧ [7] = r := by simpa using e
  have B4 := below_on B3 b4
  have R4 := Lib.hid (R1.out.below B4)
  have S4 := B4.size
  clear e l3 n3 r3 b4 B3 R1
  go_wp2_with (first
    | (at_builtin; refine app_bytes rfl (.tmp 28) (.tmp 29) rfl w4.heap.size _ [] (frame abc) _ rfl (owns_bytes w4 [] _ _ _ rfl (Nat.le_refl _) rfl (by decide)) _ rfl n1 (R4.out.alloc _) (by decide) (by simp) ?_; intro v6 w6 o6 b6 _; have B6 := (below_alloc w4 _).trans b6; clear b6)
    | (at_builtin; refine app_bytes rfl (.tmp 30) (.tmp 31) rfl w4.heap.size _ (frame abc) (frame abc) _ rfl o6 _ rfl n1 (R4.out.below B6) (by decide) B6.size ?_; intro v7 w7 o7 b7 _; have B7 := B6.trans b7; obtain ⟨a7, c7, rfl, l7, n7, r7⟩ := Bs.of_owns o7; clear o6 b7 B6))
  refine (All_at (frame abc ++ frame abc) _ _ _ _ (by simp) l7 (by decide) (fun e => (n7 e).1) r7).mono ?_
  rintro en w8 ⟨b8, v8, rfl, vs, o8, hvl, _⟩
  rw [all_abc] at hvl ⊢
  have hv2 : vs.length = 2 := hvl
  rw [hv2] at o8
  obtain ⟨g8, c8, rfl⟩ := ownsRow_succ (k := 1) o8
  have B8 := below_on B7 b8
  have O4 := owns_below o4 B8
  have O5 := owns_below o5 B8
  have S8 := B8.size
  clear l7 n7 r7 b8 B7 hvl hv2 o8 o4 o5 R4
  go_wp2_with fail
  refine (Cut_at [0, 0, 1, 2, 3, 4] _ _ _ _ rfl (by decide) (by decide) (RB.lit w8 _ _ _ _ rfl rfl)).mono ?_
  rintro en w9 ⟨b9, ⟨_, rfl⟩ | ⟨h, r, v4, v5, e, _⟩⟩
  rotate_left
  · rw [cut_bad] at e; cases e
  have B9 := below_on (below_alloc w8 _) b9
  have P4 := owns_below O4 B9
  have P5 := owns_below O5 B9
  have S9 := B9.size
  clear O4 O5 b9
  go_wp2_with fail
  refine (sum_at nine _ _ _ _ rfl (by decide) (RB.lit w9 nine _ _ _ rfl rfl)).mono ?_
  rintro en w10 ⟨rfl, rfl⟩
  rw [sum_nine]
  have kA : (convert 22 9 v4).run Try.prog (w9.alloc (.cells (List.map byteV nine).toArray 5 (9, 10))) = .ok (.string ⟨#[97, 98, 99]⟩) _ := conv_bs (P4.alloc _)
  have kB : (convert 22 9 v5).run Try.prog (w9.alloc (.cells (List.map byteV nine).toArray 5 (9, 10))) = .ok (.string ⟨#[7]⟩) _ := conv_bs (P5.alloc _)
  have hfl : ((frame abc).length : Int) = 9 := by decide
  go_wp2_with fail
  refine (sum_at [] none 0 0 _ rfl (by decide) (RB.nil _ _)).mono ?_
  rintro en w10 ⟨rfl, rfl⟩
  rw [sum_nil]
  go_wp2
  go_ret
  exact ⟨rfl, (below_on (below_on (below_on B1 B4) B8) B9).alloc (by omega) _⟩
end Go.Proofs.Ytopemjbakpahfaa
/-
  CrcNext: the walk, for all bytes. No condition.
-/
namespace Go.Proofs.Ytopemjbakpahfaa
open Go.RowKit Crc
/-- The law returns true, and changes nothing that was there. -/
def Yes (W : World) (en : Ending) (w' : World) : Prop := en = .returned (.bool true) ∧ Below W.heap.size W w'
theorem xor8 (x y : UInt8) : bits .xor .u8 (x.toNat : Int) (y.toNat : Int) = ((x ^^^ y).toNat : Int) := by
  show IntKind.u8.wrap ((BitVec.ofInt 8 (x.toNat : Int) ^^^ BitVec.ofInt 8 (y.toNat : Int)).toNat : Int) = _
  have h : ∀ z : UInt8, BitVec.ofInt 8 (z.toNat : Int) = z.toBitVec := fun z => by
    apply BitVec.eq_of_toNat_eq
    have := UInt8.toNat_lt z
    simp
  rw [h, h, ← UInt8.toBitVec_xor]
  show IntKind.u8.wrap ((x ^^^ y).toNat : Int) = _
  have := UInt8.toNat_lt (x ^^^ y)
  exact IntWalk.u8_in _ (by omega)
set_option maxRecDepth 100000 in
set_option maxHeartbeats 1000000 in
theorem next_law (b : List UInt8) (a : Option Addr) (cap : Nat) (c d : W32) (x y : UInt8) (W : World) (hc : b.length ≤ cap) (hm : cap ≤ maxLen) (hr : RB W a b) :
    Calls Try.prog 5 #[.slice a b.length cap, .int .u32 (c.toNat : Int), .int .u32 (d.toNat : Int), .int .u8 (x.toNat : Int), .int .u8 (y.toNat : Int)] W (Yes W) := by
  have HR := Lib.hid hr
  clear hr
  unfold maxLen at hm
  have hb : (b.length : Int) ≤ 9223372036854775807 := by omega
  go_enter Try.func5, Try.ntmps5
  go_wp2_with fail
  refine (small_any _).mono ?_
  rintro en w1 ⟨rfl, B1⟩
  have R1 := Lib.hid (HR.out.below B1)
  clear HR
  by_cases hl : 2000 < (b.length : Int)
  · go_wp2
    go_ret
    exact ⟨rfl, B1⟩
  go_wp2_with fail
  go_loop [12, 13] (fun v i => ∃ k : Nat, i = .int .i64 k ∧ k ≤ b.length ∧ v = .int .u32 ((go (BitVec.allOnes 32) (b.take k)).toNat : Int)) (fun _ i => b.length - (intOf i).toNat)
  case atStart => exact ⟨0, rfl, by omega, rfl⟩
  case round =>
    obtain ⟨k, rfl, hk, rfl⟩ := hrel
    by_cases hlt : k < b.length
    · obtain ⟨g, off, rfl, _, hcell⟩ := R1.out k hlt
      have hs : Hid (go (BitVec.allOnes 32) (b.take (k + 1)) = next (go (BitVec.allOnes 32) (b.take k)) (b.getD k 0)) := by rw [take_snoc b k 0 hlt, go_snoc]; rfl
      generalize b.getD k 0 = z at hcell hs
      generalize go (BitVec.allOnes 32) (b.take k) = u at hs
      unfold byteV at hcell
      have hlt' : (k : Int) < (b.length : Int) := by omega
      have h0 : (0 : Int) ≤ (k : Int) := by omega
      go_wp2_with (go_at_call 30; refine (next_any _ _ _).mono ?_; rintro e w' ⟨rfl, rfl⟩)
      go_round
      case rel => exact ⟨k + 1, rfl, hlt, by rw [hs.out]⟩
      case measure => simp [intOf]; omega
    · have hkl : k = b.length := by omega
      have hs : Hid (sum b = ~~~ (go (BitVec.allOnes 32) (b.take k))) := by rw [hkl, List.take_length]; rfl
      generalize go (BitVec.allOnes 32) (b.take k) = u at hs
      have hn := Lib.hid (xor_ones u)
      have hu := u.isLt
      have hlt' : ¬ (k : Int) < (b.length : Int) := by omega
      clear hkl
      go_wp2_with fail
      refine (sum_any b a cap _ (by omega) R1.out).mono ?_
      rintro en w2 ⟨rfl, rfl⟩
      rw [hs.out, ← hn.out]
      go_wp2_with fail
      rw [bits_xor, xor8]
      refine (next_any _ _ _).mono ?_
      rintro en w3 ⟨rfl, rfl⟩
      rw [next_xor, ← bits_xor]
      go_wp2_with (go_at_call 30; refine (next_any _ _ _).mono ?_; rintro e w' ⟨rfl, rfl⟩)
      go_ret
      exact ⟨rfl, B1⟩
end Go.Proofs.Ytopemjbakpahfaa
