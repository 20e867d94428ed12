/-
  Contracts and plain laws, part 47 (texts: R7). No condition but what each states.
-/
import Derived.Test.YtopemjbakpahfaaSlotsPlaysC
/-
  The reference's store while it is opened. No condition.
-/
namespace Go.Proofs.Ytopemjbakpahfaa
open Go.RowKit Disk Jour Crc Slot
set_option linter.unusedSimpArgs false
set_option linter.unusedVariables false
def ROpenOf (w : World) (B : Nat) (r : Option St × Int) (en : Ending) (w' : World) : Prop :=
  Below w.heap.size w w' ∧ ((r.1 = none ∧ en = .returned (.tuple #[.pointer none, .int .i64 r.2])) ∨ ∃ s S, r = (some s, 0) ∧ en = .returned (.tuple #[.pointer (some ⟨S, 0, none⟩), .int .i64 0]) ∧ IsSr (fun k => w.heap.size ≤ k ∧ k < w'.heap.size) w' S B s)
theorem ROpenOf.none {w w' : World} {B : Nat} {r : Option St × Int} (e : Int) (h : r = (none, e)) (hb : Below w.heap.size w w') {v : Value} (hv : v = .tuple #[.pointer none, .int .i64 e]) : ROpenOf w B r (.returned v) w' := by
  subst h hv; exact ⟨hb, .inl ⟨rfl, rfl⟩⟩
def r0cells (B : Nat) (x0 x1 xl : Option Addr) : Array Value := #[.pointer (some ⟨B, 0, none⟩), .pointer x0, .pointer x1, .pointer xl, .int .i64 0, .int .i64 0, .int .i64 0, .int .i64 0, .slice none 0 0, .slice none 0 0, .bool false]
/-- The areas, while they are made. -/
structure RSlI (w : World) (S B N L : Nat) (k : Nat) (wr : World) : Prop where
  bl : Below w.heap.size w wr
  ls : w.heap.size ≤ S
  ex : ∃ x0 x1 xl : Option Addr, wr.heap[S]? = some (.cells (r0cells B x0 x1 xl) 141 (0, 0)) ∧ (1 ≤ k → ∃ A0, x0 = some ⟨A0, 0, none⟩ ∧ IsRArea wr A0 B 1 N ∧ w.heap.size ≤ A0) ∧ (2 ≤ k → ∃ A1, x1 = some ⟨A1, 0, none⟩ ∧ IsRArea wr A1 B (1 + N) N ∧ w.heap.size ≤ A1) ∧ (3 ≤ k → ∃ AL, xl = some ⟨AL, 0, none⟩ ∧ IsRArea wr AL B (1 + 2 * N) L ∧ w.heap.size ≤ AL)
theorem RSlI.start {w : World} {B N L : Nat} : RSlI w w.heap.size B N L 0 (w.alloc (.cells (r0cells B none none none) 141)) :=
  ⟨below_alloc w _, Nat.le_refl _, none, none, none, heap_alloc_new w _, fun h => by omega, fun h => by omega, fun h => by omega⟩
theorem RSlI.sub {w : World} {S B N L k : Nat} {wr w3 : World} (h : RSlI w S B N L k wr) (b3 : Below wr.heap.size wr w3) : RSlI w S B N L k w3 := by
  obtain ⟨hb, hs, x0, x1, xl, hx, h0, h1, h2⟩ := h
  exact ⟨hb.trans (b3.mono hb.size), hs, x0, x1, xl, (b3.block S (Array.getElem?_eq_some_iff.1 hx).1).trans hx, fun hk => by obtain ⟨A, e, i, l⟩ := h0 hk; exact ⟨A, e, i.below b3, l⟩, fun hk => by obtain ⟨A, e, i, l⟩ := h1 hk; exact ⟨A, e, i.below b3, l⟩, fun hk => by obtain ⟨A, e, i, l⟩ := h2 hk; exact ⟨A, e, i.below b3, l⟩⟩
theorem RSlI.set {w : World} {S B N L k : Nat} {w3 : World} (h : RSlI w S B N L k w3) {A : Nat} (hAl : w.heap.size ≤ A) (hA : (k = 0 ∧ IsRArea w3 A B 1 N) ∨ (k = 1 ∧ IsRArea w3 A B (1 + N) N) ∨ (k = 2 ∧ IsRArea w3 A B (1 + 2 * N) L)) :
    RSlI w S B N L (k + 1) (w3.setCell ⟨S, 1 + k, none⟩ (.pointer (some ⟨A, 0, none⟩))) := by
  obtain ⟨hb, hs, x0, x1, xl, hx, h0, h1, h2⟩ := h
  have fS : Frm (fun k => k = S) w3 (w3.setCell ⟨S, 1 + k, none⟩ (.pointer (some ⟨A, 0, none⟩))) := Frm.setCell w3 _ _ rfl
  have ar : ∀ {A' n : Nat} {f : Int}, IsRArea w3 A' B f n → IsRArea (w3.setCell ⟨S, 1 + k, none⟩ (.pointer (some ⟨A, 0, none⟩))) A' B f n := fun h => h.same (fS.block _ h.lt (rarea_ne h hx))
  have hb' : Below w.heap.size w (w3.setCell ⟨S, 1 + k, none⟩ (.pointer (some ⟨A, 0, none⟩))) := hb.setCell (p := ⟨S, 1 + k, none⟩) hs _
  rcases hA with ⟨rfl, hA⟩ | ⟨rfl, hA⟩ | ⟨rfl, hA⟩
  · exact ⟨hb', hs, some ⟨A, 0, none⟩, x1, xl, Joins.block_setCell hx _, fun _ => ⟨A, rfl, ar hA, hAl⟩, fun h => by omega, fun h => by omega⟩
  · obtain ⟨A0, e0, i0, l0⟩ := h0 (by omega)
    exact ⟨hb', hs, x0, some ⟨A, 0, none⟩, xl, Joins.block_setCell hx _, fun _ => ⟨A0, e0, ar i0, l0⟩, fun _ => ⟨A, rfl, ar hA, hAl⟩, fun h => by omega⟩
  · obtain ⟨A0, e0, i0, l0⟩ := h0 (by omega)
    obtain ⟨A1, e1, i1, l1⟩ := h1 (by omega)
    exact ⟨hb', hs, x0, x1, some ⟨A, 0, none⟩, Joins.block_setCell hx _, fun _ => ⟨A0, e0, ar i0, l0⟩, fun _ => ⟨A1, e1, ar i1, l1⟩, fun _ => ⟨A, rfl, ar hA, hAl⟩⟩
structure ROpS (w W : World) (S B A0 A1 AL N L : Nat) (h : Hd) : Prop where
  bl : Below w.heap.size w W
  blk : W.heap[S]? = some (.cells (srcells B A0 A1 AL ⟨N, L, h, [], [], false⟩ (.slice none 0 0) (.slice none 0 0)) 141 (0, 0))
  a0 : IsRArea W A0 B 1 N
  a1 : IsRArea W A1 B (1 + N) N
  al : IsRArea W AL B (1 + 2 * N) L
  l0 : w.heap.size ≤ A0
  l1 : w.heap.size ≤ A1
  ll : w.heap.size ≤ AL
  ls : w.heap.size ≤ S
theorem RSlI.op {w : World} {S B N L : Nat} {wr : World} (h : RSlI w S B N L 3 wr) : ∃ A0 A1 AL, ROpS w wr S B A0 A1 AL N L hd0 := by
  obtain ⟨hb, hs, x0, x1, xl, hx, h0, h1, h2⟩ := h
  obtain ⟨A0, rfl, i0, l0⟩ := h0 (by omega)
  obtain ⟨A1, rfl, i1, l1⟩ := h1 (by omega)
  obtain ⟨AL, rfl, il, ll⟩ := h2 (by omega)
  exact ⟨A0, A1, AL, hb, hx, i0, i1, il, l0, l1, ll, hs⟩
theorem ROpS.frm {w W W' : World} {S B A0 A1 AL N L : Nat} {h h' : Hd} (o : ROpS w W S B A0 A1 AL N L h) (hf : Frm (fun k => k = S) W W') (hb : W'.heap[S]? = some (.cells (srcells B A0 A1 AL ⟨N, L, h', [], [], false⟩ (.slice none 0 0) (.slice none 0 0)) 141 (0, 0))) : ROpS w W' S B A0 A1 AL N L h' := by
  have e : ∀ k, k < W.heap.size → k ≠ S → W'.heap[k]? = W.heap[k]? := fun k hl hne => hf.block k hl hne
  exact ⟨o.bl.trans (hf.below (fun k hk => by rw [hk]; exact o.ls) o.bl.size), hb, o.a0.same (e _ o.a0.lt (rarea_ne o.a0 o.blk)), o.a1.same (e _ o.a1.lt (rarea_ne o.a1 o.blk)), o.al.same (e _ o.al.lt (rarea_ne o.al o.blk)), o.l0, o.l1, o.ll, o.ls⟩
theorem ROpS.below {w W W' : World} {S B A0 A1 AL N L : Nat} {h : Hd} (o : ROpS w W S B A0 A1 AL N L h) (hb : Below W.heap.size W W') : ROpS w W' S B A0 A1 AL N L h :=
  o.frm (Frm.of_below hb) ((hb.block S (Array.getElem?_eq_some_iff.1 o.blk).1).trans o.blk)
theorem ROpS.setHead {w W : World} {S B A0 A1 AL N L : Nat} {h0 : Hd} (o : ROpS w W S B A0 A1 AL N L h0) (h : Hd) :
    ROpS w ((((W.setCell ⟨S, 4, none⟩ (.int .i64 (h.slot : Int))).setCell ⟨S, 5, none⟩ (.int .i64 (h.long : Int))).setCell ⟨S, 6, none⟩ (.int .i64 (h.used : Int))).setCell ⟨S, 7, none⟩ (.int .i64 (h.turn : Int))) S B A0 A1 AL N L h := by
  have f : ∀ (w : World) (o : Nat) (v : Value), Frm (fun k => k = S) w (w.setCell ⟨S, o, none⟩ v) := fun w o v => Frm.setCell w o v rfl
  have t : ∀ {a b c : World}, Frm (fun k => k = S) a b → Frm (fun k => k = S) b c → Frm (fun k => k = S) a c := fun h k => h.trans k (fun _ h => .inl h)
  exact o.frm (t (t (t (f _ _ _) (f _ _ _)) (f _ _ _)) (f _ _ _)) (Joins.block_setCell (Joins.block_setCell (Joins.block_setCell (Joins.block_setCell o.blk _) _) _) _)
theorem ROpS.fin {w W W8 W9 : World} {S B A0 A1 AL N L : Nat} {h : Hd} {vc vr : Value} {cs : List UInt8} {R : List (List UInt8)} (o : ROpS w W S B A0 A1 AL N L h) (b8 : Below W.heap.size W W8) (o8 : W8.ownsRow W.heap.size 5 1 vc cs.length (cs.map byteV)) (b9 : Below W8.heap.size W8 W9) (o9 : RowsOf W9 W8.heap.size vr R) (ok : StOk ⟨N, L, h, cs, R, false⟩) :
    Below w.heap.size w ((W9.setCell ⟨S, 8, none⟩ vc).setCell ⟨S, 9, none⟩ vr) ∧ IsSr (fun k => w.heap.size ≤ k ∧ k < ((W9.setCell ⟨S, 8, none⟩ vc).setCell ⟨S, 9, none⟩ vr).heap.size) ((W9.setCell ⟨S, 8, none⟩ vc).setCell ⟨S, 9, none⟩ vr) S B ⟨N, L, h, cs, R, false⟩ := by
  have p := (o.below b8).below b9
  have hf : Frm (fun k => k = S) W9 ((W9.setCell ⟨S, 8, none⟩ vc).setCell ⟨S, 9, none⟩ vr) := (Frm.setCell (F := fun k => k = S) W9 8 vc rfl).trans (Frm.setCell (F := fun k => k = S) _ 9 vr rfl) (fun _ h => .inl h)
  have hb : ((W9.setCell ⟨S, 8, none⟩ vc).setCell ⟨S, 9, none⟩ vr).heap[S]? = some (.cells (srcells B A0 A1 AL ⟨N, L, h, cs, R, false⟩ vc vr) 141 (0, 0)) := Joins.block_setCell (Joins.block_setCell p.blk vc) vr
  have lS := (Array.getElem?_eq_some_iff.1 o.blk).1
  have sz := o.bl.size
  have s8 := b8.size
  have s9 := b9.size
  have ss : ((W9.setCell ⟨S, 8, none⟩ vc).setCell ⟨S, 9, none⟩ vr).heap.size = W9.heap.size := by simp
  have e : ∀ k, k < W9.heap.size → k ≠ S → ((W9.setCell ⟨S, 8, none⟩ vc).setCell ⟨S, 9, none⟩ vr).heap[k]? = W9.heap[k]? := fun k hl hne => hf.block k hl hne
  have ar : ∀ {A' n : Nat} {f : Int}, IsRArea W9 A' B f n → IsRArea ((W9.setCell ⟨S, 8, none⟩ vc).setCell ⟨S, 9, none⟩ vr) A' B f n := fun h => h.same (e _ h.lt (rarea_ne h p.blk))
  have o8' := owns_below o8 b9
  have hc : BsG (fun k => w.heap.size ≤ k ∧ k < ((W9.setCell ⟨S, 8, none⟩ vc).setCell ⟨S, 9, none⟩ vr).heap.size) ((W9.setCell ⟨S, 8, none⟩ vc).setCell ⟨S, 9, none⟩ vr) vc cs := ⟨ownsRow_base (owns_block o8' (fun k hk => e k (o8'.lt k hk).2 (by have := (o8'.lt k hk).1; omega))) (Nat.zero_le _), fun k hk => by have := o8'.lt k hk; exact ⟨by omega, by omega⟩⟩
  refine ⟨p.bl.trans (hf.below (fun k hk => by rw [hk]; exact p.ls) p.bl.size), A0, A1, AL, vc, vr, hb, ar p.a0, ar p.a1, ar p.al, hc, ?_, ⟨p.ls, by omega⟩, ⟨p.l0, (ar p.a0).lt⟩, ⟨p.l1, (ar p.a1).lt⟩, ⟨p.ll, (ar p.al).lt⟩, fun k hk => hk.2, ok⟩
  obtain ⟨vs, h1, h2, h3⟩ := RowsG.of (G := fun k => W8.heap.size ≤ k ∧ k < W9.heap.size) o9 (fun k h1 h2 => ⟨h1, h2⟩)
  exact RowsG.same (F := fun k => W8.heap.size ≤ k ∧ k < W9.heap.size) (A := W9) ⟨vs, h1, h2, h3⟩ (fun k hk _ => e k hk.2 (by omega)) (fun k hk => ⟨by omega, by omega⟩)
end Go.Proofs.Ytopemjbakpahfaa
