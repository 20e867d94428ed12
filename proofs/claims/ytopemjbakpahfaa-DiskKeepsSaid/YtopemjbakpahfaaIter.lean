/-
  The iterator over frames: its state lies in a captured cell.
-/
import Derived.Test.YtopemjbakpahfaaC8
import Derived.Test.YtopemjbakpahfaaRange
import Derived.Shelf.Abstract
import Derived.WalkKit
import Derived.LoopNIn
namespace Go.Proofs.Ytopemjbakpahfaa
open Go.RowKit Crc
attribute [local go_sem] Oper.semAt_some
/-- A piece: what a frame holds, what stands behind it, and the two values. -/
structure Piece where
  h : List UInt8
  r : List UInt8
  v1 : Value
  v2 : Value
def Piece.enc (x : Piece) : Array Value := #[x.v1, x.v2]
def leftOf (b : List UInt8) (pre : List Piece) : List UInt8 := (pre.getLast?.map Piece.r).getD b
theorem leftOf_snoc (b : List UInt8) (pre : List Piece) (x : Piece) : leftOf b (pre ++ [x]) = x.r := by simp [leftOf]
def IsPiece (w0 : World) (b : List UInt8) (pre : List Piece) (x : Piece) : Prop := cut (leftOf b pre) = some (x.h, x.r) ∧ Bs w0 x.v1 x.h ∧ Bs w0 x.v2 x.r
def lenAt (Bn : Nat) (W : World) : Nat := match W.cell? ⟨Bn, 0, none⟩ with
  | some (.slice _ n _) => n
  | _ => 0
theorem grown_below {w w' : World} (h : Below w.heap.size w w') : w.grownBy w' none := ⟨h.os, h.tape, h.output, h.size, fun k hk _ => h.block k hk⟩
set_option maxRecDepth 100000 in
set_option maxHeartbeats 1000000 in
theorem frames1_in (b : List UInt8) (hlen : b.length ≤ 1000000) (w0 w : World) (Bn n : Nat) (hBn : w0.heap.size ≤ Bn) (hw : Below w0.heap.size w0 w) (v0 : Value) (hc : Boxed w Bn 22 v0) (hv : Bs w0 v0 b) :
    SeqCell Fence.wide n Try.prog 103 #[.pointer (some ⟨Bn, 0, none⟩)] Piece.enc w0.heap.size Bn (IsPiece w0 b) (fun xs => cut (leftOf b xs) = none) w := by
  intro l J W hW hJ hY h0
  refine callsIn_of_wp Try.func103 rfl trivial ?_ rfl
  simp only [Try.ntmps103, List.size_toArray, List.length_cons, List.length_nil, Nat.reduceAdd, Nat.reduceSub, Array.replicate_succ, Array.replicate_zero, List.push_toArray, List.append_toArray, List.nil_append, List.cons_append]
  gi_wp2
  gi_loopw [3] (fun _ wr => ∃ (pre : List Piece) (v : Value), Boxed wr Bn 22 v ∧ Bs w0 v (leftOf b pre) ∧ (leftOf b pre).length ≤ 1000000 ∧ Below w0.heap.size w0 wr ∧ J pre wr)
    (fun _ wr => lenAt Bn wr)
  case atStart =>
    exact ⟨[], v0, hW.2.trans hc, hv, hlen, hw.trans hW.1, h0⟩
  case round =>
    obtain ⟨pre, v, hcell, hbs, hl, hbl, hJs⟩ := hrel
    obtain ⟨a, cap, rfl, hlc, hnc, hrb⟩ := hbs
    have hcl := hcell.cell
    have HL := Lib.hid (show lenAt Bn wr = (leftOf b pre).length by unfold lenAt; rw [hcl])
    have HB := Lib.hid hbl
    have HR := Lib.hid hrb
    clear hbl hrb
    gi_wp2_with fail
    refine ⟨trivial, fun h => (by cases h), (callsIn_wide.2 (cut_any (leftOf b pre) a cap wr hlc hl (HR.out.below HB.out))).mono ?_⟩
    rintro en w1 ⟨hb1, ⟨e, v1, v2, rfl⟩ | ⟨h, r, v1, v2, e, rfl, hpp⟩⟩
    · have E := Lib.hid e
      clear e
      have hJ1 := hJ _ _ _ none hJs (grown_below hb1) (fun r e => by cases e)
      gi_wp2
      refine ⟨fun _ h => (by cases h), ?_⟩
      gi_wp2
      refine bodyPost_ret (results_none rfl _ _ _) rfl ?_
      exact ⟨⟨_, rfl⟩, pre, E.out, hJ1⟩
    · obtain ⟨p1, p2⟩ := hpp w0 HR.out
      have hJ1 := hJ _ _ _ none hJs (grown_below hb1) (fun r e => by cases e)
      have hcs := Lib.hid (cut_some e).2.2
      obtain ⟨fn, tmps, assign, body, hy, hRd⟩ := hY pre ⟨h, r, v1, v2⟩ w1 hJ1 ⟨e, p1, p2⟩
      have hbx := hcell.kept (grown_below hb1) (by simp)
      have E := Lib.hid e
      have P2 := Lib.hid p2
      clear e
      obtain ⟨a2, cap2, rfl, q1, q2, q3⟩ := p2
      dsimp only [Piece.enc] at hy
      gi_wp2
      refine ⟨fun h => (by cases h), hRd.mono ?_⟩
      rintro e W' ⟨rfl, hJ3, hk3⟩
      have hbx3 : Boxed W' Bn 22 _ := hk3.2.trans hbx
      have hc3 := hbx3.cell
      have hf3 := hbx3.frozen
      gi_wp2
      go_roundw
      case rel =>
        refine ⟨pre ++ [⟨h, r, v1, .slice a2 r.length cap2⟩], _, hbx3.set _, by rw [leftOf_snoc]; exact P2.out, by rw [leftOf_snoc]; have := hcs.out; show r.length ≤ _; omega, ?_, ?_⟩
        · exact ((HB.out.trans (hb1.mono HB.out.size)).trans hk3.1).setCell (p := ⟨Bn, 0, none⟩) hBn _
        · exact hJ _ _ _ (some Bn) hJ3 (grownBy_setCell' _ _ _) (fun r e => by cases e; rfl)
      case measure =>
        have := hcs.out
        rw [HL.out]
        unfold lenAt
        rw [(hbx3.set _).cell]
        show r.length < _
        omega
end Go.Proofs.Ytopemjbakpahfaa
