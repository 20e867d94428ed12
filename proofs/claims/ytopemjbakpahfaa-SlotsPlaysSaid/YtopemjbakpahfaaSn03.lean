/-
  Contracts and plain laws, part 3 (texts: All, Small, Next, Frames2, FramesP, FramesL, StepApp). No condition but what each states.
-/
import Derived.Test.YtopemjbakpahfaaSn02
import Derived.Shelf.RegionOpen
import Derived.Maps.AppendAt
import Derived.Deep.RegionLaw
/-
  The contract of All: what all frames hold, for all bytes.
-/
namespace Go.Proofs.Ytopemjbakpahfaa
open Go.RowKit Crc
attribute [local go_sem] Oper.semAt_some
theorem frames_any (v : Value) (w : World) (a : Option Addr) (n c : Nat) (hv : v = .slice a n c) : Calls Try.prog 91 #[v] w fun en w' => en = .returned (.func (.func 103) #[] #[.pointer (some ⟨w.heap.size, 0, none⟩)]) ∧ w' = w.alloc (.cells #[v] 22) := by
  subst hv
  go_enter Try.func91, Try.ntmps91
  go_wp2
  go_ret
  exact ⟨rfl, rfl⟩
theorem info22 : (Try.prog.info? 22).map (fun i => (i.zero, i.size, i.bytes)) = some (some (.slice none 0 0), 1, 24) := by kernel_rfl
/-- The lists that All hands back: new memory. -/
def RowsOf (W : World) (base : Nat) (v : Value) (L : List (List UInt8)) : Prop :=
  ∃ vs : List Value, W.ownsRow base 22 1 v vs.length vs ∧ vs.length = L.length ∧ ∀ (i : Nat) (u : Value) (l : List UInt8), vs[i]? = some u → L[i]? = some l → W.ownsRow base 5 1 u l.length (l.map byteV)
def AllOf (b : List UInt8) (w : World) (en : Ending) (w' : World) : Prop :=
  Below w.heap.size w w' ∧ ∃ v, en = .returned (.tuple #[v, .int .i64 ((all b).2 : Int)]) ∧ RowsOf w' w.heap.size v (all b).1
def AllI (b : List UInt8) (w0 : World) (v0 : Value) (pre : List Piece) (W : World) : Prop :=
  Boxed W w0.heap.size 22 v0 ∧ (∃ v, Boxed W (w0.heap.size + 1) 56 v ∧ RowsOf W (w0.heap.size + 4) v (pre.map Piece.h)) ∧
  Boxed W (w0.heap.size + 2) 3 (.int .i64 ((b.length : Int) - ((leftOf b pre).length : Int))) ∧ w0.heap.size + 4 ≤ W.heap.size ∧ Below w0.heap.size w0 W ∧
  (leftOf b pre).length ≤ b.length ∧ all b = (pre.map Piece.h ++ (all (leftOf b pre)).1, b.length - (leftOf b pre).length + (all (leftOf b pre)).2)
theorem owns_grown {A B : World} {base e n : Nat} {v : Value} {xs : List Value} {row : Option Nat} (h : A.ownsRow base e 1 v n xs) (hg : A.grownBy B row) (hr : ∀ r, row = some r → r < base ∨ ∃ o : Obj, A.heap[r]? = some o ∧ o.isCells = false) : B.ownsRow base e 1 v n xs := by
  refine h.kept hg ?_
  rcases h.2 with ⟨rfl, _⟩ | ⟨g, cap, cur, rfl, hb, hgb, _⟩
  · exact .inl rfl
  · refine .inr fun e' => ?_
    obtain h1 | ⟨o, h1, h2⟩ := hr g (by rw [← e']; rfl)
    · omega
    · rw [hgb] at h1; cases h1; cases h2
theorem allI_own (b : List UInt8) (w0 : World) (v0 : Value) (s : List Piece) (A B : World) (row : Option Nat) (h : AllI b w0 v0 s A) (hg : A.grownBy B row)
    (hr : ∀ r, row = some r → r = w0.heap.size + 3 ∨ (w0.heap.size + 4 ≤ r ∧ ∃ o : Obj, A.heap[r]? = some o ∧ o.isCells = false)) : AllI b w0 v0 s B := by
  obtain ⟨h1, ⟨v, h2, vs, h3, h4, h5⟩, h6, h7, h8, h9⟩ := h
  have ne : ∀ k, k < w0.heap.size + 3 → some k ≠ row := fun k hk e => by have := hr k e.symm; omega
  have ro : ∀ r, row = some r → r < w0.heap.size + 4 ∨ ∃ o : Obj, A.heap[r]? = some o ∧ o.isCells = false := fun r e => (hr r e).elim (fun h => .inl (by omega)) (fun h => .inr h.2)
  exact ⟨h1.kept hg (ne _ (by omega)), ⟨v, h2.kept hg (ne _ (by omega)), vs, owns_grown h3 hg ro, h4, fun i u l e1 e2 => owns_grown (h5 i u l e1 e2) hg ro⟩, h6.kept hg (ne _ (by omega)), Nat.le_trans h7 hg.size,
    h8.grown hg h8.size (fun k e => by have := hr k e; omega), h9⟩
def AllRound (b : List UInt8) (w0 : World) (v0 : Value) (pre : List Piece) (x : Piece) (W W' : World) : Prop :=
  KeepsOthers W W' ∧ Keep w0.heap.size (w0.heap.size + 3) W W' ∧ AllI b w0 v0 (pre ++ [x]) W'
theorem all_round (b : List UInt8) (w0 : World) (v0 : Value) (pre : List Piece) (x : Piece) (W A w1 : World) (vo v' vc nv : Value) (vs : List Value)
    (hI1 : Boxed W w0.heap.size 22 v0) (hvo : Boxed W (w0.heap.size + 1) 56 vo) (hrow : W.ownsRow (w0.heap.size + 4) 22 1 vo vs.length vs) (hrl : vs.length = (pre.map Piece.h).length)
    (hrs : ∀ (i : Nat) (u : Value) (l : List UInt8), vs[i]? = some u → (pre.map Piece.h)[i]? = some l → W.ownsRow (w0.heap.size + 4) 5 1 u l.length (l.map byteV))
    (hI3 : Boxed W (w0.heap.size + 2) 3 nv) (hI4 : w0.heap.size + 4 ≤ W.heap.size) (hI5 : Below w0.heap.size w0 W)
    (hI6 : (leftOf b pre).length ≤ b.length) (hI7 : all b = (pre.map Piece.h ++ (all (leftOf b pre)).1, b.length - (leftOf b pre).length + (all (leftOf b pre)).2))
    (g1 : cut (leftOf b pre) = some (x.h, x.r)) (hA : Below W.heap.size W A) (oc : A.ownsRow W.heap.size 5 1 vc x.h.length (x.h.map byteV))
    (hown : w1.ownsRow (w0.heap.size + 4) 22 1 v' (vs.length + 1) (vs ++ [vc])) (hgrow : A.grownBy w1 vo.ownBlock) :
    (Boxed w1 (w0.heap.size + 1) 56 vo ∧ Boxed (w1.setCell ⟨w0.heap.size + 1, 0, none⟩ v') w0.heap.size 22 v0 ∧ Boxed (w1.setCell ⟨w0.heap.size + 1, 0, none⟩ v') (w0.heap.size + 2) 3 nv) ∧
    AllRound b w0 v0 pre x W ((w1.setCell ⟨w0.heap.size + 1, 0, none⟩ v').setCell ⟨w0.heap.size + 2, 0, none⟩ (.int .i64 ((b.length : Int) - (x.r.length : Int)))) := by
  have gA := grown_below hA
  have nn : ∀ k : Nat, some k ≠ (none : Option Nat) := fun k e => by cases e
  have rn : RowOf W none 22 := fun r e => by cases e
  have hrowA := owns_below hrow hA
  have ra := rowOf_owns hrowA
  have b1 := box_at (hI1.kept gA (nn _)) hrowA hgrow (by omega)
  have b2 := box_at (hvo.kept gA (nn _)) hrowA hgrow (by omega)
  have b3 := box_at (hI3.kept gA (nn _)) hrowA hgrow (by omega)
  have b1' := b1.other (B' := w0.heap.size + 1) (by omega) v'
  have b2' := b2.set v'
  have b3' := b3.other (B' := w0.heap.size + 1) (by omega) v'
  refine ⟨⟨b2, b1', b3'⟩, ?_, ?_, ?_⟩
  · exact (((keepsOthers_row gA rn).trans (keepsOthers_row hgrow ra)).trans (KeepsOthers.setCell _ _ _)).trans (KeepsOthers.setCell _ _ _)
  · refine ⟨?_, ?_⟩
    · exact (((hA.mono (by omega)).grown hgrow (by have := hA.size; omega) (fun k hk => by have := (hrowA.lt k hk).1; omega)).setCell (p := ⟨w0.heap.size + 1, 0, none⟩) (by simp) _).setCell (p := ⟨w0.heap.size + 2, 0, none⟩) (by simp) _
    · rw [Below.heap_setCell _ _ _ _ (by simp), Below.heap_setCell _ _ _ _ (by simp)]
      have h1 := hgrow.block (w0.heap.size + 3) (by have := hA.size; omega) (fun e => by have := (hrowA.lt _ e.symm).1; omega)
      rw [h1]
      exact hA.block _ (by omega)
  · have o1 := owns_other hown (grownBy_setCell' w1 (w0.heap.size + 1) v') (rowOf_box b2) (by decide)
    have o2 := owns_other o1 (grownBy_setCell' _ (w0.heap.size + 2) (.int .i64 ((b.length : Int) - (x.r.length : Int)))) (rowOf_box b3') (by decide)
    have each : ∀ {u : Value} {l : List UInt8} {base : Nat}, A.ownsRow base 5 1 u l.length (l.map byteV) → ((w1.setCell ⟨w0.heap.size + 1, 0, none⟩ v').setCell ⟨w0.heap.size + 2, 0, none⟩ (.int .i64 ((b.length : Int) - (x.r.length : Int)))).ownsRow base 5 1 u l.length (l.map byteV) := fun h =>
      owns_other (owns_other (owns_other h hgrow ra (by decide)) (grownBy_setCell' w1 (w0.heap.size + 1) v') (rowOf_box b2) (by decide)) (grownBy_setCell' _ (w0.heap.size + 2) (.int .i64 ((b.length : Int) - (x.r.length : Int)))) (rowOf_box b3') (by decide)
    refine ⟨b1'.other (by omega) _, ⟨v', b2'.other (by omega) _, vs ++ [vc], by simpa using o2, by simp [hrl], ?_⟩, ?_, ?_, ?_, ?_, ?_⟩
    · rw [List.map_append, List.map_cons, List.map_nil]
      exact row_snoc hrl (fun i u l e1 e2 => each (owns_below (hrs i u l e1 e2) hA)) (each oc) hI4
    · rw [leftOf_snoc]; exact b3'.set _
    · have := hA.size; have := hgrow.size; simp; omega
    · exact ((((hI5.trans (hA.mono (by omega)))).grown hgrow (by have := hA.size; omega) (fun k hk => by have := (hrowA.lt k hk).1; omega)).setCell (p := ⟨w0.heap.size + 1, 0, none⟩) (by simp) _).setCell (p := ⟨w0.heap.size + 2, 0, none⟩) (by simp) _
    · rw [leftOf_snoc]; have := (cut_some g1).2.2; omega
    · rw [leftOf_snoc, hI7, all_some g1]
      have := (cut_some g1).2.2
      simp only [Prod.mk.injEq, List.map_append, List.map_cons, List.map_nil, List.append_assoc, List.cons_append, List.nil_append, true_and]
      omega
set_option maxRecDepth 100000 in
set_option maxHeartbeats 2000000 in
theorem All_any (b : List UInt8) (a : Option Addr) (cap : Nat) (w : World) (hc : b.length ≤ cap) (hb : b.length ≤ 1000000) (hn : a = none → cap = 0) (hr : RB w a b) : Calls Try.prog 46 #[.slice a b.length cap] w (AllOf b w) := by
  refine (callsIn_wide (n := 3)).1 ?_
  refine callsIn_of_wp_marks Try.func46 rfl trivial ?_ rfl
  simp only [Try.ntmps46, List.size_toArray, List.length_cons, List.length_nil, Nat.reduceAdd, Nat.reduceSub, Array.replicate_succ, Array.replicate_zero, List.push_toArray, List.append_toArray, List.nil_append, List.cons_append]
  have HR := Lib.hid hr
  clear hr
  gi_wp2_with fail
  refine ⟨trivial, (callsIn_wide.2 (frames_any _ _ a b.length cap rfl)).mono ?_⟩
  rintro en w1 ⟨rfl, rfl⟩
  gi_wp2_with fail
  obtain ⟨W0, hW0⟩ : ∃ W0, (((w.alloc (Obj.cells #[Value.slice a b.length cap] 22)).alloc (Obj.cells #[Value.slice none 0 0] 56)).alloc (Obj.cells #[Value.int IntKind.i64 0] 3)).alloc (Obj.cells #[Value.slice a b.length cap] 22) = W0 := ⟨_, rfl⟩
  have hsz : W0.heap.size = w.heap.size + 4 := by rw [← hW0]; simp
  have hI0 : AllI b w (.slice a b.length cap) [] W0 := by
    rw [← hW0]
    refine ⟨(((Boxed.new w 22 _).alloc _).alloc _).alloc _, ⟨.slice none 0 0, ?_, [], World.ownsRow_nil _ _ _ _, rfl, fun i u l h => (by simp at h)⟩, ?_, by simp, ?_, by simp [leftOf], by simp [leftOf]⟩
    · have := ((Boxed.new (w.alloc (Obj.cells #[Value.slice a b.length cap] 22)) 56 (.slice none 0 0)).alloc (Obj.cells #[Value.int IntKind.i64 0] 3)).alloc (Obj.cells #[Value.slice a b.length cap] 22)
      simpa only [World.size_alloc] using this
    · have := (Boxed.new ((w.alloc (Obj.cells #[Value.slice a b.length cap] 22)).alloc (Obj.cells #[Value.slice none 0 0] 56)) 3 (.int .i64 0)).alloc (Obj.cells #[Value.slice a b.length cap] 22)
      simpa [leftOf] using this
    · exact ((((Below.refl _ w).alloc (Nat.le_refl _) _).alloc (by simp) _).alloc (by simp; omega) _).alloc (by simp; omega) _
  have hBx : Boxed W0 (w.heap.size + 3) 22 (.slice a b.length cap) := by
    rw [← hW0]
    have := Boxed.new (((w.alloc (Obj.cells #[Value.slice a b.length cap] 22)).alloc (Obj.cells #[Value.slice none 0 0] 56)).alloc (Obj.cells #[Value.int IntKind.i64 0] 3)) 22 (.slice a b.length cap)
    simp only [World.size_alloc, Nat.add_assoc, Nat.reduceAdd] at this
    exact this
  simp only [Nat.add_assoc, Nat.reduceAdd]
  rw [hW0]
  refine range_cell rfl (by omega) (gf := 103) (lb := #[.pointer (some ⟨w.heap.size + 3, 0, none⟩)]) rfl trivial (enters_of Try.func103 (by kernel_rfl) rfl) (n₀ := w.heap.size) (Bn := w.heap.size + 3) (by omega) (by omega)
    (frames1_in b hb w W0 (w.heap.size + 3) _ (by omega) hI0.2.2.2.2.1 _ hBx ⟨a, cap, rfl, hc, hn, HR.out⟩) (fun _ => rfl)
    (AllI b w (.slice a b.length cap)) (fun s A B row h hg hr => allI_own b w _ s A B row h hg (fun r e => (hr r e).elim .inl (fun h => .inr ⟨by omega, h.2⟩))) hI0
    (fun x => { tmps := #[.slice a b.length cap, .pointer (some ⟨w.heap.size, 0, none⟩), .slice none 0 0, .int .i64 0, .pointer (some ⟨w.heap.size + 1, 0, none⟩), .pointer (some ⟨w.heap.size + 2, 0, none⟩), x.v1, x.v2, .slice a b.length cap, .func (.func 103) #[] #[.pointer (some ⟨w.heap.size + 3, 0, none⟩)], x.v1, x.v2, undef, undef, undef, undef, undef, undef, undef, undef, undef, undef, undef, undef], defers := [] }) ?assign ?body ?done
  case assign =>
    rintro l ⟨h, r, v1, v2⟩ W K hK
    dsimp only [Piece.enc] at hK ⊢
    gi_wp2
    exact hK
  case body =>
    obtain ⟨i0, hi, hz0, hz1, hz2⟩ := info_parts info22
    rintro l pre ⟨h, r, v1, v2⟩ W ⟨hI1, ⟨vo, hvo, vs, hrow, hrl, hrs⟩, hI3, hI4, hI5, hI6, hI7⟩ ⟨g1, g2, g3⟩ hsz2
    dsimp only at g1 g2 g3
    obtain ⟨c1, k1, rfl, q1, q2, q3⟩ := g2
    obtain ⟨c2, k2, rfl, q4, q5, q6⟩ := g3
    dsimp only
    have Q3 := Lib.hid (q3.below hI5)
    have G1 := Lib.hid g1
    have hh := (cut_some g1).1
    have hlen := (cut_some g1).2.2
    have hvl : vs.length ≤ 1000000 := by
      have h1 := all_len b
      rw [hI7] at h1
      simp at h1 hrl
      omega
    have hvd := hvo.kept (grown_below ((Below.refl _ W).drew)) (by simp)
    have hrd := owns_below hrow ((Below.refl _ W).drew)
    have hcd := hvd.cell
    have hfd := hvd.frozen
    have HRL := Lib.hid hrl
    clear q3 q6 g1 hrl
    gi_wp2
    have hm : Try.prog.follows .mixedOrders = true := by kernel_rfl
    refine wpIn_region_any hm ?_
    change wpAnyIn _ _ _ _ _ _ _ _ _ (World.drew _)
    repeat' (first
      | refine wpAnyIn_done (by decide +kernel) ?_ _
      | (refine wpAnyIn_ready (rs := [0, 1]) (by decide +kernel) (by simp) ?_; refine AllReadyIn.cons rfl (fun K hK => ?_) (AllReadyIn.cons rfl (fun K hK => ?_) AllReadyIn.nil))
      | (refine wpAnyIn_ready (rs := [0, 2]) (by decide +kernel) (by simp) ?_; refine AllReadyIn.cons rfl (fun K hK => ?_) (AllReadyIn.cons rfl (fun K hK => ?_) AllReadyIn.nil))
      | (refine wpAnyIn_ready (rs := [0, 3]) (by decide +kernel) (by simp) ?_; refine AllReadyIn.cons rfl (fun K hK => ?_) (AllReadyIn.cons rfl (fun K hK => ?_) AllReadyIn.nil))
      | (refine wpAnyIn_ready (rs := [0]) (by decide +kernel) (by simp) ?_; refine AllReadyIn.cons rfl (fun K hK => ?_) AllReadyIn.nil)
      | (refine wpAnyIn_ready (rs := [1]) (by decide +kernel) (by simp) ?_; refine AllReadyIn.cons rfl (fun K hK => ?_) AllReadyIn.nil)
      | (refine wpAnyIn_ready (rs := [2]) (by decide +kernel) (by simp) ?_; refine AllReadyIn.cons rfl (fun K hK => ?_) AllReadyIn.nil)
      | (refine wpAnyIn_ready (rs := [3]) (by decide +kernel) (by simp) ?_; refine AllReadyIn.cons rfl (fun K hK => ?_) AllReadyIn.nil)
      | (refine wpAnyIn_ready (rs := [4]) (by decide +kernel) (by simp) ?_; refine AllReadyIn.cons rfl (fun K hK => ?_) AllReadyIn.nil)
      | (refine wpAnyIn_ready (rs := [5]) (by decide +kernel) (by simp) ?_; refine AllReadyIn.cons rfl (fun K hK => ?_) AllReadyIn.nil)
      | (refine step_append_own _ (.tmp 12) (.tmp 15) 56 rfl (w.heap.size + 4) 22 i0 (.slice none 0 0) 1 24 Try.underlying56 hi hz0 hz1 hz2 rfl (by decide) _ _ _ rfl (hrow2.alloc _) ⟨w2.heap.size, 0, none⟩ 1 1 [_] rfl rfl (cell_one_new _ _ _) (by simp [Value.oneCell']) (by unfold maxLen; omega) (by omega) (by have := bc.size; simp at this ⊢; omega) ?_; intro v' w1 hown' hgrow _; obtain ⟨g', cap', rfl⟩ := ownsRow_succ hown'; have hv3 := box_at (hv2.alloc _) (hrow2.alloc _) hgrow (by omega); have hc3 := hv3.cell; have hf3 := hv3.frozen; refine hK _ _ ?_; clear hK K; go_simp)
      | (go_simp; refine ⟨trivial, (CallsIn.inRound l (callsIn_wide.2 (clone_any h c1 k1 _ (by omega) q1 q2 Q3.out.drew))).mono ?_⟩; rintro e w2 ⟨vc, rfl, oc, bc⟩; obtain ⟨ac, capc, rfl, _, _, _⟩ := RB.of_owns oc; have hv2 := hvd.kept (grown_below bc) (by simp); have hc2 := hv2.cell; have hf2 := hv2.frozen; have hrow2 := owns_below hrd bc; have hc2a := (hv2.alloc (.cells #[.slice ac h.length capc] 22)).cell; refine hK _ _ ?_; clear hK K)
      | (go_simp; refine hK _ _ ?_; clear hK K))
    all_goals
      have hA : Below W.heap.size W (w2.alloc (.cells #[.slice ac h.length capc] 22)) := ((Below.refl _ W).drew.trans bc).alloc (by have := bc.size; simpa using this) _
      have R := all_round b w (.slice a b.length cap) pre ⟨h, r, .slice c1 h.length k1, .slice c2 r.length k2⟩ W _ w1 vo _ _ _ vs hI1 hvo hrow HRL.out hrs hI3 hI4 hI5 hI6 hI7 G1.out hA (oc.alloc _) hown' hgrow
      obtain ⟨⟨_, hb1, hb3⟩, hR⟩ := R
      have e1 := hb1.cell
      have e3 := hb3.cell
      have e3f := hb3.frozen
      have HR2 := Lib.hid hR
      clear hR hA
      gi_wp2
      exact ⟨HR2.out.1.from _, HR2.out.2.1, HR2.out.2.2⟩
  case done =>
    rintro xs W hS ⟨hI1, ⟨vo, hvo, vs, hrow, hrl, hrs⟩, hI3, hI4, hI5, hI6, hI7⟩ hK
    gi_wp2
    have hm : Try.prog.follows .mixedOrders = true := by kernel_rfl
    have hvd := hvo.kept (grown_below ((Below.refl _ W).drew)) (by simp)
    have hcd := hvd.cell
    have hnd := (hI3.kept (grown_below ((Below.refl _ W).drew)) (by simp)).cell
    gi_region
    have hKd : W.drew.heap[W0.heap.size]? = some (.deferred (some [])) := hK
    have hrd := owns_below hrow ((Below.refl _ W).drew)
    have hBd : Below w.heap.size w (W.drew.putObj W0.heap.size (.deferred none)) := hI5.drew.trans (below_put _ (by omega) hKd)
    have HI := Lib.hid hI7
    clear hI7
    all_goals gi_wp2
    all_goals refine ⟨by simp, .inl ⟨_, _, rfl, run_takeDeferred hKd, ?_⟩⟩
    all_goals refine ⟨.tuple #[vo, .int .i64 ((b.length : Int) - ((leftOf b xs).length : Int))], by simp [results, Try.results46, go_sem], ?_⟩
    all_goals
      have h1 := HI.out
      rw [all_none hS] at h1
      simp only [List.append_nil, Nat.add_zero] at h1
      refine ⟨hBd, vo, ?_, vs, ownsRow_base (ownsRow_putObj hrd _ hKd rfl) (by omega), ?_, ?_⟩
      · have h2 : ((b.length - (leftOf b xs).length : Nat) : Int) = (b.length : Int) - ((leftOf b xs).length : Int) := by omega
        rw [h1, h2]
      · rw [h1]; exact hrl
      · rw [h1]
        intro i u l e1 e2
        exact ownsRow_base (ownsRow_putObj (owns_below (hrs i u l e1 e2) ((Below.refl _ W).drew)) _ hKd rfl) (by omega)
end Go.Proofs.Ytopemjbakpahfaa
/-
  The small case of the statements on sums comes out right. No condition.
-/
namespace Go.Proofs.Ytopemjbakpahfaa
open Go.RowKit Crc
theorem Bs.of_owns {w : World} {base n : Nat} {v : Value} {l : List UInt8} (h : w.ownsRow base 5 1 v n (l.map byteV)) : ∃ a cap, v = .slice a l.length cap ∧ l.length ≤ cap ∧ (a = none → cap = 0 ∧ l = []) ∧ RB w a l := by
  obtain ⟨a, cap, e, h1, h2, h3⟩ := RB.of_owns h
  exact ⟨a, cap, e, h1, fun e => ⟨h2 e, List.eq_nil_of_length_eq_zero (by have := h2 e; omega)⟩, h3⟩
def abc : List UInt8 := [97, 98, 99]
def nine : List UInt8 := [49, 50, 51, 52, 53, 54, 55, 56, 57]
theorem sum_nine : (sum nine).toNat = 3421780262 := by decide +kernel
theorem sum_nil : (sum []).toNat = 0 := by decide +kernel
theorem cut_bad : cut [0, 0, 1, 2, 3, 4] = none := by decide +kernel
theorem cut_abc : cut (frame abc ++ [7]) = some (abc, [7]) := cut_frame [7] (by decide)
theorem all_abc : all (frame abc ++ frame abc) = ([abc, abc], 18) := by
  have h := all_join [abc, abc] (frame abc ++ frame abc) [] (by simp [join, abc])
  have h0 : all [] = ([], 0) := all_none (by decide +kernel)
  rw [List.append_nil, h0] at h
  rw [h]
  rfl
theorem str_lit (l : List UInt8) (w : World) (base n : Nat) (v : Value) (h : w.ownsRow base 5 1 v n (l.map byteV)) : (convert 22 9 v).run Try.prog w = .ok (.string ⟨l.toArray⟩) w := conv_bs h
theorem Cut_at (b : List UInt8) (a : Option Addr) (len cap : Nat) (w : World) (hl : b.length = len) (hc : b.length ≤ cap) (hb : b.length ≤ 1000000) (hr : RB w a b) : Calls Try.prog 26 #[.slice a len cap] w (CutNew b w) := by
  subst hl; exact Cut_any b a cap w hc hb hr
theorem All_at (b : List UInt8) (a : Option Addr) (len cap : Nat) (w : World) (hl : b.length = len) (hc : b.length ≤ cap) (hb : b.length ≤ 1000000) (hn : a = none → cap = 0) (hr : RB w a b) : Calls Try.prog 46 #[.slice a len cap] w (AllOf b w) := by
  subst hl; exact All_any b a cap w hc hb hn hr
theorem frame_at (l : List UInt8) (a : Option Addr) (len cap : Nat) (w : World) (hlen : l.length = len) (hl : l.length ≤ 4096) (hc : l.length ≤ cap) (hn : a = none → cap = 0) (hr : RB w a l) : Calls Try.prog 24 #[.slice a len cap] w (Framed l w) := by
  subst hlen; exact frame_any l a cap w hl hc hn hr
set_option maxRecDepth 100000 in
set_option maxHeartbeats 2000000 in
theorem small_any (w : World) : Calls Try.prog 23 #[] w fun en w' => en = .returned (.bool true) ∧ Below w.heap.size w w' := by
  have kc := conv_const
  go_enter Try.func23, Try.ntmps23
  go_wp2_with fail
  refine (frame_any abc _ _ _ (by decide) (by decide) (fun e => by cases e) (RB.lit w abc _ _ _ rfl rfl)).mono ?_
  rintro en w1 ⟨v1, rfl, o1, b1⟩
  have B1 : Below w.heap.size w w1 := below_on (below_alloc w _) b1
  obtain ⟨a1, c1, rfl, l1, n1, r1⟩ := Bs.of_owns o1
  have R1 := Lib.hid r1
  clear b1 r1
  have S1 := B1.size
  go_wp2_with (first
    | (at_builtin; refine app_bytes rfl (.tmp 18) (.tmp 19) rfl w1.heap.size _ [] (frame abc) _ rfl (owns_bytes w1 [] _ _ _ rfl (Nat.le_refl _) rfl (by decide)) _ rfl n1 (R1.out.alloc _) (by decide) (by simp) ?_; intro v2 w2 o2 b2 _; have B2 := (below_alloc w1 _).trans b2; clear b2)
    | (at_builtin; refine app_bytes rfl (.tmp 20) (.tmp 21) rfl w1.heap.size _ (frame abc) [7] _ rfl (o2.alloc _) _ rfl (fun e => by cases e) (RB.lit w2 [7] _ _ _ rfl rfl) (by decide) (Nat.le_trans B2.size (by simp)) ?_; intro v3 w3 o3 b3 _; have B3 := (B2.alloc B2.size _).trans b3; obtain ⟨a3, c3, rfl, l3, n3, r3⟩ := Bs.of_owns o3; clear o3 b3 o2 B2))
  refine (Cut_at (frame abc ++ [7]) _ _ _ _ (by simp) l3 (by decide) r3).mono ?_
  rintro en w4 ⟨b4, ⟨e, _⟩ | ⟨h, r, v4, v5, e, rfl, o4, o5⟩⟩
  · rw [cut_abc] at e; cases e
  rw [cut_abc] at e
  obtain ⟨rfl, rfl⟩ : abc = h ∧ [7] = r := by simpa using e
  have B4 := below_on B3 b4
  have R4 := Lib.hid (R1.out.below B4)
  have S4 := B4.size
  clear e l3 n3 r3 b4 B3 R1
  go_wp2_with (first
    | (at_builtin; refine app_bytes rfl (.tmp 28) (.tmp 29) rfl w4.heap.size _ [] (frame abc) _ rfl (owns_bytes w4 [] _ _ _ rfl (Nat.le_refl _) rfl (by decide)) _ rfl n1 (R4.out.alloc _) (by decide) (by simp) ?_; intro v6 w6 o6 b6 _; have B6 := (below_alloc w4 _).trans b6; clear b6)
    | (at_builtin; refine app_bytes rfl (.tmp 30) (.tmp 31) rfl w4.heap.size _ (frame abc) (frame abc) _ rfl o6 _ rfl n1 (R4.out.below B6) (by decide) B6.size ?_; intro v7 w7 o7 b7 _; have B7 := B6.trans b7; obtain ⟨a7, c7, rfl, l7, n7, r7⟩ := Bs.of_owns o7; clear o6 b7 B6))
  refine (All_at (frame abc ++ frame abc) _ _ _ _ (by simp) l7 (by decide) (fun e => (n7 e).1) r7).mono ?_
  rintro en w8 ⟨b8, v8, rfl, vs, o8, hvl, _⟩
  rw [all_abc] at hvl ⊢
  have hv2 : vs.length = 2 := hvl
  rw [hv2] at o8
  obtain ⟨g8, c8, rfl⟩ := ownsRow_succ (k := 1) o8
  have B8 := below_on B7 b8
  have O4 := owns_below o4 B8
  have O5 := owns_below o5 B8
  have S8 := B8.size
  clear l7 n7 r7 b8 B7 hvl hv2 o8 o4 o5 R4
  go_wp2_with fail
  refine (Cut_at [0, 0, 1, 2, 3, 4] _ _ _ _ rfl (by decide) (by decide) (RB.lit w8 _ _ _ _ rfl rfl)).mono ?_
  rintro en w9 ⟨b9, ⟨_, rfl⟩ | ⟨h, r, v4, v5, e, _⟩⟩
  rotate_left
  · rw [cut_bad] at e; cases e
  have B9 := below_on (below_alloc w8 _) b9
  have P4 := owns_below O4 B9
  have P5 := owns_below O5 B9
  have S9 := B9.size
  clear O4 O5 b9
  go_wp2_with fail
  refine (sum_at nine _ _ _ _ rfl (by decide) (RB.lit w9 nine _ _ _ rfl rfl)).mono ?_
  rintro en w10 ⟨rfl, rfl⟩
  rw [sum_nine]
  have kA : (convert 22 9 v4).run Try.prog (w9.alloc (.cells (List.map byteV nine).toArray 5 (9, 10))) = .ok (.string ⟨#[97, 98, 99]⟩) _ := conv_bs (P4.alloc _)
  have kB : (convert 22 9 v5).run Try.prog (w9.alloc (.cells (List.map byteV nine).toArray 5 (9, 10))) = .ok (.string ⟨#[7]⟩) _ := conv_bs (P5.alloc _)
  have hfl : ((frame abc).length : Int) = 9 := by decide
  go_wp2_with fail
  refine (sum_at [] none 0 0 _ rfl (by decide) (RB.nil _ _)).mono ?_
  rintro en w10 ⟨rfl, rfl⟩
  rw [sum_nil]
  go_wp2
  go_ret
  exact ⟨rfl, (below_on (below_on (below_on B1 B4) B8) B9).alloc (by omega) _⟩
end Go.Proofs.Ytopemjbakpahfaa
/-
  CrcNext: the walk, for all bytes. No condition.
-/
namespace Go.Proofs.Ytopemjbakpahfaa
open Go.RowKit Crc
/-- The law returns true, and changes nothing that was there. -/
def Yes (W : World) (en : Ending) (w' : World) : Prop := en = .returned (.bool true) ∧ Below W.heap.size W w'
theorem xor8 (x y : UInt8) : bits .xor .u8 (x.toNat : Int) (y.toNat : Int) = ((x ^^^ y).toNat : Int) := by
  show IntKind.u8.wrap ((BitVec.ofInt 8 (x.toNat : Int) ^^^ BitVec.ofInt 8 (y.toNat : Int)).toNat : Int) = _
  have h : ∀ z : UInt8, BitVec.ofInt 8 (z.toNat : Int) = z.toBitVec := fun z => by
    apply BitVec.eq_of_toNat_eq
    have := UInt8.toNat_lt z
    simp
  rw [h, h, ← UInt8.toBitVec_xor]
  show IntKind.u8.wrap ((x ^^^ y).toNat : Int) = _
  have := UInt8.toNat_lt (x ^^^ y)
  exact IntWalk.u8_in _ (by omega)
set_option maxRecDepth 100000 in
set_option maxHeartbeats 1000000 in
theorem next_law (b : List UInt8) (a : Option Addr) (cap : Nat) (c d : W32) (x y : UInt8) (W : World) (hc : b.length ≤ cap) (hm : cap ≤ maxLen) (hr : RB W a b) :
    Calls Try.prog 5 #[.slice a b.length cap, .int .u32 (c.toNat : Int), .int .u32 (d.toNat : Int), .int .u8 (x.toNat : Int), .int .u8 (y.toNat : Int)] W (Yes W) := by
  have HR := Lib.hid hr
  clear hr
  unfold maxLen at hm
  have hb : (b.length : Int) ≤ 9223372036854775807 := by omega
  go_enter Try.func5, Try.ntmps5
  go_wp2_with fail
  refine (small_any _).mono ?_
  rintro en w1 ⟨rfl, B1⟩
  have R1 := Lib.hid (HR.out.below B1)
  clear HR
  by_cases hl : 2000 < (b.length : Int)
  · go_wp2
    go_ret
    exact ⟨rfl, B1⟩
  go_wp2_with fail
  go_loop [12, 13] (fun v i => ∃ k : Nat, i = .int .i64 k ∧ k ≤ b.length ∧ v = .int .u32 ((go (BitVec.allOnes 32) (b.take k)).toNat : Int)) (fun _ i => b.length - (intOf i).toNat)
  case atStart => exact ⟨0, rfl, by omega, rfl⟩
  case round =>
    obtain ⟨k, rfl, hk, rfl⟩ := hrel
    by_cases hlt : k < b.length
    · obtain ⟨g, off, rfl, _, hcell⟩ := R1.out k hlt
      have hs : Hid (go (BitVec.allOnes 32) (b.take (k + 1)) = next (go (BitVec.allOnes 32) (b.take k)) (b.getD k 0)) := by rw [take_snoc b k 0 hlt, go_snoc]; rfl
      generalize b.getD k 0 = z at hcell hs
      generalize go (BitVec.allOnes 32) (b.take k) = u at hs
      unfold byteV at hcell
      have hlt' : (k : Int) < (b.length : Int) := by omega
      have h0 : (0 : Int) ≤ (k : Int) := by omega
      go_wp2_with (go_at_call 30; refine (next_any _ _ _).mono ?_; rintro e w' ⟨rfl, rfl⟩)
      go_round
      case rel => exact ⟨k + 1, rfl, hlt, by rw [hs.out]⟩
      case measure => simp [intOf]; omega
    · have hkl : k = b.length := by omega
      have hs : Hid (sum b = ~~~ (go (BitVec.allOnes 32) (b.take k))) := by rw [hkl, List.take_length]; rfl
      generalize go (BitVec.allOnes 32) (b.take k) = u at hs
      have hn := Lib.hid (xor_ones u)
      have hu := u.isLt
      have hlt' : ¬ (k : Int) < (b.length : Int) := by omega
      clear hkl
      go_wp2_with fail
      refine (sum_any b a cap _ (by omega) R1.out).mono ?_
      rintro en w2 ⟨rfl, rfl⟩
      rw [hs.out, ← hn.out]
      go_wp2_with fail
      rw [bits_xor, xor8]
      refine (next_any _ _ _).mono ?_
      rintro en w3 ⟨rfl, rfl⟩
      rw [next_xor, ← bits_xor]
      go_wp2_with (go_at_call 30; refine (next_any _ _ _).mono ?_; rintro e w' ⟨rfl, rfl⟩)
      go_ret
      exact ⟨rfl, B1⟩
end Go.Proofs.Ytopemjbakpahfaa
/-
  When the six bytes ahead are those of the frame: plain Lean, no condition.
-/
namespace Go.Proofs.Ytopemjbakpahfaa.Crc
theorem cut_match {b : List UInt8} {n : Nat} (h6 : 6 ≤ b.length) (hn : num (b.take 2) = n) (h1 : n ≤ 4096) (h2 : n ≤ b.length - 6)
    (h : ∀ i, i < 6 → (frame ((b.drop 6).take n)).getD i 0 = b.getD i 0) : cut b = some ((b.drop 6).take n, (b.drop 6).drop n) := by
  have ht : head ((b.drop 6).take n) = b.take 6 := by
    apply List.ext_getElem
    · rw [head_length]; simp; omega
    · intro i hi1 hi2
      rw [head_length] at hi1
      have := h i hi1
      simp only [List.getD, frame] at this
      rw [List.getElem?_append_left (by rw [head_length]; exact hi1), List.getElem?_eq_getElem (by rw [head_length]; exact hi1), List.getElem?_eq_getElem (by omega)] at this
      simpa using this
  have hs : be 4 (sum ((b.drop 6).take n)).toNat = (b.drop 2).take 4 := by
    have h3 : (head ((b.drop 6).take n)).drop 2 = (b.take 6).drop 2 := by rw [ht]
    rw [head, List.drop_append, be_length] at h3
    simp only [Nat.sub_self, List.drop_zero] at h3
    rw [List.drop_eq_nil_of_le (by rw [be_length]; omega), List.nil_append] at h3
    rw [h3, List.drop_take]
  unfold cut
  rw [hn, if_neg (by omega), if_neg (by omega), if_pos]
  rw [← hs, num_be]
  exact (Nat.mod_eq_of_lt (by have := (sum ((b.drop 6).take n)).isLt; omega)).symm
theorem cut_miss {b : List UInt8} {n i : Nat} (hn : num (b.take 2) = n) (hi : i < 6) (h : (frame ((b.drop 6).take n)).getD i 0 ≠ b.getD i 0) : cut b = none := by
  cases hc : cut b with
  | none => rfl
  | some q =>
    exfalso
    obtain ⟨x, r⟩ := q
    have hs := cut_some hc
    have hx : x = (b.drop 6).take n := by
      unfold cut at hc
      split at hc
      · cases hc
      · split at hc
        · cases hc
        · split at hc
          · simp only [Option.some.injEq, Prod.mk.injEq] at hc
            rw [← hc.1, hn]
          · cases hc
    rw [← hx] at h
    apply h
    have hb := hs.2.1
    have hl : (frame x).length = x.length + 6 := frame_length x
    have : b.getD i 0 = (frame x ++ r).getD i 0 := by rw [← hb]
    rw [this]
    simp only [List.getD]
    rw [List.getElem?_append_left (by omega)]
theorem num_two {b : List UInt8} (h : 2 ≤ b.length) : num (b.take 2) = (b.getD 0 0).toNat * 256 + (b.getD 1 0).toNat := by
  match b, h with
  | x :: y :: l, _ => simp [num]; omega
end Go.Proofs.Ytopemjbakpahfaa.Crc
/-
  What a frame with a byte less, or with a byte changed, is: plain Lean, no program. No condition beyond the lengths.
-/
namespace Go.Proofs.Ytopemjbakpahfaa.Crc
theorem frame_take2 (l r : List UInt8) : (frame l ++ r).take 2 = be 2 l.length := by simp [frame, head, List.append_assoc, be_length]
theorem be2_inj {m n : Nat} (hm : m < 65536) (hn : n < 65536) (h : be 2 m = be 2 n) : m = n := by
  have := congrArg num h
  rw [num_be, num_be] at this
  omega
theorem be4_inj {x y : W32} (h : be 4 x.toNat = be 4 y.toNat) : x = y := by
  have := congrArg num h
  rw [num_be, num_be] at this
  apply BitVec.eq_of_toNat_eq
  have := x.isLt
  have := y.isLt
  omega
theorem frame_drop6 (l : List UInt8) : (frame l).drop 6 = l := by rw [frame, List.drop_append, head_length, List.drop_eq_nil_of_le (by rw [head_length]; omega)]; simp
theorem frame_take6 (l : List UInt8) : (frame l).take 6 = head l := by rw [frame, List.take_append, head_length, List.take_of_length_le (by rw [head_length]; omega)]; simp
theorem cut_len {x h r l : List UInt8} (hl : l.length ≤ 4096) (hx : x.take 2 = be 2 l.length) (hc : cut x = some (h, r)) : h.length = l.length := by
  obtain ⟨h1, rfl, _⟩ := cut_some hc
  rw [frame_take2] at hx
  exact be2_inj (by omega) (by omega) hx
theorem cut_less {l : List UInt8} (hl : l.length ≤ 4096) : cut ((frame l).take (l.length + 5)) = none := by
  cases hc : cut ((frame l).take (l.length + 5)) with
  | none => rfl
  | some q =>
    exfalso
    obtain ⟨h, r⟩ := q
    have h2 : ((frame l).take (l.length + 5)).take 2 = be 2 l.length := by
      rw [List.take_take, show min 2 (l.length + 5) = 2 by omega]
      simpa using frame_take2 l []
    have h3 := cut_len hl h2 hc
    have h4 := (cut_some hc).2.2
    rw [List.length_take, frame_length] at h4
    omega
theorem cut_changed {l : List UInt8} (hl : l.length ≤ 4096) {i : Nat} (hi2 : 2 ≤ i) (hi : i < l.length + 6) {y : UInt8} (hy : y ≠ 0) : cut ((frame l).set i ((frame l).getD i 0 ^^^ y)) = none := by
  have hfl := frame_length l
  have hz : ∀ z : UInt8, z = z ^^^ y → y = 0 := by
    intro z h
    have : z ^^^ z = z ^^^ (z ^^^ y) := by rw [← h]
    simpa [← UInt8.xor_assoc] using this.symm
  cases hc : cut ((frame l).set i ((frame l).getD i 0 ^^^ y)) with
  | none => rfl
  | some q =>
    exfalso
    obtain ⟨h, r⟩ := q
    have h2 : ((frame l).set i ((frame l).getD i 0 ^^^ y)).take 2 = be 2 l.length := by
      rw [List.take_set_of_le (by omega)]
      simpa using frame_take2 l []
    have h3 := cut_len hl h2 hc
    obtain ⟨h4, h5, h6⟩ := cut_some hc
    rw [List.length_set, hfl] at h6
    have hr : r = [] := List.eq_nil_of_length_eq_zero (by omega)
    rw [hr, List.append_nil] at h5
    rcases Nat.lt_or_ge i 6 with h7 | h7
    · have h8 := congrArg (List.drop 6) h5
      rw [List.drop_set_of_lt h7, frame_drop6, frame_drop6] at h8
      rw [← h8] at h5
      have h9 := congrArg (fun x => x.getD i 0) h5
      simp only [List.getD, List.getElem?_set_self (show i < (frame l).length by omega), Option.getD_some] at h9
      exact hy (hz _ h9.symm)
    · have h8 := congrArg (List.take 6) h5
      rw [List.take_set_of_le h7, frame_take6, frame_take6] at h8
      have hs : sum l = sum h := by
        have := congrArg (List.drop 2) h8
        unfold head at this
        rw [List.drop_left' (be_length 2 _), List.drop_left' (be_length 2 _)] at this
        exact be4_inj this
      have h9 := congrArg (List.drop 6) h5
      rw [List.drop_set, if_neg (by omega), frame_drop6, frame_drop6] at h9
      have hj : i - 6 < l.length := by omega
      have hg : (frame l).getD i 0 = l[i - 6] := by
        have : (frame l).getD i 0 = ((frame l).drop 6).getD (i - 6) 0 := by simp [List.getD, show 6 + (i - 6) = i by omega]
        rw [this, frame_drop6]
        simp [List.getD, hj]
      rw [hg] at h9
      have e1 : l = l.take (i - 6) ++ [l[i - 6]] ++ l.drop (i - 6 + 1) := by simp
      have e2 : l.set (i - 6) (l[i - 6] ^^^ y) = l.take (i - 6) ++ [l[i - 6] ^^^ y] ++ l.drop (i - 6 + 1) := by
        rw [List.set_eq_take_append_cons_drop, if_pos hj]; simp
      have h10 : sum (l.take (i - 6) ++ [l[i - 6]] ++ l.drop (i - 6 + 1)) = sum (l.take (i - 6) ++ [l[i - 6] ^^^ y] ++ l.drop (i - 6 + 1)) := by
        rw [← e1, ← e2, h9]; exact hs
      have h11 := apart (by simp) (by simp) h10
      simp only [List.cons.injEq, and_true] at h11
      exact hy (hz _ h11)
end Go.Proofs.Ytopemjbakpahfaa.Crc
/-
  CrcFrames: the walk, for all bytes. No condition.
-/
namespace Go.Proofs.Ytopemjbakpahfaa
open Go.RowKit Crc
/-- One byte of a row is stored: how the row reads then. -/
theorem RB.store {w : World} {g : Nat} {l : List UInt8} (h : RB w (some ⟨g, 0, none⟩) l) (i : Nat) (z : UInt8) : RB (w.setCell ⟨g, i, none⟩ (.int .u8 (z.toNat : Int))) (some ⟨g, 0, none⟩) (l.set i z) := by
  intro j hj
  rw [List.length_set] at hj
  obtain ⟨g', off, e, hg, hc⟩ := h j hj
  simp at e
  obtain ⟨rfl, rfl⟩ := e
  refine ⟨g, 0, rfl, by simpa using hg, ?_⟩
  rw [Nat.zero_add] at hc ⊢
  by_cases hij : i = j
  · subst hij
    rw [World.cell?_setCell_same' _ _ _ (by rw [hc]; rfl)]
    simp [byteV, List.getD, hj]
  · rw [World.cell?_setCell_other _ _ _ _ (by simp)]
    rw [hc]
    simp [List.getD, hij]
theorem own_form {w : World} {base n : Nat} {t : TypeId} {v : Value} {xs : List Value} (h : w.ownsRow base t 1 v n xs) (h0 : 0 < n) : ∃ g cap, v = .slice (some ⟨g, 0, none⟩) n cap ∧ n ≤ cap ∧ cap ≤ maxLen ∧ base ≤ g ∧ g < w.heap.size ∧ ∀ o, w.frozen? ⟨g, o, none⟩ = false := by
  rcases h.2 with ⟨_, h1⟩ | ⟨g, cap, cur, rfl, hb, hg, h1, h2, _⟩
  · omega
  · exact ⟨g, cap, rfl, h1, h2, hb, lt_of_block hg, fun o => by simp [World.frozen?, hg]⟩
theorem frame_app_nil (l : List UInt8) : (frame l).take (frame l).length = frame l := List.take_length
set_option maxRecDepth 100000 in
set_option maxHeartbeats 2000000 in
theorem frames_law (b : List UInt8) (a : Option Addr) (cap : Nat) (n : Int) (y : UInt8) (W : World) (hc : b.length ≤ cap) (hm : cap ≤ maxLen) (hn : a = none → cap = 0) (hr : RB W a b) (hw : (Lit.int .i64 n).wf = true) :
    Calls Try.prog 6 #[.slice a b.length cap, .int .i64 n, .int .u8 (y.toNat : Int)] W (Yes W) := by
  have HR := Lib.hid hr
  clear hr
  unfold maxLen at hm
  have hb : (b.length : Int) ≤ 9223372036854775807 := by omega
  go_enter Try.func6, Try.ntmps6
  go_wp2_with fail
  refine (small_any _).mono ?_
  rintro en w1 ⟨rfl, B1⟩
  have R1 := Lib.hid (HR.out.below B1)
  clear HR
  by_cases hl : 1000 < (b.length : Int)
  · go_wp2
    go_ret
    exact ⟨rfl, B1⟩
  have hl4 : b.length ≤ 4096 := by omega
  go_wp2_with fail
  refine (frame_any b a cap _ hl4 hc hn R1.out).mono ?_
  rintro en w2 ⟨v2, rfl, o2, b2⟩
  have B2 := below_on B1 b2
  have hfl := frame_length b
  have hfi : ((frame b).length : Int) = (b.length : Int) + 6 := by omega
  obtain ⟨g2, c2, rfl, hc2, hm2, hg2, hgl, hfr⟩ := own_form o2 (by omega)
  obtain ⟨_, _, e, _, _, r2⟩ := RB.of_owns o2
  cases e
  unfold maxLen at hm2
  have R2 := Lib.hid r2
  have FL := Lib.hid hfl
  clear r2 hfl
  go_wp2_with fail
  refine (Cut_at ((frame b).take (b.length + 5)) _ _ _ _ (by rw [List.length_take, FL.out]; omega) (by rw [List.length_take, FL.out]; omega) (by rw [List.length_take, FL.out]; omega) (R2.out.take _)).mono ?_
  rintro en w3 ⟨b3, ⟨_, rfl⟩ | ⟨h, r, v4, v5, e, _⟩⟩
  rotate_left
  · rw [cut_less hl4] at e; cases e
  have B3 := below_on B2 b3
  have R3 := Lib.hid (R2.out.below b3)
  have hfr3 := below_free hfr b3 hgl
  have hgl3 := Nat.lt_of_lt_of_le hgl b3.size
  clear R2 hfr o2 b3 b2
  by_cases h2 : n < 2
  · go_wp2
    go_ret
    exact ⟨rfl, B3⟩
  by_cases hnL : (b.length : Int) + 6 ≤ n
  · go_wp2
    go_ret
    exact ⟨rfl, B3⟩
  by_cases hy : y = 0
  · subst hy
    have hy0 : ((0 : UInt8).toNat : Int) = 0 := rfl
    go_wp2
    go_ret
    exact ⟨rfl, B3⟩
  have hyn : ((y.toNat : Int) == 0) = false := by
    rw [beq_eq_false_iff_ne]
    intro e
    exact hy (UInt8.toNat_inj.1 (by simpa using e))
  obtain ⟨i, rfl⟩ : ∃ i : Nat, n = (i : Int) := ⟨n.toNat, by omega⟩
  have hi2 : 2 ≤ i := by omega
  have hiL : i < b.length + 6 := by omega
  obtain ⟨g', off', e, hg', hcell⟩ := R3.out i (by rw [FL.out]; omega)
  simp only [Option.some.injEq, Addr.mk.injEq, and_true] at e
  obtain ⟨rfl, rfl⟩ := e
  have CH := Lib.hid (cut_changed hl4 hi2 hiL hy)
  have LZ : Hid (((frame b).set i ((frame b).getD i 0 ^^^ y)).length = b.length + 6) := by show _ = _; rw [List.length_set]; exact FL.out
  have HX := Lib.hid (xor8 ((frame b).getD i 0) y)
  have RS := Lib.hid (R3.out.store i ((frame b).getD i 0 ^^^ y))
  unfold byteV at hcell
  generalize (frame b).getD i 0 = z at hcell CH LZ HX RS
  have hff := hfr3 i
  rw [Nat.zero_add] at hcell
  go_wp2_with fail
  rw [HX.out]
  refine (Cut_at _ _ _ _ _ (by rw [LZ.out]; omega) (by rw [LZ.out]; omega) (by rw [LZ.out]; omega) RS.out).mono ?_
  rintro en w4 ⟨b4, ⟨_, rfl⟩ | ⟨h, r, v4, v5, e, _⟩⟩
  rotate_left
  · rw [CH.out] at e; cases e
  have B4 := below_on (B3.setCell (p := ⟨g2, i, none⟩) (by have := B1.size; simp; omega) (.int .u8 ((z ^^^ y).toNat : Int))) b4
  go_wp2
  go_ret
  exact ⟨rfl, B4⟩
end Go.Proofs.Ytopemjbakpahfaa
/-
  Appending bytes to bytes of the call's own as one step of a region whose order is drawn. No condition but that the lengths are small.
-/
namespace Go.Proofs.Ytopemjbakpahfaa
open Go.RowKit Crc
theorem RB.zero {w : World} {a : Option Addr} {l : List UInt8} (h : l.length = 0) : RB w a l := fun i hi => by omega
theorem step_append_bytes {ops : Array Oper} {o : Oper} {a : Act} {w : World} {K : Act → World → Prop} {Q : Exit → Act → World → Prop} {E : Prop}
    (hg : o.guard = none) (s x : Operand) (hop : o.op = Op.call { callee := Callee.builtin Builtin.append, args := #[s, x], argTypes := #[22, 22] })
    (base : Nat) (v : Value) (l m : List UInt8) (c n' : Nat) (hs : a.eval s = v) (hown : w.ownsRow base 5 1 v l.length (l.map byteV)) (ad : Addr) (hx : a.eval x = .slice (some ad) n' c) (hn' : m.length = n')
    (hr : RB w (some ad) m) (hb : l.length + m.length ≤ 1000000000) (b3 : base ≤ w.heap.size)
    (hK : ∀ v' w', w'.ownsRow base 5 1 v' (l ++ m).length ((l ++ m).map byteV) → w.grownBy w' v.ownBlock → (v'.ownBlock = v.ownBlock ∨ v'.ownBlock = some w.heap.size) → K (a.put o.dst v') w') :
    if Region.wanted o (yielded ops a.tmps) = true then Oper.wp Try.prog o a w K Q else E := by
  subst hn'
  have hw : Region.wanted o (yielded ops a.tmps) = true := by simp [Region.wanted, hg]
  rw [if_pos hw]
  obtain ⟨i0, hi, hz0, hz1, hz2⟩ := info_parts info5
  obtain ⟨v', w', hrun, r1, r2, _, r3⟩ := run_append_own_at (P := Try.prog) w base 22 o.type 5 i0 (.int .u8 0) 1 1 Try.underlying22 hi hz0 hz1 hz2 rfl (by decide) v l.length _ hown ad m.length c (m.map byteV) (by simp) hr.news (oneCell_bytes m) (by unfold maxLen; omega) (by omega) b3
  unfold Oper.wp
  simp [execOp, hop, resolve, invoke, builtin, hs, hx, hrun, Result.andThen]
  exact hK v' w' (by simpa using r1) r2 r3
/-- A row that another row's append leaves alone. -/
theorem owns_apart {A B : World} {base e n s : Nat} {u : Value} {xs : List Value} {row : Option Nat} (h : A.ownsRow base e s u n xs) (hg : A.grownBy B row) (hr : u.ownBlock = none ∨ u.ownBlock ≠ row) : B.ownsRow base e s u n xs := h.kept hg hr
theorem lit_block (g n c : Nat) : (Value.slice (some ⟨g, 0, none⟩) n c).ownBlock = some g := rfl
end Go.Proofs.Ytopemjbakpahfaa
