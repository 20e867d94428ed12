/-
  The contract of All: what all frames hold, for all bytes.
-/
import Derived.Test.YtopemjbakpahfaaBoxes
import Derived.Shelf.RegionOpen
namespace Go.Proofs.Ytopemjbakpahfaa
open Go.RowKit Crc
attribute [local go_sem] Oper.semAt_some
theorem frames_any (v : Value) (w : World) (a : Option Addr) (n c : Nat) (hv : v = .slice a n c) : Calls Try.prog 91 #[v] w fun en w' => en = .returned (.func (.func 103) #[] #[.pointer (some ⟨w.heap.size, 0, none⟩)]) ∧ w' = w.alloc (.cells #[v] 22) := by
  subst hv
  go_enter Try.func91, Try.ntmps91
  go_wp2
  go_ret
  exact ⟨rfl, rfl⟩
theorem info22 : (Try.prog.info? 22).map (fun i => (i.zero, i.size, i.bytes)) = some (some (.slice none 0 0), 1, 24) := by kernel_rfl
/-- The lists that All hands back: new memory. -/
def RowsOf (W : World) (base : Nat) (v : Value) (L : List (List UInt8)) : Prop :=
  ∃ vs : List Value, W.ownsRow base 22 1 v vs.length vs ∧ vs.length = L.length ∧ ∀ (i : Nat) (u : Value) (l : List UInt8), vs[i]? = some u → L[i]? = some l → W.ownsRow base 5 1 u l.length (l.map byteV)
def AllOf (b : List UInt8) (w : World) (en : Ending) (w' : World) : Prop :=
  Below w.heap.size w w' ∧ ∃ v, en = .returned (.tuple #[v, .int .i64 ((all b).2 : Int)]) ∧ RowsOf w' w.heap.size v (all b).1
def AllI (b : List UInt8) (w0 : World) (v0 : Value) (pre : List Piece) (W : World) : Prop :=
  Boxed W w0.heap.size 22 v0 ∧ (∃ v, Boxed W (w0.heap.size + 1) 56 v ∧ RowsOf W (w0.heap.size + 4) v (pre.map Piece.h)) ∧
  Boxed W (w0.heap.size + 2) 3 (.int .i64 ((b.length : Int) - ((leftOf b pre).length : Int))) ∧ w0.heap.size + 4 ≤ W.heap.size ∧ Below w0.heap.size w0 W ∧
  (leftOf b pre).length ≤ b.length ∧ all b = (pre.map Piece.h ++ (all (leftOf b pre)).1, b.length - (leftOf b pre).length + (all (leftOf b pre)).2)
theorem owns_grown {A B : World} {base e n : Nat} {v : Value} {xs : List Value} {row : Option Nat} (h : A.ownsRow base e 1 v n xs) (hg : A.grownBy B row) (hr : ∀ r, row = some r → r < base ∨ ∃ o : Obj, A.heap[r]? = some o ∧ o.isCells = false) : B.ownsRow base e 1 v n xs := by
  refine h.kept hg ?_
  rcases h.2 with ⟨rfl, _⟩ | ⟨g, cap, cur, rfl, hb, hgb, _⟩
  · exact .inl rfl
  · refine .inr fun e' => ?_
    obtain h1 | ⟨o, h1, h2⟩ := hr g (by rw [← e']; rfl)
    · omega
    · rw [hgb] at h1; cases h1; cases h2
theorem allI_own (b : List UInt8) (w0 : World) (v0 : Value) (s : List Piece) (A B : World) (row : Option Nat) (h : AllI b w0 v0 s A) (hg : A.grownBy B row)
    (hr : ∀ r, row = some r → r = w0.heap.size + 3 ∨ (w0.heap.size + 4 ≤ r ∧ ∃ o : Obj, A.heap[r]? = some o ∧ o.isCells = false)) : AllI b w0 v0 s B := by
  obtain ⟨h1, ⟨v, h2, vs, h3, h4, h5⟩, h6, h7, h8, h9⟩ := h
  have ne : ∀ k, k < w0.heap.size + 3 → some k ≠ row := fun k hk e => by have := hr k e.symm; omega
  have ro : ∀ r, row = some r → r < w0.heap.size + 4 ∨ ∃ o : Obj, A.heap[r]? = some o ∧ o.isCells = false := fun r e => (hr r e).elim (fun h => .inl (by omega)) (fun h => .inr h.2)
  exact ⟨h1.kept hg (ne _ (by omega)), ⟨v, h2.kept hg (ne _ (by omega)), vs, owns_grown h3 hg ro, h4, fun i u l e1 e2 => owns_grown (h5 i u l e1 e2) hg ro⟩, h6.kept hg (ne _ (by omega)), Nat.le_trans h7 hg.size,
    h8.grown hg h8.size (fun k e => by have := hr k e; omega), h9⟩
def AllRound (b : List UInt8) (w0 : World) (v0 : Value) (pre : List Piece) (x : Piece) (W W' : World) : Prop :=
  KeepsOthers W W' ∧ Keep w0.heap.size (w0.heap.size + 3) W W' ∧ AllI b w0 v0 (pre ++ [x]) W'
theorem all_round (b : List UInt8) (w0 : World) (v0 : Value) (pre : List Piece) (x : Piece) (W A w1 : World) (vo v' vc nv : Value) (vs : List Value)
    (hI1 : Boxed W w0.heap.size 22 v0) (hvo : Boxed W (w0.heap.size + 1) 56 vo) (hrow : W.ownsRow (w0.heap.size + 4) 22 1 vo vs.length vs) (hrl : vs.length = (pre.map Piece.h).length)
    (hrs : ∀ (i : Nat) (u : Value) (l : List UInt8), vs[i]? = some u → (pre.map Piece.h)[i]? = some l → W.ownsRow (w0.heap.size + 4) 5 1 u l.length (l.map byteV))
    (hI3 : Boxed W (w0.heap.size + 2) 3 nv) (hI4 : w0.heap.size + 4 ≤ W.heap.size) (hI5 : Below w0.heap.size w0 W)
    (hI6 : (leftOf b pre).length ≤ b.length) (hI7 : all b = (pre.map Piece.h ++ (all (leftOf b pre)).1, b.length - (leftOf b pre).length + (all (leftOf b pre)).2))
    (g1 : cut (leftOf b pre) = some (x.h, x.r)) (hA : Below W.heap.size W A) (oc : A.ownsRow W.heap.size 5 1 vc x.h.length (x.h.map byteV))
    (hown : w1.ownsRow (w0.heap.size + 4) 22 1 v' (vs.length + 1) (vs ++ [vc])) (hgrow : A.grownBy w1 vo.ownBlock) :
    (Boxed w1 (w0.heap.size + 1) 56 vo ∧ Boxed (w1.setCell ⟨w0.heap.size + 1, 0, none⟩ v') w0.heap.size 22 v0 ∧ Boxed (w1.setCell ⟨w0.heap.size + 1, 0, none⟩ v') (w0.heap.size + 2) 3 nv) ∧
    AllRound b w0 v0 pre x W ((w1.setCell ⟨w0.heap.size + 1, 0, none⟩ v').setCell ⟨w0.heap.size + 2, 0, none⟩ (.int .i64 ((b.length : Int) - (x.r.length : Int)))) := by
  have gA := grown_below hA
  have nn : ∀ k : Nat, some k ≠ (none : Option Nat) := fun k e => by cases e
  have rn : RowOf W none 22 := fun r e => by cases e
  have hrowA := owns_below hrow hA
  have ra := rowOf_owns hrowA
  have b1 := box_at (hI1.kept gA (nn _)) hrowA hgrow (by omega)
  have b2 := box_at (hvo.kept gA (nn _)) hrowA hgrow (by omega)
  have b3 := box_at (hI3.kept gA (nn _)) hrowA hgrow (by omega)
  have b1' := b1.other (B' := w0.heap.size + 1) (by omega) v'
  have b2' := b2.set v'
  have b3' := b3.other (B' := w0.heap.size + 1) (by omega) v'
  refine ⟨⟨b2, b1', b3'⟩, ?_, ?_, ?_⟩
  · exact (((keepsOthers_row gA rn).trans (keepsOthers_row hgrow ra)).trans (KeepsOthers.setCell _ _ _)).trans (KeepsOthers.setCell _ _ _)
  · refine ⟨?_, ?_⟩
    · exact (((hA.mono (by omega)).grown hgrow (by have := hA.size; omega) (fun k hk => by have := (hrowA.lt k hk).1; omega)).setCell (p := ⟨w0.heap.size + 1, 0, none⟩) (by simp) _).setCell (p := ⟨w0.heap.size + 2, 0, none⟩) (by simp) _
    · rw [Below.heap_setCell _ _ _ _ (by simp), Below.heap_setCell _ _ _ _ (by simp)]
      have h1 := hgrow.block (w0.heap.size + 3) (by have := hA.size; omega) (fun e => by have := (hrowA.lt _ e.symm).1; omega)
      rw [h1]
      exact hA.block _ (by omega)
  · have o1 := owns_other hown (grownBy_setCell' w1 (w0.heap.size + 1) v') (rowOf_box b2) (by decide)
    have o2 := owns_other o1 (grownBy_setCell' _ (w0.heap.size + 2) (.int .i64 ((b.length : Int) - (x.r.length : Int)))) (rowOf_box b3') (by decide)
    have each : ∀ {u : Value} {l : List UInt8} {base : Nat}, A.ownsRow base 5 1 u l.length (l.map byteV) → ((w1.setCell ⟨w0.heap.size + 1, 0, none⟩ v').setCell ⟨w0.heap.size + 2, 0, none⟩ (.int .i64 ((b.length : Int) - (x.r.length : Int)))).ownsRow base 5 1 u l.length (l.map byteV) := fun h =>
      owns_other (owns_other (owns_other h hgrow ra (by decide)) (grownBy_setCell' w1 (w0.heap.size + 1) v') (rowOf_box b2) (by decide)) (grownBy_setCell' _ (w0.heap.size + 2) (.int .i64 ((b.length : Int) - (x.r.length : Int)))) (rowOf_box b3') (by decide)
    refine ⟨b1'.other (by omega) _, ⟨v', b2'.other (by omega) _, vs ++ [vc], by simpa using o2, by simp [hrl], ?_⟩, ?_, ?_, ?_, ?_, ?_⟩
    · rw [List.map_append, List.map_cons, List.map_nil]
      exact row_snoc hrl (fun i u l e1 e2 => each (owns_below (hrs i u l e1 e2) hA)) (each oc) hI4
    · rw [leftOf_snoc]; exact b3'.set _
    · have := hA.size; have := hgrow.size; simp; omega
    · exact ((((hI5.trans (hA.mono (by omega)))).grown hgrow (by have := hA.size; omega) (fun k hk => by have := (hrowA.lt k hk).1; omega)).setCell (p := ⟨w0.heap.size + 1, 0, none⟩) (by simp) _).setCell (p := ⟨w0.heap.size + 2, 0, none⟩) (by simp) _
    · rw [leftOf_snoc]; have := (cut_some g1).2.2; omega
    · rw [leftOf_snoc, hI7, all_some g1]
      have := (cut_some g1).2.2
      simp only [Prod.mk.injEq, List.map_append, List.map_cons, List.map_nil, List.append_assoc, List.cons_append, List.nil_append, true_and]
      omega
set_option maxRecDepth 100000 in
set_option maxHeartbeats 2000000 in
theorem All_any (b : List UInt8) (a : Option Addr) (cap : Nat) (w : World) (hc : b.length ≤ cap) (hb : b.length ≤ 1000000) (hn : a = none → cap = 0) (hr : RB w a b) : Calls Try.prog 46 #[.slice a b.length cap] w (AllOf b w) := by
  refine (callsIn_wide (n := 3)).1 ?_
  refine callsIn_of_wp_marks Try.func46 rfl trivial ?_ rfl
  simp only [Try.ntmps46, List.size_toArray, List.length_cons, List.length_nil, Nat.reduceAdd, Nat.reduceSub, Array.replicate_succ, Array.replicate_zero, List.push_toArray, List.append_toArray, List.nil_append, List.cons_append]
  have HR := Lib.hid hr
  clear hr
  gi_wp2_with fail
  refine ⟨trivial, (callsIn_wide.2 (frames_any _ _ a b.length cap rfl)).mono ?_⟩
  rintro en w1 ⟨rfl, rfl⟩
  gi_wp2_with fail
  obtain ⟨W0, hW0⟩ : ∃ W0, (((w.alloc (Obj.cells #[Value.slice a b.length cap] 22)).alloc (Obj.cells #[Value.slice none 0 0] 56)).alloc (Obj.cells #[Value.int IntKind.i64 0] 3)).alloc (Obj.cells #[Value.slice a b.length cap] 22) = W0 := ⟨_, rfl⟩
  have hsz : W0.heap.size = w.heap.size + 4 := by rw [← hW0]; simp
  have hI0 : AllI b w (.slice a b.length cap) [] W0 := by
    rw [← hW0]
    refine ⟨(((Boxed.new w 22 _).alloc _).alloc _).alloc _, ⟨.slice none 0 0, ?_, [], World.ownsRow_nil _ _ _ _, rfl, fun i u l h => (by simp at h)⟩, ?_, by simp, ?_, by simp [leftOf], by simp [leftOf]⟩
    · have := ((Boxed.new (w.alloc (Obj.cells #[Value.slice a b.length cap] 22)) 56 (.slice none 0 0)).alloc (Obj.cells #[Value.int IntKind.i64 0] 3)).alloc (Obj.cells #[Value.slice a b.length cap] 22)
      simpa only [World.size_alloc] using this
    · have := (Boxed.new ((w.alloc (Obj.cells #[Value.slice a b.length cap] 22)).alloc (Obj.cells #[Value.slice none 0 0] 56)) 3 (.int .i64 0)).alloc (Obj.cells #[Value.slice a b.length cap] 22)
      simpa [leftOf] using this
    · exact ((((Below.refl _ w).alloc (Nat.le_refl _) _).alloc (by simp) _).alloc (by simp; omega) _).alloc (by simp; omega) _
  have hBx : Boxed W0 (w.heap.size + 3) 22 (.slice a b.length cap) := by
    rw [← hW0]
    have := Boxed.new (((w.alloc (Obj.cells #[Value.slice a b.length cap] 22)).alloc (Obj.cells #[Value.slice none 0 0] 56)).alloc (Obj.cells #[Value.int IntKind.i64 0] 3)) 22 (.slice a b.length cap)
    simp only [World.size_alloc, Nat.add_assoc, Nat.reduceAdd] at this
    exact this
  simp only [Nat.add_assoc, Nat.reduceAdd]
  rw [hW0]
  refine range_cell rfl (by omega) (gf := 103) (lb := #[.pointer (some ⟨w.heap.size + 3, 0, none⟩)]) rfl trivial (enters_of Try.func103 (by kernel_rfl) rfl) (n₀ := w.heap.size) (Bn := w.heap.size + 3) (by omega) (by omega)
    (frames1_in b hb w W0 (w.heap.size + 3) _ (by omega) hI0.2.2.2.2.1 _ hBx ⟨a, cap, rfl, hc, hn, HR.out⟩) (fun _ => rfl)
    (AllI b w (.slice a b.length cap)) (fun s A B row h hg hr => allI_own b w _ s A B row h hg (fun r e => (hr r e).elim .inl (fun h => .inr ⟨by omega, h.2⟩))) hI0
    (fun x => { tmps := #[.slice a b.length cap, .pointer (some ⟨w.heap.size, 0, none⟩), .slice none 0 0, .int .i64 0, .pointer (some ⟨w.heap.size + 1, 0, none⟩), .pointer (some ⟨w.heap.size + 2, 0, none⟩), x.v1, x.v2, .slice a b.length cap, .func (.func 103) #[] #[.pointer (some ⟨w.heap.size + 3, 0, none⟩)], x.v1, x.v2, undef, undef, undef, undef, undef, undef, undef, undef, undef, undef, undef, undef], defers := [] }) ?assign ?body ?done
  case assign =>
    rintro l ⟨h, r, v1, v2⟩ W K hK
    dsimp only [Piece.enc] at hK ⊢
    gi_wp2
    exact hK
  case body =>
    obtain ⟨i0, hi, hz0, hz1, hz2⟩ := info_parts info22
    rintro l pre ⟨h, r, v1, v2⟩ W ⟨hI1, ⟨vo, hvo, vs, hrow, hrl, hrs⟩, hI3, hI4, hI5, hI6, hI7⟩ ⟨g1, g2, g3⟩ hsz2
    dsimp only at g1 g2 g3
    obtain ⟨c1, k1, rfl, q1, q2, q3⟩ := g2
    obtain ⟨c2, k2, rfl, q4, q5, q6⟩ := g3
    dsimp only
    have Q3 := Lib.hid (q3.below hI5)
    have G1 := Lib.hid g1
    have hh := (cut_some g1).1
    have hlen := (cut_some g1).2.2
    have hvl : vs.length ≤ 1000000 := by
      have h1 := all_len b
      rw [hI7] at h1
      simp at h1 hrl
      omega
    have hvd := hvo.kept (grown_below ((Below.refl _ W).drew)) (by simp)
    have hrd := owns_below hrow ((Below.refl _ W).drew)
    have hcd := hvd.cell
    have hfd := hvd.frozen
    have HRL := Lib.hid hrl
    clear q3 q6 g1 hrl
    gi_wp2
    have hm : Try.prog.follows .mixedOrders = true := by kernel_rfl
    refine wpIn_region_any hm ?_
    change wpAnyIn _ _ _ _ _ _ _ _ _ (World.drew _)
    repeat' (first
      | refine wpAnyIn_done (by decide +kernel) ?_ _
      | (refine wpAnyIn_ready (rs := [0, 1]) (by decide +kernel) (by simp) ?_; refine AllReadyIn.cons rfl (fun K hK => ?_) (AllReadyIn.cons rfl (fun K hK => ?_) AllReadyIn.nil))
      | (refine wpAnyIn_ready (rs := [0, 2]) (by decide +kernel) (by simp) ?_; refine AllReadyIn.cons rfl (fun K hK => ?_) (AllReadyIn.cons rfl (fun K hK => ?_) AllReadyIn.nil))
      | (refine wpAnyIn_ready (rs := [0, 3]) (by decide +kernel) (by simp) ?_; refine AllReadyIn.cons rfl (fun K hK => ?_) (AllReadyIn.cons rfl (fun K hK => ?_) AllReadyIn.nil))
      | (refine wpAnyIn_ready (rs := [0]) (by decide +kernel) (by simp) ?_; refine AllReadyIn.cons rfl (fun K hK => ?_) AllReadyIn.nil)
      | (refine wpAnyIn_ready (rs := [1]) (by decide +kernel) (by simp) ?_; refine AllReadyIn.cons rfl (fun K hK => ?_) AllReadyIn.nil)
      | (refine wpAnyIn_ready (rs := [2]) (by decide +kernel) (by simp) ?_; refine AllReadyIn.cons rfl (fun K hK => ?_) AllReadyIn.nil)
      | (refine wpAnyIn_ready (rs := [3]) (by decide +kernel) (by simp) ?_; refine AllReadyIn.cons rfl (fun K hK => ?_) AllReadyIn.nil)
      | (refine wpAnyIn_ready (rs := [4]) (by decide +kernel) (by simp) ?_; refine AllReadyIn.cons rfl (fun K hK => ?_) AllReadyIn.nil)
      | (refine wpAnyIn_ready (rs := [5]) (by decide +kernel) (by simp) ?_; refine AllReadyIn.cons rfl (fun K hK => ?_) AllReadyIn.nil)
      | (refine step_append_own _ (.tmp 12) (.tmp 15) 56 rfl (w.heap.size + 4) 22 i0 (.slice none 0 0) 1 24 Try.underlying56 hi hz0 hz1 hz2 rfl (by decide) _ _ _ rfl (hrow2.alloc _) ⟨w2.heap.size, 0, none⟩ 1 1 [_] rfl rfl (cell_one_new _ _ _) (by simp [Value.oneCell']) (by unfold maxLen; omega) (by omega) (by have := bc.size; simp at this ⊢; omega) ?_; intro v' w1 hown' hgrow _; obtain ⟨g', cap', rfl⟩ := ownsRow_succ hown'; have hv3 := box_at (hv2.alloc _) (hrow2.alloc _) hgrow (by omega); have hc3 := hv3.cell; have hf3 := hv3.frozen; refine hK _ _ ?_; clear hK K; go_simp)
      | (go_simp; refine ⟨trivial, (CallsIn.inRound l (callsIn_wide.2 (clone_any h c1 k1 _ (by omega) q1 q2 Q3.out.drew))).mono ?_⟩; rintro e w2 ⟨vc, rfl, oc, bc⟩; obtain ⟨ac, capc, rfl, _, _, _⟩ := RB.of_owns oc; have hv2 := hvd.kept (grown_below bc) (by simp); have hc2 := hv2.cell; have hf2 := hv2.frozen; have hrow2 := owns_below hrd bc; have hc2a := (hv2.alloc (.cells #[.slice ac h.length capc] 22)).cell; refine hK _ _ ?_; clear hK K)
      | (go_simp; refine hK _ _ ?_; clear hK K))
    all_goals
      have hA : Below W.heap.size W (w2.alloc (.cells #[.slice ac h.length capc] 22)) := ((Below.refl _ W).drew.trans bc).alloc (by have := bc.size; simpa using this) _
      have R := all_round b w (.slice a b.length cap) pre ⟨h, r, .slice c1 h.length k1, .slice c2 r.length k2⟩ W _ w1 vo _ _ _ vs hI1 hvo hrow HRL.out hrs hI3 hI4 hI5 hI6 hI7 G1.out hA (oc.alloc _) hown' hgrow
      obtain ⟨⟨_, hb1, hb3⟩, hR⟩ := R
      have e1 := hb1.cell
      have e3 := hb3.cell
      have e3f := hb3.frozen
      have HR2 := Lib.hid hR
      clear hR hA
      gi_wp2
      exact ⟨HR2.out.1.from _, HR2.out.2.1, HR2.out.2.2⟩
  case done =>
    rintro xs W hS ⟨hI1, ⟨vo, hvo, vs, hrow, hrl, hrs⟩, hI3, hI4, hI5, hI6, hI7⟩ hK
    gi_wp2
    have hm : Try.prog.follows .mixedOrders = true := by kernel_rfl
    have hvd := hvo.kept (grown_below ((Below.refl _ W).drew)) (by simp)
    have hcd := hvd.cell
    have hnd := (hI3.kept (grown_below ((Below.refl _ W).drew)) (by simp)).cell
    gi_region
    have hKd : W.drew.heap[W0.heap.size]? = some (.deferred (some [])) := hK
    have hrd := owns_below hrow ((Below.refl _ W).drew)
    have hBd : Below w.heap.size w (W.drew.putObj W0.heap.size (.deferred none)) := hI5.drew.trans (below_put _ (by omega) hKd)
    have HI := Lib.hid hI7
    clear hI7
    all_goals gi_wp2
    all_goals refine ⟨by simp, .inl ⟨_, _, rfl, run_takeDeferred hKd, ?_⟩⟩
    all_goals refine ⟨.tuple #[vo, .int .i64 ((b.length : Int) - ((leftOf b xs).length : Int))], by simp [results, Try.results46, go_sem], ?_⟩
    all_goals
      have h1 := HI.out
      rw [all_none hS] at h1
      simp only [List.append_nil, Nat.add_zero] at h1
      refine ⟨hBd, vo, ?_, vs, ownsRow_base (ownsRow_putObj hrd _ hKd rfl) (by omega), ?_, ?_⟩
      · have h2 : ((b.length - (leftOf b xs).length : Nat) : Int) = (b.length : Int) - ((leftOf b xs).length : Int) := by omega
        rw [h1, h2]
      · rw [h1]; exact hrl
      · rw [h1]
        intro i u l e1 e2
        exact ownsRow_base (ownsRow_putObj (owns_below (hrs i u l e1 e2) ((Below.refl _ W).drew)) _ hKd rfl) (by omega)
end Go.Proofs.Ytopemjbakpahfaa
