/-
  Contracts and plain laws, part 30 (texts: JDo). No condition but what each states.
-/
import Derived.Test.YtopemjbakpahfaaSn29
/-
  Areas of two devices side by side: Put, Get and Frames of either, where the other keeps. No condition but that the numbers are small.
-/
namespace Go.Proofs.Ytopemjbakpahfaa
open Go.RowKit Disk Jour Crc
/-- A block that stands in the row of kept blocks reads as these bytes. -/
def SrcB (L : List (Nat × Obj)) (a : Option Addr) (b : List UInt8) : Prop := ∃ p ∈ L, ∀ w' : World, w'.heap[p.1]? = some p.2 → RB w' a b
theorem SrcB.of (L : List (Nat × Obj)) {g : Nat} {b : List UInt8} (hm : (g, Obj.cells (b.map byteV).toArray 5 (0, 0)) ∈ L) : SrcB L (some ⟨g, 0, none⟩) b := ⟨_, hm, fun _ h => rb_block h⟩
theorem rb_same {w w' : World} {g off : Nat} {l : List UInt8} (h : RB w (some ⟨g, off, none⟩) l) (e : w'.heap[g]? = w.heap[g]?) : RB w' (some ⟨g, off, none⟩) l := by
  intro i hi
  obtain ⟨g', off', e1, h1, h2⟩ := h i hi
  cases e1
  refine ⟨g, off, rfl, ?_, (World.cell?_of_block e).trans h2⟩
  rw [Array.getElem?_eq_getElem h1] at e
  exact (Array.getElem?_eq_some_iff.1 e).1
theorem Half.add {F1 F2 : Nat → Prop} {w w1 w2 : World} {X Y : Nat} {L : List (Nat × Obj)} {d1 d2 : Dev} (h : Half F1 F2 w X Y L d1 d2 w1) (hb : Below w1.heap.size w1 w2) {g : Nat} {o : Obj} (hg : w1.heap.size ≤ g) (ho : w2.heap[g]? = some o) : Half F1 F2 w X Y ((g, o) :: L) d1 d2 w2 := by
  obtain ⟨hf, G1, G2, h1, h2, h3, h4, h5, h6⟩ := h
  refine ⟨hf.trans (Frm.of_below (F := fun k => F1 k ∨ F2 k) hb) (fun _ hk => .inl hk), G1, G2, h1.below hb, h2.below hb, h3, h4, h5, fun p hp => ?_⟩
  rcases List.mem_cons.1 hp with rfl | hp
  · exact ⟨ho, fun hk => by have := h1.lt _ hk; omega, fun hk => by have := h2.lt _ hk; omega⟩
  · obtain ⟨e1, e2⟩ := h6 p hp
    exact ⟨(hb.block p.1 (Array.getElem?_eq_some_iff.1 e1).1).trans e1, e2⟩
theorem Half.sub {F1 F2 : Nat → Prop} {w w1 : World} {X Y : Nat} {L M : List (Nat × Obj)} {d1 d2 : Dev} (h : Half F1 F2 w X Y L d1 d2 w1) (hM : ∀ p ∈ M, p ∈ L) : Half F1 F2 w X Y M d1 d2 w1 := by
  obtain ⟨hf, G1, G2, h1, h2, h3, h4, h5, h6⟩ := h
  exact ⟨hf, G1, G2, h1, h2, h3, h4, h5, fun p hp => h6 p (hM p hp)⟩
section
variable {F1 F2 : Nat → Prop} {w w1 : World} {X Y : Nat} {L : List (Nat × Obj)} {d1 d2 : Dev}
theorem Half.putX (h : Half F1 F2 w X Y L d1 d2 w1) {A fi N : Nat} (hA : (A, Obj.cells (acells X fi N) 122 (0, 0)) ∈ L) (hN : N ≤ 1024) (hfi : fi ≤ 9223372036854775807) (hf : N = 0 ∨ fi ≤ 1024) (p : Int) (b : List UInt8) (g off n c : Nat) (hs : SrcB L (some ⟨g, off, none⟩) b) (hn : b.length = n) (hc : n ≤ c) (hp : d1.pend.length + b.length ≤ 100000) (hw : d1.writes + b.length ≤ 100000) :
    Calls Try.prog 54 #[.pointer (some ⟨A, 0, none⟩), .int .i64 p, .slice (some ⟨g, off, none⟩) n c] w1 (HalfOf F1 F2 w X Y L (jput d1 fi N p b).1 d2 (.int .i64 (jput d1 fi N p b).2)) := by
  subst hn
  refine (h.callX (V := fun v => v = .int .i64 (jput d1 fi N p b).2) (e := (jput d1 fi N p b).1) ?_).mono (fun _ _ h => HalfOf.of h)
  intro G hG hL
  obtain ⟨q, hq, hr⟩ := hs
  obtain ⟨e1, e2⟩ := hL _ hq
  obtain ⟨a1, a2⟩ := hL _ hA
  have hl := (Array.getElem?_eq_some_iff.1 e1).1
  refine (put_any hG ⟨a1, hN, hfi⟩ a2 p b _ c (fun e => by cases e) hc (fun w' hf => hr w' ((hf.block q.1 hl e2).trans e1)) hp hw hf).mono ?_
  rintro en w2 ⟨rfl, i1, i2⟩
  exact ⟨⟨_, rfl, rfl⟩, i1, i2⟩
theorem Half.putY (h : Half F1 F2 w X Y L d1 d2 w1) {A N : Nat} {fi : Int} (hA : (A, Obj.cells (racells Y fi N) 129 (0, 0)) ∈ L) (hN : N ≤ 1024) (hfi : fi ≤ 9223372036854775807) (hf : N = 0 ∨ (0 ≤ fi ∧ fi ≤ 1024)) (p : Int) (b : List UInt8) (g off n c : Nat) (hs : SrcB L (some ⟨g, off, none⟩) b) (hn : b.length = n) (hc : n ≤ c) (hp : d2.pend.length + b.length ≤ 100000) (hw : d2.writes + b.length ≤ 100000) :
    Calls Try.prog 59 #[.pointer (some ⟨A, 0, none⟩), .int .i64 p, .slice (some ⟨g, off, none⟩) n c] w1 (HalfOf F1 F2 w X Y L d1 (jput d2 fi.toNat N p b).1 (.int .i64 (jput d2 fi.toNat N p b).2)) := by
  subst hn
  refine (h.callY (V := fun v => v = .int .i64 (jput d2 fi.toNat N p b).2) (e := (jput d2 fi.toNat N p b).1) ?_).mono (fun _ _ h => HalfOf.of h)
  intro G hG hL
  obtain ⟨q, hq, hr⟩ := hs
  obtain ⟨e1, e2⟩ := hL _ hq
  obtain ⟨a1, a2⟩ := hL _ hA
  have hl := (Array.getElem?_eq_some_iff.1 e1).1
  refine (rput_any hG ⟨a1, hN, hfi⟩ a2 p b _ c hc (fun w' hf => hr w' ((hf.block q.1 hl e2).trans e1)) hp hw hf).mono ?_
  rintro en w2 ⟨rfl, i1, i2⟩
  exact ⟨⟨_, rfl, rfl⟩, i1, i2⟩
theorem Half.getX (h : Half F1 F2 w X Y L d1 d2 w1) {A fi N : Nat} (hA : (A, Obj.cells (acells X fi N) 122 (0, 0)) ∈ L) (hN : N ≤ 1024) (hfi : fi ≤ 9223372036854775807) (hf : N = 0 ∨ fi ≤ 1024) (p m : Int) (hp : d1.pend.length ≤ 100000) :
    Calls Try.prog 55 #[.pointer (some ⟨A, 0, none⟩), .int .i64 p, .int .i64 m] w1 (GetOf w1 (jget d1 fi N p m)) := by
  have hb := h.blk hA
  obtain ⟨_, G1, G2, h1, h2, _⟩ := h
  exact get_any h1 ⟨hb, hN, hfi⟩ p m hp hf
theorem Half.getY (h : Half F1 F2 w X Y L d1 d2 w1) {A N : Nat} {fi : Int} (hA : (A, Obj.cells (racells Y fi N) 129 (0, 0)) ∈ L) (hN : N ≤ 1024) (hfi : fi ≤ 9223372036854775807) (hf : N = 0 ∨ (0 ≤ fi ∧ fi ≤ 1024)) (p m : Int) (hp : d2.pend.length ≤ 100000) :
    Calls Try.prog 63 #[.pointer (some ⟨A, 0, none⟩), .int .i64 p, .int .i64 m] w1 (GetOf w1 (jget d2 fi.toNat N p m)) := by
  have hb := h.blk hA
  obtain ⟨_, G1, G2, h1, h2, _⟩ := h
  exact rget_any h2 ⟨hb, hN, hfi⟩ p m hp hf
theorem Half.framesX (h : Half F1 F2 w X Y L d1 d2 w1) {A fi N : Nat} (hA : (A, Obj.cells (acells X fi N) 122 (0, 0)) ∈ L) (hN : N ≤ 1024) (hfi : fi ≤ 9223372036854775807) (hf : N = 0 ∨ fi ≤ 1024) (m : Int) (hp : d1.pend.length ≤ 100000) :
    Calls Try.prog 64 #[.pointer (some ⟨A, 0, none⟩), .int .i64 m] w1 (FramesOf w1 (jframes d1 fi N m)) := by
  have hb := h.blk hA
  obtain ⟨_, G1, G2, h1, h2, _⟩ := h
  exact frames_any55 h1 ⟨hb, hN, hfi⟩ m hp hf
theorem Half.framesY (h : Half F1 F2 w X Y L d1 d2 w1) {A N : Nat} {fi : Int} (hA : (A, Obj.cells (racells Y fi N) 129 (0, 0)) ∈ L) (hN : N ≤ 1024) (hfi : fi ≤ 9223372036854775807) (hf : N = 0 ∨ (0 ≤ fi ∧ fi ≤ 1024)) (m : Int) (hp : d2.pend.length ≤ 100000) :
    Calls Try.prog 65 #[.pointer (some ⟨A, 0, none⟩), .int .i64 m] w1 (FramesOf w1 (jframes d2 fi.toNat N m)) := by
  have hb := h.blk hA
  obtain ⟨_, G1, G2, h1, h2, _⟩ := h
  exact rframes_any h2 ⟨hb, hN, hfi⟩ m hp hf
theorem Half.restX (h : Half F1 F2 w X Y L d1 d2 w1) (ks : List Int) (g n c : Nat) (hm : ∃ o, (g, o) ∈ L ∧ ∀ w' : World, w'.heap[g]? = some o → RI w' (some ⟨g, 0, none⟩) ks) (hn : ks.length = n) (h3 : n ≤ 100) (hp : d1.pend.length ≤ 100000) :
    Calls Try.prog 37 #[.pointer (some ⟨X, 0, none⟩), .slice (some ⟨g, 0, none⟩) n c] w1 (HalfOf F1 F2 w X Y L (d1.restart ks).1 d2 (.int .i64 ((d1.restart ks).2 : Nat))) := by
  subst hn
  refine (h.callX (V := fun v => v = .int .i64 ((d1.restart ks).2 : Nat)) (e := (d1.restart ks).1) ?_).mono (fun _ _ h => HalfOf.of h)
  intro G hG hL
  obtain ⟨o, hm, hr⟩ := hm
  obtain ⟨e1, e2⟩ := hL _ hm
  have hl := (Array.getElem?_eq_some_iff.1 e1).1
  refine (restart_any hG hp ks (some ⟨g, 0, none⟩) c (by omega) (fun w' hf => hr w' ((hf.block g hl e2).trans e1))).mono ?_
  rintro en w2 ⟨rfl, i1, i2⟩
  exact ⟨⟨_, rfl, rfl⟩, i1, i2⟩
theorem Half.restY (h : Half F1 F2 w X Y L d1 d2 w1) (ks : List Int) (g n c : Nat) (hm : ∃ o, (g, o) ∈ L ∧ ∀ w' : World, w'.heap[g]? = some o → RI w' (some ⟨g, 0, none⟩) ks) (hn : ks.length = n) (h3 : n ≤ 100) (hp : d2.pend.length ≤ 100000) :
    Calls Try.prog 62 #[.pointer (some ⟨Y, 0, none⟩), .slice (some ⟨g, 0, none⟩) n c] w1 (HalfOf F1 F2 w X Y L d1 (d2.restart ks).1 (.int .i64 ((d2.restart ks).2 : Nat))) := by
  subst hn
  refine (h.callY (V := fun v => v = .int .i64 ((d2.restart ks).2 : Nat)) (e := (d2.restart ks).1) ?_).mono (fun _ _ h => HalfOf.of h)
  intro G hG hL
  obtain ⟨o, hm, hr⟩ := hm
  obtain ⟨e1, e2⟩ := hL _ hm
  have hl := (Array.getElem?_eq_some_iff.1 e1).1
  refine (rrestart_any hG hp ks (some ⟨g, 0, none⟩) c (by omega) (fun w' hf => hr w' ((hf.block g hl e2).trans e1))).mono ?_
  rintro en w2 ⟨rfl, i1, i2⟩
  exact ⟨⟨_, rfl, rfl⟩, i1, i2⟩
end
theorem ri_two {w : World} {g : Nat} {y z : Int} {t : TypeId} (h : w.heap[g]? = some (.cells #[.int .i64 y, .int .i64 z] t (0, 0))) : RI w (some ⟨g, 0, none⟩) [y, z] := by
  intro i hi
  refine ⟨g, 0, rfl, (Array.getElem?_eq_some_iff.1 h).1, ?_⟩
  rw [Nat.zero_add, cell_of_row _ _ i _ t (0, 0) h]
  have h3 : i < 2 := hi
  have : i = 0 ∨ i = 1 := by omega
  rcases this with rfl | rfl <;> rfl
def low7 (x : Int) : Nat := (bits .and .i64 x 127).toNat
theorem low7_eq (x : Int) : bits .and .i64 x 127 = (low7 x : Int) ∧ low7 x ≤ 127 := by
  obtain ⟨r, h1, h2⟩ := and_le x 127 (by decide)
  have h1' : bits .and .i64 x 127 = (r : Int) := h1
  unfold low7
  rw [h1']
  exact ⟨by simp, by simpa using h2⟩
/-- One step of an area's plays, in plain Lean. -/
def doJ (d : Dev) (fi N : Nat) (data : List UInt8) (x y z : Int) : Dev :=
  if low3 x ≤ 3 then (jput d fi N y data).1 else if low3 x = 4 then d.sync.1 else if low3 x = 5 then d.arm z else if low3 x = 6 then (d.restart [0, y]).1 else (jput d fi N 0 (frame data)).1
structure SmallJ (d : Dev) (i : Nat) : Prop where
  pend : d.pend.length ≤ 200 * i
  writes : d.writes ≤ 200 * i
  syncs : d.syncs ≤ 200 * i
theorem SmallJ.put {d : Dev} {i : Nat} (h : SmallJ d i) (fi N : Nat) (p : Int) (b : List UInt8) (hb : b.length ≤ 150) : SmallJ (jput d fi N p b).1 (i + 1) := by
  obtain ⟨h1, h2, h3⟩ := h
  obtain ⟨k1, k2, k3, k4⟩ := jput_bound d fi N p b
  exact ⟨by omega, by omega, by omega⟩
theorem sync_bound (d : Dev) : d.sync.1.pend.length ≤ d.pend.length ∧ d.sync.1.writes = d.writes ∧ d.sync.1.syncs ≤ d.syncs + 1 ∧ d.sync.1.kept.length = d.kept.length := by
  unfold Dev.sync
  split
  · exact ⟨Nat.le_refl _, rfl, Nat.le_succ _, rfl⟩
  · split
    · exact ⟨Nat.le_refl _, rfl, Nat.le_succ _, rfl⟩
    · exact ⟨Nat.zero_le _, rfl, Nat.le_refl _, puts_length _ _⟩
theorem SmallJ.sync {d : Dev} {i : Nat} (h : SmallJ d i) : SmallJ d.sync.1 (i + 1) := by
  obtain ⟨h1, h2, h3⟩ := h
  obtain ⟨k1, k2, k3, _⟩ := sync_bound d
  exact ⟨by omega, by omega, by omega⟩
theorem SmallJ.arm {d : Dev} {i : Nat} (h : SmallJ d i) (z : Int) : SmallJ (d.arm z) (i + 1) := by
  obtain ⟨h1, h2, h3⟩ := h
  exact ⟨by show d.pend.length ≤ _; omega, by show d.writes ≤ _; omega, by show d.syncs ≤ _; omega⟩
theorem SmallJ.restart {d : Dev} {i : Nat} (h : SmallJ d i) (ks : List Int) : SmallJ (d.restart ks).1 (i + 1) := by
  obtain ⟨h1, h2, h3⟩ := h
  exact ⟨by show 0 ≤ _; omega, by show d.writes ≤ _; omega, by show d.syncs ≤ _; omega⟩
end Go.Proofs.Ytopemjbakpahfaa
