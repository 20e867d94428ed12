/-
  Contracts and plain laws, part 28 (texts: RA4, Do0). No condition but what each states.
-/
import Derived.Test.YtopemjbakpahfaaSn27
import Derived.Laws.BitsLemmas
/-
  Frames of the reference's area: what All tells of the bytes that Get hands back. No condition but that the device's numbers are small.
-/
namespace Go.Proofs.Ytopemjbakpahfaa
open Go.RowKit Disk Jour Crc
theorem RB.of_owns' {w : World} {base n : Nat} {t : TypeId} {v : Value} {l : List UInt8} (h : w.ownsRow base t 1 v n (l.map byteV)) : ∃ a cap, v = .slice a l.length cap ∧ l.length ≤ cap ∧ (a = none → cap = 0) ∧ RB w a l ∧ cap ≤ maxLen := by
  obtain ⟨a, cap, e, h1, h2, h3⟩ := RB.of_owns h
  refine ⟨a, cap, e, h1, h2, h3, ?_⟩
  rcases h.2 with ⟨e2, _⟩ | ⟨g, cap', cur, e2, _, _, _, h4, _⟩
  · rw [e2] at e; injection e with _ _ e3; omega
  · rw [e2] at e; injection e with _ _ e3; omega
set_option maxHeartbeats 1000000 in
theorem rframes_any {F : Nat → Prop} {w : World} {B : Nat} {d : Dev} (h : IsRef F w B d) {A : Nat} {first : Int} {N : Nat} (hA : IsRArea w A B first N) (n : Int) (hp : d.pend.length ≤ 100000) (hf : N = 0 ∨ (0 ≤ first ∧ first ≤ 1024)) :
    Calls Try.prog 65 #[.pointer (some ⟨A, 0, none⟩), .int .i64 n] w (FramesOf w (jframes d first.toNat N n)) := by
  have hlen := jget_len d first.toNat N 0 n hA.n
  have HJ : Hid (jframes d first.toNat N n = if (jget d first.toNat N 0 n).2 ≠ 0 then ([], (jget d first.toNat N 0 n).2) else if ((all (jget d first.toNat N 0 n).1).2 : Int) = n then ((all (jget d first.toNat N 0 n).1).1, 0) else ([], 4)) := rfl
  have hget := rget_any h hA 0 n hp hf
  generalize jget d first.toNat N 0 n = r at hlen HJ hget
  generalize jframes d first.toNat N n = q at HJ ⊢
  have HG := Lib.hid hget
  clear hget
  go_enter Try.func65, Try.ntmps65
  go_wp2_with fail
  refine (HG.out).mono ?_
  rintro en w1 ⟨b1, v, rfl, o1⟩
  by_cases hz : r.2 = 0
  rotate_left
  · have hne : ((r.2 : Int) != 0) = true := by rw [bne_iff_ne]; exact hz
    obtain rfl : q = ([], r.2) := by rw [HJ.out, if_pos hz]
    go_wp2
    go_ret2
    exact ⟨b1, _, rfl, rowsOf_nil _ _⟩
  obtain ⟨a, cap, rfl, hlc, hn, rb, hmx⟩ := RB.of_owns' o1
  rw [hz]
  have HZ := Lib.hid hz
  have RBH := Lib.hid rb
  have HMX := Lib.hid hmx
  clear hz rb o1 hmx
  go_wp2_with fail
  refine (rall_any r.1 a cap _ hlc HMX.out (by omega) hn RBH.out).mono ?_
  rintro en w2 ⟨b2, v2, rfl, hrows⟩
  have B2 := b1.trans (b2.mono b1.size)
  by_cases he : ((all r.1).2 : Int) = n
  · obtain rfl : q = ((all r.1).1, 0) := by rw [HJ.out, if_neg (by rw [HZ.out]; simp), if_pos he]
    have hne : (((all r.1).2 : Int) != n) = false := by rw [he]; simp
    have HR := Lib.hid (rowsOf_base hrows b1.size)
    clear hrows he
    go_wp2
    go_ret2
    exact ⟨B2, _, rfl, HR.out⟩
  · obtain rfl : q = ([], 4) := by rw [HJ.out, if_neg (by rw [HZ.out]; simp), if_neg he]
    have hne : (((all r.1).2 : Int) != n) = true := by rw [bne_iff_ne]; exact he
    clear hrows he
    go_wp2
    go_ret2
    exact ⟨B2, _, rfl, rowsOf_nil _ _⟩
end Go.Proofs.Ytopemjbakpahfaa
/-
  A device and the reference's device side by side; one step of the law of any steps, in plain Lean. No condition.
-/
namespace Go.Proofs.Ytopemjbakpahfaa
open Go.RowKit Disk
theorem and_le (x : Int) (m : Nat) (hm : m < 2 ^ 63) : ∃ r : Nat, bits .and .i64 x (m : Int) = (r : Int) ∧ r ≤ m := by
  have hb : m % 2 ^ IntKind.i64.bits = m := Nat.mod_eq_of_lt (Nat.lt_of_lt_of_le hm (by decide))
  refine ⟨(BitVec.ofInt IntKind.i64.bits x).toNat &&& m, ?_, Nat.and_le_right⟩
  simp only [bits, BitVec.ofInt_natCast, BitVec.toNat_and, BitVec.toNat_ofNat, hb]
  have h : (BitVec.ofInt IntKind.i64.bits x).toNat &&& m ≤ m := Nat.and_le_right
  have h2 : (2 : Nat) ^ 63 = 9223372036854775808 := by decide
  generalize (BitVec.ofInt IntKind.i64.bits x).toNat &&& m = y at h ⊢
  rw [IntKind.wrap_i64]
  omega
def low3 (x : Int) : Nat := (bits .and .i64 x 7).toNat
def low6 (x : Int) : Nat := (bits .and .i64 x 63).toNat
theorem low3_eq (x : Int) : bits .and .i64 x 7 = (low3 x : Int) ∧ low3 x ≤ 7 := by
  obtain ⟨r, h1, h2⟩ := and_le x 7 (by decide)
  have h3 : bits .and .i64 x 7 = (r : Int) := h1
  unfold low3
  rw [h3]; exact ⟨by simp, by simpa using h2⟩
theorem low6_eq (x : Int) : bits .and .i64 x 63 = (low6 x : Int) ∧ low6 x ≤ 63 := by
  obtain ⟨r, h1, h2⟩ := and_le x 63 (by decide)
  have h3 : bits .and .i64 x 63 = (r : Int) := h1
  unfold low6
  rw [h3]; exact ⟨by simp, by simpa using h2⟩
/-- The first i bytes of a step. -/
def dataTo (z : Int) (i : Nat) : List UInt8 := (List.range i).map (fun j : Nat => by8 (wrap64 (z + (j : Int))))
def dataOf (z : Int) : List UInt8 := dataTo z (low6 z)
theorem dataTo_len (z : Int) (i : Nat) : (dataTo z i).length = i := by simp [dataTo]
theorem dataTo_succ (z : Int) (i : Nat) : dataTo z (i + 1) = dataTo z i ++ [by8 (wrap64 (z + (i : Int)))] := by simp [dataTo, List.range_succ]
/-- One step, in plain Lean. -/
def doD (d : Dev) (x y z : Int) : Dev :=
  if low3 x ≤ 3 then (d.write y (dataOf z)).1 else if low3 x = 4 then d.sync.1 else if low3 x = 5 then d.arm z else if low3 x = 6 then (d.restart [y, z, 0]).1 else d
/-- Both devices, in blocks apart, and blocks that neither has. -/
structure Half (F1 F2 : Nat → Prop) (w : World) (X Y : Nat) (L : List (Nat × Obj)) (d1 d2 : Dev) (w' : World) : Prop where
  frm : Frm (fun k => F1 k ∨ F2 k) w w'
  ex : ∃ G1 G2 : Nat → Prop, IsDev G1 w' X d1 ∧ IsRef G2 w' Y d2 ∧ (∀ k, G1 k → G2 k → False) ∧ (∀ k, G1 k → F1 k ∨ w.heap.size ≤ k) ∧ (∀ k, G2 k → F2 k ∨ w.heap.size ≤ k) ∧
    ∀ p ∈ L, w'.heap[p.1]? = some p.2 ∧ ¬ G1 p.1 ∧ ¬ G2 p.1
theorem Half.start {F1 F2 : Nat → Prop} {w : World} {X Y : Nat} {d1 d2 : Dev} (h1 : IsDev F1 w X d1) (h2 : IsRef F2 w Y d2) (ha : ∀ k, F1 k → F2 k → False) : Half F1 F2 w X Y [] d1 d2 w :=
  ⟨Frm.refl _ _, F1, F2, h1, h2, ha, fun _ h => .inl h, fun _ h => .inl h, fun _ h => by cases h⟩
theorem Half.below {F1 F2 : Nat → Prop} {w w1 w2 : World} {X Y : Nat} {L : List (Nat × Obj)} {d1 d2 : Dev} (h : Half F1 F2 w X Y L d1 d2 w1) (hb : Below w1.heap.size w1 w2) : Half F1 F2 w X Y L d1 d2 w2 := by
  obtain ⟨hf, G1, G2, h1, h2, h3, h4, h5, h6⟩ := h
  refine ⟨hf.trans (Frm.of_below (F := fun k => F1 k ∨ F2 k) hb) (fun _ hk => .inl hk), G1, G2, h1.below hb, h2.below hb, h3, h4, h5, fun p hp => ?_⟩
  obtain ⟨e1, e2⟩ := h6 p hp
  exact ⟨(hb.block p.1 (Array.getElem?_eq_some_iff.1 e1).1).trans e1, e2⟩
theorem Half.alloc {F1 F2 : Nat → Prop} {w w1 : World} {X Y : Nat} {L : List (Nat × Obj)} {d1 d2 : Dev} (h : Half F1 F2 w X Y L d1 d2 w1) (o : Obj) : Half F1 F2 w X Y ((w1.heap.size, o) :: L) d1 d2 (w1.alloc o) := by
  have hb := below_alloc w1 o
  obtain ⟨hf, G1, G2, h1, h2, h3, h4, h5, h6⟩ := h
  refine ⟨hf.trans (Frm.of_below (F := fun k => F1 k ∨ F2 k) hb) (fun _ hk => .inl hk), G1, G2, h1.below hb, h2.below hb, h3, h4, h5, fun p hp => ?_⟩
  rcases List.mem_cons.1 hp with rfl | hp
  · exact ⟨heap_alloc_new w1 o, fun hk => Nat.lt_irrefl _ (h1.lt _ hk), fun hk => Nat.lt_irrefl _ (h2.lt _ hk)⟩
  · obtain ⟨e1, e2⟩ := h6 p hp
    exact ⟨(hb.block p.1 (Array.getElem?_eq_some_iff.1 e1).1).trans e1, e2⟩
theorem Half.callX {F1 F2 : Nat → Prop} {w w1 : World} {X Y : Nat} {L : List (Nat × Obj)} {d1 d2 e : Dev} (h : Half F1 F2 w X Y L d1 d2 w1) {f : Nat} {args : Array Value} {V : Value → Prop}
    (hc : ∀ G : Nat → Prop, IsDev G w1 X d1 → (∀ p ∈ L, w1.heap[p.1]? = some p.2 ∧ ¬ G p.1) → Calls Try.prog f args w1 (fun en w2 => (∃ v, en = .returned v ∧ V v) ∧ Frm G w1 w2 ∧ IsDev (Grow G w1 w2) w2 X e)) :
    Calls Try.prog f args w1 (fun en w2 => (∃ v, en = .returned v ∧ V v) ∧ Half F1 F2 w X Y L e d2 w2) := by
  obtain ⟨hf, G1, G2, h1, h2, h3, h4, h5, h6⟩ := h
  refine (hc G1 h1 (fun p hp => ⟨(h6 p hp).1, (h6 p hp).2.1⟩)).mono ?_
  rintro en w2 ⟨hv, f2, d2'⟩
  have hs := f2.size
  have hs0 := hf.size
  refine ⟨hv, hf.trans f2 (fun k hk => (h4 k hk).imp_left .inl), Grow G1 w1 w2, G2, d2', h2.frm f2 (fun k hk hk1 => h3 k hk1 hk), ?_, ?_, h5, ?_⟩
  · rintro k (hk | hk) hk2
    · exact h3 k hk hk2
    · have := h2.lt k hk2; omega
  · rintro k (hk | hk)
    · exact h4 k hk
    · exact .inr (by omega)
  · intro p hp
    obtain ⟨e1, e2, e3⟩ := h6 p hp
    have hl := (Array.getElem?_eq_some_iff.1 e1).1
    refine ⟨(f2.block p.1 hl e2).trans e1, ?_, e3⟩
    rintro (hk | hk)
    · exact e2 hk
    · omega
theorem Half.callY {F1 F2 : Nat → Prop} {w w1 : World} {X Y : Nat} {L : List (Nat × Obj)} {d1 d2 e : Dev} (h : Half F1 F2 w X Y L d1 d2 w1) {f : Nat} {args : Array Value} {V : Value → Prop}
    (hc : ∀ G : Nat → Prop, IsRef G w1 Y d2 → (∀ p ∈ L, w1.heap[p.1]? = some p.2 ∧ ¬ G p.1) → Calls Try.prog f args w1 (fun en w2 => (∃ v, en = .returned v ∧ V v) ∧ Frm G w1 w2 ∧ IsRef (Grow G w1 w2) w2 Y e)) :
    Calls Try.prog f args w1 (fun en w2 => (∃ v, en = .returned v ∧ V v) ∧ Half F1 F2 w X Y L d1 e w2) := by
  obtain ⟨hf, G1, G2, h1, h2, h3, h4, h5, h6⟩ := h
  refine (hc G2 h2 (fun p hp => ⟨(h6 p hp).1, (h6 p hp).2.2⟩)).mono ?_
  rintro en w2 ⟨hv, f2, d2'⟩
  have hs := f2.size
  have hs0 := hf.size
  refine ⟨hv, hf.trans f2 (fun k hk => (h5 k hk).imp_left .inr), G1, Grow G2 w1 w2, h1.frm f2 (fun k hk hk1 => h3 k hk hk1), d2', ?_, h4, ?_, ?_⟩
  · rintro k hk1 (hk | hk)
    · exact h3 k hk1 hk
    · have := h1.lt k hk1; omega
  · rintro k (hk | hk)
    · exact h5 k hk
    · exact .inr (by omega)
  · intro p hp
    obtain ⟨e1, e2, e3⟩ := h6 p hp
    have hl := (Array.getElem?_eq_some_iff.1 e1).1
    refine ⟨(f2.block p.1 hl e3).trans e1, e2, ?_⟩
    rintro (hk | hk)
    · exact e3 hk
    · omega
theorem rb_block {w : World} {g : Nat} {l : List UInt8} (h : w.heap[g]? = some (.cells (l.map byteV).toArray 5 (0, 0))) : RB w (some ⟨g, 0, none⟩) l := by
  intro i hi
  refine ⟨g, 0, rfl, (Array.getElem?_eq_some_iff.1 h).1, ?_⟩
  rw [Nat.zero_add, cell_of_row _ _ i _ 5 (0, 0) h]
  simp [List.getD_eq_getElem?_getD, List.getElem?_eq_getElem hi]
theorem ri_block {w : World} {g : Nat} {y z : Int} {t : TypeId} (h : w.heap[g]? = some (.cells #[.int .i64 y, .int .i64 z, .int .i64 0] t (0, 0))) : RI w (some ⟨g, 0, none⟩) [y, z, 0] := by
  intro i hi
  refine ⟨g, 0, rfl, (Array.getElem?_eq_some_iff.1 h).1, ?_⟩
  rw [Nat.zero_add, cell_of_row _ _ i _ t (0, 0) h]
  have h3 : i < 3 := hi
  have : i = 0 ∨ i = 1 ∨ i = 2 := by omega
  rcases this with rfl | rfl | rfl <;> rfl
def HalfOf (F1 F2 : Nat → Prop) (w : World) (X Y : Nat) (L : List (Nat × Obj)) (d1 d2 : Dev) (v : Value) (en : Ending) (w2 : World) : Prop := en = .returned v ∧ Half F1 F2 w X Y L d1 d2 w2
section
variable {F1 F2 : Nat → Prop} {w w1 : World} {X Y : Nat} {L : List (Nat × Obj)} {d1 d2 : Dev}
theorem HalfOf.of {en : Ending} {w2 : World} {v : Value} (h : (∃ u, en = .returned u ∧ u = v) ∧ Half F1 F2 w X Y L d1 d2 w2) : HalfOf F1 F2 w X Y L d1 d2 v en w2 := by
  obtain ⟨⟨u, h1, rfl⟩, h2⟩ := h; exact ⟨h1, h2⟩
theorem Half.writeX (h : Half F1 F2 w X Y L d1 d2 w1) (k : Int) (b : List UInt8) (g n c : Nat) (hm : (g, Obj.cells (b.map byteV).toArray 5 (0, 0)) ∈ L) (hn : b.length = n) (hb : b.length ≤ 1000) (hp : d1.pend.length ≤ 100000) (hw : d1.writes ≤ 100000) :
    Calls Try.prog 34 #[.pointer (some ⟨X, 0, none⟩), .int .i64 k, .slice (some ⟨g, 0, none⟩) n c] w1 (HalfOf F1 F2 w X Y L (d1.write k b).1 d2 (.int .i64 (d1.write k b).2)) := by
  subst hn
  refine (h.callX (V := fun v => v = .int .i64 (d1.write k b).2) (e := (d1.write k b).1) ?_).mono (fun _ _ h => HalfOf.of h)
  intro G hG hL
  obtain ⟨e1, e2⟩ := hL _ hm
  have hl := (Array.getElem?_eq_some_iff.1 e1).1
  refine (write_any hG k b _ c (by omega) (fun e => by cases e) (fun w' hf => rb_block ((hf.block g hl e2).trans e1)) hp hw).mono ?_
  rintro en w2 ⟨rfl, i1, i2⟩
  exact ⟨⟨_, rfl, rfl⟩, i1, i2⟩
theorem Half.writeY (h : Half F1 F2 w X Y L d1 d2 w1) (k : Int) (b : List UInt8) (g n c : Nat) (hm : (g, Obj.cells (b.map byteV).toArray 5 (0, 0)) ∈ L) (hn : b.length = n) (hb : b.length ≤ 1000) (hp : d2.pend.length ≤ 100000) (hw : d2.writes ≤ 100000) :
    Calls Try.prog 81 #[.pointer (some ⟨Y, 0, none⟩), .int .i64 k, .slice (some ⟨g, 0, none⟩) n c] w1 (HalfOf F1 F2 w X Y L d1 (d2.write k b).1 (.int .i64 (d2.write k b).2)) := by
  subst hn
  refine (h.callY (V := fun v => v = .int .i64 (d2.write k b).2) (e := (d2.write k b).1) ?_).mono (fun _ _ h => HalfOf.of h)
  intro G hG hL
  obtain ⟨e1, e2⟩ := hL _ hm
  have hl := (Array.getElem?_eq_some_iff.1 e1).1
  refine (rwrite_any hG k b _ c (by omega) (fun w' hf => rb_block ((hf.block g hl e2).trans e1)) hp hw).mono ?_
  rintro en w2 ⟨rfl, i1, i2⟩
  exact ⟨⟨_, rfl, rfl⟩, i1, i2⟩
theorem Half.syncX (h : Half F1 F2 w X Y L d1 d2 w1) (hp : d1.pend.length ≤ 100000) (hw : d1.syncs ≤ 100000) :
    Calls Try.prog 35 #[.pointer (some ⟨X, 0, none⟩)] w1 (HalfOf F1 F2 w X Y L d1.sync.1 d2 (.int .i64 d1.sync.2)) := by
  refine (h.callX (V := fun v => v = .int .i64 d1.sync.2) (e := d1.sync.1) ?_).mono (fun _ _ h => HalfOf.of h)
  intro G hG hL
  refine (sync_any hG hp hw).mono ?_
  rintro en w2 ⟨rfl, i1, i2⟩
  exact ⟨⟨_, rfl, rfl⟩, i1, i2⟩
theorem Half.syncY (h : Half F1 F2 w X Y L d1 d2 w1) (hp : d2.pend.length ≤ 100000) (hw : d2.syncs ≤ 100000) :
    Calls Try.prog 60 #[.pointer (some ⟨Y, 0, none⟩)] w1 (HalfOf F1 F2 w X Y L d1 d2.sync.1 (.int .i64 d2.sync.2)) := by
  refine (h.callY (V := fun v => v = .int .i64 d2.sync.2) (e := d2.sync.1) ?_).mono (fun _ _ h => HalfOf.of h)
  intro G hG hL
  refine (rsync_any hG hp hw).mono ?_
  rintro en w2 ⟨rfl, i1, i2⟩
  exact ⟨⟨_, rfl, rfl⟩, i1, i2⟩
theorem Half.armX (h : Half F1 F2 w X Y L d1 d2 w1) (n : Int) (hn : n ≤ 9223372036854775807) :
    Calls Try.prog 45 #[.pointer (some ⟨X, 0, none⟩), .int .i64 n] w1 (fun en w2 => (∃ v, en = .returned v ∧ True) ∧ Half F1 F2 w X Y L (d1.arm n) d2 w2) := by
  refine h.callX (V := fun _ => True) (e := d1.arm n) ?_
  intro G hG hL
  refine (arm_any hG n hn).mono ?_
  rintro en w2 ⟨⟨v, rfl⟩, i1, i2⟩
  exact ⟨⟨_, rfl, trivial⟩, i1, i2.grow hG.lt i1.size⟩
theorem Half.armY (h : Half F1 F2 w X Y L d1 d2 w1) (n : Int) (hn : n ≤ 9223372036854775807) :
    Calls Try.prog 61 #[.pointer (some ⟨Y, 0, none⟩), .int .i64 n] w1 (fun en w2 => (∃ v, en = .returned v ∧ True) ∧ Half F1 F2 w X Y L d1 (d2.arm n) w2) := by
  refine h.callY (V := fun _ => True) (e := d2.arm n) ?_
  intro G hG hL
  refine (rarm_any hG n hn).mono ?_
  rintro en w2 ⟨⟨v, rfl⟩, i1, i2⟩
  exact ⟨⟨_, rfl, trivial⟩, i1, i2.grow hG.lt i1.size⟩
theorem Half.restartX (h : Half F1 F2 w X Y L d1 d2 w1) (y z : Int) (t : TypeId) (g c : Nat) (hm : (g, Obj.cells #[.int .i64 y, .int .i64 z, .int .i64 0] t (0, 0)) ∈ L) (hp : d1.pend.length ≤ 100000) :
    Calls Try.prog 37 #[.pointer (some ⟨X, 0, none⟩), .slice (some ⟨g, 0, none⟩) 3 c] w1 (HalfOf F1 F2 w X Y L (d1.restart [y, z, 0]).1 d2 (.int .i64 ((d1.restart [y, z, 0]).2 : Nat))) := by
  refine (h.callX (V := fun v => v = .int .i64 ((d1.restart [y, z, 0]).2 : Nat)) (e := (d1.restart [y, z, 0]).1) ?_).mono (fun _ _ h => HalfOf.of h)
  intro G hG hL
  obtain ⟨e1, e2⟩ := hL _ hm
  have hl := (Array.getElem?_eq_some_iff.1 e1).1
  refine (restart_any hG hp [y, z, 0] (some ⟨g, 0, none⟩) c (by simp) (fun w' hf => ri_block ((hf.block g hl e2).trans e1))).mono ?_
  rintro en w2 ⟨rfl, i1, i2⟩
  exact ⟨⟨_, rfl, rfl⟩, i1, i2⟩
theorem Half.restartY (h : Half F1 F2 w X Y L d1 d2 w1) (y z : Int) (t : TypeId) (g c : Nat) (hm : (g, Obj.cells #[.int .i64 y, .int .i64 z, .int .i64 0] t (0, 0)) ∈ L) (hp : d2.pend.length ≤ 100000) :
    Calls Try.prog 62 #[.pointer (some ⟨Y, 0, none⟩), .slice (some ⟨g, 0, none⟩) 3 c] w1 (HalfOf F1 F2 w X Y L d1 (d2.restart [y, z, 0]).1 (.int .i64 ((d2.restart [y, z, 0]).2 : Nat))) := by
  refine (h.callY (V := fun v => v = .int .i64 ((d2.restart [y, z, 0]).2 : Nat)) (e := (d2.restart [y, z, 0]).1) ?_).mono (fun _ _ h => HalfOf.of h)
  intro G hG hL
  obtain ⟨e1, e2⟩ := hL _ hm
  have hl := (Array.getElem?_eq_some_iff.1 e1).1
  refine (rrestart_any hG hp [y, z, 0] (some ⟨g, 0, none⟩) c (by simp) (fun w' hf => ri_block ((hf.block g hl e2).trans e1))).mono ?_
  rintro en w2 ⟨rfl, i1, i2⟩
  exact ⟨⟨_, rfl, rfl⟩, i1, i2⟩
end
theorem wpAnyH_two {P : Program} {ops : Array Oper} {Q : Exit → Act → World → Prop} {md : Region.Mode} {S : World → Prop} {fuel : Nat} {listed : Array Bool} {a : Act} {w : World} {i j : Nat} {o p : Oper}
    (hr : Region.ready md ops listed = [i, j]) (ho : ops[i]? = some o) (hp : ops[j]? = some p) (hw : Region.wanted o (yielded ops a.tmps) = true) (hv : Region.wanted p (yielded ops a.tmps) = true)
    (h1 : ∀ K : Act → World → Prop, (∀ a' w', S w' → wpAnyH P md ops Q S fuel (listed.setIfInBounds i true) a' w' → K a' w') → o.wp P a w K Q)
    (h2 : ∀ K : Act → World → Prop, (∀ a' w', S w' → wpAnyH P md ops Q S fuel (listed.setIfInBounds j true) a' w' → K a' w') → p.wp P a w K Q) : wpAnyH P md ops Q S (fuel + 1) listed a w := by
  refine wpAnyH_all hr (by simp) ?_
  intro k hk
  rcases List.mem_cons.1 hk with rfl | hk
  · unfold wpOp
    rw [ho]
    simp only [hw, if_true]
    exact .inl (h1 _ (fun _ _ h1 h2 => ⟨h1, h2⟩))
  · obtain rfl := List.mem_singleton.1 hk
    unfold wpOp
    rw [hp]
    simp only [hv, if_true]
    exact .inl (h2 _ (fun _ _ h1 h2 => ⟨h1, h2⟩))
end Go.Proofs.Ytopemjbakpahfaa
