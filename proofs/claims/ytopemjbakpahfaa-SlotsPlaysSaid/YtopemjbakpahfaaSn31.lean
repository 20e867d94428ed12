/-
  Contracts and plain laws, part 31 (texts: S8). No condition but what each states.
-/
import Derived.Test.YtopemjbakpahfaaSn30
/-
  A store's safe writing: the walk of what calls the steps. No condition but that the numbers are small.
-/
namespace Go.Proofs.Ytopemjbakpahfaa
open Go.RowKit Disk Jour Crc Slot
set_option linter.unusedSimpArgs false
set_option linter.unusedVariables false
theorem write_bound (d : Dev) (k : Int) (b : List UInt8) : (d.write k b).1.pend.length ≤ d.pend.length + 1 ∧ (d.write k b).1.writes ≤ d.writes + 1 ∧ (d.write k b).1.syncs = d.syncs ∧ (d.write k b).1.kept.length = d.kept.length := by
  unfold Dev.write
  split
  · exact ⟨Nat.le_succ _, Nat.le_succ _, rfl, rfl⟩
  · split
    · exact ⟨Nat.le_succ _, Nat.le_succ _, rfl, rfl⟩
    · split
      · exact ⟨Nat.le_succ _, Nat.le_succ _, rfl, rfl⟩
      · exact ⟨by simp, Nat.le_refl _, rfl, rfl⟩
section
variable {d : Dev} {first n p : Nat} {b : List UInt8} {h : Hd}
theorem ssafe_1 (h1 : (jput d first n p b).2 ≠ 0) : ssafe d first n p b h = jput d first n p b := by unfold ssafe; rw [if_pos h1]
theorem ssafe_2 (h1 : (jput d first n p b).2 = 0) (h2 : (jput d first n p b).1.sync.2 ≠ 0) : ssafe d first n p b h = (jput d first n p b).1.sync := by unfold ssafe; rw [if_neg (by rw [h1]; decide), if_pos h2]
theorem ssafe_3 (h1 : (jput d first n p b).2 = 0) (h2 : (jput d first n p b).1.sync.2 = 0) (h3 : ((jput d first n p b).1.sync.1.write 0 (hbytes h)).2 ≠ 0) : ssafe d first n p b h = (jput d first n p b).1.sync.1.write 0 (hbytes h) := by unfold ssafe; rw [if_neg (by rw [h1]; decide), if_neg (by rw [h2]; decide), if_pos h3]
theorem ssafe_4 (h1 : (jput d first n p b).2 = 0) (h2 : (jput d first n p b).1.sync.2 = 0) (h3 : ((jput d first n p b).1.sync.1.write 0 (hbytes h)).2 = 0) : ssafe d first n p b h = ((jput d first n p b).1.sync.1.write 0 (hbytes h)).1.sync := by unfold ssafe; rw [if_neg (by rw [h1]; decide), if_neg (by rw [h2]; decide), if_neg (by rw [h3]; decide)]
end
theorem ssafe_bound (d : Dev) (first n p : Nat) (b : List UInt8) (h : Hd) : (ssafe d first n p b h).1.pend.length ≤ d.pend.length + b.length + 1 ∧ (ssafe d first n p b h).1.writes ≤ d.writes + b.length + 1 ∧ (ssafe d first n p b h).1.syncs ≤ d.syncs + 2 ∧ (ssafe d first n p b h).1.kept.length = d.kept.length := by
  obtain ⟨k1, k2, k3, k4⟩ := jput_bound d first n p b
  obtain ⟨l1, l2, l3, l4⟩ := sync_bound (jput d first n p b).1
  obtain ⟨m1, m2, m3, m4⟩ := write_bound (jput d first n p b).1.sync.1 0 (hbytes h)
  obtain ⟨n1, n2, n3, n4⟩ := sync_bound ((jput d first n p b).1.sync.1.write 0 (hbytes h)).1
  unfold ssafe
  split
  · exact ⟨by omega, by omega, by omega, by rw [k2]⟩
  · split
    · exact ⟨by omega, by omega, by omega, by rw [l4, k2]⟩
    · split
      · exact ⟨by omega, by omega, by omega, by rw [m4, l4, k2]⟩
      · exact ⟨by omega, by omega, by omega, by rw [n4, m4, l4, k2]⟩
def fnRow (n B : Nat) : Obj := .cells #[.func (.func 109) #[] #[.pointer (some ⟨n + 1, 0, none⟩), .pointer (some ⟨n + 2, 0, none⟩), .pointer (some ⟨n + 3, 0, none⟩)], .func (.func 35) #[.pointer (some ⟨B, 0, none⟩)] #[], .func (.func 110) #[] #[.pointer (some ⟨n, 0, none⟩), .pointer (some ⟨n + 4, 0, none⟩)], .func (.func 35) #[.pointer (some ⟨B, 0, none⟩)] #[]] 41 (0, 0)
/-- The boxes of a safe writing, and the row of its steps. -/
structure SafeBx (w W1 : World) (S A B : Nat) (p : Int) (vb : Value) (h : Hd) : Prop where
  bl : Below w.heap.size w W1
  x0 : W1.heap[w.heap.size]? = some (.cells #[.pointer (some ⟨S, 0, none⟩)] 82 (0, 0))
  x1 : W1.heap[w.heap.size + 1]? = some (.cells #[.pointer (some ⟨A, 0, none⟩)] 69 (0, 0))
  x2 : W1.heap[w.heap.size + 2]? = some (.cells #[.int .i64 p] 3 (0, 0))
  x3 : W1.heap[w.heap.size + 3]? = some (.cells #[vb] 22 (0, 0))
  x4 : W1.heap[w.heap.size + 4]? = some (.cells (hcells h) 132 (0, 0))
  x5 : W1.heap[w.heap.size + 5]? = some (fnRow w.heap.size B)
theorem heap_alloc_at {w : World} {o : Obj} {k : Nat} (h : k = w.heap.size) : (w.alloc o).heap[k]? = some o := by subst h; exact heap_alloc_new w o
theorem heap_alloc_old {w : World} {o x : Obj} {k : Nat} (h : w.heap[k]? = some x) : (w.alloc o).heap[k]? = some x := ((below_alloc w o).block k (Array.getElem?_eq_some_iff.1 h).1).trans h
def safeW (w : World) (S A : Nat) (p : Int) (vb : Value) (h : Hd) : World := ((((w.alloc (.cells #[.pointer (some ⟨S, 0, none⟩)] 82 (0, 0))).alloc (.cells #[.pointer (some ⟨A, 0, none⟩)] 69 (0, 0))).alloc (.cells #[.int .i64 p] 3 (0, 0))).alloc (.cells #[vb] 22 (0, 0))).alloc (.cells (hcells h) 132 (0, 0))
theorem safeW_size (w : World) (S A : Nat) (p : Int) (vb : Value) (h : Hd) : (safeW w S A p vb h).heap.size = w.heap.size + 5 := by simp [safeW]
theorem safeW_bx {w : World} (S A B : Nat) (p : Int) (vb : Value) (h : Hd) : SafeBx w ((safeW w S A p vb h).drew.alloc (fnRow w.heap.size B)) S A B p vb h := by
  have s1 : (w.alloc (.cells #[.pointer (some ⟨S, 0, none⟩)] 82 (0, 0))).heap.size = w.heap.size + 1 := by simp
  have s2 : ((w.alloc (.cells #[.pointer (some ⟨S, 0, none⟩)] 82 (0, 0))).alloc (.cells #[.pointer (some ⟨A, 0, none⟩)] 69 (0, 0))).heap.size = w.heap.size + 2 := by simp
  have s3 : (((w.alloc (.cells #[.pointer (some ⟨S, 0, none⟩)] 82 (0, 0))).alloc (.cells #[.pointer (some ⟨A, 0, none⟩)] 69 (0, 0))).alloc (.cells #[.int .i64 p] 3 (0, 0))).heap.size = w.heap.size + 3 := by simp
  have s4 : ((((w.alloc (.cells #[.pointer (some ⟨S, 0, none⟩)] 82 (0, 0))).alloc (.cells #[.pointer (some ⟨A, 0, none⟩)] 69 (0, 0))).alloc (.cells #[.int .i64 p] 3 (0, 0))).alloc (.cells #[vb] 22 (0, 0))).heap.size = w.heap.size + 4 := by simp
  have s5 : (safeW w S A p vb h).drew.heap.size = w.heap.size + 5 := by rw [← safeW_size w S A p vb h]; rfl
  have b0 : Below w.heap.size w (safeW w S A p vb h).drew := by
    unfold safeW
    exact (((((below_alloc w _).trans ((below_alloc _ _).mono (by omega))).trans ((below_alloc _ _).mono (by omega))).trans ((below_alloc _ _).mono (by omega))).trans ((below_alloc _ _).mono (by omega))).drew
  have e : ∀ (k : Nat) (o : Obj), (safeW w S A p vb h).heap[k]? = some o → ((safeW w S A p vb h).drew.alloc (fnRow w.heap.size B)).heap[k]? = some o := fun k o ho => heap_alloc_old (show (safeW w S A p vb h).drew.heap[k]? = some o from ho)
  refine ⟨b0.trans ((below_alloc _ _).mono (by omega)), e _ _ ?_, e _ _ ?_, e _ _ ?_, e _ _ ?_, e _ _ ?_, heap_alloc_at s5.symm⟩
  · exact heap_alloc_old (heap_alloc_old (heap_alloc_old (heap_alloc_old (heap_alloc_at rfl))))
  · exact heap_alloc_old (heap_alloc_old (heap_alloc_old (heap_alloc_at s1.symm)))
  · exact heap_alloc_old (heap_alloc_old (heap_alloc_at s2.symm))
  · exact heap_alloc_old (heap_alloc_at s3.symm)
  · exact heap_alloc_at s4.symm
theorem stepsOf_mono {J J' : World → Prop} {X : Int → World → Prop} {en : Ending} {w' : World} (h : StepsOf J X en w') (hJ : ∀ w, J w → J' w) : StepsOf J' X en w' := by
  obtain ⟨e, h1, h2⟩ := h
  exact ⟨e, h1, h2.imp_left fun ⟨a, b⟩ => ⟨a, hJ _ b⟩⟩
def safeJ (F : Nat → Prop) (W1 : World) (B : Nat) (d : Dev) (first n p : Nat) (b : List UInt8) (h : Hd) : Nat → World → Prop
  | 0, w' => DJ F W1 B d w'
  | 1, w' => (jput d first n p b).2 = 0 ∧ DJ F W1 B (jput d first n p b).1 w'
  | 2, w' => (jput d first n p b).2 = 0 ∧ (jput d first n p b).1.sync.2 = 0 ∧ DJ F W1 B (jput d first n p b).1.sync.1 w'
  | 3, w' => (jput d first n p b).2 = 0 ∧ (jput d first n p b).1.sync.2 = 0 ∧ ((jput d first n p b).1.sync.1.write 0 (hbytes h)).2 = 0 ∧ DJ F W1 B ((jput d first n p b).1.sync.1.write 0 (hbytes h)).1 w'
  | _, w' => (ssafe d first n p b h).2 = 0 ∧ DJ F W1 B (ssafe d first n p b h).1 w'
def safeX (F : Nat → Prop) (W1 : World) (B : Nat) (d : Dev) (first n p : Nat) (b : List UInt8) (h : Hd) (e : Int) (w' : World) : Prop := e = (ssafe d first n p b h).2 ∧ DJ F W1 B (ssafe d first n p b h).1 w'
theorem safeJ_dj {F : Nat → Prop} {W1 : World} {B : Nat} {d : Dev} {first n p : Nat} {b : List UInt8} {h : Hd} : ∀ (i : Nat) (w' : World), safeJ F W1 B d first n p b h i w' → ∃ e, DJ F W1 B e w'
  | 0, w', hj => ⟨_, hj⟩
  | 1, w', hj => ⟨_, hj.2⟩
  | 2, w', hj => ⟨_, hj.2.2⟩
  | 3, w', hj => ⟨_, hj.2.2.2⟩
  | _ + 4, w', hj => ⟨_, hj.2⟩
theorem safeSteps_any {F : Nat → Prop} {w W1 : World} {S B A first n p : Nat} {d : Dev} {b : List UInt8} {h : Hd} {g off cap : Nat} {C : Array Value} (hx : SafeBx w W1 S A B p (.slice (some ⟨g, off, none⟩) b.length cap) h)
    (hd : IsDev F w B d) (hA : IsArea w A B first n) (hAF : ¬ F A) (hlc : b.length ≤ cap) (hb : RB w (some ⟨g, off, none⟩) b) (hg : ¬ F g) (hgl : g < w.heap.size) (hS : w.heap[S]? = some (.cells C 134 (0, 0))) (hSF : ¬ F S) (hC : C[0]? = some (.pointer (some ⟨B, 0, none⟩)))
    (h0 : h.slot < 2) (h1 : h.long < 4294967296) (h2 : h.used < 4294967296) (h3 : h.turn < 4294967296) (hp : d.pend.length + b.length ≤ 90000) (hw : d.writes + b.length ≤ 90000) (hy : d.syncs ≤ 90000) (hf : n = 0 ∨ first ≤ 1024) :
    Calls Try.prog 112 #[.slice (some ⟨w.heap.size + 5, 0, none⟩) 4 4] W1 (fun en w' => en = .returned (.int .i64 (ssafe d first n p b h).2) ∧ DJ F W1 B (ssafe d first n p b h).1 w') := by
  have hl := hd.lt
  have nf : ∀ k, w.heap.size ≤ k → ¬ F k := fun k hk hf => by have := hl k hf; omega
  have hsz : w.heap.size ≤ W1.heap.size := hx.bl.size
  obtain ⟨k1, k2, k3, k4⟩ := jput_bound d first n p b
  obtain ⟨l1, l2, l3, l4⟩ := sync_bound (jput d first n p b).1
  obtain ⟨m1, m2, m3, m4⟩ := write_bound (jput d first n p b).1.sync.1 0 (hbytes h)
  have hSl := (Array.getElem?_eq_some_iff.1 hS).1
  refine (steps_any (A := w.heap.size + 5) (qa := w.heap.size + 1) (qp := w.heap.size + 2) (qb := w.heap.size + 3) (qs := w.heap.size) (qh := w.heap.size + 4) (B := B) (safeJ F W1 B d first n p b h) (safeX F W1 B d first n p b h) ?_ ?_ ?_ ?_ ?_ W1 (DJ.start (hd.below hx.bl))).mono ?_
  · intro i w' hj
    obtain ⟨e, hj⟩ := safeJ_dj i w' hj
    exact hj.blk hx.x5 (nf _ (by omega))
  · intro w' hj
    refine (putStep_any (d := d) (F := F) (w1 := W1) hj (hA.same (hx.bl.block A hA.lt)) hAF p b g off cap hlc (RB.frm (F := F) hb (Frm.of_below hx.bl) hg) hg (by omega) (by omega) (by omega) hf hx.x1 hx.x2 hx.x3 (nf _ (by omega)) (nf _ (by omega)) (nf _ (by omega))).mono ?_
    rintro en w2 ⟨rfl, hj2⟩
    refine ⟨_, rfl, ?_⟩
    by_cases hz : (jput d first n p b).2 = 0
    · exact .inl ⟨hz, hz, hj2⟩
    · exact .inr ⟨hz, by rw [ssafe_1 hz], by rw [ssafe_1 hz]; exact hj2⟩
  · rintro w' ⟨z1, hj⟩
    refine (syncStep_any hj (by omega) (by omega)).mono ?_
    rintro en w2 ⟨rfl, hj2⟩
    refine ⟨_, rfl, ?_⟩
    by_cases hz : (jput d first n p b).1.sync.2 = 0
    · exact .inl ⟨hz, z1, hz, hj2⟩
    · exact .inr ⟨hz, by rw [ssafe_2 z1 hz], by rw [ssafe_2 z1 hz]; exact hj2⟩
  · rintro w' ⟨z1, z2, hj⟩
    refine (tellStep_any hj h h0 h1 h2 h3 hx.x0 ((hx.bl.block S hSl).trans hS) hC hx.x4 (nf _ (by omega)) hSF (nf _ (by omega)) (by omega) (by omega)).mono ?_
    rintro en w2 ⟨rfl, hj2⟩
    refine ⟨_, rfl, ?_⟩
    by_cases hz : ((jput d first n p b).1.sync.1.write 0 (hbytes h)).2 = 0
    · exact .inl ⟨hz, z1, z2, hz, hj2⟩
    · exact .inr ⟨hz, by rw [ssafe_3 z1 z2 hz], by rw [ssafe_3 z1 z2 hz]; exact hj2⟩
  · rintro w' ⟨z1, z2, z3, hj⟩
    refine (syncStep_any hj (by omega) (by omega)).mono ?_
    rintro en w2 ⟨rfl, hj2⟩
    refine ⟨_, rfl, ?_⟩
    have e4 := ssafe_4 z1 z2 z3
    by_cases hz : ((jput d first n p b).1.sync.1.write 0 (hbytes h)).1.sync.2 = 0
    · exact .inl ⟨hz, by rw [e4]; exact hz, by rw [e4]; exact hj2⟩
    · exact .inr ⟨hz, by rw [e4], by rw [e4]; exact hj2⟩
  · rintro en w' ⟨e, rfl, ⟨rfl, hz, hj⟩ | ⟨hne, rfl, hj⟩⟩
    · exact ⟨by rw [hz], hj⟩
    · exact ⟨rfl, hj⟩
end Go.Proofs.Ytopemjbakpahfaa
