/-
  Contracts and plain laws, part 12 (texts: Put). No condition but what each states.
-/
import Derived.Test.YtopemjbakpahfaaSn11
/-
  Put of an area: for every place and all bytes. No condition but that the device's numbers are small.
-/
namespace Go.Proofs.Ytopemjbakpahfaa
open Go.RowKit Disk Jour
attribute [local go_sem] Oper.semAt_some
set_option linter.unusedSimpArgs false
set_option linter.unusedVariables false
/-- The device's own blocks are of three types. -/
def Own3 (w : World) (G : Nat → Prop) : Prop := ∀ k, G k → Typed w k 107 ∨ Typed w k 110 ∨ Typed w k 112
theorem IsDev.core {F : Nat → Prop} {w : World} {B : Nat} {d : Dev} (h : IsDev F w B d) : ∃ G : Nat → Prop, IsDev G w B d ∧ (∀ k, G k → F k) ∧ Own3 w G := by
  obtain ⟨⟨K, vp, h1, h2, h3⟩, h4, h5, h6, h7⟩ := h
  refine ⟨fun k => k = B ∨ k = K ∨ vp.ownBlock = some k, ⟨⟨K, vp, h1, h2.same rfl (.inr (.inl rfl)), ⟨h3.own, fun k hk => .inr (.inr hk)⟩⟩, h4, .inl rfl, h6, ?_⟩, ?_, ?_⟩
  · rintro k (rfl | rfl | hk)
    · exact h7 _ h5
    · exact h7 _ h2.f
    · exact h7 _ (h3.f k hk)
  · rintro k (rfl | rfl | hk)
    · exact h5
    · exact h2.f
    · exact h3.f k hk
  · rintro k (rfl | rfl | hk)
    · exact .inl ⟨_, h1⟩
    · exact .inr (.inl h2.typ)
    · refine .inr (.inr ?_)
      rcases h3.own.2 with ⟨rfl, _⟩ | ⟨g', cap, cur, rfl, _, hh, _⟩
      · simp [Value.ownBlock] at hk
      · obtain rfl : g' = k := by simpa [Value.ownBlock] using hk
        exact ⟨_, hh⟩
theorem Own3.not {w : World} {G : Nat → Prop} (h : Own3 w G) {k : Nat} {C : Array Value} {t : TypeId} {fr : Nat × Nat} (hk : w.heap[k]? = some (.cells C t fr)) (h1 : t ≠ 107) (h2 : t ≠ 110) (h3 : t ≠ 112) : ¬ G k := by
  intro hG
  rcases h k hG with ⟨D, e⟩ | ⟨D, e⟩ | ⟨D, e⟩
  · rw [hk] at e; cases e; exact h1 rfl
  · rw [hk] at e; cases e; exact h2 rfl
  · rw [hk] at e; cases e; exact h3 rfl
theorem Own3.cells {w : World} {G : Nat → Prop} (h : Own3 w G) {k : Nat} {o : Obj} (hk : w.heap[k]? = some o) (ho : o.isCells = false) : ¬ G k := by
  intro hG
  rcases h k hG with ⟨D, e⟩ | ⟨D, e⟩ | ⟨D, e⟩ <;> (rw [hk] at e; cases e; cases ho)
/-- Growth that turns none of the device's blocks. -/
theorem IsDev.grownBy {G : Nat → Prop} {w w' : World} {B : Nat} {d : Dev} {row : Option Nat} (h : IsDev G w B d) (hg : w.grownBy w' row) (hr : ∀ r, row = some r → ¬ G r) : IsDev G w' B d :=
  h.frm (G := fun k => row = some k) (Frm.grown hg (fun _ e => e)) (fun k hk e => hr k e hk)
theorem Own3.same {w w' : World} {G : Nat → Prop} (h : Own3 w G) (e : ∀ k, G k → w'.heap[k]? = w.heap[k]?) : Own3 w' G := fun k hk => by
  rcases h k hk with t | t | t
  · exact .inl (t.same (e k hk))
  · exact .inr (.inl (t.same (e k hk)))
  · exact .inr (.inr (t.same (e k hk)))
/-- What the loop over the parts keeps: the device, behind the parts that are done; the world but for it. -/
structure PutI (F : Nat → Prop) (w : World) (B b0 : Nat) (e : Dev) (W : World) : Prop where
  ex : ∃ G, IsDev G W B e ∧ (∀ k, G k → F k ∨ b0 ≤ k) ∧ Own3 W G
  frm : Frm F w W
  size : b0 ≤ W.heap.size
theorem PutI.own {F : Nat → Prop} {w : World} {B b0 : Nat} {e : Dev} {W W' : World} {row : Option Nat} (h : PutI F w B b0 e W) (hb : w.heap.size ≤ b0) (hg : W.grownBy W' row) (hr : ∀ r, row = some r → b0 ≤ r ∧ ∃ o : Obj, W.heap[r]? = some o ∧ o.isCells = false) : PutI F w B b0 e W' := by
  obtain ⟨⟨G, h1, h2, h3⟩, h4, h5⟩ := h
  have hn : ∀ r, row = some r → ¬ G r := fun r e => by obtain ⟨_, o, ho, hc⟩ := hr r e; exact h3.cells ho hc
  refine ⟨⟨G, h1.grownBy hg hn, h2, h3.same (fun k hk => hg.block k (h1.lt k hk) (fun e => hn k e.symm hk))⟩, ?_, Nat.le_trans h5 hg.size⟩
  exact ⟨hg.os.trans h4.os, hg.tape.trans h4.tape, hg.output.trans h4.output, Nat.le_trans h4.size hg.size, fun k hk hF => (hg.block k (Nat.lt_of_lt_of_le hk h4.size) (fun e => by have := (hr k e.symm).1; omega)).trans (h4.block k hk hF)⟩
theorem PutI.alloc {F : Nat → Prop} {w : World} {B b0 : Nat} {e : Dev} {W : World} (h : PutI F w B b0 e W) (hb : w.heap.size ≤ b0) (o : Obj) : PutI F w B b0 e (W.alloc o) :=
  h.own hb (World.grownBy_alloc W o none) (fun _ e => by cases e)
theorem keepsFrom_frm {G : Nat → Prop} {b0 : Nat} {W W' : World} (h : Frm G W W') (ho : Own3 W G) : KeepsFrom b0 W W' :=
  ⟨h.size, fun k o _ hk hc => (h.block k (Array.getElem?_eq_some_iff.1 hk).1 (ho.cells hk hc)).trans hk⟩
theorem run_copy_bytes (w : World) (ty : TypeId) (b off n c : Nat) (pa : Option Addr) (l : List UInt8) (m sc : Nat) (hm : l.length = m) (hn : pa = none → l = []) (hr : RB w pa l) (hl : l.length ≤ n) (hth : w.there b off l.length) :
    (Builtin.copy_ #[22, 22] ty #[.slice (some ⟨b, off, none⟩) n c, .slice pa m sc]).run Try.prog w = .ok (goInt (l.length : Nat)) (w.setCells b off (l.map byteV)) := by
  subst hm
  have h5 : (Try.prog.info? 5).map (·.size) = some 1 := by kernel_rfl
  cases l with
  | nil => exact run_copy_none w 22 22 ty 5 _ _ _ _ _ _ Try.underlying22 h5 (by simp)
  | cons x l =>
    cases pa with
    | none => exact absurd (hn rfl) (by simp)
    | some ad =>
      have := run_copy_cells (P := Try.prog) w 22 22 ty 5 b off n c ad (x :: l).length sc ((x :: l).map byteV) Try.underlying22 h5 (by simp only [List.length_map, Nat.min_def]; rw [if_pos hl]) hr.news
        (fun j hj => (hth j (by simpa using hj)).1) (fun j hj => (hth j (by simpa using hj)).2) (oneCell_bytes _)
      simpa using this
/-- Put, in plain Lean. -/
def jput (d : Dev) (first N : Nat) (p : Int) (b : List UInt8) : Dev × Int :=
  if p < 0 then (d, 1) else if roomB N p b.length = true then putParts d b (parts (32 * first + p.toNat) b.length b.length 0) else (d, 2)
theorem DevOf.same {F : Nat → Prop} {w w' : World} {B : Nat} {d : Dev} {v : Value} (h : IsDev F w B d) (hb : Below w.heap.size w w') : DevOf F w B d v (.returned v) w' :=
  ⟨rfl, Frm.of_below hb, (h.below hb).grow h.lt hb.size⟩
theorem PutI.fin {F : Nat → Prop} {w W : World} {B b0 : Nat} {e : Dev} (h : PutI F w B b0 e W) (hF : ∀ k, F k → k < w.heap.size) (hb : w.heap.size ≤ b0) : Frm F w W ∧ IsDev (Grow F w W) W B e := by
  obtain ⟨⟨G, h1, h2, h3⟩, h4, h5⟩ := h
  exact ⟨h4, h1.mono (fun k hk => (h2 k hk).imp_right (fun h => ⟨by omega, h1.lt k hk⟩)) (fun k hk => hk.elim (fun h => by have := hF k h; have := h4.size; omega) (·.2))⟩
theorem PutI.box {F : Nat → Prop} {w W : World} {B b0 k : Nat} {e : Dev} {v : Value} (h : PutI F w B b0 e W) (hk : w.heap.size ≤ k) {t : TypeId} (hx : Boxed W k t v) (t1 : t ≠ 107) (t2 : t ≠ 110) (t3 : t ≠ 112) (u : Value) : PutI F w B b0 e (W.setCell ⟨k, 0, none⟩ u) := by
  obtain ⟨⟨G, h1, h2, h3⟩, h4, h5⟩ := h
  have hn : ¬ G k := h3.not hx t1 t2 t3
  have hf : Frm (fun j => j = k) W (W.setCell ⟨k, 0, none⟩ u) := Frm.setCell (F := fun j => j = k) W 0 u rfl
  refine ⟨⟨G, h1.frm hf (fun j hj e => hn (e ▸ hj)), h2, h3.same (fun j hj => hf.block j (h1.lt j hj) (fun e => hn (e ▸ hj)))⟩, h4.trans hf (fun j e => .inr (by omega)), by simpa using h5⟩
theorem PutI.put {F : Nat → Prop} {w W : World} {B b0 D : Nat} {e : Dev} (h : PutI F w B b0 e W) (hb : w.heap.size ≤ b0) {o : Obj} (o' : Obj) (hD : b0 ≤ D) (ho : W.heap[D]? = some o) (hc : o.isCells = false) : PutI F w B b0 e (W.putObj D o') :=
  h.own hb (grownBy_putObj' W D o') (fun r e => by cases e; exact ⟨hD, o, ho, hc⟩)
theorem keepsFrom_below {b0 : Nat} {W W' : World} (h : Below W.heap.size W W') : KeepsFrom b0 W W' := ⟨h.size, fun k o _ hk _ => (h.block k (Array.getElem?_eq_some_iff.1 hk).1).trans hk⟩
theorem read_len {e : Dev} (ok : e.ok) {k : Int} (h : (e.read k).2 = 0) : (e.read k).1.length = 32 ∧ 0 ≤ k ∧ k < (e.kept.length : Int) := by
  unfold Dev.read at h ⊢
  by_cases h1 : e.ask k = 0
  · rw [if_neg (by simpa using h1)] at h ⊢
    unfold Dev.ask at h1
    split at h1
    · omega
    · split at h1
      · omega
      · exact ⟨sector_length ok (by omega), by omega, by omega⟩
  · rw [if_pos h1] at h; exact absurd h h1
/-- The parts that are done, put. -/
def putOf (d : Dev) (b : List UInt8) (pre : List (PartS b.length)) : Dev × Int := putParts d b (pre.map (·.1))
theorem putOf_snoc {d : Dev} {b : List UInt8} (pre : List (PartS b.length)) (x : PartS b.length) (hok : (putOf d b pre).2 = 0) : putOf d b (pre ++ [x]) = doPart (putOf d b pre).1 b x.1 := by
  unfold putOf at hok ⊢
  rw [List.map_append]
  exact putParts_snoc b _ _ d hok
structure PutL (F : Nat → Prop) (w : World) (A B : Nat) (d : Dev) (b : List UInt8) (a : Option Addr) (cap : Nat) (pre : List (PartS b.length)) (W : World) : Prop where
  i : PutI F w B (w.heap.size + 6) (putOf d b pre).1 W
  ok : (putOf d b pre).2 = 0
  b0 : Boxed W w.heap.size 69 (.pointer (some ⟨A, 0, none⟩))
  b1 : Boxed W (w.heap.size + 1) 22 (.slice a b.length cap)
  b2 : Boxed W (w.heap.size + 2) 25 (.int .i64 0)
structure PutX (F : Nat → Prop) (w : World) (B : Nat) (d : Dev) (b : List UInt8) (c : Code) (pre : List (PartS b.length)) (W : World) : Prop where
  c : c = .ret
  i : PutI F w B (w.heap.size + 6) (putOf d b pre).1 W
  ne : (putOf d b pre).2 ≠ 0
  b2 : Boxed W (w.heap.size + 2) 25 (.int .i64 (putOf d b pre).2)
theorem boxed_grown {W W' : World} {row : Option Nat} {k : Nat} {t : TypeId} {v : Value} {b0 : Nat} (h : Boxed W k t v) (hk : k < b0) (hg : W.grownBy W' row) (hr : ∀ r, row = some r → b0 ≤ r ∧ ∃ o : Obj, W.heap[r]? = some o ∧ o.isCells = false) : Boxed W' k t v :=
  h.kept hg (fun e => by have := (hr k e.symm).1; omega)
theorem PutL.own (F : Nat → Prop) (w : World) (A B : Nat) (d : Dev) (b : List UInt8) (a : Option Addr) (cap : Nat) : OwnFrom (w.heap.size + 6) (PutL F w A B d b a cap) := fun s W W' row h hg hr =>
  ⟨h.i.own (by omega) hg hr, h.ok, boxed_grown h.b0 (by omega) hg hr, boxed_grown h.b1 (by omega) hg hr, boxed_grown h.b2 (by omega) hg hr⟩
theorem PutX.own (F : Nat → Prop) (w : World) (B : Nat) (d : Dev) (b : List UInt8) (c : Code) : OwnFrom (w.heap.size + 6) (PutX F w B d b c) := fun s W W' row h hg hr =>
  ⟨h.c, h.i.own (by omega) hg hr, h.ne, boxed_grown h.b2 (by omega) hg hr⟩
theorem PutL.alloc {F : Nat → Prop} {w : World} {A B : Nat} {d : Dev} {b : List UInt8} {a : Option Addr} {cap : Nat} {pre : List (PartS b.length)} {W : World} (h : PutL F w A B d b a cap pre W) (o : Obj) : PutL F w A B d b a cap pre (W.alloc o) :=
  PutL.own F w A B d b a cap pre W _ none h (World.grownBy_alloc W o none) (fun _ e => by cases e)
theorem PutI.start {F : Nat → Prop} {w W : World} {B : Nat} {d : Dev} (h : IsDev F w B d) (hb : Below w.heap.size w W) {b0 : Nat} (hs : b0 ≤ W.heap.size) : PutI F w B b0 d W := by
  obtain ⟨G, h1, h2, h3⟩ := h.core
  exact ⟨⟨G, h1.below hb, fun k hk => .inl (h2 k hk), h3.same (fun k hk => hb.block k (h1.lt k hk))⟩, Frm.of_below hb, hs⟩
set_option maxRecDepth 100000 in
set_option maxHeartbeats 4000000 in
theorem put_any {F : Nat → Prop} {w : World} {B : Nat} {d : Dev} (h : IsDev F w B d) {A first N : Nat} (hA : IsArea w A B first N) (hAF : ¬ F A) (p : Int) (b : List UInt8) (a : Option Addr) (cap : Nat) (hn : a = none → b = []) (hlc : b.length ≤ cap)
    (hsrc : ∀ w', Frm F w w' → RB w' a b) (hp : d.pend.length + b.length ≤ 100000) (hw : d.writes + b.length ≤ 100000) (hf : N = 0 ∨ first ≤ 1024) :
    Calls Try.prog 54 #[.pointer (some ⟨A, 0, none⟩), .int .i64 p, .slice a b.length cap] w (DevOf F w B (jput d first N p b).1 (.int .i64 (jput d first N p b).2)) := by
  obtain ⟨r, hr0⟩ : ∃ r, jput d first N p b = r := ⟨_, rfl⟩
  rw [hr0]
  have HR0 := Lib.hid hr0
  clear hr0
  have FL := Lib.hid h.lt
  refine (callsIn_wide (n := 5)).1 ?_
  refine callsIn_of_wp_marks Try.func54 rfl trivial ?_ rfl
  simp only [Try.ntmps54, List.size_toArray, List.length_cons, List.length_nil, Nat.reduceAdd, Nat.reduceSub, Array.replicate_succ, Array.replicate_zero, List.push_toArray, List.append_toArray, List.nil_append, List.cons_append]
  by_cases h0 : p < 0
  · obtain rfl : r = (d, 1) := by rw [← HR0.out]; unfold jput; rw [if_pos h0]
    gi_wp2_with fail
    refine ⟨.int .i64 1, by simp [results, Try.results54, go_sem], ?_⟩
    exact DevOf.same h ((((Below.refl _ w).alloc (Nat.le_refl _) _).alloc (by simp) _).alloc (by simp; omega) _)
  gi_wp2_with fail
  refine ⟨trivial, (callsIn_wide.2 (fits_any (((hA.below (below_alloc w _)).below (below_alloc _ _)).below (below_alloc _ _)) p b a cap)).mono ?_⟩
  rintro en w1 ⟨rfl, rfl⟩
  cases hroom : roomB N p b.length
  · obtain rfl : r = (d, 2) := by rw [← HR0.out]; unfold jput; rw [if_neg (by omega), hroom, if_neg (by decide)]
    clear hroom
    gi_wp2_with fail
    refine ⟨.int .i64 2, by simp [results, Try.results54, go_sem], ?_⟩
    exact DevOf.same h ((((Below.refl _ w).alloc (Nat.le_refl _) _).alloc (by simp) _).alloc (by simp; omega) _)
  obtain ⟨q, rfl⟩ : ∃ q : Nat, p = (q : Int) := ⟨p.toNat, by omega⟩
  have hrm : q ≤ 32 * N ∧ b.length ≤ 32 * N - q := by
    unfold roomB at hroom
    simp at hroom
    omega
  have hrr : r = putParts d b (parts (32 * first + q) b.length b.length 0) := by rw [← HR0.out]; unfold jput; rw [if_neg (by omega), hroom, if_pos rfl, Int.toNat_natCast]
  have HRR := Lib.hid hrr
  clear hroom hrr HR0
  gi_wp2_with fail
  refine ⟨trivial, (callsIn_wide.2 (parts_any _ A (q : Int) (b.length : Int))).mono ?_⟩
  rintro en w1 ⟨rfl, rfl⟩
  gi_wp2_with fail
  simp only [Nat.add_assoc, Nat.reduceAdd]
  obtain ⟨W0, hW0⟩ : ∃ W0, partsW (((w.alloc (.cells #[.pointer (some ⟨A, 0, none⟩)] 69)).alloc (.cells #[.slice a b.length cap] 22)).alloc (.cells #[.int .i64 0] 25)) A (q : Int) (b.length : Int) = W0 := ⟨_, rfl⟩
  have hsz : W0.heap.size = w.heap.size + 6 := by rw [← hW0]; simp [partsW]
  have hBW : Below w.heap.size w W0 := by
    rw [← hW0]
    exact (((((((Below.refl _ w).alloc (Nat.le_refl _) _).alloc (by simp) _).alloc (by simp; omega) _).alloc (by simp; omega) _).alloc (by simp; omega) _).alloc (by simp; omega) _)
  have x0 : Boxed W0 w.heap.size 69 (.pointer (some ⟨A, 0, none⟩)) := by rw [← hW0]; exact (((((Boxed.new w 69 _).alloc _).alloc _).alloc _).alloc _).alloc _
  have x1 : Boxed W0 (w.heap.size + 1) 22 (.slice a b.length cap) := by
    rw [← hW0]
    have := ((((Boxed.new (w.alloc (.cells #[.pointer (some ⟨A, 0, none⟩)] 69)) 22 (.slice a b.length cap)).alloc (.cells #[.int .i64 0] 25)).alloc (.cells #[.pointer (some ⟨A, 0, none⟩)] 69)).alloc (.cells #[.int .i64 (q : Int)] 3)).alloc (.cells #[.int .i64 (b.length : Int)] 3)
    simpa only [World.size_alloc, Nat.add_assoc, Nat.reduceAdd, partsW] using this
  have x2 : Boxed W0 (w.heap.size + 2) 25 (.int .i64 0) := by
    rw [← hW0]
    have := (((Boxed.new ((w.alloc (.cells #[.pointer (some ⟨A, 0, none⟩)] 69)).alloc (.cells #[.slice a b.length cap] 22)) 25 (.int .i64 0)).alloc (.cells #[.pointer (some ⟨A, 0, none⟩)] 69)).alloc (.cells #[.int .i64 (q : Int)] 3)).alloc (.cells #[.int .i64 (b.length : Int)] 3)
    simpa only [World.size_alloc, Nat.add_assoc, Nat.reduceAdd, partsW] using this
  have x3 : Boxed W0 (w.heap.size + 3) 69 (.pointer (some ⟨A, 0, none⟩)) := by
    rw [← hW0]
    have := ((Boxed.new (((w.alloc (.cells #[.pointer (some ⟨A, 0, none⟩)] 69)).alloc (.cells #[.slice a b.length cap] 22)).alloc (.cells #[.int .i64 0] 25)) 69 (.pointer (some ⟨A, 0, none⟩))).alloc (.cells #[.int .i64 (q : Int)] 3)).alloc (.cells #[.int .i64 (b.length : Int)] 3)
    simpa only [World.size_alloc, Nat.add_assoc, Nat.reduceAdd, partsW] using this
  have x4 : Boxed W0 (w.heap.size + 4) 3 (.int .i64 (q : Int)) := by
    rw [← hW0]
    have := (Boxed.new ((((w.alloc (.cells #[.pointer (some ⟨A, 0, none⟩)] 69)).alloc (.cells #[.slice a b.length cap] 22)).alloc (.cells #[.int .i64 0] 25)).alloc (.cells #[.pointer (some ⟨A, 0, none⟩)] 69)) 3 (.int .i64 (q : Int))).alloc (.cells #[.int .i64 (b.length : Int)] 3)
    simpa only [World.size_alloc, Nat.add_assoc, Nat.reduceAdd, partsW] using this
  have x5 : Boxed W0 (w.heap.size + 5) 3 (.int .i64 (b.length : Int)) := by
    rw [← hW0]
    have := Boxed.new (((((w.alloc (.cells #[.pointer (some ⟨A, 0, none⟩)] 69)).alloc (.cells #[.slice a b.length cap] 22)).alloc (.cells #[.int .i64 0] 25)).alloc (.cells #[.pointer (some ⟨A, 0, none⟩)] 69)).alloc (.cells #[.int .i64 (q : Int)] 3)) 3 (.int .i64 (b.length : Int))
    simpa only [World.size_alloc, Nat.add_assoc, Nat.reduceAdd, partsW] using this
  rw [hW0]
  clear hW0
  have hAW := hA.below hBW
  have hlt : ∀ k ∈ [A, w.heap.size + 5, w.heap.size + 4, w.heap.size + 3], k < w.heap.size + 6 := by
    have := hA.lt
    intro k hk
    simp at hk
    rcases hk with rfl | rfl | rfl | rfl <;> omega
  have hseq := parts1_stops W0 A B first N (w.heap.size + 5) (w.heap.size + 4) (w.heap.size + 3) q b.length 4 hAW x5 x4 x3 (by have := hA.n; omega) (by omega)
  have hL0 : PutL F w A B d b a cap [] W0 := ⟨PutI.start h hBW (by omega), rfl, x0, x1, x2⟩
  rw [← hsz] at hlt
  refine wpIn_rangeFunc_ownH (w0 := W0) rfl (by omega) (gf := 104) (lb := #[.pointer (some ⟨w.heap.size + 5, 0, none⟩), .pointer (some ⟨w.heap.size + 4, 0, none⟩), .pointer (some ⟨w.heap.size + 3, 0, none⟩)]) rfl trivial (enters_of Try.func104 (by kernel_rfl) rfl)
    hseq (fun h k => h.trans k) (fun W l o o' hl hW ho _ => KeepP.put o' (fun k hk => by have := hlt k hk; omega) hW ho) (Below.refl _ _) (fun _ => rfl)
    (PutL F w A B d b a cap) (PutX F w B d b) (by rw [hsz]; exact PutL.own F w A B d b a cap) (fun c => by rw [hsz]; exact PutX.own F w B d b c) hL0
    (fun x a' W => ∃ g, W.heap[g]? = some (.cells (pcell3 x.1) 127 (0, 0)) ∧ a' = { tmps := #[Value.pointer (some ⟨A, 0, none⟩), Value.int .i64 (q : Int), Value.slice a b.length cap, Value.pointer (some ⟨w.heap.size, 0, none⟩), undef, Value.pointer (some ⟨w.heap.size + 1, 0, none⟩), Value.pointer (some ⟨w.heap.size + 2, 0, none⟩), Value.int .i64 (x.1.sec : Int), Value.pointer (some ⟨g, 0, none⟩), undef, undef, undef, Value.bool false, Value.int .i64 (q : Int), Value.bool false, Value.bool false, Value.pointer (some ⟨A, 0, none⟩), Value.int .i64 (q : Int), Value.slice a b.length cap, Value.bool true, Value.bool false, Value.pointer (some ⟨A, 0, none⟩), Value.int .i64 (q : Int), Value.slice a b.length cap, Value.int .i64 (b.length : Int), Value.func (Fn.func 104) #[] #[Value.pointer (some ⟨w.heap.size + 5, 0, none⟩), Value.pointer (some ⟨w.heap.size + 4, 0, none⟩), Value.pointer (some ⟨w.heap.size + 3, 0, none⟩)], Value.int .i64 (x.1.sec : Int), Value.agg (pcell3 x.1), undef, undef, undef, undef, undef, undef, undef, undef, undef, undef, undef, undef, undef, undef, undef, undef, undef, undef, undef, undef, undef, undef, undef, undef, undef, undef, undef, undef, undef, undef, undef, undef, undef, undef, undef, undef], defers := [] })
    (fun x a' s W W' row h hg hr => by
      obtain ⟨g, h1, h2⟩ := h
      exact ⟨g, (hg.block g (Array.getElem?_eq_some_iff.1 h1).1 (fun e => by obtain ⟨_, o, ho, hc⟩ := hr g e.symm; rw [h1] at ho; cases ho; cases hc)).trans h1, h2⟩) ?assign ?body ?done ?stop
  case assign =>
    intro l pre x W K hi hK
    have hs6 := hi.i.size
    have hK2 := hK _ _ ((KeepsOthers.alloc W (.cells (pcell3 x.1) 127)).from _) (KeepP.alloc (fun k hk => by have := hlt k hk; omega) _) (hi.alloc _) ⟨W.heap.size, heap_alloc_new W _, rfl⟩
    have HK2 := Lib.hid hK2
    clear hK2 hK
    dsimp only [PartS.enc, pcell3] at HK2 ⊢
    gi_wp2
    exact HK2.out
  case body =>
    rintro l pre x a' W hl ⟨rr, hrr⟩ ⟨hi, hok, y0, y1, y2⟩ ⟨g, hg, rfl⟩ hlen
    obtain ⟨⟨G, hD, hGF, hO⟩, hfr, hsz6⟩ := hi
    have hAr := hA.frm hfr hAF
    have hbd := putParts_bound b (pre.map (·.1)) d
    have hsn := putOf_snoc pre x hok
    change (putOf d b pre).1.pend.length ≤ _ ∧ (putOf d b pre).1.writes ≤ _ ∧ _ at hbd
    obtain ⟨⟨hx1, hx2⟩, hx3, hx4⟩ := x.2
    obtain ⟨px, hpx⟩ : ∃ px, pre ++ [x] = px := ⟨_, rfl⟩
    rw [hpx] at hsn ⊢
    clear hpx
    generalize (putOf d b pre).1 = e at hD hbd hsn
    generalize x.1 = xp at hx1 hx2 hx3 hx4 hg hsn ⊢
    obtain ⟨sec, ins, outs, n⟩ := xp
    dsimp only at hx1 hx2 hx3 hx4
    dsimp only [pcell3] at hg ⊢
    rw [List.length_map] at hbd
    obtain ⟨hb1, hb2, _, _⟩ := hbd
    have HSN := Lib.hid hsn
    clear hsn hok
    have c0 := y0.cell
    have cA : W.cell? ⟨A, 0, none⟩ = some (.pointer (some ⟨B, 0, none⟩)) := Joins.cell_of_block hAr.blk 0
    gi_wp2_with fail
    refine ⟨trivial, (CallsIn.inRound l (callsIn_wide.2 (read_any hD (sec : Int) (by omega)))).mono ?_⟩
    rintro en W1 ⟨b1, v, rfl, hsec⟩
    have z2 := y2.kept (grown_below b1) (by simp)
    have cz2 := z2.cell
    have fz2 := z2.frozen
    by_cases hz : (e.read (sec : Int)).2 = 0
    rotate_left
    · have hne : (((e.read (sec : Int)).2 : Int) != 0) = true := by rw [bne_iff_ne]; exact hz
      have HD1 : putOf d b px = (e, (e.read (sec : Int)).2) := by rw [HSN.out]; unfold doPart; rw [if_pos hz]
      have HD2 := Lib.hid HD1
      clear HD1
      generalize (e.read (sec : Int)).2 = re at hz hne HD2
      gi_wp2
      have hP1 : PutI F w B (w.heap.size + 6) e W1 := ⟨⟨G, hD.below b1, hGF, hO.same (fun k hk => b1.block k (hD.lt k hk))⟩, hfr.trans (Frm.of_below (F := F) b1) (fun k hk => .inl hk), Nat.le_trans hsz6 b1.size⟩
      exact ⟨(keepsFrom_below b1).trans ((KeepsOthers.setCell _ _ _).from _), rfl, by rw [HD2.out]; exact hP1.box (by omega) z2 (by decide) (by decide) (by decide) _, by rw [HD2.out]; exact hz, by rw [HD2.out]; exact z2.set _⟩
    obtain ⟨hl32, hs0, hs1⟩ := read_len hD.ok hz
    have HD1 : putOf d b px = e.write (sec : Int) (lay (e.read (sec : Int)).1 ins (piece b ⟨sec, ins, outs, n⟩)) := by rw [HSN.out]; unfold doPart; rw [if_neg (by simpa using hz)]
    rw [hz]
    have HD2 := Lib.hid HD1
    clear HD1 HSN hz
    generalize (e.read (sec : Int)).1 = sl at hsec hl32 HD2
    rcases hsec with ⟨_, e0⟩ | ⟨gs, rfl, _, hgs1, hgs2, hrg, hth⟩
    · rw [e0] at hl32; cases hl32
    have fr1 : Frm F w W1 := hfr.trans (Frm.of_below (F := F) b1) (fun k hk => .inl hk)
    obtain ⟨ga, off, ea, hga, _⟩ := hsrc W1 fr1 0 (by omega)
    subst ea
    have hgW : g < W.heap.size := (Array.getElem?_eq_some_iff.1 hg).1
    have hg1 := (b1.block g hgW).trans hg
    have z1 := y1.kept (grown_below b1) (by simp)
    have hb1' : w.heap.size + 1 < W.heap.size := y1.lt
    obtain ⟨S, hS⟩ : ∃ S : World → Prop, S = fun w' => w'.cell? ⟨g, 0, none⟩ = some (.int .i64 (ins : Int)) ∧ w'.cell? ⟨g, 1, none⟩ = some (.int .i64 (outs : Int)) ∧ w'.cell? ⟨g, 2, none⟩ = some (.int .i64 (n : Int)) ∧ w'.cell? ⟨w.heap.size + 1, 0, none⟩ = some (.slice (some ⟨ga, off, none⟩) b.length cap) := ⟨_, rfl⟩
    have hSS : Hid (∀ w', S w' → w'.cell? ⟨g, 0, none⟩ = some (.int .i64 (ins : Int)) ∧ w'.cell? ⟨g, 1, none⟩ = some (.int .i64 (outs : Int)) ∧ w'.cell? ⟨g, 2, none⟩ = some (.int .i64 (n : Int)) ∧ w'.cell? ⟨w.heap.size + 1, 0, none⟩ = some (.slice (some ⟨ga, off, none⟩) b.length cap)) := fun w' h => by rw [hS] at h; exact h
    have hSb : ∀ w' : World, w'.heap[g]? = some (.cells #[.int .i64 (ins : Int), .int .i64 (outs : Int), .int .i64 (n : Int)] 127 (0, 0)) → Boxed w' (w.heap.size + 1) 22 (.slice (some ⟨ga, off, none⟩) b.length cap) → S w' := fun w' h1 h2 => by
      rw [hS]; exact ⟨Joins.cell_of_block h1 0, Joins.cell_of_block h1 1, Joins.cell_of_block h1 2, h2.cell⟩
    have pcl : (piece b ⟨sec, ins, outs, n⟩).length = n := piece_length hx2
    have hgd : W1.drew.heap[g]? = some (.cells #[.int .i64 (ins : Int), .int .i64 (outs : Int), .int .i64 (n : Int)] 127 (0, 0)) := hg1
    have hcp : ∀ ty, (Builtin.copy_ #[22, 22] ty #[.slice (some ⟨gs, ins, none⟩) (32 - ins) (32 - ins), .slice (some ⟨ga, off + outs, none⟩) n (cap - outs)]).run Try.prog W1.drew = .ok (goInt ((piece b ⟨sec, ins, outs, n⟩).length : Nat)) (W1.drew.setCells gs ins ((piece b ⟨sec, ins, outs, n⟩).map byteV)) := fun ty =>
      run_copy_bytes W1.drew ty gs ins (32 - ins) (32 - ins) (some ⟨ga, off + outs, none⟩) (piece b ⟨sec, ins, outs, n⟩) n (cap - outs) pcl (fun e => by cases e) (((hsrc W1 fr1).below (Below.refl _ _).drew).drop_take outs n) (by rw [pcl]; omega)
        (fun j hj => by rw [pcl] at hj; have := hth (ins + j) (by omega); simpa using this)
    have hrg2 := range_overlay (w := W1.drew) (b := gs) (C := sl.map byteV) (by simpa using hrg) ins ((piece b ⟨sec, ins, outs, n⟩).map byteV) (by rw [List.length_map, List.length_map, pcl, hl32]; omega)
    have hlay : (sl.map byteV).take ins ++ (piece b ⟨sec, ins, outs, n⟩).map byteV ++ (sl.map byteV).drop (ins + ((piece b ⟨sec, ins, outs, n⟩).map byteV).length) = (lay sl ins (piece b ⟨sec, ins, outs, n⟩)).map byteV := by
      unfold lay; rw [List.length_map, List.map_append, List.map_append, List.map_take, List.map_drop]
    rw [hlay] at hrg2
    have bZ : Below W.heap.size W (W1.drew.setCells gs ins ((piece b ⟨sec, ins, outs, n⟩).map byteV)) := (b1.drew).trans ((frm_setCells (F := fun k => k = gs) rfl _ _ _).below (fun k hk => by omega) (by have := b1.size; simpa using this))
    have gZ : gs < (W1.drew.setCells gs ins ((piece b ⟨sec, ins, outs, n⟩).map byteV)).heap.size := by rw [size_setCells]; exact hgs2
    have s0 : S W1.drew := hSb _ hgd z1
    have s1 : S (W1.drew.setCells gs ins ((piece b ⟨sec, ins, outs, n⟩).map byteV)) := hSb _ ((bZ.block g hgW).trans hg) (y1.kept (grown_below bZ) (by simp))
    have HCP := Lib.hid hcp
    have RG := Lib.hid hrg2
    have BZ := Lib.hid bZ
    have LL := Lib.hid (lay_length (s := sl) (x := piece b ⟨sec, ins, outs, n⟩) (k := ins) hl32 (by rw [pcl]; omega))
    have hi0 : (0 : Int) ≤ (ins : Int) := by omega
    have hi1 : (ins : Int) < 32 := by omega
    have ho0 : (0 : Int) ≤ (outs : Int) := by omega
    have ho1 : (outs : Int) + (n : Int) ≤ (b.length : Int) := by omega
    have hn0 : (0 : Int) < (n : Int) := by omega
    have hbc : (b.length : Int) ≤ (cap : Int) := by omega
    have hbm : (b.length : Int) ≤ 100000 := by omega
    clear hS hSb hgd hg1 hcp hrg2 hrg hlay bZ hth
    gi_wp2_with fail
    refine wpIn_region_held (S := S) (by kernel_rfl) ?_
    change wpHIn _ _ _ _ _ _ _ _ _ _ (World.drew _)
    refine wpHIn_take (i := 0) (v := .slice (some ⟨gs, 0, none⟩) 32 32) (by kernel_rfl) rfl (by kernel_rfl) (by kernel_rfl) (by kernel_rfl) (fun _ _ _ h => h) (by rfl) (by intro w hw; go_simp) (by intro w; go_simp) s0 ?_
    try simp only [Act.put, List.getElem_toArray, List.getElem_cons_zero, List.getElem_cons_succ, List.setIfInBounds_toArray, List.set_cons_zero, List.set_cons_succ]
    refine wpHIn_take (i := 1) (v := .pointer (some ⟨g, 0, none⟩)) (by kernel_rfl) rfl (by kernel_rfl) (by kernel_rfl) (by kernel_rfl) (fun _ _ _ h => h) (by rfl) (by intro w hw; go_simp) (by intro w; go_simp) s0 ?_
    try simp only [Act.put, List.getElem_toArray, List.getElem_cons_zero, List.getElem_cons_succ, List.setIfInBounds_toArray, List.set_cons_zero, List.set_cons_succ]
    refine wpHIn_take (i := 2) (v := .int .i64 (ins : Int)) (by kernel_rfl) rfl (by kernel_rfl) (by kernel_rfl) (by kernel_rfl) (fun _ _ _ h => h) (by rfl) (by intro w hw; have h := hSS.out w hw; obtain ⟨h1, h2, h3, h4⟩ := h; go_simp) (by intro w; go_simp) s0 ?_
    try simp only [Act.put, List.getElem_toArray, List.getElem_cons_zero, List.getElem_cons_succ, List.setIfInBounds_toArray, List.set_cons_zero, List.set_cons_succ]
    refine wpHIn_take (i := 3) (v := .slice (some ⟨gs, ins, none⟩) (32 - ins) (32 - ins)) (by kernel_rfl) rfl (by kernel_rfl) (by kernel_rfl) (by kernel_rfl) (fun _ _ _ h => h) (by rfl) (by intro w hw; go_simp; rw [if_pos (by omega), if_neg (by omega)]) (by intro w; go_simp) s0 ?_
    try simp only [Act.put, List.getElem_toArray, List.getElem_cons_zero, List.getElem_cons_succ, List.setIfInBounds_toArray, List.set_cons_zero, List.set_cons_succ]
    refine wpHIn_take (i := 4) (v := .slice (some ⟨ga, off, none⟩) b.length cap) (by kernel_rfl) rfl (by kernel_rfl) (by kernel_rfl) (by kernel_rfl) (fun _ _ _ h => h) (by rfl) (by intro w hw; have h := hSS.out w hw; obtain ⟨h1, h2, h3, h4⟩ := h; go_simp) (by intro w; go_simp) s0 ?_
    try simp only [Act.put, List.getElem_toArray, List.getElem_cons_zero, List.getElem_cons_succ, List.setIfInBounds_toArray, List.set_cons_zero, List.set_cons_succ]
    refine wpHIn_take (i := 5) (v := .pointer (some ⟨g, 1, none⟩)) (by kernel_rfl) rfl (by kernel_rfl) (by kernel_rfl) (by kernel_rfl) (fun _ _ _ h => h) (by rfl) (by intro w hw; go_simp) (by intro w; go_simp) s0 ?_
    try simp only [Act.put, List.getElem_toArray, List.getElem_cons_zero, List.getElem_cons_succ, List.setIfInBounds_toArray, List.set_cons_zero, List.set_cons_succ]
    refine wpHIn_take (i := 6) (v := .int .i64 (outs : Int)) (by kernel_rfl) rfl (by kernel_rfl) (by kernel_rfl) (by kernel_rfl) (fun _ _ _ h => h) (by rfl) (by intro w hw; have h := hSS.out w hw; obtain ⟨h1, h2, h3, h4⟩ := h; go_simp) (by intro w; go_simp) s0 ?_
    try simp only [Act.put, List.getElem_toArray, List.getElem_cons_zero, List.getElem_cons_succ, List.setIfInBounds_toArray, List.set_cons_zero, List.set_cons_succ]
    refine wpHIn_take (i := 7) (v := .pointer (some ⟨g, 1, none⟩)) (by kernel_rfl) rfl (by kernel_rfl) (by kernel_rfl) (by kernel_rfl) (fun _ _ _ h => h) (by rfl) (by intro w hw; go_simp) (by intro w; go_simp) s0 ?_
    try simp only [Act.put, List.getElem_toArray, List.getElem_cons_zero, List.getElem_cons_succ, List.setIfInBounds_toArray, List.set_cons_zero, List.set_cons_succ]
    refine wpHIn_take (i := 8) (v := .int .i64 (outs : Int)) (by kernel_rfl) rfl (by kernel_rfl) (by kernel_rfl) (by kernel_rfl) (fun _ _ _ h => h) (by rfl) (by intro w hw; have h := hSS.out w hw; obtain ⟨h1, h2, h3, h4⟩ := h; go_simp) (by intro w; go_simp) s0 ?_
    try simp only [Act.put, List.getElem_toArray, List.getElem_cons_zero, List.getElem_cons_succ, List.setIfInBounds_toArray, List.set_cons_zero, List.set_cons_succ]
    refine wpHIn_take (i := 9) (v := .pointer (some ⟨g, 2, none⟩)) (by kernel_rfl) rfl (by kernel_rfl) (by kernel_rfl) (by kernel_rfl) (fun _ _ _ h => h) (by rfl) (by intro w hw; go_simp) (by intro w; go_simp) s0 ?_
    try simp only [Act.put, List.getElem_toArray, List.getElem_cons_zero, List.getElem_cons_succ, List.setIfInBounds_toArray, List.set_cons_zero, List.set_cons_succ]
    refine wpHIn_take (i := 10) (v := .int .i64 (n : Int)) (by kernel_rfl) rfl (by kernel_rfl) (by kernel_rfl) (by kernel_rfl) (fun _ _ _ h => h) (by rfl) (by intro w hw; have h := hSS.out w hw; obtain ⟨h1, h2, h3, h4⟩ := h; go_simp) (by intro w; go_simp) s0 ?_
    try simp only [Act.put, List.getElem_toArray, List.getElem_cons_zero, List.getElem_cons_succ, List.setIfInBounds_toArray, List.set_cons_zero, List.set_cons_succ]
    refine wpHIn_take (i := 11) (v := .int .i64 ((outs : Int) + (n : Int))) (by kernel_rfl) rfl (by kernel_rfl) (by kernel_rfl) (by kernel_rfl) (fun _ _ _ h => h) (by rfl) (by intro w hw; go_simp; exact IntWalk.i64_in _ (by omega)) (by intro w; go_simp) s0 ?_
    try simp only [Act.put, List.getElem_toArray, List.getElem_cons_zero, List.getElem_cons_succ, List.setIfInBounds_toArray, List.set_cons_zero, List.set_cons_succ]
    refine wpHIn_take (i := 12) (v := .slice (some ⟨ga, off + outs, none⟩) n (cap - outs)) (by kernel_rfl) rfl (by kernel_rfl) (by kernel_rfl) (by kernel_rfl) (fun _ _ _ h => h) (by rfl) (by intro w hw; go_simp; rw [if_pos (by omega), if_pos (by omega), if_neg (by omega), show ((outs : Int) + (n : Int)).toNat - outs = n by omega]) (by intro w; go_simp) s0 ?_
    try simp only [Act.put, List.getElem_toArray, List.getElem_cons_zero, List.getElem_cons_succ, List.setIfInBounds_toArray, List.set_cons_zero, List.set_cons_succ]
    refine wpHIn_one (i := 13) (by kernel_rfl) rfl (by rfl) (fun Kc hK => ?_)
    have hcp := HCP.out
    go_simp
    refine hK _ _ s1 ?_
    clear hK Kc
    try simp only [Act.put, List.getElem_toArray, List.getElem_cons_zero, List.getElem_cons_succ, List.setIfInBounds_toArray, List.set_cons_zero, List.set_cons_succ]
    refine wpHIn_done (by kernel_rfl) ?_ _
    have rg := RG.out
    have bz := BZ.out
    have ll := LL.out
    clear s0 s1 HCP RG BZ LL hSS pcl
    generalize W1.drew.setCells gs ins ((piece b ⟨sec, ins, outs, n⟩).map byteV) = Z2 at rg bz gZ ⊢
    generalize lay sl ins (piece b ⟨sec, ins, outs, n⟩) = ly at rg ll HD2
    have hgsG : ¬ G gs := fun hG => by have := hD.lt gs hG; omega
    have rbs : RB Z2 (some ⟨gs, 0, none⟩) ly := fun i hi => ⟨gs, 0, rfl, gZ, by have := rg i (byteV (ly.getD i 0)) (by simp [List.getD, hi]); simpa using this⟩
    have hD2 := hD.below bz
    have w34 := write_any hD2 (sec : Int) ly (some ⟨gs, 0, none⟩) 32 (by omega) (fun e => by cases e) (fun w' hf => RB.frm rbs hf hgsG) (by omega) (by omega)
    rw [ll] at w34
    have W34 := Lib.hid w34
    have hO2 : Own3 Z2 G := hO.same (fun k hk => bz.block k (hD.lt k hk))
    have BZ := Lib.hid bz
    have y0Z := y0.kept (grown_below bz) (by simp)
    have cAZ : Z2.cell? ⟨A, 0, none⟩ = some (.pointer (some ⟨B, 0, none⟩)) := (bz.cell (p := ⟨A, 0, none⟩) hAr.lt).trans cA
    have c0Z := y0Z.cell
    clear w34 rg rbs bz ll z2 cz2 fz2 z1
    gi_wp2_with fail
    refine ⟨trivial, (CallsIn.inRound l (callsIn_wide.2 W34.out)).mono ?_⟩
    rintro en W3 ⟨rfl, f3, D3⟩
    have hsZ := BZ.out.size
    have hs3 := f3.size
    have keep : ∀ {k : Nat} {t : TypeId} {v : Value}, Boxed W k t v → t ≠ 107 → t ≠ 110 → t ≠ 112 → Boxed W3 k t v := fun h t1 t2 t3 =>
      (f3.block _ (Nat.lt_of_lt_of_le h.lt hsZ) (hO.not h t1 t2 t3)).trans ((BZ.out.block _ h.lt).trans h)
    have v0 := keep y0 (by decide) (by decide) (by decide)
    have v1 := keep y1 (by decide) (by decide) (by decide)
    have v2 := keep y2 (by decide) (by decide) (by decide)
    have hKF : KeepsFrom W0.heap.size W W3 := (keepsFrom_below BZ.out).trans (keepsFrom_frm f3 hO2)
    have hKP : KeepP [A, w.heap.size + 5, w.heap.size + 4, w.heap.size + 3] W W3 := by
      have hAlt := hA.lt
      refine ⟨fun k hk => ?_, fun k hk => ?_⟩
      · have hk6 := hlt k hk
        have hkW : k < W.heap.size := by omega
        refine (f3.block k (by omega) (fun hG => ?_)).trans (BZ.out.block k hkW)
        rcases hGF k hG with hF | hF
        · have := FL.out k hF
          simp at hk
          rcases hk with rfl | rfl | rfl | rfl
          · exact hAF hF
          · omega
          · omega
          · omega
        · omega
      · obtain ⟨C, hC⟩ := hk
        have hkW : k < W.heap.size := (Array.getElem?_eq_some_iff.1 hC).1
        exact (f3.block k (by omega) (hO.not hC (by decide) (by decide) (by decide))).trans (BZ.out.block k hkW)
    obtain ⟨rw2, hrw⟩ : ∃ r2, e.write (sec : Int) ly = r2 := ⟨_, rfl⟩
    rw [hrw] at D3 HD2 ⊢
    have hP3 : PutI F w B (w.heap.size + 6) rw2.1 W3 := by
      obtain ⟨G3, g1, g2, g3⟩ := D3.core
      refine ⟨⟨G3, g1, fun k hk => (g2 k hk).elim (fun h => hGF k h) (fun h => .inr (by omega)), g3⟩, (hfr.trans (Frm.of_below (F := F) BZ.out) (fun k hk => .inl hk)).trans f3 (fun k hk => (hGF k hk).imp_right (by omega)), by omega⟩
    have KF := Lib.hid hKF
    have KP := Lib.hid hKP
    have P3 := Lib.hid hP3
    have c2 := v2.cell
    have f2 := v2.frozen
    clear hKF hKP hP3 hrw D3 f3 keep W34 c0Z cAZ
    by_cases hz : rw2.2 = 0
    · rw [hz]
      have hz' := Lib.hid hz
      clear hz
      gi_wp2
      exact ⟨KF.out, KP.out, by rw [HD2.out]; exact P3.out, by rw [HD2.out]; exact hz'.out, v0, v1, v2⟩
    · have hne : ((rw2.2 : Int) != 0) = true := by rw [bne_iff_ne]; exact hz
      gi_wp2
      exact ⟨KF.out.trans ((KeepsOthers.setCell _ _ _).from _), rfl, by rw [HD2.out]; exact P3.out.box (by omega) v2 (by decide) (by decide) (by decide) _, by rw [HD2.out]; exact hz, by rw [HD2.out]; exact v2.set _⟩
  case done =>
    rintro D xs W hD hxs ⟨hi, hok, y0, y1, y2⟩ hDW
    have hrr := HRR.out
    rw [← hxs] at hrr
    have hr2 : r.2 = 0 := by rw [hrr]; exact hok
    have hr1 : (putOf d b xs).1 = r.1 := by rw [hrr]; rfl
    rw [hr1] at hi
    have c2 := y2.cell
    have f2 := y2.frozen
    have hK' := (KeepsOthers.setCell W ⟨w.heap.size + 2, 0, none⟩ (.int .i64 0)).same D _ hDW rfl
    have HI := Lib.hid ((hi.box (by omega) y2 (by decide) (by decide) (by decide) (.int .i64 0)).put (by omega) (.deferred none) (by omega) hK' rfl)
    have hx2 := (y2.set (.int .i64 0)).kept (grownBy_putObj' _ D (.deferred none)) (by simp; omega)
    have hc5 := hx2.cell
    clear hrr hok hr1 hi hxs
    gi_wp2
    refine ⟨by simp, .inl ⟨_, _, rfl, run_takeDeferred hK', ?_⟩⟩
    refine ⟨.int .i64 0, by simp [results, Try.results54, go_sem, hc5], ?_⟩
    exact ⟨rfl, HI.out.fin FL.out (by omega)⟩
  case stop =>
    rintro D c pre W hD ⟨rest, hrest⟩ ⟨rfl, hi, hne, y2⟩ hDW
    have hrr := HRR.out
    rw [hrest, putParts_stop b rest _ d hne] at hrr
    have hr1 : putOf d b pre = r := hrr.symm
    rw [hr1] at hi y2
    have c2 := y2.cell
    have HI := Lib.hid (hi.put (by omega) (.deferred none) (by omega) hDW rfl)
    have hx2 := y2.kept (grownBy_putObj' W D (.deferred none)) (by simp; omega)
    have hc5 := hx2.cell
    clear hrr hr1 hi hne hrest
    gi_wp2
    refine ⟨by simp, .inl ⟨_, _, rfl, run_takeDeferred hDW, ?_⟩⟩
    refine ⟨.int .i64 r.2, by simp [results, Try.results54, go_sem, hc5], ?_⟩
    exact ⟨rfl, HI.out.fin FL.out (by omega)⟩
end Go.Proofs.Ytopemjbakpahfaa
