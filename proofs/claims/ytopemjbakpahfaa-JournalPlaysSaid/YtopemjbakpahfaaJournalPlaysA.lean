/-
  Contracts and plain laws, part 16 (texts: Ref0, Ref1). No condition but what each states.
-/
import Derived.Test.YtopemjbakpahfaaJn15
import Derived.Laws.OwnMore
/-
  The reference's device in memory: rows of sectors, each a slice of its own; its small contracts. No condition but that its numbers are small.
-/
namespace Go.Proofs.Ytopemjbakpahfaa
open Go.RowKit Disk
/-- A sector's slice: its whole block is known. -/
def Row5 (F : Nat → Prop) (w : World) (v : Value) (l : List UInt8) : Prop := ∃ g, v = .slice (some ⟨g, 0, none⟩) 32 32 ∧ F g ∧ w.heap[g]? = some (.cells (l.map byteV).toArray 5 (0, 0))
structure RKept (F : Nat → Prop) (w : World) (v : Value) (l : List (List UInt8)) : Prop where
  ex : ∃ vs, w.ownsRow 0 22 1 v l.length vs ∧ ∀ i, i < l.length → ∃ u, vs[i]? = some u ∧ Row5 F w u (l.getD i [])
  f : ∀ k, v.ownBlock = some k → F k
/-- The cells of pending writes: a number, a slice. -/
def wcells : List (Nat × List UInt8) → List Value → List Value
  | p :: ps, u :: us => Value.int .i64 (p.1 : Int) :: u :: wcells ps us
  | _, _ => []
structure RWait (F : Nat → Prop) (w : World) (v : Value) (ps : List (Nat × List UInt8)) : Prop where
  ex : ∃ us, us.length = ps.length ∧ w.ownsRow 0 117 2 v ps.length (wcells ps us) ∧ ∀ (i : Nat) (p : Nat × List UInt8), ps[i]? = some p → ∃ u, us[i]? = some u ∧ Row5 F w u p.2
  f : ∀ k, v.ownBlock = some k → F k
def rcells (d : Dev) (vk vw : Value) : Array Value := #[vk, vw, .bool d.down, .int .i64 (d.armed : Int), .int .i64 (d.writes : Int), .int .i64 (d.syncs : Int)]
structure RefV (F : Nat → Prop) (w : World) (B : Nat) (vk vw : Value) (d : Dev) : Prop where
  blk : w.heap[B]? = some (.cells (rcells d vk vw) 59 (0, 0))
  kept : RKept F w vk d.kept
  wait : RWait F w vw d.pend
  ok : d.ok
  f : F B
  arm : d.armed ≤ 9223372036854775807
  lt : ∀ k, F k → k < w.heap.size
/-- The reference's device. -/
def IsRef (F : Nat → Prop) (w : World) (B : Nat) (d : Dev) : Prop := ∃ vk vw, RefV F w B vk vw d
theorem Row5.same {F G : Nat → Prop} {A B : World} {v : Value} {l : List UInt8} (h : Row5 F A v l) (e : ∀ k, F k → k < A.heap.size → B.heap[k]? = A.heap[k]?) (hG : ∀ k, F k → G k) : Row5 G B v l := by
  obtain ⟨g, h1, h2, h3⟩ := h
  exact ⟨g, h1, hG g h2, (e g h2 (Array.getElem?_eq_some_iff.1 h3).1).trans h3⟩
theorem RKept.same {F G : Nat → Prop} {A B : World} {v : Value} {l : List (List UInt8)} (h : RKept F A v l) (e : ∀ k, F k → k < A.heap.size → B.heap[k]? = A.heap[k]?) (hG : ∀ k, F k → G k) : RKept G B v l := by
  obtain ⟨⟨vs, h1, h2⟩, h3⟩ := h
  exact ⟨⟨vs, owns_block h1 (fun k hk => e k (h3 k hk) (h1.lt k hk).2), fun i hi => by obtain ⟨u, e1, e2⟩ := h2 i hi; exact ⟨u, e1, e2.same e hG⟩⟩, fun k hk => hG k (h3 k hk)⟩
theorem RWait.same {F G : Nat → Prop} {A B : World} {v : Value} {ps : List (Nat × List UInt8)} (h : RWait F A v ps) (e : ∀ k, F k → k < A.heap.size → B.heap[k]? = A.heap[k]?) (hG : ∀ k, F k → G k) : RWait G B v ps := by
  obtain ⟨⟨us, h0, h1, h2⟩, h3⟩ := h
  exact ⟨⟨us, h0, owns_block h1 (fun k hk => e k (h3 k hk) (h1.lt k hk).2), fun i p hi => by obtain ⟨u, e1, e2⟩ := h2 i p hi; exact ⟨u, e1, e2.same e hG⟩⟩, fun k hk => hG k (h3 k hk)⟩
theorem RefV.frm {F G : Nat → Prop} {A B : World} {b : Nat} {vk vw : Value} {d : Dev} (h : RefV F A b vk vw d) (hf : Frm G A B) (hd : ∀ k, F k → ¬ G k) : RefV F B b vk vw d := by
  obtain ⟨h1, h2, h3, h4, h5, h6, h7⟩ := h
  have e : ∀ k, F k → k < A.heap.size → B.heap[k]? = A.heap[k]? := fun k hk hl => hf.block k hl (hd k hk)
  exact ⟨(e b h5 (h7 b h5)).trans h1, h2.same e (fun _ h => h), h3.same e (fun _ h => h), h4, h5, h6, fun k hk => Nat.lt_of_lt_of_le (h7 k hk) hf.size⟩
theorem IsRef.frm {F G : Nat → Prop} {A B : World} {b : Nat} {d : Dev} (h : IsRef F A b d) (hf : Frm G A B) (hd : ∀ k, F k → ¬ G k) : IsRef F B b d := by
  obtain ⟨vk, vw, h⟩ := h; exact ⟨vk, vw, h.frm hf hd⟩
theorem IsRef.below {F : Nat → Prop} {A B : World} {b : Nat} {d : Dev} (h : IsRef F A b d) (hb : Below A.heap.size A B) : IsRef F B b d :=
  h.frm (G := fun _ => False) (Frm.of_below hb) (fun _ _ h => h)
theorem IsRef.lt {F : Nat → Prop} {w : World} {B : Nat} {d : Dev} (h : IsRef F w B d) : ∀ k, F k → k < w.heap.size := by obtain ⟨vk, vw, h⟩ := h; exact h.lt
theorem IsRef.ok {F : Nat → Prop} {w : World} {B : Nat} {d : Dev} (h : IsRef F w B d) : d.ok := by obtain ⟨vk, vw, h⟩ := h; exact h.ok
theorem RefV.mono {F G : Nat → Prop} {w : World} {B : Nat} {vk vw : Value} {d : Dev} (h : RefV F w B vk vw d) (hG : ∀ k, F k → G k) (hl : ∀ k, G k → k < w.heap.size) : RefV G w B vk vw d := by
  obtain ⟨h1, h2, h3, h4, h5, h6, _⟩ := h
  exact ⟨h1, h2.same (fun _ _ _ => rfl) hG, h3.same (fun _ _ _ => rfl) hG, h4, hG B h5, h6, hl⟩
theorem IsRef.grow {F : Nat → Prop} {w w' : World} {B : Nat} {d : Dev} (h : IsRef F w' B d) (hF : ∀ k, F k → k < w.heap.size) (hs : w.heap.size ≤ w'.heap.size) : IsRef (Grow F w w') w' B d := by
  obtain ⟨vk, vw, h⟩ := h
  exact ⟨vk, vw, h.mono (fun _ hk => .inl hk) (fun k hk => hk.elim (fun h1 => by have := hF k h1; omega) (fun h1 => h1.2))⟩
/-- What a call leaves: the world but for the device's blocks, and the device. -/
def RefOf (F : Nat → Prop) (w : World) (B : Nat) (e : Dev) (v : Value) (en : Ending) (w' : World) : Prop := en = .returned v ∧ Frm F w w' ∧ IsRef (Grow F w w') w' B e
theorem RefOf.out {F : Nat → Prop} {w w' : World} {B : Nat} {e : Dev} {v : Value} {en : Ending} (h : RefOf F w B e v en w') {n : Nat} (hF : ∀ k, F k → n ≤ k) (hn : n ≤ w.heap.size) :
    en = .returned v ∧ Frm F w w' ∧ Below n w w' ∧ ∃ F', IsRef F' w' B e ∧ (∀ k, F' k → n ≤ k) ∧ ∀ k, F' k → F k ∨ w.heap.size ≤ k :=
  ⟨h.1, h.2.1, h.2.1.below hF hn, _, h.2.2, grow_ge hF hn, fun _ hk => hk.imp_right (·.1)⟩
theorem RefOf.same {F : Nat → Prop} {w w' : World} {B : Nat} {d : Dev} {v : Value} (h : IsRef F w B d) (hb : Below w.heap.size w w') : RefOf F w B d v (.returned v) w' :=
  ⟨rfl, Frm.of_below hb, (h.below hb).grow h.lt hb.size⟩
theorem rkept_form {F : Nat → Prop} {w : World} {v : Value} {l : List (List UInt8)} (h : RKept F w v l) : ∃ a c, v = .slice a l.length c := by
  obtain ⟨⟨vs, h1, _⟩, _⟩ := h
  rcases h1.2 with ⟨rfl, h0⟩ | ⟨g, cap, cur, rfl, _⟩
  · exact ⟨none, 0, by rw [h0]⟩
  · exact ⟨_, _, rfl⟩
theorem rwait_form {F : Nat → Prop} {w : World} {v : Value} {l : List (Nat × List UInt8)} (h : RWait F w v l) : ∃ a c, v = .slice a l.length c := by
  obtain ⟨⟨vs, _, h1, _⟩, _⟩ := h
  rcases h1.2 with ⟨rfl, h0⟩ | ⟨g, cap, cur, rfl, _⟩
  · exact ⟨none, 0, by rw [h0]⟩
  · exact ⟨_, _, rfl⟩
theorem row5_not {F : Nat → Prop} {w : World} {B : Nat} {v : Value} {l : List UInt8} {C : Array Value} {t : TypeId} (h : Row5 F w v l) (hb : w.heap[B]? = some (.cells C t (0, 0))) (ht : t ≠ 5) : ∃ g, v = .slice (some ⟨g, 0, none⟩) 32 32 ∧ g ≠ B := by
  obtain ⟨g, rfl, _, h3⟩ := h
  refine ⟨g, rfl, ?_⟩
  rintro rfl
  rw [hb] at h3; cases h3; exact ht rfl
/-- Where only a cell of the device's own block was stored. -/
theorem ref_set {F : Nat → Prop} {w : World} {B : Nat} {d e : Dev} {vk vw uk uw : Value} (hb : w.heap[B]? = some (.cells (rcells d vk vw) 59 (0, 0))) (hk : RKept F w uk e.kept) (hp : RWait F w uw e.pend) (i : Nat) (v : Value)
    (he : (rcells d vk vw).setIfInBounds i v = rcells e uk uw) (hf : F B) (hok : e.ok) (ha : e.armed ≤ 9223372036854775807) (hlt : ∀ k, F k → k < w.heap.size) : RefV F (w.setCell ⟨B, i, none⟩ v) B uk uw e := by
  refine ⟨?_, ?_, ?_, hok, hf, ha, fun k hk => by simpa using hlt k hk⟩
  · rw [← he]; exact Joins.block_setCell hb v
  · obtain ⟨⟨vs, h1, h2⟩, h3⟩ := hk
    refine ⟨⟨vs, owns_block h1 (fun k hk => Below.heap_setCell _ _ _ _ (row_apart hb h1 (by decide) k hk)), fun i' hi => ?_⟩, h3⟩
    obtain ⟨u, e1, g, e2, e3, e4⟩ := h2 i' hi
    exact ⟨u, e1, g, e2, e3, (Below.heap_setCell _ _ _ _ (by rintro rfl; rw [hb] at e4; simp at e4)).trans e4⟩
  · obtain ⟨⟨us, h0, h1, h2⟩, h3⟩ := hp
    refine ⟨⟨us, h0, owns_block h1 (fun k hk => Below.heap_setCell _ _ _ _ (row_apart hb h1 (by decide) k hk)), fun i' p hi => ?_⟩, h3⟩
    obtain ⟨u, e1, g, e2, e3, e4⟩ := h2 i' p hi
    exact ⟨u, e1, g, e2, e3, (Below.heap_setCell _ _ _ _ (by rintro rfl; rw [hb] at e4; simp at e4)).trans e4⟩
def thereB (d : Dev) (k : Int) : Bool := decide (0 ≤ k) && decide (k < (d.kept.length : Int))
theorem there_any {F : Nat → Prop} {w : World} {B : Nat} {d : Dev} (h : IsRef F w B d) (k : Int) : Calls Try.prog 90 #[.pointer (some ⟨B, 0, none⟩), .int .i64 k] w fun en w' => en = .returned (.bool (thereB d k)) ∧ w = w' := by
  obtain ⟨vk, vw, h⟩ := h
  obtain ⟨a, c, rfl⟩ := rkept_form h.kept
  have c0 : w.cell? ⟨B, 0, none⟩ = some (.slice a d.kept.length c) := Joins.cell_of_block h.blk 0
  have HT : Hid (thereB d k = (decide (0 ≤ k) && decide (k < (d.kept.length : Int)))) := rfl
  generalize thereB d k = r at HT
  by_cases h0 : 0 ≤ k
  · by_cases h1 : k < (d.kept.length : Int)
    · go_enter Try.func90, Try.ntmps90
      go_wp2
      go_ret
      exact ⟨ret_bool (by rw [HT.out, decide_eq_true h0, decide_eq_true h1]; first | rfl | simp), rfl⟩
    · go_enter Try.func90, Try.ntmps90
      go_wp2
      go_ret
      exact ⟨ret_bool (by rw [HT.out, decide_eq_true h0, decide_eq_false (p := k < (d.kept.length : Int)) (by omega)]; first | rfl | simp), rfl⟩
  · go_enter Try.func90, Try.ntmps90
    go_wp2
    go_ret
    exact ⟨ret_bool (by rw [HT.out, decide_eq_false (p := 0 ≤ k) (by omega)]; first | rfl | simp), rfl⟩
def RStopsOf (F : Nat → Prop) (w : World) (B : Nat) (d : Dev) (en : Ending) (w' : World) : Prop := en = .returned (.bool (decide (d.armed = 1))) ∧ Frm F w w' ∧ IsRef F w' B d.step
theorem rstops_any {F : Nat → Prop} {w : World} {B : Nat} {d : Dev} (h : IsRef F w B d) (hd : d.down = false) : Calls Try.prog 94 #[.pointer (some ⟨B, 0, none⟩)] w (RStopsOf F w B d) := by
  obtain ⟨vk, vw, h⟩ := h
  have c3 : w.cell? ⟨B, 3, none⟩ = some (.int .i64 (d.armed : Int)) := Joins.cell_of_block h.blk 3
  have f3 : w.frozen? ⟨B, 3, none⟩ = false := Joins.unfrozen_of_block h.blk 3
  have ha := h.arm
  have hai : (d.armed : Int) ≤ 9223372036854775807 := by omega
  have fin0 : d.armed = 0 → RStopsOf F w B d (.returned (.bool false)) w := fun h0 => by
    refine ⟨by rw [h0]; rfl, Frm.refl _ _, vk, vw, ?_⟩
    have e : d.step = d := by
      unfold Dev.step
      rw [h0, show decide ((0 : Nat) = 1) = false from rfl, ← hd]
      cases d; simp_all
    rw [e]; exact h
  have set3 : ∀ x : Int, x = ((d.armed - 1 : Nat) : Int) → RefV F (w.setCell ⟨B, 3, none⟩ (.int .i64 x)) B vk vw { d with armed := d.armed - 1 } := fun x hx =>
    ref_set (e := { d with armed := d.armed - 1 }) h.blk h.kept h.wait 3 _ (by rw [hx]; rfl) h.f h.ok (by show d.armed - 1 ≤ _; omega) h.lt
  have fin1 : ∀ x : Int, x = ((d.armed - 1 : Nat) : Int) → d.armed ≠ 1 → RStopsOf F w B d (.returned (.bool false)) (w.setCell ⟨B, 3, none⟩ (.int .i64 x)) := fun x hx h1 => by
    refine ⟨by rw [decide_eq_false h1], Frm.setCell w 3 _ h.f, vk, vw, ?_⟩
    have e : d.step = { d with armed := d.armed - 1 } := by
      unfold Dev.step
      rw [decide_eq_false h1, ← hd]
    rw [e]; exact set3 x hx
  have fin2 : ∀ x : Int, x = ((d.armed - 1 : Nat) : Int) → d.armed = 1 → RStopsOf F w B d (.returned (.bool true)) ((w.setCell ⟨B, 3, none⟩ (.int .i64 x)).setCell ⟨B, 2, none⟩ (.bool true)) := fun x hx h1 => by
    have h3 := set3 x hx
    refine ⟨by rw [h1]; rfl, (Frm.setCell w 3 _ h.f).trans (Frm.setCell _ 2 _ h.f) (fun k hk => .inl hk), vk, vw, ?_⟩
    exact ref_set (e := d.step) h3.blk h3.kept h3.wait 2 _ (by simp [rcells, Dev.step, h1]) h3.f h.ok (by show d.armed - 1 ≤ _; omega) h3.lt
  have hb3 := Joins.block_setCell (i := 3) h.blk (.int .i64 ((d.armed : Int) - 1))
  have f2 : (w.setCell ⟨B, 3, none⟩ (.int .i64 ((d.armed : Int) - 1))).frozen? ⟨B, 2, none⟩ = false := Joins.unfrozen_of_block hb3 2
  have c2 : (w.setCell ⟨B, 3, none⟩ (.int .i64 ((d.armed : Int) - 1))).cell? ⟨B, 2, none⟩ = some (.bool d.down) := Joins.cell_of_block hb3 2
  have FN0 := Lib.hid fin0
  have FN1 := Lib.hid fin1
  have FN2 := Lib.hid fin2
  clear fin0 fin1 fin2 set3 hb3 hd
  by_cases h0 : d.armed = 0
  · have h0' : ¬ (0 : Int) < (d.armed : Int) := by omega
    have H0 := Lib.hid h0
    clear h0
    go_enter Try.func94, Try.ntmps94
    go_wp2
    go_ret
    exact FN0.out H0.out
  · have h0' : (0 : Int) < (d.armed : Int) := by omega
    by_cases h1 : d.armed = 1
    · have e1 : ((d.armed : Int) - 1 == 0) = true := by rw [beq_iff_eq]; omega
      have H1 := Lib.hid h1
      clear h1 h0
      go_enter Try.func94, Try.ntmps94
      go_wp2
      go_ret
      exact FN2.out _ (by omega) H1.out
    · have e1 : ((d.armed : Int) - 1 == 0) = false := by rw [beq_eq_false_iff_ne]; omega
      have H1 := Lib.hid h1
      clear h1 h0
      go_enter Try.func94, Try.ntmps94
      go_wp2
      go_ret
      exact FN1.out _ (by omega) H1.out
theorem rarm_any {F : Nat → Prop} {w : World} {B : Nat} {d : Dev} (h : IsRef F w B d) (n : Int) (hn : n ≤ 9223372036854775807) : Calls Try.prog 61 #[.pointer (some ⟨B, 0, none⟩), .int .i64 n] w fun en w' => (∃ v, en = .returned v) ∧ Frm F w w' ∧ IsRef F w' B (d.arm n) := by
  obtain ⟨vk, vw, h⟩ := h
  have c3 : w.cell? ⟨B, 3, none⟩ = some (.int .i64 (d.armed : Int)) := Joins.cell_of_block h.blk 3
  have f3 : w.frozen? ⟨B, 3, none⟩ = false := Joins.unfrozen_of_block h.blk 3
  have fin : ∀ x, x = ((n.toNat : Nat) : Int) → Frm F w (w.setCell ⟨B, 3, none⟩ (.int .i64 x)) ∧ IsRef F (w.setCell ⟨B, 3, none⟩ (.int .i64 x)) B (d.arm n) := fun x hx => by
    subst hx
    exact ⟨Frm.setCell w 3 _ h.f, vk, vw, ref_set (e := d.arm n) h.blk h.kept h.wait 3 _ rfl h.f h.ok (by show n.toNat ≤ _; omega) h.lt⟩
  have FN := Lib.hid fin
  clear fin
  go_enter Try.func61, Try.ntmps61
  go_wp2
  all_goals
    go_end0
    exact ⟨⟨_, rfl⟩, FN.out _ (by omega)⟩
end Go.Proofs.Ytopemjbakpahfaa
/-
  The reference's Read: for every place. No condition but that its numbers are small.
-/
namespace Go.Proofs.Ytopemjbakpahfaa
open Go.RowKit Disk
theorem there_ask {d : Dev} {k : Int} (hd : d.down = false) : d.ask k = if thereB d k = true then 0 else 1 := by
  unfold Dev.ask thereB
  rw [hd, if_neg (by simp)]
  by_cases h : k < 0 ∨ (d.kept.length : Int) ≤ k
  · rw [if_pos h, if_neg (by simp; omega)]
  · rw [if_neg h, if_pos (by simp; omega)]
theorem wcells_get : ∀ (ps : List (Nat × List UInt8)) (us : List Value) (i : Nat) (p : Nat × List UInt8) (u : Value), ps[i]? = some p → us[i]? = some u → (wcells ps us)[i * 2]? = some (.int .i64 (p.1 : Int)) ∧ (wcells ps us)[i * 2 + 1]? = some u := by
  intro ps
  induction ps with
  | nil => intro us i p u h; simp at h
  | cons q ps ih =>
    intro us i p u h1 h2
    cases us with
    | nil => simp at h2
    | cons v us =>
      cases i with
      | zero => simp at h1 h2; subst h1 h2; exact ⟨rfl, rfl⟩
      | succ i =>
        simp at h1 h2
        have := ih us i p u h1 h2
        rw [show (i + 1) * 2 = i * 2 + 1 + 1 by omega]
        exact this
/-- A pending write of the reference, where it lies. -/
theorem rwait_at {F : Nat → Prop} {w : World} {v : Value} {ps : List (Nat × List UInt8)} (h : RWait F w v ps) {i : Nat} {p : Nat × List UInt8} (hi : ps[i]? = some p) :
    ∃ g c u, v = .slice (some ⟨g, 0, none⟩) ps.length c ∧ w.cell? ⟨g, i * 2, none⟩ = some (.int .i64 (p.1 : Int)) ∧ w.cell? ⟨g, i * 2 + 1, none⟩ = some u ∧ Row5 F w u p.2 := by
  obtain ⟨us, h0, h1, h2⟩ := h.ex
  obtain ⟨u, hu, h5⟩ := h2 i p hi
  have hl : i < ps.length := (List.getElem?_eq_some_iff.1 hi).1
  have hw := wcells_get ps us i p u hi hu
  rcases h1.2 with ⟨rfl, h0⟩ | ⟨g, cap, cur, rfl, _⟩
  · omega
  · refine ⟨g, cap, u, rfl, ?_, ?_, h5⟩
    · have := h1.cells (g := g) rfl (i * 2) _ hw.1
      rw [Addr.add_lit] at this; simpa using this
    · have := h1.cells (g := g) rfl (i * 2 + 1) _ hw.2
      rw [Addr.add_lit] at this; simpa using this
theorem rkept_at {F : Nat → Prop} {w : World} {v : Value} {l : List (List UInt8)} (h : RKept F w v l) {i : Nat} (hi : i < l.length) :
    ∃ g c u, v = .slice (some ⟨g, 0, none⟩) l.length c ∧ w.cell? ⟨g, i, none⟩ = some u ∧ Row5 F w u (l.getD i []) := by
  obtain ⟨vs, h1, h2⟩ := h.ex
  obtain ⟨u, hu, h5⟩ := h2 i hi
  rcases h1.2 with ⟨rfl, h0⟩ | ⟨g, cap, cur, rfl, _⟩
  · omega
  · refine ⟨g, cap, u, rfl, ?_, h5⟩
    have := h1.cells (g := g) rfl i _ hu
    rw [Addr.add_lit] at this; simpa using this
theorem overs_take {k : Nat} {ps : List (Nat × List UInt8)} {s : List UInt8} {i : Nat} {p : Nat × List UInt8} (h : ps[i]? = some p) : (ps.take (i + 1)).foldl (over k) s = over k ((ps.take i).foldl (over k) s) p := by
  have hl : i < ps.length := (List.getElem?_eq_some_iff.1 h).1
  have e : ps[i] = p := by rw [List.getElem?_eq_getElem hl] at h; simpa using h
  rw [List.take_succ_eq_append_getElem hl, e, List.foldl_append]; rfl
theorem row5_rb {F : Nat → Prop} {w : World} {v : Value} {l : List UInt8} (h : Row5 F w v l) : ∃ g, v = .slice (some ⟨g, 0, none⟩) 32 32 ∧ RB w (some ⟨g, 0, none⟩) l := by
  obtain ⟨g, rfl, _, h3⟩ := h
  refine ⟨g, rfl, fun i hi => ⟨g, 0, rfl, (Array.getElem?_eq_some_iff.1 h3).1, ?_⟩⟩
  rw [Nat.zero_add, Joins.cell_of_block h3 i]
  simp [List.getD, hi]
set_option maxRecDepth 100000 in
set_option maxHeartbeats 2000000 in
theorem rread_any {F : Nat → Prop} {w : World} {B : Nat} {d : Dev} (h : IsRef F w B d) (k : Int) (hp : d.pend.length ≤ 100000) : Calls Try.prog 44 #[.pointer (some ⟨B, 0, none⟩), .int .i64 k] w (GetOf w (d.read k)) := by
  have HH := Lib.hid h
  obtain ⟨vk, vw, h⟩ := h
  have NIL := Lib.hid (getOf_nil w)
  have hok := h.ok
  obtain ⟨aw, cw, rfl⟩ := rwait_form h.wait
  have c0 : w.cell? ⟨B, 0, none⟩ = some vk := Joins.cell_of_block h.blk 0
  have c1 : w.cell? ⟨B, 1, none⟩ = some (.slice aw d.pend.length cw) := Joins.cell_of_block h.blk 1
  have c2 : w.cell? ⟨B, 2, none⟩ = some (.bool d.down) := Joins.cell_of_block h.blk 2
  cases hd : d.down
  rotate_left
  · have hr : d.read k = ([], 14) := by unfold Dev.read Dev.ask; rw [hd]; rfl
    rw [hr]
    rw [hd] at c2
    clear hr
    go_enter Try.func44, Try.ntmps44
    go_wp2
    go_ret2
    exact NIL.out _ _ 14 (Below.refl _ _) rfl
  rw [hd] at c2
  have hask := there_ask (k := k) hd
  cases ht : thereB d k
  · have hr : d.read k = ([], 1) := by unfold Dev.read; rw [hask, ht]; rfl
    rw [hr]
    clear hr hask hd
    go_enter Try.func44, Try.ntmps44
    go_wp2_with (go_at_call 90; refine (there_any HH.out k).mono ?_; rw [ht]; rintro en w1 ⟨rfl, rfl⟩)
    go_ret2
    exact NIL.out _ _ 1 (Below.refl _ _) rfl
  have hr : d.read k = (d.sector k.toNat, 0) := by unfold Dev.read; rw [hask, ht]; rfl
  have hkk : 0 ≤ k ∧ k < (d.kept.length : Int) := by unfold thereB at ht; simp at ht; exact ht
  obtain ⟨q, rfl⟩ : ∃ q : Nat, k = (q : Int) := ⟨k.toNat, by omega⟩
  rw [hr, Int.toNat_natCast]
  have hq : q < d.kept.length := by omega
  obtain ⟨gk, ck, u0, rfl, cu, r0⟩ := rkept_at h.kept hq
  have h32 : ∀ p ∈ d.pend, p.2.length = 32 := fun p hp => (h.ok.2 p hp).2
  have hk32 := h.ok.1 q hq
  have HS : Hid (d.sector q = d.pend.foldl (over q) (d.kept.getD q [])) := rfl
  have HW := Lib.hid h.wait
  generalize d.kept.getD q [] = s0 at r0 hk32 HS
  generalize d.sector q = sq at HS ⊢
  have HO := Lib.hid (fun i : Nat => over_length (ps := d.pend.take i) q (fun p hp => h32 p (List.mem_of_mem_take hp)) hk32)
  have R0 := Lib.hid r0
  clear hr hask hd r0 hok h hkk h32 hk32
  have hq0 : (0 : Int) ≤ (q : Int) := by omega
  have hqi : (q : Int) < (d.kept.length : Int) := by omega
  go_enter Try.func44, Try.ntmps44
  go_wp2_with (go_at_call 90; refine (there_any HH.out (q : Int)).mono ?_; rw [ht]; rintro en w1 ⟨rfl, rfl⟩)
  go_loop [6, 7] (fun bv iv => ∃ i : Nat, iv = .int .i64 i ∧ i ≤ d.pend.length ∧ Row5 F w bv ((d.pend.take i).foldl (over q) s0)) (fun _ iv => d.pend.length - (intOf iv).toNat)
  case atStart => exact ⟨0, rfl, Nat.zero_le _, R0.out⟩
  case round =>
    obtain ⟨i, rfl, hi, hrow⟩ := hrel
    have HR := Lib.hid hrow
    clear hrow
    by_cases hlt : i < d.pend.length
    · have hi0 : (0 : Int) ≤ (i : Int) := by omega
      have hii : (i : Int) < (d.pend.length : Int) := by omega
      obtain ⟨p, hpi⟩ : ∃ p, d.pend[i]? = some p := ⟨_, List.getElem?_eq_getElem hlt⟩
      obtain ⟨gw, c, u, e, e1, e2, e3⟩ := rwait_at HW.out hpi
      simp only [Value.slice.injEq] at e
      obtain ⟨rfl, _, rfl⟩ := e
      have HT := Lib.hid (overs_take (k := q) (s := s0) hpi)
      have E3 := Lib.hid e3
      clear e3 hpi
      by_cases hpq : p.1 = q
      · have hb : ((p.1 : Int) == (q : Int)) = true := by rw [hpq]; simp
        have HPQ := Lib.hid hpq
        clear hpq
        go_wp2
        go_round
        case rel => exact ⟨i + 1, rfl, hlt, by rw [HT.out]; unfold over; rw [if_pos HPQ.out]; exact E3.out⟩
        case measure => simp only [intOf]; omega
      · have hb : ((p.1 : Int) == (q : Int)) = false := by rw [beq_eq_false_iff_ne]; omega
        go_wp2
        go_round
        case rel => exact ⟨i + 1, rfl, hlt, by rw [HT.out]; unfold over; rw [if_neg hpq]; exact HR.out⟩
        case measure => simp only [intOf]; omega
    · have hii : ¬ (i : Int) < (d.pend.length : Int) := by omega
      obtain rfl : i = d.pend.length := by omega
      have hrow := HR.out
      have hl := HO.out d.pend.length
      rw [List.take_length, ← HS.out] at hrow hl
      obtain ⟨g, rfl, rb⟩ := row5_rb hrow
      have RBB := Lib.hid rb
      have HL := Lib.hid hl
      clear rb hrow hl
      go_wp2_with (at_builtin; refine app_bytes rfl (.tmp 50) (.tmp 51) rfl w.heap.size _ [] sq 32 rfl (owns_bytes w [] _ _ _ rfl (Nat.le_refl _) rfl (by decide)) (some ⟨g, 0, none⟩) (by rw [HL.out]; rfl) (fun e => by cases e) (RBB.out.alloc _) (by rw [HL.out]; decide) (by simp) ?_; intro v2 w2 o2 b2 _; have B2 := (below_alloc w _).trans b2)
      go_ret2
      exact ⟨B2, _, rfl, o2⟩
end Go.Proofs.Ytopemjbakpahfaa
