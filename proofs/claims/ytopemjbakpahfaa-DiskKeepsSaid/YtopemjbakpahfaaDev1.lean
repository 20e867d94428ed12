/-
  A device in memory; the contracts of what only asks it. No condition but that its numbers are small.
-/
import Derived.Test.YtopemjbakpahfaaDev0
import Derived.Test.YtopemjbakpahfaaFrm
import Derived.Test.YtopemjbakpahfaaC1
namespace Go.Proofs.Ytopemjbakpahfaa
open Go.RowKit Disk
/-- A pending write's cells. -/
def pcells (p : Nat × List UInt8) : List Value := Value.int .i64 (p.1 : Int) :: p.2.map byteV
structure Kept (F : Nat → Prop) (w : World) (K : Nat) (l : List (List UInt8)) : Prop where
  typ : Typed w K 110
  rng : ∀ k, k < l.length → w.rangeAt K (32 * k) ((l.getD k []).map byteV)
  thr : w.there K 0 (32 * l.length)
  f : F K
structure Pend (F : Nat → Prop) (w : World) (vp : Value) (ps : List (Nat × List UInt8)) : Prop where
  own : w.ownsRow 0 112 33 vp ps.length (ps.flatMap pcells)
  f : ∀ k, vp.ownBlock = some k → F k
def dcells (d : Dev) (K : Nat) (vp : Value) : Array Value := #[.slice (some ⟨K, 0, none⟩) d.kept.length d.kept.length, vp, .bool d.down, .int .i64 (d.armed : Int), .int .i64 (d.writes : Int), .int .i64 (d.syncs : Int)]
structure IsDev (F : Nat → Prop) (w : World) (B : Nat) (d : Dev) : Prop where
  ex : ∃ (K : Nat) (vp : Value), w.heap[B]? = some (.cells (dcells d K vp) 107 (0, 0)) ∧ Kept F w K d.kept ∧ Pend F w vp d.pend
  ok : d.ok
  f : F B
  arm : d.armed ≤ 9223372036854775807
  lt : ∀ k, F k → k < w.heap.size
/-- The device's numbers are small. -/
structure Dev.small (d : Dev) (N : Nat) : Prop where
  kept : d.kept.length ≤ 1024
  pend : d.pend.length ≤ N
  writes : d.writes ≤ N
  syncs : d.syncs ≤ N
theorem Typed.same {A B : World} {b : Nat} {t : TypeId} (h : Typed A b t) (e : B.heap[b]? = A.heap[b]?) : Typed B b t := by
  obtain ⟨C, hC⟩ := h; exact ⟨C, e.trans hC⟩
theorem Typed.lt {A : World} {b : Nat} {t : TypeId} (h : Typed A b t) : b < A.heap.size := by
  obtain ⟨C, hC⟩ := h; exact (Array.getElem?_eq_some_iff.1 hC).1
theorem Kept.same {F G : Nat → Prop} {A B : World} {K : Nat} {l : List (List UInt8)} (h : Kept F A K l) (e : B.heap[K]? = A.heap[K]?) (hG : G K) : Kept G B K l :=
  ⟨h.typ.same e, fun k hk => range_block (h.rng k hk) e, there_block h.thr e, hG⟩
theorem Pend.same {F G : Nat → Prop} {A B : World} {vp : Value} {ps : List (Nat × List UInt8)} (h : Pend F A vp ps) (e : ∀ k, vp.ownBlock = some k → B.heap[k]? = A.heap[k]?) (hG : ∀ k, F k → G k) : Pend G B vp ps :=
  ⟨owns_block h.own e, fun k hk => hG k (h.f k hk)⟩
/-- The device is there still, where nothing of it was changed. -/
theorem IsDev.frm {F G : Nat → Prop} {A B : World} {b : Nat} {d : Dev} (h : IsDev F A b d) (hf : Frm G A B) (hd : ∀ k, F k → ¬ G k) : IsDev F B b d := by
  obtain ⟨⟨K, vp, h1, h2, h3⟩, h4, h5, h6, h7⟩ := h
  refine ⟨⟨K, vp, ?_, h2.same (hf.block K h2.typ.lt (hd K h2.f)) h2.f, h3.same (fun k hk => hf.block k (h3.own.lt k hk).2 (hd k (h3.f k hk))) (fun _ h => h)⟩, h4, h5, h6, fun k hk => Nat.lt_of_lt_of_le (h7 k hk) hf.size⟩
  exact (hf.block b (Array.getElem?_eq_some_iff.1 h1).1 (hd b h5)).trans h1
theorem IsDev.below {F : Nat → Prop} {A B : World} {b : Nat} {d : Dev} (h : IsDev F A b d) (hb : Below A.heap.size A B) : IsDev F B b d :=
  h.frm (G := fun _ => False) (Frm.of_below hb) (fun _ _ h => h)
theorem IsDev.mono {F G : Nat → Prop} {w : World} {B : Nat} {d : Dev} (h : IsDev F w B d) (hG : ∀ k, F k → G k) (hl : ∀ k, G k → k < w.heap.size) : IsDev G w B d := by
  obtain ⟨⟨K, vp, h1, h2, h3⟩, h4, h5, h6, _⟩ := h
  exact ⟨⟨K, vp, h1, h2.same rfl (hG K h2.f), h3.same (fun _ _ => rfl) hG⟩, h4, hG B h5, h6, hl⟩
/-- The device, and the blocks that came. -/
theorem IsDev.grow {F : Nat → Prop} {w w' : World} {B : Nat} {d : Dev} (h : IsDev F w' B d) (hF : ∀ k, F k → k < w.heap.size) (hs : w.heap.size ≤ w'.heap.size) : IsDev (Grow F w w') w' B d :=
  h.mono (fun _ hk => .inl hk) (fun k hk => hk.elim (fun h1 => by have := hF k h1; omega) (fun h1 => h1.2))
theorem down_any {F : Nat → Prop} {w : World} {B : Nat} {d : Dev} (h : IsDev F w B d) : Calls Try.prog 42 #[.pointer (some ⟨B, 0, none⟩)] w fun en w' => en = .returned (.bool d.down) ∧ w = w' := by
  obtain ⟨⟨K, vp, hb, _, _⟩, _, _, _, _⟩ := h
  have c2 : w.cell? ⟨B, 2, none⟩ = some (.bool d.down) := Joins.cell_of_block hb 2
  go_enter Try.func42, Try.ntmps42
  go_wp2
  go_ret
  exact ⟨rfl, rfl⟩
theorem sectors_any {F : Nat → Prop} {w : World} {B : Nat} {d : Dev} (h : IsDev F w B d) : Calls Try.prog 43 #[.pointer (some ⟨B, 0, none⟩)] w fun en w' => en = .returned (.int .i64 (d.kept.length : Int)) ∧ w = w' := by
  obtain ⟨⟨K, vp, hb, _, _⟩, _, _, _, _⟩ := h
  have c0 : w.cell? ⟨B, 0, none⟩ = some (.slice (some ⟨K, 0, none⟩) d.kept.length d.kept.length) := Joins.cell_of_block hb 0
  go_enter Try.func43, Try.ntmps43
  go_wp2
  go_ret
  exact ⟨rfl, rfl⟩
theorem pend_form {F : Nat → Prop} {w : World} {vp : Value} {ps : List (Nat × List UInt8)} (h : Pend F w vp ps) : ∃ a c, vp = .slice a ps.length c := by
  rcases h.own.2 with ⟨rfl, h0⟩ | ⟨g, cap, cur, rfl, _⟩
  · exact ⟨none, 0, by rw [h0]⟩
  · exact ⟨_, _, rfl⟩
theorem pending_any {F : Nat → Prop} {w : World} {B : Nat} {d : Dev} (h : IsDev F w B d) : Calls Try.prog 36 #[.pointer (some ⟨B, 0, none⟩)] w fun en w' => en = .returned (.int .i64 (d.pend.length : Int)) ∧ w = w' := by
  obtain ⟨⟨K, vp, hb, _, hp⟩, _, _, _, _⟩ := h
  obtain ⟨a, c, rfl⟩ := pend_form hp
  have c1 : w.cell? ⟨B, 1, none⟩ = some (.slice a d.pend.length c) := Joins.cell_of_block hb 1
  go_enter Try.func36, Try.ntmps36
  go_wp2
  go_ret
  exact ⟨rfl, rfl⟩
theorem stats_any {F : Nat → Prop} {w : World} {B : Nat} {d : Dev} (h : IsDev F w B d) : Calls Try.prog 39 #[.pointer (some ⟨B, 0, none⟩)] w fun en w' => en = .returned (.tuple #[.int .i64 (d.writes : Int), .int .i64 (d.syncs : Int)]) ∧ Below w.heap.size w w' := by
  obtain ⟨⟨K, vp, hb, _, _⟩, _, _, _, _⟩ := h
  have c4 : w.cell? ⟨B, 4, none⟩ = some (.int .i64 (d.writes : Int)) := Joins.cell_of_block hb 4
  have c5 : w.cell? ⟨B, 5, none⟩ = some (.int .i64 (d.syncs : Int)) := Joins.cell_of_block hb 5
  go_enter Try.func39, Try.ntmps39
  go_wp2
  go_quiet (fail)
  go_wp2
  go_ret2
  exact ⟨rfl, below_drewN (Below.refl _ _) _⟩
theorem ask_any {F : Nat → Prop} {w : World} {B : Nat} {d : Dev} (h : IsDev F w B d) (k : Int) : Calls Try.prog 86 #[.pointer (some ⟨B, 0, none⟩), .int .i64 k] w fun en w' => en = .returned (.int .i64 (d.ask k)) ∧ w = w' := by
  obtain ⟨⟨K, vp, hb, _, _⟩, _, _, _, _⟩ := h
  have c0 : w.cell? ⟨B, 0, none⟩ = some (.slice (some ⟨K, 0, none⟩) d.kept.length d.kept.length) := Joins.cell_of_block hb 0
  have c2 : w.cell? ⟨B, 2, none⟩ = some (.bool d.down) := Joins.cell_of_block hb 2
  have hA : Hid (d.ask k = if d.down = true then 14 else if k < 0 ∨ (d.kept.length : Int) ≤ k then 1 else 0) := rfl
  generalize d.ask k = r at hA
  go_enter Try.func86, Try.ntmps86
  cases hd : d.down
  · rw [hd] at c2
    by_cases h1 : k < 0
    · go_wp2
      go_ret
      exact ⟨ret_int (by rw [hA.out, hd, if_neg (by simp), if_pos (.inl h1)]), rfl⟩
    · by_cases h2 : (d.kept.length : Int) ≤ k
      · go_wp2
        go_ret
        exact ⟨ret_int (by rw [hA.out, hd, if_neg (by simp), if_pos (.inr h2)]), rfl⟩
      · go_wp2
        go_ret
        exact ⟨ret_int (by rw [hA.out, hd, if_neg (by simp), if_neg (by omega)]), rfl⟩
  · rw [hd] at c2
    go_wp2
    go_ret
    exact ⟨ret_int (by rw [hA.out, hd, if_pos rfl]), rfl⟩
end Go.Proofs.Ytopemjbakpahfaa
