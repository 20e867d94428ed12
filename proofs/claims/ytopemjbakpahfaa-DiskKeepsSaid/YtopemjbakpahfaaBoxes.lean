/-
  What one round of All leaves: the boxes, the row of rows. It speaks of no program's text. No condition.
-/
import Derived.Test.YtopemjbakpahfaaIter
import Derived.Maps.AppendAt
namespace Go.Proofs.Ytopemjbakpahfaa
open Go.RowKit Crc
/-- The row lies in a block of cells of this type. -/
def RowOf (A : World) (row : Option Nat) (t : TypeId) : Prop := ∀ r, row = some r → ∃ (cs : Array Value) (fr : Nat × Nat), A.heap[r]? = some (.cells cs t fr)
theorem rowOf_owns {A : World} {base n s : Nat} {t : TypeId} {v : Value} {xs : List Value} (h : A.ownsRow base t s v n xs) : RowOf A v.ownBlock t := by
  intro r hr
  rcases h.2 with ⟨rfl, _⟩ | ⟨g, cap, cur, rfl, _, hg, _⟩
  · simp [Value.ownBlock] at hr
  · obtain rfl : g = r := by simpa [Value.ownBlock] using hr
    exact ⟨cur, _, hg⟩
theorem rowOf_box {A : World} {B : Nat} {t : TypeId} {v : Value} (h : Boxed A B t v) : RowOf A (some B) t := fun r e => by cases e; exact ⟨_, _, h⟩
theorem owns_other {A B : World} {base e n s : Nat} {t : TypeId} {u : Value} {xs : List Value} {row : Option Nat} (h : A.ownsRow base e s u n xs) (hg : A.grownBy B row) (hr : RowOf A row t) (hne : t ≠ e) : B.ownsRow base e s u n xs := by
  refine h.kept hg ?_
  rcases h.2 with ⟨rfl, _⟩ | ⟨g, cap, cur, rfl, hb, hgb, _⟩
  · exact .inl rfl
  · refine .inr fun e' => ?_
    obtain ⟨cs, fr, h1⟩ := hr g (by rw [← e']; rfl)
    rw [hgb] at h1; cases h1; exact hne rfl
theorem box_other {A B : World} {k : Nat} {e t : TypeId} {v : Value} {row : Option Nat} (h : Boxed A k e v) (hg : A.grownBy B row) (hr : RowOf A row t) (hne : t ≠ e) : Boxed B k e v := by
  refine h.kept hg fun e' => ?_
  obtain ⟨cs, fr, h1⟩ := hr k e'.symm
  have h2 : A.heap[k]? = _ := h
  rw [h2] at h1; cases h1; exact hne rfl
theorem keepsOthers_row {A B : World} {t : TypeId} {row : Option Nat} (hg : A.grownBy B row) (hr : RowOf A row t) : KeepsOthers A B :=
  KeepsOthers.of_grownBy hg fun j o e hj => by
    obtain ⟨cs, fr, h1⟩ := hr j e
    rw [h1] at hj; cases hj; rfl
theorem box_at {A B : World} {k base : Nat} {e t : TypeId} {v u : Value} {n s : Nat} {xs : List Value} (h : Boxed A k e v) (hr : A.ownsRow base t s u n xs) (hg : A.grownBy B u.ownBlock) (hk : k < base) : Boxed B k e v :=
  h.kept hg fun e' => by have := (hr.lt k e'.symm).1; omega
theorem row_snoc {W : World} {base base' : Nat} {vs : List Value} {L : List (List UInt8)} {u : Value} {x : List UInt8} (hl : vs.length = L.length)
    (h : ∀ (i : Nat) (u : Value) (l : List UInt8), vs[i]? = some u → L[i]? = some l → W.ownsRow base' 5 1 u l.length (l.map byteV)) (hu : W.ownsRow base 5 1 u x.length (x.map byteV)) (hb : base' ≤ base) :
    ∀ (i : Nat) (u' : Value) (l : List UInt8), (vs ++ [u])[i]? = some u' → (L ++ [x])[i]? = some l → W.ownsRow base' 5 1 u' l.length (l.map byteV) := by
  intro i u' l h1 h2
  rcases Nat.lt_or_ge i vs.length with hi | hi
  · rw [List.getElem?_append_left hi] at h1
    rw [List.getElem?_append_left (by omega)] at h2
    exact h i u' l h1 h2
  · rw [List.getElem?_append_right hi] at h1
    rw [List.getElem?_append_right (by omega)] at h2
    have h3 : i - vs.length = 0 := by
      rcases Nat.eq_zero_or_pos (i - vs.length) with h3 | h3
      · exact h3
      · rw [List.getElem?_eq_none (by simp; omega)] at h1; cases h1
    rw [h3] at h1
    rw [← hl, h3] at h2
    simp at h1 h2
    subst h1 h2
    exact ownsRow_base hu hb
theorem RB.drew {w : World} {a : Option Addr} {l : List UInt8} (h : RB w a l) : RB w.drew a l := h.below ((Below.refl _ w).drew)
theorem allF_len : ∀ (k : Nat) (b : List UInt8), (allF k b).1.length ≤ b.length := by
  intro k
  induction k with
  | zero => intro b; simp [allF]
  | succ k ih =>
    intro b
    unfold allF
    split
    · simp
    · rename_i h r e
      have := (cut_some e).2.2
      have := ih r
      simp only [List.length_cons]
      omega
theorem all_len (b : List UInt8) : (all b).1.length ≤ b.length := allF_len _ b
/-- append to a row of the call's own, as one step of a region whose order is drawn. -/
theorem step_append_own {F : Fence} {n : Nat} {P : Program} (w : World) {o : Oper} {a : Act} {K : Act → World → Prop} {Q : Exit → Act → World → Prop}
    (s x : Operand) (t : TypeId) (hop : o.op = Op.call { callee := Callee.builtin Builtin.append, args := #[s, x], argTypes := #[t, t] })
    (base : Nat) (e : TypeId) (i : TypeInfo) (z : Value) (size bytes : Nat) (h1 : P.underlying t = some (.slice e)) (h2 : P.info? e = some i) (h3 : i.zero = some z) (h4 : i.size = size) (h5 : i.bytes = bytes) (h6 : z.cells.size = size) (h7 : 0 < size)
    (v : Value) (k : Nat) (xs : List Value) (hs : a.eval s = v) (hown : w.ownsRow base e size v k xs) (ad : Addr) (m c : Nat) (news : List Value) (hx : a.eval x = .slice (some ad) m c) (hn : news.length = m * size)
    (hc : ∀ j u, news[j]? = some u → w.cell? (ad.add j) = some u) (h1c : ∀ u ∈ news, u.oneCell' = true) (b1 : k + m ≤ maxLen) (b2 : (k + m) * bytes ≤ 140737488355328) (b3 : base ≤ w.heap.size)
    (hK : ∀ v' w', w'.ownsRow base e size v' (k + m) (xs ++ news) → w.grownBy w' v.ownBlock → (v' = .slice none 0 0 ↔ v = .slice none 0 0 ∧ m = 0) → K (a.put o.dst v') w') :
    o.wpIn F n P a w K Q := by
  obtain ⟨v', w', hrun, r1, r2, r3⟩ := run_append_own (P := P) w base t o.type e i z size bytes h1 h2 h3 h4 h5 h6 h7 v k xs hown ad m c news hn hc h1c b1 b2 b3
  unfold Oper.wpIn
  refine ⟨by simp [Oper.about, hop, resolve, Target.leads, Sem.run_pure], ?_⟩
  rw [Oper.semAt_plain F _ _ (by rw [hop]; intro c hc'; cases hc')]
  simp [execOp, hop, resolve, invoke, builtin, hs, hx, hrun, Result.andThen]
  exact hK v' w' r1 r2 r3
end Go.Proofs.Ytopemjbakpahfaa
