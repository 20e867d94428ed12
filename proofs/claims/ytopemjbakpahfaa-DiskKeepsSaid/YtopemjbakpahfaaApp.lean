/-
  Appending bytes to bytes of the call's own, in one law for nil and for others; a literal's bytes. No condition but that the lengths are small.
-/
import Derived.Test.YtopemjbakpahfaaC8
import Derived.Test.YtopemjbakpahfaaOpenB
import Derived.Lib.SlBytesConst
namespace Go.Proofs.Ytopemjbakpahfaa
open Go.RowKit Crc
theorem app_bytes {ops : Array Oper} {rest : List Oper} {o : Oper} {a : Act} {Q : Exit → Act → World → Prop} {w : World} (hgd : o.guard = none) (s x : Operand)
    (ho : o.op = .call { callee := .builtin .append, args := #[s, x], argTypes := #[22, 22] })
    (base : Nat) (v : Value) (l m : List UInt8) (c : Nat) (hs : a.eval s = v) (hown : w.ownsRow base 5 1 v l.length (l.map byteV)) (pa : Option Addr) (hx : a.eval x = .slice pa m.length c) (hn : pa = none → c = 0 ∧ m = [])
    (hr : RB w pa m) (hb : l.length + m.length ≤ 1000000000) (b3 : base ≤ w.heap.size)
    (hK : ∀ v' w', w'.ownsRow base 5 1 v' (l ++ m).length ((l ++ m).map byteV) → Below base w w' → w.grownBy w' v.ownBlock → wpList Try.prog ops Q rest (a.put o.dst v') w') : wpList Try.prog ops Q (o :: rest) a w := by
  obtain ⟨i0, hi, hz0, hz1, hz2⟩ := info_parts info5
  cases pa with
  | none =>
    obtain ⟨rfl, rfl⟩ := hn rfl
    refine wpList_append_own_none hgd s x 22 ho base 5 i0 1 Try.underlying22 hi _ l.length _ hs hown hx ?_
    exact hK _ _ (by simpa using hown) (Below.refl _ _) ⟨rfl, rfl, rfl, Nat.le_refl _, fun _ _ _ => rfl⟩
  | some ad =>
    refine wpList_append_own _ hgd s x 22 ho base 5 i0 (.int .u8 0) 1 1 Try.underlying22 hi hz0 hz1 hz2 rfl (by decide) _ l.length _ hs hown ad m.length c (m.map byteV) hx (by simp) hr.news (oneCell_bytes m) (by unfold maxLen; omega) (by omega) b3 ?_
    intro v' w' own' g' _
    exact hK v' w' (by simpa using own') ((Below.refl _ w).grown g' b3 (fun k hk => (hown.lt k hk).1)) g'
/-- A literal's bytes. -/
theorem RB.lit (w : World) (l : List UInt8) (xs : Array Value) (fr : Nat × Nat) (n : Nat) (hn : w.heap.size = n) (hx : xs = (l.map byteV).toArray) : RB (w.alloc (.cells xs 5 fr)) (some ⟨n, 0, none⟩) l := by
  subst hn hx
  intro i hi
  refine ⟨w.heap.size, 0, rfl, by simp, ?_⟩
  rw [Nat.zero_add, cell_of_row _ _ i _ 5 fr (heap_alloc_new w _)]
  simp [hi]
theorem owns_bytes (w : World) (l : List UInt8) (xs : Array Value) (base n : Nat) (hn : w.heap.size = n) (hb : base ≤ n) (hx : xs = (l.map byteV).toArray) (hm : l.length ≤ maxLen) : (w.alloc (.cells xs 5)).ownsRow base 5 1 (.slice (some ⟨n, 0, none⟩) l.length l.length) l.length (l.map byteV) := by
  subst hn hx
  have h := owns_lit w (xs := (l.map byteV).toArray) (t := 5) hb (n := l.length) (by simp) hm
  simpa using h
theorem conv_const (w : World) (C : Array Value) (n c g : Nat) (hg : w.heap.size = g) : (convert 22 22 (.slice (some ⟨g, 0, none⟩) n c)).run Try.prog (w.alloc (.cells C 5)) = .ok (.slice (some ⟨g, 0, none⟩) n c) (w.alloc (.cells C 5 (C.size, C.size + 1))) := by
  subst hg
  exact Lib.run_convert_bytes_const w 22 5 C n c Try.underlying22 Try.underlying5
end Go.Proofs.Ytopemjbakpahfaa
