/-
  Rows of steps of a batch, in plain Lean: no program, no memory, no condition.
-/
import Derived.Test.YtebkibpdagdmiaaPlain
namespace Go.Proofs.Ytebkibpdagdmiaa
def pstep (b : B) (k : Int) : B × Int := ((step b k).1, if k < 0 ∨ 2 < k then 0 else (step b k).2)
def plays (b : B) (l : List Int) : B × List Int := l.foldl (fun q k => ((pstep q.1 k).1, q.2 ++ [(pstep q.1 k).2])) (b, [])
theorem plays_nil (b : B) : plays b [] = (b, []) := rfl
theorem plays_snoc (b : B) (l : List Int) (k : Int) : plays b (l ++ [k]) = ((pstep (plays b l).1 k).1, (plays b l).2 ++ [(pstep (plays b l).1 k).2]) := by
  simp [plays, List.foldl_append]
theorem plays_len_acc (l : List Int) : ∀ (b : B) (acc : List Int), (l.foldl (fun q k => ((pstep q.1 k).1, q.2 ++ [(pstep q.1 k).2])) (b, acc)).2.length = acc.length + l.length := by
  induction l with
  | nil => intro b acc; simp
  | cons k l ih => intro b acc; simp only [List.foldl_cons, List.length_cons]; rw [ih]; simp; omega
theorem plays_len (b : B) (l : List Int) : (plays b l).2.length = l.length := by
  unfold plays; rw [plays_len_acc]; simp
theorem take_snoc (l : List Int) (k : Nat) (h : k < l.length) : l.take (k + 1) = l.take k ++ [l.getD k 0] := by
  rw [List.take_succ_eq_append_getElem h]; simp [h]
theorem plays_step (b : B) (l : List Int) (k : Nat) (h : k < l.length) :
    plays b (l.take (k + 1)) = ((pstep (plays b (l.take k)).1 (l.getD k 0)).1, (plays b (l.take k)).2 ++ [(pstep (plays b (l.take k)).1 (l.getD k 0)).2]) := by
  rw [take_snoc l k h, plays_snoc]
def play (x y z n : Int) (l : List Int) : B × List Int :=
  if (start x y z n).2 = 0 then plays (start x y z n).1 l else ((start x y z n).1, [(start x y z n).2])
theorem step_else_fst {b : B} {k : Int} (h : k < 0 ∨ 2 < k) : (step b k).1 = b := by
  unfold step
  split
  · rfl
  · split
    · rfl
    · rw [if_neg (by omega), if_neg (by omega), if_neg (by omega)]
end Go.Proofs.Ytebkibpdagdmiaa
