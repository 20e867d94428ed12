/-
  Contracts and plain laws, part 44 (texts: S20). No condition but what each states.
-/
import Derived.Test.YtopemjbakpahfaaSn43
/-
  Opening with any size; what a call leaves, told OK or not; texts compared. No condition.
-/
namespace Go.Proofs.Ytopemjbakpahfaa
open Go.RowKit Disk Jour Crc Slot
set_option linter.unusedSimpArgs false
set_option linter.unusedVariables false
set_option maxHeartbeats 1000000 in
theorem open_low {F : Nat → Prop} {w : World} {B : Nat} {d : Dev} (hd : IsDev F w B d) (size : Int) (c1 : size < 1) : Calls Try.prog 68 #[.pointer (some ⟨B, 0, none⟩), .int .i64 size] w (OpenOf w B (sopen d size)) := by
  rw [sopen_arg (.inl c1)]
  have FN : Hid (OpenOf w B (none, 1) (.returned (.tuple #[.pointer none, .int .i64 1])) w) := OpenOf.none 1 rfl (Below.refl _ _) rfl
  go_enter Try.func68, Try.ntmps68
  go_wp2_with fail
  refine bodyPost_ret (v := .tuple #[.pointer none, .int .i64 1]) (by simp [results, Try.results68, go_sem]) rfl ?_
  exact FN.out
theorem open_all {F : Nat → Prop} {w : World} {B : Nat} {d : Dev} (hd : IsDev F w B d) (hK : d.kept.length ≤ 1024) (hp : d.pend.length ≤ 100000) (size : Int) : Calls Try.prog 68 #[.pointer (some ⟨B, 0, none⟩), .int .i64 size] w (OpenOf w B (sopen d size)) := by
  by_cases h : size < 1
  · exact open_low hd size h
  · exact open_any hd hK hp size (by omega)
theorem sizeOf_le (z : Int) : sizeOfDev z ≤ 1024 := by unfold sizeOfDev; omega
@[go_sem] theorem run_guard_eql_str (w : World) (a b : List UInt8) (x y : Operand) : (eqGuard .eql 9 x y (strV a) (strV b)).run Try.prog w = .ok () w := by
  unfold strV; go_simp
theorem run_eql_str (w : World) (a b : List UInt8) : (binOp .eql 9 (strV a) (strV b)).run Try.prog w = .ok (.bool (decide (a = b))) w := by
  unfold strV
  go_simp
  by_cases h : a = b
  · subst h; simp
  · have h1 : (ByteArray.mk a.toArray).toList ≠ (ByteArray.mk b.toArray).toList := fun e => h (by simpa using e)
    simp [h, h1]
theorem Runs.append_any {d : Dev} {s : St} {M : Nat} (h : Runs d s M) (b : List UInt8) (hb : b.length ≤ 4096) : ∃ e s' r, sappend d s b = (e, s', r) ∧ Runs e s' (M + (b.length + 7)) ∧ s'.N = s.N ∧ (r = 0 ∨ r = 2) := by
  by_cases hr : s.h.used + (b.length + 6) ≤ 32 * s.L
  · obtain ⟨e, h1, h2⟩ := h.append b hb hr
    exact ⟨e, _, 0, h1, h2, rfl, .inl rfl⟩
  · exact ⟨d, s, 2, h.full b hb hr, h.mono (by omega), rfl, .inr rfl⟩
theorem Runs.save_any {d : Dev} {s : St} {M : Nat} (h : Runs d s M) (b : List UInt8) : ∃ e s' r, ssave d s b = (e, s', r) ∧ Runs e s' (M + (b.length + 7)) ∧ s'.N = s.N ∧ (r = 0 ∨ r = 2) := by
  by_cases hr : b.length ≤ 32 * s.N
  · obtain ⟨e, h1, h2⟩ := h.save b hr
    exact ⟨e, _, 0, h1, h2, rfl, .inl rfl⟩
  · exact ⟨d, s, 2, h.fullS b hr, h.mono (by omega), rfl, .inr rfl⟩
theorem runs_small {d : Dev} {s : St} {M : Nat} (h : Runs d s M) (hM : M ≤ 50000) : d.pend.length + 33000 ≤ 90000 ∧ d.writes + 33000 ≤ 90000 ∧ d.syncs ≤ 90000 := by
  have h1 := h.pend; have h2 := h.writes; have h3 := h.syncs
  exact ⟨by omega, by omega, by omega⟩
/-- Bytes made for a call: the store beside them. -/
theorem Held.made {n0 : Nat} {w w' : World} {S B : Nat} {d : Dev} {s : St} {b : List UInt8} {g : Nat} (h : Held n0 (fun _ => False) w S B d s) (b4 : Below w.heap.size w w') (lg : w.heap.size ≤ g) (xb : w'.heap[g]? = some (.cells (b.map byteV).toArray 5 (0, 0))) : Held n0 (fun k => k = g) w' S B d s :=
  h.ext b4 (fun k hk => .inr (by subst hk; exact ⟨lg, (Array.getElem?_eq_some_iff.1 xb).1⟩))
theorem Held.drop {n0 : Nat} {H : Nat → Prop} {w : World} {S B : Nat} {d : Dev} {s : St} (h : Held n0 H w S B d s) : Held n0 (fun _ => False) w S B d s := h.ext (Below.refl _ _) (fun _ h => h.elim)
end Go.Proofs.Ytopemjbakpahfaa
