/-
  Contracts and plain laws, part 44 (texts: S20, S21). No condition but what each states.
-/
import Derived.Test.YtopemjbakpahfaaSn43
/-
  Opening with any size; what a call leaves, told OK or not; texts compared. No condition.
-/
namespace Go.Proofs.Ytopemjbakpahfaa
open Go.RowKit Disk Jour Crc Slot
set_option linter.unusedSimpArgs false
set_option linter.unusedVariables false
set_option maxHeartbeats 1000000 in
theorem open_low {F : Nat → Prop} {w : World} {B : Nat} {d : Dev} (hd : IsDev F w B d) (size : Int) (c1 : size < 1) : Calls Try.prog 68 #[.pointer (some ⟨B, 0, none⟩), .int .i64 size] w (OpenOf w B (sopen d size)) := by
  rw [sopen_arg (.inl c1)]
  have FN : Hid (OpenOf w B (none, 1) (.returned (.tuple #[.pointer none, .int .i64 1])) w) := OpenOf.none 1 rfl (Below.refl _ _) rfl
  go_enter Try.func68, Try.ntmps68
  go_wp2_with fail
  refine bodyPost_ret (v := .tuple #[.pointer none, .int .i64 1]) (by simp [results, Try.results68, go_sem]) rfl ?_
  exact FN.out
theorem open_all {F : Nat → Prop} {w : World} {B : Nat} {d : Dev} (hd : IsDev F w B d) (hK : d.kept.length ≤ 1024) (hp : d.pend.length ≤ 100000) (size : Int) : Calls Try.prog 68 #[.pointer (some ⟨B, 0, none⟩), .int .i64 size] w (OpenOf w B (sopen d size)) := by
  by_cases h : size < 1
  · exact open_low hd size h
  · exact open_any hd hK hp size (by omega)
theorem sizeOf_le (z : Int) : sizeOfDev z ≤ 1024 := by unfold sizeOfDev; omega
@[go_sem] theorem run_guard_eql_str (w : World) (a b : List UInt8) (x y : Operand) : (eqGuard .eql 9 x y (strV a) (strV b)).run Try.prog w = .ok () w := by
  unfold strV; go_simp
theorem run_eql_str (w : World) (a b : List UInt8) : (binOp .eql 9 (strV a) (strV b)).run Try.prog w = .ok (.bool (decide (a = b))) w := by
  unfold strV
  go_simp
  by_cases h : a = b
  · subst h; simp
  · have h1 : (ByteArray.mk a.toArray).toList ≠ (ByteArray.mk b.toArray).toList := fun e => h (by simpa using e)
    simp [h, h1]
theorem Runs.append_any {d : Dev} {s : St} {M : Nat} (h : Runs d s M) (b : List UInt8) (hb : b.length ≤ 4096) : ∃ e s' r, sappend d s b = (e, s', r) ∧ Runs e s' (M + (b.length + 7)) ∧ s'.N = s.N ∧ (r = 0 ∨ r = 2) := by
  by_cases hr : s.h.used + (b.length + 6) ≤ 32 * s.L
  · obtain ⟨e, h1, h2⟩ := h.append b hb hr
    exact ⟨e, _, 0, h1, h2, rfl, .inl rfl⟩
  · exact ⟨d, s, 2, h.full b hb hr, h.mono (by omega), rfl, .inr rfl⟩
theorem Runs.save_any {d : Dev} {s : St} {M : Nat} (h : Runs d s M) (b : List UInt8) : ∃ e s' r, ssave d s b = (e, s', r) ∧ Runs e s' (M + (b.length + 7)) ∧ s'.N = s.N ∧ (r = 0 ∨ r = 2) := by
  by_cases hr : b.length ≤ 32 * s.N
  · obtain ⟨e, h1, h2⟩ := h.save b hr
    exact ⟨e, _, 0, h1, h2, rfl, .inl rfl⟩
  · exact ⟨d, s, 2, h.fullS b hr, h.mono (by omega), rfl, .inr rfl⟩
theorem runs_small {d : Dev} {s : St} {M : Nat} (h : Runs d s M) (hM : M ≤ 50000) : d.pend.length + 33000 ≤ 90000 ∧ d.writes + 33000 ≤ 90000 ∧ d.syncs ≤ 90000 := by
  have h1 := h.pend; have h2 := h.writes; have h3 := h.syncs
  exact ⟨by omega, by omega, by omega⟩
/-- Bytes made for a call: the store beside them. -/
theorem Held.made {n0 : Nat} {w w' : World} {S B : Nat} {d : Dev} {s : St} {b : List UInt8} {g : Nat} (h : Held n0 (fun _ => False) w S B d s) (b4 : Below w.heap.size w w') (lg : w.heap.size ≤ g) (xb : w'.heap[g]? = some (.cells (b.map byteV).toArray 5 (0, 0))) : Held n0 (fun k => k = g) w' S B d s :=
  h.ext b4 (fun k hk => .inr (by subst hk; exact ⟨lg, (Array.getElem?_eq_some_iff.1 xb).1⟩))
theorem Held.drop {n0 : Nat} {H : Nat → Prop} {w : World} {S B : Nat} {d : Dev} {s : St} (h : Held n0 H w S B d s) : Held n0 (fun _ => False) w S B d s := h.ext (Below.refl _ _) (fun _ h => h.elim)
end Go.Proofs.Ytopemjbakpahfaa
/-
  Two stores side by side, one of them on a device that may stop. No condition but that the numbers are small.
-/
namespace Go.Proofs.Ytopemjbakpahfaa
open Go.RowKit Disk Jour Crc Slot
set_option linter.unusedSimpArgs false
set_option linter.unusedVariables false
/-- A good store on a device that may be armed; small numbers. -/
structure Arms (d : Dev) (s : St) (M : Nat) : Prop where
  good : Slot.Good d s
  writes : d.writes ≤ M
  syncs : d.syncs ≤ M
/-- What is opened behind a restart, whatever is kept: one of two stores. -/
def Backs (d : Dev) (s s' : St) (M : Nat) : Prop := ∀ keep, ∃ z, (z = s ∨ z = s') ∧ Runs (d.restart keep).1 z M
theorem Arms.back {d : Dev} {s : St} {M : Nat} (h : Arms d s M) : Backs d s s M := fun keep =>
  ⟨s, .inl rfl, (restart_good h.good keep).1, (restart_good h.good keep).2, h.writes, h.syncs⟩
/-- A call on both: the same is told, or the first stops. -/
def Both (N M : Nat) (d1 d2 : Dev) (s : St) (r1 r2 : Dev × St × Int) : Prop :=
  (∃ e1 e2 s' r, r1 = (e1, s', r) ∧ r2 = (e2, s', r) ∧ r ≠ 14 ∧ Arms e1 s' M ∧ Runs e2 s' M ∧ s'.N = N) ∨
  (∃ e1 x e2 s', r1 = (e1, x, 14) ∧ r2 = (e2, s', 0) ∧ Runs e2 s' M ∧ s'.N = N ∧ Backs e1 s s' M ∧ e1.pend.length ≤ 1000 ∧ e1.kept.length ≤ 1024)
theorem prod3 {a : Dev × St × Int} {s : St} {r : Int} (h1 : a.2.1 = s) (h2 : a.2.2 = r) : a = (a.1, s, r) := by
  obtain ⟨x, y, z⟩ := a; dsimp only at h1 h2; subst h1 h2; rfl
theorem both_append {d1 d2 : Dev} {s : St} {N M : Nat} (h1 : Arms d1 s M) (h2 : Runs d2 s M) (hN : s.N = N) (b : List UInt8) (hb : b.length ≤ 63) : Both N (M + 70) d1 d2 s (sappend d1 s b) (sappend d2 s b) := by
  obtain ⟨q1, q2, q3, q4⟩ := sappend_bound d1 s b
  have := h1.writes; have := h1.syncs
  have hp : d1.pend.length = 0 := by rw [h1.good.pend]; rfl
  rcases append_cases h1.good b (by omega) with ⟨hr, he⟩ | ⟨hr, hc | hc⟩
  · exact .inl ⟨d1, d2, s, 2, he, h2.full b (by omega) hr, by decide, ⟨h1.good, by omega, by omega⟩, h2.mono (by omega), hN⟩
  · obtain ⟨e2, k1, k2⟩ := h2.append b (by omega) hr
    exact .inl ⟨_, e2, _, 0, prod3 hc.st hc.z, k1, by decide, ⟨hc.good, by omega, by omega⟩, k2.mono (by omega), hN⟩
  · obtain ⟨e2, k1, k2⟩ := h2.append b (by omega) hr
    refine .inr ⟨_, _, e2, _, prod3 rfl hc.z, k1, k2.mono (by omega), hN, fun keep => ?_, by omega, by rw [q4, h1.good.K]; exact h1.good.le⟩
    obtain ⟨k3, k4⟩ := hc.back keep
    rcases k4 with k4 | k4
    · exact ⟨s, .inl rfl, k4, k3, by show (sappend d1 s b).1.writes ≤ _; omega, by show (sappend d1 s b).1.syncs ≤ _; omega⟩
    · exact ⟨_, .inr rfl, k4, k3, by show (sappend d1 s b).1.writes ≤ _; omega, by show (sappend d1 s b).1.syncs ≤ _; omega⟩
theorem both_save {d1 d2 : Dev} {s : St} {N M : Nat} (h1 : Arms d1 s M) (h2 : Runs d2 s M) (hN : s.N = N) (b : List UInt8) (hb : b.length ≤ 63) : Both N (M + 70) d1 d2 s (ssave d1 s b) (ssave d2 s b) := by
  obtain ⟨q1, q2, q3, q4⟩ := ssave_bound d1 s b
  have := h1.writes; have := h1.syncs
  have hp : d1.pend.length = 0 := by rw [h1.good.pend]; rfl
  rcases save_cases h1.good b with ⟨hr, he⟩ | ⟨hr, hc | hc⟩
  · exact .inl ⟨d1, d2, s, 2, he, h2.fullS b hr, by decide, ⟨h1.good, by omega, by omega⟩, h2.mono (by omega), hN⟩
  · obtain ⟨e2, k1, k2⟩ := h2.save b hr
    exact .inl ⟨_, e2, _, 0, prod3 hc.st hc.z, k1, by decide, ⟨hc.good, by omega, by omega⟩, k2.mono (by omega), hN⟩
  · obtain ⟨e2, k1, k2⟩ := h2.save b hr
    refine .inr ⟨_, _, e2, _, prod3 rfl hc.z, k1, k2.mono (by omega), hN, fun keep => ?_, by omega, by rw [q4, h1.good.K]; exact h1.good.le⟩
    obtain ⟨k3, k4⟩ := hc.back keep
    rcases k4 with k4 | k4
    · exact ⟨s, .inl rfl, k4, k3, by show (ssave d1 s b).1.writes ≤ _; omega, by show (ssave d1 s b).1.syncs ≤ _; omega⟩
    · exact ⟨_, .inr rfl, k4, k3, by show (ssave d1 s b).1.writes ≤ _; omega, by show (ssave d1 s b).1.syncs ≤ _; omega⟩
/-- Two stores, in blocks apart. -/
def Duo (n0 : Nat) (w : World) (S1 B1 : Nat) (d1 : Dev) (s1 : St) (S2 B2 : Nat) (d2 : Dev) (s2 : St) : Prop :=
  n0 ≤ w.heap.size ∧ ∃ F1 G1 F2 G2, Stor F1 G1 w S1 B1 d1 s1 ∧ Stor F2 G2 w S2 B2 d2 s2 ∧ (∀ k, F1 k ∨ G1 k → n0 ≤ k) ∧ (∀ k, F2 k ∨ G2 k → n0 ≤ k) ∧ ∀ k, F1 k ∨ G1 k → ¬ (F2 k ∨ G2 k)
theorem Duo.swap {n0 : Nat} {w : World} {S1 B1 : Nat} {d1 : Dev} {s1 : St} {S2 B2 : Nat} {d2 : Dev} {s2 : St} (h : Duo n0 w S1 B1 d1 s1 S2 B2 d2 s2) : Duo n0 w S2 B2 d2 s2 S1 B1 d1 s1 := by
  obtain ⟨hs, F1, G1, F2, G2, a, b, c, d, e⟩ := h
  exact ⟨hs, F2, G2, F1, G1, b, a, d, c, fun k h1 h2 => e k h2 h1⟩
theorem Duo.below {n0 : Nat} {w w' : World} {S1 B1 : Nat} {d1 : Dev} {s1 : St} {S2 B2 : Nat} {d2 : Dev} {s2 : St} (h : Duo n0 w S1 B1 d1 s1 S2 B2 d2 s2) (hb : Below w.heap.size w w') : Duo n0 w' S1 B1 d1 s1 S2 B2 d2 s2 := by
  obtain ⟨hs, F1, G1, F2, G2, a, b, c, d, e⟩ := h
  exact ⟨Nat.le_trans hs hb.size, F1, G1, F2, G2, a.below hb, b.below hb, c, d, e⟩
theorem Duo.call {n0 : Nat} {w4 : World} {S1 B1 : Nat} {S2 B2 : Nat} {d2 : Dev} {s2 : St} {F1 G1 F2 G2 : Nat → Prop} (hs : n0 ≤ w4.heap.size) (b : Stor F2 G2 w4 S2 B2 d2 s2) (c : ∀ k, F1 k ∨ G1 k → n0 ≤ k) (hd : ∀ k, F2 k ∨ G2 k → n0 ≤ k) (he : ∀ k, F1 k ∨ G1 k → ¬ (F2 k ∨ G2 k))
    {d : Dev} {s : St} {r : Int} {en : Ending} {w' : World} (h : StorOf F1 G1 w4 S1 B1 d s r en w') : en = .returned (.int .i64 r) ∧ Duo n0 w' S1 B1 d s S2 B2 d2 s2 ∧ Below n0 w4 w' := by
  obtain ⟨h1, h2, F', G', h3, h4, h5⟩ := h
  have hsz := h2.size
  have l2 : ∀ k, F2 k ∨ G2 k → k < w4.heap.size := fun k hk => hk.elim (b.dev.lt k) (b.st.lt k)
  have old : ∀ k, F' k ∨ G' k → (F1 k ∨ G1 k) ∨ w4.heap.size ≤ k := fun k hk => by
    rcases hk with hk | hk
    · exact (h4 k hk).imp_left .inl
    · exact (h5 k hk).imp_left .inr
  refine ⟨h1, ⟨by omega, F', G', F2, G2, h3, b.frm h2 (fun k hk hx => he k hx (.inl hk)) (fun k hk hx => he k hx (.inr hk)), fun k hk => (old k hk).elim (c k) (fun h => by omega), hd, fun k hk hx => (old k hk).elim (fun h => he k h hx) (fun h => by have := l2 k hx; omega)⟩, h2.below (fun k hk => c k hk) hs⟩
theorem Duo.append {n0 : Nat} {wr w4 : World} {S1 B1 : Nat} {d1 : Dev} {s1 : St} {S2 B2 : Nat} {d2 : Dev} {s2 : St} (h : Duo n0 wr S1 B1 d1 s1 S2 B2 d2 s2) {b : List UInt8} {g : Nat} (hb : b.length ≤ 63) (b4 : Below wr.heap.size wr w4) (lg : wr.heap.size ≤ g) (xb : w4.heap[g]? = some (.cells (b.map byteV).toArray 5 (0, 0)))
    (hp : d1.pend.length + 33000 ≤ 90000) (hw : d1.writes + 33000 ≤ 90000) (hy : d1.syncs ≤ 90000) :
    Calls Try.prog 71 #[.pointer (some ⟨S1, 0, none⟩), .slice (some ⟨g, 0, none⟩) b.length b.length] w4 (fun en w' => en = .returned (.int .i64 (sappend d1 s1 b).2.2) ∧ Duo n0 w' S1 B1 (sappend d1 s1 b).1 (sappend d1 s1 b).2.1 S2 B2 d2 s2 ∧ Below n0 wr w') := by
  obtain ⟨hs, F1, G1, F2, G2, a, b2, c, d, e⟩ := h
  have h4 := b4.size
  refine (append_any (a.below b4) (Nat.le_refl _) (fun e => by cases e) (rb_block xb) (fun g' o e => ?_) (by omega) hp hw hy).mono (fun en w' h => ?_)
  · cases e
    refine ⟨fun hF => by have := a.dev.lt g hF; omega, fun hS => ?_⟩
    obtain ⟨A0, A1, AL, vc, vr, V⟩ := a.st
    have := V.lt S1 V.fs; omega
  · obtain ⟨k1, k2, k3⟩ := Duo.call (Nat.le_trans hs h4) (b2.below b4) c d e h
    exact ⟨k1, k2, (b4.mono hs).trans k3⟩
theorem Duo.save {n0 : Nat} {wr w4 : World} {S1 B1 : Nat} {d1 : Dev} {s1 : St} {S2 B2 : Nat} {d2 : Dev} {s2 : St} (h : Duo n0 wr S1 B1 d1 s1 S2 B2 d2 s2) {b : List UInt8} {g : Nat} (hb : b.length ≤ 63) (b4 : Below wr.heap.size wr w4) (lg : wr.heap.size ≤ g) (xb : w4.heap[g]? = some (.cells (b.map byteV).toArray 5 (0, 0)))
    (hp : d1.pend.length + 33000 ≤ 90000) (hw : d1.writes + 33000 ≤ 90000) (hy : d1.syncs ≤ 90000) :
    Calls Try.prog 70 #[.pointer (some ⟨S1, 0, none⟩), .slice (some ⟨g, 0, none⟩) b.length b.length] w4 (fun en w' => en = .returned (.int .i64 (ssave d1 s1 b).2.2) ∧ Duo n0 w' S1 B1 (ssave d1 s1 b).1 (ssave d1 s1 b).2.1 S2 B2 d2 s2 ∧ Below n0 wr w') := by
  obtain ⟨hs, F1, G1, F2, G2, a, b2, c, d, e⟩ := h
  have h4 := b4.size
  refine (save_any (a.below b4) (Nat.le_refl _) (rb_block xb) (fun hF => by have := a.dev.lt g hF; omega) (fun hS => ?_) (Array.getElem?_eq_some_iff.1 xb).1 (by omega) hp hw hy).mono (fun en w' h => ?_)
  · obtain ⟨A0, A1, AL, vc, vr, V⟩ := a.st
    have := V.lt S1 V.fs; omega
  · obtain ⟨k1, k2, k3⟩ := Duo.call (Nat.le_trans hs h4) (b2.below b4) c d e h
    exact ⟨k1, k2, (b4.mono hs).trans k3⟩
theorem Duo.st2 {n0 : Nat} {w : World} {S1 B1 : Nat} {d1 : Dev} {s1 : St} {S2 B2 : Nat} {d2 : Dev} {s2 : St} (h : Duo n0 w S1 B1 d1 s1 S2 B2 d2 s2) : ∃ G, IsSt G w S2 B2 s2 := by
  obtain ⟨hs, F1, G1, F2, G2, a, b, c, d, e⟩ := h; exact ⟨G2, b.st⟩
theorem Duo.dev1 {n0 : Nat} {w : World} {S1 B1 : Nat} {d1 : Dev} {s1 : St} {S2 B2 : Nat} {d2 : Dev} {s2 : St} (h : Duo n0 w S1 B1 d1 s1 S2 B2 d2 s2) : ∃ F, IsDev F w B1 d1 ∧ ∀ k, F k → n0 ≤ k := by
  obtain ⟨hs, F1, G1, F2, G2, a, b, c, d, e⟩ := h; exact ⟨F1, a.dev, fun k hk => c k (.inl hk)⟩
end Go.Proofs.Ytopemjbakpahfaa
