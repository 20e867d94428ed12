/-
  Contracts and plain laws, part 44 (texts: S20, S21, R1, R2, R3, R4). No condition but what each states.
-/
import Derived.Test.YtopemjbakpahfaaSn43
/-
  Opening with any size; what a call leaves, told OK or not; texts compared. No condition.
-/
namespace Go.Proofs.Ytopemjbakpahfaa
open Go.RowKit Disk Jour Crc Slot
set_option linter.unusedSimpArgs false
set_option linter.unusedVariables false
set_option maxHeartbeats 1000000 in
theorem open_low {F : Nat → Prop} {w : World} {B : Nat} {d : Dev} (hd : IsDev F w B d) (size : Int) (c1 : size < 1) : Calls Try.prog 68 #[.pointer (some ⟨B, 0, none⟩), .int .i64 size] w (OpenOf w B (sopen d size)) := by
  rw [sopen_arg (.inl c1)]
  have FN : Hid (OpenOf w B (none, 1) (.returned (.tuple #[.pointer none, .int .i64 1])) w) := OpenOf.none 1 rfl (Below.refl _ _) rfl
  go_enter Try.func68, Try.ntmps68
  go_wp2_with fail
  refine bodyPost_ret (v := .tuple #[.pointer none, .int .i64 1]) (by simp [results, Try.results68, go_sem]) rfl ?_
  exact FN.out
theorem open_all {F : Nat → Prop} {w : World} {B : Nat} {d : Dev} (hd : IsDev F w B d) (hK : d.kept.length ≤ 1024) (hp : d.pend.length ≤ 100000) (size : Int) : Calls Try.prog 68 #[.pointer (some ⟨B, 0, none⟩), .int .i64 size] w (OpenOf w B (sopen d size)) := by
  by_cases h : size < 1
  · exact open_low hd size h
  · exact open_any hd hK hp size (by omega)
theorem sizeOf_le (z : Int) : sizeOfDev z ≤ 1024 := by unfold sizeOfDev; omega
@[go_sem] theorem run_guard_eql_str (w : World) (a b : List UInt8) (x y : Operand) : (eqGuard .eql 9 x y (strV a) (strV b)).run Try.prog w = .ok () w := by
  unfold strV; go_simp
theorem run_eql_str (w : World) (a b : List UInt8) : (binOp .eql 9 (strV a) (strV b)).run Try.prog w = .ok (.bool (decide (a = b))) w := by
  unfold strV
  go_simp
  by_cases h : a = b
  · subst h; simp
  · have h1 : (ByteArray.mk a.toArray).toList ≠ (ByteArray.mk b.toArray).toList := fun e => h (by simpa using e)
    simp [h, h1]
theorem Runs.append_any {d : Dev} {s : St} {M : Nat} (h : Runs d s M) (b : List UInt8) (hb : b.length ≤ 4096) : ∃ e s' r, sappend d s b = (e, s', r) ∧ Runs e s' (M + (b.length + 7)) ∧ s'.N = s.N ∧ (r = 0 ∨ r = 2) := by
  by_cases hr : s.h.used + (b.length + 6) ≤ 32 * s.L
  · obtain ⟨e, h1, h2⟩ := h.append b hb hr
    exact ⟨e, _, 0, h1, h2, rfl, .inl rfl⟩
  · exact ⟨d, s, 2, h.full b hb hr, h.mono (by omega), rfl, .inr rfl⟩
theorem Runs.save_any {d : Dev} {s : St} {M : Nat} (h : Runs d s M) (b : List UInt8) : ∃ e s' r, ssave d s b = (e, s', r) ∧ Runs e s' (M + (b.length + 7)) ∧ s'.N = s.N ∧ (r = 0 ∨ r = 2) := by
  by_cases hr : b.length ≤ 32 * s.N
  · obtain ⟨e, h1, h2⟩ := h.save b hr
    exact ⟨e, _, 0, h1, h2, rfl, .inl rfl⟩
  · exact ⟨d, s, 2, h.fullS b hr, h.mono (by omega), rfl, .inr rfl⟩
theorem runs_small {d : Dev} {s : St} {M : Nat} (h : Runs d s M) (hM : M ≤ 50000) : d.pend.length + 33000 ≤ 90000 ∧ d.writes + 33000 ≤ 90000 ∧ d.syncs ≤ 90000 := by
  have h1 := h.pend; have h2 := h.writes; have h3 := h.syncs
  exact ⟨by omega, by omega, by omega⟩
/-- Bytes made for a call: the store beside them. -/
theorem Held.made {n0 : Nat} {w w' : World} {S B : Nat} {d : Dev} {s : St} {b : List UInt8} {g : Nat} (h : Held n0 (fun _ => False) w S B d s) (b4 : Below w.heap.size w w') (lg : w.heap.size ≤ g) (xb : w'.heap[g]? = some (.cells (b.map byteV).toArray 5 (0, 0))) : Held n0 (fun k => k = g) w' S B d s :=
  h.ext b4 (fun k hk => .inr (by subst hk; exact ⟨lg, (Array.getElem?_eq_some_iff.1 xb).1⟩))
theorem Held.drop {n0 : Nat} {H : Nat → Prop} {w : World} {S B : Nat} {d : Dev} {s : St} (h : Held n0 H w S B d s) : Held n0 (fun _ => False) w S B d s := h.ext (Below.refl _ _) (fun _ h => h.elim)
end Go.Proofs.Ytopemjbakpahfaa
/-
  Two stores side by side, one of them on a device that may stop. No condition but that the numbers are small.
-/
namespace Go.Proofs.Ytopemjbakpahfaa
open Go.RowKit Disk Jour Crc Slot
set_option linter.unusedSimpArgs false
set_option linter.unusedVariables false
/-- A good store on a device that may be armed; small numbers. -/
structure Arms (d : Dev) (s : St) (M : Nat) : Prop where
  good : Slot.Good d s
  writes : d.writes ≤ M
  syncs : d.syncs ≤ M
/-- What is opened behind a restart, whatever is kept: one of two stores. -/
def Backs (d : Dev) (s s' : St) (M : Nat) : Prop := ∀ keep, ∃ z, (z = s ∨ z = s') ∧ Runs (d.restart keep).1 z M
theorem Arms.back {d : Dev} {s : St} {M : Nat} (h : Arms d s M) : Backs d s s M := fun keep =>
  ⟨s, .inl rfl, (restart_good h.good keep).1, (restart_good h.good keep).2, h.writes, h.syncs⟩
/-- A call on both: the same is told, or the first stops. -/
def Both (N M : Nat) (d1 d2 : Dev) (s : St) (r1 r2 : Dev × St × Int) : Prop :=
  (∃ e1 e2 s' r, r1 = (e1, s', r) ∧ r2 = (e2, s', r) ∧ r ≠ 14 ∧ Arms e1 s' M ∧ Runs e2 s' M ∧ s'.N = N) ∨
  (∃ e1 x e2 s', r1 = (e1, x, 14) ∧ r2 = (e2, s', 0) ∧ Runs e2 s' M ∧ s'.N = N ∧ Backs e1 s s' M ∧ e1.pend.length ≤ 1000 ∧ e1.kept.length ≤ 1024)
theorem prod3 {a : Dev × St × Int} {s : St} {r : Int} (h1 : a.2.1 = s) (h2 : a.2.2 = r) : a = (a.1, s, r) := by
  obtain ⟨x, y, z⟩ := a; dsimp only at h1 h2; subst h1 h2; rfl
theorem both_append {d1 d2 : Dev} {s : St} {N M : Nat} (h1 : Arms d1 s M) (h2 : Runs d2 s M) (hN : s.N = N) (b : List UInt8) (hb : b.length ≤ 63) : Both N (M + 70) d1 d2 s (sappend d1 s b) (sappend d2 s b) := by
  obtain ⟨q1, q2, q3, q4⟩ := sappend_bound d1 s b
  have := h1.writes; have := h1.syncs
  have hp : d1.pend.length = 0 := by rw [h1.good.pend]; rfl
  rcases append_cases h1.good b (by omega) with ⟨hr, he⟩ | ⟨hr, hc | hc⟩
  · exact .inl ⟨d1, d2, s, 2, he, h2.full b (by omega) hr, by decide, ⟨h1.good, by omega, by omega⟩, h2.mono (by omega), hN⟩
  · obtain ⟨e2, k1, k2⟩ := h2.append b (by omega) hr
    exact .inl ⟨_, e2, _, 0, prod3 hc.st hc.z, k1, by decide, ⟨hc.good, by omega, by omega⟩, k2.mono (by omega), hN⟩
  · obtain ⟨e2, k1, k2⟩ := h2.append b (by omega) hr
    refine .inr ⟨_, _, e2, _, prod3 rfl hc.z, k1, k2.mono (by omega), hN, fun keep => ?_, by omega, by rw [q4, h1.good.K]; exact h1.good.le⟩
    obtain ⟨k3, k4⟩ := hc.back keep
    rcases k4 with k4 | k4
    · exact ⟨s, .inl rfl, k4, k3, by show (sappend d1 s b).1.writes ≤ _; omega, by show (sappend d1 s b).1.syncs ≤ _; omega⟩
    · exact ⟨_, .inr rfl, k4, k3, by show (sappend d1 s b).1.writes ≤ _; omega, by show (sappend d1 s b).1.syncs ≤ _; omega⟩
theorem both_save {d1 d2 : Dev} {s : St} {N M : Nat} (h1 : Arms d1 s M) (h2 : Runs d2 s M) (hN : s.N = N) (b : List UInt8) (hb : b.length ≤ 63) : Both N (M + 70) d1 d2 s (ssave d1 s b) (ssave d2 s b) := by
  obtain ⟨q1, q2, q3, q4⟩ := ssave_bound d1 s b
  have := h1.writes; have := h1.syncs
  have hp : d1.pend.length = 0 := by rw [h1.good.pend]; rfl
  rcases save_cases h1.good b with ⟨hr, he⟩ | ⟨hr, hc | hc⟩
  · exact .inl ⟨d1, d2, s, 2, he, h2.fullS b hr, by decide, ⟨h1.good, by omega, by omega⟩, h2.mono (by omega), hN⟩
  · obtain ⟨e2, k1, k2⟩ := h2.save b hr
    exact .inl ⟨_, e2, _, 0, prod3 hc.st hc.z, k1, by decide, ⟨hc.good, by omega, by omega⟩, k2.mono (by omega), hN⟩
  · obtain ⟨e2, k1, k2⟩ := h2.save b hr
    refine .inr ⟨_, _, e2, _, prod3 rfl hc.z, k1, k2.mono (by omega), hN, fun keep => ?_, by omega, by rw [q4, h1.good.K]; exact h1.good.le⟩
    obtain ⟨k3, k4⟩ := hc.back keep
    rcases k4 with k4 | k4
    · exact ⟨s, .inl rfl, k4, k3, by show (ssave d1 s b).1.writes ≤ _; omega, by show (ssave d1 s b).1.syncs ≤ _; omega⟩
    · exact ⟨_, .inr rfl, k4, k3, by show (ssave d1 s b).1.writes ≤ _; omega, by show (ssave d1 s b).1.syncs ≤ _; omega⟩
/-- Two stores, in blocks apart. -/
def Duo (n0 : Nat) (w : World) (S1 B1 : Nat) (d1 : Dev) (s1 : St) (S2 B2 : Nat) (d2 : Dev) (s2 : St) : Prop :=
  n0 ≤ w.heap.size ∧ ∃ F1 G1 F2 G2, Stor F1 G1 w S1 B1 d1 s1 ∧ Stor F2 G2 w S2 B2 d2 s2 ∧ (∀ k, F1 k ∨ G1 k → n0 ≤ k) ∧ (∀ k, F2 k ∨ G2 k → n0 ≤ k) ∧ ∀ k, F1 k ∨ G1 k → ¬ (F2 k ∨ G2 k)
theorem Duo.swap {n0 : Nat} {w : World} {S1 B1 : Nat} {d1 : Dev} {s1 : St} {S2 B2 : Nat} {d2 : Dev} {s2 : St} (h : Duo n0 w S1 B1 d1 s1 S2 B2 d2 s2) : Duo n0 w S2 B2 d2 s2 S1 B1 d1 s1 := by
  obtain ⟨hs, F1, G1, F2, G2, a, b, c, d, e⟩ := h
  exact ⟨hs, F2, G2, F1, G1, b, a, d, c, fun k h1 h2 => e k h2 h1⟩
theorem Duo.below {n0 : Nat} {w w' : World} {S1 B1 : Nat} {d1 : Dev} {s1 : St} {S2 B2 : Nat} {d2 : Dev} {s2 : St} (h : Duo n0 w S1 B1 d1 s1 S2 B2 d2 s2) (hb : Below w.heap.size w w') : Duo n0 w' S1 B1 d1 s1 S2 B2 d2 s2 := by
  obtain ⟨hs, F1, G1, F2, G2, a, b, c, d, e⟩ := h
  exact ⟨Nat.le_trans hs hb.size, F1, G1, F2, G2, a.below hb, b.below hb, c, d, e⟩
theorem Duo.call {n0 : Nat} {w4 : World} {S1 B1 : Nat} {S2 B2 : Nat} {d2 : Dev} {s2 : St} {F1 G1 F2 G2 : Nat → Prop} (hs : n0 ≤ w4.heap.size) (b : Stor F2 G2 w4 S2 B2 d2 s2) (c : ∀ k, F1 k ∨ G1 k → n0 ≤ k) (hd : ∀ k, F2 k ∨ G2 k → n0 ≤ k) (he : ∀ k, F1 k ∨ G1 k → ¬ (F2 k ∨ G2 k))
    {d : Dev} {s : St} {r : Int} {en : Ending} {w' : World} (h : StorOf F1 G1 w4 S1 B1 d s r en w') : en = .returned (.int .i64 r) ∧ Duo n0 w' S1 B1 d s S2 B2 d2 s2 ∧ Below n0 w4 w' := by
  obtain ⟨h1, h2, F', G', h3, h4, h5⟩ := h
  have hsz := h2.size
  have l2 : ∀ k, F2 k ∨ G2 k → k < w4.heap.size := fun k hk => hk.elim (b.dev.lt k) (b.st.lt k)
  have old : ∀ k, F' k ∨ G' k → (F1 k ∨ G1 k) ∨ w4.heap.size ≤ k := fun k hk => by
    rcases hk with hk | hk
    · exact (h4 k hk).imp_left .inl
    · exact (h5 k hk).imp_left .inr
  refine ⟨h1, ⟨by omega, F', G', F2, G2, h3, b.frm h2 (fun k hk hx => he k hx (.inl hk)) (fun k hk hx => he k hx (.inr hk)), fun k hk => (old k hk).elim (c k) (fun h => by omega), hd, fun k hk hx => (old k hk).elim (fun h => he k h hx) (fun h => by have := l2 k hx; omega)⟩, h2.below (fun k hk => c k hk) hs⟩
theorem Duo.append {n0 : Nat} {wr w4 : World} {S1 B1 : Nat} {d1 : Dev} {s1 : St} {S2 B2 : Nat} {d2 : Dev} {s2 : St} (h : Duo n0 wr S1 B1 d1 s1 S2 B2 d2 s2) {b : List UInt8} {g : Nat} (hb : b.length ≤ 63) (b4 : Below wr.heap.size wr w4) (lg : wr.heap.size ≤ g) (xb : w4.heap[g]? = some (.cells (b.map byteV).toArray 5 (0, 0)))
    (hp : d1.pend.length + 33000 ≤ 90000) (hw : d1.writes + 33000 ≤ 90000) (hy : d1.syncs ≤ 90000) :
    Calls Try.prog 71 #[.pointer (some ⟨S1, 0, none⟩), .slice (some ⟨g, 0, none⟩) b.length b.length] w4 (fun en w' => en = .returned (.int .i64 (sappend d1 s1 b).2.2) ∧ Duo n0 w' S1 B1 (sappend d1 s1 b).1 (sappend d1 s1 b).2.1 S2 B2 d2 s2 ∧ Below n0 wr w') := by
  obtain ⟨hs, F1, G1, F2, G2, a, b2, c, d, e⟩ := h
  have h4 := b4.size
  refine (append_any (a.below b4) (Nat.le_refl _) (fun e => by cases e) (rb_block xb) (fun g' o e => ?_) (by omega) hp hw hy).mono (fun en w' h => ?_)
  · cases e
    refine ⟨fun hF => by have := a.dev.lt g hF; omega, fun hS => ?_⟩
    obtain ⟨A0, A1, AL, vc, vr, V⟩ := a.st
    have := V.lt S1 V.fs; omega
  · obtain ⟨k1, k2, k3⟩ := Duo.call (Nat.le_trans hs h4) (b2.below b4) c d e h
    exact ⟨k1, k2, (b4.mono hs).trans k3⟩
theorem Duo.save {n0 : Nat} {wr w4 : World} {S1 B1 : Nat} {d1 : Dev} {s1 : St} {S2 B2 : Nat} {d2 : Dev} {s2 : St} (h : Duo n0 wr S1 B1 d1 s1 S2 B2 d2 s2) {b : List UInt8} {g : Nat} (hb : b.length ≤ 63) (b4 : Below wr.heap.size wr w4) (lg : wr.heap.size ≤ g) (xb : w4.heap[g]? = some (.cells (b.map byteV).toArray 5 (0, 0)))
    (hp : d1.pend.length + 33000 ≤ 90000) (hw : d1.writes + 33000 ≤ 90000) (hy : d1.syncs ≤ 90000) :
    Calls Try.prog 70 #[.pointer (some ⟨S1, 0, none⟩), .slice (some ⟨g, 0, none⟩) b.length b.length] w4 (fun en w' => en = .returned (.int .i64 (ssave d1 s1 b).2.2) ∧ Duo n0 w' S1 B1 (ssave d1 s1 b).1 (ssave d1 s1 b).2.1 S2 B2 d2 s2 ∧ Below n0 wr w') := by
  obtain ⟨hs, F1, G1, F2, G2, a, b2, c, d, e⟩ := h
  have h4 := b4.size
  refine (save_any (a.below b4) (Nat.le_refl _) (rb_block xb) (fun hF => by have := a.dev.lt g hF; omega) (fun hS => ?_) (Array.getElem?_eq_some_iff.1 xb).1 (by omega) hp hw hy).mono (fun en w' h => ?_)
  · obtain ⟨A0, A1, AL, vc, vr, V⟩ := a.st
    have := V.lt S1 V.fs; omega
  · obtain ⟨k1, k2, k3⟩ := Duo.call (Nat.le_trans hs h4) (b2.below b4) c d e h
    exact ⟨k1, k2, (b4.mono hs).trans k3⟩
theorem Duo.st2 {n0 : Nat} {w : World} {S1 B1 : Nat} {d1 : Dev} {s1 : St} {S2 B2 : Nat} {d2 : Dev} {s2 : St} (h : Duo n0 w S1 B1 d1 s1 S2 B2 d2 s2) : ∃ G, IsSt G w S2 B2 s2 := by
  obtain ⟨hs, F1, G1, F2, G2, a, b, c, d, e⟩ := h; exact ⟨G2, b.st⟩
theorem Duo.dev1 {n0 : Nat} {w : World} {S1 B1 : Nat} {d1 : Dev} {s1 : St} {S2 B2 : Nat} {d2 : Dev} {s2 : St} (h : Duo n0 w S1 B1 d1 s1 S2 B2 d2 s2) : ∃ F, IsDev F w B1 d1 ∧ ∀ k, F k → n0 ≤ k := by
  obtain ⟨hs, F1, G1, F2, G2, a, b, c, d, e⟩ := h; exact ⟨F1, a.dev, fun k hk => c k (.inl hk)⟩
end Go.Proofs.Ytopemjbakpahfaa
/-
  The reference's store in memory, and on its device. No condition.
-/
namespace Go.Proofs.Ytopemjbakpahfaa
open Go.RowKit Disk Jour Crc Slot
set_option linter.unusedSimpArgs false
set_option linter.unusedVariables false
theorem IsRArea.frm {F : Nat → Prop} {w w' : World} {A B : Nat} {first : Int} {N : Nat} (h : IsRArea w A B first N) (hf : Frm F w w') (hA : ¬ F A) : IsRArea w' A B first N := h.same (hf.block A h.lt hA)
def srcells (B A0 A1 AL : Nat) (s : St) (vc vr : Value) : Array Value :=
  #[.pointer (some ⟨B, 0, none⟩), .pointer (some ⟨A0, 0, none⟩), .pointer (some ⟨A1, 0, none⟩), .pointer (some ⟨AL, 0, none⟩), .int .i64 (s.h.slot : Int), .int .i64 (s.h.long : Int), .int .i64 (s.h.used : Int), .int .i64 (s.h.turn : Int), vc, vr, .bool s.broken]
structure SrV (G : Nat → Prop) (w : World) (S B A0 A1 AL : Nat) (s : St) (vc vr : Value) : Prop where
  blk : w.heap[S]? = some (.cells (srcells B A0 A1 AL s vc vr) 141 (0, 0))
  a0 : IsRArea w A0 B 1 s.N
  a1 : IsRArea w A1 B (1 + s.N) s.N
  al : IsRArea w AL B (1 + 2 * s.N) s.L
  check : BsG G w vc s.check
  recs : RowsG G w vr s.recs
  fs : G S
  f0 : G A0
  f1 : G A1
  fl : G AL
  lt : ∀ k, G k → k < w.heap.size
  ok : StOk s
/-- A store on the device at B. -/
def IsSr (G : Nat → Prop) (w : World) (S B : Nat) (s : St) : Prop := ∃ A0 A1 AL vc vr, SrV G w S B A0 A1 AL s vc vr
theorem SrV.frm {F G : Nat → Prop} {w w' : World} {S B A0 A1 AL : Nat} {s : St} {vc vr : Value} (h : SrV G w S B A0 A1 AL s vc vr) (hf : Frm F w w') (hd : ∀ k, G k → ¬ F k) : SrV G w' S B A0 A1 AL s vc vr := by
  have e : ∀ k, G k → k < w.heap.size → w'.heap[k]? = w.heap[k]? := fun k hk hl => hf.block k hl (hd k hk)
  exact ⟨(e S h.fs (h.lt S h.fs)).trans h.blk, h.a0.same (e A0 h.f0 (h.lt A0 h.f0)), h.a1.same (e A1 h.f1 (h.lt A1 h.f1)), h.al.same (e AL h.fl (h.lt AL h.fl)), h.check.same e (fun _ h => h), h.recs.same e (fun _ h => h), h.fs, h.f0, h.f1, h.fl, fun k hk => Nat.lt_of_lt_of_le (h.lt k hk) hf.size, h.ok⟩
theorem SrV.below {G : Nat → Prop} {w w' : World} {S B A0 A1 AL : Nat} {s : St} {vc vr : Value} (h : SrV G w S B A0 A1 AL s vc vr) (hb : Below w.heap.size w w') : SrV G w' S B A0 A1 AL s vc vr :=
  h.frm (F := fun _ => False) (Frm.of_below hb) (fun _ _ h => h)
theorem IsSr.frm {F G : Nat → Prop} {w w' : World} {S B : Nat} {s : St} (h : IsSr G w S B s) (hf : Frm F w w') (hd : ∀ k, G k → ¬ F k) : IsSr G w' S B s := by
  obtain ⟨A0, A1, AL, vc, vr, h⟩ := h; exact ⟨A0, A1, AL, vc, vr, h.frm hf hd⟩
theorem IsSr.below {G : Nat → Prop} {w w' : World} {S B : Nat} {s : St} (h : IsSr G w S B s) (hb : Below w.heap.size w w') : IsSr G w' S B s :=
  h.frm (F := fun _ => False) (Frm.of_below hb) (fun _ _ h => h)
theorem IsSr.lt {G : Nat → Prop} {w : World} {S B : Nat} {s : St} (h : IsSr G w S B s) : ∀ k, G k → k < w.heap.size := by obtain ⟨A0, A1, AL, vc, vr, h⟩ := h; exact h.lt
theorem IsSr.ok {G : Nat → Prop} {w : World} {S B : Nat} {s : St} (h : IsSr G w S B s) : StOk s := by obtain ⟨A0, A1, AL, vc, vr, h⟩ := h; exact h.ok
/-- A store and its device. -/
structure Sror (F G : Nat → Prop) (w : World) (S B : Nat) (d : Dev) (s : St) : Prop where
  dev : IsRef F w B d
  st : IsSr G w S B s
  dis : ∀ k, G k → ¬ F k
theorem Sror.below {F G : Nat → Prop} {w w' : World} {S B : Nat} {d : Dev} {s : St} (h : Sror F G w S B d s) (hb : Below w.heap.size w w') : Sror F G w' S B d s := ⟨h.dev.below hb, h.st.below hb, h.dis⟩
theorem Sror.frm {F G H : Nat → Prop} {w w' : World} {S B : Nat} {d : Dev} {s : St} (h : Sror F G w S B d s) (hf : Frm H w w') (h1 : ∀ k, F k → ¬ H k) (h2 : ∀ k, G k → ¬ H k) : Sror F G w' S B d s := ⟨h.dev.frm hf h1, h.st.frm hf h2, h.dis⟩
def SrorOf (F G : Nat → Prop) (w : World) (S B : Nat) (d : Dev) (s : St) (e : Int) (en : Ending) (w' : World) : Prop :=
  en = .returned (.int .i64 e) ∧ Frm (fun k => F k ∨ G k) w w' ∧ ∃ F' G', Sror F' G' w' S B d s ∧ (∀ k, F' k → F k ∨ w.heap.size ≤ k) ∧ ∀ k, G' k → G k ∨ w.heap.size ≤ k
theorem SrorOf.same {F G : Nat → Prop} {w w' : World} {S B : Nat} {d : Dev} {s : St} (h : Sror F G w S B d s) (hb : Below w.heap.size w w') (e : Int) : SrorOf F G w S B d s e (.returned (.int .i64 e)) w' :=
  ⟨rfl, Frm.of_below hb, F, G, h.below hb, fun _ h => .inl h, fun _ h => .inl h⟩
theorem BsG.rnot {G : Nat → Prop} {w : World} {v : Value} {l : List UInt8} (h : BsG G w v l) {S : Nat} {C : Array Value} (hS : w.heap[S]? = some (.cells C 141 (0, 0))) : BsG (fun k => G k ∧ k ≠ S) w v l :=
  ⟨h.1, fun k hk => ⟨h.2 k hk, row_apart hS h.1 (by decide) k hk⟩⟩
theorem RowsG.rnot {G : Nat → Prop} {w : World} {v : Value} {L : List (List UInt8)} (h : RowsG G w v L) {S : Nat} {C : Array Value} (hS : w.heap[S]? = some (.cells C 141 (0, 0))) : RowsG (fun k => G k ∧ k ≠ S) w v L := by
  obtain ⟨vs, h1, h2, h3⟩ := h
  exact ⟨vs, h1, fun k hk => ⟨h2 k hk, row_apart hS h1 (by decide) k hk⟩, fun i u l a b => (h3 i u l a b).rnot hS⟩
theorem rarea_ne {w : World} {A B n S : Nat} {first : Int} {C : Array Value} (h : IsRArea w A B first n) (hS : w.heap[S]? = some (.cells C 141 (0, 0))) : A ≠ S := fun e => by
  have h1 := h.blk
  rw [e, hS] at h1
  cases h1
/-- What of a store its own block does not hold. -/
structure SrRest (G : Nat → Prop) (w : World) (S B A0 A1 AL : Nat) (s : St) (vc vr : Value) : Prop where
  a0 : IsRArea w A0 B 1 s.N
  a1 : IsRArea w A1 B (1 + s.N) s.N
  al : IsRArea w AL B (1 + 2 * s.N) s.L
  check : BsG G w vc s.check
  recs : RowsG G w vr s.recs
theorem SrV.rest {F G : Nat → Prop} {w w' : World} {S B A0 A1 AL : Nat} {s : St} {vc vr : Value} (V : SrV G w S B A0 A1 AL s vc vr) (hf : Frm (fun k => F k ∨ k = S) w w') (dis : ∀ k, G k → ¬ F k) : SrRest G w' S B A0 A1 AL s vc vr := by
  have e : ∀ k, G k ∧ k ≠ S → k < w.heap.size → w'.heap[k]? = w.heap[k]? := fun k hk hl => hf.block k hl (fun h => h.elim (dis k hk.1) hk.2)
  have ea : ∀ k, G k → k ≠ S → w'.heap[k]? = w.heap[k]? := fun k h1 h2 => e k ⟨h1, h2⟩ (V.lt k h1)
  exact ⟨V.a0.same (ea _ V.f0 (rarea_ne V.a0 V.blk)), V.a1.same (ea _ V.f1 (rarea_ne V.a1 V.blk)), V.al.same (ea _ V.fl (rarea_ne V.al V.blk)), ((V.check.rnot V.blk).same e (fun _ h => h)).mono (fun _ h => h.1), (V.recs.rnot V.blk).same e (fun _ h => h.1)⟩
theorem SrRest.same {G : Nat → Prop} {w w' : World} {S B A0 A1 AL : Nat} {s : St} {vc vr : Value} (h : SrRest G w S B A0 A1 AL s vc vr) (e : ∀ k, k < w.heap.size → w'.heap[k]? = w.heap[k]?) : SrRest G w' S B A0 A1 AL s vc vr :=
  ⟨h.a0.same (e _ h.a0.lt), h.a1.same (e _ h.a1.lt), h.al.same (e _ h.al.lt), h.check.same (fun k _ hl => e k hl) (fun _ h => h), h.recs.same (fun k _ hl => e k hl) (fun _ h => h)⟩
end Go.Proofs.Ytopemjbakpahfaa
/-
  The reference's store: Room, a number of four bytes written and read, the head's bytes. No condition but that the numbers are small.
-/
namespace Go.Proofs.Ytopemjbakpahfaa
open Go.RowKit Disk Jour Crc Slot
set_option linter.unusedSimpArgs false
set_option linter.unusedVariables false
theorem rroom_any {G : Nat → Prop} {w : World} {S B : Nat} {s : St} (h : IsSr G w S B s) : Calls Try.prog 99 #[.pointer (some ⟨S, 0, none⟩)] w fun en w' => en = .returned (.int .i64 s.room) ∧ Below w.heap.size w w' := by
  obtain ⟨A0, A1, AL, vc, vr, V⟩ := h
  have c3 : w.cell? ⟨S, 3, none⟩ = some (.pointer (some ⟨AL, 0, none⟩)) := Joins.cell_of_block V.blk 3
  have c6 : w.cell? ⟨S, 6, none⟩ = some (.int .i64 (s.h.used : Int)) := Joins.cell_of_block V.blk 6
  have h1 := V.ok.used
  have h2 := V.ok.k
  have hR : Hid (s.room = 32 * (s.L : Int) - (s.h.used : Int)) := rfl
  have hs : IntKind.i64.wrap (32 * (s.L : Int) - (s.h.used : Int)) = 32 * (s.L : Int) - (s.h.used : Int) := by rw [IntKind.wrap_i64]; omega
  go_enter Try.func99, Try.ntmps99
  go_wp2_with fail
  go_quiet ((go_at_call 58; exact Calls.quiet_of_same ((rsize_any (V.al.below (below_drewN (Below.refl _ _) _))).mono (fun _ _ h => ⟨h.1, h.2.symm⟩))))
  go_wp2
  go_ret
  exact ⟨ret_int hR.out.symm, below_drewN (Below.refl _ _) _⟩
theorem be4v (m : Nat) (hm : m < 4294967296) : (be 4 m).map byteV = [.int .u8 ((m : Int) / 16777216), .int .u8 ((m : Int) / 65536 % 256), .int .u8 ((m : Int) / 256 % 256), .int .u8 ((m : Int) % 256)] := by
  rw [be4]
  have f : ∀ k : Nat, byteV (UInt8.ofNat k) = .int .u8 ((k : Int) % 256) := fun k => by
    unfold byteV
    rw [UInt8.toNat_ofNat']
    simp
  simp only [List.map_cons, List.map_nil, f]
  have e : ((m / 16777216 : Nat) : Int) % 256 = (m : Int) / 16777216 := by omega
  rw [e]
  simp
theorem grown_alloc {w w' : World} {X : Obj} {row : Option Nat} (g : (w.alloc X).grownBy w' row) : w.grownBy w' row :=
  ⟨g.os, g.tape, g.output, Nat.le_trans (by simp) g.size, fun k hk hr => (g.block k (by simp; omega) hr).trans (Below.heap_alloc w X k hk)⟩
theorem four_any (l : List UInt8) (m : Nat) (hm : m < 4294967296) (w : World) (base : Nat) (v : Value) (hl : l.length ≤ 1000) (ho : w.ownsRow base 5 1 v l.length (l.map byteV)) (hb : base ≤ w.heap.size) :
    Calls Try.prog 115 #[v, .int .i64 (m : Int)] w fun en w' => ∃ v', en = .returned v' ∧ w'.ownsRow base 5 1 v' (l ++ be 4 m).length ((l ++ be 4 m).map byteV) ∧ w.grownBy w' v.ownBlock := by
  have hmi : (m : Int) < 4294967296 := by omega
  have hm0 : (0 : Int) ≤ (m : Int) := by omega
  have HO := Lib.hid ho
  have B4 := Lib.hid (be4v m hm)
  clear ho
  go_enter Try.func115, Try.ntmps115
  go_wp2_with (at_builtin; refine app_bytes rfl (.tmp 5) (.tmp 17) rfl base v l (be 4 m) 4 rfl (HO.out.alloc _) (some ⟨w.heap.size, 0, none⟩) (by rw [be_length]; rfl) (fun e => by cases e) (RB.lit w (be 4 m) _ _ _ rfl (by rw [B4.out])) (by rw [be_length]; omega) (by simp; omega) ?_; intro v' w' o' b' g')
  go_ret
  exact ⟨v', rfl, o', grown_alloc g'⟩
/-- Writes what is told of a head. -/
structure RHd (w : World) (S : Nat) (C : Array Value) (h : Hd) : Prop where
  blk : w.heap[S]? = some (.cells C 141 (0, 0))
  c4 : C[4]? = some (.int .i64 (h.slot : Int))
  c5 : C[5]? = some (.int .i64 (h.long : Int))
  c6 : C[6]? = some (.int .i64 (h.used : Int))
  c7 : C[7]? = some (.int .i64 (h.turn : Int))
set_option maxRecDepth 100000 in
set_option maxHeartbeats 4000000 in
theorem rhbytes_any {w : World} {S : Nat} {C : Array Value} {h : Hd} (hR : RHd w S C h) (h0 : h.slot < 2) (h1 : h.long < 4294967296) (h2 : h.used < 4294967296) (h3 : h.turn < 4294967296) :
    Calls Try.prog 113 #[.pointer (some ⟨S, 0, none⟩)] w fun en w' => ∃ v, en = .returned v ∧ w'.ownsRow w.heap.size 5 1 v 19 ((hbytes h).map byteV) ∧ Below w.heap.size w w' := by
  have HR := Lib.hid hR
  have hSl := (Array.getElem?_eq_some_iff.1 hR.blk).1
  have hsi : (h.slot : Int) < 2 := by omega
  have hs0 : (0 : Int) ≤ (h.slot : Int) := by omega
  have H2 : Hid (h.used < 4294967296) := h2
  have H3 : Hid (h.turn < 4294967296) := h3
  obtain ⟨S0, hS0⟩ : ∃ S0 : World → Prop, S0 = fun w' => w'.heap[S]? = some (.cells C 141 (0, 0)) := ⟨_, rfl⟩
  have hSS : Hid (∀ w', S0 w' → w'.cell? ⟨S, 4, none⟩ = some (.int .i64 (h.slot : Int)) ∧ w'.cell? ⟨S, 5, none⟩ = some (.int .i64 (h.long : Int)) ∧ w'.cell? ⟨S, 6, none⟩ = some (.int .i64 (h.used : Int)) ∧ w'.cell? ⟨S, 7, none⟩ = some (.int .i64 (h.turn : Int))) := fun w' hh => by
    rw [hS0] at hh
    exact ⟨(cell_of_row _ _ 4 _ 141 (0, 0) hh).trans HR.out.c4, (cell_of_row _ _ 5 _ 141 (0, 0) hh).trans HR.out.c5, (cell_of_row _ _ 6 _ 141 (0, 0) hh).trans HR.out.c6, (cell_of_row _ _ 7 _ 141 (0, 0) hh).trans HR.out.c7⟩
  have SB : Hid (∀ w', Below w.heap.size w w' → S0 w') := fun w' hb => by rw [hS0]; exact (hb.block S hSl).trans HR.out.blk
  have s0 : S0 w.drew := SB.out _ (Below.refl _ w).drew
  have b5 : Hid (Below w.heap.size w (w.drew.alloc (.cells #[.int .u8 (h.slot : Int)] 5))) := (Below.refl _ w).drew.alloc (Nat.le_refl _) _
  have o5 : (w.drew.alloc (.cells #[.int .u8 (h.slot : Int)] 5)).ownsRow w.heap.size 5 1 (.slice (some ⟨w.heap.size, 0, none⟩) 1 1) 1 ([UInt8.ofNat h.slot].map byteV) := owns_bytes w.drew [UInt8.ofNat h.slot] _ w.heap.size w.heap.size rfl (Nat.le_refl _) (by
    have e : ((UInt8.ofNat h.slot).toNat : Int) = (h.slot : Int) := by rw [UInt8.toNat_ofNat']; omega
    simp only [List.map_cons, List.map_nil, byteV, e]) (by unfold maxLen; simp)
  have F1 := Lib.hid (four_any [UInt8.ofNat h.slot] h.long h1 _ w.heap.size _ (by simp) o5 b5.out.size)
  clear hS0 hR o5 h1 h2 h3
  go_enter Try.func113, Try.ntmps113
  go_wp2_with fail
  refine wp_region_held (S := S0) (by kernel_rfl) ?_
  change wpAnyH _ _ _ _ _ _ _ _ (World.drew _)
  refine wpAnyH_take (i := 0) (v := .pointer (some ⟨S, 0, none⟩)) rfl (by kernel_rfl) (by kernel_rfl) (by kernel_rfl) (fun _ _ _ h => h) (.inl ⟨by rfl, by intro w hw; go_simp⟩) s0 ?_
  try simp only [Act.put, List.getElem_toArray, List.getElem_cons_zero, List.getElem_cons_succ, List.setIfInBounds_toArray, List.set_cons_zero, List.set_cons_succ]
  refine wpAnyH_take (i := 1) (v := .pointer (some ⟨S, 0, none⟩)) rfl (by kernel_rfl) (by kernel_rfl) (by kernel_rfl) (fun _ _ _ h => h) (.inl ⟨by rfl, by intro w hw; go_simp⟩) s0 ?_
  try simp only [Act.put, List.getElem_toArray, List.getElem_cons_zero, List.getElem_cons_succ, List.setIfInBounds_toArray, List.set_cons_zero, List.set_cons_succ]
  refine wpAnyH_take (i := 2) (v := .pointer (some ⟨S, 4, none⟩)) rfl (by kernel_rfl) (by kernel_rfl) (by kernel_rfl) (fun _ _ _ h => h) (.inl ⟨by rfl, by intro w hw; go_simp⟩) s0 ?_
  try simp only [Act.put, List.getElem_toArray, List.getElem_cons_zero, List.getElem_cons_succ, List.setIfInBounds_toArray, List.set_cons_zero, List.set_cons_succ]
  refine wpAnyH_take (i := 3) (v := .int .i64 (h.slot : Int)) rfl (by kernel_rfl) (by kernel_rfl) (by kernel_rfl) (fun _ _ _ h => h) (.inl ⟨by rfl, by intro w hw; have h := hSS.out w hw; obtain ⟨q0, q1, q2, q3⟩ := h; go_simp⟩) s0 ?_
  try simp only [Act.put, List.getElem_toArray, List.getElem_cons_zero, List.getElem_cons_succ, List.setIfInBounds_toArray, List.set_cons_zero, List.set_cons_succ]
  refine wpAnyH_take (i := 4) (v := .int .u8 (h.slot : Int)) rfl (by kernel_rfl) (by kernel_rfl) (by kernel_rfl) (fun _ _ _ h => h) (.inl ⟨by rfl, by intro w hw; go_simp; try (rw [IntKind.wrap_u8]; omega)⟩) s0 ?_
  try simp only [Act.put, List.getElem_toArray, List.getElem_cons_zero, List.getElem_cons_succ, List.setIfInBounds_toArray, List.set_cons_zero, List.set_cons_succ]
  refine wpAnyH_take (i := 6) (v := .pointer (some ⟨S, 0, none⟩)) rfl (by kernel_rfl) (by kernel_rfl) (by kernel_rfl) (fun _ _ _ h => h) (.inl ⟨by rfl, by intro w hw; go_simp⟩) s0 ?_
  try simp only [Act.put, List.getElem_toArray, List.getElem_cons_zero, List.getElem_cons_succ, List.setIfInBounds_toArray, List.set_cons_zero, List.set_cons_succ]
  refine wpAnyH_take (i := 7) (v := .pointer (some ⟨S, 0, none⟩)) rfl (by kernel_rfl) (by kernel_rfl) (by kernel_rfl) (fun _ _ _ h => h) (.inl ⟨by rfl, by intro w hw; go_simp⟩) s0 ?_
  try simp only [Act.put, List.getElem_toArray, List.getElem_cons_zero, List.getElem_cons_succ, List.setIfInBounds_toArray, List.set_cons_zero, List.set_cons_succ]
  refine wpAnyH_take (i := 8) (v := .pointer (some ⟨S, 5, none⟩)) rfl (by kernel_rfl) (by kernel_rfl) (by kernel_rfl) (fun _ _ _ h => h) (.inl ⟨by rfl, by intro w hw; go_simp⟩) s0 ?_
  try simp only [Act.put, List.getElem_toArray, List.getElem_cons_zero, List.getElem_cons_succ, List.setIfInBounds_toArray, List.set_cons_zero, List.set_cons_succ]
  refine wpAnyH_take (i := 9) (v := .int .i64 (h.long : Int)) rfl (by kernel_rfl) (by kernel_rfl) (by kernel_rfl) (fun _ _ _ h => h) (.inl ⟨by rfl, by intro w hw; have h := hSS.out w hw; obtain ⟨q0, q1, q2, q3⟩ := h; go_simp⟩) s0 ?_
  try simp only [Act.put, List.getElem_toArray, List.getElem_cons_zero, List.getElem_cons_succ, List.setIfInBounds_toArray, List.set_cons_zero, List.set_cons_succ]
  refine wpAnyH_take (i := 11) (v := .pointer (some ⟨S, 0, none⟩)) rfl (by kernel_rfl) (by kernel_rfl) (by kernel_rfl) (fun _ _ _ h => h) (.inl ⟨by rfl, by intro w hw; go_simp⟩) s0 ?_
  try simp only [Act.put, List.getElem_toArray, List.getElem_cons_zero, List.getElem_cons_succ, List.setIfInBounds_toArray, List.set_cons_zero, List.set_cons_succ]
  refine wpAnyH_take (i := 12) (v := .pointer (some ⟨S, 0, none⟩)) rfl (by kernel_rfl) (by kernel_rfl) (by kernel_rfl) (fun _ _ _ h => h) (.inl ⟨by rfl, by intro w hw; go_simp⟩) s0 ?_
  try simp only [Act.put, List.getElem_toArray, List.getElem_cons_zero, List.getElem_cons_succ, List.setIfInBounds_toArray, List.set_cons_zero, List.set_cons_succ]
  refine wpAnyH_take (i := 13) (v := .pointer (some ⟨S, 6, none⟩)) rfl (by kernel_rfl) (by kernel_rfl) (by kernel_rfl) (fun _ _ _ h => h) (.inl ⟨by rfl, by intro w hw; go_simp⟩) s0 ?_
  try simp only [Act.put, List.getElem_toArray, List.getElem_cons_zero, List.getElem_cons_succ, List.setIfInBounds_toArray, List.set_cons_zero, List.set_cons_succ]
  refine wpAnyH_take (i := 14) (v := .int .i64 (h.used : Int)) rfl (by kernel_rfl) (by kernel_rfl) (by kernel_rfl) (fun _ _ _ h => h) (.inl ⟨by rfl, by intro w hw; have h := hSS.out w hw; obtain ⟨q0, q1, q2, q3⟩ := h; go_simp⟩) s0 ?_
  try simp only [Act.put, List.getElem_toArray, List.getElem_cons_zero, List.getElem_cons_succ, List.setIfInBounds_toArray, List.set_cons_zero, List.set_cons_succ]
  refine wpAnyH_take (i := 16) (v := .pointer (some ⟨S, 0, none⟩)) rfl (by kernel_rfl) (by kernel_rfl) (by kernel_rfl) (fun _ _ _ h => h) (.inl ⟨by rfl, by intro w hw; go_simp⟩) s0 ?_
  try simp only [Act.put, List.getElem_toArray, List.getElem_cons_zero, List.getElem_cons_succ, List.setIfInBounds_toArray, List.set_cons_zero, List.set_cons_succ]
  refine wpAnyH_take (i := 17) (v := .pointer (some ⟨S, 0, none⟩)) rfl (by kernel_rfl) (by kernel_rfl) (by kernel_rfl) (fun _ _ _ h => h) (.inl ⟨by rfl, by intro w hw; go_simp⟩) s0 ?_
  try simp only [Act.put, List.getElem_toArray, List.getElem_cons_zero, List.getElem_cons_succ, List.setIfInBounds_toArray, List.set_cons_zero, List.set_cons_succ]
  refine wpAnyH_take (i := 18) (v := .pointer (some ⟨S, 7, none⟩)) rfl (by kernel_rfl) (by kernel_rfl) (by kernel_rfl) (fun _ _ _ h => h) (.inl ⟨by rfl, by intro w hw; go_simp⟩) s0 ?_
  try simp only [Act.put, List.getElem_toArray, List.getElem_cons_zero, List.getElem_cons_succ, List.setIfInBounds_toArray, List.set_cons_zero, List.set_cons_succ]
  refine wpAnyH_take (i := 19) (v := .int .i64 (h.turn : Int)) rfl (by kernel_rfl) (by kernel_rfl) (by kernel_rfl) (fun _ _ _ h => h) (.inl ⟨by rfl, by intro w hw; have h := hSS.out w hw; obtain ⟨q0, q1, q2, q3⟩ := h; go_simp⟩) s0 ?_
  try simp only [Act.put, List.getElem_toArray, List.getElem_cons_zero, List.getElem_cons_succ, List.setIfInBounds_toArray, List.set_cons_zero, List.set_cons_succ]
  refine wpAnyH_one (i := 5) (by kernel_rfl) rfl (by rfl) (fun Kc hK => ?_)
  go_simp
  refine hK _ _ (SB.out _ b5.out) ?_
  clear hK Kc
  try simp only [Act.put, List.getElem_toArray, List.getElem_cons_zero, List.getElem_cons_succ, List.setIfInBounds_toArray, List.set_cons_zero, List.set_cons_succ]
  refine wpAnyH_one (i := 10) (by kernel_rfl) rfl (by rfl) (fun Kc hK => ?_)
  go_simp
  refine (F1.out.mono ?_)
  rintro en w1 ⟨v1, rfl, o1, g1⟩
  have b1 := Lib.hid (b5.out.grown g1 (by simp) (fun j hj => by cases hj; exact Nat.le_refl _))
  have O1 := Lib.hid o1
  clear o1 g1
  go_simp
  refine hK _ _ (SB.out _ b1.out) ?_
  clear hK Kc
  try simp only [Act.put, List.getElem_toArray, List.getElem_cons_zero, List.getElem_cons_succ, List.setIfInBounds_toArray, List.set_cons_zero, List.set_cons_succ]
  refine wpAnyH_one (i := 15) (by kernel_rfl) rfl (by rfl) (fun Kc hK => ?_)
  go_simp
  refine ((four_any _ h.used H2.out w1 w.heap.size v1 (by simp [be_length]) O1.out b1.out.size).mono ?_)
  rintro en w2 ⟨v2, rfl, o2, g2⟩
  have b2 := Lib.hid (b1.out.grown g2 b1.out.size (fun j hj => (O1.out.lt j hj).1))
  have O2 := Lib.hid o2
  clear o2 g2
  go_simp
  refine hK _ _ (SB.out _ b2.out) ?_
  clear hK Kc
  try simp only [Act.put, List.getElem_toArray, List.getElem_cons_zero, List.getElem_cons_succ, List.setIfInBounds_toArray, List.set_cons_zero, List.set_cons_succ]
  refine wpAnyH_one (i := 20) (by kernel_rfl) rfl (by rfl) (fun Kc hK => ?_)
  go_simp
  refine ((four_any _ h.turn H3.out w2 w.heap.size v2 (by simp [be_length]) O2.out b2.out.size).mono ?_)
  rintro en w3 ⟨v3, rfl, o3, g3⟩
  have b3 := Lib.hid (b2.out.grown g3 b2.out.size (fun j hj => (O2.out.lt j hj).1))
  have O3 := Lib.hid o3
  clear o3 g3
  go_simp
  refine hK _ _ (SB.out _ b3.out) ?_
  clear hK Kc
  try simp only [Act.put, List.getElem_toArray, List.getElem_cons_zero, List.getElem_cons_succ, List.setIfInBounds_toArray, List.set_cons_zero, List.set_cons_succ]
  refine wpAnyH_take (i := 21) (v := v3) rfl (by kernel_rfl) (by kernel_rfl) (by kernel_rfl) (fun _ _ _ h => h) (.inl ⟨by rfl, by intro w hw; go_simp⟩) (SB.out _ b3.out) ?_
  try simp only [Act.put, List.getElem_toArray, List.getElem_cons_zero, List.getElem_cons_succ, List.setIfInBounds_toArray, List.set_cons_zero, List.set_cons_succ]
  refine wpAnyH_done (by kernel_rfl) ?_ _
  have hl13 : (hraw h).length = 13 := hraw_length h
  have e13 : [UInt8.ofNat h.slot] ++ be 4 h.long ++ be 4 h.used ++ be 4 h.turn = hraw h := by unfold hraw; simp
  have o3 := O3.out
  rw [e13] at o3
  obtain ⟨a3, c3, rfl, lc3, n3, r3⟩ := RB.of_owns o3
  have FR := Lib.hid (rframe_any (hraw h) a3 c3 w3 (by omega) lc3 n3 r3)
  have HF : Hid ((frame (hraw h)).length = 19) := hbytes_length h
  have H13 : Hid ((hraw h).length = 13) := hl13
  clear s0 hSS SB b5 F1 hl13 e13 o3 r3 lc3 n3 O1 O2 O3 HR
  go_wp2_with fail
  refine FR.out.mono ?_
  rintro en w4 ⟨v4, rfl, o4, b4⟩
  have B4 := Lib.hid (b3.out.trans (b4.mono b3.out.size))
  have O4 := Lib.hid (ownsRow_base o4 b3.out.size)
  clear o4 b4 FR
  go_wp2_with fail
  go_ret
  refine ⟨v4, rfl, ?_, B4.out⟩
  have h := O4.out
  rw [HF.out] at h
  exact h
end Go.Proofs.Ytopemjbakpahfaa
/-
  The reference's reading of a number of four bytes. No condition but that the lengths are small.
-/
namespace Go.Proofs.Ytopemjbakpahfaa
open Go.RowKit Disk Jour Crc Slot
set_option linter.unusedSimpArgs false
set_option linter.unusedVariables false
set_option maxHeartbeats 1000000 in
theorem rnumber_any (x : List UInt8) (p : Nat) (g cap : Nat) (w : World) (hp : p + 4 ≤ 13) (hx : x.length = 13) (hr : RB w (some ⟨g, 0, none⟩) x) :
    Calls Try.prog 98 #[.slice (some ⟨g, 0, none⟩) 13 cap, .int .i64 (p : Int)] w fun en w' => en = .returned (.int .i64 (num ((x.drop p).take 4) : Int)) ∧ w = w' := by
  have HR := Lib.hid hr
  have hl : ((x.drop p).take 4).length = 4 := by simp; omega
  have HG : Hid (∀ k, k < 4 → ((x.drop p).take 4).getD k 0 = x.getD (p + k) 0) := fun k hk => by simp [List.getD, hk]
  generalize hld : (x.drop p).take 4 = l at hl HG ⊢
  clear hld hr
  have hp0 : (0 : Int) ≤ (p : Int) := by omega
  have hp9 : (p : Int) ≤ 9 := by omega
  have HLL := Lib.hid hl
  clear hl
  go_enter Try.func98, Try.ntmps98
  go_wp2_with fail
  go_loop [5, 6] (fun v i => ∃ k : Nat, i = .int .i64 k ∧ k ≤ 4 ∧ v = .int .i64 (num (l.take k) : Int)) (fun _ i => 4 - (intOf i).toNat)
  case atStart => exact ⟨0, rfl, by omega, rfl⟩
  case round =>
    obtain ⟨k, rfl, hk, rfl⟩ := hrel
    by_cases hlt : k < 4
    · have hc := rb_at HR.out (p + k) (by omega)
      rw [← HG.out k hlt, Nat.zero_add] at hc
      have hs : Hid (num (l.take (k + 1)) = 256 * num (l.take k) + (l.getD k 0).toNat) := by rw [take_snoc l k 0 (by rw [HLL.out]; exact hlt), num_snoc]; rfl
      have hn : num (l.take k) < 16777216 := by
        have := num_lt (l.take k)
        have h3 : (l.take k).length ≤ 3 := by simp; omega
        have h4 : 256 ^ (l.take k).length ≤ 256 ^ 3 := Nat.pow_le_pow_right (by omega) h3
        omega
      generalize l.getD k 0 = b at hc hs
      generalize num (l.take k) = y at hs hn
      unfold byteV at hc
      have hb := UInt8.toNat_lt b
      have hb0 : (b.toNat : Int) < 256 := by omega
      have hb1 : (0 : Int) ≤ (b.toNat : Int) := by omega
      have hlt' : (k : Int) < 4 := by omega
      have h0 : (0 : Int) ≤ (k : Int) := by omega
      have hn' : (y : Int) < 16777216 := by omega
      have hn0 : (0 : Int) ≤ (y : Int) := by omega
      have hpk : (p : Int) + (k : Int) < 13 := by omega
      have hpk0 : (0 : Int) ≤ (p : Int) + (k : Int) := by omega
      have hpt : ((p : Int) + (k : Int)).toNat = p + k := by omega
      go_wp2
      go_round
      case rel => exact ⟨k + 1, rfl, by omega, by rw [hs.out]; simp⟩
      case measure => simp [intOf]; omega
    · have hkl : k = 4 := by omega
      have hs : Hid (num l = num (l.take k)) := by rw [hkl, List.take_of_length_le (by rw [HLL.out]; exact Nat.le_refl _)]; rfl
      have hlt' : ¬ (k : Int) < 4 := by omega
      clear hkl
      go_wp2
      go_ret
      exact ⟨by rw [hs.out]; rfl, rfl⟩
end Go.Proofs.Ytopemjbakpahfaa
/-
  The reference's safe writing: the walk. No condition but that the numbers are small.
-/
namespace Go.Proofs.Ytopemjbakpahfaa
open Go.RowKit Disk Jour Crc Slot
set_option linter.unusedSimpArgs false
set_option linter.unusedVariables false
/-- The device, behind some calls; the world but for it. -/
def RJ (F : Nat → Prop) (w1 : World) (B : Nat) (d : Dev) (W : World) : Prop := Frm F w1 W ∧ ∃ G, IsRef G W B d ∧ ∀ k, G k → F k ∨ w1.heap.size ≤ k
theorem RJ.start {F : Nat → Prop} {w : World} {B : Nat} {d : Dev} (h : IsRef F w B d) : RJ F w B d w := ⟨Frm.refl _ _, F, h, fun k hk => .inl hk⟩
theorem RJ.below {F : Nat → Prop} {w1 W W' : World} {B : Nat} {d : Dev} (h : RJ F w1 B d W) (hb : Below W.heap.size W W') : RJ F w1 B d W' := by
  obtain ⟨h1, G, h2, h3⟩ := h
  exact ⟨h1.trans (Frm.of_below (F := F) hb) (fun k hk => .inl hk), G, h2.below hb, h3⟩
theorem RJ.blk {F : Nat → Prop} {w1 W : World} {B : Nat} {d : Dev} (h : RJ F w1 B d W) {k : Nat} {o : Obj} (ho : w1.heap[k]? = some o) (hk : ¬ F k) : W.heap[k]? = some o :=
  (h.1.block k (Array.getElem?_eq_some_iff.1 ho).1 hk).trans ho
theorem RJ.call {F : Nat → Prop} {w1 W : World} {B : Nat} {d e : Dev} {f : FuncId} {args : Array Value} {v : Value} (h : RJ F w1 B d W)
    (hc : ∀ G, IsRef G W B d → (∀ k, G k → F k ∨ w1.heap.size ≤ k) → Calls Try.prog f args W (RefOf G W B e v)) : Calls Try.prog f args W (fun en W' => en = .returned v ∧ RJ F w1 B e W') := by
  obtain ⟨h1, G, h2, h3⟩ := h
  refine (hc G h2 h3).mono ?_
  rintro en W' ⟨he, hf, hd⟩
  exact ⟨he, h1.trans hf h3, _, hd, fun k hk => hk.elim (h3 k) (fun h => .inr (Nat.le_trans h1.size h.1))⟩
theorem RJ.next {F G : Nat → Prop} {w1 W W' : World} {B : Nat} {e : Dev} {v : Value} {en : Ending} (h1 : Frm F w1 W) (h3 : ∀ k, G k → F k ∨ w1.heap.size ≤ k) (h : RefOf G W B e v en W') : en = .returned v ∧ RJ F w1 B e W' := by
  obtain ⟨he, hf, hd⟩ := h
  exact ⟨he, h1.trans hf h3, _, hd, fun k hk => hk.elim (h3 k) (fun h => .inr (Nat.le_trans h1.size h.1))⟩
structure RSafe (F : Nat → Prop) (w : World) (S B A0 A1 AL : Nat) (s s' : St) (vc vr vc' vr' : Value) (d : Dev) (e : Int) (w' : World) : Prop where
  frm : Frm (fun k => F k ∨ k = S) w w'
  dev : ∃ F', IsRef F' w' B d ∧ ∀ k, F' k → F k ∨ w.heap.size ≤ k
  yes : e = 0 → w'.heap[S]? = some (.cells (srcells B A0 A1 AL s' vc' vr') 141 (0, 0))
  no : e ≠ 0 → w'.heap[S]? = some (.cells (srcells B A0 A1 AL { s with broken := true } vc vr) 141 (0, 0))
theorem RJ.post {F : Nat → Prop} {w W1 W W' : World} {S B : Nat} {d : Dev} (h : RJ F W1 B d W) (hb : Below w.heap.size w W1) (hS : S < w.heap.size) (hSF : ¬ F S) (hf : Frm (fun k => k = S) W W') :
    Frm (fun k => F k ∨ k = S) w W' ∧ ∃ F', IsRef F' W' B d ∧ ∀ k, F' k → F k ∨ w.heap.size ≤ k := by
  obtain ⟨h1, G, h2, h3⟩ := h
  have hsz := hb.size
  refine ⟨?_, G, h2.frm hf (fun k hk he => by subst he; rcases h3 k hk with h | h; exact hSF h; omega), fun k hk => (h3 k hk).imp_right (fun h => by omega)⟩
  have f1 : Frm (fun k => F k ∨ k = S) w W1 := Frm.of_below hb
  exact (f1.trans h1 (fun k hk => .inl (.inl hk))).trans hf (fun k hk => .inl (.inr hk))
def set11 (W : World) (S B A0 A1 AL : Nat) (s : St) (vc vr : Value) : World := ((((((((((W.setCell ⟨S, 0, none⟩ (.pointer (some ⟨B, 0, none⟩))).setCell ⟨S, 1, none⟩ (.pointer (some ⟨A0, 0, none⟩))).setCell ⟨S, 2, none⟩ (.pointer (some ⟨A1, 0, none⟩))).setCell ⟨S, 3, none⟩ (.pointer (some ⟨AL, 0, none⟩))).setCell ⟨S, 4, none⟩ (.int .i64 (s.h.slot : Int))).setCell ⟨S, 5, none⟩ (.int .i64 (s.h.long : Int))).setCell ⟨S, 6, none⟩ (.int .i64 (s.h.used : Int))).setCell ⟨S, 7, none⟩ (.int .i64 (s.h.turn : Int))).setCell ⟨S, 8, none⟩ vc).setCell ⟨S, 9, none⟩ vr).setCell ⟨S, 10, none⟩ (.bool s.broken)
theorem set11_frm (W : World) (S B A0 A1 AL : Nat) (s : St) (vc vr : Value) : Frm (fun k => k = S) W (set11 W S B A0 A1 AL s vc vr) := by
  have f : ∀ (w : World) (o : Nat) (v : Value), Frm (fun k => k = S) w (w.setCell ⟨S, o, none⟩ v) := fun w o v => Frm.setCell w o v rfl
  have t : ∀ {a b c : World}, Frm (fun k => k = S) a b → Frm (fun k => k = S) b c → Frm (fun k => k = S) a c := fun h k => h.trans k (fun _ h => .inl h)
  unfold set11
  exact t (t (t (t (t (t (t (t (t (t (f _ _ _) (f _ _ _)) (f _ _ _)) (f _ _ _)) (f _ _ _)) (f _ _ _)) (f _ _ _)) (f _ _ _)) (f _ _ _)) (f _ _ _)) (f _ _ _)
theorem set11_blk {W : World} {S B A0 A1 AL : Nat} {s0 s : St} {v0 v1 vc vr : Value} (h : W.heap[S]? = some (.cells (srcells B A0 A1 AL s0 v0 v1) 141 (0, 0))) : (set11 W S B A0 A1 AL s vc vr).heap[S]? = some (.cells (srcells B A0 A1 AL s vc vr) 141 (0, 0)) := by
  unfold set11
  have h1 := Joins.block_setCell (i := 10) (Joins.block_setCell (i := 9) (Joins.block_setCell (i := 8) (Joins.block_setCell (i := 7) (Joins.block_setCell (i := 6) (Joins.block_setCell (i := 5) (Joins.block_setCell (i := 4) (Joins.block_setCell (i := 3) (Joins.block_setCell (i := 2) (Joins.block_setCell (i := 1) (Joins.block_setCell (i := 0) h (.pointer (some ⟨B, 0, none⟩))) (.pointer (some ⟨A0, 0, none⟩))) (.pointer (some ⟨A1, 0, none⟩))) (.pointer (some ⟨AL, 0, none⟩))) (.int .i64 (s.h.slot : Int))) (.int .i64 (s.h.long : Int))) (.int .i64 (s.h.used : Int))) (.int .i64 (s.h.turn : Int))) vc) vr) (.bool s.broken)
  simp only [srcells, List.setIfInBounds_toArray, List.set_cons_zero, List.set_cons_succ] at h1 ⊢
  exact h1
set_option maxRecDepth 100000 in
set_option maxHeartbeats 8000000 in
theorem rsafe_any {F G : Nat → Prop} {w : World} {S B A0 A1 AL : Nat} {d : Dev} {s s' : St} {vc vr : Value} {ac ar : Option Addr} {nc cc nr cr : Nat} (hd : IsRef F w B d) (V : SrV G w S B A0 A1 AL s vc vr) (dis : ∀ k, G k → ¬ F k) {A n p : Nat} {first : Int} (hA : IsRArea w A B first n) (hAG : G A)
    {b : List UInt8} {g off cap : Nat} (hlc : b.length ≤ cap) (hb : RB w (some ⟨g, off, none⟩) b) (hg : ¬ F g) (hgl : g < w.heap.size) (h0 : s'.h.slot < 2) (h1 : s'.h.long < 4294967296) (h2 : s'.h.used < 4294967296) (h3 : s'.h.turn < 4294967296)
    (hp : d.pend.length + b.length ≤ 90000) (hw : d.writes + b.length ≤ 90000) (hy : d.syncs ≤ 90000) (hf : n = 0 ∨ (0 ≤ first ∧ first ≤ 1024)) :
    Calls Try.prog 100 #[.pointer (some ⟨S, 0, none⟩), .pointer (some ⟨A, 0, none⟩), .int .i64 (p : Int), .slice (some ⟨g, off, none⟩) b.length cap, .agg #[.pointer (some ⟨B, 0, none⟩), .pointer (some ⟨A0, 0, none⟩), .pointer (some ⟨A1, 0, none⟩), .pointer (some ⟨AL, 0, none⟩), .int .i64 (s'.h.slot : Int), .int .i64 (s'.h.long : Int), .int .i64 (s'.h.used : Int), .int .i64 (s'.h.turn : Int), .slice ac nc cc, .slice ar nr cr, .bool s'.broken]] w
      (fun en w' => en = .returned (.int .i64 (ssafe d first.toNat n p b s'.h).2) ∧ RSafe F w S B A0 A1 AL s s' vc vr (.slice ac nc cc) (.slice ar nr cr) (ssafe d first.toNat n p b s'.h).1 (ssafe d first.toNat n p b s'.h).2 w') := by
  have hSl := V.lt S V.fs
  have hSF := dis S V.fs
  have hl := hd.lt
  have nf : ∀ k, w.heap.size ≤ k → ¬ F k := fun k hk hf => by have := hl k hf; omega
  obtain ⟨W1, hW1⟩ : ∃ W1, w.alloc (.cells (srcells B A0 A1 AL s' (.slice ac nc cc) (.slice ar nr cr)) 141) = W1 := ⟨_, rfl⟩
  have hB1 : Below w.heap.size w W1 := by rw [← hW1]; exact below_alloc w _
  have hX1 : W1.heap[w.heap.size]? = some (.cells (srcells B A0 A1 AL s' (.slice ac nc cc) (.slice ar nr cr)) 141 (0, 0)) := by rw [← hW1]; exact heap_alloc_new w _
  have hS1 : W1.heap[S]? = some (.cells (srcells B A0 A1 AL s vc vr) 141 (0, 0)) := (hB1.block S hSl).trans V.blk
  obtain ⟨k1, k2, k3, k4⟩ := jput_bound d first.toNat n p b
  obtain ⟨l1, l2, l3, l4⟩ := sync_bound (jput d first.toNat n p b).1
  obtain ⟨m1, m2, m3, m4⟩ := write_bound (jput d first.toNat n p b).1.sync.1 0 (hbytes s'.h)
  have XX : Hid (∀ e W, RJ F W1 B e W → W.heap[S]? = some (.cells (srcells B A0 A1 AL s vc vr) 141 (0, 0)) ∧ W.heap[w.heap.size]? = some (.cells (srcells B A0 A1 AL s' (.slice ac nc cc) (.slice ar nr cr)) 141 (0, 0))) := fun e W hj => ⟨hj.blk hS1 hSF, hj.blk hX1 (nf _ (Nat.le_refl _))⟩
  have PUT : Hid (Calls Try.prog 59 #[.pointer (some ⟨A, 0, none⟩), .int .i64 (p : Int), .slice (some ⟨g, off, none⟩) b.length cap] W1 (fun en W' => en = .returned (.int .i64 (jput d first.toNat n p b).2) ∧ RJ F W1 B (jput d first.toNat n p b).1 W')) := (RJ.start (hd.below hB1)).call (fun G' hG hGF => rput_any hG (hA.below hB1) (fun hx => (hGF A hx).elim (dis A hAG) (fun h => by have := hA.lt; have := hB1.size; omega)) p b _ cap hlc (fun w' hf => RB.frm (hb.below hB1) hf (fun hx => (hGF g hx).elim hg (fun h => by have := hB1.size; omega))) (by omega) (by omega) hf)
  have SY1 : Hid (∀ W, RJ F W1 B (jput d first.toNat n p b).1 W → Calls Try.prog 60 #[.pointer (some ⟨B, 0, none⟩)] W (fun en W' => en = .returned (.int .i64 (jput d first.toNat n p b).1.sync.2) ∧ RJ F W1 B (jput d first.toNat n p b).1.sync.1 W')) := fun W hj => hj.call (fun G' hG _ => rsync_any hG (by omega) (by omega))
  have SY2 : Hid (∀ W, RJ F W1 B ((jput d first.toNat n p b).1.sync.1.write 0 (hbytes s'.h)).1 W → Calls Try.prog 60 #[.pointer (some ⟨B, 0, none⟩)] W (fun en W' => en = .returned (.int .i64 ((jput d first.toNat n p b).1.sync.1.write 0 (hbytes s'.h)).1.sync.2) ∧ RJ F W1 B ((jput d first.toNat n p b).1.sync.1.write 0 (hbytes s'.h)).1.sync.1 W')) := fun W hj => hj.call (fun G' hG _ => rsync_any hG (by omega) (by omega))
  have Q1 : Hid (∀ h : (jput d first.toNat n p b).2 ≠ 0, ssafe d first.toNat n p b s'.h = jput d first.toNat n p b) := fun h => ssafe_1 h
  have Q2 : Hid ((jput d first.toNat n p b).2 = 0 → (jput d first.toNat n p b).1.sync.2 ≠ 0 → ssafe d first.toNat n p b s'.h = (jput d first.toNat n p b).1.sync) := fun h1 h2 => ssafe_2 h1 h2
  have Q3 : Hid ((jput d first.toNat n p b).2 = 0 → (jput d first.toNat n p b).1.sync.2 = 0 → ((jput d first.toNat n p b).1.sync.1.write 0 (hbytes s'.h)).2 ≠ 0 → ssafe d first.toNat n p b s'.h = (jput d first.toNat n p b).1.sync.1.write 0 (hbytes s'.h)) := fun h1 h2 h3 => ssafe_3 h1 h2 h3
  have Q4 : Hid ((jput d first.toNat n p b).2 = 0 → (jput d first.toNat n p b).1.sync.2 = 0 → ((jput d first.toNat n p b).1.sync.1.write 0 (hbytes s'.h)).2 = 0 → ssafe d first.toNat n p b s'.h = ((jput d first.toNat n p b).1.sync.1.write 0 (hbytes s'.h)).1.sync) := fun h1 h2 h3 => ssafe_4 h1 h2 h3
  have WR : Hid (∀ (w2 w3 : World) (g c : Nat), RJ F W1 B (jput d first.toNat n p b).1.sync.1 w2 → Below w2.heap.size w2 w3 → w3.ownsRow w2.heap.size 5 1 (.slice (some ⟨g, 0, none⟩) 19 c) 19 ((hbytes s'.h).map byteV) → Calls Try.prog 81 #[.pointer (some ⟨B, 0, none⟩), .int .i64 0, .slice (some ⟨g, 0, none⟩) 19 c] w3 (fun en W' => en = .returned (.int .i64 ((jput d first.toNat n p b).1.sync.1.write 0 (hbytes s'.h)).2) ∧ RJ F W1 B ((jput d first.toNat n p b).1.sync.1.write 0 (hbytes s'.h)).1 W')) := fun w2 w3 g c hj b3 ho => by
    obtain ⟨hF, G2, hG2, hGF⟩ := hj
    have hgn : ¬ G2 g := fun hx => by have := hG2.lt g hx; have := (ho.lt g rfl).1; omega
    have := rwrite_any (hG2.below b3) 0 (hbytes s'.h) (some ⟨g, 0, none⟩) c (by rw [hbytes_length]; decide) (fun w' hf => RB.frm (rb_mk ho) hf hgn) (by omega) (by omega)
    rw [hbytes_length] at this
    exact this.mono (fun en W' h => RJ.next (hF.trans (Frm.of_below (F := F) b3) (fun k hk => .inl hk)) hGF h)
  have NO : Hid (∀ (e : Dev) (r : Int) (W : World), ssafe d first.toNat n p b s'.h = (e, r) → r ≠ 0 → RJ F W1 B e W → ∀ en, en = Ending.returned (.int .i64 r) → en = .returned (.int .i64 (ssafe d first.toNat n p b s'.h).2) ∧ RSafe F w S B A0 A1 AL s s' vc vr (.slice ac nc cc) (.slice ar nr cr) (ssafe d first.toNat n p b s'.h).1 (ssafe d first.toNat n p b s'.h).2 (W.setCell ⟨S, 10, none⟩ (.bool true))) := fun e r W he hr hj en hen => by
    rw [he]
    obtain ⟨f, F', d1, d2⟩ := hj.post hB1 hSl hSF (Frm.setCell W 10 (.bool true) rfl)
    exact ⟨hen, f, ⟨F', d1, d2⟩, fun h => absurd h hr, fun _ => Joins.block_setCell (hj.blk hS1 hSF) (.bool true)⟩
  have YES : Hid (∀ (e : Dev) (W : World), ssafe d first.toNat n p b s'.h = (e, 0) → RJ F W1 B e W → ∀ en, en = Ending.returned (.int .i64 0) → en = .returned (.int .i64 (ssafe d first.toNat n p b s'.h).2) ∧ RSafe F w S B A0 A1 AL s s' vc vr (.slice ac nc cc) (.slice ar nr cr) (ssafe d first.toNat n p b s'.h).1 (ssafe d first.toNat n p b s'.h).2 (set11 W S B A0 A1 AL s' (.slice ac nc cc) (.slice ar nr cr))) := fun e W he hj en hen => by
    rw [he]
    obtain ⟨f, F', d1, d2⟩ := hj.post hB1 hSl hSF (set11_frm W S B A0 A1 AL s' (.slice ac nc cc) (.slice ar nr cr))
    exact ⟨hen, f, ⟨F', d1, d2⟩, fun _ => set11_blk (hj.blk hS1 hSF), fun h => absurd rfl h⟩
  have RHX : Hid (∀ W, W.heap[w.heap.size]? = some (.cells (srcells B A0 A1 AL s' (.slice ac nc cc) (.slice ar nr cr)) 141 (0, 0)) → Calls Try.prog 113 #[.pointer (some ⟨w.heap.size, 0, none⟩)] W fun en w' => ∃ v, en = .returned v ∧ w'.ownsRow W.heap.size 5 1 v 19 ((hbytes s'.h).map byteV) ∧ Below W.heap.size W w') := fun W hx => rhbytes_any ⟨hx, rfl, rfl, rfl, rfl⟩ h0 h1 h2 h3
  generalize ssafe d first.toNat n p b s'.h = rr at Q1 Q2 Q3 Q4 NO YES ⊢
  generalize jput d first.toNat n p b = r1 at *
  obtain ⟨d1, e1⟩ := r1
  dsimp only at *
  generalize d1.sync = r2 at *
  obtain ⟨d2, e2⟩ := r2
  dsimp only at *
  generalize hbn : hbytes s'.h = hb' at *
  generalize d2.write 0 hb' = r3 at *
  obtain ⟨d3, e3⟩ := r3
  dsimp only at *
  generalize d3.sync = r4 at *
  obtain ⟨d4, e4⟩ := r4
  dsimp only at *
  clear k1 k2 k3 k4 l1 l2 l3 l4 m1 m2 m3 m4 hX1 hS1 hbn V hd hA hb hB1
  go_enter Try.func100, Try.ntmps100
  go_wp2_with fail
  change Calls _ _ _ (w.alloc (.cells (srcells B A0 A1 AL s' (.slice ac nc cc) (.slice ar nr cr)) 141)) _
  rw [hW1]
  clear hW1
  refine PUT.out.mono ?_
  rintro en w1 ⟨rfl, j1⟩
  have J1 := Lib.hid j1
  clear j1 PUT
  by_cases z1 : e1 = 0
  rotate_left
  · skip
    obtain ⟨x1, _⟩ := XX.out _ _ J1.out
    have k10 : w1.cell? ⟨S, 10, none⟩ = some (.bool s.broken) := Joins.cell_of_block x1 10
    have kf10 : w1.frozen? ⟨S, 10, none⟩ = false := Joins.unfrozen_of_block x1 10
    have FIN := Lib.hid (NO.out _ _ w1 (Q1.out z1) z1 J1.out _ rfl)
    have hq1 : ((e1 : Int) != 0) = true := by rw [bne_iff_ne]; exact z1
    have hq2 : ((e1 : Int) == 0) = false := by rw [beq_eq_false_iff_ne]; exact z1
    clear z1 x1 Q1 Q2 Q3 Q4 SY1 SY2 WR YES RHX
    go_wp2_with fail
    go_ret
    exact FIN.out
  subst z1
  obtain ⟨x1, _⟩ := XX.out _ _ J1.out
  have k0 : w1.cell? ⟨S, 0, none⟩ = some (.pointer (some ⟨B, 0, none⟩)) := Joins.cell_of_block x1 0
  clear x1
  go_wp2_with fail
  refine (SY1.out w1 J1.out).mono ?_
  rintro en w2 ⟨rfl, j2⟩
  have J2 := Lib.hid j2
  clear j2 SY1 J1 k0
  by_cases z2 : e2 = 0
  rotate_left
  · skip
    obtain ⟨x1, _⟩ := XX.out _ _ J2.out
    have k10 : w2.cell? ⟨S, 10, none⟩ = some (.bool s.broken) := Joins.cell_of_block x1 10
    have kf10 : w2.frozen? ⟨S, 10, none⟩ = false := Joins.unfrozen_of_block x1 10
    have FIN := Lib.hid (NO.out _ _ w2 (Q2.out (by trivial) z2) z2 J2.out _ rfl)
    have hq1 : ((e2 : Int) != 0) = true := by rw [bne_iff_ne]; exact z2
    have hq2 : ((e2 : Int) == 0) = false := by rw [beq_eq_false_iff_ne]; exact z2
    clear z2 x1 Q1 Q2 Q3 Q4 SY2 WR YES RHX
    go_wp2_with fail
    go_ret
    exact FIN.out
  subst z2
  obtain ⟨S0, hS0⟩ : ∃ S0 : World → Prop, S0 = fun w' => w'.cell? ⟨S, 0, none⟩ = some (.pointer (some ⟨B, 0, none⟩)) := ⟨_, rfl⟩
  have hSS : Hid (∀ w', S0 w' → w'.cell? ⟨S, 0, none⟩ = some (.pointer (some ⟨B, 0, none⟩))) := fun w' hh => by rw [hS0] at hh; exact hh
  have SJ : Hid (∀ e W, RJ F W1 B e W → S0 W) := fun e W hj => by rw [hS0]; exact Joins.cell_of_block (XX.out e W hj).1 0
  have s0 : S0 w2.drew := SJ.out _ _ (J2.out.below (Below.refl _ w2).drew)
  have HB := Lib.hid (RHX.out w2.drew (XX.out _ _ J2.out).2)
  clear hS0 RHX Q1 Q2
  go_wp2_with fail
  refine wp_region_held (S := S0) (by kernel_rfl) ?_
  change wpAnyH _ _ _ _ _ _ _ _ (World.drew _)
  refine wpAnyH_take (i := 0) (v := .pointer (some ⟨S, 0, none⟩)) rfl (by kernel_rfl) (by kernel_rfl) (by kernel_rfl) (fun _ _ _ h => h) (.inl ⟨by rfl, by intro w hw; go_simp⟩) s0 ?_
  try simp only [Act.put, List.getElem_toArray, List.getElem_cons_zero, List.getElem_cons_succ, List.setIfInBounds_toArray, List.set_cons_zero, List.set_cons_succ]
  refine wpAnyH_take (i := 1) (v := .pointer (some ⟨S, 0, none⟩)) rfl (by kernel_rfl) (by kernel_rfl) (by kernel_rfl) (fun _ _ _ h => h) (.inl ⟨by rfl, by intro w hw; go_simp⟩) s0 ?_
  try simp only [Act.put, List.getElem_toArray, List.getElem_cons_zero, List.getElem_cons_succ, List.setIfInBounds_toArray, List.set_cons_zero, List.set_cons_succ]
  refine wpAnyH_take (i := 2) (v := .pointer (some ⟨S, 0, none⟩)) rfl (by kernel_rfl) (by kernel_rfl) (by kernel_rfl) (fun _ _ _ h => h) (.inl ⟨by rfl, by intro w hw; go_simp⟩) s0 ?_
  try simp only [Act.put, List.getElem_toArray, List.getElem_cons_zero, List.getElem_cons_succ, List.setIfInBounds_toArray, List.set_cons_zero, List.set_cons_succ]
  refine wpAnyH_take (i := 3) (v := .pointer (some ⟨B, 0, none⟩)) rfl (by kernel_rfl) (by kernel_rfl) (by kernel_rfl) (fun _ _ _ h => h) (.inl ⟨by rfl, by intro w hw; have q0 := hSS.out w hw; go_simp⟩) s0 ?_
  try simp only [Act.put, List.getElem_toArray, List.getElem_cons_zero, List.getElem_cons_succ, List.setIfInBounds_toArray, List.set_cons_zero, List.set_cons_succ]
  refine wpAnyH_one (i := 4) (by kernel_rfl) rfl (by rfl) (fun Kc hK => ?_)
  go_simp
  refine (HB.out.mono ?_)
  rintro en w3 ⟨v3, rfl, o3, b3⟩
  obtain ⟨g3, c3, rfl⟩ := own_rec o3 (by decide)
  have J3 := Lib.hid ((J2.out.below (Below.refl _ w2).drew).below b3)
  have O3 := Lib.hid o3
  clear o3
  go_simp
  refine hK _ _ (SJ.out _ _ J3.out) ?_
  clear hK Kc
  try simp only [Act.put, List.getElem_toArray, List.getElem_cons_zero, List.getElem_cons_succ, List.setIfInBounds_toArray, List.set_cons_zero, List.set_cons_succ]
  refine wpAnyH_one (i := 5) (by kernel_rfl) rfl (by rfl) (fun Kc hK => ?_)
  go_simp
  refine ((WR.out w2 w3 g3 c3 J2.out ((Below.refl _ w2).drew.trans b3) O3.out).mono ?_)
  rintro en w4 ⟨rfl, h4⟩
  go_simp
  refine hK _ _ (SJ.out _ _ h4) ?_
  clear hK Kc
  try simp only [Act.put, List.getElem_toArray, List.getElem_cons_zero, List.getElem_cons_succ, List.setIfInBounds_toArray, List.set_cons_zero, List.set_cons_succ]
  refine wpAnyH_take (i := 6) (v := .int .i64 e3) rfl (by kernel_rfl) (by kernel_rfl) (by kernel_rfl) (fun _ _ _ h => h) (.inl ⟨by rfl, by intro w hw; go_simp⟩) (SJ.out _ _ h4) ?_
  try simp only [Act.put, List.getElem_toArray, List.getElem_cons_zero, List.getElem_cons_succ, List.setIfInBounds_toArray, List.set_cons_zero, List.set_cons_succ]
  refine wpAnyH_done (by kernel_rfl) ?_ _
  have J4 := Lib.hid h4
  clear h4 s0 hSS SJ HB O3 J3 b3 J2 WR
  by_cases z3 : e3 = 0
  rotate_left
  · skip
    obtain ⟨x1, _⟩ := XX.out _ _ J4.out
    have k10 : w4.cell? ⟨S, 10, none⟩ = some (.bool s.broken) := Joins.cell_of_block x1 10
    have kf10 : w4.frozen? ⟨S, 10, none⟩ = false := Joins.unfrozen_of_block x1 10
    have FIN := Lib.hid (NO.out _ _ w4 (Q3.out (by trivial) (by trivial) z3) z3 J4.out _ rfl)
    have hq1 : ((e3 : Int) != 0) = true := by rw [bne_iff_ne]; exact z3
    have hq2 : ((e3 : Int) == 0) = false := by rw [beq_eq_false_iff_ne]; exact z3
    clear z3 x1 Q3 Q4 SY2 YES
    go_wp2_with fail
    go_ret
    exact FIN.out
  subst z3
  obtain ⟨x1, _⟩ := XX.out _ _ J4.out
  have k0 : w4.cell? ⟨S, 0, none⟩ = some (.pointer (some ⟨B, 0, none⟩)) := Joins.cell_of_block x1 0
  clear x1
  go_wp2_with fail
  refine (SY2.out w4 J4.out).mono ?_
  rintro en W ⟨rfl, j5⟩
  have J5 := Lib.hid j5
  clear j5 SY2 J4 k0 Q3
  by_cases z4 : e4 = 0
  rotate_left
  · skip
    obtain ⟨x1, _⟩ := XX.out _ _ J5.out
    have k10 : W.cell? ⟨S, 10, none⟩ = some (.bool s.broken) := Joins.cell_of_block x1 10
    have kf10 : W.frozen? ⟨S, 10, none⟩ = false := Joins.unfrozen_of_block x1 10
    have FIN := Lib.hid (NO.out _ _ W (Q4.out (by trivial) (by trivial) (by trivial)) z4 J5.out _ rfl)
    have hq1 : ((e4 : Int) != 0) = true := by rw [bne_iff_ne]; exact z4
    have hq2 : ((e4 : Int) == 0) = false := by rw [beq_eq_false_iff_ne]; exact z4
    clear z4 x1 Q4 YES
    go_wp2_with fail
    go_ret
    exact FIN.out
  · subst z4
    obtain ⟨x1, x2⟩ := XX.out _ _ J5.out
    have k0 : W.cell? ⟨S, 0, none⟩ = some (.pointer (some ⟨B, 0, none⟩)) := Joins.cell_of_block x1 0
    have kf0 : W.frozen? ⟨S, 0, none⟩ = false := Joins.unfrozen_of_block x1 0
    have m0 : W.cell? ⟨w.heap.size, 0, none⟩ = some (.pointer (some ⟨B, 0, none⟩)) := Joins.cell_of_block x2 0
    have k1 : W.cell? ⟨S, 1, none⟩ = some (.pointer (some ⟨A0, 0, none⟩)) := Joins.cell_of_block x1 1
    have kf1 : W.frozen? ⟨S, 1, none⟩ = false := Joins.unfrozen_of_block x1 1
    have m1 : W.cell? ⟨w.heap.size, 1, none⟩ = some (.pointer (some ⟨A0, 0, none⟩)) := Joins.cell_of_block x2 1
    have k2 : W.cell? ⟨S, 2, none⟩ = some (.pointer (some ⟨A1, 0, none⟩)) := Joins.cell_of_block x1 2
    have kf2 : W.frozen? ⟨S, 2, none⟩ = false := Joins.unfrozen_of_block x1 2
    have m2 : W.cell? ⟨w.heap.size, 2, none⟩ = some (.pointer (some ⟨A1, 0, none⟩)) := Joins.cell_of_block x2 2
    have k3 : W.cell? ⟨S, 3, none⟩ = some (.pointer (some ⟨AL, 0, none⟩)) := Joins.cell_of_block x1 3
    have kf3 : W.frozen? ⟨S, 3, none⟩ = false := Joins.unfrozen_of_block x1 3
    have m3 : W.cell? ⟨w.heap.size, 3, none⟩ = some (.pointer (some ⟨AL, 0, none⟩)) := Joins.cell_of_block x2 3
    have k4 : W.cell? ⟨S, 4, none⟩ = some (.int .i64 (s.h.slot : Int)) := Joins.cell_of_block x1 4
    have kf4 : W.frozen? ⟨S, 4, none⟩ = false := Joins.unfrozen_of_block x1 4
    have m4 : W.cell? ⟨w.heap.size, 4, none⟩ = some (.int .i64 (s'.h.slot : Int)) := Joins.cell_of_block x2 4
    have k5 : W.cell? ⟨S, 5, none⟩ = some (.int .i64 (s.h.long : Int)) := Joins.cell_of_block x1 5
    have kf5 : W.frozen? ⟨S, 5, none⟩ = false := Joins.unfrozen_of_block x1 5
    have m5 : W.cell? ⟨w.heap.size, 5, none⟩ = some (.int .i64 (s'.h.long : Int)) := Joins.cell_of_block x2 5
    have k6 : W.cell? ⟨S, 6, none⟩ = some (.int .i64 (s.h.used : Int)) := Joins.cell_of_block x1 6
    have kf6 : W.frozen? ⟨S, 6, none⟩ = false := Joins.unfrozen_of_block x1 6
    have m6 : W.cell? ⟨w.heap.size, 6, none⟩ = some (.int .i64 (s'.h.used : Int)) := Joins.cell_of_block x2 6
    have k7 : W.cell? ⟨S, 7, none⟩ = some (.int .i64 (s.h.turn : Int)) := Joins.cell_of_block x1 7
    have kf7 : W.frozen? ⟨S, 7, none⟩ = false := Joins.unfrozen_of_block x1 7
    have m7 : W.cell? ⟨w.heap.size, 7, none⟩ = some (.int .i64 (s'.h.turn : Int)) := Joins.cell_of_block x2 7
    have k8 : W.cell? ⟨S, 8, none⟩ = some (vc) := Joins.cell_of_block x1 8
    have kf8 : W.frozen? ⟨S, 8, none⟩ = false := Joins.unfrozen_of_block x1 8
    have m8 : W.cell? ⟨w.heap.size, 8, none⟩ = some (.slice ac nc cc) := Joins.cell_of_block x2 8
    have k9 : W.cell? ⟨S, 9, none⟩ = some (vr) := Joins.cell_of_block x1 9
    have kf9 : W.frozen? ⟨S, 9, none⟩ = false := Joins.unfrozen_of_block x1 9
    have m9 : W.cell? ⟨w.heap.size, 9, none⟩ = some (.slice ar nr cr) := Joins.cell_of_block x2 9
    have k10 : W.cell? ⟨S, 10, none⟩ = some (.bool s.broken) := Joins.cell_of_block x1 10
    have kf10 : W.frozen? ⟨S, 10, none⟩ = false := Joins.unfrozen_of_block x1 10
    have m10 : W.cell? ⟨w.heap.size, 10, none⟩ = some (.bool s'.broken) := Joins.cell_of_block x2 10
    have hSn1 : S ≠ w.heap.size := by omega
    have hSn2 : w.heap.size ≠ S := by omega
    have FIN := Lib.hid (YES.out _ W (Q4.out (by trivial) (by trivial) (by trivial)) J5.out _ rfl)
    clear x1 x2 Q4 YES NO J5 XX
    go_wp2_with fail
    go_ret
    exact FIN.out
end Go.Proofs.Ytopemjbakpahfaa
