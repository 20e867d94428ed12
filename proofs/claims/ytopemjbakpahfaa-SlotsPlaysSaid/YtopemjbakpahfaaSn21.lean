/-
  Contracts and plain laws, part 21 (texts: S1, S2). No condition but what each states.
-/
import Derived.Test.YtopemjbakpahfaaSn20
/-
  A store in memory; the contracts of what only asks it. No condition but that its numbers are small.
-/
namespace Go.Proofs.Ytopemjbakpahfaa
open Go.RowKit Disk Jour Crc Slot
set_option linter.unusedSimpArgs false
set_option linter.unusedVariables false
/-- Bytes of a store's own. -/
def BsG (G : Nat → Prop) (w : World) (v : Value) (l : List UInt8) : Prop := w.ownsRow 0 5 1 v l.length (l.map byteV) ∧ ∀ k, v.ownBlock = some k → G k
/-- Rows of bytes of a store's own. -/
def RowsG (G : Nat → Prop) (w : World) (v : Value) (L : List (List UInt8)) : Prop :=
  ∃ vs : List Value, w.ownsRow 0 22 1 v L.length vs ∧ (∀ k, v.ownBlock = some k → G k) ∧ ∀ (i : Nat) (u : Value) (l : List UInt8), vs[i]? = some u → L[i]? = some l → BsG G w u l
theorem BsG.same {F G : Nat → Prop} {A B : World} {v : Value} {l : List UInt8} (h : BsG F A v l) (e : ∀ k, F k → k < A.heap.size → B.heap[k]? = A.heap[k]?) (hG : ∀ k, F k → G k) : BsG G B v l :=
  ⟨owns_block h.1 (fun k hk => e k (h.2 k hk) (h.1.lt k hk).2), fun k hk => hG k (h.2 k hk)⟩
theorem RowsG.same {F G : Nat → Prop} {A B : World} {v : Value} {L : List (List UInt8)} (h : RowsG F A v L) (e : ∀ k, F k → k < A.heap.size → B.heap[k]? = A.heap[k]?) (hG : ∀ k, F k → G k) : RowsG G B v L := by
  obtain ⟨vs, h1, h2, h3⟩ := h
  exact ⟨vs, owns_block h1 (fun k hk => e k (h2 k hk) (h1.lt k hk).2), fun k hk => hG k (h2 k hk), fun i u l a b => (h3 i u l a b).same e hG⟩
theorem RowsG.nil (G : Nat → Prop) (w : World) : RowsG G w (.slice none 0 0) [] := ⟨[], World.ownsRow_nil _ _ _ _, fun k hk => by simp [Value.ownBlock] at hk, fun i u l h => by simp at h⟩
theorem BsG.of {G : Nat → Prop} {w : World} {base n : Nat} {v : Value} {l : List UInt8} (h : w.ownsRow base 5 1 v n (l.map byteV)) (hG : ∀ k, base ≤ k → k < w.heap.size → G k) : BsG G w v l := by
  have hn : n = l.length := by have := h.1; simp at this; omega
  subst hn
  exact ⟨ownsRow_base h (Nat.zero_le _), fun k hk => hG k (h.lt k hk).1 (h.lt k hk).2⟩
theorem RowsG.of {G : Nat → Prop} {w : World} {base : Nat} {v : Value} {L : List (List UInt8)} (h : RowsOf w base v L) (hG : ∀ k, base ≤ k → k < w.heap.size → G k) : RowsG G w v L := by
  obtain ⟨vs, h1, h2, h3⟩ := h
  rw [h2] at h1
  exact ⟨vs, ownsRow_base h1 (Nat.zero_le _), fun k hk => hG k (h1.lt k hk).1 (h1.lt k hk).2, fun i u l a b => BsG.of (h3 i u l a b) hG⟩
def stcells (B A0 A1 AL : Nat) (s : St) (vc vr : Value) : Array Value :=
  #[.pointer (some ⟨B, 0, none⟩), .pointer (some ⟨A0, 0, none⟩), .pointer (some ⟨A1, 0, none⟩), .pointer (some ⟨AL, 0, none⟩), .int .i64 (s.h.slot : Int), .int .i64 (s.h.long : Int), .int .i64 (s.h.used : Int), .int .i64 (s.h.turn : Int), vc, vr, .bool s.broken]
structure StOk (s : St) : Prop where
  slot : s.h.slot < 2
  turn : s.h.turn < 4294967296
  long : s.h.long ≤ 32 * s.N
  used : s.h.used ≤ 32 * s.L
  n1 : 1 ≤ s.N
  k : 1 + 2 * s.N + s.L ≤ 1024
  check : s.check.length ≤ 32768
  rl : s.recs.length ≤ s.h.used
  rr : ∀ r ∈ s.recs, r.length ≤ 4096
structure StV (G : Nat → Prop) (w : World) (S B A0 A1 AL : Nat) (s : St) (vc vr : Value) : Prop where
  blk : w.heap[S]? = some (.cells (stcells B A0 A1 AL s vc vr) 134 (0, 0))
  a0 : IsArea w A0 B 1 s.N
  a1 : IsArea w A1 B (1 + s.N) s.N
  al : IsArea w AL B (1 + 2 * s.N) s.L
  check : BsG G w vc s.check
  recs : RowsG G w vr s.recs
  fs : G S
  f0 : G A0
  f1 : G A1
  fl : G AL
  lt : ∀ k, G k → k < w.heap.size
  ok : StOk s
/-- A store on the device at B. -/
def IsSt (G : Nat → Prop) (w : World) (S B : Nat) (s : St) : Prop := ∃ A0 A1 AL vc vr, StV G w S B A0 A1 AL s vc vr
theorem StV.frm {F G : Nat → Prop} {w w' : World} {S B A0 A1 AL : Nat} {s : St} {vc vr : Value} (h : StV G w S B A0 A1 AL s vc vr) (hf : Frm F w w') (hd : ∀ k, G k → ¬ F k) : StV G w' S B A0 A1 AL s vc vr := by
  have e : ∀ k, G k → k < w.heap.size → w'.heap[k]? = w.heap[k]? := fun k hk hl => hf.block k hl (hd k hk)
  exact ⟨(e S h.fs (h.lt S h.fs)).trans h.blk, h.a0.same (e A0 h.f0 (h.lt A0 h.f0)), h.a1.same (e A1 h.f1 (h.lt A1 h.f1)), h.al.same (e AL h.fl (h.lt AL h.fl)), h.check.same e (fun _ h => h), h.recs.same e (fun _ h => h), h.fs, h.f0, h.f1, h.fl, fun k hk => Nat.lt_of_lt_of_le (h.lt k hk) hf.size, h.ok⟩
theorem StV.below {G : Nat → Prop} {w w' : World} {S B A0 A1 AL : Nat} {s : St} {vc vr : Value} (h : StV G w S B A0 A1 AL s vc vr) (hb : Below w.heap.size w w') : StV G w' S B A0 A1 AL s vc vr :=
  h.frm (F := fun _ => False) (Frm.of_below hb) (fun _ _ h => h)
theorem IsSt.frm {F G : Nat → Prop} {w w' : World} {S B : Nat} {s : St} (h : IsSt G w S B s) (hf : Frm F w w') (hd : ∀ k, G k → ¬ F k) : IsSt G w' S B s := by
  obtain ⟨A0, A1, AL, vc, vr, h⟩ := h; exact ⟨A0, A1, AL, vc, vr, h.frm hf hd⟩
theorem IsSt.below {G : Nat → Prop} {w w' : World} {S B : Nat} {s : St} (h : IsSt G w S B s) (hb : Below w.heap.size w w') : IsSt G w' S B s :=
  h.frm (F := fun _ => False) (Frm.of_below hb) (fun _ _ h => h)
theorem IsSt.lt {G : Nat → Prop} {w : World} {S B : Nat} {s : St} (h : IsSt G w S B s) : ∀ k, G k → k < w.heap.size := by obtain ⟨A0, A1, AL, vc, vr, h⟩ := h; exact h.lt
theorem IsSt.ok {G : Nat → Prop} {w : World} {S B : Nat} {s : St} (h : IsSt G w S B s) : StOk s := by obtain ⟨A0, A1, AL, vc, vr, h⟩ := h; exact h.ok
theorem turn_any {G : Nat → Prop} {w : World} {S B : Nat} {s : St} (h : IsSt G w S B s) : Calls Try.prog 74 #[.pointer (some ⟨S, 0, none⟩)] w fun en w' => en = .returned (.int .i64 (s.h.turn : Int)) ∧ w = w' := by
  obtain ⟨A0, A1, AL, vc, vr, V⟩ := h
  have c7 : w.cell? ⟨S, 7, none⟩ = some (.int .i64 (s.h.turn : Int)) := Joins.cell_of_block V.blk 7
  go_enter Try.func74, Try.ntmps74
  go_wp2
  go_ret
  exact ⟨rfl, rfl⟩
theorem broken_any {G : Nat → Prop} {w : World} {S B : Nat} {s : St} (h : IsSt G w S B s) : Calls Try.prog 75 #[.pointer (some ⟨S, 0, none⟩)] w fun en w' => en = .returned (.bool s.broken) ∧ w = w' := by
  obtain ⟨A0, A1, AL, vc, vr, V⟩ := h
  have c7 : w.cell? ⟨S, 10, none⟩ = some (.bool s.broken) := Joins.cell_of_block V.blk 10
  go_enter Try.func75, Try.ntmps75
  go_wp2
  go_ret
  exact ⟨rfl, rfl⟩
theorem sroom_any {G : Nat → Prop} {w : World} {S B : Nat} {s : St} (h : IsSt G w S B s) : Calls Try.prog 76 #[.pointer (some ⟨S, 0, none⟩)] w fun en w' => en = .returned (.int .i64 s.room) ∧ Below w.heap.size w w' := by
  obtain ⟨A0, A1, AL, vc, vr, V⟩ := h
  have c3 : w.cell? ⟨S, 3, none⟩ = some (.pointer (some ⟨AL, 0, none⟩)) := Joins.cell_of_block V.blk 3
  have c6 : w.cell? ⟨S, 6, none⟩ = some (.int .i64 (s.h.used : Int)) := Joins.cell_of_block V.blk 6
  have h1 := V.ok.used
  have h2 := V.ok.k
  have hR : Hid (s.room = 32 * (s.L : Int) - (s.h.used : Int)) := rfl
  have hs : IntKind.i64.wrap (32 * (s.L : Int) - (s.h.used : Int)) = 32 * (s.L : Int) - (s.h.used : Int) := by rw [IntKind.wrap_i64]; omega
  go_enter Try.func76, Try.ntmps76
  go_wp2_with fail
  go_quiet ((go_at_call 56; exact Calls.quiet_of_same ((size_any (V.al.below (below_drewN (Below.refl _ _) _))).mono (fun _ _ h => ⟨h.1, h.2.symm⟩))))
  go_wp2
  go_ret
  exact ⟨ret_int hR.out.symm, below_drewN (Below.refl _ _) _⟩
end Go.Proofs.Ytopemjbakpahfaa
/-
  A store's checkpoint and records: copies in new memory. No condition but that the lengths are small.
-/
namespace Go.Proofs.Ytopemjbakpahfaa
open Go.RowKit Disk Jour Crc Slot
set_option linter.unusedSimpArgs false
set_option linter.unusedVariables false
theorem checkpoint_any {G : Nat → Prop} {w : World} {S B : Nat} {s : St} (h : IsSt G w S B s) : Calls Try.prog 72 #[.pointer (some ⟨S, 0, none⟩)] w (Cloned s.check w) := by
  obtain ⟨A0, A1, AL, vc, vr, V⟩ := h
  have hl := V.ok.check
  obtain ⟨a, cap, rfl, hlc, hn, hr⟩ := RB.of_owns V.check.1
  have c8 : w.cell? ⟨S, 8, none⟩ = some (.slice a s.check.length cap) := Joins.cell_of_block V.blk 8
  clear V
  go_enter Try.func72, Try.ntmps72
  go_wp2_with fail
  refine (clone_any s.check a cap w (by omega) hlc hn hr).mono ?_
  rintro en w1 ⟨v, rfl, o1, b1⟩
  go_wp2
  go_ret
  exact ⟨v, rfl, o1, b1⟩
/-- What the rows' own copies are: the same slices in a new row. -/
def ClonedV (vs : List Value) (w : World) (en : Ending) (w' : World) : Prop := ∃ v, en = .returned v ∧ w'.ownsRow w.heap.size 22 1 v vs.length vs ∧ Below w.heap.size w w'
theorem own_slice {w : World} {base n : Nat} {u : Value} {l : List UInt8} (h : w.ownsRow base 5 1 u n (l.map byteV)) : u.oneCell' = true := by
  obtain ⟨a, c, rfl, _⟩ := RB.of_owns h
  rfl
@[go_sem ↓] theorem eq_nil56 (a : Option Addr) (n c : Nat) (w : World) : (binOp .eql 56 (.slice a n c) (.slice none 0 0)).run Try.prog w = .ok (.bool a.isNone) w :=
  Lib.run_eql_slice_nil w 56 22 a n c 0 0 Try.underlying56
set_option maxRecDepth 100000 in
theorem clonev_any {w : World} {base : Nat} {v : Value} {vs : List Value} (hv : w.ownsRow base 22 1 v vs.length vs) (h1 : ∀ u ∈ vs, u.oneCell' = true) (hl : vs.length ≤ 1000000) : Calls Try.prog 97 #[v] w (ClonedV vs w) := by
  obtain ⟨i0, hi, hz0, hz1, hz2⟩ := info_parts info22'
  rcases hv.2 with ⟨rfl, h0⟩ | ⟨g, cap, cur, rfl, hg, hh, k1, k2, k3, k4⟩
  · have h0' : vs = [] := List.eq_nil_of_length_eq_zero h0
    subst h0'
    go_enter Try.func97, Try.ntmps97
    go_wp2
    go_ret
    exact ⟨_, rfl, World.ownsRow_nil _ _ _ _, Below.refl _ _⟩
  · have HC := Lib.hid (hv.cells (g := g) rfl)
    have HV := Lib.hid (hv.alloc (.cells #[] 22))
    have H1 := Lib.hid h1
    clear h1 hv hh k1 k2 k3 k4 hg
    go_enter Try.func97, Try.ntmps97
    go_wp2_with (at_builtin; refine wpList_append_own _ rfl (.tmp 5) (.tmp 6) 56 rfl w.heap.size 22 i0 (.slice none 0 0) 1 24 Try.underlying56 hi hz0 hz1 hz2 rfl (by decide) _ 0 [] rfl (owns_lit w (xs := #[]) (Nat.le_refl _) rfl (by unfold maxLen; omega)) ⟨g, 0, none⟩ vs.length cap vs rfl (by simp) (HV.out.cells (g := g) rfl) H1.out (by unfold maxLen; omega) (by omega) (by simp) ?_; intro v3 w3 o3 g3 _)
    go_ret
    exact ⟨v3, rfl, by simpa using o3, (below_alloc w _).grown g3 (by simp) (fun k hk => by cases hk; exact Nat.le_refl _)⟩
theorem row_form {w : World} {base t z n : Nat} {v : Value} {xs : List Value} (h : w.ownsRow base t z v n xs) : ∃ a c, v = .slice a n c := by
  rcases h.2 with ⟨rfl, h0⟩ | ⟨g, cap, cur, rfl, _⟩
  · exact ⟨none, 0, by rw [h0]⟩
  · exact ⟨_, _, rfl⟩
theorem row_some {w : World} {base t z n c : Nat} {a : Option Addr} {xs : List Value} (h : w.ownsRow base t z (.slice a n c) n xs) (h0 : 0 < n) : ∃ g, a = some ⟨g, 0, none⟩ := by
  obtain ⟨g, cap, e⟩ := own_rec h h0
  injection e with e1 _ _
  exact ⟨g, e1⟩
theorem own_cell {w : World} {base t z n g c : Nat} {xs : List Value} (h : w.ownsRow base t z (.slice (some ⟨g, 0, none⟩) n c) n xs) {j : Nat} {u : Value} (hu : xs[j]? = some u) : w.cell? ⟨g, j, none⟩ = some u := by
  have h1 := h.cells (g := g) rfl j u hu
  have hadd : (⟨g, 0, none⟩ : Addr).add j = ⟨g, j, none⟩ := by unfold Addr.add; split <;> simp_all
  rw [hadd] at h1
  exact h1
structure RecI (w : World) (L : List (List UInt8)) (v : Value) (vs : List Value) (k : Nat) (ws : List Value) (wr : World) : Prop where
  bl : Below w.heap.size w wr
  own : wr.ownsRow w.heap.size 22 1 v L.length ws
  new : ∀ (i : Nat) (u : Value) (l : List UInt8), i < k → ws[i]? = some u → L[i]? = some l → wr.ownsRow w.heap.size 5 1 u l.length (l.map byteV)
  old : ∀ i, k ≤ i → ws[i]? = vs[i]?
theorem RecI.step {w : World} {L : List (List UInt8)} {g cap : Nat} {vs : List Value} {k : Nat} {ws : List Value} {wr w2 : World} {u2 : Value} {l : List UInt8} (h : RecI w L (.slice (some ⟨g, 0, none⟩) L.length cap) vs k ws wr) (hk : k < L.length) (hl : L[k]? = some l)
    (b2 : Below wr.heap.size wr w2) (o2 : w2.ownsRow wr.heap.size 5 1 u2 l.length (l.map byteV)) : RecI w L (.slice (some ⟨g, 0, none⟩) L.length cap) vs (k + 1) (ws.set k u2) (w2.setCell ⟨g, k, none⟩ u2) := by
  have hgl := h.own.lt g rfl
  have own2 := owns_below h.own b2
  obtain ⟨s1, s2⟩ := own2.stored k u2
  refine ⟨(h.bl.trans (b2.mono h.bl.size)).setCell (p := ⟨g, k, none⟩) hgl.1 u2, s1, ?_, ?_⟩
  · intro i u l' hi hu hl'
    rw [List.getElem?_set] at hu
    by_cases hik : k = i
    · subst hik
      rw [if_pos rfl] at hu
      split at hu
      · cases hu
        rw [hl] at hl'; cases hl'
        exact ownsRow_base (o2.kept s2 (.inr (fun e => by have := (o2.lt g e).1; omega))) h.bl.size
      · cases hu
    · rw [if_neg hik] at hu
      exact owns_other (owns_below (h.new i u l' (by omega) hu hl') b2) s2 (rowOf_owns own2) (by decide)
  · intro i hi
    rw [List.getElem?_set, if_neg (by omega)]
    exact h.old i (by omega)
set_option maxHeartbeats 1000000 in
theorem records_any {G : Nat → Prop} {w : World} {S B : Nat} {s : St} (h : IsSt G w S B s) : Calls Try.prog 73 #[.pointer (some ⟨S, 0, none⟩)] w fun en w' => Below w.heap.size w w' ∧ ∃ v, en = .returned v ∧ RowsOf w' w.heap.size v s.recs := by
  obtain ⟨A0, A1, AL, vc, vr, V⟩ := h
  have hrl : s.recs.length ≤ 1000000 := by have := V.ok.rl; have := V.ok.used; have := V.ok.k; omega
  obtain ⟨vs, h1, h2, h3⟩ := V.recs
  have hvl : vs.length = s.recs.length := by have := h1.1; omega
  have RR0 := Lib.hid V.ok.rr
  have H3 := Lib.hid h3
  have c9 : w.cell? ⟨S, 9, none⟩ = some vr := Joins.cell_of_block V.blk 9
  have hone : ∀ u ∈ vs, u.oneCell' = true := by
    intro u hu
    obtain ⟨i, hi, rfl⟩ := List.getElem_of_mem hu
    have := h3 i vs[i] (s.recs.getD i []) (by simp [hi]) (by simp [List.getD, show i < s.recs.length by omega])
    exact own_slice this.1
  have hcl := clonev_any (by rw [hvl]; exact h1) hone (by omega)
  obtain ⟨ar, cr, rfl⟩ := row_form h1
  have HCL := Lib.hid hcl
  have HVL := Lib.hid hvl
  clear V h1 h2 h3 hone hcl hvl
  go_enter Try.func73, Try.ntmps73
  go_wp2_with fail
  refine (HCL.out).mono ?_
  rintro en w1 ⟨v, rfl, o1, b1⟩
  rw [HVL.out] at o1
  obtain ⟨a, cap, rfl⟩ := row_form o1
  have I0 : Hid (RecI w s.recs (.slice a s.recs.length cap) vs 0 vs w1) := ⟨b1, o1, fun i u l hi => absurd hi (Nat.not_lt_zero i), fun i _ => rfl⟩
  clear o1 b1 HCL c9
  go_wp2_with fail
  go_loopw [13] (fun iv wr => ∃ (k : Nat) (ws : List Value), iv = .int .i64 k ∧ k ≤ s.recs.length ∧ RecI w s.recs (.slice a s.recs.length cap) vs k ws wr) (fun iv _ => s.recs.length - (intOf iv).toNat)
  case atStart => exact ⟨0, vs, rfl, Nat.zero_le _, I0.out⟩
  case round =>
    obtain ⟨k, ws, rfl, hk, hI⟩ := hrel
    by_cases hlt : k < s.recs.length
    · have hk0 : (0 : Int) ≤ (k : Int) := by omega
      have hki : (k : Int) < (s.recs.length : Int) := by omega
      obtain ⟨g, rfl⟩ := row_some hI.own (by omega)
      have hwl : ws.length = s.recs.length := by have := hI.own.1; omega
      obtain ⟨u, hu⟩ : ∃ u, ws[k]? = some u := ⟨_, List.getElem?_eq_getElem (by omega)⟩
      have hcu := own_cell hI.own hu
      have hu2 : vs[k]? = some u := by rw [← hI.old k (Nat.le_refl _)]; exact hu
      obtain ⟨l, hl⟩ : ∃ l, s.recs[k]? = some l := ⟨_, List.getElem?_eq_getElem hlt⟩
      have hll := RR0.out l (List.mem_of_getElem? hl)
      have hbs := owns_below (H3.out k u l hu2 hl).1 (hI.bl)
      obtain ⟨a5, c5, rfl, q1, q2, q3⟩ := RB.of_owns hbs
      have hcl := clone_any l a5 c5 wr (by omega) q1 q2 q3
      have HK := Lib.hid hI
      have HL := Lib.hid hl
      have HCL := Lib.hid hcl
      clear hI hwl hu hu2 hl hll hbs q3 hcl hlt
      have hlt' : Hid (k < s.recs.length) := by show _ < _; omega
      go_wp2_with fail
      refine (HCL.out).mono ?_
      rintro en w2 ⟨u2, rfl, o2, b2⟩
      obtain ⟨a6, c6, rfl⟩ := row_form o2
      have hcg : ∃ x, w2.cell? ⟨g, k, none⟩ = some x := ⟨_, (b2.cell (p := ⟨g, k, none⟩) ((HK.out.own.lt g rfl).2)).trans hcu⟩
      obtain ⟨x, hcg⟩ := hcg
      have hfz := (owns_below HK.out.own b2).frozenAt k
      have NX := Lib.hid (HK.out.step hlt'.out HL.out b2 o2)
      clear o2 b2 HK hcu
      go_wp2_with fail
      go_roundw
      case rel => exact ⟨k + 1, _, rfl, by omega, NX.out⟩
      case measure => simp only [intOf]; omega
    · have hki : ¬ (k : Int) < (s.recs.length : Int) := by omega
      obtain rfl : k = s.recs.length := by omega
      have HK := Lib.hid hI
      clear hI
      go_wp2_with fail
      go_ret
      have hI := HK.out
      have hwl : ws.length = s.recs.length := by have := hI.own.1; omega
      exact ⟨hI.bl, _, rfl, ws, by rw [hwl]; exact hI.own, hwl, fun i u l hu hl => hI.new i u l (by rcases Nat.lt_or_ge i s.recs.length with h | h; exact h; rw [List.getElem?_eq_none (by omega)] at hl; cases hl) hu hl⟩
end Go.Proofs.Ytopemjbakpahfaa
