/-
  Contracts and plain laws, part 46 (texts: R6). No condition but what each states.
-/
import Derived.Test.YtopemjbakpahfaaSlotsPlaysB
/-
  The reference's appending of a record: the walk. No condition but that the numbers are small.
-/
namespace Go.Proofs.Ytopemjbakpahfaa
open Go.RowKit Disk Jour Crc Slot
set_option linter.unusedSimpArgs false
set_option linter.unusedVariables false
/-- A row of rows appended to a row of the call's own. -/
theorem app_rows {w : World} {ops : Array Oper} {rest : List Oper} {o : Oper} {a : Act} {Q : Exit → Act → World → Prop} (hgd : o.guard = none) (s x : Operand) (ho : o.op = .call { callee := .builtin .append, args := #[s, x], argTypes := #[56, 56] })
    (base : Nat) (v v2 : Value) (n m b2 : Nat) (xs vs : List Value) (hs : a.eval s = v) (hown : w.ownsRow base 22 1 v n xs) (hx : a.eval x = v2) (h2 : w.ownsRow b2 22 1 v2 m vs) (h1 : ∀ u ∈ vs, u.oneCell' = true) (hb : n + m ≤ 1000000) (b3 : base ≤ w.heap.size)
    (hK : ∀ v' w', w'.ownsRow base 22 1 v' (n + m) (xs ++ vs) → w.grownBy w' v.ownBlock → wpList Try.prog ops Q rest (a.put o.dst v') w') : wpList Try.prog ops Q (o :: rest) a w := by
  obtain ⟨i0, hi, hz0, hz1, hz2⟩ := info22i
  rcases h2.2 with ⟨rfl, h0⟩ | ⟨g, cap, cur, rfl, hg, hh, q1, q2, q3, q4⟩
  · subst h0
    have hv : vs = [] := List.eq_nil_of_length_eq_zero (by have := h2.1; omega)
    subst hv
    have hrun := run_append_owned_none (P := Try.prog) (w := w) base 56 o.type 22 i0 1 Try.underlying56 hi v n xs hown
    exact Lib.wpList_append_run w hgd s x 56 56 ho v _ hs hx v w hrun (hK v w (by simpa using hown) ⟨rfl, rfl, rfl, Nat.le_refl _, fun _ _ _ => rfl⟩)
  · obtain ⟨v', w', hrun, own', g', _, _⟩ := run_append_own_at (P := Try.prog) w base 56 o.type 22 i0 (.slice none 0 0) 1 24 Try.underlying56 hi hz0 hz1 hz2 rfl (by decide) v n xs hown ⟨g, 0, none⟩ m cap vs (by have := h2.1; omega) (h2.cells (g := g) rfl) h1 (by unfold maxLen; omega) (by omega) b3
    exact Lib.wpList_append_run w hgd s x 56 56 ho v _ hs hx v' w' hrun (hK v' w' own' g')
theorem owns_rows0 (w : World) {n : Nat} (hn : w.heap.size = n) : (w.alloc (.cells #[] 22)).ownsRow n 22 1 (.slice (some ⟨n, 0, none⟩) 0 0) 0 [] := by
  subst hn
  exact owns_lit w (xs := #[]) (Nat.le_refl _) rfl (by unfold maxLen; omega)
theorem rappend_call {F G : Nat → Prop} {w : World} {S B A0 A1 AL : Nat} {d : Dev} {s : St} {vr : Value} {ac : Option Addr} {cc : Nat} (hd : IsRef F w B d) (V : SrV G w S B A0 A1 AL s (.slice ac s.check.length cc) vr) (dis : ∀ k, G k → ¬ F k) (hbk : s.broken = false) {b : List UInt8} (hfit : ¬ s.room < ((b.length + 6 : Nat) : Int)) (hb4 : b.length ≤ 4096)
    (hp : d.pend.length + 33000 ≤ 90000) (hw : d.writes + 33000 ≤ 90000) (hy : d.syncs ≤ 90000) {W4 : World} (hbl : Below w.heap.size w W4) {g1 c1 : Nat} (hlc : (frame b).length ≤ c1) (hfr : RB W4 (some ⟨g1, 0, none⟩) (frame b)) (hg1 : w.heap.size ≤ g1) (hg1l : g1 < W4.heap.size) {a6 : Option Addr} {c6 : Nat}
    (hR : RowsG (fun k => G k ∨ (w.heap.size ≤ k ∧ k < W4.heap.size)) W4 (.slice a6 (s.recs.length + 1) c6) (s.recs ++ [b])) :
    Calls Try.prog 100 #[.pointer (some ⟨S, 0, none⟩), .pointer (some ⟨AL, 0, none⟩), .int .i64 (s.h.used : Int), .slice (some ⟨g1, 0, none⟩) (frame b).length c1, .agg #[.pointer (some ⟨B, 0, none⟩), .pointer (some ⟨A0, 0, none⟩), .pointer (some ⟨A1, 0, none⟩), .pointer (some ⟨AL, 0, none⟩), .int .i64 (s.h.slot : Int), .int .i64 (s.h.long : Int), .int .i64 ((s.h.used + (b.length + 6) : Nat) : Int), .int .i64 (turnOf s.h : Int), .slice ac s.check.length cc, .slice a6 (s.recs.length + 1) c6, .bool false]] W4 (fun en w' => SrorOf F G w S B (sappend d s b).1 (sappend d s b).2.1 (sappend d s b).2.2 en w' ∧ SrKeep w W4 S A0 A1 AL w') := by
  have ok := V.ok
  have k1 := ok.slot
  have k2 := ok.k
  have kN := ok.n1
  have kl := ok.long
  have ku := ok.used
  have kr := ok.rl
  have hfl := frame_length b
  have hroom : s.h.used + (b.length + 6) ≤ 32 * s.L := by unfold St.room at hfit; omega
  have := rsafe_any (s' := { s with h := apHd s b, recs := s.recs ++ [b], broken := false }) (ac := ac) (nc := s.check.length) (cc := cc) (ar := a6) (nr := s.recs.length + 1) (cr := c6) (p := s.h.used) (hd.below hbl) (V.below hbl) dis (V.al.below hbl) V.fl hlc hfr (fun hF => by have := hd.lt _ hF; omega) hg1l k1 (by show s.h.long < _; omega) (by show s.h.used + (b.length + 6) < _; omega) (by show (s.h.turn + 1) % 4294967296 < _; omega) (by omega) (by omega) (by omega) (.inr ⟨by omega, by omega⟩)
  rw [show (1 + 2 * (s.N : Int)).toNat = 1 + 2 * s.N by omega] at this
  refine this.mono ?_
  rintro en w' ⟨rfl, P⟩
  change RSafe F W4 S B A0 A1 AL s { s with h := apHd s b, recs := s.recs ++ [b], broken := false } _ vr _ _ (apD d s b).1 (apD d s b).2 w' at P
  refine ⟨?_, P.keep hd.lt (V.lt S V.fs)⟩
  change SrorOf F G w S B (sappend d s b).1 (sappend d s b).2.1 (sappend d s b).2.2 (.returned (.int .i64 (apD d s b).2)) w'
  obtain ⟨y, n⟩ := rfin hd V dis hbl P (((V.below hbl).check).mono (fun k hk => .inl hk)) hR ⟨k1, by show (s.h.turn + 1) % 4294967296 < _; omega, kl, hroom, kN, k2, ok.check, by show (s.recs ++ [b]).length ≤ s.h.used + (b.length + 6); simp; omega, fun r hr => by
      rcases List.mem_append.1 hr with h | h
      · exact ok.rr r h
      · obtain rfl := List.mem_singleton.1 h; exact hb4⟩ rfl rfl
  by_cases hz : (apD d s b).2 = 0
  · rw [sappend_yes hbk hfit hz, hz]
    have ks : { s with h := apHd s b, recs := s.recs ++ [b], broken := false } = { s with h := apHd s b, recs := s.recs ++ [b] } := by
      obtain ⟨N, L, h', c, r, bk⟩ := s; dsimp only at hbk ⊢; rw [hbk]
    rw [← ks]
    exact y hz
  · rw [sappend_no hbk hfit hz]
    exact n hz
set_option maxRecDepth 100000 in
set_option maxHeartbeats 8000000 in
theorem rappend_any {F G : Nat → Prop} {w : World} {S B : Nat} {d : Dev} {s : St} (h : Sror F G w S B d s) {b : List UInt8} {a : Option Addr} {cap : Nat} (hlc : b.length ≤ cap) (hna : a = none → cap = 0) (hb : RB w a b) (hb4 : b.length ≤ 4096)
    (hp : d.pend.length + 33000 ≤ 90000) (hw : d.writes + 33000 ≤ 90000) (hy : d.syncs ≤ 90000) :
    Calls Try.prog 79 #[.pointer (some ⟨S, 0, none⟩), .slice a b.length cap] w (SrorOf F G w S B (sappend d s b).1 (sappend d s b).2.1 (sappend d s b).2.2) := by
  obtain ⟨hd, ⟨A0, A1, AL, vc, vr, V⟩, dis⟩ := h
  have SAME : Hid (∀ w', Below w.heap.size w w' → ∀ e : Int, SrorOf F G w S B d s e (.returned (.int .i64 e)) w') := fun w' hb e => SrorOf.same ⟨hd, ⟨A0, A1, AL, vc, vr, V⟩, dis⟩ hb e
  have k10 : w.cell? ⟨S, 10, none⟩ = some (.bool s.broken) := Joins.cell_of_block V.blk 10
  have hfl := frame_length b
  cases hbk : s.broken
  rotate_left
  · rw [sappend_broken hbk]
    rw [hbk] at k10
    clear V hbk hfl
    go_enter Try.func79, Try.ntmps79
    go_wp2
    go_ret
    exact SAME.out _ (Below.refl _ _) 14
  rw [hbk] at k10
  have FR := Lib.hid (rframe_any b a cap w hb4 hlc hna hb)
  have RM : Hid (∀ w1, Below w.heap.size w w1 → Calls Try.prog 99 #[.pointer (some ⟨S, 0, none⟩)] w1 fun en w' => en = .returned (.int .i64 s.room) ∧ Below w1.heap.size w1 w') := fun w1 hb1 => rroom_any ⟨A0, A1, AL, vc, vr, V.below hb1⟩
  by_cases hfit : s.room < ((b.length + 6 : Nat) : Int)
  · rw [sappend_full hbk hfit]
    have HF := Lib.hid hfit
    have HL := Lib.hid hfl
    clear V hbk hfit hfl
    go_enter Try.func79, Try.ntmps79
    go_wp2_with fail
    refine FR.out.mono ?_
    rintro en w1 ⟨v1, rfl, o1, b1⟩
    rw [HL.out] at o1
    obtain ⟨g1, c1, rfl⟩ := own_rec o1 (by omega)
    have hfi : s.room < ((b.length + 6 : Nat) : Int) := HF.out
    have B1 := Lib.hid b1
    generalize hm : b.length + 6 = m at hfi o1 ⊢
    generalize s.room = rm at hfi RM ⊢
    clear o1 hm
    go_wp2_with fail
    refine (RM.out w1 B1.out).mono ?_
    rintro en w2 ⟨rfl, b2⟩
    have B2 := Lib.hid (B1.out.trans (b2.mono B1.out.size))
    clear b2
    go_wp2_with fail
    go_ret
    exact SAME.out _ B2.out 2
  have hSl := V.lt S V.fs
  have ok := V.ok
  have hkk := ok.k
  have huu := ok.used
  have htt := ok.turn
  obtain ⟨ac, cc, hvc⟩ := row_form V.check.1
  obtain ⟨vs, r1, r2, r3⟩ := V.recs
  obtain ⟨ar, cr, hvr⟩ := row_form r1
  subst hvc hvr
  have hvl : vs.length = s.recs.length := by have := r1.1; omega
  have hrl : s.recs.length ≤ 32768 := by have := ok.rl; omega
  have hone : ∀ u ∈ vs, u.oneCell' = true := by
    intro u hu
    obtain ⟨i, hi, rfl⟩ := List.getElem_of_mem hu
    exact own_slice (r3 i vs[i] (s.recs.getD i []) (by simp [hi]) (by simp [List.getD, show i < s.recs.length by omega])).1
  have CALL : Hid (∀ (W4 : World) (g1 c1 : Nat) (a6 : Option Addr) (c6 : Nat), Below w.heap.size w W4 → W4.ownsRow w.heap.size 5 1 (.slice (some ⟨g1, 0, none⟩) (frame b).length c1) (frame b).length ((frame b).map byteV) → RowsG (fun k => G k ∨ (w.heap.size ≤ k ∧ k < W4.heap.size)) W4 (.slice a6 (s.recs.length + 1) c6) (s.recs ++ [b]) → Calls Try.prog 100 #[.pointer (some ⟨S, 0, none⟩), .pointer (some ⟨AL, 0, none⟩), .int .i64 (s.h.used : Int), .slice (some ⟨g1, 0, none⟩) (frame b).length c1, .agg #[.pointer (some ⟨B, 0, none⟩), .pointer (some ⟨A0, 0, none⟩), .pointer (some ⟨A1, 0, none⟩), .pointer (some ⟨AL, 0, none⟩), .int .i64 (s.h.slot : Int), .int .i64 (s.h.long : Int), .int .i64 ((s.h.used + (b.length + 6) : Nat) : Int), .int .i64 (turnOf s.h : Int), .slice ac s.check.length cc, .slice a6 (s.recs.length + 1) c6, .bool false]] W4 (fun en w' => SrorOf F G w S B (sappend d s b).1 (sappend d s b).2.1 (sappend d s b).2.2 en w' ∧ SrKeep w W4 S A0 A1 AL w')) := fun W4 g1 c1 a6 c6 h4 ho hR => by
    obtain ⟨a', c', e, y1, y2, y3⟩ := RB.of_owns ho
    injection e with e1 e2 e3
    subst e1 e3
    exact rappend_call hd V dis hbk hfit hb4 hp hw hy h4 y1 y3 (ho.lt g1 rfl).1 (ho.lt g1 rfl).2 hR
  have S1 : Hid (∀ W, Below w.heap.size w W → W.heap[S]? = some (.cells (srcells B A0 A1 AL s (.slice ac s.check.length cc) (.slice ar s.recs.length cr)) 141 (0, 0))) := fun W hW => (hW.block S hSl).trans V.blk
  have R1 := Lib.hid r1
  have R2' := Lib.hid r2
  have R3' : Hid (Elems G w vs s.recs) := r3
  have ONE := Lib.hid hone
  have GL := Lib.hid V.lt
  have HF : Hid (¬ s.room < ((b.length + 6 : Nat) : Int)) := hfit
  have HL := Lib.hid hfl
  have HRB := Lib.hid hb
  have HNA := Lib.hid hna
  have HVL := Lib.hid hvl
  generalize hsr : sappend d s b = rr at CALL ⊢
  clear hsr V hbk hfit hfl r1 r2 r3 hone hb hna hvl ok
  go_enter Try.func79, Try.ntmps79
  go_wp2_with fail
  refine FR.out.mono ?_
  rintro en w1 ⟨v1, rfl, o1, b1⟩
  obtain ⟨g1, c1, rfl⟩ := own_rec o1 (by have := HL.out; omega)
  have O1 := Lib.hid o1
  have B1 := Lib.hid b1
  clear o1 b1
  have hfi : ¬ s.room < ((frame b).length : Int) := by rw [HL.out]; have := HF.out; omega
  have hm6 : ((frame b).length : Int) = ((b.length + 6 : Nat) : Int) := by rw [HL.out]
  have hml : (frame b).length ≤ 5000 := by have := HL.out; omega
  have HM := Lib.hid hm6
  clear hm6
  generalize (frame b).length = m at *
  generalize s.room = rm at *
  go_wp2_with fail
  refine (RM.out w1 B1.out).mono ?_
  rintro en w2 ⟨rfl, b2⟩
  have B2 := Lib.hid (B1.out.trans (b2.mono B1.out.size))
  have O2 := Lib.hid (owns_below O1.out b2)
  have x2 := S1.out w2 B2.out
  have k0 : w2.cell? ⟨S, 0, none⟩ = some (.pointer (some ⟨B, 0, none⟩)) := Joins.cell_of_block x2 0
  have k1 : w2.cell? ⟨S, 1, none⟩ = some (.pointer (some ⟨A0, 0, none⟩)) := Joins.cell_of_block x2 1
  have k2 : w2.cell? ⟨S, 2, none⟩ = some (.pointer (some ⟨A1, 0, none⟩)) := Joins.cell_of_block x2 2
  have k3 : w2.cell? ⟨S, 3, none⟩ = some (.pointer (some ⟨AL, 0, none⟩)) := Joins.cell_of_block x2 3
  have k4 : w2.cell? ⟨S, 4, none⟩ = some (.int .i64 (s.h.slot : Int)) := Joins.cell_of_block x2 4
  have k5 : w2.cell? ⟨S, 5, none⟩ = some (.int .i64 (s.h.long : Int)) := Joins.cell_of_block x2 5
  have k6 : w2.cell? ⟨S, 6, none⟩ = some (.int .i64 (s.h.used : Int)) := Joins.cell_of_block x2 6
  have k7 : w2.cell? ⟨S, 7, none⟩ = some (.int .i64 (s.h.turn : Int)) := Joins.cell_of_block x2 7
  have k8 : w2.cell? ⟨S, 8, none⟩ = some (.slice ac s.check.length cc) := Joins.cell_of_block x2 8
  have k9 : w2.cell? ⟨S, 9, none⟩ = some (.slice ar s.recs.length cr) := Joins.cell_of_block x2 9
  have k10' : w2.cell? ⟨S, 10, none⟩ = some (.bool false) := (B2.out.cell (p := ⟨S, 10, none⟩) hSl).trans k10
  have hwr : (s.h.used : Int) + (m : Int) ≤ 9223372036854775807 := by omega
  obtain ⟨tt, htt'⟩ : ∃ tt, turnOf s.h = tt := ⟨_, rfl⟩
  have hti : ((s.h.turn : Int) + 1) % 4294967296 = (tt : Int) := by rw [← htt']; unfold turnOf; omega
  have RW2 := Lib.hid (owns_below R1.out B2.out)
  have sz2 := B2.out.size
  have hSl2 : S < w2.heap.size := by omega
  rw [htt'] at CALL
  clear b2 x2 htt' FR RM O1
  obtain ⟨wx, hwx⟩ : ∃ wx, w2.alloc (.cells #[.pointer (some ⟨B, 0, none⟩), .pointer (some ⟨A0, 0, none⟩), .pointer (some ⟨A1, 0, none⟩), .pointer (some ⟨AL, 0, none⟩), .int .i64 (s.h.slot : Int), .int .i64 (s.h.long : Int), .int .i64 ((s.h.used : Int) + (m : Int)), .int .i64 (tt : Int), .slice ac s.check.length cc, .slice ar s.recs.length cr, .bool false] 141) = wx := ⟨_, rfl⟩
  have szx : wx.heap.size = w2.heap.size + 1 := by rw [← hwx]; simp
  have xbx : wx.heap[w2.heap.size]? = some (.cells #[.pointer (some ⟨B, 0, none⟩), .pointer (some ⟨A0, 0, none⟩), .pointer (some ⟨A1, 0, none⟩), .pointer (some ⟨AL, 0, none⟩), .int .i64 (s.h.slot : Int), .int .i64 (s.h.long : Int), .int .i64 ((s.h.used : Int) + (m : Int)), .int .i64 (tt : Int), .slice ac s.check.length cc, .slice ar s.recs.length cr, .bool false] 141 (0, 0)) := by rw [← hwx]; exact heap_alloc_new w2 _
  have bwx : Below w2.heap.size w2 wx := by rw [← hwx]; exact below_alloc w2 _
  have RWX := Lib.hid (owns_below RW2.out bwx)
  have SZX := Lib.hid szx
  have XBX := Lib.hid xbx
  have BWX := Lib.hid bwx
  have HWX := Lib.hid hwx
  have k9x : wx.cell? ⟨S, 9, none⟩ = some (.slice ar s.recs.length cr) := (bwx.cell (p := ⟨S, 9, none⟩) hSl2).trans k9
  have hSlx : S < wx.heap.size := by omega
  clear szx xbx bwx
  go_wp2_with (first
    | (at_builtin; refine app_rows rfl (.tmp 43) (.tmp 47) rfl wx.heap.size (.slice (some ⟨wx.heap.size, 0, none⟩) 0 0) _ 0 s.recs.length 0 [] vs rfl (owns_rows0 _ rfl) rfl (RWX.out.alloc _) ONE.out (by omega) (by simp) ?_; intro v48 w48 o48 g48; have B48 := Lib.hid ((below_alloc wx (.cells #[] 22)).grown g48 (by simp) (fun j hj => by cases hj; exact Nat.le_refl _)); rw [Nat.zero_add, List.nil_append] at o48; have O48 := Lib.hid o48; clear o48 g48)
    | (at_builtin; refine app_bytes rfl (.tmp 49) (.tmp 50) rfl w48.heap.size (.slice (some ⟨w48.heap.size, 0, none⟩) 0 0) [] b cap rfl (owns_bytes w48 [] _ w48.heap.size w48.heap.size rfl (Nat.le_refl _) rfl (by unfold maxLen; simp)) a rfl (fun e => ⟨HNA.out e, List.eq_nil_of_length_eq_zero (by have := HNA.out e; omega)⟩) ((HRB.out.below (B2.out.trans ((BWX.out.trans (B48.out.mono (by rw [SZX.out]; omega))).mono sz2))).alloc _) (by simp; omega) (by simp) ?_; intro v51 w51 o51 b51 g51; rw [List.nil_append] at o51; have B51 := Lib.hid ((below_alloc w48 _).trans b51); have O51 := Lib.hid o51; obtain ⟨a51, c51, rfl⟩ := row_form o51; clear o51 b51 g51)
    | (at_builtin; refine app_row rfl (.tmp 48) (.tmp 52) rfl v48 (.slice a51 b.length c51) s.recs.length vs w51.heap.size rfl (owns_below (owns_below (ownsRow_base O48.out (Nat.zero_le _)) B51.out) (below_alloc w51 _)) rfl (cell_lit _ _ _ _ _ rfl) rfl (by omega) ?_; intro v53 w53 o53 g53 at53; obtain ⟨a6, c6, rfl⟩ := row_form o53; have B53 := Lib.hid (((B48.out.trans (B51.out.mono B48.out.size)).alloc (Nat.le_trans B48.out.size B51.out.size) _).grown g53 (Nat.le_trans (Nat.le_trans B48.out.size B51.out.size) (by simp)) (fun j hj => (O48.out.lt j hj).1)); have O53 := Lib.hid o53; have G53 := Lib.hid g53; have AT53 := Lib.hid at53; have xb := (B53.out.block w2.heap.size (by rw [SZX.out]; omega)).trans XBX.out; have XB := Lib.hid xb; have c9 := Joins.cell_of_block xb 9; have f9 := Joins.unfrozen_of_block xb 9; dsimp at c9; clear o53 g53 at53 xb))
  have sx := SZX.out
  have s48 := B48.out.size
  have s51 := B51.out.size
  have s53 : w51.heap.size + 1 ≤ w53.heap.size := by have := G53.out.size; simpa using this
  have B51w : Below w.heap.size w w51 := B2.out.trans (((BWX.out.trans (B48.out.mono (by omega))).trans (B51.out.mono (by omega))).mono sz2)
  have B53w : Below w2.heap.size w2 w53 := BWX.out.trans (B53.out.mono (by omega))
  obtain ⟨rg53, _⟩ := rows_snoc (H := fun k => G k ∨ (w.heap.size ≤ k ∧ k < w51.heap.size)) (b := b) (owns_below (ownsRow_base O48.out (Nat.zero_le _)) B51.out) (fun k hk => .inr (by have := O48.out.lt k hk; omega)) (fun i u l a c => ((R3'.out i u l a c).same (fun k hk hl => B51w.block k hl) (fun _ h => .inl h))) ⟨ownsRow_base O51.out (Nat.zero_le _), fun k hk => .inr (by have := O51.out.lt k hk; omega)⟩ (fun k hk => hk.elim (fun h => by have := GL.out k h; have := B51w.size; omega) (fun h => h.2)) _ O53.out G53.out AT53.out
  obtain ⟨W4, hW4⟩ : ∃ W4, w53.setCell ⟨w2.heap.size, 9, none⟩ (.slice a6 (s.recs.length + 1) c6) = W4 := ⟨_, rfl⟩
  have sz4 : W4.heap.size = w53.heap.size := by rw [← hW4]; simp
  have xb4 : W4.heap[w2.heap.size]? = some (.cells #[.pointer (some ⟨B, 0, none⟩), .pointer (some ⟨A0, 0, none⟩), .pointer (some ⟨A1, 0, none⟩), .pointer (some ⟨AL, 0, none⟩), .int .i64 (s.h.slot : Int), .int .i64 (s.h.long : Int), .int .i64 ((s.h.used : Int) + (m : Int)), .int .i64 (tt : Int), .slice ac s.check.length cc, .slice a6 (s.recs.length + 1) c6, .bool false] 141 (0, 0)) := by rw [← hW4]; exact Joins.block_setCell XB.out _
  have B4' : Below w2.heap.size w2 W4 := by rw [← hW4]; exact B53w.setCell (p := ⟨w2.heap.size, 9, none⟩) (Nat.le_refl _) _
  have B4 := Lib.hid (B2.out.trans (B4'.mono sz2))
  have hG4 : RowsG (fun k => G k ∨ (w.heap.size ≤ k ∧ k < W4.heap.size)) W4 (.slice a6 (s.recs.length + 1) c6) (s.recs ++ [b]) := by
    refine (rg53.rnot XB.out).same (fun k hk hl => ?_) (fun k hk => ?_)
    · rw [← hW4]; exact Below.heap_setCell _ _ _ _ hk.2
    · rcases hk.1 with (h | h) | h
      · exact .inl h
      · exact .inr (by omega)
      · exact .inr (by omega)
  have CL := Lib.hid (CALL.out W4.drew g1 c1 a6 c6 B4.out.drew (owns_below (owns_below O2.out B4') (Below.refl _ W4).drew) (hG4.same (fun k _ hl => (Below.refl _ W4).drew.block k hl) (fun _ h => h)))
  obtain ⟨S0, hS0⟩ : ∃ S0 : World → Prop, S0 = fun w' => w'.cell? ⟨S, 3, none⟩ = some (.pointer (some ⟨AL, 0, none⟩)) ∧ w'.heap[w2.heap.size]? = some (.cells #[.pointer (some ⟨B, 0, none⟩), .pointer (some ⟨A0, 0, none⟩), .pointer (some ⟨A1, 0, none⟩), .pointer (some ⟨AL, 0, none⟩), .int .i64 (s.h.slot : Int), .int .i64 (s.h.long : Int), .int .i64 ((s.h.used : Int) + (m : Int)), .int .i64 (tt : Int), .slice ac s.check.length cc, .slice a6 (s.recs.length + 1) c6, .bool false] 141 (0, 0)) := ⟨_, rfl⟩
  have hSS : Hid (∀ w', S0 w' → w'.cell? ⟨S, 3, none⟩ = some (.pointer (some ⟨AL, 0, none⟩)) ∧ w'.cell? ⟨w2.heap.size, 0, none⟩ = some (.pointer (some ⟨B, 0, none⟩)) ∧ w'.cell? ⟨w2.heap.size, 1, none⟩ = some (.pointer (some ⟨A0, 0, none⟩)) ∧ w'.cell? ⟨w2.heap.size, 2, none⟩ = some (.pointer (some ⟨A1, 0, none⟩)) ∧ w'.cell? ⟨w2.heap.size, 3, none⟩ = some (.pointer (some ⟨AL, 0, none⟩)) ∧ w'.cell? ⟨w2.heap.size, 4, none⟩ = some (.int .i64 (s.h.slot : Int)) ∧ w'.cell? ⟨w2.heap.size, 5, none⟩ = some (.int .i64 (s.h.long : Int)) ∧ w'.cell? ⟨w2.heap.size, 6, none⟩ = some (.int .i64 ((s.h.used : Int) + (m : Int))) ∧ w'.cell? ⟨w2.heap.size, 7, none⟩ = some (.int .i64 (tt : Int)) ∧ w'.cell? ⟨w2.heap.size, 8, none⟩ = some (.slice ac s.check.length cc) ∧ w'.cell? ⟨w2.heap.size, 9, none⟩ = some (.slice a6 (s.recs.length + 1) c6) ∧ w'.cell? ⟨w2.heap.size, 10, none⟩ = some (.bool false)) := fun w' hh => by
    rw [hS0] at hh
    obtain ⟨a, c⟩ := hh
    exact ⟨a, Joins.cell_of_block c 0, Joins.cell_of_block c 1, Joins.cell_of_block c 2, Joins.cell_of_block c 3, Joins.cell_of_block c 4, Joins.cell_of_block c 5, Joins.cell_of_block c 6, Joins.cell_of_block c 7, Joins.cell_of_block c 8, Joins.cell_of_block c 9, Joins.cell_of_block c 10⟩
  have s0 : S0 W4.drew := by rw [hS0]; exact ⟨Joins.cell_of_block (S1.out W4.drew B4.out.drew) 3, xb4⟩
  have SK : Hid (∀ w', SrKeep w W4.drew S A0 A1 AL w' → S0 w') := fun w' hk => by
    rw [hS0]
    exact ⟨hk.c3, (hk.keep w2.heap.size sz2 (Array.getElem?_eq_some_iff.1 xb4).1).trans xb4⟩
  have q6 : W4.drew.cell? ⟨S, 6, none⟩ = some (.int .i64 (s.h.used : Int)) := Joins.cell_of_block (S1.out W4.drew B4.out.drew) 6
  have HU : Hid ((s.h.used : Int) + (m : Int) = ((s.h.used + (b.length + 6) : Nat) : Int)) := by show _ = _; have := HM.out; omega
  have HW4 := Lib.hid hW4
  clear hS0 hW4 xb4 CALL hG4 B4' B51w B53w rg53 k0 k1 k2 k3 k4 k5 k6 k7 k8 k9 k10' k9x c9 f9 XB AT53 G53 O53 B53 O51 B51 O48 B48 hwx HWX XBX BWX RWX hti
  go_wp2_with fail
  refine wp_region_held (S := S0) (by kernel_rfl) ?_
  change wpAnyH _ _ _ _ _ _ _ _ (World.drew _)
  rw [HW4.out]
  refine wpAnyH_take (i := 0) (v := .pointer (some ⟨S, 0, none⟩)) rfl (by kernel_rfl) (by kernel_rfl) (by kernel_rfl) (fun _ _ _ h => h) (.inl ⟨by rfl, by intro w hw; go_simp⟩) s0 ?_
  try simp only [Act.put, List.getElem_toArray, List.getElem_cons_zero, List.getElem_cons_succ, List.setIfInBounds_toArray, List.set_cons_zero, List.set_cons_succ]
  refine wpAnyH_take (i := 1) (v := .pointer (some ⟨S, 0, none⟩)) rfl (by kernel_rfl) (by kernel_rfl) (by kernel_rfl) (fun _ _ _ h => h) (.inl ⟨by rfl, by intro w hw; go_simp⟩) s0 ?_
  try simp only [Act.put, List.getElem_toArray, List.getElem_cons_zero, List.getElem_cons_succ, List.setIfInBounds_toArray, List.set_cons_zero, List.set_cons_succ]
  refine wpAnyH_take (i := 2) (v := .pointer (some ⟨S, 0, none⟩)) rfl (by kernel_rfl) (by kernel_rfl) (by kernel_rfl) (fun _ _ _ h => h) (.inl ⟨by rfl, by intro w hw; go_simp⟩) s0 ?_
  try simp only [Act.put, List.getElem_toArray, List.getElem_cons_zero, List.getElem_cons_succ, List.setIfInBounds_toArray, List.set_cons_zero, List.set_cons_succ]
  refine wpAnyH_take (i := 3) (v := .pointer (some ⟨S, 3, none⟩)) rfl (by kernel_rfl) (by kernel_rfl) (by kernel_rfl) (fun _ _ _ h => h) (.inl ⟨by rfl, by intro w hw; go_simp⟩) s0 ?_
  try simp only [Act.put, List.getElem_toArray, List.getElem_cons_zero, List.getElem_cons_succ, List.setIfInBounds_toArray, List.set_cons_zero, List.set_cons_succ]
  refine wpAnyH_take (i := 4) (v := .pointer (some ⟨AL, 0, none⟩)) rfl (by kernel_rfl) (by kernel_rfl) (by kernel_rfl) (fun _ _ _ h => h) (.inl ⟨by rfl, by intro w' hw; have h := hSS.out w' hw; obtain ⟨q0, q1, q2, q3, q4, q5, q6, q7, q8, q9, q10, q11⟩ := h; go_simp⟩) s0 ?_
  try simp only [Act.put, List.getElem_toArray, List.getElem_cons_zero, List.getElem_cons_succ, List.setIfInBounds_toArray, List.set_cons_zero, List.set_cons_succ]
  refine wpAnyH_take (i := 5) (v := .pointer (some ⟨S, 0, none⟩)) rfl (by kernel_rfl) (by kernel_rfl) (by kernel_rfl) (fun _ _ _ h => h) (.inl ⟨by rfl, by intro w hw; go_simp⟩) s0 ?_
  try simp only [Act.put, List.getElem_toArray, List.getElem_cons_zero, List.getElem_cons_succ, List.setIfInBounds_toArray, List.set_cons_zero, List.set_cons_succ]
  refine wpAnyH_take (i := 6) (v := .pointer (some ⟨S, 0, none⟩)) rfl (by kernel_rfl) (by kernel_rfl) (by kernel_rfl) (fun _ _ _ h => h) (.inl ⟨by rfl, by intro w hw; go_simp⟩) s0 ?_
  try simp only [Act.put, List.getElem_toArray, List.getElem_cons_zero, List.getElem_cons_succ, List.setIfInBounds_toArray, List.set_cons_zero, List.set_cons_succ]
  refine wpAnyH_take (i := 7) (v := .pointer (some ⟨S, 6, none⟩)) rfl (by kernel_rfl) (by kernel_rfl) (by kernel_rfl) (fun _ _ _ h => h) (.inl ⟨by rfl, by intro w hw; go_simp⟩) s0 ?_
  try simp only [Act.put, List.getElem_toArray, List.getElem_cons_zero, List.getElem_cons_succ, List.setIfInBounds_toArray, List.set_cons_zero, List.set_cons_succ]
  refine wpAnyH_take (i := 9) (v := .slice (some ⟨g1, 0, none⟩) m c1) rfl (by kernel_rfl) (by kernel_rfl) (by kernel_rfl) (fun _ _ _ h => h) (.inl ⟨by rfl, by intro w hw; go_simp⟩) s0 ?_
  try simp only [Act.put, List.getElem_toArray, List.getElem_cons_zero, List.getElem_cons_succ, List.setIfInBounds_toArray, List.set_cons_zero, List.set_cons_succ]
  refine wpAnyH_take (i := 10) (v := .agg #[.pointer (some ⟨B, 0, none⟩), .pointer (some ⟨A0, 0, none⟩), .pointer (some ⟨A1, 0, none⟩), .pointer (some ⟨AL, 0, none⟩), .int .i64 (s.h.slot : Int), .int .i64 (s.h.long : Int), .int .i64 ((s.h.used : Int) + (m : Int)), .int .i64 (tt : Int), .slice ac s.check.length cc, .slice a6 (s.recs.length + 1) c6, .bool false]) rfl (by kernel_rfl) (by kernel_rfl) (by kernel_rfl) (fun _ _ _ h => h) (.inl ⟨by rfl, by intro w' hw; have h := hSS.out w' hw; obtain ⟨q0, q1, q2, q3, q4, q5, q6, q7, q8, q9, q10, q11⟩ := h; go_simp⟩) s0 ?_
  try simp only [Act.put, List.getElem_toArray, List.getElem_cons_zero, List.getElem_cons_succ, List.setIfInBounds_toArray, List.set_cons_zero, List.set_cons_succ]
  refine wpAnyH_one (i := 8) (by kernel_rfl) rfl (by rfl) (fun Kc hK => ?_)
  go_simp
  refine hK _ _ s0 ?_
  clear hK Kc
  try simp only [Act.put, List.getElem_toArray, List.getElem_cons_zero, List.getElem_cons_succ, List.setIfInBounds_toArray, List.set_cons_zero, List.set_cons_succ]
  refine wpAnyH_one (i := 11) (by kernel_rfl) rfl (by rfl) (fun Kc hK => ?_)
  go_simp
  rw [HU.out]
  refine (CL.out.mono ?_)
  rintro en w5 ⟨h4', k4'⟩
  have h4 : en = .returned (.int .i64 rr.2.2) ∧ SrorOf F G w S B rr.1 rr.2.1 rr.2.2 en w5 := ⟨h4'.1, h4'⟩
  obtain ⟨rfl, _⟩ := h4'
  go_simp
  refine hK _ _ (SK.out _ k4') ?_
  clear hK Kc
  try simp only [Act.put, List.getElem_toArray, List.getElem_cons_zero, List.getElem_cons_succ, List.setIfInBounds_toArray, List.set_cons_zero, List.set_cons_succ]
  refine wpAnyH_take (i := 12) (v := .int .i64 rr.2.2) rfl (by kernel_rfl) (by kernel_rfl) (by kernel_rfl) (fun _ _ _ h => h) (.inl ⟨by rfl, by intro w hw; go_simp⟩) (SK.out _ k4') ?_
  try simp only [Act.put, List.getElem_toArray, List.getElem_cons_zero, List.getElem_cons_succ, List.setIfInBounds_toArray, List.set_cons_zero, List.set_cons_succ]
  refine wpAnyH_done (by kernel_rfl) ?_ _
  have E4 := Lib.hid h4
  clear h4 s0 hSS SK q6
  go_wp2_with fail
  go_ret
  exact E4.out.2
end Go.Proofs.Ytopemjbakpahfaa
