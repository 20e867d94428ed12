/-
  Contracts and plain laws, part 27 (texts: S6, S7, OpenF, TornL, SP1). No condition but what each states.
-/
import Derived.Test.YtopemjbakpahfaaSn26
/-
  Steps of a store's safe writing: put, sync, write the head, sync. No condition but that the numbers are small.
-/
namespace Go.Proofs.Ytopemjbakpahfaa
open Go.RowKit Disk Jour Crc Slot
set_option linter.unusedSimpArgs false
set_option linter.unusedVariables false
/-- The device, behind some calls; the world but for it. -/
def DJ (F : Nat → Prop) (w1 : World) (B : Nat) (d : Dev) (W : World) : Prop := Frm F w1 W ∧ ∃ G, IsDev G W B d ∧ ∀ k, G k → F k ∨ w1.heap.size ≤ k
theorem DJ.start {F : Nat → Prop} {w : World} {B : Nat} {d : Dev} (h : IsDev F w B d) : DJ F w B d w := ⟨Frm.refl _ _, F, h, fun k hk => .inl hk⟩
theorem DJ.below {F : Nat → Prop} {w1 W W' : World} {B : Nat} {d : Dev} (h : DJ F w1 B d W) (hb : Below W.heap.size W W') : DJ F w1 B d W' := by
  obtain ⟨h1, G, h2, h3⟩ := h
  exact ⟨h1.trans (Frm.of_below (F := F) hb) (fun k hk => .inl hk), G, h2.below hb, h3⟩
theorem DJ.blk {F : Nat → Prop} {w1 W : World} {B : Nat} {d : Dev} (h : DJ F w1 B d W) {k : Nat} {o : Obj} (ho : w1.heap[k]? = some o) (hk : ¬ F k) : W.heap[k]? = some o :=
  (h.1.block k (Array.getElem?_eq_some_iff.1 ho).1 hk).trans ho
theorem DJ.call {F : Nat → Prop} {w1 W : World} {B : Nat} {d e : Dev} {f : FuncId} {args : Array Value} {v : Value} (h : DJ F w1 B d W)
    (hc : ∀ G, IsDev G W B d → (∀ k, G k → F k ∨ w1.heap.size ≤ k) → Calls Try.prog f args W (DevOf G W B e v)) : Calls Try.prog f args W (fun en W' => en = .returned v ∧ DJ F w1 B e W') := by
  obtain ⟨h1, G, h2, h3⟩ := h
  refine (hc G h2 h3).mono ?_
  rintro en W' ⟨he, hf, hd⟩
  exact ⟨he, h1.trans hf h3, _, hd, fun k hk => hk.elim (h3 k) (fun h => .inr (Nat.le_trans h1.size h.1))⟩
theorem DJ.fin {F : Nat → Prop} {w1 W : World} {B : Nat} {d : Dev} (h : DJ F w1 B d W) (hF : ∀ k, F k → k < w1.heap.size) : Frm F w1 W ∧ IsDev (Grow F w1 W) W B d := by
  obtain ⟨h1, G, h2, h3⟩ := h
  exact ⟨h1, h2.mono (fun k hk => (h3 k hk).imp_right (fun h => ⟨h, h2.lt k hk⟩)) (fun k hk => hk.elim (fun h => Nat.lt_of_lt_of_le (hF k h) h1.size) (·.2))⟩
theorem putStep_any {F : Nat → Prop} {w1 W : World} {B : Nat} {d : Dev} (h : DJ F w1 B d W) {A first N : Nat} (hA : IsArea w1 A B first N) (hAF : ¬ F A) (p : Int) (b : List UInt8) (g off cap : Nat) (hlc : b.length ≤ cap) (hb : RB w1 (some ⟨g, off, none⟩) b) (hg : ¬ F g) (hgl : g < w1.heap.size)
    (hp : d.pend.length + b.length ≤ 100000) (hw : d.writes + b.length ≤ 100000) (hf : N = 0 ∨ first ≤ 1024) {qa qp qb : Nat} (ha : Boxed w1 qa 69 (.pointer (some ⟨A, 0, none⟩))) (hap : Boxed w1 qp 3 (.int .i64 p)) (hbb : Boxed w1 qb 22 (.slice (some ⟨g, off, none⟩) b.length cap))
    (fa : ¬ F qa) (fp : ¬ F qp) (fb : ¬ F qb) :
    Calls Try.prog 109 #[.pointer (some ⟨qa, 0, none⟩), .pointer (some ⟨qp, 0, none⟩), .pointer (some ⟨qb, 0, none⟩)] W (fun en W' => en = .returned (.int .i64 (jput d first N p b).2) ∧ DJ F w1 B (jput d first N p b).1 W') := by
  have a1 : Boxed W qa 69 (.pointer (some ⟨A, 0, none⟩)) := h.blk ha fa
  have a2 : Boxed W qp 3 (.int .i64 p) := h.blk hap fp
  have a3 : Boxed W qb 22 (.slice (some ⟨g, off, none⟩) b.length cap) := h.blk hbb fb
  have c1 := a1.cell
  have c2 := a2.cell
  have c3 := a3.cell
  have PC := Lib.hid (h.call (f := 54) (args := #[.pointer (some ⟨A, 0, none⟩), .int .i64 p, .slice (some ⟨g, off, none⟩) b.length cap]) (v := .int .i64 (jput d first N p b).2) (e := (jput d first N p b).1) (fun G hG hGF => by
    have hgG : ¬ G g := fun hx => (hGF g hx).elim hg (fun hx => by omega)
    have hAG : ¬ G A := fun hx => (hGF A hx).elim hAF (fun hx => by have := hA.lt; omega)
    exact put_any hG (hA.same (h.1.block A hA.lt hAF)) hAG p b _ cap (fun e => by cases e) hlc (fun w' hf => RB.frm (RB.frm hb h.1 hg) hf hgG) hp hw hf))
  clear a1 a2 a3 h
  go_enter Try.func109, Try.ntmps109
  go_wp2_with fail
  refine (PC.out).mono ?_
  rintro en W2 ⟨rfl, h2⟩
  have H2 := Lib.hid h2
  clear h2
  go_wp2_with fail
  go_ret
  exact ⟨rfl, H2.out⟩
theorem syncStep_any {F : Nat → Prop} {w1 W : World} {B : Nat} {d : Dev} (h : DJ F w1 B d W) (hp : d.pend.length ≤ 100000) (hy : d.syncs ≤ 100000) :
    Calls Try.prog 35 #[.pointer (some ⟨B, 0, none⟩)] W (fun en W' => en = .returned (.int .i64 d.sync.2) ∧ DJ F w1 B d.sync.1 W') :=
  h.call (fun G hG _ => sync_any hG hp hy)
/-- Steps, one behind the other, up to the first error. -/
def StepsOf (J : World → Prop) (X : Int → World → Prop) (en : Ending) (w' : World) : Prop := ∃ e : Int, en = .returned (.int .i64 e) ∧ ((e = 0 ∧ J w') ∨ (e ≠ 0 ∧ X e w'))
def fnV (f : FuncId) (b c : Array Value) : Value := .func (.func f) b c
set_option maxHeartbeats 1000000 in
theorem steps_any {A qa qp qb qs qh B : Nat} (J : Nat → World → Prop) (X : Int → World → Prop)
    (blk : ∀ i w', J i w' → w'.heap[A]? = some (.cells #[.func (.func 109) #[] #[.pointer (some ⟨qa, 0, none⟩), .pointer (some ⟨qp, 0, none⟩), .pointer (some ⟨qb, 0, none⟩)], .func (.func 35) #[.pointer (some ⟨B, 0, none⟩)] #[], .func (.func 110) #[] #[.pointer (some ⟨qs, 0, none⟩), .pointer (some ⟨qh, 0, none⟩)], .func (.func 35) #[.pointer (some ⟨B, 0, none⟩)] #[]] 41 (0, 0)))
    (h0 : ∀ w', J 0 w' → Calls Try.prog 109 #[.pointer (some ⟨qa, 0, none⟩), .pointer (some ⟨qp, 0, none⟩), .pointer (some ⟨qb, 0, none⟩)] w' (StepsOf (J 1) X))
    (h1 : ∀ w', J 1 w' → Calls Try.prog 35 #[.pointer (some ⟨B, 0, none⟩)] w' (StepsOf (J 2) X))
    (h2 : ∀ w', J 2 w' → Calls Try.prog 110 #[.pointer (some ⟨qs, 0, none⟩), .pointer (some ⟨qh, 0, none⟩)] w' (StepsOf (J 3) X))
    (h3 : ∀ w', J 3 w' → Calls Try.prog 35 #[.pointer (some ⟨B, 0, none⟩)] w' (StepsOf (J 4) X)) (w : World) (hJ : J 0 w) :
    Calls Try.prog 112 #[.slice (some ⟨A, 0, none⟩) 4 4] w (StepsOf (J 4) X) := by
  have H0 := Lib.hid h0
  have H1 := Lib.hid h1
  have H2 := Lib.hid h2
  have H3 := Lib.hid h3
  have BL := Lib.hid blk
  have I0 := Lib.hid hJ
  clear h0 h1 h2 h3 blk hJ
  go_enter Try.func112, Try.ntmps112
  go_wp2_with fail
  go_loopw [8] (fun iv wr => ∃ i : Nat, iv = .int .i64 i ∧ i ≤ 4 ∧ J i wr) (fun iv _ => 4 - (intOf iv).toNat)
  case atStart => exact ⟨0, rfl, by omega, I0.out⟩
  case round =>
    obtain ⟨i, rfl, hi, hJ⟩ := hrel
    have hb := BL.out i wr hJ
    have c0 := Joins.cell_of_block hb 0
    have c1 := Joins.cell_of_block hb 1
    have c2 := Joins.cell_of_block hb 2
    have c3 := Joins.cell_of_block hb 3
    dsimp at c0 c1 c2 c3
    have JJ := Lib.hid hJ
    clear hb hJ
    rcases (by omega : i = 0 ∨ i = 1 ∨ i = 2 ∨ i = 3 ∨ i = 4) with rfl | rfl | rfl | rfl | rfl
    · clear c1 c2 c3
      go_wp2_with fail
      refine (H0.out wr JJ.out).mono ?_
      rintro en w2 ⟨e, rfl, ⟨rfl, hj⟩ | ⟨hne, hx⟩⟩
      · have J2 := Lib.hid hj
        clear hj c0
        go_wp2_with fail
        go_roundw
        case rel => exact ⟨1, rfl, by omega, J2.out⟩
        case measure => simp [intOf]
      · have hb : ((e : Int) != 0) = true := by rw [bne_iff_ne]; exact hne
        have HX := Lib.hid hx
        have HN := Lib.hid hne
        clear hx hne c0
        go_wp2_with fail
        go_ret
        exact ⟨e, rfl, .inr ⟨HN.out, HX.out⟩⟩
    · clear c2 c3 c0
      go_wp2_with fail
      refine (H1.out wr JJ.out).mono ?_
      rintro en w2 ⟨e, rfl, ⟨rfl, hj⟩ | ⟨hne, hx⟩⟩
      · have J2 := Lib.hid hj
        clear hj c1
        go_wp2_with fail
        go_roundw
        case rel => exact ⟨2, rfl, by omega, J2.out⟩
        case measure => simp [intOf]
      · have hb : ((e : Int) != 0) = true := by rw [bne_iff_ne]; exact hne
        have HX := Lib.hid hx
        have HN := Lib.hid hne
        clear hx hne c1
        go_wp2_with fail
        go_ret
        exact ⟨e, rfl, .inr ⟨HN.out, HX.out⟩⟩
    · clear c3 c0 c1
      go_wp2_with fail
      refine (H2.out wr JJ.out).mono ?_
      rintro en w2 ⟨e, rfl, ⟨rfl, hj⟩ | ⟨hne, hx⟩⟩
      · have J2 := Lib.hid hj
        clear hj c2
        go_wp2_with fail
        go_roundw
        case rel => exact ⟨3, rfl, by omega, J2.out⟩
        case measure => simp [intOf]
      · have hb : ((e : Int) != 0) = true := by rw [bne_iff_ne]; exact hne
        have HX := Lib.hid hx
        have HN := Lib.hid hne
        clear hx hne c2
        go_wp2_with fail
        go_ret
        exact ⟨e, rfl, .inr ⟨HN.out, HX.out⟩⟩
    · clear c0 c1 c2
      go_wp2_with fail
      refine (H3.out wr JJ.out).mono ?_
      rintro en w2 ⟨e, rfl, ⟨rfl, hj⟩ | ⟨hne, hx⟩⟩
      · have J2 := Lib.hid hj
        clear hj c3
        go_wp2_with fail
        go_roundw
        case rel => exact ⟨4, rfl, by omega, J2.out⟩
        case measure => simp [intOf]
      · have hb : ((e : Int) != 0) = true := by rw [bne_iff_ne]; exact hne
        have HX := Lib.hid hx
        have HN := Lib.hid hne
        clear hx hne c3
        go_wp2_with fail
        go_ret
        exact ⟨e, rfl, .inr ⟨HN.out, HX.out⟩⟩
    · clear c0 c1 c2 c3
      go_wp2_with fail
      go_ret
      exact ⟨0, rfl, .inl ⟨rfl, JJ.out⟩⟩
end Go.Proofs.Ytopemjbakpahfaa
/-
  A store's safe writing: the walk. No condition but that the numbers are small.
-/
namespace Go.Proofs.Ytopemjbakpahfaa
open Go.RowKit Disk Jour Crc Slot
set_option linter.unusedSimpArgs false
set_option linter.unusedVariables false
theorem DJ.next {F G : Nat → Prop} {w1 W W' : World} {B : Nat} {e : Dev} {v : Value} {en : Ending} (h1 : Frm F w1 W) (h3 : ∀ k, G k → F k ∨ w1.heap.size ≤ k) (h : DevOf G W B e v en W') : en = .returned v ∧ DJ F w1 B e W' := by
  obtain ⟨he, hf, hd⟩ := h
  exact ⟨he, h1.trans hf h3, _, hd, fun k hk => hk.elim (h3 k) (fun h => .inr (Nat.le_trans h1.size h.1))⟩
def hcells (h : Hd) : Array Value := #[.int .i64 (h.slot : Int), .int .i64 (h.long : Int), .int .i64 (h.used : Int), .int .i64 (h.turn : Int)]
set_option maxHeartbeats 2000000 in
theorem tellStep_any {F : Nat → Prop} {w1 W : World} {B : Nat} {d : Dev} (h : DJ F w1 B d W) {qs qh S : Nat} {C : Array Value} (hd : Hd) (h0 : hd.slot < 2) (h1 : hd.long < 4294967296) (h2 : hd.used < 4294967296) (h3 : hd.turn < 4294967296)
    (hs : Boxed w1 qs 82 (.pointer (some ⟨S, 0, none⟩))) (hS : w1.heap[S]? = some (.cells C 134 (0, 0))) (hC : C[0]? = some (.pointer (some ⟨B, 0, none⟩))) (hh : w1.heap[qh]? = some (.cells (hcells hd) 132 (0, 0))) (fs : ¬ F qs) (fS : ¬ F S) (fh : ¬ F qh)
    (hp : d.pend.length ≤ 100000) (hw : d.writes ≤ 100000) :
    Calls Try.prog 110 #[.pointer (some ⟨qs, 0, none⟩), .pointer (some ⟨qh, 0, none⟩)] W (fun en W' => en = .returned (.int .i64 (d.write 0 (hbytes hd)).2) ∧ DJ F w1 B (d.write 0 (hbytes hd)).1 W') := by
  obtain ⟨hF, G, hG, hGF⟩ := h
  have HF := Lib.hid hF
  have HG := Lib.hid hG
  have GF := Lib.hid hGF
  have HBY := Lib.hid (hbytes_any hd W.drew h0 h1 h2 h3)
  have WR : Hid (∀ (W2 : World) (g c : Nat), Below W.drew.heap.size W.drew W2 → W2.ownsRow W.drew.heap.size 5 1 (.slice (some ⟨g, 0, none⟩) 19 c) 19 ((hbytes hd).map byteV) → Calls Try.prog 34 #[.pointer (some ⟨B, 0, none⟩), .int .i64 0, .slice (some ⟨g, 0, none⟩) 19 c] W2 (fun en W' => en = .returned (.int .i64 (d.write 0 (hbytes hd)).2) ∧ DJ F w1 B (d.write 0 (hbytes hd)).1 W')) := fun W2 g c hb ho => by
    have hb' : Below W.heap.size W W2 := (Below.refl _ W).drew.trans hb
    have hg := (ho.lt g rfl).1
    have := write_any (hG.below hb') 0 (hbytes hd) (some ⟨g, 0, none⟩) c (by rw [hbytes_length]; decide) (fun e => by cases e) (fun w' hf => RB.frm (rb_mk ho) hf (fun hx => by have := hG.lt g hx; simp at hg; omega)) hp hw
    rw [hbytes_length] at this
    exact this.mono (fun en W' h => DJ.next (hF.trans (Frm.of_below (F := F) hb') (fun k hk => .inl hk)) hGF h)
  generalize hbytes hd = hb at HBY WR ⊢
  obtain ⟨S0, hS0⟩ : ∃ S0 : World → Prop, S0 = fun w' => w'.heap[qs]? = some (.cells #[.pointer (some ⟨S, 0, none⟩)] 82 (0, 0)) ∧ w'.heap[S]? = some (.cells C 134 (0, 0)) ∧ w'.heap[qh]? = some (.cells (hcells hd) 132 (0, 0)) := ⟨_, rfl⟩
  have hSS : Hid (∀ w', S0 w' → w'.cell? ⟨qs, 0, none⟩ = some (.pointer (some ⟨S, 0, none⟩)) ∧ w'.cell? ⟨S, 0, none⟩ = some (.pointer (some ⟨B, 0, none⟩)) ∧ w'.cell? ⟨qh, 0, none⟩ = some (.int .i64 (hd.slot : Int)) ∧ w'.cell? ⟨qh, 1, none⟩ = some (.int .i64 (hd.long : Int)) ∧ w'.cell? ⟨qh, 2, none⟩ = some (.int .i64 (hd.used : Int)) ∧ w'.cell? ⟨qh, 3, none⟩ = some (.int .i64 (hd.turn : Int))) := fun w' h => by
    rw [hS0] at h
    obtain ⟨a, b, c⟩ := h
    exact ⟨Joins.cell_of_block a 0, (cell_of_row _ _ 0 _ 134 (0, 0) b).trans hC, Joins.cell_of_block c 0, Joins.cell_of_block c 1, Joins.cell_of_block c 2, Joins.cell_of_block c 3⟩
  have SF : Hid (∀ w', Frm F w1 w' → S0 w') := fun w' hf => by
    rw [hS0]
    exact ⟨(hf.block qs (Array.getElem?_eq_some_iff.1 hs).1 fs).trans hs, (hf.block S (Array.getElem?_eq_some_iff.1 hS).1 fS).trans hS, (hf.block qh (Array.getElem?_eq_some_iff.1 hh).1 fh).trans hh⟩
  have s0 : S0 W.drew := SF.out _ (hF.trans (Frm.of_below (F := F) (Below.refl _ W).drew) (fun k hk => .inl hk))
  clear hF hG hGF hS0 hs hS hC hh
  go_enter Try.func110, Try.ntmps110
  go_wp2_with fail
  refine wp_region_held (S := S0) (by kernel_rfl) ?_
  change wpAnyH _ _ _ _ _ _ _ _ (World.drew _)
  refine wpAnyH_take (i := 0) (v := .pointer (some ⟨S, 0, none⟩)) rfl (by kernel_rfl) (by kernel_rfl) (by kernel_rfl) (fun _ _ _ h => h) (.inl ⟨by rfl, by intro w hw; have h := hSS.out w hw; obtain ⟨q0, q1, q2, q3, q4, q5⟩ := h; go_simp⟩) s0 ?_
  try simp only [Act.put, List.getElem_toArray, List.getElem_cons_zero, List.getElem_cons_succ, List.setIfInBounds_toArray, List.set_cons_zero, List.set_cons_succ]
  refine wpAnyH_take (i := 1) (v := .pointer (some ⟨S, 0, none⟩)) rfl (by kernel_rfl) (by kernel_rfl) (by kernel_rfl) (fun _ _ _ h => h) (.inl ⟨by rfl, by intro w hw; go_simp⟩) s0 ?_
  try simp only [Act.put, List.getElem_toArray, List.getElem_cons_zero, List.getElem_cons_succ, List.setIfInBounds_toArray, List.set_cons_zero, List.set_cons_succ]
  refine wpAnyH_take (i := 2) (v := .pointer (some ⟨S, 0, none⟩)) rfl (by kernel_rfl) (by kernel_rfl) (by kernel_rfl) (fun _ _ _ h => h) (.inl ⟨by rfl, by intro w hw; go_simp⟩) s0 ?_
  try simp only [Act.put, List.getElem_toArray, List.getElem_cons_zero, List.getElem_cons_succ, List.setIfInBounds_toArray, List.set_cons_zero, List.set_cons_succ]
  refine wpAnyH_take (i := 3) (v := .pointer (some ⟨B, 0, none⟩)) rfl (by kernel_rfl) (by kernel_rfl) (by kernel_rfl) (fun _ _ _ h => h) (.inl ⟨by rfl, by intro w hw; have h := hSS.out w hw; obtain ⟨q0, q1, q2, q3, q4, q5⟩ := h; go_simp⟩) s0 ?_
  try simp only [Act.put, List.getElem_toArray, List.getElem_cons_zero, List.getElem_cons_succ, List.setIfInBounds_toArray, List.set_cons_zero, List.set_cons_succ]
  refine wpAnyH_take (i := 4) (v := .agg #[.int .i64 (hd.slot : Int), .int .i64 (hd.long : Int), .int .i64 (hd.used : Int), .int .i64 (hd.turn : Int)]) rfl (by kernel_rfl) (by kernel_rfl) (by kernel_rfl) (fun _ _ _ h => h) (.inl ⟨by rfl, by intro w hw; have h := hSS.out w hw; obtain ⟨q0, q1, q2, q3, q4, q5⟩ := h; go_simp⟩) s0 ?_
  try simp only [Act.put, List.getElem_toArray, List.getElem_cons_zero, List.getElem_cons_succ, List.setIfInBounds_toArray, List.set_cons_zero, List.set_cons_succ]
  refine wpAnyH_one (i := 5) (by kernel_rfl) rfl (by rfl) (fun Kc hK => ?_)
  go_simp
  refine (HBY.out).mono ?_
  rintro en w2 ⟨v2, rfl, o2, b2⟩
  obtain ⟨g2, c2, rfl⟩ := own_rec o2 (by decide)
  have f2 : Frm F w1 w2 := (HF.out.trans (Frm.of_below (F := F) (Below.refl _ W).drew) (fun k hk => .inl hk)).trans (Frm.of_below (F := F) b2) (fun k hk => .inl hk)
  go_simp
  refine hK _ _ (SF.out _ f2) ?_
  clear hK Kc
  try simp only [Act.put, List.getElem_toArray, List.getElem_cons_zero, List.getElem_cons_succ, List.setIfInBounds_toArray, List.set_cons_zero, List.set_cons_succ]
  refine wpAnyH_one (i := 6) (by kernel_rfl) rfl (by rfl) (fun Kc hK => ?_)
  go_simp
  refine (WR.out w2 g2 c2 b2 o2).mono ?_
  rintro en w3 ⟨rfl, h3'⟩
  go_simp
  refine hK _ _ (SF.out _ h3'.1) ?_
  clear hK Kc
  try simp only [Act.put, List.getElem_toArray, List.getElem_cons_zero, List.getElem_cons_succ, List.setIfInBounds_toArray, List.set_cons_zero, List.set_cons_succ]
  refine wpAnyH_take (i := 7) (v := .int .i64 (d.write 0 hb).2) rfl (by kernel_rfl) (by kernel_rfl) (by kernel_rfl) (fun _ _ _ h => h) (.inl ⟨by rfl, by intro w hw; go_simp⟩) (SF.out _ h3'.1) ?_
  try simp only [Act.put, List.getElem_toArray, List.getElem_cons_zero, List.getElem_cons_succ, List.setIfInBounds_toArray, List.set_cons_zero, List.set_cons_succ]
  refine wpAnyH_done (by kernel_rfl) ?_ _
  have H3 := Lib.hid h3'
  clear s0 hSS SF h3'
  go_wp2_with fail
  go_ret
  exact ⟨rfl, H3.out⟩
end Go.Proofs.Ytopemjbakpahfaa
/-
  Opening an argument of a law: a row of numbers. No condition.
-/
namespace Go.Proofs.Ytopemjbakpahfaa
open Go.ChangeShapes Go.WideShapes Go.ChangeAt Go.RowKit Go.Deep
section
variable {H : Type} {enc : TypeId × Value → H} {P : Program} {w : World} {base : Nat} {spare : Nat → Bool} {held : Bool}
theorem open_nums {r : Reach} {b0 : Nat} {t e : TypeId} {v : Value} {d : DataW H} {p : List MemPlace} (ht : P.underlying t = some (.slice e)) (he : P.underlying e = some (.int .i64)) (hE : P.cellsOf e = 1)
    (hv : Value.okWide P w r b0 t v) (h : DataW.Trod enc P w 0 (fun _ => true) held t v d p) :
    ∃ (l : List Int) (a : Option Addr) (cap : Nat), v = .slice a l.length cap ∧ l.length ≤ cap ∧ cap ≤ maxLen ∧ (a = none → cap = 0) ∧ RI w a l ∧ ∀ x ∈ l, -9223372036854775808 ≤ x ∧ x ≤ 9223372036854775807 := by
  obtain ⟨a0, len0, cap0, rfl⟩ := okWide_slice ht hv
  obtain ⟨fuel, hf⟩ := h
  rcases open_ints ht he hE hf with ⟨hcs, _⟩ | ⟨x, l, c, zs, hcs, _, hl, hm, hz, _, hcell, hwz⟩
  · simp [Value.cells] at hcs
    obtain ⟨rfl, rfl, rfl⟩ := hcs
    exact ⟨[], none, 0, rfl, Nat.le_refl _, Nat.zero_le _, fun _ => rfl, fun i hi => absurd hi (by simp), fun x hx => by simp at hx⟩
  · simp [Value.cells] at hcs
    obtain ⟨rfl, rfl, rfl⟩ := hcs
    have hz : zs.length = cap0 := by simpa using hz
    have hlen : (zs.take len0).length = len0 := by simp; omega
    refine ⟨zs.take len0, some x, cap0, by rw [hlen], by omega, hm, fun e => (by cases e), ?_, fun y hy => wf_i64 (hwz y (List.mem_of_mem_take hy))⟩
    intro i hi
    rw [hlen] at hi
    have h0 := hcell 0 (by omega)
    obtain ⟨g, off, spot⟩ := x
    have hspot : spot = none := by simpa [Addr.add] using World.cell?_spot h0
    subst hspot
    refine ⟨g, off, rfl, World.block_lt_of_cell? w _ h0, ?_⟩
    have h := hcell i (by omega)
    rw [Addr.add_lit] at h
    rw [h]
    simp [List.getD, hi]
end
end Go.Proofs.Ytopemjbakpahfaa
/-
  JournalTorn: the plain law and the walk, for all places, bytes, stops and sectors that are kept. No condition.
-/
namespace Go.Proofs.Ytopemjbakpahfaa
open Go.RowKit Disk Jour
theorem overs_cases (k : Nat) : ∀ (ps : List (Nat × List UInt8)) (s : List UInt8), ps.foldl (over k) s = s ∨ ∃ q ∈ ps, q.1 = k ∧ ps.foldl (over k) s = q.2 := by
  intro ps
  induction ps with
  | nil => intro s; exact .inl rfl
  | cons p ps ih =>
    intro s
    rw [List.foldl_cons]
    rcases ih (over k s p) with h | ⟨q, hq, h1, h2⟩
    · rw [h]
      unfold over
      by_cases hp : p.1 = k
      · exact .inr ⟨p, by simp, hp, by rw [if_pos hp]⟩
      · exact .inl (by rw [if_neg hp])
    · exact .inr ⟨q, by simp [hq], h1, h2⟩
/-- What a place is to hold. -/
def wantB (was : List UInt8) (p : Nat) (b : List UInt8) (i : Nat) : UInt8 := if (p ≤ i ∧ i < p + b.length) ∧ p + b.length ≤ 256 then b.getD (i - p) 0 else was.getD i 0
def tornD (d : Dev) (stop : Int) (p : Nat) (b : List UInt8) (keep : List Int) : Dev := ((jput (d.arm stop) 0 8 p b).1.restart keep).1
theorem jput_bound (d : Dev) (first N : Nat) (p : Int) (b : List UInt8) : (jput d first N p b).1.pend.length ≤ d.pend.length + b.length ∧ (jput d first N p b).1.kept = d.kept ∧ (jput d first N p b).1.writes ≤ d.writes + b.length ∧ (jput d first N p b).1.syncs = d.syncs := by
  unfold jput
  split
  · exact ⟨Nat.le_add_right _ _, rfl, Nat.le_add_right _ _, rfl⟩
  · split
    · have h := putParts_bound b (parts (32 * first + p.toNat) b.length b.length 0) d
      have h2 := parts_length (32 * first + p.toNat) b.length b.length 0
      exact ⟨by omega, h.2.2.2, by omega, h.2.2.1⟩
    · exact ⟨Nat.le_add_right _ _, rfl, Nat.le_add_right _ _, rfl⟩
theorem torn {d : Dev} {M : Nat} (u : Up d 8 M) (hp0 : d.pend = []) (stop : Int) (p : Nat) (b : List UInt8) (keep : List Int) :
    (tornD d stop p b keep).ok ∧ (tornD d stop p b keep).down = false ∧ (tornD d stop p b keep).kept.length = 8 ∧ ∀ s, s < 8 →
      (∀ j, j < 32 → byte (tornD d stop p b keep) (32 * s + j) = byte d (32 * s + j)) ∨ (∀ j, j < 32 → byte (tornD d stop p b keep) (32 * s + j) = wantB (Jour.bytes d 0 256) p b (32 * s + j)) := by
  obtain ⟨e, he⟩ : ∃ e, d.arm stop = e := ⟨_, rfl⟩
  have hek : e.kept = d.kept := by rw [← he]; rfl
  have hep : e.pend = [] := by rw [← he]; exact hp0
  have hed : e.down = false := by rw [← he]; exact u.down
  have heo : e.ok := by rw [← he]; exact u.ok
  have hby : ∀ x, byte e x = byte d x := fun x => by unfold byte Dev.sector; rw [hek, hep, hp0]
  have hkl : e.kept.length = 8 := by rw [hek]; exact u.kept
  unfold tornD
  rw [he]
  obtain ⟨f, hf⟩ : ∃ f, (jput e 0 8 p b).1 = f := ⟨_, rfl⟩
  rw [hf]
  have key : f.ok ∧ f.kept = e.kept ∧ ∀ q ∈ f.pend, (roomB 8 p b.length = true ∧ fresh e p b q) := by
    rw [← hf]
    unfold jput
    rw [if_neg (by omega)]
    by_cases hr : roomB 8 p b.length = true
    · rw [if_pos hr, Int.toNat_natCast, Nat.mul_zero, Nat.zero_add]
      have hrm := (roomB_iff _ _ _).1 hr
      have hA : p + b.length ≤ 32 * e.kept.length := by rw [hkl]; omega
      have fin : ∀ {d' : Dev} {k : Nat}, PutInv e d' p b k → d'.ok ∧ d'.kept = e.kept ∧ ∀ q ∈ d'.pend, (roomB 8 p b.length = true ∧ fresh e p b q) := fun h => by
        obtain ⟨qs, h1, h2⟩ := h.pend
        rw [hep, List.nil_append] at h1
        exact ⟨h.ok, h.kept, fun q hq => ⟨hr, h2 q (by rw [← h1]; exact hq)⟩⟩
      rcases put_all hA b.length 0 e (by omega) (Nat.zero_le _) (PutInv.start heo _ _) hed with ⟨_, _, h3, _⟩ | ⟨_, _, _, k, h3⟩
      · exact fin h3
      · exact fin h3
    · rw [if_neg hr]
      exact ⟨heo, rfl, fun q hq => by rw [hep] at hq; simp at hq⟩
  obtain ⟨k1, k2, k3⟩ := key
  have hrk : (f.restart keep).1.kept = (sel keep 0 f.pend).foldl put f.kept := rfl
  refine ⟨restart_ok k1 keep, rfl, by rw [hrk, puts_length, k2]; exact hkl, fun s hs => ?_⟩
  have hsec : (f.restart keep).1.sector s = (sel keep 0 f.pend).foldl (over s) (e.kept.getD s []) := by
    unfold Dev.sector
    rw [hrk, puts_get s _ _ (by rw [k2, hkl]; exact hs), k2]
    rfl
  have hes : e.sector s = e.kept.getD s [] := by unfold Dev.sector; rw [hep]; rfl
  have hb5 : ∀ j, j < 32 → byte (f.restart keep).1 (32 * s + j) = ((f.restart keep).1.sector s).getD j 0 := fun j hj => by
    unfold byte; rw [show (32 * s + j) / 32 = s by omega, show (32 * s + j) % 32 = j by omega]
  have hbe : ∀ j, j < 32 → byte d (32 * s + j) = (e.sector s).getD j 0 := fun j hj => by
    rw [← hby]; unfold byte; rw [show (32 * s + j) / 32 = s by omega, show (32 * s + j) % 32 = j by omega]
  rcases overs_cases s (sel keep 0 f.pend) (e.kept.getD s []) with h | ⟨q, hq, h1, h2⟩
  · left
    intro j hj
    rw [hb5 j hj, hbe j hj, hsec, h, hes]
  · right
    intro j hj
    obtain ⟨hr, hfr⟩ := k3 q (sel_sub _ _ _ _ hq)
    have hrm := (roomB_iff _ _ _).1 hr
    rw [hb5 j hj, hsec, h2, hfr j hj, h1]
    unfold wantB
    by_cases hc : p ≤ 32 * s + j ∧ 32 * s + j < p + b.length
    · rw [if_pos hc, if_pos ⟨hc, by omega⟩]
    · rw [if_neg hc, if_neg (fun h => hc h.1), bytes_get _ _ _ _ (by omega), hby, Nat.zero_add]
/-- Are the first bytes of a sector like these? -/
def likeB (now like : Nat → UInt8) (s j : Nat) : Bool := (List.range j).all (fun t => now (32 * s + t) == like (32 * s + t))
theorem likeB_zero (now like : Nat → UInt8) (s : Nat) : likeB now like s 0 = true := rfl
theorem likeB_succ (now like : Nat → UInt8) (s j : Nat) : likeB now like s (j + 1) = (likeB now like s j && (now (32 * s + j) == like (32 * s + j))) := by
  unfold likeB
  rw [List.range_succ, List.all_append]
  simp
theorem likeB_all {now like : Nat → UInt8} {s n : Nat} (h : ∀ j, j < n → now (32 * s + j) = like (32 * s + j)) : likeB now like s n = true := by
  unfold likeB
  rw [List.all_eq_true]
  intro t ht
  rw [h t (List.mem_range.1 ht)]
  simp
set_option maxRecDepth 100000 in
set_option maxHeartbeats 8000000 in
theorem jtorn_law (p : Int) (b : List UInt8) (a : Option Addr) (cap : Nat) (c : List UInt8) (ac : Option Addr) (cc : Nat) (stop : Int) (K : List Int) (ak : Option Addr) (ck : Nat) (W : World) (hst : stop ≤ 9223372036854775807)
    (hlc : b.length ≤ cap) (hn : a = none → cap = 0) (hr : RB W a b) (hlo : c.length ≤ cc) (hno : ac = none → cc = 0) (hro : RB W ac c) (hrk : RI W ak K) :
    Calls Try.prog 17 #[.int .i64 p, .slice a b.length cap, .slice ac c.length cc, .int .i64 stop, .slice ak K.length ck] W (Yes W) := by
  have HR := Lib.hid hr
  have HRO := Lib.hid hro
  have HRK := Lib.hid hrk
  have HN : Hid (a = none → b = []) := fun e => List.eq_nil_of_length_eq_zero (by have := hn e; omega)
  have HNO : Hid (ac = none → c = []) := fun e => List.eq_nil_of_length_eq_zero (by have := hno e; omega)
  clear hr hn hro hno hrk
  go_enter Try.func17, Try.ntmps17
  go_wp2_with fail
  refine (jsmall_any _).mono ?_
  rintro en w1 ⟨rfl, B1⟩
  go_wp2_with fail
  refine (new_any w1 8).mono ?_
  rintro en w2 ⟨X, rfl, b2, hX, D1⟩
  rw [show sizeOfDev 8 = 8 by decide +kernel] at D1
  have B2 := B1.trans (b2.mono B1.size)
  by_cases h1 : 200 < (b.length : Int)
  · go_wp2
    go_ret
    exact ⟨rfl, B2⟩
  by_cases h2 : 200 < (c.length : Int)
  · go_wp2
    go_ret
    exact ⟨rfl, B2⟩
  by_cases h3 : p < 0
  · go_wp2
    go_ret
    exact ⟨rfl, B2⟩
  by_cases h4 : 200 < p
  · go_wp2
    go_ret
    exact ⟨rfl, B2⟩
  by_cases h5 : 30 < (K.length : Int)
  · go_wp2
    go_ret
    exact ⟨rfl, B2⟩
  obtain ⟨q, rfl⟩ : ∃ q : Nat, p = (q : Int) := ⟨p.toNat, by omega⟩
  have hs1 := B1.size
  have U0 := Lib.hid (Up.new 8)
  obtain ⟨F1, hF1⟩ : ∃ F : Nat → Prop, (fun k => w1.heap.size ≤ k ∧ k < w2.heap.size) = F := ⟨_, rfl⟩
  have G1 : Hid (∀ k, F1 k → W.heap.size ≤ k) := by rw [← hF1]; exact fun k hk => by omega
  rw [hF1] at D1
  clear hF1
  generalize Dev.new 8 = d0 at D1 U0
  have hk0 : d0.kept.length = 8 := U0.out.kept
  have hp0 : d0.pend.length ≤ 0 := U0.out.pend
  have hw0 : d0.writes ≤ 0 := U0.out.writes
  have hof := of_any D1 (by omega) 0 8 (by omega)
  rw [hk0, show asize 0 8 8 = 8 by decide +kernel] at hof
  have HOF : Hid (Calls Try.prog 52 #[.pointer (some ⟨X, 0, none⟩), .int .i64 0, .int .i64 8] w2 (OfOf w2 X 0 8)) := Lib.hid hof
  clear hof
  go_wp2_with fail
  refine HOF.out.mono ?_
  rintro en w3 ⟨A, rfl, b3, hA, I3⟩
  have D3 := D1.below b3
  have B3 := B2.trans (b3.mono B2.size)
  have nA : ¬ F1 A := fun h => by have := D1.lt A h; omega
  clear HOF D1 b3 B2
  obtain ⟨u1, z1, _⟩ := put_up U0.out (first := 0) (N := 8) (.inr (by omega)) 0 c
  have hz1 : (jput d0 0 8 0 c).2 = 0 := z1.2 ((roomB_iff _ _ _).2 (by omega))
  have hq := u1.pend
  have hqw := u1.writes
  have hqs := u1.syncs
  have U1 := Lib.hid u1
  have Z1 := Lib.hid hz1
  have hq' : (jput d0 0 8 0 c).1.pend.length ≤ 1000 := by omega
  have hqw' : (jput d0 0 8 0 c).1.writes ≤ 1000 := by omega
  have hqs' : (jput d0 0 8 0 c).1.syncs ≤ 1000 := by omega
  clear u1 z1 hz1 hq hqw hqs
  go_wp2_with fail
  refine (put_any D3 I3 nA 0 c ac cc HNO.out hlo (fun w' hf => HRO.out.below (B3.trans (hf.below G1.out B3.size))) (by omega) (by omega) (.inr (by omega))).mono ?_
  intro en w4 h4
  have f4 := h4.2.1
  have I4 := I3.frm f4 nA
  obtain ⟨rfl, _, b4, F4, D4, g4, n4⟩ := h4.out G1.out B3.size
  have B4 := B3.trans b4
  have nA4 : ¬ F4 A := fun h => (n4 A h).elim nA (fun h => by have := I3.lt; omega)
  have G4 := Lib.hid g4
  rw [Z1.out]
  clear h4 b4 g4 n4 f4 D3 I3 B3 nA G1 Z1 hp0 hw0 hk0 U0
  generalize (jput d0 0 8 0 c).1 = d1 at D4 U1 hq' hqw' hqs'
  go_wp2_with fail
  refine (sync_any D4 (by omega) (by omega)).mono ?_
  intro en w5 h5
  rw [sync_ok_at U1.out.down (by rw [U1.out.armed]; decide)] at h5
  have f5 := h5.2.1
  have I5 := I4.frm f5 nA4
  obtain ⟨rfl, _, b5, F5, D5, g5, n5⟩ := h5.out G4.out B4.size
  have B5 := B4.trans b5
  have nA5 : ¬ F5 A := fun h => (n5 A h).elim nA4 (fun h => by have := I4.lt; omega)
  have G5 := Lib.hid g5
  obtain ⟨d2, hd2⟩ : ∃ d2 : Dev, d2 = { d1.step with kept := d1.pend.foldl put d1.kept, pend := [], syncs := d1.syncs + 1 } := ⟨_, rfl⟩
  rw [← hd2] at D5
  have u2 : Up d2 8 2000 := by
    refine ⟨D5.ok, ?_, ?_, ?_, ?_, ?_, ?_⟩
    · rw [hd2]; exact decide_eq_false (by rw [U1.out.armed]; decide)
    · rw [hd2]; show d1.armed - 1 = 0; rw [U1.out.armed]
    · rw [hd2]; show (List.foldl put d1.kept d1.pend).length = 8; rw [puts_length]; exact U1.out.kept
    · rw [hd2]; exact Nat.zero_le _
    · rw [hd2]; show d1.writes ≤ _; omega
    · rw [hd2]; show d1.syncs + 1 ≤ _; omega
  have hd2p : d2.pend = [] := by rw [hd2]
  have U2 := Lib.hid u2
  have HP2 := Lib.hid hd2p
  have hp2 : d2.pend.length ≤ 0 := by rw [hd2p]; exact Nat.le_refl _
  have hw2 : d2.writes ≤ 2000 := u2.writes
  clear hd2p u2 hd2 h5 b5 g5 n5 f5 D4 I4 B4 nA4 G4 U1 hq' hqw' hqs'
  go_wp2_with fail
  refine (size_any I5).mono ?_
  rintro en w6 ⟨rfl, rfl⟩
  have hg := get_any D5 I5 0 256 (by omega) (.inr (by omega))
  have hgu := get_up U2.out (first := 0) (N := 8) (.inr (by omega))
  have hgu : jget d2 0 8 0 256 = (Jour.bytes d2 0 256, 0) := hgu
  rw [hgu] at hg
  have TORN := Lib.hid (torn U2.out HP2.out stop q b K)
  have hbg : ∀ i, i < 256 → (Jour.bytes d2 0 256).getD i 0 = byte d2 i := fun i hi => by rw [bytes_get _ _ _ _ hi, Nat.zero_add]
  have BG := Lib.hid hbg
  have hwl : (Jour.bytes d2 0 256).length = 256 := bytes_length _ _ _
  have HG := Lib.hid hg
  clear hg hgu hbg
  generalize Jour.bytes d2 0 256 = was at TORN BG hwl HG
  have WL := Lib.hid hwl
  clear hwl
  go_wp2_with fail
  refine HG.out.mono ?_
  rintro en w6 ⟨b6, v6, rfl, o6⟩
  have D6 := D5.below b6
  have I6 := I5.below b6
  have B6 := B5.trans (b6.mono B5.size)
  have KW := Lib.hid (fun k hk => (o6.lt k hk))
  have L5 := Lib.hid D5.lt
  have O6 := Lib.hid o6
  clear D5 I5 B5 b6 o6 HG
  go_wp2_with fail
  refine (arm_any D6 stop hst).mono ?_
  rintro en w7 ⟨⟨u7, rfl⟩, f7, D7⟩
  have I7 := I6.frm f7 nA5
  have b7 := f7.below G5.out B6.size
  have B7 := B6.trans b7
  have o7 := owns_block O6.out (B := w7) (fun k hk => f7.block k (KW.out k hk).2 (fun hF => by have h1 := L5.out k hF; have h2 := (KW.out k hk).1; omega))
  have O7 := Lib.hid o7
  have hs7 := f7.size
  obtain ⟨e, he⟩ : ∃ e, d2.arm stop = e := ⟨_, rfl⟩
  have hep : e.pend.length ≤ 0 := by rw [← he]; exact hp2
  have hew : e.writes ≤ 2000 := by rw [← he]; exact hw2
  unfold tornD at TORN
  rw [he] at D7 TORN
  clear he o7 b7 f7 D6 I6 B6 O6
  have hjb := jput_bound e 0 8 q b
  go_wp2_with fail
  refine (put_any D7 I7 nA5 (q : Int) b a cap HN.out hlc (fun w' hf => HR.out.below (B7.trans (hf.below G5.out B7.size))) (by omega) (by omega) (.inr (by omega))).mono ?_
  intro en w8 h8
  have f8 := h8.2.1
  have I8 := I7.frm f8 nA5
  obtain ⟨rfl, _, b8, F8, D8, g8, n8⟩ := h8.out G5.out B7.size
  have B8 := B7.trans b8
  have nA8 : ¬ F8 A := fun h => (n8 A h).elim nA5 (fun h => by have := I7.lt; omega)
  have G8 := Lib.hid g8
  have N8 := Lib.hid n8
  have hs8 := f8.size
  have hs67 := L5.out
  have o8 := owns_block O7.out (B := w8) (fun k hk => f8.block k (by have := (KW.out k hk).2; omega) (fun hF => by have h1 := hs67 k hF; have h2 := (KW.out k hk).1; omega))
  have O8 := Lib.hid o8
  have hjp : (jput e 0 8 (q : Int) b).1.pend.length ≤ 1000 := by have := hjb.1; omega
  clear h8 b8 g8 n8 f8 D7 I7 B7 O7 o8 hs67 hjb
  generalize (jput e 0 8 (q : Int) b).2 = bad
  generalize (jput e 0 8 (q : Int) b).1 = g at D8 TORN hjp
  go_wp2_with fail
  refine (restart_any D8 (by omega) K ak ck (by omega) (fun w' hf => HRK.out.below (B8.trans (hf.below G8.out B8.size)))).mono ?_
  intro en w9 h9
  have f9 := h9.2.1
  have I9 := I8.frm f9 nA8
  obtain ⟨rfl, _, b9, F9, D9, g9, n9⟩ := h9.out G8.out B8.size
  have B9 := B8.trans b9
  have o9 := owns_block O8.out (B := w9) (fun k hk => f9.block k (by have := (KW.out k hk).2; omega) (fun hF => by
    have h2 := KW.out k hk
    rcases N8.out k hF with h1 | h1
    · have := L5.out k h1; omega
    · omega))
  have O9 := Lib.hid o9
  have hrp : (g.restart K).1.pend = [] := rfl
  generalize (g.restart K).2 = cnt
  generalize (g.restart K).1 = t at D9 TORN hrp
  have htp : t.pend.length ≤ 0 := by rw [hrp]; exact Nat.le_refl _
  obtain ⟨t1, t2, t3, t4⟩ := TORN.out
  have hg := get_any D9 I9 0 256 (by omega) (.inr (by omega))
  have hga := get_all t1 t2 (A := 0) (n := 256) (by omega) 256 0 (by omega) (by omega)
  have hgu : jget t 0 8 0 256 = (Jour.bytes t 0 256, 0) := by
    unfold jget
    rw [if_neg (by omega), if_pos (by decide)]
    exact hga
  rw [hgu] at hg
  have hbg : ∀ i, i < 256 → (Jour.bytes t 0 256).getD i 0 = byte t i := fun i hi => by rw [bytes_get _ _ _ _ hi, Nat.zero_add]
  have hnl : (Jour.bytes t 0 256).length = 256 := bytes_length _ _ _
  have HG := Lib.hid hg
  generalize Jour.bytes t 0 256 = now at hbg hnl HG
  have LAW : Hid (∀ s, s < 8 → (likeB (now.getD · 0) (was.getD · 0) s 32 || likeB (now.getD · 0) (wantB was q b) s 32) = true) := Lib.hid (fun s hs => by
    rcases t4 s hs with h | h
    · rw [likeB_all (fun j hj => by rw [hbg _ (by omega), h j hj, BG.out _ (by omega)])]; rfl
    · rw [likeB_all (like := wantB was q b) (fun j hj => by rw [hbg _ (by omega), h j hj]), Bool.or_true])
  have NL := Lib.hid hnl
  clear hg hga hgu hbg hnl TORN t1 t2 t3 t4 BG hrp h9 b9 g9 n9 f9 D8 I8 B8 O8 o9 N8 KW L5 G5
  go_wp2_with fail
  refine (size_any I9).mono ?_
  rintro en w10 ⟨rfl, rfl⟩
  go_wp2_with fail
  refine HG.out.mono ?_
  rintro en w10 ⟨b10, v10, rfl, o10⟩
  have B10 := B9.trans (b10.mono B9.size)
  obtain ⟨a6, c6, rfl, _, _, r6⟩ := RB.of_owns (owns_below O9.out b10)
  obtain ⟨a10, c10, rfl, _, _, r10⟩ := RB.of_owns o10
  have R6 := Lib.hid r6
  have R10 := Lib.hid r10
  have RB10 := Lib.hid (HR.out.below B10)
  have e6 : (was, (0 : Int)).1.length = 256 := WL.out
  have e10 : (now, (0 : Int)).1.length = 256 := NL.out
  rw [e6, e10]
  clear e6 e10 b10 o10 r6 r10 HG O9 D9 I9 B9
  go_wp2_with fail
  go_loopw [18] (fun sv wr => ∃ s : Nat, sv = .int .i64 s ∧ s ≤ 8 ∧ Below w10.heap.size w10 wr) (fun sv _ => 8 - (intOf sv).toNat)
  case atStart => exact ⟨0, rfl, by omega, Below.refl _ _⟩
  case round =>
    obtain ⟨s, rfl, hs, bw⟩ := hrel
    have BW := Lib.hid bw
    clear bw
    by_cases hlt : s < 8
    · have hsi : (s : Int) < 8 := by omega
      have hs0 : (0 : Int) ≤ (s : Int) := by omega
      have LS := Lib.hid (LAW.out s hlt)
      go_wp2_with fail
      go_loopw [19, 20, 21] (fun ov fv iv wr => ∃ j : Nat, iv = .int .i64 (32 * (s : Int) + (j : Int)) ∧ j ≤ 32 ∧ ov = .bool (likeB (now.getD · 0) (was.getD · 0) s j) ∧ fv = .bool (likeB (now.getD · 0) (wantB was q b) s j) ∧ Below w10.heap.size w10 wr)
        (fun _ _ iv _ => (32 * s + 32) - (intOf iv).toNat)
      case atStart => exact ⟨0, by simp, by omega, by rw [likeB_zero], by rw [likeB_zero], BW.out⟩
      case round =>
        obtain ⟨j, rfl, hj, rfl, rfl, bw⟩ := hrel
        have BW2 := Lib.hid bw
        clear bw
        by_cases hjl : j < 32
        · have hji : (j : Int) < 32 := by omega
          have hj0 : (0 : Int) ≤ (j : Int) := by omega
          have hx := likeB_succ (now.getD · 0) (was.getD · 0) s j
          have hy := likeB_succ (now.getD · 0) (wantB was q b) s j
          have H1 := Lib.hid hx
          have H2 := Lib.hid hy
          clear hx hy
          obtain ⟨n, hn⟩ : ∃ n : Nat, 32 * s + j = n := ⟨_, rfl⟩
          have hnI : 32 * (s : Int) + (j : Int) = (n : Int) := by omega
          have hn256 : n < 256 := by omega
          have hn0 : (0 : Int) ≤ (n : Int) := by omega
          have hni : (n : Int) < 256 := by omega
          obtain ⟨ga, oa, rfl, _, ea⟩ := (R10.out.below BW2.out) n (by rw [NL.out]; exact hn256)
          obtain ⟨gb, ob, rfl, _, eb⟩ := (R6.out.below BW2.out) n (by rw [WL.out]; exact hn256)
          rw [hnI]
          rw [hn] at H1 H2
          have HNI := Lib.hid hnI
          have HNE := Lib.hid hn
          clear hn hnI
          have WB : Hid (wantB was q b n = if (q ≤ n ∧ n < q + b.length) ∧ q + b.length ≤ 256 then b.getD (n - q) 0 else was.getD n 0) := rfl
          unfold byteV at ea eb
          generalize now.getD n 0 = x at ea H1 H2
          generalize was.getD n 0 = y at eb H1 WB
          generalize wantB was q b n = z at H2 WB
          generalize likeB (now.getD · 0) (was.getD · 0) s j = o0 at H1 ⊢
          generalize likeB (now.getD · 0) (wantB was q b) s j = f0 at H2 ⊢
          have hq0 : (0 : Int) ≤ (q : Int) := by omega
          have hnl32 : (n : Int) < 32 * (s : Int) + 32 := by have := HNI.out; omega
          have nxt : 32 * (s : Int) + (j : Int) + 1 = (n : Int) + 1 := by rw [HNI.out]
          have NXT := Lib.hid nxt
          clear nxt
          have hxy : (x == y) = ((x.toNat : Int) == (y.toNat : Int)) := by
            rw [Bool.eq_iff_iff]; simp [← UInt8.toNat_inj]; omega
          have hxz : (x == z) = ((x.toNat : Int) == (z.toNat : Int)) := by
            rw [Bool.eq_iff_iff]; simp [← UInt8.toNat_inj]; omega
          have HXY := Lib.hid hxy
          have HXZ := Lib.hid hxz
          clear hxy hxz
          by_cases c1 : (q : Int) ≤ (n : Int)
          · by_cases c2 : (n : Int) < (q : Int) + (b.length : Int)
            · by_cases c3 : (q : Int) + (b.length : Int) ≤ 256
              · have hz : z = b.getD (n - q) 0 := by rw [WB.out, if_pos (by omega)]
                obtain ⟨gc, oc, rfl, _, ec⟩ := (RB10.out.below BW2.out) (n - q) (by omega)
                unfold byteV at ec
                rw [← hz] at ec
                clear hz
                cases hb1 : ((x.toNat : Int) == (y.toNat : Int)) <;> cases hb2 : ((x.toNat : Int) == (z.toNat : Int)) <;> cases o0 <;> cases f0
                all_goals
                  have HB2 := hb2
                  go_wp2_with fail
                  go_quiet (fail)
                  go_wp2_with fail
                  go_roundw
                  case rel => exact ⟨j + 1, by rw [← NXT.out]; simp only [Value.int.injEq, true_and]; omega, by omega, by rw [H1.out, HXY.out, hb1]; rfl, by rw [H2.out, HXZ.out, HB2]; rfl, by first | exact BW2.out | exact below_drewN BW2.out _⟩
                  case measure => simp only [intOf]; have := HNI.out; omega
              · have hz : z = y := by rw [WB.out, if_neg (by omega)]
                subst hz
                cases hb1 : ((x.toNat : Int) == (z.toNat : Int)) <;> cases o0 <;> cases f0
                all_goals
                  have HB2 := hb1
                  go_wp2_with fail
                  go_quiet (fail)
                  go_wp2_with fail
                  go_roundw
                  case rel => exact ⟨j + 1, by rw [← NXT.out]; simp only [Value.int.injEq, true_and]; omega, by omega, by rw [H1.out, HXY.out, hb1]; rfl, by rw [H2.out, HXZ.out, HB2]; rfl, by first | exact BW2.out | exact below_drewN BW2.out _⟩
                  case measure => simp only [intOf]; have := HNI.out; omega
            · have hz : z = y := by rw [WB.out, if_neg (by omega)]
              subst hz
              cases hb1 : ((x.toNat : Int) == (z.toNat : Int)) <;> cases o0 <;> cases f0
              all_goals
                have HB2 := hb1
                go_wp2_with fail
                go_quiet (fail)
                go_wp2_with fail
                go_roundw
                case rel => exact ⟨j + 1, by rw [← NXT.out]; simp only [Value.int.injEq, true_and]; omega, by omega, by rw [H1.out, HXY.out, hb1]; rfl, by rw [H2.out, HXZ.out, HB2]; rfl, by first | exact BW2.out | exact below_drewN BW2.out _⟩
                case measure => simp only [intOf]; have := HNI.out; omega
          · have hz : z = y := by rw [WB.out, if_neg (by omega)]
            subst hz
            cases hb1 : ((x.toNat : Int) == (z.toNat : Int)) <;> cases o0 <;> cases f0
            all_goals
              have HB2 := hb1
              go_wp2_with fail
              go_quiet (fail)
              go_wp2_with fail
              go_roundw
              case rel => exact ⟨j + 1, by rw [← NXT.out]; simp only [Value.int.injEq, true_and]; omega, by omega, by rw [H1.out, HXY.out, hb1]; rfl, by rw [H2.out, HXZ.out, HB2]; rfl, by first | exact BW2.out | exact below_drewN BW2.out _⟩
              case measure => simp only [intOf]; have := HNI.out; omega
        · have hji : ¬ (j : Int) < 32 := by omega
          obtain rfl : j = 32 := by omega
          have ls := LS.out
          generalize likeB (now.getD · 0) (was.getD · 0) s 32 = o0 at ls ⊢
          generalize likeB (now.getD · 0) (wantB was q b) s 32 = f0 at ls ⊢
          cases o0 <;> cases f0
          · cases ls
          all_goals
            clear ls
            go_wp2_with fail
            go_roundw
            case rel => exact ⟨s + 1, rfl, by omega, BW2.out⟩
            case measure => simp only [intOf]; omega
    · have hsi : ¬ (s : Int) < 8 := by omega
      go_wp2
      go_ret
      exact ⟨rfl, B10.trans (BW.out.mono B10.size)⟩
end Go.Proofs.Ytopemjbakpahfaa
/-
  What a store's safe writing does to a device, whether the device stops or not. Plain Lean, no program, no condition.
-/
namespace Go.Proofs.Ytopemjbakpahfaa.Slot
open Disk Jour Crc
theorem byte_of_sector {d e : Dev} {x : Nat} (h : e.sector (x / 32) = d.sector (x / 32)) : byte e x = byte d x := by unfold byte; rw [h]
theorem sync_ok_at {d : Dev} (hd : d.down = false) (ha : d.armed ≠ 1) : d.sync = ({ d.step with kept := d.pend.foldl put d.kept, pend := [], syncs := d.syncs + 1 }, 0) := by
  unfold Dev.sync; rw [if_neg (by rw [hd]; decide), if_neg ha]
theorem sync_no_at {d : Dev} (hd : d.down = false) (ha : d.armed = 1) : d.sync = (d.step, 14) := by
  unfold Dev.sync; rw [if_neg (by rw [hd]; decide), if_pos ha]
theorem sector_kept {e : Dev} (h : e.pend = []) (k : Nat) : e.sector k = e.kept.getD k [] := by unfold Dev.sector; rw [h]; rfl
/-- Where a restart keeps some of fresh writes, all other bytes are as they were. -/
theorem restart_byte {d e : Dev} {A : Nat} {b : List UInt8} (hp : d.pend = []) (hk : e.kept = d.kept) (hf : ∀ q ∈ e.pend, fresh d A b q) (keep : List Int) (x : Nat) (hx : x < 32 * d.kept.length) (hn : ¬ (A ≤ x ∧ x < A + b.length)) :
    byte (e.restart keep).1 x = byte d x := by
  have hk2 : x / 32 < d.kept.length := by omega
  unfold byte
  rw [sector_kept (e := (e.restart keep).1) rfl, sector_kept hp]
  show (((sel keep 0 e.pend).foldl put e.kept).getD (x / 32) []).getD (x % 32) 0 = _
  rw [hk, puts_get _ _ _ hk2]
  rcases overs_cases (x / 32) (sel keep 0 e.pend) (d.kept.getD (x / 32) []) with h | ⟨q, hq, h1, h2⟩
  · rw [h]
  · rw [h2]
    have h3 := hf q (sel_sub _ _ _ _ hq) (x % 32) (Nat.mod_lt _ (by omega))
    rw [h3, h1, if_neg (by omega), show 32 * (x / 32) + x % 32 = x by omega]
    unfold byte
    rw [sector_kept hp]
structure SafeOk (d : Dev) (A : Nat) (b : List UInt8) (h : Hd) (r : Dev × Int) : Prop where
  z : r.2 = 0
  ok : r.1.ok
  down : r.1.down = false
  pend : r.1.pend = []
  kept : r.1.kept.length = d.kept.length
  arm : d.armed = 0 → r.1.armed = 0
  head : r.1.sector 0 = pad (hbytes h)
  byte : ∀ x, 32 ≤ x → x < 32 * d.kept.length → byte r.1 x = if A ≤ x ∧ x < A + b.length then b.getD (x - A) 0 else Jour.byte d x
/-- What a device is behind a stop and a restart: as before, but for the bytes that were to be put; or as it was to be. -/
structure Back (d : Dev) (A : Nat) (b : List UInt8) (h : Hd) (e : Dev) : Prop where
  ok : e.ok
  kept : e.kept.length = d.kept.length
  down : e.down = false
  armed : e.armed = 0
  pend : e.pend = []
  alt : (∀ x, x < 32 * d.kept.length → ¬ (A ≤ x ∧ x < A + b.length) → byte e x = byte d x) ∨ (e.sector 0 = pad (hbytes h) ∧ ∀ x, 32 ≤ x → x < 32 * d.kept.length → byte e x = if A ≤ x ∧ x < A + b.length then b.getD (x - A) 0 else byte d x)
structure SafeNo (d : Dev) (A : Nat) (b : List UInt8) (h : Hd) (r : Dev × Int) : Prop where
  z : r.2 = 14
  arm : d.armed ≠ 0
  back : ∀ keep, Back d A b h (r.1.restart keep).1
theorem restart_len (e : Dev) (keep : List Int) : (e.restart keep).1.kept.length = e.kept.length := puts_length _ _
theorem back_old {d e : Dev} {A : Nat} {b : List UInt8} {h : Hd} (hp : d.pend = []) (ok : e.ok) (hk : e.kept = d.kept) (hf : ∀ q ∈ e.pend, fresh d A b q) (keep : List Int) : Back d A b h (e.restart keep).1 :=
  ⟨restart_ok ok keep, by rw [restart_len, hk], rfl, rfl, rfl, .inl (restart_byte hp hk hf keep)⟩
theorem ssafe_cases {d : Dev} (ok : d.ok) (hd : d.down = false) (hp : d.pend = []) (first n p : Nat) (b : List UInt8) (h : Hd) (hr : roomB n (p : Int) b.length = true) (hf : 1 ≤ first) (hA : 32 * first + p + b.length ≤ 32 * d.kept.length) (hK : 1 ≤ d.kept.length) :
    SafeOk d (32 * first + p) b h (ssafe d first n p b h) ∨ SafeNo d (32 * first + p) b h (ssafe d first n p b h) := by
  have hj : jput d first n (p : Int) b = putParts d b (parts (32 * first + p) b.length b.length 0) := by
    unfold jput; rw [if_neg (by omega), if_pos hr, Int.toNat_natCast]
  unfold ssafe
  rw [hj]
  have hPA := put_all hA b.length 0 d (by omega) (Nat.zero_le _) (PutInv.start ok _ _) hd
  generalize putParts d b (parts (32 * first + p) b.length b.length 0) = r1 at hPA ⊢
  obtain ⟨d1, e1⟩ := r1
  obtain ⟨A, hAA⟩ : ∃ A, 32 * first + p = A := ⟨_, rfl⟩
  rw [hAA] at hPA hA ⊢
  have hA32 : 32 ≤ A := by omega
  dsimp only at hPA ⊢
  rcases hPA with ⟨rfl, g2, g3, g4⟩ | ⟨rfl, g2, g3, k, g4⟩
  rotate_left
  · rw [if_pos (show (14 : Int) ≠ 0 by decide)]
    obtain ⟨qs, q1, q2⟩ := g4.pend
    rw [hp, List.nil_append] at q1
    exact .inr ⟨rfl, g2, fun keep => back_old hp g4.ok g4.kept (by rw [q1]; exact q2) keep⟩
  rw [if_neg (show ¬ (0 : Int) ≠ 0 by decide)]
  obtain ⟨qs, q1, q2⟩ := g3.pend
  rw [hp, List.nil_append] at q1
  by_cases a1 : d1.armed = 1
  · rw [sync_no_at g2 a1]
    rw [if_pos (show (14 : Int) ≠ 0 by decide)]
    exact .inr ⟨rfl, fun h0 => by have := g4 h0; omega, fun keep => back_old hp (step_ok g3.ok) g3.kept (by show ∀ q ∈ d1.pend, _; rw [q1]; exact q2) keep⟩
  have s1 := sync_ok g3.ok
  rw [sync_ok_at g2 a1] at s1 ⊢
  rw [if_neg (show ¬ (0 : Int) ≠ 0 by decide)]
  dsimp only at s1 ⊢
  obtain ⟨d2, hd2⟩ : ∃ d2 : Dev, ({ d1.step with kept := d1.pend.foldl put d1.kept, pend := [], syncs := d1.syncs + 1 } : Dev) = d2 := ⟨_, rfl⟩
  have p2 : d2.pend = [] := by rw [← hd2]
  have k2 : d2.kept = d1.pend.foldl put d1.kept := by rw [← hd2]
  have l2 : d2.kept.length = d.kept.length := by rw [k2, puts_length, g3.kept]
  have w2 : d2.down = false := by rw [← hd2]; exact decide_eq_false a1
  have m2 : d2.armed = d1.armed - 1 := by rw [← hd2]; rfl
  rw [hd2] at s1 ⊢
  clear hd2
  have b2 : ∀ x, x < 32 * d.kept.length → byte d2 x = if A ≤ x ∧ x < A + b.length then b.getD (x - A) 0 else byte d x := fun x hx => by
    rw [byte_of_sector (sector_sync p2 k2 (by rw [g3.kept]; omega))]
    exact g3.byte x hx
  have h19 := hbytes_length h
  by_cases a2 : d2.armed = 1
  · rw [write_stop_at w2 (by omega) (by omega) (by omega) a2]
    rw [if_pos (show (14 : Int) ≠ 0 by decide)]
    refine .inr ⟨rfl, fun h0 => by have := g4 h0; omega, fun keep => ⟨restart_ok (step_ok s1) keep, by rw [restart_len]; exact l2, rfl, rfl, rfl, .inl fun x hx hn => ?_⟩⟩
    have e1 : byte (d2.step.restart keep).1 x = byte d2 x := by
      apply byte_of_sector
      rw [sector_kept rfl, sector_kept p2]
      show ((sel keep 0 d2.pend).foldl put d2.kept).getD _ _ = _
      rw [p2]; rfl
    rw [e1, b2 x hx, if_neg hn]
  have wok := write_ok s1 (0 : Int) (hbytes h)
  rw [write_ok_at w2 (by omega) (by omega) (by omega) a2] at wok ⊢
  rw [if_neg (show ¬ (0 : Int) ≠ 0 by decide)]
  dsimp only at wok ⊢
  rw [Int.toNat_zero] at wok ⊢
  obtain ⟨d3, hd3⟩ : ∃ d3 : Dev, ({ d2.step with pend := d2.pend ++ [(0, pad (hbytes h))], writes := d2.writes + 1 } : Dev) = d3 := ⟨_, rfl⟩
  have p3 : d3.pend = [(0, pad (hbytes h))] := by rw [← hd3, p2]; rfl
  have k3 : d3.kept = d2.kept := by rw [← hd3]; rfl
  have w3 : d3.down = false := by rw [← hd3]; exact decide_eq_false a2
  have m3 : d3.armed = d2.armed - 1 := by rw [← hd3]; rfl
  rw [hd3] at wok ⊢
  clear hd3
  have hnew : ∀ e : Dev, e.pend = [] → e.kept = put d2.kept (0, pad (hbytes h)) → e.sector 0 = pad (hbytes h) ∧ ∀ x, 32 ≤ x → x < 32 * d.kept.length → byte e x = if A ≤ x ∧ x < A + b.length then b.getD (x - A) 0 else byte d x := fun e he1 he2 => by
    refine ⟨by rw [sector_kept he1, he2, put_get, if_pos ⟨rfl, by omega⟩], fun x h32 hx => ?_⟩
    rw [← b2 x hx]
    apply byte_of_sector
    rw [sector_kept he1, he2, put_get, if_neg (by intro hh; have := hh.1; omega), sector_kept p2]
  by_cases a3 : d3.armed = 1
  · rw [sync_no_at w3 a3]
    refine .inr ⟨rfl, fun h0 => by have := g4 h0; omega, fun keep => ⟨restart_ok (step_ok wok) keep, by rw [restart_len]; show d3.kept.length = _; rw [k3]; exact l2, rfl, rfl, rfl, ?_⟩⟩
    by_cases hk : ((0 : Nat) : Int) ∈ keep
    · refine .inr (hnew _ rfl ?_)
      show (sel keep 0 d3.pend).foldl put d3.kept = _
      rw [p3, k3]
      unfold sel
      rw [if_pos hk]
      rfl
    · refine .inl fun x hx hn => ?_
      have e1 : byte (d3.step.restart keep).1 x = byte d2 x := by
        apply byte_of_sector
        rw [sector_kept rfl, sector_kept p2]
        show ((sel keep 0 d3.pend).foldl put d3.kept).getD _ _ = _
        rw [p3, k3]
        unfold sel
        rw [if_neg hk]
        rfl
      rw [e1, b2 x hx, if_neg hn]
  · have s3 := sync_ok wok
    rw [sync_ok_at w3 a3] at s3 ⊢
    have hk4 : ({ d3.step with kept := d3.pend.foldl put d3.kept, pend := [], syncs := d3.syncs + 1 } : Dev).kept = put d2.kept (0, pad (hbytes h)) := by
      show d3.pend.foldl put d3.kept = _
      rw [p3, k3]; rfl
    obtain ⟨n1, n2⟩ := hnew ({ d3.step with kept := d3.pend.foldl put d3.kept, pend := [], syncs := d3.syncs + 1 } : Dev) rfl hk4
    refine .inl ⟨rfl, s3, decide_eq_false a3, rfl, ?_, fun h0 => ?_, n1, n2⟩
    · show (d3.pend.foldl put d3.kept).length = _
      rw [puts_length, k3]; exact l2
    · show d3.armed - 1 = 0
      have := g4 h0; omega
end Go.Proofs.Ytopemjbakpahfaa.Slot
