/-
  Contracts and plain laws, part 32 (texts: S9, S10). No condition but what each states.
-/
import Derived.Test.YtopemjbakpahfaaSn31
/-
  A store's safe writing: the whole walk. No condition but that the numbers are small.
-/
namespace Go.Proofs.Ytopemjbakpahfaa
open Go.RowKit Disk Jour Crc Slot
set_option linter.unusedSimpArgs false
set_option linter.unusedVariables false
def bW (w : World) (S A : Nat) (p : Int) (vb : Value) (C : Array Value) : World := ((((w.alloc (.cells #[.pointer (some ⟨S, 0, none⟩)] 82 (0, 0))).alloc (.cells #[.pointer (some ⟨A, 0, none⟩)] 69 (0, 0))).alloc (.cells #[.int .i64 p] 3 (0, 0))).alloc (.cells #[vb] 22 (0, 0))).alloc (.cells C 132 (0, 0))
theorem bW_below (w : World) (S A : Nat) (p : Int) (vb : Value) (C : Array Value) : Below w.heap.size w (bW w S A p vb C) := by
  unfold bW
  exact ((((below_alloc w _).trans ((below_alloc _ _).mono (by simp))).trans ((below_alloc _ _).mono (by simp; omega))).trans ((below_alloc _ _).mono (by simp; omega))).trans ((below_alloc _ _).mono (by simp; omega))
/-- What a store's own block is behind a safe writing. -/
def afterSafe (s : St) (h : Hd) (e : Int) : St := { s with h := if e = 0 then h else s.h, broken := decide (e ≠ 0) }
structure SafePost (F : Nat → Prop) (w : World) (S B A0 A1 AL : Nat) (s : St) (vc vr : Value) (d : Dev) (w' : World) : Prop where
  frm : Frm (fun k => F k ∨ k = S) w w'
  dev : ∃ F', IsDev F' w' B d ∧ ∀ k, F' k → F k ∨ w.heap.size ≤ k
  blk : w'.heap[S]? = some (.cells (stcells B A0 A1 AL s vc vr) 134 (0, 0))
theorem DJ.post {F : Nat → Prop} {w W1 W : World} {S B A0 A1 AL : Nat} {s' : St} {vc vr : Value} {d : Dev} (h : DJ F W1 B d W) (hb : Below w.heap.size w W1) (hS : S < w.heap.size) (hSF : ¬ F S) {W' : World} (hf : Frm (fun k => k = S) W W') (hblk : W'.heap[S]? = some (.cells (stcells B A0 A1 AL s' vc vr) 134 (0, 0))) :
    SafePost F w S B A0 A1 AL s' vc vr d W' := by
  obtain ⟨h1, G, h2, h3⟩ := h
  have hsz := hb.size
  refine ⟨?_, ⟨G, h2.frm hf (fun k hk he => by subst he; rcases h3 k hk with h | h; exact hSF h; omega), fun k hk => (h3 k hk).imp_right (fun h => by omega)⟩, hblk⟩
  have f1 : Frm (fun k => F k ∨ k = S) w W1 := Frm.of_below hb
  exact (f1.trans h1 (fun k hk => .inl (.inl hk))).trans hf (fun k hk => .inl (.inr hk))
theorem st_set1 {w : World} {S B A0 A1 AL : Nat} {s : St} {vc vr : Value} (x : w.heap[S]? = some (.cells (stcells B A0 A1 AL s vc vr) 134 (0, 0))) (b : Bool) :
    (w.setCell ⟨S, 10, none⟩ (.bool b)).heap[S]? = some (.cells (stcells B A0 A1 AL { s with broken := b } vc vr) 134 (0, 0)) := Joins.block_setCell x (.bool b)
theorem st_set5 {w : World} {S B A0 A1 AL : Nat} {s : St} {vc vr : Value} (x : w.heap[S]? = some (.cells (stcells B A0 A1 AL s vc vr) 134 (0, 0))) (h : Hd) :
    (((((w.setCell ⟨S, 10, none⟩ (.bool false)).setCell ⟨S, 4, none⟩ (.int .i64 (h.slot : Int))).setCell ⟨S, 5, none⟩ (.int .i64 (h.long : Int))).setCell ⟨S, 6, none⟩ (.int .i64 (h.used : Int))).setCell ⟨S, 7, none⟩ (.int .i64 (h.turn : Int))).heap[S]? = some (.cells (stcells B A0 A1 AL { s with h := h, broken := false } vc vr) 134 (0, 0)) :=
  Joins.block_setCell (Joins.block_setCell (Joins.block_setCell (Joins.block_setCell (st_set1 x false) _) _) _) _
theorem set5_frm (w : World) (S : Nat) (a b c d e : Value) : Frm (fun k => k = S) w (((((w.setCell ⟨S, 10, none⟩ a).setCell ⟨S, 4, none⟩ b).setCell ⟨S, 5, none⟩ c).setCell ⟨S, 6, none⟩ d).setCell ⟨S, 7, none⟩ e) := by
  have f : ∀ (w : World) (o : Nat) (v : Value), Frm (fun k => k = S) w (w.setCell ⟨S, o, none⟩ v) := fun w o v => Frm.setCell w o v rfl
  have t : ∀ {a b c : World}, Frm (fun k => k = S) a b → Frm (fun k => k = S) b c → Frm (fun k => k = S) a c := fun h k => h.trans k (fun _ h => .inl h)
  exact t (t (t (t (f _ _ _) (f _ _ _)) (f _ _ _)) (f _ _ _)) (f _ _ _)
theorem cell_set_other {w : World} {a : Nat} {i : Nat} {v : Value} {b j : Nat} {x : Value} (h : w.cell? ⟨b, j, none⟩ = some x) (hne : b ≠ a) : (w.setCell ⟨a, i, none⟩ v).cell? ⟨b, j, none⟩ = some x := by
  rw [World.cell?_of_block (w := w) (Below.heap_setCell _ _ _ _ hne)]; exact h
set_option maxRecDepth 100000 in
set_option maxHeartbeats 4000000 in
theorem safe_any {F G : Nat → Prop} {w : World} {S B A0 A1 AL : Nat} {d : Dev} {s : St} {vc vr : Value} (hd : IsDev F w B d) (V : StV G w S B A0 A1 AL s vc vr) (dis : ∀ k, G k → ¬ F k) {A first n p : Nat} (hA : IsArea w A B first n) (hAG : G A)
    {b : List UInt8} {g off cap : Nat} (hlc : b.length ≤ cap) (hb : RB w (some ⟨g, off, none⟩) b) (hg : ¬ F g) (hgl : g < w.heap.size) (h : Hd) (t0 : Int) (h0 : h.slot < 2) (h1 : h.long < 4294967296) (h2 : h.used < 4294967296) (h3 : h.turn = turnOf s.h)
    (hp : d.pend.length + b.length ≤ 90000) (hw : d.writes + b.length ≤ 90000) (hy : d.syncs ≤ 90000) (hf : n = 0 ∨ first ≤ 1024) :
    Calls Try.prog 96 #[.pointer (some ⟨S, 0, none⟩), .pointer (some ⟨A, 0, none⟩), .int .i64 (p : Int), .slice (some ⟨g, off, none⟩) b.length cap, .agg #[.int .i64 (h.slot : Int), .int .i64 (h.long : Int), .int .i64 (h.used : Int), .int .i64 t0]] w (fun en w' => en = .returned (.int .i64 (ssafe d first n p b h).2) ∧ SafePost F w S B A0 A1 AL (afterSafe s h (ssafe d first n p b h).2) vc vr (ssafe d first n p b h).1 w') := by
  have ht := V.ok.turn
  have ht4 : h.turn < 4294967296 := by rw [h3]; unfold turnOf; omega
  have hti : ((s.h.turn : Int) + 1) % 4294967296 = (h.turn : Int) := by rw [h3]; unfold turnOf; omega
  have hblk := V.blk
  have hSl := V.lt S V.fs
  have hSF := dis S V.fs
  have bx := safeW_bx (w := w) S A B (p : Int) (.slice (some ⟨g, off, none⟩) b.length cap) h
  have SST := Lib.hid (safeSteps_any (F := F) bx hd hA (dis A hAG) hlc hb hg hgl hblk hSF rfl h0 h1 h2 ht4 hp hw hy hf)
  have XX : Hid (∀ w', DJ F ((safeW w S A p (.slice (some ⟨g, off, none⟩) b.length cap) h).drew.alloc (fnRow w.heap.size B)) B (ssafe d first n p b h).1 w' → w'.heap[w.heap.size]? = some (.cells #[.pointer (some ⟨S, 0, none⟩)] 82 (0, 0)) ∧ w'.heap[S]? = some (.cells (stcells B A0 A1 AL s vc vr) 134 (0, 0)) ∧ w'.heap[w.heap.size + 4]? = some (.cells (hcells h) 132 (0, 0))) := fun w' hj =>
    ⟨hj.blk bx.x0 (fun hf => by have := hd.lt _ hf; omega), hj.blk ((bx.bl.block S hSl).trans hblk) hSF, hj.blk bx.x4 (fun hf => by have := hd.lt _ hf; omega)⟩
  have c7 : w.cell? ⟨S, 7, none⟩ = some (.int .i64 (s.h.turn : Int)) := Joins.cell_of_block hblk 7
  have bl0 := bW_below w S A p (.slice (some ⟨g, off, none⟩) b.length cap) #[.int .i64 (h.slot : Int), .int .i64 (h.long : Int), .int .i64 (h.used : Int), .int .i64 t0]
  have c7w := (bl0.cell (p := ⟨S, 7, none⟩) hSl).trans c7
  unfold bW at c7w
  have HTI := Lib.hid hti
  have BX := Lib.hid bx
  have HZ0 := Lib.hid (safeW_size w S A (p : Int) (.slice (some ⟨g, off, none⟩) b.length cap) h)
  have BLK := Lib.hid hblk
  have PS : Hid (∀ (s' : St) (w3 W' : World), DJ F ((safeW w S A p (.slice (some ⟨g, off, none⟩) b.length cap) h).drew.alloc (fnRow w.heap.size B)) B (ssafe d first n p b h).1 w3 → Frm (fun k => k = S) w3 W' → W'.heap[S]? = some (.cells (stcells B A0 A1 AL s' vc vr) 134 (0, 0)) → SafePost F w S B A0 A1 AL s' vc vr (ssafe d first n p b h).1 W') := fun s' w3 W' hj hf hb => hj.post bx.bl hSl hSF hf hb
  clear V c7 bl0 bx hti hblk h3
  generalize ssafe d first n p b h = rr at SST XX PS ⊢
  obtain ⟨e, r⟩ := rr
  dsimp only at SST XX PS ⊢
  go_enter Try.func96, Try.ntmps96
  go_wp2_with fail
  rw [HTI.out]
  change Code.wp _ _ _ _ (safeW w S A p (.slice (some ⟨g, off, none⟩) b.length cap) h)
  obtain ⟨W0, hW0⟩ : ∃ W0, safeW w S A p (.slice (some ⟨g, off, none⟩) b.length cap) h = W0 := ⟨_, rfl⟩
  rw [hW0] at SST XX BX HZ0 PS ⊢
  clear hW0 c7w
  have HZ : Hid (W0.drew.heap.size = w.heap.size + 5) := HZ0.out
  obtain ⟨S0, hS0⟩ : ∃ S0 : World → Prop, S0 = fun w' => w'.heap[w.heap.size]? = some (.cells #[.pointer (some ⟨S, 0, none⟩)] 82 (0, 0)) ∧ w'.heap[S]? = some (.cells (stcells B A0 A1 AL s vc vr) 134 (0, 0)) := ⟨_, rfl⟩
  have hSS : Hid (∀ w', S0 w' → w'.cell? ⟨w.heap.size, 0, none⟩ = some (.pointer (some ⟨S, 0, none⟩)) ∧ w'.cell? ⟨S, 0, none⟩ = some (.pointer (some ⟨B, 0, none⟩))) := fun w' h => by
    rw [hS0] at h
    obtain ⟨a, b⟩ := h
    exact ⟨Joins.cell_of_block a 0, Joins.cell_of_block b 0⟩
  have SA : Hid (S0 (W0.drew.alloc (fnRow w.heap.size B))) := by
    show S0 _
    rw [hS0]
    exact ⟨BX.out.x0, (BX.out.bl.block S hSl).trans BLK.out⟩
  have SD : Hid (∀ w', DJ F (W0.drew.alloc (fnRow w.heap.size B)) B e w' → S0 w') := fun w' hj => by
    rw [hS0]
    exact ⟨(XX.out w' hj).1, (XX.out w' hj).2.1⟩
  have s0 : S0 W0.drew := by
    have e : ∀ k, k < w.heap.size + 5 → W0.drew.heap[k]? = (W0.drew.alloc (fnRow w.heap.size B)).heap[k]? := fun k hk => (Below.heap_alloc _ _ k (by have := HZ.out; omega)).symm
    rw [hS0]
    exact ⟨(e _ (by omega)).trans BX.out.x0, (e _ (by omega)).trans ((BX.out.bl.block S hSl).trans BLK.out)⟩
  go_wp2_with fail
  refine wp_region_held (S := S0) (by kernel_rfl) ?_
  change wpAnyH _ _ _ _ _ _ _ _ (World.drew _)
  refine wpAnyH_take (i := 0) (v := .func (.func 109) #[] #[.pointer (some ⟨w.heap.size + 1, 0, none⟩), .pointer (some ⟨w.heap.size + 1 + 1, 0, none⟩), .pointer (some ⟨w.heap.size + 1 + 1 + 1, 0, none⟩)]) rfl (by kernel_rfl) (by kernel_rfl) (by kernel_rfl) (fun _ _ _ h => h) (.inl ⟨by rfl, by intro w hw; go_simp⟩) s0 ?_
  try simp only [Act.put, List.getElem_toArray, List.getElem_cons_zero, List.getElem_cons_succ, List.setIfInBounds_toArray, List.set_cons_zero, List.set_cons_succ]
  refine wpAnyH_take (i := 1) (v := .pointer (some ⟨S, 0, none⟩)) rfl (by kernel_rfl) (by kernel_rfl) (by kernel_rfl) (fun _ _ _ h => h) (.inl ⟨by rfl, by intro w hw; have h := hSS.out w hw; obtain ⟨q0, q1⟩ := h; go_simp⟩) s0 ?_
  try simp only [Act.put, List.getElem_toArray, List.getElem_cons_zero, List.getElem_cons_succ, List.setIfInBounds_toArray, List.set_cons_zero, List.set_cons_succ]
  refine wpAnyH_take (i := 2) (v := .pointer (some ⟨S, 0, none⟩)) rfl (by kernel_rfl) (by kernel_rfl) (by kernel_rfl) (fun _ _ _ h => h) (.inl ⟨by rfl, by intro w hw; go_simp⟩) s0 ?_
  try simp only [Act.put, List.getElem_toArray, List.getElem_cons_zero, List.getElem_cons_succ, List.setIfInBounds_toArray, List.set_cons_zero, List.set_cons_succ]
  refine wpAnyH_take (i := 3) (v := .pointer (some ⟨S, 0, none⟩)) rfl (by kernel_rfl) (by kernel_rfl) (by kernel_rfl) (fun _ _ _ h => h) (.inl ⟨by rfl, by intro w hw; go_simp⟩) s0 ?_
  try simp only [Act.put, List.getElem_toArray, List.getElem_cons_zero, List.getElem_cons_succ, List.setIfInBounds_toArray, List.set_cons_zero, List.set_cons_succ]
  refine wpAnyH_take (i := 4) (v := .pointer (some ⟨B, 0, none⟩)) rfl (by kernel_rfl) (by kernel_rfl) (by kernel_rfl) (fun _ _ _ h => h) (.inl ⟨by rfl, by intro w hw; have h := hSS.out w hw; obtain ⟨q0, q1⟩ := h; go_simp⟩) s0 ?_
  try simp only [Act.put, List.getElem_toArray, List.getElem_cons_zero, List.getElem_cons_succ, List.setIfInBounds_toArray, List.set_cons_zero, List.set_cons_succ]
  refine wpAnyH_take (i := 5) (v := .func (.func 35) #[.pointer (some ⟨B, 0, none⟩)] #[]) rfl (by kernel_rfl) (by kernel_rfl) (by kernel_rfl) (fun _ _ _ h => h) (.inl ⟨by rfl, by intro w hw; go_simp⟩) s0 ?_
  try simp only [Act.put, List.getElem_toArray, List.getElem_cons_zero, List.getElem_cons_succ, List.setIfInBounds_toArray, List.set_cons_zero, List.set_cons_succ]
  refine wpAnyH_take (i := 6) (v := .func (.func 110) #[] #[.pointer (some ⟨w.heap.size, 0, none⟩), .pointer (some ⟨w.heap.size + 1 + 1 + 1 + 1, 0, none⟩)]) rfl (by kernel_rfl) (by kernel_rfl) (by kernel_rfl) (fun _ _ _ h => h) (.inl ⟨by rfl, by intro w hw; go_simp⟩) s0 ?_
  try simp only [Act.put, List.getElem_toArray, List.getElem_cons_zero, List.getElem_cons_succ, List.setIfInBounds_toArray, List.set_cons_zero, List.set_cons_succ]
  refine wpAnyH_take (i := 7) (v := .pointer (some ⟨S, 0, none⟩)) rfl (by kernel_rfl) (by kernel_rfl) (by kernel_rfl) (fun _ _ _ h => h) (.inl ⟨by rfl, by intro w hw; have h := hSS.out w hw; obtain ⟨q0, q1⟩ := h; go_simp⟩) s0 ?_
  try simp only [Act.put, List.getElem_toArray, List.getElem_cons_zero, List.getElem_cons_succ, List.setIfInBounds_toArray, List.set_cons_zero, List.set_cons_succ]
  refine wpAnyH_take (i := 8) (v := .pointer (some ⟨S, 0, none⟩)) rfl (by kernel_rfl) (by kernel_rfl) (by kernel_rfl) (fun _ _ _ h => h) (.inl ⟨by rfl, by intro w hw; go_simp⟩) s0 ?_
  try simp only [Act.put, List.getElem_toArray, List.getElem_cons_zero, List.getElem_cons_succ, List.setIfInBounds_toArray, List.set_cons_zero, List.set_cons_succ]
  refine wpAnyH_take (i := 9) (v := .pointer (some ⟨S, 0, none⟩)) rfl (by kernel_rfl) (by kernel_rfl) (by kernel_rfl) (fun _ _ _ h => h) (.inl ⟨by rfl, by intro w hw; go_simp⟩) s0 ?_
  try simp only [Act.put, List.getElem_toArray, List.getElem_cons_zero, List.getElem_cons_succ, List.setIfInBounds_toArray, List.set_cons_zero, List.set_cons_succ]
  refine wpAnyH_take (i := 10) (v := .pointer (some ⟨B, 0, none⟩)) rfl (by kernel_rfl) (by kernel_rfl) (by kernel_rfl) (fun _ _ _ h => h) (.inl ⟨by rfl, by intro w hw; have h := hSS.out w hw; obtain ⟨q0, q1⟩ := h; go_simp⟩) s0 ?_
  try simp only [Act.put, List.getElem_toArray, List.getElem_cons_zero, List.getElem_cons_succ, List.setIfInBounds_toArray, List.set_cons_zero, List.set_cons_succ]
  refine wpAnyH_take (i := 11) (v := .func (.func 35) #[.pointer (some ⟨B, 0, none⟩)] #[]) rfl (by kernel_rfl) (by kernel_rfl) (by kernel_rfl) (fun _ _ _ h => h) (.inl ⟨by rfl, by intro w hw; go_simp⟩) s0 ?_
  try simp only [Act.put, List.getElem_toArray, List.getElem_cons_zero, List.getElem_cons_succ, List.setIfInBounds_toArray, List.set_cons_zero, List.set_cons_succ]
  refine wpAnyH_one (i := 12) (by kernel_rfl) rfl (by rfl) (fun Kc hK => ?_)
  go_simp
  rw [show W0.heap.size = w.heap.size + 5 from HZ0.out]
  refine hK _ _ SA.out ?_
  clear hK Kc
  try simp only [Act.put, List.getElem_toArray, List.getElem_cons_zero, List.getElem_cons_succ, List.setIfInBounds_toArray, List.set_cons_zero, List.set_cons_succ]
  refine wpAnyH_one (i := 13) (by kernel_rfl) rfl (by rfl) (fun Kc hK => ?_)
  go_simp
  refine (SST.out).mono ?_
  rintro en w3 ⟨rfl, h3'⟩
  go_simp
  refine hK _ _ (SD.out _ h3') ?_
  clear hK Kc
  try simp only [Act.put, List.getElem_toArray, List.getElem_cons_zero, List.getElem_cons_succ, List.setIfInBounds_toArray, List.set_cons_zero, List.set_cons_succ]
  refine wpAnyH_take (i := 14) (v := .int .i64 r) rfl (by kernel_rfl) (by kernel_rfl) (by kernel_rfl) (fun _ _ _ h => h) (.inl ⟨by rfl, by intro w hw; go_simp⟩) (SD.out _ h3') ?_
  try simp only [Act.put, List.getElem_toArray, List.getElem_cons_zero, List.getElem_cons_succ, List.setIfInBounds_toArray, List.set_cons_zero, List.set_cons_succ]
  refine wpAnyH_done (by kernel_rfl) ?_ _
  obtain ⟨x0, x1, x2⟩ := XX.out w3 h3'
  have c0 : w3.cell? ⟨w.heap.size, 0, none⟩ = some (.pointer (some ⟨S, 0, none⟩)) := Joins.cell_of_block x0 0
  have c1 : w3.cell? ⟨S, 10, none⟩ = some (.bool s.broken) := Joins.cell_of_block x1 10
  have f1 : w3.frozen? ⟨S, 10, none⟩ = false := Joins.unfrozen_of_block x1 10
  have H3 := Lib.hid h3'
  have X1 := Lib.hid x1
  clear h3' x0 SA SD s0 hSS
  have hSn : S ≠ w.heap.size + 4 := by omega
  by_cases hr : r = 0
  · subst hr
    have k0 : w3.cell? ⟨S, 4, none⟩ = some (.int .i64 (s.h.slot : Int)) := Joins.cell_of_block x1 4
    have kf0 : w3.frozen? ⟨S, 4, none⟩ = false := Joins.unfrozen_of_block x1 4
    have k1 : w3.cell? ⟨S, 5, none⟩ = some (.int .i64 (s.h.long : Int)) := Joins.cell_of_block x1 5
    have kf1 : w3.frozen? ⟨S, 5, none⟩ = false := Joins.unfrozen_of_block x1 5
    have k2 : w3.cell? ⟨S, 6, none⟩ = some (.int .i64 (s.h.used : Int)) := Joins.cell_of_block x1 6
    have kf2 : w3.frozen? ⟨S, 6, none⟩ = false := Joins.unfrozen_of_block x1 6
    have k3 : w3.cell? ⟨S, 7, none⟩ = some (.int .i64 (s.h.turn : Int)) := Joins.cell_of_block x1 7
    have kf3 : w3.frozen? ⟨S, 7, none⟩ = false := Joins.unfrozen_of_block x1 7
    have m0 : w3.cell? ⟨w.heap.size + 1 + 1 + 1 + 1, 0, none⟩ = some (.int .i64 (h.slot : Int)) := Joins.cell_of_block x2 0
    have m1 : w3.cell? ⟨w.heap.size + 1 + 1 + 1 + 1, 1, none⟩ = some (.int .i64 (h.long : Int)) := Joins.cell_of_block x2 1
    have m2 : w3.cell? ⟨w.heap.size + 1 + 1 + 1 + 1, 2, none⟩ = some (.int .i64 (h.used : Int)) := Joins.cell_of_block x2 2
    have m3 : w3.cell? ⟨w.heap.size + 1 + 1 + 1 + 1, 3, none⟩ = some (.int .i64 (h.turn : Int)) := Joins.cell_of_block x2 3
    have hS1 : S ≠ w.heap.size + 1 + 1 + 1 + 1 := by omega
    have hS2 : w.heap.size + 1 + 1 + 1 + 1 ≠ S := by omega
    have hS3 : S ≠ w.heap.size := by omega
    have hS4 : w.heap.size ≠ S := by omega
    clear x1 x2
    clear SST BX BLK XX
    go_wp2_with fail
    go_ret
    exact ⟨rfl, PS.out _ w3 _ H3.out (set5_frm _ _ _ _ _ _ _) (st_set5 X1.out h)⟩
  · have hb : ((r : Int) != 0) = true := by rw [bne_iff_ne]; exact hr
    have hb2 : ((r : Int) == 0) = false := by rw [beq_eq_false_iff_ne]; exact hr
    have HR := Lib.hid hr
    clear x1 x2 SST BX BLK XX hr
    go_wp2_with fail
    go_ret
    refine ⟨rfl, PS.out _ w3 _ H3.out (Frm.setCell _ _ _ rfl) ?_⟩
    have e : afterSafe s h r = { s with broken := true } := by
      unfold afterSafe; rw [if_neg HR.out, decide_eq_true HR.out]
    rw [e]
    exact st_set1 X1.out true
end Go.Proofs.Ytopemjbakpahfaa
/-
  A store on its device in memory; what is left of it behind a safe writing. No condition but that the numbers are small.
-/
namespace Go.Proofs.Ytopemjbakpahfaa
open Go.RowKit Disk Jour Crc Slot
set_option linter.unusedSimpArgs false
set_option linter.unusedVariables false
/-- A store and its device. -/
structure Stor (F G : Nat → Prop) (w : World) (S B : Nat) (d : Dev) (s : St) : Prop where
  dev : IsDev F w B d
  st : IsSt G w S B s
  dis : ∀ k, G k → ¬ F k
theorem Stor.below {F G : Nat → Prop} {w w' : World} {S B : Nat} {d : Dev} {s : St} (h : Stor F G w S B d s) (hb : Below w.heap.size w w') : Stor F G w' S B d s := ⟨h.dev.below hb, h.st.below hb, h.dis⟩
theorem Stor.frm {F G H : Nat → Prop} {w w' : World} {S B : Nat} {d : Dev} {s : St} (h : Stor F G w S B d s) (hf : Frm H w w') (h1 : ∀ k, F k → ¬ H k) (h2 : ∀ k, G k → ¬ H k) : Stor F G w' S B d s := ⟨h.dev.frm hf h1, h.st.frm hf h2, h.dis⟩
def StorOf (F G : Nat → Prop) (w : World) (S B : Nat) (d : Dev) (s : St) (e : Int) (en : Ending) (w' : World) : Prop :=
  en = .returned (.int .i64 e) ∧ Frm (fun k => F k ∨ G k) w w' ∧ ∃ F' G', Stor F' G' w' S B d s ∧ (∀ k, F' k → F k ∨ w.heap.size ≤ k) ∧ ∀ k, G' k → G k ∨ w.heap.size ≤ k
theorem StorOf.same {F G : Nat → Prop} {w w' : World} {S B : Nat} {d : Dev} {s : St} (h : Stor F G w S B d s) (hb : Below w.heap.size w w') (e : Int) : StorOf F G w S B d s e (.returned (.int .i64 e)) w' :=
  ⟨rfl, Frm.of_below hb, F, G, h.below hb, fun _ h => .inl h, fun _ h => .inl h⟩
theorem BsG.mono {F G : Nat → Prop} {w : World} {v : Value} {l : List UInt8} (h : BsG F w v l) (hG : ∀ k, F k → G k) : BsG G w v l := ⟨h.1, fun k hk => hG k (h.2 k hk)⟩
theorem BsG.not {G : Nat → Prop} {w : World} {v : Value} {l : List UInt8} (h : BsG G w v l) {S : Nat} {C : Array Value} (hS : w.heap[S]? = some (.cells C 134 (0, 0))) : BsG (fun k => G k ∧ k ≠ S) w v l :=
  ⟨h.1, fun k hk => ⟨h.2 k hk, row_apart hS h.1 (by decide) k hk⟩⟩
theorem RowsG.not {G : Nat → Prop} {w : World} {v : Value} {L : List (List UInt8)} (h : RowsG G w v L) {S : Nat} {C : Array Value} (hS : w.heap[S]? = some (.cells C 134 (0, 0))) : RowsG (fun k => G k ∧ k ≠ S) w v L := by
  obtain ⟨vs, h1, h2, h3⟩ := h
  exact ⟨vs, h1, fun k hk => ⟨h2 k hk, row_apart hS h1 (by decide) k hk⟩, fun i u l a b => (h3 i u l a b).not hS⟩
theorem area_ne {w : World} {A B first n S : Nat} {C : Array Value} (h : IsArea w A B first n) (hS : w.heap[S]? = some (.cells C 134 (0, 0))) : A ≠ S := fun e => by
  have h1 := h.blk
  rw [e, hS] at h1
  cases h1
/-- What of a store its own block does not hold. -/
structure StRest (G : Nat → Prop) (w : World) (S B A0 A1 AL : Nat) (s : St) (vc vr : Value) : Prop where
  a0 : IsArea w A0 B 1 s.N
  a1 : IsArea w A1 B (1 + s.N) s.N
  al : IsArea w AL B (1 + 2 * s.N) s.L
  check : BsG G w vc s.check
  recs : RowsG G w vr s.recs
theorem StV.rest {F G : Nat → Prop} {w w' : World} {S B A0 A1 AL : Nat} {s : St} {vc vr : Value} (V : StV G w S B A0 A1 AL s vc vr) (hf : Frm (fun k => F k ∨ k = S) w w') (dis : ∀ k, G k → ¬ F k) : StRest G w' S B A0 A1 AL s vc vr := by
  have e : ∀ k, G k ∧ k ≠ S → k < w.heap.size → w'.heap[k]? = w.heap[k]? := fun k hk hl => hf.block k hl (fun h => h.elim (dis k hk.1) hk.2)
  have ea : ∀ k, G k → k ≠ S → w'.heap[k]? = w.heap[k]? := fun k h1 h2 => e k ⟨h1, h2⟩ (V.lt k h1)
  exact ⟨V.a0.same (ea _ V.f0 (area_ne V.a0 V.blk)), V.a1.same (ea _ V.f1 (area_ne V.a1 V.blk)), V.al.same (ea _ V.fl (area_ne V.al V.blk)), ((V.check.not V.blk).same e (fun _ h => h)).mono (fun _ h => h.1), (V.recs.not V.blk).same e (fun _ h => h.1)⟩
theorem StRest.same {G : Nat → Prop} {w w' : World} {S B A0 A1 AL : Nat} {s : St} {vc vr : Value} (h : StRest G w S B A0 A1 AL s vc vr) (e : ∀ k, k < w.heap.size → w'.heap[k]? = w.heap[k]?) : StRest G w' S B A0 A1 AL s vc vr :=
  ⟨h.a0.same (e _ h.a0.lt), h.a1.same (e _ h.a1.lt), h.al.same (e _ h.al.lt), h.check.same (fun k _ hl => e k hl) (fun _ h => h), h.recs.same (fun k _ hl => e k hl) (fun _ h => h)⟩
theorem Frm.drop {F : Nat → Prop} {w w1 w' : World} {S : Nat} {G : Nat → Prop} (hb : Below w.heap.size w w1) (hf : Frm (fun k => F k ∨ k = S) w1 w') (hS : G S) : Frm (fun k => F k ∨ G k) w w' :=
  (Frm.of_below hb).trans hf (fun k hk => .inl (hk.imp_right (fun h => by rw [h]; exact hS)))
/-- Behind an error the store is broken. -/
theorem broke_fin {F G : Nat → Prop} {w w1 w3 : World} {S B A0 A1 AL : Nat} {s : St} {vc vr : Value} {d e : Dev} (hd : IsDev F w B d) (V : StV G w S B A0 A1 AL s vc vr) (dis : ∀ k, G k → ¬ F k) (hb : Below w.heap.size w w1) (P : SafePost F w1 S B A0 A1 AL { s with broken := true } vc vr e w3) (r : Int) :
    StorOf F G w S B e { s with broken := true } r (.returned (.int .i64 r)) w3 := by
  obtain ⟨F', h1, h2⟩ := P.dev
  have hsz := hb.size
  have R := (V.below hb).rest P.frm dis
  refine ⟨rfl, Frm.drop hb P.frm V.fs, F', G, ⟨h1, ⟨A0, A1, AL, vc, vr, P.blk, R.a0, R.a1, R.al, R.check, R.recs, V.fs, V.f0, V.f1, V.fl, fun k hk => ?_, ?_⟩, fun k hk hF => ?_⟩, fun k hk => (h2 k hk).imp_right (fun h => by omega), fun k hk => .inl hk⟩
  · have := V.lt k hk; have := P.frm.size; omega
  · have k := V.ok; exact ⟨k.slot, k.turn, k.long, k.used, k.n1, k.k, k.check, k.rl, k.rr⟩
  · have := V.lt k hk
    rcases h2 k hF with h | h
    · exact dis k hk h
    · omega
/-- Behind a saving that told OK. -/
theorem save_fin {F G : Nat → Prop} {w w1 w3 w4 : World} {S B A0 A1 AL : Nat} {s : St} {vc vr : Value} {d e : Dev} (hd : IsDev F w B d) (V : StV G w S B A0 A1 AL s vc vr) (dis : ∀ k, G k → ¬ F k) (hb : Below w.heap.size w w1) {h : Hd} (P : SafePost F w1 S B A0 A1 AL { s with h := h, broken := false } vc vr e w3)
    {v : Value} {b : List UInt8} (b4 : Below w3.heap.size w3 w4) (o4 : w4.ownsRow w3.heap.size 5 1 v b.length (b.map byteV)) (ok : StOk { s with h := h, broken := false, check := b, recs := [] }) :
    StorOf F G w S B e { s with h := h, broken := false, check := b, recs := [] } 0 (.returned (.int .i64 0)) ((w4.setCell ⟨S, 8, none⟩ v).setCell ⟨S, 9, none⟩ (.slice none 0 0)) := by
  obtain ⟨F', h1, h2⟩ := P.dev
  have hsz := hb.size
  have hs3 := P.frm.size
  have hs4 := b4.size
  have hSl := V.lt S V.fs
  have R := ((V.below hb).rest P.frm dis).same (fun k hl => b4.block k hl)
  have fS : Frm (fun k => k = S) w4 ((w4.setCell ⟨S, 8, none⟩ v).setCell ⟨S, 9, none⟩ (.slice none 0 0)) := (Frm.setCell (F := fun k => k = S) w4 8 v rfl).trans (Frm.setCell (F := fun k => k = S) _ 9 _ rfl) (fun _ h => .inl h)
  have hblk4 := (b4.block S (by omega)).trans P.blk
  have hblk : ((w4.setCell ⟨S, 8, none⟩ v).setCell ⟨S, 9, none⟩ (.slice none 0 0)).heap[S]? = some (.cells (stcells B A0 A1 AL { s with h := h, broken := false, check := b, recs := [] } v (.slice none 0 0)) 134 (0, 0)) := Joins.block_setCell (Joins.block_setCell hblk4 v) _
  have nS : ¬ F' S := fun hx => (h2 S hx).elim (dis S V.fs) (fun h => by omega)
  have ea : ∀ k, k < w4.heap.size → k ≠ S → ((w4.setCell ⟨S, 8, none⟩ v).setCell ⟨S, 9, none⟩ (.slice none 0 0)).heap[k]? = w4.heap[k]? := fun k hl hne => fS.block k hl hne
  have n0 := area_ne R.a0 hblk4
  have n1 := area_ne R.a1 hblk4
  have nl := area_ne R.al hblk4
  have lt0 := R.a0.lt
  have lt1 := R.a1.lt
  have ltl := R.al.lt
  refine ⟨rfl, ?_, F', fun k => G k ∨ (w3.heap.size ≤ k ∧ k < w4.heap.size), ⟨(h1.below b4).frm fS (fun k hk he => nS (by rw [← he]; exact hk)), ⟨A0, A1, AL, v, .slice none 0 0, hblk, R.a0.same (ea _ lt0 n0), R.a1.same (ea _ lt1 n1), R.al.same (ea _ ltl nl), ⟨ownsRow_base (owns_block o4 (fun k hk => ea k (o4.lt k hk).2 (by have := (o4.lt k hk).1; omega))) (Nat.zero_le _), fun k hk => .inr (o4.lt k hk)⟩, RowsG.nil _ _, .inl V.fs, .inl V.f0, .inl V.f1, .inl V.fl, fun k hk => ?_, ok⟩, fun k hk hF => ?_⟩, fun k hk => (h2 k hk).imp_right (fun h => by omega), fun k hk => hk.imp_right (fun h => by omega)⟩
  · exact ((Frm.drop hb P.frm V.fs).trans (Frm.of_below (F := fun k => F k ∨ G k) b4) (fun k hk => .inl hk)).trans fS (fun k hk => .inl (by rw [hk]; exact .inr V.fs))
  · have hx := fS.size
    rcases hk with hk | hk
    · have := V.lt k hk; omega
    · omega
  · rcases hk with hk | hk
    · have := V.lt k hk
      rcases h2 k hF with h | h
      · exact dis k hk h
      · omega
    · have := h1.lt k hF; omega
end Go.Proofs.Ytopemjbakpahfaa
