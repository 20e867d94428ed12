/-
  Contracts and plain laws, part 8 (texts: Dev4, Dev5, Dev6, Dev7, DSmall, Area). No condition but what each states.
-/
import Derived.Test.YtopemjbakpahfaaSn07
import Derived.Laws.MakeOwn
/-
  The device's Sync. No condition but that the device's numbers are small.
-/
namespace Go.Proofs.Ytopemjbakpahfaa
open Go.RowKit Disk
theorem flat_at : ∀ (ps : List (Nat × List UInt8)), (∀ p ∈ ps, p.2.length = 32) → ∀ (i j : Nat) (p : Nat × List UInt8), ps[i]? = some p → j < 33 → (ps.flatMap pcells)[i * 33 + j]? = (pcells p)[j]? := by
  intro ps
  induction ps with
  | nil => intro _ i j p h; simp at h
  | cons x ps ih =>
    intro h i j p hp hj
    have hx := pcells_length (h x (by simp))
    rw [List.flatMap_cons]
    cases i with
    | zero =>
      simp at hp
      subst hp
      rw [Nat.zero_mul, Nat.zero_add, List.getElem?_append_left (by omega)]
    | succ i =>
      simp at hp
      rw [List.getElem?_append_right (by omega), hx, show (i + 1) * 33 + j - 33 = i * 33 + j by omega]
      exact ih (fun q hq => h q (by simp [hq])) i j p hp hj
/-- A pending write, as it lies in its row. -/
theorem pend_at {F : Nat → Prop} {w : World} {vp : Value} {ps : List (Nat × List UInt8)} (h : Pend F w vp ps) (h32 : ∀ p ∈ ps, p.2.length = 32) {i : Nat} {p : Nat × List UInt8} (hi : ps[i]? = some p) :
    ∃ g c, vp = .slice (some ⟨g, 0, none⟩) ps.length c ∧ w.rangeAt g (i * 33) (pcells p) := by
  have hl : i < ps.length := (List.getElem?_eq_some_iff.1 hi).1
  have hp := pcells_length (h32 p (List.mem_of_getElem? hi))
  rcases h.own.2 with ⟨_, h0⟩ | ⟨g, cap, cur, rfl, _⟩
  · omega
  · refine ⟨g, cap, rfl, fun j v hv => ?_⟩
    have hj : j < 33 := by have := (List.getElem?_eq_some_iff.1 hv).1; omega
    have := h.own.cells (g := g) rfl (i * 33 + j) v (by rw [flat_at ps h32 i j p hi hj]; exact hv)
    rw [Addr.add_mid, Nat.zero_add] at this
    exact this
theorem DevV.below {F : Nat → Prop} {A B : World} {b K : Nat} {vp : Value} {d : Dev} (h : DevV F A b K vp d) (hb : Below A.heap.size A B) : DevV F B b K vp d :=
  ⟨(hb.block b (h.lt b h.f)).trans h.blk, h.kept.same (hb.block K h.kept.typ.lt) h.kept.f, h.pend.same (fun k hk => hb.block k (h.pend.own.lt k hk).2) (fun _ h => h), h.ok, h.f, h.arm, fun k hk => Nat.lt_of_lt_of_le (h.lt k hk) hb.size⟩
theorem foldl_snoc {α β : Type} (f : β → α → β) (b : β) (l : List α) (i : Nat) (x : α) (h : l[i]? = some x) : (l.take (i + 1)).foldl f b = f ((l.take i).foldl f b) x := by
  have hl : i < l.length := (List.getElem?_eq_some_iff.1 h).1
  rw [List.take_succ_eq_append_getElem hl, List.foldl_append]
  have : l[i] = x := by rw [List.getElem?_eq_getElem hl] at h; simpa using h
  rw [this]; rfl
set_option maxRecDepth 100000 in
set_option maxHeartbeats 4000000 in
theorem sync_any {F : Nat → Prop} {w : World} {B : Nat} {d : Dev} (h : IsDev F w B d) (hp : d.pend.length ≤ 100000) (hy : d.syncs ≤ 100000) :
    Calls Try.prog 35 #[.pointer (some ⟨B, 0, none⟩)] w (DevOf F w B d.sync.1 (.int .i64 d.sync.2)) := by
  have hFl := h.lt
  obtain ⟨r, hr0⟩ : ∃ r, d.sync = r := ⟨_, rfl⟩
  have HOK0 := sync_ok h.ok
  rw [hr0] at HOK0 ⊢
  have HOK := Lib.hid HOK0
  clear HOK0
  obtain ⟨K0, vp0, hv⟩ := h.v
  have c2 : w.cell? ⟨B, 2, none⟩ = some (.bool d.down) := Joins.cell_of_block hv.blk 2
  clear hv
  go_enter Try.func35, Try.ntmps35
  cases hd : d.down
  rotate_left
  · obtain rfl : r = (d, 14) := by rw [← hr0]; unfold Dev.sync; rw [if_pos hd]
    rw [hd] at c2
    go_wp2
    go_ret
    exact ⟨rfl, Frm.refl _ _, h.grow hFl (Nat.le_refl _)⟩
  rw [hd] at c2
  go_wp2_with fail
  refine (stops_any h).mono ?_
  rintro en w1 ⟨rfl, f1, d1⟩
  by_cases h3 : d.armed = 1
  · obtain rfl : r = (d.step, 14) := by rw [← hr0]; unfold Dev.sync; rw [if_neg (by rw [hd]; simp), if_pos h3]
    rw [decide_eq_true h3]
    go_wp2
    go_ret
    exact ⟨rfl, f1, d1.grow hFl f1.size⟩
  obtain rfl : r = ({ d.step with kept := d.pend.foldl put d.kept, pend := [], syncs := d.syncs + 1 }, 0) := by rw [← hr0]; unfold Dev.sync; rw [if_neg (by rw [hd]; simp), if_neg h3]
  rw [decide_eq_false h3]
  clear hr0 c2
  obtain ⟨K, vp, V1⟩ := d1.v
  obtain ⟨ap, cp, rfl⟩ := pend_form V1.pend
  have hc1 : w1.cell? ⟨B, 1, none⟩ = some (.slice ap d.step.pend.length cp) := Joins.cell_of_block V1.blk 1
  have hpl : d.step.pend.length ≤ 100000 := hp
  have h32 : ∀ p ∈ d.step.pend, p.1 < d.kept.length ∧ p.2.length = 32 := h.ok.2
  have F1 := Lib.hid f1
  have VV := Lib.hid V1
  clear V1 f1 d1
  go_wp2_with fail
  go_loopw [18] (fun iv wr => ∃ i : Nat, iv = .int .i64 i ∧ i ≤ d.step.pend.length ∧ Frm F w wr ∧ DevV F wr B K (.slice ap d.step.pend.length cp) { d.step with kept := (d.step.pend.take i).foldl put d.kept }) (fun iv _ => d.step.pend.length - (intOf iv).toNat)
  case atStart => exact ⟨0, rfl, Nat.zero_le _, F1.out, VV.out⟩
  case round =>
    obtain ⟨i, rfl, hi, hfr, hv⟩ := hrel
    have HF := Lib.hid hfr
    have HV := Lib.hid hv
    clear hfr hv
    by_cases hlt : i < d.step.pend.length
    · have hi0 : (0 : Int) ≤ (i : Int) := by omega
      have hii : (i : Int) < (d.step.pend.length : Int) := by omega
      obtain ⟨p, hpi⟩ : ∃ p, d.step.pend[i]? = some p := ⟨_, List.getElem?_eq_getElem hlt⟩
      have hpm := h32 p (List.mem_of_getElem? hpi)
      obtain ⟨g, c, e, hrg⟩ := pend_at HV.out.pend (fun q hq => (h32 q hq).2) hpi
      simp only [Value.slice.injEq] at e
      obtain ⟨rfl, _, rfl⟩ := e
      have hl33 : (pcells p).length = 33 := pcells_length hpm.2
      have hs33 : (pcells p).toArray.size = 33 := by rw [List.size_toArray, hl33]
      have RG := Lib.hid hrg
      clear hrg
      go_wp2_with (first
        | ((refine wpList_load_mid rfl 112 (.tmp 20) rfl g (i * 33) rfl (pcells p) _ RG.out Try.underlying112 rfl (by rw [hl33]; exact size112) ?_))
        | ((refine wpList_store_new rfl 112 (.tmp 4) (.tmp 21) rfl _ (pcells p).toArray rfl rfl (by rw [hs33]; exact size112) (by rw [hs33]; rfl) (pcells_one _) ?_))
        | ((refine wpList_load_mid rfl 112 (.tmp 4) rfl wr.heap.size 0 rfl (pcells p) _ (range_new wr (pcells p) 112) Try.underlying112 rfl (by rw [hl33]; exact size112) ?_)))
      refine (keep_any (HV.out.below (below_alloc wr _)) p (by show p.1 < ((d.step.pend.take i).foldl put d.kept).length; rw [puts_length]; exact hpm.1) hpm.2).mono ?_
      rintro en w2 ⟨⟨v2, rfl⟩, f2, dv2⟩
      have F2 := Lib.hid ((HF.out.trans (Frm.of_below (F := F) (below_alloc wr _)) (fun k hk => .inl hk)).trans f2 (fun k hk => .inl hk))
      have V2 : Hid (DevV F w2 B K (.slice (some ⟨g, 0, none⟩) d.step.pend.length cp) { d.step with kept := (d.step.pend.take (i + 1)).foldl put d.kept }) := by
        show DevV _ _ _ _ _ _
        rw [foldl_snoc put d.kept d.step.pend i p hpi]
        exact dv2
      clear f2 dv2
      go_wp2_with fail
      go_roundw
      case rel => exact ⟨i + 1, rfl, hlt, F2.out, V2.out⟩
      case measure => simp only [intOf]; omega
    · have hii : ¬ (i : Int) < (d.step.pend.length : Int) := by omega
      obtain rfl : i = d.step.pend.length := by omega
      have hv := HV.out
      rw [List.take_length] at hv
      have hb := hv.blk
      have hc1 : wr.cell? ⟨B, 1, none⟩ = some (.slice ap d.step.pend.length cp) := Joins.cell_of_block hb 1
      have hf1 : wr.frozen? ⟨B, 1, none⟩ = false := Joins.unfrozen_of_block hb 1
      have hb2 := Joins.block_setCell (i := 1) hb (.slice none 0 0)
      have hc5 : (wr.setCell ⟨B, 1, none⟩ (.slice none 0 0)).cell? ⟨B, 5, none⟩ = some (.int .i64 (d.syncs : Int)) := Joins.cell_of_block hb2 5
      have hf5 : (wr.setCell ⟨B, 1, none⟩ (.slice none 0 0)).frozen? ⟨B, 5, none⟩ = false := Joins.unfrozen_of_block hb2 5
      have hyi : (d.syncs : Int) ≤ 100000 := by omega
      have hy0 : (0 : Int) ≤ (d.syncs : Int) := by omega
      have fin : ∀ v, v = Value.int .i64 0 → DevOf F w B { d.step with kept := d.pend.foldl put d.kept, pend := [], syncs := d.syncs + 1 } (.int .i64 0) (.returned v) ((wr.setCell ⟨B, 1, none⟩ (.slice none 0 0)).setCell ⟨B, 5, none⟩ (.int .i64 ((d.syncs + 1 : Nat) : Int))) := by
        intro v hv'
        have hfr2 : Frm F w ((wr.setCell ⟨B, 1, none⟩ (.slice none 0 0)).setCell ⟨B, 5, none⟩ (.int .i64 ((d.syncs + 1 : Nat) : Int))) := (HF.out.trans (Frm.setCell wr 1 _ hv.f) (fun k hk => .inl hk)).trans (Frm.setCell _ 5 _ hv.f) (fun k hk => .inl hk)
        refine ⟨by rw [hv'], hfr2, ?_⟩
        have hp0 : Pend F wr (.slice none 0 0) [] := ⟨World.ownsRow_nil _ _ _ _, fun k hk => by simp [Value.ownBlock] at hk⟩
        have h1 := dev_set (e := { d.step with kept := d.pend.foldl put d.kept, pend := [] }) hb hv.kept hp0 1 (.slice none 0 0) (by simp [dcells]; rfl) rfl hv.f HOK.out hv.arm hv.lt
        obtain ⟨⟨K1, vp1, hb1, hk1, hp1⟩, ho1, hf1, ha1, hl1⟩ := h1
        have h2 := dev_set (e := { d.step with kept := d.pend.foldl put d.kept, pend := [], syncs := d.syncs + 1 }) hb1 hk1 hp1 5 (.int .i64 ((d.syncs + 1 : Nat) : Int)) (by simp [dcells]) rfl hf1 HOK.out ha1 hl1
        exact h2.grow hFl hfr2.size
      have FN := Lib.hid fin
      clear fin hb hb2 hv
      go_wp2
      go_ret
      exact FN.out _ rfl
end Go.Proofs.Ytopemjbakpahfaa
/-
  The device's Restart; whether a number is among numbers. No condition but that the device's numbers are small.
-/
namespace Go.Proofs.Ytopemjbakpahfaa
open Go.RowKit Disk
/-- The slice at a reads as these numbers. -/
def RI (w : World) (a : Option Addr) (l : List Int) : Prop :=
  ∀ i, i < l.length → ∃ g off, a = some ⟨g, off, none⟩ ∧ g < w.heap.size ∧ w.cell? ⟨g, off + i, none⟩ = some (.int .i64 (l.getD i 0))
theorem RI.below {w w1 : World} {a : Option Addr} {l : List Int} (h : RI w a l) (hb : Below w.heap.size w w1) : RI w1 a l := by
  intro i hi
  obtain ⟨g, off, e, hg, hc⟩ := h i hi
  exact ⟨g, off, e, Nat.lt_of_lt_of_le hg hb.size, (hb.cell (p := ⟨g, off + i, none⟩) hg).trans hc⟩
theorem mem_of_getD {l : List Int} {i : Nat} (h : i < l.length) : l.getD i 0 ∈ l := by
  have : l.getD i 0 = l[i] := by simp [List.getD, h]
  rw [this]; exact List.getElem_mem h
theorem index_any (l : List Int) (x : Int) (a : Option Addr) (cap : Nat) (w : World) (hl : (l.length : Int) ≤ 9223372036854775807) (hr : RI w a l) :
    Calls Try.prog 102 #[.slice a l.length cap, .int .i64 x] w fun en w' => (∃ r : Int, en = .returned (.int .i64 r) ∧ Hid (0 ≤ r ↔ x ∈ l)) ∧ w = w' := by
  have HR := Lib.hid hr
  clear hr
  go_enter Try.func102, Try.ntmps102
  go_wp2
  go_loop [8] (fun iv => ∃ k : Nat, iv = .int .i64 k ∧ k ≤ l.length ∧ ∀ j, j < k → l.getD j 0 ≠ x) (fun iv => l.length - (intOf iv).toNat)
  case atStart => exact ⟨0, rfl, Nat.zero_le _, fun j hj => absurd hj (Nat.not_lt_zero j)⟩
  case round =>
    obtain ⟨k, rfl, hk, hall⟩ := hrel
    have HA := Lib.hid hall
    clear hall
    by_cases hlt : k < l.length
    · have hk0 : (0 : Int) ≤ (k : Int) := by omega
      have hki : (k : Int) < (l.length : Int) := by omega
      obtain ⟨g, off, rfl, hg, hcell⟩ := HR.out k hlt
      have hyes : Hid (l.getD k 0 = x → x ∈ l) := fun e => by rw [← e]; exact mem_of_getD hlt
      have hnext : Hid (l.getD k 0 ≠ x → ∀ j, j < k + 1 → l.getD j 0 ≠ x) := fun hx j hj => by
        rcases Nat.lt_or_ge j k with h1 | h1
        · exact HA.out j h1
        · obtain rfl : j = k := by omega
          exact hx
      generalize l.getD k 0 = y at hcell hyes hnext
      cases hb : (x == y)
      · go_wp2
        go_round
        case rel => exact ⟨k + 1, rfl, hlt, hnext.out (fun e => by rw [e] at hb; simp at hb)⟩
        case measure => simp only [intOf]; omega
      · go_wp2
        go_ret
        have hm := hyes.out (by have := (beq_iff_eq.1 hb); exact this.symm)
        exact ⟨⟨_, rfl, ⟨fun _ => hm, fun _ => hk0⟩⟩, rfl⟩
    · have hki : ¬ (k : Int) < (l.length : Int) := by omega
      obtain rfl : k = l.length := by omega
      go_wp2
      go_ret
      refine ⟨⟨-1, rfl, ?_⟩, rfl⟩
      have hno : ¬ x ∈ l := by
        intro hx
        obtain ⟨j, hj, e⟩ := List.mem_iff_getElem.1 hx
        exact HA.out j hj (by simp [List.getD, hj, e])
      exact ⟨fun h => by omega, fun h => absurd h hno⟩
theorem contains_any (l : List Int) (x : Int) (a : Option Addr) (cap : Nat) (w : World) (hl : (l.length : Int) ≤ 9223372036854775807) (hr : RI w a l) :
    Calls Try.prog 89 #[.slice a l.length cap, .int .i64 x] w fun en w' => en = .returned (.bool (decide (x ∈ l))) ∧ w = w' := by
  go_enter Try.func89, Try.ntmps89
  go_wp2_with fail
  refine (index_any l x a cap _ hl hr).mono ?_
  rintro en w1 ⟨⟨r, rfl, hd⟩, rfl⟩
  go_wp2
  go_ret
  exact ⟨ret_bool (decide_eq_decide.2 hd.out), rfl⟩
theorem sel_snoc (keep : List Int) (p : Nat × List UInt8) : ∀ (l : List (Nat × List UInt8)) (k : Nat), sel keep k (l ++ [p]) = sel keep k l ++ (if ((k + l.length : Nat) : Int) ∈ keep then [p] else []) := by
  intro l
  induction l with
  | nil => intro k; simp [sel]
  | cons q l ih =>
    intro k
    rw [List.cons_append]
    unfold sel
    rw [ih (k + 1), List.length_cons, show k + 1 + l.length = k + (l.length + 1) by omega]
    split <;> rfl
theorem sel_take {keep : List Int} {l : List (Nat × List UInt8)} {i : Nat} {p : Nat × List UInt8} (h : l[i]? = some p) : sel keep 0 (l.take (i + 1)) = sel keep 0 (l.take i) ++ (if (i : Int) ∈ keep then [p] else []) := by
  have hl : i < l.length := (List.getElem?_eq_some_iff.1 h).1
  have : l[i] = p := by rw [List.getElem?_eq_getElem hl] at h; simpa using h
  rw [List.take_succ_eq_append_getElem hl, this, sel_snoc, List.length_take, Nat.zero_add, Nat.min_eq_left (by omega)]
theorem sel_len (keep : List Int) : ∀ (l : List (Nat × List UInt8)) (k : Nat), (sel keep k l).length ≤ l.length := by
  intro l
  induction l with
  | nil => intro k; simp [sel]
  | cons q l ih =>
    intro k
    unfold sel
    have := ih (k + 1)
    split <;> simp <;> omega
set_option maxRecDepth 100000 in
set_option maxHeartbeats 4000000 in
theorem restart_any {F : Nat → Prop} {w : World} {B : Nat} {d : Dev} (h : IsDev F w B d) (hp : d.pend.length ≤ 100000) (l : List Int) (a : Option Addr) (cap : Nat) (hl : (l.length : Int) ≤ 9223372036854775807)
    (hsrc : ∀ w', Frm F w w' → RI w' a l) :
    Calls Try.prog 37 #[.pointer (some ⟨B, 0, none⟩), .slice a l.length cap] w (DevOf F w B (d.restart l).1 (.int .i64 ((d.restart l).2 : Nat))) := by
  have hFl := h.lt
  have HOK := Lib.hid (restart_ok h.ok l)
  obtain ⟨K, vp, V1⟩ := h.v
  obtain ⟨ap, cp, rfl⟩ := pend_form V1.pend
  have hc1 : w.cell? ⟨B, 1, none⟩ = some (.slice ap d.pend.length cp) := Joins.cell_of_block V1.blk 1
  have h32 : ∀ p ∈ d.pend, p.1 < d.kept.length ∧ p.2.length = 32 := h.ok.2
  have VV := Lib.hid V1
  clear V1 h
  go_enter Try.func37, Try.ntmps37
  go_wp2_with fail
  go_loopw [5, 13] (fun cv iv wr => ∃ i : Nat, iv = .int .i64 i ∧ i ≤ d.pend.length ∧ cv = .int .i64 ((sel l 0 (d.pend.take i)).length : Nat) ∧ Frm F w wr ∧ DevV F wr B K (.slice ap d.pend.length cp) { d with kept := (sel l 0 (d.pend.take i)).foldl put d.kept }) (fun _ iv _ => d.pend.length - (intOf iv).toNat)
  case atStart => exact ⟨0, rfl, Nat.zero_le _, rfl, Frm.refl _ _, VV.out⟩
  case round =>
    obtain ⟨i, rfl, hi, rfl, hfr, hv⟩ := hrel
    have HF := Lib.hid hfr
    have HV := Lib.hid hv
    clear hfr hv
    have hsl := sel_len l (d.pend.take i) 0
    rw [List.length_take] at hsl
    by_cases hlt : i < d.pend.length
    · have hi0 : (0 : Int) ≤ (i : Int) := by omega
      have hii : (i : Int) < (d.pend.length : Int) := by omega
      obtain ⟨p, hpi⟩ : ∃ p, d.pend[i]? = some p := ⟨_, List.getElem?_eq_getElem hlt⟩
      have hpm := h32 p (List.mem_of_getElem? hpi)
      obtain ⟨g, c, e, hrg⟩ := pend_at HV.out.pend (fun q hq => (h32 q hq).2) hpi
      simp only [Value.slice.injEq] at e
      obtain ⟨rfl, _, rfl⟩ := e
      have hl33 : (pcells p).length = 33 := pcells_length hpm.2
      have hs33 : (pcells p).toArray.size = 33 := by rw [List.size_toArray, hl33]
      have RG := Lib.hid hrg
      have ST := Lib.hid (sel_take (keep := l) hpi)
      have fA : Frm F w (wr.alloc (.cells (pcells p).toArray 112)) := HF.out.trans (Frm.of_below (F := F) (below_alloc wr _)) (fun k hk => .inl hk)
      have FA := Lib.hid fA
      clear hrg fA
      go_wp2_with (first
        | (refine wpList_load_mid rfl 112 (.tmp 16) rfl g (i * 33) rfl (pcells p) _ RG.out Try.underlying112 rfl (by rw [hl33]; exact size112) ?_)
        | (refine wpList_store_new rfl 112 (.tmp 7) (.tmp 17) rfl _ (pcells p).toArray rfl rfl (by rw [hs33]; exact size112) (by rw [hs33]; rfl) (pcells_one _) ?_))
      refine (contains_any l (i : Int) a cap _ hl (hsrc _ FA.out)).mono ?_
      rintro en w1 ⟨rfl, rfl⟩
      by_cases hmem : (i : Int) ∈ l
      · rw [decide_eq_true hmem]
        go_wp2_with (refine wpList_load_mid rfl 112 (.tmp 7) rfl wr.heap.size 0 rfl (pcells p) _ (range_new wr (pcells p) 112) Try.underlying112 rfl (by rw [hl33]; exact size112) ?_)
        refine (keep_any (HV.out.below (below_alloc wr _)) p (by show p.1 < ((sel l 0 (d.pend.take i)).foldl put d.kept).length; rw [puts_length]; exact hpm.1) hpm.2).mono ?_
        rintro en w2 ⟨⟨v2, rfl⟩, f2, dv2⟩
        have F2 := Lib.hid (FA.out.trans f2 (fun k hk => .inl hk))
        have ST2 := ST.out
        rw [if_pos hmem] at ST2
        have V2 : Hid (DevV F w2 B K (.slice (some ⟨g, 0, none⟩) d.pend.length cp) { d with kept := (sel l 0 (d.pend.take (i + 1))).foldl put d.kept }) := by
          show DevV _ _ _ _ _ _
          rw [ST2, List.foldl_append]
          exact dv2
        have hln : Hid ((sel l 0 (d.pend.take (i + 1))).length = (sel l 0 (d.pend.take i)).length + 1) := by show _ = _; rw [ST2]; simp
        clear f2 dv2 ST2
        generalize (sel l 0 (d.pend.take i)).length = m at hsl hln
        go_wp2_with fail
        go_roundw
        case rel => exact ⟨i + 1, rfl, hlt, by rw [hln.out]; rfl, F2.out, V2.out⟩
        case measure => simp only [intOf]; omega
      · rw [decide_eq_false hmem]
        have ST2 := ST.out
        rw [if_neg hmem, List.append_nil] at ST2
        have V2 : Hid (DevV F (wr.alloc (.cells (pcells p).toArray 112)) B K (.slice (some ⟨g, 0, none⟩) d.pend.length cp) { d with kept := (sel l 0 (d.pend.take (i + 1))).foldl put d.kept }) := by
          show DevV _ _ _ _ _ _
          rw [ST2]
          exact HV.out.below (below_alloc wr _)
        have S2 := Lib.hid ST2
        clear ST2
        go_wp2_with fail
        go_roundw
        case rel => exact ⟨i + 1, rfl, hlt, by rw [S2.out], FA.out, V2.out⟩
        case measure => simp only [intOf]; omega
    · have hii : ¬ (i : Int) < (d.pend.length : Int) := by omega
      obtain rfl : i = d.pend.length := by omega
      have hv := HV.out
      rw [List.take_length] at hv ⊢
      have hb := hv.blk
      have c1 : wr.cell? ⟨B, 1, none⟩ = some (.slice ap d.pend.length cp) := Joins.cell_of_block hb 1
      have f1 : wr.frozen? ⟨B, 1, none⟩ = false := Joins.unfrozen_of_block hb 1
      have hb2 := Joins.block_setCell (i := 1) hb (.slice none 0 0)
      have c2 : (wr.setCell ⟨B, 1, none⟩ (.slice none 0 0)).cell? ⟨B, 2, none⟩ = some (.bool d.down) := Joins.cell_of_block hb2 2
      have f2 : (wr.setCell ⟨B, 1, none⟩ (.slice none 0 0)).frozen? ⟨B, 2, none⟩ = false := Joins.unfrozen_of_block hb2 2
      have hb3 := Joins.block_setCell (i := 2) hb2 (.bool false)
      have c3 : ((wr.setCell ⟨B, 1, none⟩ (.slice none 0 0)).setCell ⟨B, 2, none⟩ (.bool false)).cell? ⟨B, 3, none⟩ = some (.int .i64 (d.armed : Int)) := Joins.cell_of_block hb3 3
      have f3 : ((wr.setCell ⟨B, 1, none⟩ (.slice none 0 0)).setCell ⟨B, 2, none⟩ (.bool false)).frozen? ⟨B, 3, none⟩ = false := Joins.unfrozen_of_block hb3 3
      have fin : ∀ v, v = Value.int .i64 ((d.restart l).2 : Nat) → DevOf F w B (d.restart l).1 (.int .i64 ((d.restart l).2 : Nat)) (.returned v) (((wr.setCell ⟨B, 1, none⟩ (.slice none 0 0)).setCell ⟨B, 2, none⟩ (.bool false)).setCell ⟨B, 3, none⟩ (.int .i64 0)) := by
        intro v hv'
        have hfr2 : Frm F w (((wr.setCell ⟨B, 1, none⟩ (.slice none 0 0)).setCell ⟨B, 2, none⟩ (.bool false)).setCell ⟨B, 3, none⟩ (.int .i64 0)) := ((HF.out.trans (Frm.setCell wr 1 _ hv.f) (fun k hk => .inl hk)).trans (Frm.setCell _ 2 _ hv.f) (fun k hk => .inl hk)).trans (Frm.setCell _ 3 _ hv.f) (fun k hk => .inl hk)
        refine ⟨by rw [hv'], hfr2, ?_⟩
        have hp0 : Pend F wr (.slice none 0 0) [] := ⟨World.ownsRow_nil _ _ _ _, fun k hk => by simp [Value.ownBlock] at hk⟩
        have h1 := dev_set (e := { d with kept := (sel l 0 d.pend).foldl put d.kept, pend := [] }) hb hv.kept hp0 1 (.slice none 0 0) (by simp [dcells]) rfl hv.f HOK.out hv.arm hv.lt
        obtain ⟨⟨K1, vp1, hb1, hk1, hp1⟩, ho1, hf1, ha1, hl1⟩ := h1
        have h2 := dev_set (e := { d with kept := (sel l 0 d.pend).foldl put d.kept, pend := [], down := false }) hb1 hk1 hp1 2 (.bool false) (by simp [dcells]) rfl hf1 HOK.out ha1 hl1
        obtain ⟨⟨K2, vp2, hb2, hk2, hp2⟩, ho2, hf2, ha2, hl2⟩ := h2
        have h3 := dev_set (e := (d.restart l).1) hb2 hk2 hp2 3 (.int .i64 0) (by simp [dcells, Dev.restart]) rfl hf2 HOK.out (by show 0 ≤ _; omega) hl2
        exact h3.grow hFl hfr2.size
      have FN := Lib.hid fin
      clear fin hb hb2 hb3 hv
      go_wp2
      go_ret
      exact FN.out _ rfl
end Go.Proofs.Ytopemjbakpahfaa
/-
  The device's Read. No condition.
-/
namespace Go.Proofs.Ytopemjbakpahfaa
open Go.RowKit Disk
/-- Bytes in new memory that may be written: nil, or a sector's. -/
def Sec (w : World) (base : Nat) (v : Value) (l : List UInt8) : Prop :=
  (v = .slice none 0 0 ∧ l = []) ∨ ∃ g, v = .slice (some ⟨g, 0, none⟩) 32 32 ∧ l.length = 32 ∧ base ≤ g ∧ g < w.heap.size ∧ w.rangeAt g 0 (l.map byteV) ∧ w.there g 0 32
def ReadOf (w : World) (r : List UInt8 × Int) (en : Ending) (w' : World) : Prop := Below w.heap.size w w' ∧ ∃ v, en = .returned (.tuple #[v, .int .i64 r.2]) ∧ Sec w' w.heap.size v r.1
structure ReadI (w : World) (S : Nat) (l : List UInt8) (wr : World) : Prop where
  bl : Below w.heap.size w wr
  lt : S < wr.heap.size
  rng : wr.rangeAt S 0 (l.map byteV)
  thr : wr.there S 0 32
theorem range_sub {w : World} {b : Nat} {C : List Value} (h : w.rangeAt b 0 C) (k : Nat) : w.rangeAt b k (C.drop k) := fun j v hv => by
  have := h (k + j) v (by rw [← hv, List.getElem?_drop])
  rwa [Nat.zero_add] at this
set_option maxRecDepth 100000 in
set_option maxHeartbeats 4000000 in
theorem read_any {F : Nat → Prop} {w : World} {B : Nat} {d : Dev} (h : IsDev F w B d) (k : Int) (hp : d.pend.length ≤ 100000) :
    Calls Try.prog 38 #[.pointer (some ⟨B, 0, none⟩), .int .i64 k] w (ReadOf w (d.read k)) := by
  obtain ⟨r, hr0⟩ : ∃ r, d.read k = r := ⟨_, rfl⟩
  rw [hr0]
  go_enter Try.func38, Try.ntmps38
  go_wp2_with fail
  refine (ask_any h k).mono ?_
  rintro en w1 ⟨rfl, rfl⟩
  by_cases h1 : d.ask k = 0
  rotate_left
  · have hne : ((d.ask k : Int) != 0) = true := by rw [bne_iff_ne]; exact h1
    obtain rfl : r = ([], d.ask k) := by rw [← hr0]; unfold Dev.read; rw [if_pos h1]
    clear hr0
    go_wp2
    go_ret2
    exact ⟨Below.refl _ _, _, rfl, .inl ⟨rfl, rfl⟩⟩
  have hk0 : 0 ≤ k ∧ k < (d.kept.length : Int) := by
    unfold Dev.ask at h1
    split at h1
    · omega
    · split at h1 <;> omega
  obtain ⟨q, rfl⟩ : ∃ q : Nat, k = (q : Int) := ⟨k.toNat, by omega⟩
  obtain rfl : r = (d.sector q, 0) := by rw [← hr0]; unfold Dev.read; rw [if_neg (by simpa using h1), Int.toNat_natCast]
  have hqk : q < d.kept.length := by omega
  have hs32 := h.ok.1 q hqk
  have h32 : ∀ p ∈ d.pend, p.2.length = 32 := fun p hp => (h.ok.2 p hp).2
  rw [h1]
  clear hr0 h1 hk0
  obtain ⟨K, vp, V1⟩ := h.v
  obtain ⟨ap, cp, rfl⟩ := pend_form V1.pend
  have hc0 : w.cell? ⟨B, 0, none⟩ = some (.slice (some ⟨K, 0, none⟩) d.kept.length d.kept.length) := Joins.cell_of_block V1.blk 0
  have hc1 : w.cell? ⟨B, 1, none⟩ = some (.slice ap d.pend.length cp) := Joins.cell_of_block V1.blk 1
  have hrk : w.rangeAt K (q * 32) ((d.kept.getD q []).map byteV) := by rw [Nat.mul_comm]; exact V1.kept.rng q hqk
  have HS : Hid (d.sector q = d.pend.foldl (over q) (d.kept.getD q [])) := rfl
  generalize d.kept.getD q [] = s0 at hs32 hrk HS
  have hl32 : (s0.map byteV).length = 32 := by rw [List.length_map, hs32]
  have hz32 : (s0.map byteV).toArray.size = 32 := by rw [List.size_toArray, hl32]
  have VV := Lib.hid V1
  have RK := Lib.hid hrk
  have hq0 : (0 : Int) ≤ (q : Int) := by omega
  have hqi : (q : Int) < (d.kept.length : Int) := by omega
  have hc1A : (w.alloc (.cells (s0.map byteV).toArray 110)).cell? ⟨B, 1, none⟩ = some (.slice ap d.pend.length cp) := alloc_cell hc1
  clear V1 hrk h
  go_wp2_with (first
    | ((refine wpList_load_mid rfl 110 (.tmp 21) rfl K (q * 32) rfl (s0.map byteV) _ RK.out Try.underlying110 rfl (by rw [hl32]; exact size110) ?_))
    | ((refine wpList_store_new rfl 110 (.tmp 7) (.tmp 22) rfl _ (s0.map byteV).toArray rfl rfl (by rw [hz32]; exact size110) (by rw [hz32]; rfl) (bytes_one _) ?_)))
  go_loopw [28] (fun iv wr => ∃ i : Nat, iv = .int .i64 i ∧ i ≤ d.pend.length ∧ ReadI w w.heap.size ((d.pend.take i).foldl (over q) s0) wr) (fun iv _ => d.pend.length - (intOf iv).toNat)
  case atStart => exact ⟨0, rfl, Nat.zero_le _, below_alloc w _, by simp, range_new w _ _, there_new w _ _ 0 32 (by rw [hz32]; omega)⟩
  case round =>
    obtain ⟨i, rfl, hi, hR⟩ := hrel
    have HR := Lib.hid hR
    have hol := over_length q (fun p hp => h32 p (List.mem_of_mem_take (i := i) hp)) hs32
    have HOL := Lib.hid hol
    clear hR hol
    by_cases hlt : i < d.pend.length
    · have hi0 : (0 : Int) ≤ (i : Int) := by omega
      have hii : (i : Int) < (d.pend.length : Int) := by omega
      obtain ⟨p, hpi⟩ : ∃ p, d.pend[i]? = some p := ⟨_, List.getElem?_eq_getElem hlt⟩
      have hpm := h32 p (List.mem_of_getElem? hpi)
      obtain ⟨g, c, e, hrg⟩ := pend_at (VV.out.below HR.out.bl).pend h32 hpi
      simp only [Value.slice.injEq] at e
      obtain ⟨rfl, _, rfl⟩ := e
      have hl33 : (pcells p).length = 33 := pcells_length hpm
      have hs33 : (pcells p).toArray.size = 33 := by rw [List.size_toArray, hl33]
      have hm32 : (p.2.map byteV).length = 32 := by rw [List.length_map, hpm]
      have hmz : (p.2.map byteV).toArray.size = 32 := by rw [List.size_toArray, hm32]
      have RG := Lib.hid hrg
      have ST := Lib.hid (foldl_snoc (over q) s0 d.pend i p hpi)
      have hb1 : (wr.alloc (.cells (pcells p).toArray 112)).cell? ⟨wr.heap.size, 0, none⟩ = some (.int .i64 (p.1 : Int)) := Joins.cell_of_block (heap_alloc_new wr _) 0
      have R1 : Hid ((wr.alloc (.cells (pcells p).toArray 112)).rangeAt wr.heap.size 1 (p.2.map byteV)) := range_sub (range_new wr (pcells p) 112) 1
      have BA := Lib.hid (HR.out.bl.alloc HR.out.bl.size (.cells (pcells p).toArray 112))
      have TA := Lib.hid (World.there_alloc HR.out.thr (.cells (pcells p).toArray 112))
      have GA := Lib.hid (World.rangeAt_alloc HR.out.rng (.cells (pcells p).toArray 112))
      have LA : Hid (w.heap.size < (wr.alloc (.cells (pcells p).toArray 112)).heap.size) := by have := HR.out.lt; show _ < _; simp; omega
      clear hrg
      by_cases hpk : p.1 = q
      · have hpe : ((p.1 : Int) == (q : Int)) = true := by rw [beq_iff_eq]; omega
        have ST2 := ST.out
        rw [show over q ((d.pend.take i).foldl (over q) s0) p = p.2 by unfold over; rw [if_pos hpk]] at ST2
        have S2 := Lib.hid ST2
        clear ST2
        go_wp2_with (first
          | (refine wpList_load_mid rfl 112 (.tmp 30) rfl g (i * 33) rfl (pcells p) _ RG.out Try.underlying112 rfl (by rw [hl33]; exact size112) ?_)
          | (refine wpList_store_new rfl 112 (.tmp 9) (.tmp 31) rfl _ (pcells p).toArray rfl rfl (by rw [hs33]; exact size112) (by rw [hs33]; rfl) (pcells_one _) ?_)
          | (refine wpList_load_mid rfl 110 (.tmp 36) rfl wr.heap.size 1 rfl (p.2.map byteV) _ R1.out Try.underlying110 rfl (by rw [hm32]; exact size110) ?_)
          | (refine wpList_store_mid rfl 110 (.tmp 7) (.tmp 37) rfl w.heap.size 0 (p.2.map byteV).toArray rfl rfl (by rw [hmz]; exact TA.out) (by rw [hmz]; exact size110) (bytes_one _) ?_))
        go_roundw
        case rel =>
          refine ⟨i + 1, rfl, hlt, ?_, ?_, ?_, ?_⟩
          · exact (Frm.of_below (F := fun k => k = w.heap.size) BA.out).trans (frm_setCells (F := fun k => k = w.heap.size) rfl _ _ _) (fun k hk => .inl hk) |>.below (fun k hk => by omega) (Nat.le_refl _)
          · rw [size_setCells]; exact LA.out
          · rw [S2.out]; exact World.rangeAt_setCells_same _ _ _ _ (by rw [hm32]; exact TA.out)
          · exact World.there_setCells TA.out _ _ _
        case measure => simp only [intOf]; omega
      · have hpe : ((p.1 : Int) == (q : Int)) = false := by rw [beq_eq_false_iff_ne]; omega
        have ST2 := ST.out
        rw [show over q ((d.pend.take i).foldl (over q) s0) p = (d.pend.take i).foldl (over q) s0 by unfold over; rw [if_neg hpk]] at ST2
        have S2 := Lib.hid ST2
        clear ST2
        go_wp2_with (first
          | (refine wpList_load_mid rfl 112 (.tmp 30) rfl g (i * 33) rfl (pcells p) _ RG.out Try.underlying112 rfl (by rw [hl33]; exact size112) ?_)
          | (refine wpList_store_new rfl 112 (.tmp 9) (.tmp 31) rfl _ (pcells p).toArray rfl rfl (by rw [hs33]; exact size112) (by rw [hs33]; rfl) (pcells_one _) ?_))
        go_roundw
        case rel => exact ⟨i + 1, rfl, hlt, BA.out, LA.out, by rw [S2.out]; exact GA.out, TA.out⟩
        case measure => simp only [intOf]; omega
    · have hii : ¬ (i : Int) < (d.pend.length : Int) := by omega
      obtain rfl : i = d.pend.length := by omega
      go_wp2
      go_ret2
      refine ⟨HR.out.bl, _, rfl, .inr ⟨w.heap.size, rfl, ?_, Nat.le_refl _, HR.out.lt, ?_, HR.out.thr⟩⟩
      · have := HOL.out; rw [List.take_length, ← HS.out] at this; exact this
      · have := HR.out.rng; rw [List.take_length, ← HS.out] at this; exact this
end Go.Proofs.Ytopemjbakpahfaa
/-
  A new device. No condition.
-/
namespace Go.Proofs.Ytopemjbakpahfaa
open Go.RowKit Disk
def sizeOfDev (s : Int) : Nat := (min (max 0 s) 1024).toNat
/-- A device in new memory. -/
def NewOf (w : World) (n : Nat) (en : Ending) (w' : World) : Prop := ∃ B, en = .returned (.pointer (some ⟨B, 0, none⟩)) ∧ Below w.heap.size w w' ∧ w.heap.size ≤ B ∧ IsDev (fun k => w.heap.size ≤ k ∧ k < w'.heap.size) w' B (Dev.new n)
theorem info110 : (Try.prog.info? 110).map (fun i => (i.zero, i.size, i.bytes)) = some (some (.agg (zero32.map byteV).toArray), 32, 32) := by kernel_rfl
theorem zmap : zero32.map byteV = List.replicate 32 (byteV 0) := by unfold zero32; rw [List.map_replicate]
theorem made_at (n i : Nat) (h : i < n) : (madeCells (Value.agg (zero32.map byteV).toArray).cells n)[i]? = some (byteV 0) := by
  have hz : ∀ j, j < 32 → (zero32.map byteV).toArray[j]! = byteV 0 := by
    intro j hj
    rw [getElem!_pos _ _ (by rw [List.size_toArray, zmap, List.length_replicate]; exact hj)]
    simp only [zmap, List.getElem_toArray, List.getElem_replicate]
  unfold madeCells
  rw [Array.getElem?_map, Array.getElem?_eq_getElem (by simpa using h)]
  simp only [Array.getElem_range, Option.map_some, Value.cells]
  rw [hz]
  have : (zero32.map byteV).toArray.size = 32 := rfl
  rw [this]
  exact Nat.mod_lt _ (by omega)
def newCells (m : Nat) : Array Value := madeCells (Value.agg (zero32.map byteV).toArray).cells (m * 32)
theorem new_fin (w : World) (m : Nat) (v : Value) (hv : v = .pointer (some ⟨w.heap.size + 1, 0, none⟩)) (C : Array Value) (hC : C = #[.slice (some ⟨w.heap.size, 0, none⟩) m m, .slice none 0 0, .bool false, .int .i64 0, .int .i64 0, .int .i64 0]) :
    NewOf w m (.returned v) ((w.alloc (.cells (newCells m) 110)).alloc (.cells C 107)) := by
  subst hv hC
  have hb : ((w.alloc (.cells (newCells m) 110)).alloc (.cells #[.slice (some ⟨w.heap.size, 0, none⟩) m m, .slice none 0 0, .bool false, .int .i64 0, .int .i64 0, .int .i64 0] 107)).heap[w.heap.size + 1]? = some (.cells (dcells (Dev.new m) w.heap.size (.slice none 0 0)) 107 (0, 0)) := by
    have h := heap_alloc_new (w.alloc (.cells (newCells m) 110)) (.cells #[.slice (some ⟨w.heap.size, 0, none⟩) m m, .slice none 0 0, .bool false, .int .i64 0, .int .i64 0, .int .i64 0] 107)
    rw [World.size_alloc] at h
    rw [h]
    simp [dcells, Dev.new]
  have hk : ((w.alloc (.cells (newCells m) 110)).alloc (.cells #[.slice (some ⟨w.heap.size, 0, none⟩) m m, .slice none 0 0, .bool false, .int .i64 0, .int .i64 0, .int .i64 0] 107)).heap[w.heap.size]? = some (.cells (newCells m) 110 (0, 0)) :=
    (Below.heap_alloc _ _ _ (by simp)).trans (heap_alloc_new w _)
  have hkl : (Dev.new m).kept.length = m := by simp [Dev.new]
  refine ⟨w.heap.size + 1, rfl, ((Below.refl _ w).alloc (Nat.le_refl _) _).alloc (by simp) _, by omega, ⟨w.heap.size, _, hb, ⟨⟨_, hk⟩, ?_, ?_, ?_⟩, ⟨World.ownsRow_nil _ _ _ _, fun k hk => by simp [Value.ownBlock] at hk⟩⟩, new_ok m, ?_, Nat.zero_le _, fun k hk => hk.2⟩
  · intro k hk' j v hv
    rw [hkl] at hk'
    rw [Joins.cell_of_block hk]
    have h1 : (Dev.new m).kept.getD k [] = zero32 := by simp [Dev.new, List.getD, hk', zero32]
    rw [h1] at hv
    rw [zmap] at hv
    have hj : j < 32 := by have := (List.getElem?_eq_some_iff.1 hv).1; rw [List.length_replicate] at this; exact this
    rw [newCells, made_at _ _ (by omega), ← hv, List.getElem?_replicate, if_pos hj]
  · intro j hj
    rw [hkl] at hj
    refine ⟨?_, Joins.unfrozen_of_block hk _⟩
    rw [Joins.cell_of_block hk, newCells, made_at _ _ (by omega)]
    rfl
  · exact ⟨Nat.le_refl _, by simp; omega⟩
  · exact ⟨by omega, by simp⟩
set_option maxRecDepth 100000 in
set_option maxHeartbeats 1000000 in
theorem new_any (w : World) (s : Int) : Calls Try.prog 33 #[.int .i64 s] w (NewOf w (sizeOfDev s)) := by
  obtain ⟨n, hn⟩ : ∃ n, sizeOfDev s = n := ⟨_, rfl⟩
  have hn1 : n = (min (max 0 s) 1024).toNat := by rw [← hn]; rfl
  rw [hn]
  clear hn
  have FN := Lib.hid (new_fin w)
  obtain ⟨i0, hi, hz0, hz1, hz2⟩ := info_parts info110
  have hmk : ∀ x : Int, 0 ≤ x → x ≤ 1024 → (Instr.makeSlice 104 (.int .i64 x) (.int .i64 x)).run Try.prog w = .ok (.slice (some ⟨w.heap.size, 0, none⟩) x.toNat x.toNat) (w.alloc (.cells (newCells x.toNat) 110)) := by
    intro x h0 h1
    have h := run_make (P := Try.prog) w 104 110 i0 _ Try.underlying104 hi hz0 .i64 .i64 x x h0 (Int.le_refl _) (by rw [hz2]; omega) (by omega)
    rw [hz1] at h
    exact h
  clear hi hz0 hz1 hz2
  by_cases h0 : s ≤ 0
  · obtain rfl : n = 0 := by omega
    have hm0 := hmk 0 (by omega) (by omega)
    rw [Int.toNat_zero] at hm0
    clear hmk hn1
    go_enter Try.func33, Try.ntmps33
    go_wp2
    go_ret
    exact FN.out 0 _ rfl _ rfl
  · by_cases h1 : 1024 < s
    · obtain rfl : n = 1024 := by omega
      have hm0 : (Instr.makeSlice 104 (.int .i64 1024) (.int .i64 1024)).run Try.prog w = .ok (.slice (some ⟨w.heap.size, 0, none⟩) 1024 1024) (w.alloc (.cells (newCells 1024) 110)) := hmk 1024 (by omega) (by omega)
      clear hmk hn1
      go_enter Try.func33, Try.ntmps33
      go_wp2
      go_ret
      exact FN.out 1024 _ rfl _ rfl
    · obtain ⟨m, rfl⟩ : ∃ m : Nat, s = (m : Int) := ⟨s.toNat, by omega⟩
      obtain rfl : n = m := by omega
      have hm0 := hmk (n : Int) (by omega) (by omega)
      rw [Int.toNat_natCast] at hm0
      clear hmk hn1
      go_enter Try.func33, Try.ntmps33
      go_wp2
      go_ret
      exact FN.out n _ rfl _ rfl
end Go.Proofs.Ytopemjbakpahfaa
/-
  The small case of the statements on a device comes out right. No condition.
-/
namespace Go.Proofs.Ytopemjbakpahfaa
open Go.RowKit Disk
/-- Bytes in a block that is not the device's stay. -/
theorem RB.frm {F : Nat → Prop} {w w' : World} {g off : Nat} {l : List UInt8} (h : RB w (some ⟨g, off, none⟩) l) (hf : Frm F w w') (hg : ¬ F g) : RB w' (some ⟨g, off, none⟩) l := by
  intro i hi
  obtain ⟨g', off', e, hl, hc⟩ := h i hi
  cases e
  exact ⟨g, off, rfl, Nat.lt_of_lt_of_le hl hf.size, (World.cell?_of_block (hf.block g hl hg)).trans hc⟩
theorem grow_ge {F : Nat → Prop} {w w' : World} {n : Nat} (h : ∀ k, F k → n ≤ k) (hn : n ≤ w.heap.size) : ∀ k, Grow F w w' k → n ≤ k := fun k hk => hk.elim (h k) (fun h1 => Nat.le_trans hn h1.1)
theorem grow_not {F : Nat → Prop} {w w' : World} {g : Nat} (h : ¬ F g) (hg : g < w.heap.size) : ¬ Grow F w w' g := fun hk => hk.elim h (fun h1 => by omega)
theorem DevOf.out {F : Nat → Prop} {w w' : World} {B : Nat} {e : Dev} {v : Value} {en : Ending} (h : DevOf F w B e v en w') {n : Nat} (hF : ∀ k, F k → n ≤ k) (hn : n ≤ w.heap.size) :
    en = .returned v ∧ Frm F w w' ∧ Below n w w' ∧ ∃ F', IsDev F' w' B e ∧ (∀ k, F' k → n ≤ k) ∧ ∀ k, F' k → F k ∨ w.heap.size ≤ k :=
  ⟨h.1, h.2.1, h.2.1.below hF hn, _, h.2.2, grow_ge hF hn, fun _ hk => hk.imp_right (·.1)⟩
/-- A literal's bytes are written. -/
theorem write_lit {F : Nat → Prop} {w : World} {B : Nat} {d : Dev} (h : IsDev F w B d) (k : Int) (l : List UInt8) (xs : Array Value) (fr : Nat × Nat) (n c g : Nat) (hn : l.length = n) (hx : xs = (l.map byteV).toArray) (hg : w.heap.size = g) (hl : l.length ≤ 1000) (hp : d.pend.length ≤ 100000) (hw : d.writes ≤ 100000) :
    Calls Try.prog 34 #[.pointer (some ⟨B, 0, none⟩), .int .i64 k, .slice (some ⟨g, 0, none⟩) n c] (w.alloc (.cells xs 5 fr)) (DevOf F (w.alloc (.cells xs 5 fr)) B (d.write k l).1 (.int .i64 (d.write k l).2)) := by
  subst hn hg
  exact write_any (h.below (below_alloc w _)) k l _ c (by omega) (fun e => by cases e) (fun w' hf => RB.frm (RB.lit w l xs fr _ rfl hx) hf (fun hF => by have := h.lt _ hF; omega)) hp hw
def d0 : Dev := Dev.new 2
def d1 : Dev := (d0.write 0 [97]).1
def d2 : Dev := d1.sync.1
def d3 : Dev := (d2.write 0 [98]).1
def d4 : Dev := (d3.write 1 [99]).1
def d5 : Dev := (d4.restart [1]).1
def d6 : Dev := d5.arm 1
def d7 : Dev := (d6.write 0 []).1
theorem r1 : (d0.write 0 [97]).2 = 0 := by decide +kernel
theorem r2 : d1.sync.2 = 0 := by decide +kernel
theorem r3 : (d2.write 0 [98]).2 = 0 := by decide +kernel
theorem r4 : (d3.write 1 [99]).2 = 0 := by decide +kernel
theorem r5 : (d4.restart [1]).2 = 1 := by decide +kernel
theorem r6 : d5.read 0 = (97 :: List.replicate 31 0, 0) := by decide +kernel
theorem r7 : d5.read 1 = (99 :: List.replicate 31 0, 0) := by decide +kernel
theorem r8 : (d6.write 0 []).2 = 14 := by decide +kernel
theorem r9 : (d7.read 0).2 = 14 := by decide +kernel
theorem r10 : d7.down = true := by decide +kernel
theorem r11 : d7.kept.length = 2 := by decide +kernel
theorem sz2 : sizeOfDev 2 = 2 := by decide +kernel
set_option maxRecDepth 100000 in
set_option maxHeartbeats 4000000 in
theorem dsmall_any (w : World) : Calls Try.prog 32 #[] w fun en w' => en = .returned (.bool true) ∧ Below w.heap.size w w' := by
  have kc := conv_const
  go_enter Try.func32, Try.ntmps32
  go_wp2_with fail
  refine (new_any w 2).mono ?_
  rintro en w1 ⟨B, rfl, B1, hB, D1⟩
  rw [sz2] at D1
  obtain ⟨F1, hF1⟩ : ∃ F : Nat → Prop, (fun k => w.heap.size ≤ k ∧ k < w1.heap.size) = F := ⟨_, rfl⟩
  have g1 : ∀ k, F1 k → w.heap.size ≤ k := by rw [← hF1]; exact fun k hk => hk.1
  rw [hF1] at D1
  clear hF1
  have hD0 : IsDev F1 w1 B d0 := D1
  clear D1
  go_wp2_with fail
  refine (write_lit hD0 0 [97] _ _ _ _ _ rfl rfl rfl (by decide) (by decide +kernel) (by decide +kernel)).mono ?_
  intro en w2 h2
  obtain ⟨rfl, _, b2, F2, D2, g2, _⟩ := h2.out g1 (Nat.le_trans B1.size (by simp))
  replace b2 := (B1.alloc B1.size _).trans b2
  rw [r1]
  have D2 : IsDev F2 w2 B d1 := D2
  clear h2 hD0 g1 B1
  go_wp2_with fail
  refine (sync_any D2 (by decide +kernel) (by decide +kernel)).mono ?_
  intro en w3 h3
  obtain ⟨rfl, _, b3, F3, D3, g3, _⟩ := h3.out g2 b2.size
  replace b3 := b2.trans b3
  rw [r2]
  have D3 : IsDev F3 w3 B d2 := D3
  clear h3 D2 g2 b2
  go_wp2_with fail
  refine (write_lit D3 0 [98] _ _ _ _ _ rfl rfl rfl (by decide) (by decide +kernel) (by decide +kernel)).mono ?_
  intro en w4 h4
  obtain ⟨rfl, _, b4, F4, D4, g4, _⟩ := h4.out g3 (Nat.le_trans b3.size (by simp))
  replace b4 := (b3.alloc b3.size _).trans b4
  rw [r3]
  have D4 : IsDev F4 w4 B d3 := D4
  clear h4 D3 g3 b3
  go_wp2_with fail
  refine (write_lit D4 1 [99] _ _ _ _ _ rfl rfl rfl (by decide) (by decide +kernel) (by decide +kernel)).mono ?_
  intro en w5 h5
  obtain ⟨rfl, _, b5, F5, D5, g5, _⟩ := h5.out g4 (Nat.le_trans b4.size (by simp))
  replace b5 := (b4.alloc b4.size _).trans b5
  rw [r4]
  have D5 : IsDev F5 w5 B d4 := D5
  clear h5 D4 g4 b4
  go_wp2_with fail
  have hri : ∀ w', Frm F5 (w5.alloc (.cells #[.int .i64 1] 3)) w' → RI w' (some ⟨w5.heap.size, 0, none⟩) [1] := by
    intro w' hf i hi
    obtain rfl : i = 0 := by simpa using hi
    refine ⟨w5.heap.size, 0, rfl, Nat.lt_of_lt_of_le (by simp) hf.size, ?_⟩
    rw [World.cell?_of_block (hf.block w5.heap.size (by simp) (fun hF => by have := D5.lt _ hF; omega)), Joins.cell_of_block (heap_alloc_new w5 _)]
    rfl
  refine (restart_any (D5.below (below_alloc w5 (.cells #[.int .i64 1] 3))) (by decide +kernel) [1] _ 1 (by decide) hri).mono ?_
  intro en w6 h6
  obtain ⟨rfl, _, b6, F6, D6, g6, _⟩ := h6.out g5 (Nat.le_trans b5.size (by simp))
  replace b6 := (b5.alloc b5.size _).trans b6
  rw [r5]
  have D6 : IsDev F6 w6 B d5 := D6
  clear h6 D5 g5 b5 hri
  go_wp2_with fail
  refine (read_any D6 0 (by decide +kernel)).mono ?_
  rintro en w7 ⟨b7, v7, rfl, s7⟩
  rw [r6] at s7 ⊢
  rcases s7 with ⟨_, e⟩ | ⟨ga, rfl, _, ha1, ha2, ha3, _⟩
  · cases e
  have D7 := D6.below b7
  have n7 : ¬ F6 ga := fun hF => by have := D6.lt _ hF; omega
  have c7 : w7.cell? ⟨ga, 0, none⟩ = some (.int .u8 97) := ha3 0 _ rfl
  have B7 := b6.trans (b7.mono b6.size)
  clear D6 ha3 b6 b7
  go_wp2_with fail
  refine (read_any D7 1 (by decide +kernel)).mono ?_
  rintro en w8 ⟨b8, v8, rfl, s8⟩
  rw [r7] at s8 ⊢
  rcases s8 with ⟨_, e⟩ | ⟨gb, rfl, _, hb1, hb2, hb3, _⟩
  · cases e
  have D8 := D7.below b8
  have n8 : ¬ F6 gb := fun hF => by have := D7.lt _ hF; omega
  have c8 : w8.cell? ⟨gb, 0, none⟩ = some (.int .u8 99) := hb3 0 _ rfl
  have c7' : w8.cell? ⟨ga, 0, none⟩ = some (.int .u8 97) := (b8.cell (p := ⟨ga, 0, none⟩) ha2).trans c7
  have hga8 : ga < w8.heap.size := Nat.lt_of_lt_of_le ha2 b8.size
  have B8 := B7.trans (b8.mono B7.size)
  clear D7 hb3 c7 b8 B7
  go_wp2_with fail
  refine (arm_any D8 1 (by omega)).mono ?_
  rintro en w9 ⟨⟨v9, rfl⟩, f9, D9⟩
  have D9 : IsDev F6 w9 B d6 := D9
  have c9a : w9.cell? ⟨ga, 0, none⟩ = some (.int .u8 97) := (World.cell?_of_block (f9.block ga hga8 n7)).trans c7'
  have c9b : w9.cell? ⟨gb, 0, none⟩ = some (.int .u8 99) := (World.cell?_of_block (f9.block gb hb2 n8)).trans c8
  have B9 := B8.trans (f9.below g6 B8.size)
  have hga9 := Nat.lt_of_lt_of_le hga8 f9.size
  have hgb9 := Nat.lt_of_lt_of_le hb2 f9.size
  clear D8 c7' c8 B8 f9
  go_wp2_with fail
  refine (write_any D9 0 [] none 0 (by decide) (fun _ => rfl) (fun w' _ => RB.nil _ _) (by decide +kernel) (by decide +kernel)).mono ?_
  intro en w10 h10
  obtain ⟨rfl, f10, b10, F10, D10, g10, s10⟩ := h10.out g6 B9.size
  rw [r8]
  have D10 : IsDev F10 w10 B d7 := D10
  have c10a : w10.cell? ⟨ga, 0, none⟩ = some (.int .u8 97) := (World.cell?_of_block (f10.block ga hga9 n7)).trans c9a
  have c10b : w10.cell? ⟨gb, 0, none⟩ = some (.int .u8 99) := (World.cell?_of_block (f10.block gb hgb9 n8)).trans c9b
  have B10 := B9.trans b10
  have hga10 := Nat.lt_of_lt_of_le hga9 f10.size
  have hgb10 := Nat.lt_of_lt_of_le hgb9 f10.size
  clear h10 D9 c9a c9b B9 f10
  go_wp2_with fail
  refine (read_any D10 0 (by decide +kernel)).mono ?_
  rintro en w11 ⟨b11, v11, rfl, _⟩
  rw [r9]
  have D11 := D10.below b11
  have c11a : w11.cell? ⟨ga, 0, none⟩ = some (.int .u8 97) := (b11.cell (p := ⟨ga, 0, none⟩) hga10).trans c10a
  have c11b : w11.cell? ⟨gb, 0, none⟩ = some (.int .u8 99) := (b11.cell (p := ⟨gb, 0, none⟩) hgb10).trans c10b
  have B11 := B10.trans (b11.mono B10.size)
  clear D10 c10a c10b B10 b11
  go_wp2_with fail
  refine (down_any D11).mono ?_
  rintro en w12 ⟨rfl, rfl⟩
  rw [r10]
  go_wp2_with fail
  refine (sectors_any D11).mono ?_
  rintro en w12 ⟨rfl, rfl⟩
  rw [r11]
  go_wp2
  go_ret
  exact ⟨rfl, B11⟩
end Go.Proofs.Ytopemjbakpahfaa
/-
  An area of a device in memory; the contracts of what only asks it. No condition but that the device has no more sectors than it may have.
-/
namespace Go.Proofs.Ytopemjbakpahfaa
open Go.RowKit Disk
def acells (B first N : Nat) : Array Value := #[.pointer (some ⟨B, 0, none⟩), .int .i64 (first : Int), .int .i64 (N : Int)]
structure IsArea (w : World) (A B first N : Nat) : Prop where
  blk : w.heap[A]? = some (.cells (acells B first N) 122 (0, 0))
  n : N ≤ 1024
  first : first ≤ 9223372036854775807
theorem IsArea.lt {w : World} {A B first N : Nat} (h : IsArea w A B first N) : A < w.heap.size := (Array.getElem?_eq_some_iff.1 h.blk).1
theorem IsArea.same {w w' : World} {A B first N : Nat} (h : IsArea w A B first N) (e : w'.heap[A]? = w.heap[A]?) : IsArea w' A B first N := ⟨e.trans h.blk, h.n, h.first⟩
theorem IsArea.below {w w' : World} {A B first N : Nat} (h : IsArea w A B first N) (hb : Below w.heap.size w w') : IsArea w' A B first N := h.same (hb.block A h.lt)
theorem IsArea.frm {F : Nat → Prop} {w w' : World} {A B first N : Nat} (h : IsArea w A B first N) (hf : Frm F w w') (hA : ¬ F A) : IsArea w' A B first N := h.same (hf.block A h.lt hA)
/-- How many sectors an area has. -/
def asize (first sectors : Int) (k : Nat) : Nat := if first < 0 then 0 else (min sectors ((k : Int) - first)).toNat
def OfOf (w : World) (B first N : Nat) (en : Ending) (w' : World) : Prop := ∃ A, en = .returned (.pointer (some ⟨A, 0, none⟩)) ∧ Below w.heap.size w w' ∧ w.heap.size ≤ A ∧ IsArea w' A B first N
theorem of_fin (w : World) (B first N : Nat) (v : Value) (hv : v = .pointer (some ⟨w.heap.size, 0, none⟩)) (C : Array Value) (f x : Int) (hC : C = #[.pointer (some ⟨B, 0, none⟩), .int .i64 f, .int .i64 x]) (hff : f = (first : Int)) (hx : x = (N : Int)) (hN : N ≤ 1024) (hf : first ≤ 9223372036854775807) :
    OfOf w B first N (.returned v) (w.alloc (.cells C 122)) := by
  subst hv hC hff hx
  exact ⟨w.heap.size, rfl, below_alloc w _, Nat.le_refl _, ⟨heap_alloc_new w _, hN, hf⟩⟩
set_option maxHeartbeats 1000000 in
theorem of_any {F : Nat → Prop} {w : World} {B : Nat} {d : Dev} (h : IsDev F w B d) (hk : d.kept.length ≤ 1024) (first sectors : Int) (hf : first ≤ 9223372036854775807) :
    Calls Try.prog 52 #[.pointer (some ⟨B, 0, none⟩), .int .i64 first, .int .i64 sectors] w (OfOf w B first.toNat (asize first sectors d.kept.length)) := by
  have FN := Lib.hid (of_fin w B)
  obtain ⟨N, hN⟩ : ∃ N, asize first sectors d.kept.length = N := ⟨_, rfl⟩
  have H2 : Hid (N = if first < 0 then 0 else (min sectors ((d.kept.length : Int) - first)).toNat) := by show _ = _; rw [← hN]; rfl
  have HF : Hid (first.toNat = first.toNat) := Lib.hid rfl
  rw [hN]
  generalize hfn : first.toNat = f at HF ⊢
  have H3 := Lib.hid hfn
  clear hN HF hfn
  have hki : (d.kept.length : Int) ≤ 1024 := by omega
  by_cases h0 : first < 0
  · go_enter Try.func52, Try.ntmps52
    go_wp2
    go_ret
    exact FN.out f N _ rfl _ 0 0 rfl (by have := H3.out; omega) (by have := H2.out; rw [if_pos h0] at this; omega) (by have := H2.out; rw [if_pos h0] at this; omega) (by have := H3.out; omega)
  · have hf0 : 0 ≤ first := by omega
    go_enter Try.func52, Try.ntmps52
    go_wp2_with (go_at_call 43; refine (sectors_any h).mono ?_; rintro en w1 ⟨rfl, rfl⟩)
    all_goals
      go_ret
      exact FN.out f N _ rfl _ _ _ rfl (by have := H3.out; omega) (by have := H2.out; rw [if_neg (by omega)] at this; omega) (by have := H2.out; rw [if_neg (by omega)] at this; omega) (by have := H3.out; omega)
theorem size_any {w : World} {A B first N : Nat} (h : IsArea w A B first N) : Calls Try.prog 56 #[.pointer (some ⟨A, 0, none⟩)] w fun en w' => en = .returned (.int .i64 (32 * (N : Int))) ∧ w = w' := by
  have c2 : w.cell? ⟨A, 2, none⟩ = some (.int .i64 (N : Int)) := Joins.cell_of_block h.blk 2
  have hn := h.n
  have hi : (N : Int) ≤ 1024 := by omega
  go_enter Try.func56, Try.ntmps56
  go_wp2
  go_ret
  exact ⟨rfl, rfl⟩
/-- Is there room for so many bytes at a place? -/
def roomB (N : Nat) (p m : Int) : Bool := decide (0 ≤ p) && (decide (p ≤ 32 * (N : Int)) && decide (m ≤ 32 * (N : Int) - p))
theorem room_any {w : World} {A B first N : Nat} (h : IsArea w A B first N) (p m : Int) : Calls Try.prog 92 #[.pointer (some ⟨A, 0, none⟩), .int .i64 p, .int .i64 m] w fun en w' => en = .returned (.bool (roomB N p m)) ∧ w = w' := by
  have hn := h.n
  have hi : (N : Int) ≤ 1024 := by omega
  have HR : Hid (roomB N p m = (decide (0 ≤ p) && (decide (p ≤ 32 * (N : Int)) && decide (m ≤ 32 * (N : Int) - p)))) := rfl
  generalize roomB N p m = r at HR
  by_cases h0 : 0 ≤ p
  · by_cases h1 : p ≤ 32 * (N : Int)
    · go_enter Try.func92, Try.ntmps92
      go_wp2_with (go_at_call 56; refine (size_any h).mono ?_; rintro en w1 ⟨rfl, rfl⟩)
      all_goals
        go_ret
        exact ⟨ret_bool (by rw [HR.out, decide_eq_true h0, decide_eq_true h1]; simp), rfl⟩
    · go_enter Try.func92, Try.ntmps92
      go_wp2_with (go_at_call 56; refine (size_any h).mono ?_; rintro en w1 ⟨rfl, rfl⟩)
      all_goals
        go_ret
        exact ⟨ret_bool (by rw [HR.out, decide_eq_true h0, decide_eq_false (p := p ≤ 32 * (N : Int)) (by omega)]; simp; try omega), rfl⟩
  · go_enter Try.func92, Try.ntmps92
    go_wp2_with (go_at_call 56; refine (size_any h).mono ?_; rintro en w1 ⟨rfl, rfl⟩)
    all_goals
      go_ret
      exact ⟨ret_bool (by rw [HR.out, decide_eq_false (p := 0 ≤ p) (by omega)]; simp; try omega), rfl⟩
theorem fits_any {w : World} {A B first N : Nat} (h : IsArea w A B first N) (p : Int) (l : List UInt8) (a : Option Addr) (cap : Nat) :
    Calls Try.prog 53 #[.pointer (some ⟨A, 0, none⟩), .int .i64 p, .slice a l.length cap] w fun en w' => en = .returned (.bool (roomB N p l.length)) ∧ w = w' := by
  go_enter Try.func53, Try.ntmps53
  go_wp2_with (go_at_call 92; refine (room_any h p l.length).mono ?_; rintro en w1 ⟨rfl, rfl⟩)
  go_ret
  exact ⟨rfl, rfl⟩
/-- The world behind the making of the parts' iterator. -/
def partsW (w : World) (A : Nat) (p m : Int) : World := ((w.alloc (.cells #[.pointer (some ⟨A, 0, none⟩)] 69)).alloc (.cells #[.int .i64 p] 3)).alloc (.cells #[.int .i64 m] 3)
theorem parts_any (w : World) (A : Nat) (p m : Int) : Calls Try.prog 93 #[.pointer (some ⟨A, 0, none⟩), .int .i64 p, .int .i64 m] w fun en w' =>
    en = .returned (.func (.func 104) #[] #[.pointer (some ⟨w.heap.size + 2, 0, none⟩), .pointer (some ⟨w.heap.size + 1, 0, none⟩), .pointer (some ⟨w.heap.size, 0, none⟩)]) ∧ partsW w A p m = w' := by
  go_enter Try.func93, Try.ntmps93
  go_wp2
  go_ret
  exact ⟨by simp [Nat.add_assoc], rfl⟩
end Go.Proofs.Ytopemjbakpahfaa
