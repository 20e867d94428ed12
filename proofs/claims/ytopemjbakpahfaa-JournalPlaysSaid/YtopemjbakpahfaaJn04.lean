/-
  Contracts and plain laws, part 4 (texts: Dev4, Dev5, Dev6, Dev7, C2, C3, C4, C5). No condition but what each states.
-/
import Derived.Test.YtopemjbakpahfaaJn03
import Derived.Laws.MakeOwn
import Derived.Laws.AppendOwnNone
/-
  The device's Sync. No condition but that the device's numbers are small.
-/
namespace Go.Proofs.Ytopemjbakpahfaa
open Go.RowKit Disk
theorem flat_at : ∀ (ps : List (Nat × List UInt8)), (∀ p ∈ ps, p.2.length = 32) → ∀ (i j : Nat) (p : Nat × List UInt8), ps[i]? = some p → j < 33 → (ps.flatMap pcells)[i * 33 + j]? = (pcells p)[j]? := by
  intro ps
  induction ps with
  | nil => intro _ i j p h; simp at h
  | cons x ps ih =>
    intro h i j p hp hj
    have hx := pcells_length (h x (by simp))
    rw [List.flatMap_cons]
    cases i with
    | zero =>
      simp at hp
      subst hp
      rw [Nat.zero_mul, Nat.zero_add, List.getElem?_append_left (by omega)]
    | succ i =>
      simp at hp
      rw [List.getElem?_append_right (by omega), hx, show (i + 1) * 33 + j - 33 = i * 33 + j by omega]
      exact ih (fun q hq => h q (by simp [hq])) i j p hp hj
/-- A pending write, as it lies in its row. -/
theorem pend_at {F : Nat → Prop} {w : World} {vp : Value} {ps : List (Nat × List UInt8)} (h : Pend F w vp ps) (h32 : ∀ p ∈ ps, p.2.length = 32) {i : Nat} {p : Nat × List UInt8} (hi : ps[i]? = some p) :
    ∃ g c, vp = .slice (some ⟨g, 0, none⟩) ps.length c ∧ w.rangeAt g (i * 33) (pcells p) := by
  have hl : i < ps.length := (List.getElem?_eq_some_iff.1 hi).1
  have hp := pcells_length (h32 p (List.mem_of_getElem? hi))
  rcases h.own.2 with ⟨_, h0⟩ | ⟨g, cap, cur, rfl, _⟩
  · omega
  · refine ⟨g, cap, rfl, fun j v hv => ?_⟩
    have hj : j < 33 := by have := (List.getElem?_eq_some_iff.1 hv).1; omega
    have := h.own.cells (g := g) rfl (i * 33 + j) v (by rw [flat_at ps h32 i j p hi hj]; exact hv)
    rw [Addr.add_mid, Nat.zero_add] at this
    exact this
theorem DevV.below {F : Nat → Prop} {A B : World} {b K : Nat} {vp : Value} {d : Dev} (h : DevV F A b K vp d) (hb : Below A.heap.size A B) : DevV F B b K vp d :=
  ⟨(hb.block b (h.lt b h.f)).trans h.blk, h.kept.same (hb.block K h.kept.typ.lt) h.kept.f, h.pend.same (fun k hk => hb.block k (h.pend.own.lt k hk).2) (fun _ h => h), h.ok, h.f, h.arm, fun k hk => Nat.lt_of_lt_of_le (h.lt k hk) hb.size⟩
theorem foldl_snoc {α β : Type} (f : β → α → β) (b : β) (l : List α) (i : Nat) (x : α) (h : l[i]? = some x) : (l.take (i + 1)).foldl f b = f ((l.take i).foldl f b) x := by
  have hl : i < l.length := (List.getElem?_eq_some_iff.1 h).1
  rw [List.take_succ_eq_append_getElem hl, List.foldl_append]
  have : l[i] = x := by rw [List.getElem?_eq_getElem hl] at h; simpa using h
  rw [this]; rfl
set_option maxRecDepth 100000 in
set_option maxHeartbeats 4000000 in
theorem sync_any {F : Nat → Prop} {w : World} {B : Nat} {d : Dev} (h : IsDev F w B d) (hp : d.pend.length ≤ 100000) (hy : d.syncs ≤ 100000) :
    Calls Try.prog 35 #[.pointer (some ⟨B, 0, none⟩)] w (DevOf F w B d.sync.1 (.int .i64 d.sync.2)) := by
  have hFl := h.lt
  obtain ⟨r, hr0⟩ : ∃ r, d.sync = r := ⟨_, rfl⟩
  have HOK0 := sync_ok h.ok
  rw [hr0] at HOK0 ⊢
  have HOK := Lib.hid HOK0
  clear HOK0
  obtain ⟨K0, vp0, hv⟩ := h.v
  have c2 : w.cell? ⟨B, 2, none⟩ = some (.bool d.down) := Joins.cell_of_block hv.blk 2
  clear hv
  go_enter Try.func35, Try.ntmps35
  cases hd : d.down
  rotate_left
  · obtain rfl : r = (d, 14) := by rw [← hr0]; unfold Dev.sync; rw [if_pos hd]
    rw [hd] at c2
    go_wp2
    go_ret
    exact ⟨rfl, Frm.refl _ _, h.grow hFl (Nat.le_refl _)⟩
  rw [hd] at c2
  go_wp2_with fail
  refine (stops_any h).mono ?_
  rintro en w1 ⟨rfl, f1, d1⟩
  by_cases h3 : d.armed = 1
  · obtain rfl : r = (d.step, 14) := by rw [← hr0]; unfold Dev.sync; rw [if_neg (by rw [hd]; simp), if_pos h3]
    rw [decide_eq_true h3]
    go_wp2
    go_ret
    exact ⟨rfl, f1, d1.grow hFl f1.size⟩
  obtain rfl : r = ({ d.step with kept := d.pend.foldl put d.kept, pend := [], syncs := d.syncs + 1 }, 0) := by rw [← hr0]; unfold Dev.sync; rw [if_neg (by rw [hd]; simp), if_neg h3]
  rw [decide_eq_false h3]
  clear hr0 c2
  obtain ⟨K, vp, V1⟩ := d1.v
  obtain ⟨ap, cp, rfl⟩ := pend_form V1.pend
  have hc1 : w1.cell? ⟨B, 1, none⟩ = some (.slice ap d.step.pend.length cp) := Joins.cell_of_block V1.blk 1
  have hpl : d.step.pend.length ≤ 100000 := hp
  have h32 : ∀ p ∈ d.step.pend, p.1 < d.kept.length ∧ p.2.length = 32 := h.ok.2
  have F1 := Lib.hid f1
  have VV := Lib.hid V1
  clear V1 f1 d1
  go_wp2_with fail
  go_loopw [18] (fun iv wr => ∃ i : Nat, iv = .int .i64 i ∧ i ≤ d.step.pend.length ∧ Frm F w wr ∧ DevV F wr B K (.slice ap d.step.pend.length cp) { d.step with kept := (d.step.pend.take i).foldl put d.kept }) (fun iv _ => d.step.pend.length - (intOf iv).toNat)
  case atStart => exact ⟨0, rfl, Nat.zero_le _, F1.out, VV.out⟩
  case round =>
    obtain ⟨i, rfl, hi, hfr, hv⟩ := hrel
    have HF := Lib.hid hfr
    have HV := Lib.hid hv
    clear hfr hv
    by_cases hlt : i < d.step.pend.length
    · have hi0 : (0 : Int) ≤ (i : Int) := by omega
      have hii : (i : Int) < (d.step.pend.length : Int) := by omega
      obtain ⟨p, hpi⟩ : ∃ p, d.step.pend[i]? = some p := ⟨_, List.getElem?_eq_getElem hlt⟩
      have hpm := h32 p (List.mem_of_getElem? hpi)
      obtain ⟨g, c, e, hrg⟩ := pend_at HV.out.pend (fun q hq => (h32 q hq).2) hpi
      simp only [Value.slice.injEq] at e
      obtain ⟨rfl, _, rfl⟩ := e
      have hl33 : (pcells p).length = 33 := pcells_length hpm.2
      have hs33 : (pcells p).toArray.size = 33 := by rw [List.size_toArray, hl33]
      have RG := Lib.hid hrg
      clear hrg
      go_wp2_with (first
        | ((refine wpList_load_mid rfl 112 (.tmp 20) rfl g (i * 33) rfl (pcells p) _ RG.out Try.underlying112 rfl (by rw [hl33]; exact size112) ?_))
        | ((refine wpList_store_new rfl 112 (.tmp 4) (.tmp 21) rfl _ (pcells p).toArray rfl rfl (by rw [hs33]; exact size112) (by rw [hs33]; rfl) (pcells_one _) ?_))
        | ((refine wpList_load_mid rfl 112 (.tmp 4) rfl wr.heap.size 0 rfl (pcells p) _ (range_new wr (pcells p) 112) Try.underlying112 rfl (by rw [hl33]; exact size112) ?_)))
      refine (keep_any (HV.out.below (below_alloc wr _)) p (by show p.1 < ((d.step.pend.take i).foldl put d.kept).length; rw [puts_length]; exact hpm.1) hpm.2).mono ?_
      rintro en w2 ⟨⟨v2, rfl⟩, f2, dv2⟩
      have F2 := Lib.hid ((HF.out.trans (Frm.of_below (F := F) (below_alloc wr _)) (fun k hk => .inl hk)).trans f2 (fun k hk => .inl hk))
      have V2 : Hid (DevV F w2 B K (.slice (some ⟨g, 0, none⟩) d.step.pend.length cp) { d.step with kept := (d.step.pend.take (i + 1)).foldl put d.kept }) := by
        show DevV _ _ _ _ _ _
        rw [foldl_snoc put d.kept d.step.pend i p hpi]
        exact dv2
      clear f2 dv2
      go_wp2_with fail
      go_roundw
      case rel => exact ⟨i + 1, rfl, hlt, F2.out, V2.out⟩
      case measure => simp only [intOf]; omega
    · have hii : ¬ (i : Int) < (d.step.pend.length : Int) := by omega
      obtain rfl : i = d.step.pend.length := by omega
      have hv := HV.out
      rw [List.take_length] at hv
      have hb := hv.blk
      have hc1 : wr.cell? ⟨B, 1, none⟩ = some (.slice ap d.step.pend.length cp) := Joins.cell_of_block hb 1
      have hf1 : wr.frozen? ⟨B, 1, none⟩ = false := Joins.unfrozen_of_block hb 1
      have hb2 := Joins.block_setCell (i := 1) hb (.slice none 0 0)
      have hc5 : (wr.setCell ⟨B, 1, none⟩ (.slice none 0 0)).cell? ⟨B, 5, none⟩ = some (.int .i64 (d.syncs : Int)) := Joins.cell_of_block hb2 5
      have hf5 : (wr.setCell ⟨B, 1, none⟩ (.slice none 0 0)).frozen? ⟨B, 5, none⟩ = false := Joins.unfrozen_of_block hb2 5
      have hyi : (d.syncs : Int) ≤ 100000 := by omega
      have hy0 : (0 : Int) ≤ (d.syncs : Int) := by omega
      have fin : ∀ v, v = Value.int .i64 0 → DevOf F w B { d.step with kept := d.pend.foldl put d.kept, pend := [], syncs := d.syncs + 1 } (.int .i64 0) (.returned v) ((wr.setCell ⟨B, 1, none⟩ (.slice none 0 0)).setCell ⟨B, 5, none⟩ (.int .i64 ((d.syncs + 1 : Nat) : Int))) := by
        intro v hv'
        have hfr2 : Frm F w ((wr.setCell ⟨B, 1, none⟩ (.slice none 0 0)).setCell ⟨B, 5, none⟩ (.int .i64 ((d.syncs + 1 : Nat) : Int))) := (HF.out.trans (Frm.setCell wr 1 _ hv.f) (fun k hk => .inl hk)).trans (Frm.setCell _ 5 _ hv.f) (fun k hk => .inl hk)
        refine ⟨by rw [hv'], hfr2, ?_⟩
        have hp0 : Pend F wr (.slice none 0 0) [] := ⟨World.ownsRow_nil _ _ _ _, fun k hk => by simp [Value.ownBlock] at hk⟩
        have h1 := dev_set (e := { d.step with kept := d.pend.foldl put d.kept, pend := [] }) hb hv.kept hp0 1 (.slice none 0 0) (by simp [dcells]; rfl) rfl hv.f HOK.out hv.arm hv.lt
        obtain ⟨⟨K1, vp1, hb1, hk1, hp1⟩, ho1, hf1, ha1, hl1⟩ := h1
        have h2 := dev_set (e := { d.step with kept := d.pend.foldl put d.kept, pend := [], syncs := d.syncs + 1 }) hb1 hk1 hp1 5 (.int .i64 ((d.syncs + 1 : Nat) : Int)) (by simp [dcells]) rfl hf1 HOK.out ha1 hl1
        exact h2.grow hFl hfr2.size
      have FN := Lib.hid fin
      clear fin hb hb2 hv
      go_wp2
      go_ret
      exact FN.out _ rfl
end Go.Proofs.Ytopemjbakpahfaa
/-
  The device's Restart; whether a number is among numbers. No condition but that the device's numbers are small.
-/
namespace Go.Proofs.Ytopemjbakpahfaa
open Go.RowKit Disk
/-- The slice at a reads as these numbers. -/
def RI (w : World) (a : Option Addr) (l : List Int) : Prop :=
  ∀ i, i < l.length → ∃ g off, a = some ⟨g, off, none⟩ ∧ g < w.heap.size ∧ w.cell? ⟨g, off + i, none⟩ = some (.int .i64 (l.getD i 0))
theorem RI.below {w w1 : World} {a : Option Addr} {l : List Int} (h : RI w a l) (hb : Below w.heap.size w w1) : RI w1 a l := by
  intro i hi
  obtain ⟨g, off, e, hg, hc⟩ := h i hi
  exact ⟨g, off, e, Nat.lt_of_lt_of_le hg hb.size, (hb.cell (p := ⟨g, off + i, none⟩) hg).trans hc⟩
theorem mem_of_getD {l : List Int} {i : Nat} (h : i < l.length) : l.getD i 0 ∈ l := by
  have : l.getD i 0 = l[i] := by simp [List.getD, h]
  rw [this]; exact List.getElem_mem h
theorem index_any (l : List Int) (x : Int) (a : Option Addr) (cap : Nat) (w : World) (hl : (l.length : Int) ≤ 9223372036854775807) (hr : RI w a l) :
    Calls Try.prog 102 #[.slice a l.length cap, .int .i64 x] w fun en w' => (∃ r : Int, en = .returned (.int .i64 r) ∧ Hid (0 ≤ r ↔ x ∈ l)) ∧ w = w' := by
  have HR := Lib.hid hr
  clear hr
  go_enter Try.func102, Try.ntmps102
  go_wp2
  go_loop [8] (fun iv => ∃ k : Nat, iv = .int .i64 k ∧ k ≤ l.length ∧ ∀ j, j < k → l.getD j 0 ≠ x) (fun iv => l.length - (intOf iv).toNat)
  case atStart => exact ⟨0, rfl, Nat.zero_le _, fun j hj => absurd hj (Nat.not_lt_zero j)⟩
  case round =>
    obtain ⟨k, rfl, hk, hall⟩ := hrel
    have HA := Lib.hid hall
    clear hall
    by_cases hlt : k < l.length
    · have hk0 : (0 : Int) ≤ (k : Int) := by omega
      have hki : (k : Int) < (l.length : Int) := by omega
      obtain ⟨g, off, rfl, hg, hcell⟩ := HR.out k hlt
      have hyes : Hid (l.getD k 0 = x → x ∈ l) := fun e => by rw [← e]; exact mem_of_getD hlt
      have hnext : Hid (l.getD k 0 ≠ x → ∀ j, j < k + 1 → l.getD j 0 ≠ x) := fun hx j hj => by
        rcases Nat.lt_or_ge j k with h1 | h1
        · exact HA.out j h1
        · obtain rfl : j = k := by omega
          exact hx
      generalize l.getD k 0 = y at hcell hyes hnext
      cases hb : (x == y)
      · go_wp2
        go_round
        case rel => exact ⟨k + 1, rfl, hlt, hnext.out (fun e => by rw [e] at hb; simp at hb)⟩
        case measure => simp only [intOf]; omega
      · go_wp2
        go_ret
        have hm := hyes.out (by have := (beq_iff_eq.1 hb); exact this.symm)
        exact ⟨⟨_, rfl, ⟨fun _ => hm, fun _ => hk0⟩⟩, rfl⟩
    · have hki : ¬ (k : Int) < (l.length : Int) := by omega
      obtain rfl : k = l.length := by omega
      go_wp2
      go_ret
      refine ⟨⟨-1, rfl, ?_⟩, rfl⟩
      have hno : ¬ x ∈ l := by
        intro hx
        obtain ⟨j, hj, e⟩ := List.mem_iff_getElem.1 hx
        exact HA.out j hj (by simp [List.getD, hj, e])
      exact ⟨fun h => by omega, fun h => absurd h hno⟩
theorem contains_any (l : List Int) (x : Int) (a : Option Addr) (cap : Nat) (w : World) (hl : (l.length : Int) ≤ 9223372036854775807) (hr : RI w a l) :
    Calls Try.prog 89 #[.slice a l.length cap, .int .i64 x] w fun en w' => en = .returned (.bool (decide (x ∈ l))) ∧ w = w' := by
  go_enter Try.func89, Try.ntmps89
  go_wp2_with fail
  refine (index_any l x a cap _ hl hr).mono ?_
  rintro en w1 ⟨⟨r, rfl, hd⟩, rfl⟩
  go_wp2
  go_ret
  exact ⟨ret_bool (decide_eq_decide.2 hd.out), rfl⟩
theorem sel_snoc (keep : List Int) (p : Nat × List UInt8) : ∀ (l : List (Nat × List UInt8)) (k : Nat), sel keep k (l ++ [p]) = sel keep k l ++ (if ((k + l.length : Nat) : Int) ∈ keep then [p] else []) := by
  intro l
  induction l with
  | nil => intro k; simp [sel]
  | cons q l ih =>
    intro k
    rw [List.cons_append]
    unfold sel
    rw [ih (k + 1), List.length_cons, show k + 1 + l.length = k + (l.length + 1) by omega]
    split <;> rfl
theorem sel_take {keep : List Int} {l : List (Nat × List UInt8)} {i : Nat} {p : Nat × List UInt8} (h : l[i]? = some p) : sel keep 0 (l.take (i + 1)) = sel keep 0 (l.take i) ++ (if (i : Int) ∈ keep then [p] else []) := by
  have hl : i < l.length := (List.getElem?_eq_some_iff.1 h).1
  have : l[i] = p := by rw [List.getElem?_eq_getElem hl] at h; simpa using h
  rw [List.take_succ_eq_append_getElem hl, this, sel_snoc, List.length_take, Nat.zero_add, Nat.min_eq_left (by omega)]
theorem sel_len (keep : List Int) : ∀ (l : List (Nat × List UInt8)) (k : Nat), (sel keep k l).length ≤ l.length := by
  intro l
  induction l with
  | nil => intro k; simp [sel]
  | cons q l ih =>
    intro k
    unfold sel
    have := ih (k + 1)
    split <;> simp <;> omega
set_option maxRecDepth 100000 in
set_option maxHeartbeats 4000000 in
theorem restart_any {F : Nat → Prop} {w : World} {B : Nat} {d : Dev} (h : IsDev F w B d) (hp : d.pend.length ≤ 100000) (l : List Int) (a : Option Addr) (cap : Nat) (hl : (l.length : Int) ≤ 9223372036854775807)
    (hsrc : ∀ w', Frm F w w' → RI w' a l) :
    Calls Try.prog 37 #[.pointer (some ⟨B, 0, none⟩), .slice a l.length cap] w (DevOf F w B (d.restart l).1 (.int .i64 ((d.restart l).2 : Nat))) := by
  have hFl := h.lt
  have HOK := Lib.hid (restart_ok h.ok l)
  obtain ⟨K, vp, V1⟩ := h.v
  obtain ⟨ap, cp, rfl⟩ := pend_form V1.pend
  have hc1 : w.cell? ⟨B, 1, none⟩ = some (.slice ap d.pend.length cp) := Joins.cell_of_block V1.blk 1
  have h32 : ∀ p ∈ d.pend, p.1 < d.kept.length ∧ p.2.length = 32 := h.ok.2
  have VV := Lib.hid V1
  clear V1 h
  go_enter Try.func37, Try.ntmps37
  go_wp2_with fail
  go_loopw [5, 13] (fun cv iv wr => ∃ i : Nat, iv = .int .i64 i ∧ i ≤ d.pend.length ∧ cv = .int .i64 ((sel l 0 (d.pend.take i)).length : Nat) ∧ Frm F w wr ∧ DevV F wr B K (.slice ap d.pend.length cp) { d with kept := (sel l 0 (d.pend.take i)).foldl put d.kept }) (fun _ iv _ => d.pend.length - (intOf iv).toNat)
  case atStart => exact ⟨0, rfl, Nat.zero_le _, rfl, Frm.refl _ _, VV.out⟩
  case round =>
    obtain ⟨i, rfl, hi, rfl, hfr, hv⟩ := hrel
    have HF := Lib.hid hfr
    have HV := Lib.hid hv
    clear hfr hv
    have hsl := sel_len l (d.pend.take i) 0
    rw [List.length_take] at hsl
    by_cases hlt : i < d.pend.length
    · have hi0 : (0 : Int) ≤ (i : Int) := by omega
      have hii : (i : Int) < (d.pend.length : Int) := by omega
      obtain ⟨p, hpi⟩ : ∃ p, d.pend[i]? = some p := ⟨_, List.getElem?_eq_getElem hlt⟩
      have hpm := h32 p (List.mem_of_getElem? hpi)
      obtain ⟨g, c, e, hrg⟩ := pend_at HV.out.pend (fun q hq => (h32 q hq).2) hpi
      simp only [Value.slice.injEq] at e
      obtain ⟨rfl, _, rfl⟩ := e
      have hl33 : (pcells p).length = 33 := pcells_length hpm.2
      have hs33 : (pcells p).toArray.size = 33 := by rw [List.size_toArray, hl33]
      have RG := Lib.hid hrg
      have ST := Lib.hid (sel_take (keep := l) hpi)
      have fA : Frm F w (wr.alloc (.cells (pcells p).toArray 112)) := HF.out.trans (Frm.of_below (F := F) (below_alloc wr _)) (fun k hk => .inl hk)
      have FA := Lib.hid fA
      clear hrg fA
      go_wp2_with (first
        | (refine wpList_load_mid rfl 112 (.tmp 16) rfl g (i * 33) rfl (pcells p) _ RG.out Try.underlying112 rfl (by rw [hl33]; exact size112) ?_)
        | (refine wpList_store_new rfl 112 (.tmp 7) (.tmp 17) rfl _ (pcells p).toArray rfl rfl (by rw [hs33]; exact size112) (by rw [hs33]; rfl) (pcells_one _) ?_))
      refine (contains_any l (i : Int) a cap _ hl (hsrc _ FA.out)).mono ?_
      rintro en w1 ⟨rfl, rfl⟩
      by_cases hmem : (i : Int) ∈ l
      · rw [decide_eq_true hmem]
        go_wp2_with (refine wpList_load_mid rfl 112 (.tmp 7) rfl wr.heap.size 0 rfl (pcells p) _ (range_new wr (pcells p) 112) Try.underlying112 rfl (by rw [hl33]; exact size112) ?_)
        refine (keep_any (HV.out.below (below_alloc wr _)) p (by show p.1 < ((sel l 0 (d.pend.take i)).foldl put d.kept).length; rw [puts_length]; exact hpm.1) hpm.2).mono ?_
        rintro en w2 ⟨⟨v2, rfl⟩, f2, dv2⟩
        have F2 := Lib.hid (FA.out.trans f2 (fun k hk => .inl hk))
        have ST2 := ST.out
        rw [if_pos hmem] at ST2
        have V2 : Hid (DevV F w2 B K (.slice (some ⟨g, 0, none⟩) d.pend.length cp) { d with kept := (sel l 0 (d.pend.take (i + 1))).foldl put d.kept }) := by
          show DevV _ _ _ _ _ _
          rw [ST2, List.foldl_append]
          exact dv2
        have hln : Hid ((sel l 0 (d.pend.take (i + 1))).length = (sel l 0 (d.pend.take i)).length + 1) := by show _ = _; rw [ST2]; simp
        clear f2 dv2 ST2
        generalize (sel l 0 (d.pend.take i)).length = m at hsl hln
        go_wp2_with fail
        go_roundw
        case rel => exact ⟨i + 1, rfl, hlt, by rw [hln.out]; rfl, F2.out, V2.out⟩
        case measure => simp only [intOf]; omega
      · rw [decide_eq_false hmem]
        have ST2 := ST.out
        rw [if_neg hmem, List.append_nil] at ST2
        have V2 : Hid (DevV F (wr.alloc (.cells (pcells p).toArray 112)) B K (.slice (some ⟨g, 0, none⟩) d.pend.length cp) { d with kept := (sel l 0 (d.pend.take (i + 1))).foldl put d.kept }) := by
          show DevV _ _ _ _ _ _
          rw [ST2]
          exact HV.out.below (below_alloc wr _)
        have S2 := Lib.hid ST2
        clear ST2
        go_wp2_with fail
        go_roundw
        case rel => exact ⟨i + 1, rfl, hlt, by rw [S2.out], FA.out, V2.out⟩
        case measure => simp only [intOf]; omega
    · have hii : ¬ (i : Int) < (d.pend.length : Int) := by omega
      obtain rfl : i = d.pend.length := by omega
      have hv := HV.out
      rw [List.take_length] at hv ⊢
      have hb := hv.blk
      have c1 : wr.cell? ⟨B, 1, none⟩ = some (.slice ap d.pend.length cp) := Joins.cell_of_block hb 1
      have f1 : wr.frozen? ⟨B, 1, none⟩ = false := Joins.unfrozen_of_block hb 1
      have hb2 := Joins.block_setCell (i := 1) hb (.slice none 0 0)
      have c2 : (wr.setCell ⟨B, 1, none⟩ (.slice none 0 0)).cell? ⟨B, 2, none⟩ = some (.bool d.down) := Joins.cell_of_block hb2 2
      have f2 : (wr.setCell ⟨B, 1, none⟩ (.slice none 0 0)).frozen? ⟨B, 2, none⟩ = false := Joins.unfrozen_of_block hb2 2
      have hb3 := Joins.block_setCell (i := 2) hb2 (.bool false)
      have c3 : ((wr.setCell ⟨B, 1, none⟩ (.slice none 0 0)).setCell ⟨B, 2, none⟩ (.bool false)).cell? ⟨B, 3, none⟩ = some (.int .i64 (d.armed : Int)) := Joins.cell_of_block hb3 3
      have f3 : ((wr.setCell ⟨B, 1, none⟩ (.slice none 0 0)).setCell ⟨B, 2, none⟩ (.bool false)).frozen? ⟨B, 3, none⟩ = false := Joins.unfrozen_of_block hb3 3
      have fin : ∀ v, v = Value.int .i64 ((d.restart l).2 : Nat) → DevOf F w B (d.restart l).1 (.int .i64 ((d.restart l).2 : Nat)) (.returned v) (((wr.setCell ⟨B, 1, none⟩ (.slice none 0 0)).setCell ⟨B, 2, none⟩ (.bool false)).setCell ⟨B, 3, none⟩ (.int .i64 0)) := by
        intro v hv'
        have hfr2 : Frm F w (((wr.setCell ⟨B, 1, none⟩ (.slice none 0 0)).setCell ⟨B, 2, none⟩ (.bool false)).setCell ⟨B, 3, none⟩ (.int .i64 0)) := ((HF.out.trans (Frm.setCell wr 1 _ hv.f) (fun k hk => .inl hk)).trans (Frm.setCell _ 2 _ hv.f) (fun k hk => .inl hk)).trans (Frm.setCell _ 3 _ hv.f) (fun k hk => .inl hk)
        refine ⟨by rw [hv'], hfr2, ?_⟩
        have hp0 : Pend F wr (.slice none 0 0) [] := ⟨World.ownsRow_nil _ _ _ _, fun k hk => by simp [Value.ownBlock] at hk⟩
        have h1 := dev_set (e := { d with kept := (sel l 0 d.pend).foldl put d.kept, pend := [] }) hb hv.kept hp0 1 (.slice none 0 0) (by simp [dcells]) rfl hv.f HOK.out hv.arm hv.lt
        obtain ⟨⟨K1, vp1, hb1, hk1, hp1⟩, ho1, hf1, ha1, hl1⟩ := h1
        have h2 := dev_set (e := { d with kept := (sel l 0 d.pend).foldl put d.kept, pend := [], down := false }) hb1 hk1 hp1 2 (.bool false) (by simp [dcells]) rfl hf1 HOK.out ha1 hl1
        obtain ⟨⟨K2, vp2, hb2, hk2, hp2⟩, ho2, hf2, ha2, hl2⟩ := h2
        have h3 := dev_set (e := (d.restart l).1) hb2 hk2 hp2 3 (.int .i64 0) (by simp [dcells, Dev.restart]) rfl hf2 HOK.out (by show 0 ≤ _; omega) hl2
        exact h3.grow hFl hfr2.size
      have FN := Lib.hid fin
      clear fin hb hb2 hb3 hv
      go_wp2
      go_ret
      exact FN.out _ rfl
end Go.Proofs.Ytopemjbakpahfaa
/-
  The device's Read. No condition.
-/
namespace Go.Proofs.Ytopemjbakpahfaa
open Go.RowKit Disk
/-- Bytes in new memory that may be written: nil, or a sector's. -/
def Sec (w : World) (base : Nat) (v : Value) (l : List UInt8) : Prop :=
  (v = .slice none 0 0 ∧ l = []) ∨ ∃ g, v = .slice (some ⟨g, 0, none⟩) 32 32 ∧ l.length = 32 ∧ base ≤ g ∧ g < w.heap.size ∧ w.rangeAt g 0 (l.map byteV) ∧ w.there g 0 32
def ReadOf (w : World) (r : List UInt8 × Int) (en : Ending) (w' : World) : Prop := Below w.heap.size w w' ∧ ∃ v, en = .returned (.tuple #[v, .int .i64 r.2]) ∧ Sec w' w.heap.size v r.1
structure ReadI (w : World) (S : Nat) (l : List UInt8) (wr : World) : Prop where
  bl : Below w.heap.size w wr
  lt : S < wr.heap.size
  rng : wr.rangeAt S 0 (l.map byteV)
  thr : wr.there S 0 32
theorem range_sub {w : World} {b : Nat} {C : List Value} (h : w.rangeAt b 0 C) (k : Nat) : w.rangeAt b k (C.drop k) := fun j v hv => by
  have := h (k + j) v (by rw [← hv, List.getElem?_drop])
  rwa [Nat.zero_add] at this
set_option maxRecDepth 100000 in
set_option maxHeartbeats 4000000 in
theorem read_any {F : Nat → Prop} {w : World} {B : Nat} {d : Dev} (h : IsDev F w B d) (k : Int) (hp : d.pend.length ≤ 100000) :
    Calls Try.prog 38 #[.pointer (some ⟨B, 0, none⟩), .int .i64 k] w (ReadOf w (d.read k)) := by
  obtain ⟨r, hr0⟩ : ∃ r, d.read k = r := ⟨_, rfl⟩
  rw [hr0]
  go_enter Try.func38, Try.ntmps38
  go_wp2_with fail
  refine (ask_any h k).mono ?_
  rintro en w1 ⟨rfl, rfl⟩
  by_cases h1 : d.ask k = 0
  rotate_left
  · have hne : ((d.ask k : Int) != 0) = true := by rw [bne_iff_ne]; exact h1
    obtain rfl : r = ([], d.ask k) := by rw [← hr0]; unfold Dev.read; rw [if_pos h1]
    clear hr0
    go_wp2
    go_ret2
    exact ⟨Below.refl _ _, _, rfl, .inl ⟨rfl, rfl⟩⟩
  have hk0 : 0 ≤ k ∧ k < (d.kept.length : Int) := by
    unfold Dev.ask at h1
    split at h1
    · omega
    · split at h1 <;> omega
  obtain ⟨q, rfl⟩ : ∃ q : Nat, k = (q : Int) := ⟨k.toNat, by omega⟩
  obtain rfl : r = (d.sector q, 0) := by rw [← hr0]; unfold Dev.read; rw [if_neg (by simpa using h1), Int.toNat_natCast]
  have hqk : q < d.kept.length := by omega
  have hs32 := h.ok.1 q hqk
  have h32 : ∀ p ∈ d.pend, p.2.length = 32 := fun p hp => (h.ok.2 p hp).2
  rw [h1]
  clear hr0 h1 hk0
  obtain ⟨K, vp, V1⟩ := h.v
  obtain ⟨ap, cp, rfl⟩ := pend_form V1.pend
  have hc0 : w.cell? ⟨B, 0, none⟩ = some (.slice (some ⟨K, 0, none⟩) d.kept.length d.kept.length) := Joins.cell_of_block V1.blk 0
  have hc1 : w.cell? ⟨B, 1, none⟩ = some (.slice ap d.pend.length cp) := Joins.cell_of_block V1.blk 1
  have hrk : w.rangeAt K (q * 32) ((d.kept.getD q []).map byteV) := by rw [Nat.mul_comm]; exact V1.kept.rng q hqk
  have HS : Hid (d.sector q = d.pend.foldl (over q) (d.kept.getD q [])) := rfl
  generalize d.kept.getD q [] = s0 at hs32 hrk HS
  have hl32 : (s0.map byteV).length = 32 := by rw [List.length_map, hs32]
  have hz32 : (s0.map byteV).toArray.size = 32 := by rw [List.size_toArray, hl32]
  have VV := Lib.hid V1
  have RK := Lib.hid hrk
  have hq0 : (0 : Int) ≤ (q : Int) := by omega
  have hqi : (q : Int) < (d.kept.length : Int) := by omega
  have hc1A : (w.alloc (.cells (s0.map byteV).toArray 110)).cell? ⟨B, 1, none⟩ = some (.slice ap d.pend.length cp) := alloc_cell hc1
  clear V1 hrk h
  go_wp2_with (first
    | ((refine wpList_load_mid rfl 110 (.tmp 21) rfl K (q * 32) rfl (s0.map byteV) _ RK.out Try.underlying110 rfl (by rw [hl32]; exact size110) ?_))
    | ((refine wpList_store_new rfl 110 (.tmp 7) (.tmp 22) rfl _ (s0.map byteV).toArray rfl rfl (by rw [hz32]; exact size110) (by rw [hz32]; rfl) (bytes_one _) ?_)))
  go_loopw [28] (fun iv wr => ∃ i : Nat, iv = .int .i64 i ∧ i ≤ d.pend.length ∧ ReadI w w.heap.size ((d.pend.take i).foldl (over q) s0) wr) (fun iv _ => d.pend.length - (intOf iv).toNat)
  case atStart => exact ⟨0, rfl, Nat.zero_le _, below_alloc w _, by simp, range_new w _ _, there_new w _ _ 0 32 (by rw [hz32]; omega)⟩
  case round =>
    obtain ⟨i, rfl, hi, hR⟩ := hrel
    have HR := Lib.hid hR
    have hol := over_length q (fun p hp => h32 p (List.mem_of_mem_take (i := i) hp)) hs32
    have HOL := Lib.hid hol
    clear hR hol
    by_cases hlt : i < d.pend.length
    · have hi0 : (0 : Int) ≤ (i : Int) := by omega
      have hii : (i : Int) < (d.pend.length : Int) := by omega
      obtain ⟨p, hpi⟩ : ∃ p, d.pend[i]? = some p := ⟨_, List.getElem?_eq_getElem hlt⟩
      have hpm := h32 p (List.mem_of_getElem? hpi)
      obtain ⟨g, c, e, hrg⟩ := pend_at (VV.out.below HR.out.bl).pend h32 hpi
      simp only [Value.slice.injEq] at e
      obtain ⟨rfl, _, rfl⟩ := e
      have hl33 : (pcells p).length = 33 := pcells_length hpm
      have hs33 : (pcells p).toArray.size = 33 := by rw [List.size_toArray, hl33]
      have hm32 : (p.2.map byteV).length = 32 := by rw [List.length_map, hpm]
      have hmz : (p.2.map byteV).toArray.size = 32 := by rw [List.size_toArray, hm32]
      have RG := Lib.hid hrg
      have ST := Lib.hid (foldl_snoc (over q) s0 d.pend i p hpi)
      have hb1 : (wr.alloc (.cells (pcells p).toArray 112)).cell? ⟨wr.heap.size, 0, none⟩ = some (.int .i64 (p.1 : Int)) := Joins.cell_of_block (heap_alloc_new wr _) 0
      have R1 : Hid ((wr.alloc (.cells (pcells p).toArray 112)).rangeAt wr.heap.size 1 (p.2.map byteV)) := range_sub (range_new wr (pcells p) 112) 1
      have BA := Lib.hid (HR.out.bl.alloc HR.out.bl.size (.cells (pcells p).toArray 112))
      have TA := Lib.hid (World.there_alloc HR.out.thr (.cells (pcells p).toArray 112))
      have GA := Lib.hid (World.rangeAt_alloc HR.out.rng (.cells (pcells p).toArray 112))
      have LA : Hid (w.heap.size < (wr.alloc (.cells (pcells p).toArray 112)).heap.size) := by have := HR.out.lt; show _ < _; simp; omega
      clear hrg
      by_cases hpk : p.1 = q
      · have hpe : ((p.1 : Int) == (q : Int)) = true := by rw [beq_iff_eq]; omega
        have ST2 := ST.out
        rw [show over q ((d.pend.take i).foldl (over q) s0) p = p.2 by unfold over; rw [if_pos hpk]] at ST2
        have S2 := Lib.hid ST2
        clear ST2
        go_wp2_with (first
          | (refine wpList_load_mid rfl 112 (.tmp 30) rfl g (i * 33) rfl (pcells p) _ RG.out Try.underlying112 rfl (by rw [hl33]; exact size112) ?_)
          | (refine wpList_store_new rfl 112 (.tmp 9) (.tmp 31) rfl _ (pcells p).toArray rfl rfl (by rw [hs33]; exact size112) (by rw [hs33]; rfl) (pcells_one _) ?_)
          | (refine wpList_load_mid rfl 110 (.tmp 36) rfl wr.heap.size 1 rfl (p.2.map byteV) _ R1.out Try.underlying110 rfl (by rw [hm32]; exact size110) ?_)
          | (refine wpList_store_mid rfl 110 (.tmp 7) (.tmp 37) rfl w.heap.size 0 (p.2.map byteV).toArray rfl rfl (by rw [hmz]; exact TA.out) (by rw [hmz]; exact size110) (bytes_one _) ?_))
        go_roundw
        case rel =>
          refine ⟨i + 1, rfl, hlt, ?_, ?_, ?_, ?_⟩
          · exact (Frm.of_below (F := fun k => k = w.heap.size) BA.out).trans (frm_setCells (F := fun k => k = w.heap.size) rfl _ _ _) (fun k hk => .inl hk) |>.below (fun k hk => by omega) (Nat.le_refl _)
          · rw [size_setCells]; exact LA.out
          · rw [S2.out]; exact World.rangeAt_setCells_same _ _ _ _ (by rw [hm32]; exact TA.out)
          · exact World.there_setCells TA.out _ _ _
        case measure => simp only [intOf]; omega
      · have hpe : ((p.1 : Int) == (q : Int)) = false := by rw [beq_eq_false_iff_ne]; omega
        have ST2 := ST.out
        rw [show over q ((d.pend.take i).foldl (over q) s0) p = (d.pend.take i).foldl (over q) s0 by unfold over; rw [if_neg hpk]] at ST2
        have S2 := Lib.hid ST2
        clear ST2
        go_wp2_with (first
          | (refine wpList_load_mid rfl 112 (.tmp 30) rfl g (i * 33) rfl (pcells p) _ RG.out Try.underlying112 rfl (by rw [hl33]; exact size112) ?_)
          | (refine wpList_store_new rfl 112 (.tmp 9) (.tmp 31) rfl _ (pcells p).toArray rfl rfl (by rw [hs33]; exact size112) (by rw [hs33]; rfl) (pcells_one _) ?_))
        go_roundw
        case rel => exact ⟨i + 1, rfl, hlt, BA.out, LA.out, by rw [S2.out]; exact GA.out, TA.out⟩
        case measure => simp only [intOf]; omega
    · have hii : ¬ (i : Int) < (d.pend.length : Int) := by omega
      obtain rfl : i = d.pend.length := by omega
      go_wp2
      go_ret2
      refine ⟨HR.out.bl, _, rfl, .inr ⟨w.heap.size, rfl, ?_, Nat.le_refl _, HR.out.lt, ?_, HR.out.thr⟩⟩
      · have := HOL.out; rw [List.take_length, ← HS.out] at this; exact this
      · have := HR.out.rng; rw [List.take_length, ← HS.out] at this; exact this
end Go.Proofs.Ytopemjbakpahfaa
/-
  A new device. No condition.
-/
namespace Go.Proofs.Ytopemjbakpahfaa
open Go.RowKit Disk
def sizeOfDev (s : Int) : Nat := (min (max 0 s) 1024).toNat
/-- A device in new memory. -/
def NewOf (w : World) (n : Nat) (en : Ending) (w' : World) : Prop := ∃ B, en = .returned (.pointer (some ⟨B, 0, none⟩)) ∧ Below w.heap.size w w' ∧ w.heap.size ≤ B ∧ IsDev (fun k => w.heap.size ≤ k ∧ k < w'.heap.size) w' B (Dev.new n)
theorem info110 : (Try.prog.info? 110).map (fun i => (i.zero, i.size, i.bytes)) = some (some (.agg (zero32.map byteV).toArray), 32, 32) := by kernel_rfl
theorem zmap : zero32.map byteV = List.replicate 32 (byteV 0) := by unfold zero32; rw [List.map_replicate]
theorem made_at (n i : Nat) (h : i < n) : (madeCells (Value.agg (zero32.map byteV).toArray).cells n)[i]? = some (byteV 0) := by
  have hz : ∀ j, j < 32 → (zero32.map byteV).toArray[j]! = byteV 0 := by
    intro j hj
    rw [getElem!_pos _ _ (by rw [List.size_toArray, zmap, List.length_replicate]; exact hj)]
    simp only [zmap, List.getElem_toArray, List.getElem_replicate]
  unfold madeCells
  rw [Array.getElem?_map, Array.getElem?_eq_getElem (by simpa using h)]
  simp only [Array.getElem_range, Option.map_some, Value.cells]
  rw [hz]
  have : (zero32.map byteV).toArray.size = 32 := rfl
  rw [this]
  exact Nat.mod_lt _ (by omega)
def newCells (m : Nat) : Array Value := madeCells (Value.agg (zero32.map byteV).toArray).cells (m * 32)
theorem new_fin (w : World) (m : Nat) (v : Value) (hv : v = .pointer (some ⟨w.heap.size + 1, 0, none⟩)) (C : Array Value) (hC : C = #[.slice (some ⟨w.heap.size, 0, none⟩) m m, .slice none 0 0, .bool false, .int .i64 0, .int .i64 0, .int .i64 0]) :
    NewOf w m (.returned v) ((w.alloc (.cells (newCells m) 110)).alloc (.cells C 107)) := by
  subst hv hC
  have hb : ((w.alloc (.cells (newCells m) 110)).alloc (.cells #[.slice (some ⟨w.heap.size, 0, none⟩) m m, .slice none 0 0, .bool false, .int .i64 0, .int .i64 0, .int .i64 0] 107)).heap[w.heap.size + 1]? = some (.cells (dcells (Dev.new m) w.heap.size (.slice none 0 0)) 107 (0, 0)) := by
    have h := heap_alloc_new (w.alloc (.cells (newCells m) 110)) (.cells #[.slice (some ⟨w.heap.size, 0, none⟩) m m, .slice none 0 0, .bool false, .int .i64 0, .int .i64 0, .int .i64 0] 107)
    rw [World.size_alloc] at h
    rw [h]
    simp [dcells, Dev.new]
  have hk : ((w.alloc (.cells (newCells m) 110)).alloc (.cells #[.slice (some ⟨w.heap.size, 0, none⟩) m m, .slice none 0 0, .bool false, .int .i64 0, .int .i64 0, .int .i64 0] 107)).heap[w.heap.size]? = some (.cells (newCells m) 110 (0, 0)) :=
    (Below.heap_alloc _ _ _ (by simp)).trans (heap_alloc_new w _)
  have hkl : (Dev.new m).kept.length = m := by simp [Dev.new]
  refine ⟨w.heap.size + 1, rfl, ((Below.refl _ w).alloc (Nat.le_refl _) _).alloc (by simp) _, by omega, ⟨w.heap.size, _, hb, ⟨⟨_, hk⟩, ?_, ?_, ?_⟩, ⟨World.ownsRow_nil _ _ _ _, fun k hk => by simp [Value.ownBlock] at hk⟩⟩, new_ok m, ?_, Nat.zero_le _, fun k hk => hk.2⟩
  · intro k hk' j v hv
    rw [hkl] at hk'
    rw [Joins.cell_of_block hk]
    have h1 : (Dev.new m).kept.getD k [] = zero32 := by simp [Dev.new, List.getD, hk', zero32]
    rw [h1] at hv
    rw [zmap] at hv
    have hj : j < 32 := by have := (List.getElem?_eq_some_iff.1 hv).1; rw [List.length_replicate] at this; exact this
    rw [newCells, made_at _ _ (by omega), ← hv, List.getElem?_replicate, if_pos hj]
  · intro j hj
    rw [hkl] at hj
    refine ⟨?_, Joins.unfrozen_of_block hk _⟩
    rw [Joins.cell_of_block hk, newCells, made_at _ _ (by omega)]
    rfl
  · exact ⟨Nat.le_refl _, by simp; omega⟩
  · exact ⟨by omega, by simp⟩
set_option maxRecDepth 100000 in
set_option maxHeartbeats 1000000 in
theorem new_any (w : World) (s : Int) : Calls Try.prog 33 #[.int .i64 s] w (NewOf w (sizeOfDev s)) := by
  obtain ⟨n, hn⟩ : ∃ n, sizeOfDev s = n := ⟨_, rfl⟩
  have hn1 : n = (min (max 0 s) 1024).toNat := by rw [← hn]; rfl
  rw [hn]
  clear hn
  have FN := Lib.hid (new_fin w)
  obtain ⟨i0, hi, hz0, hz1, hz2⟩ := info_parts info110
  have hmk : ∀ x : Int, 0 ≤ x → x ≤ 1024 → (Instr.makeSlice 104 (.int .i64 x) (.int .i64 x)).run Try.prog w = .ok (.slice (some ⟨w.heap.size, 0, none⟩) x.toNat x.toNat) (w.alloc (.cells (newCells x.toNat) 110)) := by
    intro x h0 h1
    have h := run_make (P := Try.prog) w 104 110 i0 _ Try.underlying104 hi hz0 .i64 .i64 x x h0 (Int.le_refl _) (by rw [hz2]; omega) (by omega)
    rw [hz1] at h
    exact h
  clear hi hz0 hz1 hz2
  by_cases h0 : s ≤ 0
  · obtain rfl : n = 0 := by omega
    have hm0 := hmk 0 (by omega) (by omega)
    rw [Int.toNat_zero] at hm0
    clear hmk hn1
    go_enter Try.func33, Try.ntmps33
    go_wp2
    go_ret
    exact FN.out 0 _ rfl _ rfl
  · by_cases h1 : 1024 < s
    · obtain rfl : n = 1024 := by omega
      have hm0 : (Instr.makeSlice 104 (.int .i64 1024) (.int .i64 1024)).run Try.prog w = .ok (.slice (some ⟨w.heap.size, 0, none⟩) 1024 1024) (w.alloc (.cells (newCells 1024) 110)) := hmk 1024 (by omega) (by omega)
      clear hmk hn1
      go_enter Try.func33, Try.ntmps33
      go_wp2
      go_ret
      exact FN.out 1024 _ rfl _ rfl
    · obtain ⟨m, rfl⟩ : ∃ m : Nat, s = (m : Int) := ⟨s.toNat, by omega⟩
      obtain rfl : n = m := by omega
      have hm0 := hmk (n : Int) (by omega) (by omega)
      rw [Int.toNat_natCast] at hm0
      clear hmk hn1
      go_enter Try.func33, Try.ntmps33
      go_wp2
      go_ret
      exact FN.out n _ rfl _ rfl
end Go.Proofs.Ytopemjbakpahfaa
/-
  The contracts of Sum, of the program and of the reference, and of number: for all bytes. No condition but that the machine's numbers hold the length.
-/
namespace Go.Proofs.Ytopemjbakpahfaa
open Go.RowKit Crc
theorem xor_ones (y : W32) : bits .xor .u32 (y.toNat : Int) (4294967295 : Int) = ((~~~ y).toNat : Int) := by
  have h : (4294967295 : Int) = ((BitVec.allOnes 32).toNat : Int) := by decide
  rw [h, bits_xor, BitVec.xor_allOnes]
theorem max_xor (y : W32) : bits .xor .u32 IntKind.u32.max (y.toNat : Int) = ((~~~ y).toNat : Int) := by
  have h : IntKind.u32.max = ((BitVec.allOnes 32).toNat : Int) := by decide
  rw [h, bits_xor, BitVec.xor_comm, BitVec.xor_allOnes]
theorem sum_any (l : List UInt8) (a : Option Addr) (cap : Nat) (w : World) (hl : (l.length : Int) ≤ 9223372036854775807) (hr : RB w a l) :
    Calls Try.prog 28 #[.slice a l.length cap] w fun e w' => e = .returned (.int .u32 ((sum l).toNat : Int)) ∧ w = w' := by
  have HR := Lib.hid hr
  clear hr
  go_enter Try.func28, Try.ntmps28
  go_wp2
  go_loop [3, 8] (fun v i => ∃ k : Nat, i = .int .i64 k ∧ k ≤ l.length ∧ v = .int .u32 ((go (BitVec.allOnes 32) (l.take k)).toNat : Int)) (fun _ i => l.length - (intOf i).toNat)
  case atStart => exact ⟨0, rfl, by omega, rfl⟩
  case round =>
    obtain ⟨k, rfl, hk, rfl⟩ := hrel
    by_cases hlt : k < l.length
    · obtain ⟨g, off, rfl, _, hc⟩ := HR.out k hlt
      have hs : Hid (go (BitVec.allOnes 32) (l.take (k + 1)) = next (go (BitVec.allOnes 32) (l.take k)) (l.getD k 0)) := by rw [take_snoc l k 0 hlt, go_snoc]; rfl
      generalize l.getD k 0 = b at hc hs
      generalize go (BitVec.allOnes 32) (l.take k) = y at hs
      unfold byteV at hc
      have hlt' : (k : Int) < (l.length : Int) := by omega
      have h0 : (0 : Int) ≤ (k : Int) := by omega
      go_wp2_with (go_at_call 30; refine (next_any _ _ _).mono ?_; rintro e w' ⟨rfl, rfl⟩)
      go_round
      case rel => exact ⟨k + 1, rfl, hlt, by rw [hs.out]⟩
      case measure => simp [intOf]; omega
    · have hkl : k = l.length := by omega
      have hs : Hid (sum l = ~~~ (go (BitVec.allOnes 32) (l.take k))) := by rw [hkl, List.take_length]; rfl
      generalize go (BitVec.allOnes 32) (l.take k) = y at hs
      have hn := Lib.hid (max_xor y)
      have hy := y.isLt
      have hlt' : ¬ (k : Int) < (l.length : Int) := by omega
      clear hkl
      go_wp2
      go_ret
      exact ⟨ret_int (by rw [hs.out, ← hn.out]), rfl⟩
theorem rsum_any (l : List UInt8) (a : Option Addr) (cap : Nat) (w : World) (hl : (l.length : Int) ≤ 9223372036854775807) (hr : RB w a l) :
    Calls Try.prog 29 #[.slice a l.length cap] w fun e w' => e = .returned (.int .u32 ((sum l).toNat : Int)) ∧ w = w' := by
  have HR := Lib.hid hr
  clear hr
  go_enter Try.func29, Try.ntmps29
  go_wp2
  go_loop [3, 4] (fun v i => ∃ k : Nat, i = .int .i64 k ∧ k ≤ l.length ∧ v = .int .u32 ((go (BitVec.allOnes 32) (l.take k)).toNat : Int)) (fun _ i => l.length - (intOf i).toNat)
  case atStart => exact ⟨0, rfl, by omega, rfl⟩
  case round =>
    obtain ⟨k, rfl, hk, rfl⟩ := hrel
    by_cases hlt : k < l.length
    · obtain ⟨g, off, rfl, _, hc⟩ := HR.out k hlt
      have hs : Hid (go (BitVec.allOnes 32) (l.take (k + 1)) = next (go (BitVec.allOnes 32) (l.take k)) (l.getD k 0)) := by rw [take_snoc l k 0 hlt, go_snoc]; rfl
      generalize l.getD k 0 = b at hc hs
      generalize go (BitVec.allOnes 32) (l.take k) = y at hs
      unfold byteV at hc
      have hlt' : (k : Int) < (l.length : Int) := by omega
      have h0 : (0 : Int) ≤ (k : Int) := by omega
      go_wp2_with (go_at_call 31; refine (rnext_any _ _ _).mono ?_; rintro e w' ⟨rfl, rfl⟩)
      go_round
      case rel => exact ⟨k + 1, rfl, hlt, by rw [hs.out]⟩
      case measure => simp [intOf]; omega
    · have hkl : k = l.length := by omega
      have hs : Hid (sum l = ~~~ (go (BitVec.allOnes 32) (l.take k))) := by rw [hkl, List.take_length]; rfl
      generalize go (BitVec.allOnes 32) (l.take k) = y at hs
      have hn := Lib.hid (xor_ones y)
      have hy := y.isLt
      have hlt' : ¬ (k : Int) < (l.length : Int) := by omega
      clear hkl
      go_wp2
      go_ret
      exact ⟨ret_int (by rw [hs.out, ← hn.out]), rfl⟩
end Go.Proofs.Ytopemjbakpahfaa
/-
  The contracts of number and put: bytes as a number, a number as bytes.
-/
namespace Go.Proofs.Ytopemjbakpahfaa
open Go.RowKit Crc
theorem bits_or64 {a b : Nat} (ha : a < 2 ^ 64) (hb : b < 2 ^ 64) : bits .or .u64 (a : Int) (b : Int) = ((a ||| b : Nat) : Int) := by
  show IntKind.u64.wrap ((BitVec.ofInt 64 (a : Int) ||| BitVec.ofInt 64 (b : Int)).toNat : Int) = _
  have h1 : (BitVec.ofInt 64 (a : Int) ||| BitVec.ofInt 64 (b : Int)).toNat = a ||| b := by
    rw [BitVec.toNat_or, BitVec.ofInt_natCast, BitVec.ofInt_natCast, BitVec.toNat_ofNat, BitVec.toNat_ofNat, Nat.mod_eq_of_lt ha, Nat.mod_eq_of_lt hb]
  rw [h1]
  have h2 : a ||| b < 2 ^ 64 := Nat.or_lt_two_pow ha hb
  exact IntWalk.u64_in _ (by omega)
theorem or_byte (n : Nat) (b : UInt8) (hn : n < 2 ^ 32) : bits .or .u64 ((n : Int) * 256) (b.toNat : Int) = ((256 * n + b.toNat : Nat) : Int) := by
  have hb := UInt8.toNat_lt b
  have h : ((n : Int) * 256) = ((2 ^ 8 * n : Nat) : Int) := by omega
  rw [h, bits_or64 (by omega) (by omega), ← Nat.two_pow_add_eq_or_of_lt hb]
theorem number_any (l : List UInt8) (a : Option Addr) (cap : Nat) (w : World) (hl : l.length ≤ 4) (hr : RB w a l) :
    Calls Try.prog 101 #[.slice a l.length cap] w fun e w' => e = .returned (.int .u64 (num l : Int)) ∧ w = w' := by
  have HR := Lib.hid hr
  clear hr
  have hl' : (l.length : Int) ≤ 4 := by omega
  go_enter Try.func101, Try.ntmps101
  go_wp2
  go_loop [3, 8] (fun v i => ∃ k : Nat, i = .int .i64 k ∧ k ≤ l.length ∧ v = .int .u64 (num (l.take k) : Int)) (fun _ i => l.length - (intOf i).toNat)
  case atStart => exact ⟨0, rfl, by omega, rfl⟩
  case round =>
    obtain ⟨k, rfl, hk, rfl⟩ := hrel
    by_cases hlt : k < l.length
    · obtain ⟨g, off, rfl, _, hc⟩ := HR.out k hlt
      have hs : Hid (num (l.take (k + 1)) = 256 * num (l.take k) + (l.getD k 0).toNat) := by rw [take_snoc l k 0 hlt, num_snoc]; rfl
      have hn : num (l.take k) < 16777216 := by
        have := num_lt (l.take k)
        have h3 : (l.take k).length ≤ 3 := by simp; omega
        have h4 : 256 ^ (l.take k).length ≤ 256 ^ 3 := Nat.pow_le_pow_right (by omega) h3
        omega
      generalize l.getD k 0 = b at hc hs
      generalize num (l.take k) = y at hs hn
      unfold byteV at hc
      have hb := UInt8.toNat_lt b
      have ho := Lib.hid (or_byte y b (by omega))
      have hlt' : (k : Int) < (l.length : Int) := by omega
      have h0 : (0 : Int) ≤ (k : Int) := by omega
      have hn' : (y : Int) < 16777216 := by omega
      go_wp2
      go_round
      case rel => exact ⟨k + 1, rfl, hlt, by rw [hs.out, ← ho.out]⟩
      case measure => simp [intOf]; omega
    · have hkl : k = l.length := by omega
      have hs : Hid (num l = num (l.take k)) := by rw [hkl, List.take_length]; rfl
      generalize num (l.take k) = y at hs
      have hlt' : ¬ (k : Int) < (l.length : Int) := by omega
      clear hkl
      go_wp2
      go_ret
      exact ⟨ret_int (by rw [hs.out]), rfl⟩
end Go.Proofs.Ytopemjbakpahfaa
/-
  The contract of put: a number as bytes behind bytes of new memory.
-/
namespace Go.Proofs.Ytopemjbakpahfaa
open Go.RowKit Crc
theorem info5 : (Try.prog.info? 5).map (fun i => (i.zero, i.size, i.bytes)) = some (some (.int .u8 0), 1, 1) := by kernel_rfl

set_option maxHeartbeats 1000000 in
theorem put2 (v : Value) (l : List UInt8) (n base : Nat) (w : World) (hn : n < 2 ^ 64) (hl : l.length ≤ 100) (hown : w.ownsRow base 5 1 v l.length (l.map byteV)) (hb : base ≤ w.heap.size) :
    Calls Try.prog 83 #[v, .int .u64 (n : Int), .int .i64 2] w fun e w' => ∃ v', e = .returned v' ∧ w'.ownsRow base 5 1 v' (l.length + 2) ((l ++ be 2 n).map byteV) ∧ Below base w w' := by
  obtain ⟨i0, hi, hz0, hz1, hz2⟩ := info_parts info5
  have hn0 : (0 : Int) ≤ (n : Int) := by omega
  go_enter Try.func83, Try.ntmps83
  go_wp2
  refine wp_loop_rounds 3 ?_
  rw [rounds_succ]
  go_wp2_with (at_builtin; refine wpList_append_own _ rfl (.tmp 14) (.tmp 20) 22 rfl base 5 i0 (.int .u8 0) 1 1 Try.underlying22 hi hz0 hz1 hz2 rfl (by decide) _ _ _ rfl (hown.alloc _) ⟨w.heap.size, 0, none⟩ 1 1 [_] rfl rfl (cell_one_at rfl) (by simp [Value.oneCell']) (by unfold maxLen; omega) (by omega) (by simp; omega) ?_; intro v1 w1 own1 gr1 _; have B1 := ((Below.refl base w).alloc hb _).grown gr1 (by simp; omega) (fun k hk => (hown.lt k hk).1); have hb1 : base ≤ w1.heap.size := by { have := gr1.size; simp at this; omega })
  rw [rounds_succ]
  go_wp2_with (at_builtin; refine wpList_append_own _ rfl (.tmp 14) (.tmp 20) 22 rfl base 5 i0 (.int .u8 0) 1 1 Try.underlying22 hi hz0 hz1 hz2 rfl (by decide) _ _ _ rfl (own1.alloc _) ⟨w1.heap.size, 0, none⟩ 1 1 [_] rfl rfl (cell_one_at rfl) (by simp [Value.oneCell']) (by unfold maxLen; omega) (by omega) (by simp; omega) ?_; intro v2 w2 own2 gr2 _; have B2 := (B1.alloc hb1 _).grown gr2 (by simp; omega) (fun k hk => (own1.lt k hk).1); have hb2 : base ≤ w2.heap.size := by { have := gr2.size; simp at this; omega })
  rw [rounds_succ]
  go_wp2
  go_ret
  refine ⟨_, rfl, ?_, B2⟩
  have e : (l ++ be 2 n).map byteV = l.map byteV ++ [Value.int .u8 ((n : Int) / 256 % 256)] ++ [Value.int .u8 ((n : Int) % 256)] := by simp [be, byteV, UInt8.toNat_ofNat']
  rw [e]
  exact own2

set_option maxHeartbeats 1000000 in
theorem put4 (v : Value) (l : List UInt8) (n base : Nat) (w : World) (hn : n < 2 ^ 64) (hl : l.length ≤ 100) (hown : w.ownsRow base 5 1 v l.length (l.map byteV)) (hb : base ≤ w.heap.size) :
    Calls Try.prog 83 #[v, .int .u64 (n : Int), .int .i64 4] w fun e w' => ∃ v', e = .returned v' ∧ w'.ownsRow base 5 1 v' (l.length + 4) ((l ++ be 4 n).map byteV) ∧ Below base w w' := by
  obtain ⟨i0, hi, hz0, hz1, hz2⟩ := info_parts info5
  have hn0 : (0 : Int) ≤ (n : Int) := by omega
  go_enter Try.func83, Try.ntmps83
  go_wp2
  refine wp_loop_rounds 5 ?_
  rw [rounds_succ]
  go_wp2_with (at_builtin; refine wpList_append_own _ rfl (.tmp 14) (.tmp 20) 22 rfl base 5 i0 (.int .u8 0) 1 1 Try.underlying22 hi hz0 hz1 hz2 rfl (by decide) _ _ _ rfl (hown.alloc _) ⟨w.heap.size, 0, none⟩ 1 1 [_] rfl rfl (cell_one_at rfl) (by simp [Value.oneCell']) (by unfold maxLen; omega) (by omega) (by simp; omega) ?_; intro v1 w1 own1 gr1 _; have B1 := ((Below.refl base w).alloc hb _).grown gr1 (by simp; omega) (fun k hk => (hown.lt k hk).1); have hb1 : base ≤ w1.heap.size := by { have := gr1.size; simp at this; omega })
  rw [rounds_succ]
  go_wp2_with (at_builtin; refine wpList_append_own _ rfl (.tmp 14) (.tmp 20) 22 rfl base 5 i0 (.int .u8 0) 1 1 Try.underlying22 hi hz0 hz1 hz2 rfl (by decide) _ _ _ rfl (own1.alloc _) ⟨w1.heap.size, 0, none⟩ 1 1 [_] rfl rfl (cell_one_at rfl) (by simp [Value.oneCell']) (by unfold maxLen; omega) (by omega) (by simp; omega) ?_; intro v2 w2 own2 gr2 _; have B2 := (B1.alloc hb1 _).grown gr2 (by simp; omega) (fun k hk => (own1.lt k hk).1); have hb2 : base ≤ w2.heap.size := by { have := gr2.size; simp at this; omega })
  rw [rounds_succ]
  go_wp2_with (at_builtin; refine wpList_append_own _ rfl (.tmp 14) (.tmp 20) 22 rfl base 5 i0 (.int .u8 0) 1 1 Try.underlying22 hi hz0 hz1 hz2 rfl (by decide) _ _ _ rfl (own2.alloc _) ⟨w2.heap.size, 0, none⟩ 1 1 [_] rfl rfl (cell_one_at rfl) (by simp [Value.oneCell']) (by unfold maxLen; omega) (by omega) (by simp; omega) ?_; intro v3 w3 own3 gr3 _; have B3 := (B2.alloc hb2 _).grown gr3 (by simp; omega) (fun k hk => (own2.lt k hk).1); have hb3 : base ≤ w3.heap.size := by { have := gr3.size; simp at this; omega })
  rw [rounds_succ]
  go_wp2_with (at_builtin; refine wpList_append_own _ rfl (.tmp 14) (.tmp 20) 22 rfl base 5 i0 (.int .u8 0) 1 1 Try.underlying22 hi hz0 hz1 hz2 rfl (by decide) _ _ _ rfl (own3.alloc _) ⟨w3.heap.size, 0, none⟩ 1 1 [_] rfl rfl (cell_one_at rfl) (by simp [Value.oneCell']) (by unfold maxLen; omega) (by omega) (by simp; omega) ?_; intro v4 w4 own4 gr4 _; have B4 := (B3.alloc hb3 _).grown gr4 (by simp; omega) (fun k hk => (own3.lt k hk).1); have hb4 : base ≤ w4.heap.size := by { have := gr4.size; simp at this; omega })
  rw [rounds_succ]
  go_wp2
  go_ret
  refine ⟨_, rfl, ?_, B4⟩
  have e : (l ++ be 4 n).map byteV = l.map byteV ++ [Value.int .u8 ((n : Int) / 16777216 % 256)] ++ [Value.int .u8 ((n : Int) / 65536 % 256)] ++ [Value.int .u8 ((n : Int) / 256 % 256)] ++ [Value.int .u8 ((n : Int) % 256)] := by simp [be, byteV, UInt8.toNat_ofNat']
  rw [e]
  exact own4
end Go.Proofs.Ytopemjbakpahfaa
/-
  The contracts of Frame, of the program and of the reference: for all bytes.
-/
namespace Go.Proofs.Ytopemjbakpahfaa
open Go.RowKit Crc
/-- Bytes in new memory, and an error's number. -/
def Framed (l : List UInt8) (w : World) (en : Ending) (w' : World) : Prop :=
  ∃ v, en = .returned (.tuple #[v, .int .i64 0]) ∧ w'.ownsRow w.heap.size 5 1 v (frame l).length ((frame l).map byteV) ∧ Below w.heap.size w w'
theorem frame_long (l : List UInt8) (a : Option Addr) (cap : Nat) (w : World) (hl : 4096 < l.length) (hl2 : (l.length : Int) ≤ 9223372036854775807) :
    Calls Try.prog 24 #[.slice a l.length cap] w fun en w' => en = .returned (.tuple #[.slice none 0 0, .int .i64 1]) ∧ w = w' := by
  have hl' : (4096 : Int) < (l.length : Int) := by omega
  go_enter Try.func24, Try.ntmps24
  go_wp2
  go_ret2
  exact ⟨rfl, rfl⟩
set_option maxHeartbeats 1000000 in
theorem frame_some (l : List UInt8) (ad : Addr) (cap : Nat) (w : World) (hl : l.length ≤ 4096) (hr : RB w (some ad) l) :
    Calls Try.prog 24 #[.slice (some ad) l.length cap] w (Framed l w) := by
  have hl' : ¬ (4096 : Int) < (l.length : Int) := by omega
  obtain ⟨i0, hi, hz0, hz1, hz2⟩ := info_parts info5
  have HR := Lib.hid hr
  clear hr
  have hsum := (sum l).isLt
  go_enter Try.func24, Try.ntmps24
  go_wp2_with fail
  refine (put2 _ [] l.length w.heap.size _ (by omega) (by simp) (World.ownsRow_nil _ _ _ _) (Nat.le_refl _)).mono ?_
  rintro en w1 ⟨v1, rfl, o1, b1⟩
  go_wp2_with fail
  refine (sum_any l _ _ _ (by omega) (HR.out.below b1)).mono ?_
  rintro en w1' ⟨rfl, rfl⟩
  go_wp2_with fail
  refine (put4 _ (be 2 l.length) (sum l).toNat w.heap.size _ (by omega) (by simp [be_length]) (by simpa [be_length] using o1) b1.size).mono ?_
  rintro en w2 ⟨v2, rfl, o2, b2⟩
  have b12 := b1.trans b2
  have o2' : w2.ownsRow w.heap.size 5 1 v2 6 ((head l).map byteV) := by simpa [be_length, head] using o2
  clear o1 o2 b1 b2
  go_wp2_with (at_builtin; refine wpList_append_own _ rfl (.tmp 17) (.tmp 18) 22 rfl w.heap.size 5 i0 (.int .u8 0) 1 1 Try.underlying22 hi hz0 hz1 hz2 rfl (by decide) _ 6 _ rfl o2' ad l.length cap (l.map byteV) rfl (by simp) ((HR.out.below b12).news) (oneCell_bytes l) (by unfold maxLen; omega) (by omega) b12.size ?_; intro v3 w3 o3 g3 _)
  go_ret2
  refine ⟨v3, rfl, ?_, b12.grown g3 b12.size (fun k hk => (o2'.lt k hk).1)⟩
  have e : (frame l).map byteV = (head l).map byteV ++ l.map byteV := by simp [frame]
  rw [e, frame_length, Nat.add_comm]
  exact o3
set_option maxHeartbeats 1000000 in
theorem frame_none (w : World) :
    Calls Try.prog 24 #[.slice none 0 0] w (Framed [] w) := by
  obtain ⟨i0, hi, hz0, hz1, hz2⟩ := info_parts info5
  have hsum := (sum []).isLt
  go_enter Try.func24, Try.ntmps24
  go_wp2_with fail
  refine (put2 _ [] 0 w.heap.size _ (by omega) (by simp) (World.ownsRow_nil _ _ _ _) (Nat.le_refl _)).mono ?_
  rintro en w1 ⟨v1, rfl, o1, b1⟩
  go_wp2_with fail
  refine (sum_any [] none 0 _ (by simp) (RB.nil _ _)).mono ?_
  rintro en w1' ⟨rfl, rfl⟩
  go_wp2_with fail
  refine (put4 _ (be 2 0) (sum []).toNat w.heap.size _ (by omega) (by simp [be_length]) (by simpa [be_length] using o1) b1.size).mono ?_
  rintro en w2 ⟨v2, rfl, o2, b2⟩
  have b12 := b1.trans b2
  have o2' : w2.ownsRow w.heap.size 5 1 v2 6 ((head []).map byteV) := by simpa [be_length, head] using o2
  clear o1 o2 b1 b2
  go_wp2_with (at_builtin; refine wpList_append_own_none rfl (.tmp 17) (.tmp 18) 22 rfl w.heap.size 5 i0 1 Try.underlying22 hi _ 6 _ rfl o2' rfl ?_)
  go_ret2
  exact ⟨v2, rfl, by simpa [frame, head_length] using o2', b12⟩
theorem owns_lit (w : World) {base n : Nat} {xs : Array Value} {t : TypeId} (hb : base ≤ w.heap.size) (hn : xs.size = n) (hm : n ≤ maxLen) : (w.alloc (.cells xs t)).ownsRow base t 1 (.slice (some ⟨w.heap.size, 0, none⟩) n n) n xs.toList := by
  subst hn
  exact ⟨by simp, .inr ⟨w.heap.size, xs.size, xs, rfl, hb, heap_alloc_new w _, Nat.le_refl _, hm, by simp, by rw [Nat.mul_one, ← Array.length_toList, List.take_length]⟩⟩
theorem rframe_long (l : List UInt8) (a : Option Addr) (cap : Nat) (w : World) (hl : 4096 < l.length) (hl2 : (l.length : Int) ≤ 9223372036854775807) :
    Calls Try.prog 25 #[.slice a l.length cap] w fun en w' => en = .returned (.tuple #[.slice none 0 0, .int .i64 1]) ∧ w = w' := by
  have hl' : (4096 : Int) < (l.length : Int) := by omega
  go_enter Try.func25, Try.ntmps25
  go_wp2
  go_ret2
  exact ⟨rfl, rfl⟩
theorem head_cells (l : List UInt8) (h : l.length ≤ 4096) : (head l).map byteV = [.int .u8 ((l.length : Int) / 256), .int .u8 ((l.length : Int) % 256), .int .u8 (((sum l).toNat : Int) / 16777216), .int .u8 (((sum l).toNat : Int) / 65536 % 256), .int .u8 (((sum l).toNat : Int) / 256 % 256), .int .u8 (((sum l).toNat : Int) % 256)] := by
  have h1 := (sum l).isLt
  simp only [head, be, List.map_cons, List.map_nil, byteV, UInt8.toNat_ofNat', List.cons_append, List.nil_append, List.cons.injEq, Value.int.injEq, true_and, and_true]
  refine ⟨?_, ?_, ?_, ?_, ?_, ?_⟩ <;> omega
set_option maxHeartbeats 1000000 in
theorem rframe_some (l : List UInt8) (ad : Addr) (cap : Nat) (w : World) (hl : l.length ≤ 4096) (hr : RB w (some ad) l) :
    Calls Try.prog 25 #[.slice (some ad) l.length cap] w (Framed l w) := by
  have hl' : ¬ (4096 : Int) < (l.length : Int) := by omega
  have hl0 : (0 : Int) ≤ (l.length : Int) := by omega
  obtain ⟨i0, hi, hz0, hz1, hz2⟩ := info_parts info5
  have HR := Lib.hid hr
  clear hr
  have hsum := (sum l).isLt
  have hs1 : ((sum l).toNat : Int) < 4294967296 := by omega
  have hs0 : (0 : Int) ≤ ((sum l).toNat : Int) := by omega
  have hc := Lib.hid (head_cells l hl)
  go_enter Try.func25, Try.ntmps25
  go_wp2_with fail
  refine (rsum_any l _ _ _ (by omega) HR.out).mono ?_
  rintro en w1 ⟨rfl, rfl⟩
  go_wp2_with (at_builtin; refine wpList_append_own _ rfl (.tmp 30) (.tmp 31) 22 rfl w.heap.size 5 i0 (.int .u8 0) 1 1 Try.underlying22 hi hz0 hz1 hz2 rfl (by decide) _ 6 _ rfl (owns_lit w (Nat.le_refl _) rfl (by unfold maxLen; omega)) ad l.length cap (l.map byteV) rfl (by simp) ((HR.out.alloc _).news) (oneCell_bytes l) (by unfold maxLen; omega) (by omega) (by simp) ?_; intro v3 w3 o3 g3 _)
  go_ret2
  refine ⟨v3, rfl, ?_, (below_alloc w _).grown g3 (by simp) (fun k hk => by cases hk; exact Nat.le_refl _)⟩
  have e : (frame l).map byteV = (head l).map byteV ++ l.map byteV := by simp [frame]
  rw [e, frame_length, Nat.add_comm, hc.out]
  exact o3
set_option maxHeartbeats 1000000 in
theorem rframe_none (w : World) :
    Calls Try.prog 25 #[.slice none 0 0] w (Framed [] w) := by
  obtain ⟨i0, hi, hz0, hz1, hz2⟩ := info_parts info5
  have hc := Lib.hid (head_cells [] (by simp))
  go_enter Try.func25, Try.ntmps25
  go_wp2_with fail
  refine (rsum_any [] none 0 _ (by simp) (RB.nil _ _)).mono ?_
  rintro en w1 ⟨rfl, rfl⟩
  have hsum := (sum []).isLt
  have hs1 : ((sum []).toNat : Int) < 4294967296 := by omega
  have hs0 : (0 : Int) ≤ ((sum []).toNat : Int) := by omega
  go_wp2_with (at_builtin; refine wpList_append_own_none rfl (.tmp 30) (.tmp 31) 22 rfl w.heap.size 5 i0 1 Try.underlying22 hi _ 6 _ rfl (owns_lit w (Nat.le_refl _) rfl (by unfold maxLen; omega)) rfl ?_)
  go_ret2
  refine ⟨_, rfl, ?_, below_alloc w _⟩
  have e : (frame []).map byteV = (head []).map byteV := by simp [frame]
  rw [e, hc.out]
  exact owns_lit w (Nat.le_refl _) rfl (by unfold maxLen; omega)
end Go.Proofs.Ytopemjbakpahfaa
