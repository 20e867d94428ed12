/-
  The device's Sync. No condition but that the device's numbers are small.
-/
import Derived.Test.YtopemjbakpahfaaDev3
namespace Go.Proofs.Ytopemjbakpahfaa
open Go.RowKit Disk
theorem flat_at : ∀ (ps : List (Nat × List UInt8)), (∀ p ∈ ps, p.2.length = 32) → ∀ (i j : Nat) (p : Nat × List UInt8), ps[i]? = some p → j < 33 → (ps.flatMap pcells)[i * 33 + j]? = (pcells p)[j]? := by
  intro ps
  induction ps with
  | nil => intro _ i j p h; simp at h
  | cons x ps ih =>
    intro h i j p hp hj
    have hx := pcells_length (h x (by simp))
    rw [List.flatMap_cons]
    cases i with
    | zero =>
      simp at hp
      subst hp
      rw [Nat.zero_mul, Nat.zero_add, List.getElem?_append_left (by omega)]
    | succ i =>
      simp at hp
      rw [List.getElem?_append_right (by omega), hx, show (i + 1) * 33 + j - 33 = i * 33 + j by omega]
      exact ih (fun q hq => h q (by simp [hq])) i j p hp hj
/-- A pending write, as it lies in its row. -/
theorem pend_at {F : Nat → Prop} {w : World} {vp : Value} {ps : List (Nat × List UInt8)} (h : Pend F w vp ps) (h32 : ∀ p ∈ ps, p.2.length = 32) {i : Nat} {p : Nat × List UInt8} (hi : ps[i]? = some p) :
    ∃ g c, vp = .slice (some ⟨g, 0, none⟩) ps.length c ∧ w.rangeAt g (i * 33) (pcells p) := by
  have hl : i < ps.length := (List.getElem?_eq_some_iff.1 hi).1
  have hp := pcells_length (h32 p (List.mem_of_getElem? hi))
  rcases h.own.2 with ⟨_, h0⟩ | ⟨g, cap, cur, rfl, _⟩
  · omega
  · refine ⟨g, cap, rfl, fun j v hv => ?_⟩
    have hj : j < 33 := by have := (List.getElem?_eq_some_iff.1 hv).1; omega
    have := h.own.cells (g := g) rfl (i * 33 + j) v (by rw [flat_at ps h32 i j p hi hj]; exact hv)
    rw [Addr.add_mid, Nat.zero_add] at this
    exact this
theorem DevV.below {F : Nat → Prop} {A B : World} {b K : Nat} {vp : Value} {d : Dev} (h : DevV F A b K vp d) (hb : Below A.heap.size A B) : DevV F B b K vp d :=
  ⟨(hb.block b (h.lt b h.f)).trans h.blk, h.kept.same (hb.block K h.kept.typ.lt) h.kept.f, h.pend.same (fun k hk => hb.block k (h.pend.own.lt k hk).2) (fun _ h => h), h.ok, h.f, h.arm, fun k hk => Nat.lt_of_lt_of_le (h.lt k hk) hb.size⟩
theorem foldl_snoc {α β : Type} (f : β → α → β) (b : β) (l : List α) (i : Nat) (x : α) (h : l[i]? = some x) : (l.take (i + 1)).foldl f b = f ((l.take i).foldl f b) x := by
  have hl : i < l.length := (List.getElem?_eq_some_iff.1 h).1
  rw [List.take_succ_eq_append_getElem hl, List.foldl_append]
  have : l[i] = x := by rw [List.getElem?_eq_getElem hl] at h; simpa using h
  rw [this]; rfl
set_option maxRecDepth 100000 in
set_option maxHeartbeats 4000000 in
theorem sync_any {F : Nat → Prop} {w : World} {B : Nat} {d : Dev} (h : IsDev F w B d) (hp : d.pend.length ≤ 100000) (hy : d.syncs ≤ 100000) :
    Calls Try.prog 35 #[.pointer (some ⟨B, 0, none⟩)] w (DevOf F w B d.sync.1 (.int .i64 d.sync.2)) := by
  have hFl := h.lt
  obtain ⟨r, hr0⟩ : ∃ r, d.sync = r := ⟨_, rfl⟩
  have HOK0 := sync_ok h.ok
  rw [hr0] at HOK0 ⊢
  have HOK := Lib.hid HOK0
  clear HOK0
  obtain ⟨K0, vp0, hv⟩ := h.v
  have c2 : w.cell? ⟨B, 2, none⟩ = some (.bool d.down) := Joins.cell_of_block hv.blk 2
  clear hv
  go_enter Try.func35, Try.ntmps35
  cases hd : d.down
  rotate_left
  · obtain rfl : r = (d, 14) := by rw [← hr0]; unfold Dev.sync; rw [if_pos hd]
    rw [hd] at c2
    go_wp2
    go_ret
    exact ⟨rfl, Frm.refl _ _, h.grow hFl (Nat.le_refl _)⟩
  rw [hd] at c2
  go_wp2_with fail
  refine (stops_any h).mono ?_
  rintro en w1 ⟨rfl, f1, d1⟩
  by_cases h3 : d.armed = 1
  · obtain rfl : r = (d.step, 14) := by rw [← hr0]; unfold Dev.sync; rw [if_neg (by rw [hd]; simp), if_pos h3]
    rw [decide_eq_true h3]
    go_wp2
    go_ret
    exact ⟨rfl, f1, d1.grow hFl f1.size⟩
  obtain rfl : r = ({ d.step with kept := d.pend.foldl put d.kept, pend := [], syncs := d.syncs + 1 }, 0) := by rw [← hr0]; unfold Dev.sync; rw [if_neg (by rw [hd]; simp), if_neg h3]
  rw [decide_eq_false h3]
  clear hr0 c2
  obtain ⟨K, vp, V1⟩ := d1.v
  obtain ⟨ap, cp, rfl⟩ := pend_form V1.pend
  have hc1 : w1.cell? ⟨B, 1, none⟩ = some (.slice ap d.step.pend.length cp) := Joins.cell_of_block V1.blk 1
  have hpl : d.step.pend.length ≤ 100000 := hp
  have h32 : ∀ p ∈ d.step.pend, p.1 < d.kept.length ∧ p.2.length = 32 := h.ok.2
  have F1 := Lib.hid f1
  have VV := Lib.hid V1
  clear V1 f1 d1
  go_wp2_with fail
  go_loopw [18] (fun iv wr => ∃ i : Nat, iv = .int .i64 i ∧ i ≤ d.step.pend.length ∧ Frm F w wr ∧ DevV F wr B K (.slice ap d.step.pend.length cp) { d.step with kept := (d.step.pend.take i).foldl put d.kept }) (fun iv _ => d.step.pend.length - (intOf iv).toNat)
  case atStart => exact ⟨0, rfl, Nat.zero_le _, F1.out, VV.out⟩
  case round =>
    obtain ⟨i, rfl, hi, hfr, hv⟩ := hrel
    have HF := Lib.hid hfr
    have HV := Lib.hid hv
    clear hfr hv
    by_cases hlt : i < d.step.pend.length
    · have hi0 : (0 : Int) ≤ (i : Int) := by omega
      have hii : (i : Int) < (d.step.pend.length : Int) := by omega
      obtain ⟨p, hpi⟩ : ∃ p, d.step.pend[i]? = some p := ⟨_, List.getElem?_eq_getElem hlt⟩
      have hpm := h32 p (List.mem_of_getElem? hpi)
      obtain ⟨g, c, e, hrg⟩ := pend_at HV.out.pend (fun q hq => (h32 q hq).2) hpi
      simp only [Value.slice.injEq] at e
      obtain ⟨rfl, _, rfl⟩ := e
      have hl33 : (pcells p).length = 33 := pcells_length hpm.2
      have hs33 : (pcells p).toArray.size = 33 := by rw [List.size_toArray, hl33]
      have RG := Lib.hid hrg
      clear hrg
      go_wp2_with (first
        | ((refine wpList_load_mid rfl 112 (.tmp 20) rfl g (i * 33) rfl (pcells p) _ RG.out Try.underlying112 rfl (by rw [hl33]; exact size112) ?_))
        | ((refine wpList_store_new rfl 112 (.tmp 4) (.tmp 21) rfl _ (pcells p).toArray rfl rfl (by rw [hs33]; exact size112) (by rw [hs33]; rfl) (pcells_one _) ?_))
        | ((refine wpList_load_mid rfl 112 (.tmp 4) rfl wr.heap.size 0 rfl (pcells p) _ (range_new wr (pcells p) 112) Try.underlying112 rfl (by rw [hl33]; exact size112) ?_)))
      refine (keep_any (HV.out.below (below_alloc wr _)) p (by show p.1 < ((d.step.pend.take i).foldl put d.kept).length; rw [puts_length]; exact hpm.1) hpm.2).mono ?_
      rintro en w2 ⟨⟨v2, rfl⟩, f2, dv2⟩
      have F2 := Lib.hid ((HF.out.trans (Frm.of_below (F := F) (below_alloc wr _)) (fun k hk => .inl hk)).trans f2 (fun k hk => .inl hk))
      have V2 : Hid (DevV F w2 B K (.slice (some ⟨g, 0, none⟩) d.step.pend.length cp) { d.step with kept := (d.step.pend.take (i + 1)).foldl put d.kept }) := by
        show DevV _ _ _ _ _ _
        rw [foldl_snoc put d.kept d.step.pend i p hpi]
        exact dv2
      clear f2 dv2
      go_wp2_with fail
      go_roundw
      case rel => exact ⟨i + 1, rfl, hlt, F2.out, V2.out⟩
      case measure => simp only [intOf]; omega
    · have hii : ¬ (i : Int) < (d.step.pend.length : Int) := by omega
      obtain rfl : i = d.step.pend.length := by omega
      have hv := HV.out
      rw [List.take_length] at hv
      have hb := hv.blk
      have hc1 : wr.cell? ⟨B, 1, none⟩ = some (.slice ap d.step.pend.length cp) := Joins.cell_of_block hb 1
      have hf1 : wr.frozen? ⟨B, 1, none⟩ = false := Joins.unfrozen_of_block hb 1
      have hb2 := Joins.block_setCell (i := 1) hb (.slice none 0 0)
      have hc5 : (wr.setCell ⟨B, 1, none⟩ (.slice none 0 0)).cell? ⟨B, 5, none⟩ = some (.int .i64 (d.syncs : Int)) := Joins.cell_of_block hb2 5
      have hf5 : (wr.setCell ⟨B, 1, none⟩ (.slice none 0 0)).frozen? ⟨B, 5, none⟩ = false := Joins.unfrozen_of_block hb2 5
      have hyi : (d.syncs : Int) ≤ 100000 := by omega
      have hy0 : (0 : Int) ≤ (d.syncs : Int) := by omega
      have fin : ∀ v, v = Value.int .i64 0 → DevOf F w B { d.step with kept := d.pend.foldl put d.kept, pend := [], syncs := d.syncs + 1 } (.int .i64 0) (.returned v) ((wr.setCell ⟨B, 1, none⟩ (.slice none 0 0)).setCell ⟨B, 5, none⟩ (.int .i64 ((d.syncs + 1 : Nat) : Int))) := by
        intro v hv'
        have hfr2 : Frm F w ((wr.setCell ⟨B, 1, none⟩ (.slice none 0 0)).setCell ⟨B, 5, none⟩ (.int .i64 ((d.syncs + 1 : Nat) : Int))) := (HF.out.trans (Frm.setCell wr 1 _ hv.f) (fun k hk => .inl hk)).trans (Frm.setCell _ 5 _ hv.f) (fun k hk => .inl hk)
        refine ⟨by rw [hv'], hfr2, ?_⟩
        have hp0 : Pend F wr (.slice none 0 0) [] := ⟨World.ownsRow_nil _ _ _ _, fun k hk => by simp [Value.ownBlock] at hk⟩
        have h1 := dev_set (e := { d.step with kept := d.pend.foldl put d.kept, pend := [] }) hb hv.kept hp0 1 (.slice none 0 0) (by simp [dcells]; rfl) rfl hv.f HOK.out hv.arm hv.lt
        obtain ⟨⟨K1, vp1, hb1, hk1, hp1⟩, ho1, hf1, ha1, hl1⟩ := h1
        have h2 := dev_set (e := { d.step with kept := d.pend.foldl put d.kept, pend := [], syncs := d.syncs + 1 }) hb1 hk1 hp1 5 (.int .i64 ((d.syncs + 1 : Nat) : Int)) (by simp [dcells]) rfl hf1 HOK.out ha1 hl1
        exact h2.grow hFl hfr2.size
      have FN := Lib.hid fin
      clear fin hb hb2 hv
      go_wp2
      go_ret
      exact FN.out _ rfl
end Go.Proofs.Ytopemjbakpahfaa
