/-
  The device's Restart; whether a number is among numbers. No condition but that the device's numbers are small.
-/
import Derived.Test.YtopemjbakpahfaaDev4
namespace Go.Proofs.Ytopemjbakpahfaa
open Go.RowKit Disk
/-- The slice at a reads as these numbers. -/
def RI (w : World) (a : Option Addr) (l : List Int) : Prop :=
  ∀ i, i < l.length → ∃ g off, a = some ⟨g, off, none⟩ ∧ g < w.heap.size ∧ w.cell? ⟨g, off + i, none⟩ = some (.int .i64 (l.getD i 0))
theorem RI.below {w w1 : World} {a : Option Addr} {l : List Int} (h : RI w a l) (hb : Below w.heap.size w w1) : RI w1 a l := by
  intro i hi
  obtain ⟨g, off, e, hg, hc⟩ := h i hi
  exact ⟨g, off, e, Nat.lt_of_lt_of_le hg hb.size, (hb.cell (p := ⟨g, off + i, none⟩) hg).trans hc⟩
theorem mem_of_getD {l : List Int} {i : Nat} (h : i < l.length) : l.getD i 0 ∈ l := by
  have : l.getD i 0 = l[i] := by simp [List.getD, h]
  rw [this]; exact List.getElem_mem h
theorem index_any (l : List Int) (x : Int) (a : Option Addr) (cap : Nat) (w : World) (hl : (l.length : Int) ≤ 9223372036854775807) (hr : RI w a l) :
    Calls Try.prog 102 #[.slice a l.length cap, .int .i64 x] w fun en w' => (∃ r : Int, en = .returned (.int .i64 r) ∧ Hid (0 ≤ r ↔ x ∈ l)) ∧ w = w' := by
  have HR := Lib.hid hr
  clear hr
  go_enter Try.func102, Try.ntmps102
  go_wp2
  go_loop [8] (fun iv => ∃ k : Nat, iv = .int .i64 k ∧ k ≤ l.length ∧ ∀ j, j < k → l.getD j 0 ≠ x) (fun iv => l.length - (intOf iv).toNat)
  case atStart => exact ⟨0, rfl, Nat.zero_le _, fun j hj => absurd hj (Nat.not_lt_zero j)⟩
  case round =>
    obtain ⟨k, rfl, hk, hall⟩ := hrel
    have HA := Lib.hid hall
    clear hall
    by_cases hlt : k < l.length
    · have hk0 : (0 : Int) ≤ (k : Int) := by omega
      have hki : (k : Int) < (l.length : Int) := by omega
      obtain ⟨g, off, rfl, hg, hcell⟩ := HR.out k hlt
      have hyes : Hid (l.getD k 0 = x → x ∈ l) := fun e => by rw [← e]; exact mem_of_getD hlt
      have hnext : Hid (l.getD k 0 ≠ x → ∀ j, j < k + 1 → l.getD j 0 ≠ x) := fun hx j hj => by
        rcases Nat.lt_or_ge j k with h1 | h1
        · exact HA.out j h1
        · obtain rfl : j = k := by omega
          exact hx
      generalize l.getD k 0 = y at hcell hyes hnext
      cases hb : (x == y)
      · go_wp2
        go_round
        case rel => exact ⟨k + 1, rfl, hlt, hnext.out (fun e => by rw [e] at hb; simp at hb)⟩
        case measure => simp only [intOf]; omega
      · go_wp2
        go_ret
        have hm := hyes.out (by have := (beq_iff_eq.1 hb); exact this.symm)
        exact ⟨⟨_, rfl, ⟨fun _ => hm, fun _ => hk0⟩⟩, rfl⟩
    · have hki : ¬ (k : Int) < (l.length : Int) := by omega
      obtain rfl : k = l.length := by omega
      go_wp2
      go_ret
      refine ⟨⟨-1, rfl, ?_⟩, rfl⟩
      have hno : ¬ x ∈ l := by
        intro hx
        obtain ⟨j, hj, e⟩ := List.mem_iff_getElem.1 hx
        exact HA.out j hj (by simp [List.getD, hj, e])
      exact ⟨fun h => by omega, fun h => absurd h hno⟩
theorem contains_any (l : List Int) (x : Int) (a : Option Addr) (cap : Nat) (w : World) (hl : (l.length : Int) ≤ 9223372036854775807) (hr : RI w a l) :
    Calls Try.prog 89 #[.slice a l.length cap, .int .i64 x] w fun en w' => en = .returned (.bool (decide (x ∈ l))) ∧ w = w' := by
  go_enter Try.func89, Try.ntmps89
  go_wp2_with fail
  refine (index_any l x a cap _ hl hr).mono ?_
  rintro en w1 ⟨⟨r, rfl, hd⟩, rfl⟩
  go_wp2
  go_ret
  exact ⟨ret_bool (decide_eq_decide.2 hd.out), rfl⟩
theorem sel_snoc (keep : List Int) (p : Nat × List UInt8) : ∀ (l : List (Nat × List UInt8)) (k : Nat), sel keep k (l ++ [p]) = sel keep k l ++ (if ((k + l.length : Nat) : Int) ∈ keep then [p] else []) := by
  intro l
  induction l with
  | nil => intro k; simp [sel]
  | cons q l ih =>
    intro k
    rw [List.cons_append]
    unfold sel
    rw [ih (k + 1), List.length_cons, show k + 1 + l.length = k + (l.length + 1) by omega]
    split <;> rfl
theorem sel_take {keep : List Int} {l : List (Nat × List UInt8)} {i : Nat} {p : Nat × List UInt8} (h : l[i]? = some p) : sel keep 0 (l.take (i + 1)) = sel keep 0 (l.take i) ++ (if (i : Int) ∈ keep then [p] else []) := by
  have hl : i < l.length := (List.getElem?_eq_some_iff.1 h).1
  have : l[i] = p := by rw [List.getElem?_eq_getElem hl] at h; simpa using h
  rw [List.take_succ_eq_append_getElem hl, this, sel_snoc, List.length_take, Nat.zero_add, Nat.min_eq_left (by omega)]
theorem sel_len (keep : List Int) : ∀ (l : List (Nat × List UInt8)) (k : Nat), (sel keep k l).length ≤ l.length := by
  intro l
  induction l with
  | nil => intro k; simp [sel]
  | cons q l ih =>
    intro k
    unfold sel
    have := ih (k + 1)
    split <;> simp <;> omega
set_option maxRecDepth 100000 in
set_option maxHeartbeats 4000000 in
theorem restart_any {F : Nat → Prop} {w : World} {B : Nat} {d : Dev} (h : IsDev F w B d) (hp : d.pend.length ≤ 100000) (l : List Int) (a : Option Addr) (cap : Nat) (hl : (l.length : Int) ≤ 9223372036854775807)
    (hsrc : ∀ w', Frm F w w' → RI w' a l) :
    Calls Try.prog 37 #[.pointer (some ⟨B, 0, none⟩), .slice a l.length cap] w (DevOf F w B (d.restart l).1 (.int .i64 ((d.restart l).2 : Nat))) := by
  have hFl := h.lt
  have HOK := Lib.hid (restart_ok h.ok l)
  obtain ⟨K, vp, V1⟩ := h.v
  obtain ⟨ap, cp, rfl⟩ := pend_form V1.pend
  have hc1 : w.cell? ⟨B, 1, none⟩ = some (.slice ap d.pend.length cp) := Joins.cell_of_block V1.blk 1
  have h32 : ∀ p ∈ d.pend, p.1 < d.kept.length ∧ p.2.length = 32 := h.ok.2
  have VV := Lib.hid V1
  clear V1 h
  go_enter Try.func37, Try.ntmps37
  go_wp2_with fail
  go_loopw [5, 13] (fun cv iv wr => ∃ i : Nat, iv = .int .i64 i ∧ i ≤ d.pend.length ∧ cv = .int .i64 ((sel l 0 (d.pend.take i)).length : Nat) ∧ Frm F w wr ∧ DevV F wr B K (.slice ap d.pend.length cp) { d with kept := (sel l 0 (d.pend.take i)).foldl put d.kept }) (fun _ iv _ => d.pend.length - (intOf iv).toNat)
  case atStart => exact ⟨0, rfl, Nat.zero_le _, rfl, Frm.refl _ _, VV.out⟩
  case round =>
    obtain ⟨i, rfl, hi, rfl, hfr, hv⟩ := hrel
    have HF := Lib.hid hfr
    have HV := Lib.hid hv
    clear hfr hv
    have hsl := sel_len l (d.pend.take i) 0
    rw [List.length_take] at hsl
    by_cases hlt : i < d.pend.length
    · have hi0 : (0 : Int) ≤ (i : Int) := by omega
      have hii : (i : Int) < (d.pend.length : Int) := by omega
      obtain ⟨p, hpi⟩ : ∃ p, d.pend[i]? = some p := ⟨_, List.getElem?_eq_getElem hlt⟩
      have hpm := h32 p (List.mem_of_getElem? hpi)
      obtain ⟨g, c, e, hrg⟩ := pend_at HV.out.pend (fun q hq => (h32 q hq).2) hpi
      simp only [Value.slice.injEq] at e
      obtain ⟨rfl, _, rfl⟩ := e
      have hl33 : (pcells p).length = 33 := pcells_length hpm.2
      have hs33 : (pcells p).toArray.size = 33 := by rw [List.size_toArray, hl33]
      have RG := Lib.hid hrg
      have ST := Lib.hid (sel_take (keep := l) hpi)
      have fA : Frm F w (wr.alloc (.cells (pcells p).toArray 112)) := HF.out.trans (Frm.of_below (F := F) (below_alloc wr _)) (fun k hk => .inl hk)
      have FA := Lib.hid fA
      clear hrg fA
      go_wp2_with (first
        | (refine wpList_load_mid rfl 112 (.tmp 16) rfl g (i * 33) rfl (pcells p) _ RG.out Try.underlying112 rfl (by rw [hl33]; exact size112) ?_)
        | (refine wpList_store_new rfl 112 (.tmp 7) (.tmp 17) rfl _ (pcells p).toArray rfl rfl (by rw [hs33]; exact size112) (by rw [hs33]; rfl) (pcells_one _) ?_))
      refine (contains_any l (i : Int) a cap _ hl (hsrc _ FA.out)).mono ?_
      rintro en w1 ⟨rfl, rfl⟩
      by_cases hmem : (i : Int) ∈ l
      · rw [decide_eq_true hmem]
        go_wp2_with (refine wpList_load_mid rfl 112 (.tmp 7) rfl wr.heap.size 0 rfl (pcells p) _ (range_new wr (pcells p) 112) Try.underlying112 rfl (by rw [hl33]; exact size112) ?_)
        refine (keep_any (HV.out.below (below_alloc wr _)) p (by show p.1 < ((sel l 0 (d.pend.take i)).foldl put d.kept).length; rw [puts_length]; exact hpm.1) hpm.2).mono ?_
        rintro en w2 ⟨⟨v2, rfl⟩, f2, dv2⟩
        have F2 := Lib.hid (FA.out.trans f2 (fun k hk => .inl hk))
        have ST2 := ST.out
        rw [if_pos hmem] at ST2
        have V2 : Hid (DevV F w2 B K (.slice (some ⟨g, 0, none⟩) d.pend.length cp) { d with kept := (sel l 0 (d.pend.take (i + 1))).foldl put d.kept }) := by
          show DevV _ _ _ _ _ _
          rw [ST2, List.foldl_append]
          exact dv2
        have hln : Hid ((sel l 0 (d.pend.take (i + 1))).length = (sel l 0 (d.pend.take i)).length + 1) := by show _ = _; rw [ST2]; simp
        clear f2 dv2 ST2
        generalize (sel l 0 (d.pend.take i)).length = m at hsl hln
        go_wp2_with fail
        go_roundw
        case rel => exact ⟨i + 1, rfl, hlt, by rw [hln.out]; rfl, F2.out, V2.out⟩
        case measure => simp only [intOf]; omega
      · rw [decide_eq_false hmem]
        have ST2 := ST.out
        rw [if_neg hmem, List.append_nil] at ST2
        have V2 : Hid (DevV F (wr.alloc (.cells (pcells p).toArray 112)) B K (.slice (some ⟨g, 0, none⟩) d.pend.length cp) { d with kept := (sel l 0 (d.pend.take (i + 1))).foldl put d.kept }) := by
          show DevV _ _ _ _ _ _
          rw [ST2]
          exact HV.out.below (below_alloc wr _)
        have S2 := Lib.hid ST2
        clear ST2
        go_wp2_with fail
        go_roundw
        case rel => exact ⟨i + 1, rfl, hlt, by rw [S2.out], FA.out, V2.out⟩
        case measure => simp only [intOf]; omega
    · have hii : ¬ (i : Int) < (d.pend.length : Int) := by omega
      obtain rfl : i = d.pend.length := by omega
      have hv := HV.out
      rw [List.take_length] at hv ⊢
      have hb := hv.blk
      have c1 : wr.cell? ⟨B, 1, none⟩ = some (.slice ap d.pend.length cp) := Joins.cell_of_block hb 1
      have f1 : wr.frozen? ⟨B, 1, none⟩ = false := Joins.unfrozen_of_block hb 1
      have hb2 := Joins.block_setCell (i := 1) hb (.slice none 0 0)
      have c2 : (wr.setCell ⟨B, 1, none⟩ (.slice none 0 0)).cell? ⟨B, 2, none⟩ = some (.bool d.down) := Joins.cell_of_block hb2 2
      have f2 : (wr.setCell ⟨B, 1, none⟩ (.slice none 0 0)).frozen? ⟨B, 2, none⟩ = false := Joins.unfrozen_of_block hb2 2
      have hb3 := Joins.block_setCell (i := 2) hb2 (.bool false)
      have c3 : ((wr.setCell ⟨B, 1, none⟩ (.slice none 0 0)).setCell ⟨B, 2, none⟩ (.bool false)).cell? ⟨B, 3, none⟩ = some (.int .i64 (d.armed : Int)) := Joins.cell_of_block hb3 3
      have f3 : ((wr.setCell ⟨B, 1, none⟩ (.slice none 0 0)).setCell ⟨B, 2, none⟩ (.bool false)).frozen? ⟨B, 3, none⟩ = false := Joins.unfrozen_of_block hb3 3
      have fin : ∀ v, v = Value.int .i64 ((d.restart l).2 : Nat) → DevOf F w B (d.restart l).1 (.int .i64 ((d.restart l).2 : Nat)) (.returned v) (((wr.setCell ⟨B, 1, none⟩ (.slice none 0 0)).setCell ⟨B, 2, none⟩ (.bool false)).setCell ⟨B, 3, none⟩ (.int .i64 0)) := by
        intro v hv'
        have hfr2 : Frm F w (((wr.setCell ⟨B, 1, none⟩ (.slice none 0 0)).setCell ⟨B, 2, none⟩ (.bool false)).setCell ⟨B, 3, none⟩ (.int .i64 0)) := ((HF.out.trans (Frm.setCell wr 1 _ hv.f) (fun k hk => .inl hk)).trans (Frm.setCell _ 2 _ hv.f) (fun k hk => .inl hk)).trans (Frm.setCell _ 3 _ hv.f) (fun k hk => .inl hk)
        refine ⟨by rw [hv'], hfr2, ?_⟩
        have hp0 : Pend F wr (.slice none 0 0) [] := ⟨World.ownsRow_nil _ _ _ _, fun k hk => by simp [Value.ownBlock] at hk⟩
        have h1 := dev_set (e := { d with kept := (sel l 0 d.pend).foldl put d.kept, pend := [] }) hb hv.kept hp0 1 (.slice none 0 0) (by simp [dcells]) rfl hv.f HOK.out hv.arm hv.lt
        obtain ⟨⟨K1, vp1, hb1, hk1, hp1⟩, ho1, hf1, ha1, hl1⟩ := h1
        have h2 := dev_set (e := { d with kept := (sel l 0 d.pend).foldl put d.kept, pend := [], down := false }) hb1 hk1 hp1 2 (.bool false) (by simp [dcells]) rfl hf1 HOK.out ha1 hl1
        obtain ⟨⟨K2, vp2, hb2, hk2, hp2⟩, ho2, hf2, ha2, hl2⟩ := h2
        have h3 := dev_set (e := (d.restart l).1) hb2 hk2 hp2 3 (.int .i64 0) (by simp [dcells, Dev.restart]) rfl hf2 HOK.out (by show 0 ≤ _; omega) hl2
        exact h3.grow hFl hfr2.size
      have FN := Lib.hid fin
      clear fin hb hb2 hb3 hv
      go_wp2
      go_ret
      exact FN.out _ rfl
end Go.Proofs.Ytopemjbakpahfaa
