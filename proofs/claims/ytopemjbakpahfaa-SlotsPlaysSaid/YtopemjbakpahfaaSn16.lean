/-
  Contracts and plain laws, part 16 (texts: Ref2). No condition but what each states.
-/
import Derived.Test.YtopemjbakpahfaaSn15
/-
  The reference's Write: for every place and all bytes. No condition but that its numbers are small.
-/
namespace Go.Proofs.Ytopemjbakpahfaa
open Go.RowKit Disk
theorem info117 : (Try.prog.info? 117).map (fun i => (i.zero, i.size, i.bytes)) = some (some (.agg #[.int .i64 0, .slice none 0 0]), 2, 32) := by kernel_rfl
theorem wcells_snoc : ∀ (ps : List (Nat × List UInt8)) (us : List Value) (p : Nat × List UInt8) (u : Value), us.length = ps.length → wcells (ps ++ [p]) (us ++ [u]) = wcells ps us ++ [.int .i64 (p.1 : Int), u] := by
  intro ps
  induction ps with
  | nil => intro us p u h; cases us with
    | nil => rfl
    | cons v us => simp at h
  | cons q ps ih =>
    intro us p u h
    cases us with
    | nil => simp at h
    | cons v us =>
      simp at h
      show _ :: _ :: wcells (ps ++ [p]) (us ++ [u]) = _ :: _ :: (wcells ps us ++ _)
      rw [ih us p u h]
/-- A pending write appended to those of the device. -/
theorem app_wait {w : World} {ops : Array Oper} {rest : List Oper} {o : Oper} {a : Act} {Q : Exit → Act → World → Prop} (hgd : o.guard = none) (s x : Operand) (ho : o.op = .call { callee := .builtin .append, args := #[s, x], argTypes := #[57, 57] })
    (v : Value) (n : Nat) (xs : List Value) (k : Int) (u : Value) (g : Nat) (hs : a.eval s = v) (hown : w.ownsRow 0 117 2 v n xs) (hx : a.eval x = .slice (some ⟨g, 0, none⟩) 1 1)
    (h0 : w.cell? ⟨g, 0, none⟩ = some (.int .i64 k)) (h1 : w.cell? ⟨g, 1, none⟩ = some u) (hu : u.oneCell' = true) (hb : n ≤ 1000000000)
    (hK : ∀ v' w', w'.ownsRow 0 117 2 v' (n + 1) (xs ++ [.int .i64 k, u]) → w.grownBy w' v.ownBlock → (v'.ownBlock = v.ownBlock ∨ v'.ownBlock = some w.heap.size) → wpList Try.prog ops Q rest (a.put o.dst v') w') : wpList Try.prog ops Q (o :: rest) a w := by
  obtain ⟨i0, hi, hz0, hz1, hz2⟩ := info_parts info117
  obtain ⟨v', w', hrun, own', g', _, r3⟩ := run_append_own_at (P := Try.prog) w 0 57 o.type 117 i0 (.agg #[.int .i64 0, .slice none 0 0]) 2 32 Try.underlying57 hi hz0 hz1 hz2 rfl (by decide) v n _ hown ⟨g, 0, none⟩ 1 1 [.int .i64 k, u] rfl (by
    intro j u' hu'
    match j with
    | 0 => simp only [List.getElem?_cons_zero, Option.some.injEq] at hu'; subst hu'; rw [Addr.add_lit]; exact h0
    | 1 => simp only [List.getElem?_cons_succ, List.getElem?_cons_zero, Option.some.injEq] at hu'; subst hu'; rw [Addr.add_lit]; exact h1
    | j + 2 => simp at hu') (by
    intro u' hu'
    simp at hu'
    rcases hu' with rfl | rfl
    · rfl
    · exact hu) (by unfold maxLen; omega) (by omega) (Nat.zero_le _)
  exact Lib.wpList_append_run w hgd s x 57 57 ho v _ hs hx v' w' hrun (hK v' w' own' g' r3)
theorem Row5.other {F G : Nat → Prop} {A B : World} {v : Value} {l : List UInt8} {row : Option Nat} {t : TypeId} (h : Row5 F A v l) (hg : A.grownBy B row) (hr : RowOf A row t) (ht : t ≠ 5) (hG : ∀ k, F k → G k) : Row5 G B v l := by
  obtain ⟨g, h1, h2, h3⟩ := h
  refine ⟨g, h1, hG g h2, (hg.block g (Array.getElem?_eq_some_iff.1 h3).1 (fun e => ?_)).trans h3⟩
  obtain ⟨cs, fr, h4⟩ := hr g e.symm
  rw [h3] at h4
  simp at h4
  exact ht h4.2.1.symm
theorem RKept.other {F G : Nat → Prop} {A B : World} {v : Value} {l : List (List UInt8)} {row : Option Nat} {t : TypeId} (h : RKept F A v l) (hg : A.grownBy B row) (hr : RowOf A row t) (h5 : t ≠ 5) (h22 : t ≠ 22) (hG : ∀ k, F k → G k) : RKept G B v l := by
  obtain ⟨⟨vs, h1, h2⟩, h3⟩ := h
  exact ⟨⟨vs, owns_other h1 hg hr h22, fun i hi => by obtain ⟨u, e1, e2⟩ := h2 i hi; exact ⟨u, e1, e2.other hg hr h5 hG⟩⟩, fun k hk => hG k (h3 k hk)⟩
theorem RWait.other {F G : Nat → Prop} {A B : World} {v : Value} {ps : List (Nat × List UInt8)} {row : Option Nat} {t : TypeId} (h : RWait F A v ps) (hg : A.grownBy B row) (hr : RowOf A row t) (h5 : t ≠ 5) (h117 : t ≠ 117) (hG : ∀ k, F k → G k) : RWait G B v ps := by
  obtain ⟨⟨us, h0, h1, h2⟩, h3⟩ := h
  exact ⟨⟨us, h0, owns_other h1 hg hr h117, fun i p hi => by obtain ⟨u, e1, e2⟩ := h2 i p hi; exact ⟨u, e1, e2.other hg hr h5 hG⟩⟩, fun k hk => hG k (h3 k hk)⟩
/-- The first bytes laid over noughts. -/
def fillB (b : List UInt8) (i : Nat) : List UInt8 := b.take i ++ List.replicate (32 - i) 0
theorem fillB_zero (b : List UInt8) : fillB b 0 = zero32 := by simp [fillB, zero32]
theorem fillB_all (b : List UInt8) : fillB b b.length = pad b := by simp [fillB, pad]
theorem fillB_succ (b : List UInt8) (i : Nat) (h : i < b.length) (h32 : i < 32) : (((fillB b i).map byteV).toArray).setIfInBounds i (byteV (b.getD i 0)) = ((fillB b (i + 1)).map byteV).toArray := by
  have ht : (b.take i).length = i := by simp; omega
  rw [List.setIfInBounds_toArray]
  congr 1
  unfold fillB
  rw [show 32 - i = (32 - (i + 1)) + 1 by omega, List.replicate_succ, List.map_append, List.map_cons, List.set_append_right _ _ (by rw [List.length_map]; omega), List.length_map, ht, Nat.sub_self, List.set_cons_zero, take_snoc b i 0 h, List.append_assoc, List.map_append]
  rfl
set_option maxRecDepth 100000 in
set_option maxHeartbeats 4000000 in
theorem rwrite_any {F : Nat → Prop} {w : World} {B : Nat} {d : Dev} (h : IsRef F w B d) (k : Int) (b : List UInt8) (a : Option Addr) (cap : Nat) (hb : (b.length : Int) ≤ 9223372036854775807)
    (hsrc : ∀ w', Frm F w w' → RB w' a b) (hp : d.pend.length ≤ 100000) (hw : d.writes ≤ 100000) :
    Calls Try.prog 81 #[.pointer (some ⟨B, 0, none⟩), .int .i64 k, .slice a b.length cap] w (RefOf F w B (d.write k b).1 (.int .i64 (d.write k b).2)) := by
  have HH := Lib.hid h
  have hFl := h.lt
  have HOK := Lib.hid (write_ok h.ok k b)
  obtain ⟨r, hr0⟩ : ∃ r, d.write k b = r := ⟨_, rfl⟩
  rw [hr0] at HOK ⊢
  have HR := Lib.hid hr0
  clear hr0
  obtain ⟨vk, vw, hv⟩ := h
  have c2 : w.cell? ⟨B, 2, none⟩ = some (.bool d.down) := Joins.cell_of_block hv.blk 2
  clear hv
  cases hd : d.down
  rotate_left
  · obtain rfl : r = (d, 14) := by rw [← HR.out, write_down hd]
    rw [hd] at c2
    go_enter Try.func81, Try.ntmps81
    go_wp2
    go_ret
    exact RefOf.same HH.out (Below.refl _ _)
  rw [hd] at c2
  have hask := there_ask (k := k) hd
  have HD := Lib.hid hd
  cases ht : thereB d k
  · obtain rfl : r = (d, 1) := by rw [← HR.out]; unfold Dev.write; rw [hask, ht]; rfl
    clear hask hd
    go_enter Try.func81, Try.ntmps81
    go_wp2_with (go_at_call 90; refine (there_any HH.out k).mono ?_; rw [ht]; rintro en w1 ⟨rfl, rfl⟩)
    go_ret
    exact RefOf.same HH.out (Below.refl _ _)
  have hask0 : d.ask k = 0 := by rw [hask, ht]; rfl
  have hkk : 0 ≤ k ∧ k < (d.kept.length : Int) := by unfold thereB at ht; simp at ht; exact ht
  by_cases h32 : 32 < (b.length : Int)
  · obtain rfl : r = (d, 1) := by rw [← HR.out]; unfold Dev.write; rw [hask0, if_neg (by simp), if_pos (by omega)]
    clear hask hd hask0
    go_enter Try.func81, Try.ntmps81
    go_wp2_with (go_at_call 90; refine (there_any HH.out k).mono ?_; rw [ht]; rintro en w1 ⟨rfl, rfl⟩)
    go_ret
    exact RefOf.same HH.out (Below.refl _ _)
  obtain ⟨q, rfl⟩ : ∃ q : Nat, k = (q : Int) := ⟨k.toNat, by omega⟩
  by_cases h1 : d.armed = 1
  · obtain rfl : r = (d.step, 14) := by rw [← HR.out]; exact write_stop_at hd (by omega) (by omega) (by omega) h1
    have D1 : decide (d.armed = 1) = true := decide_eq_true h1
    clear hask hd hask0
    go_enter Try.func81, Try.ntmps81
    go_wp2_with (go_at_call 90; refine (there_any HH.out (q : Int)).mono ?_; rw [ht]; rintro en w1 ⟨rfl, rfl⟩)
    refine (rstops_any HH.out HD.out).mono ?_
    rintro en w1 ⟨rfl, f1, r1⟩
    rw [D1]
    have F1 := Lib.hid f1
    clear f1
    go_wp2
    go_ret
    exact ⟨rfl, F1.out, r1.grow hFl F1.out.size⟩
  obtain rfl : r = ({ d.step with pend := d.pend ++ [(q, pad b)], writes := d.writes + 1 }, 0) := by rw [← HR.out, write_ok_at hd (by omega) (by omega) (by omega) h1, Int.toNat_natCast]
  have D1 : decide (d.armed = 1) = false := decide_eq_false h1
  clear hask hd hask0 HR h1
  go_enter Try.func81, Try.ntmps81
  go_wp2_with (go_at_call 90; refine (there_any HH.out (q : Int)).mono ?_; rw [ht]; rintro en w1 ⟨rfl, rfl⟩)
  refine (rstops_any HH.out HD.out).mono ?_
  rintro en w1 ⟨rfl, f1, r1⟩
  rw [D1]
  have hmk : (Instr.makeSlice 22 (.int .i64 32) (.int .i64 32)).run Try.prog w1 = .ok (.slice (some ⟨w1.heap.size, 0, none⟩) 32 32) (w1.alloc (.cells (zero32.map byteV).toArray 5)) := run_make_bytes w1 32 (by decide)
  have R1 := Lib.hid r1
  have F1 := Lib.hid f1
  clear r1 f1 D1 ht HD
  go_wp2_with fail
  go_loopw [8] (fun iv wr => ∃ i : Nat, iv = .int .i64 i ∧ i ≤ b.length ∧ wr.heap[w1.heap.size]? = some (.cells ((fillB b i).map byteV).toArray 5 (0, 0)) ∧ Below w1.heap.size w1 wr) (fun iv _ => b.length - (intOf iv).toNat)
  case atStart => exact ⟨0, rfl, Nat.zero_le _, by rw [fillB_zero]; exact heap_alloc_new w1 _, below_alloc w1 _⟩
  case round =>
    obtain ⟨i, rfl, hi, hblk, hbl⟩ := hrel
    have hbi : (b.length : Int) ≤ 32 := by omega
    have BL := Lib.hid hbl
    by_cases hlt : i < b.length
    · have hi0 : (0 : Int) ≤ (i : Int) := by omega
      have hii : (i : Int) < (b.length : Int) := by omega
      have fw : Frm F w wr := F1.out.trans (Frm.of_below (F := F) hbl) (fun k hk => .inl hk)
      obtain ⟨gb, ob, rfl, _, eb⟩ := hsrc wr fw i hlt
      have hlen : (fillB b i).length = 32 := by simp [fillB]; omega
      have cx : ∃ u, wr.cell? ⟨w1.heap.size, i, none⟩ = some u := by
        refine ⟨byteV ((fillB b i).getD i 0), ?_⟩
        rw [Joins.cell_of_block hblk i]
        simp [List.getD, show i < (fillB b i).length by omega]
      obtain ⟨u, cx⟩ := cx
      have fx : wr.frozen? ⟨w1.heap.size, i, none⟩ = false := Joins.unfrozen_of_block hblk i
      have nb := Joins.block_setCell (i := i) hblk (byteV (b.getD i 0))
      rw [fillB_succ b i hlt (by omega)] at nb
      have NB := Lib.hid nb
      have NBB := Lib.hid (hbl.setCell (p := ⟨w1.heap.size, i, none⟩) (Nat.le_refl _) (byteV (b.getD i 0)))
      clear hblk hbl nb fw
      unfold byteV at eb NB NBB
      generalize b.getD i 0 = y at eb NB NBB
      go_wp2
      go_roundw
      case rel => exact ⟨i + 1, rfl, hlt, NB.out, NBB.out⟩
      case measure => simp only [intOf]; omega
    · have hii : ¬ (i : Int) < (b.length : Int) := by omega
      obtain rfl : i = b.length := by omega
      rw [fillB_all] at hblk
      have hpl : (pad b).length = 32 := pad_length (by omega)
      have r2 := R1.out.below hbl
      obtain ⟨vk, vw, hv⟩ := r2
      have cw1 : wr.cell? ⟨B, 1, none⟩ = some vw := Joins.cell_of_block hv.blk 1
      obtain ⟨us, hul, hown, hus⟩ := hv.wait.ex
      have hBl : B < wr.heap.size := hv.lt B hv.f
      have FW := Lib.hid (F1.out.trans (Frm.of_below (F := F) hbl) (fun k hk => .inl hk))
      have HB := Lib.hid hblk
      have HV := Lib.hid hv
      have HU := Lib.hid hus
      have hp' : d.step.pend.length ≤ 100000 := hp
      have hsW := F1.out.size
      have hgx : w1.heap.size < wr.heap.size := (Array.getElem?_eq_some_iff.1 hblk).1
      clear hblk hv hus hbl
      have fin : ∀ (v5 : Value) (w5 : World), w5.ownsRow 0 117 2 v5 (d.step.pend.length + 1) (wcells d.step.pend us ++ [.int .i64 (q : Int), .slice (some ⟨w1.heap.size, 0, none⟩) 32 32]) → (wr.alloc (.cells #[.int .i64 (q : Int), .slice (some ⟨w1.heap.size, 0, none⟩) 32 32] 117)).grownBy w5 vw.ownBlock → (v5.ownBlock = vw.ownBlock ∨ v5.ownBlock = some (wr.heap.size + 1)) →
          w5.heap[B]? = some (.cells (rcells d.step vk vw) 59 (0, 0)) ∧ (∀ x : Int, x = ((d.writes + 1 : Nat) : Int) → RefOf F w B { d.step with pend := d.pend ++ [(q, pad b)], writes := d.writes + 1 } (.int .i64 0) (.returned (.int .i64 0)) ((w5.setCell ⟨B, 1, none⟩ v5).setCell ⟨B, 4, none⟩ (.int .i64 x))) := by
        intro v5 w5 o5 g5 r5
        have hv := HV.out
        have ga : wr.grownBy w5 vw.ownBlock := (World.grownBy_alloc wr _ vw.ownBlock).trans g5
        have hro := rowOf_owns hown
        have hs5 := ga.size
        have hb5 : w5.heap[B]? = some (.cells (rcells d.step vk vw) 59 (0, 0)) := (ga.block B hBl (fun e => row_apart hv.blk hown (by decide) B e.symm rfl)).trans hv.blk
        refine ⟨hb5, fun x hx => ?_⟩
        have hG : ∀ k, F k → Grow F w w5 k := fun k hk => .inl hk
        have hx5 : w5.heap[w1.heap.size]? = some (.cells ((pad b).map byteV).toArray 5 (0, 0)) := (ga.block _ hgx (fun e => by
          obtain ⟨cs, fr, h4⟩ := hro _ e.symm
          rw [HB.out] at h4; simp at h4)).trans HB.out
        have hl5 : ∀ k, Grow F w w5 k → k < w5.heap.size := fun k hk => hk.elim (fun h1 => by have := hFl k h1; have := F1.out.size; omega) (fun h1 => h1.2)
        have hwt : RWait (Grow F w w5) w5 v5 (d.pend ++ [(q, pad b)]) := by
          refine ⟨⟨us ++ [.slice (some ⟨w1.heap.size, 0, none⟩) 32 32], by simp [hul, Dev.step], ?_, fun i p hip => ?_⟩, fun k hk => ?_⟩
          · rw [List.length_append, wcells_snoc d.pend us (q, pad b) (.slice (some ⟨w1.heap.size, 0, none⟩) 32 32) hul]; exact o5
          · rcases Nat.lt_or_ge i d.pend.length with h1 | h1
            · rw [List.getElem?_append_left h1] at hip
              obtain ⟨u, e1, e2⟩ := HU.out i p hip
              exact ⟨u, by rw [List.getElem?_append_left (by rw [hul]; exact h1)]; exact e1, e2.other ga hro (by decide) hG⟩
            · rw [List.getElem?_append_right h1] at hip
              have h0 : i - d.pend.length = 0 := by
                rcases Nat.eq_zero_or_pos (i - d.pend.length) with h0 | h0
                · exact h0
                · rw [List.getElem?_eq_none (by simp; omega)] at hip; cases hip
              rw [h0] at hip
              simp at hip
              subst hip
              have hul' : us.length = d.pend.length := hul
              refine ⟨.slice (some ⟨w1.heap.size, 0, none⟩) 32 32, ?_, w1.heap.size, rfl, .inr ⟨F1.out.size, by omega⟩, hx5⟩
              rw [List.getElem?_append_right (by omega), show i - us.length = 0 by omega]; rfl
          · have hk2 := (o5.lt k hk).2
            rcases r5 with e | e
            · exact .inl (hv.wait.f k (by rw [← e]; exact hk))
            · rw [e] at hk; cases hk; exact .inr ⟨by have := F1.out.size; omega, hk2⟩
        have s1 := ref_set (d := d.step) (e := { d.step with pend := d.pend ++ [(q, pad b)] }) hb5 (hv.kept.other ga hro (by decide) (by decide) hG) hwt 1 v5 (by simp [rcells]) (hG B hv.f) HOK.out hv.arm hl5
        have s2 := ref_set (e := { d.step with pend := d.pend ++ [(q, pad b)], writes := d.writes + 1 }) s1.blk s1.kept s1.wait 4 (.int .i64 x) (by simp [rcells, hx]) s1.f HOK.out s1.arm s1.lt
        have f5 : Frm F w ((w5.setCell ⟨B, 1, none⟩ v5).setCell ⟨B, 4, none⟩ (.int .i64 x)) :=
          ((FW.out.trans (Frm.grown (F := F) ga hv.wait.f) (fun k hk => .inl hk)).trans (Frm.setCell w5 1 _ hv.f) (fun k hk => .inl hk)).trans (Frm.setCell _ 4 _ hv.f) (fun k hk => .inl hk)
        exact ⟨rfl, f5, vk, v5, s2.mono (fun k hk => hk.imp_right (fun h => ⟨h.1, by simpa using h.2⟩)) (fun k hk => hk.elim (fun h => by have := hl5 k (.inl h); simpa using this) (fun h => h.2))⟩
      have FN := Lib.hid fin
      have hwi : (d.writes : Int) ≤ 100000 := by omega
      have hw0 : (0 : Int) ≤ (d.writes : Int) := by omega
      clear fin
      go_wp2_with (at_builtin; refine app_wait rfl (.tmp 42) (.tmp 46) rfl vw d.step.pend.length (wcells d.step.pend us) (q : Int) (.slice (some ⟨w1.heap.size, 0, none⟩) 32 32) wr.heap.size rfl (hown.alloc _) rfl (Joins.cell_of_block (heap_alloc_new wr _) 0) (Joins.cell_of_block (heap_alloc_new wr _) 1) rfl (by omega) ?_; intro v5 w5 o5 g5 r5; obtain ⟨hb5, hfn⟩ := FN.out v5 w5 o5 g5 (by simpa using r5); have FF := Lib.hid hfn; obtain ⟨g', c', rfl⟩ := ownsRow_succ o5; have hc51 := Joins.cell_of_block hb5 1; have hf51 := Joins.unfrozen_of_block hb5 1; have hb6 := Joins.block_setCell (i := 1) hb5 (.slice (some ⟨g', 0, none⟩) (d.step.pend.length + 1) c'); have hc6 : (w5.setCell ⟨B, 1, none⟩ (.slice (some ⟨g', 0, none⟩) (d.step.pend.length + 1) c')).cell? ⟨B, 4, none⟩ = some (.int .i64 (d.writes : Int)) := Joins.cell_of_block hb6 4; have hf6 : (w5.setCell ⟨B, 1, none⟩ (.slice (some ⟨g', 0, none⟩) (d.step.pend.length + 1) c')).frozen? ⟨B, 4, none⟩ = false := Joins.unfrozen_of_block hb6 4; have hc51' : w5.cell? ⟨B, 1, none⟩ = some vw := hc51; clear hfn hb5 hb6 hc51)
      go_ret
      exact FF.out _ (by omega)
end Go.Proofs.Ytopemjbakpahfaa
