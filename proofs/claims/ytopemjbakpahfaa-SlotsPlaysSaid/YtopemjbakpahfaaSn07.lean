/-
  Contracts and plain laws, part 7 (texts: Dev3). No condition but what each states.
-/
import Derived.Test.YtopemjbakpahfaaSn06
import Derived.Deep.RegionHeldLaw
/-
  The device's Write: for every place and all bytes. No condition but that the device's numbers are small.
-/
namespace Go.Proofs.Ytopemjbakpahfaa
open Go.RowKit Disk
theorem pcells_length {p : Nat × List UInt8} (h : p.2.length = 32) : (pcells p).length = 33 := by simp [pcells, h]
theorem pcells_one (p : Nat × List UInt8) : (pcells p).toArray.all (·.oneCell') = true := all_oneCell_toArray (by
  intro v hv
  rcases List.mem_cons.1 hv with rfl | hv
  · rfl
  · exact oneCell_bytes _ v hv)
theorem there_new (w : World) (C : Array Value) (t : TypeId) (off n : Nat) (h : off + n ≤ C.size) : (w.alloc (.cells C t)).there w.heap.size off n := by
  intro j hj
  have hn := heap_alloc_new w (.cells C t)
  refine ⟨?_, Joins.unfrozen_of_block hn _⟩
  rw [Joins.cell_of_block hn, Array.getElem?_eq_getElem (by omega)]
  rfl
def zero32 : List UInt8 := List.replicate 32 0
theorem range_overlay {w : World} {b : Nat} {C : List Value} (h : w.rangeAt b 0 C) (off : Nat) (vs : List Value) (hl : off + vs.length ≤ C.length) : (w.setCells b off vs).rangeAt b 0 (C.take off ++ vs ++ C.drop (off + vs.length)) := by
  intro j v hv
  rw [Nat.zero_add]
  have hs : ∀ i, i < vs.length → (w.cell? ⟨b, off + i, none⟩).isSome = true := fun i hi => by
    have := h (off + i) _ (List.getElem?_eq_getElem (by omega))
    rw [Nat.zero_add] at this
    rw [this]; rfl
  have ht : (C.take off).length = off := by simp; omega
  rcases Nat.lt_or_ge j off with h1 | h1
  · rw [World.cell?_setCells_out b vs off w ⟨b, j, none⟩ (fun _ _ => .inl h1)]
    rw [List.append_assoc, List.getElem?_append_left (by omega), List.getElem?_take, if_pos h1] at hv
    have := h j v hv
    rwa [Nat.zero_add] at this
  · rcases Nat.lt_or_ge j (off + vs.length) with h2 | h2
    · have h3 := World.cell?_setCells_in b vs off w hs (j - off) (by omega)
      rw [show off + (j - off) = j by omega] at h3
      rw [h3, ← hv, List.getElem?_append_left (by rw [List.length_append, ht]; omega), List.getElem?_append_right (by omega), ht, List.getElem?_eq_getElem]
    · rw [World.cell?_setCells_out b vs off w ⟨b, j, none⟩ (fun _ _ => .inr h2)]
      rw [List.getElem?_append_right (by rw [List.length_append, ht]; omega), List.length_append, ht, List.getElem?_drop] at hv
      have := h j v (by rw [← hv]; congr 1; omega)
      rwa [Nat.zero_add] at this
theorem pcells_pad (q : Nat) (b : List UInt8) : (pcells (q, zero32)).take 1 ++ b.map byteV ++ (pcells (q, zero32)).drop (1 + (b.map byteV).length) = pcells (q, pad b) := by
  unfold pcells pad zero32
  rw [Nat.add_comm 1, List.drop_succ_cons, List.take_succ_cons, List.take_zero, List.length_map, List.map_replicate, List.drop_replicate, List.map_append, List.map_replicate]
  rfl
theorem range_new (w : World) (C : List Value) (t : TypeId) : (w.alloc (.cells C.toArray t)).rangeAt w.heap.size 0 C := by
  intro j v hv
  rw [Nat.zero_add, Joins.cell_of_block (heap_alloc_new w _)]
  simpa using hv
theorem info112 : (Try.prog.info? 112).map (fun i => (i.zero, i.size, i.bytes)) = some (some (.agg (pcells (0, zero32)).toArray), 33, 40) := by kernel_rfl
theorem own_rec {w : World} {base n z : Nat} {t : TypeId} {v : Value} {xs : List Value} (h : w.ownsRow base t z v n xs) (h0 : 0 < n) : ∃ g cap, v = .slice (some ⟨g, 0, none⟩) n cap := by
  rcases h.2 with ⟨_, h1⟩ | ⟨g, cap, cur, rfl, _⟩
  · omega
  · exact ⟨g, cap, rfl⟩
theorem rec_at (w : World) (C : List Value) (t : TypeId) (n : Nat) (hn : w.heap.size = n) : ∀ j u, C[j]? = some u → (w.alloc (.cells C.toArray t)).cell? ((⟨n, 0, none⟩ : Addr).add j) = some u := by
  subst hn
  intro j u hu
  have := range_new w C t j u hu
  rwa [Addr.add_mid]
def DevOf (F : Nat → Prop) (w : World) (B : Nat) (e : Dev) (v : Value) (en : Ending) (w' : World) : Prop := en = .returned v ∧ Frm F w w' ∧ IsDev (Grow F w w') w' B e
set_option maxRecDepth 100000 in
set_option maxHeartbeats 2000000 in
theorem write_any {F : Nat → Prop} {w : World} {B : Nat} {d : Dev} (h : IsDev F w B d) (k : Int) (b : List UInt8) (a : Option Addr) (cap : Nat) (hb : (b.length : Int) ≤ 9223372036854775807) (hn : a = none → b = [])
    (hsrc : ∀ w', Frm F w w' → RB w' a b) (hp : d.pend.length ≤ 100000) (hw : d.writes ≤ 100000) :
    Calls Try.prog 34 #[.pointer (some ⟨B, 0, none⟩), .int .i64 k, .slice a b.length cap] w (DevOf F w B (d.write k b).1 (.int .i64 (d.write k b).2)) := by
  have hFl := h.lt
  obtain ⟨r, hr0⟩ : ∃ r, d.write k b = r := ⟨_, rfl⟩
  have HOK0 := write_ok h.ok k b
  rw [hr0] at HOK0 ⊢
  have HOK := Lib.hid HOK0
  clear HOK0
  go_enter Try.func34, Try.ntmps34
  go_wp2_with fail
  refine (ask_any h k).mono ?_
  rintro en w1 ⟨rfl, rfl⟩
  by_cases h1 : d.ask k = 0
  rotate_left
  · have hne : ((d.ask k : Int) != 0) = true := by rw [bne_iff_ne]; exact h1
    obtain rfl : r = (d, d.ask k) := by rw [← hr0]; unfold Dev.write; rw [if_pos h1]
    clear hr0
    go_wp2
    go_ret
    exact ⟨rfl, Frm.refl _ _, h.grow hFl (Nat.le_refl _)⟩
  rw [h1]
  by_cases h2 : 32 < (b.length : Int)
  · obtain rfl : r = (d, 1) := by rw [← hr0]; unfold Dev.write; rw [if_neg (by simpa using h1), if_pos (by omega)]
    go_wp2
    go_ret
    exact ⟨rfl, Frm.refl _ _, h.grow hFl (Nat.le_refl _)⟩
  go_wp2_with fail
  refine (stops_any h).mono ?_
  rintro en w1 ⟨rfl, f1, d1⟩
  by_cases h3 : d.armed = 1
  · obtain rfl : r = (d.step, 14) := by rw [← hr0]; unfold Dev.write; rw [if_neg (by simpa using h1), if_neg (by omega), if_pos h3]
    rw [decide_eq_true h3]
    go_wp2
    go_ret
    exact ⟨rfl, f1, d1.grow hFl f1.size⟩
  obtain rfl : r = ({ d.step with pend := d.pend ++ [(k.toNat, pad b)], writes := d.writes + 1 }, 0) := by rw [← hr0]; unfold Dev.write; rw [if_neg (by simpa using h1), if_neg (by omega), if_neg h3]
  rw [decide_eq_false h3]
  clear hr0
  have hk0 : 0 ≤ k ∧ k < (d.kept.length : Int) := by
    unfold Dev.ask at h1
    split at h1
    · omega
    · split at h1 <;> omega
  obtain ⟨q, rfl⟩ : ∃ q : Nat, k = (q : Int) := ⟨k.toNat, by omega⟩
  have R1 := Lib.hid (hsrc w1 f1)
  have F1 := Lib.hid f1
  have D1 := Lib.hid d1
  clear h1 f1 d1 hk0
  go_wp2_with (first
    | ((refine wpList_store_new rfl 112 (.tmp 8) (.tmp 24) rfl _ (pcells (q, zero32)).toArray rfl rfl (by rw [List.size_toArray, pcells_length rfl]; exact size112) rfl (pcells_one _) ?_))
    | (refine wpList_copy_bytes rfl (.tmp 26) (.tmp 27) rfl w1.heap.size 1 32 32 rfl a b cap rfl hn (R1.out.alloc _) (by omega) (there_new w1 (pcells (q, zero32)).toArray 112 1 b.length (by rw [List.size_toArray, pcells_length (p := (q, zero32)) rfl]; omega)) ?_))
  have hR2 := range_overlay (range_new w1 (pcells (q, zero32)) 112) 1 (b.map byteV) (by rw [pcells_length (p := (q, zero32)) rfl, List.length_map]; omega)
  rw [pcells_pad] at hR2
  have hG2 : Frm (fun k => k = w1.heap.size) w1 ((w1.alloc (.cells (pcells (q, zero32)).toArray 112)).setCells w1.heap.size 1 (b.map byteV)) := (Frm.of_below (below_alloc w1 _)).trans (frm_setCells (F := fun k => k = w1.heap.size) rfl _ _ _) (fun k hk => .inl hk)
  have hs2 : w1.heap.size < ((w1.alloc (.cells (pcells (q, zero32)).toArray 112)).setCells w1.heap.size 1 (b.map byteV)).heap.size := by rw [size_setCells]; simp
  generalize (w1.alloc (.cells (pcells (q, zero32)).toArray 112)).setCells w1.heap.size 1 (b.map byteV) = W at hR2 hG2 hs2 ⊢
  have hD2 := D1.out.frm hG2 (fun k hk e => by have := D1.out.lt k hk; omega)
  have F2 := Lib.hid (F1.out.trans hG2 (fun k hk => .inr (by have := F1.out.size; omega)))
  have hpl : (pad b).length = 32 := pad_length (by omega)
  obtain ⟨⟨K, vp, hbl, hkp, hpd⟩, hok, hf, hga, hlt⟩ := hD2
  have hc1 : W.cell? ⟨B, 1, none⟩ = some vp := Joins.cell_of_block hbl 1
  have hBW : B < W.heap.size := hlt B hf
  obtain ⟨i0, hi, hz0, hz1, hz2⟩ := info_parts info112
  obtain ⟨D, hD⟩ : ∃ D, W.drew = D := ⟨_, rfl⟩
  have hRD : D.rangeAt w1.heap.size 0 (pcells (q, pad b)) := by rw [← hD]; simpa using hR2
  have hbD : D.heap[B]? = some (.cells (dcells d.step K vp) 107 (0, 0)) := by rw [← hD]; exact hbl
  have hcD : D.cell? ⟨B, 1, none⟩ = some vp := Joins.cell_of_block hbD 1
  have hpD : Pend F D vp d.step.pend := by rw [← hD]; exact hpd.same (fun _ _ => rfl) (fun _ h => h)
  have hkD : Kept F D K d.step.kept := by rw [← hD]; exact hkp.same rfl hkp.f
  have F3 := Lib.hid (show Frm F w D by rw [← hD]; exact F2.out.trans (Frm.of_below (F := F) (Below.refl _ W).drew) (fun k hk => .inl hk))
  have hltD : ∀ k, F k → k < D.heap.size := by rw [← hD]; exact hlt
  have hcA : (D.alloc (.cells (pcells (q, pad b)).toArray 112)).cell? ⟨B, 1, none⟩ = some vp := alloc_cell hcD
  have hBD : B < D.heap.size := hltD B hf
  have pcells_each : ∀ u ∈ pcells (q, pad b), u.oneCell' = true := fun v hv => by
    rcases List.mem_cons.1 hv with rfl | hv
    · rfl
    · exact oneCell_bytes _ v hv
  have hp' : d.step.pend.length ≤ 100000 := hp
  have hm1 : d.step.pend.length + 1 ≤ maxLen := by unfold maxLen; omega
  have hm2 : (d.step.pend.length + 1) * 40 ≤ 140737488355328 := by omega
  have hl33 : (pcells (q, pad b)).length = 33 := pcells_length hpl
  have hfold : ∀ C : Array Value, C.size = 33 → List.foldl (fun cs x => cs.setIfInBounds x.2 x.1) C (pcells (q, pad b)).zipIdx = (pcells (q, pad b)).toArray := fun C hC => fold_set _ C (by rw [hC, hl33])
  refine wp_region_any (by kernel_rfl) ?_
  change wpAny _ _ _ _ _ _ _ (World.drew _)
  rw [hD]
  clear hR2 hbl hkp hpd hlt hc1 hD
  refine wpAny_take (i := 0) (v := .pointer (some ⟨B, 0, none⟩)) rfl (by kernel_rfl) (by kernel_rfl) (by kernel_rfl) (fun _ _ _ h => h) (Or.inl ⟨by rfl, by intro w; go_simp⟩) ?_
  simp only [Act.put, List.getElem_toArray, List.getElem_cons_zero, List.setIfInBounds_toArray, List.set_cons_zero, List.set_cons_succ]
  refine wpAny_take (i := 1) (v := .pointer (some ⟨B, 0, none⟩)) rfl (by kernel_rfl) (by kernel_rfl) (by kernel_rfl) (fun _ _ _ h => h) (Or.inl ⟨by rfl, by intro w; go_simp⟩) ?_
  simp only [Act.put, List.getElem_toArray, List.getElem_cons_zero, List.getElem_cons_succ, List.setIfInBounds_toArray, List.set_cons_zero, List.set_cons_succ]
  refine wpAny_take (i := 2) (v := .pointer (some ⟨B, 0, none⟩)) rfl (by kernel_rfl) (by kernel_rfl) (by kernel_rfl) (fun _ _ _ h => h) (Or.inl ⟨by rfl, by intro w; go_simp⟩) ?_
  simp only [Act.put, List.getElem_toArray, List.getElem_cons_zero, List.getElem_cons_succ, List.setIfInBounds_toArray, List.set_cons_zero, List.set_cons_succ]
  refine wpAny_take (i := 3) (v := .pointer (some ⟨B, 1, none⟩)) rfl (by kernel_rfl) (by kernel_rfl) (by kernel_rfl) (fun _ _ _ h => h) (Or.inl ⟨by rfl, by intro w; go_simp⟩) ?_
  simp only [Act.put, List.getElem_toArray, List.getElem_cons_zero, List.getElem_cons_succ, List.setIfInBounds_toArray, List.set_cons_zero, List.set_cons_succ]
  repeat' (first
    | refine wpAny_done (by decide +kernel) ?_ _
    | (refine wpAny_ready (rs := [4, 5]) (by decide +kernel) (by simp) ?_; refine AllReady.cons rfl (fun Kc hK => ?_) (AllReady.cons rfl (fun Kc hK => ?_) AllReady.nil))
    | (refine wpAny_ready (rs := [4, 6]) (by decide +kernel) (by simp) ?_; refine AllReady.cons rfl (fun Kc hK => ?_) (AllReady.cons rfl (fun Kc hK => ?_) AllReady.nil))
    | (refine wpAny_ready (rs := [4]) (by decide +kernel) (by simp) ?_; refine AllReady.cons rfl (fun Kc hK => ?_) AllReady.nil)
    | (refine wpAny_ready (rs := [5]) (by decide +kernel) (by simp) ?_; refine AllReady.cons rfl (fun Kc hK => ?_) AllReady.nil)
    | (refine wpAny_ready (rs := [6]) (by decide +kernel) (by simp) ?_; refine AllReady.cons rfl (fun Kc hK => ?_) AllReady.nil)
    | (refine wpAny_ready (rs := [7]) (by decide +kernel) (by simp) ?_; refine AllReady.cons rfl (fun Kc hK => ?_) AllReady.nil)
    | (refine wpAny_ready (rs := [8]) (by decide +kernel) (by simp) ?_; refine AllReady.cons rfl (fun Kc hK => ?_) AllReady.nil)
    | (refine wpAny_ready (rs := [9]) (by decide +kernel) (by simp) ?_; refine AllReady.cons rfl (fun Kc hK => ?_) AllReady.nil)
    | (refine wpAny_ready (rs := [10]) (by decide +kernel) (by simp) ?_; refine AllReady.cons rfl (fun Kc hK => ?_) AllReady.nil)
    | (simp only [Act.put, List.getElem_toArray, List.getElem_cons_zero, List.getElem_cons_succ, List.setIfInBounds_toArray, List.set_cons_zero, List.set_cons_succ]; rw [if_pos (by rfl)]; refine wp_load_mid 112 (.tmp 8) rfl w1.heap.size 0 rfl (pcells (q, pad b)) _ hRD Try.underlying112 rfl (by rw [hl33]; exact size112) ?_; refine hK _ _ ?_; clear hK Kc; simp only [Act.put, List.setIfInBounds_toArray, List.set_cons_zero, List.set_cons_succ])
    | (simp only [Act.put, List.getElem_toArray, List.getElem_cons_zero, List.getElem_cons_succ, List.setIfInBounds_toArray, List.set_cons_zero, List.set_cons_succ]; rw [if_pos (by rfl)]; refine wp_append_rec (.tmp 33) (.tmp 35) 105 rfl 0 112 i0 _ 33 40 Try.underlying105 hi hz0 hz1 hz2 rfl (by decide) vp d.step.pend.length _ rfl (hpD.own.alloc _) ⟨D.heap.size, 0, none⟩ 1 1 (pcells (q, pad b)) rfl (by rw [hl33]) (rec_at D _ 112 _ rfl) pcells_each hm1 hm2 (Nat.zero_le _) ?_; intro v5 W5 o5 g5 at5; obtain ⟨g', cap', rfl⟩ := own_rec o5 (by omega); have hb5 : W5.heap[B]? = some (.cells (dcells d.step K vp) 107 (0, 0)) := (g5.block B (by simp; omega) (fun e => row_apart hbD hpD.own (by decide) B e.symm rfl)).trans ((Below.heap_alloc D _ B (by omega)).trans hbD); have hc5 : W5.cell? ⟨B, 1, none⟩ = some vp := Joins.cell_of_block hb5 1; have hf5 : W5.frozen? ⟨B, 1, none⟩ = false := Joins.unfrozen_of_block hb5 1; refine hK _ _ ?_; clear hK Kc; simp only [Act.put, List.setIfInBounds_toArray, List.set_cons_zero, List.set_cons_succ])
    | (simp only [Act.put, List.getElem_toArray, List.getElem_cons_zero, List.getElem_cons_succ, List.setIfInBounds_toArray, List.set_cons_zero, List.set_cons_succ]; go_simp; refine hK _ _ ?_; clear hK Kc))
  all_goals
    have hKD : K ≠ B := block_apart hbD hkD.typ (by decide)
    have hk5 : W5.heap[K]? = D.heap[K]? := (g5.block K (by have := hkD.typ.lt; simp; omega) (fun e => by
      obtain ⟨C, hC⟩ := hkD.typ
      exact row_apart hC hpD.own (by decide) K e.symm rfl)).trans (Below.heap_alloc D _ K hkD.typ.lt)
    have hs5 := g5.size
    have hlt5 := o5.lt
    simp only [World.size_alloc] at hs5 at5
    have hF3 := F3.out.size
    have fin : ∀ v, v = Value.int .i64 0 → DevOf F w B { d.step with pend := d.pend ++ [(q, pad b)], writes := d.writes + 1 } (.int .i64 0) (.returned v) ((W5.setCell ⟨B, 1, none⟩ (.slice (some ⟨g', 0, none⟩) (d.step.pend.length + 1) cap')).setCell ⟨B, 4, none⟩ (.int .i64 ((d.writes + 1 : Nat) : Int))) := by
      intro v hv
      refine ⟨by rw [hv], ?_, ?_⟩
      · exact ((((F3.out.trans (Frm.of_below (F := F) (below_alloc D _)) (fun k hk => .inl hk)).trans (Frm.grown (F := F) g5 hpD.f) (fun k hk => .inl hk)).trans (Frm.setCell W5 1 _ hf) (fun k hk => .inl hk)).trans (Frm.setCell _ 4 _ hf) (fun k hk => .inl hk))
      · have hFG : ∀ k, F k → Grow F w W5 k := fun k hk => .inl hk
        have hp5 : Pend (Grow F w W5) W5 (.slice (some ⟨g', 0, none⟩) (d.step.pend.length + 1) cap') (d.pend ++ [(q, pad b)]) := by
          refine ⟨?_, ?_⟩
          · rw [List.length_append, List.flatMap_append]
            have o5' : W5.ownsRow 0 112 33 (.slice (some ⟨g', 0, none⟩) (d.step.pend.length + 1) cap') (d.pend.length + 1) (d.pend.flatMap pcells ++ pcells (q, pad b)) := o5
            simpa using o5'
          · intro k hk
            have hk2 := (hlt5 k hk).2
            rcases at5 with e | e
            · exact .inl (hpD.f k (by rw [← e]; exact hk))
            · rw [e] at hk
              cases hk
              exact .inr ⟨by omega, hk2⟩
        have hl5 : ∀ k, Grow F w W5 k → k < W5.heap.size := fun k hk => hk.elim (fun h1 => by have := hltD k h1; omega) (fun h1 => h1.2)
        have h1 : IsDev (Grow F w W5) _ B { d.step with pend := d.pend ++ [(q, pad b)] } := dev_set (d := d.step) (e := { d.step with pend := d.pend ++ [(q, pad b)] }) hb5 (hkD.same hk5 (hFG K hkD.f)) hp5 1 (.slice (some ⟨g', 0, none⟩) (d.step.pend.length + 1) cap') (by
          simp [dcells]) rfl (hFG B hf) (by have h := HOK.out; rw [Int.toNat_natCast] at h; exact h) hga hl5
        obtain ⟨⟨K1, vp1, hb1, hk1, hp1⟩, ho1, hf1, ha1, hl1⟩ := h1
        have h2 := dev_set (e := { d.step with pend := d.pend ++ [(q, pad b)], writes := d.writes + 1 }) hb1 hk1 hp1 4 (.int .i64 ((d.writes + 1 : Nat) : Int)) (by simp [dcells]) rfl hf1 (by have h := HOK.out; rw [Int.toNat_natCast] at h; exact h) hga hl1
        exact h2.mono (fun k hk => hk.elim .inl (fun h1 => .inr ⟨h1.1, by simpa using h1.2⟩)) (fun k hk => hk.elim (fun h1 => by have := hltD k h1; simp; omega) (fun h1 => h1.2))
    have FN := Lib.hid fin
    have hb6 : (W5.setCell ⟨B, 1, none⟩ (.slice (some ⟨g', 0, none⟩) (d.step.pend.length + 1) cap')).heap[B]? = _ := Joins.block_setCell hb5 (.slice (some ⟨g', 0, none⟩) (d.step.pend.length + 1) cap')
    have hc6 : (W5.setCell ⟨B, 1, none⟩ (.slice (some ⟨g', 0, none⟩) (d.step.pend.length + 1) cap')).cell? ⟨B, 4, none⟩ = some (.int .i64 (d.writes : Int)) := Joins.cell_of_block hb6 4
    have hf6 : (W5.setCell ⟨B, 1, none⟩ (.slice (some ⟨g', 0, none⟩) (d.step.pend.length + 1) cap')).frozen? ⟨B, 4, none⟩ = false := Joins.unfrozen_of_block hb6 4
    have hwi : (d.writes : Int) ≤ 100000 := by omega
    have hw0 : (0 : Int) ≤ (d.writes : Int) := by omega
    clear fin hb5 hbD hb6
    rw [Int.toNat_natCast]
    go_wp2
    go_ret
    exact FN.out _ rfl
end Go.Proofs.Ytopemjbakpahfaa
