/-
  Contracts and plain laws, part 18 (texts: Ref3). No condition but what each states.
-/
import Derived.Test.YtopemjbakpahfaaSn17
/-
  The reference's Sync and Restart. No condition but that its numbers are small.
-/
namespace Go.Proofs.Ytopemjbakpahfaa
open Go.RowKit Disk
set_option linter.unusedSimpArgs false
set_option linter.unusedVariables false
structure RKeep (F : Nat → Prop) (w : World) (B : Nat) (vk vw : Value) (e : Dev) (i : Nat) (p : Nat × List UInt8) (gk ck gw cw : Nat) (u : Value) : Prop where
  evk : vk = .slice (some ⟨gk, 0, none⟩) e.kept.length ck
  evw : vw = .slice (some ⟨gw, 0, none⟩) e.pend.length cw
  c1 : w.cell? ⟨gw, i * 2, none⟩ = some (.int .i64 (p.1 : Int))
  c2 : w.cell? ⟨gw, i * 2 + 1, none⟩ = some u
  c3 : (w.cell? ⟨gk, p.1, none⟩).isSome = true
  f3 : w.frozen? ⟨gk, p.1, none⟩ = false
  n1 : gk ≠ gw
  n2 : gk ≠ B
  f : F gk
  fu : ∃ g, u = .slice (some ⟨g, 0, none⟩) 32 32
  nxt : RefV F (w.setCell ⟨gk, p.1, none⟩ u) B vk vw { e with kept := put e.kept p }
theorem ref_keep {F : Nat → Prop} {w : World} {B : Nat} {vk vw : Value} {e : Dev} (h : RefV F w B vk vw e) {i : Nat} {p : Nat × List UInt8} (hi : e.pend[i]? = some p) : ∃ gk ck gw cw u, RKeep F w B vk vw e i p gk ck gw cw u := by
  have hpm := h.ok.2 p (List.mem_of_getElem? hi)
  obtain ⟨gw, cw, u, rfl, w1, w2, w3⟩ := rwait_at h.wait hi
  obtain ⟨gk, ck, u0, rfl, k1, _⟩ := rkept_at h.kept hpm.1
  obtain ⟨vs, o1, o2⟩ := h.kept.ex
  obtain ⟨us, q0, q1, q2⟩ := h.wait.ex
  have hro := rowOf_owns o1
  have hrw := rowOf_owns q1
  obtain ⟨cs, fr, hgk⟩ := hro gk rfl
  obtain ⟨cs', fr', hgw⟩ := hrw gw rfl
  have n1 : gk ≠ gw := by rintro rfl; rw [hgk] at hgw; simp at hgw
  have hb := h.blk
  have n2 : gk ≠ B := by rintro rfl; rw [hgk] at hb; simp at hb
  obtain ⟨gu, rfl, hFu, hbu⟩ := w3
  have hgr := grownBy_setCell' w gk (.slice (some ⟨gu, 0, none⟩) 32 32)
  have hset : w.grownBy (w.setCell ⟨gk, p.1, none⟩ (.slice (some ⟨gu, 0, none⟩) 32 32)) (some gk) :=
    ⟨rfl, rfl, rfl, by simp, fun k _ hk => Below.heap_setCell _ _ _ _ (fun e => hk (by rw [e]))⟩
  have hrg : RowOf w (some gk) 22 := fun r e => by cases e; exact ⟨cs, fr, hgk⟩
  refine ⟨gk, ck, gw, cw, _, rfl, rfl, w1, w2, by rw [k1]; rfl, World.ownsRow.frozenAt o1 p.1, n1, n2, h.kept.f gk rfl, ⟨gu, rfl⟩, ?_⟩
  refine ⟨(Below.heap_setCell _ _ _ _ (fun e => n2 e.symm)).trans hb, ⟨⟨vs.set p.1 (.slice (some ⟨gu, 0, none⟩) 32 32), ?_, fun j hj => ?_⟩, h.kept.f⟩, h.wait.other hset hrg (by decide) (by decide) (fun _ h => h), ?_, h.f, h.arm, fun k hk => by simpa using h.lt k hk⟩
  · have := (World.ownsRow.stored o1 p.1 (.slice (some ⟨gu, 0, none⟩) 32 32)).1
    show World.ownsRow _ _ _ _ _ (put e.kept p).length _
    rw [put_length]
    exact this
  · have hj' : j < e.kept.length := by have : j < (put e.kept p).length := hj; rwa [put_length] at this
    obtain ⟨v, hv1, hv2⟩ := o2 j hj'
    have hvl : j < vs.length := (List.getElem?_eq_some_iff.1 hv1).1
    show ∃ u, _ ∧ Row5 F _ u ((put e.kept p).getD j [])
    rw [put_get, List.getElem?_set]
    by_cases hjp : p.1 = j
    · subst hjp
      rw [if_pos rfl, if_pos hvl, if_pos ⟨rfl, hj'⟩]
      refine ⟨_, rfl, gu, rfl, hFu, (Below.heap_setCell _ _ _ _ (by rintro rfl; rw [hgk] at hbu; simp at hbu)).trans hbu⟩
    · rw [if_neg hjp, if_neg (fun h => hjp h.1)]
      exact ⟨v, hv1, hv2.other hset hrg (by decide) (fun _ h => h)⟩
  · exact ⟨full_put h.ok.1 hpm.2, fun q hq => by
      have := h.ok.2 q hq
      exact ⟨by show _ < (put e.kept p).length; rw [put_length]; exact this.1, this.2⟩⟩
theorem puts_take {ps : List (Nat × List UInt8)} {l : List (List UInt8)} {i : Nat} {p : Nat × List UInt8} (h : ps[i]? = some p) : (ps.take (i + 1)).foldl put l = put ((ps.take i).foldl put l) p := by
  have hl : i < ps.length := (List.getElem?_eq_some_iff.1 h).1
  have e : ps[i] = p := by rw [List.getElem?_eq_getElem hl] at h; simpa using h
  rw [List.take_succ_eq_append_getElem hl, e, List.foldl_append]; rfl
theorem RefV.drew {F : Nat → Prop} {w : World} {B : Nat} {vk vw : Value} {d : Dev} (h : RefV F w B vk vw d) : RefV F w.drew B vk vw d :=
  h.frm (G := fun _ => False) (Frm.of_below (Below.refl _ w).drew) (fun _ _ h => h)
set_option maxRecDepth 100000 in
set_option maxHeartbeats 4000000 in
theorem rsync_any {F : Nat → Prop} {w : World} {B : Nat} {d : Dev} (h : IsRef F w B d) (hp : d.pend.length ≤ 100000) (hy : d.syncs ≤ 100000) :
    Calls Try.prog 60 #[.pointer (some ⟨B, 0, none⟩)] w (RefOf F w B d.sync.1 (.int .i64 d.sync.2)) := by
  have HH := Lib.hid h
  have hFl := h.lt
  have HOK := Lib.hid (sync_ok h.ok)
  obtain ⟨r, hr0⟩ : ∃ r, d.sync = r := ⟨_, rfl⟩
  rw [hr0] at HOK ⊢
  have HR := Lib.hid hr0
  clear hr0
  obtain ⟨vk0, vw0, hv0⟩ := h
  have c2 : w.cell? ⟨B, 2, none⟩ = some (.bool d.down) := Joins.cell_of_block hv0.blk 2
  clear hv0
  cases hd : d.down
  rotate_left
  · obtain rfl : r = (d, 14) := by rw [← HR.out, sync_down hd]
    rw [hd] at c2
    go_enter Try.func60, Try.ntmps60
    go_wp2
    go_ret
    exact RefOf.same HH.out (Below.refl _ _)
  rw [hd] at c2
  have HD := Lib.hid hd
  by_cases h1 : d.armed = 1
  · obtain rfl : r = (d.step, 14) := by rw [← HR.out]; exact sync_stop_at hd h1
    have D1 : decide (d.armed = 1) = true := decide_eq_true h1
    clear hd
    go_enter Try.func60, Try.ntmps60
    go_wp2_with fail
    refine (rstops_any HH.out HD.out).mono ?_
    rintro en w1 ⟨rfl, f1, r1⟩
    rw [D1]
    have F1 := Lib.hid f1
    clear f1
    go_wp2
    go_ret
    exact ⟨rfl, F1.out, r1.grow hFl F1.out.size⟩
  obtain rfl : r = ({ d.step with kept := d.pend.foldl put d.kept, pend := [], syncs := d.syncs + 1 }, 0) := by rw [← HR.out]; exact sync_ok_at hd h1
  have D1 : decide (d.armed = 1) = false := decide_eq_false h1
  clear hd HR h1
  go_enter Try.func60, Try.ntmps60
  go_wp2_with fail
  refine (rstops_any HH.out HD.out).mono ?_
  rintro en w1 ⟨rfl, f1, vk, vw, hv1⟩
  rw [D1]
  obtain ⟨aw, cw0, rfl⟩ := rwait_form hv1.wait
  obtain ⟨ak, ck0, rfl⟩ := rkept_form hv1.kept
  have V1 := Lib.hid hv1
  have F1 := Lib.hid f1
  clear hv1 f1 D1 HD
  go_wp2_with fail
  go_loopw [3] (fun iv wr => ∃ i : Nat, iv = .int .i64 i ∧ i ≤ d.pend.length ∧ Frm F w wr ∧ RefV F wr B (.slice ak d.kept.length ck0) (.slice aw d.pend.length cw0) { d.step with kept := (d.pend.take i).foldl put d.kept }) (fun iv _ => d.pend.length - (intOf iv).toNat)
  case atStart => exact ⟨0, rfl, Nat.zero_le _, F1.out, V1.out⟩
  case round =>
    obtain ⟨i, rfl, hi, hfr, hv⟩ := hrel
    have c1 : wr.cell? ⟨B, 1, none⟩ = some (.slice aw d.pend.length cw0) := Joins.cell_of_block hv.blk 1
    have HF := Lib.hid hfr
    have HV := Lib.hid hv
    by_cases hlt : i < d.pend.length
    · have hi0 : (0 : Int) ≤ (i : Int) := by omega
      have hii : (i : Int) < (d.pend.length : Int) := by omega
      obtain ⟨p, hpi⟩ : ∃ p, d.pend[i]? = some p := ⟨_, List.getElem?_eq_getElem hlt⟩
      obtain ⟨gk, ck, gw, cw, u, RK⟩ := ref_keep hv.drew (i := i) (p := p) hpi
      obtain ⟨evk, evw, k1, k2, k3, k4, n1, n2, hFg, ⟨gu, rfl⟩, nxt⟩ := RK
      simp only [Value.slice.injEq] at evk evw
      obtain ⟨rfl, _, rfl⟩ := evk
      obtain ⟨rfl, _, rfl⟩ := evw
      have hpm := (hv.ok.2 p (List.mem_of_getElem? (show (({ d.step with kept := (d.pend.take i).foldl put d.kept } : Dev).pend)[i]? = some p from hpi))).1
      have hpk : p.1 < d.kept.length := by
        have : p.1 < ((d.pend.take i).foldl put d.kept).length := hpm
        rwa [puts_length] at this
      have ca : wr.drew.cell? ⟨B, 0, none⟩ = some (.slice (some ⟨gk, 0, none⟩) d.kept.length ck0) := Joins.cell_of_block hv.drew.blk 0
      have cb : wr.drew.cell? ⟨B, 1, none⟩ = some (.slice (some ⟨gw, 0, none⟩) d.pend.length cw0) := Joins.cell_of_block hv.drew.blk 1
      have nxx : RefV F (wr.drew.setCell ⟨gk, p.1, none⟩ (.slice (some ⟨gu, 0, none⟩) 32 32)) B (.slice (some ⟨gk, 0, none⟩) d.kept.length ck0) (.slice (some ⟨gw, 0, none⟩) d.pend.length cw0) { d.step with kept := (d.pend.take (i + 1)).foldl put d.kept } := by rw [puts_take hpi]; exact nxt
      have NF := Lib.hid ((hfr.trans (Frm.of_below (F := F) (Below.refl _ wr).drew) (fun k hk => .inl hk)).trans (Frm.setCell wr.drew p.1 (.slice (some ⟨gu, 0, none⟩) 32 32) hFg) (fun k hk => .inl hk))
      have hb1 := hv.drew.blk
      obtain ⟨p1, hp1⟩ : ∃ p1, p.1 = p1 := ⟨_, rfl⟩
      rw [hp1] at k1 k3 k4 hpk nxx NF
      obtain ⟨np, hnp⟩ : ∃ np, d.pend.length = np := ⟨_, rfl⟩
      obtain ⟨nk, hnk⟩ : ∃ nk, d.kept.length = nk := ⟨_, rfl⟩
      obtain ⟨S, hS⟩ : ∃ S : World → Prop, S = fun w' => w'.cell? ⟨B, 0, none⟩ = some (.slice (some ⟨gk, 0, none⟩) nk ck0) ∧ w'.cell? ⟨B, 1, none⟩ = some (.slice (some ⟨gw, 0, none⟩) np cw0) ∧ w'.cell? ⟨gw, i * 2, none⟩ = some (.int .i64 (p1 : Int)) ∧ w'.cell? ⟨gw, i * 2 + 1, none⟩ = some (.slice (some ⟨gu, 0, none⟩) 32 32) := ⟨_, rfl⟩
      have hSS : Hid (∀ w', S w' → w'.cell? ⟨B, 0, none⟩ = some (.slice (some ⟨gk, 0, none⟩) nk ck0) ∧ w'.cell? ⟨B, 1, none⟩ = some (.slice (some ⟨gw, 0, none⟩) np cw0) ∧ w'.cell? ⟨gw, i * 2, none⟩ = some (.int .i64 (p1 : Int)) ∧ w'.cell? ⟨gw, i * 2 + 1, none⟩ = some (.slice (some ⟨gu, 0, none⟩) 32 32)) := fun w' h => by rw [hS] at h; exact h
      rw [hnp] at cb hlt
      rw [hnk] at ca hpk
      have s0 : S wr.drew := by rw [hS]; exact ⟨ca, cb, k1, k2⟩
      have oth : ∀ (b o : Nat), b ≠ gk → (wr.drew.setCell ⟨gk, p1, none⟩ (.slice (some ⟨gu, 0, none⟩) 32 32)).cell? ⟨b, o, none⟩ = wr.drew.cell? ⟨b, o, none⟩ := fun b o hb => World.cell?_of_block (Below.heap_setCell _ _ _ _ hb)
      have s1 : S (wr.drew.setCell ⟨gk, p1, none⟩ (.slice (some ⟨gu, 0, none⟩) 32 32)) := by
        rw [hS]
        exact ⟨(oth _ _ (fun e => n2 e.symm)).trans ca, (oth _ _ (fun e => n2 e.symm)).trans cb, (oth _ _ (fun e => n1 e.symm)).trans k1, (oth _ _ (fun e => n1 e.symm)).trans k2⟩
      have hp0 : (0 : Int) ≤ (p1 : Int) := by omega
      have hpk' : (p1 : Int) < (nk : Int) := by omega
      have hii' : (i : Int) < (np : Int) := by omega
      rw [hnp] at c1
      rw [hnp, hnk] at nxx
      rw [hnp, hnk]
      have NX := Lib.hid nxx
      clear nxx
      have NP := Lib.hid hnp
      have NK := Lib.hid hnk
      obtain ⟨ov, k3'⟩ : ∃ v, wr.cell? ⟨gk, p1, none⟩ = some v := Option.isSome_iff_exists.1 k3
      clear hS oth ca cb k1 k2 hv hfr hb1 nxt hpm hnp hnk hii hpi hp1 k3
      go_wp2_with fail
      refine wp_region_held (S := S) (by kernel_rfl) ?_
      change wpAnyH _ _ _ _ _ _ _ _ (World.drew _)
      refine wpAnyH_take (i := 0) (v := .pointer (some ⟨B, 0, none⟩)) rfl (by kernel_rfl) (by kernel_rfl) (by kernel_rfl) (fun _ _ _ h => h) (.inl ⟨by rfl, by intro w hw; go_simp⟩) s0 ?_
      try simp only [Act.put, List.getElem_toArray, List.getElem_cons_zero, List.getElem_cons_succ, List.setIfInBounds_toArray, List.set_cons_zero, List.set_cons_succ]
      refine wpAnyH_take (i := 1) (v := .pointer (some ⟨B, 0, none⟩)) rfl (by kernel_rfl) (by kernel_rfl) (by kernel_rfl) (fun _ _ _ h => h) (.inl ⟨by rfl, by intro w hw; go_simp⟩) s0 ?_
      try simp only [Act.put, List.getElem_toArray, List.getElem_cons_zero, List.getElem_cons_succ, List.setIfInBounds_toArray, List.set_cons_zero, List.set_cons_succ]
      refine wpAnyH_take (i := 2) (v := .pointer (some ⟨B, 0, none⟩)) rfl (by kernel_rfl) (by kernel_rfl) (by kernel_rfl) (fun _ _ _ h => h) (.inl ⟨by rfl, by intro w hw; go_simp⟩) s0 ?_
      try simp only [Act.put, List.getElem_toArray, List.getElem_cons_zero, List.getElem_cons_succ, List.setIfInBounds_toArray, List.set_cons_zero, List.set_cons_succ]
      refine wpAnyH_take (i := 3) (v := .slice (some ⟨gk, 0, none⟩) nk ck0) rfl (by kernel_rfl) (by kernel_rfl) (by kernel_rfl) (fun _ _ _ h => h) (.inl ⟨by rfl, by intro w hw; have h := hSS.out w hw; obtain ⟨h1, h2, h3, h4⟩ := h; go_simp⟩) s0 ?_
      try simp only [Act.put, List.getElem_toArray, List.getElem_cons_zero, List.getElem_cons_succ, List.setIfInBounds_toArray, List.set_cons_zero, List.set_cons_succ]
      refine wpAnyH_take (i := 4) (v := .pointer (some ⟨B, 0, none⟩)) rfl (by kernel_rfl) (by kernel_rfl) (by kernel_rfl) (fun _ _ _ h => h) (.inl ⟨by rfl, by intro w hw; go_simp⟩) s0 ?_
      try simp only [Act.put, List.getElem_toArray, List.getElem_cons_zero, List.getElem_cons_succ, List.setIfInBounds_toArray, List.set_cons_zero, List.set_cons_succ]
      refine wpAnyH_take (i := 5) (v := .pointer (some ⟨B, 0, none⟩)) rfl (by kernel_rfl) (by kernel_rfl) (by kernel_rfl) (fun _ _ _ h => h) (.inl ⟨by rfl, by intro w hw; go_simp⟩) s0 ?_
      try simp only [Act.put, List.getElem_toArray, List.getElem_cons_zero, List.getElem_cons_succ, List.setIfInBounds_toArray, List.set_cons_zero, List.set_cons_succ]
      refine wpAnyH_take (i := 6) (v := .pointer (some ⟨B, 1, none⟩)) rfl (by kernel_rfl) (by kernel_rfl) (by kernel_rfl) (fun _ _ _ h => h) (.inl ⟨by rfl, by intro w hw; go_simp⟩) s0 ?_
      try simp only [Act.put, List.getElem_toArray, List.getElem_cons_zero, List.getElem_cons_succ, List.setIfInBounds_toArray, List.set_cons_zero, List.set_cons_succ]
      refine wpAnyH_take (i := 7) (v := .slice (some ⟨gw, 0, none⟩) np cw0) rfl (by kernel_rfl) (by kernel_rfl) (by kernel_rfl) (fun _ _ _ h => h) (.inl ⟨by rfl, by intro w hw; have h := hSS.out w hw; obtain ⟨h1, h2, h3, h4⟩ := h; go_simp⟩) s0 ?_
      try simp only [Act.put, List.getElem_toArray, List.getElem_cons_zero, List.getElem_cons_succ, List.setIfInBounds_toArray, List.set_cons_zero, List.set_cons_succ]
      refine wpAnyH_take (i := 8) (v := .int .i64 (i : Int)) rfl (by kernel_rfl) (by kernel_rfl) (by kernel_rfl) (fun _ _ _ h => h) (.inl ⟨by rfl, by intro w hw; go_simp⟩) s0 ?_
      try simp only [Act.put, List.getElem_toArray, List.getElem_cons_zero, List.getElem_cons_succ, List.setIfInBounds_toArray, List.set_cons_zero, List.set_cons_succ]
      refine wpAnyH_take (i := 9) (v := .pointer (some ⟨gw, i * 2, none⟩)) rfl (by kernel_rfl) (by kernel_rfl) (by kernel_rfl) (fun _ _ _ h => h) (.inl ⟨by rfl, by intro w hw; go_simp⟩) s0 ?_
      try simp only [Act.put, List.getElem_toArray, List.getElem_cons_zero, List.getElem_cons_succ, List.setIfInBounds_toArray, List.set_cons_zero, List.set_cons_succ]
      refine wpAnyH_take (i := 10) (v := .pointer (some ⟨gw, i * 2, none⟩)) rfl (by kernel_rfl) (by kernel_rfl) (by kernel_rfl) (fun _ _ _ h => h) (.inl ⟨by rfl, by intro w hw; go_simp⟩) s0 ?_
      try simp only [Act.put, List.getElem_toArray, List.getElem_cons_zero, List.getElem_cons_succ, List.setIfInBounds_toArray, List.set_cons_zero, List.set_cons_succ]
      refine wpAnyH_take (i := 11) (v := .int .i64 (p1 : Int)) rfl (by kernel_rfl) (by kernel_rfl) (by kernel_rfl) (fun _ _ _ h => h) (.inl ⟨by rfl, by intro w hw; have h := hSS.out w hw; obtain ⟨h1, h2, h3, h4⟩ := h; go_simp⟩) s0 ?_
      try simp only [Act.put, List.getElem_toArray, List.getElem_cons_zero, List.getElem_cons_succ, List.setIfInBounds_toArray, List.set_cons_zero, List.set_cons_succ]
      refine wpAnyH_take (i := 12) (v := .pointer (some ⟨B, 0, none⟩)) rfl (by kernel_rfl) (by kernel_rfl) (by kernel_rfl) (fun _ _ _ h => h) (.inl ⟨by rfl, by intro w hw; go_simp⟩) s0 ?_
      try simp only [Act.put, List.getElem_toArray, List.getElem_cons_zero, List.getElem_cons_succ, List.setIfInBounds_toArray, List.set_cons_zero, List.set_cons_succ]
      refine wpAnyH_take (i := 13) (v := .pointer (some ⟨B, 0, none⟩)) rfl (by kernel_rfl) (by kernel_rfl) (by kernel_rfl) (fun _ _ _ h => h) (.inl ⟨by rfl, by intro w hw; go_simp⟩) s0 ?_
      try simp only [Act.put, List.getElem_toArray, List.getElem_cons_zero, List.getElem_cons_succ, List.setIfInBounds_toArray, List.set_cons_zero, List.set_cons_succ]
      refine wpAnyH_take (i := 14) (v := .pointer (some ⟨B, 1, none⟩)) rfl (by kernel_rfl) (by kernel_rfl) (by kernel_rfl) (fun _ _ _ h => h) (.inl ⟨by rfl, by intro w hw; go_simp⟩) s0 ?_
      try simp only [Act.put, List.getElem_toArray, List.getElem_cons_zero, List.getElem_cons_succ, List.setIfInBounds_toArray, List.set_cons_zero, List.set_cons_succ]
      refine wpAnyH_take (i := 15) (v := .slice (some ⟨gw, 0, none⟩) np cw0) rfl (by kernel_rfl) (by kernel_rfl) (by kernel_rfl) (fun _ _ _ h => h) (.inl ⟨by rfl, by intro w hw; have h := hSS.out w hw; obtain ⟨h1, h2, h3, h4⟩ := h; go_simp⟩) s0 ?_
      try simp only [Act.put, List.getElem_toArray, List.getElem_cons_zero, List.getElem_cons_succ, List.setIfInBounds_toArray, List.set_cons_zero, List.set_cons_succ]
      refine wpAnyH_take (i := 16) (v := .int .i64 (i : Int)) rfl (by kernel_rfl) (by kernel_rfl) (by kernel_rfl) (fun _ _ _ h => h) (.inl ⟨by rfl, by intro w hw; go_simp⟩) s0 ?_
      try simp only [Act.put, List.getElem_toArray, List.getElem_cons_zero, List.getElem_cons_succ, List.setIfInBounds_toArray, List.set_cons_zero, List.set_cons_succ]
      refine wpAnyH_take (i := 17) (v := .pointer (some ⟨gw, i * 2, none⟩)) rfl (by kernel_rfl) (by kernel_rfl) (by kernel_rfl) (fun _ _ _ h => h) (.inl ⟨by rfl, by intro w hw; go_simp⟩) s0 ?_
      try simp only [Act.put, List.getElem_toArray, List.getElem_cons_zero, List.getElem_cons_succ, List.setIfInBounds_toArray, List.set_cons_zero, List.set_cons_succ]
      refine wpAnyH_take (i := 18) (v := .pointer (some ⟨gw, i * 2 + 1, none⟩)) rfl (by kernel_rfl) (by kernel_rfl) (by kernel_rfl) (fun _ _ _ h => h) (.inl ⟨by rfl, by intro w hw; go_simp⟩) s0 ?_
      try simp only [Act.put, List.getElem_toArray, List.getElem_cons_zero, List.getElem_cons_succ, List.setIfInBounds_toArray, List.set_cons_zero, List.set_cons_succ]
      refine wpAnyH_take (i := 19) (v := .slice (some ⟨gu, 0, none⟩) 32 32) rfl (by kernel_rfl) (by kernel_rfl) (by kernel_rfl) (fun _ _ _ h => h) (.inl ⟨by rfl, by intro w hw; have h := hSS.out w hw; obtain ⟨h1, h2, h3, h4⟩ := h; go_simp⟩) s0 ?_
      try simp only [Act.put, List.getElem_toArray, List.getElem_cons_zero, List.getElem_cons_succ, List.setIfInBounds_toArray, List.set_cons_zero, List.set_cons_succ]
      refine wpAnyH_take (i := 20) (v := .pointer (some ⟨gk, p1, none⟩)) rfl (by kernel_rfl) (by kernel_rfl) (by kernel_rfl) (fun _ _ _ h => h) (.inl ⟨by rfl, by intro w hw; go_simp⟩) s0 ?_
      try simp only [Act.put, List.getElem_toArray, List.getElem_cons_zero, List.getElem_cons_succ, List.setIfInBounds_toArray, List.set_cons_zero, List.set_cons_succ]
      refine wpAnyH_one (i := 21) (by kernel_rfl) rfl (by rfl) (fun Kc hK => ?_)
      go_simp
      refine hK _ _ s1 ?_
      clear hK Kc
      try simp only [Act.put, List.getElem_toArray, List.getElem_cons_zero, List.getElem_cons_succ, List.setIfInBounds_toArray, List.set_cons_zero, List.set_cons_succ]
      refine wpAnyH_done (by kernel_rfl) ?_ _
      go_wp2_with fail
      go_roundw
      case rel => exact ⟨i + 1, rfl, by omega, NF.out, NX.out⟩
      case measure => simp only [intOf]; omega
    · have hii : ¬ (i : Int) < (d.pend.length : Int) := by omega
      obtain rfl : i = d.pend.length := by omega
      rw [List.take_length] at hv
      clear HV
      have fin : ∀ x : Int, x = ((d.syncs + 1 : Nat) : Int) → RefOf F w B { d.step with kept := d.pend.foldl put d.kept, pend := [], syncs := d.syncs + 1 } (.int .i64 0) (.returned (.int .i64 0)) ((wr.setCell ⟨B, 1, none⟩ (.slice none 0 0)).setCell ⟨B, 5, none⟩ (.int .i64 x)) := by
        intro x hx
        have hw0 : RWait F wr (.slice none 0 0) [] := ⟨⟨[], rfl, World.ownsRow_nil _ _ _ _, fun i p h => by simp at h⟩, fun k hk => by simp [Value.ownBlock] at hk⟩
        have hkp : RKept F wr (.slice ak d.kept.length ck0) (d.pend.foldl put d.kept) := hv.kept
        have s1 := ref_set (e := { d.step with kept := d.pend.foldl put d.kept, pend := [] }) hv.blk hkp hw0 1 (.slice none 0 0) (by simp [rcells]) hv.f HOK.out hv.arm hv.lt
        have s2 := ref_set (e := { d.step with kept := d.pend.foldl put d.kept, pend := [], syncs := d.syncs + 1 }) s1.blk s1.kept s1.wait 5 (.int .i64 x) (by simp [rcells, hx]) s1.f HOK.out s1.arm s1.lt
        have ff : Frm F w ((wr.setCell ⟨B, 1, none⟩ (.slice none 0 0)).setCell ⟨B, 5, none⟩ (.int .i64 x)) := (hfr.trans (Frm.setCell wr 1 _ hv.f) (fun k hk => .inl hk)).trans (Frm.setCell _ 5 _ hv.f) (fun k hk => .inl hk)
        exact ⟨rfl, ff, IsRef.grow ⟨_, _, s2⟩ hFl ff.size⟩
      have FN := Lib.hid fin
      have f1 : wr.frozen? ⟨B, 1, none⟩ = false := Joins.unfrozen_of_block hv.blk 1
      have hb1 := Joins.block_setCell (i := 1) hv.blk (.slice none 0 0)
      have c5 : (wr.setCell ⟨B, 1, none⟩ (.slice none 0 0)).cell? ⟨B, 5, none⟩ = some (.int .i64 (d.syncs : Int)) := Joins.cell_of_block hb1 5
      have f5 : (wr.setCell ⟨B, 1, none⟩ (.slice none 0 0)).frozen? ⟨B, 5, none⟩ = false := Joins.unfrozen_of_block hb1 5
      have hyi : (d.syncs : Int) ≤ 100000 := by omega
      have hy0 : (0 : Int) ≤ (d.syncs : Int) := by omega
      clear fin hb1 hv hfr
      go_wp2
      go_ret
      exact FN.out _ (by omega)
end Go.Proofs.Ytopemjbakpahfaa
