/-
  Contracts and plain laws, part 19 (texts: Ref4). No condition but what each states.
-/
import Derived.Test.YtopemjbakpahfaaSn18
/-
  The reference's Restart. No condition but that its numbers are small.
-/
namespace Go.Proofs.Ytopemjbakpahfaa
open Go.RowKit Disk
set_option linter.unusedSimpArgs false
set_option linter.unusedVariables false
theorem ret_bool_mem {l : List Int} {i : Nat} {x : Int} (h : i < l.length) : decide (x ∈ l.take (i + 1)) = (decide (x ∈ l.take i) || (l.getD i 0 == x)) := by
  rw [take_snoc l i 0 h, Bool.eq_iff_iff]
  simp
  constructor
  · rintro (h | h)
    · exact .inl h
    · exact .inr h.symm
  · rintro (h | h)
    · exact .inl h
    · exact .inr h.symm
set_option maxRecDepth 100000 in
set_option maxHeartbeats 8000000 in
theorem rrestart_any {F : Nat → Prop} {w : World} {B : Nat} {d : Dev} (h : IsRef F w B d) (hp : d.pend.length ≤ 100000) (l : List Int) (a : Option Addr) (cap : Nat) (hl : (l.length : Int) ≤ 9223372036854775807)
    (hsrc : ∀ w', Frm F w w' → RI w' a l) :
    Calls Try.prog 62 #[.pointer (some ⟨B, 0, none⟩), .slice a l.length cap] w (RefOf F w B (d.restart l).1 (.int .i64 ((d.restart l).2 : Nat))) := by
  have hFl := h.lt
  have HOK := Lib.hid (restart_ok h.ok l)
  obtain ⟨vk, vw, hv1⟩ := h
  obtain ⟨aw, cw0, rfl⟩ := rwait_form hv1.wait
  obtain ⟨ak, ck0, rfl⟩ := rkept_form hv1.kept
  have V1 := Lib.hid hv1
  clear hv1
  go_enter Try.func62, Try.ntmps62
  go_wp2_with fail
  go_loopw [5, 6] (fun cv iv wr => ∃ i : Nat, iv = .int .i64 i ∧ i ≤ d.pend.length ∧ cv = .int .i64 ((sel l 0 (d.pend.take i)).length : Nat) ∧ Frm F w wr ∧ RefV F wr B (.slice ak d.kept.length ck0) (.slice aw d.pend.length cw0) { d with kept := (sel l 0 (d.pend.take i)).foldl put d.kept }) (fun _ iv _ => d.pend.length - (intOf iv).toNat)
  case atStart => exact ⟨0, rfl, Nat.zero_le _, rfl, Frm.refl _ _, V1.out⟩
  case round =>
    obtain ⟨i, rfl, hi, rfl, hfr, hv⟩ := hrel
    have c1 : wr.cell? ⟨B, 1, none⟩ = some (.slice aw d.pend.length cw0) := Joins.cell_of_block hv.blk 1
    have hsl := sel_len l (d.pend.take i) 0
    rw [List.length_take] at hsl
    by_cases hlt : i < d.pend.length
    · have hi0 : (0 : Int) ≤ (i : Int) := by omega
      have hii : (i : Int) < (d.pend.length : Int) := by omega
      have HF := Lib.hid hfr
      have HV := Lib.hid hv
      have RIW := Lib.hid (hsrc wr hfr)
      clear hfr hv
      go_wp2_with fail
      go_loop [7, 8] (fun nv kv => ∃ k : Nat, kv = .int .i64 k ∧ k ≤ l.length ∧ nv = .bool (decide ((i : Int) ∈ l.take k))) (fun _ kv => l.length - (intOf kv).toNat)
      case atStart => exact ⟨0, rfl, Nat.zero_le _, by simp⟩
      case round =>
        obtain ⟨k, rfl, hk, rfl⟩ := hrel
        by_cases hkl : k < l.length
        · have hk0 : (0 : Int) ≤ (k : Int) := by omega
          have hki : (k : Int) < (l.length : Int) := by omega
          obtain ⟨g, off, rfl, _, hc⟩ := RIW.out k hkl
          have m0 := Lib.hid (ret_bool_mem (x := (i : Int)) hkl)
          generalize l.getD k 0 = y at hc m0
          generalize decide ((i : Int) ∈ l.take k) = b0 at m0
          cases b0
          · cases hb : (y == (i : Int))
            all_goals
              go_wp2_with fail
              go_round
              case rel => exact ⟨k + 1, rfl, by omega, by rw [m0.out, hb]; rfl⟩
              case measure => simp only [intOf]; omega
          · go_wp2_with fail
            go_round
            case rel => exact ⟨k + 1, rfl, by omega, by rw [m0.out]; rfl⟩
            case measure => simp only [intOf]; omega
        · have hki : ¬ (k : Int) < (l.length : Int) := by omega
          obtain rfl : k = l.length := by omega
          rw [List.take_length]
          have hfr := HF.out
          have hv := HV.out
          by_cases hmem : (i : Int) ∈ l
          · rw [decide_eq_true hmem]
            have HMEM := Lib.hid hmem
            clear hmem HF HV
            obtain ⟨p, hpi⟩ : ∃ p, d.pend[i]? = some p := ⟨_, List.getElem?_eq_getElem hlt⟩
            have st := sel_take (keep := l) hpi
            rw [if_pos HMEM.out] at st
            have LN : Hid ((sel l 0 (d.pend.take (i + 1))).length = (sel l 0 (d.pend.take i)).length + 1) := Lib.hid (by rw [st]; simp)
            obtain ⟨gk, ck, gw, cw, u, RK⟩ := ref_keep hv.drew (i := i) (p := p) hpi
            obtain ⟨evk, evw, k1, k2, k3, k4, n1, n2, hFg, ⟨gu, rfl⟩, nxt⟩ := RK
            simp only [Value.slice.injEq] at evk evw
            obtain ⟨rfl, _, rfl⟩ := evk
            obtain ⟨rfl, _, rfl⟩ := evw
            have hpm := (hv.ok.2 p (List.mem_of_getElem? (show (({ d with kept := (sel l 0 (d.pend.take i)).foldl put d.kept } : Dev).pend)[i]? = some p from hpi))).1
            have hpk : p.1 < d.kept.length := by
              have : p.1 < ((sel l 0 (d.pend.take i)).foldl put d.kept).length := hpm
              rwa [puts_length] at this
            have ca : wr.drew.cell? ⟨B, 0, none⟩ = some (.slice (some ⟨gk, 0, none⟩) d.kept.length ck0) := Joins.cell_of_block hv.drew.blk 0
            have cb : wr.drew.cell? ⟨B, 1, none⟩ = some (.slice (some ⟨gw, 0, none⟩) d.pend.length cw0) := Joins.cell_of_block hv.drew.blk 1
            have nxx : RefV F (wr.drew.setCell ⟨gk, p.1, none⟩ (.slice (some ⟨gu, 0, none⟩) 32 32)) B (.slice (some ⟨gk, 0, none⟩) d.kept.length ck0) (.slice (some ⟨gw, 0, none⟩) d.pend.length cw0) { d with kept := (sel l 0 (d.pend.take (i + 1))).foldl put d.kept } := by rw [st, List.foldl_append]; exact nxt
            have NF := Lib.hid ((hfr.trans (Frm.of_below (F := F) (Below.refl _ wr).drew) (fun k hk => .inl hk)).trans (Frm.setCell wr.drew p.1 (.slice (some ⟨gu, 0, none⟩) 32 32) hFg) (fun k hk => .inl hk))
            have hb1 := hv.drew.blk
            obtain ⟨p1, hp1⟩ : ∃ p1, p.1 = p1 := ⟨_, rfl⟩
            rw [hp1] at k1 k3 k4 hpk nxx NF
            obtain ⟨np, hnp⟩ : ∃ np, d.pend.length = np := ⟨_, rfl⟩
            obtain ⟨nk, hnk⟩ : ∃ nk, d.kept.length = nk := ⟨_, rfl⟩
            obtain ⟨S, hS⟩ : ∃ S : World → Prop, S = fun w' => w'.cell? ⟨B, 0, none⟩ = some (.slice (some ⟨gk, 0, none⟩) nk ck0) ∧ w'.cell? ⟨B, 1, none⟩ = some (.slice (some ⟨gw, 0, none⟩) np cw0) ∧ w'.cell? ⟨gw, i * 2, none⟩ = some (.int .i64 (p1 : Int)) ∧ w'.cell? ⟨gw, i * 2 + 1, none⟩ = some (.slice (some ⟨gu, 0, none⟩) 32 32) := ⟨_, rfl⟩
            have hSS : Hid (∀ w', S w' → w'.cell? ⟨B, 0, none⟩ = some (.slice (some ⟨gk, 0, none⟩) nk ck0) ∧ w'.cell? ⟨B, 1, none⟩ = some (.slice (some ⟨gw, 0, none⟩) np cw0) ∧ w'.cell? ⟨gw, i * 2, none⟩ = some (.int .i64 (p1 : Int)) ∧ w'.cell? ⟨gw, i * 2 + 1, none⟩ = some (.slice (some ⟨gu, 0, none⟩) 32 32)) := fun w' h => by rw [hS] at h; exact h
            rw [hnp] at cb hlt
            rw [hnk] at ca hpk
            have s0 : S wr.drew := by rw [hS]; exact ⟨ca, cb, k1, k2⟩
            have oth : ∀ (b o : Nat), b ≠ gk → (wr.drew.setCell ⟨gk, p1, none⟩ (.slice (some ⟨gu, 0, none⟩) 32 32)).cell? ⟨b, o, none⟩ = wr.drew.cell? ⟨b, o, none⟩ := fun b o hb => World.cell?_of_block (Below.heap_setCell _ _ _ _ hb)
            have s1 : S (wr.drew.setCell ⟨gk, p1, none⟩ (.slice (some ⟨gu, 0, none⟩) 32 32)) := by
              rw [hS]
              exact ⟨(oth _ _ (fun e => n2 e.symm)).trans ca, (oth _ _ (fun e => n2 e.symm)).trans cb, (oth _ _ (fun e => n1 e.symm)).trans k1, (oth _ _ (fun e => n1 e.symm)).trans k2⟩
            have hp0 : (0 : Int) ≤ (p1 : Int) := by omega
            have hpk' : (p1 : Int) < (nk : Int) := by omega
            have hii' : (i : Int) < (np : Int) := by omega
            rw [hnp] at c1
            rw [hnp, hnk] at nxx
            try rw [hnp]
            try rw [hnk]
            have NX := Lib.hid nxx
            clear nxx
            have NP := Lib.hid hnp
            have NK := Lib.hid hnk
            obtain ⟨ov, k3'⟩ : ∃ v, wr.cell? ⟨gk, p1, none⟩ = some v := Option.isSome_iff_exists.1 k3
            clear st hS oth ca cb k1 k2 hv hfr hb1 nxt hpm hnp hnk hii hpi hp1 k3
            go_wp2_with fail
            refine wp_region_held (S := S) (by kernel_rfl) ?_
            change wpAnyH _ _ _ _ _ _ _ _ (World.drew _)
            refine wpAnyH_take (i := 0) (v := .pointer (some ⟨B, 0, none⟩)) rfl (by kernel_rfl) (by kernel_rfl) (by kernel_rfl) (fun _ _ _ h => h) (.inl ⟨by rfl, by intro w hw; go_simp⟩) s0 ?_
            try simp only [Act.put, List.getElem_toArray, List.getElem_cons_zero, List.getElem_cons_succ, List.setIfInBounds_toArray, List.set_cons_zero, List.set_cons_succ]
            refine wpAnyH_take (i := 1) (v := .pointer (some ⟨B, 0, none⟩)) rfl (by kernel_rfl) (by kernel_rfl) (by kernel_rfl) (fun _ _ _ h => h) (.inl ⟨by rfl, by intro w hw; go_simp⟩) s0 ?_
            try simp only [Act.put, List.getElem_toArray, List.getElem_cons_zero, List.getElem_cons_succ, List.setIfInBounds_toArray, List.set_cons_zero, List.set_cons_succ]
            refine wpAnyH_take (i := 2) (v := .pointer (some ⟨B, 0, none⟩)) rfl (by kernel_rfl) (by kernel_rfl) (by kernel_rfl) (fun _ _ _ h => h) (.inl ⟨by rfl, by intro w hw; go_simp⟩) s0 ?_
            try simp only [Act.put, List.getElem_toArray, List.getElem_cons_zero, List.getElem_cons_succ, List.setIfInBounds_toArray, List.set_cons_zero, List.set_cons_succ]
            refine wpAnyH_take (i := 3) (v := .slice (some ⟨gk, 0, none⟩) nk ck0) rfl (by kernel_rfl) (by kernel_rfl) (by kernel_rfl) (fun _ _ _ h => h) (.inl ⟨by rfl, by intro w hw; have h := hSS.out w hw; obtain ⟨h1, h2, h3, h4⟩ := h; go_simp⟩) s0 ?_
            try simp only [Act.put, List.getElem_toArray, List.getElem_cons_zero, List.getElem_cons_succ, List.setIfInBounds_toArray, List.set_cons_zero, List.set_cons_succ]
            refine wpAnyH_take (i := 4) (v := .pointer (some ⟨B, 0, none⟩)) rfl (by kernel_rfl) (by kernel_rfl) (by kernel_rfl) (fun _ _ _ h => h) (.inl ⟨by rfl, by intro w hw; go_simp⟩) s0 ?_
            try simp only [Act.put, List.getElem_toArray, List.getElem_cons_zero, List.getElem_cons_succ, List.setIfInBounds_toArray, List.set_cons_zero, List.set_cons_succ]
            refine wpAnyH_take (i := 5) (v := .pointer (some ⟨B, 0, none⟩)) rfl (by kernel_rfl) (by kernel_rfl) (by kernel_rfl) (fun _ _ _ h => h) (.inl ⟨by rfl, by intro w hw; go_simp⟩) s0 ?_
            try simp only [Act.put, List.getElem_toArray, List.getElem_cons_zero, List.getElem_cons_succ, List.setIfInBounds_toArray, List.set_cons_zero, List.set_cons_succ]
            refine wpAnyH_take (i := 6) (v := .pointer (some ⟨B, 1, none⟩)) rfl (by kernel_rfl) (by kernel_rfl) (by kernel_rfl) (fun _ _ _ h => h) (.inl ⟨by rfl, by intro w hw; go_simp⟩) s0 ?_
            try simp only [Act.put, List.getElem_toArray, List.getElem_cons_zero, List.getElem_cons_succ, List.setIfInBounds_toArray, List.set_cons_zero, List.set_cons_succ]
            refine wpAnyH_take (i := 7) (v := .slice (some ⟨gw, 0, none⟩) np cw0) rfl (by kernel_rfl) (by kernel_rfl) (by kernel_rfl) (fun _ _ _ h => h) (.inl ⟨by rfl, by intro w hw; have h := hSS.out w hw; obtain ⟨h1, h2, h3, h4⟩ := h; go_simp⟩) s0 ?_
            try simp only [Act.put, List.getElem_toArray, List.getElem_cons_zero, List.getElem_cons_succ, List.setIfInBounds_toArray, List.set_cons_zero, List.set_cons_succ]
            refine wpAnyH_take (i := 8) (v := .int .i64 (i : Int)) rfl (by kernel_rfl) (by kernel_rfl) (by kernel_rfl) (fun _ _ _ h => h) (.inl ⟨by rfl, by intro w hw; go_simp⟩) s0 ?_
            try simp only [Act.put, List.getElem_toArray, List.getElem_cons_zero, List.getElem_cons_succ, List.setIfInBounds_toArray, List.set_cons_zero, List.set_cons_succ]
            refine wpAnyH_take (i := 9) (v := .pointer (some ⟨gw, i * 2, none⟩)) rfl (by kernel_rfl) (by kernel_rfl) (by kernel_rfl) (fun _ _ _ h => h) (.inl ⟨by rfl, by intro w hw; go_simp⟩) s0 ?_
            try simp only [Act.put, List.getElem_toArray, List.getElem_cons_zero, List.getElem_cons_succ, List.setIfInBounds_toArray, List.set_cons_zero, List.set_cons_succ]
            refine wpAnyH_take (i := 10) (v := .pointer (some ⟨gw, i * 2, none⟩)) rfl (by kernel_rfl) (by kernel_rfl) (by kernel_rfl) (fun _ _ _ h => h) (.inl ⟨by rfl, by intro w hw; go_simp⟩) s0 ?_
            try simp only [Act.put, List.getElem_toArray, List.getElem_cons_zero, List.getElem_cons_succ, List.setIfInBounds_toArray, List.set_cons_zero, List.set_cons_succ]
            refine wpAnyH_take (i := 11) (v := .int .i64 (p1 : Int)) rfl (by kernel_rfl) (by kernel_rfl) (by kernel_rfl) (fun _ _ _ h => h) (.inl ⟨by rfl, by intro w hw; have h := hSS.out w hw; obtain ⟨h1, h2, h3, h4⟩ := h; go_simp⟩) s0 ?_
            try simp only [Act.put, List.getElem_toArray, List.getElem_cons_zero, List.getElem_cons_succ, List.setIfInBounds_toArray, List.set_cons_zero, List.set_cons_succ]
            refine wpAnyH_take (i := 12) (v := .pointer (some ⟨B, 0, none⟩)) rfl (by kernel_rfl) (by kernel_rfl) (by kernel_rfl) (fun _ _ _ h => h) (.inl ⟨by rfl, by intro w hw; go_simp⟩) s0 ?_
            try simp only [Act.put, List.getElem_toArray, List.getElem_cons_zero, List.getElem_cons_succ, List.setIfInBounds_toArray, List.set_cons_zero, List.set_cons_succ]
            refine wpAnyH_take (i := 13) (v := .pointer (some ⟨B, 0, none⟩)) rfl (by kernel_rfl) (by kernel_rfl) (by kernel_rfl) (fun _ _ _ h => h) (.inl ⟨by rfl, by intro w hw; go_simp⟩) s0 ?_
            try simp only [Act.put, List.getElem_toArray, List.getElem_cons_zero, List.getElem_cons_succ, List.setIfInBounds_toArray, List.set_cons_zero, List.set_cons_succ]
            refine wpAnyH_take (i := 14) (v := .pointer (some ⟨B, 1, none⟩)) rfl (by kernel_rfl) (by kernel_rfl) (by kernel_rfl) (fun _ _ _ h => h) (.inl ⟨by rfl, by intro w hw; go_simp⟩) s0 ?_
            try simp only [Act.put, List.getElem_toArray, List.getElem_cons_zero, List.getElem_cons_succ, List.setIfInBounds_toArray, List.set_cons_zero, List.set_cons_succ]
            refine wpAnyH_take (i := 15) (v := .slice (some ⟨gw, 0, none⟩) np cw0) rfl (by kernel_rfl) (by kernel_rfl) (by kernel_rfl) (fun _ _ _ h => h) (.inl ⟨by rfl, by intro w hw; have h := hSS.out w hw; obtain ⟨h1, h2, h3, h4⟩ := h; go_simp⟩) s0 ?_
            try simp only [Act.put, List.getElem_toArray, List.getElem_cons_zero, List.getElem_cons_succ, List.setIfInBounds_toArray, List.set_cons_zero, List.set_cons_succ]
            refine wpAnyH_take (i := 16) (v := .int .i64 (i : Int)) rfl (by kernel_rfl) (by kernel_rfl) (by kernel_rfl) (fun _ _ _ h => h) (.inl ⟨by rfl, by intro w hw; go_simp⟩) s0 ?_
            try simp only [Act.put, List.getElem_toArray, List.getElem_cons_zero, List.getElem_cons_succ, List.setIfInBounds_toArray, List.set_cons_zero, List.set_cons_succ]
            refine wpAnyH_take (i := 17) (v := .pointer (some ⟨gw, i * 2, none⟩)) rfl (by kernel_rfl) (by kernel_rfl) (by kernel_rfl) (fun _ _ _ h => h) (.inl ⟨by rfl, by intro w hw; go_simp⟩) s0 ?_
            try simp only [Act.put, List.getElem_toArray, List.getElem_cons_zero, List.getElem_cons_succ, List.setIfInBounds_toArray, List.set_cons_zero, List.set_cons_succ]
            refine wpAnyH_take (i := 18) (v := .pointer (some ⟨gw, i * 2 + 1, none⟩)) rfl (by kernel_rfl) (by kernel_rfl) (by kernel_rfl) (fun _ _ _ h => h) (.inl ⟨by rfl, by intro w hw; go_simp⟩) s0 ?_
            try simp only [Act.put, List.getElem_toArray, List.getElem_cons_zero, List.getElem_cons_succ, List.setIfInBounds_toArray, List.set_cons_zero, List.set_cons_succ]
            refine wpAnyH_take (i := 19) (v := .slice (some ⟨gu, 0, none⟩) 32 32) rfl (by kernel_rfl) (by kernel_rfl) (by kernel_rfl) (fun _ _ _ h => h) (.inl ⟨by rfl, by intro w hw; have h := hSS.out w hw; obtain ⟨h1, h2, h3, h4⟩ := h; go_simp⟩) s0 ?_
            try simp only [Act.put, List.getElem_toArray, List.getElem_cons_zero, List.getElem_cons_succ, List.setIfInBounds_toArray, List.set_cons_zero, List.set_cons_succ]
            refine wpAnyH_take (i := 20) (v := .pointer (some ⟨gk, p1, none⟩)) rfl (by kernel_rfl) (by kernel_rfl) (by kernel_rfl) (fun _ _ _ h => h) (.inl ⟨by rfl, by intro w hw; go_simp⟩) s0 ?_
            try simp only [Act.put, List.getElem_toArray, List.getElem_cons_zero, List.getElem_cons_succ, List.setIfInBounds_toArray, List.set_cons_zero, List.set_cons_succ]
            refine wpAnyH_one (i := 21) (by kernel_rfl) rfl (by rfl) (fun Kc hK => ?_)
            go_simp
            refine hK _ _ s1 ?_
            clear hK Kc
            try simp only [Act.put, List.getElem_toArray, List.getElem_cons_zero, List.getElem_cons_succ, List.setIfInBounds_toArray, List.set_cons_zero, List.set_cons_succ]
            refine wpAnyH_done (by kernel_rfl) ?_ _
            go_wp2_with fail
            go_roundw
            case rel => exact ⟨i + 1, rfl, by have := NP.out; omega, by rw [LN.out]; rfl, NF.out, by have h := NX.out; rw [← NP.out, ← NK.out] at h; exact h⟩
            case measure => have := NP.out; simp only [intOf]; omega
          · rw [decide_eq_false hmem]
            obtain ⟨p, hpi⟩ : ∃ p, d.pend[i]? = some p := ⟨_, List.getElem?_eq_getElem hlt⟩
            have st := sel_take (keep := l) hpi
            rw [if_neg hmem, List.append_nil] at st
            have ST := Lib.hid st
            clear st hpi hmem hfr hv
            go_wp2_with fail
            go_roundw
            case rel => exact ⟨i + 1, rfl, by omega, by rw [ST.out], HF.out, by rw [ST.out]; exact HV.out⟩
            case measure => simp only [intOf]; omega
    · have hii : ¬ (i : Int) < (d.pend.length : Int) := by omega
      obtain rfl : i = d.pend.length := by omega
      rw [List.take_length] at hv ⊢
      have fin : RefOf F w B (d.restart l).1 (.int .i64 ((d.restart l).2 : Nat)) (.returned (.int .i64 ((sel l 0 d.pend).length : Nat))) (((wr.setCell ⟨B, 1, none⟩ (.slice none 0 0)).setCell ⟨B, 2, none⟩ (.bool false)).setCell ⟨B, 3, none⟩ (.int .i64 0)) := by
        have hw0 : RWait F wr (.slice none 0 0) [] := ⟨⟨[], rfl, World.ownsRow_nil _ _ _ _, fun i p h => by simp at h⟩, fun k hk => by simp [Value.ownBlock] at hk⟩
        have hkp : RKept F wr (.slice ak d.kept.length ck0) ((sel l 0 d.pend).foldl put d.kept) := hv.kept
        have s1 := ref_set (e := { d with kept := (sel l 0 d.pend).foldl put d.kept, pend := [] }) hv.blk hkp hw0 1 (.slice none 0 0) (by simp [rcells]) hv.f HOK.out hv.arm hv.lt
        have s2 := ref_set (e := { d with kept := (sel l 0 d.pend).foldl put d.kept, pend := [], down := false }) s1.blk s1.kept s1.wait 2 (.bool false) (by simp [rcells]) s1.f HOK.out s1.arm s1.lt
        have s3 := ref_set (e := (d.restart l).1) s2.blk s2.kept s2.wait 3 (.int .i64 0) (by simp [rcells, Dev.restart]) s2.f HOK.out (by show 0 ≤ _; omega) s2.lt
        have ff : Frm F w (((wr.setCell ⟨B, 1, none⟩ (.slice none 0 0)).setCell ⟨B, 2, none⟩ (.bool false)).setCell ⟨B, 3, none⟩ (.int .i64 0)) := ((hfr.trans (Frm.setCell wr 1 _ hv.f) (fun k hk => .inl hk)).trans (Frm.setCell _ 2 _ hv.f) (fun k hk => .inl hk)).trans (Frm.setCell _ 3 _ hv.f) (fun k hk => .inl hk)
        exact ⟨rfl, ff, IsRef.grow ⟨_, _, s3⟩ hFl ff.size⟩
      have FN := Lib.hid fin
      have f1 : wr.frozen? ⟨B, 1, none⟩ = false := Joins.unfrozen_of_block hv.blk 1
      have hb1 := Joins.block_setCell (i := 1) hv.blk (.slice none 0 0)
      have c2 : (wr.setCell ⟨B, 1, none⟩ (.slice none 0 0)).cell? ⟨B, 2, none⟩ = some (.bool d.down) := Joins.cell_of_block hb1 2
      have f2 : (wr.setCell ⟨B, 1, none⟩ (.slice none 0 0)).frozen? ⟨B, 2, none⟩ = false := Joins.unfrozen_of_block hb1 2
      have hb2 := Joins.block_setCell (i := 2) hb1 (.bool false)
      have c3 : ((wr.setCell ⟨B, 1, none⟩ (.slice none 0 0)).setCell ⟨B, 2, none⟩ (.bool false)).cell? ⟨B, 3, none⟩ = some (.int .i64 (d.armed : Int)) := Joins.cell_of_block hb2 3
      have f3 : ((wr.setCell ⟨B, 1, none⟩ (.slice none 0 0)).setCell ⟨B, 2, none⟩ (.bool false)).frozen? ⟨B, 3, none⟩ = false := Joins.unfrozen_of_block hb2 3
      clear fin hb1 hb2 hv hfr
      go_wp2
      go_ret
      exact FN.out
end Go.Proofs.Ytopemjbakpahfaa
