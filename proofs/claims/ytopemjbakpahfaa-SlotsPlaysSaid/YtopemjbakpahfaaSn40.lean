/-
  Contracts and plain laws, part 40 (texts: S16). No condition but what each states.
-/
import Derived.Test.YtopemjbakpahfaaSn39
/-
  What a store tells as one text: checkpoint and records. No condition but that the numbers are small.
-/
namespace Go.Proofs.Ytopemjbakpahfaa
open Go.RowKit Disk Jour Crc Slot
set_option linter.unusedSimpArgs false
set_option linter.unusedVariables false
/-- A record as it is told: how long it is, and its bytes. -/
def toldR (l : List UInt8) : List UInt8 := by8 (l.length : Int) :: l
def toldTo (s : St) (k : Nat) : List UInt8 := s.check ++ 124 :: (s.recs.take k).flatMap toldR
def toldB (s : St) : List UInt8 := toldTo s s.recs.length
theorem toldTo_succ (s : St) (k : Nat) (l : List UInt8) (h : s.recs[k]? = some l) : toldTo s (k + 1) = toldTo s k ++ toldR l := by
  have hk : k < s.recs.length := (List.getElem?_eq_some_iff.1 h).1
  unfold toldTo
  rw [List.take_add_one, h, List.flatMap_append]
  simp
theorem wp_app_bytes {o : Oper} {a : Act} {w : World} {K : Act → World → Prop} {Q : Exit → Act → World → Prop} (s x : Operand)
    (hop : o.op = .call { callee := .builtin .append, args := #[s, x], argTypes := #[22, 22] })
    (base : Nat) (v : Value) (l m : List UInt8) (c : Nat) (hs : a.eval s = v) (hown : w.ownsRow base 5 1 v l.length (l.map byteV)) (pa : Option Addr) (hx : a.eval x = .slice pa m.length c) (hn : pa = none → c = 0 ∧ m = [])
    (hr : RB w pa m) (hb : l.length + m.length ≤ 1000000000) (b3 : base ≤ w.heap.size)
    (hK : ∀ v' w', w'.ownsRow base 5 1 v' (l ++ m).length ((l ++ m).map byteV) → w.grownBy w' v.ownBlock → K (a.put o.dst v') w') : o.wp Try.prog a w K Q := by
  obtain ⟨i0, hi, hz0, hz1, hz2⟩ := info_parts info5
  cases pa with
  | none =>
    obtain ⟨rfl, rfl⟩ := hn rfl
    have hrun := run_append_owned_none (P := Try.prog) (w := w) base 22 o.type 5 i0 1 Try.underlying22 hi v l.length _ hown
    unfold Oper.wp
    rw [show ([] : List UInt8).length = 0 from rfl] at hx
    simp [execOp, hop, resolve, invoke, builtin, hs, hx, hrun, Result.andThen]
    exact hK _ _ (by simpa using hown) ⟨rfl, rfl, rfl, Nat.le_refl _, fun _ _ _ => rfl⟩
  | some ad =>
    refine wp_append_rec s x 22 hop base 5 i0 (.int .u8 0) 1 1 Try.underlying22 hi hz0 hz1 hz2 rfl (by decide) v l.length _ hs hown ad m.length c (m.map byteV) hx (by simp) hr.news (oneCell_bytes m) (by unfold maxLen; omega) (by omega) b3 ?_
    intro v' w' own' g' _
    exact hK v' w' (by simpa using own') g'
theorem run_add_str (w : World) (a b : List UInt8) (h : a.length + b.length ≤ 1000000000) : (binOp .add 9 (strV a) (strV b)).run Try.prog w = .ok (strV (a ++ b)) w := by
  unfold strV
  go_simp
  rw [if_neg (by omega)]
  congr 2
theorem flat_len : ∀ (L : List (List UInt8)), (∀ r ∈ L, r.length ≤ 4096) → (L.flatMap toldR).length ≤ 4097 * L.length := by
  intro L
  induction L with
  | nil => intro _; exact Nat.le_refl _
  | cons x L ih =>
    intro h
    have h1 := ih (fun r hr => h r (List.mem_cons_of_mem _ hr))
    have h2 := h x (List.mem_cons_self ..)
    rw [List.flatMap_cons, List.length_append, List.length_cons]
    have h3 : (toldR x).length = x.length + 1 := rfl
    omega
theorem toldTo_len {s : St} (ok : StOk s) (k : Nat) : (toldTo s k).length ≤ 300000000 := by
  have h1 := flat_len (s.recs.take k) (fun r hr => ok.rr r (List.mem_of_mem_take hr))
  have h2 : (s.recs.take k).length ≤ s.recs.length := by rw [List.length_take]; omega
  have := ok.rl; have := ok.used; have := ok.k; have := ok.check
  unfold toldTo
  rw [List.length_append, List.length_cons]
  omega
set_option maxRecDepth 100000 in
set_option maxHeartbeats 2000000 in
theorem told_any {G : Nat → Prop} {w : World} {S B : Nat} {s : St} (h : IsSt G w S B s) : Calls Try.prog 77 #[.pointer (some ⟨S, 0, none⟩)] w fun en w' => en = .returned (strV (toldB s)) ∧ Below w.heap.size w w' := by
  have ok := h.ok
  have CK := Lib.hid (checkpoint_any h)
  have RC : Hid (∀ w1, Below w.heap.size w w1 → Calls Try.prog 73 #[.pointer (some ⟨S, 0, none⟩)] w1 fun en w' => Below w1.heap.size w1 w' ∧ ∃ v, en = .returned v ∧ RowsOf w' w1.heap.size v s.recs) := fun w1 hb => records_any (h.below hb)
  have T0 : Hid (s.check ++ [124] = toldTo s 0) := by show _ = _; unfold toldTo; simp
  clear h
  go_enter Try.func77, Try.ntmps77
  go_wp2_with fail
  refine CK.out.mono ?_
  rintro en w1 ⟨v1, rfl, o1, b1⟩
  have hcv := conv_bs o1
  have had : (binOp .add 9 (strV s.check) (.string ⟨#[124]⟩)).run Try.prog w1 = .ok (strV (toldTo s 0)) w1 := by
    have := run_add_str w1 s.check [124] (by have := ok.check; simp; omega)
    rw [T0.out] at this
    exact this
  have B1 := Lib.hid b1
  have OK := Lib.hid ok
  clear b1 CK
  go_wp2_with fail
  refine (RC.out w1 B1.out).mono ?_
  rintro en w2 ⟨b2, v2, rfl, r2⟩
  obtain ⟨ar, cr, rfl, lcr, nr, rr⟩ := RR.of_rows r2
  have RR2 := Lib.hid rr
  have B2 := Lib.hid (B1.out.trans (b2.mono B1.out.size))
  have LN : Hid (∀ k, (toldTo s k).length ≤ 300000000) := fun k => toldTo_len OK.out k
  have hrl : s.recs.length ≤ 1000000 := by have := ok.rl; have := ok.used; have := ok.k; omega
  clear r2 rr b2 had hcv RC o1 ok nr lcr
  go_wp2_with fail
  go_loopw [3, 5] (fun tv iv wr => ∃ k : Nat, tv = strV (toldTo s k) ∧ iv = .int .i64 (k : Int) ∧ k ≤ s.recs.length ∧ Below w2.heap.size w2 wr) (fun _ iv _ => s.recs.length - (intOf iv).toNat)
  case atStart => exact ⟨0, rfl, rfl, Nat.zero_le _, Below.refl _ _⟩
  case round =>
    obtain ⟨k, rfl, rfl, hk, hb⟩ := hrel
    by_cases hlt : k < s.recs.length
    · have hk0 : (0 : Int) ≤ (k : Int) := by omega
      have hki : (k : Int) < (s.recs.length : Int) := by omega
      obtain ⟨l, hl⟩ : ∃ l, s.recs[k]? = some l := ⟨_, List.getElem?_eq_getElem hlt⟩
      have hll : l.length ≤ 4096 := OK.out.rr l (List.mem_of_getElem? hl)
      have TS := Lib.hid (toldTo_succ s k l hl)
      have rk := RR2.out k hlt
      have hgd : s.recs.getD k [] = l := by simp [List.getD, hl]
      rw [hgd] at rk
      obtain ⟨g, off, u, rfl, hgl, hcu, al, cl, rfl, hlc, hnl, hrb⟩ := rk
      have HB := Lib.hid hb
      have HU := Lib.hid hcu
      have RBL := Lib.hid hrb
      have HNL : Hid (al = none → cl = 0 ∧ l = []) := fun e => by
        have h0 := hnl e
        exact ⟨h0, List.eq_nil_of_length_eq_zero (by omega)⟩
      have hl256 : (l.length : Int) ≤ 4096 := by omega
      obtain ⟨S0, hS0⟩ : ∃ S0 : World → Prop, S0 = fun w' => w'.cell? ⟨g, off + k, none⟩ = some (.slice al l.length cl) := ⟨_, rfl⟩
      have hSS : Hid (∀ w', S0 w' → w'.cell? ⟨g, off + k, none⟩ = some (.slice al l.length cl)) := fun w' h => by rw [hS0] at h; exact h
      have SB : Hid (∀ w', Below w2.heap.size w2 w' → S0 w') := fun w' hb => by
        rw [hS0]
        exact (hb.cell (p := ⟨g, off + k, none⟩) hgl).trans HU.out
      have s0 : S0 wr.drew := SB.out _ hb.drew
      have b7 : Hid (Below w2.heap.size w2 (wr.drew.alloc (.cells #[.int .u8 ((l.length : Int) % 256)] 5))) := hb.drew.alloc hb.drew.size _
      have o7 : Hid ((wr.drew.alloc (.cells #[.int .u8 ((l.length : Int) % 256)] 5)).ownsRow wr.heap.size 5 1 (.slice (some ⟨wr.heap.size, 0, none⟩) 1 1) 1 ([by8 (l.length : Int)].map byteV)) := owns_bytes wr.drew [by8 (l.length : Int)] _ wr.heap.size wr.heap.size rfl (Nat.le_refl _) (by simp [byteV_by8, IntKind.wrap_u8]) (by unfold maxLen; simp)
      clear hS0 hcu hrb hnl hb
      go_wp2_with fail
      refine wp_region_held (S := S0) (by kernel_rfl) ?_
      change wpAnyH _ _ _ _ _ _ _ _ (World.drew _)
      refine wpAnyH_take (i := 0) (v := strV (toldTo s k)) rfl (by kernel_rfl) (by kernel_rfl) (by kernel_rfl) (fun _ _ _ h => h) (.inl ⟨by rfl, by intro w hw; go_simp⟩) s0 ?_
      try simp only [Act.put, List.getElem_toArray, List.getElem_cons_zero, List.getElem_cons_succ, List.setIfInBounds_toArray, List.set_cons_zero, List.set_cons_succ]
      refine wpAnyH_take (i := 1) (v := .slice (some ⟨g, off, none⟩) s.recs.length cr) rfl (by kernel_rfl) (by kernel_rfl) (by kernel_rfl) (fun _ _ _ h => h) (.inl ⟨by rfl, by intro w hw; go_simp⟩) s0 ?_
      try simp only [Act.put, List.getElem_toArray, List.getElem_cons_zero, List.getElem_cons_succ, List.setIfInBounds_toArray, List.set_cons_zero, List.set_cons_succ]
      refine wpAnyH_take (i := 2) (v := .int .i64 (k : Int)) rfl (by kernel_rfl) (by kernel_rfl) (by kernel_rfl) (fun _ _ _ h => h) (.inl ⟨by rfl, by intro w hw; go_simp⟩) s0 ?_
      try simp only [Act.put, List.getElem_toArray, List.getElem_cons_zero, List.getElem_cons_succ, List.setIfInBounds_toArray, List.set_cons_zero, List.set_cons_succ]
      refine wpAnyH_take (i := 3) (v := .pointer (some ⟨g, off + k, none⟩)) rfl (by kernel_rfl) (by kernel_rfl) (by kernel_rfl) (fun _ _ _ h => h) (.inl ⟨by rfl, by intro w hw; go_simp⟩) s0 ?_
      try simp only [Act.put, List.getElem_toArray, List.getElem_cons_zero, List.getElem_cons_succ, List.setIfInBounds_toArray, List.set_cons_zero, List.set_cons_succ]
      refine wpAnyH_take (i := 4) (v := .slice al l.length cl) rfl (by kernel_rfl) (by kernel_rfl) (by kernel_rfl) (fun _ _ _ h => h) (.inl ⟨by rfl, by intro w hw; have q0 := hSS.out w hw; go_simp⟩) s0 ?_
      try simp only [Act.put, List.getElem_toArray, List.getElem_cons_zero, List.getElem_cons_succ, List.setIfInBounds_toArray, List.set_cons_zero, List.set_cons_succ]
      refine wpAnyH_take (i := 5) (v := .int .i64 (l.length : Int)) rfl (by kernel_rfl) (by kernel_rfl) (by kernel_rfl) (fun _ _ _ h => h) (.inl ⟨by rfl, by intro w hw; go_simp⟩) s0 ?_
      try simp only [Act.put, List.getElem_toArray, List.getElem_cons_zero, List.getElem_cons_succ, List.setIfInBounds_toArray, List.set_cons_zero, List.set_cons_succ]
      refine wpAnyH_take (i := 6) (v := .int .u8 ((l.length : Int) % 256)) rfl (by kernel_rfl) (by kernel_rfl) (by kernel_rfl) (fun _ _ _ h => h) (.inl ⟨by rfl, by intro w hw; go_simp; rw [IntKind.wrap_u8]⟩) s0 ?_
      try simp only [Act.put, List.getElem_toArray, List.getElem_cons_zero, List.getElem_cons_succ, List.setIfInBounds_toArray, List.set_cons_zero, List.set_cons_succ]
      refine wpAnyH_take (i := 8) (v := .slice (some ⟨g, off, none⟩) s.recs.length cr) rfl (by kernel_rfl) (by kernel_rfl) (by kernel_rfl) (fun _ _ _ h => h) (.inl ⟨by rfl, by intro w hw; go_simp⟩) s0 ?_
      try simp only [Act.put, List.getElem_toArray, List.getElem_cons_zero, List.getElem_cons_succ, List.setIfInBounds_toArray, List.set_cons_zero, List.set_cons_succ]
      refine wpAnyH_take (i := 9) (v := .int .i64 (k : Int)) rfl (by kernel_rfl) (by kernel_rfl) (by kernel_rfl) (fun _ _ _ h => h) (.inl ⟨by rfl, by intro w hw; go_simp⟩) s0 ?_
      try simp only [Act.put, List.getElem_toArray, List.getElem_cons_zero, List.getElem_cons_succ, List.setIfInBounds_toArray, List.set_cons_zero, List.set_cons_succ]
      refine wpAnyH_take (i := 10) (v := .pointer (some ⟨g, off + k, none⟩)) rfl (by kernel_rfl) (by kernel_rfl) (by kernel_rfl) (fun _ _ _ h => h) (.inl ⟨by rfl, by intro w hw; go_simp⟩) s0 ?_
      try simp only [Act.put, List.getElem_toArray, List.getElem_cons_zero, List.getElem_cons_succ, List.setIfInBounds_toArray, List.set_cons_zero, List.set_cons_succ]
      refine wpAnyH_take (i := 11) (v := .slice al l.length cl) rfl (by kernel_rfl) (by kernel_rfl) (by kernel_rfl) (fun _ _ _ h => h) (.inl ⟨by rfl, by intro w hw; have q0 := hSS.out w hw; go_simp⟩) s0 ?_
      try simp only [Act.put, List.getElem_toArray, List.getElem_cons_zero, List.getElem_cons_succ, List.setIfInBounds_toArray, List.set_cons_zero, List.set_cons_succ]
      refine wpAnyH_one (i := 7) (by kernel_rfl) rfl (by rfl) (fun Kc hK => ?_)
      go_simp
      refine hK _ _ (SB.out _ b7.out) ?_
      clear hK Kc
      try simp only [Act.put, List.getElem_toArray, List.getElem_cons_zero, List.getElem_cons_succ, List.setIfInBounds_toArray, List.set_cons_zero, List.set_cons_succ]
      refine wpAnyH_one (i := 12) (by kernel_rfl) rfl (by rfl) (fun Kc hK => ?_)
      refine wp_app_bytes (.tmp 25) (.tmp 29) rfl wr.heap.size (.slice (some ⟨wr.heap.size, 0, none⟩) 1 1) [by8 (l.length : Int)] l cl rfl o7.out al rfl HNL.out (RBL.out.below b7.out) (by simp; omega) (by simp) ?_
      intro v8 w8 o8 g8
      have b8 := Lib.hid (Below.grown b7.out g8 (Nat.le_trans HB.out.size (by simp)) (fun j hj => by cases hj; exact HB.out.size))
      have o8' := Lib.hid o8
      refine hK _ _ (SB.out _ b8.out) ?_
      clear hK Kc
      try simp only [Act.put, List.getElem_toArray, List.getElem_cons_zero, List.getElem_cons_succ, List.setIfInBounds_toArray, List.set_cons_zero, List.set_cons_succ]
      refine wpAnyH_one (i := 13) (by kernel_rfl) rfl (by rfl) (fun Kc hK => ?_)
      have hcv8 : (convert 22 9 v8).run Try.prog w8 = .ok (strV (toldR l)) w8 := conv_bs o8'.out
      go_simp
      refine hK _ _ (SB.out _ b8.out) ?_
      clear hK Kc
      try simp only [Act.put, List.getElem_toArray, List.getElem_cons_zero, List.getElem_cons_succ, List.setIfInBounds_toArray, List.set_cons_zero, List.set_cons_succ]
      refine wpAnyH_one (i := 14) (by kernel_rfl) rfl (by rfl) (fun Kc hK => ?_)
      have had : (binOp .add 9 (strV (toldTo s k)) (strV (toldR l))).run Try.prog w8 = .ok (strV (toldTo s (k + 1))) w8 := by
        have := run_add_str w8 (toldTo s k) (toldR l) (by have := LN.out k; unfold toldR; rw [List.length_cons]; omega)
        rw [← TS.out] at this
        exact this
      go_simp
      refine hK _ _ (SB.out _ b8.out) ?_
      clear hK Kc
      try simp only [Act.put, List.getElem_toArray, List.getElem_cons_zero, List.getElem_cons_succ, List.setIfInBounds_toArray, List.set_cons_zero, List.set_cons_succ]
      refine wpAnyH_take (i := 15) (v := strV (toldTo s (k + 1))) rfl (by kernel_rfl) (by kernel_rfl) (by kernel_rfl) (fun _ _ _ h => h) (.inl ⟨by rfl, by intro w hw; go_simp⟩) (SB.out _ b8.out) ?_
      try simp only [Act.put, List.getElem_toArray, List.getElem_cons_zero, List.getElem_cons_succ, List.setIfInBounds_toArray, List.set_cons_zero, List.set_cons_succ]
      refine wpAnyH_done (by kernel_rfl) ?_ _
      clear o8 g8 s0 hSS
      go_wp2_with fail
      go_roundw
      case rel => exact ⟨k + 1, rfl, rfl, by omega, b8.out⟩
      case measure => simp only [intOf]; omega
    · have hki : ¬ (k : Int) < (s.recs.length : Int) := by omega
      obtain rfl : k = s.recs.length := by omega
      have HB := Lib.hid hb
      clear hb
      go_wp2_with fail
      go_ret
      exact ⟨rfl, B2.out.trans (HB.out.mono B2.out.size)⟩
end Go.Proofs.Ytopemjbakpahfaa
