/-
  Contracts and plain laws, part 24 (texts: RA2). No condition but what each states.
-/
import Derived.Test.YtopemjbakpahfaaSn23
/-
  Get of the reference's area: the walk. No condition but that the numbers are small.
-/
namespace Go.Proofs.Ytopemjbakpahfaa
open Go.RowKit Disk Jour
set_option linter.unusedSimpArgs false
set_option linter.unusedVariables false
/-- A byte appended to bytes of the call's own. -/
theorem app_byte1 {w : World} {ops : Array Oper} {rest : List Oper} {o : Oper} {a : Act} {Q : Exit → Act → World → Prop} (hgd : o.guard = none) (s x : Operand) (ho : o.op = .call { callee := .builtin .append, args := #[s, x], argTypes := #[22, 22] })
    (base : Nat) (v : Value) (l : List UInt8) (z : UInt8) (g : Nat) (hs : a.eval s = v) (hown : w.ownsRow base 5 1 v l.length (l.map byteV)) (hx : a.eval x = .slice (some ⟨g, 0, none⟩) 1 1)
    (hc : w.cell? ⟨g, 0, none⟩ = some (byteV z)) (hb : l.length ≤ 1000000000) (b3 : base ≤ w.heap.size)
    (hK : ∀ v' w', w'.ownsRow base 5 1 v' (l ++ [z]).length ((l ++ [z]).map byteV) → w.grownBy w' v.ownBlock → (v'.ownBlock = v.ownBlock ∨ v'.ownBlock = some w.heap.size) → wpList Try.prog ops Q rest (a.put o.dst v') w') : wpList Try.prog ops Q (o :: rest) a w := by
  obtain ⟨i0, hi, hz0, hz1, hz2⟩ := info_parts info5
  obtain ⟨v', w', hrun, own', g', _, r3⟩ := run_append_own_at (P := Try.prog) w base 22 o.type 5 i0 (.int .u8 0) 1 1 Try.underlying22 hi hz0 hz1 hz2 rfl (by decide) v l.length _ hown ⟨g, 0, none⟩ 1 1 [byteV z] rfl (by
    intro j u hu
    match j with
    | 0 => simp only [List.getElem?_cons_zero, Option.some.injEq] at hu; subst hu; rw [Addr.add_lit]; exact hc
    | j + 1 => simp at hu) (by
    intro u hu
    obtain rfl := List.mem_singleton.1 hu
    rfl) (by unfold maxLen; omega) (by omega) b3
  exact Lib.wpList_append_run w hgd s x 22 22 ho v _ hs hx v' w' hrun (hK v' w' (by simpa using own') g' r3)
theorem foldl_over_len (k : Nat) : ∀ (l : List (Nat × List UInt8)) (s : List UInt8), s.length = 32 → (∀ p ∈ l, p.2.length = 32) → (l.foldl (over k) s).length = 32 := by
  intro l
  induction l with
  | nil => intro s hs _; exact hs
  | cons q l ih =>
    intro s hs hl
    rw [List.foldl_cons]
    refine ih _ ?_ (fun p hp => hl p (List.mem_cons_of_mem _ hp))
    unfold over
    split
    · exact hl q (List.mem_cons_self ..)
    · exact hs
theorem rread_len {d : Dev} (ok : d.ok) {k : Int} (h : (d.read k).2 = 0) : (d.read k).1.length = 32 := by
  unfold Dev.read at h ⊢
  by_cases ha : d.ask k ≠ 0
  · rw [if_pos ha] at h; exact absurd h ha
  · rw [if_neg ha]
    have hr : 0 ≤ k ∧ k < (d.kept.length : Int) := by
      rw [Decidable.not_not] at ha
      unfold Dev.ask at ha
      split at ha
      · omega
      · split at ha <;> omega
    exact foldl_over_len _ _ _ (ok.1 _ (by omega)) (fun p hp => (ok.2 p hp).2)
structure RGet (w : World) (d : Dev) (f P M k : Nat) (ov : Value) (wr : World) : Prop where
  bl : Below w.heap.size w wr
  ok : (getParts d [] (secTo f P M k)).2 = 0
  own : wr.ownsRow w.heap.size 5 1 ov (getParts d [] (secTo f P M k)).1.length ((getParts d [] (secTo f P M k)).1.map byteV)
theorem RGet.away {w : World} {d : Dev} {f P M k : Nat} {ov : Value} {wr : World} (h : RGet w d f P M k ov wr) (ha : Away P M k) : RGet w d f P M (k + 1) ov wr := by
  obtain ⟨h1, h2, h3⟩ := h
  refine ⟨h1, ?_, ?_⟩ <;> rw [secTo_away ha] <;> assumption
/-- An early end: a sector that reads badly. -/
theorem rget_bad {d : Dev} {f P M k N : Nat} (hk : k < N) (ha : ¬ Away P M k) (hok : (getParts d [] (secTo f P M k)).2 = 0) (hb : (d.read ((f + k : Nat) : Int)).2 ≠ 0) (hr : P + M ≤ 32 * N) :
    getParts d [] (parts (32 * f + P) M M 0) = ([], (d.read ((f + k : Nat) : Int)).2) := by
  rw [secTo_parts f P M N hr]
  obtain ⟨qs, hq⟩ := secTo_le f P M (k := k + 1) (N - (k + 1))
  rw [show k + 1 + (N - (k + 1)) = N by omega] at hq
  have h1 := getParts_snoc d (secPart f P M k) _ [] hok
  rw [show (secPart f P M k).sec = f + k from rfl, if_pos hb] at h1
  rw [hq, secTo_in ha]
  rw [getParts_stop d qs _ [] (by rw [h1]; exact hb), h1]
/-- The bytes of a sector that are asked for, up to place i. -/
def upto (s : List UInt8) (P M k i : Nat) : List UInt8 := (s.take (min i (min (P + M - 32 * k) 32))).drop (P - 32 * k)
theorem upto_end (s : List UInt8) (P M k : Nat) : upto s P M k 32 = (s.drop (P - 32 * k)).take (secPart 0 P M k).n := by
  unfold upto secPart
  rw [show min 32 (min (P + M - 32 * k) 32) = min (P + M - 32 * k) 32 by omega, List.drop_take]
theorem upto_zero (s : List UInt8) (P M k : Nat) : upto s P M k 0 = [] := by unfold upto; simp
theorem upto_out (s : List UInt8) (P M k i : Nat) (h : ¬ (P ≤ 32 * k + i ∧ 32 * k + i < P + M)) (hi : i < 32) : upto s P M k (i + 1) = upto s P M k i := by
  unfold upto
  by_cases h1 : P ≤ 32 * k + i
  · congr 2; omega
  · have e1 : (s.take (min (i + 1) (min (P + M - 32 * k) 32))).length ≤ P - 32 * k := by rw [List.length_take]; omega
    have e2 : (s.take (min i (min (P + M - 32 * k) 32))).length ≤ P - 32 * k := by rw [List.length_take]; omega
    rw [List.drop_eq_nil_of_le e1, List.drop_eq_nil_of_le e2]
theorem upto_in (s : List UInt8) (P M k i : Nat) (h : P ≤ 32 * k + i ∧ 32 * k + i < P + M) (hi : i < 32) (hs : i < s.length) : upto s P M k (i + 1) = upto s P M k i ++ [s.getD i 0] := by
  unfold upto
  rw [show min (i + 1) (min (P + M - 32 * k) 32) = i + 1 by omega, show min i (min (P + M - 32 * k) 32) = i by omega]
  rw [take_snoc s i 0 hs, List.drop_append_of_le_length (by rw [List.length_take]; omega)]
theorem rb_own {w : World} {base g n c : Nat} {l : List UInt8} (h : w.ownsRow base 5 1 (.slice (some ⟨g, 0, none⟩) n c) n (l.map byteV)) : ∀ i, i < l.length → w.cell? ⟨g, i, none⟩ = some (byteV (l.getD i 0)) := by
  intro i hi
  obtain ⟨a, cap, e, _, _, r⟩ := RB.of_owns h
  injection e with e1 _ _
  subst e1
  obtain ⟨g', off, e2, _, hc⟩ := r i hi
  cases e2
  rw [Nat.zero_add] at hc
  exact hc
structure RInner (w : World) (pre s : List UInt8) (P M k : Nat) (vs : Value) (i : Nat) (ov : Value) (W : World) : Prop where
  bl : Below w.heap.size w W
  own : W.ownsRow w.heap.size 5 1 ov (pre ++ upto s P M k i).length ((pre ++ upto s P M k i).map byteV)
  src : ∃ sb, W.ownsRow sb 5 1 vs 32 (s.map byteV) ∧ sb ≤ W.heap.size
  dis : ∀ j, ov.ownBlock = some j → vs.ownBlock ≠ some j
theorem secFrom_small (f p m : Nat) : ∀ (j k : Nat), (∀ q ∈ secFrom f p m k j, q.n ≤ 32) ∧ (secFrom f p m k j).length ≤ j := by
  intro j
  induction j with
  | zero => intro k; exact ⟨fun q hq => (by cases hq), Nat.le_refl _⟩
  | succ j ih =>
    intro k
    unfold secFrom
    split
    · exact ⟨(ih (k + 1)).1, Nat.le_succ_of_le (ih (k + 1)).2⟩
    · refine ⟨fun q hq => ?_, by rw [List.length_cons]; exact Nat.succ_le_succ (ih (k + 1)).2⟩
      rcases List.mem_cons.1 hq with rfl | hq
      · show min (p + m - 32 * k) 32 - (p - 32 * k) ≤ 32; omega
      · exact (ih (k + 1)).1 q hq
set_option maxRecDepth 100000 in
set_option maxHeartbeats 8000000 in
theorem rget_any {F : Nat → Prop} {w : World} {B : Nat} {d : Dev} (h : IsRef F w B d) {A : Nat} {first : Int} {N : Nat} (hA : IsRArea w A B first N) (p m : Int) (hp : d.pend.length ≤ 100000) (hf : N = 0 ∨ (0 ≤ first ∧ first ≤ 1024)) :
    Calls Try.prog 63 #[.pointer (some ⟨A, 0, none⟩), .int .i64 p, .int .i64 m] w (GetOf w (jget d first.toNat N p m)) := by
  obtain ⟨r, hr0⟩ : ∃ r, jget d first.toNat N p m = r := ⟨_, rfl⟩
  rw [hr0]
  have hn := hA.n
  have hni : (N : Int) ≤ 1024 := by omega
  have HA := Lib.hid hA
  have HH := Lib.hid h
  by_cases h0 : p < 0
  · obtain rfl : r = ([], 1) := by rw [← hr0]; unfold jget; rw [if_pos (by omega)]
    clear hr0
    go_enter Try.func63, Try.ntmps63
    go_wp2
    go_ret2
    exact getOf_nil w w _ 1 (Below.refl _ _) rfl
  by_cases h1 : m < 0
  · obtain rfl : r = ([], 1) := by rw [← hr0]; unfold jget; rw [if_pos (by omega)]
    clear hr0
    go_enter Try.func63, Try.ntmps63
    go_wp2
    go_ret2
    exact getOf_nil w w _ 1 (Below.refl _ _) rfl
  by_cases h2 : 32 * (N : Int) < p
  · obtain rfl : r = ([], 2) := by rw [← hr0]; unfold jget; rw [if_neg (by omega), if_neg (by unfold roomB; simp; omega)]
    clear hr0
    go_enter Try.func63, Try.ntmps63
    go_wp2_with (go_at_call 58; refine (rsize_any HA.out).mono ?_; rintro en w1 ⟨rfl, rfl⟩)
    go_ret2
    exact getOf_nil w w _ 2 (Below.refl _ _) rfl
  have hw1 : IntKind.i64.wrap (32 * (N : Int) - p) = 32 * (N : Int) - p := by rw [IntKind.wrap_i64]; omega
  by_cases h3 : 32 * (N : Int) - p < m
  · obtain rfl : r = ([], 2) := by rw [← hr0]; unfold jget; rw [if_neg (by omega), if_neg (by unfold roomB; simp; omega)]
    clear hr0
    go_enter Try.func63, Try.ntmps63
    go_wp2_with (go_at_call 58; refine (rsize_any HA.out).mono ?_; rintro en w1 ⟨rfl, rfl⟩)
    go_ret2
    exact getOf_nil w w _ 2 (Below.refl _ _) rfl
  obtain ⟨P, rfl⟩ : ∃ P : Nat, p = (P : Int) := ⟨p.toNat, by omega⟩
  obtain ⟨M, rfl⟩ : ∃ M : Nat, m = (M : Int) := ⟨m.toNat, by omega⟩
  have hroom : P + M ≤ 32 * N := by omega
  have HR : Hid (r = getParts d [] (parts (32 * first.toNat + P) M M 0)) := by
    show _ = _
    rw [← hr0]; unfold jget
    rw [if_neg (by omega), if_pos (by unfold roomB; simp; omega), Int.toNat_natCast, Int.toNat_natCast]
  clear hr0
  have hPi : (P : Int) ≤ 32768 := by omega
  have hMi : (M : Int) ≤ 32768 := by omega
  have hPM : (P : Int) + (M : Int) ≤ 32768 := by omega
  have I0 : Hid (RGet w d first.toNat P M 0 (.slice none 0 0) w) := ⟨Below.refl _ _, rfl, World.ownsRow_nil _ _ _ _⟩
  go_enter Try.func63, Try.ntmps63
  go_wp2_with (go_at_call 58; refine (rsize_any HA.out).mono ?_; rintro en w1 ⟨rfl, rfl⟩)
  go_loopw [8, 9] (fun ov kv wr => ∃ k : Nat, kv = .int .i64 k ∧ k ≤ N ∧ RGet w d first.toNat P M k ov wr) (fun _ kv _ => N - (intOf kv).toNat)
  case atStart => exact ⟨0, rfl, Nat.zero_le _, I0.out⟩
  case round =>
    obtain ⟨k, rfl, hk, hrun⟩ := hrel
    have cA2 : wr.cell? ⟨A, 2, none⟩ = some (.int .i64 (N : Int)) := Joins.cell_of_block (HA.out.below hrun.bl).blk 2
    have RUN := Lib.hid hrun
    clear hrun
    by_cases hkN : k < N
    · have hk0 : (0 : Int) ≤ (k : Int) := by omega
      have hkNi : (k : Int) < (N : Int) := by omega
      by_cases ha : Away P M k
      · have NX := Lib.hid (RUN.out.away ha)
        unfold Away at ha
        by_cases a1 : 32 * (k : Int) + 32 ≤ (P : Int)
        · clear ha
          go_wp2_with fail
          go_roundw
          case rel => first | exact ⟨k + 1, rfl, by omega, NX.out⟩ | exact ⟨_, _, _, _, ⟨k + 1, rfl, by omega, NX.out⟩, rfl, rfl, rfl, rfl⟩
          case measure => simp only [intOf]; omega
        · by_cases a2 : (P : Int) + (M : Int) ≤ 32 * (k : Int)
          · clear ha
            go_wp2_with fail
            go_roundw
            case rel => first | exact ⟨k + 1, rfl, by omega, NX.out⟩ | exact ⟨_, _, _, _, ⟨k + 1, rfl, by omega, NX.out⟩, rfl, rfl, rfl, rfl⟩
            case measure => simp only [intOf]; omega
          · have a3 : (M : Int) = 0 := by omega
            clear ha
            go_wp2_with fail
            go_roundw
            case rel => first | exact ⟨k + 1, rfl, by omega, NX.out⟩ | exact ⟨_, _, _, _, ⟨k + 1, rfl, by omega, NX.out⟩, rfl, rfl, rfl, rfl⟩
            case measure => simp only [intOf]; omega
      · obtain ⟨f, hff⟩ : ∃ f : Nat, first = (f : Int) := ⟨first.toNat, by rcases hf with h | h <;> omega⟩
        subst hff
        have hfi : (f : Int) ≤ 1024 := by rcases hf with h | h <;> omega
        rw [Int.toNat_natCast] at HR RUN I0
        have hb1 : ¬ 32 * (k : Int) + 32 ≤ (P : Int) := by unfold Away at ha; omega
        have hb2 : ¬ (P : Int) + (M : Int) ≤ 32 * (k : Int) := by unfold Away at ha; omega
        have hb3 : ¬ (M : Int) = 0 := by unfold Away at ha; omega
        have RD := Lib.hid (rread_any (HH.out.below (RUN.out.bl.drew)) ((f : Int) + (k : Int)) hp)
        have AR := Lib.hid (HA.out.below RUN.out.bl)
        have BAD : Hid ((d.read ((f : Int) + (k : Int))).2 ≠ 0 → r = ([], (d.read ((f : Int) + (k : Int))).2)) := fun hb => by
          rw [HR.out]
          have := rget_bad hkN ha RUN.out.ok (by rw [Int.natCast_add]; exact hb) hroom
          rw [Int.natCast_add] at this
          exact this
        have OKN : Hid ((d.read ((f : Int) + (k : Int))).2 = 0 → getParts d [] (secTo f P M (k + 1)) = ((getParts d [] (secTo f P M k)).1 ++ upto (d.read ((f : Int) + (k : Int))).1 P M k 32, 0)) := fun hb => by
          have h1 := getParts_snoc d (secPart f P M k) _ [] RUN.out.ok
          rw [show (((secPart f P M k).sec : Nat) : Int) = (f : Int) + (k : Int) from Int.natCast_add f k, if_neg (by rw [hb]; exact fun h => h rfl)] at h1
          rw [secTo_in ha, h1, upto_end]
          rfl
        have L32 : Hid ((d.read ((f : Int) + (k : Int))).2 = 0 → (d.read ((f : Int) + (k : Int))).1.length = 32) := fun hb => rread_len HH.out.ok hb
        generalize d.read ((f : Int) + (k : Int)) = rr at RD BAD OKN L32
        obtain ⟨S, hS⟩ : ∃ S : World → Prop, S = fun w' => w'.cell? ⟨A, 0, none⟩ = some (.pointer (some ⟨B, 0, none⟩)) ∧ w'.cell? ⟨A, 1, none⟩ = some (.int .i64 (f : Int)) := ⟨_, rfl⟩
        have hSS : Hid (∀ w', S w' → w'.cell? ⟨A, 0, none⟩ = some (.pointer (some ⟨B, 0, none⟩)) ∧ w'.cell? ⟨A, 1, none⟩ = some (.int .i64 (f : Int))) := fun w' h => by rw [hS] at h; exact h
        have SB : ∀ w', Below wr.drew.heap.size wr.drew w' → S w' := fun w' hb => by
          have h1 := ((AR.out.below (Below.refl _ wr).drew).below hb).blk
          rw [hS]
          exact ⟨Joins.cell_of_block h1 0, Joins.cell_of_block h1 1⟩
        have s0 : S wr.drew := SB _ (Below.refl _ _)
        have hwf : IntKind.i64.wrap ((f : Int) + (k : Int)) = (f : Int) + (k : Int) := by rw [IntKind.wrap_i64]; omega
        clear hS ha I0
        go_wp2_with fail
        refine wp_region_held (S := S) (by kernel_rfl) ?_
        change wpAnyH _ _ _ _ _ _ _ _ (World.drew _)
        refine wpAnyH_take (i := 0) (v := .pointer (some ⟨A, 0, none⟩)) rfl (by kernel_rfl) (by kernel_rfl) (by kernel_rfl) (fun _ _ _ h => h) (.inl ⟨by rfl, by intro w hw; go_simp⟩) s0 ?_
        try simp only [Act.put, List.getElem_toArray, List.getElem_cons_zero, List.getElem_cons_succ, List.setIfInBounds_toArray, List.set_cons_zero, List.set_cons_succ]
        refine wpAnyH_take (i := 1) (v := .pointer (some ⟨A, 0, none⟩)) rfl (by kernel_rfl) (by kernel_rfl) (by kernel_rfl) (fun _ _ _ h => h) (.inl ⟨by rfl, by intro w hw; go_simp⟩) s0 ?_
        try simp only [Act.put, List.getElem_toArray, List.getElem_cons_zero, List.getElem_cons_succ, List.setIfInBounds_toArray, List.set_cons_zero, List.set_cons_succ]
        refine wpAnyH_take (i := 2) (v := .pointer (some ⟨A, 0, none⟩)) rfl (by kernel_rfl) (by kernel_rfl) (by kernel_rfl) (fun _ _ _ h => h) (.inl ⟨by rfl, by intro w hw; go_simp⟩) s0 ?_
        try simp only [Act.put, List.getElem_toArray, List.getElem_cons_zero, List.getElem_cons_succ, List.setIfInBounds_toArray, List.set_cons_zero, List.set_cons_succ]
        refine wpAnyH_take (i := 3) (v := .pointer (some ⟨B, 0, none⟩)) rfl (by kernel_rfl) (by kernel_rfl) (by kernel_rfl) (fun _ _ _ h => h) (.inl ⟨by rfl, by intro w hw; have h := hSS.out w hw; obtain ⟨q0, q1⟩ := h; go_simp⟩) s0 ?_
        try simp only [Act.put, List.getElem_toArray, List.getElem_cons_zero, List.getElem_cons_succ, List.setIfInBounds_toArray, List.set_cons_zero, List.set_cons_succ]
        refine wpAnyH_take (i := 4) (v := .pointer (some ⟨A, 0, none⟩)) rfl (by kernel_rfl) (by kernel_rfl) (by kernel_rfl) (fun _ _ _ h => h) (.inl ⟨by rfl, by intro w hw; go_simp⟩) s0 ?_
        try simp only [Act.put, List.getElem_toArray, List.getElem_cons_zero, List.getElem_cons_succ, List.setIfInBounds_toArray, List.set_cons_zero, List.set_cons_succ]
        refine wpAnyH_take (i := 5) (v := .pointer (some ⟨A, 0, none⟩)) rfl (by kernel_rfl) (by kernel_rfl) (by kernel_rfl) (fun _ _ _ h => h) (.inl ⟨by rfl, by intro w hw; go_simp⟩) s0 ?_
        try simp only [Act.put, List.getElem_toArray, List.getElem_cons_zero, List.getElem_cons_succ, List.setIfInBounds_toArray, List.set_cons_zero, List.set_cons_succ]
        refine wpAnyH_take (i := 6) (v := .pointer (some ⟨A, 1, none⟩)) rfl (by kernel_rfl) (by kernel_rfl) (by kernel_rfl) (fun _ _ _ h => h) (.inl ⟨by rfl, by intro w hw; go_simp⟩) s0 ?_
        try simp only [Act.put, List.getElem_toArray, List.getElem_cons_zero, List.getElem_cons_succ, List.setIfInBounds_toArray, List.set_cons_zero, List.set_cons_succ]
        refine wpAnyH_take (i := 7) (v := .int .i64 (f : Int)) rfl (by kernel_rfl) (by kernel_rfl) (by kernel_rfl) (fun _ _ _ h => h) (.inl ⟨by rfl, by intro w hw; have h := hSS.out w hw; obtain ⟨q0, q1⟩ := h; go_simp⟩) s0 ?_
        try simp only [Act.put, List.getElem_toArray, List.getElem_cons_zero, List.getElem_cons_succ, List.setIfInBounds_toArray, List.set_cons_zero, List.set_cons_succ]
        refine wpAnyH_take (i := 8) (v := .int .i64 (k : Int)) rfl (by kernel_rfl) (by kernel_rfl) (by kernel_rfl) (fun _ _ _ h => h) (.inl ⟨by rfl, by intro w hw; go_simp⟩) s0 ?_
        try simp only [Act.put, List.getElem_toArray, List.getElem_cons_zero, List.getElem_cons_succ, List.setIfInBounds_toArray, List.set_cons_zero, List.set_cons_succ]
        refine wpAnyH_take (i := 9) (v := .int .i64 ((f : Int) + (k : Int))) rfl (by kernel_rfl) (by kernel_rfl) (by kernel_rfl) (fun _ _ _ h => h) (.inl ⟨by rfl, by intro w hw; go_simp⟩) s0 ?_
        try simp only [Act.put, List.getElem_toArray, List.getElem_cons_zero, List.getElem_cons_succ, List.setIfInBounds_toArray, List.set_cons_zero, List.set_cons_succ]
        refine wpAnyH_one (i := 10) (by kernel_rfl) rfl (by rfl) (fun Kc hK => ?_)
        go_simp
        refine (RD.out).mono ?_
        rintro en w2 ⟨b2, v2, rfl, o2⟩
        go_simp
        refine hK _ _ (SB w2 b2) ?_
        clear hK Kc
        try simp only [Act.put, List.getElem_toArray, List.getElem_cons_zero, List.getElem_cons_succ, List.setIfInBounds_toArray, List.set_cons_zero, List.set_cons_succ]
        refine wpAnyH_take (i := 11) (v := .tuple #[v2, .int .i64 rr.2]) rfl (by kernel_rfl) (by kernel_rfl) (by kernel_rfl) (fun _ _ _ h => h) (.inl ⟨by rfl, by intro w hw; go_simp⟩) (SB w2 b2) ?_
        try simp only [Act.put, List.getElem_toArray, List.getElem_cons_zero, List.getElem_cons_succ, List.setIfInBounds_toArray, List.set_cons_zero, List.set_cons_succ]
        refine wpAnyH_take (i := 12) (v := v2) rfl (by kernel_rfl) (by kernel_rfl) (by kernel_rfl) (fun _ _ _ h => h) (.inl ⟨by rfl, by intro w hw; go_simp⟩) (SB w2 b2) ?_
        try simp only [Act.put, List.getElem_toArray, List.getElem_cons_zero, List.getElem_cons_succ, List.setIfInBounds_toArray, List.set_cons_zero, List.set_cons_succ]
        refine wpAnyH_take (i := 13) (v := .int .i64 rr.2) rfl (by kernel_rfl) (by kernel_rfl) (by kernel_rfl) (fun _ _ _ h => h) (.inl ⟨by rfl, by intro w hw; go_simp⟩) (SB w2 b2) ?_
        try simp only [Act.put, List.getElem_toArray, List.getElem_cons_zero, List.getElem_cons_succ, List.setIfInBounds_toArray, List.set_cons_zero, List.set_cons_succ]
        refine wpAnyH_take (i := 14) (v := v2) rfl (by kernel_rfl) (by kernel_rfl) (by kernel_rfl) (fun _ _ _ h => h) (.inl ⟨by rfl, by intro w hw; go_simp⟩) (SB w2 b2) ?_
        try simp only [Act.put, List.getElem_toArray, List.getElem_cons_zero, List.getElem_cons_succ, List.setIfInBounds_toArray, List.set_cons_zero, List.set_cons_succ]
        refine wpAnyH_take (i := 15) (v := .int .i64 rr.2) rfl (by kernel_rfl) (by kernel_rfl) (by kernel_rfl) (fun _ _ _ h => h) (.inl ⟨by rfl, by intro w hw; go_simp⟩) (SB w2 b2) ?_
        try simp only [Act.put, List.getElem_toArray, List.getElem_cons_zero, List.getElem_cons_succ, List.setIfInBounds_toArray, List.set_cons_zero, List.set_cons_succ]
        refine wpAnyH_done (by kernel_rfl) ?_ _
        clear s0 SB hSS RD hwf
        by_cases hb : rr.2 = 0
        rotate_left
        · have hne : ((rr.2 : Int) != 0) = true := by rw [bne_iff_ne]; exact hb
          have e := Lib.hid (BAD.out hb)
          have B2 := Lib.hid ((RUN.out.bl.drew).trans (b2.mono (RUN.out.bl.drew).size))
          clear BAD OKN L32 hb
          go_wp2_with fail
          go_ret2
          rw [e.out]
          exact getOf_nil w w2 _ rr.2 B2.out rfl
        · have hlen := L32.out hb
          have OK1 := OKN.out hb
          have B2 := Lib.hid ((RUN.out.bl.drew).trans (b2.mono (RUN.out.bl.drew).size))
          have ov2 : w2.ownsRow w.heap.size 5 1 u8 (getParts d [] (secTo f P M k)).1.length ((getParts d [] (secTo f P M k)).1.map byteV) := owns_below (owns_below RUN.out.own ((Below.refl _ wr).drew)) b2
          have dis : ∀ j, u8.ownBlock = some j → v2.ownBlock ≠ some j := fun j hj e => by
            have h1 := (RUN.out.own.lt j hj).2
            have h2 := (o2.lt j e).1
            simp at h2
            omega
          rw [hlen] at o2
          obtain ⟨gv, cv, rfl⟩ := own_rec o2 (by decide)
          have I1 : Hid (RInner w (getParts d [] (secTo f P M k)).1 rr.1 P M k (.slice (some ⟨gv, 0, none⟩) 32 cv) 0 u8 w2) := ⟨B2.out, by rw [upto_zero, List.append_nil]; exact ov2, ⟨_, o2, by have := b2.size; simpa using this⟩, dis⟩
          have NXT : Hid (∀ v W, RInner w (getParts d [] (secTo f P M k)).1 rr.1 P M k (.slice (some ⟨gv, 0, none⟩) 32 cv) 32 v W → RGet w d f P M (k + 1) v W) := fun v W h => ⟨h.bl, by rw [OK1], by rw [OK1]; exact h.own⟩
          have HL := Lib.hid hlen
          rw [hb]
          have HB := Lib.hid hb
          clear hb
          have ZL : Hid ((getParts d [] (secTo f P M k)).1.length ≤ 32 * 1024 + 32) := by
            show _ ≤ _
            have := getParts_len d (secTo f P M k) [] (fun q hq => (secFrom_small f P M k 0).1 q hq)
            have h2 := (secFrom_small f P M k 0).2
            unfold secTo at this ⊢
            simp at this
            omega
          generalize (getParts d [] (secTo f P M k)).1 = pre at I1 NXT ZL
          clear BAD OKN L32 OK1 hlen ov2 dis B2 b2 o2
          go_wp2_with fail
          go_loopw [8, 12] (fun ov iv W => ∃ i : Nat, iv = .int .i64 i ∧ i ≤ 32 ∧ RInner w pre rr.1 P M k (.slice (some ⟨gv, 0, none⟩) 32 cv) i ov W) (fun _ iv _ => 32 - (intOf iv).toNat)
          case atStart => exact ⟨0, rfl, Nat.zero_le _, I1.out⟩
          case round =>
            obtain ⟨i, rfl, hi, hin⟩ := hrel
            have IN := Lib.hid hin
            by_cases hi32 : i < 32
            · have hi0 : (0 : Int) ≤ (i : Int) := by omega
              have hii : (i : Int) < 32 := by omega
              by_cases c1 : (P : Int) ≤ 32 * (k : Int) + (i : Int)
              · by_cases c2 : 32 * (k : Int) + (i : Int) < (P : Int) + (M : Int)
                · obtain ⟨sb, os, hsb⟩ := hin.src
                  have hc := rb_own os i (by rw [HL.out]; exact hi32)
                  have hil : (i : Int) < (rr.1.length : Int) := by rw [HL.out]; omega
                  have UP := Lib.hid (upto_in rr.1 P M k i (by omega) hi32 (by rw [HL.out]; exact hi32))
                  generalize rr.1.getD i 0 = bb at hc UP
                  have OS := Lib.hid os
                  have PL : Hid ((pre ++ upto rr.1 P M k i).length ≤ 1000000000) := by
                    show _ ≤ _
                    have := ZL.out
                    have h2 : (upto rr.1 P M k i).length ≤ 32 := by unfold upto; rw [List.length_drop, List.length_take]; omega
                    rw [List.length_append]; omega
                  unfold byteV at hc
                  have HSB := Lib.hid hsb
                  clear hin os hsb
                  go_wp2_with (at_builtin; refine app_byte1 rfl (.tmp 93) (.tmp 98) rfl w.heap.size _ (pre ++ upto rr.1 P M k i) bb wr.heap.size rfl (IN.out.own.alloc _) rfl (cell_lit wr _ _ _ _ rfl) PL.out (Nat.le_trans IN.out.bl.size (by simp)) ?_; intro v5 w5 o5 g5 r5)
                  have NX : Hid (RInner w pre rr.1 P M k (.slice (some ⟨gv, 0, none⟩) 32 cv) (i + 1) v5 w5) := by
                    refine ⟨(IN.out.bl.alloc IN.out.bl.size _).grown g5 (Nat.le_trans IN.out.bl.size (by simp)) (fun j hj => (IN.out.own.lt j hj).1), by rw [UP.out, ← List.append_assoc]; exact o5, ⟨sb, (OS.out.alloc _).kept g5 (.inr fun e => ?_), Nat.le_trans HSB.out (Nat.le_trans (by simp) g5.size)⟩, fun j hj e => ?_⟩
                    · exact IN.out.dis _ e.symm rfl
                    · rcases r5 with h5 | h5
                      · exact IN.out.dis j (h5 ▸ hj) e
                      · rw [h5] at hj
                        cases hj
                        have h7 := (OS.out.lt _ e).2
                        simp at h7
                        try omega
                  go_roundw
                  case rel => exact ⟨i + 1, rfl, by omega, NX.out⟩
                  case measure => simp only [intOf]; omega
                · have UP := Lib.hid (upto_out rr.1 P M k i (by omega) hi32)
                  have NX : Hid (RInner w pre rr.1 P M k (.slice (some ⟨gv, 0, none⟩) 32 cv) (i + 1) u8 wr) := ⟨hin.bl, by rw [UP.out]; exact hin.own, hin.src, hin.dis⟩
                  clear hin
                  go_wp2_with fail
                  go_roundw
                  case rel => exact ⟨i + 1, rfl, by omega, NX.out⟩
                  case measure => simp only [intOf]; omega
              · have UP := Lib.hid (upto_out rr.1 P M k i (by omega) hi32)
                have NX : Hid (RInner w pre rr.1 P M k (.slice (some ⟨gv, 0, none⟩) 32 cv) (i + 1) u8 wr) := ⟨hin.bl, by rw [UP.out]; exact hin.own, hin.src, hin.dis⟩
                clear hin
                go_wp2_with fail
                go_roundw
                case rel => exact ⟨i + 1, rfl, by omega, NX.out⟩
                case measure => simp only [intOf]; omega
            · obtain rfl : i = 32 := by omega
              have NX := Lib.hid (NXT.out _ _ hin)
              clear hin
              go_wp2_with fail
              go_roundw
              case rel => exact ⟨k + 1, rfl, by omega, NX.out⟩
              case measure => simp only [intOf]; omega
    · obtain rfl : k = N := by omega
      have hkk : ¬ (k : Int) < (k : Int) := by omega
      have FIN : Hid (RGet w d first.toNat P M k u8 wr ∧ r = getParts d [] (secTo first.toNat P M k)) := ⟨RUN.out, by rw [HR.out, secTo_parts _ _ _ k hroom]⟩
      clear HR I0
      go_wp2_with fail
      go_ret2
      obtain ⟨R1, e⟩ := FIN.out
      rw [e]
      exact ⟨R1.bl, u8, by rw [R1.ok]; rfl, R1.own⟩
end Go.Proofs.Ytopemjbakpahfaa
