/-
  Contracts and plain laws, part 20 (texts: Ref5). No condition but what each states.
-/
import Derived.Test.YtopemjbakpahfaaSn19
/-
  A new device of the reference. No condition.
-/
namespace Go.Proofs.Ytopemjbakpahfaa
open Go.RowKit Disk
set_option linter.unusedSimpArgs false
set_option linter.unusedVariables false
theorem info22' : (Try.prog.info? 22).map (fun i => (i.zero, i.size, i.bytes)) = some (some (.slice none 0 0), 1, 24) := by kernel_rfl
def NewRef (w : World) (n : Nat) (en : Ending) (w' : World) : Prop := ∃ B, en = .returned (.pointer (some ⟨B, 0, none⟩)) ∧ Below w.heap.size w w' ∧ w.heap.size ≤ B ∧ IsRef (fun k => w.heap.size ≤ k ∧ k < w'.heap.size) w' B (Dev.new n)
/-- What the loop keeps. -/
def NewI (w : World) (B i : Nat) (vk : Value) (wr : World) : Prop := Below w.heap.size w wr ∧ RefV (fun k => w.heap.size ≤ k ∧ k < wr.heap.size) wr B vk (.slice none 0 0) (Dev.new i)
theorem new_snoc (i : Nat) : (Dev.new (i + 1)).kept = (Dev.new i).kept ++ [zero32] := by
  simp only [Dev.new]
  rw [List.replicate_succ', zero32]
theorem newI_step {w Z w5 : World} {B i gn cn : Nat} {vk : Value} {vs : List Value} (h : RefV (fun k => w.heap.size ≤ k ∧ k < Z.heap.size) Z B vk (.slice none 0 0) (Dev.new i)) (hb : Below w.heap.size w Z) (hown : Z.ownsRow 0 22 1 vk (Dev.new i).kept.length vs)
    (hvs : ∀ j, j < (Dev.new i).kept.length → ∃ u, vs[j]? = some u ∧ Row5 (fun k => w.heap.size ≤ k ∧ k < Z.heap.size) Z u ((Dev.new i).kept.getD j []))
    (o5 : w5.ownsRow 0 22 1 (.slice (some ⟨gn, 0, none⟩) ((Dev.new i).kept.length + 1) cn) ((Dev.new i).kept.length + 1) (vs ++ [.slice (some ⟨Z.heap.size, 0, none⟩) 32 32]))
    (g5 : ((Z.alloc (.cells (zero32.map byteV).toArray 5)).alloc (.cells #[.slice (some ⟨Z.heap.size, 0, none⟩) 32 32] 22)).grownBy w5 vk.ownBlock)
    (r5 : (Value.slice (some ⟨gn, 0, none⟩) ((Dev.new i).kept.length + 1) cn).ownBlock = vk.ownBlock ∨ (Value.slice (some ⟨gn, 0, none⟩) ((Dev.new i).kept.length + 1) cn).ownBlock = some ((Z.alloc (.cells (zero32.map byteV).toArray 5)).alloc (.cells #[.slice (some ⟨Z.heap.size, 0, none⟩) 32 32] 22)).heap.size) :
    w5.heap[B]? = some (.cells (rcells (Dev.new i) vk (.slice none 0 0)) 59 (0, 0)) ∧ NewI w B (i + 1) (.slice (some ⟨gn, 0, none⟩) ((Dev.new i).kept.length + 1) cn) (w5.setCell ⟨B, 0, none⟩ (.slice (some ⟨gn, 0, none⟩) ((Dev.new i).kept.length + 1) cn)) := by
  have ga : Z.grownBy w5 vk.ownBlock := ((World.grownBy_alloc Z _ vk.ownBlock).trans (World.grownBy_alloc _ _ vk.ownBlock)).trans g5
  have hro := rowOf_owns hown
  have hs5 := ga.size
  have hBl : B < Z.heap.size := h.lt B h.f
  have hb5 : w5.heap[B]? = some (.cells (rcells (Dev.new i) vk (.slice none 0 0)) 59 (0, 0)) := (ga.block B hBl (fun e => row_apart h.blk hown (by decide) B e.symm rfl)).trans h.blk
  refine ⟨hb5, ?_⟩
  have hzs := hb.size
  have hG : ∀ k, (w.heap.size ≤ k ∧ k < Z.heap.size) → (w.heap.size ≤ k ∧ k < w5.heap.size) := fun k hk => ⟨hk.1, by omega⟩
  have g5s := g5.size
  simp only [World.size_alloc] at g5s r5
  have hx5 : w5.heap[Z.heap.size]? = some (.cells (zero32.map byteV).toArray 5 (0, 0)) := by
    refine (g5.block _ (by simp; omega) (fun e => ?_)).trans ((Below.heap_alloc _ _ _ (by simp)).trans (heap_alloc_new Z _))
    have := (hown.lt _ e.symm).2
    omega
  have hkp : RKept (fun k => w.heap.size ≤ k ∧ k < w5.heap.size) w5 (.slice (some ⟨gn, 0, none⟩) ((Dev.new i).kept.length + 1) cn) (Dev.new (i + 1)).kept := by
    refine ⟨⟨vs ++ [.slice (some ⟨Z.heap.size, 0, none⟩) 32 32], ?_, fun j hj => ?_⟩, fun k hk => ?_⟩
    · rw [new_snoc, List.length_append]; exact o5
    · have hvl : vs.length = (Dev.new i).kept.length := by have := hown.1; omega
      rw [new_snoc, List.length_append, List.length_singleton] at hj
      rw [new_snoc]
      rcases Nat.lt_or_ge j (Dev.new i).kept.length with h1 | h1
      · obtain ⟨u, e1, e2⟩ := hvs j h1
        refine ⟨u, by rw [List.getElem?_append_left (by omega)]; exact e1, ?_⟩
        have e3 : ((Dev.new i).kept ++ [zero32]).getD j [] = (Dev.new i).kept.getD j [] := by simp only [List.getD]; rw [List.getElem?_append_left h1]
        rw [e3]
        obtain ⟨g, q1, q2, q3⟩ := e2
        refine ⟨g, q1, hG g q2, (ga.block g q2.2 (fun e => ?_)).trans q3⟩
        obtain ⟨cs, fr, h4⟩ := hro g e.symm
        rw [q3] at h4; simp at h4
      · have hj0 : j = (Dev.new i).kept.length := by omega
        refine ⟨.slice (some ⟨Z.heap.size, 0, none⟩) 32 32, by rw [List.getElem?_append_right (by omega), show j - vs.length = 0 by omega]; rfl, Z.heap.size, rfl, ⟨hzs, by omega⟩, ?_⟩
        have e3 : ((Dev.new i).kept ++ [zero32]).getD j [] = zero32 := by simp only [List.getD]; rw [List.getElem?_append_right (by omega), show j - (Dev.new i).kept.length = 0 by omega]; rfl
        rw [e3]; exact hx5
    · have hk2 := (o5.lt k hk).2
      rcases r5 with e | e
      · exact hG k (h.kept.f k (by rw [← e]; exact hk))
      · rw [e] at hk; cases hk; exact ⟨by omega, hk2⟩
  have hw0 : RWait (fun k => w.heap.size ≤ k ∧ k < w5.heap.size) w5 (.slice none 0 0) (Dev.new (i + 1)).pend := ⟨⟨[], rfl, World.ownsRow_nil _ _ _ _, fun i p h => by simp [Dev.new] at h⟩, fun k hk => by simp [Value.ownBlock] at hk⟩
  have hBs : w.heap.size ≤ B := h.f.1
  have s1 := ref_set (e := Dev.new (i + 1)) hb5 hkp hw0 0 (.slice (some ⟨gn, 0, none⟩) ((Dev.new i).kept.length + 1) cn) (by simp [rcells, Dev.new]) (hG B h.f) (new_ok _) (Nat.zero_le _) (fun k hk => hk.2)
  refine ⟨((hb.grown ga hb.size (fun k hk => (h.kept.f k hk).1)).setCell (p := ⟨B, 0, none⟩) hBs _), ?_⟩
  exact s1.mono (fun k hk => ⟨hk.1, by simpa using hk.2⟩) (fun k hk => hk.2)
set_option maxRecDepth 100000 in
set_option maxHeartbeats 4000000 in
theorem rnew_any (w : World) (s : Int) : Calls Try.prog 40 #[.int .i64 s] w (NewRef w (sizeOfDev s)) := by
  obtain ⟨n, hn⟩ : ∃ n, sizeOfDev s = n := ⟨_, rfl⟩
  have hn1 : Hid (n = (min (max 0 s) 1024).toNat) := by show _ = _; rw [← hn]; rfl
  rw [hn]
  clear hn
  have I0 : Hid (NewI w w.heap.size 0 (.slice none 0 0) (w.alloc (.cells #[.slice none 0 0, .slice none 0 0, .bool false, .int .i64 0, .int .i64 0, .int .i64 0] 59))) := by
    refine ⟨below_alloc w _, heap_alloc_new w _, ⟨⟨[], World.ownsRow_nil _ _ _ _, fun i hi => by simp [Dev.new] at hi⟩, fun k hk => by simp [Value.ownBlock] at hk⟩, ⟨⟨[], rfl, World.ownsRow_nil _ _ _ _, fun i p h => by simp [Dev.new] at h⟩, fun k hk => by simp [Value.ownBlock] at hk⟩, new_ok 0, ⟨Nat.le_refl _, by simp⟩, Nat.zero_le _, fun k hk => hk.2⟩
  obtain ⟨B, hB⟩ : ∃ B, w.heap.size = B := ⟨_, rfl⟩
  have HB := Lib.hid hB
  go_enter Try.func40, Try.ntmps40
  go_wp2_with fail
  go_loopw [4] (fun iv wr => ∃ (i : Nat) (vk : Value), iv = .int .i64 i ∧ i ≤ n ∧ NewI w B i vk wr) (fun iv _ => n - (intOf iv).toNat)
  case atStart => exact ⟨0, _, rfl, Nat.zero_le _, by rw [← HB.out]; exact I0.out⟩
  case round =>
    obtain ⟨i, vk, rfl, hi, hbl, hv⟩ := hrel
    by_cases hlt : i < n
    · have h1 : (i : Int) < s := by have := hn1.out; omega
      have h2 : (i : Int) < 1024 := by have := hn1.out; omega
      have hi1 : i ≤ 1024 := by omega
      have HKL : Hid ((Dev.new i).kept.length = i) := Lib.hid (by simp [Dev.new])
      obtain ⟨i0, hi0, hz0, hz1, hz2⟩ := info_parts info22'
      obtain ⟨Z, hZ⟩ : ∃ Z, wr.drew = Z := ⟨_, rfl⟩
      have hvZ : RefV (fun k => w.heap.size ≤ k ∧ k < Z.heap.size) Z B vk (.slice none 0 0) (Dev.new i) := by rw [← hZ]; exact hv.drew
      have hbZ : Below w.heap.size w Z := by rw [← hZ]; exact hbl.drew
      obtain ⟨vs, hown, hvs⟩ := hvZ.kept.ex
      have FN : Hid (∀ (gn cn : Nat) (w5 : World), w5.ownsRow 0 22 1 (.slice (some ⟨gn, 0, none⟩) ((Dev.new i).kept.length + 1) cn) ((Dev.new i).kept.length + 1) (vs ++ [.slice (some ⟨Z.heap.size, 0, none⟩) 32 32]) → _ → _ → _) := Lib.hid (fun gn cn w5 o5 g5 r5 => newI_step hvZ hbZ hown hvs o5 g5 r5)
      have c0 : Z.cell? ⟨B, 0, none⟩ = some vk := Joins.cell_of_block hvZ.blk 0
      have hmk : (Instr.makeSlice 22 (.int .i64 32) (.int .i64 32)).run Try.prog Z = .ok (.slice (some ⟨Z.heap.size, 0, none⟩) 32 32) (Z.alloc (.cells (zero32.map byteV).toArray 5)) := run_make_bytes Z 32 (by decide)
      have c1 : (Z.alloc (.cells (zero32.map byteV).toArray 5)).cell? ⟨B, 0, none⟩ = some vk := alloc_cell c0
      have c2 : ((Z.alloc (.cells (zero32.map byteV).toArray 5)).alloc (.cells #[.slice (some ⟨Z.heap.size, 0, none⟩) 32 32] 22)).cell? ⟨B, 0, none⟩ = some vk := alloc_cell c1
      have OW := Lib.hid ((hown.alloc (.cells (zero32.map byteV).toArray 5)).alloc (.cells #[.slice (some ⟨Z.heap.size, 0, none⟩) 32 32] 22))
      have NEWS : Hid (∀ j u, [Value.slice (some ⟨Z.heap.size, 0, none⟩) 32 32][j]? = some u → ((Z.alloc (.cells (zero32.map byteV).toArray 5)).alloc (.cells #[.slice (some ⟨Z.heap.size, 0, none⟩) 32 32] 22)).cell? ((⟨Z.heap.size + 1, 0, none⟩ : Addr).add j) = some u) := Lib.hid (cell_one_at (by simp))
      clear hv hbl hvZ hbZ hvs
      go_wp2_with fail
      refine wp_region_any (by kernel_rfl) ?_
      change wpAny _ _ _ _ _ _ _ (World.drew _)
      rw [hZ]
      refine wpAny_take (i := 0) (v := .pointer (some ⟨B, 0, none⟩)) rfl (by kernel_rfl) (by kernel_rfl) (by kernel_rfl) (fun _ _ _ h => h) (Or.inl ⟨by rfl, by intro w; go_simp⟩) ?_
      try simp only [Act.put, List.getElem_toArray, List.getElem_cons_zero, List.getElem_cons_succ, List.setIfInBounds_toArray, List.set_cons_zero, List.set_cons_succ]
      refine wpAny_take (i := 1) (v := .pointer (some ⟨B, 0, none⟩)) rfl (by kernel_rfl) (by kernel_rfl) (by kernel_rfl) (fun _ _ _ h => h) (Or.inl ⟨by rfl, by intro w; go_simp⟩) ?_
      try simp only [Act.put, List.getElem_toArray, List.getElem_cons_zero, List.getElem_cons_succ, List.setIfInBounds_toArray, List.set_cons_zero, List.set_cons_succ]
      refine wpAny_take (i := 2) (v := .pointer (some ⟨B, 0, none⟩)) rfl (by kernel_rfl) (by kernel_rfl) (by kernel_rfl) (fun _ _ _ h => h) (Or.inl ⟨by rfl, by intro w; go_simp⟩) ?_
      try simp only [Act.put, List.getElem_toArray, List.getElem_cons_zero, List.getElem_cons_succ, List.setIfInBounds_toArray, List.set_cons_zero, List.set_cons_succ]
      refine wpAny_take (i := 3) (v := .pointer (some ⟨B, 0, none⟩)) rfl (by kernel_rfl) (by kernel_rfl) (by kernel_rfl) (fun _ _ _ h => h) (Or.inl ⟨by rfl, by intro w; go_simp⟩) ?_
      try simp only [Act.put, List.getElem_toArray, List.getElem_cons_zero, List.getElem_cons_succ, List.setIfInBounds_toArray, List.set_cons_zero, List.set_cons_succ]
      refine wpAny_ready (rs := [4, 5]) (by kernel_rfl) (by simp) ?_
      refine AllReady.cons rfl (fun Kc hK => ?_) (AllReady.cons rfl (fun Kc hK => ?_) AllReady.nil)
      · rw [if_pos (by rfl)]
        go_simp
        refine hK _ _ ?_
        clear hK Kc
        try simp only [Act.put, List.getElem_toArray, List.getElem_cons_zero, List.getElem_cons_succ, List.setIfInBounds_toArray, List.set_cons_zero, List.set_cons_succ]
        refine wpAny_ready (rs := [5]) (by kernel_rfl) (by simp) ?_
        refine AllReady.cons rfl (fun Kc hK => ?_) AllReady.nil
        rw [if_pos (by rfl)]
        go_simp
        refine hK _ _ ?_
        clear hK Kc
        try simp only [Act.put, List.getElem_toArray, List.getElem_cons_zero, List.getElem_cons_succ, List.setIfInBounds_toArray, List.set_cons_zero, List.set_cons_succ]
        refine wpAny_ready (rs := [6]) (by kernel_rfl) (by simp) ?_
        refine AllReady.cons rfl (fun Kc hK => ?_) AllReady.nil
        rw [if_pos (by rfl)]
        go_simp
        refine hK _ _ ?_
        clear hK Kc
        try simp only [Act.put, List.getElem_toArray, List.getElem_cons_zero, List.getElem_cons_succ, List.setIfInBounds_toArray, List.set_cons_zero, List.set_cons_succ]
        refine wpAny_ready (rs := [7]) (by kernel_rfl) (by simp) ?_
        refine AllReady.cons rfl (fun Kc hK => ?_) AllReady.nil
        rw [if_pos (by rfl)]
        refine wp_append_rec (.tmp 20) (.tmp 22) 56 rfl 0 22 i0 (.slice none 0 0) 1 24 Try.underlying56 hi0 hz0 hz1 hz2 rfl (by decide) vk (Dev.new i).kept.length vs rfl OW.out ⟨Z.heap.size + 1, 0, none⟩ 1 1 [.slice (some ⟨Z.heap.size, 0, none⟩) 32 32] rfl rfl NEWS.out (by intro u hu; obtain rfl := List.mem_singleton.1 hu; rfl) (by have := HKL.out; unfold maxLen; omega) (by have := HKL.out; omega) (Nat.zero_le _) ?_
        intro v5 w5 o5 g5 r5
        obtain ⟨gn, cn, rfl⟩ := ownsRow_succ o5
        obtain ⟨hb5, hfn⟩ := FN.out gn cn w5 o5 g5 r5
        have FF := Lib.hid hfn
        have hc5 : w5.cell? ⟨B, 0, none⟩ = some vk := Joins.cell_of_block hb5 0
        have hf5 : w5.frozen? ⟨B, 0, none⟩ = false := Joins.unfrozen_of_block hb5 0
        clear hfn hb5 o5 g5 r5
        refine hK _ _ ?_
        clear hK Kc
        try simp only [Act.put, List.getElem_toArray, List.getElem_cons_zero, List.getElem_cons_succ, List.setIfInBounds_toArray, List.set_cons_zero, List.set_cons_succ]
        refine wpAny_take (i := 8) (v := .pointer (some ⟨B, 0, none⟩)) rfl (by kernel_rfl) (by kernel_rfl) (by kernel_rfl) (fun _ _ _ h => h) (Or.inl ⟨by rfl, by intro w; go_simp⟩) ?_
        try simp only [Act.put, List.getElem_toArray, List.getElem_cons_zero, List.getElem_cons_succ, List.setIfInBounds_toArray, List.set_cons_zero, List.set_cons_succ]
        refine wpAny_take (i := 9) (v := .pointer (some ⟨B, 0, none⟩)) rfl (by kernel_rfl) (by kernel_rfl) (by kernel_rfl) (fun _ _ _ h => h) (Or.inl ⟨by rfl, by intro w; go_simp⟩) ?_
        try simp only [Act.put, List.getElem_toArray, List.getElem_cons_zero, List.getElem_cons_succ, List.setIfInBounds_toArray, List.set_cons_zero, List.set_cons_succ]
        refine wpAny_ready (rs := [10]) (by kernel_rfl) (by simp) ?_
        refine AllReady.cons rfl (fun Kc hK => ?_) AllReady.nil
        rw [if_pos (by rfl)]
        go_simp
        refine hK _ _ ?_
        clear hK Kc
        try simp only [Act.put, List.getElem_toArray, List.getElem_cons_zero, List.getElem_cons_succ, List.setIfInBounds_toArray, List.set_cons_zero, List.set_cons_succ]
        refine wpAny_done (by kernel_rfl) ?_ _
        go_wp2_with fail
        go_roundw
        case rel => exact ⟨i + 1, _, rfl, by omega, FF.out⟩
        case measure => simp only [intOf]; omega
      · rw [if_pos (by rfl)]
        go_simp
        refine hK _ _ ?_
        clear hK Kc
        try simp only [Act.put, List.getElem_toArray, List.getElem_cons_zero, List.getElem_cons_succ, List.setIfInBounds_toArray, List.set_cons_zero, List.set_cons_succ]
        refine wpAny_ready (rs := [4, 6]) (by kernel_rfl) (by simp) ?_
        refine AllReady.cons rfl (fun Kc hK => ?_) (AllReady.cons rfl (fun Kc hK => ?_) AllReady.nil)
        · rw [if_pos (by rfl)]
          go_simp
          refine hK _ _ ?_
          clear hK Kc
          try simp only [Act.put, List.getElem_toArray, List.getElem_cons_zero, List.getElem_cons_succ, List.setIfInBounds_toArray, List.set_cons_zero, List.set_cons_succ]
          refine wpAny_ready (rs := [6]) (by kernel_rfl) (by simp) ?_
          refine AllReady.cons rfl (fun Kc hK => ?_) AllReady.nil
          rw [if_pos (by rfl)]
          go_simp
          refine hK _ _ ?_
          clear hK Kc
          try simp only [Act.put, List.getElem_toArray, List.getElem_cons_zero, List.getElem_cons_succ, List.setIfInBounds_toArray, List.set_cons_zero, List.set_cons_succ]
          refine wpAny_ready (rs := [7]) (by kernel_rfl) (by simp) ?_
          refine AllReady.cons rfl (fun Kc hK => ?_) AllReady.nil
          rw [if_pos (by rfl)]
          refine wp_append_rec (.tmp 20) (.tmp 22) 56 rfl 0 22 i0 (.slice none 0 0) 1 24 Try.underlying56 hi0 hz0 hz1 hz2 rfl (by decide) vk (Dev.new i).kept.length vs rfl OW.out ⟨Z.heap.size + 1, 0, none⟩ 1 1 [.slice (some ⟨Z.heap.size, 0, none⟩) 32 32] rfl rfl NEWS.out (by intro u hu; obtain rfl := List.mem_singleton.1 hu; rfl) (by have := HKL.out; unfold maxLen; omega) (by have := HKL.out; omega) (Nat.zero_le _) ?_
          intro v5 w5 o5 g5 r5
          obtain ⟨gn, cn, rfl⟩ := ownsRow_succ o5
          obtain ⟨hb5, hfn⟩ := FN.out gn cn w5 o5 g5 r5
          have FF := Lib.hid hfn
          have hc5 : w5.cell? ⟨B, 0, none⟩ = some vk := Joins.cell_of_block hb5 0
          have hf5 : w5.frozen? ⟨B, 0, none⟩ = false := Joins.unfrozen_of_block hb5 0
          clear hfn hb5 o5 g5 r5
          refine hK _ _ ?_
          clear hK Kc
          try simp only [Act.put, List.getElem_toArray, List.getElem_cons_zero, List.getElem_cons_succ, List.setIfInBounds_toArray, List.set_cons_zero, List.set_cons_succ]
          refine wpAny_take (i := 8) (v := .pointer (some ⟨B, 0, none⟩)) rfl (by kernel_rfl) (by kernel_rfl) (by kernel_rfl) (fun _ _ _ h => h) (Or.inl ⟨by rfl, by intro w; go_simp⟩) ?_
          try simp only [Act.put, List.getElem_toArray, List.getElem_cons_zero, List.getElem_cons_succ, List.setIfInBounds_toArray, List.set_cons_zero, List.set_cons_succ]
          refine wpAny_take (i := 9) (v := .pointer (some ⟨B, 0, none⟩)) rfl (by kernel_rfl) (by kernel_rfl) (by kernel_rfl) (fun _ _ _ h => h) (Or.inl ⟨by rfl, by intro w; go_simp⟩) ?_
          try simp only [Act.put, List.getElem_toArray, List.getElem_cons_zero, List.getElem_cons_succ, List.setIfInBounds_toArray, List.set_cons_zero, List.set_cons_succ]
          refine wpAny_ready (rs := [10]) (by kernel_rfl) (by simp) ?_
          refine AllReady.cons rfl (fun Kc hK => ?_) AllReady.nil
          rw [if_pos (by rfl)]
          go_simp
          refine hK _ _ ?_
          clear hK Kc
          try simp only [Act.put, List.getElem_toArray, List.getElem_cons_zero, List.getElem_cons_succ, List.setIfInBounds_toArray, List.set_cons_zero, List.set_cons_succ]
          refine wpAny_done (by kernel_rfl) ?_ _
          go_wp2_with fail
          go_roundw
          case rel => exact ⟨i + 1, _, rfl, by omega, FF.out⟩
          case measure => simp only [intOf]; omega
        · rw [if_pos (by rfl)]
          go_simp
          refine hK _ _ ?_
          clear hK Kc
          try simp only [Act.put, List.getElem_toArray, List.getElem_cons_zero, List.getElem_cons_succ, List.setIfInBounds_toArray, List.set_cons_zero, List.set_cons_succ]
          refine wpAny_ready (rs := [4]) (by kernel_rfl) (by simp) ?_
          refine AllReady.cons rfl (fun Kc hK => ?_) AllReady.nil
          rw [if_pos (by rfl)]
          go_simp
          refine hK _ _ ?_
          clear hK Kc
          try simp only [Act.put, List.getElem_toArray, List.getElem_cons_zero, List.getElem_cons_succ, List.setIfInBounds_toArray, List.set_cons_zero, List.set_cons_succ]
          refine wpAny_ready (rs := [7]) (by kernel_rfl) (by simp) ?_
          refine AllReady.cons rfl (fun Kc hK => ?_) AllReady.nil
          rw [if_pos (by rfl)]
          refine wp_append_rec (.tmp 20) (.tmp 22) 56 rfl 0 22 i0 (.slice none 0 0) 1 24 Try.underlying56 hi0 hz0 hz1 hz2 rfl (by decide) vk (Dev.new i).kept.length vs rfl OW.out ⟨Z.heap.size + 1, 0, none⟩ 1 1 [.slice (some ⟨Z.heap.size, 0, none⟩) 32 32] rfl rfl NEWS.out (by intro u hu; obtain rfl := List.mem_singleton.1 hu; rfl) (by have := HKL.out; unfold maxLen; omega) (by have := HKL.out; omega) (Nat.zero_le _) ?_
          intro v5 w5 o5 g5 r5
          obtain ⟨gn, cn, rfl⟩ := ownsRow_succ o5
          obtain ⟨hb5, hfn⟩ := FN.out gn cn w5 o5 g5 r5
          have FF := Lib.hid hfn
          have hc5 : w5.cell? ⟨B, 0, none⟩ = some vk := Joins.cell_of_block hb5 0
          have hf5 : w5.frozen? ⟨B, 0, none⟩ = false := Joins.unfrozen_of_block hb5 0
          clear hfn hb5 o5 g5 r5
          refine hK _ _ ?_
          clear hK Kc
          try simp only [Act.put, List.getElem_toArray, List.getElem_cons_zero, List.getElem_cons_succ, List.setIfInBounds_toArray, List.set_cons_zero, List.set_cons_succ]
          refine wpAny_take (i := 8) (v := .pointer (some ⟨B, 0, none⟩)) rfl (by kernel_rfl) (by kernel_rfl) (by kernel_rfl) (fun _ _ _ h => h) (Or.inl ⟨by rfl, by intro w; go_simp⟩) ?_
          try simp only [Act.put, List.getElem_toArray, List.getElem_cons_zero, List.getElem_cons_succ, List.setIfInBounds_toArray, List.set_cons_zero, List.set_cons_succ]
          refine wpAny_take (i := 9) (v := .pointer (some ⟨B, 0, none⟩)) rfl (by kernel_rfl) (by kernel_rfl) (by kernel_rfl) (fun _ _ _ h => h) (Or.inl ⟨by rfl, by intro w; go_simp⟩) ?_
          try simp only [Act.put, List.getElem_toArray, List.getElem_cons_zero, List.getElem_cons_succ, List.setIfInBounds_toArray, List.set_cons_zero, List.set_cons_succ]
          refine wpAny_ready (rs := [10]) (by kernel_rfl) (by simp) ?_
          refine AllReady.cons rfl (fun Kc hK => ?_) AllReady.nil
          rw [if_pos (by rfl)]
          go_simp
          refine hK _ _ ?_
          clear hK Kc
          try simp only [Act.put, List.getElem_toArray, List.getElem_cons_zero, List.getElem_cons_succ, List.setIfInBounds_toArray, List.set_cons_zero, List.set_cons_succ]
          refine wpAny_done (by kernel_rfl) ?_ _
          go_wp2_with fail
          go_roundw
          case rel => exact ⟨i + 1, _, rfl, by omega, FF.out⟩
          case measure => simp only [intOf]; omega
    · have hlt2 : ¬ ((i : Int) < s ∧ (i : Int) < 1024) := by have := hn1.out; omega
      obtain rfl : i = n := by omega
      have FIN : Hid (NewRef w i (.returned (.pointer (some ⟨B, 0, none⟩))) wr) := ⟨B, rfl, hbl, by rw [HB.out]; exact Nat.le_refl _, vk, _, hv⟩
      by_cases h1 : (i : Int) < s
      · have h2 : ¬ (i : Int) < 1024 := by omega
        clear hlt2 hv hbl
        go_wp2
        go_ret
        exact FIN.out
      · clear hlt2 hv hbl
        go_wp2
        go_ret
        exact FIN.out
end Go.Proofs.Ytopemjbakpahfaa
