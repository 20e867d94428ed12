/-
  Contracts and plain laws, part 29 (texts: Do1). No condition but what each states.
-/
import Derived.Test.YtopemjbakpahfaaSn28
/-
  One step of the law of any steps, on both devices: the walk. No condition but that the numbers are small.
-/
namespace Go.Proofs.Ytopemjbakpahfaa
open Go.RowKit Disk
set_option linter.unusedSimpArgs false
set_option linter.unusedVariables false
def dataRow (z : Int) (n i : Nat) : List UInt8 := dataTo z i ++ List.replicate (n - i) 0
theorem dataRow_set (z : Int) (n i : Nat) (h : i < n) : ((dataRow z n i).map byteV).toArray.setIfInBounds i (byteV (by8 (wrap64 (z + (i : Int))))) = ((dataRow z n (i + 1)).map byteV).toArray := by
  rw [List.setIfInBounds_toArray]
  congr 1
  unfold dataRow
  rw [show n - i = (n - (i + 1)) + 1 by omega, List.replicate_succ, List.map_append, List.map_cons, List.set_append_right _ _ (by rw [List.length_map, dataTo_len]; omega), List.length_map, dataTo_len, Nat.sub_self, List.set_cons_zero, dataTo_succ, List.append_assoc, List.map_append, List.map_append]
  rfl
theorem Half.set {F1 F2 : Nat → Prop} {w w1 : World} {X Y : Nat} {L : List (Nat × Obj)} {d1 d2 : Dev} {g : Nat} {xs : Array Value} {t : TypeId} (h : Half F1 F2 w X Y ((g, .cells xs t (0, 0)) :: L) d1 d2 w1) (hg : w.heap.size ≤ g) (hL : ∀ p ∈ L, p.1 ≠ g) (i : Nat) (v : Value) :
    Half F1 F2 w X Y ((g, .cells (xs.setIfInBounds i v) t (0, 0)) :: L) d1 d2 (w1.setCell ⟨g, i, none⟩ v) := by
  obtain ⟨hf, G1, G2, h1, h2, h3, h4, h5, h6⟩ := h
  have hs : Frm (fun k => k = g) w1 (w1.setCell ⟨g, i, none⟩ v) := Frm.setCell w1 i v rfl
  obtain ⟨e1, e2, e3⟩ := h6 _ (List.mem_cons_self ..)
  refine ⟨hf.trans hs (fun k hk => .inr (by omega)), G1, G2, h1.frm hs (fun k hk e => e2 (e ▸ hk)), h2.frm hs (fun k hk e => e3 (e ▸ hk)), h3, h4, h5, fun p hp => ?_⟩
  rcases List.mem_cons.1 hp with rfl | hp
  · exact ⟨Joins.block_setCell e1 v, e2, e3⟩
  · obtain ⟨a1, a2, a3⟩ := h6 p (List.mem_cons_of_mem _ hp)
    exact ⟨(Below.heap_setCell _ _ _ _ (hL p hp)).trans a1, a2, a3⟩
/-- What a step leaves. -/
def DoOf (F1 F2 : Nat → Prop) (w : World) (X Y : Nat) (e : Dev) (en : Ending) (w2 : World) : Prop := en = .returned (.bool true) ∧ Half F1 F2 w X Y [] e e w2
theorem Half.drop {F1 F2 : Nat → Prop} {w w1 : World} {X Y : Nat} {L : List (Nat × Obj)} {d1 d2 : Dev} (h : Half F1 F2 w X Y L d1 d2 w1) : Half F1 F2 w X Y [] d1 d2 w1 := by
  obtain ⟨hf, G1, G2, h1, h2, h3, h4, h5, h6⟩ := h
  exact ⟨hf, G1, G2, h1, h2, h3, h4, h5, fun p hp => by cases hp⟩
theorem Half.blk {F1 F2 : Nat → Prop} {w w1 : World} {X Y : Nat} {L : List (Nat × Obj)} {d1 d2 : Dev} (h : Half F1 F2 w X Y L d1 d2 w1) {p : Nat × Obj} (hp : p ∈ L) : w1.heap[p.1]? = some p.2 := by
  obtain ⟨hf, G1, G2, h1, h2, h3, h4, h5, h6⟩ := h
  exact (h6 p hp).1
set_option maxRecDepth 100000 in
set_option maxHeartbeats 4000000 in
theorem do_any {F1 F2 : Nat → Prop} {w : World} {X Y : Nat} {d : Dev} (h : Half F1 F2 w X Y [] d d w) (x y z : Int) (hz : z ≤ 9223372036854775807) (hp : d.pend.length ≤ 100000) (hw : d.writes ≤ 100000) (hy : d.syncs ≤ 100000) :
    Calls Try.prog 41 #[.pointer (some ⟨X, 0, none⟩), .pointer (some ⟨Y, 0, none⟩), .agg #[.int .i64 x, .int .i64 y, .int .i64 z]] w (DoOf F1 F2 w X Y (doD d x y z)) := by
  obtain ⟨m3, hm3⟩ := (⟨_, rfl⟩ : ∃ m, low3 x = m)
  obtain ⟨l3, b3⟩ := low3_eq x
  obtain ⟨l6, b6⟩ := low6_eq z
  have HD : Hid (doD d x y z = if m3 ≤ 3 then (d.write y (dataOf z)).1 else if m3 = 4 then d.sync.1 else if m3 = 5 then d.arm z else if m3 = 6 then (d.restart [y, z, 0]).1 else d) := by rw [← hm3]; rfl
  rw [hm3] at l3 b3
  clear hm3
  generalize doD d x y z = e at HD ⊢
  have HN : Hid (dataOf z = dataTo z (low6 z)) := rfl
  generalize hdo : dataOf z = data at HD HN
  obtain ⟨n, hn⟩ : ∃ n, low6 z = n := ⟨_, rfl⟩
  rw [hn] at l6 b6 HN
  clear hn hdo
  have HB := Lib.hid (h.alloc (.cells #[.int .i64 x, .int .i64 y, .int .i64 z] 47 (0, 0)))
  clear h
  have hmk : (Instr.makeSlice 22 (.int .i64 n) (.int .i64 n)).run Try.prog (w.alloc (.cells #[.int .i64 x, .int .i64 y, .int .i64 z] 47)) = .ok (.slice (some ⟨(w.alloc (.cells #[.int .i64 x, .int .i64 y, .int .i64 z] 47)).heap.size, 0, none⟩) n n) ((w.alloc (.cells #[.int .i64 x, .int .i64 y, .int .i64 z] 47)).alloc (.cells ((List.replicate n (0 : UInt8)).map byteV).toArray 5)) := run_make_bytes _ n (by omega)
  go_enter Try.func41, Try.ntmps41
  go_wp2_with fail
  have H0 : Hid (Half F1 F2 w X Y [(w.heap.size + 1, .cells ((dataRow z n 0).map byteV).toArray 5 (0, 0)), (w.heap.size, .cells #[.int .i64 x, .int .i64 y, .int .i64 z] 47 (0, 0))] d d ((w.alloc (.cells #[.int .i64 x, .int .i64 y, .int .i64 z] 47)).alloc (.cells ((List.replicate n (0 : UInt8)).map byteV).toArray 5))) := by
    have h1 := HB.out.alloc (.cells ((List.replicate n (0 : UInt8)).map byteV).toArray 5 (0, 0))
    rw [show (w.alloc (.cells #[.int .i64 x, .int .i64 y, .int .i64 z] 47 (0, 0))).heap.size = w.heap.size + 1 by simp] at h1
    exact h1
  clear hmk HB
  obtain ⟨bx, hbx⟩ : ∃ bx, w.heap.size = bx := ⟨_, rfl⟩
  have HBX := Lib.hid hbx
  rw [hbx] at H0
  go_loopw [8] (fun iv wr => ∃ i : Nat, iv = .int .i64 i ∧ i ≤ n ∧ Half F1 F2 w X Y [(bx + 1, .cells ((dataRow z n i).map byteV).toArray 5 (0, 0)), (bx, .cells #[.int .i64 x, .int .i64 y, .int .i64 z] 47 (0, 0))] d d wr) (fun iv _ => n - (intOf iv).toNat)
  case atStart => exact ⟨0, rfl, Nat.zero_le _, by have h := H0.out; simp only [List.map_replicate, List.toArray_replicate] at h; exact h⟩
  case round =>
    obtain ⟨i, rfl, hi, hh⟩ := hrel
    have e1 := hh.blk (List.mem_cons_of_mem _ (List.mem_cons_self ..))
    have e2 := hh.blk (List.mem_cons_self ..)
    have c0 : wr.cell? ⟨bx, 0, none⟩ = some (.int .i64 x) := Joins.cell_of_block e1 0
    have c1 : wr.cell? ⟨bx, 1, none⟩ = some (.int .i64 y) := Joins.cell_of_block e1 1
    have c2 : wr.cell? ⟨bx, 2, none⟩ = some (.int .i64 z) := Joins.cell_of_block e1 2
    by_cases hlt : i < n
    · have hi0 : (0 : Int) ≤ (i : Int) := by omega
      have hii : (i : Int) < (n : Int) := by omega
      have fg : wr.frozen? ⟨bx + 1, i, none⟩ = false := Joins.unfrozen_of_block e2 i
      have cg : ∃ v, wr.cell? ⟨bx + 1, i, none⟩ = some v := by
        rw [cell_of_row _ _ i _ 5 (0, 0) e2]
        exact ⟨_, Array.getElem?_eq_getElem (by simp [dataRow, dataTo_len]; omega)⟩
      obtain ⟨v0, cg⟩ := cg
      have NX : Hid (Half F1 F2 w X Y [(bx + 1, .cells ((dataRow z n (i + 1)).map byteV).toArray 5 (0, 0)), (bx, .cells #[.int .i64 x, .int .i64 y, .int .i64 z] 47 (0, 0))] d d (wr.setCell ⟨bx + 1, i, none⟩ (byteV (by8 (wrap64 (z + (i : Int))))))) := by
        have h1 := hh.set (by rw [hbx]; omega) (fun p hp => by obtain rfl := List.mem_singleton.1 hp; simp) i (byteV (by8 (wrap64 (z + (i : Int)))))
        rw [dataRow_set z n i hlt] at h1
        exact h1
      rw [byteV_by8, IntKind.wrap_u8] at NX
      clear hh e1 e2
      go_wp2_with fail
      go_roundw
      case rel => exact ⟨i + 1, rfl, by omega, NX.out⟩
      case measure => simp only [intOf]; omega
    · obtain rfl : i = n := by omega
      have HH := Lib.hid hh
      have HDAT : Hid (dataRow z i i = data) := by show _ = _; rw [HN.out]; simp [dataRow]
      rw [HDAT.out] at HH
      clear hh e1 e2
      have HLEN : Hid (data.length = i) := by show _ = _; rw [HN.out]; exact dataTo_len z i
      obtain ⟨S, hS⟩ : ∃ S : World → Prop, S = fun w' => w'.cell? ⟨bx, 1, none⟩ = some (.int .i64 y) ∧ w'.cell? ⟨bx, 2, none⟩ = some (.int .i64 z) := ⟨_, rfl⟩
      have hSS : Hid (∀ w', S w' → w'.cell? ⟨bx, 1, none⟩ = some (.int .i64 y) ∧ w'.cell? ⟨bx, 2, none⟩ = some (.int .i64 z)) := fun w' h => by rw [hS] at h; exact h
      have SS : ∀ {L : List (Nat × Obj)} {d1 d2 : Dev} {w' : World}, Half F1 F2 w X Y (L ++ [(bx, .cells #[.int .i64 x, .int .i64 y, .int .i64 z] 47 (0, 0))]) d1 d2 w' → S w' := fun {L d1 d2 w'} hh => by
        have e1 := hh.blk (List.mem_append_right _ (List.mem_cons_self ..))
        rw [hS]
        exact ⟨Joins.cell_of_block e1 1, Joins.cell_of_block e1 2⟩
      have SM : ∀ {L : List (Nat × Obj)} {d1 d2 : Dev} {w' : World}, (bx, Obj.cells #[.int .i64 x, .int .i64 y, .int .i64 z] 47 (0, 0)) ∈ L → Half F1 F2 w X Y L d1 d2 w' → S w' := fun {L d1 d2 w'} hm hh => by
        have e1 := hh.blk hm
        rw [hS]
        exact ⟨Joins.cell_of_block e1 1, Joins.cell_of_block e1 2⟩
      rcases (by omega : (m3 = 0 ∨ m3 = 1 ∨ m3 = 2 ∨ m3 = 3) ∨ m3 = 4 ∨ m3 = 5 ∨ m3 = 6 ∨ m3 = 7) with hm | rfl | rfl | rfl | rfl
      · have HW := Lib.hid (HH.out.below (Below.refl _ wr).drew)
        have s0 : S wr.drew := SS (L := [_]) HW.out
        rcases hm with rfl | rfl | rfl | rfl
        all_goals
          go_wp2_with fail
          refine wp_region_held (S := S) (by kernel_rfl) ?_
          change wpAnyH _ _ _ _ _ _ _ _ (World.drew _)
          refine wpAnyH_take (i := 0) (v := .pointer (some ⟨X, 0, none⟩)) rfl (by kernel_rfl) (by kernel_rfl) (by kernel_rfl) (fun _ _ _ h => h) (.inl ⟨by rfl, by intro w hw; have h := hSS.out w hw; obtain ⟨h1, h2⟩ := h; go_simp⟩) s0 ?_
          try simp only [Act.put, List.getElem_toArray, List.getElem_cons_zero, List.getElem_cons_succ, List.setIfInBounds_toArray, List.set_cons_zero, List.set_cons_succ]
          refine wpAnyH_take (i := 1) (v := .pointer (some ⟨bx, 1, none⟩)) rfl (by kernel_rfl) (by kernel_rfl) (by kernel_rfl) (fun _ _ _ h => h) (.inl ⟨by rfl, by intro w hw; have h := hSS.out w hw; obtain ⟨h1, h2⟩ := h; go_simp⟩) s0 ?_
          try simp only [Act.put, List.getElem_toArray, List.getElem_cons_zero, List.getElem_cons_succ, List.setIfInBounds_toArray, List.set_cons_zero, List.set_cons_succ]
          refine wpAnyH_take (i := 2) (v := .int .i64 y) rfl (by kernel_rfl) (by kernel_rfl) (by kernel_rfl) (fun _ _ _ h => h) (.inl ⟨by rfl, by intro w hw; have h := hSS.out w hw; obtain ⟨h1, h2⟩ := h; go_simp⟩) s0 ?_
          try simp only [Act.put, List.getElem_toArray, List.getElem_cons_zero, List.getElem_cons_succ, List.setIfInBounds_toArray, List.set_cons_zero, List.set_cons_succ]
          refine wpAnyH_take (i := 3) (v := .slice (some ⟨bx + 1, 0, none⟩) i i) rfl (by kernel_rfl) (by kernel_rfl) (by kernel_rfl) (fun _ _ _ h => h) (.inl ⟨by rfl, by intro w hw; have h := hSS.out w hw; obtain ⟨h1, h2⟩ := h; go_simp⟩) s0 ?_
          try simp only [Act.put, List.getElem_toArray, List.getElem_cons_zero, List.getElem_cons_succ, List.setIfInBounds_toArray, List.set_cons_zero, List.set_cons_succ]
          refine wpAnyH_take (i := 5) (v := .pointer (some ⟨Y, 0, none⟩)) rfl (by kernel_rfl) (by kernel_rfl) (by kernel_rfl) (fun _ _ _ h => h) (.inl ⟨by rfl, by intro w hw; have h := hSS.out w hw; obtain ⟨h1, h2⟩ := h; go_simp⟩) s0 ?_
          try simp only [Act.put, List.getElem_toArray, List.getElem_cons_zero, List.getElem_cons_succ, List.setIfInBounds_toArray, List.set_cons_zero, List.set_cons_succ]
          refine wpAnyH_take (i := 6) (v := .pointer (some ⟨bx, 1, none⟩)) rfl (by kernel_rfl) (by kernel_rfl) (by kernel_rfl) (fun _ _ _ h => h) (.inl ⟨by rfl, by intro w hw; have h := hSS.out w hw; obtain ⟨h1, h2⟩ := h; go_simp⟩) s0 ?_
          try simp only [Act.put, List.getElem_toArray, List.getElem_cons_zero, List.getElem_cons_succ, List.setIfInBounds_toArray, List.set_cons_zero, List.set_cons_succ]
          refine wpAnyH_take (i := 7) (v := .int .i64 y) rfl (by kernel_rfl) (by kernel_rfl) (by kernel_rfl) (fun _ _ _ h => h) (.inl ⟨by rfl, by intro w hw; have h := hSS.out w hw; obtain ⟨h1, h2⟩ := h; go_simp⟩) s0 ?_
          try simp only [Act.put, List.getElem_toArray, List.getElem_cons_zero, List.getElem_cons_succ, List.setIfInBounds_toArray, List.set_cons_zero, List.set_cons_succ]
          refine wpAnyH_take (i := 8) (v := .slice (some ⟨bx + 1, 0, none⟩) i i) rfl (by kernel_rfl) (by kernel_rfl) (by kernel_rfl) (fun _ _ _ h => h) (.inl ⟨by rfl, by intro w hw; have h := hSS.out w hw; obtain ⟨h1, h2⟩ := h; go_simp⟩) s0 ?_
          try simp only [Act.put, List.getElem_toArray, List.getElem_cons_zero, List.getElem_cons_succ, List.setIfInBounds_toArray, List.set_cons_zero, List.set_cons_succ]
          refine wpAnyH_one (i := 4) (by kernel_rfl) rfl (by rfl) (fun Kc hK => ?_)
          go_simp
          refine (HW.out.writeX y data (bx + 1) i i (List.mem_cons_self ..) HLEN.out (by have := HLEN.out; omega) hp hw).mono ?_
          rintro en w2 ⟨rfl, h2⟩
          go_simp
          refine hK _ _ (SS (L := [_]) h2) ?_
          clear hK Kc
          try simp only [Act.put, List.getElem_toArray, List.getElem_cons_zero, List.getElem_cons_succ, List.setIfInBounds_toArray, List.set_cons_zero, List.set_cons_succ]
          refine wpAnyH_one (i := 9) (by kernel_rfl) rfl (by rfl) (fun Kc hK => ?_)
          go_simp
          refine (h2.writeY y data (bx + 1) i i (List.mem_cons_self ..) HLEN.out (by have := HLEN.out; omega) hp hw).mono ?_
          rintro en w3 ⟨rfl, h3⟩
          go_simp
          refine hK _ _ (SS (L := [_]) h3) ?_
          clear hK Kc
          try simp only [Act.put, List.getElem_toArray, List.getElem_cons_zero, List.getElem_cons_succ, List.setIfInBounds_toArray, List.set_cons_zero, List.set_cons_succ]
          refine wpAnyH_take (i := 10) (v := .bool true) rfl (by kernel_rfl) (by kernel_rfl) (by kernel_rfl) (fun _ _ _ h => h) (.inl ⟨by rfl, by intro w hw; go_simp⟩) (SS (L := [_]) h3) ?_
          try simp only [Act.put, List.getElem_toArray, List.getElem_cons_zero, List.getElem_cons_succ, List.setIfInBounds_toArray, List.set_cons_zero, List.set_cons_succ]
          refine wpAnyH_take (i := 11) (v := .bool true) rfl (by kernel_rfl) (by kernel_rfl) (by kernel_rfl) (fun _ _ _ h => h) (.inl ⟨by rfl, by intro w hw; go_simp⟩) (SS (L := [_]) h3) ?_
          try simp only [Act.put, List.getElem_toArray, List.getElem_cons_zero, List.getElem_cons_succ, List.setIfInBounds_toArray, List.set_cons_zero, List.set_cons_succ]
          refine wpAnyH_done (by kernel_rfl) ?_ _
          go_wp2
          go_ret
          exact ⟨rfl, by rw [show e = _ by simpa using HD.out]; exact h3.drop⟩
      · go_wp2_with fail
        refine (HH.out.syncX hp hy).mono ?_
        rintro en w2 ⟨rfl, h2⟩
        go_wp2_with fail
        refine (h2.syncY hp hy).mono ?_
        rintro en w3 ⟨rfl, h3⟩
        go_wp2
        go_ret
        exact ⟨rfl, by rw [show e = _ by simpa using HD.out]; exact h3.drop⟩
      · go_wp2_with fail
        refine (HH.out.armX z hz).mono ?_
        rintro en w2 ⟨⟨v2, rfl, _⟩, h2⟩
        have k1 : w2.cell? ⟨bx, 2, none⟩ = some (.int .i64 z) := (hSS.out w2 (SS (L := [_]) h2)).2
        go_wp2_with fail
        refine (h2.armY z hz).mono ?_
        rintro en w3 ⟨⟨v3, rfl, _⟩, h3⟩
        go_wp2
        go_ret
        exact ⟨rfl, by rw [show e = _ by simpa using HD.out]; exact h3.drop⟩
      · have HW := Lib.hid (HH.out.below (Below.refl _ wr).drew)
        have s0 : S wr.drew := SS (L := [_]) HW.out
        go_wp2_with fail
        refine wp_region_held (S := S) (by kernel_rfl) ?_
        change wpAnyH _ _ _ _ _ _ _ _ (World.drew _)
        refine wpAnyH_take (i := 0) (v := .pointer (some ⟨X, 0, none⟩)) rfl (by kernel_rfl) (by kernel_rfl) (by kernel_rfl) (fun _ _ _ h => h) (.inl ⟨by rfl, by intro w hw; have h := hSS.out w hw; obtain ⟨h1, h2⟩ := h; go_simp⟩) s0 ?_
        try simp only [Act.put, List.getElem_toArray, List.getElem_cons_zero, List.getElem_cons_succ, List.setIfInBounds_toArray, List.set_cons_zero, List.set_cons_succ]
        refine wpAnyH_take (i := 1) (v := .pointer (some ⟨bx, 1, none⟩)) rfl (by kernel_rfl) (by kernel_rfl) (by kernel_rfl) (fun _ _ _ h => h) (.inl ⟨by rfl, by intro w hw; have h := hSS.out w hw; obtain ⟨h1, h2⟩ := h; go_simp⟩) s0 ?_
        try simp only [Act.put, List.getElem_toArray, List.getElem_cons_zero, List.getElem_cons_succ, List.setIfInBounds_toArray, List.set_cons_zero, List.set_cons_succ]
        refine wpAnyH_take (i := 2) (v := .int .i64 y) rfl (by kernel_rfl) (by kernel_rfl) (by kernel_rfl) (fun _ _ _ h => h) (.inl ⟨by rfl, by intro w hw; have h := hSS.out w hw; obtain ⟨h1, h2⟩ := h; go_simp⟩) s0 ?_
        try simp only [Act.put, List.getElem_toArray, List.getElem_cons_zero, List.getElem_cons_succ, List.setIfInBounds_toArray, List.set_cons_zero, List.set_cons_succ]
        refine wpAnyH_take (i := 3) (v := .pointer (some ⟨bx, 2, none⟩)) rfl (by kernel_rfl) (by kernel_rfl) (by kernel_rfl) (fun _ _ _ h => h) (.inl ⟨by rfl, by intro w hw; have h := hSS.out w hw; obtain ⟨h1, h2⟩ := h; go_simp⟩) s0 ?_
        try simp only [Act.put, List.getElem_toArray, List.getElem_cons_zero, List.getElem_cons_succ, List.setIfInBounds_toArray, List.set_cons_zero, List.set_cons_succ]
        refine wpAnyH_take (i := 4) (v := .int .i64 z) rfl (by kernel_rfl) (by kernel_rfl) (by kernel_rfl) (fun _ _ _ h => h) (.inl ⟨by rfl, by intro w hw; have h := hSS.out w hw; obtain ⟨h1, h2⟩ := h; go_simp⟩) s0 ?_
        try simp only [Act.put, List.getElem_toArray, List.getElem_cons_zero, List.getElem_cons_succ, List.setIfInBounds_toArray, List.set_cons_zero, List.set_cons_succ]
        refine wpAnyH_take (i := 7) (v := .pointer (some ⟨Y, 0, none⟩)) rfl (by kernel_rfl) (by kernel_rfl) (by kernel_rfl) (fun _ _ _ h => h) (.inl ⟨by rfl, by intro w hw; have h := hSS.out w hw; obtain ⟨h1, h2⟩ := h; go_simp⟩) s0 ?_
        try simp only [Act.put, List.getElem_toArray, List.getElem_cons_zero, List.getElem_cons_succ, List.setIfInBounds_toArray, List.set_cons_zero, List.set_cons_succ]
        refine wpAnyH_take (i := 8) (v := .pointer (some ⟨bx, 1, none⟩)) rfl (by kernel_rfl) (by kernel_rfl) (by kernel_rfl) (fun _ _ _ h => h) (.inl ⟨by rfl, by intro w hw; have h := hSS.out w hw; obtain ⟨h1, h2⟩ := h; go_simp⟩) s0 ?_
        try simp only [Act.put, List.getElem_toArray, List.getElem_cons_zero, List.getElem_cons_succ, List.setIfInBounds_toArray, List.set_cons_zero, List.set_cons_succ]
        refine wpAnyH_take (i := 9) (v := .int .i64 y) rfl (by kernel_rfl) (by kernel_rfl) (by kernel_rfl) (fun _ _ _ h => h) (.inl ⟨by rfl, by intro w hw; have h := hSS.out w hw; obtain ⟨h1, h2⟩ := h; go_simp⟩) s0 ?_
        try simp only [Act.put, List.getElem_toArray, List.getElem_cons_zero, List.getElem_cons_succ, List.setIfInBounds_toArray, List.set_cons_zero, List.set_cons_succ]
        refine wpAnyH_take (i := 10) (v := .pointer (some ⟨bx, 2, none⟩)) rfl (by kernel_rfl) (by kernel_rfl) (by kernel_rfl) (fun _ _ _ h => h) (.inl ⟨by rfl, by intro w hw; have h := hSS.out w hw; obtain ⟨h1, h2⟩ := h; go_simp⟩) s0 ?_
        try simp only [Act.put, List.getElem_toArray, List.getElem_cons_zero, List.getElem_cons_succ, List.setIfInBounds_toArray, List.set_cons_zero, List.set_cons_succ]
        refine wpAnyH_take (i := 11) (v := .int .i64 z) rfl (by kernel_rfl) (by kernel_rfl) (by kernel_rfl) (fun _ _ _ h => h) (.inl ⟨by rfl, by intro w hw; have h := hSS.out w hw; obtain ⟨h1, h2⟩ := h; go_simp⟩) s0 ?_
        try simp only [Act.put, List.getElem_toArray, List.getElem_cons_zero, List.getElem_cons_succ, List.setIfInBounds_toArray, List.set_cons_zero, List.set_cons_succ]
        refine wpAnyH_two (i := 5) (j := 12) (by kernel_rfl) rfl rfl (by rfl) (by rfl) (fun Kc hK => ?_) (fun Kc hK => ?_)
        · have h1 := HW.out.alloc (.cells #[.int .i64 y, .int .i64 z, .int .i64 0] 3 (0, 0))
          go_simp
          refine hK _ _ (SM (by simp) h1) ?_
          clear hK Kc
          try simp only [Act.put, List.getElem_toArray, List.getElem_cons_zero, List.getElem_cons_succ, List.setIfInBounds_toArray, List.set_cons_zero, List.set_cons_succ]
          refine wpAnyH_two (i := 6) (j := 12) (by kernel_rfl) rfl rfl (by rfl) (by rfl) (fun Kc hK => ?_) (fun Kc hK => ?_)
          · go_simp
            refine (h1.restartX y z 3 _ 3 (by first | exact List.mem_cons_self .. | exact List.mem_cons_of_mem _ (List.mem_cons_self ..) | (simp; done) | exact List.mem_cons.2 (.inl (congrArg (fun q => (q, _)) (by simp))) | exact List.mem_cons.2 (.inl (congrArg (fun q => (q, _)) (by rfl)))) hp).mono ?_
            rintro en w2 ⟨rfl, h2⟩
            go_simp
            refine hK _ _ (SM (by simp) h2) ?_
            clear hK Kc
            try simp only [Act.put, List.getElem_toArray, List.getElem_cons_zero, List.getElem_cons_succ, List.setIfInBounds_toArray, List.set_cons_zero, List.set_cons_succ]
            refine wpAnyH_one (i := 12) (by kernel_rfl) rfl (by rfl) (fun Kc hK => ?_)
            have h3 := h2.alloc (.cells #[.int .i64 y, .int .i64 z, .int .i64 0] 3 (0, 0))
            go_simp
            refine hK _ _ (SM (by simp) h3) ?_
            clear hK Kc
            try simp only [Act.put, List.getElem_toArray, List.getElem_cons_zero, List.getElem_cons_succ, List.setIfInBounds_toArray, List.set_cons_zero, List.set_cons_succ]
            refine wpAnyH_one (i := 13) (by kernel_rfl) rfl (by rfl) (fun Kc hK => ?_)
            go_simp
            refine (h3.restartY y z 3 _ 3 (by first | exact List.mem_cons_self .. | exact List.mem_cons_of_mem _ (List.mem_cons_self ..) | (simp; done) | exact List.mem_cons.2 (.inl (congrArg (fun q => (q, _)) (by simp))) | exact List.mem_cons.2 (.inl (congrArg (fun q => (q, _)) (by rfl)))) hp).mono ?_
            rintro en w4 ⟨rfl, h4⟩
            go_simp
            refine hK _ _ (SM (by simp) h4) ?_
            clear hK Kc
            try simp only [Act.put, List.getElem_toArray, List.getElem_cons_zero, List.getElem_cons_succ, List.setIfInBounds_toArray, List.set_cons_zero, List.set_cons_succ]
            refine wpAnyH_take (i := 14) (v := .bool true) rfl (by kernel_rfl) (by kernel_rfl) (by kernel_rfl) (fun _ _ _ h => h) (.inl ⟨by rfl, by intro w hw; go_simp⟩) (SM (by simp) h4) ?_
            try simp only [Act.put, List.getElem_toArray, List.getElem_cons_zero, List.getElem_cons_succ, List.setIfInBounds_toArray, List.set_cons_zero, List.set_cons_succ]
            refine wpAnyH_take (i := 15) (v := .bool true) rfl (by kernel_rfl) (by kernel_rfl) (by kernel_rfl) (fun _ _ _ h => h) (.inl ⟨by rfl, by intro w hw; go_simp⟩) (SM (by simp) h4) ?_
            try simp only [Act.put, List.getElem_toArray, List.getElem_cons_zero, List.getElem_cons_succ, List.setIfInBounds_toArray, List.set_cons_zero, List.set_cons_succ]
            refine wpAnyH_done (by kernel_rfl) ?_ _
            go_wp2
            go_ret
            exact ⟨rfl, by rw [show e = _ by simpa using HD.out]; exact h4.drop⟩
          · have h2 := h1.alloc (.cells #[.int .i64 y, .int .i64 z, .int .i64 0] 3 (0, 0))
            go_simp
            refine hK _ _ (SM (by simp) h2) ?_
            clear hK Kc
            try simp only [Act.put, List.getElem_toArray, List.getElem_cons_zero, List.getElem_cons_succ, List.setIfInBounds_toArray, List.set_cons_zero, List.set_cons_succ]
            refine wpAnyH_one (i := 6) (by kernel_rfl) rfl (by rfl) (fun Kc hK => ?_)
            go_simp
            refine (h2.restartX y z 3 _ 3 (by first | exact List.mem_cons_self .. | exact List.mem_cons_of_mem _ (List.mem_cons_self ..) | (simp; done) | exact List.mem_cons.2 (.inl (congrArg (fun q => (q, _)) (by simp))) | exact List.mem_cons.2 (.inl (congrArg (fun q => (q, _)) (by rfl)))) hp).mono ?_
            rintro en w3 ⟨rfl, h3⟩
            go_simp
            refine hK _ _ (SM (by simp) h3) ?_
            clear hK Kc
            try simp only [Act.put, List.getElem_toArray, List.getElem_cons_zero, List.getElem_cons_succ, List.setIfInBounds_toArray, List.set_cons_zero, List.set_cons_succ]
            refine wpAnyH_one (i := 13) (by kernel_rfl) rfl (by rfl) (fun Kc hK => ?_)
            go_simp
            refine (h3.restartY y z 3 _ 3 (by first | exact List.mem_cons_self .. | exact List.mem_cons_of_mem _ (List.mem_cons_self ..) | (simp; done) | exact List.mem_cons.2 (.inl (congrArg (fun q => (q, _)) (by simp))) | exact List.mem_cons.2 (.inl (congrArg (fun q => (q, _)) (by rfl)))) hp).mono ?_
            rintro en w4 ⟨rfl, h4⟩
            go_simp
            refine hK _ _ (SM (by simp) h4) ?_
            clear hK Kc
            try simp only [Act.put, List.getElem_toArray, List.getElem_cons_zero, List.getElem_cons_succ, List.setIfInBounds_toArray, List.set_cons_zero, List.set_cons_succ]
            refine wpAnyH_take (i := 14) (v := .bool true) rfl (by kernel_rfl) (by kernel_rfl) (by kernel_rfl) (fun _ _ _ h => h) (.inl ⟨by rfl, by intro w hw; go_simp⟩) (SM (by simp) h4) ?_
            try simp only [Act.put, List.getElem_toArray, List.getElem_cons_zero, List.getElem_cons_succ, List.setIfInBounds_toArray, List.set_cons_zero, List.set_cons_succ]
            refine wpAnyH_take (i := 15) (v := .bool true) rfl (by kernel_rfl) (by kernel_rfl) (by kernel_rfl) (fun _ _ _ h => h) (.inl ⟨by rfl, by intro w hw; go_simp⟩) (SM (by simp) h4) ?_
            try simp only [Act.put, List.getElem_toArray, List.getElem_cons_zero, List.getElem_cons_succ, List.setIfInBounds_toArray, List.set_cons_zero, List.set_cons_succ]
            refine wpAnyH_done (by kernel_rfl) ?_ _
            go_wp2
            go_ret
            exact ⟨rfl, by rw [show e = _ by simpa using HD.out]; exact h4.drop⟩
        · have h1 := HW.out.alloc (.cells #[.int .i64 y, .int .i64 z, .int .i64 0] 3 (0, 0))
          go_simp
          refine hK _ _ (SM (by simp) h1) ?_
          clear hK Kc
          try simp only [Act.put, List.getElem_toArray, List.getElem_cons_zero, List.getElem_cons_succ, List.setIfInBounds_toArray, List.set_cons_zero, List.set_cons_succ]
          refine wpAnyH_one (i := 5) (by kernel_rfl) rfl (by rfl) (fun Kc hK => ?_)
          have h2 := h1.alloc (.cells #[.int .i64 y, .int .i64 z, .int .i64 0] 3 (0, 0))
          go_simp
          refine hK _ _ (SM (by simp) h2) ?_
          clear hK Kc
          try simp only [Act.put, List.getElem_toArray, List.getElem_cons_zero, List.getElem_cons_succ, List.setIfInBounds_toArray, List.set_cons_zero, List.set_cons_succ]
          refine wpAnyH_one (i := 6) (by kernel_rfl) rfl (by rfl) (fun Kc hK => ?_)
          go_simp
          refine (h2.restartX y z 3 _ 3 (by first | exact List.mem_cons_self .. | exact List.mem_cons_of_mem _ (List.mem_cons_self ..) | (simp; done) | exact List.mem_cons.2 (.inl (congrArg (fun q => (q, _)) (by simp))) | exact List.mem_cons.2 (.inl (congrArg (fun q => (q, _)) (by rfl)))) hp).mono ?_
          rintro en w3 ⟨rfl, h3⟩
          go_simp
          refine hK _ _ (SM (by simp) h3) ?_
          clear hK Kc
          try simp only [Act.put, List.getElem_toArray, List.getElem_cons_zero, List.getElem_cons_succ, List.setIfInBounds_toArray, List.set_cons_zero, List.set_cons_succ]
          refine wpAnyH_one (i := 13) (by kernel_rfl) rfl (by rfl) (fun Kc hK => ?_)
          go_simp
          refine (h3.restartY y z 3 _ 3 (by first | exact List.mem_cons_self .. | exact List.mem_cons_of_mem _ (List.mem_cons_self ..) | (simp; done) | exact List.mem_cons.2 (.inl (congrArg (fun q => (q, _)) (by simp))) | exact List.mem_cons.2 (.inl (congrArg (fun q => (q, _)) (by rfl)))) hp).mono ?_
          rintro en w4 ⟨rfl, h4⟩
          go_simp
          refine hK _ _ (SM (by simp) h4) ?_
          clear hK Kc
          try simp only [Act.put, List.getElem_toArray, List.getElem_cons_zero, List.getElem_cons_succ, List.setIfInBounds_toArray, List.set_cons_zero, List.set_cons_succ]
          refine wpAnyH_take (i := 14) (v := .bool true) rfl (by kernel_rfl) (by kernel_rfl) (by kernel_rfl) (fun _ _ _ h => h) (.inl ⟨by rfl, by intro w hw; go_simp⟩) (SM (by simp) h4) ?_
          try simp only [Act.put, List.getElem_toArray, List.getElem_cons_zero, List.getElem_cons_succ, List.setIfInBounds_toArray, List.set_cons_zero, List.set_cons_succ]
          refine wpAnyH_take (i := 15) (v := .bool true) rfl (by kernel_rfl) (by kernel_rfl) (by kernel_rfl) (fun _ _ _ h => h) (.inl ⟨by rfl, by intro w hw; go_simp⟩) (SM (by simp) h4) ?_
          try simp only [Act.put, List.getElem_toArray, List.getElem_cons_zero, List.getElem_cons_succ, List.setIfInBounds_toArray, List.set_cons_zero, List.set_cons_succ]
          refine wpAnyH_done (by kernel_rfl) ?_ _
          go_wp2
          go_ret
          exact ⟨rfl, by rw [show e = _ by simpa using HD.out]; exact h4.drop⟩
      · have hr0 := HH.out
        obtain ⟨hf, G1, G2, h1, h2, h3, h4, h5, h6⟩ := hr0
        go_wp2_with fail
        refine (read_any h1 y hp).mono ?_
        rintro en w2 ⟨b2, v2, rfl, s2⟩
        have H2 := HH.out.below b2
        have k1 : w2.cell? ⟨bx, 1, none⟩ = some (.int .i64 y) := (hSS.out w2 (SS (L := [_]) H2)).1
        go_wp2_with fail
        refine (rread_any (h2.below b2) y hp).mono ?_
        rintro en w3 ⟨b3, v3, rfl, s3⟩
        have H3 := H2.below b3
        obtain ⟨a2, c2, rfl, n2, r2⟩ := sec_text s2
        have C2 : (convert 22 9 (.slice a2 (d.read y).1.length c2)).run Try.prog w3 = .ok (.string ⟨(d.read y).1.toArray⟩) w3 := conv_str _ a2 c2 _ n2 (r2.below b3)
        have C3 : (convert 22 9 v3).run Try.prog w3 = .ok (.string ⟨(d.read y).1.toArray⟩) w3 := conv_bs s3
        generalize d.read y = rr at C2 C3 ⊢
        go_wp2
        go_ret
        exact ⟨rfl, by rw [show e = _ by simpa using HD.out]; exact H3.drop⟩
end Go.Proofs.Ytopemjbakpahfaa
