/-
  Contracts and plain laws, part 36 (texts: S5). No condition but what each states.
-/
import Derived.Test.YtopemjbakpahfaaSn35
/-
  The reading of a store's head: the walk. No condition but that the lengths are small.
-/
namespace Go.Proofs.Ytopemjbakpahfaa
open Go.RowKit Disk Jour Crc Slot
set_option linter.unusedSimpArgs false
set_option linter.unusedVariables false
def hdV (h : Hd) : Value := .agg #[.int .i64 (h.slot : Int), .int .i64 (h.long : Int), .int .i64 (h.used : Int), .int .i64 (h.turn : Int)]
def ReadHd (b : List UInt8) (w : World) (en : Ending) (w' : World) : Prop := Below w.heap.size w w' ∧ en = .returned (.tuple #[hdV ((hread b).getD hd0), .bool (hread b).isSome])
theorem readHd_none {b : List UInt8} {w w' : World} {v : Value} (h : hread b = none) (hb : Below w.heap.size w w') (hv : v = .tuple #[.agg #[.int .i64 0, .int .i64 0, .int .i64 0, .int .i64 0], .bool false]) : ReadHd b w (.returned v) w' := by
  subst hv; exact ⟨hb, by rw [h]; rfl⟩
theorem readHd_zero {b : List UInt8} {w w' : World} {v : Value} (h : hread b = some hd0) (hb : Below w.heap.size w w') (hv : v = .tuple #[.agg #[.int .i64 0, .int .i64 0, .int .i64 0, .int .i64 0], .bool true]) : ReadHd b w (.returned v) w' := by
  subst hv; exact ⟨hb, by rw [h]; rfl⟩
def nextsW (w2 : World) (gh ch : Nat) : World := (w2.alloc (.cells #[.slice (some ⟨gh, 0, none⟩) 13 ch] 22)).drew
theorem nexts_any {h : List UInt8} {w2 : World} {gh ch : Nat} (h13 : h.length = 13) (hch : 13 ≤ ch) (RH : RB w2 (some ⟨gh, 0, none⟩) h) (p : Nat) (hp : p + 4 ≤ 13) :
    Calls Try.prog 108 #[.int .i64 (p : Int), .pointer (some ⟨w2.heap.size, 0, none⟩)] (nextsW w2 gh ch) fun en w' => en = .returned (.int .i64 (num ((h.drop p).take 4) : Int)) ∧ nextsW w2 gh ch = w' := by
  have hb : Boxed (nextsW w2 gh ch) w2.heap.size 22 (.slice (some ⟨gh, 0, none⟩) 13 ch) := Boxed.new w2 22 _
  have hr : RB (nextsW w2 gh ch) (some ⟨gh, 0, none⟩) h := (RH.below (below_alloc w2 _)).drew
  exact fourat_any h p w2.heap.size gh ch _ (by omega) h13 hch hb hr
theorem hread_yes {b h r : List UInt8} (hz : zerosB b = false) (e : cut b = some (h, r)) (h13 : h.length = 13) (h2 : (h.getD 0 0).toNat < 2) (hzr : zerosB r = true) : hread b = some (htell h) := by
  unfold hread
  rw [if_neg (by rw [hz]; decide), e]
  exact if_pos ⟨h13, h2, hzr⟩
theorem set4 {n : Nat} {w w2 : World} (h : Below n w w2) (hn : n ≤ w.heap.size) (X : Obj) (a b c d : Value) : Below n w (((((w2.alloc X).setCell ⟨n, 0, none⟩ a).setCell ⟨n, 1, none⟩ b).setCell ⟨n, 2, none⟩ c).setCell ⟨n, 3, none⟩ d) := by
  have h1 := h.trans ((below_alloc w2 X).mono (Nat.le_trans hn h.size))
  exact (((h1.setCell (p := ⟨n, 0, none⟩) (Nat.le_refl _) a).setCell (p := ⟨n, 1, none⟩) (Nat.le_refl _) b).setCell (p := ⟨n, 2, none⟩) (Nat.le_refl _) c).setCell (p := ⟨n, 3, none⟩) (Nat.le_refl _) d
theorem set4' {n : Nat} {w w2 : World} (h : Below n w w2) (hn : n ≤ w.heap.size) (X : Obj) (a b c d : Value) : Below n w ((((((w2.alloc X).drew).setCell ⟨n, 0, none⟩ a).setCell ⟨n, 1, none⟩ b).setCell ⟨n, 2, none⟩ c).setCell ⟨n, 3, none⟩ d) := by
  have h1 := (h.trans ((below_alloc w2 X).mono (Nat.le_trans hn h.size))).drew
  exact (((h1.setCell (p := ⟨n, 0, none⟩) (Nat.le_refl _) a).setCell (p := ⟨n, 1, none⟩) (Nat.le_refl _) b).setCell (p := ⟨n, 2, none⟩) (Nat.le_refl _) c).setCell (p := ⟨n, 3, none⟩) (Nat.le_refl _) d
set_option maxRecDepth 100000 in
set_option maxHeartbeats 4000000 in
theorem hread_any (b : List UInt8) (a : Option Addr) (cap : Nat) (w : World) (hl : b.length ≤ 1000000) (hc : b.length ≤ cap) (hr : RB w a b) : Calls Try.prog 95 #[.slice a b.length cap] w (ReadHd b w) := by
  have HR := Lib.hid hr
  clear hr
  have ZZ : Hid (∀ z, zerosB b = z → ∀ w1, Below w.heap.size w w1 → Calls Try.prog 105 #[.slice a b.length cap] w1 fun en w' => en = .returned (.bool z) ∧ w1 = w') := fun z hz w1 hb => zero_any b a cap w1 hl (HR.out.below hb) z hz
  cases hz : zerosB b
  rotate_left
  · have E : Hid (hread b = some hd0) := by show _ = _; unfold hread; rw [if_pos hz]
    have Z1 := Lib.hid (ZZ.out true hz)
    clear hz
    go_enter Try.func95, Try.ntmps95
    go_wp2_with fail
    refine (Z1.out _ (below_alloc w _)).mono ?_
    rintro en w1 ⟨rfl, rfl⟩
    go_wp2_with fail
    refine bodyPost_ret (v := .tuple #[.agg #[.int .i64 0, .int .i64 0, .int .i64 0, .int .i64 0], .bool true]) (by simp [results, Try.results95, go_sem]) rfl ?_
    exact readHd_zero E.out (below_alloc w _) rfl
  have Z1 := Lib.hid (ZZ.out false hz)
  have HZ := Lib.hid hz
  clear hz
  have HCUT : Hid (∀ w1, Below w.heap.size w w1 → Calls Try.prog 26 #[.slice a b.length cap] w1 (CutNew b w1)) := fun w1 hb => Cut_any b a cap w1 hc hl (HR.out.below hb)
  go_enter Try.func95, Try.ntmps95
  go_wp2_with fail
  refine (Z1.out _ (below_alloc w _)).mono ?_
  rintro en w1 ⟨rfl, rfl⟩
  go_wp2_with fail
  refine (HCUT.out _ (below_alloc w _)).mono ?_
  rintro en w2 ⟨b2, ⟨e2, rfl⟩ | ⟨h, r, v1, v2, e2, rfl, o1, o2⟩⟩
  · have E : Hid (hread b = none) := by show _ = _; unfold hread; rw [if_neg (by rw [HZ.out]; decide), e2]
    have hblk : w2.heap[w.heap.size]? = some (.cells #[.int .i64 0, .int .i64 0, .int .i64 0, .int .i64 0] 132 (0, 0)) := (b2.block w.heap.size (by simp)).trans (heap_alloc_new w _)
    have B2 := Lib.hid ((below_alloc w (.cells #[.int .i64 0, .int .i64 0, .int .i64 0, .int .i64 0] 132)).trans (b2.mono (by simp)))
    clear e2
    have hblk2 : (w2.alloc (.cells #[.slice none 0 0] 22)).heap[w.heap.size]? = some (.cells #[.int .i64 0, .int .i64 0, .int .i64 0, .int .i64 0] 132 (0, 0)) := (Below.heap_alloc w2 _ _ (by have := b2.size; simp at this; omega)).trans hblk
    have k0 : (w2.alloc (.cells #[.slice none 0 0] 22)).cell? ⟨w.heap.size, 0, none⟩ = some (.int .i64 0) := Joins.cell_of_block hblk2 0
    have kf0 : (w2.alloc (.cells #[.slice none 0 0] 22)).frozen? ⟨w.heap.size, 0, none⟩ = false := Joins.unfrozen_of_block hblk2 0
    have k1 : (w2.alloc (.cells #[.slice none 0 0] 22)).cell? ⟨w.heap.size, 1, none⟩ = some (.int .i64 0) := Joins.cell_of_block hblk2 1
    have kf1 : (w2.alloc (.cells #[.slice none 0 0] 22)).frozen? ⟨w.heap.size, 1, none⟩ = false := Joins.unfrozen_of_block hblk2 1
    have k2 : (w2.alloc (.cells #[.slice none 0 0] 22)).cell? ⟨w.heap.size, 2, none⟩ = some (.int .i64 0) := Joins.cell_of_block hblk2 2
    have kf2 : (w2.alloc (.cells #[.slice none 0 0] 22)).frozen? ⟨w.heap.size, 2, none⟩ = false := Joins.unfrozen_of_block hblk2 2
    have k3 : (w2.alloc (.cells #[.slice none 0 0] 22)).cell? ⟨w.heap.size, 3, none⟩ = some (.int .i64 0) := Joins.cell_of_block hblk2 3
    have kf3 : (w2.alloc (.cells #[.slice none 0 0] 22)).frozen? ⟨w.heap.size, 3, none⟩ = false := Joins.unfrozen_of_block hblk2 3
    clear hblk hblk2
    go_wp2_with fail
    refine bodyPost_ret (v := .tuple #[.agg #[.int .i64 0, .int .i64 0, .int .i64 0, .int .i64 0], .bool false]) (by simp [results, Try.results95, go_sem, k0, k1, k2, k3]) rfl ?_
    exact readHd_none E.out (set4 B2.out (Nat.le_refl _) _ _ _ _ _) rfl
  · have hblk : w2.heap[w.heap.size]? = some (.cells #[.int .i64 0, .int .i64 0, .int .i64 0, .int .i64 0] 132 (0, 0)) := (b2.block w.heap.size (by simp)).trans (heap_alloc_new w _)
    have B2 := Lib.hid ((below_alloc w (.cells #[.int .i64 0, .int .i64 0, .int .i64 0, .int .i64 0] 132)).trans (b2.mono (by simp)))
    have hrl : r.length ≤ 1000000 := by have := (cut_some e2).2.2; omega
    have hhl : h.length ≤ 1000000 := by have := (cut_some e2).2.2; omega
    obtain ⟨ar, cr, rfl, hr1, hr2, hr3⟩ := RB.of_owns o2
    have HSZ : Hid (w.heap.size < w2.heap.size) := by show _ < _; have := b2.size; simp at this; omega
    by_cases h13 : h.length = 13
    rotate_left
    · have E : Hid (hread b = none) := by show _ = _; unfold hread; rw [if_neg (by rw [HZ.out]; decide), e2]; dsimp only; rw [if_neg (fun h => h13 h.1)]
      obtain ⟨ah, ch, rfl, hh1, hh2, hh3⟩ := RB.of_owns o1
      have hne : ((h.length : Int) != 13) = true := by rw [bne_iff_ne]; omega
      have hblk2 : (w2.alloc (.cells #[.slice ah h.length ch] 22)).heap[w.heap.size]? = some (.cells #[.int .i64 0, .int .i64 0, .int .i64 0, .int .i64 0] 132 (0, 0)) := (Below.heap_alloc w2 _ _ HSZ.out).trans hblk
      have k0 : (w2.alloc (.cells #[.slice ah h.length ch] 22)).cell? ⟨w.heap.size, 0, none⟩ = some (.int .i64 0) := Joins.cell_of_block hblk2 0
      have kf0 : (w2.alloc (.cells #[.slice ah h.length ch] 22)).frozen? ⟨w.heap.size, 0, none⟩ = false := Joins.unfrozen_of_block hblk2 0
      have k1 : (w2.alloc (.cells #[.slice ah h.length ch] 22)).cell? ⟨w.heap.size, 1, none⟩ = some (.int .i64 0) := Joins.cell_of_block hblk2 1
      have kf1 : (w2.alloc (.cells #[.slice ah h.length ch] 22)).frozen? ⟨w.heap.size, 1, none⟩ = false := Joins.unfrozen_of_block hblk2 1
      have k2 : (w2.alloc (.cells #[.slice ah h.length ch] 22)).cell? ⟨w.heap.size, 2, none⟩ = some (.int .i64 0) := Joins.cell_of_block hblk2 2
      have kf2 : (w2.alloc (.cells #[.slice ah h.length ch] 22)).frozen? ⟨w.heap.size, 2, none⟩ = false := Joins.unfrozen_of_block hblk2 2
      have k3 : (w2.alloc (.cells #[.slice ah h.length ch] 22)).cell? ⟨w.heap.size, 3, none⟩ = some (.int .i64 0) := Joins.cell_of_block hblk2 3
      have kf3 : (w2.alloc (.cells #[.slice ah h.length ch] 22)).frozen? ⟨w.heap.size, 3, none⟩ = false := Joins.unfrozen_of_block hblk2 3
      clear hblk hblk2 e2 h13 o1 o2 hr3 hh3
      go_wp2_with fail
      refine bodyPost_ret (v := .tuple #[.agg #[.int .i64 0, .int .i64 0, .int .i64 0, .int .i64 0], .bool false]) (by simp [results, Try.results95, go_sem, k0, k1, k2, k3]) rfl ?_
      exact readHd_none E.out (set4 B2.out (Nat.le_refl _) _ _ _ _ _) rfl
    rw [h13] at o1
    obtain ⟨gh, ch, rfl⟩ := own_rec o1 (by decide)
    have hch : 13 ≤ ch := by
      obtain ⟨_, _, e, q1, _, _⟩ := RB.of_owns o1
      injection e with _ _ e3
      omega
    have hchi : (13 : Int) ≤ (ch : Int) := by omega
    have RH := Lib.hid (rb_mk o1)
    have hc0 := rb_at RH.out 0 (by omega)
    rw [Nat.add_zero] at hc0
    have hblk2 : (w2.alloc (.cells #[.slice (some ⟨gh, 0, none⟩) 13 ch] 22)).heap[w.heap.size]? = some (.cells #[.int .i64 0, .int .i64 0, .int .i64 0, .int .i64 0] 132 (0, 0)) := (Below.heap_alloc w2 _ _ HSZ.out).trans hblk
    have BLK := Lib.hid hblk2
    have k0 : (w2.alloc (.cells #[.slice (some ⟨gh, 0, none⟩) 13 ch] 22)).cell? ⟨w.heap.size, 0, none⟩ = some (.int .i64 0) := Joins.cell_of_block hblk2 0
    have kf0 : (w2.alloc (.cells #[.slice (some ⟨gh, 0, none⟩) 13 ch] 22)).frozen? ⟨w.heap.size, 0, none⟩ = false := Joins.unfrozen_of_block hblk2 0
    have k1 : (w2.alloc (.cells #[.slice (some ⟨gh, 0, none⟩) 13 ch] 22)).cell? ⟨w.heap.size, 1, none⟩ = some (.int .i64 0) := Joins.cell_of_block hblk2 1
    have kf1 : (w2.alloc (.cells #[.slice (some ⟨gh, 0, none⟩) 13 ch] 22)).frozen? ⟨w.heap.size, 1, none⟩ = false := Joins.unfrozen_of_block hblk2 1
    have k2 : (w2.alloc (.cells #[.slice (some ⟨gh, 0, none⟩) 13 ch] 22)).cell? ⟨w.heap.size, 2, none⟩ = some (.int .i64 0) := Joins.cell_of_block hblk2 2
    have kf2 : (w2.alloc (.cells #[.slice (some ⟨gh, 0, none⟩) 13 ch] 22)).frozen? ⟨w.heap.size, 2, none⟩ = false := Joins.unfrozen_of_block hblk2 2
    have k3 : (w2.alloc (.cells #[.slice (some ⟨gh, 0, none⟩) 13 ch] 22)).cell? ⟨w.heap.size, 3, none⟩ = some (.int .i64 0) := Joins.cell_of_block hblk2 3
    have kf3 : (w2.alloc (.cells #[.slice (some ⟨gh, 0, none⟩) 13 ch] 22)).frozen? ⟨w.heap.size, 3, none⟩ = false := Joins.unfrozen_of_block hblk2 3
    have hsl : (h.getD 0 0).toNat < 256 := UInt8.toNat_lt _
    by_cases h2 : (h.getD 0 0).toNat < 2
    rotate_left
    · have E : Hid (hread b = none) := by show _ = _; unfold hread; rw [if_neg (by rw [HZ.out]; decide), e2]; dsimp only; rw [if_neg (fun h => h2 h.2.1)]
      have h2i : ¬ ((h.getD 0 0).toNat : Int) < 2 := by omega
      generalize h.getD 0 0 = x0 at hc0 h2i
      unfold byteV at hc0
      have hc0' := alloc_cell (X := .cells #[.slice (some ⟨gh, 0, none⟩) 13 ch] 22) hc0
      clear hblk hblk2 e2 h13 o1 o2 hr3 h2 hc0
      go_wp2_with fail
      refine bodyPost_ret (v := .tuple #[.agg #[.int .i64 0, .int .i64 0, .int .i64 0, .int .i64 0], .bool false]) (by simp [results, Try.results95, go_sem, k0, k1, k2, k3]) rfl ?_
      exact readHd_none E.out (set4 B2.out (Nat.le_refl _) _ _ _ _ _) rfl
    have RR2 := Lib.hid hr3
    have ZR : Hid (∀ z, zerosB r = z → ∀ w1, Below w2.heap.size w2 w1 → Calls Try.prog 105 #[.slice ar r.length cr] w1 fun en w' => en = .returned (.bool z) ∧ w1 = w') := fun z hz w1 hb => zero_any r ar cr w1 hrl (RR2.out.below hb) z hz
    cases hzr : zerosB r
    · have E : Hid (hread b = none) := by show _ = _; unfold hread; rw [if_neg (by rw [HZ.out]; decide), e2]; dsimp only; rw [if_neg (fun h => by rw [hzr] at h; exact absurd h.2.2 (by decide))]
      have Z2 := Lib.hid (ZR.out false hzr)
      have h2i : ((h.getD 0 0).toNat : Int) < 2 := by omega
      generalize h.getD 0 0 = x0 at hc0 h2i
      unfold byteV at hc0
      have hc0' := alloc_cell (X := .cells #[.slice (some ⟨gh, 0, none⟩) 13 ch] 22) hc0
      clear hblk hblk2 e2 h13 o1 o2 hr3 h2 hc0 hzr
      go_wp2_with fail
      refine (Z2.out _ (below_alloc w2 _)).mono ?_
      rintro en w3 ⟨rfl, rfl⟩
      go_wp2_with fail
      refine bodyPost_ret (v := .tuple #[.agg #[.int .i64 0, .int .i64 0, .int .i64 0, .int .i64 0], .bool false]) (by simp [results, Try.results95, go_sem, k0, k1, k2, k3]) rfl ?_
      exact readHd_none E.out (set4 B2.out (Nat.le_refl _) _ _ _ _ _) rfl
    have E := Lib.hid (hread_yes HZ.out e2 h13 h2 hzr)
    have Z2 := Lib.hid (ZR.out true hzr)
    have h2i : ((h.getD 0 0).toNat : Int) < 2 := by omega
    have hwx : IntKind.i64.wrap ((h.getD 0 0).toNat : Int) = ((h.getD 0 0).toNat : Int) := IntWalk.i64_in _ (by omega)
    have HT : Hid (htell h = ⟨(h.getD 0 0).toNat, num ((h.drop 1).take 4), num ((h.drop 5).take 4), num ((h.drop 9).take 4)⟩) := rfl
    have BX : Hid (Boxed (w2.alloc (.cells #[.slice (some ⟨gh, 0, none⟩) 13 ch] 22)) w2.heap.size 22 (.slice (some ⟨gh, 0, none⟩) 13 ch)) := Boxed.new w2 22 _
    have N1 : Hid (Calls Try.prog 108 #[.int .i64 1, .pointer (some ⟨w2.heap.size, 0, none⟩)] ((w2.alloc (.cells #[.slice (some ⟨gh, 0, none⟩) 13 ch] 22)).drew) fun en w' => en = .returned (.int .i64 (num ((h.drop 1).take 4) : Int)) ∧ ((w2.alloc (.cells #[.slice (some ⟨gh, 0, none⟩) 13 ch] 22)).drew) = w') := nexts_any h13 hch RH.out 1 (by omega)
    have N5 : Hid (Calls Try.prog 108 #[.int .i64 5, .pointer (some ⟨w2.heap.size, 0, none⟩)] ((w2.alloc (.cells #[.slice (some ⟨gh, 0, none⟩) 13 ch] 22)).drew) fun en w' => en = .returned (.int .i64 (num ((h.drop 5).take 4) : Int)) ∧ ((w2.alloc (.cells #[.slice (some ⟨gh, 0, none⟩) 13 ch] 22)).drew) = w') := nexts_any h13 hch RH.out 5 (by omega)
    have N9 : Hid (Calls Try.prog 108 #[.int .i64 9, .pointer (some ⟨w2.heap.size, 0, none⟩)] ((w2.alloc (.cells #[.slice (some ⟨gh, 0, none⟩) 13 ch] 22)).drew) fun en w' => en = .returned (.int .i64 (num ((h.drop 9).take 4) : Int)) ∧ ((w2.alloc (.cells #[.slice (some ⟨gh, 0, none⟩) 13 ch] 22)).drew) = w') := nexts_any h13 hch RH.out 9 (by omega)
    generalize num ((h.drop 1).take 4) = n1 at N1 HT
    generalize num ((h.drop 5).take 4) = n5 at N5 HT
    generalize num ((h.drop 9).take 4) = n9 at N9 HT
    generalize h.getD 0 0 = x0 at hc0 h2i HT hwx hsl
    unfold byteV at hc0
    have hc0' := alloc_cell (X := .cells #[.slice (some ⟨gh, 0, none⟩) 13 ch] 22) hc0
    have hb0 : (w2.alloc (.cells #[.slice (some ⟨gh, 0, none⟩) 13 ch] 22)).cell? ⟨w2.heap.size, 0, none⟩ = some (.slice (some ⟨gh, 0, none⟩) 13 ch) := BX.out.cell
    have HGN : Hid (gh ≠ w.heap.size) := by show _ ≠ _; have := (o1.lt gh rfl).1; simp at this; omega
    have HWN : Hid (w2.heap.size ≠ w.heap.size) := by show _ ≠ _; have := HSZ.out; omega
    obtain ⟨S, hS⟩ : ∃ S : World → Prop, S = fun w' => ∀ k, k ≠ w.heap.size → w'.heap[k]? = ((w2.alloc (.cells #[.slice (some ⟨gh, 0, none⟩) 13 ch] 22)).drew).heap[k]? := ⟨_, rfl⟩
    have hSS : Hid (∀ w', S w' → w'.cell? ⟨w2.heap.size, 0, none⟩ = some (.slice (some ⟨gh, 0, none⟩) 13 ch) ∧ w'.cell? ⟨gh, 0, none⟩ = some (.int .u8 (x0.toNat : Int))) := fun w' h => by
      rw [hS] at h
      exact ⟨(World.cell?_of_block (h _ HWN.out)).trans hb0, (World.cell?_of_block (h _ HGN.out)).trans hc0'⟩
    have S4 : ∀ (a b c d : Value), S ((((((w2.alloc (.cells #[.slice (some ⟨gh, 0, none⟩) 13 ch] 22)).drew).setCell ⟨w.heap.size, 0, none⟩ a).setCell ⟨w.heap.size, 1, none⟩ b).setCell ⟨w.heap.size, 2, none⟩ c).setCell ⟨w.heap.size, 3, none⟩ d) := fun a b c d => by
      rw [hS]
      intro k hk
      rw [Below.heap_setCell _ _ _ _ hk, Below.heap_setCell _ _ _ _ hk, Below.heap_setCell _ _ _ _ hk, Below.heap_setCell _ _ _ _ hk]
    have s0 : S ((w2.alloc (.cells #[.slice (some ⟨gh, 0, none⟩) 13 ch] 22)).drew) := by rw [hS]; exact fun _ _ => rfl
    clear hS
    clear hblk hblk2 e2 h13 o1 o2 hr3 h2 hc0 hzr
    go_wp2_with fail
    refine (Z2.out _ (below_alloc w2 _)).mono ?_
    rintro en w3 ⟨rfl, rfl⟩
    go_wp2_with fail
    refine wp_region_held (S := S) (by kernel_rfl) ?_
    change wpAnyH _ _ _ _ _ _ _ _ (World.drew _)
    refine wpAnyH_take (i := 0) (v := .slice (some ⟨gh, 0, none⟩) 13 ch) rfl (by kernel_rfl) (by kernel_rfl) (by kernel_rfl) (fun _ _ _ h => h) (.inl ⟨by rfl, by intro w hw; have h := hSS.out w hw; obtain ⟨q0, q1⟩ := h; go_simp⟩) s0 ?_
    try simp only [Act.put, List.getElem_toArray, List.getElem_cons_zero, List.getElem_cons_succ, List.setIfInBounds_toArray, List.set_cons_zero, List.set_cons_succ]
    refine wpAnyH_take (i := 1) (v := .pointer (some ⟨gh, 0, none⟩)) rfl (by kernel_rfl) (by kernel_rfl) (by kernel_rfl) (fun _ _ _ h => h) (.inl ⟨by rfl, by intro w hw; go_simp⟩) s0 ?_
    try simp only [Act.put, List.getElem_toArray, List.getElem_cons_zero, List.getElem_cons_succ, List.setIfInBounds_toArray, List.set_cons_zero, List.set_cons_succ]
    refine wpAnyH_take (i := 2) (v := .int .u8 (x0.toNat : Int)) rfl (by kernel_rfl) (by kernel_rfl) (by kernel_rfl) (fun _ _ _ h => h) (.inl ⟨by rfl, by intro w hw; have h := hSS.out w hw; obtain ⟨q0, q1⟩ := h; go_simp⟩) s0 ?_
    try simp only [Act.put, List.getElem_toArray, List.getElem_cons_zero, List.getElem_cons_succ, List.setIfInBounds_toArray, List.set_cons_zero, List.set_cons_succ]
    refine wpAnyH_take (i := 3) (v := .int .i64 (x0.toNat : Int)) rfl (by kernel_rfl) (by kernel_rfl) (by kernel_rfl) (fun _ _ _ h => h) (.inl ⟨by rfl, by intro w hw; go_simp⟩) s0 ?_
    try simp only [Act.put, List.getElem_toArray, List.getElem_cons_zero, List.getElem_cons_succ, List.setIfInBounds_toArray, List.set_cons_zero, List.set_cons_succ]
    refine wpAnyH_take (i := 4) (v := .func (.func 108) #[] #[.pointer (some ⟨w2.heap.size, 0, none⟩)]) rfl (by kernel_rfl) (by kernel_rfl) (by kernel_rfl) (fun _ _ _ h => h) (.inl ⟨by rfl, by intro w hw; go_simp⟩) s0 ?_
    try simp only [Act.put, List.getElem_toArray, List.getElem_cons_zero, List.getElem_cons_succ, List.setIfInBounds_toArray, List.set_cons_zero, List.set_cons_succ]
    refine wpAnyH_take (i := 6) (v := .func (.func 108) #[] #[.pointer (some ⟨w2.heap.size, 0, none⟩)]) rfl (by kernel_rfl) (by kernel_rfl) (by kernel_rfl) (fun _ _ _ h => h) (.inl ⟨by rfl, by intro w hw; go_simp⟩) s0 ?_
    try simp only [Act.put, List.getElem_toArray, List.getElem_cons_zero, List.getElem_cons_succ, List.setIfInBounds_toArray, List.set_cons_zero, List.set_cons_succ]
    refine wpAnyH_take (i := 8) (v := .func (.func 108) #[] #[.pointer (some ⟨w2.heap.size, 0, none⟩)]) rfl (by kernel_rfl) (by kernel_rfl) (by kernel_rfl) (fun _ _ _ h => h) (.inl ⟨by rfl, by intro w hw; go_simp⟩) s0 ?_
    try simp only [Act.put, List.getElem_toArray, List.getElem_cons_zero, List.getElem_cons_succ, List.setIfInBounds_toArray, List.set_cons_zero, List.set_cons_succ]
    refine wpAnyH_one (i := 5) (by kernel_rfl) rfl (by rfl) (fun Kc hK => ?_)
    go_simp
    refine (N1.out).mono ?_
    rintro en wz ⟨rfl, rfl⟩
    go_simp
    refine hK _ _ s0 ?_
    clear hK Kc
    try simp only [Act.put, List.getElem_toArray, List.getElem_cons_zero, List.getElem_cons_succ, List.setIfInBounds_toArray, List.set_cons_zero, List.set_cons_succ]
    refine wpAnyH_one (i := 7) (by kernel_rfl) rfl (by rfl) (fun Kc hK => ?_)
    go_simp
    refine (N5.out).mono ?_
    rintro en wz ⟨rfl, rfl⟩
    go_simp
    refine hK _ _ s0 ?_
    clear hK Kc
    try simp only [Act.put, List.getElem_toArray, List.getElem_cons_zero, List.getElem_cons_succ, List.setIfInBounds_toArray, List.set_cons_zero, List.set_cons_succ]
    refine wpAnyH_one (i := 9) (by kernel_rfl) rfl (by rfl) (fun Kc hK => ?_)
    go_simp
    refine (N9.out).mono ?_
    rintro en wz ⟨rfl, rfl⟩
    go_simp
    refine hK _ _ s0 ?_
    clear hK Kc
    try simp only [Act.put, List.getElem_toArray, List.getElem_cons_zero, List.getElem_cons_succ, List.setIfInBounds_toArray, List.set_cons_zero, List.set_cons_succ]
    refine wpAnyH_take (i := 10) (v := .agg #[.int .i64 (x0.toNat : Int), .int .i64 (n1 : Int), .int .i64 (n5 : Int), .int .i64 (n9 : Int)]) rfl (by kernel_rfl) (by kernel_rfl) (by kernel_rfl) (fun _ _ _ h => h) (.inl ⟨by rfl, by intro w hw; go_simp⟩) s0 ?_
    try simp only [Act.put, List.getElem_toArray, List.getElem_cons_zero, List.getElem_cons_succ, List.setIfInBounds_toArray, List.set_cons_zero, List.set_cons_succ]
    refine wpAnyH_one (i := 11) (by kernel_rfl) rfl (by rfl) (fun Kc hK => ?_)
    go_simp
    refine hK _ _ (S4 _ _ _ _) ?_
    clear hK Kc
    try simp only [Act.put, List.getElem_toArray, List.getElem_cons_zero, List.getElem_cons_succ, List.setIfInBounds_toArray, List.set_cons_zero, List.set_cons_succ]
    refine wpAnyH_take (i := 12) (v := .bool true) rfl (by kernel_rfl) (by kernel_rfl) (by kernel_rfl) (fun _ _ _ h => h) (.inl ⟨by rfl, by intro w hw; go_simp⟩) (S4 _ _ _ _) ?_
    try simp only [Act.put, List.getElem_toArray, List.getElem_cons_zero, List.getElem_cons_succ, List.setIfInBounds_toArray, List.set_cons_zero, List.set_cons_succ]
    refine wpAnyH_done (by kernel_rfl) ?_ _
    clear s0 S4 hSS
    go_wp2_with fail
    refine bodyPost_ret (v := .tuple #[.agg #[.int .i64 (x0.toNat : Int), .int .i64 (n1 : Int), .int .i64 (n5 : Int), .int .i64 (n9 : Int)], .bool true]) (by simp [results, Try.results95, go_sem, k0, k1, k2, k3]) rfl ?_
    refine ⟨set4' B2.out (Nat.le_refl _) _ _ _ _ _, ?_⟩
    rw [E.out, HT.out]
    rfl
end Go.Proofs.Ytopemjbakpahfaa
