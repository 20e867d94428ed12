/-
  The device's Read. No condition.
-/
import Derived.Test.YtopemjbakpahfaaDev5
namespace Go.Proofs.Ytopemjbakpahfaa
open Go.RowKit Disk
/-- Bytes in new memory that may be written: nil, or a sector's. -/
def Sec (w : World) (base : Nat) (v : Value) (l : List UInt8) : Prop :=
  (v = .slice none 0 0 ∧ l = []) ∨ ∃ g, v = .slice (some ⟨g, 0, none⟩) 32 32 ∧ l.length = 32 ∧ base ≤ g ∧ g < w.heap.size ∧ w.rangeAt g 0 (l.map byteV) ∧ w.there g 0 32
def ReadOf (w : World) (r : List UInt8 × Int) (en : Ending) (w' : World) : Prop := Below w.heap.size w w' ∧ ∃ v, en = .returned (.tuple #[v, .int .i64 r.2]) ∧ Sec w' w.heap.size v r.1
structure ReadI (w : World) (S : Nat) (l : List UInt8) (wr : World) : Prop where
  bl : Below w.heap.size w wr
  lt : S < wr.heap.size
  rng : wr.rangeAt S 0 (l.map byteV)
  thr : wr.there S 0 32
theorem range_sub {w : World} {b : Nat} {C : List Value} (h : w.rangeAt b 0 C) (k : Nat) : w.rangeAt b k (C.drop k) := fun j v hv => by
  have := h (k + j) v (by rw [← hv, List.getElem?_drop])
  rwa [Nat.zero_add] at this
set_option maxRecDepth 100000 in
set_option maxHeartbeats 4000000 in
theorem read_any {F : Nat → Prop} {w : World} {B : Nat} {d : Dev} (h : IsDev F w B d) (k : Int) (hp : d.pend.length ≤ 100000) :
    Calls Try.prog 38 #[.pointer (some ⟨B, 0, none⟩), .int .i64 k] w (ReadOf w (d.read k)) := by
  obtain ⟨r, hr0⟩ : ∃ r, d.read k = r := ⟨_, rfl⟩
  rw [hr0]
  go_enter Try.func38, Try.ntmps38
  go_wp2_with fail
  refine (ask_any h k).mono ?_
  rintro en w1 ⟨rfl, rfl⟩
  by_cases h1 : d.ask k = 0
  rotate_left
  · have hne : ((d.ask k : Int) != 0) = true := by rw [bne_iff_ne]; exact h1
    obtain rfl : r = ([], d.ask k) := by rw [← hr0]; unfold Dev.read; rw [if_pos h1]
    clear hr0
    go_wp2
    go_ret2
    exact ⟨Below.refl _ _, _, rfl, .inl ⟨rfl, rfl⟩⟩
  have hk0 : 0 ≤ k ∧ k < (d.kept.length : Int) := by
    unfold Dev.ask at h1
    split at h1
    · omega
    · split at h1 <;> omega
  obtain ⟨q, rfl⟩ : ∃ q : Nat, k = (q : Int) := ⟨k.toNat, by omega⟩
  obtain rfl : r = (d.sector q, 0) := by rw [← hr0]; unfold Dev.read; rw [if_neg (by simpa using h1), Int.toNat_natCast]
  have hqk : q < d.kept.length := by omega
  have hs32 := h.ok.1 q hqk
  have h32 : ∀ p ∈ d.pend, p.2.length = 32 := fun p hp => (h.ok.2 p hp).2
  rw [h1]
  clear hr0 h1 hk0
  obtain ⟨K, vp, V1⟩ := h.v
  obtain ⟨ap, cp, rfl⟩ := pend_form V1.pend
  have hc0 : w.cell? ⟨B, 0, none⟩ = some (.slice (some ⟨K, 0, none⟩) d.kept.length d.kept.length) := Joins.cell_of_block V1.blk 0
  have hc1 : w.cell? ⟨B, 1, none⟩ = some (.slice ap d.pend.length cp) := Joins.cell_of_block V1.blk 1
  have hrk : w.rangeAt K (q * 32) ((d.kept.getD q []).map byteV) := by rw [Nat.mul_comm]; exact V1.kept.rng q hqk
  have HS : Hid (d.sector q = d.pend.foldl (over q) (d.kept.getD q [])) := rfl
  generalize d.kept.getD q [] = s0 at hs32 hrk HS
  have hl32 : (s0.map byteV).length = 32 := by rw [List.length_map, hs32]
  have hz32 : (s0.map byteV).toArray.size = 32 := by rw [List.size_toArray, hl32]
  have VV := Lib.hid V1
  have RK := Lib.hid hrk
  have hq0 : (0 : Int) ≤ (q : Int) := by omega
  have hqi : (q : Int) < (d.kept.length : Int) := by omega
  have hc1A : (w.alloc (.cells (s0.map byteV).toArray 110)).cell? ⟨B, 1, none⟩ = some (.slice ap d.pend.length cp) := alloc_cell hc1
  clear V1 hrk h
  go_wp2_with (first
    | ((refine wpList_load_mid rfl 110 (.tmp 21) rfl K (q * 32) rfl (s0.map byteV) _ RK.out Try.underlying110 rfl (by rw [hl32]; exact size110) ?_))
    | ((refine wpList_store_new rfl 110 (.tmp 7) (.tmp 22) rfl _ (s0.map byteV).toArray rfl rfl (by rw [hz32]; exact size110) (by rw [hz32]; rfl) (bytes_one _) ?_)))
  go_loopw [28] (fun iv wr => ∃ i : Nat, iv = .int .i64 i ∧ i ≤ d.pend.length ∧ ReadI w w.heap.size ((d.pend.take i).foldl (over q) s0) wr) (fun iv _ => d.pend.length - (intOf iv).toNat)
  case atStart => exact ⟨0, rfl, Nat.zero_le _, below_alloc w _, by simp, range_new w _ _, there_new w _ _ 0 32 (by rw [hz32]; omega)⟩
  case round =>
    obtain ⟨i, rfl, hi, hR⟩ := hrel
    have HR := Lib.hid hR
    have hol := over_length q (fun p hp => h32 p (List.mem_of_mem_take (i := i) hp)) hs32
    have HOL := Lib.hid hol
    clear hR hol
    by_cases hlt : i < d.pend.length
    · have hi0 : (0 : Int) ≤ (i : Int) := by omega
      have hii : (i : Int) < (d.pend.length : Int) := by omega
      obtain ⟨p, hpi⟩ : ∃ p, d.pend[i]? = some p := ⟨_, List.getElem?_eq_getElem hlt⟩
      have hpm := h32 p (List.mem_of_getElem? hpi)
      obtain ⟨g, c, e, hrg⟩ := pend_at (VV.out.below HR.out.bl).pend h32 hpi
      simp only [Value.slice.injEq] at e
      obtain ⟨rfl, _, rfl⟩ := e
      have hl33 : (pcells p).length = 33 := pcells_length hpm
      have hs33 : (pcells p).toArray.size = 33 := by rw [List.size_toArray, hl33]
      have hm32 : (p.2.map byteV).length = 32 := by rw [List.length_map, hpm]
      have hmz : (p.2.map byteV).toArray.size = 32 := by rw [List.size_toArray, hm32]
      have RG := Lib.hid hrg
      have ST := Lib.hid (foldl_snoc (over q) s0 d.pend i p hpi)
      have hb1 : (wr.alloc (.cells (pcells p).toArray 112)).cell? ⟨wr.heap.size, 0, none⟩ = some (.int .i64 (p.1 : Int)) := Joins.cell_of_block (heap_alloc_new wr _) 0
      have R1 : Hid ((wr.alloc (.cells (pcells p).toArray 112)).rangeAt wr.heap.size 1 (p.2.map byteV)) := range_sub (range_new wr (pcells p) 112) 1
      have BA := Lib.hid (HR.out.bl.alloc HR.out.bl.size (.cells (pcells p).toArray 112))
      have TA := Lib.hid (World.there_alloc HR.out.thr (.cells (pcells p).toArray 112))
      have GA := Lib.hid (World.rangeAt_alloc HR.out.rng (.cells (pcells p).toArray 112))
      have LA : Hid (w.heap.size < (wr.alloc (.cells (pcells p).toArray 112)).heap.size) := by have := HR.out.lt; show _ < _; simp; omega
      clear hrg
      by_cases hpk : p.1 = q
      · have hpe : ((p.1 : Int) == (q : Int)) = true := by rw [beq_iff_eq]; omega
        have ST2 := ST.out
        rw [show over q ((d.pend.take i).foldl (over q) s0) p = p.2 by unfold over; rw [if_pos hpk]] at ST2
        have S2 := Lib.hid ST2
        clear ST2
        go_wp2_with (first
          | (refine wpList_load_mid rfl 112 (.tmp 30) rfl g (i * 33) rfl (pcells p) _ RG.out Try.underlying112 rfl (by rw [hl33]; exact size112) ?_)
          | (refine wpList_store_new rfl 112 (.tmp 9) (.tmp 31) rfl _ (pcells p).toArray rfl rfl (by rw [hs33]; exact size112) (by rw [hs33]; rfl) (pcells_one _) ?_)
          | (refine wpList_load_mid rfl 110 (.tmp 36) rfl wr.heap.size 1 rfl (p.2.map byteV) _ R1.out Try.underlying110 rfl (by rw [hm32]; exact size110) ?_)
          | (refine wpList_store_mid rfl 110 (.tmp 7) (.tmp 37) rfl w.heap.size 0 (p.2.map byteV).toArray rfl rfl (by rw [hmz]; exact TA.out) (by rw [hmz]; exact size110) (bytes_one _) ?_))
        go_roundw
        case rel =>
          refine ⟨i + 1, rfl, hlt, ?_, ?_, ?_, ?_⟩
          · exact (Frm.of_below (F := fun k => k = w.heap.size) BA.out).trans (frm_setCells (F := fun k => k = w.heap.size) rfl _ _ _) (fun k hk => .inl hk) |>.below (fun k hk => by omega) (Nat.le_refl _)
          · rw [size_setCells]; exact LA.out
          · rw [S2.out]; exact World.rangeAt_setCells_same _ _ _ _ (by rw [hm32]; exact TA.out)
          · exact World.there_setCells TA.out _ _ _
        case measure => simp only [intOf]; omega
      · have hpe : ((p.1 : Int) == (q : Int)) = false := by rw [beq_eq_false_iff_ne]; omega
        have ST2 := ST.out
        rw [show over q ((d.pend.take i).foldl (over q) s0) p = (d.pend.take i).foldl (over q) s0 by unfold over; rw [if_neg hpk]] at ST2
        have S2 := Lib.hid ST2
        clear ST2
        go_wp2_with (first
          | (refine wpList_load_mid rfl 112 (.tmp 30) rfl g (i * 33) rfl (pcells p) _ RG.out Try.underlying112 rfl (by rw [hl33]; exact size112) ?_)
          | (refine wpList_store_new rfl 112 (.tmp 9) (.tmp 31) rfl _ (pcells p).toArray rfl rfl (by rw [hs33]; exact size112) (by rw [hs33]; rfl) (pcells_one _) ?_))
        go_roundw
        case rel => exact ⟨i + 1, rfl, hlt, BA.out, LA.out, by rw [S2.out]; exact GA.out, TA.out⟩
        case measure => simp only [intOf]; omega
    · have hii : ¬ (i : Int) < (d.pend.length : Int) := by omega
      obtain rfl : i = d.pend.length := by omega
      go_wp2
      go_ret2
      refine ⟨HR.out.bl, _, rfl, .inr ⟨w.heap.size, rfl, ?_, Nat.le_refl _, HR.out.lt, ?_, HR.out.thr⟩⟩
      · have := HOL.out; rw [List.take_length, ← HS.out] at this; exact this
      · have := HR.out.rng; rw [List.take_length, ← HS.out] at this; exact this
end Go.Proofs.Ytopemjbakpahfaa
