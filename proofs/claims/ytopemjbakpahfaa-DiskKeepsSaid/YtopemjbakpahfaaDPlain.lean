/-
  Plain facts of a device's writes, syncs, reads; bytes made. No condition but that the lengths are small.
-/
import Derived.Test.YtopemjbakpahfaaStopsL
import Derived.Test.YtopemjbakpahfaaOpenE
import Derived.Test.YtopemjbakpahfaaAppZ
namespace Go.Proofs.Ytopemjbakpahfaa
open Go.RowKit Disk
def by8 (z : Int) : UInt8 := UInt8.ofNat (z % 256).toNat
theorem by8_nat (z : Int) : ((by8 z).toNat : Int) = IntKind.u8.wrap z := by
  rw [IntKind.wrap_u8]
  unfold by8
  rw [UInt8.toNat_ofNat']
  omega
theorem byteV_by8 (z : Int) : byteV (by8 z) = .int .u8 (IntKind.u8.wrap z) := by unfold byteV; rw [by8_nat]
theorem write_bad_at {d : Dev} {k : Int} {b : List UInt8} (hd : d.down = false) (h : k < 0 ∨ (d.kept.length : Int) ≤ k) : d.write k b = (d, 1) := by
  have hk : d.ask k = 1 := by unfold Dev.ask; rw [hd, if_neg (by simp), if_pos h]
  unfold Dev.write
  rw [hk, if_pos (by decide)]
theorem sector_app {d e : Dev} {p : Nat × List UInt8} (h : e.pend = d.pend ++ [p]) (hk : e.kept = d.kept) (k : Nat) : e.sector k = if p.1 = k then p.2 else d.sector k := by
  unfold Dev.sector
  rw [h, hk, List.foldl_append]
  rfl
theorem puts_get (k : Nat) : ∀ (ps : List (Nat × List UInt8)) (l : List (List UInt8)), k < l.length → (ps.foldl put l).getD k [] = ps.foldl (over k) (l.getD k []) := by
  intro ps
  induction ps with
  | nil => intro l _; rfl
  | cons p ps ih =>
    intro l hl
    rw [List.foldl_cons, List.foldl_cons, ih _ (by rw [put_length]; exact hl), put_get]
    unfold over
    simp only [hl, and_true]
theorem sector_sync {d e : Dev} (h : e.pend = []) (hk : e.kept = d.pend.foldl put d.kept) {k : Nat} (hl : k < d.kept.length) : e.sector k = d.sector k := by
  unfold Dev.sector
  rw [h, hk, List.foldl_nil, puts_get k _ _ hl]
theorem zero_sector (k n : Nat) (h : k < n) : (Dev.new n).sector k = List.replicate 32 0 := by
  simp [Dev.sector, Dev.new, List.getD, h]
theorem pad3 (x y z : UInt8) : pad [x, y, z] = [x, y, z] ++ List.replicate 29 0 := rfl
theorem read_ok_at {d : Dev} {k : Int} (hd : d.down = false) (h0 : 0 ≤ k) (h1 : k < (d.kept.length : Int)) : d.read k = (d.sector k.toNat, 0) := by
  have hk : d.ask k = 0 := by unfold Dev.ask; rw [hd, if_neg (by simp), if_neg (by omega)]
  unfold Dev.read
  rw [hk, if_neg (by decide)]
theorem read_bad_at {d : Dev} {k : Int} (hd : d.down = false) (h : k < 0 ∨ (d.kept.length : Int) ≤ k) : d.read k = ([], 1) := by
  have hk : d.ask k = 1 := by unfold Dev.ask; rw [hd, if_neg (by simp), if_pos h]
  unfold Dev.read
  rw [hk, if_pos (by decide)]
theorem run_make_bytes (w : World) (k : Nat) (hk : k ≤ 1000000000) : (Instr.makeSlice 22 (.int .i64 k) (.int .i64 k)).run Try.prog w = .ok (.slice (some ⟨w.heap.size, 0, none⟩) k k) (w.alloc (.cells ((List.replicate k (0 : UInt8)).map byteV).toArray 5)) := by
  obtain ⟨i0, hi, hz0, hz1, hz2⟩ := info_parts info5
  have h := run_make (P := Try.prog) w 22 5 i0 _ Try.underlying22 hi hz0 .i64 .i64 (k : Int) (k : Int) (by omega) (Int.le_refl _) (by rw [hz2]; omega) (by omega)
  rw [h, hz1]
  have e : madeCells (Value.int .u8 0).cells ((k : Int).toNat * 1) = ((List.replicate k (0 : UInt8)).map byteV).toArray := by
    rw [Int.toNat_natCast, Nat.mul_one]
    apply Array.ext
    · simp [size_madeCells]
    · intro i h1 h2
      simp [madeCells, Value.cells, byteV, Nat.mod_one]
  rw [e, Int.toNat_natCast]
theorem sec_text {w : World} {base : Nat} {v : Value} {l : List UInt8} (h : Sec w base v l) : ∃ a c, v = .slice a l.length c ∧ (a = none → l.length = 0) ∧ RB w a l := by
  rcases h with ⟨rfl, rfl⟩ | ⟨g, rfl, h1, h2, h3, h4, h5⟩
  · exact ⟨none, 0, rfl, fun _ => rfl, fun i hi => absurd hi (by simp)⟩
  · refine ⟨some ⟨g, 0, none⟩, 32, by rw [h1], fun e => (nomatch e), fun i hi => ⟨g, 0, rfl, h3, ?_⟩⟩
    have := h4 i (byteV (l.getD i 0)) (by simp [List.getD, hi])
    simpa using this
end Go.Proofs.Ytopemjbakpahfaa
