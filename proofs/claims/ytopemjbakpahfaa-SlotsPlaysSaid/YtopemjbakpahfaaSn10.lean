/-
  Contracts and plain laws, part 10 (texts: AppZ, DPlain, JPlain, RegIn). No condition but what each states.
-/
import Derived.Test.YtopemjbakpahfaaSn09
import Derived.Lib.AppendZerosOnto
import Derived.OrdersIn
import Derived.OrdersHeld
import Derived.TacticsIn
import Derived.WalkKit
/-
  Zeros appended to bytes of the call's own: append(s, make([]byte, k)...), with room or without. No condition but that the lengths are small.
-/
namespace Go.Proofs.Ytopemjbakpahfaa
open Go.RowKit
theorem zeroCells_u8 (k : Nat) : (Builtin.zeroCells (Value.int .u8 0).cells k).toList = (List.replicate k (0 : UInt8)).map byteV := by
  unfold Builtin.zeroCells
  simp only [Value.cells, List.size_toArray, List.length_singleton, Nat.mul_one, Nat.mod_one]
  rw [Array.toList_map, Array.toList_range, List.map_replicate]
  apply List.ext_getElem
  · simp
  · intro i h1 h2
    simp [byteV]
theorem run_append_room_zeros (w : World) (ty : TypeId) (i0 : TypeInfo) (hi : Try.prog.info? 5 = some i0) (hz : i0.zero = some (.int .u8 0)) (hs : i0.size = 1) (hby : i0.bytes = 1)
    (g sLen sCap : Nat) (cur : Array Value) (hg : w.heap[g]? = some (.cells cur 5 (0, 0))) (k : Nat) (hk : k ≤ 1000000000) (hroom : sLen + k ≤ sCap) (hc : cur.size = sCap) :
    (Builtin.append_ #[22, 3] ty #[.slice (some ⟨g, 0, none⟩) sLen sCap, .int .i64 k]).run Try.prog w =
      .ok (.slice (some ⟨g, 0, none⟩) (sLen + k) sCap) (w.setRow g (cur.toList.take sLen ++ (List.replicate k (0 : UInt8)).map byteV ++ cur.toList.drop (sLen + k)).toArray) := by
  have hst := run_storeCells_at Try.prog g sLen 5 ((List.replicate k (0 : UInt8)).map byteV) 0 cur w hg (by simp; omega) (oneCell_bytes _)
  simp only [Nat.add_zero, List.length_map, List.length_replicate] at hst
  have hw : IntKind.i64.wrap (k : Int) = k := by rw [IntKind.wrap_i64]; omega
  have hneg : ¬ ((k : Int) < 0) := by omega
  have h48i : ¬ (281474976710656 < (k : Int)) := by omega
  have hw0 : IntKind.i64.wrap 0 = 0 := by decide
  by_cases h0 : k = 0
  · subst h0
    simp at hst
    simp [Builtin.append_, run_underlying Try.underlying22, run_underlying Try.underlying3, sizeOf, typeInfo, zeroValue, hi, hz, hs, hby, asInt, asIntOf, hw0, show sLen ≤ sCap by omega, Addr.add_lit, hst]
  · have hzc : (Builtin.zeroCells (Value.int .u8 0).cells k).toList = List.replicate k (byteV 0) := by rw [zeroCells_u8, List.map_replicate]
    rw [List.map_replicate] at hst
    simp [Builtin.append_, run_underlying Try.underlying22, run_underlying Try.underlying3, sizeOf, typeInfo, zeroValue, hi, hz, hs, hby, asInt, asIntOf, hw, hneg, h48i, h0, hroom, hzc, Addr.add_lit, hst]
theorem run_append_bytes_zeros (w : World) (ty : TypeId) (base : Nat) (v : Value) (l : List UInt8) (k : Nat) (hown : w.ownsRow base 5 1 v l.length (l.map byteV)) (hb : l.length + k ≤ 1000000000) (b3 : base ≤ w.heap.size) :
    ∃ v' w', (Builtin.append_ #[22, 3] ty #[v, .int .i64 k]).run Try.prog w = .ok v' w' ∧ w'.ownsRow base 5 1 v' (l ++ List.replicate k 0).length ((l ++ List.replicate k 0).map byteV) ∧ w.grownBy w' v.ownBlock := by
  obtain ⟨i0, hi, hz0, hz1, hz2⟩ := info_parts info5
  have grown : ∀ (old : Nat), old < l.length + k → ∀ (row : Option Nat),
      (w.drew.alloc (.cells ((l.map byteV).toArray ++ Builtin.zeroCells (Value.int .u8 0).cells k ++ Builtin.zeroCells (Value.int .u8 0).cells (grownCap w (l.length + k) old 5 - (l.length + k))) 5)).ownsRow base 5 1
        (.slice (some ⟨w.heap.size, 0, none⟩) (l.length + k) (grownCap w (l.length + k) old 5)) (l ++ List.replicate k 0).length ((l ++ List.replicate k 0).map byteV) ∧
      w.grownBy (w.drew.alloc (.cells ((l.map byteV).toArray ++ Builtin.zeroCells (Value.int .u8 0).cells k ++ Builtin.zeroCells (Value.int .u8 0).cells (grownCap w (l.length + k) old 5 - (l.length + k))) 5)) row := by
    intro old ho row
    have hge := grownCap_ge w (l.length + k) old 5
    have hcm : grownCap w (l.length + k) old 5 ≤ maxLen := grownCap_le_maxLen w (l.length + k) old 5 (by unfold maxLen; omega)
    have hlen : (l ++ List.replicate k (0 : UInt8)).length = l.length + k := by simp
    rw [hlen]
    refine ⟨⟨by simp, .inr ⟨w.heap.size, _, _, rfl, b3, heap_alloc_new w.drew _, hge, hcm, ?_, ?_⟩⟩, ⟨rfl, rfl, rfl, by simp, fun j hj _ => Below.heap_alloc w.drew _ j hj⟩⟩
    · simp only [Array.size_append, List.size_toArray, size_zeroCells, List.length_map, Value.cells, List.length_singleton]
      omega
    · simp only [Array.toList_append, zeroCells_u8, Nat.mul_one]
      rw [← List.map_append]
      exact List.take_left' (by simp)
  rcases hown.2 with ⟨rfl, h0⟩ | ⟨g, cap, cur, rfl, hbg, hg, hnc, hcm, hcs, htake⟩
  · obtain rfl : l = [] := List.eq_nil_of_length_eq_zero h0
    by_cases hk : k = 0
    · subst hk
      refine ⟨.slice none 0 0, w, ?_, by simpa using hown, ⟨rfl, rfl, rfl, Nat.le_refl _, fun _ _ _ => rfl⟩⟩
      simp [Builtin.append_, run_underlying Try.underlying22, run_underlying Try.underlying3, sizeOf, typeInfo, zeroValue, hi, hz0, hz2, asInt, asIntOf, IntKind.wrap_i64]
    · have hr := Lib.run_append_nil_zeros w 22 3 ty 5 i0 (.int .u8 0) .i64 .i64 Try.underlying22 Try.underlying3 hi hz0 k (by omega) (by omega) (by omega) (by rw [hz2]; simp at hb; omega)
      have hgr := grown 0 (by omega) (Value.ownBlock (.slice none 0 0))
      simp only [List.length_nil, Nat.zero_add, List.nil_append, List.map_nil, Array.empty_append] at hgr ⊢
      exact ⟨_, _, hr, hgr.1, hgr.2⟩
  · rw [Nat.mul_one] at hcs htake
    by_cases hroom : l.length + k ≤ cap
    · have hr := run_append_room_zeros w ty i0 hi hz0 hz1 hz2 g l.length cap cur hg k (by omega) hroom hcs
      refine ⟨_, _, hr, ⟨by simp, .inr ⟨g, cap, _, by simp, hbg, setRow_heap w g cur _ 5 _ hg, by simpa using hroom, hcm, ?_, ?_⟩⟩, ⟨rfl, rfl, rfl, by simp, fun k _ hk => setRow_other w g k _ (fun e => hk (by simp [Value.ownBlock, e]))⟩⟩
      · simp only [List.size_toArray, List.length_append, List.length_take, List.length_drop, Array.length_toList, List.length_map, List.length_replicate]
        omega
      · rw [htake]
        simp only [Nat.mul_one]
        rw [← List.map_append]
        exact List.take_left' (by simp)
    · have hold : (Builtin.firstCells i0.size l.length (.slice (some ⟨g, 0, none⟩) l.length cap)).run Try.prog w.drew = .ok (l.map byteV).toArray w.drew := run_firstCells_some w.drew i0.size l.length ⟨g, 0, none⟩ l.length cap (l.map byteV) (by rw [hz1]; simp) (fun j u hu => by
        have := hown.cells (g := g) rfl j u hu
        simpa using this)
      have hfit := growslice_fits (need := l.length + k) (old := cap) (bytes := i0.bytes) (by omega) (by rw [hz2]; omega)
      have hr := Lib.run_append_grow_zeros w 22 3 ty 5 i0 (.int .u8 0) .i64 .i64 Try.underlying22 Try.underlying3 hi hz0 (some ⟨g, 0, none⟩) l.length cap (l.map byteV) hold k (by omega) (by omega) (by omega) (by omega) (by rw [hz2]; omega) hfit
      have hgr := grown cap (by omega) (Value.ownBlock (.slice (some ⟨g, 0, none⟩) l.length cap))
      exact ⟨_, _, hr, hgr.1, hgr.2⟩
theorem wp_append_zeros {w : World} {o : Oper} {a : Act} {K : Act → World → Prop} {Q : Exit → Act → World → Prop} (s x : Operand)
    (ho : o.op = .call { callee := .builtin .append, args := #[s, x], argTypes := #[22, 3] }) (base : Nat) (v : Value) (l : List UInt8) (k : Nat) (hs : a.eval s = v) (hx : a.eval x = .int .i64 (k : Nat))
    (hown : w.ownsRow base 5 1 v l.length (l.map byteV)) (hb : l.length + k ≤ 1000000000) (b3 : base ≤ w.heap.size)
    (hK : ∀ v' w', w'.ownsRow base 5 1 v' (l ++ List.replicate k 0).length ((l ++ List.replicate k 0).map byteV) → w.grownBy w' v.ownBlock → K (a.put o.dst v') w') : o.wp Try.prog a w K Q := by
  obtain ⟨v', w', hr, h1, h2⟩ := run_append_bytes_zeros w o.type base v l k hown hb b3
  exact Lib.wp_append_run w s x 22 3 ho v (.int .i64 k) hs hx v' w' hr (hK v' w' h1 h2)
theorem wpList_append_zeros {w : World} {ops : Array Oper} {rest : List Oper} {o : Oper} {a : Act} {Q : Exit → Act → World → Prop} (hgd : o.guard = none) (s x : Operand)
    (ho : o.op = .call { callee := .builtin .append, args := #[s, x], argTypes := #[22, 3] }) (base : Nat) (v : Value) (l : List UInt8) (k : Nat) (hs : a.eval s = v) (hx : a.eval x = .int .i64 (k : Nat))
    (hown : w.ownsRow base 5 1 v l.length (l.map byteV)) (hb : l.length + k ≤ 1000000000) (b3 : base ≤ w.heap.size)
    (hK : ∀ v' w', w'.ownsRow base 5 1 v' (l ++ List.replicate k 0).length ((l ++ List.replicate k 0).map byteV) → w.grownBy w' v.ownBlock → wpList Try.prog ops Q rest (a.put o.dst v') w') : wpList Try.prog ops Q (o :: rest) a w :=
  wpList_plain hgd fun _ hk => wp_append_zeros s x ho base v l k hs hx hown hb b3 fun v' w' h1 h2 => hk _ _ (hK v' w' h1 h2)
end Go.Proofs.Ytopemjbakpahfaa
/-
  Plain facts of a device's writes, syncs, reads; bytes made. No condition but that the lengths are small.
-/
namespace Go.Proofs.Ytopemjbakpahfaa
open Go.RowKit Disk
def by8 (z : Int) : UInt8 := UInt8.ofNat (z % 256).toNat
theorem by8_nat (z : Int) : ((by8 z).toNat : Int) = IntKind.u8.wrap z := by
  rw [IntKind.wrap_u8]
  unfold by8
  rw [UInt8.toNat_ofNat']
  omega
theorem byteV_by8 (z : Int) : byteV (by8 z) = .int .u8 (IntKind.u8.wrap z) := by unfold byteV; rw [by8_nat]
theorem write_bad_at {d : Dev} {k : Int} {b : List UInt8} (hd : d.down = false) (h : k < 0 ∨ (d.kept.length : Int) ≤ k) : d.write k b = (d, 1) := by
  have hk : d.ask k = 1 := by unfold Dev.ask; rw [hd, if_neg (by simp), if_pos h]
  unfold Dev.write
  rw [hk, if_pos (by decide)]
theorem sector_app {d e : Dev} {p : Nat × List UInt8} (h : e.pend = d.pend ++ [p]) (hk : e.kept = d.kept) (k : Nat) : e.sector k = if p.1 = k then p.2 else d.sector k := by
  unfold Dev.sector
  rw [h, hk, List.foldl_append]
  rfl
theorem puts_get (k : Nat) : ∀ (ps : List (Nat × List UInt8)) (l : List (List UInt8)), k < l.length → (ps.foldl put l).getD k [] = ps.foldl (over k) (l.getD k []) := by
  intro ps
  induction ps with
  | nil => intro l _; rfl
  | cons p ps ih =>
    intro l hl
    rw [List.foldl_cons, List.foldl_cons, ih _ (by rw [put_length]; exact hl), put_get]
    unfold over
    simp only [hl, and_true]
theorem sector_sync {d e : Dev} (h : e.pend = []) (hk : e.kept = d.pend.foldl put d.kept) {k : Nat} (hl : k < d.kept.length) : e.sector k = d.sector k := by
  unfold Dev.sector
  rw [h, hk, List.foldl_nil, puts_get k _ _ hl]
theorem zero_sector (k n : Nat) (h : k < n) : (Dev.new n).sector k = List.replicate 32 0 := by
  simp [Dev.sector, Dev.new, List.getD, h]
theorem pad3 (x y z : UInt8) : pad [x, y, z] = [x, y, z] ++ List.replicate 29 0 := rfl
theorem read_ok_at {d : Dev} {k : Int} (hd : d.down = false) (h0 : 0 ≤ k) (h1 : k < (d.kept.length : Int)) : d.read k = (d.sector k.toNat, 0) := by
  have hk : d.ask k = 0 := by unfold Dev.ask; rw [hd, if_neg (by simp), if_neg (by omega)]
  unfold Dev.read
  rw [hk, if_neg (by decide)]
theorem read_bad_at {d : Dev} {k : Int} (hd : d.down = false) (h : k < 0 ∨ (d.kept.length : Int) ≤ k) : d.read k = ([], 1) := by
  have hk : d.ask k = 1 := by unfold Dev.ask; rw [hd, if_neg (by simp), if_pos h]
  unfold Dev.read
  rw [hk, if_pos (by decide)]
theorem run_make_bytes (w : World) (k : Nat) (hk : k ≤ 1000000000) : (Instr.makeSlice 22 (.int .i64 k) (.int .i64 k)).run Try.prog w = .ok (.slice (some ⟨w.heap.size, 0, none⟩) k k) (w.alloc (.cells ((List.replicate k (0 : UInt8)).map byteV).toArray 5)) := by
  obtain ⟨i0, hi, hz0, hz1, hz2⟩ := info_parts info5
  have h := run_make (P := Try.prog) w 22 5 i0 _ Try.underlying22 hi hz0 .i64 .i64 (k : Int) (k : Int) (by omega) (Int.le_refl _) (by rw [hz2]; omega) (by omega)
  rw [h, hz1]
  have e : madeCells (Value.int .u8 0).cells ((k : Int).toNat * 1) = ((List.replicate k (0 : UInt8)).map byteV).toArray := by
    rw [Int.toNat_natCast, Nat.mul_one]
    apply Array.ext
    · simp [size_madeCells]
    · intro i h1 h2
      simp [madeCells, Value.cells, byteV, Nat.mod_one]
  rw [e, Int.toNat_natCast]
theorem sec_text {w : World} {base : Nat} {v : Value} {l : List UInt8} (h : Sec w base v l) : ∃ a c, v = .slice a l.length c ∧ (a = none → l.length = 0) ∧ RB w a l := by
  rcases h with ⟨rfl, rfl⟩ | ⟨g, rfl, h1, h2, h3, h4, h5⟩
  · exact ⟨none, 0, rfl, fun _ => rfl, fun i hi => absurd hi (by simp)⟩
  · refine ⟨some ⟨g, 0, none⟩, 32, by rw [h1], fun e => (nomatch e), fun i hi => ⟨g, 0, rfl, h3, ?_⟩⟩
    have := h4 i (byteV (l.getD i 0)) (by simp [List.getD, hi])
    simpa using this
end Go.Proofs.Ytopemjbakpahfaa
/-
  An area of a device in plain Lean: bytes put and got, part by part. No program, no condition.
-/
namespace Go.Proofs.Ytopemjbakpahfaa.Jour
open Disk
/-- What a sector has of some bytes: where they begin in it, and in them, and how many they are. -/
structure Part where
  sec : Nat
  ins : Nat
  outs : Nat
  n : Nat
/-- The parts of n bytes that begin at place A of the device, from the done-th byte on. -/
def parts (A n : Nat) : Nat → Nat → List Part
  | 0, _ => []
  | f + 1, done => if done < n then ⟨(A + done) / 32, (A + done) % 32, done, min (n - done) (32 - (A + done) % 32)⟩ :: parts A n f (done + min (n - done) (32 - (A + done) % 32)) else []
def Part.good (len : Nat) (p : Part) : Prop := p.ins + p.n ≤ 32 ∧ p.outs + p.n ≤ len
/-- Bytes laid over others from a place on. -/
def lay (s : List UInt8) (k : Nat) (x : List UInt8) : List UInt8 := s.take k ++ x ++ s.drop (k + x.length)
def piece (b : List UInt8) (p : Part) : List UInt8 := (b.drop p.outs).take p.n
def doPart (d : Dev) (b : List UInt8) (p : Part) : Dev × Int :=
  if (d.read (p.sec : Int)).2 ≠ 0 then (d, (d.read (p.sec : Int)).2) else d.write (p.sec : Int) (lay (d.read (p.sec : Int)).1 p.ins (piece b p))
def putParts (d : Dev) (b : List UInt8) : List Part → Dev × Int
  | [] => (d, 0)
  | p :: ps => if (doPart d b p).2 ≠ 0 then doPart d b p else putParts (doPart d b p).1 b ps
def getParts (d : Dev) : List UInt8 → List Part → List UInt8 × Int
  | out, [] => (out, 0)
  | out, p :: ps => if (d.read (p.sec : Int)).2 ≠ 0 then ([], (d.read (p.sec : Int)).2) else getParts d (out ++ ((d.read (p.sec : Int)).1.drop p.ins).take p.n) ps
theorem putParts_snoc (b : List UInt8) (p : Part) : ∀ (ps : List Part) (d : Dev), (putParts d b ps).2 = 0 → putParts d b (ps ++ [p]) = doPart (putParts d b ps).1 b p := by
  intro ps
  induction ps with
  | nil =>
    intro d _
    show (if (doPart d b p).2 ≠ 0 then doPart d b p else ((doPart d b p).1, 0)) = doPart d b p
    split
    · rfl
    · rename_i h; rw [Decidable.not_not] at h; rw [← h]
  | cons q ps ih =>
    intro d h
    rw [List.cons_append]
    unfold putParts at h ⊢
    by_cases h1 : (doPart d b q).2 ≠ 0
    · rw [if_pos h1] at h; exact absurd h h1
    · rw [if_neg h1] at h ⊢
      rw [if_neg h1]
      exact ih _ h
theorem putParts_stop (b : List UInt8) (qs : List Part) : ∀ (ps : List Part) (d : Dev), (putParts d b ps).2 ≠ 0 → putParts d b (ps ++ qs) = putParts d b ps := by
  intro ps
  induction ps with
  | nil => intro d h; exact absurd rfl h
  | cons q ps ih =>
    intro d h
    rw [List.cons_append]
    unfold putParts at h ⊢
    by_cases h1 : (doPart d b q).2 ≠ 0
    · rw [if_pos h1, if_pos h1]
    · rw [if_neg h1] at h
      rw [if_neg h1, if_neg h1]
      exact ih _ h
theorem getParts_snoc (d : Dev) (p : Part) : ∀ (ps : List Part) (out : List UInt8), (getParts d out ps).2 = 0 →
    getParts d out (ps ++ [p]) = if (d.read (p.sec : Int)).2 ≠ 0 then ([], (d.read (p.sec : Int)).2) else ((getParts d out ps).1 ++ ((d.read (p.sec : Int)).1.drop p.ins).take p.n, 0) := by
  intro ps
  induction ps with
  | nil => intro out _; rfl
  | cons q ps ih =>
    intro out h
    rw [List.cons_append]
    unfold getParts at h ⊢
    by_cases h1 : (d.read (q.sec : Int)).2 ≠ 0
    · rw [if_pos h1] at h; exact absurd h h1
    · rw [if_neg h1] at h ⊢
      rw [ih _ h, if_neg h1]
theorem getParts_stop (d : Dev) (qs : List Part) : ∀ (ps : List Part) (out : List UInt8), (getParts d out ps).2 ≠ 0 → getParts d out (ps ++ qs) = getParts d out ps := by
  intro ps
  induction ps with
  | nil => intro out h; exact absurd rfl h
  | cons q ps ih =>
    intro out h
    rw [List.cons_append]
    unfold getParts at h ⊢
    by_cases h1 : (d.read (q.sec : Int)).2 ≠ 0
    · rw [if_pos h1, if_pos h1]
    · rw [if_neg h1] at h
      rw [if_neg h1, if_neg h1]
      exact ih _ h
theorem lay_length {s x : List UInt8} {k : Nat} (hs : s.length = 32) (h : k + x.length ≤ 32) : (lay s k x).length = 32 := by simp [lay]; omega
theorem lay_get {s x : List UInt8} {k : Nat} (hs : s.length = 32) (h : k + x.length ≤ 32) (j : Nat) : (lay s k x).getD j 0 = if k ≤ j ∧ j < k + x.length then x.getD (j - k) 0 else s.getD j 0 := by
  have ht : (s.take k).length = k := by simp; omega
  unfold lay
  simp only [List.getD]
  rcases Nat.lt_or_ge j k with h1 | h1
  · rw [if_neg (by omega), List.append_assoc, List.getElem?_append_left (by omega), List.getElem?_take, if_pos h1]
  · rcases Nat.lt_or_ge j (k + x.length) with h2 | h2
    · rw [if_pos ⟨h1, h2⟩, List.getElem?_append_left (by rw [List.length_append, ht]; omega), List.getElem?_append_right (by omega), ht]
    · rw [if_neg (by omega), List.getElem?_append_right (by rw [List.length_append, ht]; omega), List.length_append, ht, List.getElem?_drop, show k + x.length + (j - (k + x.length)) = j by omega]
theorem piece_get (b : List UInt8) (p : Part) (j : Nat) (h : j < p.n) : (piece b p).getD j 0 = b.getD (p.outs + j) 0 := by
  simp [piece, List.getD, h]
theorem piece_length {b : List UInt8} {p : Part} (h : p.outs + p.n ≤ b.length) : (piece b p).length = p.n := by simp [piece]; omega
/-- The byte at a place of the device. -/
def byte (d : Dev) (p : Nat) : UInt8 := (d.sector (p / 32)).getD (p % 32) 0
theorem parts_length (A n : Nat) : ∀ (f done : Nat), (parts A n f done).length ≤ n - done := by
  intro f
  induction f with
  | zero => intro done; simp [parts]
  | succ f ih =>
    intro done
    unfold parts
    split
    · have := ih (done + min (n - done) (32 - (A + done) % 32))
      simp only [List.length_cons]
      omega
    · simp
theorem parts_good (A n : Nat) : ∀ (f done : Nat) (p : Part), p ∈ parts A n f done → p.good n ∧ p.sec < (A + n + 31) / 32 := by
  intro f
  induction f with
  | zero => intro done p h; simp [parts] at h
  | succ f ih =>
    intro done p h
    unfold parts at h
    split at h
    · rcases List.mem_cons.1 h with rfl | h
      · refine ⟨⟨?_, ?_⟩, ?_⟩ <;> simp only <;> omega
      · exact ih _ _ h
    · simp at h
theorem doPart_bound (d : Dev) (b : List UInt8) (p : Part) : (doPart d b p).1.pend.length ≤ d.pend.length + 1 ∧ (doPart d b p).1.writes ≤ d.writes + 1 ∧ (doPart d b p).1.syncs = d.syncs ∧ (doPart d b p).1.kept = d.kept := by
  unfold doPart
  split
  · exact ⟨Nat.le_succ _, Nat.le_succ _, rfl, rfl⟩
  · unfold Dev.write
    split
    · exact ⟨Nat.le_succ _, Nat.le_succ _, rfl, rfl⟩
    · split
      · exact ⟨Nat.le_succ _, Nat.le_succ _, rfl, rfl⟩
      · split
        · exact ⟨Nat.le_succ _, Nat.le_succ _, rfl, rfl⟩
        · exact ⟨by simp, Nat.le_refl _, rfl, rfl⟩
theorem putParts_bound (b : List UInt8) : ∀ (ps : List Part) (d : Dev), (putParts d b ps).1.pend.length ≤ d.pend.length + ps.length ∧ (putParts d b ps).1.writes ≤ d.writes + ps.length ∧ (putParts d b ps).1.syncs = d.syncs ∧ (putParts d b ps).1.kept = d.kept := by
  intro ps
  induction ps with
  | nil => intro d; exact ⟨Nat.le_refl _, Nat.le_refl _, rfl, rfl⟩
  | cons p ps ih =>
    intro d
    obtain ⟨h1, h2, h3, h4⟩ := doPart_bound d b p
    unfold putParts
    split
    · simp only [List.length_cons]
      exact ⟨by omega, by omega, h3, h4⟩
    · obtain ⟨k1, k2, k3, k4⟩ := ih (doPart d b p).1
      simp only [List.length_cons]
      exact ⟨by omega, by omega, k3.trans h3, k4.trans h4⟩
theorem doPart_ok {d : Dev} (h : d.ok) (b : List UInt8) (p : Part) : (doPart d b p).1.ok := by
  unfold doPart
  split
  · exact h
  · exact write_ok h _ _
theorem putParts_ok (b : List UInt8) : ∀ (ps : List Part) (d : Dev), d.ok → (putParts d b ps).1.ok := by
  intro ps
  induction ps with
  | nil => intro d h; exact h
  | cons p ps ih =>
    intro d h
    unfold putParts
    split
    · exact doPart_ok h b p
    · exact ih _ (doPart_ok h b p)
/-- What a pending sector of a put holds: what was, and of the new bytes all that it has. -/
def fresh (d0 : Dev) (A : Nat) (b : List UInt8) (q : Nat × List UInt8) : Prop :=
  ∀ j, j < 32 → q.2.getD j 0 = if A ≤ 32 * q.1 + j ∧ 32 * q.1 + j < A + b.length then b.getD (32 * q.1 + j - A) 0 else byte d0 (32 * q.1 + j)
structure PutInv (d0 d : Dev) (A : Nat) (b : List UInt8) (done : Nat) : Prop where
  kept : d.kept = d0.kept
  pend : ∃ qs, d.pend = d0.pend ++ qs ∧ ∀ q ∈ qs, fresh d0 A b q
  byte : ∀ p, p < 32 * d0.kept.length → byte d p = if A ≤ p ∧ p < A + done then b.getD (p - A) 0 else byte d0 p
  ok : d.ok
  syncs : d.syncs = d0.syncs
theorem PutInv.start {d : Dev} (h : d.ok) (A : Nat) (b : List UInt8) : PutInv d d A b 0 :=
  ⟨rfl, ⟨[], by simp, fun q hq => by simp at hq⟩, fun p _ => by rw [if_neg (by omega)], h, rfl⟩
theorem pad_full {l : List UInt8} (h : l.length = 32) : pad l = l := by simp [pad, h]
theorem getD_drop (b : List UInt8) (i j : Nat) : (b.drop i).getD j 0 = b.getD (i + j) 0 := by simp [List.getD]
/-- One part is put. -/
theorem put_step {d0 d : Dev} {A : Nat} {b : List UInt8} {done : Nat} (h : PutInv d0 d A b done) (hd : d.down = false) (hlt : done < b.length) (hA : A + b.length ≤ 32 * d0.kept.length) :
    (d.armed = 1 ∧ doPart d b ⟨(A + done) / 32, (A + done) % 32, done, min (b.length - done) (32 - (A + done) % 32)⟩ = (d.step, 14)) ∨
    ∃ d', d.armed ≠ 1 ∧ doPart d b ⟨(A + done) / 32, (A + done) % 32, done, min (b.length - done) (32 - (A + done) % 32)⟩ = (d', 0) ∧ d'.down = false ∧ d'.armed = d.armed - 1 ∧ PutInv d0 d' A b (done + min (b.length - done) (32 - (A + done) % 32)) := by
  obtain ⟨sec, hsec⟩ : ∃ sec, (A + done) / 32 = sec := ⟨_, rfl⟩
  obtain ⟨ins, hins⟩ : ∃ ins, (A + done) % 32 = ins := ⟨_, rfl⟩
  obtain ⟨m, hm⟩ : ∃ m, min (b.length - done) (32 - ins) = m := ⟨_, rfl⟩
  rw [hsec, hins, hm]
  have hk : d.kept.length = d0.kept.length := by rw [h.kept]
  have hsl : sec < d.kept.length := by omega
  have hs32 : (d.sector sec).length = 32 := sector_length h.ok hsl
  have hr : d.read (sec : Int) = (d.sector sec, 0) := by rw [read_ok_at hd (by omega) (by omega), Int.toNat_natCast]
  have hpl : (piece b ⟨sec, ins, done, m⟩).length = m := piece_length (by show done + m ≤ _; omega)
  have hll : (lay (d.sector sec) ins (piece b ⟨sec, ins, done, m⟩)).length = 32 := lay_length hs32 (by rw [hpl]; omega)
  unfold doPart
  rw [hr]
  dsimp only
  rw [if_neg (by simp)]
  by_cases ha : d.armed = 1
  · exact .inl ⟨ha, by rw [write_stop_at hd (by omega) (by omega) (by omega) ha]⟩
  · refine .inr ⟨_, ha, write_ok_at hd (by omega) (by omega) (by omega) ha, decide_eq_false ha, rfl, ?_⟩
    rw [Int.toNat_natCast, pad_full hll]
    have hby : ∀ j, j < 32 → (lay (d.sector sec) ins (piece b ⟨sec, ins, done, m⟩)).getD j 0 = if A + done ≤ 32 * sec + j ∧ 32 * sec + j < A + done + m then b.getD (32 * sec + j - A) 0 else byte d (32 * sec + j) := by
      intro j hj
      rw [lay_get hs32 (by rw [hpl]; omega), hpl]
      by_cases h1 : ins ≤ j ∧ j < ins + m
      · rw [if_pos h1, if_pos (by omega), piece_get _ _ _ (by show j - ins < m; omega)]
        congr 1
        show done + (j - ins) = _
        omega
      · rw [if_neg h1, if_neg (by omega)]
        unfold byte
        rw [show (32 * sec + j) / 32 = sec by omega, show (32 * sec + j) % 32 = j by omega]
    obtain ⟨qs, hq1, hq2⟩ := h.pend
    refine ⟨h.kept, ⟨qs ++ [(sec, lay (d.sector sec) ins (piece b ⟨sec, ins, done, m⟩))], by show d.pend ++ _ = _; rw [hq1, List.append_assoc], ?_⟩, ?_, ?_, h.syncs⟩
    · intro q hq
      rcases List.mem_append.1 hq with hq | hq
      · exact hq2 q hq
      · obtain rfl := List.mem_singleton.1 hq
        intro j hj
        show (lay _ _ _).getD j 0 = _
        rw [hby j hj]
        dsimp only
        by_cases h1 : A + done ≤ 32 * sec + j ∧ 32 * sec + j < A + done + m
        · rw [if_pos h1, if_pos (by omega)]
        · rw [if_neg h1, h.byte _ (by omega)]
          by_cases h2 : A ≤ 32 * sec + j ∧ 32 * sec + j < A + done
          · rw [if_pos h2, if_pos (by omega)]
          · rw [if_neg h2, if_neg (by omega)]
    · intro p hp
      unfold byte
      rw [sector_app (d := d) (e := { d.step with pend := d.pend ++ [(sec, lay (d.sector sec) ins (piece b ⟨sec, ins, done, m⟩))], writes := d.writes + 1 }) (p := (sec, lay (d.sector sec) ins (piece b ⟨sec, ins, done, m⟩))) rfl rfl]
      dsimp only
      by_cases h0 : sec = p / 32
      · rw [if_pos h0, hby _ (Nat.mod_lt _ (by omega)), show 32 * sec + p % 32 = p by omega]
        by_cases h1 : A + done ≤ p ∧ p < A + done + m
        · rw [if_pos h1, if_pos (by omega)]
        · rw [if_neg h1, h.byte _ hp]
          by_cases h2 : A ≤ p ∧ p < A + done
          · rw [if_pos h2, if_pos (by omega)]
          · rw [if_neg h2, if_neg (by omega)]; rfl
      · rw [if_neg h0]
        have := h.byte p hp
        unfold byte at this
        rw [this]
        by_cases h2 : A ≤ p ∧ p < A + done
        · rw [if_pos h2, if_pos (by omega)]
        · rw [if_neg h2, if_neg (by omega)]
    · have := write_ok h.ok (sec : Int) (lay (d.sector sec) ins (piece b ⟨sec, ins, done, m⟩))
      rw [write_ok_at hd (by omega) (by omega) (by omega) ha, Int.toNat_natCast, pad_full hll] at this
      exact this
/-- All parts are put, up to the first that is not. -/
theorem put_all {d0 : Dev} {A : Nat} {b : List UInt8} (hA : A + b.length ≤ 32 * d0.kept.length) : ∀ (f done : Nat) (d : Dev), b.length ≤ done + f → done ≤ b.length → PutInv d0 d A b done → d.down = false →
    ((putParts d b (parts A b.length f done)).2 = 0 ∧ (putParts d b (parts A b.length f done)).1.down = false ∧ PutInv d0 (putParts d b (parts A b.length f done)).1 A b b.length ∧ (d.armed = 0 → (putParts d b (parts A b.length f done)).1.armed = 0)) ∨
    ((putParts d b (parts A b.length f done)).2 = 14 ∧ d.armed ≠ 0 ∧ (putParts d b (parts A b.length f done)).1.down = true ∧ ∃ k, PutInv d0 (putParts d b (parts A b.length f done)).1 A b k) := by
  intro f
  induction f with
  | zero =>
    intro done d h1 h2 hi hd
    obtain rfl : done = b.length := by omega
    exact .inl ⟨rfl, hd, hi, fun h => h⟩
  | succ f ih =>
    intro done d h1 h2 hi hd
    unfold parts
    by_cases hlt : done < b.length
    · rw [if_pos hlt]
      unfold putParts
      rcases put_step hi hd hlt hA with ⟨ha, e⟩ | ⟨d', ha, e, hd', ha', hi'⟩
      · rw [e]
        dsimp only
        rw [if_pos (by decide)]
        exact .inr ⟨rfl, by omega, decide_eq_true ha, done, ⟨hi.kept, hi.pend, hi.byte, hi.ok, hi.syncs⟩⟩
      · rw [e]
        dsimp only
        rw [if_neg (by decide)]
        rcases ih _ d' (by omega) (by omega) hi' hd' with ⟨g1, g2, g3, g4⟩ | ⟨g1, g2, g3, g4⟩
        · exact .inl ⟨g1, g2, g3, fun h0 => g4 (by omega)⟩
        · exact .inr ⟨g1, by omega, g3, g4⟩
    · rw [if_neg hlt]
      obtain rfl : done = b.length := by omega
      exact .inl ⟨rfl, hd, hi, fun h => h⟩
/-- The bytes from a place on. -/
def bytes (d : Dev) (A n : Nat) : List UInt8 := (List.range n).map (fun i => byte d (A + i))
theorem bytes_length (d : Dev) (A n : Nat) : (bytes d A n).length = n := by simp [bytes]
theorem bytes_get (d : Dev) (A n i : Nat) (h : i < n) : (bytes d A n).getD i 0 = byte d (A + i) := by simp [bytes, List.getD, h]
theorem list_ext0 {l m : List UInt8} (h1 : l.length = m.length) (h2 : ∀ i, i < l.length → l.getD i 0 = m.getD i 0) : l = m := by
  apply List.ext_getElem h1
  intro i hi hj
  have := h2 i hi
  simpa [List.getD, hi, hj] using this
theorem bytes_add (d : Dev) (A k m : Nat) : bytes d A (k + m) = bytes d A k ++ bytes d (A + k) m := by
  unfold bytes
  rw [List.range_add, List.map_append, List.map_map]
  congr 1
  apply List.map_congr_left
  intro i _
  simp only [Function.comp_apply, Nat.add_assoc]
theorem sector_part {d : Dev} {sec ins m : Nat} (hs : (d.sector sec).length = 32) (h : ins + m ≤ 32) : ((d.sector sec).drop ins).take m = bytes d (32 * sec + ins) m := by
  apply list_ext0
  · rw [bytes_length]; simp; omega
  · intro i hi
    have hi : i < m := by simp at hi; omega
    rw [bytes_get _ _ _ _ hi]
    unfold byte
    rw [show (32 * sec + ins + i) / 32 = sec by omega, show (32 * sec + ins + i) % 32 = ins + i by omega]
    simp [List.getD, hi]
theorem get_all {d : Dev} (ok : d.ok) (hd : d.down = false) {A n : Nat} (hA : A + n ≤ 32 * d.kept.length) : ∀ (f done : Nat), n ≤ done + f → done ≤ n → getParts d (bytes d A done) (parts A n f done) = (bytes d A n, 0) := by
  intro f
  induction f with
  | zero =>
    intro done h1 h2
    obtain rfl : done = n := by omega
    rfl
  | succ f ih =>
    intro done h1 h2
    unfold parts
    by_cases hlt : done < n
    · rw [if_pos hlt]
      obtain ⟨sec, hsec⟩ : ∃ sec, (A + done) / 32 = sec := ⟨_, rfl⟩
      obtain ⟨ins, hins⟩ : ∃ ins, (A + done) % 32 = ins := ⟨_, rfl⟩
      obtain ⟨m, hm⟩ : ∃ m, min (n - done) (32 - ins) = m := ⟨_, rfl⟩
      rw [hsec, hins, hm]
      have hsl : sec < d.kept.length := by omega
      have hr : d.read (sec : Int) = (d.sector sec, 0) := by rw [read_ok_at hd (by omega) (by omega), Int.toNat_natCast]
      unfold getParts
      dsimp only
      rw [hr]
      dsimp only
      rw [if_neg (by simp), sector_part (sector_length ok hsl) (by omega), show 32 * sec + ins = A + done by omega, ← bytes_add]
      exact ih _ (by omega) (by omega)
    · rw [if_neg hlt]
      obtain rfl : done = n := by omega
      rfl
end Go.Proofs.Ytopemjbakpahfaa.Jour
/-
  A region that draws its order, in a fence or in a round, where one fact S on the world is kept all along: whatever yields in each world that meets S may be taken first.
  It speaks of no program. No condition but that the region defers nothing.
-/
namespace Go.Proofs.Ytopemjbakpahfaa
section
variable {F : Fence} {n : Nat} {P : Program} {ops : Array Oper} {Q : Exit → Act → World → Prop} {md : Region.Mode} {S : World → Prop}
def isDefer : Op → Bool
  | .defer _ => true
  | _ => false
def noDefer (ops : Array Oper) : Bool := ops.all (fun o => !isDefer o.op)
theorem noDefer_spec (h : noDefer ops = true) {j : Nat} {o : Oper} (hj : ops[j]? = some o) : ∀ c, o.op ≠ .defer c := by
  intro c e
  have hm : o ∈ ops := Array.mem_of_getElem? hj
  unfold noDefer at h
  rw [Array.all_eq_true'] at h
  have := h o hm
  rw [e] at this
  simp [isDefer] at this
def HYields (P : Program) (ops : Array Oper) (S : World → Prop) (o : Oper) (v : Value) (a : Act) : Prop := YieldsIf P ops S o v a ∧ ∀ w, o.about P w a.eval = none
theorem HYields.op {i : Nat} {o : Oper} {v : Value} {a : Act} (hd : ∀ c, o.op ≠ .defer c) (hi : ops[i]? = some o) (hy : HYields P ops S o v a)
    {K : Act → World → Prop} {w : World} (hS : S w) (h : K (a.put o.dst v) w) : wpOpIn F n P ops Q i K a w := by
  unfold wpOpIn
  simp only [hi]
  have hab : ∀ f, o.about P w a.eval = some f → F.fn f := fun f hf => by rw [hy.2 w] at hf; cases hf
  rcases hy.1 with ⟨hw, hv⟩ | ⟨hw, rfl⟩
  · simp only [hw, if_true, Oper.wpIn, Oper.semAt_eq _ _ _ hd, hv w hS, Oper.uponIn]; exact ⟨hab, h⟩
  · simp only [hw, Bool.false_eq_true, if_false]; exact ⟨hab, h⟩
theorem HYields.same {o : Oper} {v : Value} {a a' : Act} (hy : HYields P ops S o v a) (he : execOp a'.eval o = execOp a.eval o)
    (hw : Region.wanted o (yielded ops a'.tmps) = Region.wanted o (yielded ops a.tmps)) (hb : ∀ w, o.about P w a'.eval = o.about P w a.eval) : HYields P ops S o v a' :=
  ⟨hy.1.of_same he hw, fun w => by rw [hb w]; exact hy.2 w⟩
theorem hput {j : Nat} {oi oj : Oper} {v : Value} (hnd : ∀ c, oj.op ≠ .defer c) (hj : ops[j]? = some oj) (hap : oi.apart ops oj = true)
    (hsi : ∀ cs b, oi.op ≠ .select cs b) (hsj : ∀ cs b, oj.op ≠ .select cs b)
    (hQ : ∀ c a w, Q (.panic c) (a.put oi.dst v) w → Q (.panic c) a w) {K : Act → World → Prop} {a : Act} {w : World}
    (hy : HYields P ops S oi v a) (h : wpOpIn F n P ops Q j K (a.put oi.dst v) w) :
    wpOpIn F n P ops Q j (fun a' w' => HYields P ops S oi v a' ∧ K (a'.put oi.dst v) w') a w := by
  obtain ⟨h1, h2, h3⟩ := Oper.apart_spec hap
  have keep : ∀ (a : Act), HYields P ops S oi v a → ∀ u, HYields P ops S oi v (a.put oj.dst u) := fun a hy u =>
    hy.same (execOp_put oi hsi a oj.dst u h3) (wanted_put oi a oj.dst u h3) (fun w => about_put oi w a oj.dst u h3)
  have keepD : ∀ d, HYields P ops S oi v { a with defers := d :: a.defers } := fun d => hy.same rfl rfl (fun _ => rfl)
  unfold wpOpIn at *
  simp only [hj] at *
  rw [wanted_put oj a oi.dst v h1, about_put oj w a oi.dst v h1] at h
  split
  · rename_i hw
    simp only [hw, if_true] at h
    unfold Oper.wpIn at *
    rw [about_put oj w a oi.dst v h1] at h
    refine ⟨h.1, ?_⟩
    have h := h.2
    rw [Oper.semAt_eq _ _ _ hnd, execOp_put oj hsj a oi.dst v h1] at h
    rw [Oper.semAt_eq _ _ _ hnd]
    generalize (execOp a.eval oj).run P w = r at *
    cases r with
    | ok x w' =>
      cases x <;> simp only [Oper.uponIn] at h ⊢
      case value u => exact ⟨keep a hy u, by rw [← Act.put_comm a v u h2]; exact h⟩
      case skip => exact ⟨keep a hy _, by rw [← Act.put_comm a v undef h2]; exact h⟩
      case defer d =>
        refine ⟨keep _ (keepD d) _, ?_⟩
        rw [← Act.put_comm _ v undef h2, ← Act.put_defers]
        exact h
      case enter f args =>
        refine ⟨h.1, CallsIn.mono h.2 fun e w'' he => ?_⟩
        cases e with
        | returned u => exact ⟨keep a hy u, by rw [← Act.put_comm a v u h2]; exact he⟩
        | panicked c => exact hQ _ _ _ he
        | outgrown => exact he
      case row row args => exact ⟨h.1, RowsIn.mono h.2 fun u w'' he => ⟨keep a hy u, by rw [← Act.put_comm a v u h2]; exact he⟩⟩
      case round l f tmps assign body =>
        refine ⟨h.1, RoundIn.mono h.2 fun e w'' he => ?_⟩
        cases e with
        | returned u => exact ⟨keep a hy u, by rw [← Act.put_comm a v u h2]; exact he⟩
        | panicked c => exact hQ _ _ _ he
        | outgrown => exact he
    | halt x w' =>
      cases x <;> simp only [Oper.uponIn] at h ⊢
      case panic u => exact hQ _ _ _ h
  · rename_i hw
    simp only [hw] at h
    exact ⟨h.1, keep a hy _, by rw [← Act.put_comm a v undef h2]; exact h.2⟩
def wpHIn (F : Fence) (n : Nat) (P : Program) (md : Region.Mode) (ops : Array Oper) (Q : Exit → Act → World → Prop) (S : World → Prop) : Nat → Array Bool → Act → World → Prop
  | 0, listed, a, w => Region.ready md ops listed = [] ∧ Q .normal a w
  | fuel + 1, listed, a, w =>
    (Region.ready md ops listed = [] → Q .normal a w) ∧
    ∀ i ∈ Region.ready md ops listed, wpOpIn F n P ops Q i (fun a' w' => S w' ∧ wpHIn F n P md ops Q S fuel (listed.setIfInBounds i true) a' w') a w
theorem wpHIn_any : ∀ (fuel : Nat) (listed : Array Bool) (a : Act) (w : World), wpHIn F n P md ops Q S fuel listed a w → wpAnyIn F n P md ops Q fuel listed a w
  | 0, _, _, _, h => h
  | fuel + 1, _, _, _, h => ⟨h.1, fun i hi => wpOpIn_mono (fun a w hh => wpHIn_any fuel _ a w hh.2) (h.2 i hi)⟩
theorem wpHIn_first {i : Nat} {oi : Oper} {v : Value} (hnd : noDefer ops = true) (hi : ops[i]? = some oi) (hsel : ∀ (j : Nat) (o : Oper) cs b, ops[j]? = some o → o.op ≠ .select cs b)
    (hQ : ∀ c a w, Q (.panic c) (a.put oi.dst v) w → Q (.panic c) a w) :
    ∀ (fuel : Nat) (listed : Array Bool) (a : Act) (w : World),
      (∀ j oj, ops[j]? = some oj → j ≠ i → listed.getD j true = false → (∀ e ∈ oj.after, Region.binds md e = true → e.on ≠ i) → oi.apart ops oj = true) →
      i ∈ Region.ready md ops listed → HYields P ops S oi v a → S w →
      wpHIn F n P md ops Q S fuel (listed.setIfInBounds i true) (a.put oi.dst v) w → wpHIn F n P md ops Q S (fuel + 1) listed a w := by
  intro fuel
  induction fuel with
  | zero =>
    intro listed a w _ hr hy hS H
    refine ⟨fun h => (by rw [h] at hr; cases hr), fun j hj => ?_⟩
    by_cases hji : j = i
    · subst hji; exact hy.op (noDefer_spec hnd hi) hi hS ⟨hS, H⟩
    · have := ready_mono hj hji
      rw [H.1] at this
      cases this
  | succ fuel ih =>
    intro listed a w hfree hr hy hS H
    refine ⟨fun h => (by rw [h] at hr; cases hr), fun j hj => ?_⟩
    by_cases hji : j = i
    · subst hji; exact hy.op (noDefer_spec hnd hi) hi hS ⟨hS, H⟩
    · have h1 := H.2 j (ready_mono hj hji)
      obtain ⟨hjun, oj, hoj, hall⟩ := mem_ready.1 hj
      have hnot : ∀ e ∈ oj.after, Region.binds md e = true → e.on ≠ i := fun e he hb heq => by
        have h1 := hall e he hb
        have h0 := (mem_ready.1 hr).1
        rw [heq] at h1
        rcases Nat.lt_or_ge i listed.size with h' | h'
        · simp [h'] at h0 h1; rw [h0] at h1; cases h1
        · simp [Array.getElem?_eq_none h'] at h1
      have h2 := hput (noDefer_spec hnd hoj) hoj (hfree j oj hoj hji hjun hnot) (fun cs b => hsel i oi cs b hi) (fun cs b => hsel j oj cs b hoj) hQ hy h1
      have hfree' : ∀ k ok, ops[k]? = some ok → k ≠ i → (listed.setIfInBounds j true).getD k true = false →
          (∀ e ∈ ok.after, Region.binds md e = true → e.on ≠ i) → oi.apart ops ok = true := fun k ok hk hki hun hno => by
        refine hfree k ok hk hki ?_ hno
        by_cases hjk : j = k
        · subst hjk; exact hjun
        · rw [getD_set_ne true hjk] at hun; exact hun
      refine wpOpIn_mono (fun a' w' h3 => ⟨h3.2.1, ih (listed.setIfInBounds j true) a' w' hfree' (ready_mono hr (Ne.symm hji)) h3.1 h3.2.1 ?_⟩) h2
      rw [Array.setIfInBounds_comm _ _ hji]
      exact h3.2.2
theorem wpHIn_take {i : Nat} {oi : Oper} {v : Value} {fuel : Nat} {listed : Array Bool} {a : Act} {w : World} (hnd : noDefer ops = true) (hi : ops[i]? = some oi)
    (hs : Region.noSelect ops = true) (hf : Region.free md ops listed i = true) (hr : (Region.ready md ops listed).contains i = true)
    (hQ : ∀ c a w, Q (.panic c) (a.put oi.dst v) w → Q (.panic c) a w) (hw : Region.wanted oi (yielded ops a.tmps) = true) (hv : ∀ w, S w → (execOp a.eval oi).run P w = .ok (.value v) w) (hb : ∀ w, oi.about P w a.eval = none) (hS : S w)
    (h : wpHIn F n P md ops Q S fuel (listed.setIfInBounds i true) (a.put oi.dst v) w) : wpHIn F n P md ops Q S (fuel + 1) listed a w :=
  wpHIn_first hnd hi (Region.noSelect_spec hs) hQ fuel listed a w (Region.free_spec hi hf) (by simpa using hr) ⟨.inl ⟨hw, hv⟩, hb⟩ hS h
theorem wpHIn_one {fuel : Nat} {listed : Array Bool} {a : Act} {w : World} {i : Nat} {o : Oper}
    (hr : Region.ready md ops listed = [i]) (ho : ops[i]? = some o) (hw : Region.wanted o (yielded ops a.tmps) = true)
    (h : ∀ K : Act → World → Prop, (∀ a' w', S w' → wpHIn F n P md ops Q S fuel (listed.setIfInBounds i true) a' w' → K a' w') → o.wpIn F n P a w K Q) : wpHIn F n P md ops Q S (fuel + 1) listed a w := by
  refine ⟨fun h0 => (by rw [h0] at hr; cases hr), fun j hj => ?_⟩
  rw [hr] at hj
  obtain rfl := List.mem_singleton.1 hj
  unfold wpOpIn
  rw [ho]
  simp only [hw, if_true]
  exact h _ (fun _ _ h1 h2 => ⟨h1, h2⟩)
theorem wpHIn_done {listed : Array Bool} {a : Act} {w : World} (hr : Region.ready md ops listed = []) (h : Q .normal a w) :
    ∀ fuel, wpHIn F n P md ops Q S fuel listed a w
  | 0 => ⟨hr, h⟩
  | _ + 1 => ⟨fun _ => h, by rw [hr]; simp⟩
theorem wpIn_region_held {id : Nat} {a : Act} {w : World} (hm : P.follows .mixedOrders = true)
    (h : wpHIn F n P .any ops Q S ops.size (Array.replicate ops.size false) a { w with drawn := w.drawn + 1 }) : (Code.region id ops true).wpIn F n P Q a w :=
  wpIn_region_any hm (wpHIn_any _ _ _ _ h)
end
end Go.Proofs.Ytopemjbakpahfaa
