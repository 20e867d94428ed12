/-
  Contracts and plain laws, part 11 (texts: JIter). No condition but what each states.
-/
import Derived.Test.YtopemjbakpahfaaSn10
import Derived.RangeFuncNested
import Derived.RangeFuncBound
import Derived.RangeFuncCalls
import Derived.RangeFuncLeaves
import Derived.RangeFuncBox
import Derived.Shelf.Abstract
import Derived.OwnWalkIn
import Derived.TacticsInMore
import Derived.LoopNIn
import Derived.LoopIn
import Derived.Stop.RegionWithIn
/-
  The iterator over the sectors of some bytes: its contract. No condition but that the numbers are small.
-/
namespace Go.Proofs.Ytopemjbakpahfaa
open Go.RowKit Disk Jour
attribute [local go_sem] Oper.semAt_some
set_option linter.unusedSimpArgs false
/-- A part that fits so many bytes, of a sector of no great number. -/
def PartS (len : Nat) : Type := { p : Part // p.good len ∧ p.sec ≤ 1000000 ∧ 1 ≤ p.n }
def pcell3 (p : Part) : Array Value := #[.int .i64 (p.ins : Int), .int .i64 (p.outs : Int), .int .i64 (p.n : Int)]
def PartS.enc {len : Nat} (x : PartS len) : Array Value := #[.int .i64 (x.1.sec : Int), .agg (pcell3 x.1)]
/-- These blocks lie as they lay. -/
def KeepB (L : List Nat) (W W' : World) : Prop := ∀ k ∈ L, W'.heap[k]? = W.heap[k]?
theorem KeepB.trans {L : List Nat} {A B C : World} (h : KeepB L A B) (k : KeepB L B C) : KeepB L A C := fun i hi => (k i hi).trans (h i hi)
theorem KeepB.alloc {L : List Nat} {W : World} (hL : ∀ k ∈ L, k < W.heap.size) (o : Obj) : KeepB L W (W.alloc o) := fun k hk => Below.heap_alloc W o k (hL k hk)
theorem boxed_same {W W' : World} {b : Nat} {t : TypeId} {v : Value} (h : Boxed W b t v) (e : W'.heap[b]? = W.heap[b]?) : Boxed W' b t v := e.trans h
/-- These blocks lie as they lay, and all that hold a part. -/
def KeepP (L : List Nat) (W W' : World) : Prop := KeepB L W W' ∧ ∀ k, Typed W k 127 → W'.heap[k]? = W.heap[k]?
theorem KeepP.trans {L : List Nat} {A B C : World} (h : KeepP L A B) (k : KeepP L B C) : KeepP L A C := ⟨h.1.trans k.1, fun i hi => (k.2 i (hi.same (h.2 i hi))).trans (h.2 i hi)⟩
theorem KeepP.alloc {L : List Nat} {W : World} (hL : ∀ k ∈ L, k < W.heap.size) (o : Obj) : KeepP L W (W.alloc o) := ⟨KeepB.alloc hL o, fun k hk => Below.heap_alloc W o k hk.lt⟩
theorem KeepP.put {L : List Nat} {W : World} {l : Nat} {o : Obj} (o' : Obj) (hL : ∀ k ∈ L, k < l) (h : W.heap[l]? = some o) (ho : o.isCells = false) : KeepP L W (W.putObj l o') :=
  ⟨fun k hk => World.putObj_heap_other (by have := hL k hk; omega), fun k ⟨C, hk⟩ => World.putObj_heap_other (by rintro rfl; rw [h] at hk; cases hk; cases ho)⟩
theorem abides_none {β : Type} {B : Nat} {J : β → World → Prop} (h : AbidesFrom B J) {s : β} {W W' : World} (hs : J s W) (hg : W.grownBy W' none) : J s W' := h s W W' none hs hg (fun r e => by cases e)
theorem parts_cons {A n f done : Nat} (h : done < n) : parts A n (f + 1) done = ⟨(A + done) / 32, (A + done) % 32, done, min (n - done) (32 - (A + done) % 32)⟩ :: parts A n f (done + min (n - done) (32 - (A + done) % 32)) := by
  show (if done < n then _ else []) = _
  rw [if_pos h]
theorem parts_end {A n f : Nat} : parts A n f n = [] := by
  cases f with
  | zero => rfl
  | succ f => show (if n < n then _ else []) = _; rw [if_neg (Nat.lt_irrefl _)]
set_option maxRecDepth 100000 in
set_option maxHeartbeats 4000000 in
theorem parts1_stops (w0 : World) (Ab B first N bn ba bp p m n : Nat) (hA : IsArea w0 Ab B first N) (hn : Boxed w0 bn 3 (.int .i64 (m : Int))) (ha : Boxed w0 ba 3 (.int .i64 (p : Int))) (hp : Boxed w0 bp 69 (.pointer (some ⟨Ab, 0, none⟩))) (hpm : p + m ≤ 32768) (hf : m = 0 ∨ first ≤ 1024) :
    SeqStopsK Fence.wide n Try.prog 104 #[.pointer (some ⟨bn, 0, none⟩), .pointer (some ⟨ba, 0, none⟩), .pointer (some ⟨bp, 0, none⟩)] (PartS.enc (len := m)) (KeepP [Ab, bn, ba, bp])
      (fun xs => xs.map (·.1) = parts (32 * first + p) m m 0) (fun pre => ∃ rest, parts (32 * first + p) m m 0 = pre.map (·.1) ++ rest) m w0 := by
  intro l J Jx W hW hJ hJx hY h0
  have hlt0 : ∀ k ∈ [Ab, bn, ba, bp], k < W.heap.size := by
    have := hW.size
    have := hA.lt
    have := hn.lt
    have := ha.lt
    have := hp.lt
    intro k hk
    simp at hk
    rcases hk with rfl | rfl | rfl | rfl <;> omega
  have K0 : KeepB [Ab, bn, ba, bp] w0 W := by
    intro k hk
    simp at hk
    rcases hk with rfl | rfl | rfl | rfl
    · exact hW.block _ hA.lt
    · exact hW.block _ hn.lt
    · exact hW.block _ ha.lt
    · exact hW.block _ hp.lt
  have HJ := Lib.hid hJ
  have HY := Lib.hid hY
  have KK := Lib.hid K0
  have LT := Lib.hid hlt0
  have H0 := Lib.hid h0
  clear hJ hJx hY hW K0 hlt0 h0
  refine callsIn_of_wp Try.func104 rfl trivial ?_ rfl
  simp only [Try.ntmps104, List.size_toArray, List.length_cons, List.length_nil, Nat.reduceAdd, Nat.reduceSub, Array.replicate_succ, Array.replicate_zero, List.push_toArray, List.append_toArray, List.nil_append, List.cons_append]
  gi_wp2
  gi_loopw [5] (fun v wr => ∃ (done f : Nat) (pre : List (PartS m)), v = .int .i64 done ∧ done ≤ m ∧ m ≤ done + f ∧ KeepB [Ab, bn, ba, bp] w0 wr ∧ (∀ k ∈ [Ab, bn, ba, bp], k < wr.heap.size) ∧ J pre wr ∧ parts (32 * first + p) m m 0 = pre.map (·.1) ++ parts (32 * first + p) m f done)
    (fun v _ => m - (intOf v).toNat)
  case atStart => exact ⟨0, m, [], rfl, Nat.zero_le _, by omega, KK.out, LT.out, H0.out, by simp⟩
  case round =>
    obtain ⟨done, f, pre, rfl, hd, hdf, hk, hl, hJs, hps⟩ := hrel
    have hA1 := hA.same (hk Ab (by simp))
    have hn1 := (boxed_same hn (hk bn (by simp))).cell
    have ha1 := (boxed_same ha (hk ba (by simp))).cell
    have hp1 := (boxed_same hp (hk bp (by simp))).cell
    have hA2 : wr.cell? ⟨Ab, 1, none⟩ = some (.int .i64 (first : Int)) := Joins.cell_of_block hA1.blk 1
    have HK := Lib.hid hk
    have HL := Lib.hid hl
    have HJS := Lib.hid hJs
    have HPS := Lib.hid hps
    clear hk hl hJs hps hA1
    by_cases hlt : done < m
    · have hfi : first ≤ 1024 := by omega
      obtain ⟨f', rfl⟩ : ∃ f', f = f' + 1 := ⟨f - 1, by omega⟩
      have hd0 : (0 : Int) ≤ (done : Int) := by omega
      have hdi : (done : Int) < (m : Int) := by omega
      have hmi : (m : Int) ≤ 32768 := by omega
      have hp0 : (0 : Int) ≤ (p : Int) := by omega
      have hpi : (p : Int) + (m : Int) ≤ 32768 := by omega
      have hf0 : (0 : Int) ≤ (first : Int) := by omega
      have hf1 : (first : Int) ≤ 1024 := by omega
      obtain ⟨ins, hins⟩ : ∃ ins : Nat, (p + done) % 32 = ins := ⟨_, rfl⟩
      obtain ⟨k, hk⟩ : ∃ k : Nat, min (m - done) (32 - ins) = k := ⟨_, rfl⟩
      obtain ⟨q, hq⟩ : ∃ q : Nat, (32 * first + p + done) / 32 = q := ⟨_, rfl⟩
      have hpc := parts_cons (A := 32 * first + p) (f := f') hlt
      rw [hq, show (32 * first + p + done) % 32 = ins by omega, hk] at hpc
      obtain ⟨x, hx⟩ : ∃ x : PartS m, x.1 = ⟨q, ins, done, k⟩ := ⟨⟨⟨q, ins, done, k⟩, ⟨by show ins + k ≤ 32; omega, by show done + k ≤ m; omega⟩, by show q ≤ _; omega, by show 1 ≤ k; omega⟩, rfl⟩
      have hpx : parts (32 * first + p) m m 0 = (pre ++ [x]).map (·.1) ++ parts (32 * first + p) m f' (done + k) := by rw [HPS.out, hpc, List.map_append, List.map_cons, List.map_nil, hx, List.append_assoc]; rfl
      have hlen : pre.length < m := by
        have h1 := parts_length (32 * first + p) m m 0
        rw [hpx] at h1
        simp at h1
        omega
      have hk1 : 1 ≤ k := by omega
      have hkm : done + k ≤ m := by omega
      have hy0 := HY.out pre x ((wr.alloc (.cells (pcell3 x.1) 127)).drew) (abides_none HJ.out HJS.out ((World.grownBy_alloc wr _ none).trans (grown_below (Below.refl _ _).drew))) hlen
      have hpe : pcell3 x.1 = #[.int .i64 (ins : Int), .int .i64 (done : Int), .int .i64 (k : Int)] := by rw [hx]; rfl
      rw [hpe] at hy0
      have hxe : PartS.enc x = #[.int .i64 ((first : Int) + ((p : Int) + (done : Int)) / 32), .agg #[.int .i64 (ins : Int), .int .i64 (done : Int), .int .i64 (k : Int)]] := by
        unfold PartS.enc
        rw [hpe, hx]
        have : ((q : Nat) : Int) = (first : Int) + ((p : Int) + (done : Int)) / 32 := by omega
        simp only [this]
      rw [hxe] at hy0
      have I1 : Hid (((p : Int) + (done : Int)) % 32 = (ins : Int)) := by show _ = _; omega
      have I2 : Hid (min ((m : Int) - (done : Int)) (32 - (ins : Int)) = (k : Int)) := by show _ = _; omega
      have HPX := Lib.hid hpx
      have HY0 := Lib.hid hy0
      clear hins hk hq hpc hx hpx hpe hxe hy0
      gi_wp2_with fail
      all_goals
        have i1 := I1.out
        have i2 := I2.out
        rw [i1]
        first
          | rw [show (m : Int) - (done : Int) = (k : Int) by omega]
          | rw [show 32 - (ins : Int) = (k : Int) by omega]
        clear i1 i2
        obtain ⟨fn, tmps, assign, body, hy, hR⟩ := HY0.out
        have HR := Lib.hid (hR.mono (R' := fun e W' => ∃ bo : Bool, e = .returned (.bool bo) ∧ ((bo = true ∧ J (pre ++ [x]) W' ∧ KeepP [Ab, bn, ba, bp] ((wr.alloc (.cells #[.int .i64 (ins : Int), .int .i64 (done : Int), .int .i64 (k : Int)] 127)).drew) W') ∨ (bo = false ∧ Jx (pre ++ [x]) W'))) (by
          rintro e W' (⟨rfl, h1, h2⟩ | ⟨rfl, h1⟩)
          · exact ⟨true, rfl, .inl ⟨rfl, h1, h2⟩⟩
          · exact ⟨false, rfl, .inr ⟨rfl, h1⟩⟩))
        have hp0' := alloc_cell (X := .cells #[.int .i64 (ins : Int), .int .i64 (done : Int), .int .i64 (k : Int)] 127) hp1
        have ha0' := alloc_cell (X := .cells #[.int .i64 (ins : Int), .int .i64 (done : Int), .int .i64 (k : Int)] 127) ha1
        have hA0' := alloc_cell (X := .cells #[.int .i64 (ins : Int), .int .i64 (done : Int), .int .i64 (k : Int)] 127) hA2
        have s1 : IntKind.i64.wrap ((p : Int) + (done : Int)) = (p : Int) + (done : Int) := IntWalk.i64_in _ (by omega)
        have s2 : IntKind.i64.wrap (((p : Int) + (done : Int)).tdiv 32) = ((p : Int) + (done : Int)) / 32 := by
          rw [Int.tdiv_eq_ediv_of_nonneg (by omega)]; exact IntWalk.i64_in _ (by omega)
        have s3 : IntKind.i64.wrap ((first : Int) + ((p : Int) + (done : Int)) / 32) = (first : Int) + ((p : Int) + (done : Int)) / 32 := IntWalk.i64_in _ (by omega)
        clear hR
        gi_region_with ((refine ⟨fun h => (by cases h), HR.out.mono ?_⟩; rintro e W3 ⟨bo, rfl, hW3⟩))
        all_goals
          clear s1 s2 s3
          have hk0 : (0 : Int) ≤ (k : Int) := by omega
          have hkm' : (done : Int) + (k : Int) ≤ 32768 := by omega
          rcases hW3 with ⟨rfl, hJ3, hk3⟩ | ⟨rfl, hJ3⟩
          · have hg : ((wr.alloc (.cells #[.int .i64 (ins : Int), .int .i64 (done : Int), .int .i64 (k : Int)] 127)).drew).heap[wr.heap.size]? = some (.cells #[.int .i64 (ins : Int), .int .i64 (done : Int), .int .i64 (k : Int)] 127 (0, 0)) := heap_alloc_new wr _
            have hg3 := (hk3.2 _ ⟨_, hg⟩).trans hg
            have c3 : W3.cell? ⟨wr.heap.size, 2, none⟩ = some (.int .i64 (k : Int)) := Joins.cell_of_block hg3 2
            have HK3 := Lib.hid hk3
            clear hk3 hg hg3
            gi_wp2_with fail
            go_roundw
            case rel =>
              refine ⟨done + k, f', pre ++ [x], rfl, hkm, by omega, ?_, ?_, hJ3, HPX.out⟩
              · exact (HK.out.trans (KeepB.alloc HL.out _)).trans HK3.out.1
              · intro i hi
                have h1 := HK3.out.1 i hi
                have h2 := HL.out i hi
                rcases Nat.lt_or_ge i W3.heap.size with h3 | h3
                · exact h3
                · rw [Array.getElem?_eq_none h3] at h1
                  have h4 : ((wr.alloc (.cells #[.int .i64 (ins : Int), .int .i64 (done : Int), .int .i64 (k : Int)] 127)).drew).heap.size = wr.heap.size + 1 := by simp
                  rw [Array.getElem?_eq_getElem (by omega)] at h1
                  cases h1
            case measure => simp only [intOf]; omega
          · gi_wp2_with fail
            refine bodyPost_ret (results_none rfl _ _ _) rfl ?_
            exact ⟨⟨_, rfl⟩, .inr ⟨pre ++ [x], ⟨_, HPX.out⟩, hJ3⟩⟩
    · have hdi : ¬ (done : Int) < (m : Int) := by omega
      obtain rfl : done = m := by omega
      gi_wp2
      go_end0
      exact ⟨⟨_, rfl⟩, .inl ⟨pre, by have := HPS.out; rw [parts_end, List.append_nil] at this; exact this.symm, HJS.out⟩⟩
end Go.Proofs.Ytopemjbakpahfaa
