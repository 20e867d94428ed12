/-
  Contracts and plain laws, part 25 (texts: S3). No condition but what each states.
-/
import Derived.Test.YtopemjbakpahfaaSn24
/-
  The bytes of a store's head. No condition but that its numbers are small.
-/
namespace Go.Proofs.Ytopemjbakpahfaa
open Go.RowKit Disk Jour Crc Slot
set_option linter.unusedSimpArgs false
set_option linter.unusedVariables false
theorem app_byte2 {w : World} {ops : Array Oper} {rest : List Oper} {o : Oper} {a : Act} {Q : Exit → Act → World → Prop} (hgd : o.guard = none) (s x : Operand) (ho : o.op = .call { callee := .builtin .append, args := #[s, x], argTypes := #[22, 22] })
    (base : Nat) (v : Value) (l : List UInt8) (z : UInt8) (c : Int) (g : Nat) (hs : a.eval s = v) (hown : w.ownsRow base 5 1 v l.length (l.map byteV)) (hx : a.eval x = .slice (some ⟨g, 0, none⟩) 1 1)
    (hc : w.cell? ⟨g, 0, none⟩ = some (.int .u8 c)) (hz : c = (z.toNat : Int)) (hb : l.length ≤ 1000000000) (b3 : base ≤ w.heap.size)
    (hK : ∀ v' w', w'.ownsRow base 5 1 v' (l ++ [z]).length ((l ++ [z]).map byteV) → w.grownBy w' v.ownBlock → (v'.ownBlock = v.ownBlock ∨ v'.ownBlock = some w.heap.size) → wpList Try.prog ops Q rest (a.put o.dst v') w') : wpList Try.prog ops Q (o :: rest) a w := by
  subst hz
  exact app_byte1 hgd s x ho base v l z g hs hown hx hc hb b3 hK
theorem blk_other {A B : World} {k : Nat} {t e : TypeId} {C : Array Value} {row : Option Nat} (h : A.heap[k]? = some (.cells C e (0, 0))) (hg : A.grownBy B row) (hr : RowOf A row t) (hne : t ≠ e) : B.heap[k]? = some (.cells C e (0, 0)) := by
  refine (hg.block k (Array.getElem?_eq_some_iff.1 h).1 (fun e' => ?_)).trans h
  obtain ⟨cs, fr, h1⟩ := hr k e'.symm
  rw [h] at h1; cases h1; exact hne rfl
theorem be4 (m : Nat) : be 4 m = [UInt8.ofNat (m / 16777216), UInt8.ofNat (m / 65536), UInt8.ofNat (m / 256), UInt8.ofNat m] := by
  simp [be]
/-- The numbers of a head. -/
def hnums (h : Hd) : List Nat := [h.long, h.used, h.turn]
/-- What is written of a head, of so many numbers. -/
def hpre (h : Hd) (j : Nat) : List UInt8 := UInt8.ofNat h.slot :: ((hnums h).take j).flatMap (be 4)
theorem hpre_all (h : Hd) : hpre h 3 = hraw h := by simp [hpre, hnums, hraw]
theorem hpre_succ (h : Hd) (j : Nat) (hj : j < 3) : hpre h (j + 1) = hpre h j ++ be 4 ((hnums h).getD j 0) := by
  unfold hpre
  rw [take_snoc _ j 0 (by simpa [hnums] using hj), List.flatMap_append]
  simp
theorem hpre_len (h : Hd) (j : Nat) (hj : j ≤ 3) : (hpre h j).length ≤ 13 := by
  have : j = 0 ∨ j = 1 ∨ j = 2 ∨ j = 3 := by omega
  rcases this with rfl | rfl | rfl | rfl <;> simp [hpre, hnums, be_length]
structure HdI (w : World) (h : Hd) (l : List UInt8) (rb : Nat) (v : Value) (wr : World) : Prop where
  bl : Below w.heap.size w wr
  own : wr.ownsRow w.heap.size 5 1 v l.length (l.map byteV)
  row : wr.heap[rb]? = some (.cells #[.int .i64 (h.long : Int), .int .i64 (h.used : Int), .int .i64 (h.turn : Int)] 3 (0, 0))
theorem HdI.app {w : World} {h : Hd} {l : List UInt8} {rb : Nat} {v : Value} {wr : World} (hI : HdI w h l rb v wr) {X : Obj} {v' : Value} {w' : World} {z : UInt8} (o : w'.ownsRow w.heap.size 5 1 v' (l ++ [z]).length ((l ++ [z]).map byteV)) (g : (wr.alloc X).grownBy w' v.ownBlock) : HdI w h (l ++ [z]) rb v' w' := by
  refine ⟨(hI.bl.alloc hI.bl.size X).grown g (Nat.le_trans hI.bl.size (by simp)) (fun j hj => (hI.own.lt j hj).1), o, ?_⟩
  have h1 : (wr.alloc X).heap[rb]? = _ := (Below.heap_alloc wr X rb (Array.getElem?_eq_some_iff.1 hI.row).1).trans hI.row
  exact blk_other h1 g (rowOf_owns (hI.own.alloc X)) (by decide)
set_option maxRecDepth 100000 in
set_option maxHeartbeats 4000000 in
theorem hbytes_any (h : Hd) (w : World) (h0 : h.slot < 2) (h1 : h.long < 4294967296) (h2 : h.used < 4294967296) (h3 : h.turn < 4294967296) :
    Calls Try.prog 111 #[.agg #[.int .i64 (h.slot : Int), .int .i64 (h.long : Int), .int .i64 (h.used : Int), .int .i64 (h.turn : Int)]] w fun en w' => ∃ v, en = .returned v ∧ w'.ownsRow w.heap.size 5 1 v 19 ((hbytes h).map byteV) ∧ Below w.heap.size w w' := by
  obtain ⟨sl, lo, us, tu⟩ := h
  dsimp only at h0 h1 h2 h3 ⊢
  have hs0 : (0 : Int) ≤ (sl : Int) := by omega
  have hs1 : (sl : Int) < 2 := by omega
  have HH : Hid (hbytes ⟨sl, lo, us, tu⟩ = frame (hpre ⟨sl, lo, us, tu⟩ 3)) := by show _ = _; rw [hpre_all]; rfl
  generalize hbytes ⟨sl, lo, us, tu⟩ = hb at HH ⊢
  have HN : Hid (∀ j, j < 3 → (hnums ⟨sl, lo, us, tu⟩).getD j 0 < 4294967296) := fun j hj => by
    have : j = 0 ∨ j = 1 ∨ j = 2 := by omega
    rcases this with rfl | rfl | rfl
    · exact h1
    · exact h2
    · exact h3
  have HC : Hid (∀ j, j < 3 → (#[Value.int .i64 (lo : Int), .int .i64 (us : Int), .int .i64 (tu : Int)] : Array Value)[j]? = some (.int .i64 ((hnums ⟨sl, lo, us, tu⟩).getD j 0 : Int))) := fun j hj => by
    have : j = 0 ∨ j = 1 ∨ j = 2 := by omega
    rcases this with rfl | rfl | rfl <;> rfl
  have I0 : Hid (HdI w ⟨sl, lo, us, tu⟩ (hpre ⟨sl, lo, us, tu⟩ 0) (w.heap.size + 2) (.slice (some ⟨w.heap.size + 1, 0, none⟩) 1 1) (((w.alloc (.cells #[.int .i64 (sl : Int), .int .i64 (lo : Int), .int .i64 (us : Int), .int .i64 (tu : Int)] 132)).alloc (.cells #[.int .u8 (sl : Int)] 5)).alloc (.cells #[.int .i64 (lo : Int), .int .i64 (us : Int), .int .i64 (tu : Int)] 3))) := by
    refine ⟨((below_alloc w _).alloc (by simp) _).alloc (by simp; omega) _, ?_, ?_⟩
    · have e : hpre ⟨sl, lo, us, tu⟩ 0 = [UInt8.ofNat sl] := rfl
      rw [e]
      have o1 := owns_bytes (w.alloc (.cells #[.int .i64 (sl : Int), .int .i64 (lo : Int), .int .i64 (us : Int), .int .i64 (tu : Int)] 132)) [UInt8.ofNat sl] #[.int .u8 (sl : Int)] w.heap.size (w.heap.size + 1) (by simp) (by omega) (by
        simp only [List.map_cons, List.map_nil, byteV]
        rw [UInt8.toNat_ofNat', Nat.mod_eq_of_lt (by omega)]) (by unfold maxLen; simp)
      exact o1.alloc _
    · have := heap_alloc_new ((w.alloc (.cells #[.int .i64 (sl : Int), .int .i64 (lo : Int), .int .i64 (us : Int), .int .i64 (tu : Int)] 132)).alloc (.cells #[.int .u8 (sl : Int)] 5)) (.cells #[.int .i64 (lo : Int), .int .i64 (us : Int), .int .i64 (tu : Int)] 3 (0, 0))
      simpa using this
  go_enter Try.func111, Try.ntmps111
  go_wp2_with fail
  go_loopw [3, 21] (fun v jv wr => ∃ j : Nat, jv = .int .i64 j ∧ j ≤ 3 ∧ HdI w ⟨sl, lo, us, tu⟩ (hpre ⟨sl, lo, us, tu⟩ j) (w.heap.size + 2) v wr) (fun _ jv _ => 3 - (intOf jv).toNat)
  case atStart => exact ⟨0, rfl, Nat.zero_le _, I0.out⟩
  case round =>
    obtain ⟨wo, rfl⟩ : ∃ wo : World, wo = wr := ⟨_, rfl⟩
    obtain ⟨j, rfl, hj, hI⟩ := hrel
    by_cases hlt : j < 3
    · have hj0 : (0 : Int) ≤ (j : Int) := by omega
      have hj3 : (j : Int) < 3 := by omega
      obtain ⟨m, hm⟩ : ∃ m, (hnums ⟨sl, lo, us, tu⟩).getD j 0 = m := ⟨_, rfl⟩
      have hmb := HN.out j hlt
      have hcj := HC.out j hlt
      have hsucc := hpre_succ ⟨sl, lo, us, tu⟩ j hlt
      have hplen := hpre_len ⟨sl, lo, us, tu⟩ j hj
      rw [hm] at hmb hcj hsucc
      have hmi : (m : Int) < 4294967296 := by omega
      have hm0 : (0 : Int) ≤ (m : Int) := by omega
      have crow : wo.cell? ⟨w.heap.size + 2, j, none⟩ = some (.int .i64 (m : Int)) := (cell_of_row wo _ j _ 3 (0, 0) hI.row).trans hcj
      have I1 : Hid (HdI w ⟨sl, lo, us, tu⟩ (hpre ⟨sl, lo, us, tu⟩ j ++ (be 4 m).take 0) (w.heap.size + 2) u3 wo) := by show HdI _ _ _ _ _ _; simpa using hI
      have SU := Lib.hid hsucc
      generalize hpre ⟨sl, lo, us, tu⟩ j = pre at I1 SU hplen
      have HJ3 : Hid (j < 3) := hlt
      clear hm hcj hsucc hI I0 hlt
      have PL : Hid (pre.length ≤ 13) := hplen
      clear hplen
      go_wp2_with fail
      go_loopw [3, 6] (fun v kv wr => ∃ (c : Nat) (x : Int), kv = .int .i64 x ∧ x = 3 - (c : Int) ∧ c ≤ 4 ∧ HdI w ⟨sl, lo, us, tu⟩ (pre ++ (be 4 m).take c) (w.heap.size + 2) v wr) (fun _ kv _ => (intOf kv + 1).toNat)
      case atStart => exact ⟨0, 3, rfl, rfl, by omega, I1.out⟩
      case round =>
        obtain ⟨c, x, rfl, hx, hc, hI⟩ := hrel
        rcases (by omega : c = 0 ∨ c = 1 ∨ c = 2 ∨ c = 3 ∨ c = 4) with rfl | rfl | rfl | rfl | rfl
        · obtain rfl : x = 3 := by omega
          clear hx
          have NXT := Lib.hid hI
          clear hI
          go_wp2_with (at_builtin; refine app_byte2 rfl (.tmp 29) (.tmp 35) rfl w.heap.size _ (pre ++ (be 4 m).take 0) (UInt8.ofNat (m / 16777216)) _ wr.heap.size rfl (NXT.out.own.alloc _) rfl (cell_lit wr _ _ _ _ rfl) (by rw [UInt8.toNat_ofNat']; omega) (by have := PL.out; rw [List.length_append, be4]; simp; omega) (Nat.le_trans NXT.out.bl.size (by simp)) ?_; intro v5 w5 o5 g5 r5)
          have NX := Lib.hid (NXT.out.app o5 g5)
          rw [List.append_assoc, show (be 4 m).take 0 ++ [UInt8.ofNat (m / 16777216)] = (be 4 m).take 1 by rw [be4]; rfl] at NX
          go_roundw
          case rel => exact ⟨1, _, rfl, by omega, by omega, NX.out⟩
          case measure => simp [intOf]
        · obtain rfl : x = 2 := by omega
          clear hx
          have NXT := Lib.hid hI
          clear hI
          go_wp2_with (at_builtin; refine app_byte2 rfl (.tmp 29) (.tmp 35) rfl w.heap.size _ (pre ++ (be 4 m).take 1) (UInt8.ofNat (m / 65536)) _ wr.heap.size rfl (NXT.out.own.alloc _) rfl (cell_lit wr _ _ _ _ rfl) (by rw [UInt8.toNat_ofNat']; omega) (by have := PL.out; rw [List.length_append, be4]; simp; omega) (Nat.le_trans NXT.out.bl.size (by simp)) ?_; intro v5 w5 o5 g5 r5)
          have NX := Lib.hid (NXT.out.app o5 g5)
          rw [List.append_assoc, show (be 4 m).take 1 ++ [UInt8.ofNat (m / 65536)] = (be 4 m).take 2 by rw [be4]; rfl] at NX
          go_roundw
          case rel => exact ⟨2, _, rfl, by omega, by omega, NX.out⟩
          case measure => simp [intOf]
        · obtain rfl : x = 1 := by omega
          clear hx
          have NXT := Lib.hid hI
          clear hI
          go_wp2_with (at_builtin; refine app_byte2 rfl (.tmp 29) (.tmp 35) rfl w.heap.size _ (pre ++ (be 4 m).take 2) (UInt8.ofNat (m / 256)) _ wr.heap.size rfl (NXT.out.own.alloc _) rfl (cell_lit wr _ _ _ _ rfl) (by rw [UInt8.toNat_ofNat']; omega) (by have := PL.out; rw [List.length_append, be4]; simp; omega) (Nat.le_trans NXT.out.bl.size (by simp)) ?_; intro v5 w5 o5 g5 r5)
          have NX := Lib.hid (NXT.out.app o5 g5)
          rw [List.append_assoc, show (be 4 m).take 2 ++ [UInt8.ofNat (m / 256)] = (be 4 m).take 3 by rw [be4]; rfl] at NX
          go_roundw
          case rel => exact ⟨3, _, rfl, by omega, by omega, NX.out⟩
          case measure => simp [intOf]
        · obtain rfl : x = 0 := by omega
          clear hx
          have NXT := Lib.hid hI
          clear hI
          go_wp2_with (at_builtin; refine app_byte2 rfl (.tmp 29) (.tmp 35) rfl w.heap.size _ (pre ++ (be 4 m).take 3) (UInt8.ofNat (m)) _ wr.heap.size rfl (NXT.out.own.alloc _) rfl (cell_lit wr _ _ _ _ rfl) (by rw [UInt8.toNat_ofNat']; omega) (by have := PL.out; rw [List.length_append, be4]; simp; omega) (Nat.le_trans NXT.out.bl.size (by simp)) ?_; intro v5 w5 o5 g5 r5)
          have NX := Lib.hid (NXT.out.app o5 g5)
          rw [List.append_assoc, show (be 4 m).take 3 ++ [UInt8.ofNat (m)] = (be 4 m).take 4 by rw [be4]; rfl] at NX
          go_roundw
          case rel => exact ⟨4, _, rfl, by omega, by omega, NX.out⟩
          case measure => simp [intOf]
        · obtain rfl : x = -1 := by omega
          clear hx
          have NX := Lib.hid hI
          rw [show (be 4 m).take 4 = be 4 m by rw [be4]; rfl, ← SU.out] at NX
          clear hI
          go_wp2_with fail
          go_roundw
          case rel => exact ⟨j + 1, rfl, by have := HJ3.out; omega, NX.out⟩
          case measure => simp only [intOf]; omega
    · obtain rfl : j = 3 := by omega
      have hl13 : (hpre ⟨sl, lo, us, tu⟩ 3).length = 13 := by rw [hpre_all, hraw_length]
      obtain ⟨a, cap, e, q1, q2, q3⟩ := RB.of_owns hI.own
      have hfr := frame_any _ a cap wo (by omega) q1 q2 q3
      subst e
      have HI := Lib.hid hI.bl
      have HF := Lib.hid hfr
      clear hI hfr q1 q2 q3
      go_wp2_with fail
      refine (HF.out).mono ?_
      rintro en w2 ⟨v2, rfl, o2, b2⟩
      rw [← HH.out] at o2
      have hl19 : hb.length = 19 := by rw [HH.out, frame_length, hl13]
      rw [hl19] at o2
      go_wp2_with fail
      go_ret
      exact ⟨v2, rfl, ownsRow_base o2 HI.out.size, HI.out.trans (b2.mono HI.out.size)⟩
end Go.Proofs.Ytopemjbakpahfaa
