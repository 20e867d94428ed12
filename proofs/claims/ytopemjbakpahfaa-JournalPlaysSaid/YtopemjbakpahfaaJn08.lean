/-
  Contracts and plain laws, part 8 (texts: OpenC, Frames2, FramesP, FramesL, StepApp). No condition but what each states.
-/
import Derived.Test.YtopemjbakpahfaaJn07
import Derived.Maps.AppendAt
import Derived.Deep.RegionLaw
/-
  Opening an argument of a law: four bytes. No condition.
-/
namespace Go.Proofs.Ytopemjbakpahfaa
open Go.ChangeShapes Go.WideShapes Go.ChangeAt Go.RowKit
section
variable {H : Type} {enc : TypeId × Value → H} {P : Program} {w : World} {base : Nat} {spare : Nat → Bool} {held : Bool}
theorem okWide_arr {r : Reach} {b0 n : Nat} {t e : TypeId} {v : Value} (ht : P.underlying t = some (.array n e)) (hv : Value.okWide P w r b0 t v) : ∃ cs : Array Value, v = .agg cs ∧ cs.size = P.cellsOf t := by
  unfold Value.okWide at hv
  rw [ht] at hv
  obtain ⟨cs, h1, h2, _⟩ := hv
  exact ⟨cs, h1, h2⟩
theorem trod_u8 {n : Nat} {e : TypeId} {c : Value} {y : DataW H × List MemPlace} (he : P.underlying e = some (.int .u8)) (h : DataW.trod enc P w base spare held n e [c] = some y) : ∃ b : UInt8, c = .int .u8 (b.toNat : Int) := by
  obtain ⟨n, e, _, w⟩ := DataW.trod_int he h
  obtain ⟨b, rfl⟩ := u8_of w
  simp at e; exact ⟨b, e⟩
theorem open_four {r : Reach} {b0 : Nat} {t e : TypeId} {v : Value} {d : DataW H} {p : List MemPlace} (ht : P.underlying t = some (.array 4 e)) (he : P.underlying e = some (.int .u8)) (hC : P.cellsOf t = 4) (hE : P.cellsOf e = 1)
    (hv : Value.okWide P w r b0 t v) (h : DataW.Trod enc P w base spare held t v d p) :
    ∃ x y z u : UInt8, v = .agg #[.int .u8 (x.toNat : Int), .int .u8 (y.toNat : Int), .int .u8 (z.toNat : Int), .int .u8 (u.toNat : Int)] := by
  obtain ⟨cs, rfl, hsz⟩ := okWide_arr ht hv
  obtain ⟨l⟩ := cs
  match l, hsz.trans hC with
  | [c0, c1, c2, c3], _ =>
    obtain ⟨fuel, hf⟩ := h
    obtain ⟨xs, m, _, _, _, hlen, hg⟩ := DataW.trod_array ht hf
    match xs, hlen with
    | [y0, y1, y2, y3], _ =>
      have g0 := hg 0 (by omega)
      have g1 := hg 1 (by omega)
      have g2 := hg 2 (by omega)
      have g3 := hg 3 (by omega)
      simp [Value.cells, hE] at g0 g1 g2 g3
      obtain ⟨x, rfl⟩ := trod_u8 he g0
      obtain ⟨y, rfl⟩ := trod_u8 he g1
      obtain ⟨z, rfl⟩ := trod_u8 he g2
      obtain ⟨u, rfl⟩ := trod_u8 he g3
      exact ⟨x, y, z, u, rfl⟩
end
end Go.Proofs.Ytopemjbakpahfaa
/-
  When the six bytes ahead are those of the frame: plain Lean, no condition.
-/
namespace Go.Proofs.Ytopemjbakpahfaa.Crc
theorem cut_match {b : List UInt8} {n : Nat} (h6 : 6 ≤ b.length) (hn : num (b.take 2) = n) (h1 : n ≤ 4096) (h2 : n ≤ b.length - 6)
    (h : ∀ i, i < 6 → (frame ((b.drop 6).take n)).getD i 0 = b.getD i 0) : cut b = some ((b.drop 6).take n, (b.drop 6).drop n) := by
  have ht : head ((b.drop 6).take n) = b.take 6 := by
    apply List.ext_getElem
    · rw [head_length]; simp; omega
    · intro i hi1 hi2
      rw [head_length] at hi1
      have := h i hi1
      simp only [List.getD, frame] at this
      rw [List.getElem?_append_left (by rw [head_length]; exact hi1), List.getElem?_eq_getElem (by rw [head_length]; exact hi1), List.getElem?_eq_getElem (by omega)] at this
      simpa using this
  have hs : be 4 (sum ((b.drop 6).take n)).toNat = (b.drop 2).take 4 := by
    have h3 : (head ((b.drop 6).take n)).drop 2 = (b.take 6).drop 2 := by rw [ht]
    rw [head, List.drop_append, be_length] at h3
    simp only [Nat.sub_self, List.drop_zero] at h3
    rw [List.drop_eq_nil_of_le (by rw [be_length]; omega), List.nil_append] at h3
    rw [h3, List.drop_take]
  unfold cut
  rw [hn, if_neg (by omega), if_neg (by omega), if_pos]
  rw [← hs, num_be]
  exact (Nat.mod_eq_of_lt (by have := (sum ((b.drop 6).take n)).isLt; omega)).symm
theorem cut_miss {b : List UInt8} {n i : Nat} (hn : num (b.take 2) = n) (hi : i < 6) (h : (frame ((b.drop 6).take n)).getD i 0 ≠ b.getD i 0) : cut b = none := by
  cases hc : cut b with
  | none => rfl
  | some q =>
    exfalso
    obtain ⟨x, r⟩ := q
    have hs := cut_some hc
    have hx : x = (b.drop 6).take n := by
      unfold cut at hc
      split at hc
      · cases hc
      · split at hc
        · cases hc
        · split at hc
          · simp only [Option.some.injEq, Prod.mk.injEq] at hc
            rw [← hc.1, hn]
          · cases hc
    rw [← hx] at h
    apply h
    have hb := hs.2.1
    have hl : (frame x).length = x.length + 6 := frame_length x
    have : b.getD i 0 = (frame x ++ r).getD i 0 := by rw [← hb]
    rw [this]
    simp only [List.getD]
    rw [List.getElem?_append_left (by omega)]
theorem num_two {b : List UInt8} (h : 2 ≤ b.length) : num (b.take 2) = (b.getD 0 0).toNat * 256 + (b.getD 1 0).toNat := by
  match b, h with
  | x :: y :: l, _ => simp [num]; omega
end Go.Proofs.Ytopemjbakpahfaa.Crc
/-
  What a frame with a byte less, or with a byte changed, is: plain Lean, no program. No condition beyond the lengths.
-/
namespace Go.Proofs.Ytopemjbakpahfaa.Crc
theorem frame_take2 (l r : List UInt8) : (frame l ++ r).take 2 = be 2 l.length := by simp [frame, head, List.append_assoc, be_length]
theorem be2_inj {m n : Nat} (hm : m < 65536) (hn : n < 65536) (h : be 2 m = be 2 n) : m = n := by
  have := congrArg num h
  rw [num_be, num_be] at this
  omega
theorem be4_inj {x y : W32} (h : be 4 x.toNat = be 4 y.toNat) : x = y := by
  have := congrArg num h
  rw [num_be, num_be] at this
  apply BitVec.eq_of_toNat_eq
  have := x.isLt
  have := y.isLt
  omega
theorem frame_drop6 (l : List UInt8) : (frame l).drop 6 = l := by rw [frame, List.drop_append, head_length, List.drop_eq_nil_of_le (by rw [head_length]; omega)]; simp
theorem frame_take6 (l : List UInt8) : (frame l).take 6 = head l := by rw [frame, List.take_append, head_length, List.take_of_length_le (by rw [head_length]; omega)]; simp
theorem cut_len {x h r l : List UInt8} (hl : l.length ≤ 4096) (hx : x.take 2 = be 2 l.length) (hc : cut x = some (h, r)) : h.length = l.length := by
  obtain ⟨h1, rfl, _⟩ := cut_some hc
  rw [frame_take2] at hx
  exact be2_inj (by omega) (by omega) hx
theorem cut_less {l : List UInt8} (hl : l.length ≤ 4096) : cut ((frame l).take (l.length + 5)) = none := by
  cases hc : cut ((frame l).take (l.length + 5)) with
  | none => rfl
  | some q =>
    exfalso
    obtain ⟨h, r⟩ := q
    have h2 : ((frame l).take (l.length + 5)).take 2 = be 2 l.length := by
      rw [List.take_take, show min 2 (l.length + 5) = 2 by omega]
      simpa using frame_take2 l []
    have h3 := cut_len hl h2 hc
    have h4 := (cut_some hc).2.2
    rw [List.length_take, frame_length] at h4
    omega
theorem cut_changed {l : List UInt8} (hl : l.length ≤ 4096) {i : Nat} (hi2 : 2 ≤ i) (hi : i < l.length + 6) {y : UInt8} (hy : y ≠ 0) : cut ((frame l).set i ((frame l).getD i 0 ^^^ y)) = none := by
  have hfl := frame_length l
  have hz : ∀ z : UInt8, z = z ^^^ y → y = 0 := by
    intro z h
    have : z ^^^ z = z ^^^ (z ^^^ y) := by rw [← h]
    simpa [← UInt8.xor_assoc] using this.symm
  cases hc : cut ((frame l).set i ((frame l).getD i 0 ^^^ y)) with
  | none => rfl
  | some q =>
    exfalso
    obtain ⟨h, r⟩ := q
    have h2 : ((frame l).set i ((frame l).getD i 0 ^^^ y)).take 2 = be 2 l.length := by
      rw [List.take_set_of_le (by omega)]
      simpa using frame_take2 l []
    have h3 := cut_len hl h2 hc
    obtain ⟨h4, h5, h6⟩ := cut_some hc
    rw [List.length_set, hfl] at h6
    have hr : r = [] := List.eq_nil_of_length_eq_zero (by omega)
    rw [hr, List.append_nil] at h5
    rcases Nat.lt_or_ge i 6 with h7 | h7
    · have h8 := congrArg (List.drop 6) h5
      rw [List.drop_set_of_lt h7, frame_drop6, frame_drop6] at h8
      rw [← h8] at h5
      have h9 := congrArg (fun x => x.getD i 0) h5
      simp only [List.getD, List.getElem?_set_self (show i < (frame l).length by omega), Option.getD_some] at h9
      exact hy (hz _ h9.symm)
    · have h8 := congrArg (List.take 6) h5
      rw [List.take_set_of_le h7, frame_take6, frame_take6] at h8
      have hs : sum l = sum h := by
        have := congrArg (List.drop 2) h8
        unfold head at this
        rw [List.drop_left' (be_length 2 _), List.drop_left' (be_length 2 _)] at this
        exact be4_inj this
      have h9 := congrArg (List.drop 6) h5
      rw [List.drop_set, if_neg (by omega), frame_drop6, frame_drop6] at h9
      have hj : i - 6 < l.length := by omega
      have hg : (frame l).getD i 0 = l[i - 6] := by
        have : (frame l).getD i 0 = ((frame l).drop 6).getD (i - 6) 0 := by simp [List.getD, show 6 + (i - 6) = i by omega]
        rw [this, frame_drop6]
        simp [List.getD, hj]
      rw [hg] at h9
      have e1 : l = l.take (i - 6) ++ [l[i - 6]] ++ l.drop (i - 6 + 1) := by simp
      have e2 : l.set (i - 6) (l[i - 6] ^^^ y) = l.take (i - 6) ++ [l[i - 6] ^^^ y] ++ l.drop (i - 6 + 1) := by
        rw [List.set_eq_take_append_cons_drop, if_pos hj]; simp
      have h10 : sum (l.take (i - 6) ++ [l[i - 6]] ++ l.drop (i - 6 + 1)) = sum (l.take (i - 6) ++ [l[i - 6] ^^^ y] ++ l.drop (i - 6 + 1)) := by
        rw [← e1, ← e2, h9]; exact hs
      have h11 := apart (by simp) (by simp) h10
      simp only [List.cons.injEq, and_true] at h11
      exact hy (hz _ h11)
end Go.Proofs.Ytopemjbakpahfaa.Crc
/-
  CrcFrames: the walk, for all bytes. No condition.
-/
namespace Go.Proofs.Ytopemjbakpahfaa
open Go.RowKit Crc
/-- One byte of a row is stored: how the row reads then. -/
theorem RB.store {w : World} {g : Nat} {l : List UInt8} (h : RB w (some ⟨g, 0, none⟩) l) (i : Nat) (z : UInt8) : RB (w.setCell ⟨g, i, none⟩ (.int .u8 (z.toNat : Int))) (some ⟨g, 0, none⟩) (l.set i z) := by
  intro j hj
  rw [List.length_set] at hj
  obtain ⟨g', off, e, hg, hc⟩ := h j hj
  simp at e
  obtain ⟨rfl, rfl⟩ := e
  refine ⟨g, 0, rfl, by simpa using hg, ?_⟩
  rw [Nat.zero_add] at hc ⊢
  by_cases hij : i = j
  · subst hij
    rw [World.cell?_setCell_same' _ _ _ (by rw [hc]; rfl)]
    simp [byteV, List.getD, hj]
  · rw [World.cell?_setCell_other _ _ _ _ (by simp)]
    rw [hc]
    simp [List.getD, hij]
theorem own_form {w : World} {base n : Nat} {t : TypeId} {v : Value} {xs : List Value} (h : w.ownsRow base t 1 v n xs) (h0 : 0 < n) : ∃ g cap, v = .slice (some ⟨g, 0, none⟩) n cap ∧ n ≤ cap ∧ cap ≤ maxLen ∧ base ≤ g ∧ g < w.heap.size ∧ ∀ o, w.frozen? ⟨g, o, none⟩ = false := by
  rcases h.2 with ⟨_, h1⟩ | ⟨g, cap, cur, rfl, hb, hg, h1, h2, _⟩
  · omega
  · exact ⟨g, cap, rfl, h1, h2, hb, lt_of_block hg, fun o => by simp [World.frozen?, hg]⟩
theorem frame_app_nil (l : List UInt8) : (frame l).take (frame l).length = frame l := List.take_length
set_option maxRecDepth 100000 in
set_option maxHeartbeats 2000000 in
theorem frames_law (b : List UInt8) (a : Option Addr) (cap : Nat) (n : Int) (y : UInt8) (W : World) (hc : b.length ≤ cap) (hm : cap ≤ maxLen) (hn : a = none → cap = 0) (hr : RB W a b) (hw : (Lit.int .i64 n).wf = true) :
    Calls Try.prog 6 #[.slice a b.length cap, .int .i64 n, .int .u8 (y.toNat : Int)] W (Yes W) := by
  have HR := Lib.hid hr
  clear hr
  unfold maxLen at hm
  have hb : (b.length : Int) ≤ 9223372036854775807 := by omega
  go_enter Try.func6, Try.ntmps6
  go_wp2_with fail
  refine (small_any _).mono ?_
  rintro en w1 ⟨rfl, B1⟩
  have R1 := Lib.hid (HR.out.below B1)
  clear HR
  by_cases hl : 1000 < (b.length : Int)
  · go_wp2
    go_ret
    exact ⟨rfl, B1⟩
  have hl4 : b.length ≤ 4096 := by omega
  go_wp2_with fail
  refine (frame_any b a cap _ hl4 hc hn R1.out).mono ?_
  rintro en w2 ⟨v2, rfl, o2, b2⟩
  have B2 := below_on B1 b2
  have hfl := frame_length b
  have hfi : ((frame b).length : Int) = (b.length : Int) + 6 := by omega
  obtain ⟨g2, c2, rfl, hc2, hm2, hg2, hgl, hfr⟩ := own_form o2 (by omega)
  obtain ⟨_, _, e, _, _, r2⟩ := RB.of_owns o2
  cases e
  unfold maxLen at hm2
  have R2 := Lib.hid r2
  have FL := Lib.hid hfl
  clear r2 hfl
  go_wp2_with fail
  refine (Cut_at ((frame b).take (b.length + 5)) _ _ _ _ (by rw [List.length_take, FL.out]; omega) (by rw [List.length_take, FL.out]; omega) (by rw [List.length_take, FL.out]; omega) (R2.out.take _)).mono ?_
  rintro en w3 ⟨b3, ⟨_, rfl⟩ | ⟨h, r, v4, v5, e, _⟩⟩
  rotate_left
  · rw [cut_less hl4] at e; cases e
  have B3 := below_on B2 b3
  have R3 := Lib.hid (R2.out.below b3)
  have hfr3 := below_free hfr b3 hgl
  have hgl3 := Nat.lt_of_lt_of_le hgl b3.size
  clear R2 hfr o2 b3 b2
  by_cases h2 : n < 2
  · go_wp2
    go_ret
    exact ⟨rfl, B3⟩
  by_cases hnL : (b.length : Int) + 6 ≤ n
  · go_wp2
    go_ret
    exact ⟨rfl, B3⟩
  by_cases hy : y = 0
  · subst hy
    have hy0 : ((0 : UInt8).toNat : Int) = 0 := rfl
    go_wp2
    go_ret
    exact ⟨rfl, B3⟩
  have hyn : ((y.toNat : Int) == 0) = false := by
    rw [beq_eq_false_iff_ne]
    intro e
    exact hy (UInt8.toNat_inj.1 (by simpa using e))
  obtain ⟨i, rfl⟩ : ∃ i : Nat, n = (i : Int) := ⟨n.toNat, by omega⟩
  have hi2 : 2 ≤ i := by omega
  have hiL : i < b.length + 6 := by omega
  obtain ⟨g', off', e, hg', hcell⟩ := R3.out i (by rw [FL.out]; omega)
  simp only [Option.some.injEq, Addr.mk.injEq, and_true] at e
  obtain ⟨rfl, rfl⟩ := e
  have CH := Lib.hid (cut_changed hl4 hi2 hiL hy)
  have LZ : Hid (((frame b).set i ((frame b).getD i 0 ^^^ y)).length = b.length + 6) := by show _ = _; rw [List.length_set]; exact FL.out
  have HX := Lib.hid (xor8 ((frame b).getD i 0) y)
  have RS := Lib.hid (R3.out.store i ((frame b).getD i 0 ^^^ y))
  unfold byteV at hcell
  generalize (frame b).getD i 0 = z at hcell CH LZ HX RS
  have hff := hfr3 i
  rw [Nat.zero_add] at hcell
  go_wp2_with fail
  rw [HX.out]
  refine (Cut_at _ _ _ _ _ (by rw [LZ.out]; omega) (by rw [LZ.out]; omega) (by rw [LZ.out]; omega) RS.out).mono ?_
  rintro en w4 ⟨b4, ⟨_, rfl⟩ | ⟨h, r, v4, v5, e, _⟩⟩
  rotate_left
  · rw [CH.out] at e; cases e
  have B4 := below_on (B3.setCell (p := ⟨g2, i, none⟩) (by have := B1.size; simp; omega) (.int .u8 ((z ^^^ y).toNat : Int))) b4
  go_wp2
  go_ret
  exact ⟨rfl, B4⟩
end Go.Proofs.Ytopemjbakpahfaa
/-
  Appending bytes to bytes of the call's own as one step of a region whose order is drawn. No condition but that the lengths are small.
-/
namespace Go.Proofs.Ytopemjbakpahfaa
open Go.RowKit Crc
theorem RB.zero {w : World} {a : Option Addr} {l : List UInt8} (h : l.length = 0) : RB w a l := fun i hi => by omega
theorem step_append_bytes {ops : Array Oper} {o : Oper} {a : Act} {w : World} {K : Act → World → Prop} {Q : Exit → Act → World → Prop} {E : Prop}
    (hg : o.guard = none) (s x : Operand) (hop : o.op = Op.call { callee := Callee.builtin Builtin.append, args := #[s, x], argTypes := #[22, 22] })
    (base : Nat) (v : Value) (l m : List UInt8) (c n' : Nat) (hs : a.eval s = v) (hown : w.ownsRow base 5 1 v l.length (l.map byteV)) (ad : Addr) (hx : a.eval x = .slice (some ad) n' c) (hn' : m.length = n')
    (hr : RB w (some ad) m) (hb : l.length + m.length ≤ 1000000000) (b3 : base ≤ w.heap.size)
    (hK : ∀ v' w', w'.ownsRow base 5 1 v' (l ++ m).length ((l ++ m).map byteV) → w.grownBy w' v.ownBlock → (v'.ownBlock = v.ownBlock ∨ v'.ownBlock = some w.heap.size) → K (a.put o.dst v') w') :
    if Region.wanted o (yielded ops a.tmps) = true then Oper.wp Try.prog o a w K Q else E := by
  subst hn'
  have hw : Region.wanted o (yielded ops a.tmps) = true := by simp [Region.wanted, hg]
  rw [if_pos hw]
  obtain ⟨i0, hi, hz0, hz1, hz2⟩ := info_parts info5
  obtain ⟨v', w', hrun, r1, r2, _, r3⟩ := run_append_own_at (P := Try.prog) w base 22 o.type 5 i0 (.int .u8 0) 1 1 Try.underlying22 hi hz0 hz1 hz2 rfl (by decide) v l.length _ hown ad m.length c (m.map byteV) (by simp) hr.news (oneCell_bytes m) (by unfold maxLen; omega) (by omega) b3
  unfold Oper.wp
  simp [execOp, hop, resolve, invoke, builtin, hs, hx, hrun, Result.andThen]
  exact hK v' w' (by simpa using r1) r2 r3
/-- A row that another row's append leaves alone. -/
theorem owns_apart {A B : World} {base e n s : Nat} {u : Value} {xs : List Value} {row : Option Nat} (h : A.ownsRow base e s u n xs) (hg : A.grownBy B row) (hr : u.ownBlock = none ∨ u.ownBlock ≠ row) : B.ownsRow base e s u n xs := h.kept hg hr
theorem lit_block (g n c : Nat) : (Value.slice (some ⟨g, 0, none⟩) n c).ownBlock = some g := rfl
end Go.Proofs.Ytopemjbakpahfaa
