/-
  Contracts and plain laws, part 5 (texts: TellsL, RAll, RowsK, OpenD, OpenE, OpenG, Dev0, Frm, Dev1). No condition but what each states.
-/
import Derived.Test.YtopemjbakpahfaaSn04
import Derived.Deep.Matrix
import Derived.Deep.Slices
import Derived.Deep.MidRow
import Derived.RangeFuncBox
import Derived.Lib.SmallJoins
/-
  CrcTells: the walk, for all bytes. No condition.
-/
namespace Go.Proofs.Ytopemjbakpahfaa
open Go.RowKit Crc
/-- The value reads as this text, in this world and in all that come of it. -/
def Texts (w : World) (v : Value) (l : List UInt8) : Prop := ∀ w'', Below w.heap.size w w'' → (convert 22 9 v).run Try.prog w'' = .ok (.string ⟨l.toArray⟩) w''
theorem texts_nil (w : World) : Texts w (.slice none 0 0) [] := fun w'' _ => conv_str w'' none 0 [] (fun _ => rfl) (RB.nil _ _)
theorem texts_own {w : World} {base n : Nat} {v : Value} {l : List UInt8} (h : w.ownsRow base 5 1 v n (l.map byteV)) : Texts w v l := fun _ hb => conv_bs (owns_below h hb)
theorem texts_rb {w : World} {a : Option Addr} {cap : Nat} {l : List UInt8} (hn : a = none → l.length = 0) (h : RB w a l) : Texts w (.slice a l.length cap) l := fun _ hb => conv_str _ a cap l hn (h.below hb)
theorem Texts.on {w w1 : World} {v : Value} {l : List UInt8} (h : Texts w v l) (hb : Below w.heap.size w w1) : Texts w1 v l := fun w'' h2 => h w'' (hb.trans (h2.mono hb.size))
theorem Texts.now {w : World} {v : Value} {l : List UInt8} (h : Texts w v l) : (convert 22 9 v).run Try.prog w = .ok (.string ⟨l.toArray⟩) w := h w (Below.refl _ _)
def FrameR (l : List UInt8) (w : World) (en : Ending) (w' : World) : Prop :=
  ∃ v k, en = .returned (.tuple #[v, .int .i64 k]) ∧ Below w.heap.size w w' ∧ (k = if 4096 < l.length then 1 else 0) ∧ Texts w' v (if 4096 < l.length then [] else frame l)
theorem frame_R (l : List UInt8) (a : Option Addr) (cap : Nat) (w : World) (hc : l.length ≤ cap) (hm : (l.length : Int) ≤ 9223372036854775807) (hn : a = none → cap = 0) (hr : RB w a l) : Calls Try.prog 24 #[.slice a l.length cap] w (FrameR l w) := by
  by_cases hl : 4096 < l.length
  · refine (frame_long l a cap w hl hm).mono ?_
    rintro en w' ⟨rfl, rfl⟩
    exact ⟨_, _, rfl, Below.refl _ _, by rw [if_pos hl], by rw [if_pos hl]; exact texts_nil _⟩
  · refine (frame_any l a cap w (by omega) hc hn hr).mono ?_
    rintro en w' ⟨v, rfl, ho, hb⟩
    exact ⟨_, _, rfl, hb, by rw [if_neg hl], by rw [if_neg hl]; exact texts_own ho⟩
theorem rframe_R (l : List UInt8) (a : Option Addr) (cap : Nat) (w : World) (hc : l.length ≤ cap) (hm : (l.length : Int) ≤ 9223372036854775807) (hn : a = none → cap = 0) (hr : RB w a l) : Calls Try.prog 25 #[.slice a l.length cap] w (FrameR l w) := by
  by_cases hl : 4096 < l.length
  · refine (rframe_long l a cap w hl hm).mono ?_
    rintro en w' ⟨rfl, rfl⟩
    exact ⟨_, _, rfl, Below.refl _ _, by rw [if_pos hl], by rw [if_pos hl]; exact texts_nil _⟩
  · refine (rframe_any l a cap w (by omega) hc hn hr).mono ?_
    rintro en w' ⟨v, rfl, ho, hb⟩
    exact ⟨_, _, rfl, hb, by rw [if_neg hl], by rw [if_neg hl]; exact texts_own ho⟩
def CutR (b : List UInt8) (w : World) (en : Ending) (w' : World) : Prop :=
  ∃ v1 v2 k, en = .returned (.tuple #[v1, v2, .int .i64 k]) ∧ Below w.heap.size w w' ∧ (k = if (cut b).isNone then 4 else 0) ∧ Texts w' v1 (((cut b).map Prod.fst).getD []) ∧ Texts w' v2 (((cut b).map Prod.snd).getD [])
theorem cut_R {b : List UInt8} {w : World} {en : Ending} {w' : World} (h : CutNew b w en w') : CutR b w en w' := by
  obtain ⟨hb, ⟨e, rfl⟩ | ⟨h, r, v1, v2, e, rfl, o1, o2⟩⟩ := h
  · exact ⟨_, _, _, rfl, hb, by rw [e]; rfl, by rw [e]; exact texts_nil _, by rw [e]; exact texts_nil _⟩
  · exact ⟨_, _, _, rfl, hb, by rw [e]; rfl, by rw [e]; exact texts_own o1, by rw [e]; exact texts_own o2⟩
set_option maxRecDepth 100000 in
set_option maxHeartbeats 2000000 in
theorem tells_law (b : List UInt8) (a : Option Addr) (cap : Nat) (c : W32) (x : UInt8) (W : World) (hc : b.length ≤ cap) (hm : cap ≤ maxLen) (hn : a = none → cap = 0) (hr : RB W a b) :
    Calls Try.prog 3 #[.slice a b.length cap, .int .u32 (c.toNat : Int), .int .u8 (x.toNat : Int)] W (Yes W) := by
  have HR := Lib.hid hr
  clear hr
  have HM := Lib.hid hm
  unfold maxLen at hm
  have hb : (b.length : Int) ≤ 9223372036854775807 := by omega
  go_enter Try.func3, Try.ntmps3
  go_wp2_with fail
  refine (small_any _).mono ?_
  rintro en w1 ⟨rfl, B1⟩
  have R1 := Lib.hid (HR.out.below B1)
  clear HR
  by_cases hl : 5000 < (b.length : Int)
  · go_wp2
    go_ret
    exact ⟨rfl, B1⟩
  go_wp2_with fail
  refine (frame_R b a cap _ hc hb hn R1.out).mono ?_
  rintro en w2 ⟨v2, k2, rfl, b2, e2, t2⟩
  have B2 := below_on B1 b2
  have R2 := Lib.hid (R1.out.below b2)
  have E2 := Lib.hid e2
  clear e2
  go_wp2_with fail
  refine (rframe_R b a cap _ hc hb hn R2.out).mono ?_
  rintro en w3 ⟨v3, k3, rfl, b3, e3, t3⟩
  obtain rfl : k2 = k3 := by rw [E2.out, e3]
  have B3 := below_on B2 b3
  have R3 := Lib.hid (R2.out.below b3)
  replace t2 := t2.on b3
  clear e3 b2 b3 R1 R2 B1 B2
  go_wp2_with fail
  refine (Cut_any b a cap _ hc (by omega) R3.out).mono ?_
  intro en w4 h4
  obtain ⟨v4, u4, k4, rfl, b4, e4, t4, s4⟩ := cut_R h4
  have B4 := below_on B3 b4
  have R4 := Lib.hid (R3.out.below b4)
  replace t2 := t2.on b4
  replace t3 := t3.on b4
  have E4 := Lib.hid e4
  clear h4 b4 R3 B3 e4
  go_wp2_with fail
  refine (rcut_any b a cap _ hc HM.out (by omega) R4.out).mono ?_
  intro en w5 h5
  obtain ⟨v5, u5, k5, rfl, b5, e5, t5, s5⟩ := cut_R h5
  obtain rfl : k4 = k5 := by rw [E4.out, e5]
  have B5 := below_on B4 b5
  have R5 := Lib.hid (R4.out.below b5)
  have q2 := (t2.on b5).now
  have q3 := (t3.on b5).now
  have q4 := (t4.on b5).now
  have r4 := (s4.on b5).now
  have q5 := t5.now
  have r5 := s5.now
  clear h5 b5 R4 B4 t2 t3 t4 t5 s4 s5 e5
  generalize (if 4096 < b.length then [] else frame b) = f at q2 q3
  generalize ((cut b).map Prod.fst).getD [] = p at q4 q5
  generalize ((cut b).map Prod.snd).getD [] = q at r4 r5
  go_wp2_with fail
  refine (sum_any b a cap _ hb R5.out).mono ?_
  rintro en w6 ⟨rfl, rfl⟩
  go_wp2_with fail
  refine (rsum_any b a cap _ hb R5.out).mono ?_
  rintro en w6 ⟨rfl, rfl⟩
  go_wp2_with (first | (go_at_call 30; refine (next_any _ _ _).mono ?_; rintro e w' ⟨rfl, rfl⟩) | (go_at_call 31; refine (rnext_any _ _ _).mono ?_; rintro e w' ⟨rfl, rfl⟩))
  go_ret
  exact ⟨rfl, B5⟩
end Go.Proofs.Ytopemjbakpahfaa
/-
  The contract of the document's own All: for all bytes.
-/
namespace Go.Proofs.Ytopemjbakpahfaa
open Go.RowKit Crc
theorem rcut_at (b : List UInt8) (a : Option Addr) (len cap : Nat) (w : World) (hl : b.length = len) (hc : b.length ≤ cap) (hm : cap ≤ maxLen) (hb : b.length ≤ 1000000) (hr : RB w a b) : Calls Try.prog 27 #[.slice a len cap] w (CutNew b w) := by
  subst hl; exact rcut_any b a cap w hc hm hb hr
theorem rowsOf_kept {A B : World} {base : Nat} {v : Value} {L : List (List UInt8)} (h : RowsOf A base v L) (hb : Below A.heap.size A B) : RowsOf B base v L := by
  obtain ⟨vs, h1, h2, h3⟩ := h
  exact ⟨vs, owns_below h1 hb, h2, fun i u l e1 e2 => owns_below (h3 i u l e1 e2) hb⟩
theorem rowsOf_base {A : World} {base base' : Nat} {v : Value} {L : List (List UInt8)} (h : RowsOf A base v L) (hb : base' ≤ base) : RowsOf A base' v L := by
  obtain ⟨vs, h1, h2, h3⟩ := h
  exact ⟨vs, ownsRow_base h1 hb, h2, fun i u l e1 e2 => ownsRow_base (h3 i u l e1 e2) hb⟩
theorem rowsOf_nil (W : World) (base : Nat) : RowsOf W base (.slice none 0 0) [] := ⟨[], World.ownsRow_nil _ _ _ _, rfl, fun i u l h => by simp at h⟩
/-- One more row behind the rows. -/
theorem rowsOf_snoc {A w1 : World} {base : Nat} {vo v' u : Value} {L : List (List UInt8)} {vs : List Value} {x : List UInt8} (hrow : A.ownsRow base 22 1 vo vs.length vs) (hrl : vs.length = L.length)
    (hrs : ∀ (i : Nat) (u : Value) (l : List UInt8), vs[i]? = some u → L[i]? = some l → A.ownsRow base 5 1 u l.length (l.map byteV)) (hu : A.ownsRow base 5 1 u x.length (x.map byteV))
    (hown : w1.ownsRow base 22 1 v' (vs.length + 1) (vs ++ [u])) (hgrow : A.grownBy w1 vo.ownBlock) : RowsOf w1 base v' (L ++ [x]) := by
  have ra := rowOf_owns hrow
  have each : ∀ {u : Value} {l : List UInt8}, A.ownsRow base 5 1 u l.length (l.map byteV) → w1.ownsRow base 5 1 u l.length (l.map byteV) := fun h => owns_other h hgrow ra (by decide)
  exact ⟨vs ++ [u], by simpa using hown, by simp [hrl], row_snoc hrl (fun i u l e1 e2 => each (hrs i u l e1 e2)) (each hu) (Nat.le_refl _)⟩
def RAllI (b : List UInt8) (w : World) (ov nv : Value) (wr : World) : Prop :=
  ∃ (k : Nat) (pre : List (List UInt8)), nv = .int .i64 k ∧ k ≤ b.length ∧ all b = (pre ++ (all (b.drop k)).1, k + (all (b.drop k)).2) ∧ RowsOf wr w.heap.size ov pre ∧ Below w.heap.size w wr
set_option maxRecDepth 100000 in
set_option maxHeartbeats 4000000 in
theorem rall_any (b : List UInt8) (a : Option Addr) (cap : Nat) (w : World) (hc : b.length ≤ cap) (hm : cap ≤ maxLen) (hb : b.length ≤ 1000000) (hn : a = none → cap = 0) (hr : RB w a b) : Calls Try.prog 47 #[.slice a b.length cap] w (AllOf b w) := by
  have HR := Lib.hid hr
  have HM := Lib.hid hm
  clear hr
  unfold maxLen at hm
  obtain ⟨i0, hi, hz0, hz1, hz2⟩ := info_parts info22
  go_enter Try.func47, Try.ntmps47
  go_wp2
  go_loopw [4, 5] (fun ov nv wr => RAllI b w ov nv wr) (fun _ nv _ => b.length + 1 - (intOf nv).toNat)
  case atStart => exact ⟨0, [], rfl, Nat.zero_le _, by simp, rowsOf_nil _ _, Below.refl _ _⟩
  case round =>
    obtain ⟨k, pre, rfl, hk, hall, hrows, hbl⟩ := hrel
    have HA := Lib.hid hall
    have HW := Lib.hid hrows
    have HB := Lib.hid hbl
    have hk0 : (0 : Int) ≤ (k : Int) := by omega
    have hkb : (k : Int) ≤ (b.length : Int) := by omega
    have hkc : (k : Int) ≤ (cap : Int) := by omega
    have hpl : pre.length ≤ 1000000 := by
      have h1 := all_len b
      rw [hall] at h1
      simp at h1
      omega
    have hdl : Hid ((b.drop k).length = b.length - k) := by show _ = _; simp
    clear hall hrows hbl
    have hcase : (a = none ∧ cap = 0 ∧ k = 0 ∧ b = []) ∨ (∃ ad, a = some ad ∧ k = 0 ∧ b = []) ∨ ∃ g off, a = some ⟨g, off, none⟩ := by
      rcases Nat.eq_zero_or_pos b.length with h0 | h0
      · have hb0 := List.eq_nil_of_length_eq_zero h0
        cases a with
        | none => exact .inl ⟨rfl, hn rfl, by omega, hb0⟩
        | some ad => exact .inr (.inl ⟨ad, rfl, by omega, hb0⟩)
      · obtain ⟨g, off, e, _⟩ := HR.out 0 h0
        exact .inr (.inr ⟨g, off, e⟩)
    obtain ⟨bk, hbk⟩ : ∃ bk, b.drop k = bk := ⟨_, rfl⟩
    have BK := Lib.hid hbk
    rw [hbk] at hdl HA
    have hrd : Hid (∀ g off, a = some ⟨g, off, none⟩ → RB wr (some ⟨g, off + k, none⟩) bk) := fun g off e => by
      subst e; rw [← BK.out]; exact (HR.out.below HB.out).drop k
    clear hbk
    rcases hcase with ⟨rfl, rfl, rfl, rfl⟩ | ⟨ad, rfl, rfl, rfl⟩ | ⟨g, off, rfl⟩
    all_goals go_wp2_with fail
    all_goals refine (rcut_at bk _ _ _ _ (by have h := hdl.out; (try simp only [List.length_nil] at h); omega) (by have h := hdl.out; (try simp only [List.length_nil] at h); omega) (by have := HM.out; omega) (by have h := hdl.out; (try simp only [List.length_nil] at h); omega) (by first | exact RB.zero (by have h := hdl.out; (try simp only [List.length_nil] at h); omega) | exact hrd.out _ _ rfl)).mono ?_
    all_goals rintro en w1 ⟨b1, ⟨e, rfl⟩ | ⟨h, r, v1, v2, e, rfl, o1, o2⟩⟩
    all_goals have B1 := below_on HB.out b1
    all_goals have RW := Lib.hid (rowsOf_kept HW.out b1)
    all_goals have E := Lib.hid e
    all_goals try have HE := cut_some e
    all_goals clear e b1
    all_goals try (exfalso; have h1 := hdl.out; have h2 := HE.2.2; (try simp only [List.length_nil] at h1); omega)
    all_goals try obtain ⟨ac, capc, rfl, _, _, _⟩ := RB.of_owns o1
    all_goals obtain ⟨vs, hrow, hrl, hrs⟩ := RW.out
    all_goals have hvl : vs.length ≤ 1000000 := by omega
    all_goals go_wp2_with (at_builtin; refine wpList_append_own _ rfl (.tmp 25) (.tmp 27) 56 rfl w.heap.size 22 i0 (.slice none 0 0) 1 24 Try.underlying56 hi hz0 hz1 hz2 rfl (by decide) _ _ _ rfl (hrow.alloc _) ⟨w1.heap.size, 0, none⟩ 1 1 [_] rfl rfl (cell_one_at rfl) (by simp [Value.oneCell']) (by unfold maxLen; omega) (by omega) (Nat.le_trans B1.size (by simp)) ?_; intro v' w3 own' g' _; have B3 := (B1.alloc B1.size _).grown g' (Nat.le_trans B1.size (by simp)) (fun j hj => (hrow.lt j hj).1))
    all_goals try (
      go_ret2
      refine ⟨B1, u4, ?_, ?_⟩
      · rw [HA.out, all_none E.out]; rfl
      · rw [HA.out, all_none E.out]; simpa using RW.out)
    refine ⟨⟨k + 6 + h.length, pre ++ [h], by push_cast; rfl, by have := hdl.out; omega, ?_, rowsOf_snoc (hrow.alloc _) hrl (fun i u l e1 e2 => (hrs i u l e1 e2).alloc _) ((ownsRow_base o1 HB.out.size).alloc _) own' g', B3⟩, by simp only [intOf]; have := hdl.out; omega⟩
    have hr : b.drop (k + 6 + h.length) = r := by
      rw [Nat.add_assoc, ← List.drop_drop, BK.out, HE.2.1]
      exact List.drop_left' (by rw [frame_length]; omega)
    rw [hr, HA.out, all_some E.out]
    simp only [List.append_assoc, List.cons_append, List.nil_append, Prod.mk.injEq, true_and]
    omega
end Go.Proofs.Ytopemjbakpahfaa
/-
  A row of rows of bytes, as it reads; frames together in plain Lean. No condition.
-/
namespace Go.Proofs.Ytopemjbakpahfaa
open Go.RowKit Crc
/-- The slice at a reads as these rows of bytes. -/
def RR (w : World) (a : Option Addr) (L : List (List UInt8)) : Prop :=
  ∀ i, i < L.length → ∃ g off u, a = some ⟨g, off, none⟩ ∧ g < w.heap.size ∧ w.cell? ⟨g, off + i, none⟩ = some u ∧ Bs w u (L.getD i [])
theorem RR.below {w w1 : World} {a : Option Addr} {L : List (List UInt8)} (h : RR w a L) (hb : Below w.heap.size w w1) : RR w1 a L := by
  intro i hi
  obtain ⟨g, off, u, e, hg, hc, hu⟩ := h i hi
  exact ⟨g, off, u, e, Nat.lt_of_lt_of_le hg hb.size, (hb.cell (p := ⟨g, off + i, none⟩) hg).trans hc, hu.below hb⟩
theorem RR.nil (w : World) (a : Option Addr) : RR w a [] := fun i hi => absurd hi (by simp)
theorem RR.take {w : World} {a : Option Addr} {L : List (List UInt8)} (h : RR w a L) (k : Nat) : RR w a (L.take k) := by
  intro i hi
  simp at hi
  obtain ⟨g, off, u, e, hg, hc, hu⟩ := h i (by omega)
  exact ⟨g, off, u, e, hg, hc, by simpa [List.getD, show i < k by omega] using hu⟩
theorem bs_of_owns {w : World} {base n : Nat} {v : Value} {l : List UInt8} (h : w.ownsRow base 5 1 v n (l.map byteV)) : Bs w v l := by
  obtain ⟨a, cap, e, h1, h2, h3⟩ := RB.of_owns h
  exact ⟨a, cap, e, h1, h2, h3⟩
/-- Rows that the call owns read as rows. -/
theorem RR.of_rows {w : World} {base : Nat} {v : Value} {L : List (List UInt8)} (h : RowsOf w base v L) : ∃ a cap, v = .slice a L.length cap ∧ L.length ≤ cap ∧ (a = none → cap = 0) ∧ RR w a L := by
  obtain ⟨vs, h1, h2, h3⟩ := h
  rw [h2] at h1
  rcases h1.2 with ⟨rfl, h0⟩ | ⟨g, cap, cur, rfl, hg, hh, h4, h5, h6, h7⟩
  · exact ⟨none, 0, by rw [h0], by omega, fun _ => rfl, fun i hi => by omega⟩
  · refine ⟨_, _, rfl, h4, fun e => (by cases e), fun i hi => ?_⟩
    have hv : i < vs.length := by omega
    refine ⟨g, 0, vs[i], rfl, lt_of_block hh, ?_, ?_⟩
    · rw [Nat.zero_add, cell_of_row w g i cur 22 (0, 0) hh]
      have : (cur.toList.take (L.length * 1))[i]? = vs[i]? := by rw [h7]
      rw [List.getElem?_take, if_pos (by omega)] at this
      simpa [hv] using this
    · exact bs_of_owns (h3 i vs[i] (L.getD i []) (by simp [hv]) (by simp [List.getD, hi]))
/-- Frames together: what is there, and what is still to come. -/
theorem join_cons (l : List UInt8) (m : List (List UInt8)) : join (l :: m) = if 4096 < l.length then none else (join m).map (frame l ++ ·) := rfl
theorem join_at {L : List (List UInt8)} {k : Nat} (hk : k < L.length) : join (L.drop k) = if 4096 < (L.getD k []).length then none else (join (L.drop (k + 1))).map (frame (L.getD k []) ++ ·) := by
  rw [List.drop_eq_getElem_cons hk, join_cons]
  simp [List.getD, hk]
end Go.Proofs.Ytopemjbakpahfaa
/-
  Opening an argument of a law: rows of bytes. No condition.
-/
namespace Go.Proofs.Ytopemjbakpahfaa
open Go.ChangeShapes Go.WideShapes Go.ChangeAt Go.RowKit Go.Deep
section
variable {H : Type} {enc : TypeId × Value → H} {P : Program} {w : World} {base : Nat} {spare : Nat → Bool} {held : Bool}
theorem choose_list {α : Type} (d : α) (n : Nat) (p : Nat → α → Prop) (h : ∀ i, i < n → ∃ x, p i x) : ∃ L : List α, L.length = n ∧ ∀ i, i < n → p i (L.getD i d) := by
  induction n with
  | zero => exact ⟨[], rfl, fun i hi => by omega⟩
  | succ n ih =>
    obtain ⟨L, h1, h2⟩ := ih (fun i hi => h i (by omega))
    obtain ⟨x, hx⟩ := h n (by omega)
    refine ⟨L ++ [x], by simp [h1], fun i hi => ?_⟩
    rcases Nat.lt_or_ge i n with h3 | h3
    · have := h2 i h3
      simpa [List.getD, List.getElem?_append_left (show i < L.length by omega)] using this
    · obtain rfl : i = n := by omega
      simpa [List.getD, ← h1] using hx
theorem open_rows {r : Reach} {b0 : Nat} {t e q : TypeId} {v : Value} {d : DataW H} {p : List MemPlace} (ht : P.underlying t = some (.slice e)) (he : P.underlying e = some (.slice q)) (hq : P.underlying q = some (.int .u8)) (ce : P.cellsOf e = 1) (cq : P.cellsOf q = 1)
    (hv : Value.okWide P w r b0 t v) (h : DataW.Trod enc P w 0 (fun _ => true) held t v d p) :
    ∃ (L : List (List UInt8)) (a : Option Addr) (cap : Nat), v = .slice a L.length cap ∧ L.length ≤ cap ∧ cap ≤ maxLen ∧ (a = none → cap = 0) ∧ RR w a L ∧ ∀ i, i < L.length → (L.getD i []).length ≤ maxLen := by
  obtain ⟨a0, len0, cap0, rfl⟩ := okWide_slice ht hv
  obtain ⟨fuel, hf⟩ := h
  rcases open_int_rows ht he hq ce cq hf with ⟨hcs, _⟩ | ⟨x, len, cap, A, Le, C, Z, hcs, _, hl, hm, _, hr⟩
  · simp [Value.cells] at hcs
    obtain ⟨rfl, rfl, rfl⟩ := hcs
    exact ⟨[], none, 0, rfl, Nat.le_refl _, Nat.zero_le _, fun _ => rfl, RR.nil _ _, fun i hi => by simp at hi⟩
  · simp [Value.cells] at hcs
    obtain ⟨rfl, rfl, rfl⟩ := hcs
    obtain ⟨L, hLl, hL⟩ := choose_list (α := List UInt8) [] len0 (fun i l => l.length = Le i ∧ Bs w (.slice (A i) (Le i) (C i)) l) (fun i hi => by
      obtain ⟨_, h2, h3, h4, h5, h6, h7⟩ := hr i (by omega)
      cases hA : A i with
      | none =>
        have := h6 hA
        exact ⟨[], by simp; omega, none, _, by rw [show Le i = 0 by omega]; rfl, by simp, fun _ => this, RB.nil _ _⟩
      | some a' =>
        obtain ⟨_, h8⟩ := h7 a' hA
        obtain ⟨l, hl1, hl2⟩ := bytes_of_cells (a := a') h2 h4 (fun c hc => h8 c (by omega)) h5
        exact ⟨l, hl1, some a', C i, by rw [hl1], by omega, fun e => (by cases e), hl2⟩)
    refine ⟨L, some x, cap0, by rw [hLl], by omega, hm, fun e => (by cases e), ?_, fun i hi => ?_⟩
    · intro i hi
      have hc0 := (hr 0 (by omega)).1
      obtain ⟨g, off, spot⟩ := x
      have hspot : spot = none := by simpa [Addr.add] using World.cell?_spot hc0
      subst hspot
      have hc := (hr i (by omega)).1
      have e : (⟨g, off, none⟩ : Addr).add i = ⟨g, off + i, none⟩ := by
        unfold Addr.add; split
        · rename_i h; subst h; rfl
        · rfl
      rw [e] at hc
      exact ⟨g, off, _, rfl, World.block_lt_of_cell? w _ hc0, hc, (hL i (by omega)).2⟩
    · have h1 := hr i (by omega)
      rw [(hL i (by omega)).1]
      omega
end
end Go.Proofs.Ytopemjbakpahfaa
/-
  Opening an argument of a law: rows of three numbers each. No condition.
-/
namespace Go.Proofs.Ytopemjbakpahfaa
open Go.ChangeShapes Go.WideShapes Go.ChangeAt Go.RowKit Go.Deep
/-- Three numbers of the machine. -/
structure Three where
  x : Int
  y : Int
  z : Int
def Three.fits (t : Three) : Prop := (-9223372036854775808 ≤ t.x ∧ t.x ≤ 9223372036854775807) ∧ (-9223372036854775808 ≤ t.y ∧ t.y ≤ 9223372036854775807) ∧ (-9223372036854775808 ≤ t.z ∧ t.z ≤ 9223372036854775807)
def zero3 : Three := ⟨0, 0, 0⟩
/-- The slice at a reads as these rows of three numbers. -/
def R3 (w : World) (a : Option Addr) (l : List Three) : Prop :=
  ∀ i, i < l.length → ∃ g off, a = some ⟨g, off, none⟩ ∧ g < w.heap.size ∧ w.cell? ⟨g, off + i * 3, none⟩ = some (.int .i64 (l.getD i zero3).x) ∧
    w.cell? ⟨g, off + i * 3 + 1, none⟩ = some (.int .i64 (l.getD i zero3).y) ∧ w.cell? ⟨g, off + i * 3 + 2, none⟩ = some (.int .i64 (l.getD i zero3).z)
theorem R3.below {w w1 : World} {a : Option Addr} {l : List Three} (h : R3 w a l) (hb : Below w.heap.size w w1) : R3 w1 a l := by
  intro i hi
  obtain ⟨g, off, e, hg, h0, h1, h2⟩ := h i hi
  exact ⟨g, off, e, Nat.lt_of_lt_of_le hg hb.size, (hb.cell (p := ⟨g, off + i * 3, none⟩) hg).trans h0, (hb.cell (p := ⟨g, off + i * 3 + 1, none⟩) hg).trans h1, (hb.cell (p := ⟨g, off + i * 3 + 2, none⟩) hg).trans h2⟩
theorem wf_i64 {n : Int} (h : (Lit.int .i64 n).wf = true) : -9223372036854775808 ≤ n ∧ n ≤ 9223372036854775807 := by
  simp [Lit.wf, IntKind.min, IntKind.max, IntKind.signed, IntKind.bits] at h
  omega
section
variable {H : Type} {enc : TypeId × Value → H} {P : Program} {w : World} {base : Nat} {spare : Nat → Bool} {held : Bool}
theorem trod_three {n : Nat} {t e : TypeId} {cs : List Value} {y : DataW H × List MemPlace} (ht : P.underlying t = some (.array 3 e)) (he : P.underlying e = some (.int .i64)) (hC : P.cellsOf t = 3) (hE : P.cellsOf e = 1)
    (h : DataW.trod enc P w base spare held n t cs = some y) : ∃ t : Three, cs = [.int .i64 t.x, .int .i64 t.y, .int .i64 t.z] ∧ t.fits := by
  obtain ⟨xs, m, _, _, hlen3, hlen, hg⟩ := DataW.trod_array ht h
  rw [hC] at hlen3
  match cs, hlen3 with
  | [c0, c1, c2], _ =>
    match xs, hlen with
    | [y0, y1, y2], _ =>
      have g0 := hg 0 (by omega)
      have g1 := hg 1 (by omega)
      have g2 := hg 2 (by omega)
      simp [hE] at g0 g1 g2
      obtain ⟨x, e0, _, w0⟩ := DataW.trod_int he g0
      obtain ⟨y, e1, _, w1⟩ := DataW.trod_int he g1
      obtain ⟨z, e2, _, w2⟩ := DataW.trod_int he g2
      simp at e0 e1 e2
      subst e0 e1 e2
      exact ⟨⟨x, y, z⟩, rfl, wf_i64 w0, wf_i64 w1, wf_i64 w2⟩
theorem open_threes {r : Reach} {b0 : Nat} {t e q : TypeId} {v : Value} {d : DataW H} {p : List MemPlace} (ht : P.underlying t = some (.slice e)) (he : P.underlying e = some (.array 3 q)) (hq : P.underlying q = some (.int .i64)) (ce : P.cellsOf e = 3) (cq : P.cellsOf q = 1)
    (hv : Value.okWide P w r b0 t v) (h : DataW.Trod enc P w 0 (fun _ => true) held t v d p) :
    ∃ (l : List Three) (a : Option Addr) (cap : Nat), v = .slice a l.length cap ∧ l.length ≤ cap ∧ cap ≤ maxLen ∧ (a = none → cap = 0) ∧ R3 w a l ∧ ∀ i, i < l.length → (l.getD i zero3).fits := by
  obtain ⟨a0, len0, cap0, rfl⟩ := okWide_slice ht hv
  obtain ⟨fuel, hf⟩ := h
  rcases open_slice ht hf with ⟨hcs, _⟩ | ⟨x, len, cap, m, n, D, Pl, hcs, _, hl, hm, hmm, _, hr⟩
  · simp [Value.cells] at hcs
    obtain ⟨rfl, rfl, rfl⟩ := hcs
    exact ⟨[], none, 0, rfl, Nat.le_refl _, Nat.zero_le _, fun _ => rfl, fun i hi => absurd hi (by simp), fun i hi => by simp at hi⟩
  · simp [Value.cells] at hcs
    obtain ⟨rfl, rfl, rfl⟩ := hcs
    simp only [if_true] at hmm
    obtain ⟨l, hl1, hl2⟩ := choose_list (α := Three) zero3 len0 (fun i t => (w.cell? (x.add (i * 3)) = some (.int .i64 t.x) ∧ w.cell? ((x.add (i * 3)).add 1) = some (.int .i64 t.y) ∧ w.cell? ((x.add (i * 3)).add 2) = some (.int .i64 t.z)) ∧ t.fits) (fun i hi => by
      obtain ⟨cs', h1, h2⟩ := hr i (by omega)
      rw [ce] at h1
      obtain ⟨t, rfl, hfit⟩ := trod_three he hq ce cq h2
      obtain ⟨_, _, hc⟩ := World.cells?_some h1
      refine ⟨t, ⟨?_, hc 1 (by omega), hc 2 (by omega)⟩, hfit⟩
      have := hc 0 (by omega)
      simpa [Addr.add] using this)
    refine ⟨l, some x, cap0, by rw [hl1], by omega, hm, fun e => (by cases e), ?_, fun i hi => (hl2 i (by omega)).2⟩
    intro i hi
    have hc0 := (hl2 0 (by omega)).1.1
    obtain ⟨g, off, spot⟩ := x
    have hspot : spot = none := by simpa [Addr.add] using World.cell?_spot hc0
    subst hspot
    obtain ⟨h0, h1, h2⟩ := (hl2 i (by omega)).1
    rw [Addr.add_lit] at h0 h1 h2
    rw [Addr.add_lit] at h1 h2
    rw [Addr.add_lit] at hc0
    exact ⟨g, off, rfl, World.block_lt_of_cell? w _ hc0, h0, h1, h2⟩
end
end Go.Proofs.Ytopemjbakpahfaa
/-
  Opening an argument of a law: rows of two numbers each. No condition.
-/
namespace Go.Proofs.Ytopemjbakpahfaa
open Go.ChangeShapes Go.WideShapes Go.ChangeAt Go.RowKit Go.Deep
/-- Two numbers of the machine. -/
structure Pair2 where
  x : Int
  y : Int
def Pair2.fits (t : Pair2) : Prop := (-9223372036854775808 ≤ t.x ∧ t.x ≤ 9223372036854775807) ∧ (-9223372036854775808 ≤ t.y ∧ t.y ≤ 9223372036854775807)
def zero2 : Pair2 := ⟨0, 0⟩
/-- The slice at a reads as these rows of two numbers. -/
def R2 (w : World) (a : Option Addr) (l : List Pair2) : Prop :=
  ∀ i, i < l.length → ∃ g off, a = some ⟨g, off, none⟩ ∧ g < w.heap.size ∧ w.cell? ⟨g, off + i * 2, none⟩ = some (.int .i64 (l.getD i zero2).x) ∧
    w.cell? ⟨g, off + i * 2 + 1, none⟩ = some (.int .i64 (l.getD i zero2).y)
theorem R2.below {w w1 : World} {a : Option Addr} {l : List Pair2} {n : Nat} (h : R2 w a l) (hb : Below n w w1) (hn : w.heap.size ≤ n) : R2 w1 a l := by
  intro i hi
  obtain ⟨g, off, e, hg, h0, h1⟩ := h i hi
  have hs := hb.size
  have hc : ∀ o, w1.cell? ⟨g, o, none⟩ = w.cell? ⟨g, o, none⟩ := fun o => World.cell?_of_block (hb.block g (by omega))
  exact ⟨g, off, e, Nat.lt_of_lt_of_le hg hs, (hc _).trans h0, (hc _).trans h1⟩
section
variable {H : Type} {enc : TypeId × Value → H} {P : Program} {w : World} {base : Nat} {spare : Nat → Bool} {held : Bool}
theorem trod_two {n : Nat} {t e : TypeId} {cs : List Value} {y : DataW H × List MemPlace} (ht : P.underlying t = some (.array 2 e)) (he : P.underlying e = some (.int .i64)) (hC : P.cellsOf t = 2) (hE : P.cellsOf e = 1)
    (h : DataW.trod enc P w base spare held n t cs = some y) : ∃ t : Pair2, cs = [.int .i64 t.x, .int .i64 t.y] ∧ t.fits := by
  obtain ⟨xs, m, _, _, hlen3, hlen, hg⟩ := DataW.trod_array ht h
  rw [hC] at hlen3
  match cs, hlen3 with
  | [c0, c1], _ =>
    match xs, hlen with
    | [y0, y1], _ =>
      have g0 := hg 0 (by omega)
      have g1 := hg 1 (by omega)
      simp [hE] at g0 g1
      obtain ⟨x, e0, _, w0⟩ := DataW.trod_int he g0
      obtain ⟨y, e1, _, w1⟩ := DataW.trod_int he g1
      simp at e0 e1
      subst e0 e1
      exact ⟨⟨x, y⟩, rfl, wf_i64 w0, wf_i64 w1⟩
theorem open_twos {r : Reach} {b0 : Nat} {t e q : TypeId} {v : Value} {d : DataW H} {p : List MemPlace} (ht : P.underlying t = some (.slice e)) (he : P.underlying e = some (.array 2 q)) (hq : P.underlying q = some (.int .i64)) (ce : P.cellsOf e = 2) (cq : P.cellsOf q = 1)
    (hv : Value.okWide P w r b0 t v) (h : DataW.Trod enc P w 0 (fun _ => true) held t v d p) :
    ∃ (l : List Pair2) (a : Option Addr) (cap : Nat), v = .slice a l.length cap ∧ l.length ≤ cap ∧ cap ≤ maxLen ∧ (a = none → cap = 0) ∧ R2 w a l ∧ ∀ i, i < l.length → (l.getD i zero2).fits := by
  obtain ⟨a0, len0, cap0, rfl⟩ := okWide_slice ht hv
  obtain ⟨fuel, hf⟩ := h
  rcases open_slice ht hf with ⟨hcs, _⟩ | ⟨x, len, cap, m, n, D, Pl, hcs, _, hl, hm, hmm, _, hr⟩
  · simp [Value.cells] at hcs
    obtain ⟨rfl, rfl, rfl⟩ := hcs
    exact ⟨[], none, 0, rfl, Nat.le_refl _, Nat.zero_le _, fun _ => rfl, fun i hi => absurd hi (by simp), fun i hi => by simp at hi⟩
  · simp [Value.cells] at hcs
    obtain ⟨rfl, rfl, rfl⟩ := hcs
    simp only [if_true] at hmm
    obtain ⟨l, hl1, hl2⟩ := choose_list (α := Pair2) zero2 len0 (fun i t => (w.cell? (x.add (i * 2)) = some (.int .i64 t.x) ∧ w.cell? ((x.add (i * 2)).add 1) = some (.int .i64 t.y)) ∧ t.fits) (fun i hi => by
      obtain ⟨cs', h1, h2⟩ := hr i (by omega)
      rw [ce] at h1
      obtain ⟨t, rfl, hfit⟩ := trod_two he hq ce cq h2
      obtain ⟨_, _, hc⟩ := World.cells?_some h1
      refine ⟨t, ⟨?_, hc 1 (by omega)⟩, hfit⟩
      have := hc 0 (by omega)
      simpa [Addr.add] using this)
    refine ⟨l, some x, cap0, by rw [hl1], by omega, hm, fun e => (by cases e), ?_, fun i hi => (hl2 i (by omega)).2⟩
    intro i hi
    have hc0 := (hl2 0 (by omega)).1.1
    obtain ⟨g, off, spot⟩ := x
    have hspot : spot = none := by simpa [Addr.add] using World.cell?_spot hc0
    subst hspot
    obtain ⟨h0, h1⟩ := (hl2 i (by omega)).1
    rw [Addr.add_lit] at h0 h1
    rw [Addr.add_lit] at h1
    rw [Addr.add_lit] at hc0
    exact ⟨g, off, rfl, World.block_lt_of_cell? w _ hc0, h0, h1⟩
end
end Go.Proofs.Ytopemjbakpahfaa
/-
  A device in plain Lean: sectors, pending writes. No program, no condition.
-/
namespace Go.Proofs.Ytopemjbakpahfaa.Disk
structure Dev where
  kept : List (List UInt8)
  pend : List (Nat × List UInt8)
  down : Bool
  armed : Nat
  writes : Nat
  syncs : Nat
def Dev.ok (d : Dev) : Prop := (∀ k, k < d.kept.length → (d.kept.getD k []).length = 32) ∧ ∀ p ∈ d.pend, p.1 < d.kept.length ∧ p.2.length = 32
/-- As many bytes as a sector has. -/
def pad (b : List UInt8) : List UInt8 := b ++ List.replicate (32 - b.length) 0
def Dev.ask (d : Dev) (k : Int) : Int := if d.down = true then 14 else if k < 0 ∨ (d.kept.length : Int) ≤ k then 1 else 0
/-- One call more: does it stop? -/
def Dev.step (d : Dev) : Dev := { d with down := decide (d.armed = 1), armed := d.armed - 1 }
def Dev.write (d : Dev) (k : Int) (b : List UInt8) : Dev × Int :=
  if d.ask k ≠ 0 then (d, d.ask k) else if 32 < b.length then (d, 1) else if d.armed = 1 then (d.step, 14)
  else ({ d.step with pend := d.pend ++ [(k.toNat, pad b)], writes := d.writes + 1 }, 0)
def put (l : List (List UInt8)) (p : Nat × List UInt8) : List (List UInt8) := l.set p.1 p.2
def Dev.sync (d : Dev) : Dev × Int :=
  if d.down = true then (d, 14) else if d.armed = 1 then (d.step, 14)
  else ({ d.step with kept := d.pend.foldl put d.kept, pend := [], syncs := d.syncs + 1 }, 0)
/-- Those of the pending writes whose number, from i on, is among the given. -/
def sel (keep : List Int) : Nat → List (Nat × List UInt8) → List (Nat × List UInt8)
  | _, [] => []
  | i, p :: l => if (i : Int) ∈ keep then p :: sel keep (i + 1) l else sel keep (i + 1) l
def Dev.restart (d : Dev) (keep : List Int) : Dev × Nat :=
  ({ d with kept := (sel keep 0 d.pend).foldl put d.kept, pend := [], down := false, armed := 0 }, (sel keep 0 d.pend).length)
def over (k : Nat) (s : List UInt8) (p : Nat × List UInt8) : List UInt8 := if p.1 = k then p.2 else s
def Dev.sector (d : Dev) (k : Nat) : List UInt8 := d.pend.foldl (over k) (d.kept.getD k [])
def Dev.read (d : Dev) (k : Int) : List UInt8 × Int := if d.ask k ≠ 0 then ([], d.ask k) else (d.sector k.toNat, 0)
def Dev.new (n : Nat) : Dev := ⟨List.replicate n (List.replicate 32 0), [], false, 0, 0, 0⟩
def Dev.arm (d : Dev) (n : Int) : Dev := { d with armed := n.toNat }
theorem pad_length {b : List UInt8} (h : b.length ≤ 32) : (pad b).length = 32 := by simp [pad]; omega
theorem put_length (l : List (List UInt8)) (p : Nat × List UInt8) : (put l p).length = l.length := by simp [put]
theorem puts_length (ps : List (Nat × List UInt8)) : ∀ l : List (List UInt8), (ps.foldl put l).length = l.length := by
  induction ps with
  | nil => intro l; rfl
  | cons p ps ih => intro l; rw [List.foldl_cons, ih, put_length]
theorem put_get (l : List (List UInt8)) (p : Nat × List UInt8) (k : Nat) : (put l p).getD k [] = if p.1 = k ∧ k < l.length then p.2 else l.getD k [] := by
  unfold put
  simp only [List.getD]
  rw [List.getElem?_set]
  by_cases h : p.1 = k
  · subst h
    by_cases h2 : p.1 < l.length
    · simp [h2]
    · simp [h2]
  · simp [h]
/-- A kept row of sectors is one, and what is put into it, too. -/
def full (l : List (List UInt8)) : Prop := ∀ k, k < l.length → (l.getD k []).length = 32
theorem full_put {l : List (List UInt8)} {p : Nat × List UInt8} (h : full l) (hp : p.2.length = 32) : full (put l p) := by
  intro k hk
  rw [put_length] at hk
  rw [put_get]
  split
  · exact hp
  · exact h k hk
theorem full_puts {ps : List (Nat × List UInt8)} (hp : ∀ p ∈ ps, p.2.length = 32) : ∀ {l : List (List UInt8)}, full l → full (ps.foldl put l) := by
  induction ps with
  | nil => intro l h; exact h
  | cons p ps ih =>
    intro l h
    rw [List.foldl_cons]
    exact ih (fun q hq => hp q (by simp [hq])) (full_put h (hp p (by simp)))
theorem sel_sub (keep : List Int) : ∀ (l : List (Nat × List UInt8)) (i : Nat) (p : Nat × List UInt8), p ∈ sel keep i l → p ∈ l := by
  intro l
  induction l with
  | nil => intro i p h; simp [sel] at h
  | cons q l ih =>
    intro i p h
    unfold sel at h
    split at h
    · rcases List.mem_cons.1 h with h | h
      · subst h; simp
      · exact List.mem_cons_of_mem _ (ih _ _ h)
    · exact List.mem_cons_of_mem _ (ih _ _ h)
theorem new_ok (n : Nat) : (Dev.new n).ok := ⟨fun k hk => by simp [Dev.new] at hk; simp [Dev.new, List.getD, hk], fun p hp => by simp [Dev.new] at hp⟩
theorem step_ok {d : Dev} (h : d.ok) : d.step.ok := h
theorem write_ok {d : Dev} (h : d.ok) (k : Int) (b : List UInt8) : (d.write k b).1.ok := by
  unfold Dev.write
  by_cases h1 : d.ask k = 0
  · rw [if_neg (by simpa using h1)]
    by_cases h2 : 32 < b.length
    · rw [if_pos h2]; exact h
    · rw [if_neg h2]
      by_cases h3 : d.armed = 1
      · rw [if_pos h3]; exact h
      · rw [if_neg h3]
        refine ⟨h.1, fun p hp => ?_⟩
        simp only [List.mem_append, List.mem_singleton] at hp
        rcases hp with hp | rfl
        · exact h.2 p hp
        · refine ⟨?_, pad_length (by omega)⟩
          unfold Dev.ask at h1
          split at h1
          · omega
          · split at h1
            · omega
            · show k.toNat < d.kept.length
              omega
  · rw [if_pos h1]; exact h
theorem sync_ok {d : Dev} (h : d.ok) : d.sync.1.ok := by
  unfold Dev.sync
  by_cases h1 : d.down = true
  · rw [if_pos h1]; exact h
  · rw [if_neg h1]
    by_cases h3 : d.armed = 1
    · rw [if_pos h3]; exact h
    · rw [if_neg h3]
      exact ⟨full_puts (fun p hp => (h.2 p hp).2) h.1, fun p hp => by simp at hp⟩
theorem restart_ok {d : Dev} (h : d.ok) (keep : List Int) : (d.restart keep).1.ok :=
  ⟨full_puts (fun p hp => (h.2 p (sel_sub _ _ _ _ hp)).2) h.1, fun p hp => by simp [Dev.restart] at hp⟩
theorem over_length {ps : List (Nat × List UInt8)} (k : Nat) (hp : ∀ p ∈ ps, p.2.length = 32) : ∀ {s : List UInt8}, s.length = 32 → (ps.foldl (over k) s).length = 32 := by
  induction ps with
  | nil => intro s h; exact h
  | cons p ps ih =>
    intro s h
    rw [List.foldl_cons]
    refine ih (fun q hq => hp q (by simp [hq])) ?_
    unfold over
    split
    · exact hp p (by simp)
    · exact h
theorem sector_length {d : Dev} (h : d.ok) {k : Nat} (hk : k < d.kept.length) : (d.sector k).length = 32 := over_length k (fun p hp => (h.2 p hp).2) (h.1 k hk)
end Go.Proofs.Ytopemjbakpahfaa.Disk
/-
  Frames by a set of blocks: what lies outside the set stays. Stores of many cells. It speaks of no program. No condition.
-/
namespace Go.Proofs.Ytopemjbakpahfaa
open Go.RowKit
/-- Blocks outside F stay; new blocks may come. -/
structure Frm (F : Nat → Prop) (w w' : World) : Prop where
  os : w'.os = w.os
  tape : w'.tape = w.tape
  output : w'.output = w.output
  size : w.heap.size ≤ w'.heap.size
  block : ∀ k, k < w.heap.size → ¬ F k → w'.heap[k]? = w.heap[k]?
/-- The set, and the blocks that came. -/
def Grow (F : Nat → Prop) (w w' : World) (k : Nat) : Prop := F k ∨ (w.heap.size ≤ k ∧ k < w'.heap.size)
theorem Frm.refl (F : Nat → Prop) (w : World) : Frm F w w := ⟨rfl, rfl, rfl, Nat.le_refl _, fun _ _ _ => rfl⟩
theorem Frm.trans {F G : Nat → Prop} {a b c : World} (h : Frm F a b) (k : Frm G b c) (hG : ∀ k, G k → F k ∨ a.heap.size ≤ k) : Frm F a c :=
  ⟨k.os.trans h.os, k.tape.trans h.tape, k.output.trans h.output, Nat.le_trans h.size k.size, fun i hi hF => (k.block i (Nat.lt_of_lt_of_le hi h.size) (fun hg => by have := hG i hg; rcases this with h1 | h1; exact hF h1; omega)).trans (h.block i hi hF)⟩
theorem Frm.of_below {F : Nat → Prop} {w w' : World} (h : Below w.heap.size w w') : Frm F w w' := ⟨h.os, h.tape, h.output, h.size, fun k hk _ => h.block k hk⟩
theorem Frm.below {F : Nat → Prop} {w w' : World} {n : Nat} (h : Frm F w w') (hF : ∀ k, F k → n ≤ k) (hn : n ≤ w.heap.size) : Below n w w' :=
  ⟨h.os, h.tape, h.output, h.size, fun k hk => h.block k (by omega) (fun hf => by have := hF k hf; omega)⟩
theorem Frm.grown {F : Nat → Prop} {w w' : World} {row : Option Nat} (h : w.grownBy w' row) (hr : ∀ k, row = some k → F k) : Frm F w w' := ⟨h.os, h.tape, h.output, h.size, fun k hk hF => h.block k hk (fun e => hF (hr k e.symm))⟩
theorem Frm.setCell {F : Nat → Prop} (w : World) {b : Nat} (o : Nat) (v : Value) (hb : F b) : Frm F w (w.setCell ⟨b, o, none⟩ v) :=
  ⟨rfl, rfl, rfl, by simp, fun k _ hk => Below.heap_setCell _ _ _ _ (fun e => hk (by rw [e]; exact hb))⟩
theorem frm_setCells {F : Nat → Prop} {b : Nat} (hb : F b) : ∀ (vs : List Value) (o : Nat) (w : World), Frm F w (w.setCells b o vs) := by
  intro vs
  induction vs with
  | nil => intro o w; exact Frm.refl _ _
  | cons v vs ih =>
    intro o w
    rw [World.setCells]
    exact (Frm.setCell w o v hb).trans (ih _ _) (fun k hk => .inl hk)
theorem size_setCells (b : Nat) : ∀ (vs : List Value) (o : Nat) (w : World), (w.setCells b o vs).heap.size = w.heap.size := by
  intro vs
  induction vs with
  | nil => intro o w; rfl
  | cons v vs ih => intro o w; rw [World.setCells, ih]; simp
theorem heap_setCells {b k : Nat} (h : k ≠ b) : ∀ (vs : List Value) (o : Nat) (w : World), (w.setCells b o vs).heap[k]? = w.heap[k]? := by
  intro vs
  induction vs with
  | nil => intro o w; rfl
  | cons v vs ih => intro o w; rw [World.setCells, ih, Below.heap_setCell _ _ _ _ h]
/-- A block of cells stays one of its type. -/
def Typed (w : World) (b : Nat) (t : TypeId) : Prop := ∃ C : Array Value, w.heap[b]? = some (.cells C t (0, 0))
theorem typed_setCells {b : Nat} {t : TypeId} : ∀ (vs : List Value) (o : Nat) (w : World), Typed w b t → Typed (w.setCells b o vs) b t := by
  intro vs
  induction vs with
  | nil => intro o w h; exact h
  | cons v vs ih =>
    intro o w ⟨C, h⟩
    rw [World.setCells]
    exact ih _ _ ⟨_, Joins.block_setCell h v⟩
theorem range_block {A B : World} {b o : Nat} {cs : List Value} (h : A.rangeAt b o cs) (e : B.heap[b]? = A.heap[b]?) : B.rangeAt b o cs := fun j v hv => (World.cell?_of_block e).trans (h j v hv)
theorem there_block {A B : World} {b o n : Nat} (h : A.there b o n) (e : B.heap[b]? = A.heap[b]?) : B.there b o n := fun j hj => by
  obtain ⟨h1, h2⟩ := h j hj
  exact ⟨by rw [World.cell?_of_block e]; exact h1, (World.frozen?_of_block e).trans h2⟩
theorem owns_block {A B : World} {base n s : Nat} {t : TypeId} {v : Value} {xs : List Value} (h : A.ownsRow base t s v n xs) (e : ∀ k, v.ownBlock = some k → B.heap[k]? = A.heap[k]?) : B.ownsRow base t s v n xs :=
  ⟨h.1, h.2.imp_right fun ⟨g, cap, cur, hv, hb, hh, r⟩ => ⟨g, cap, cur, hv, hb, (e g (by rw [hv]; rfl)).trans hh, r⟩⟩
end Go.Proofs.Ytopemjbakpahfaa
/-
  A device in memory; the contracts of what only asks it. No condition but that its numbers are small.
-/
namespace Go.Proofs.Ytopemjbakpahfaa
open Go.RowKit Disk
/-- A pending write's cells. -/
def pcells (p : Nat × List UInt8) : List Value := Value.int .i64 (p.1 : Int) :: p.2.map byteV
structure Kept (F : Nat → Prop) (w : World) (K : Nat) (l : List (List UInt8)) : Prop where
  typ : Typed w K 110
  rng : ∀ k, k < l.length → w.rangeAt K (32 * k) ((l.getD k []).map byteV)
  thr : w.there K 0 (32 * l.length)
  f : F K
structure Pend (F : Nat → Prop) (w : World) (vp : Value) (ps : List (Nat × List UInt8)) : Prop where
  own : w.ownsRow 0 112 33 vp ps.length (ps.flatMap pcells)
  f : ∀ k, vp.ownBlock = some k → F k
def dcells (d : Dev) (K : Nat) (vp : Value) : Array Value := #[.slice (some ⟨K, 0, none⟩) d.kept.length d.kept.length, vp, .bool d.down, .int .i64 (d.armed : Int), .int .i64 (d.writes : Int), .int .i64 (d.syncs : Int)]
structure IsDev (F : Nat → Prop) (w : World) (B : Nat) (d : Dev) : Prop where
  ex : ∃ (K : Nat) (vp : Value), w.heap[B]? = some (.cells (dcells d K vp) 107 (0, 0)) ∧ Kept F w K d.kept ∧ Pend F w vp d.pend
  ok : d.ok
  f : F B
  arm : d.armed ≤ 9223372036854775807
  lt : ∀ k, F k → k < w.heap.size
/-- The device's numbers are small. -/
structure Dev.small (d : Dev) (N : Nat) : Prop where
  kept : d.kept.length ≤ 1024
  pend : d.pend.length ≤ N
  writes : d.writes ≤ N
  syncs : d.syncs ≤ N
theorem Typed.same {A B : World} {b : Nat} {t : TypeId} (h : Typed A b t) (e : B.heap[b]? = A.heap[b]?) : Typed B b t := by
  obtain ⟨C, hC⟩ := h; exact ⟨C, e.trans hC⟩
theorem Typed.lt {A : World} {b : Nat} {t : TypeId} (h : Typed A b t) : b < A.heap.size := by
  obtain ⟨C, hC⟩ := h; exact (Array.getElem?_eq_some_iff.1 hC).1
theorem Kept.same {F G : Nat → Prop} {A B : World} {K : Nat} {l : List (List UInt8)} (h : Kept F A K l) (e : B.heap[K]? = A.heap[K]?) (hG : G K) : Kept G B K l :=
  ⟨h.typ.same e, fun k hk => range_block (h.rng k hk) e, there_block h.thr e, hG⟩
theorem Pend.same {F G : Nat → Prop} {A B : World} {vp : Value} {ps : List (Nat × List UInt8)} (h : Pend F A vp ps) (e : ∀ k, vp.ownBlock = some k → B.heap[k]? = A.heap[k]?) (hG : ∀ k, F k → G k) : Pend G B vp ps :=
  ⟨owns_block h.own e, fun k hk => hG k (h.f k hk)⟩
/-- The device is there still, where nothing of it was changed. -/
theorem IsDev.frm {F G : Nat → Prop} {A B : World} {b : Nat} {d : Dev} (h : IsDev F A b d) (hf : Frm G A B) (hd : ∀ k, F k → ¬ G k) : IsDev F B b d := by
  obtain ⟨⟨K, vp, h1, h2, h3⟩, h4, h5, h6, h7⟩ := h
  refine ⟨⟨K, vp, ?_, h2.same (hf.block K h2.typ.lt (hd K h2.f)) h2.f, h3.same (fun k hk => hf.block k (h3.own.lt k hk).2 (hd k (h3.f k hk))) (fun _ h => h)⟩, h4, h5, h6, fun k hk => Nat.lt_of_lt_of_le (h7 k hk) hf.size⟩
  exact (hf.block b (Array.getElem?_eq_some_iff.1 h1).1 (hd b h5)).trans h1
theorem IsDev.below {F : Nat → Prop} {A B : World} {b : Nat} {d : Dev} (h : IsDev F A b d) (hb : Below A.heap.size A B) : IsDev F B b d :=
  h.frm (G := fun _ => False) (Frm.of_below hb) (fun _ _ h => h)
theorem IsDev.mono {F G : Nat → Prop} {w : World} {B : Nat} {d : Dev} (h : IsDev F w B d) (hG : ∀ k, F k → G k) (hl : ∀ k, G k → k < w.heap.size) : IsDev G w B d := by
  obtain ⟨⟨K, vp, h1, h2, h3⟩, h4, h5, h6, _⟩ := h
  exact ⟨⟨K, vp, h1, h2.same rfl (hG K h2.f), h3.same (fun _ _ => rfl) hG⟩, h4, hG B h5, h6, hl⟩
/-- The device, and the blocks that came. -/
theorem IsDev.grow {F : Nat → Prop} {w w' : World} {B : Nat} {d : Dev} (h : IsDev F w' B d) (hF : ∀ k, F k → k < w.heap.size) (hs : w.heap.size ≤ w'.heap.size) : IsDev (Grow F w w') w' B d :=
  h.mono (fun _ hk => .inl hk) (fun k hk => hk.elim (fun h1 => by have := hF k h1; omega) (fun h1 => h1.2))
theorem down_any {F : Nat → Prop} {w : World} {B : Nat} {d : Dev} (h : IsDev F w B d) : Calls Try.prog 42 #[.pointer (some ⟨B, 0, none⟩)] w fun en w' => en = .returned (.bool d.down) ∧ w = w' := by
  obtain ⟨⟨K, vp, hb, _, _⟩, _, _, _, _⟩ := h
  have c2 : w.cell? ⟨B, 2, none⟩ = some (.bool d.down) := Joins.cell_of_block hb 2
  go_enter Try.func42, Try.ntmps42
  go_wp2
  go_ret
  exact ⟨rfl, rfl⟩
theorem sectors_any {F : Nat → Prop} {w : World} {B : Nat} {d : Dev} (h : IsDev F w B d) : Calls Try.prog 43 #[.pointer (some ⟨B, 0, none⟩)] w fun en w' => en = .returned (.int .i64 (d.kept.length : Int)) ∧ w = w' := by
  obtain ⟨⟨K, vp, hb, _, _⟩, _, _, _, _⟩ := h
  have c0 : w.cell? ⟨B, 0, none⟩ = some (.slice (some ⟨K, 0, none⟩) d.kept.length d.kept.length) := Joins.cell_of_block hb 0
  go_enter Try.func43, Try.ntmps43
  go_wp2
  go_ret
  exact ⟨rfl, rfl⟩
theorem pend_form {F : Nat → Prop} {w : World} {vp : Value} {ps : List (Nat × List UInt8)} (h : Pend F w vp ps) : ∃ a c, vp = .slice a ps.length c := by
  rcases h.own.2 with ⟨rfl, h0⟩ | ⟨g, cap, cur, rfl, _⟩
  · exact ⟨none, 0, by rw [h0]⟩
  · exact ⟨_, _, rfl⟩
theorem pending_any {F : Nat → Prop} {w : World} {B : Nat} {d : Dev} (h : IsDev F w B d) : Calls Try.prog 36 #[.pointer (some ⟨B, 0, none⟩)] w fun en w' => en = .returned (.int .i64 (d.pend.length : Int)) ∧ w = w' := by
  obtain ⟨⟨K, vp, hb, _, hp⟩, _, _, _, _⟩ := h
  obtain ⟨a, c, rfl⟩ := pend_form hp
  have c1 : w.cell? ⟨B, 1, none⟩ = some (.slice a d.pend.length c) := Joins.cell_of_block hb 1
  go_enter Try.func36, Try.ntmps36
  go_wp2
  go_ret
  exact ⟨rfl, rfl⟩
theorem stats_any {F : Nat → Prop} {w : World} {B : Nat} {d : Dev} (h : IsDev F w B d) : Calls Try.prog 39 #[.pointer (some ⟨B, 0, none⟩)] w fun en w' => en = .returned (.tuple #[.int .i64 (d.writes : Int), .int .i64 (d.syncs : Int)]) ∧ Below w.heap.size w w' := by
  obtain ⟨⟨K, vp, hb, _, _⟩, _, _, _, _⟩ := h
  have c4 : w.cell? ⟨B, 4, none⟩ = some (.int .i64 (d.writes : Int)) := Joins.cell_of_block hb 4
  have c5 : w.cell? ⟨B, 5, none⟩ = some (.int .i64 (d.syncs : Int)) := Joins.cell_of_block hb 5
  go_enter Try.func39, Try.ntmps39
  go_wp2
  go_quiet (fail)
  go_wp2
  go_ret2
  exact ⟨rfl, below_drewN (Below.refl _ _) _⟩
theorem ask_any {F : Nat → Prop} {w : World} {B : Nat} {d : Dev} (h : IsDev F w B d) (k : Int) : Calls Try.prog 86 #[.pointer (some ⟨B, 0, none⟩), .int .i64 k] w fun en w' => en = .returned (.int .i64 (d.ask k)) ∧ w = w' := by
  obtain ⟨⟨K, vp, hb, _, _⟩, _, _, _, _⟩ := h
  have c0 : w.cell? ⟨B, 0, none⟩ = some (.slice (some ⟨K, 0, none⟩) d.kept.length d.kept.length) := Joins.cell_of_block hb 0
  have c2 : w.cell? ⟨B, 2, none⟩ = some (.bool d.down) := Joins.cell_of_block hb 2
  have hA : Hid (d.ask k = if d.down = true then 14 else if k < 0 ∨ (d.kept.length : Int) ≤ k then 1 else 0) := rfl
  generalize d.ask k = r at hA
  go_enter Try.func86, Try.ntmps86
  cases hd : d.down
  · rw [hd] at c2
    by_cases h1 : k < 0
    · go_wp2
      go_ret
      exact ⟨ret_int (by rw [hA.out, hd, if_neg (by simp), if_pos (.inl h1)]), rfl⟩
    · by_cases h2 : (d.kept.length : Int) ≤ k
      · go_wp2
        go_ret
        exact ⟨ret_int (by rw [hA.out, hd, if_neg (by simp), if_pos (.inr h2)]), rfl⟩
      · go_wp2
        go_ret
        exact ⟨ret_int (by rw [hA.out, hd, if_neg (by simp), if_neg (by omega)]), rfl⟩
  · rw [hd] at c2
    go_wp2
    go_ret
    exact ⟨ret_int (by rw [hA.out, hd, if_pos rfl]), rfl⟩
end Go.Proofs.Ytopemjbakpahfaa
