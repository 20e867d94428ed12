/-
  Contracts and plain laws, part 10 (texts: TellsL, RAll, RowsK, OpenD, OpenE, AppZ, DPlain, JPlain). No condition but what each states.
-/
import Derived.Test.YtopemjbakpahfaaJn09
import Derived.Deep.Matrix
import Derived.Deep.Slices
import Derived.Lib.AppendZerosOnto
/-
  CrcTells: the walk, for all bytes. No condition.
-/
namespace Go.Proofs.Ytopemjbakpahfaa
open Go.RowKit Crc
/-- The value reads as this text, in this world and in all that come of it. -/
def Texts (w : World) (v : Value) (l : List UInt8) : Prop := ∀ w'', Below w.heap.size w w'' → (convert 22 9 v).run Try.prog w'' = .ok (.string ⟨l.toArray⟩) w''
theorem texts_nil (w : World) : Texts w (.slice none 0 0) [] := fun w'' _ => conv_str w'' none 0 [] (fun _ => rfl) (RB.nil _ _)
theorem texts_own {w : World} {base n : Nat} {v : Value} {l : List UInt8} (h : w.ownsRow base 5 1 v n (l.map byteV)) : Texts w v l := fun _ hb => conv_bs (owns_below h hb)
theorem texts_rb {w : World} {a : Option Addr} {cap : Nat} {l : List UInt8} (hn : a = none → l.length = 0) (h : RB w a l) : Texts w (.slice a l.length cap) l := fun _ hb => conv_str _ a cap l hn (h.below hb)
theorem Texts.on {w w1 : World} {v : Value} {l : List UInt8} (h : Texts w v l) (hb : Below w.heap.size w w1) : Texts w1 v l := fun w'' h2 => h w'' (hb.trans (h2.mono hb.size))
theorem Texts.now {w : World} {v : Value} {l : List UInt8} (h : Texts w v l) : (convert 22 9 v).run Try.prog w = .ok (.string ⟨l.toArray⟩) w := h w (Below.refl _ _)
def FrameR (l : List UInt8) (w : World) (en : Ending) (w' : World) : Prop :=
  ∃ v k, en = .returned (.tuple #[v, .int .i64 k]) ∧ Below w.heap.size w w' ∧ (k = if 4096 < l.length then 1 else 0) ∧ Texts w' v (if 4096 < l.length then [] else frame l)
theorem frame_R (l : List UInt8) (a : Option Addr) (cap : Nat) (w : World) (hc : l.length ≤ cap) (hm : (l.length : Int) ≤ 9223372036854775807) (hn : a = none → cap = 0) (hr : RB w a l) : Calls Try.prog 24 #[.slice a l.length cap] w (FrameR l w) := by
  by_cases hl : 4096 < l.length
  · refine (frame_long l a cap w hl hm).mono ?_
    rintro en w' ⟨rfl, rfl⟩
    exact ⟨_, _, rfl, Below.refl _ _, by rw [if_pos hl], by rw [if_pos hl]; exact texts_nil _⟩
  · refine (frame_any l a cap w (by omega) hc hn hr).mono ?_
    rintro en w' ⟨v, rfl, ho, hb⟩
    exact ⟨_, _, rfl, hb, by rw [if_neg hl], by rw [if_neg hl]; exact texts_own ho⟩
theorem rframe_R (l : List UInt8) (a : Option Addr) (cap : Nat) (w : World) (hc : l.length ≤ cap) (hm : (l.length : Int) ≤ 9223372036854775807) (hn : a = none → cap = 0) (hr : RB w a l) : Calls Try.prog 25 #[.slice a l.length cap] w (FrameR l w) := by
  by_cases hl : 4096 < l.length
  · refine (rframe_long l a cap w hl hm).mono ?_
    rintro en w' ⟨rfl, rfl⟩
    exact ⟨_, _, rfl, Below.refl _ _, by rw [if_pos hl], by rw [if_pos hl]; exact texts_nil _⟩
  · refine (rframe_any l a cap w (by omega) hc hn hr).mono ?_
    rintro en w' ⟨v, rfl, ho, hb⟩
    exact ⟨_, _, rfl, hb, by rw [if_neg hl], by rw [if_neg hl]; exact texts_own ho⟩
def CutR (b : List UInt8) (w : World) (en : Ending) (w' : World) : Prop :=
  ∃ v1 v2 k, en = .returned (.tuple #[v1, v2, .int .i64 k]) ∧ Below w.heap.size w w' ∧ (k = if (cut b).isNone then 4 else 0) ∧ Texts w' v1 (((cut b).map Prod.fst).getD []) ∧ Texts w' v2 (((cut b).map Prod.snd).getD [])
theorem cut_R {b : List UInt8} {w : World} {en : Ending} {w' : World} (h : CutNew b w en w') : CutR b w en w' := by
  obtain ⟨hb, ⟨e, rfl⟩ | ⟨h, r, v1, v2, e, rfl, o1, o2⟩⟩ := h
  · exact ⟨_, _, _, rfl, hb, by rw [e]; rfl, by rw [e]; exact texts_nil _, by rw [e]; exact texts_nil _⟩
  · exact ⟨_, _, _, rfl, hb, by rw [e]; rfl, by rw [e]; exact texts_own o1, by rw [e]; exact texts_own o2⟩
set_option maxRecDepth 100000 in
set_option maxHeartbeats 2000000 in
theorem tells_law (b : List UInt8) (a : Option Addr) (cap : Nat) (c : W32) (x : UInt8) (W : World) (hc : b.length ≤ cap) (hm : cap ≤ maxLen) (hn : a = none → cap = 0) (hr : RB W a b) :
    Calls Try.prog 3 #[.slice a b.length cap, .int .u32 (c.toNat : Int), .int .u8 (x.toNat : Int)] W (Yes W) := by
  have HR := Lib.hid hr
  clear hr
  have HM := Lib.hid hm
  unfold maxLen at hm
  have hb : (b.length : Int) ≤ 9223372036854775807 := by omega
  go_enter Try.func3, Try.ntmps3
  go_wp2_with fail
  refine (small_any _).mono ?_
  rintro en w1 ⟨rfl, B1⟩
  have R1 := Lib.hid (HR.out.below B1)
  clear HR
  by_cases hl : 5000 < (b.length : Int)
  · go_wp2
    go_ret
    exact ⟨rfl, B1⟩
  go_wp2_with fail
  refine (frame_R b a cap _ hc hb hn R1.out).mono ?_
  rintro en w2 ⟨v2, k2, rfl, b2, e2, t2⟩
  have B2 := below_on B1 b2
  have R2 := Lib.hid (R1.out.below b2)
  have E2 := Lib.hid e2
  clear e2
  go_wp2_with fail
  refine (rframe_R b a cap _ hc hb hn R2.out).mono ?_
  rintro en w3 ⟨v3, k3, rfl, b3, e3, t3⟩
  obtain rfl : k2 = k3 := by rw [E2.out, e3]
  have B3 := below_on B2 b3
  have R3 := Lib.hid (R2.out.below b3)
  replace t2 := t2.on b3
  clear e3 b2 b3 R1 R2 B1 B2
  go_wp2_with fail
  refine (Cut_any b a cap _ hc (by omega) R3.out).mono ?_
  intro en w4 h4
  obtain ⟨v4, u4, k4, rfl, b4, e4, t4, s4⟩ := cut_R h4
  have B4 := below_on B3 b4
  have R4 := Lib.hid (R3.out.below b4)
  replace t2 := t2.on b4
  replace t3 := t3.on b4
  have E4 := Lib.hid e4
  clear h4 b4 R3 B3 e4
  go_wp2_with fail
  refine (rcut_any b a cap _ hc HM.out (by omega) R4.out).mono ?_
  intro en w5 h5
  obtain ⟨v5, u5, k5, rfl, b5, e5, t5, s5⟩ := cut_R h5
  obtain rfl : k4 = k5 := by rw [E4.out, e5]
  have B5 := below_on B4 b5
  have R5 := Lib.hid (R4.out.below b5)
  have q2 := (t2.on b5).now
  have q3 := (t3.on b5).now
  have q4 := (t4.on b5).now
  have r4 := (s4.on b5).now
  have q5 := t5.now
  have r5 := s5.now
  clear h5 b5 R4 B4 t2 t3 t4 t5 s4 s5 e5
  generalize (if 4096 < b.length then [] else frame b) = f at q2 q3
  generalize ((cut b).map Prod.fst).getD [] = p at q4 q5
  generalize ((cut b).map Prod.snd).getD [] = q at r4 r5
  go_wp2_with fail
  refine (sum_any b a cap _ hb R5.out).mono ?_
  rintro en w6 ⟨rfl, rfl⟩
  go_wp2_with fail
  refine (rsum_any b a cap _ hb R5.out).mono ?_
  rintro en w6 ⟨rfl, rfl⟩
  go_wp2_with (first | (go_at_call 30; refine (next_any _ _ _).mono ?_; rintro e w' ⟨rfl, rfl⟩) | (go_at_call 31; refine (rnext_any _ _ _).mono ?_; rintro e w' ⟨rfl, rfl⟩))
  go_ret
  exact ⟨rfl, B5⟩
end Go.Proofs.Ytopemjbakpahfaa
/-
  The contract of the document's own All: for all bytes.
-/
namespace Go.Proofs.Ytopemjbakpahfaa
open Go.RowKit Crc
theorem rcut_at (b : List UInt8) (a : Option Addr) (len cap : Nat) (w : World) (hl : b.length = len) (hc : b.length ≤ cap) (hm : cap ≤ maxLen) (hb : b.length ≤ 1000000) (hr : RB w a b) : Calls Try.prog 27 #[.slice a len cap] w (CutNew b w) := by
  subst hl; exact rcut_any b a cap w hc hm hb hr
theorem rowsOf_kept {A B : World} {base : Nat} {v : Value} {L : List (List UInt8)} (h : RowsOf A base v L) (hb : Below A.heap.size A B) : RowsOf B base v L := by
  obtain ⟨vs, h1, h2, h3⟩ := h
  exact ⟨vs, owns_below h1 hb, h2, fun i u l e1 e2 => owns_below (h3 i u l e1 e2) hb⟩
theorem rowsOf_base {A : World} {base base' : Nat} {v : Value} {L : List (List UInt8)} (h : RowsOf A base v L) (hb : base' ≤ base) : RowsOf A base' v L := by
  obtain ⟨vs, h1, h2, h3⟩ := h
  exact ⟨vs, ownsRow_base h1 hb, h2, fun i u l e1 e2 => ownsRow_base (h3 i u l e1 e2) hb⟩
theorem rowsOf_nil (W : World) (base : Nat) : RowsOf W base (.slice none 0 0) [] := ⟨[], World.ownsRow_nil _ _ _ _, rfl, fun i u l h => by simp at h⟩
/-- One more row behind the rows. -/
theorem rowsOf_snoc {A w1 : World} {base : Nat} {vo v' u : Value} {L : List (List UInt8)} {vs : List Value} {x : List UInt8} (hrow : A.ownsRow base 22 1 vo vs.length vs) (hrl : vs.length = L.length)
    (hrs : ∀ (i : Nat) (u : Value) (l : List UInt8), vs[i]? = some u → L[i]? = some l → A.ownsRow base 5 1 u l.length (l.map byteV)) (hu : A.ownsRow base 5 1 u x.length (x.map byteV))
    (hown : w1.ownsRow base 22 1 v' (vs.length + 1) (vs ++ [u])) (hgrow : A.grownBy w1 vo.ownBlock) : RowsOf w1 base v' (L ++ [x]) := by
  have ra := rowOf_owns hrow
  have each : ∀ {u : Value} {l : List UInt8}, A.ownsRow base 5 1 u l.length (l.map byteV) → w1.ownsRow base 5 1 u l.length (l.map byteV) := fun h => owns_other h hgrow ra (by decide)
  exact ⟨vs ++ [u], by simpa using hown, by simp [hrl], row_snoc hrl (fun i u l e1 e2 => each (hrs i u l e1 e2)) (each hu) (Nat.le_refl _)⟩
def RAllI (b : List UInt8) (w : World) (ov nv : Value) (wr : World) : Prop :=
  ∃ (k : Nat) (pre : List (List UInt8)), nv = .int .i64 k ∧ k ≤ b.length ∧ all b = (pre ++ (all (b.drop k)).1, k + (all (b.drop k)).2) ∧ RowsOf wr w.heap.size ov pre ∧ Below w.heap.size w wr
set_option maxRecDepth 100000 in
set_option maxHeartbeats 4000000 in
theorem rall_any (b : List UInt8) (a : Option Addr) (cap : Nat) (w : World) (hc : b.length ≤ cap) (hm : cap ≤ maxLen) (hb : b.length ≤ 1000000) (hn : a = none → cap = 0) (hr : RB w a b) : Calls Try.prog 47 #[.slice a b.length cap] w (AllOf b w) := by
  have HR := Lib.hid hr
  have HM := Lib.hid hm
  clear hr
  unfold maxLen at hm
  obtain ⟨i0, hi, hz0, hz1, hz2⟩ := info_parts info22
  go_enter Try.func47, Try.ntmps47
  go_wp2
  go_loopw [4, 5] (fun ov nv wr => RAllI b w ov nv wr) (fun _ nv _ => b.length + 1 - (intOf nv).toNat)
  case atStart => exact ⟨0, [], rfl, Nat.zero_le _, by simp, rowsOf_nil _ _, Below.refl _ _⟩
  case round =>
    obtain ⟨k, pre, rfl, hk, hall, hrows, hbl⟩ := hrel
    have HA := Lib.hid hall
    have HW := Lib.hid hrows
    have HB := Lib.hid hbl
    have hk0 : (0 : Int) ≤ (k : Int) := by omega
    have hkb : (k : Int) ≤ (b.length : Int) := by omega
    have hkc : (k : Int) ≤ (cap : Int) := by omega
    have hpl : pre.length ≤ 1000000 := by
      have h1 := all_len b
      rw [hall] at h1
      simp at h1
      omega
    have hdl : Hid ((b.drop k).length = b.length - k) := by show _ = _; simp
    clear hall hrows hbl
    have hcase : (a = none ∧ cap = 0 ∧ k = 0 ∧ b = []) ∨ (∃ ad, a = some ad ∧ k = 0 ∧ b = []) ∨ ∃ g off, a = some ⟨g, off, none⟩ := by
      rcases Nat.eq_zero_or_pos b.length with h0 | h0
      · have hb0 := List.eq_nil_of_length_eq_zero h0
        cases a with
        | none => exact .inl ⟨rfl, hn rfl, by omega, hb0⟩
        | some ad => exact .inr (.inl ⟨ad, rfl, by omega, hb0⟩)
      · obtain ⟨g, off, e, _⟩ := HR.out 0 h0
        exact .inr (.inr ⟨g, off, e⟩)
    obtain ⟨bk, hbk⟩ : ∃ bk, b.drop k = bk := ⟨_, rfl⟩
    have BK := Lib.hid hbk
    rw [hbk] at hdl HA
    have hrd : Hid (∀ g off, a = some ⟨g, off, none⟩ → RB wr (some ⟨g, off + k, none⟩) bk) := fun g off e => by
      subst e; rw [← BK.out]; exact (HR.out.below HB.out).drop k
    clear hbk
    rcases hcase with ⟨rfl, rfl, rfl, rfl⟩ | ⟨ad, rfl, rfl, rfl⟩ | ⟨g, off, rfl⟩
    all_goals go_wp2_with fail
    all_goals refine (rcut_at bk _ _ _ _ (by have h := hdl.out; (try simp only [List.length_nil] at h); omega) (by have h := hdl.out; (try simp only [List.length_nil] at h); omega) (by have := HM.out; omega) (by have h := hdl.out; (try simp only [List.length_nil] at h); omega) (by first | exact RB.zero (by have h := hdl.out; (try simp only [List.length_nil] at h); omega) | exact hrd.out _ _ rfl)).mono ?_
    all_goals rintro en w1 ⟨b1, ⟨e, rfl⟩ | ⟨h, r, v1, v2, e, rfl, o1, o2⟩⟩
    all_goals have B1 := below_on HB.out b1
    all_goals have RW := Lib.hid (rowsOf_kept HW.out b1)
    all_goals have E := Lib.hid e
    all_goals try have HE := cut_some e
    all_goals clear e b1
    all_goals try (exfalso; have h1 := hdl.out; have h2 := HE.2.2; (try simp only [List.length_nil] at h1); omega)
    all_goals try obtain ⟨ac, capc, rfl, _, _, _⟩ := RB.of_owns o1
    all_goals obtain ⟨vs, hrow, hrl, hrs⟩ := RW.out
    all_goals have hvl : vs.length ≤ 1000000 := by omega
    all_goals go_wp2_with (at_builtin; refine wpList_append_own _ rfl (.tmp 25) (.tmp 27) 56 rfl w.heap.size 22 i0 (.slice none 0 0) 1 24 Try.underlying56 hi hz0 hz1 hz2 rfl (by decide) _ _ _ rfl (hrow.alloc _) ⟨w1.heap.size, 0, none⟩ 1 1 [_] rfl rfl (cell_one_at rfl) (by simp [Value.oneCell']) (by unfold maxLen; omega) (by omega) (Nat.le_trans B1.size (by simp)) ?_; intro v' w3 own' g' _; have B3 := (B1.alloc B1.size _).grown g' (Nat.le_trans B1.size (by simp)) (fun j hj => (hrow.lt j hj).1))
    all_goals try (
      go_ret2
      refine ⟨B1, u4, ?_, ?_⟩
      · rw [HA.out, all_none E.out]; rfl
      · rw [HA.out, all_none E.out]; simpa using RW.out)
    refine ⟨⟨k + 6 + h.length, pre ++ [h], by push_cast; rfl, by have := hdl.out; omega, ?_, rowsOf_snoc (hrow.alloc _) hrl (fun i u l e1 e2 => (hrs i u l e1 e2).alloc _) ((ownsRow_base o1 HB.out.size).alloc _) own' g', B3⟩, by simp only [intOf]; have := hdl.out; omega⟩
    have hr : b.drop (k + 6 + h.length) = r := by
      rw [Nat.add_assoc, ← List.drop_drop, BK.out, HE.2.1]
      exact List.drop_left' (by rw [frame_length]; omega)
    rw [hr, HA.out, all_some E.out]
    simp only [List.append_assoc, List.cons_append, List.nil_append, Prod.mk.injEq, true_and]
    omega
end Go.Proofs.Ytopemjbakpahfaa
/-
  A row of rows of bytes, as it reads; frames together in plain Lean. No condition.
-/
namespace Go.Proofs.Ytopemjbakpahfaa
open Go.RowKit Crc
/-- The slice at a reads as these rows of bytes. -/
def RR (w : World) (a : Option Addr) (L : List (List UInt8)) : Prop :=
  ∀ i, i < L.length → ∃ g off u, a = some ⟨g, off, none⟩ ∧ g < w.heap.size ∧ w.cell? ⟨g, off + i, none⟩ = some u ∧ Bs w u (L.getD i [])
theorem RR.below {w w1 : World} {a : Option Addr} {L : List (List UInt8)} (h : RR w a L) (hb : Below w.heap.size w w1) : RR w1 a L := by
  intro i hi
  obtain ⟨g, off, u, e, hg, hc, hu⟩ := h i hi
  exact ⟨g, off, u, e, Nat.lt_of_lt_of_le hg hb.size, (hb.cell (p := ⟨g, off + i, none⟩) hg).trans hc, hu.below hb⟩
theorem RR.nil (w : World) (a : Option Addr) : RR w a [] := fun i hi => absurd hi (by simp)
theorem RR.take {w : World} {a : Option Addr} {L : List (List UInt8)} (h : RR w a L) (k : Nat) : RR w a (L.take k) := by
  intro i hi
  simp at hi
  obtain ⟨g, off, u, e, hg, hc, hu⟩ := h i (by omega)
  exact ⟨g, off, u, e, hg, hc, by simpa [List.getD, show i < k by omega] using hu⟩
theorem bs_of_owns {w : World} {base n : Nat} {v : Value} {l : List UInt8} (h : w.ownsRow base 5 1 v n (l.map byteV)) : Bs w v l := by
  obtain ⟨a, cap, e, h1, h2, h3⟩ := RB.of_owns h
  exact ⟨a, cap, e, h1, h2, h3⟩
/-- Rows that the call owns read as rows. -/
theorem RR.of_rows {w : World} {base : Nat} {v : Value} {L : List (List UInt8)} (h : RowsOf w base v L) : ∃ a cap, v = .slice a L.length cap ∧ L.length ≤ cap ∧ (a = none → cap = 0) ∧ RR w a L := by
  obtain ⟨vs, h1, h2, h3⟩ := h
  rw [h2] at h1
  rcases h1.2 with ⟨rfl, h0⟩ | ⟨g, cap, cur, rfl, hg, hh, h4, h5, h6, h7⟩
  · exact ⟨none, 0, by rw [h0], by omega, fun _ => rfl, fun i hi => by omega⟩
  · refine ⟨_, _, rfl, h4, fun e => (by cases e), fun i hi => ?_⟩
    have hv : i < vs.length := by omega
    refine ⟨g, 0, vs[i], rfl, lt_of_block hh, ?_, ?_⟩
    · rw [Nat.zero_add, cell_of_row w g i cur 22 (0, 0) hh]
      have : (cur.toList.take (L.length * 1))[i]? = vs[i]? := by rw [h7]
      rw [List.getElem?_take, if_pos (by omega)] at this
      simpa [hv] using this
    · exact bs_of_owns (h3 i vs[i] (L.getD i []) (by simp [hv]) (by simp [List.getD, hi]))
/-- Frames together: what is there, and what is still to come. -/
theorem join_cons (l : List UInt8) (m : List (List UInt8)) : join (l :: m) = if 4096 < l.length then none else (join m).map (frame l ++ ·) := rfl
theorem join_at {L : List (List UInt8)} {k : Nat} (hk : k < L.length) : join (L.drop k) = if 4096 < (L.getD k []).length then none else (join (L.drop (k + 1))).map (frame (L.getD k []) ++ ·) := by
  rw [List.drop_eq_getElem_cons hk, join_cons]
  simp [List.getD, hk]
end Go.Proofs.Ytopemjbakpahfaa
/-
  Opening an argument of a law: rows of bytes. No condition.
-/
namespace Go.Proofs.Ytopemjbakpahfaa
open Go.ChangeShapes Go.WideShapes Go.ChangeAt Go.RowKit Go.Deep
section
variable {H : Type} {enc : TypeId × Value → H} {P : Program} {w : World} {base : Nat} {spare : Nat → Bool} {held : Bool}
theorem choose_list {α : Type} (d : α) (n : Nat) (p : Nat → α → Prop) (h : ∀ i, i < n → ∃ x, p i x) : ∃ L : List α, L.length = n ∧ ∀ i, i < n → p i (L.getD i d) := by
  induction n with
  | zero => exact ⟨[], rfl, fun i hi => by omega⟩
  | succ n ih =>
    obtain ⟨L, h1, h2⟩ := ih (fun i hi => h i (by omega))
    obtain ⟨x, hx⟩ := h n (by omega)
    refine ⟨L ++ [x], by simp [h1], fun i hi => ?_⟩
    rcases Nat.lt_or_ge i n with h3 | h3
    · have := h2 i h3
      simpa [List.getD, List.getElem?_append_left (show i < L.length by omega)] using this
    · obtain rfl : i = n := by omega
      simpa [List.getD, ← h1] using hx
theorem open_rows {r : Reach} {b0 : Nat} {t e q : TypeId} {v : Value} {d : DataW H} {p : List MemPlace} (ht : P.underlying t = some (.slice e)) (he : P.underlying e = some (.slice q)) (hq : P.underlying q = some (.int .u8)) (ce : P.cellsOf e = 1) (cq : P.cellsOf q = 1)
    (hv : Value.okWide P w r b0 t v) (h : DataW.Trod enc P w 0 (fun _ => true) held t v d p) :
    ∃ (L : List (List UInt8)) (a : Option Addr) (cap : Nat), v = .slice a L.length cap ∧ L.length ≤ cap ∧ cap ≤ maxLen ∧ (a = none → cap = 0) ∧ RR w a L ∧ ∀ i, i < L.length → (L.getD i []).length ≤ maxLen := by
  obtain ⟨a0, len0, cap0, rfl⟩ := okWide_slice ht hv
  obtain ⟨fuel, hf⟩ := h
  rcases open_int_rows ht he hq ce cq hf with ⟨hcs, _⟩ | ⟨x, len, cap, A, Le, C, Z, hcs, _, hl, hm, _, hr⟩
  · simp [Value.cells] at hcs
    obtain ⟨rfl, rfl, rfl⟩ := hcs
    exact ⟨[], none, 0, rfl, Nat.le_refl _, Nat.zero_le _, fun _ => rfl, RR.nil _ _, fun i hi => by simp at hi⟩
  · simp [Value.cells] at hcs
    obtain ⟨rfl, rfl, rfl⟩ := hcs
    obtain ⟨L, hLl, hL⟩ := choose_list (α := List UInt8) [] len0 (fun i l => l.length = Le i ∧ Bs w (.slice (A i) (Le i) (C i)) l) (fun i hi => by
      obtain ⟨_, h2, h3, h4, h5, h6, h7⟩ := hr i (by omega)
      cases hA : A i with
      | none =>
        have := h6 hA
        exact ⟨[], by simp; omega, none, _, by rw [show Le i = 0 by omega]; rfl, by simp, fun _ => this, RB.nil _ _⟩
      | some a' =>
        obtain ⟨_, h8⟩ := h7 a' hA
        obtain ⟨l, hl1, hl2⟩ := bytes_of_cells (a := a') h2 h4 (fun c hc => h8 c (by omega)) h5
        exact ⟨l, hl1, some a', C i, by rw [hl1], by omega, fun e => (by cases e), hl2⟩)
    refine ⟨L, some x, cap0, by rw [hLl], by omega, hm, fun e => (by cases e), ?_, fun i hi => ?_⟩
    · intro i hi
      have hc0 := (hr 0 (by omega)).1
      obtain ⟨g, off, spot⟩ := x
      have hspot : spot = none := by simpa [Addr.add] using World.cell?_spot hc0
      subst hspot
      have hc := (hr i (by omega)).1
      have e : (⟨g, off, none⟩ : Addr).add i = ⟨g, off + i, none⟩ := by
        unfold Addr.add; split
        · rename_i h; subst h; rfl
        · rfl
      rw [e] at hc
      exact ⟨g, off, _, rfl, World.block_lt_of_cell? w _ hc0, hc, (hL i (by omega)).2⟩
    · have h1 := hr i (by omega)
      rw [(hL i (by omega)).1]
      omega
end
end Go.Proofs.Ytopemjbakpahfaa
/-
  Opening an argument of a law: rows of three numbers each. No condition.
-/
namespace Go.Proofs.Ytopemjbakpahfaa
open Go.ChangeShapes Go.WideShapes Go.ChangeAt Go.RowKit Go.Deep
/-- Three numbers of the machine. -/
structure Three where
  x : Int
  y : Int
  z : Int
def Three.fits (t : Three) : Prop := (-9223372036854775808 ≤ t.x ∧ t.x ≤ 9223372036854775807) ∧ (-9223372036854775808 ≤ t.y ∧ t.y ≤ 9223372036854775807) ∧ (-9223372036854775808 ≤ t.z ∧ t.z ≤ 9223372036854775807)
def zero3 : Three := ⟨0, 0, 0⟩
/-- The slice at a reads as these rows of three numbers. -/
def R3 (w : World) (a : Option Addr) (l : List Three) : Prop :=
  ∀ i, i < l.length → ∃ g off, a = some ⟨g, off, none⟩ ∧ g < w.heap.size ∧ w.cell? ⟨g, off + i * 3, none⟩ = some (.int .i64 (l.getD i zero3).x) ∧
    w.cell? ⟨g, off + i * 3 + 1, none⟩ = some (.int .i64 (l.getD i zero3).y) ∧ w.cell? ⟨g, off + i * 3 + 2, none⟩ = some (.int .i64 (l.getD i zero3).z)
theorem R3.below {w w1 : World} {a : Option Addr} {l : List Three} (h : R3 w a l) (hb : Below w.heap.size w w1) : R3 w1 a l := by
  intro i hi
  obtain ⟨g, off, e, hg, h0, h1, h2⟩ := h i hi
  exact ⟨g, off, e, Nat.lt_of_lt_of_le hg hb.size, (hb.cell (p := ⟨g, off + i * 3, none⟩) hg).trans h0, (hb.cell (p := ⟨g, off + i * 3 + 1, none⟩) hg).trans h1, (hb.cell (p := ⟨g, off + i * 3 + 2, none⟩) hg).trans h2⟩
theorem wf_i64 {n : Int} (h : (Lit.int .i64 n).wf = true) : -9223372036854775808 ≤ n ∧ n ≤ 9223372036854775807 := by
  simp [Lit.wf, IntKind.min, IntKind.max, IntKind.signed, IntKind.bits] at h
  omega
section
variable {H : Type} {enc : TypeId × Value → H} {P : Program} {w : World} {base : Nat} {spare : Nat → Bool} {held : Bool}
theorem trod_three {n : Nat} {t e : TypeId} {cs : List Value} {y : DataW H × List MemPlace} (ht : P.underlying t = some (.array 3 e)) (he : P.underlying e = some (.int .i64)) (hC : P.cellsOf t = 3) (hE : P.cellsOf e = 1)
    (h : DataW.trod enc P w base spare held n t cs = some y) : ∃ t : Three, cs = [.int .i64 t.x, .int .i64 t.y, .int .i64 t.z] ∧ t.fits := by
  obtain ⟨xs, m, _, _, hlen3, hlen, hg⟩ := DataW.trod_array ht h
  rw [hC] at hlen3
  match cs, hlen3 with
  | [c0, c1, c2], _ =>
    match xs, hlen with
    | [y0, y1, y2], _ =>
      have g0 := hg 0 (by omega)
      have g1 := hg 1 (by omega)
      have g2 := hg 2 (by omega)
      simp [hE] at g0 g1 g2
      obtain ⟨x, e0, _, w0⟩ := DataW.trod_int he g0
      obtain ⟨y, e1, _, w1⟩ := DataW.trod_int he g1
      obtain ⟨z, e2, _, w2⟩ := DataW.trod_int he g2
      simp at e0 e1 e2
      subst e0 e1 e2
      exact ⟨⟨x, y, z⟩, rfl, wf_i64 w0, wf_i64 w1, wf_i64 w2⟩
theorem open_threes {r : Reach} {b0 : Nat} {t e q : TypeId} {v : Value} {d : DataW H} {p : List MemPlace} (ht : P.underlying t = some (.slice e)) (he : P.underlying e = some (.array 3 q)) (hq : P.underlying q = some (.int .i64)) (ce : P.cellsOf e = 3) (cq : P.cellsOf q = 1)
    (hv : Value.okWide P w r b0 t v) (h : DataW.Trod enc P w 0 (fun _ => true) held t v d p) :
    ∃ (l : List Three) (a : Option Addr) (cap : Nat), v = .slice a l.length cap ∧ l.length ≤ cap ∧ cap ≤ maxLen ∧ (a = none → cap = 0) ∧ R3 w a l ∧ ∀ i, i < l.length → (l.getD i zero3).fits := by
  obtain ⟨a0, len0, cap0, rfl⟩ := okWide_slice ht hv
  obtain ⟨fuel, hf⟩ := h
  rcases open_slice ht hf with ⟨hcs, _⟩ | ⟨x, len, cap, m, n, D, Pl, hcs, _, hl, hm, hmm, _, hr⟩
  · simp [Value.cells] at hcs
    obtain ⟨rfl, rfl, rfl⟩ := hcs
    exact ⟨[], none, 0, rfl, Nat.le_refl _, Nat.zero_le _, fun _ => rfl, fun i hi => absurd hi (by simp), fun i hi => by simp at hi⟩
  · simp [Value.cells] at hcs
    obtain ⟨rfl, rfl, rfl⟩ := hcs
    simp only [if_true] at hmm
    obtain ⟨l, hl1, hl2⟩ := choose_list (α := Three) zero3 len0 (fun i t => (w.cell? (x.add (i * 3)) = some (.int .i64 t.x) ∧ w.cell? ((x.add (i * 3)).add 1) = some (.int .i64 t.y) ∧ w.cell? ((x.add (i * 3)).add 2) = some (.int .i64 t.z)) ∧ t.fits) (fun i hi => by
      obtain ⟨cs', h1, h2⟩ := hr i (by omega)
      rw [ce] at h1
      obtain ⟨t, rfl, hfit⟩ := trod_three he hq ce cq h2
      obtain ⟨_, _, hc⟩ := World.cells?_some h1
      refine ⟨t, ⟨?_, hc 1 (by omega), hc 2 (by omega)⟩, hfit⟩
      have := hc 0 (by omega)
      simpa [Addr.add] using this)
    refine ⟨l, some x, cap0, by rw [hl1], by omega, hm, fun e => (by cases e), ?_, fun i hi => (hl2 i (by omega)).2⟩
    intro i hi
    have hc0 := (hl2 0 (by omega)).1.1
    obtain ⟨g, off, spot⟩ := x
    have hspot : spot = none := by simpa [Addr.add] using World.cell?_spot hc0
    subst hspot
    obtain ⟨h0, h1, h2⟩ := (hl2 i (by omega)).1
    rw [Addr.add_lit] at h0 h1 h2
    rw [Addr.add_lit] at h1 h2
    rw [Addr.add_lit] at hc0
    exact ⟨g, off, rfl, World.block_lt_of_cell? w _ hc0, h0, h1, h2⟩
end
end Go.Proofs.Ytopemjbakpahfaa
/-
  Zeros appended to bytes of the call's own: append(s, make([]byte, k)...), with room or without. No condition but that the lengths are small.
-/
namespace Go.Proofs.Ytopemjbakpahfaa
open Go.RowKit
theorem zeroCells_u8 (k : Nat) : (Builtin.zeroCells (Value.int .u8 0).cells k).toList = (List.replicate k (0 : UInt8)).map byteV := by
  unfold Builtin.zeroCells
  simp only [Value.cells, List.size_toArray, List.length_singleton, Nat.mul_one, Nat.mod_one]
  rw [Array.toList_map, Array.toList_range, List.map_replicate]
  apply List.ext_getElem
  · simp
  · intro i h1 h2
    simp [byteV]
theorem run_append_room_zeros (w : World) (ty : TypeId) (i0 : TypeInfo) (hi : Try.prog.info? 5 = some i0) (hz : i0.zero = some (.int .u8 0)) (hs : i0.size = 1) (hby : i0.bytes = 1)
    (g sLen sCap : Nat) (cur : Array Value) (hg : w.heap[g]? = some (.cells cur 5 (0, 0))) (k : Nat) (hk : k ≤ 1000000000) (hroom : sLen + k ≤ sCap) (hc : cur.size = sCap) :
    (Builtin.append_ #[22, 3] ty #[.slice (some ⟨g, 0, none⟩) sLen sCap, .int .i64 k]).run Try.prog w =
      .ok (.slice (some ⟨g, 0, none⟩) (sLen + k) sCap) (w.setRow g (cur.toList.take sLen ++ (List.replicate k (0 : UInt8)).map byteV ++ cur.toList.drop (sLen + k)).toArray) := by
  have hst := run_storeCells_at Try.prog g sLen 5 ((List.replicate k (0 : UInt8)).map byteV) 0 cur w hg (by simp; omega) (oneCell_bytes _)
  simp only [Nat.add_zero, List.length_map, List.length_replicate] at hst
  have hw : IntKind.i64.wrap (k : Int) = k := by rw [IntKind.wrap_i64]; omega
  have hneg : ¬ ((k : Int) < 0) := by omega
  have h48i : ¬ (281474976710656 < (k : Int)) := by omega
  have hw0 : IntKind.i64.wrap 0 = 0 := by decide
  by_cases h0 : k = 0
  · subst h0
    simp at hst
    simp [Builtin.append_, run_underlying Try.underlying22, run_underlying Try.underlying3, sizeOf, typeInfo, zeroValue, hi, hz, hs, hby, asInt, asIntOf, hw0, show sLen ≤ sCap by omega, Addr.add_lit, hst]
  · have hzc : (Builtin.zeroCells (Value.int .u8 0).cells k).toList = List.replicate k (byteV 0) := by rw [zeroCells_u8, List.map_replicate]
    rw [List.map_replicate] at hst
    simp [Builtin.append_, run_underlying Try.underlying22, run_underlying Try.underlying3, sizeOf, typeInfo, zeroValue, hi, hz, hs, hby, asInt, asIntOf, hw, hneg, h48i, h0, hroom, hzc, Addr.add_lit, hst]
theorem run_append_bytes_zeros (w : World) (ty : TypeId) (base : Nat) (v : Value) (l : List UInt8) (k : Nat) (hown : w.ownsRow base 5 1 v l.length (l.map byteV)) (hb : l.length + k ≤ 1000000000) (b3 : base ≤ w.heap.size) :
    ∃ v' w', (Builtin.append_ #[22, 3] ty #[v, .int .i64 k]).run Try.prog w = .ok v' w' ∧ w'.ownsRow base 5 1 v' (l ++ List.replicate k 0).length ((l ++ List.replicate k 0).map byteV) ∧ w.grownBy w' v.ownBlock := by
  obtain ⟨i0, hi, hz0, hz1, hz2⟩ := info_parts info5
  have grown : ∀ (old : Nat), old < l.length + k → ∀ (row : Option Nat),
      (w.drew.alloc (.cells ((l.map byteV).toArray ++ Builtin.zeroCells (Value.int .u8 0).cells k ++ Builtin.zeroCells (Value.int .u8 0).cells (grownCap w (l.length + k) old 5 - (l.length + k))) 5)).ownsRow base 5 1
        (.slice (some ⟨w.heap.size, 0, none⟩) (l.length + k) (grownCap w (l.length + k) old 5)) (l ++ List.replicate k 0).length ((l ++ List.replicate k 0).map byteV) ∧
      w.grownBy (w.drew.alloc (.cells ((l.map byteV).toArray ++ Builtin.zeroCells (Value.int .u8 0).cells k ++ Builtin.zeroCells (Value.int .u8 0).cells (grownCap w (l.length + k) old 5 - (l.length + k))) 5)) row := by
    intro old ho row
    have hge := grownCap_ge w (l.length + k) old 5
    have hcm : grownCap w (l.length + k) old 5 ≤ maxLen := grownCap_le_maxLen w (l.length + k) old 5 (by unfold maxLen; omega)
    have hlen : (l ++ List.replicate k (0 : UInt8)).length = l.length + k := by simp
    rw [hlen]
    refine ⟨⟨by simp, .inr ⟨w.heap.size, _, _, rfl, b3, heap_alloc_new w.drew _, hge, hcm, ?_, ?_⟩⟩, ⟨rfl, rfl, rfl, by simp, fun j hj _ => Below.heap_alloc w.drew _ j hj⟩⟩
    · simp only [Array.size_append, List.size_toArray, size_zeroCells, List.length_map, Value.cells, List.length_singleton]
      omega
    · simp only [Array.toList_append, zeroCells_u8, Nat.mul_one]
      rw [← List.map_append]
      exact List.take_left' (by simp)
  rcases hown.2 with ⟨rfl, h0⟩ | ⟨g, cap, cur, rfl, hbg, hg, hnc, hcm, hcs, htake⟩
  · obtain rfl : l = [] := List.eq_nil_of_length_eq_zero h0
    by_cases hk : k = 0
    · subst hk
      refine ⟨.slice none 0 0, w, ?_, by simpa using hown, ⟨rfl, rfl, rfl, Nat.le_refl _, fun _ _ _ => rfl⟩⟩
      simp [Builtin.append_, run_underlying Try.underlying22, run_underlying Try.underlying3, sizeOf, typeInfo, zeroValue, hi, hz0, hz2, asInt, asIntOf, IntKind.wrap_i64]
    · have hr := Lib.run_append_nil_zeros w 22 3 ty 5 i0 (.int .u8 0) .i64 .i64 Try.underlying22 Try.underlying3 hi hz0 k (by omega) (by omega) (by omega) (by rw [hz2]; simp at hb; omega)
      have hgr := grown 0 (by omega) (Value.ownBlock (.slice none 0 0))
      simp only [List.length_nil, Nat.zero_add, List.nil_append, List.map_nil, Array.empty_append] at hgr ⊢
      exact ⟨_, _, hr, hgr.1, hgr.2⟩
  · rw [Nat.mul_one] at hcs htake
    by_cases hroom : l.length + k ≤ cap
    · have hr := run_append_room_zeros w ty i0 hi hz0 hz1 hz2 g l.length cap cur hg k (by omega) hroom hcs
      refine ⟨_, _, hr, ⟨by simp, .inr ⟨g, cap, _, by simp, hbg, setRow_heap w g cur _ 5 _ hg, by simpa using hroom, hcm, ?_, ?_⟩⟩, ⟨rfl, rfl, rfl, by simp, fun k _ hk => setRow_other w g k _ (fun e => hk (by simp [Value.ownBlock, e]))⟩⟩
      · simp only [List.size_toArray, List.length_append, List.length_take, List.length_drop, Array.length_toList, List.length_map, List.length_replicate]
        omega
      · rw [htake]
        simp only [Nat.mul_one]
        rw [← List.map_append]
        exact List.take_left' (by simp)
    · have hold : (Builtin.firstCells i0.size l.length (.slice (some ⟨g, 0, none⟩) l.length cap)).run Try.prog w.drew = .ok (l.map byteV).toArray w.drew := run_firstCells_some w.drew i0.size l.length ⟨g, 0, none⟩ l.length cap (l.map byteV) (by rw [hz1]; simp) (fun j u hu => by
        have := hown.cells (g := g) rfl j u hu
        simpa using this)
      have hfit := growslice_fits (need := l.length + k) (old := cap) (bytes := i0.bytes) (by omega) (by rw [hz2]; omega)
      have hr := Lib.run_append_grow_zeros w 22 3 ty 5 i0 (.int .u8 0) .i64 .i64 Try.underlying22 Try.underlying3 hi hz0 (some ⟨g, 0, none⟩) l.length cap (l.map byteV) hold k (by omega) (by omega) (by omega) (by omega) (by rw [hz2]; omega) hfit
      have hgr := grown cap (by omega) (Value.ownBlock (.slice (some ⟨g, 0, none⟩) l.length cap))
      exact ⟨_, _, hr, hgr.1, hgr.2⟩
theorem wp_append_zeros {w : World} {o : Oper} {a : Act} {K : Act → World → Prop} {Q : Exit → Act → World → Prop} (s x : Operand)
    (ho : o.op = .call { callee := .builtin .append, args := #[s, x], argTypes := #[22, 3] }) (base : Nat) (v : Value) (l : List UInt8) (k : Nat) (hs : a.eval s = v) (hx : a.eval x = .int .i64 (k : Nat))
    (hown : w.ownsRow base 5 1 v l.length (l.map byteV)) (hb : l.length + k ≤ 1000000000) (b3 : base ≤ w.heap.size)
    (hK : ∀ v' w', w'.ownsRow base 5 1 v' (l ++ List.replicate k 0).length ((l ++ List.replicate k 0).map byteV) → w.grownBy w' v.ownBlock → K (a.put o.dst v') w') : o.wp Try.prog a w K Q := by
  obtain ⟨v', w', hr, h1, h2⟩ := run_append_bytes_zeros w o.type base v l k hown hb b3
  exact Lib.wp_append_run w s x 22 3 ho v (.int .i64 k) hs hx v' w' hr (hK v' w' h1 h2)
theorem wpList_append_zeros {w : World} {ops : Array Oper} {rest : List Oper} {o : Oper} {a : Act} {Q : Exit → Act → World → Prop} (hgd : o.guard = none) (s x : Operand)
    (ho : o.op = .call { callee := .builtin .append, args := #[s, x], argTypes := #[22, 3] }) (base : Nat) (v : Value) (l : List UInt8) (k : Nat) (hs : a.eval s = v) (hx : a.eval x = .int .i64 (k : Nat))
    (hown : w.ownsRow base 5 1 v l.length (l.map byteV)) (hb : l.length + k ≤ 1000000000) (b3 : base ≤ w.heap.size)
    (hK : ∀ v' w', w'.ownsRow base 5 1 v' (l ++ List.replicate k 0).length ((l ++ List.replicate k 0).map byteV) → w.grownBy w' v.ownBlock → wpList Try.prog ops Q rest (a.put o.dst v') w') : wpList Try.prog ops Q (o :: rest) a w :=
  wpList_plain hgd fun _ hk => wp_append_zeros s x ho base v l k hs hx hown hb b3 fun v' w' h1 h2 => hk _ _ (hK v' w' h1 h2)
end Go.Proofs.Ytopemjbakpahfaa
/-
  Plain facts of a device's writes, syncs, reads; bytes made. No condition but that the lengths are small.
-/
namespace Go.Proofs.Ytopemjbakpahfaa
open Go.RowKit Disk
def by8 (z : Int) : UInt8 := UInt8.ofNat (z % 256).toNat
theorem by8_nat (z : Int) : ((by8 z).toNat : Int) = IntKind.u8.wrap z := by
  rw [IntKind.wrap_u8]
  unfold by8
  rw [UInt8.toNat_ofNat']
  omega
theorem byteV_by8 (z : Int) : byteV (by8 z) = .int .u8 (IntKind.u8.wrap z) := by unfold byteV; rw [by8_nat]
theorem write_bad_at {d : Dev} {k : Int} {b : List UInt8} (hd : d.down = false) (h : k < 0 ∨ (d.kept.length : Int) ≤ k) : d.write k b = (d, 1) := by
  have hk : d.ask k = 1 := by unfold Dev.ask; rw [hd, if_neg (by simp), if_pos h]
  unfold Dev.write
  rw [hk, if_pos (by decide)]
theorem sector_app {d e : Dev} {p : Nat × List UInt8} (h : e.pend = d.pend ++ [p]) (hk : e.kept = d.kept) (k : Nat) : e.sector k = if p.1 = k then p.2 else d.sector k := by
  unfold Dev.sector
  rw [h, hk, List.foldl_append]
  rfl
theorem puts_get (k : Nat) : ∀ (ps : List (Nat × List UInt8)) (l : List (List UInt8)), k < l.length → (ps.foldl put l).getD k [] = ps.foldl (over k) (l.getD k []) := by
  intro ps
  induction ps with
  | nil => intro l _; rfl
  | cons p ps ih =>
    intro l hl
    rw [List.foldl_cons, List.foldl_cons, ih _ (by rw [put_length]; exact hl), put_get]
    unfold over
    simp only [hl, and_true]
theorem sector_sync {d e : Dev} (h : e.pend = []) (hk : e.kept = d.pend.foldl put d.kept) {k : Nat} (hl : k < d.kept.length) : e.sector k = d.sector k := by
  unfold Dev.sector
  rw [h, hk, List.foldl_nil, puts_get k _ _ hl]
theorem zero_sector (k n : Nat) (h : k < n) : (Dev.new n).sector k = List.replicate 32 0 := by
  simp [Dev.sector, Dev.new, List.getD, h]
theorem pad3 (x y z : UInt8) : pad [x, y, z] = [x, y, z] ++ List.replicate 29 0 := rfl
theorem read_ok_at {d : Dev} {k : Int} (hd : d.down = false) (h0 : 0 ≤ k) (h1 : k < (d.kept.length : Int)) : d.read k = (d.sector k.toNat, 0) := by
  have hk : d.ask k = 0 := by unfold Dev.ask; rw [hd, if_neg (by simp), if_neg (by omega)]
  unfold Dev.read
  rw [hk, if_neg (by decide)]
theorem read_bad_at {d : Dev} {k : Int} (hd : d.down = false) (h : k < 0 ∨ (d.kept.length : Int) ≤ k) : d.read k = ([], 1) := by
  have hk : d.ask k = 1 := by unfold Dev.ask; rw [hd, if_neg (by simp), if_pos h]
  unfold Dev.read
  rw [hk, if_pos (by decide)]
theorem run_make_bytes (w : World) (k : Nat) (hk : k ≤ 1000000000) : (Instr.makeSlice 22 (.int .i64 k) (.int .i64 k)).run Try.prog w = .ok (.slice (some ⟨w.heap.size, 0, none⟩) k k) (w.alloc (.cells ((List.replicate k (0 : UInt8)).map byteV).toArray 5)) := by
  obtain ⟨i0, hi, hz0, hz1, hz2⟩ := info_parts info5
  have h := run_make (P := Try.prog) w 22 5 i0 _ Try.underlying22 hi hz0 .i64 .i64 (k : Int) (k : Int) (by omega) (Int.le_refl _) (by rw [hz2]; omega) (by omega)
  rw [h, hz1]
  have e : madeCells (Value.int .u8 0).cells ((k : Int).toNat * 1) = ((List.replicate k (0 : UInt8)).map byteV).toArray := by
    rw [Int.toNat_natCast, Nat.mul_one]
    apply Array.ext
    · simp [size_madeCells]
    · intro i h1 h2
      simp [madeCells, Value.cells, byteV, Nat.mod_one]
  rw [e, Int.toNat_natCast]
theorem sec_text {w : World} {base : Nat} {v : Value} {l : List UInt8} (h : Sec w base v l) : ∃ a c, v = .slice a l.length c ∧ (a = none → l.length = 0) ∧ RB w a l := by
  rcases h with ⟨rfl, rfl⟩ | ⟨g, rfl, h1, h2, h3, h4, h5⟩
  · exact ⟨none, 0, rfl, fun _ => rfl, fun i hi => absurd hi (by simp)⟩
  · refine ⟨some ⟨g, 0, none⟩, 32, by rw [h1], fun e => (nomatch e), fun i hi => ⟨g, 0, rfl, h3, ?_⟩⟩
    have := h4 i (byteV (l.getD i 0)) (by simp [List.getD, hi])
    simpa using this
end Go.Proofs.Ytopemjbakpahfaa
/-
  An area of a device in plain Lean: bytes put and got, part by part. No program, no condition.
-/
namespace Go.Proofs.Ytopemjbakpahfaa.Jour
open Disk
/-- What a sector has of some bytes: where they begin in it, and in them, and how many they are. -/
structure Part where
  sec : Nat
  ins : Nat
  outs : Nat
  n : Nat
/-- The parts of n bytes that begin at place A of the device, from the done-th byte on. -/
def parts (A n : Nat) : Nat → Nat → List Part
  | 0, _ => []
  | f + 1, done => if done < n then ⟨(A + done) / 32, (A + done) % 32, done, min (n - done) (32 - (A + done) % 32)⟩ :: parts A n f (done + min (n - done) (32 - (A + done) % 32)) else []
def Part.good (len : Nat) (p : Part) : Prop := p.ins + p.n ≤ 32 ∧ p.outs + p.n ≤ len
/-- Bytes laid over others from a place on. -/
def lay (s : List UInt8) (k : Nat) (x : List UInt8) : List UInt8 := s.take k ++ x ++ s.drop (k + x.length)
def piece (b : List UInt8) (p : Part) : List UInt8 := (b.drop p.outs).take p.n
def doPart (d : Dev) (b : List UInt8) (p : Part) : Dev × Int :=
  if (d.read (p.sec : Int)).2 ≠ 0 then (d, (d.read (p.sec : Int)).2) else d.write (p.sec : Int) (lay (d.read (p.sec : Int)).1 p.ins (piece b p))
def putParts (d : Dev) (b : List UInt8) : List Part → Dev × Int
  | [] => (d, 0)
  | p :: ps => if (doPart d b p).2 ≠ 0 then doPart d b p else putParts (doPart d b p).1 b ps
def getParts (d : Dev) : List UInt8 → List Part → List UInt8 × Int
  | out, [] => (out, 0)
  | out, p :: ps => if (d.read (p.sec : Int)).2 ≠ 0 then ([], (d.read (p.sec : Int)).2) else getParts d (out ++ ((d.read (p.sec : Int)).1.drop p.ins).take p.n) ps
theorem putParts_snoc (b : List UInt8) (p : Part) : ∀ (ps : List Part) (d : Dev), (putParts d b ps).2 = 0 → putParts d b (ps ++ [p]) = doPart (putParts d b ps).1 b p := by
  intro ps
  induction ps with
  | nil =>
    intro d _
    show (if (doPart d b p).2 ≠ 0 then doPart d b p else ((doPart d b p).1, 0)) = doPart d b p
    split
    · rfl
    · rename_i h; rw [Decidable.not_not] at h; rw [← h]
  | cons q ps ih =>
    intro d h
    rw [List.cons_append]
    unfold putParts at h ⊢
    by_cases h1 : (doPart d b q).2 ≠ 0
    · rw [if_pos h1] at h; exact absurd h h1
    · rw [if_neg h1] at h ⊢
      rw [if_neg h1]
      exact ih _ h
theorem putParts_stop (b : List UInt8) (qs : List Part) : ∀ (ps : List Part) (d : Dev), (putParts d b ps).2 ≠ 0 → putParts d b (ps ++ qs) = putParts d b ps := by
  intro ps
  induction ps with
  | nil => intro d h; exact absurd rfl h
  | cons q ps ih =>
    intro d h
    rw [List.cons_append]
    unfold putParts at h ⊢
    by_cases h1 : (doPart d b q).2 ≠ 0
    · rw [if_pos h1, if_pos h1]
    · rw [if_neg h1] at h
      rw [if_neg h1, if_neg h1]
      exact ih _ h
theorem getParts_snoc (d : Dev) (p : Part) : ∀ (ps : List Part) (out : List UInt8), (getParts d out ps).2 = 0 →
    getParts d out (ps ++ [p]) = if (d.read (p.sec : Int)).2 ≠ 0 then ([], (d.read (p.sec : Int)).2) else ((getParts d out ps).1 ++ ((d.read (p.sec : Int)).1.drop p.ins).take p.n, 0) := by
  intro ps
  induction ps with
  | nil => intro out _; rfl
  | cons q ps ih =>
    intro out h
    rw [List.cons_append]
    unfold getParts at h ⊢
    by_cases h1 : (d.read (q.sec : Int)).2 ≠ 0
    · rw [if_pos h1] at h; exact absurd h h1
    · rw [if_neg h1] at h ⊢
      rw [ih _ h, if_neg h1]
theorem getParts_stop (d : Dev) (qs : List Part) : ∀ (ps : List Part) (out : List UInt8), (getParts d out ps).2 ≠ 0 → getParts d out (ps ++ qs) = getParts d out ps := by
  intro ps
  induction ps with
  | nil => intro out h; exact absurd rfl h
  | cons q ps ih =>
    intro out h
    rw [List.cons_append]
    unfold getParts at h ⊢
    by_cases h1 : (d.read (q.sec : Int)).2 ≠ 0
    · rw [if_pos h1, if_pos h1]
    · rw [if_neg h1] at h
      rw [if_neg h1, if_neg h1]
      exact ih _ h
theorem lay_length {s x : List UInt8} {k : Nat} (hs : s.length = 32) (h : k + x.length ≤ 32) : (lay s k x).length = 32 := by simp [lay]; omega
theorem lay_get {s x : List UInt8} {k : Nat} (hs : s.length = 32) (h : k + x.length ≤ 32) (j : Nat) : (lay s k x).getD j 0 = if k ≤ j ∧ j < k + x.length then x.getD (j - k) 0 else s.getD j 0 := by
  have ht : (s.take k).length = k := by simp; omega
  unfold lay
  simp only [List.getD]
  rcases Nat.lt_or_ge j k with h1 | h1
  · rw [if_neg (by omega), List.append_assoc, List.getElem?_append_left (by omega), List.getElem?_take, if_pos h1]
  · rcases Nat.lt_or_ge j (k + x.length) with h2 | h2
    · rw [if_pos ⟨h1, h2⟩, List.getElem?_append_left (by rw [List.length_append, ht]; omega), List.getElem?_append_right (by omega), ht]
    · rw [if_neg (by omega), List.getElem?_append_right (by rw [List.length_append, ht]; omega), List.length_append, ht, List.getElem?_drop, show k + x.length + (j - (k + x.length)) = j by omega]
theorem piece_get (b : List UInt8) (p : Part) (j : Nat) (h : j < p.n) : (piece b p).getD j 0 = b.getD (p.outs + j) 0 := by
  simp [piece, List.getD, h]
theorem piece_length {b : List UInt8} {p : Part} (h : p.outs + p.n ≤ b.length) : (piece b p).length = p.n := by simp [piece]; omega
/-- The byte at a place of the device. -/
def byte (d : Dev) (p : Nat) : UInt8 := (d.sector (p / 32)).getD (p % 32) 0
theorem parts_length (A n : Nat) : ∀ (f done : Nat), (parts A n f done).length ≤ n - done := by
  intro f
  induction f with
  | zero => intro done; simp [parts]
  | succ f ih =>
    intro done
    unfold parts
    split
    · have := ih (done + min (n - done) (32 - (A + done) % 32))
      simp only [List.length_cons]
      omega
    · simp
theorem parts_good (A n : Nat) : ∀ (f done : Nat) (p : Part), p ∈ parts A n f done → p.good n ∧ p.sec < (A + n + 31) / 32 := by
  intro f
  induction f with
  | zero => intro done p h; simp [parts] at h
  | succ f ih =>
    intro done p h
    unfold parts at h
    split at h
    · rcases List.mem_cons.1 h with rfl | h
      · refine ⟨⟨?_, ?_⟩, ?_⟩ <;> simp only <;> omega
      · exact ih _ _ h
    · simp at h
theorem doPart_bound (d : Dev) (b : List UInt8) (p : Part) : (doPart d b p).1.pend.length ≤ d.pend.length + 1 ∧ (doPart d b p).1.writes ≤ d.writes + 1 ∧ (doPart d b p).1.syncs = d.syncs ∧ (doPart d b p).1.kept = d.kept := by
  unfold doPart
  split
  · exact ⟨Nat.le_succ _, Nat.le_succ _, rfl, rfl⟩
  · unfold Dev.write
    split
    · exact ⟨Nat.le_succ _, Nat.le_succ _, rfl, rfl⟩
    · split
      · exact ⟨Nat.le_succ _, Nat.le_succ _, rfl, rfl⟩
      · split
        · exact ⟨Nat.le_succ _, Nat.le_succ _, rfl, rfl⟩
        · exact ⟨by simp, Nat.le_refl _, rfl, rfl⟩
theorem putParts_bound (b : List UInt8) : ∀ (ps : List Part) (d : Dev), (putParts d b ps).1.pend.length ≤ d.pend.length + ps.length ∧ (putParts d b ps).1.writes ≤ d.writes + ps.length ∧ (putParts d b ps).1.syncs = d.syncs ∧ (putParts d b ps).1.kept = d.kept := by
  intro ps
  induction ps with
  | nil => intro d; exact ⟨Nat.le_refl _, Nat.le_refl _, rfl, rfl⟩
  | cons p ps ih =>
    intro d
    obtain ⟨h1, h2, h3, h4⟩ := doPart_bound d b p
    unfold putParts
    split
    · simp only [List.length_cons]
      exact ⟨by omega, by omega, h3, h4⟩
    · obtain ⟨k1, k2, k3, k4⟩ := ih (doPart d b p).1
      simp only [List.length_cons]
      exact ⟨by omega, by omega, k3.trans h3, k4.trans h4⟩
theorem doPart_ok {d : Dev} (h : d.ok) (b : List UInt8) (p : Part) : (doPart d b p).1.ok := by
  unfold doPart
  split
  · exact h
  · exact write_ok h _ _
theorem putParts_ok (b : List UInt8) : ∀ (ps : List Part) (d : Dev), d.ok → (putParts d b ps).1.ok := by
  intro ps
  induction ps with
  | nil => intro d h; exact h
  | cons p ps ih =>
    intro d h
    unfold putParts
    split
    · exact doPart_ok h b p
    · exact ih _ (doPart_ok h b p)
/-- What a pending sector of a put holds: what was, and of the new bytes all that it has. -/
def fresh (d0 : Dev) (A : Nat) (b : List UInt8) (q : Nat × List UInt8) : Prop :=
  ∀ j, j < 32 → q.2.getD j 0 = if A ≤ 32 * q.1 + j ∧ 32 * q.1 + j < A + b.length then b.getD (32 * q.1 + j - A) 0 else byte d0 (32 * q.1 + j)
structure PutInv (d0 d : Dev) (A : Nat) (b : List UInt8) (done : Nat) : Prop where
  kept : d.kept = d0.kept
  pend : ∃ qs, d.pend = d0.pend ++ qs ∧ ∀ q ∈ qs, fresh d0 A b q
  byte : ∀ p, p < 32 * d0.kept.length → byte d p = if A ≤ p ∧ p < A + done then b.getD (p - A) 0 else byte d0 p
  ok : d.ok
  syncs : d.syncs = d0.syncs
theorem PutInv.start {d : Dev} (h : d.ok) (A : Nat) (b : List UInt8) : PutInv d d A b 0 :=
  ⟨rfl, ⟨[], by simp, fun q hq => by simp at hq⟩, fun p _ => by rw [if_neg (by omega)], h, rfl⟩
theorem pad_full {l : List UInt8} (h : l.length = 32) : pad l = l := by simp [pad, h]
theorem getD_drop (b : List UInt8) (i j : Nat) : (b.drop i).getD j 0 = b.getD (i + j) 0 := by simp [List.getD]
/-- One part is put. -/
theorem put_step {d0 d : Dev} {A : Nat} {b : List UInt8} {done : Nat} (h : PutInv d0 d A b done) (hd : d.down = false) (hlt : done < b.length) (hA : A + b.length ≤ 32 * d0.kept.length) :
    (d.armed = 1 ∧ doPart d b ⟨(A + done) / 32, (A + done) % 32, done, min (b.length - done) (32 - (A + done) % 32)⟩ = (d.step, 14)) ∨
    ∃ d', d.armed ≠ 1 ∧ doPart d b ⟨(A + done) / 32, (A + done) % 32, done, min (b.length - done) (32 - (A + done) % 32)⟩ = (d', 0) ∧ d'.down = false ∧ d'.armed = d.armed - 1 ∧ PutInv d0 d' A b (done + min (b.length - done) (32 - (A + done) % 32)) := by
  obtain ⟨sec, hsec⟩ : ∃ sec, (A + done) / 32 = sec := ⟨_, rfl⟩
  obtain ⟨ins, hins⟩ : ∃ ins, (A + done) % 32 = ins := ⟨_, rfl⟩
  obtain ⟨m, hm⟩ : ∃ m, min (b.length - done) (32 - ins) = m := ⟨_, rfl⟩
  rw [hsec, hins, hm]
  have hk : d.kept.length = d0.kept.length := by rw [h.kept]
  have hsl : sec < d.kept.length := by omega
  have hs32 : (d.sector sec).length = 32 := sector_length h.ok hsl
  have hr : d.read (sec : Int) = (d.sector sec, 0) := by rw [read_ok_at hd (by omega) (by omega), Int.toNat_natCast]
  have hpl : (piece b ⟨sec, ins, done, m⟩).length = m := piece_length (by show done + m ≤ _; omega)
  have hll : (lay (d.sector sec) ins (piece b ⟨sec, ins, done, m⟩)).length = 32 := lay_length hs32 (by rw [hpl]; omega)
  unfold doPart
  rw [hr]
  dsimp only
  rw [if_neg (by simp)]
  by_cases ha : d.armed = 1
  · exact .inl ⟨ha, by rw [write_stop_at hd (by omega) (by omega) (by omega) ha]⟩
  · refine .inr ⟨_, ha, write_ok_at hd (by omega) (by omega) (by omega) ha, decide_eq_false ha, rfl, ?_⟩
    rw [Int.toNat_natCast, pad_full hll]
    have hby : ∀ j, j < 32 → (lay (d.sector sec) ins (piece b ⟨sec, ins, done, m⟩)).getD j 0 = if A + done ≤ 32 * sec + j ∧ 32 * sec + j < A + done + m then b.getD (32 * sec + j - A) 0 else byte d (32 * sec + j) := by
      intro j hj
      rw [lay_get hs32 (by rw [hpl]; omega), hpl]
      by_cases h1 : ins ≤ j ∧ j < ins + m
      · rw [if_pos h1, if_pos (by omega), piece_get _ _ _ (by show j - ins < m; omega)]
        congr 1
        show done + (j - ins) = _
        omega
      · rw [if_neg h1, if_neg (by omega)]
        unfold byte
        rw [show (32 * sec + j) / 32 = sec by omega, show (32 * sec + j) % 32 = j by omega]
    obtain ⟨qs, hq1, hq2⟩ := h.pend
    refine ⟨h.kept, ⟨qs ++ [(sec, lay (d.sector sec) ins (piece b ⟨sec, ins, done, m⟩))], by show d.pend ++ _ = _; rw [hq1, List.append_assoc], ?_⟩, ?_, ?_, h.syncs⟩
    · intro q hq
      rcases List.mem_append.1 hq with hq | hq
      · exact hq2 q hq
      · obtain rfl := List.mem_singleton.1 hq
        intro j hj
        show (lay _ _ _).getD j 0 = _
        rw [hby j hj]
        dsimp only
        by_cases h1 : A + done ≤ 32 * sec + j ∧ 32 * sec + j < A + done + m
        · rw [if_pos h1, if_pos (by omega)]
        · rw [if_neg h1, h.byte _ (by omega)]
          by_cases h2 : A ≤ 32 * sec + j ∧ 32 * sec + j < A + done
          · rw [if_pos h2, if_pos (by omega)]
          · rw [if_neg h2, if_neg (by omega)]
    · intro p hp
      unfold byte
      rw [sector_app (d := d) (e := { d.step with pend := d.pend ++ [(sec, lay (d.sector sec) ins (piece b ⟨sec, ins, done, m⟩))], writes := d.writes + 1 }) (p := (sec, lay (d.sector sec) ins (piece b ⟨sec, ins, done, m⟩))) rfl rfl]
      dsimp only
      by_cases h0 : sec = p / 32
      · rw [if_pos h0, hby _ (Nat.mod_lt _ (by omega)), show 32 * sec + p % 32 = p by omega]
        by_cases h1 : A + done ≤ p ∧ p < A + done + m
        · rw [if_pos h1, if_pos (by omega)]
        · rw [if_neg h1, h.byte _ hp]
          by_cases h2 : A ≤ p ∧ p < A + done
          · rw [if_pos h2, if_pos (by omega)]
          · rw [if_neg h2, if_neg (by omega)]; rfl
      · rw [if_neg h0]
        have := h.byte p hp
        unfold byte at this
        rw [this]
        by_cases h2 : A ≤ p ∧ p < A + done
        · rw [if_pos h2, if_pos (by omega)]
        · rw [if_neg h2, if_neg (by omega)]
    · have := write_ok h.ok (sec : Int) (lay (d.sector sec) ins (piece b ⟨sec, ins, done, m⟩))
      rw [write_ok_at hd (by omega) (by omega) (by omega) ha, Int.toNat_natCast, pad_full hll] at this
      exact this
/-- All parts are put, up to the first that is not. -/
theorem put_all {d0 : Dev} {A : Nat} {b : List UInt8} (hA : A + b.length ≤ 32 * d0.kept.length) : ∀ (f done : Nat) (d : Dev), b.length ≤ done + f → done ≤ b.length → PutInv d0 d A b done → d.down = false →
    ((putParts d b (parts A b.length f done)).2 = 0 ∧ (putParts d b (parts A b.length f done)).1.down = false ∧ PutInv d0 (putParts d b (parts A b.length f done)).1 A b b.length ∧ (d.armed = 0 → (putParts d b (parts A b.length f done)).1.armed = 0)) ∨
    ((putParts d b (parts A b.length f done)).2 = 14 ∧ d.armed ≠ 0 ∧ (putParts d b (parts A b.length f done)).1.down = true ∧ ∃ k, PutInv d0 (putParts d b (parts A b.length f done)).1 A b k) := by
  intro f
  induction f with
  | zero =>
    intro done d h1 h2 hi hd
    obtain rfl : done = b.length := by omega
    exact .inl ⟨rfl, hd, hi, fun h => h⟩
  | succ f ih =>
    intro done d h1 h2 hi hd
    unfold parts
    by_cases hlt : done < b.length
    · rw [if_pos hlt]
      unfold putParts
      rcases put_step hi hd hlt hA with ⟨ha, e⟩ | ⟨d', ha, e, hd', ha', hi'⟩
      · rw [e]
        dsimp only
        rw [if_pos (by decide)]
        exact .inr ⟨rfl, by omega, decide_eq_true ha, done, ⟨hi.kept, hi.pend, hi.byte, hi.ok, hi.syncs⟩⟩
      · rw [e]
        dsimp only
        rw [if_neg (by decide)]
        rcases ih _ d' (by omega) (by omega) hi' hd' with ⟨g1, g2, g3, g4⟩ | ⟨g1, g2, g3, g4⟩
        · exact .inl ⟨g1, g2, g3, fun h0 => g4 (by omega)⟩
        · exact .inr ⟨g1, by omega, g3, g4⟩
    · rw [if_neg hlt]
      obtain rfl : done = b.length := by omega
      exact .inl ⟨rfl, hd, hi, fun h => h⟩
/-- The bytes from a place on. -/
def bytes (d : Dev) (A n : Nat) : List UInt8 := (List.range n).map (fun i => byte d (A + i))
theorem bytes_length (d : Dev) (A n : Nat) : (bytes d A n).length = n := by simp [bytes]
theorem bytes_get (d : Dev) (A n i : Nat) (h : i < n) : (bytes d A n).getD i 0 = byte d (A + i) := by simp [bytes, List.getD, h]
theorem list_ext0 {l m : List UInt8} (h1 : l.length = m.length) (h2 : ∀ i, i < l.length → l.getD i 0 = m.getD i 0) : l = m := by
  apply List.ext_getElem h1
  intro i hi hj
  have := h2 i hi
  simpa [List.getD, hi, hj] using this
theorem bytes_add (d : Dev) (A k m : Nat) : bytes d A (k + m) = bytes d A k ++ bytes d (A + k) m := by
  unfold bytes
  rw [List.range_add, List.map_append, List.map_map]
  congr 1
  apply List.map_congr_left
  intro i _
  simp only [Function.comp_apply, Nat.add_assoc]
theorem sector_part {d : Dev} {sec ins m : Nat} (hs : (d.sector sec).length = 32) (h : ins + m ≤ 32) : ((d.sector sec).drop ins).take m = bytes d (32 * sec + ins) m := by
  apply list_ext0
  · rw [bytes_length]; simp; omega
  · intro i hi
    have hi : i < m := by simp at hi; omega
    rw [bytes_get _ _ _ _ hi]
    unfold byte
    rw [show (32 * sec + ins + i) / 32 = sec by omega, show (32 * sec + ins + i) % 32 = ins + i by omega]
    simp [List.getD, hi]
theorem get_all {d : Dev} (ok : d.ok) (hd : d.down = false) {A n : Nat} (hA : A + n ≤ 32 * d.kept.length) : ∀ (f done : Nat), n ≤ done + f → done ≤ n → getParts d (bytes d A done) (parts A n f done) = (bytes d A n, 0) := by
  intro f
  induction f with
  | zero =>
    intro done h1 h2
    obtain rfl : done = n := by omega
    rfl
  | succ f ih =>
    intro done h1 h2
    unfold parts
    by_cases hlt : done < n
    · rw [if_pos hlt]
      obtain ⟨sec, hsec⟩ : ∃ sec, (A + done) / 32 = sec := ⟨_, rfl⟩
      obtain ⟨ins, hins⟩ : ∃ ins, (A + done) % 32 = ins := ⟨_, rfl⟩
      obtain ⟨m, hm⟩ : ∃ m, min (n - done) (32 - ins) = m := ⟨_, rfl⟩
      rw [hsec, hins, hm]
      have hsl : sec < d.kept.length := by omega
      have hr : d.read (sec : Int) = (d.sector sec, 0) := by rw [read_ok_at hd (by omega) (by omega), Int.toNat_natCast]
      unfold getParts
      dsimp only
      rw [hr]
      dsimp only
      rw [if_neg (by simp), sector_part (sector_length ok hsl) (by omega), show 32 * sec + ins = A + done by omega, ← bytes_add]
      exact ih _ (by omega) (by omega)
    · rw [if_neg hlt]
      obtain rfl : done = n := by omega
      rfl
end Go.Proofs.Ytopemjbakpahfaa.Jour
