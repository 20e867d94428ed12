/-
  The contract of the document's own All: for all bytes.
-/
import Derived.Test.YtopemjbakpahfaaRCut
import Derived.Test.YtopemjbakpahfaaAll
namespace Go.Proofs.Ytopemjbakpahfaa
open Go.RowKit Crc
theorem rcut_at (b : List UInt8) (a : Option Addr) (len cap : Nat) (w : World) (hl : b.length = len) (hc : b.length ≤ cap) (hm : cap ≤ maxLen) (hb : b.length ≤ 1000000) (hr : RB w a b) : Calls Try.prog 27 #[.slice a len cap] w (CutNew b w) := by
  subst hl; exact rcut_any b a cap w hc hm hb hr
theorem rowsOf_kept {A B : World} {base : Nat} {v : Value} {L : List (List UInt8)} (h : RowsOf A base v L) (hb : Below A.heap.size A B) : RowsOf B base v L := by
  obtain ⟨vs, h1, h2, h3⟩ := h
  exact ⟨vs, owns_below h1 hb, h2, fun i u l e1 e2 => owns_below (h3 i u l e1 e2) hb⟩
theorem rowsOf_base {A : World} {base base' : Nat} {v : Value} {L : List (List UInt8)} (h : RowsOf A base v L) (hb : base' ≤ base) : RowsOf A base' v L := by
  obtain ⟨vs, h1, h2, h3⟩ := h
  exact ⟨vs, ownsRow_base h1 hb, h2, fun i u l e1 e2 => ownsRow_base (h3 i u l e1 e2) hb⟩
theorem rowsOf_nil (W : World) (base : Nat) : RowsOf W base (.slice none 0 0) [] := ⟨[], World.ownsRow_nil _ _ _ _, rfl, fun i u l h => by simp at h⟩
/-- One more row behind the rows. -/
theorem rowsOf_snoc {A w1 : World} {base : Nat} {vo v' u : Value} {L : List (List UInt8)} {vs : List Value} {x : List UInt8} (hrow : A.ownsRow base 22 1 vo vs.length vs) (hrl : vs.length = L.length)
    (hrs : ∀ (i : Nat) (u : Value) (l : List UInt8), vs[i]? = some u → L[i]? = some l → A.ownsRow base 5 1 u l.length (l.map byteV)) (hu : A.ownsRow base 5 1 u x.length (x.map byteV))
    (hown : w1.ownsRow base 22 1 v' (vs.length + 1) (vs ++ [u])) (hgrow : A.grownBy w1 vo.ownBlock) : RowsOf w1 base v' (L ++ [x]) := by
  have ra := rowOf_owns hrow
  have each : ∀ {u : Value} {l : List UInt8}, A.ownsRow base 5 1 u l.length (l.map byteV) → w1.ownsRow base 5 1 u l.length (l.map byteV) := fun h => owns_other h hgrow ra (by decide)
  exact ⟨vs ++ [u], by simpa using hown, by simp [hrl], row_snoc hrl (fun i u l e1 e2 => each (hrs i u l e1 e2)) (each hu) (Nat.le_refl _)⟩
def RAllI (b : List UInt8) (w : World) (ov nv : Value) (wr : World) : Prop :=
  ∃ (k : Nat) (pre : List (List UInt8)), nv = .int .i64 k ∧ k ≤ b.length ∧ all b = (pre ++ (all (b.drop k)).1, k + (all (b.drop k)).2) ∧ RowsOf wr w.heap.size ov pre ∧ Below w.heap.size w wr
set_option maxRecDepth 100000 in
set_option maxHeartbeats 4000000 in
theorem rall_any (b : List UInt8) (a : Option Addr) (cap : Nat) (w : World) (hc : b.length ≤ cap) (hm : cap ≤ maxLen) (hb : b.length ≤ 1000000) (hn : a = none → cap = 0) (hr : RB w a b) : Calls Try.prog 47 #[.slice a b.length cap] w (AllOf b w) := by
  have HR := Lib.hid hr
  have HM := Lib.hid hm
  clear hr
  unfold maxLen at hm
  obtain ⟨i0, hi, hz0, hz1, hz2⟩ := info_parts info22
  go_enter Try.func47, Try.ntmps47
  go_wp2
  go_loopw [4, 5] (fun ov nv wr => RAllI b w ov nv wr) (fun _ nv _ => b.length + 1 - (intOf nv).toNat)
  case atStart => exact ⟨0, [], rfl, Nat.zero_le _, by simp, rowsOf_nil _ _, Below.refl _ _⟩
  case round =>
    obtain ⟨k, pre, rfl, hk, hall, hrows, hbl⟩ := hrel
    have HA := Lib.hid hall
    have HW := Lib.hid hrows
    have HB := Lib.hid hbl
    have hk0 : (0 : Int) ≤ (k : Int) := by omega
    have hkb : (k : Int) ≤ (b.length : Int) := by omega
    have hkc : (k : Int) ≤ (cap : Int) := by omega
    have hpl : pre.length ≤ 1000000 := by
      have h1 := all_len b
      rw [hall] at h1
      simp at h1
      omega
    have hdl : Hid ((b.drop k).length = b.length - k) := by show _ = _; simp
    clear hall hrows hbl
    have hcase : (a = none ∧ cap = 0 ∧ k = 0 ∧ b = []) ∨ (∃ ad, a = some ad ∧ k = 0 ∧ b = []) ∨ ∃ g off, a = some ⟨g, off, none⟩ := by
      rcases Nat.eq_zero_or_pos b.length with h0 | h0
      · have hb0 := List.eq_nil_of_length_eq_zero h0
        cases a with
        | none => exact .inl ⟨rfl, hn rfl, by omega, hb0⟩
        | some ad => exact .inr (.inl ⟨ad, rfl, by omega, hb0⟩)
      · obtain ⟨g, off, e, _⟩ := HR.out 0 h0
        exact .inr (.inr ⟨g, off, e⟩)
    obtain ⟨bk, hbk⟩ : ∃ bk, b.drop k = bk := ⟨_, rfl⟩
    have BK := Lib.hid hbk
    rw [hbk] at hdl HA
    have hrd : Hid (∀ g off, a = some ⟨g, off, none⟩ → RB wr (some ⟨g, off + k, none⟩) bk) := fun g off e => by
      subst e; rw [← BK.out]; exact (HR.out.below HB.out).drop k
    clear hbk
    rcases hcase with ⟨rfl, rfl, rfl, rfl⟩ | ⟨ad, rfl, rfl, rfl⟩ | ⟨g, off, rfl⟩
    all_goals go_wp2_with fail
    all_goals refine (rcut_at bk _ _ _ _ (by have h := hdl.out; (try simp only [List.length_nil] at h); omega) (by have h := hdl.out; (try simp only [List.length_nil] at h); omega) (by have := HM.out; omega) (by have h := hdl.out; (try simp only [List.length_nil] at h); omega) (by first | exact RB.zero (by have h := hdl.out; (try simp only [List.length_nil] at h); omega) | exact hrd.out _ _ rfl)).mono ?_
    all_goals rintro en w1 ⟨b1, ⟨e, rfl⟩ | ⟨h, r, v1, v2, e, rfl, o1, o2⟩⟩
    all_goals have B1 := below_on HB.out b1
    all_goals have RW := Lib.hid (rowsOf_kept HW.out b1)
    all_goals have E := Lib.hid e
    all_goals try have HE := cut_some e
    all_goals clear e b1
    all_goals try (exfalso; have h1 := hdl.out; have h2 := HE.2.2; (try simp only [List.length_nil] at h1); omega)
    all_goals try obtain ⟨ac, capc, rfl, _, _, _⟩ := RB.of_owns o1
    all_goals obtain ⟨vs, hrow, hrl, hrs⟩ := RW.out
    all_goals have hvl : vs.length ≤ 1000000 := by omega
    all_goals go_wp2_with (at_builtin; refine wpList_append_own _ rfl (.tmp 25) (.tmp 27) 56 rfl w.heap.size 22 i0 (.slice none 0 0) 1 24 Try.underlying56 hi hz0 hz1 hz2 rfl (by decide) _ _ _ rfl (hrow.alloc _) ⟨w1.heap.size, 0, none⟩ 1 1 [_] rfl rfl (cell_one_at rfl) (by simp [Value.oneCell']) (by unfold maxLen; omega) (by omega) (Nat.le_trans B1.size (by simp)) ?_; intro v' w3 own' g' _; have B3 := (B1.alloc B1.size _).grown g' (Nat.le_trans B1.size (by simp)) (fun j hj => (hrow.lt j hj).1))
    all_goals try (
      go_ret2
      refine ⟨B1, u4, ?_, ?_⟩
      · rw [HA.out, all_none E.out]; rfl
      · rw [HA.out, all_none E.out]; simpa using RW.out)
    refine ⟨⟨k + 6 + h.length, pre ++ [h], by push_cast; rfl, by have := hdl.out; omega, ?_, rowsOf_snoc (hrow.alloc _) hrl (fun i u l e1 e2 => (hrs i u l e1 e2).alloc _) ((ownsRow_base o1 HB.out.size).alloc _) own' g', B3⟩, by simp only [intOf]; have := hdl.out; omega⟩
    have hr : b.drop (k + 6 + h.length) = r := by
      rw [Nat.add_assoc, ← List.drop_drop, BK.out, HE.2.1]
      exact List.drop_left' (by rw [frame_length]; omega)
    rw [hr, HA.out, all_some E.out]
    simp only [List.append_assoc, List.cons_append, List.nil_append, Prod.mk.injEq, true_and]
    omega
end Go.Proofs.Ytopemjbakpahfaa
