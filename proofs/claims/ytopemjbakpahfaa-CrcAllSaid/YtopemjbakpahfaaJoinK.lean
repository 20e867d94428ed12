/-
  The contracts of Join, of the program and of the reference: for all rows. The lengths are small.
-/
import Derived.Test.YtopemjbakpahfaaRowsK
namespace Go.Proofs.Ytopemjbakpahfaa
open Go.RowKit Crc
def JoinOf (L : List (List UInt8)) (w : World) (en : Ending) (w' : World) : Prop :=
  Below w.heap.size w w' ∧ ((join L = none ∧ en = .returned (.tuple #[.slice none 0 0, .int .i64 1])) ∨
    ∃ x v, join L = some x ∧ en = .returned (.tuple #[v, .int .i64 0]) ∧ w'.ownsRow w.heap.size 5 1 v x.length (x.map byteV))
def JoinI (L : List (List UInt8)) (w : World) (ov iv : Value) (wr : World) : Prop :=
  ∃ (k : Nat) (pre : List UInt8), iv = .int .i64 k ∧ k ≤ L.length ∧ join L = (join (L.drop k)).map (pre ++ ·) ∧ pre.length ≤ k * 4102 ∧ wr.ownsRow w.heap.size 5 1 ov pre.length (pre.map byteV) ∧ Below w.heap.size w wr
set_option maxRecDepth 100000 in
set_option maxHeartbeats 4000000 in
theorem join_any (L : List (List UInt8)) (a : Option Addr) (cap : Nat) (w : World) (hL : L.length ≤ 1000) (hR : RR w a L) (hN : ∀ i, i < L.length → (L.getD i []).length ≤ 1000000) : Calls Try.prog 48 #[.slice a L.length cap] w (JoinOf L w) := by
  have HR := Lib.hid hR
  clear hR
  go_enter Try.func48, Try.ntmps48
  go_wp2
  go_loopw [4, 11] (fun ov iv wr => JoinI L w ov iv wr) (fun _ iv _ => L.length - (intOf iv).toNat)
  case atStart => exact ⟨0, [], rfl, Nat.zero_le _, by rw [List.drop_zero]; cases join L <;> simp, by simp, World.ownsRow_nil _ _ _ _, Below.refl _ _⟩
  case round =>
    obtain ⟨k, pre, rfl, hk, hj, hpl, hown, hbl⟩ := hrel
    have HJ := Lib.hid hj
    have HB := Lib.hid hbl
    clear hj hbl
    by_cases hlt : k < L.length
    · have hk0 : (0 : Int) ≤ (k : Int) := by omega
      have hki : (k : Int) < (L.length : Int) := by omega
      obtain ⟨g, off, u, rfl, hg, hcell, hu⟩ := HR.out k hlt
      have hlen := hN k hlt
      have HJK := Lib.hid (join_at hlt)
      generalize L.getD k [] = l at hu hlen HJK
      obtain ⟨al, cl, rfl, hlc, hln, hlr⟩ := hu
      have hcw : wr.cell? ⟨g, off + k, none⟩ = some (.slice al l.length cl) := (HB.out.cell (p := ⟨g, off + k, none⟩) hg).trans hcell
      have RL := Lib.hid (hlr.below HB.out)
      clear hlr hcell
      have hli : (l.length : Int) ≤ 9223372036854775807 := by omega
      by_cases h4 : 4096 < l.length
      · go_wp2_with fail
        refine (frame_long l al cl _ h4 hli).mono ?_
        rintro en w1 ⟨rfl, rfl⟩
        go_wp2
        go_ret2
        exact ⟨HB.out, .inl ⟨by rw [HJ.out, HJK.out, if_pos h4]; rfl, rfl⟩⟩
      · go_wp2_with fail
        refine (frame_any l al cl _ (by omega) hlc hln RL.out).mono ?_
        rintro en w1 ⟨v1, rfl, o1, b1⟩
        have hown1 := owns_below hown b1
        have hfl := frame_length l
        obtain ⟨a1, c1, rfl, q1, q2, q3⟩ := Bs.of_owns o1
        have Q3 := Lib.hid q3
        have B1 := below_on HB.out b1
        clear q3 hown b1
        go_wp2_with (at_builtin; refine app_bytes rfl (.tmp 23) (.tmp 24) rfl w.heap.size _ pre (frame l) _ rfl hown1 _ rfl q2 Q3.out (by omega) B1.size ?_; intro v2 w2 o2 b2 _; have B2 := B1.trans b2)
        go_roundw
        case rel => exact ⟨k + 1, pre ++ frame l, rfl, hlt, by rw [HJ.out, HJK.out, if_neg h4]; cases join (L.drop (k + 1)) <;> simp, by rw [List.length_append, hfl]; omega, o2, B2⟩
        case measure => simp only [intOf]; omega
    · have hki : ¬ (k : Int) < (L.length : Int) := by omega
      obtain rfl : k = L.length := by omega
      go_wp2
      go_ret2
      exact ⟨HB.out, .inr ⟨pre, _, by rw [HJ.out, List.drop_length]; simp [join], rfl, hown⟩⟩
set_option maxRecDepth 100000 in
set_option maxHeartbeats 4000000 in
theorem rjoin_any (L : List (List UInt8)) (a : Option Addr) (cap : Nat) (w : World) (hL : L.length ≤ 1000) (hR : RR w a L) (hN : ∀ i, i < L.length → (L.getD i []).length ≤ 1000000) : Calls Try.prog 49 #[.slice a L.length cap] w (JoinOf L w) := by
  have HR := Lib.hid hR
  clear hR
  go_enter Try.func49, Try.ntmps49
  go_wp2
  go_loopw [4, 5] (fun ov iv wr => JoinI L w ov iv wr) (fun _ iv _ => L.length - (intOf iv).toNat)
  case atStart => exact ⟨0, [], rfl, Nat.zero_le _, by rw [List.drop_zero]; cases join L <;> simp, by simp, World.ownsRow_nil _ _ _ _, Below.refl _ _⟩
  case round =>
    obtain ⟨k, pre, rfl, hk, hj, hpl, hown, hbl⟩ := hrel
    have HJ := Lib.hid hj
    have HB := Lib.hid hbl
    clear hj hbl
    by_cases hlt : k < L.length
    · have hk0 : (0 : Int) ≤ (k : Int) := by omega
      have hki : (k : Int) < (L.length : Int) := by omega
      obtain ⟨g, off, u, rfl, hg, hcell, hu⟩ := HR.out k hlt
      have hlen := hN k hlt
      have HJK := Lib.hid (join_at hlt)
      generalize L.getD k [] = l at hu hlen HJK
      obtain ⟨al, cl, rfl, hlc, hln, hlr⟩ := hu
      have hcw : wr.cell? ⟨g, off + k, none⟩ = some (.slice al l.length cl) := (HB.out.cell (p := ⟨g, off + k, none⟩) hg).trans hcell
      have RL := Lib.hid (hlr.below HB.out)
      clear hlr hcell
      have hli : (l.length : Int) ≤ 9223372036854775807 := by omega
      by_cases h4 : 4096 < l.length
      · go_wp2_with fail
        refine (rframe_long l al cl _ h4 hli).mono ?_
        rintro en w1 ⟨rfl, rfl⟩
        go_wp2
        go_ret2
        exact ⟨HB.out, .inl ⟨by rw [HJ.out, HJK.out, if_pos h4]; rfl, rfl⟩⟩
      · go_wp2_with fail
        refine (rframe_any l al cl _ (by omega) hlc hln RL.out).mono ?_
        rintro en w1 ⟨v1, rfl, o1, b1⟩
        have hown1 := owns_below hown b1
        have hfl := frame_length l
        obtain ⟨a1, c1, rfl, q1, q2, q3⟩ := Bs.of_owns o1
        have Q3 := Lib.hid q3
        have B1 := below_on HB.out b1
        clear q3 hown b1
        go_wp2_with (at_builtin; refine app_bytes rfl (.tmp 25) (.tmp 26) rfl w.heap.size _ pre (frame l) _ rfl hown1 _ rfl q2 Q3.out (by omega) B1.size ?_; intro v2 w2 o2 b2 _; have B2 := B1.trans b2)
        go_roundw
        case rel => exact ⟨k + 1, pre ++ frame l, rfl, hlt, by rw [HJ.out, HJK.out, if_neg h4]; cases join (L.drop (k + 1)) <;> simp, by rw [List.length_append, hfl]; omega, o2, B2⟩
        case measure => simp only [intOf]; omega
    · have hki : ¬ (k : Int) < (L.length : Int) := by omega
      obtain rfl : k = L.length := by omega
      go_wp2
      go_ret2
      exact ⟨HB.out, .inr ⟨pre, _, by rw [HJ.out, List.drop_length]; simp [join], rfl, hown⟩⟩
end Go.Proofs.Ytopemjbakpahfaa
