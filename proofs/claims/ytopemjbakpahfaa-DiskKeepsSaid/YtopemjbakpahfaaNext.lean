/-
  CrcNext: the walk, for all bytes. No condition.
-/
import Derived.Test.YtopemjbakpahfaaSmall
namespace Go.Proofs.Ytopemjbakpahfaa
open Go.RowKit Crc
/-- The law returns true, and changes nothing that was there. -/
def Yes (W : World) (en : Ending) (w' : World) : Prop := en = .returned (.bool true) ∧ Below W.heap.size W w'
theorem xor8 (x y : UInt8) : bits .xor .u8 (x.toNat : Int) (y.toNat : Int) = ((x ^^^ y).toNat : Int) := by
  show IntKind.u8.wrap ((BitVec.ofInt 8 (x.toNat : Int) ^^^ BitVec.ofInt 8 (y.toNat : Int)).toNat : Int) = _
  have h : ∀ z : UInt8, BitVec.ofInt 8 (z.toNat : Int) = z.toBitVec := fun z => by
    apply BitVec.eq_of_toNat_eq
    have := UInt8.toNat_lt z
    simp
  rw [h, h, ← UInt8.toBitVec_xor]
  show IntKind.u8.wrap ((x ^^^ y).toNat : Int) = _
  have := UInt8.toNat_lt (x ^^^ y)
  exact IntWalk.u8_in _ (by omega)
set_option maxRecDepth 100000 in
set_option maxHeartbeats 1000000 in
theorem next_law (b : List UInt8) (a : Option Addr) (cap : Nat) (c d : W32) (x y : UInt8) (W : World) (hc : b.length ≤ cap) (hm : cap ≤ maxLen) (hr : RB W a b) :
    Calls Try.prog 5 #[.slice a b.length cap, .int .u32 (c.toNat : Int), .int .u32 (d.toNat : Int), .int .u8 (x.toNat : Int), .int .u8 (y.toNat : Int)] W (Yes W) := by
  have HR := Lib.hid hr
  clear hr
  unfold maxLen at hm
  have hb : (b.length : Int) ≤ 9223372036854775807 := by omega
  go_enter Try.func5, Try.ntmps5
  go_wp2_with fail
  refine (small_any _).mono ?_
  rintro en w1 ⟨rfl, B1⟩
  have R1 := Lib.hid (HR.out.below B1)
  clear HR
  by_cases hl : 2000 < (b.length : Int)
  · go_wp2
    go_ret
    exact ⟨rfl, B1⟩
  go_wp2_with fail
  go_loop [12, 13] (fun v i => ∃ k : Nat, i = .int .i64 k ∧ k ≤ b.length ∧ v = .int .u32 ((go (BitVec.allOnes 32) (b.take k)).toNat : Int)) (fun _ i => b.length - (intOf i).toNat)
  case atStart => exact ⟨0, rfl, by omega, rfl⟩
  case round =>
    obtain ⟨k, rfl, hk, rfl⟩ := hrel
    by_cases hlt : k < b.length
    · obtain ⟨g, off, rfl, _, hcell⟩ := R1.out k hlt
      have hs : Hid (go (BitVec.allOnes 32) (b.take (k + 1)) = next (go (BitVec.allOnes 32) (b.take k)) (b.getD k 0)) := by rw [take_snoc b k 0 hlt, go_snoc]; rfl
      generalize b.getD k 0 = z at hcell hs
      generalize go (BitVec.allOnes 32) (b.take k) = u at hs
      unfold byteV at hcell
      have hlt' : (k : Int) < (b.length : Int) := by omega
      have h0 : (0 : Int) ≤ (k : Int) := by omega
      go_wp2_with (go_at_call 30; refine (next_any _ _ _).mono ?_; rintro e w' ⟨rfl, rfl⟩)
      go_round
      case rel => exact ⟨k + 1, rfl, hlt, by rw [hs.out]⟩
      case measure => simp [intOf]; omega
    · have hkl : k = b.length := by omega
      have hs : Hid (sum b = ~~~ (go (BitVec.allOnes 32) (b.take k))) := by rw [hkl, List.take_length]; rfl
      generalize go (BitVec.allOnes 32) (b.take k) = u at hs
      have hn := Lib.hid (xor_ones u)
      have hu := u.isLt
      have hlt' : ¬ (k : Int) < (b.length : Int) := by omega
      clear hkl
      go_wp2_with fail
      refine (sum_any b a cap _ (by omega) R1.out).mono ?_
      rintro en w2 ⟨rfl, rfl⟩
      rw [hs.out, ← hn.out]
      go_wp2_with fail
      rw [bits_xor, xor8]
      refine (next_any _ _ _).mono ?_
      rintro en w3 ⟨rfl, rfl⟩
      rw [next_xor, ← bits_xor]
      go_wp2_with (go_at_call 30; refine (next_any _ _ _).mono ?_; rintro e w' ⟨rfl, rfl⟩)
      go_ret
      exact ⟨rfl, B1⟩
end Go.Proofs.Ytopemjbakpahfaa
