/-
  The contracts of Sum, of the program and of the reference, and of number: for all bytes. No condition but that the machine's numbers hold the length.
-/
import Derived.Test.YtopemjbakpahfaaC1
import Derived.Test.YtopemjbakpahfaaMem
namespace Go.Proofs.Ytopemjbakpahfaa
open Go.RowKit Crc
theorem xor_ones (y : W32) : bits .xor .u32 (y.toNat : Int) (4294967295 : Int) = ((~~~ y).toNat : Int) := by
  have h : (4294967295 : Int) = ((BitVec.allOnes 32).toNat : Int) := by decide
  rw [h, bits_xor, BitVec.xor_allOnes]
theorem max_xor (y : W32) : bits .xor .u32 IntKind.u32.max (y.toNat : Int) = ((~~~ y).toNat : Int) := by
  have h : IntKind.u32.max = ((BitVec.allOnes 32).toNat : Int) := by decide
  rw [h, bits_xor, BitVec.xor_comm, BitVec.xor_allOnes]
theorem sum_any (l : List UInt8) (a : Option Addr) (cap : Nat) (w : World) (hl : (l.length : Int) ≤ 9223372036854775807) (hr : RB w a l) :
    Calls Try.prog 28 #[.slice a l.length cap] w fun e w' => e = .returned (.int .u32 ((sum l).toNat : Int)) ∧ w = w' := by
  have HR := Lib.hid hr
  clear hr
  go_enter Try.func28, Try.ntmps28
  go_wp2
  go_loop [3, 8] (fun v i => ∃ k : Nat, i = .int .i64 k ∧ k ≤ l.length ∧ v = .int .u32 ((go (BitVec.allOnes 32) (l.take k)).toNat : Int)) (fun _ i => l.length - (intOf i).toNat)
  case atStart => exact ⟨0, rfl, by omega, rfl⟩
  case round =>
    obtain ⟨k, rfl, hk, rfl⟩ := hrel
    by_cases hlt : k < l.length
    · obtain ⟨g, off, rfl, _, hc⟩ := HR.out k hlt
      have hs : Hid (go (BitVec.allOnes 32) (l.take (k + 1)) = next (go (BitVec.allOnes 32) (l.take k)) (l.getD k 0)) := by rw [take_snoc l k 0 hlt, go_snoc]; rfl
      generalize l.getD k 0 = b at hc hs
      generalize go (BitVec.allOnes 32) (l.take k) = y at hs
      unfold byteV at hc
      have hlt' : (k : Int) < (l.length : Int) := by omega
      have h0 : (0 : Int) ≤ (k : Int) := by omega
      go_wp2_with (go_at_call 30; refine (next_any _ _ _).mono ?_; rintro e w' ⟨rfl, rfl⟩)
      go_round
      case rel => exact ⟨k + 1, rfl, hlt, by rw [hs.out]⟩
      case measure => simp [intOf]; omega
    · have hkl : k = l.length := by omega
      have hs : Hid (sum l = ~~~ (go (BitVec.allOnes 32) (l.take k))) := by rw [hkl, List.take_length]; rfl
      generalize go (BitVec.allOnes 32) (l.take k) = y at hs
      have hn := Lib.hid (max_xor y)
      have hy := y.isLt
      have hlt' : ¬ (k : Int) < (l.length : Int) := by omega
      clear hkl
      go_wp2
      go_ret
      exact ⟨ret_int (by rw [hs.out, ← hn.out]), rfl⟩
theorem rsum_any (l : List UInt8) (a : Option Addr) (cap : Nat) (w : World) (hl : (l.length : Int) ≤ 9223372036854775807) (hr : RB w a l) :
    Calls Try.prog 29 #[.slice a l.length cap] w fun e w' => e = .returned (.int .u32 ((sum l).toNat : Int)) ∧ w = w' := by
  have HR := Lib.hid hr
  clear hr
  go_enter Try.func29, Try.ntmps29
  go_wp2
  go_loop [3, 4] (fun v i => ∃ k : Nat, i = .int .i64 k ∧ k ≤ l.length ∧ v = .int .u32 ((go (BitVec.allOnes 32) (l.take k)).toNat : Int)) (fun _ i => l.length - (intOf i).toNat)
  case atStart => exact ⟨0, rfl, by omega, rfl⟩
  case round =>
    obtain ⟨k, rfl, hk, rfl⟩ := hrel
    by_cases hlt : k < l.length
    · obtain ⟨g, off, rfl, _, hc⟩ := HR.out k hlt
      have hs : Hid (go (BitVec.allOnes 32) (l.take (k + 1)) = next (go (BitVec.allOnes 32) (l.take k)) (l.getD k 0)) := by rw [take_snoc l k 0 hlt, go_snoc]; rfl
      generalize l.getD k 0 = b at hc hs
      generalize go (BitVec.allOnes 32) (l.take k) = y at hs
      unfold byteV at hc
      have hlt' : (k : Int) < (l.length : Int) := by omega
      have h0 : (0 : Int) ≤ (k : Int) := by omega
      go_wp2_with (go_at_call 31; refine (rnext_any _ _ _).mono ?_; rintro e w' ⟨rfl, rfl⟩)
      go_round
      case rel => exact ⟨k + 1, rfl, hlt, by rw [hs.out]⟩
      case measure => simp [intOf]; omega
    · have hkl : k = l.length := by omega
      have hs : Hid (sum l = ~~~ (go (BitVec.allOnes 32) (l.take k))) := by rw [hkl, List.take_length]; rfl
      generalize go (BitVec.allOnes 32) (l.take k) = y at hs
      have hn := Lib.hid (xor_ones y)
      have hy := y.isLt
      have hlt' : ¬ (k : Int) < (l.length : Int) := by omega
      clear hkl
      go_wp2
      go_ret
      exact ⟨ret_int (by rw [hs.out, ← hn.out]), rfl⟩
end Go.Proofs.Ytopemjbakpahfaa
