/-
  The contracts of number and put: bytes as a number, a number as bytes.
-/
import Derived.Test.YtopemjbakpahfaaC2
namespace Go.Proofs.Ytopemjbakpahfaa
open Go.RowKit Crc
theorem bits_or64 {a b : Nat} (ha : a < 2 ^ 64) (hb : b < 2 ^ 64) : bits .or .u64 (a : Int) (b : Int) = ((a ||| b : Nat) : Int) := by
  show IntKind.u64.wrap ((BitVec.ofInt 64 (a : Int) ||| BitVec.ofInt 64 (b : Int)).toNat : Int) = _
  have h1 : (BitVec.ofInt 64 (a : Int) ||| BitVec.ofInt 64 (b : Int)).toNat = a ||| b := by
    rw [BitVec.toNat_or, BitVec.ofInt_natCast, BitVec.ofInt_natCast, BitVec.toNat_ofNat, BitVec.toNat_ofNat, Nat.mod_eq_of_lt ha, Nat.mod_eq_of_lt hb]
  rw [h1]
  have h2 : a ||| b < 2 ^ 64 := Nat.or_lt_two_pow ha hb
  exact IntWalk.u64_in _ (by omega)
theorem or_byte (n : Nat) (b : UInt8) (hn : n < 2 ^ 32) : bits .or .u64 ((n : Int) * 256) (b.toNat : Int) = ((256 * n + b.toNat : Nat) : Int) := by
  have hb := UInt8.toNat_lt b
  have h : ((n : Int) * 256) = ((2 ^ 8 * n : Nat) : Int) := by omega
  rw [h, bits_or64 (by omega) (by omega), ← Nat.two_pow_add_eq_or_of_lt hb]
theorem number_any (l : List UInt8) (a : Option Addr) (cap : Nat) (w : World) (hl : l.length ≤ 4) (hr : RB w a l) :
    Calls Try.prog 101 #[.slice a l.length cap] w fun e w' => e = .returned (.int .u64 (num l : Int)) ∧ w = w' := by
  have HR := Lib.hid hr
  clear hr
  have hl' : (l.length : Int) ≤ 4 := by omega
  go_enter Try.func101, Try.ntmps101
  go_wp2
  go_loop [3, 8] (fun v i => ∃ k : Nat, i = .int .i64 k ∧ k ≤ l.length ∧ v = .int .u64 (num (l.take k) : Int)) (fun _ i => l.length - (intOf i).toNat)
  case atStart => exact ⟨0, rfl, by omega, rfl⟩
  case round =>
    obtain ⟨k, rfl, hk, rfl⟩ := hrel
    by_cases hlt : k < l.length
    · obtain ⟨g, off, rfl, _, hc⟩ := HR.out k hlt
      have hs : Hid (num (l.take (k + 1)) = 256 * num (l.take k) + (l.getD k 0).toNat) := by rw [take_snoc l k 0 hlt, num_snoc]; rfl
      have hn : num (l.take k) < 16777216 := by
        have := num_lt (l.take k)
        have h3 : (l.take k).length ≤ 3 := by simp; omega
        have h4 : 256 ^ (l.take k).length ≤ 256 ^ 3 := Nat.pow_le_pow_right (by omega) h3
        omega
      generalize l.getD k 0 = b at hc hs
      generalize num (l.take k) = y at hs hn
      unfold byteV at hc
      have hb := UInt8.toNat_lt b
      have ho := Lib.hid (or_byte y b (by omega))
      have hlt' : (k : Int) < (l.length : Int) := by omega
      have h0 : (0 : Int) ≤ (k : Int) := by omega
      have hn' : (y : Int) < 16777216 := by omega
      go_wp2
      go_round
      case rel => exact ⟨k + 1, rfl, hlt, by rw [hs.out, ← ho.out]⟩
      case measure => simp [intOf]; omega
    · have hkl : k = l.length := by omega
      have hs : Hid (num l = num (l.take k)) := by rw [hkl, List.take_length]; rfl
      generalize num (l.take k) = y at hs
      have hlt' : ¬ (k : Int) < (l.length : Int) := by omega
      clear hkl
      go_wp2
      go_ret
      exact ⟨ret_int (by rw [hs.out]), rfl⟩
end Go.Proofs.Ytopemjbakpahfaa
