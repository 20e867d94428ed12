/-
  The contracts of Next, of the program and of the reference: for every word and every byte. No condition.
-/
import Derived.Test.YtopemjbakpahfaaKit
import Derived.Test.YtopemjbakpahfaaFrames
namespace Go.Proofs.Ytopemjbakpahfaa
open Go.RowKit Crc
theorem ofInt32 (y : W32) : BitVec.ofInt 32 (y.toNat : Int) = y := by simp
theorem wrap32 (y : W32) : IntKind.u32.wrap (y.toNat : Int) = (y.toNat : Int) := by
  have h := y.isLt
  exact IntWalk.u32_in _ (by omega)
theorem bits_xor (x y : W32) : bits .xor .u32 (x.toNat : Int) (y.toNat : Int) = ((x ^^^ y).toNat : Int) := by
  show IntKind.u32.wrap ((BitVec.ofInt 32 (x.toNat : Int) ^^^ BitVec.ofInt 32 (y.toNat : Int) : W32).toNat : Int) = _
  rw [ofInt32, ofInt32, wrap32]
theorem and1 (y : W32) : y &&& 1#32 = if y.getLsbD 0 then 1#32 else 0#32 := by
  apply BitVec.eq_of_getLsbD_eq
  intro i hi
  rw [BitVec.getLsbD_and, BitVec.getLsbD_one]
  cases i with
  | zero => cases h0 : y.getLsbD 0 <;> simp
  | succ i => cases h0 : y.getLsbD 0 <;> simp
theorem bits_and1 (y : W32) : bits .and .u32 (y.toNat : Int) (1 : Int) = (if y.getLsbD 0 then (1 : Int) else 0) := by
  show IntKind.u32.wrap ((BitVec.ofInt 32 (y.toNat : Int) &&& 1#32 : W32).toNat : Int) = _
  rw [ofInt32, wrap32, and1]
  cases h0 : y.getLsbD 0 <;> simp
theorem shr1 (y : W32) : ((y.toNat : Int) / (2 : Int)) = ((y >>> 1).toNat : Int) := by
  rw [BitVec.toNat_ushiftRight]; simp [Nat.shiftRight_succ]
theorem step_val (y : W32) : bits .xor .u32 ((y.toNat : Int) / (2 : Int)) ((3988292384 : Int) * bits .and .u32 (y.toNat : Int) (1 : Int) % (4294967296 : Int)) = ((sB y).toNat : Int) := by
  rw [bits_and1, shr1]
  have h : ((3988292384 : Int) * (if y.getLsbD 0 then (1 : Int) else 0) % (4294967296 : Int)) = (((if y.getLsbD 0 then poly else 0#32) : W32).toNat : Int) := by
    cases y.getLsbD 0 <;> simp [poly]
  rw [h, bits_xor]
  rfl
theorem xor_byte (c : W32) (b : UInt8) : bits .xor .u32 (c.toNat : Int) (b.toNat : Int) = ((c ^^^ wide b).toNat : Int) := by
  have : (b.toNat : Int) = ((wide b).toNat : Int) := by
    have hb := UInt8.toNat_lt b
    simp only [wide, BitVec.toNat_ofNat]
    rw [Nat.mod_eq_of_lt (by omega)]
  rw [this, bits_xor]
theorem ret_int {k : IntKind} {a b : Int} (h : a = b) : Ending.returned (.int k a) = .returned (.int k b) := by rw [h]
theorem ret_bool {a b : Bool} (h : a = b) : Ending.returned (.bool a) = .returned (.bool b) := by rw [h]
theorem next_any (c : W32) (b : UInt8) (w : World) : Calls Try.prog 30 #[.int .u32 (c.toNat : Int), .int .u8 (b.toNat : Int)] w fun e w' => e = .returned (.int .u32 ((next c b).toNat : Int)) ∧ w = w' := by
  have hb := UInt8.toNat_lt b
  have hx := Lib.hid (xor_byte c b)
  go_enter Try.func30, Try.ntmps30
  go_wp2
  go_loop [0, 9] (fun v i => ∃ k : Nat, i = .int .i64 k ∧ k ≤ 8 ∧ v = .int .u32 ((iter sB k (c ^^^ wide b)).toNat : Int)) (fun _ i => 8 - (intOf i).toNat)
  case atStart => exact ⟨0, rfl, by omega, by rw [hx.out]; rfl⟩
  case round =>
    obtain ⟨k, rfl, hk, rfl⟩ := hrel
    have hs := Lib.hid (step_val (iter sB k (c ^^^ wide b)))
    have hn : Hid (k = 8 → nB (c ^^^ wide b) = iter sB k (c ^^^ wide b)) := fun h => by rw [h]; rfl
    have hi : Hid (iter sB (k + 1) (c ^^^ wide b) = sB (iter sB k (c ^^^ wide b))) := rfl
    generalize iter sB k (c ^^^ wide b) = y at hs hn hi
    by_cases hlt : (k : Int) < 8
    · go_wp2
      go_round
      case rel => exact ⟨k + 1, rfl, by omega, by rw [hi.out, ← hs.out]⟩
      case measure => simp [intOf]; omega
    · go_wp2
      go_ret
      exact ⟨ret_int (by unfold next; rw [hn.out (by omega)]), rfl⟩
theorem odd_bit (y : W32) : ((y.toNat : Int) % 2 == 1) = y.getLsbD 0 := by
  rw [BitVec.getLsbD, Nat.testBit_zero, Bool.eq_iff_iff]
  simp
  omega
theorem half_odd (y : W32) (h : y.getLsbD 0 = true) : bits .xor .u32 ((y.toNat : Int) / (2 : Int)) (3988292384 : Int) = ((sB y).toNat : Int) := by
  have : (3988292384 : Int) = (poly.toNat : Int) := by decide
  rw [shr1, this, bits_xor]; unfold sB; rw [h]; rfl
theorem half_even (y : W32) (h : y.getLsbD 0 = false) : ((y.toNat : Int) / (2 : Int)) = ((sB y).toNat : Int) := by
  rw [shr1, sB_even h]
theorem rnext_any (c : W32) (b : UInt8) (w : World) : Calls Try.prog 31 #[.int .u32 (c.toNat : Int), .int .u8 (b.toNat : Int)] w fun e w' => e = .returned (.int .u32 ((next c b).toNat : Int)) ∧ w = w' := by
  have hb := UInt8.toNat_lt b
  have hx := Lib.hid (xor_byte c b)
  go_enter Try.func31, Try.ntmps31
  go_wp2
  go_loop [0, 5] (fun v i => ∃ k : Nat, i = .int .i64 k ∧ k ≤ 8 ∧ v = .int .u32 ((iter sB k (c ^^^ wide b)).toNat : Int)) (fun _ i => 8 - (intOf i).toNat)
  case atStart => exact ⟨0, rfl, by omega, by rw [hx.out]; rfl⟩
  case round =>
    obtain ⟨k, rfl, hk, rfl⟩ := hrel
    have hn : Hid (k = 8 → nB (c ^^^ wide b) = iter sB k (c ^^^ wide b)) := fun h => by rw [h]; rfl
    have hi : Hid (iter sB (k + 1) (c ^^^ wide b) = sB (iter sB k (c ^^^ wide b))) := rfl
    generalize iter sB k (c ^^^ wide b) = y at hn hi
    have hy := y.isLt
    by_cases hlt : (k : Int) < 8
    · cases hbit : y.getLsbD 0
      · have ho : ((y.toNat : Int) % 2 == 1) = false := by rw [odd_bit, hbit]
        have he := Lib.hid (half_even y hbit)
        clear hbit
        go_wp2
        go_round
        case rel => exact ⟨k + 1, rfl, by omega, by rw [hi.out, ← he.out]⟩
        case measure => simp [intOf]; omega
      · have ho : ((y.toNat : Int) % 2 == 1) = true := by rw [odd_bit, hbit]
        have he := Lib.hid (half_odd y hbit)
        clear hbit
        go_wp2
        go_round
        case rel => exact ⟨k + 1, rfl, by omega, by rw [hi.out, ← he.out]⟩
        case measure => simp [intOf]; omega
    · go_wp2
      go_ret
      exact ⟨ret_int (by unfold next; rw [hn.out (by omega)]), rfl⟩
end Go.Proofs.Ytopemjbakpahfaa
