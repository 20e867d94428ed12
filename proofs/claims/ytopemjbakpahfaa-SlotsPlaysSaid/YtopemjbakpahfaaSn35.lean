/-
  Contracts and plain laws, part 35 (texts: S4). No condition but what each states.
-/
import Derived.Test.YtopemjbakpahfaaSn34
/-
  Small functions that a head's reading calls: are all bytes zero; the number in four bytes. No condition but that the lengths are small.
-/
namespace Go.Proofs.Ytopemjbakpahfaa
open Go.RowKit Disk Jour Crc Slot
set_option linter.unusedSimpArgs false
set_option linter.unusedVariables false
theorem isnz_any (b : UInt8) (w : World) (z : Bool) (hz : ((b.toNat : Int) != 0) = z) : Calls Try.prog 107 #[.int .u8 (b.toNat : Int)] w fun en w' => en = .returned (.bool z) ∧ w = w' := by
  go_enter Try.func107, Try.ntmps107
  go_wp2
  go_ret
  exact ⟨rfl, rfl⟩
def NzOf (l : List UInt8) (w : World) (en : Ending) (w' : World) : Prop := ∃ n : Int, en = .returned (.int .i64 n) ∧ decide (0 ≤ n) = !zerosB l ∧ w = w'
theorem zerosB_all {l : List UInt8} (h : ∀ j, j < l.length → l.getD j 0 = 0) : zerosB l = true := by
  rw [zerosB_iff]
  intro x hx
  obtain ⟨i, hi, rfl⟩ := List.getElem_of_mem hx
  have := h i hi
  simpa [List.getD, hi] using this
theorem zerosB_not {l : List UInt8} {j : Nat} (hj : j < l.length) (h : l.getD j 0 ≠ 0) : zerosB l = false := by
  rw [Bool.eq_false_iff]
  intro hz
  rw [zerosB_iff] at hz
  exact h (hz _ (by simp [List.getD, hj]))
theorem nz_any (l : List UInt8) (a : Option Addr) (cap : Nat) (w : World) (hl : l.length ≤ 1000000) (hr : RB w a l) :
    Calls Try.prog 114 #[.slice a l.length cap, .func (.func 107) #[] #[]] w (NzOf l w) := by
  have HR := Lib.hid hr
  clear hr
  go_enter Try.func114, Try.ntmps114
  go_wp2_with fail
  go_loop [8] (fun i => ∃ k : Nat, i = .int .i64 k ∧ k ≤ l.length ∧ ∀ j, j < k → l.getD j 0 = 0) (fun i => l.length - (intOf i).toNat)
  case atStart => exact ⟨0, rfl, Nat.zero_le _, fun j hj => absurd hj (Nat.not_lt_zero j)⟩
  case round =>
    obtain ⟨k, rfl, hk, hz⟩ := hrel
    have HZ := Lib.hid hz
    clear hz
    by_cases hlt : k < l.length
    · obtain ⟨g, off, rfl, _, hc⟩ := HR.out k hlt
      have hk0 : (0 : Int) ≤ (k : Int) := by omega
      have hki : (k : Int) < (l.length : Int) := by omega
      have HL : Hid (k < l.length) := hlt
      unfold byteV at hc
      by_cases h0 : l.getD k 0 = 0
      · have NX : Hid (∀ j, j < k + 1 → l.getD j 0 = 0) := fun j hj => by
          rcases Nat.lt_or_ge j k with h | h
          · exact HZ.out j h
          · obtain rfl : j = k := by omega
            exact h0
        have hb : (((l.getD k 0).toNat : Int) != 0) = false := by rw [h0]; rfl
        have IZ := fun w => Lib.hid (isnz_any (l.getD k 0) w false hb)
        generalize l.getD k 0 = x at hc IZ
        clear hb h0
        go_wp2_with fail
        refine ((IZ w).out).mono ?_
        rintro en w1 ⟨rfl, rfl⟩
        go_wp2_with fail
        go_round
        case rel => exact ⟨k + 1, rfl, HL.out, NX.out⟩
        case measure => simp only [intOf]; have := HL.out; omega
      · have FIN : Hid (zerosB l = false) := zerosB_not hlt h0
        have hb : (((l.getD k 0).toNat : Int) != 0) = true := by
          rw [bne_iff_ne]
          intro h
          apply h0
          apply UInt8.toNat_inj.1
          have h2 : (l.getD k 0).toNat = 0 := by omega
          rw [h2]; rfl
        have IZ := fun w => Lib.hid (isnz_any (l.getD k 0) w true hb)
        generalize l.getD k 0 = x at hc IZ
        clear hb h0
        go_wp2_with fail
        refine ((IZ w).out).mono ?_
        rintro en w1 ⟨rfl, rfl⟩
        go_wp2_with fail
        go_ret
        exact ⟨(k : Int), rfl, by rw [FIN.out, decide_eq_true hk0]; rfl, rfl⟩
    · have hki : ¬ (k : Int) < (l.length : Int) := by omega
      have FIN : Hid (zerosB l = true) := zerosB_all (fun j hj => HZ.out j (by omega))
      clear hlt
      go_wp2_with fail
      go_ret
      exact ⟨-1, rfl, by rw [FIN.out]; rfl, rfl⟩
theorem hasnz_any (l : List UInt8) (a : Option Addr) (cap : Nat) (w : World) (hl : l.length ≤ 1000000) (hr : RB w a l) :
    Calls Try.prog 106 #[.slice a l.length cap, .func (.func 107) #[] #[]] w fun en w' => en = .returned (.bool (!zerosB l)) ∧ w = w' := by
  have HN := Lib.hid (nz_any l a cap w hl hr)
  clear hr
  go_enter Try.func106, Try.ntmps106
  go_wp2_with fail
  refine (HN.out).mono ?_
  rintro en w1 ⟨n, rfl, hn, rfl⟩
  have H := Lib.hid hn
  clear hn
  go_wp2_with fail
  go_ret
  exact ⟨ret_bool H.out, rfl⟩
theorem zero_any (l : List UInt8) (a : Option Addr) (cap : Nat) (w : World) (hl : l.length ≤ 1000000) (hr : RB w a l) (z : Bool) (hz : zerosB l = z) :
    Calls Try.prog 105 #[.slice a l.length cap] w fun en w' => en = .returned (.bool z) ∧ w = w' := by
  have HN := Lib.hid (hasnz_any l a cap w hl hr)
  rw [hz] at HN
  clear hr hz
  go_enter Try.func105, Try.ntmps105
  go_wp2_with fail
  refine (HN.out).mono ?_
  rintro en w1 ⟨rfl, rfl⟩
  go_wp2_with fail
  go_ret
  exact ⟨ret_bool (by cases z <;> rfl), rfl⟩
theorem bits_or64i {a b : Nat} (ha : a < 2 ^ 63) (hb : b < 2 ^ 63) : bits .or .i64 (a : Int) (b : Int) = ((a ||| b : Nat) : Int) := by
  show IntKind.i64.wrap ((BitVec.ofInt 64 (a : Int) ||| BitVec.ofInt 64 (b : Int)).toNat : Int) = _
  have h1 : (BitVec.ofInt 64 (a : Int) ||| BitVec.ofInt 64 (b : Int)).toNat = a ||| b := by
    rw [BitVec.toNat_or, BitVec.ofInt_natCast, BitVec.ofInt_natCast, BitVec.toNat_ofNat, BitVec.toNat_ofNat, Nat.mod_eq_of_lt (by omega), Nat.mod_eq_of_lt (by omega)]
  rw [h1]
  have h2 : a ||| b < 2 ^ 63 := Nat.or_lt_two_pow ha hb
  exact IntWalk.i64_in _ (by omega)
theorem or_bytei (n : Nat) (b : UInt8) (hn : n < 2 ^ 32) : bits .or .i64 ((n : Int) * 256) (b.toNat : Int) = ((256 * n + b.toNat : Nat) : Int) := by
  have hb := UInt8.toNat_lt b
  have h : ((n : Int) * 256) = ((2 ^ 8 * n : Nat) : Int) := by omega
  rw [h, bits_or64i (by omega) (by omega), ← Nat.two_pow_add_eq_or_of_lt hb]
theorem fourat_any (x : List UInt8) (p : Nat) (bb gb cap : Nat) (w : World) (hp : p + 4 ≤ x.length) (hx : x.length = 13) (hc : 13 ≤ cap) (hb : Boxed w bb 22 (.slice (some ⟨gb, 0, none⟩) 13 cap)) (hr : RB w (some ⟨gb, 0, none⟩) x) :
    Calls Try.prog 108 #[.int .i64 (p : Int), .pointer (some ⟨bb, 0, none⟩)] w fun en w' => en = .returned (.int .i64 (num ((x.drop p).take 4) : Int)) ∧ w = w' := by
  have hl : ((x.drop p).take 4).length = 4 := by simp; omega
  have HR : Hid (RB w (some ⟨gb, 0 + p, none⟩) ((x.drop p).take 4)) := (hr.drop p).take 4
  generalize hld : (x.drop p).take 4 = l at HR hl ⊢
  clear hld hr
  have c0 := hb.cell
  have hp0 : (0 : Int) ≤ (p : Int) := by omega
  have hp9 : (p : Int) ≤ 9 := by omega
  have hci : (13 : Int) ≤ (cap : Int) := by omega
  have hlt : ¬ cap = p := by omega
  clear hb
  have HLL := Lib.hid hl
  clear hl
  go_enter Try.func108, Try.ntmps108
  go_wp2_with fail
  rw [show p + 4 - p = 4 by omega]
  go_loop [4, 13] (fun v i => ∃ k : Nat, i = .int .i64 k ∧ k ≤ 4 ∧ v = .int .i64 (num (l.take k) : Int)) (fun _ i => 4 - (intOf i).toNat)
  case atStart => exact ⟨0, rfl, by omega, rfl⟩
  case round =>
    obtain ⟨k, rfl, hk, rfl⟩ := hrel
    by_cases hlt : k < 4
    · have hc := rb_at HR.out k (by rw [HLL.out]; exact hlt)
      rw [Nat.zero_add] at hc
      have hs : Hid (num (l.take (k + 1)) = 256 * num (l.take k) + (l.getD k 0).toNat) := by rw [take_snoc l k 0 (by rw [HLL.out]; exact hlt), num_snoc]; rfl
      have hn : num (l.take k) < 16777216 := by
        have := num_lt (l.take k)
        have h3 : (l.take k).length ≤ 3 := by simp; omega
        have h4 : 256 ^ (l.take k).length ≤ 256 ^ 3 := Nat.pow_le_pow_right (by omega) h3
        omega
      generalize l.getD k 0 = b at hc hs
      generalize num (l.take k) = y at hs hn
      unfold byteV at hc
      have hb := UInt8.toNat_lt b
      have ho := Lib.hid (or_bytei y b (by omega))
      have hlt' : (k : Int) < 4 := by omega
      have h0 : (0 : Int) ≤ (k : Int) := by omega
      have hn' : (y : Int) < 16777216 := by omega
      go_wp2
      go_round
      case rel => exact ⟨k + 1, rfl, by omega, by rw [hs.out, ← ho.out]⟩
      case measure => simp [intOf]; omega
    · have hkl : k = 4 := by omega
      have hs : Hid (num l = num (l.take k)) := by rw [hkl, List.take_of_length_le (by rw [HLL.out]; exact Nat.le_refl _)]; rfl
      generalize num (l.take k) = y at hs
      have hlt' : ¬ (k : Int) < 4 := by omega
      clear hkl
      go_wp2
      go_ret
      exact ⟨ret_int (by rw [hs.out]), rfl⟩
end Go.Proofs.Ytopemjbakpahfaa
