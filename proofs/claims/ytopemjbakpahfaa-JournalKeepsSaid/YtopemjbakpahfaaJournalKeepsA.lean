/-
  Contracts and plain laws, part 16 (texts: KeepsL). No condition but what each states.
-/
import Derived.Test.YtopemjbakpahfaaJn15
/-
  JournalKeeps: the walk, for all areas, places and bytes. No condition.
-/
namespace Go.Proofs.Ytopemjbakpahfaa
open Go.RowKit Disk Jour
theorem jput_no {d : Dev} {first N : Nat} {p : Int} {b : List UInt8} (hp : 0 ≤ p) (h : roomB N p b.length = false) : (jput d first N p b).1 = d := by
  unfold jput
  rw [if_neg (by omega), h, if_neg (by decide)]
set_option maxRecDepth 100000 in
set_option maxHeartbeats 4000000 in
theorem jkeeps_law (fi se p : Int) (b : List UInt8) (a : Option Addr) (cap : Nat) (o : List UInt8) (ao : Option Addr) (co : Nat) (W : World) (hfi : fi ≤ 9223372036854775807)
    (hlc : b.length ≤ cap) (hn : a = none → cap = 0) (hr : RB W a b) (hlo : o.length ≤ co) (hno : ao = none → co = 0) (hro : RB W ao o) :
    Calls Try.prog 14 #[.int .i64 fi, .int .i64 se, .int .i64 p, .slice a b.length cap, .slice ao o.length co] W (Yes W) := by
  have HR := Lib.hid hr
  have HRO := Lib.hid hro
  have HN : Hid (a = none → b = []) := fun e => List.eq_nil_of_length_eq_zero (by have := hn e; omega)
  have HNO : Hid (ao = none → o = []) := fun e => List.eq_nil_of_length_eq_zero (by have := hno e; omega)
  clear hr hn hro hno
  go_enter Try.func14, Try.ntmps14
  go_wp2_with fail
  refine (jsmall_any _).mono ?_
  rintro en w1 ⟨rfl, B1⟩
  go_wp2_with fail
  refine (new_any w1 20).mono ?_
  rintro en w2 ⟨X, rfl, b2, hX, D1⟩
  rw [show sizeOfDev 20 = 20 by decide +kernel] at D1
  have B2 := B1.trans (b2.mono B1.size)
  by_cases h1 : 500 < (b.length : Int)
  · go_wp2
    go_ret
    exact ⟨rfl, B2⟩
  by_cases h2 : 800 < (o.length : Int)
  · go_wp2
    go_ret
    exact ⟨rfl, B2⟩
  have hs1 := B1.size
  have U0 := Lib.hid (Up.new 20)
  obtain ⟨F1, hF1⟩ : ∃ F : Nat → Prop, (fun k => w1.heap.size ≤ k ∧ k < w2.heap.size) = F := ⟨_, rfl⟩
  have G1 : Hid (∀ k, F1 k → W.heap.size ≤ k) := by rw [← hF1]; exact fun k hk => by omega
  rw [hF1] at D1
  clear hF1
  generalize Dev.new 20 = d0 at D1 U0
  have hk0 : d0.kept.length = 20 := U0.out.kept
  have hp0 : d0.pend.length ≤ 0 := U0.out.pend
  have hw0 : d0.writes ≤ 0 := U0.out.writes
  obtain ⟨N, hN⟩ : ∃ N, asize fi se 20 = N := ⟨_, rfl⟩
  obtain ⟨f, hf⟩ : ∃ f, fi.toNat = f := ⟨_, rfl⟩
  have hNf := asize_le fi se 20
  rw [hN, hf] at hNf
  have NF := Lib.hid hNf
  have NF2 : Hid (N = 0 ∨ f ≤ 1024) := Lib.hid (hNf.imp_right (by omega))
  have hof := of_any D1 (by omega) fi se hfi
  rw [hk0, hN, hf] at hof
  have HOF := Lib.hid hof
  clear hN hf hNf hof
  go_wp2_with fail
  refine HOF.out.mono ?_
  rintro en w3 ⟨A, rfl, b3, hA, I3⟩
  have D3 := D1.below b3
  have B3 := B2.trans (b3.mono B2.size)
  have nA : ¬ F1 A := fun h => by have := D1.lt A h; omega
  clear HOF D1 b3 B2
  obtain ⟨u1, z1, y1⟩ := put_up U0.out NF.out 0 o
  have U1 := Lib.hid u1
  have Z1 := Lib.hid z1
  clear u1 z1 y1
  go_wp2_with fail
  refine (fits_any I3 0 o ao co).mono ?_
  rintro en w4 ⟨rfl, rfl⟩
  cases hroom : roomB N 0 o.length
  · have hd1 := jput_no (d := d0) (first := f) (Int.le_refl 0) hroom
    rw [hd1] at U1
    obtain ⟨w4, rfl⟩ : ∃ w4, w4 = w3 := ⟨_, rfl⟩
    obtain ⟨d1, rfl⟩ : ∃ d1, d1 = d0 := ⟨_, rfl⟩
    have D4 := D3
    have I4 := I3
    have B4 := B3
    have nA4 := nA
    have G2 := G1
    have hq1 : d1.pend.length ≤ 1000 := by omega
    have hq1w : d1.writes ≤ 1000 := by omega
    clear D3 I3 B3 nA G1 hd1 hroom Z1 hp0 hw0 hk0 U0
    go_wp2_with fail
    refine (size_any I4).mono ?_
    rintro en w5 ⟨rfl, rfl⟩
    have hg4 := get_any D4 I4 0 (32 * (N : Int)) (by omega) NF2.out
    rw [get_up U1.out NF.out] at hg4
    have HG4 := Lib.hid hg4
    obtain ⟨was, hwas⟩ : ∃ l, Jour.bytes d1 (32 * f) (32 * N) = l := ⟨_, rfl⟩
    have hwl : was.length = 32 * N := by rw [← hwas]; exact bytes_length _ _ _
    rw [hwas] at HG4
    have WAS := Lib.hid hwas
    have WL := Lib.hid hwl
    clear hg4 hwas hwl
    go_wp2_with fail
    refine HG4.out.mono ?_
    rintro en w5 ⟨b5, v5, rfl, o5⟩
    have D5 := D4.below b5
    have I5 := I4.below b5
    have B5 := B4.trans (b5.mono B4.size)
    obtain ⟨a5, c5, rfl, l5, m5, _⟩ := RB.of_owns o5
    have O5 := Lib.hid o5
    have hwb : ((was.length : Int) != 32 * (N : Int)) = false := by rw [WL.out]; simp
    have hG2 := G2.out
    have KW := Lib.hid (fun k hk => (o5.lt k hk).2)
    have KW1 := Lib.hid (fun k hk => (o5.lt k hk).1)
    have L4 := Lib.hid D4.lt
    clear D4 I4 B4 b5 o5 HG4
    go_wp2_with fail
    refine (size_any I5).mono ?_
    rintro en w6 ⟨rfl, rfl⟩
    obtain ⟨u2, z2, y2⟩ := put_up U1.out NF.out p b
    have hkb := fun i hi => keeps_byte U1.out NF.out p b i hi
    have hg6 := get_up u2 NF.out
    obtain ⟨now, hnow⟩ : ∃ l, Jour.bytes (jput d1 f N p b).1 (32 * f) (32 * N) = l := ⟨_, rfl⟩
    have hnl : now.length = 32 * N := by rw [← hnow]; exact bytes_length _ _ _
    rw [hnow] at hkb hg6
    rw [WAS.out] at hkb
    have KB := Lib.hid hkb
    have NL := Lib.hid hnl
    have HG6 := Lib.hid hg6
    have Z2 := Lib.hid z2
    have hq2 := u2.pend
    have hq2' : (jput d1 f N p b).1.pend.length ≤ 5000 := by omega
    clear hkb hnow hnl hg6 u2 z2 y2 hq2
    go_wp2_with fail
    have hput := put_any D5 I5 nA4 p b a cap HN.out hlc (fun w' hf => HR.out.below (B5.trans (hf.below hG2 B5.size))) (by omega) (by omega) NF2.out
    refine hput.mono ?_
    intro en w6 h6
    have f6 := h6.2.1
    have I6 := I5.frm f6 nA4
    obtain ⟨rfl, _, b6, F6, D6, g6, n6⟩ := h6.out hG2 B5.size
    have B6 := B5.trans b6
    have o6 := owns_block O5.out (B := w6) (fun k hk => f6.block k (KW.out k hk) (fun hF => by have h1 := L4.out k hF; have h2 := KW1.out k hk; omega))
    have O6 := Lib.hid o6
    clear hput h6 b6 g6 n6 D5 I5 B5 O5 KW KW1 f6 o6 L4 hG2
    generalize (jput d1 f N p b).2 = bad at Z2 ⊢
    generalize (jput d1 f N p b).1 = d2 at D6 HG6 hq2'
    go_wp2_with fail
    refine (fits_any I6 p b a cap).mono ?_
    rintro en w7 ⟨rfl, rfl⟩
    have hg7 := get_any D6 I6 0 (32 * (N : Int)) (by omega) NF2.out
    rw [HG6.out] at hg7
    have HG7 := Lib.hid hg7
    clear hg7
    cases hrm : roomB N p b.length
    all_goals
      first
        | (have hb0 : ((bad : Int) == 0) = false := by rw [beq_eq_false_iff_ne]; intro h; have := Z2.out.1 h; rw [hrm] at this; cases this)
        | (have hb0 : ((bad : Int) == 0) = true := by rw [beq_iff_eq]; exact Z2.out.2 hrm)
      have HRM := Lib.hid hrm
      clear hrm Z2
      go_wp2_with fail
      refine (size_any I6).mono ?_
      rintro en w7 ⟨rfl, rfl⟩
      go_wp2_with fail
      refine HG7.out.mono ?_
      rintro en w7 ⟨b7, v7, rfl, o7⟩
      have B7 := B6.trans (b7.mono B6.size)
      obtain ⟨a7, c7, rfl, l7, m7, r7⟩ := RB.of_owns o7
      obtain ⟨a5', c5', e5, _, _, r5⟩ := RB.of_owns (owns_below O6.out b7)
      cases e5
      have R7 := Lib.hid r7
      have R5 := Lib.hid r5
      have RB7 := Lib.hid (HR.out.below B7)
      have hnw : ((now.length : Int) != (was.length : Int)) = false := by rw [NL.out, WL.out]; simp
      clear b7 o7 r7 r5 HG7 HG6 O6 D6 I6 B6
      go_wp2_with fail
      go_loop [19] (fun iv => ∃ i : Nat, iv = .int .i64 i ∧ i ≤ 32 * N) (fun iv => 32 * N - (intOf iv).toNat)
      case atStart => exact ⟨0, rfl, Nat.zero_le _⟩
      case round =>
        obtain ⟨i, rfl, hi⟩ := hrel
        have hnl := NL.out
        have hwl := WL.out
        by_cases hlt : i < 32 * N
        · have hi0 : (0 : Int) ≤ (i : Int) := by omega
          have hii : (i : Int) < (now.length : Int) := by omega
          have hiw : (i : Int) < (was.length : Int) := by omega
          obtain ⟨g7, f7, rfl, _, e7⟩ := R7.out i (by rw [hnl]; exact hlt)
          obtain ⟨g5, f5, rfl, _, e5⟩ := R5.out i (by rw [hwl]; exact hlt)
          have hkb := KB.out i hlt
          rw [HRM.out] at hkb
          have HKB := Lib.hid hkb
          clear hkb hnl hwl
          have hN20 : N ≤ 20 := by rcases NF.out with h | h <;> omega
          unfold byteV at e7 e5
          first
            | (have hbf : ((bad : Int) == 0) = false := hb0
               have e : now.getD i 0 = was.getD i 0 := by rw [HKB.out]; simp
               rw [e] at e7
               generalize was.getD i 0 = x at e5 e7
               clear HKB e
               go_wp2
               go_round
               case rel => exact ⟨i + 1, rfl, hlt⟩
               case measure => simp only [intOf]; omega)
            | (have hbt : ((bad : Int) == 0) = true := hb0
               obtain ⟨hp0, hp1, hp2⟩ := (roomB_iff _ _ _).1 HRM.out
               by_cases hc1 : p ≤ (i : Int)
               · by_cases hc2 : (i : Int) < p + (b.length : Int)
                 · have e : now.getD i 0 = b.getD ((i : Int) - p).toNat 0 := by rw [HKB.out, if_pos ⟨⟨rfl, hc1⟩, hc2⟩]
                   obtain ⟨gb, fb, rfl, _, eb⟩ := RB7.out ((i : Int) - p).toNat (by omega)
                   rw [e] at e7
                   unfold byteV at eb
                   generalize b.getD ((i : Int) - p).toNat 0 = x at eb e7
                   clear HKB e
                   go_wp2
                   go_round
                   case rel => exact ⟨i + 1, rfl, hlt⟩
                   case measure => simp only [intOf]; omega
                 · have e : now.getD i 0 = was.getD i 0 := by rw [HKB.out, if_neg (fun h => hc2 h.2)]
                   rw [e] at e7
                   generalize was.getD i 0 = x at e5 e7
                   clear HKB e
                   go_wp2
                   go_round
                   case rel => exact ⟨i + 1, rfl, hlt⟩
                   case measure => simp only [intOf]; omega
               · have e : now.getD i 0 = was.getD i 0 := by rw [HKB.out, if_neg (fun h => hc1 h.1.2)]
                 rw [e] at e7
                 generalize was.getD i 0 = x at e5 e7
                 clear HKB e
                 go_wp2
                 go_round
                 case rel => exact ⟨i + 1, rfl, hlt⟩
                 case measure => simp only [intOf]; omega)
        · have hii : ¬ (i : Int) < (now.length : Int) := by omega
          clear hnl hwl
          go_wp2
          go_ret
          exact ⟨rfl, B7⟩
  · have hz := Z1.out.2 hroom
    have hq := U1.out.pend
    have hqw := U1.out.writes
    go_wp2_with fail
    refine (put_any D3 I3 nA 0 o ao co HNO.out hlo (fun w' hf => HRO.out.below (B3.trans (hf.below G1.out B3.size))) (by omega) (by omega) NF2.out).mono ?_
    intro en w4 h4
    have f4 := h4.2.1
    have I4 := I3.frm f4 nA
    obtain ⟨rfl, _, b4, F4, D4, g4, n4⟩ := h4.out G1.out B3.size
    have B4 := B3.trans b4
    have nA4 : ¬ F4 A := fun h => (n4 A h).elim nA (fun h => by have := I3.lt; omega)
    have G2 := Lib.hid g4
    rw [hz]
    have hq1 : (jput d0 f N 0 o).1.pend.length ≤ 1000 := by omega
    have hq1w : (jput d0 f N 0 o).1.writes ≤ 1000 := by omega
    clear h4 b4 g4 n4 f4 D3 I3 B3 nA G1 hroom Z1 hp0 hw0 hk0 U0 hz hq hqw
    generalize (jput d0 f N 0 o).1 = d1 at D4 U1 hq1 hq1w
    go_wp2_with fail
    refine (size_any I4).mono ?_
    rintro en w5 ⟨rfl, rfl⟩
    have hg4 := get_any D4 I4 0 (32 * (N : Int)) (by omega) NF2.out
    rw [get_up U1.out NF.out] at hg4
    have HG4 := Lib.hid hg4
    obtain ⟨was, hwas⟩ : ∃ l, Jour.bytes d1 (32 * f) (32 * N) = l := ⟨_, rfl⟩
    have hwl : was.length = 32 * N := by rw [← hwas]; exact bytes_length _ _ _
    rw [hwas] at HG4
    have WAS := Lib.hid hwas
    have WL := Lib.hid hwl
    clear hg4 hwas hwl
    go_wp2_with fail
    refine HG4.out.mono ?_
    rintro en w5 ⟨b5, v5, rfl, o5⟩
    have D5 := D4.below b5
    have I5 := I4.below b5
    have B5 := B4.trans (b5.mono B4.size)
    obtain ⟨a5, c5, rfl, l5, m5, _⟩ := RB.of_owns o5
    have O5 := Lib.hid o5
    have hwb : ((was.length : Int) != 32 * (N : Int)) = false := by rw [WL.out]; simp
    have hG2 := G2.out
    have KW := Lib.hid (fun k hk => (o5.lt k hk).2)
    have KW1 := Lib.hid (fun k hk => (o5.lt k hk).1)
    have L4 := Lib.hid D4.lt
    clear D4 I4 B4 b5 o5 HG4
    go_wp2_with fail
    refine (size_any I5).mono ?_
    rintro en w6 ⟨rfl, rfl⟩
    obtain ⟨u2, z2, y2⟩ := put_up U1.out NF.out p b
    have hkb := fun i hi => keeps_byte U1.out NF.out p b i hi
    have hg6 := get_up u2 NF.out
    obtain ⟨now, hnow⟩ : ∃ l, Jour.bytes (jput d1 f N p b).1 (32 * f) (32 * N) = l := ⟨_, rfl⟩
    have hnl : now.length = 32 * N := by rw [← hnow]; exact bytes_length _ _ _
    rw [hnow] at hkb hg6
    rw [WAS.out] at hkb
    have KB := Lib.hid hkb
    have NL := Lib.hid hnl
    have HG6 := Lib.hid hg6
    have Z2 := Lib.hid z2
    have hq2 := u2.pend
    have hq2' : (jput d1 f N p b).1.pend.length ≤ 5000 := by omega
    clear hkb hnow hnl hg6 u2 z2 y2 hq2
    go_wp2_with fail
    have hput := put_any D5 I5 nA4 p b a cap HN.out hlc (fun w' hf => HR.out.below (B5.trans (hf.below hG2 B5.size))) (by omega) (by omega) NF2.out
    refine hput.mono ?_
    intro en w6 h6
    have f6 := h6.2.1
    have I6 := I5.frm f6 nA4
    obtain ⟨rfl, _, b6, F6, D6, g6, n6⟩ := h6.out hG2 B5.size
    have B6 := B5.trans b6
    have o6 := owns_block O5.out (B := w6) (fun k hk => f6.block k (KW.out k hk) (fun hF => by have h1 := L4.out k hF; have h2 := KW1.out k hk; omega))
    have O6 := Lib.hid o6
    clear hput h6 b6 g6 n6 D5 I5 B5 O5 KW KW1 f6 o6 L4 hG2
    generalize (jput d1 f N p b).2 = bad at Z2 ⊢
    generalize (jput d1 f N p b).1 = d2 at D6 HG6 hq2'
    go_wp2_with fail
    refine (fits_any I6 p b a cap).mono ?_
    rintro en w7 ⟨rfl, rfl⟩
    have hg7 := get_any D6 I6 0 (32 * (N : Int)) (by omega) NF2.out
    rw [HG6.out] at hg7
    have HG7 := Lib.hid hg7
    clear hg7
    cases hrm : roomB N p b.length
    all_goals
      first
        | (have hb0 : ((bad : Int) == 0) = false := by rw [beq_eq_false_iff_ne]; intro h; have := Z2.out.1 h; rw [hrm] at this; cases this)
        | (have hb0 : ((bad : Int) == 0) = true := by rw [beq_iff_eq]; exact Z2.out.2 hrm)
      have HRM := Lib.hid hrm
      clear hrm Z2
      go_wp2_with fail
      refine (size_any I6).mono ?_
      rintro en w7 ⟨rfl, rfl⟩
      go_wp2_with fail
      refine HG7.out.mono ?_
      rintro en w7 ⟨b7, v7, rfl, o7⟩
      have B7 := B6.trans (b7.mono B6.size)
      obtain ⟨a7, c7, rfl, l7, m7, r7⟩ := RB.of_owns o7
      obtain ⟨a5', c5', e5, _, _, r5⟩ := RB.of_owns (owns_below O6.out b7)
      cases e5
      have R7 := Lib.hid r7
      have R5 := Lib.hid r5
      have RB7 := Lib.hid (HR.out.below B7)
      have hnw : ((now.length : Int) != (was.length : Int)) = false := by rw [NL.out, WL.out]; simp
      clear b7 o7 r7 r5 HG7 HG6 O6 D6 I6 B6
      go_wp2_with fail
      go_loop [19] (fun iv => ∃ i : Nat, iv = .int .i64 i ∧ i ≤ 32 * N) (fun iv => 32 * N - (intOf iv).toNat)
      case atStart => exact ⟨0, rfl, Nat.zero_le _⟩
      case round =>
        obtain ⟨i, rfl, hi⟩ := hrel
        have hnl := NL.out
        have hwl := WL.out
        by_cases hlt : i < 32 * N
        · have hi0 : (0 : Int) ≤ (i : Int) := by omega
          have hii : (i : Int) < (now.length : Int) := by omega
          have hiw : (i : Int) < (was.length : Int) := by omega
          obtain ⟨g7, f7, rfl, _, e7⟩ := R7.out i (by rw [hnl]; exact hlt)
          obtain ⟨g5, f5, rfl, _, e5⟩ := R5.out i (by rw [hwl]; exact hlt)
          have hkb := KB.out i hlt
          rw [HRM.out] at hkb
          have HKB := Lib.hid hkb
          clear hkb hnl hwl
          have hN20 : N ≤ 20 := by rcases NF.out with h | h <;> omega
          unfold byteV at e7 e5
          first
            | (have hbf : ((bad : Int) == 0) = false := hb0
               have e : now.getD i 0 = was.getD i 0 := by rw [HKB.out]; simp
               rw [e] at e7
               generalize was.getD i 0 = x at e5 e7
               clear HKB e
               go_wp2
               go_round
               case rel => exact ⟨i + 1, rfl, hlt⟩
               case measure => simp only [intOf]; omega)
            | (have hbt : ((bad : Int) == 0) = true := hb0
               obtain ⟨hp0, hp1, hp2⟩ := (roomB_iff _ _ _).1 HRM.out
               by_cases hc1 : p ≤ (i : Int)
               · by_cases hc2 : (i : Int) < p + (b.length : Int)
                 · have e : now.getD i 0 = b.getD ((i : Int) - p).toNat 0 := by rw [HKB.out, if_pos ⟨⟨rfl, hc1⟩, hc2⟩]
                   obtain ⟨gb, fb, rfl, _, eb⟩ := RB7.out ((i : Int) - p).toNat (by omega)
                   rw [e] at e7
                   unfold byteV at eb
                   generalize b.getD ((i : Int) - p).toNat 0 = x at eb e7
                   clear HKB e
                   go_wp2
                   go_round
                   case rel => exact ⟨i + 1, rfl, hlt⟩
                   case measure => simp only [intOf]; omega
                 · have e : now.getD i 0 = was.getD i 0 := by rw [HKB.out, if_neg (fun h => hc2 h.2)]
                   rw [e] at e7
                   generalize was.getD i 0 = x at e5 e7
                   clear HKB e
                   go_wp2
                   go_round
                   case rel => exact ⟨i + 1, rfl, hlt⟩
                   case measure => simp only [intOf]; omega
               · have e : now.getD i 0 = was.getD i 0 := by rw [HKB.out, if_neg (fun h => hc1 h.1.2)]
                 rw [e] at e7
                 generalize was.getD i 0 = x at e5 e7
                 clear HKB e
                 go_wp2
                 go_round
                 case rel => exact ⟨i + 1, rfl, hlt⟩
                 case measure => simp only [intOf]; omega)
        · have hii : ¬ (i : Int) < (now.length : Int) := by omega
          clear hnl hwl
          go_wp2
          go_ret
          exact ⟨rfl, B7⟩
end Go.Proofs.Ytopemjbakpahfaa
