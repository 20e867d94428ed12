/-
  Contracts and plain laws, part 50 (texts: T21). No condition but what each states.
-/
import Derived.Test.YtopemjbakpahfaaSlotsPlaysF
/-
  SlotsPlays: the walk, for all sizes and rows of two numbers. No condition but that the numbers are Go's.
-/
namespace Go.Proofs.Ytopemjbakpahfaa
open Go.RowKit Disk Jour Crc Slot
set_option linter.unusedSimpArgs false
set_option linter.unusedVariables false
/-- Two stores, alike, behind some calls. -/
structure PlayI (W : World) (B C : Nat) (i : Nat) (d : Dev) (s : St) (S S2 : Nat) (wr : World) : Prop where
  bl : Below W.heap.size W wr
  sm : SmallQ d i
  q : Quad W.heap.size wr S B d s S2 C d s
set_option maxRecDepth 100000 in
set_option maxHeartbeats 16000000 in
theorem splays_law (sectors size : Int) (l : List Pair2) (a : Option Addr) (cap : Nat) (W : World) (hr : R2 W a l) (hx : ∀ i, i < l.length → (l.getD i zero2).fits) :
    Calls Try.prog 21 #[.int .i64 sectors, .int .i64 size, .slice a l.length cap] W (Yes W) := by
  have HR := Lib.hid hr
  have HX : Hid (∀ i, i < l.length → (l.getD i zero2).fits) := hx
  clear hr hx
  go_enter Try.func21, Try.ntmps21
  go_wp2_with fail
  refine (ssmall_any _).mono ?_
  rintro en w1 ⟨rfl, B1'⟩
  have s1 := B1'.size
  by_cases h64 : 64 < sectors
  · go_wp2
    go_ret
    exact ⟨rfl, B1'⟩
  by_cases h40 : 40 < (l.length : Int)
  · go_wp2
    go_ret
    exact ⟨rfl, B1'⟩
  go_wp2_with fail
  refine (new_any w1 sectors).mono ?_
  rintro en w2 ⟨B, rfl, b2, hB, D2⟩
  have DD2 := Lib.hid D2
  have C2 := Lib.hid b2
  have B2 := Lib.hid (B1'.trans (b2.mono B1'.size))
  clear b2 D2
  go_wp2_with fail
  refine (rnew_any w2 sectors).mono ?_
  rintro en w3 ⟨C, rfl, b3, hC, D3⟩
  have DV : Hid (Dvs W.heap.size w3 B (Dev.new (sizeOfDev sectors)) C (Dev.new (sizeOfDev sectors))) := Dvs.start s1 C2.out DD2.out b3 D3
  have B3 := Lib.hid (B2.out.trans (b3.mono B2.out.size))
  have hkl : (Dev.new (sizeOfDev sectors)).kept.length ≤ 1024 := by have := sizeOf_le sectors; simp [Dev.new]; exact this
  have SM0 : Hid (SmallQ (Dev.new (sizeOfDev sectors)) 0) := ⟨by simp [Dev.new], by simp [Dev.new], by simp [Dev.new], hkl⟩
  have hpl : (Dev.new (sizeOfDev sectors)).pend.length ≤ 100000 := by simp [Dev.new]
  generalize Dev.new (sizeOfDev sectors) = d0 at *
  clear b3 D3 B2 B1' C2 DD2
  go_wp2_with fail
  refine (DV.out.open1 hkl hpl size).mono ?_
  intro en w4 h4
  rcases open_split h4 with ⟨e, hr⟩ | ⟨s0, hr⟩
  · obtain ⟨b4, rfl⟩ := open_no h4 hr
    have HRR := Lib.hid hr
    have B4 := Lib.hid (B3.out.trans (b4.mono B3.out.size))
    have DV4 := Lib.hid (DV.out.below b4)
    clear h4 hr b4 B3 DV
    go_wp2_with fail
    refine (DV4.out.open2 hkl hpl size).mono ?_
    intro en w5 h5
    obtain ⟨b5, rfl⟩ := ropen_no h5 HRR.out
    have B5 := Lib.hid (B4.out.trans (b5.mono B4.out.size))
    clear h5 b5 HRR B4 DV4
    go_wp2_with fail
    go_loopw [10, 12, 14] (fun xv yv iv wr => xv = .pointer none ∧ yv = .pointer none ∧ iv = .int .i64 0 ∧ wr = w5) (fun _ _ _ _ => 0)
    case atStart => exact ⟨rfl, rfl, rfl, rfl⟩
    case round =>
      obtain ⟨rfl, rfl, rfl, rfl⟩ := hrel
      by_cases hl0 : (0 : Int) < (l.length : Int)
      · go_wp2
        go_ret
        exact ⟨rfl, B5.out⟩
      · go_wp2
        go_ret
        exact ⟨rfl, B5.out⟩
  obtain ⟨b4, X, rfl, hx4⟩ := open_is h4 hr
  have HRR := Lib.hid hr
  have B4 := Lib.hid (B3.out.trans (b4.mono B3.out.size))
  have DV4 := Lib.hid (DV.out.below b4)
  have C4 := Lib.hid b4
  have X4 := Lib.hid hx4
  clear h4 hr b4 B3 hx4
  go_wp2_with fail
  refine (DV4.out.open2 hkl hpl size).mono ?_
  intro en w5 h5
  obtain ⟨b5, Y, rfl, hy5⟩ := ropen_is h5 HRR.out
  have I0 : Hid (PlayI W B C 0 d0 s0 X Y w5) := ⟨B4.out.trans (b5.mono B4.out.size), SM0.out, Quad.start DV.out C4.out X4.out b5 hy5⟩
  clear h5 b5 HRR B4 DV4 C4 X4 hy5 DV SM0 hkl hpl
  go_wp2_with fail
  go_loopw [10, 12, 14] (fun xv yv iv wr => ∃ i : Nat, iv = .int .i64 (i : Int) ∧ i ≤ l.length ∧ ((xv = .pointer none ∧ yv = .pointer none ∧ Below W.heap.size W wr) ∨ ∃ S S2 d s, xv = .pointer (some ⟨S, 0, none⟩) ∧ yv = .pointer (some ⟨S2, 0, none⟩) ∧ PlayI W B C i d s S S2 wr)) (fun _ _ iv _ => l.length - (intOf iv).toNat)
  case atStart => exact ⟨0, rfl, Nat.zero_le _, .inr ⟨X, Y, d0, s0, rfl, rfl, I0.out⟩⟩
  case round =>
    clear I0
    obtain ⟨i, rfl, hi, ⟨rfl, rfl, hbl⟩ | ⟨S, S2, d, s, rfl, rfl, hI⟩⟩ := hrel
    · have BL := Lib.hid hbl
      clear hbl
      by_cases hlt : (i : Int) < (l.length : Int)
      · go_wp2
        go_ret
        exact ⟨rfl, BL.out⟩
      · go_wp2
        go_ret
        exact ⟨rfl, BL.out⟩
    have BL := Lib.hid hI.bl
    have SM := Lib.hid hI.sm
    have QQ := Lib.hid hI.q
    clear hI
    by_cases hlt : i < l.length
    rotate_left
    · have hii : ¬ (i : Int) < (l.length : Int) := by omega
      go_wp2
      go_ret
      exact ⟨rfl, BL.out⟩
    have hi0 : (0 : Int) ≤ (i : Int) := by omega
    have hii : (i : Int) < (l.length : Int) := by omega
    obtain ⟨g, off, rfl, hg, c0, c1⟩ := (HR.out.below BL.out (Nat.le_refl _)) i hlt
    have hfit := HX.out i hlt
    obtain ⟨t, ht⟩ : ∃ t, l.getD i zero2 = t := ⟨_, rfl⟩
    rw [ht] at c0 c1 hfit
    obtain ⟨x, y⟩ := t
    dsimp only at c0 c1
    have HY : Hid (y ≤ 9223372036854775807) := hfit.2.2
    clear ht hg hfit
    obtain ⟨hm, hm7⟩ := low3_eq x
    generalize low3 x = m at hm hm7
    obtain ⟨q1, q2, q3, q4, q5⟩ := SM.out.bounds (by omega)
    have cases8 : m = 0 ∨ m = 1 ∨ m = 2 ∨ m = 3 ∨ m = 4 ∨ m = 5 ∨ m = 6 ∨ m = 7 := by omega
    rcases cases8 with rfl | rfl | rfl | rfl | rfl | rfl | rfl | rfl
    · have hm : bits .and .i64 x 7 = 0 := hm
      go_wp2_with fail
      refine (lbytes_any y wr).mono ?_
      rintro en w4 ⟨ga, rfl, b4, lga, xa⟩
      have CL1 := Lib.hid (QQ.out.append1 (lawB_len y) b4 lga xa q1 q2 q3)
      clear b4 xa
      go_wp2_with fail
      refine CL1.out.mono ?_
      rintro en w5 ⟨rfl, Q5, b5⟩
      have Q5' := Lib.hid Q5
      have B5 := Lib.hid (BL.out.trans b5)
      clear Q5 b5 CL1 c0 c1 QQ
      go_wp2_with fail
      refine (lbytes_any y w5).mono ?_
      rintro en w6 ⟨gb, rfl, b6, lgb, xb⟩
      have CL2 := Lib.hid (Q5'.out.append2 (lawB_len y) b6 lgb xb q1 q2 q3)
      clear b6 xb
      go_wp2_with fail
      refine CL2.out.mono ?_
      rintro en w7 ⟨rfl, Q7', b7⟩
      have Q7 := Lib.hid Q7'
      have B7 := Lib.hid (B5.out.trans b7)
      have SM7 := Lib.hid (SM.out.append s (lawB_len y))
      clear Q7' b7 CL2 Q5' B5 SM BL
      generalize sappend d s (lawB y) = rr at Q7 SM7 ⊢
      obtain ⟨d7, s7, z7⟩ := rr
      dsimp only at Q7 SM7 ⊢
      obtain ⟨G7, K7, sx, sy⟩ := Q7.out.sts
      have SX := Lib.hid sx
      have SY := Lib.hid sy
      clear sx sy
      go_wp2_with fail
      refine (ssame_any SX.out SY.out).mono ?_
      rintro en w8 ⟨rfl, b8⟩
      have NI : Hid (PlayI W B C (i + 1) d7 s7 S S2 w8) := ⟨B7.out.trans (b8.mono B7.out.size), SM7.out, Q7.out.below b8⟩
      clear b8 SX SY Q7 B7 SM7
      go_wp2_with fail
      go_roundw
      case rel => exact ⟨i + 1, rfl, by omega, .inr ⟨S, S2, d7, s7, rfl, rfl, NI.out⟩⟩
      case measure => simp only [intOf]; omega
    · have hm : bits .and .i64 x 7 = 1 := hm
      go_wp2_with fail
      refine (lbytes_any y wr).mono ?_
      rintro en w4 ⟨ga, rfl, b4, lga, xa⟩
      have CL1 := Lib.hid (QQ.out.append1 (lawB_len y) b4 lga xa q1 q2 q3)
      clear b4 xa
      go_wp2_with fail
      refine CL1.out.mono ?_
      rintro en w5 ⟨rfl, Q5, b5⟩
      have Q5' := Lib.hid Q5
      have B5 := Lib.hid (BL.out.trans b5)
      clear Q5 b5 CL1 c0 c1 QQ
      go_wp2_with fail
      refine (lbytes_any y w5).mono ?_
      rintro en w6 ⟨gb, rfl, b6, lgb, xb⟩
      have CL2 := Lib.hid (Q5'.out.append2 (lawB_len y) b6 lgb xb q1 q2 q3)
      clear b6 xb
      go_wp2_with fail
      refine CL2.out.mono ?_
      rintro en w7 ⟨rfl, Q7', b7⟩
      have Q7 := Lib.hid Q7'
      have B7 := Lib.hid (B5.out.trans b7)
      have SM7 := Lib.hid (SM.out.append s (lawB_len y))
      clear Q7' b7 CL2 Q5' B5 SM BL
      generalize sappend d s (lawB y) = rr at Q7 SM7 ⊢
      obtain ⟨d7, s7, z7⟩ := rr
      dsimp only at Q7 SM7 ⊢
      obtain ⟨G7, K7, sx, sy⟩ := Q7.out.sts
      have SX := Lib.hid sx
      have SY := Lib.hid sy
      clear sx sy
      go_wp2_with fail
      refine (ssame_any SX.out SY.out).mono ?_
      rintro en w8 ⟨rfl, b8⟩
      have NI : Hid (PlayI W B C (i + 1) d7 s7 S S2 w8) := ⟨B7.out.trans (b8.mono B7.out.size), SM7.out, Q7.out.below b8⟩
      clear b8 SX SY Q7 B7 SM7
      go_wp2_with fail
      go_roundw
      case rel => exact ⟨i + 1, rfl, by omega, .inr ⟨S, S2, d7, s7, rfl, rfl, NI.out⟩⟩
      case measure => simp only [intOf]; omega
    · have hm : bits .and .i64 x 7 = 2 := hm
      go_wp2_with fail
      refine (lbytes_any y wr).mono ?_
      rintro en w4 ⟨ga, rfl, b4, lga, xa⟩
      have CL1 := Lib.hid (QQ.out.append1 (lawB_len y) b4 lga xa q1 q2 q3)
      clear b4 xa
      go_wp2_with fail
      refine CL1.out.mono ?_
      rintro en w5 ⟨rfl, Q5, b5⟩
      have Q5' := Lib.hid Q5
      have B5 := Lib.hid (BL.out.trans b5)
      clear Q5 b5 CL1 c0 c1 QQ
      go_wp2_with fail
      refine (lbytes_any y w5).mono ?_
      rintro en w6 ⟨gb, rfl, b6, lgb, xb⟩
      have CL2 := Lib.hid (Q5'.out.append2 (lawB_len y) b6 lgb xb q1 q2 q3)
      clear b6 xb
      go_wp2_with fail
      refine CL2.out.mono ?_
      rintro en w7 ⟨rfl, Q7', b7⟩
      have Q7 := Lib.hid Q7'
      have B7 := Lib.hid (B5.out.trans b7)
      have SM7 := Lib.hid (SM.out.append s (lawB_len y))
      clear Q7' b7 CL2 Q5' B5 SM BL
      generalize sappend d s (lawB y) = rr at Q7 SM7 ⊢
      obtain ⟨d7, s7, z7⟩ := rr
      dsimp only at Q7 SM7 ⊢
      obtain ⟨G7, K7, sx, sy⟩ := Q7.out.sts
      have SX := Lib.hid sx
      have SY := Lib.hid sy
      clear sx sy
      go_wp2_with fail
      refine (ssame_any SX.out SY.out).mono ?_
      rintro en w8 ⟨rfl, b8⟩
      have NI : Hid (PlayI W B C (i + 1) d7 s7 S S2 w8) := ⟨B7.out.trans (b8.mono B7.out.size), SM7.out, Q7.out.below b8⟩
      clear b8 SX SY Q7 B7 SM7
      go_wp2_with fail
      go_roundw
      case rel => exact ⟨i + 1, rfl, by omega, .inr ⟨S, S2, d7, s7, rfl, rfl, NI.out⟩⟩
      case measure => simp only [intOf]; omega
    · have hm : bits .and .i64 x 7 = 3 := hm
      go_wp2_with fail
      refine (lbytes_any y wr).mono ?_
      rintro en w4 ⟨ga, rfl, b4, lga, xa⟩
      have CL1 := Lib.hid (QQ.out.save1 (lawB_len y) b4 lga xa q1 q2 q3)
      clear b4 xa
      go_wp2_with fail
      refine CL1.out.mono ?_
      rintro en w5 ⟨rfl, Q5, b5⟩
      have Q5' := Lib.hid Q5
      have B5 := Lib.hid (BL.out.trans b5)
      clear Q5 b5 CL1 c0 c1 QQ
      go_wp2_with fail
      refine (lbytes_any y w5).mono ?_
      rintro en w6 ⟨gb, rfl, b6, lgb, xb⟩
      have CL2 := Lib.hid (Q5'.out.save2 (lawB_len y) b6 lgb xb q1 q2 q3)
      clear b6 xb
      go_wp2_with fail
      refine CL2.out.mono ?_
      rintro en w7 ⟨rfl, Q7', b7⟩
      have Q7 := Lib.hid Q7'
      have B7 := Lib.hid (B5.out.trans b7)
      have SM7 := Lib.hid (SM.out.save s (lawB_len y))
      clear Q7' b7 CL2 Q5' B5 SM BL
      generalize ssave d s (lawB y) = rr at Q7 SM7 ⊢
      obtain ⟨d7, s7, z7⟩ := rr
      dsimp only at Q7 SM7 ⊢
      obtain ⟨G7, K7, sx, sy⟩ := Q7.out.sts
      have SX := Lib.hid sx
      have SY := Lib.hid sy
      clear sx sy
      go_wp2_with fail
      refine (ssame_any SX.out SY.out).mono ?_
      rintro en w8 ⟨rfl, b8⟩
      have NI : Hid (PlayI W B C (i + 1) d7 s7 S S2 w8) := ⟨B7.out.trans (b8.mono B7.out.size), SM7.out, Q7.out.below b8⟩
      clear b8 SX SY Q7 B7 SM7
      go_wp2_with fail
      go_roundw
      case rel => exact ⟨i + 1, rfl, by omega, .inr ⟨S, S2, d7, s7, rfl, rfl, NI.out⟩⟩
      case measure => simp only [intOf]; omega
    · have hm : bits .and .i64 x 7 = 4 := hm
      go_wp2_with fail
      refine (QQ.out.arm1 y HY.out).mono ?_
      rintro en w5 ⟨⟨u5, rfl⟩, Q5, b5⟩
      have Q5' := Lib.hid Q5
      have B5 := Lib.hid (BL.out.trans b5)
      clear Q5 b5 c0 c1 QQ
      go_wp2_with fail
      refine (Q5'.out.arm2 y HY.out).mono ?_
      rintro en w7 ⟨⟨u7, rfl⟩, Q7', b7⟩
      have Q7 := Lib.hid Q7'
      have B7 := Lib.hid (B5.out.trans b7)
      have SM7 := Lib.hid (SM.out.arm y)
      clear Q7' b7 Q5' B5 SM BL
      generalize d.arm y = d7 at Q7 SM7
      obtain ⟨s7, hs7⟩ : ∃ s7, s = s7 := ⟨_, rfl⟩
      subst hs7
      obtain ⟨G7, K7, sx, sy⟩ := Q7.out.sts
      have SX := Lib.hid sx
      have SY := Lib.hid sy
      clear sx sy
      go_wp2_with fail
      refine (ssame_any SX.out SY.out).mono ?_
      rintro en w8 ⟨rfl, b8⟩
      have NI : Hid (PlayI W B C (i + 1) d7 s S S2 w8) := ⟨B7.out.trans (b8.mono B7.out.size), SM7.out, Q7.out.below b8⟩
      clear b8 SX SY Q7 B7 SM7
      go_wp2_with fail
      go_roundw
      case rel => exact ⟨i + 1, rfl, by omega, .inr ⟨S, S2, d7, s, rfl, rfl, NI.out⟩⟩
      case measure => simp only [intOf]; omega
    · have hm : bits .and .i64 x 7 = 5 := hm
      go_wp2_with fail
      have DK := Lib.hid ((QQ.out.dvs.alloc (.cells #[.int .i64 (bits .and .i64 y 3), .int .i64 (bits .and .i64 (y / 4) 7)] 3 (0, 0))).restart1 2 q4)
      refine DK.out.mono ?_
      rintro en w5 ⟨rfl, Q5, b5⟩
      have K5 := Lib.hid Q5
      have B5 := Lib.hid (BL.out.trans (((below_alloc wr _).mono QQ.out.1).trans b5))
      have SM7 := Lib.hid (SM.out.restart [bits .and .i64 y 3, bits .and .i64 (y / 4) 7])
      clear Q5 b5 c0 c1 QQ BL DK
      generalize bits .and .i64 y 3 = k1 at K5 SM7 ⊢
      generalize bits .and .i64 (y / 4) 7 = k2 at K5 SM7 ⊢
      go_wp2_with fail
      refine (K5.out.restart2 2 q4).mono ?_
      rintro en w6 ⟨rfl, Q6, b6⟩
      have D6 := Lib.hid Q6.dvs
      have B6 := Lib.hid (B5.out.trans b6)
      clear Q6 b6 K5 B5 SM
      generalize d.restart [k1, k2] = rr at D6 SM7 ⊢
      obtain ⟨d7, z7⟩ := rr
      dsimp only at D6 SM7 ⊢
      have hk7 := SM7.out.kept
      have hp7 := (SM7.out.bounds (by omega)).2.2.2.1
      go_wp2_with fail
      refine (D6.out.open1 hk7 hp7 size).mono ?_
      intro en w7 h7
      rcases open_split h7 with ⟨e, hr⟩ | ⟨s7, hr⟩
      · obtain ⟨b7, rfl⟩ := open_no h7 hr
        have HRR := Lib.hid hr
        have B7 := Lib.hid (B6.out.trans (b7.mono B6.out.size))
        have D7 := Lib.hid (D6.out.below b7)
        clear h7 hr b7 B6 D6
        go_wp2_with fail
        refine (D7.out.open2 hk7 hp7 size).mono ?_
        intro en w8 h8
        obtain ⟨b8, rfl⟩ := ropen_no h8 HRR.out
        have B8 := Lib.hid (B7.out.trans (b8.mono B7.out.size))
        clear h8 b8 HRR B7 D7
        go_wp2_with fail
        go_roundw
        case rel => exact ⟨i + 1, rfl, by omega, .inl ⟨rfl, rfl, B8.out⟩⟩
        case measure => simp only [intOf]; omega
      · obtain ⟨b7', X7, rfl, hx7⟩ := open_is h7 hr
        have HRR := Lib.hid hr
        have C7 := Lib.hid b7'
        have HX7 := Lib.hid hx7
        have BB7 := Lib.hid (B6.out.trans (b7'.mono B6.out.size))
        have D7 := Lib.hid (D6.out.below b7')
        clear h7 hr b7' B6 hx7
        go_wp2_with fail
        refine (D7.out.open2 hk7 hp7 size).mono ?_
        intro en w9 h9
        obtain ⟨b9, Y7, rfl, hy9⟩ := ropen_is h9 HRR.out
        have B7 := Lib.hid (BB7.out.trans (b9.mono BB7.out.size))
        have Q7 : Hid (Quad W.heap.size w9 X7 B d7 s7 Y7 C d7 s7) := Quad.start D6.out C7.out HX7.out b9 hy9
        clear h9 b9 HRR BB7 D7 C7 HX7 hy9 D6
        obtain ⟨G7, K7, sx, sy⟩ := Q7.out.sts
        have SX := Lib.hid sx
        have SY := Lib.hid sy
        clear sx sy
        go_wp2_with fail
        refine (ssame_any SX.out SY.out).mono ?_
        rintro en w8 ⟨rfl, b8⟩
        have NI : Hid (PlayI W B C (i + 1) d7 s7 X7 Y7 w8) := ⟨B7.out.trans (b8.mono B7.out.size), SM7.out, Q7.out.below b8⟩
        clear b8 SX SY Q7 B7 SM7
        go_wp2_with fail
        go_roundw
        case rel => exact ⟨i + 1, rfl, by omega, .inr ⟨X7, Y7, d7, s7, rfl, rfl, NI.out⟩⟩
        case measure => simp only [intOf]; omega
    · have hm : bits .and .i64 x 7 = 6 := hm
      go_wp2_with fail
      refine (lbytes_any _ wr).mono ?_
      rintro en w4 ⟨ga, rfl, b4, lga, xa⟩
      have CL1 := fun k => (QQ.out.write1 k (lawB_len _) b4 lga xa q4 q5)
      have CL1' := Lib.hid CL1
      clear b4 xa CL1
      go_wp2_with fail
      refine (CL1'.out _).mono ?_
      rintro en w5 ⟨rfl, Q5, b5⟩
      have Q5' := Lib.hid Q5
      have B5 := Lib.hid (BL.out.trans b5)
      clear Q5 b5 CL1' c0 c1 QQ
      go_wp2_with fail
      refine (lbytes_any _ w5).mono ?_
      rintro en w6 ⟨gb, rfl, b6, lgb, xb⟩
      have CL2 := fun k => (Q5'.out.write2 k (lawB_len _) b6 lgb xb q4 q5)
      have CL2' := Lib.hid CL2
      clear b6 xb CL2
      go_wp2_with fail
      refine (CL2'.out _).mono ?_
      rintro en w7 ⟨rfl, Q7', b7⟩
      have Q7 := Lib.hid Q7'
      have B7 := Lib.hid (B5.out.trans b7)
      have SM7 := Lib.hid (SM.out.write (bits .and .i64 y 15) (lawB (y / 16)))
      clear Q7' b7 CL2' Q5' B5 SM BL
      generalize d.write _ _ = rr at Q7 SM7 ⊢
      obtain ⟨d7, z7⟩ := rr
      dsimp only at Q7 SM7 ⊢
      obtain ⟨s7, hs7⟩ : ∃ s7, s = s7 := ⟨_, rfl⟩
      subst hs7
      obtain ⟨G7, K7, sx, sy⟩ := Q7.out.sts
      have SX := Lib.hid sx
      have SY := Lib.hid sy
      clear sx sy
      go_wp2_with fail
      refine (ssame_any SX.out SY.out).mono ?_
      rintro en w8 ⟨rfl, b8⟩
      have NI : Hid (PlayI W B C (i + 1) d7 s S S2 w8) := ⟨B7.out.trans (b8.mono B7.out.size), SM7.out, Q7.out.below b8⟩
      clear b8 SX SY Q7 B7 SM7
      go_wp2_with fail
      go_roundw
      case rel => exact ⟨i + 1, rfl, by omega, .inr ⟨S, S2, d7, s, rfl, rfl, NI.out⟩⟩
      case measure => simp only [intOf]; omega
    · have hm : bits .and .i64 x 7 = 7 := hm
      have Q7 := Lib.hid QQ.out
      have B7 := Lib.hid BL.out
      have SM7 := Lib.hid (SM.out.mono (Nat.le_succ i))
      obtain ⟨s7, hs7⟩ : ∃ s7, s = s7 := ⟨_, rfl⟩
      obtain ⟨d7, hd7⟩ : ∃ d7, d = d7 := ⟨_, rfl⟩
      subst hs7 hd7
      obtain ⟨G7, K7, sx, sy⟩ := Q7.out.sts
      have SX := Lib.hid sx
      have SY := Lib.hid sy
      clear sx sy
      go_wp2_with fail
      refine (ssame_any SX.out SY.out).mono ?_
      rintro en w8 ⟨rfl, b8⟩
      have NI : Hid (PlayI W B C (i + 1) d s S S2 w8) := ⟨B7.out.trans (b8.mono B7.out.size), SM7.out, Q7.out.below b8⟩
      clear b8 SX SY Q7 B7 SM7
      go_wp2_with fail
      go_roundw
      case rel => exact ⟨i + 1, rfl, by omega, .inr ⟨S, S2, d, s, rfl, rfl, NI.out⟩⟩
      case measure => simp only [intOf]; omega
end Go.Proofs.Ytopemjbakpahfaa
