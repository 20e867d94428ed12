/-
  The walk of ManyKeeps at a nil row of steps; and at every row. No condition.
-/
import Derived.Test.YtebkibpdagdmiaaM15
namespace Go.Proofs.Ytebkibpdagdmiaa
open Go.RowKit
set_option maxRecDepth 100000 in
set_option maxHeartbeats 4000000 in
theorem keeps_nil (x y z n : Int) (l : List Int) (hl0 : l.length = 0) (w : World) :
    Calls Try.prog 7 #[.agg #[.int .i64 x, .int .i64 y, .int .i64 z], .int .i64 n, .slice none 0 0] w (Yes w) := by
  have HL0 := Lib.hid hl0
  clear hl0
  go_enter Try.func7, Try.ntmps7
  go_wp2_with (go_at_call 8; refine (small_any _).mono ?_; rintro en w1 ⟨rfl, hb1⟩; have c1 := new_blk hb1; have z1 := new_lt hb1; have H1 := on_alloc (Below.refl _ _) (Nat.le_refl _) hb1; clear hb1)
  go_loopw [8, 9, 10] (fun st wa i wr => KeepRel w x y z n l st wa i wr) (fun _ _ i _ => 1 - (intOf i).toNat)
  case atStart => exact ⟨0, rfl, Nat.zero_le _, rfl, rfl, fun h => absurd rfl h, c1, H1, z1⟩
  case round =>
    obtain ⟨k, rfl, hk, rfl, rfl, hst, c2, H2, z2⟩ := hrel
    generalize hcnt : (if k = 0 then n else count (play x y z n (l.take (k - 1))).1) = cnt
    generalize hwas : (decide (k ≠ 0) && over (play x y z n (l.take (k - 1))).1) = was
    have HC := Lib.hid hcnt
    have HW := Lib.hid hwas
    have HS := Lib.hid hst
    clear hcnt hwas hst
    by_cases hlt : k = 0
    · subst hlt
      go_upto_region 9 with fail
      go_cut [11, 12] (fun bp ev W => KeepCut w x y z (play x y z n (l.take 0)) bp ev W)
      case first =>
        have q0 : wr.cell? ⟨w.heap.size, 0, none⟩ = some (.int .i64 x) := by simpa using c2 0
        have q1 : wr.cell? ⟨w.heap.size, 1, none⟩ = some (.int .i64 y) := by simpa using c2 1
        have q2 : wr.cell? ⟨w.heap.size, 2, none⟩ = some (.int .i64 z) := by simpa using c2 2
        have qd0 : wr.drew.cell? ⟨w.heap.size, 0, none⟩ = some (.int .i64 x) := q0
        have qd1 : wr.drew.cell? ⟨w.heap.size, 1, none⟩ = some (.int .i64 y) := q1
        have qd2 : wr.drew.cell? ⟨w.heap.size, 2, none⟩ = some (.int .i64 z) := q2
        have hne : wr.heap.size ≠ w.heap.size := by omega
        have R1 : Reads .i64 wr.drew none (l.take 0) := fun i hi => absurd hi (by simp)
        have R2 : Reads .i64 (wr.alloc (.cells #[.int .i64 0, .int .i64 0, .int .i64 0, .int .i64 0, .int .i64 0] 23)).drew none (l.take 0) := fun i hi => absurd hi (by simp)
        have C2 := Lib.hid c2
        clear c2
        have hlk : (l.take 0).length = 0 := by simp
        have HK := Lib.hid hlk
        clear hlk
        go_region_held3 (fun w' => w'.cell? ⟨w.heap.size, 0, none⟩ = some (.int .i64 x) ∧ w'.cell? ⟨w.heap.size, 1, none⟩ = some (.int .i64 y) ∧ w'.cell? ⟨w.heap.size, 2, none⟩ = some (.int .i64 z))
          (first | with_reducible exact ⟨q0, q1, q2⟩ | with_reducible exact ⟨qd0, qd1, qd2⟩ | with_reducible exact ⟨alloc_cell_d q0, alloc_cell_d q1, alloc_cell_d q2⟩ | with_reducible exact ⟨r0, r1, r2⟩ | with_reducible exact ⟨alloc_cell r0, alloc_cell r1, alloc_cell r2⟩ | with_reducible exact ⟨set5_cell r0 hne, set5_cell r1 hne, set5_cell r2 hne⟩ | go_keep)
          (first
            | (go_at_call 25; refine (play_at x y z n (l.take 0) _ _ _ _ HK.out (by rw [HK.out]; omega) (by with_reducible exact R1)).mono ?_; rintro en w3 ⟨v3, rfl, own3, hb3⟩; simp only [B.v]; have z3 : w.heap.size < w3.heap.size := by { have := hb3.size; simp at this; omega }; have r0 : w3.cell? ⟨w.heap.size, 0, none⟩ = some (.int .i64 x) := below_fact (qd0) _ hb3; have r1 : w3.cell? ⟨w.heap.size, 1, none⟩ = some (.int .i64 y) := below_fact (qd1) _ hb3; have r2 : w3.cell? ⟨w.heap.size, 2, none⟩ = some (.int .i64 z) := below_fact (qd2) _ hb3)
            | (go_at_call 25; refine (play_at x y z n (l.take 0) _ _ _ _ HK.out (by rw [HK.out]; omega) (by with_reducible exact R2)).mono ?_; rintro en w3 ⟨v3, rfl, own3, hb3⟩; simp only [B.v]; have z3 : w.heap.size < w3.heap.size := by { have := hb3.size; simp at this; omega }; have r0 : w3.cell? ⟨w.heap.size, 0, none⟩ = some (.int .i64 x) := below_fact (alloc_cell_d q0) _ hb3; have r1 : w3.cell? ⟨w.heap.size, 1, none⟩ = some (.int .i64 y) := below_fact (alloc_cell_d q1) _ hb3; have r2 : w3.cell? ⟨w.heap.size, 2, none⟩ = some (.int .i64 z) := below_fact (alloc_cell_d q2) _ hb3; obtain ⟨nb, nf, nz⟩ := new_blk_d (w := wr) hb3))
        · go_wp2_with fail
          go_meet
          exact keep_a C2.out H2 z2 own3 hb3
        · go_wp2_with fail
          go_meet
          exact keep_b C2.out H2 z2 own3 hb3
      case rest =>
        obtain ⟨g, ae, ke, rfl, rfl, hg, cb, Re, ca, Hb, za⟩ := hcut
        have HQ := Lib.hid (rfl : play x y z n (l.take 0) = play x y z n (l.take 0))
        generalize hq : play x y z n (l.take 0) = q at cb Re
        have HQ2 := Lib.hid hq
        clear hq HQ c2 H2 z2
        rcases start_cases x y z n with hs | ⟨s, hs, hsr, hsn⟩
        · -- Start refuses: the first round returns
          have hq1 : q = (⟨0, 0, 0, 0, 0⟩, [1]) := by rw [← HQ2.out]; unfold play; rw [hs]; rfl
          subst hq1
          have hrz : right ⟨0, 0, 0, 0, 0⟩ = false := by decide
          simp only [] at cb Re
          have H4 := Hb
          have cb_4 := cb
          have lcb_4 := hg
          have ca_4 := ca
          have lca_4 := za
          clear Hb cb hg ca za
          go_wp2_with fail
          refine (right_is hrz _).mono ?_
          rintro en w5 ⟨rfl, hb5⟩
          have H5 := H4.trans (hb5.mono H4.size)
          have z5 := hb5.size
          have cb_5 := below_blk hb5 cb_4 lcb_4
          have lcb_5 : g < w5.heap.size := Nat.lt_of_lt_of_le lcb_4 z5
          have ca_5 := below_blk hb5 ca_4 lca_4
          have lca_5 : w.heap.size < w5.heap.size := Nat.lt_of_lt_of_le lca_4 z5
          clear cb_4 lcb_4
          clear ca_4 lca_4
          go_wp2_with fail
          refine (start_is hs _).mono ?_
          rintro en w6 ⟨rfl, hb6⟩
          have H6 := H5.trans (hb6.mono H5.size)
          have z6 := hb6.size
          have cb_6 := below_blk hb6 cb_5 lcb_5
          have lcb_6 : g < w6.heap.size := Nat.lt_of_lt_of_le lcb_5 z6
          have ca_6 := below_blk hb6 ca_5 lca_5
          have lca_6 : w.heap.size < w6.heap.size := Nat.lt_of_lt_of_le lca_5 z6
          clear cb_5 lcb_5
          clear ca_5 lca_5
          simp only [B.v]
          go_wp2_with fail
          go_ret
          exact ⟨rfl, H6.alloc H6.size _⟩
        · -- Start has begun a batch
          obtain ⟨⟨m, e, o, d, f⟩, errs⟩ := q
          have hpl : plays s (l.take 0) = (⟨m, e, o, d, f⟩, errs) := by rw [← HQ2.out]; unfold play; rw [hs]; rfl
          have hR : right ⟨m, e, o, d, f⟩ = true := by have := plays_right hsr (l.take 0); rw [hpl] at this; exact this
          have hlen : errs.length = 0 := by have := plays_len s (l.take 0); rw [hpl] at this; simpa using this
          have hi := right_iff.1 hR
          simp only [] at hi
          have io : 0 ≤ o ∧ o ≤ 16 := by omega
          have id' : 0 ≤ d ∧ d ≤ 16 := by omega
          have if' : 0 ≤ f ∧ f ≤ 16 := by omega
          clear hi
          have hst1 : (if 0 + 1 = 0 then n else count (play x y z n (l.take (0 + 1 - 1))).1) = o + d + f := by
            rw [if_neg (by omega), Nat.add_sub_cancel, HQ2.out]; rfl
          have hwa1 : (decide (0 + 1 ≠ 0) && over (play x y z n (l.take (0 + 1 - 1))).1) = over ⟨m, e, o, d, f⟩ := by
            rw [Nat.add_sub_cancel, HQ2.out]; simp
          have HST := Lib.hid hst1
          have HWA := Lib.hid hwa1
          have HS0 : Hid (0 + 1 ≠ 0 → (start x y z n).2 = 0) := fun _ => by rw [hs]
          have HPL := Lib.hid hpl
          simp only [] at cb Re
          have HSS := Lib.hid hs
          have HSR := Lib.hid hsr
          have HSN := Lib.hid hsn
          have hnil := List.eq_nil_of_length_eq_zero hlen
          subst hnil
          clear hst1 hwa1 hpl hs hsn hsr HS hlen
          obtain ⟨wl, hwl⟩ : ∃ wl, well ⟨m, e, o, d, f⟩ = wl := ⟨_, rfl⟩
          obtain ⟨ov, hov⟩ : ∃ ov, over ⟨m, e, o, d, f⟩ = ov := ⟨_, rfl⟩
          have hwo : wl = true → ov = true := fun h => by rw [← hov]; exact well_over (hwl.trans h)
          · have hb0 : (⟨m, e, o, d, f⟩ : B) = s := by
              have := HPL.out
              simp only [List.take_zero, plays_nil, Prod.mk.injEq] at this
              exact this.1.symm
            have hcn : cnt = n := HC.out.symm
            have hsum : o + d + f = n := by rw [← HSN.out, ← hb0]; rfl
            have hwf : was = false := HW.out.symm
            subst hwf
            obtain rfl : cnt = n := hcn
            have hbne : (o + d + f != cnt) = false := by simp [hsum]
            have IST : Value.int .i64 cnt = .int .i64 (if 0 + 1 = 0 then cnt else count (play x y z cnt (l.take (0 + 1 - 1))).1) := by have := HST.out; rw [this, hsum]
            have IWA : Value.bool ov = .bool (decide (0 + 1 ≠ 0) && over (play x y z cnt (l.take (0 + 1 - 1))).1) := by have := HWA.out; rw [this, hov]
            have JST := Lib.hid IST
            have JWA := Lib.hid IWA
            clear hb0 hsum IST IWA Re
            cases wl
            · clear hwo
              have H4 := Hb
              have cb_4 := cb
              have lcb_4 := hg
              have ca_4 := ca
              have lca_4 := za
              clear Hb cb hg ca za
              go_wp2_with fail
              refine (right_is hR _).mono ?_
              rintro en w5 ⟨rfl, hb5⟩
              have H5 := H4.trans (hb5.mono H4.size)
              have z5 := hb5.size
              have cb_5 := below_blk hb5 cb_4 lcb_4
              have lcb_5 : g < w5.heap.size := Nat.lt_of_lt_of_le lcb_4 z5
              have ca_5 := below_blk hb5 ca_4 lca_4
              have lca_5 : w.heap.size < w5.heap.size := Nat.lt_of_lt_of_le lca_4 z5
              clear cb_4 lcb_4
              clear ca_4 lca_4
              go_wp2_with fail
              refine (well_is hwl _).mono ?_
              rintro en w6 ⟨rfl, hb6⟩
              have H6 := H5.trans (hb6.mono H5.size)
              have z6 := hb6.size
              have cb_6 := below_blk hb6 cb_5 lcb_5
              have lcb_6 : g < w6.heap.size := Nat.lt_of_lt_of_le lcb_5 z6
              have ca_6 := below_blk hb6 ca_5 lca_5
              have lca_6 : w.heap.size < w6.heap.size := Nat.lt_of_lt_of_le lca_5 z6
              clear cb_5 lcb_5
              clear ca_5 lca_5
              go_wp2_with fail
              refine (over_is hov _).mono ?_
              rintro en w7 ⟨rfl, hb7⟩
              have H7 := H6.trans (hb7.mono H6.size)
              have z7 := hb7.size
              have cb_7 := below_blk hb7 cb_6 lcb_6
              have lcb_7 : g < w7.heap.size := Nat.lt_of_lt_of_le lcb_6 z7
              have ca_7 := below_blk hb7 ca_6 lca_6
              have lca_7 : w.heap.size < w7.heap.size := Nat.lt_of_lt_of_le lca_6 z7
              clear cb_6 lcb_6
              clear ca_6 lca_6
              go_wp2
              go_roundw
              case rel => exact ⟨0 + 1, rfl, by omega, JST.out, JWA.out, HS0.out, ca_7, H7, lca_7⟩
              case measure => simp [intOf]
            · obtain rfl : ov = true := hwo rfl
              clear hwo
              have H4 := Hb
              have cb_4 := cb
              have lcb_4 := hg
              have ca_4 := ca
              have lca_4 := za
              clear Hb cb hg ca za
              go_wp2_with fail
              refine (right_is hR _).mono ?_
              rintro en w5 ⟨rfl, hb5⟩
              have H5 := H4.trans (hb5.mono H4.size)
              have z5 := hb5.size
              have cb_5 := below_blk hb5 cb_4 lcb_4
              have lcb_5 : g < w5.heap.size := Nat.lt_of_lt_of_le lcb_4 z5
              have ca_5 := below_blk hb5 ca_4 lca_4
              have lca_5 : w.heap.size < w5.heap.size := Nat.lt_of_lt_of_le lca_4 z5
              clear cb_4 lcb_4
              clear ca_4 lca_4
              go_wp2_with fail
              refine (well_is hwl _).mono ?_
              rintro en w6 ⟨rfl, hb6⟩
              have H6 := H5.trans (hb6.mono H5.size)
              have z6 := hb6.size
              have cb_6 := below_blk hb6 cb_5 lcb_5
              have lcb_6 : g < w6.heap.size := Nat.lt_of_lt_of_le lcb_5 z6
              have ca_6 := below_blk hb6 ca_5 lca_5
              have lca_6 : w.heap.size < w6.heap.size := Nat.lt_of_lt_of_le lca_5 z6
              clear cb_5 lcb_5
              clear ca_5 lca_5
              go_wp2_with fail
              refine (over_is hov _).mono ?_
              rintro en w7 ⟨rfl, hb7⟩
              have H7 := H6.trans (hb7.mono H6.size)
              have z7 := hb7.size
              have cb_7 := below_blk hb7 cb_6 lcb_6
              have lcb_7 : g < w7.heap.size := Nat.lt_of_lt_of_le lcb_6 z7
              have ca_7 := below_blk hb7 ca_6 lca_6
              have lca_7 : w.heap.size < w7.heap.size := Nat.lt_of_lt_of_le lca_6 z7
              clear cb_6 lcb_6
              clear ca_6 lca_6
              go_wp2_with fail
              refine (over_is hov _).mono ?_
              rintro en w8 ⟨rfl, hb8⟩
              have H8 := H7.trans (hb8.mono H7.size)
              have z8 := hb8.size
              have cb_8 := below_blk hb8 cb_7 lcb_7
              have lcb_8 : g < w8.heap.size := Nat.lt_of_lt_of_le lcb_7 z8
              have ca_8 := below_blk hb8 ca_7 lca_7
              have lca_8 : w.heap.size < w8.heap.size := Nat.lt_of_lt_of_le lca_7 z8
              clear cb_7 lcb_7
              clear ca_7 lca_7
              go_wp2
              go_roundw
              case rel => exact ⟨0 + 1, rfl, by omega, JST.out, JWA.out, HS0.out, ca_8, H8, lca_8⟩
              case measure => simp [intOf]
    · have hgt : ¬ (k : Int) ≤ 0 := by omega
      go_wp2
      go_ret
      exact ⟨rfl, H2⟩
theorem keeps_all (x y z n : Int) (a : Option Addr) (len cap : Nat) (zs : List Int) (w : World) (hrow : IsRow .i64 w a len cap zs) :
    Calls Try.prog 7 #[.agg #[.int .i64 x, .int .i64 y, .int .i64 z], .int .i64 n, .slice a len cap] w (Yes w) := by
  by_cases hl : 100 < len
  · exact keeps_long x y z n a len cap w hl
  · obtain ⟨e, hr⟩ := hrow.reads
    rcases hrow with ⟨rfl, rfl, rfl, _⟩ | ⟨ad, rfl, hlc, _⟩
    · exact keeps_nil x y z n [] rfl w
    · rw [e]
      exact keeps_any x y z n (zs.take len) ad cap w (by omega) (by omega) hr
end Go.Proofs.Ytebkibpdagdmiaa
