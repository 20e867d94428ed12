/-
  The walk of ManyKeeps: it returns true for every three numbers, every number and every row of steps, and nothing that was there is written. No condition.
-/
import Derived.Test.YtebkibpdagdmiaaM14
import Derived.Test.YtebkibpdagdmiaaPlain3
import Derived.Deep.RegionHeld3
import Derived.Deep.DeepCutAuto
namespace Go.Proofs.Ytebkibpdagdmiaa
open Go.RowKit
/-- What one call of Play leaves: a batch at a block of its own, a slice of errors; the three numbers are still there. -/
def KeepCut (w : World) (x y z : Int) (r : B × List Int) (bp ev : Value) (W : World) : Prop :=
  ∃ g ae ke, bp = .pointer (some ⟨g, 0, none⟩) ∧ ev = .slice ae r.2.length ke ∧ g < W.heap.size ∧
    (∀ j, W.cell? ⟨g, j, none⟩ = (#[.int .i64 r.1.m, .int .i64 r.1.e, .int .i64 r.1.o, .int .i64 r.1.d, .int .i64 r.1.f] : Array Value)[j]?) ∧ Reads .i64 W ae r.2 ∧
    (∀ j, W.cell? ⟨w.heap.size, j, none⟩ = (#[.int .i64 x, .int .i64 y, .int .i64 z] : Array Value)[j]?) ∧ Below w.heap.size w W ∧ w.heap.size < W.heap.size
theorem alloc_cell {w : World} {X : Obj} {a : Addr} {v : Value} (h : w.cell? a = some v) : (w.alloc X).cell? a = some v :=
  below_fact h _ ((Below.refl _ _).alloc (Nat.le_refl _) X)
theorem alloc_cell_d {w : World} {X : Obj} {a : Addr} {v : Value} (h : w.cell? a = some v) : (w.alloc X).drew.cell? a = some v := alloc_cell (X := X) h
theorem new_blk_d {w w1 : World} {xs : Array Value} {t : TypeId} (hb : Below (w.alloc (.cells xs t)).drew.heap.size (w.alloc (.cells xs t)).drew w1) :
    (∀ o, w1.cell? ⟨w.heap.size, o, none⟩ = xs[o]?) ∧ (∀ o, w1.frozen? ⟨w.heap.size, o, none⟩ = false) ∧ w.heap.size < w1.heap.size := by
  have hb' : Below (w.alloc (.cells xs t)).heap.size (w.alloc (.cells xs t)) w1 := ⟨hb.os, hb.tape, hb.output, hb.size, hb.block⟩
  exact ⟨new_blk hb', below_free (new_free _ _ _) hb' (by simp), new_lt hb'⟩
theorem set5_cell {w : World} {b c i : Nat} {v v0 v1 v2 v3 v4 : Value} (h : w.cell? ⟨b, i, none⟩ = some v) (hne : c ≠ b) :
    (((((w.setCell ⟨c, 0, none⟩ v0).setCell ⟨c, 1, none⟩ v1).setCell ⟨c, 2, none⟩ v2).setCell ⟨c, 3, none⟩ v3).setCell ⟨c, 4, none⟩ v4).cell? ⟨b, i, none⟩ = some v := by
  rw [World.cell?_setCell_other _ _ _ _ (by intro e; injection e; omega), World.cell?_setCell_other _ _ _ _ (by intro e; injection e; omega), World.cell?_setCell_other _ _ _ _ (by intro e; injection e; omega), World.cell?_setCell_other _ _ _ _ (by intro e; injection e; omega), World.cell?_setCell_other _ _ _ _ (by intro e; injection e; omega)]
  exact h
theorem keep_a {w wr w3 : World} {x y z : Int} {r : B × List Int} {v3 : Value} (c2 : ∀ j, wr.cell? ⟨w.heap.size, j, none⟩ = (#[.int .i64 x, .int .i64 y, .int .i64 z] : Array Value)[j]?) (H2 : Below w.heap.size w wr) (z2 : w.heap.size < wr.heap.size)
    (own3 : w3.ownsRow wr.drew.heap.size 26 1 v3 r.2.length (r.2.map (.int .i64))) (hb3 : Below wr.drew.heap.size wr.drew w3) :
    KeepCut w x y z r (.pointer (some ⟨w3.heap.size, 0, none⟩)) v3 (w3.alloc (.cells #[.int .i64 r.1.m, .int .i64 r.1.e, .int .i64 r.1.o, .int .i64 r.1.d, .int .i64 r.1.f] 23)) := by
  have hb : Below wr.heap.size wr w3 := ⟨hb3.os, hb3.tape, hb3.output, hb3.size, hb3.block⟩
  obtain ⟨ae, ke, rfl, R3⟩ := Reads.of_owns' own3
  have z3 := Nat.lt_of_lt_of_le z2 hb.size
  exact ⟨w3.heap.size, ae, ke, rfl, rfl, by simp, new_blk (Below.refl _ _), R3.alloc _, alloc_blk (below_blk hb c2 z2) z3, (below_on' H2 (hb.mono (Nat.le_refl _))).alloc (by omega) _, by simp; omega⟩
theorem keep_b {w wr w3 : World} {x y z : Int} {r : B × List Int} {v3 : Value} {a0 a1 a2 a3 a4 : Value} (c2 : ∀ j, wr.cell? ⟨w.heap.size, j, none⟩ = (#[.int .i64 x, .int .i64 y, .int .i64 z] : Array Value)[j]?) (H2 : Below w.heap.size w wr) (z2 : w.heap.size < wr.heap.size)
    (own3 : w3.ownsRow (wr.alloc (.cells #[a0, a1, a2, a3, a4] 23)).drew.heap.size 26 1 v3 r.2.length (r.2.map (.int .i64))) (hb3 : Below (wr.alloc (.cells #[a0, a1, a2, a3, a4] 23)).drew.heap.size (wr.alloc (.cells #[a0, a1, a2, a3, a4] 23)).drew w3) :
    KeepCut w x y z r (.pointer (some ⟨wr.heap.size, 0, none⟩)) v3 (((((w3.setCell ⟨wr.heap.size, 0, none⟩ (.int .i64 r.1.m)).setCell ⟨wr.heap.size, 1, none⟩ (.int .i64 r.1.e)).setCell ⟨wr.heap.size, 2, none⟩ (.int .i64 r.1.o)).setCell ⟨wr.heap.size, 3, none⟩ (.int .i64 r.1.d)).setCell ⟨wr.heap.size, 4, none⟩ (.int .i64 r.1.f)) := by
  have hb : Below (wr.alloc (.cells #[a0, a1, a2, a3, a4] 23)).heap.size (wr.alloc (.cells #[a0, a1, a2, a3, a4] 23)) w3 := ⟨hb3.os, hb3.tape, hb3.output, hb3.size, hb3.block⟩
  have hne : wr.heap.size ≠ w.heap.size := by omega
  have z3 : w.heap.size < w3.heap.size := Nat.lt_trans z2 (new_lt hb)
  have own' : w3.ownsRow (wr.heap.size + 1) 26 1 v3 r.2.length (r.2.map (.int .i64)) := ownsRow_base own3 (by show _ ≤ (wr.alloc _).heap.size; simp)
  obtain ⟨ae, ke, e, R3⟩ := Reads.of_owns' (owns_set5 (v0 := .int .i64 r.1.m) (v1 := .int .i64 r.1.e) (v2 := .int .i64 r.1.o) (v3 := .int .i64 r.1.d) (v4 := .int .i64 r.1.f) own' (Nat.lt_succ_self _))
  subst e
  exact ⟨wr.heap.size, ae, ke, rfl, rfl, by simpa using new_lt hb, set5 (new_blk hb), R3, other_blk (other_blk (other_blk (other_blk (other_blk (keep_blk hb c2 z2) hne) hne) hne) hne) hne,
    below_set5 (on_alloc H2 H2.size hb) H2.size, by simpa using z3⟩
theorem keep_facts {s : B} {l : List Int} {k : Nat} {b : B} {errs : List Int} (hsr : right s = true) (hpl : plays s (l.take k) = (b, errs)) (hk : 0 < k) (hkl : k ≤ l.length) :
    b.o + b.d + b.f = count (plays s (l.take (k - 1))).1 + (if l.getD (k - 1) 0 = 0 ∧ errs.getD (k - 1) 0 = 0 then 1 else 0) ∧
    (over (plays s (l.take (k - 1))).1 = true → over b = true ∧ (0 ≤ l.getD (k - 1) 0 → l.getD (k - 1) 0 ≤ 2 → errs.getD (k - 1) 0 = 12)) ∧
    0 ≤ count (plays s (l.take (k - 1))).1 ∧ count (plays s (l.take (k - 1))).1 ≤ 16 := by
  have hp := plays_step s l (k - 1) (by omega)
  rw [show k - 1 + 1 = k by omega, hpl] at hp
  have hlen := plays_len s (l.take (k - 1))
  have hr := plays_right hsr (l.take (k - 1))
  generalize plays s (l.take (k - 1)) = q at hp hlen hr ⊢
  obtain ⟨b0, errs0⟩ := q
  simp only [Prod.mk.injEq] at hp hlen hr ⊢
  obtain ⟨rfl, rfl⟩ := hp
  have hl : errs0.length = k - 1 := by rw [hlen]; simp; omega
  have he : (errs0 ++ [(pstep b0 (l.getD (k - 1) 0)).2]).getD (k - 1) 0 = (pstep b0 (l.getD (k - 1) 0)).2 := by simp [List.getD, ← hl]
  rw [he]
  have h := pstep_keeps (x := l.getD (k - 1) 0) hr
  have hi := right_iff.1 hr
  refine ⟨h.2.1, h.2.2, ?_, ?_⟩ <;> unfold count <;> omega
theorem play_of {x y z n : Int} {s : B} (hs : start x y z n = (s, 0)) (l : List Int) : play x y z n l = plays s l := by unfold play; rw [hs]; rfl
theorem play_at (x y z n : Int) (l : List Int) (a : Option Addr) (len cap : Nat) (w : World) (hlen : l.length = len) (hl : l.length ≤ 1000) (hr : Reads .i64 w a l) :
    Calls Try.prog 25 #[.agg #[.int .i64 x, .int .i64 y, .int .i64 z], .int .i64 n, .slice a len cap] w (Played (play x y z n l) w) := by
  subst hlen; exact play_any x y z n l a cap w hl hr
def KeepRel (w : World) (x y z n : Int) (l : List Int) (st wa i : Value) (wr : World) : Prop :=
  ∃ k : Nat, i = .int .i64 k ∧ k ≤ l.length + 1 ∧ st = .int .i64 (if k = 0 then n else count (play x y z n (l.take (k - 1))).1) ∧
    wa = .bool (decide (k ≠ 0) && over (play x y z n (l.take (k - 1))).1) ∧ (k ≠ 0 → (start x y z n).2 = 0) ∧
    (∀ j, wr.cell? ⟨w.heap.size, j, none⟩ = (#[.int .i64 x, .int .i64 y, .int .i64 z] : Array Value)[j]?) ∧ Below w.heap.size w wr ∧ w.heap.size < wr.heap.size
theorem keeps_long (x y z n : Int) (a : Option Addr) (len cap : Nat) (w : World) (hl : 100 < len) :
    Calls Try.prog 7 #[.agg #[.int .i64 x, .int .i64 y, .int .i64 z], .int .i64 n, .slice a len cap] w (Yes w) := by
  have hl' : (100 : Int) < (len : Int) := by omega
  go_enter Try.func7, Try.ntmps7
  go_wp2_with (go_at_call 8; refine (small_any _).mono ?_; rintro en w1 ⟨rfl, hb1⟩)
  go_ret
  exact ⟨rfl, on_alloc (Below.refl _ _) (Nat.le_refl _) hb1⟩
set_option maxRecDepth 100000 in
set_option maxHeartbeats 4000000 in
theorem keeps_any (x y z n : Int) (l : List Int) (ad : Addr) (cap : Nat) (w : World) (hl : l.length ≤ 100) (hcap : l.length ≤ cap) (hr : Reads .i64 w (some ad) l) :
    Calls Try.prog 7 #[.agg #[.int .i64 x, .int .i64 y, .int .i64 z], .int .i64 n, .slice (some ad) l.length cap] w (Yes w) := by
  have hl' : (l.length : Int) ≤ 100 := by omega
  have hl2 : ¬ (100 : Int) < (l.length : Int) := by omega
  have HR := Lib.hid hr
  clear hr
  go_enter Try.func7, Try.ntmps7
  go_wp2_with (go_at_call 8; refine (small_any _).mono ?_; rintro en w1 ⟨rfl, hb1⟩; have c1 := new_blk hb1; have z1 := new_lt hb1; have H1 := on_alloc (Below.refl _ _) (Nat.le_refl _) hb1; clear hb1)
  go_loopw [8, 9, 10] (fun st wa i wr => KeepRel w x y z n l st wa i wr) (fun _ _ i _ => l.length + 1 - (intOf i).toNat)
  case atStart => exact ⟨0, rfl, Nat.zero_le _, rfl, rfl, fun h => absurd rfl h, c1, H1, z1⟩
  case round =>
    obtain ⟨k, rfl, hk, rfl, rfl, hst, c2, H2, z2⟩ := hrel
    generalize hcnt : (if k = 0 then n else count (play x y z n (l.take (k - 1))).1) = cnt
    generalize hwas : (decide (k ≠ 0) && over (play x y z n (l.take (k - 1))).1) = was
    have HC := Lib.hid hcnt
    have HW := Lib.hid hwas
    have HS := Lib.hid hst
    clear hcnt hwas hst
    by_cases hlt : k ≤ l.length
    · have hlt' : (k : Int) ≤ (l.length : Int) := by omega
      have h0 : (0 : Int) ≤ (k : Int) := by omega
      have hkc : (k : Int) ≤ (cap : Int) := by omega
      go_upto_region 9 with fail
      go_cut [11, 12] (fun bp ev W => KeepCut w x y z (play x y z n (l.take k)) bp ev W)
      case first =>
        have q0 : wr.cell? ⟨w.heap.size, 0, none⟩ = some (.int .i64 x) := by simpa using c2 0
        have q1 : wr.cell? ⟨w.heap.size, 1, none⟩ = some (.int .i64 y) := by simpa using c2 1
        have q2 : wr.cell? ⟨w.heap.size, 2, none⟩ = some (.int .i64 z) := by simpa using c2 2
        have qd0 : wr.drew.cell? ⟨w.heap.size, 0, none⟩ = some (.int .i64 x) := q0
        have qd1 : wr.drew.cell? ⟨w.heap.size, 1, none⟩ = some (.int .i64 y) := q1
        have qd2 : wr.drew.cell? ⟨w.heap.size, 2, none⟩ = some (.int .i64 z) := q2
        have hne : wr.heap.size ≠ w.heap.size := by omega
        have R1 := (HR.out.below H2.drew).take k
        have R2 := (HR.out.below (H2.alloc H2.size (.cells #[.int .i64 0, .int .i64 0, .int .i64 0, .int .i64 0, .int .i64 0] 23)).drew).take k
        have C2 := Lib.hid c2
        clear c2
        have hlk : (l.take k).length = k := by simp; omega
        have HK := Lib.hid hlk
        clear hlk
        go_region_held3 (fun w' => w'.cell? ⟨w.heap.size, 0, none⟩ = some (.int .i64 x) ∧ w'.cell? ⟨w.heap.size, 1, none⟩ = some (.int .i64 y) ∧ w'.cell? ⟨w.heap.size, 2, none⟩ = some (.int .i64 z))
          (first | with_reducible exact ⟨q0, q1, q2⟩ | with_reducible exact ⟨qd0, qd1, qd2⟩ | with_reducible exact ⟨alloc_cell_d q0, alloc_cell_d q1, alloc_cell_d q2⟩ | with_reducible exact ⟨r0, r1, r2⟩ | with_reducible exact ⟨alloc_cell r0, alloc_cell r1, alloc_cell r2⟩ | with_reducible exact ⟨set5_cell r0 hne, set5_cell r1 hne, set5_cell r2 hne⟩ | go_keep)
          (first
            | (go_at_call 25; refine (play_at x y z n (l.take k) _ _ _ _ HK.out (by rw [HK.out]; omega) (by with_reducible exact R1)).mono ?_; rintro en w3 ⟨v3, rfl, own3, hb3⟩; simp only [B.v]; have z3 : w.heap.size < w3.heap.size := by { have := hb3.size; simp at this; omega }; have r0 : w3.cell? ⟨w.heap.size, 0, none⟩ = some (.int .i64 x) := below_fact (qd0) _ hb3; have r1 : w3.cell? ⟨w.heap.size, 1, none⟩ = some (.int .i64 y) := below_fact (qd1) _ hb3; have r2 : w3.cell? ⟨w.heap.size, 2, none⟩ = some (.int .i64 z) := below_fact (qd2) _ hb3)
            | (go_at_call 25; refine (play_at x y z n (l.take k) _ _ _ _ HK.out (by rw [HK.out]; omega) (by with_reducible exact R2)).mono ?_; rintro en w3 ⟨v3, rfl, own3, hb3⟩; simp only [B.v]; have z3 : w.heap.size < w3.heap.size := by { have := hb3.size; simp at this; omega }; have r0 : w3.cell? ⟨w.heap.size, 0, none⟩ = some (.int .i64 x) := below_fact (alloc_cell_d q0) _ hb3; have r1 : w3.cell? ⟨w.heap.size, 1, none⟩ = some (.int .i64 y) := below_fact (alloc_cell_d q1) _ hb3; have r2 : w3.cell? ⟨w.heap.size, 2, none⟩ = some (.int .i64 z) := below_fact (alloc_cell_d q2) _ hb3; obtain ⟨nb, nf, nz⟩ := new_blk_d (w := wr) hb3))
        · go_wp2_with fail
          go_meet
          exact keep_a C2.out H2 z2 own3 hb3
        · go_wp2_with fail
          go_meet
          exact keep_b C2.out H2 z2 own3 hb3
      case rest =>
        obtain ⟨g, ae, ke, rfl, rfl, hg, cb, Re, ca, Hb, za⟩ := hcut
        have HQ := Lib.hid (rfl : play x y z n (l.take k) = play x y z n (l.take k))
        generalize hq : play x y z n (l.take k) = q at cb Re
        have HQ2 := Lib.hid hq
        clear hq HQ c2 H2 z2 hkc
        rcases start_cases x y z n with hs | ⟨s, hs, hsr, hsn⟩
        · -- Start refuses: the first round returns
          have hk0 : k = 0 := by
            rcases Nat.eq_zero_or_pos k with h | h
            · exact h
            · have := HS.out (by omega); rw [hs] at this; cases this
          have hq1 : q = (⟨0, 0, 0, 0, 0⟩, [1]) := by rw [← HQ2.out]; unfold play; rw [hs]; rfl
          subst hq1
          have hrz : right ⟨0, 0, 0, 0, 0⟩ = false := by decide
          simp only [] at cb Re
          have H4 := Hb
          have cb_4 := cb
          have lcb_4 := hg
          have ca_4 := ca
          have lca_4 := za
          clear Hb cb hg ca za
          obtain rfl := hk0
          go_wp2_with fail
          refine (right_is hrz _).mono ?_
          rintro en w5 ⟨rfl, hb5⟩
          have H5 := H4.trans (hb5.mono H4.size)
          have z5 := hb5.size
          have cb_5 := below_blk hb5 cb_4 lcb_4
          have lcb_5 : g < w5.heap.size := Nat.lt_of_lt_of_le lcb_4 z5
          have ca_5 := below_blk hb5 ca_4 lca_4
          have lca_5 : w.heap.size < w5.heap.size := Nat.lt_of_lt_of_le lca_4 z5
          clear cb_4 lcb_4
          clear ca_4 lca_4
          go_wp2_with fail
          refine (start_is hs _).mono ?_
          rintro en w6 ⟨rfl, hb6⟩
          have H6 := H5.trans (hb6.mono H5.size)
          have z6 := hb6.size
          have cb_6 := below_blk hb6 cb_5 lcb_5
          have lcb_6 : g < w6.heap.size := Nat.lt_of_lt_of_le lcb_5 z6
          have ca_6 := below_blk hb6 ca_5 lca_5
          have lca_6 : w.heap.size < w6.heap.size := Nat.lt_of_lt_of_le lca_5 z6
          clear cb_5 lcb_5
          clear ca_5 lca_5
          simp only [B.v]
          go_wp2_with fail
          go_ret
          exact ⟨rfl, H6.alloc H6.size _⟩
        · -- Start has begun a batch
          obtain ⟨⟨m, e, o, d, f⟩, errs⟩ := q
          have hpl : plays s (l.take k) = (⟨m, e, o, d, f⟩, errs) := by rw [← HQ2.out]; unfold play; rw [hs]; rfl
          have hR : right ⟨m, e, o, d, f⟩ = true := by have := plays_right hsr (l.take k); rw [hpl] at this; exact this
          have hlen : errs.length = k := by have := plays_len s (l.take k); rw [hpl] at this; simp at this; omega
          have hi := right_iff.1 hR
          simp only [] at hi
          have io : 0 ≤ o ∧ o ≤ 16 := by omega
          have id' : 0 ≤ d ∧ d ≤ 16 := by omega
          have if' : 0 ≤ f ∧ f ≤ 16 := by omega
          clear hi
          have hst1 : (if k + 1 = 0 then n else count (play x y z n (l.take (k + 1 - 1))).1) = o + d + f := by
            rw [if_neg (by omega), Nat.add_sub_cancel, HQ2.out]; rfl
          have hwa1 : (decide (k + 1 ≠ 0) && over (play x y z n (l.take (k + 1 - 1))).1) = over ⟨m, e, o, d, f⟩ := by
            rw [Nat.add_sub_cancel, HQ2.out]; simp
          have HST := Lib.hid hst1
          have HWA := Lib.hid hwa1
          have HS0 : Hid (k + 1 ≠ 0 → (start x y z n).2 = 0) := fun _ => by rw [hs]
          have HPL := Lib.hid hpl
          simp only [] at cb Re
          have hlen' : (errs.length : Int) = (k : Int) := by omega
          have HLE := Lib.hid hlen
          have HSS := Lib.hid hs
          have HSR := Lib.hid hsr
          have HSN := Lib.hid hsn
          subst hlen
          clear hst1 hwa1 hpl hs hsn hsr hlen' HS
          obtain ⟨wl, hwl⟩ : ∃ wl, well ⟨m, e, o, d, f⟩ = wl := ⟨_, rfl⟩
          obtain ⟨ov, hov⟩ : ∃ ov, over ⟨m, e, o, d, f⟩ = ov := ⟨_, rfl⟩
          have hwo : wl = true → ov = true := fun h => by rw [← hov]; exact well_over (hwl.trans h)
          by_cases hk0 : errs.length = 0
          · obtain rfl : errs = [] := List.eq_nil_of_length_eq_zero hk0
            have hb0 : (⟨m, e, o, d, f⟩ : B) = s := by
              have := HPL.out
              simp only [List.length_nil, List.take_zero, plays_nil, Prod.mk.injEq] at this
              exact this.1.symm
            have hcn : cnt = n := HC.out.symm
            have hsum : o + d + f = n := by rw [← HSN.out, ← hb0]; rfl
            have hwf : was = false := HW.out.symm
            subst hwf
            obtain rfl : cnt = n := hcn
            have hbne : (o + d + f != cnt) = false := by simp [hsum]
            have IST : Value.int .i64 cnt = .int .i64 (if 0 + 1 = 0 then cnt else count (play x y z cnt (l.take (0 + 1 - 1))).1) := by have := HST.out; simp only [List.length_nil] at this; rw [this, hsum]
            have IWA : Value.bool ov = .bool (decide (0 + 1 ≠ 0) && over (play x y z cnt (l.take (0 + 1 - 1))).1) := by have := HWA.out; simp only [List.length_nil] at this; rw [this, hov]
            have JST := Lib.hid IST
            have JWA := Lib.hid IWA
            clear hb0 hsum IST IWA hk0 Re
            cases wl
            · clear hwo
              have H4 := Hb
              have cb_4 := cb
              have lcb_4 := hg
              have ca_4 := ca
              have lca_4 := za
              clear Hb cb hg ca za
              go_wp2_with fail
              refine (right_is hR _).mono ?_
              rintro en w5 ⟨rfl, hb5⟩
              have H5 := H4.trans (hb5.mono H4.size)
              have z5 := hb5.size
              have cb_5 := below_blk hb5 cb_4 lcb_4
              have lcb_5 : g < w5.heap.size := Nat.lt_of_lt_of_le lcb_4 z5
              have ca_5 := below_blk hb5 ca_4 lca_4
              have lca_5 : w.heap.size < w5.heap.size := Nat.lt_of_lt_of_le lca_4 z5
              clear cb_4 lcb_4
              clear ca_4 lca_4
              go_wp2_with fail
              refine (well_is hwl _).mono ?_
              rintro en w6 ⟨rfl, hb6⟩
              have H6 := H5.trans (hb6.mono H5.size)
              have z6 := hb6.size
              have cb_6 := below_blk hb6 cb_5 lcb_5
              have lcb_6 : g < w6.heap.size := Nat.lt_of_lt_of_le lcb_5 z6
              have ca_6 := below_blk hb6 ca_5 lca_5
              have lca_6 : w.heap.size < w6.heap.size := Nat.lt_of_lt_of_le lca_5 z6
              clear cb_5 lcb_5
              clear ca_5 lca_5
              go_wp2_with fail
              refine (over_is hov _).mono ?_
              rintro en w7 ⟨rfl, hb7⟩
              have H7 := H6.trans (hb7.mono H6.size)
              have z7 := hb7.size
              have cb_7 := below_blk hb7 cb_6 lcb_6
              have lcb_7 : g < w7.heap.size := Nat.lt_of_lt_of_le lcb_6 z7
              have ca_7 := below_blk hb7 ca_6 lca_6
              have lca_7 : w.heap.size < w7.heap.size := Nat.lt_of_lt_of_le lca_6 z7
              clear cb_6 lcb_6
              clear ca_6 lca_6
              go_wp2
              go_roundw
              case rel => exact ⟨0 + 1, rfl, by omega, JST.out, JWA.out, HS0.out, ca_7, H7, lca_7⟩
              case measure => simp [intOf]
            · obtain rfl : ov = true := hwo rfl
              clear hwo
              have H4 := Hb
              have cb_4 := cb
              have lcb_4 := hg
              have ca_4 := ca
              have lca_4 := za
              clear Hb cb hg ca za
              go_wp2_with fail
              refine (right_is hR _).mono ?_
              rintro en w5 ⟨rfl, hb5⟩
              have H5 := H4.trans (hb5.mono H4.size)
              have z5 := hb5.size
              have cb_5 := below_blk hb5 cb_4 lcb_4
              have lcb_5 : g < w5.heap.size := Nat.lt_of_lt_of_le lcb_4 z5
              have ca_5 := below_blk hb5 ca_4 lca_4
              have lca_5 : w.heap.size < w5.heap.size := Nat.lt_of_lt_of_le lca_4 z5
              clear cb_4 lcb_4
              clear ca_4 lca_4
              go_wp2_with fail
              refine (well_is hwl _).mono ?_
              rintro en w6 ⟨rfl, hb6⟩
              have H6 := H5.trans (hb6.mono H5.size)
              have z6 := hb6.size
              have cb_6 := below_blk hb6 cb_5 lcb_5
              have lcb_6 : g < w6.heap.size := Nat.lt_of_lt_of_le lcb_5 z6
              have ca_6 := below_blk hb6 ca_5 lca_5
              have lca_6 : w.heap.size < w6.heap.size := Nat.lt_of_lt_of_le lca_5 z6
              clear cb_5 lcb_5
              clear ca_5 lca_5
              go_wp2_with fail
              refine (over_is hov _).mono ?_
              rintro en w7 ⟨rfl, hb7⟩
              have H7 := H6.trans (hb7.mono H6.size)
              have z7 := hb7.size
              have cb_7 := below_blk hb7 cb_6 lcb_6
              have lcb_7 : g < w7.heap.size := Nat.lt_of_lt_of_le lcb_6 z7
              have ca_7 := below_blk hb7 ca_6 lca_6
              have lca_7 : w.heap.size < w7.heap.size := Nat.lt_of_lt_of_le lca_6 z7
              clear cb_6 lcb_6
              clear ca_6 lca_6
              go_wp2_with fail
              refine (over_is hov _).mono ?_
              rintro en w8 ⟨rfl, hb8⟩
              have H8 := H7.trans (hb8.mono H7.size)
              have z8 := hb8.size
              have cb_8 := below_blk hb8 cb_7 lcb_7
              have lcb_8 : g < w8.heap.size := Nat.lt_of_lt_of_le lcb_7 z8
              have ca_8 := below_blk hb8 ca_7 lca_7
              have lca_8 : w.heap.size < w8.heap.size := Nat.lt_of_lt_of_le lca_7 z8
              clear cb_7 lcb_7
              clear ca_7 lca_7
              go_wp2
              go_roundw
              case rel => exact ⟨0 + 1, rfl, by omega, JST.out, JWA.out, HS0.out, ca_8, H8, lca_8⟩
              case measure => simp [intOf]
          · have hkp : 0 < errs.length := by omega
            have hF := keep_facts HSR.out HPL.out hkp hlt
            simp only [] at hF
            obtain ⟨gl, ol, hel, hgl, hcl⟩ := HR.out (errs.length - 1) (by omega)
            injection hel with hel
            subst hel
            obtain ⟨ge, oe, rfl, hge, xe⟩ := Re (errs.length - 1) (by omega)
            have xl := (Hb.cell (p := ⟨gl, ol + (errs.length - 1), none⟩) hgl).trans hcl
            have hcn : count (plays s (l.take (errs.length - 1))).1 = cnt := by
              have := HC.out; rw [if_neg hk0, play_of HSS.out] at this; exact this
            have hwa : over (plays s (l.take (errs.length - 1))).1 = was := by
              have := HW.out; rw [play_of HSS.out] at this; simpa [hk0] using this
            rw [hcn, hwa, hov] at hF
            clear hcn hwa hcl hgl hge Re
            generalize l.getD (errs.length - 1) 0 = x1 at hF xl
            generalize errs.getD (errs.length - 1) 0 = err at hF xe
            obtain ⟨hsum, hwas, hc0, hc1⟩ := hF
            have hk1 : (0 : Int) < (errs.length : Int) := by omega
            have hk2 : (0 : Int) ≤ (errs.length : Int) - 1 := by omega
            have hk3 : (errs.length : Int) - 1 < (l.length : Int) := by omega
            have hk4 : (errs.length : Int) - 1 < (errs.length : Int) := by omega
            have IST := HST.out
            have IWA := HWA.out
            rw [hov] at IWA
            have HW2 := Lib.hid hwas
            have HSM := Lib.hid hsum
            have HWO := Lib.hid hwo
            clear hwas hsum hwo hk0
            have JWA := Lib.hid IWA
            have JS0 := Lib.hid IST
            clear IWA IST
            cases was
            · by_cases hx : x1 = 0
              · subst hx
                by_cases he : err = 0
                · subst he
                  have hs1 : o + d + f = cnt + 1 := by have := HSM.out; simpa using this
                  have JST := Lib.hid (show cnt + 1 = _ from (JS0.out.trans hs1).symm)
                  have hbne : (o + d + f != cnt + 1) = false := by simp [hs1]
                  clear hs1
                  cases wl
                  · skip
                    have H4 := Hb
                    have cb_4 := cb
                    have lcb_4 := hg
                    have ca_4 := ca
                    have lca_4 := za
                    clear Hb cb hg ca za
                    have xl_4 := xl
                    have xe_4 := xe
                    clear xl xe
                    go_wp2_with fail
                    refine (right_is hR _).mono ?_
                    rintro en w5 ⟨rfl, hb5⟩
                    have H5 := H4.trans (hb5.mono H4.size)
                    have z5 := hb5.size
                    have cb_5 := below_blk hb5 cb_4 lcb_4
                    have lcb_5 : g < w5.heap.size := Nat.lt_of_lt_of_le lcb_4 z5
                    have ca_5 := below_blk hb5 ca_4 lca_4
                    have lca_5 : w.heap.size < w5.heap.size := Nat.lt_of_lt_of_le lca_4 z5
                    clear cb_4 lcb_4
                    clear ca_4 lca_4
                    have xl_5 := below_fact xl_4 _ hb5
                    have xe_5 := below_fact xe_4 _ hb5
                    clear xl_4 xe_4
                    go_wp2_with fail
                    refine (well_is hwl _).mono ?_
                    rintro en w6 ⟨rfl, hb6⟩
                    have H6 := H5.trans (hb6.mono H5.size)
                    have z6 := hb6.size
                    have cb_6 := below_blk hb6 cb_5 lcb_5
                    have lcb_6 : g < w6.heap.size := Nat.lt_of_lt_of_le lcb_5 z6
                    have ca_6 := below_blk hb6 ca_5 lca_5
                    have lca_6 : w.heap.size < w6.heap.size := Nat.lt_of_lt_of_le lca_5 z6
                    clear cb_5 lcb_5
                    clear ca_5 lca_5
                    have xl_6 := below_fact xl_5 _ hb6
                    have xe_6 := below_fact xe_5 _ hb6
                    clear xl_5 xe_5
                    go_wp2_with fail
                    refine (over_is hov _).mono ?_
                    rintro en w7 ⟨rfl, hb7⟩
                    have H7 := H6.trans (hb7.mono H6.size)
                    have z7 := hb7.size
                    have cb_7 := below_blk hb7 cb_6 lcb_6
                    have lcb_7 : g < w7.heap.size := Nat.lt_of_lt_of_le lcb_6 z7
                    have ca_7 := below_blk hb7 ca_6 lca_6
                    have lca_7 : w.heap.size < w7.heap.size := Nat.lt_of_lt_of_le lca_6 z7
                    clear cb_6 lcb_6
                    clear ca_6 lca_6
                    have xl_7 := below_fact xl_6 _ hb7
                    have xe_7 := below_fact xe_6 _ hb7
                    clear xl_6 xe_6
                    go_wp2
                    go_roundw
                    case rel => exact ⟨errs.length + 1, rfl, by omega, by rw [← JST.out], by rw [JWA.out], HS0.out, ca_7, H7, lca_7⟩
                    case measure => simp [intOf]; omega
                  · obtain rfl : ov = true := HWO.out rfl
                    have H4 := Hb
                    have cb_4 := cb
                    have lcb_4 := hg
                    have ca_4 := ca
                    have lca_4 := za
                    clear Hb cb hg ca za
                    have xl_4 := xl
                    have xe_4 := xe
                    clear xl xe
                    go_wp2_with fail
                    refine (right_is hR _).mono ?_
                    rintro en w5 ⟨rfl, hb5⟩
                    have H5 := H4.trans (hb5.mono H4.size)
                    have z5 := hb5.size
                    have cb_5 := below_blk hb5 cb_4 lcb_4
                    have lcb_5 : g < w5.heap.size := Nat.lt_of_lt_of_le lcb_4 z5
                    have ca_5 := below_blk hb5 ca_4 lca_4
                    have lca_5 : w.heap.size < w5.heap.size := Nat.lt_of_lt_of_le lca_4 z5
                    clear cb_4 lcb_4
                    clear ca_4 lca_4
                    have xl_5 := below_fact xl_4 _ hb5
                    have xe_5 := below_fact xe_4 _ hb5
                    clear xl_4 xe_4
                    go_wp2_with fail
                    refine (well_is hwl _).mono ?_
                    rintro en w6 ⟨rfl, hb6⟩
                    have H6 := H5.trans (hb6.mono H5.size)
                    have z6 := hb6.size
                    have cb_6 := below_blk hb6 cb_5 lcb_5
                    have lcb_6 : g < w6.heap.size := Nat.lt_of_lt_of_le lcb_5 z6
                    have ca_6 := below_blk hb6 ca_5 lca_5
                    have lca_6 : w.heap.size < w6.heap.size := Nat.lt_of_lt_of_le lca_5 z6
                    clear cb_5 lcb_5
                    clear ca_5 lca_5
                    have xl_6 := below_fact xl_5 _ hb6
                    have xe_6 := below_fact xe_5 _ hb6
                    clear xl_5 xe_5
                    go_wp2_with fail
                    refine (over_is hov _).mono ?_
                    rintro en w7 ⟨rfl, hb7⟩
                    have H7 := H6.trans (hb7.mono H6.size)
                    have z7 := hb7.size
                    have cb_7 := below_blk hb7 cb_6 lcb_6
                    have lcb_7 : g < w7.heap.size := Nat.lt_of_lt_of_le lcb_6 z7
                    have ca_7 := below_blk hb7 ca_6 lca_6
                    have lca_7 : w.heap.size < w7.heap.size := Nat.lt_of_lt_of_le lca_6 z7
                    clear cb_6 lcb_6
                    clear ca_6 lca_6
                    have xl_7 := below_fact xl_6 _ hb7
                    have xe_7 := below_fact xe_6 _ hb7
                    clear xl_6 xe_6
                    go_wp2_with fail
                    refine (over_is hov _).mono ?_
                    rintro en w8 ⟨rfl, hb8⟩
                    have H8 := H7.trans (hb8.mono H7.size)
                    have z8 := hb8.size
                    have cb_8 := below_blk hb8 cb_7 lcb_7
                    have lcb_8 : g < w8.heap.size := Nat.lt_of_lt_of_le lcb_7 z8
                    have ca_8 := below_blk hb8 ca_7 lca_7
                    have lca_8 : w.heap.size < w8.heap.size := Nat.lt_of_lt_of_le lca_7 z8
                    clear cb_7 lcb_7
                    clear ca_7 lca_7
                    have xl_8 := below_fact xl_7 _ hb8
                    have xe_8 := below_fact xe_7 _ hb8
                    clear xl_7 xe_7
                    go_wp2
                    go_roundw
                    case rel => exact ⟨errs.length + 1, rfl, by omega, by rw [← JST.out], by rw [JWA.out], HS0.out, ca_8, H8, lca_8⟩
                    case measure => simp [intOf]; omega
                · have hs1 : o + d + f = cnt := by have := HSM.out; rw [if_neg (by omega)] at this; omega
                  have JST := Lib.hid (show cnt = _ from (JS0.out.trans hs1).symm)
                  have hbne : (o + d + f != cnt) = false := by simp [hs1]
                  have he' : (err == 0) = false := by simpa using he
                  clear hs1 he
                  cases wl
                  · skip
                    have H4 := Hb
                    have cb_4 := cb
                    have lcb_4 := hg
                    have ca_4 := ca
                    have lca_4 := za
                    clear Hb cb hg ca za
                    have xl_4 := xl
                    have xe_4 := xe
                    clear xl xe
                    go_wp2_with fail
                    refine (right_is hR _).mono ?_
                    rintro en w5 ⟨rfl, hb5⟩
                    have H5 := H4.trans (hb5.mono H4.size)
                    have z5 := hb5.size
                    have cb_5 := below_blk hb5 cb_4 lcb_4
                    have lcb_5 : g < w5.heap.size := Nat.lt_of_lt_of_le lcb_4 z5
                    have ca_5 := below_blk hb5 ca_4 lca_4
                    have lca_5 : w.heap.size < w5.heap.size := Nat.lt_of_lt_of_le lca_4 z5
                    clear cb_4 lcb_4
                    clear ca_4 lca_4
                    have xl_5 := below_fact xl_4 _ hb5
                    have xe_5 := below_fact xe_4 _ hb5
                    clear xl_4 xe_4
                    go_wp2_with fail
                    refine (well_is hwl _).mono ?_
                    rintro en w6 ⟨rfl, hb6⟩
                    have H6 := H5.trans (hb6.mono H5.size)
                    have z6 := hb6.size
                    have cb_6 := below_blk hb6 cb_5 lcb_5
                    have lcb_6 : g < w6.heap.size := Nat.lt_of_lt_of_le lcb_5 z6
                    have ca_6 := below_blk hb6 ca_5 lca_5
                    have lca_6 : w.heap.size < w6.heap.size := Nat.lt_of_lt_of_le lca_5 z6
                    clear cb_5 lcb_5
                    clear ca_5 lca_5
                    have xl_6 := below_fact xl_5 _ hb6
                    have xe_6 := below_fact xe_5 _ hb6
                    clear xl_5 xe_5
                    go_wp2_with fail
                    refine (over_is hov _).mono ?_
                    rintro en w7 ⟨rfl, hb7⟩
                    have H7 := H6.trans (hb7.mono H6.size)
                    have z7 := hb7.size
                    have cb_7 := below_blk hb7 cb_6 lcb_6
                    have lcb_7 : g < w7.heap.size := Nat.lt_of_lt_of_le lcb_6 z7
                    have ca_7 := below_blk hb7 ca_6 lca_6
                    have lca_7 : w.heap.size < w7.heap.size := Nat.lt_of_lt_of_le lca_6 z7
                    clear cb_6 lcb_6
                    clear ca_6 lca_6
                    have xl_7 := below_fact xl_6 _ hb7
                    have xe_7 := below_fact xe_6 _ hb7
                    clear xl_6 xe_6
                    go_wp2
                    go_roundw
                    case rel => exact ⟨errs.length + 1, rfl, by omega, by rw [← JST.out], by rw [JWA.out], HS0.out, ca_7, H7, lca_7⟩
                    case measure => simp [intOf]; omega
                  · obtain rfl : ov = true := HWO.out rfl
                    have H4 := Hb
                    have cb_4 := cb
                    have lcb_4 := hg
                    have ca_4 := ca
                    have lca_4 := za
                    clear Hb cb hg ca za
                    have xl_4 := xl
                    have xe_4 := xe
                    clear xl xe
                    go_wp2_with fail
                    refine (right_is hR _).mono ?_
                    rintro en w5 ⟨rfl, hb5⟩
                    have H5 := H4.trans (hb5.mono H4.size)
                    have z5 := hb5.size
                    have cb_5 := below_blk hb5 cb_4 lcb_4
                    have lcb_5 : g < w5.heap.size := Nat.lt_of_lt_of_le lcb_4 z5
                    have ca_5 := below_blk hb5 ca_4 lca_4
                    have lca_5 : w.heap.size < w5.heap.size := Nat.lt_of_lt_of_le lca_4 z5
                    clear cb_4 lcb_4
                    clear ca_4 lca_4
                    have xl_5 := below_fact xl_4 _ hb5
                    have xe_5 := below_fact xe_4 _ hb5
                    clear xl_4 xe_4
                    go_wp2_with fail
                    refine (well_is hwl _).mono ?_
                    rintro en w6 ⟨rfl, hb6⟩
                    have H6 := H5.trans (hb6.mono H5.size)
                    have z6 := hb6.size
                    have cb_6 := below_blk hb6 cb_5 lcb_5
                    have lcb_6 : g < w6.heap.size := Nat.lt_of_lt_of_le lcb_5 z6
                    have ca_6 := below_blk hb6 ca_5 lca_5
                    have lca_6 : w.heap.size < w6.heap.size := Nat.lt_of_lt_of_le lca_5 z6
                    clear cb_5 lcb_5
                    clear ca_5 lca_5
                    have xl_6 := below_fact xl_5 _ hb6
                    have xe_6 := below_fact xe_5 _ hb6
                    clear xl_5 xe_5
                    go_wp2_with fail
                    refine (over_is hov _).mono ?_
                    rintro en w7 ⟨rfl, hb7⟩
                    have H7 := H6.trans (hb7.mono H6.size)
                    have z7 := hb7.size
                    have cb_7 := below_blk hb7 cb_6 lcb_6
                    have lcb_7 : g < w7.heap.size := Nat.lt_of_lt_of_le lcb_6 z7
                    have ca_7 := below_blk hb7 ca_6 lca_6
                    have lca_7 : w.heap.size < w7.heap.size := Nat.lt_of_lt_of_le lca_6 z7
                    clear cb_6 lcb_6
                    clear ca_6 lca_6
                    have xl_7 := below_fact xl_6 _ hb7
                    have xe_7 := below_fact xe_6 _ hb7
                    clear xl_6 xe_6
                    go_wp2_with fail
                    refine (over_is hov _).mono ?_
                    rintro en w8 ⟨rfl, hb8⟩
                    have H8 := H7.trans (hb8.mono H7.size)
                    have z8 := hb8.size
                    have cb_8 := below_blk hb8 cb_7 lcb_7
                    have lcb_8 : g < w8.heap.size := Nat.lt_of_lt_of_le lcb_7 z8
                    have ca_8 := below_blk hb8 ca_7 lca_7
                    have lca_8 : w.heap.size < w8.heap.size := Nat.lt_of_lt_of_le lca_7 z8
                    clear cb_7 lcb_7
                    clear ca_7 lca_7
                    have xl_8 := below_fact xl_7 _ hb8
                    have xe_8 := below_fact xe_7 _ hb8
                    clear xl_7 xe_7
                    go_wp2
                    go_roundw
                    case rel => exact ⟨errs.length + 1, rfl, by omega, by rw [← JST.out], by rw [JWA.out], HS0.out, ca_8, H8, lca_8⟩
                    case measure => simp [intOf]; omega
              · have hs1 : o + d + f = cnt := by have := HSM.out; rw [if_neg (by omega)] at this; omega
                have JST := Lib.hid (show cnt = _ from (JS0.out.trans hs1).symm)
                have hbne : (o + d + f != cnt) = false := by simp [hs1]
                have hx' : (x1 == 0) = false := by simpa using hx
                clear hs1 hx
                cases wl
                · skip
                  have H4 := Hb
                  have cb_4 := cb
                  have lcb_4 := hg
                  have ca_4 := ca
                  have lca_4 := za
                  clear Hb cb hg ca za
                  have xl_4 := xl
                  have xe_4 := xe
                  clear xl xe
                  go_wp2_with fail
                  refine (right_is hR _).mono ?_
                  rintro en w5 ⟨rfl, hb5⟩
                  have H5 := H4.trans (hb5.mono H4.size)
                  have z5 := hb5.size
                  have cb_5 := below_blk hb5 cb_4 lcb_4
                  have lcb_5 : g < w5.heap.size := Nat.lt_of_lt_of_le lcb_4 z5
                  have ca_5 := below_blk hb5 ca_4 lca_4
                  have lca_5 : w.heap.size < w5.heap.size := Nat.lt_of_lt_of_le lca_4 z5
                  clear cb_4 lcb_4
                  clear ca_4 lca_4
                  have xl_5 := below_fact xl_4 _ hb5
                  have xe_5 := below_fact xe_4 _ hb5
                  clear xl_4 xe_4
                  go_wp2_with fail
                  refine (well_is hwl _).mono ?_
                  rintro en w6 ⟨rfl, hb6⟩
                  have H6 := H5.trans (hb6.mono H5.size)
                  have z6 := hb6.size
                  have cb_6 := below_blk hb6 cb_5 lcb_5
                  have lcb_6 : g < w6.heap.size := Nat.lt_of_lt_of_le lcb_5 z6
                  have ca_6 := below_blk hb6 ca_5 lca_5
                  have lca_6 : w.heap.size < w6.heap.size := Nat.lt_of_lt_of_le lca_5 z6
                  clear cb_5 lcb_5
                  clear ca_5 lca_5
                  have xl_6 := below_fact xl_5 _ hb6
                  have xe_6 := below_fact xe_5 _ hb6
                  clear xl_5 xe_5
                  go_wp2_with fail
                  refine (over_is hov _).mono ?_
                  rintro en w7 ⟨rfl, hb7⟩
                  have H7 := H6.trans (hb7.mono H6.size)
                  have z7 := hb7.size
                  have cb_7 := below_blk hb7 cb_6 lcb_6
                  have lcb_7 : g < w7.heap.size := Nat.lt_of_lt_of_le lcb_6 z7
                  have ca_7 := below_blk hb7 ca_6 lca_6
                  have lca_7 : w.heap.size < w7.heap.size := Nat.lt_of_lt_of_le lca_6 z7
                  clear cb_6 lcb_6
                  clear ca_6 lca_6
                  have xl_7 := below_fact xl_6 _ hb7
                  have xe_7 := below_fact xe_6 _ hb7
                  clear xl_6 xe_6
                  go_wp2
                  go_roundw
                  case rel => exact ⟨errs.length + 1, rfl, by omega, by rw [← JST.out], by rw [JWA.out], HS0.out, ca_7, H7, lca_7⟩
                  case measure => simp [intOf]; omega
                · obtain rfl : ov = true := HWO.out rfl
                  have H4 := Hb
                  have cb_4 := cb
                  have lcb_4 := hg
                  have ca_4 := ca
                  have lca_4 := za
                  clear Hb cb hg ca za
                  have xl_4 := xl
                  have xe_4 := xe
                  clear xl xe
                  go_wp2_with fail
                  refine (right_is hR _).mono ?_
                  rintro en w5 ⟨rfl, hb5⟩
                  have H5 := H4.trans (hb5.mono H4.size)
                  have z5 := hb5.size
                  have cb_5 := below_blk hb5 cb_4 lcb_4
                  have lcb_5 : g < w5.heap.size := Nat.lt_of_lt_of_le lcb_4 z5
                  have ca_5 := below_blk hb5 ca_4 lca_4
                  have lca_5 : w.heap.size < w5.heap.size := Nat.lt_of_lt_of_le lca_4 z5
                  clear cb_4 lcb_4
                  clear ca_4 lca_4
                  have xl_5 := below_fact xl_4 _ hb5
                  have xe_5 := below_fact xe_4 _ hb5
                  clear xl_4 xe_4
                  go_wp2_with fail
                  refine (well_is hwl _).mono ?_
                  rintro en w6 ⟨rfl, hb6⟩
                  have H6 := H5.trans (hb6.mono H5.size)
                  have z6 := hb6.size
                  have cb_6 := below_blk hb6 cb_5 lcb_5
                  have lcb_6 : g < w6.heap.size := Nat.lt_of_lt_of_le lcb_5 z6
                  have ca_6 := below_blk hb6 ca_5 lca_5
                  have lca_6 : w.heap.size < w6.heap.size := Nat.lt_of_lt_of_le lca_5 z6
                  clear cb_5 lcb_5
                  clear ca_5 lca_5
                  have xl_6 := below_fact xl_5 _ hb6
                  have xe_6 := below_fact xe_5 _ hb6
                  clear xl_5 xe_5
                  go_wp2_with fail
                  refine (over_is hov _).mono ?_
                  rintro en w7 ⟨rfl, hb7⟩
                  have H7 := H6.trans (hb7.mono H6.size)
                  have z7 := hb7.size
                  have cb_7 := below_blk hb7 cb_6 lcb_6
                  have lcb_7 : g < w7.heap.size := Nat.lt_of_lt_of_le lcb_6 z7
                  have ca_7 := below_blk hb7 ca_6 lca_6
                  have lca_7 : w.heap.size < w7.heap.size := Nat.lt_of_lt_of_le lca_6 z7
                  clear cb_6 lcb_6
                  clear ca_6 lca_6
                  have xl_7 := below_fact xl_6 _ hb7
                  have xe_7 := below_fact xe_6 _ hb7
                  clear xl_6 xe_6
                  go_wp2_with fail
                  refine (over_is hov _).mono ?_
                  rintro en w8 ⟨rfl, hb8⟩
                  have H8 := H7.trans (hb8.mono H7.size)
                  have z8 := hb8.size
                  have cb_8 := below_blk hb8 cb_7 lcb_7
                  have lcb_8 : g < w8.heap.size := Nat.lt_of_lt_of_le lcb_7 z8
                  have ca_8 := below_blk hb8 ca_7 lca_7
                  have lca_8 : w.heap.size < w8.heap.size := Nat.lt_of_lt_of_le lca_7 z8
                  clear cb_7 lcb_7
                  clear ca_7 lca_7
                  have xl_8 := below_fact xl_7 _ hb8
                  have xe_8 := below_fact xe_7 _ hb8
                  clear xl_7 xe_7
                  go_wp2
                  go_roundw
                  case rel => exact ⟨errs.length + 1, rfl, by omega, by rw [← JST.out], by rw [JWA.out], HS0.out, ca_8, H8, lca_8⟩
                  case measure => simp [intOf]; omega
            · have hov2 : ov = true := (HW2.out rfl).1
              subst hov2
              by_cases hx : x1 = 0
              · subst hx
                obtain rfl : err = 12 := (HW2.out rfl).2 (by omega) (by omega)
                have hs1 : o + d + f = cnt := by have := HSM.out; rw [if_neg (by omega)] at this; omega
                have JST := Lib.hid (show cnt = _ from (JS0.out.trans hs1).symm)
                have hbne : (o + d + f != cnt) = false := by simp [hs1]
                clear hs1
                cases wl
                · skip
                  have H4 := Hb
                  have cb_4 := cb
                  have lcb_4 := hg
                  have ca_4 := ca
                  have lca_4 := za
                  clear Hb cb hg ca za
                  have xl_4 := xl
                  have xe_4 := xe
                  clear xl xe
                  go_wp2_with fail
                  refine (right_is hR _).mono ?_
                  rintro en w5 ⟨rfl, hb5⟩
                  have H5 := H4.trans (hb5.mono H4.size)
                  have z5 := hb5.size
                  have cb_5 := below_blk hb5 cb_4 lcb_4
                  have lcb_5 : g < w5.heap.size := Nat.lt_of_lt_of_le lcb_4 z5
                  have ca_5 := below_blk hb5 ca_4 lca_4
                  have lca_5 : w.heap.size < w5.heap.size := Nat.lt_of_lt_of_le lca_4 z5
                  clear cb_4 lcb_4
                  clear ca_4 lca_4
                  have xl_5 := below_fact xl_4 _ hb5
                  have xe_5 := below_fact xe_4 _ hb5
                  clear xl_4 xe_4
                  go_wp2_with fail
                  refine (over_is hov _).mono ?_
                  rintro en w6 ⟨rfl, hb6⟩
                  have H6 := H5.trans (hb6.mono H5.size)
                  have z6 := hb6.size
                  have cb_6 := below_blk hb6 cb_5 lcb_5
                  have lcb_6 : g < w6.heap.size := Nat.lt_of_lt_of_le lcb_5 z6
                  have ca_6 := below_blk hb6 ca_5 lca_5
                  have lca_6 : w.heap.size < w6.heap.size := Nat.lt_of_lt_of_le lca_5 z6
                  clear cb_5 lcb_5
                  clear ca_5 lca_5
                  have xl_6 := below_fact xl_5 _ hb6
                  have xe_6 := below_fact xe_5 _ hb6
                  clear xl_5 xe_5
                  go_wp2_with fail
                  refine (well_is hwl _).mono ?_
                  rintro en w7 ⟨rfl, hb7⟩
                  have H7 := H6.trans (hb7.mono H6.size)
                  have z7 := hb7.size
                  have cb_7 := below_blk hb7 cb_6 lcb_6
                  have lcb_7 : g < w7.heap.size := Nat.lt_of_lt_of_le lcb_6 z7
                  have ca_7 := below_blk hb7 ca_6 lca_6
                  have lca_7 : w.heap.size < w7.heap.size := Nat.lt_of_lt_of_le lca_6 z7
                  clear cb_6 lcb_6
                  clear ca_6 lca_6
                  have xl_7 := below_fact xl_6 _ hb7
                  have xe_7 := below_fact xe_6 _ hb7
                  clear xl_6 xe_6
                  go_wp2_with fail
                  refine (over_is hov _).mono ?_
                  rintro en w8 ⟨rfl, hb8⟩
                  have H8 := H7.trans (hb8.mono H7.size)
                  have z8 := hb8.size
                  have cb_8 := below_blk hb8 cb_7 lcb_7
                  have lcb_8 : g < w8.heap.size := Nat.lt_of_lt_of_le lcb_7 z8
                  have ca_8 := below_blk hb8 ca_7 lca_7
                  have lca_8 : w.heap.size < w8.heap.size := Nat.lt_of_lt_of_le lca_7 z8
                  clear cb_7 lcb_7
                  clear ca_7 lca_7
                  have xl_8 := below_fact xl_7 _ hb8
                  have xe_8 := below_fact xe_7 _ hb8
                  clear xl_7 xe_7
                  go_wp2
                  go_roundw
                  case rel => exact ⟨errs.length + 1, rfl, by omega, by rw [← JST.out], by rw [JWA.out], HS0.out, ca_8, H8, lca_8⟩
                  case measure => simp [intOf]; omega
                · skip
                  have H4 := Hb
                  have cb_4 := cb
                  have lcb_4 := hg
                  have ca_4 := ca
                  have lca_4 := za
                  clear Hb cb hg ca za
                  have xl_4 := xl
                  have xe_4 := xe
                  clear xl xe
                  go_wp2_with fail
                  refine (right_is hR _).mono ?_
                  rintro en w5 ⟨rfl, hb5⟩
                  have H5 := H4.trans (hb5.mono H4.size)
                  have z5 := hb5.size
                  have cb_5 := below_blk hb5 cb_4 lcb_4
                  have lcb_5 : g < w5.heap.size := Nat.lt_of_lt_of_le lcb_4 z5
                  have ca_5 := below_blk hb5 ca_4 lca_4
                  have lca_5 : w.heap.size < w5.heap.size := Nat.lt_of_lt_of_le lca_4 z5
                  clear cb_4 lcb_4
                  clear ca_4 lca_4
                  have xl_5 := below_fact xl_4 _ hb5
                  have xe_5 := below_fact xe_4 _ hb5
                  clear xl_4 xe_4
                  go_wp2_with fail
                  refine (over_is hov _).mono ?_
                  rintro en w6 ⟨rfl, hb6⟩
                  have H6 := H5.trans (hb6.mono H5.size)
                  have z6 := hb6.size
                  have cb_6 := below_blk hb6 cb_5 lcb_5
                  have lcb_6 : g < w6.heap.size := Nat.lt_of_lt_of_le lcb_5 z6
                  have ca_6 := below_blk hb6 ca_5 lca_5
                  have lca_6 : w.heap.size < w6.heap.size := Nat.lt_of_lt_of_le lca_5 z6
                  clear cb_5 lcb_5
                  clear ca_5 lca_5
                  have xl_6 := below_fact xl_5 _ hb6
                  have xe_6 := below_fact xe_5 _ hb6
                  clear xl_5 xe_5
                  go_wp2_with fail
                  refine (well_is hwl _).mono ?_
                  rintro en w7 ⟨rfl, hb7⟩
                  have H7 := H6.trans (hb7.mono H6.size)
                  have z7 := hb7.size
                  have cb_7 := below_blk hb7 cb_6 lcb_6
                  have lcb_7 : g < w7.heap.size := Nat.lt_of_lt_of_le lcb_6 z7
                  have ca_7 := below_blk hb7 ca_6 lca_6
                  have lca_7 : w.heap.size < w7.heap.size := Nat.lt_of_lt_of_le lca_6 z7
                  clear cb_6 lcb_6
                  clear ca_6 lca_6
                  have xl_7 := below_fact xl_6 _ hb7
                  have xe_7 := below_fact xe_6 _ hb7
                  clear xl_6 xe_6
                  go_wp2_with fail
                  refine (over_is hov _).mono ?_
                  rintro en w8 ⟨rfl, hb8⟩
                  have H8 := H7.trans (hb8.mono H7.size)
                  have z8 := hb8.size
                  have cb_8 := below_blk hb8 cb_7 lcb_7
                  have lcb_8 : g < w8.heap.size := Nat.lt_of_lt_of_le lcb_7 z8
                  have ca_8 := below_blk hb8 ca_7 lca_7
                  have lca_8 : w.heap.size < w8.heap.size := Nat.lt_of_lt_of_le lca_7 z8
                  clear cb_7 lcb_7
                  clear ca_7 lca_7
                  have xl_8 := below_fact xl_7 _ hb8
                  have xe_8 := below_fact xe_7 _ hb8
                  clear xl_7 xe_7
                  go_wp2_with fail
                  refine (over_is hov _).mono ?_
                  rintro en w9 ⟨rfl, hb9⟩
                  have H9 := H8.trans (hb9.mono H8.size)
                  have z9 := hb9.size
                  have cb_9 := below_blk hb9 cb_8 lcb_8
                  have lcb_9 : g < w9.heap.size := Nat.lt_of_lt_of_le lcb_8 z9
                  have ca_9 := below_blk hb9 ca_8 lca_8
                  have lca_9 : w.heap.size < w9.heap.size := Nat.lt_of_lt_of_le lca_8 z9
                  clear cb_8 lcb_8
                  clear ca_8 lca_8
                  have xl_9 := below_fact xl_8 _ hb9
                  have xe_9 := below_fact xe_8 _ hb9
                  clear xl_8 xe_8
                  go_wp2
                  go_roundw
                  case rel => exact ⟨errs.length + 1, rfl, by omega, by rw [← JST.out], by rw [JWA.out], HS0.out, ca_9, H9, lca_9⟩
                  case measure => simp [intOf]; omega
              · have hs1 : o + d + f = cnt := by have := HSM.out; rw [if_neg (by omega)] at this; omega
                have JST := Lib.hid (show cnt = _ from (JS0.out.trans hs1).symm)
                have hbne : (o + d + f != cnt) = false := by simp [hs1]
                have hx' : (x1 == 0) = false := by simpa using hx
                clear hs1
                rcases Int.lt_or_le x1 0 with hx1 | hx1
                · clear hx
                  cases wl
                  · skip
                    have H4 := Hb
                    have cb_4 := cb
                    have lcb_4 := hg
                    have ca_4 := ca
                    have lca_4 := za
                    clear Hb cb hg ca za
                    have xl_4 := xl
                    have xe_4 := xe
                    clear xl xe
                    go_wp2_with fail
                    refine (right_is hR _).mono ?_
                    rintro en w5 ⟨rfl, hb5⟩
                    have H5 := H4.trans (hb5.mono H4.size)
                    have z5 := hb5.size
                    have cb_5 := below_blk hb5 cb_4 lcb_4
                    have lcb_5 : g < w5.heap.size := Nat.lt_of_lt_of_le lcb_4 z5
                    have ca_5 := below_blk hb5 ca_4 lca_4
                    have lca_5 : w.heap.size < w5.heap.size := Nat.lt_of_lt_of_le lca_4 z5
                    clear cb_4 lcb_4
                    clear ca_4 lca_4
                    have xl_5 := below_fact xl_4 _ hb5
                    have xe_5 := below_fact xe_4 _ hb5
                    clear xl_4 xe_4
                    go_wp2_with fail
                    refine (over_is hov _).mono ?_
                    rintro en w6 ⟨rfl, hb6⟩
                    have H6 := H5.trans (hb6.mono H5.size)
                    have z6 := hb6.size
                    have cb_6 := below_blk hb6 cb_5 lcb_5
                    have lcb_6 : g < w6.heap.size := Nat.lt_of_lt_of_le lcb_5 z6
                    have ca_6 := below_blk hb6 ca_5 lca_5
                    have lca_6 : w.heap.size < w6.heap.size := Nat.lt_of_lt_of_le lca_5 z6
                    clear cb_5 lcb_5
                    clear ca_5 lca_5
                    have xl_6 := below_fact xl_5 _ hb6
                    have xe_6 := below_fact xe_5 _ hb6
                    clear xl_5 xe_5
                    go_wp2_with fail
                    refine (well_is hwl _).mono ?_
                    rintro en w7 ⟨rfl, hb7⟩
                    have H7 := H6.trans (hb7.mono H6.size)
                    have z7 := hb7.size
                    have cb_7 := below_blk hb7 cb_6 lcb_6
                    have lcb_7 : g < w7.heap.size := Nat.lt_of_lt_of_le lcb_6 z7
                    have ca_7 := below_blk hb7 ca_6 lca_6
                    have lca_7 : w.heap.size < w7.heap.size := Nat.lt_of_lt_of_le lca_6 z7
                    clear cb_6 lcb_6
                    clear ca_6 lca_6
                    have xl_7 := below_fact xl_6 _ hb7
                    have xe_7 := below_fact xe_6 _ hb7
                    clear xl_6 xe_6
                    go_wp2_with fail
                    refine (over_is hov _).mono ?_
                    rintro en w8 ⟨rfl, hb8⟩
                    have H8 := H7.trans (hb8.mono H7.size)
                    have z8 := hb8.size
                    have cb_8 := below_blk hb8 cb_7 lcb_7
                    have lcb_8 : g < w8.heap.size := Nat.lt_of_lt_of_le lcb_7 z8
                    have ca_8 := below_blk hb8 ca_7 lca_7
                    have lca_8 : w.heap.size < w8.heap.size := Nat.lt_of_lt_of_le lca_7 z8
                    clear cb_7 lcb_7
                    clear ca_7 lca_7
                    have xl_8 := below_fact xl_7 _ hb8
                    have xe_8 := below_fact xe_7 _ hb8
                    clear xl_7 xe_7
                    go_wp2
                    go_roundw
                    case rel => exact ⟨errs.length + 1, rfl, by omega, by rw [← JST.out], by rw [JWA.out], HS0.out, ca_8, H8, lca_8⟩
                    case measure => simp [intOf]; omega
                  · skip
                    have H4 := Hb
                    have cb_4 := cb
                    have lcb_4 := hg
                    have ca_4 := ca
                    have lca_4 := za
                    clear Hb cb hg ca za
                    have xl_4 := xl
                    have xe_4 := xe
                    clear xl xe
                    go_wp2_with fail
                    refine (right_is hR _).mono ?_
                    rintro en w5 ⟨rfl, hb5⟩
                    have H5 := H4.trans (hb5.mono H4.size)
                    have z5 := hb5.size
                    have cb_5 := below_blk hb5 cb_4 lcb_4
                    have lcb_5 : g < w5.heap.size := Nat.lt_of_lt_of_le lcb_4 z5
                    have ca_5 := below_blk hb5 ca_4 lca_4
                    have lca_5 : w.heap.size < w5.heap.size := Nat.lt_of_lt_of_le lca_4 z5
                    clear cb_4 lcb_4
                    clear ca_4 lca_4
                    have xl_5 := below_fact xl_4 _ hb5
                    have xe_5 := below_fact xe_4 _ hb5
                    clear xl_4 xe_4
                    go_wp2_with fail
                    refine (over_is hov _).mono ?_
                    rintro en w6 ⟨rfl, hb6⟩
                    have H6 := H5.trans (hb6.mono H5.size)
                    have z6 := hb6.size
                    have cb_6 := below_blk hb6 cb_5 lcb_5
                    have lcb_6 : g < w6.heap.size := Nat.lt_of_lt_of_le lcb_5 z6
                    have ca_6 := below_blk hb6 ca_5 lca_5
                    have lca_6 : w.heap.size < w6.heap.size := Nat.lt_of_lt_of_le lca_5 z6
                    clear cb_5 lcb_5
                    clear ca_5 lca_5
                    have xl_6 := below_fact xl_5 _ hb6
                    have xe_6 := below_fact xe_5 _ hb6
                    clear xl_5 xe_5
                    go_wp2_with fail
                    refine (well_is hwl _).mono ?_
                    rintro en w7 ⟨rfl, hb7⟩
                    have H7 := H6.trans (hb7.mono H6.size)
                    have z7 := hb7.size
                    have cb_7 := below_blk hb7 cb_6 lcb_6
                    have lcb_7 : g < w7.heap.size := Nat.lt_of_lt_of_le lcb_6 z7
                    have ca_7 := below_blk hb7 ca_6 lca_6
                    have lca_7 : w.heap.size < w7.heap.size := Nat.lt_of_lt_of_le lca_6 z7
                    clear cb_6 lcb_6
                    clear ca_6 lca_6
                    have xl_7 := below_fact xl_6 _ hb7
                    have xe_7 := below_fact xe_6 _ hb7
                    clear xl_6 xe_6
                    go_wp2_with fail
                    refine (over_is hov _).mono ?_
                    rintro en w8 ⟨rfl, hb8⟩
                    have H8 := H7.trans (hb8.mono H7.size)
                    have z8 := hb8.size
                    have cb_8 := below_blk hb8 cb_7 lcb_7
                    have lcb_8 : g < w8.heap.size := Nat.lt_of_lt_of_le lcb_7 z8
                    have ca_8 := below_blk hb8 ca_7 lca_7
                    have lca_8 : w.heap.size < w8.heap.size := Nat.lt_of_lt_of_le lca_7 z8
                    clear cb_7 lcb_7
                    clear ca_7 lca_7
                    have xl_8 := below_fact xl_7 _ hb8
                    have xe_8 := below_fact xe_7 _ hb8
                    clear xl_7 xe_7
                    go_wp2_with fail
                    refine (over_is hov _).mono ?_
                    rintro en w9 ⟨rfl, hb9⟩
                    have H9 := H8.trans (hb9.mono H8.size)
                    have z9 := hb9.size
                    have cb_9 := below_blk hb9 cb_8 lcb_8
                    have lcb_9 : g < w9.heap.size := Nat.lt_of_lt_of_le lcb_8 z9
                    have ca_9 := below_blk hb9 ca_8 lca_8
                    have lca_9 : w.heap.size < w9.heap.size := Nat.lt_of_lt_of_le lca_8 z9
                    clear cb_8 lcb_8
                    clear ca_8 lca_8
                    have xl_9 := below_fact xl_8 _ hb9
                    have xe_9 := below_fact xe_8 _ hb9
                    clear xl_8 xe_8
                    go_wp2
                    go_roundw
                    case rel => exact ⟨errs.length + 1, rfl, by omega, by rw [← JST.out], by rw [JWA.out], HS0.out, ca_9, H9, lca_9⟩
                    case measure => simp [intOf]; omega
                · rcases Int.lt_or_le 2 x1 with hx2 | hx2
                  · clear hx
                    cases wl
                    · skip
                      have H4 := Hb
                      have cb_4 := cb
                      have lcb_4 := hg
                      have ca_4 := ca
                      have lca_4 := za
                      clear Hb cb hg ca za
                      have xl_4 := xl
                      have xe_4 := xe
                      clear xl xe
                      go_wp2_with fail
                      refine (right_is hR _).mono ?_
                      rintro en w5 ⟨rfl, hb5⟩
                      have H5 := H4.trans (hb5.mono H4.size)
                      have z5 := hb5.size
                      have cb_5 := below_blk hb5 cb_4 lcb_4
                      have lcb_5 : g < w5.heap.size := Nat.lt_of_lt_of_le lcb_4 z5
                      have ca_5 := below_blk hb5 ca_4 lca_4
                      have lca_5 : w.heap.size < w5.heap.size := Nat.lt_of_lt_of_le lca_4 z5
                      clear cb_4 lcb_4
                      clear ca_4 lca_4
                      have xl_5 := below_fact xl_4 _ hb5
                      have xe_5 := below_fact xe_4 _ hb5
                      clear xl_4 xe_4
                      go_wp2_with fail
                      refine (over_is hov _).mono ?_
                      rintro en w6 ⟨rfl, hb6⟩
                      have H6 := H5.trans (hb6.mono H5.size)
                      have z6 := hb6.size
                      have cb_6 := below_blk hb6 cb_5 lcb_5
                      have lcb_6 : g < w6.heap.size := Nat.lt_of_lt_of_le lcb_5 z6
                      have ca_6 := below_blk hb6 ca_5 lca_5
                      have lca_6 : w.heap.size < w6.heap.size := Nat.lt_of_lt_of_le lca_5 z6
                      clear cb_5 lcb_5
                      clear ca_5 lca_5
                      have xl_6 := below_fact xl_5 _ hb6
                      have xe_6 := below_fact xe_5 _ hb6
                      clear xl_5 xe_5
                      go_wp2_with fail
                      refine (well_is hwl _).mono ?_
                      rintro en w7 ⟨rfl, hb7⟩
                      have H7 := H6.trans (hb7.mono H6.size)
                      have z7 := hb7.size
                      have cb_7 := below_blk hb7 cb_6 lcb_6
                      have lcb_7 : g < w7.heap.size := Nat.lt_of_lt_of_le lcb_6 z7
                      have ca_7 := below_blk hb7 ca_6 lca_6
                      have lca_7 : w.heap.size < w7.heap.size := Nat.lt_of_lt_of_le lca_6 z7
                      clear cb_6 lcb_6
                      clear ca_6 lca_6
                      have xl_7 := below_fact xl_6 _ hb7
                      have xe_7 := below_fact xe_6 _ hb7
                      clear xl_6 xe_6
                      go_wp2_with fail
                      refine (over_is hov _).mono ?_
                      rintro en w8 ⟨rfl, hb8⟩
                      have H8 := H7.trans (hb8.mono H7.size)
                      have z8 := hb8.size
                      have cb_8 := below_blk hb8 cb_7 lcb_7
                      have lcb_8 : g < w8.heap.size := Nat.lt_of_lt_of_le lcb_7 z8
                      have ca_8 := below_blk hb8 ca_7 lca_7
                      have lca_8 : w.heap.size < w8.heap.size := Nat.lt_of_lt_of_le lca_7 z8
                      clear cb_7 lcb_7
                      clear ca_7 lca_7
                      have xl_8 := below_fact xl_7 _ hb8
                      have xe_8 := below_fact xe_7 _ hb8
                      clear xl_7 xe_7
                      go_wp2
                      go_roundw
                      case rel => exact ⟨errs.length + 1, rfl, by omega, by rw [← JST.out], by rw [JWA.out], HS0.out, ca_8, H8, lca_8⟩
                      case measure => simp [intOf]; omega
                    · skip
                      have H4 := Hb
                      have cb_4 := cb
                      have lcb_4 := hg
                      have ca_4 := ca
                      have lca_4 := za
                      clear Hb cb hg ca za
                      have xl_4 := xl
                      have xe_4 := xe
                      clear xl xe
                      go_wp2_with fail
                      refine (right_is hR _).mono ?_
                      rintro en w5 ⟨rfl, hb5⟩
                      have H5 := H4.trans (hb5.mono H4.size)
                      have z5 := hb5.size
                      have cb_5 := below_blk hb5 cb_4 lcb_4
                      have lcb_5 : g < w5.heap.size := Nat.lt_of_lt_of_le lcb_4 z5
                      have ca_5 := below_blk hb5 ca_4 lca_4
                      have lca_5 : w.heap.size < w5.heap.size := Nat.lt_of_lt_of_le lca_4 z5
                      clear cb_4 lcb_4
                      clear ca_4 lca_4
                      have xl_5 := below_fact xl_4 _ hb5
                      have xe_5 := below_fact xe_4 _ hb5
                      clear xl_4 xe_4
                      go_wp2_with fail
                      refine (over_is hov _).mono ?_
                      rintro en w6 ⟨rfl, hb6⟩
                      have H6 := H5.trans (hb6.mono H5.size)
                      have z6 := hb6.size
                      have cb_6 := below_blk hb6 cb_5 lcb_5
                      have lcb_6 : g < w6.heap.size := Nat.lt_of_lt_of_le lcb_5 z6
                      have ca_6 := below_blk hb6 ca_5 lca_5
                      have lca_6 : w.heap.size < w6.heap.size := Nat.lt_of_lt_of_le lca_5 z6
                      clear cb_5 lcb_5
                      clear ca_5 lca_5
                      have xl_6 := below_fact xl_5 _ hb6
                      have xe_6 := below_fact xe_5 _ hb6
                      clear xl_5 xe_5
                      go_wp2_with fail
                      refine (well_is hwl _).mono ?_
                      rintro en w7 ⟨rfl, hb7⟩
                      have H7 := H6.trans (hb7.mono H6.size)
                      have z7 := hb7.size
                      have cb_7 := below_blk hb7 cb_6 lcb_6
                      have lcb_7 : g < w7.heap.size := Nat.lt_of_lt_of_le lcb_6 z7
                      have ca_7 := below_blk hb7 ca_6 lca_6
                      have lca_7 : w.heap.size < w7.heap.size := Nat.lt_of_lt_of_le lca_6 z7
                      clear cb_6 lcb_6
                      clear ca_6 lca_6
                      have xl_7 := below_fact xl_6 _ hb7
                      have xe_7 := below_fact xe_6 _ hb7
                      clear xl_6 xe_6
                      go_wp2_with fail
                      refine (over_is hov _).mono ?_
                      rintro en w8 ⟨rfl, hb8⟩
                      have H8 := H7.trans (hb8.mono H7.size)
                      have z8 := hb8.size
                      have cb_8 := below_blk hb8 cb_7 lcb_7
                      have lcb_8 : g < w8.heap.size := Nat.lt_of_lt_of_le lcb_7 z8
                      have ca_8 := below_blk hb8 ca_7 lca_7
                      have lca_8 : w.heap.size < w8.heap.size := Nat.lt_of_lt_of_le lca_7 z8
                      clear cb_7 lcb_7
                      clear ca_7 lca_7
                      have xl_8 := below_fact xl_7 _ hb8
                      have xe_8 := below_fact xe_7 _ hb8
                      clear xl_7 xe_7
                      go_wp2_with fail
                      refine (over_is hov _).mono ?_
                      rintro en w9 ⟨rfl, hb9⟩
                      have H9 := H8.trans (hb9.mono H8.size)
                      have z9 := hb9.size
                      have cb_9 := below_blk hb9 cb_8 lcb_8
                      have lcb_9 : g < w9.heap.size := Nat.lt_of_lt_of_le lcb_8 z9
                      have ca_9 := below_blk hb9 ca_8 lca_8
                      have lca_9 : w.heap.size < w9.heap.size := Nat.lt_of_lt_of_le lca_8 z9
                      clear cb_8 lcb_8
                      clear ca_8 lca_8
                      have xl_9 := below_fact xl_8 _ hb9
                      have xe_9 := below_fact xe_8 _ hb9
                      clear xl_8 xe_8
                      go_wp2
                      go_roundw
                      case rel => exact ⟨errs.length + 1, rfl, by omega, by rw [← JST.out], by rw [JWA.out], HS0.out, ca_9, H9, lca_9⟩
                      case measure => simp [intOf]; omega
                  · obtain rfl : err = 12 := (HW2.out rfl).2 hx1 hx2
                    clear hx
                    cases wl
                    · skip
                      have H4 := Hb
                      have cb_4 := cb
                      have lcb_4 := hg
                      have ca_4 := ca
                      have lca_4 := za
                      clear Hb cb hg ca za
                      have xl_4 := xl
                      have xe_4 := xe
                      clear xl xe
                      go_wp2_with fail
                      refine (right_is hR _).mono ?_
                      rintro en w5 ⟨rfl, hb5⟩
                      have H5 := H4.trans (hb5.mono H4.size)
                      have z5 := hb5.size
                      have cb_5 := below_blk hb5 cb_4 lcb_4
                      have lcb_5 : g < w5.heap.size := Nat.lt_of_lt_of_le lcb_4 z5
                      have ca_5 := below_blk hb5 ca_4 lca_4
                      have lca_5 : w.heap.size < w5.heap.size := Nat.lt_of_lt_of_le lca_4 z5
                      clear cb_4 lcb_4
                      clear ca_4 lca_4
                      have xl_5 := below_fact xl_4 _ hb5
                      have xe_5 := below_fact xe_4 _ hb5
                      clear xl_4 xe_4
                      go_wp2_with fail
                      refine (over_is hov _).mono ?_
                      rintro en w6 ⟨rfl, hb6⟩
                      have H6 := H5.trans (hb6.mono H5.size)
                      have z6 := hb6.size
                      have cb_6 := below_blk hb6 cb_5 lcb_5
                      have lcb_6 : g < w6.heap.size := Nat.lt_of_lt_of_le lcb_5 z6
                      have ca_6 := below_blk hb6 ca_5 lca_5
                      have lca_6 : w.heap.size < w6.heap.size := Nat.lt_of_lt_of_le lca_5 z6
                      clear cb_5 lcb_5
                      clear ca_5 lca_5
                      have xl_6 := below_fact xl_5 _ hb6
                      have xe_6 := below_fact xe_5 _ hb6
                      clear xl_5 xe_5
                      go_wp2_with fail
                      refine (well_is hwl _).mono ?_
                      rintro en w7 ⟨rfl, hb7⟩
                      have H7 := H6.trans (hb7.mono H6.size)
                      have z7 := hb7.size
                      have cb_7 := below_blk hb7 cb_6 lcb_6
                      have lcb_7 : g < w7.heap.size := Nat.lt_of_lt_of_le lcb_6 z7
                      have ca_7 := below_blk hb7 ca_6 lca_6
                      have lca_7 : w.heap.size < w7.heap.size := Nat.lt_of_lt_of_le lca_6 z7
                      clear cb_6 lcb_6
                      clear ca_6 lca_6
                      have xl_7 := below_fact xl_6 _ hb7
                      have xe_7 := below_fact xe_6 _ hb7
                      clear xl_6 xe_6
                      go_wp2_with fail
                      refine (over_is hov _).mono ?_
                      rintro en w8 ⟨rfl, hb8⟩
                      have H8 := H7.trans (hb8.mono H7.size)
                      have z8 := hb8.size
                      have cb_8 := below_blk hb8 cb_7 lcb_7
                      have lcb_8 : g < w8.heap.size := Nat.lt_of_lt_of_le lcb_7 z8
                      have ca_8 := below_blk hb8 ca_7 lca_7
                      have lca_8 : w.heap.size < w8.heap.size := Nat.lt_of_lt_of_le lca_7 z8
                      clear cb_7 lcb_7
                      clear ca_7 lca_7
                      have xl_8 := below_fact xl_7 _ hb8
                      have xe_8 := below_fact xe_7 _ hb8
                      clear xl_7 xe_7
                      go_wp2
                      go_roundw
                      case rel => exact ⟨errs.length + 1, rfl, by omega, by rw [← JST.out], by rw [JWA.out], HS0.out, ca_8, H8, lca_8⟩
                      case measure => simp [intOf]; omega
                    · skip
                      have H4 := Hb
                      have cb_4 := cb
                      have lcb_4 := hg
                      have ca_4 := ca
                      have lca_4 := za
                      clear Hb cb hg ca za
                      have xl_4 := xl
                      have xe_4 := xe
                      clear xl xe
                      go_wp2_with fail
                      refine (right_is hR _).mono ?_
                      rintro en w5 ⟨rfl, hb5⟩
                      have H5 := H4.trans (hb5.mono H4.size)
                      have z5 := hb5.size
                      have cb_5 := below_blk hb5 cb_4 lcb_4
                      have lcb_5 : g < w5.heap.size := Nat.lt_of_lt_of_le lcb_4 z5
                      have ca_5 := below_blk hb5 ca_4 lca_4
                      have lca_5 : w.heap.size < w5.heap.size := Nat.lt_of_lt_of_le lca_4 z5
                      clear cb_4 lcb_4
                      clear ca_4 lca_4
                      have xl_5 := below_fact xl_4 _ hb5
                      have xe_5 := below_fact xe_4 _ hb5
                      clear xl_4 xe_4
                      go_wp2_with fail
                      refine (over_is hov _).mono ?_
                      rintro en w6 ⟨rfl, hb6⟩
                      have H6 := H5.trans (hb6.mono H5.size)
                      have z6 := hb6.size
                      have cb_6 := below_blk hb6 cb_5 lcb_5
                      have lcb_6 : g < w6.heap.size := Nat.lt_of_lt_of_le lcb_5 z6
                      have ca_6 := below_blk hb6 ca_5 lca_5
                      have lca_6 : w.heap.size < w6.heap.size := Nat.lt_of_lt_of_le lca_5 z6
                      clear cb_5 lcb_5
                      clear ca_5 lca_5
                      have xl_6 := below_fact xl_5 _ hb6
                      have xe_6 := below_fact xe_5 _ hb6
                      clear xl_5 xe_5
                      go_wp2_with fail
                      refine (well_is hwl _).mono ?_
                      rintro en w7 ⟨rfl, hb7⟩
                      have H7 := H6.trans (hb7.mono H6.size)
                      have z7 := hb7.size
                      have cb_7 := below_blk hb7 cb_6 lcb_6
                      have lcb_7 : g < w7.heap.size := Nat.lt_of_lt_of_le lcb_6 z7
                      have ca_7 := below_blk hb7 ca_6 lca_6
                      have lca_7 : w.heap.size < w7.heap.size := Nat.lt_of_lt_of_le lca_6 z7
                      clear cb_6 lcb_6
                      clear ca_6 lca_6
                      have xl_7 := below_fact xl_6 _ hb7
                      have xe_7 := below_fact xe_6 _ hb7
                      clear xl_6 xe_6
                      go_wp2_with fail
                      refine (over_is hov _).mono ?_
                      rintro en w8 ⟨rfl, hb8⟩
                      have H8 := H7.trans (hb8.mono H7.size)
                      have z8 := hb8.size
                      have cb_8 := below_blk hb8 cb_7 lcb_7
                      have lcb_8 : g < w8.heap.size := Nat.lt_of_lt_of_le lcb_7 z8
                      have ca_8 := below_blk hb8 ca_7 lca_7
                      have lca_8 : w.heap.size < w8.heap.size := Nat.lt_of_lt_of_le lca_7 z8
                      clear cb_7 lcb_7
                      clear ca_7 lca_7
                      have xl_8 := below_fact xl_7 _ hb8
                      have xe_8 := below_fact xe_7 _ hb8
                      clear xl_7 xe_7
                      go_wp2_with fail
                      refine (over_is hov _).mono ?_
                      rintro en w9 ⟨rfl, hb9⟩
                      have H9 := H8.trans (hb9.mono H8.size)
                      have z9 := hb9.size
                      have cb_9 := below_blk hb9 cb_8 lcb_8
                      have lcb_9 : g < w9.heap.size := Nat.lt_of_lt_of_le lcb_8 z9
                      have ca_9 := below_blk hb9 ca_8 lca_8
                      have lca_9 : w.heap.size < w9.heap.size := Nat.lt_of_lt_of_le lca_8 z9
                      clear cb_8 lcb_8
                      clear ca_8 lca_8
                      have xl_9 := below_fact xl_8 _ hb9
                      have xe_9 := below_fact xe_8 _ hb9
                      clear xl_8 xe_8
                      go_wp2
                      go_roundw
                      case rel => exact ⟨errs.length + 1, rfl, by omega, by rw [← JST.out], by rw [JWA.out], HS0.out, ca_9, H9, lca_9⟩
                      case measure => simp [intOf]; omega
    · -- the last round is over
      have hgt : ¬ (k : Int) ≤ (l.length : Int) := by omega
      go_wp2
      go_ret
      exact ⟨rfl, H2⟩
end Go.Proofs.Ytebkibpdagdmiaa
