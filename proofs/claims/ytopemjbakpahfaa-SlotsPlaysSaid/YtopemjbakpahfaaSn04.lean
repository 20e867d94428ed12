/-
  Contracts and plain laws, part 4 (texts: RCut). No condition but what each states.
-/
import Derived.Test.YtopemjbakpahfaaSn03
/-
  The contract of the document's own Cut: for all bytes.
-/
namespace Go.Proofs.Ytopemjbakpahfaa
open Go.RowKit Crc
theorem rframe_at (l : List UInt8) (a : Option Addr) (len cap : Nat) (w : World) (hlen : l.length = len) (hl : l.length ≤ 4096) (hc : l.length ≤ cap) (hn : a = none → cap = 0) (hr : RB w a l) : Calls Try.prog 25 #[.slice a len cap] w (Framed l w) := by
  subst hlen; exact rframe_any l a cap w hl hc hn hr
theorem bne8' (z y : UInt8) : (((z.toNat : Int) != (y.toNat : Int)) = (z != y)) := by
  cases h : z != y with
  | false =>
    have : z = y := by simpa using h
    subst this; simp
  | true =>
    rw [bne_iff_ne] at h ⊢
    intro e
    exact h (UInt8.toNat_inj.1 (by omega))
theorem grown_lit {D X w1 : World} {g n c : Nat} (hX : Below D.heap.size D X) (hg : X.grownBy w1 (Value.slice (some ⟨g, 0, none⟩) n c).ownBlock) (hge : D.heap.size ≤ g) : Below D.heap.size D w1 :=
  hX.grown hg hX.size (fun k hk => by cases hk; exact hge)
theorem apart_two {v : Value} {p q x : Nat} (h : v.ownBlock = some p ∨ v.ownBlock = some q) (hp : p ≠ x) (hq : q ≠ x) : v.ownBlock ≠ some x := by
  rcases h with h | h <;> rw [h] <;> simp <;> omega
theorem apart_old {w : World} {v : Value} {base n s x : Nat} {t : TypeId} {xs : List Value} (h : w.ownsRow base t s v n xs) (hx : w.heap.size ≤ x) : v.ownBlock ≠ some x := fun e => by have := (h.lt _ e).2; omega
theorem RB.drop_drop' {w : World} {g off off' : Nat} {l : List UInt8} (h : RB w (some ⟨g, off, none⟩) l) (k n : Nat) (e : off + k + n = off') : RB w (some ⟨g, off', none⟩) ((l.drop k).drop n) := ((h.drop k).drop n).off e
theorem ne_some {p q : Nat} (h : p ≠ q) : (some p : Option Nat) ≠ some q := fun e => h (by cases e; rfl)
theorem rcut_short (b : List UInt8) (a : Option Addr) (cap : Nat) (w : World) (h : b.length < 6) : Calls Try.prog 27 #[.slice a b.length cap] w (CutNew b w) := by
  have h' : (b.length : Int) < 6 := by omega
  go_enter Try.func27, Try.ntmps27
  go_wp2
  go_ret3
  exact ⟨Below.refl _ _, .inl ⟨by unfold cut; rw [if_pos h], rfl⟩⟩
set_option maxRecDepth 100000 in
set_option maxHeartbeats 4000000 in
theorem rcut_main (b : List UInt8) (g off : Nat) (cap : Nat) (w : World) (h : 6 ≤ b.length) (hc : b.length ≤ cap) (hm : cap ≤ maxLen) (hb : b.length ≤ 1000000) (hr : RB w (some ⟨g, off, none⟩) b) :
    Calls Try.prog 27 #[.slice (some ⟨g, off, none⟩) b.length cap] w (CutNew b w) := by
  have h' : ¬ (b.length : Int) < 6 := by omega
  have hb1 : (0 : Int) < (b.length : Int) := by omega
  have hb2 : (1 : Int) < (b.length : Int) := by omega
  obtain ⟨_, _, e, _, hc0⟩ := hr 0 (by omega)
  cases e
  obtain ⟨_, _, e, _, hc1⟩ := hr 1 (by omega)
  cases e
  have HR := Lib.hid hr
  have hnum := num_two (b := b) (by omega)
  clear hr
  unfold maxLen at hm
  have hz0 := UInt8.toNat_lt (b.getD 0 0)
  have hz1 := UInt8.toNat_lt (b.getD 1 0)
  generalize b.getD 0 0 = z0 at hc0 hnum hz0
  generalize b.getD 1 0 = z1 at hc1 hnum hz1
  unfold byteV at hc0 hc1
  rw [Nat.add_zero] at hc0
  have HN := Lib.hid hnum
  clear hnum
  go_enter Try.func27, Try.ntmps27
  by_cases hfar : 4096 < z0.toNat * 256 + z1.toNat ∨ b.length - 6 < z0.toNat * 256 + z1.toNat
  · have hno : cut b = none := by unfold cut; rw [HN.out, if_neg (by omega), if_pos hfar]
    by_cases hf1 : (4096 : Int) < (z0.toNat : Int) * 256 + (z1.toNat : Int)
    · go_wp2
      go_quiet (fail)
      go_wp2
      go_ret3
      exact ⟨below_drewN (Below.refl _ _) _, .inl ⟨hno, rfl⟩⟩
    · have hf2 : (b.length : Int) < 6 + ((z0.toNat : Int) * 256 + (z1.toNat : Int)) := by omega
      go_wp2
      go_quiet (fail)
      go_wp2
      go_ret3
      exact ⟨below_drewN (Below.refl _ _) _, .inl ⟨hno, rfl⟩⟩
  have hn1 : ¬ (4096 : Int) < (z0.toNat : Int) * 256 + (z1.toNat : Int) := by omega
  have hn2 : ¬ (b.length : Int) < 6 + ((z0.toNat : Int) * 256 + (z1.toNat : Int)) := by omega
  have hn3 : z0.toNat * 256 + z1.toNat ≤ 4096 := by omega
  have hn4 : 6 + (z0.toNat * 256 + z1.toNat) ≤ b.length := by omega
  obtain ⟨n, hn⟩ : ∃ n, z0.toNat * 256 + z1.toNat = n := ⟨_, rfl⟩
  have hni : (z0.toNat : Int) * 256 + (z1.toNat : Int) = (n : Int) := by omega
  rw [hn] at hn3 hn4
  have HNn : Hid (num (b.take 2) = n) := by show _ = _; rw [HN.out, hn]
  obtain ⟨hd, ehd⟩ : ∃ hd, (b.drop 6).take n = hd := ⟨_, rfl⟩
  obtain ⟨tl, etl⟩ : ∃ tl, (b.drop 6).drop n = tl := ⟨_, rfl⟩
  have HD := Lib.hid ehd
  have TL := Lib.hid etl
  have hl1 : Hid (hd.length = n) := by show _ = _; rw [← ehd]; simp; omega
  have hl2 : Hid (tl.length = b.length - (6 + n)) := by show _ = _; rw [← etl]; simp
  clear ehd etl
  go_wp2
  go_quiet (fail)
  have BW := below_drewN (Below.refl w.heap.size w) nq
  have RW := Lib.hid (HR.out.drewN nq)
  generalize w.drewN nq = W at BW RW ⊢

  clear hni hn hfar HN hc0 hc1 hz0 hz1
  have hcase : cap = 6 ∨ (cap ≠ 6 ∧ cap = 6 + n) ∨ (cap ≠ 6 ∧ 6 + n < cap) := by omega
  have hw1 : IntKind.i64.wrap (6 + (n : Int)) = 6 + (n : Int) := IntWalk.i64_in _ (by omega)
  have hw2 : (0 : Int) ≤ 6 + (n : Int) := by omega
  have hw3 : (6 : Int) ≤ 6 + (n : Int) := by omega
  have hw4 : max (6 + (n : Int)) 0 = 6 + (n : Int) := by omega
  have hw5 : (6 + (n : Int)).toNat = 6 + n := by omega
  have hw6 : (6 : Int) + (n : Int) ≤ (cap : Int) := by omega
  rcases hcase with hcap | ⟨hc6, hcap⟩ | ⟨hc6, hcap⟩
  all_goals try subst hcap
  all_goals try have hn0 : n = 0 := by omega
  all_goals try subst hn0
  all_goals go_wp2_with fail
  all_goals refine (rframe_at hd _ _ _ _ hl1.out (by rw [hl1.out]; omega) (by rw [hl1.out]; omega) (fun e => by cases e) (by first | exact RB.zero hl1.out | (rw [← HD.out]; exact RW.out.drop_take 6 _))).mono ?_
  all_goals rintro en w2 ⟨v2, rfl, o2, b2⟩
  all_goals have hfl := frame_length hd
  all_goals rw [hl1.out] at hfl
  all_goals obtain ⟨g2, c2, rfl, hc2, hm2, hg2, hgl, hfr⟩ := own_form o2 (by omega)
  all_goals obtain ⟨_, _, e, _, _, r2⟩ := RB.of_owns o2
  all_goals cases e
  all_goals have B2 := below_on BW b2
  all_goals have R2 := Lib.hid r2
  all_goals have RB2 := Lib.hid (RW.out.below b2)
  all_goals have FL := Lib.hid hfl
  all_goals unfold maxLen at hm2
  all_goals have hf6 : (6 : Int) ≤ ((frame hd).length : Int) := by omega
  all_goals clear r2 o2 hfl hfr b2 RW HR
  all_goals go_wp2_with fail
  all_goals go_loopw [8] (fun iv wr => ∃ i : Nat, iv = .int .i64 i ∧ i ≤ 6 ∧ (∀ j, j < i → (frame hd).getD j 0 = b.getD j 0) ∧ Below w2.heap.size w2 wr) (fun iv _ => 6 - (intOf iv).toNat)
  all_goals first
    | exact ⟨0, rfl, Nat.zero_le _, fun j hj => absurd hj (Nat.not_lt_zero j), Below.refl _ _⟩
    | skip
  all_goals obtain ⟨i, rfl, hi6, heq, hbl⟩ := hrel
  all_goals have EQ := Lib.hid heq
  all_goals have HB := Lib.hid hbl
  all_goals clear heq hbl
  all_goals by_cases hlt : i < 6
  all_goals try (
    have hi0 : (0 : Int) ≤ (i : Int) := by omega
    have hil : (i : Int) < 6 := by omega
    have hib : (i : Int) < (b.length : Int) := by omega
    have hif : (i : Int) < ((frame hd).length : Int) := by omega
    obtain ⟨_, _, e, _, e1⟩ := (R2.out.below HB.out) i (by have := FL.out; omega)
    cases e
    obtain ⟨_, _, e, _, e2⟩ := (RB2.out.below HB.out) i (by omega)
    cases e
    rw [Nat.zero_add] at e1
    have hne := bne8' ((frame hd).getD i 0) (b.getD i 0)
    have hmiss : Hid ((frame hd).getD i 0 ≠ b.getD i 0 → cut b = none) := fun hx => cut_miss HNn.out hlt (by rw [HD.out]; exact hx)
    have hnext : Hid ((frame hd).getD i 0 = b.getD i 0 → ∀ j, j < i + 1 → (frame hd).getD j 0 = b.getD j 0) := fun hx j hj => by
      rcases Nat.lt_or_ge j i with h1 | h1
      · exact EQ.out j h1
      · obtain rfl : j = i := by omega
        exact hx
    generalize (frame hd).getD i 0 = z at e1 hne hmiss hnext
    generalize b.getD i 0 = y at e2 hne hmiss hnext
    unfold byteV at e1 e2
    cases hzy : z != y
    all_goals rw [hzy] at hne
    all_goals go_wp2_with fail
    all_goals go_quiet (fail)
    all_goals go_wp2_with fail)
  all_goals try (exact ⟨⟨i + 1, rfl, by omega, hnext.out (by simpa using hzy), below_drewN HB.out _⟩, by simp only [intOf]; omega⟩)
  all_goals try (
    go_ret3
    exact ⟨below_on B2 (below_drewN HB.out _), .inl ⟨hmiss.out (by simpa using hzy), rfl⟩⟩)
  all_goals obtain rfl : i = 6 := by omega
  all_goals have hcut := cut_match h HNn.out (by omega) (by omega) (by rw [HD.out]; exact EQ.out)
  all_goals rw [HD.out, TL.out] at hcut
  all_goals have HC := Lib.hid hcut
  all_goals clear hcut hlt
  all_goals go_wp2_with fail
  all_goals have RD := Lib.hid (RB2.out.below HB.out).drew
  all_goals have BD := below_on B2 HB.out.drew
  all_goals have hw0 : IntKind.i64.wrap 6 = 6 := by decide
  all_goals have hm0 : max (6 : Int) 0 = 6 := by decide
  all_goals try have hn7 : ¬ n = 0 := by omega
  all_goals try have hc7 : ¬ cap = 6 + n := by omega
  all_goals go_region_law (first
    | ((refine step_append_bytes rfl (.tmp 52) (.tmp 56) rfl wr.heap.size (.slice (some ⟨_, 0, none⟩) 0 0) [] hd _ _ rfl (by first | exact owns_bytes wr.drew [] _ _ _ rfl (Nat.le_refl _) rfl (by decide) | exact (owns_bytes wr.drew [] _ _ _ rfl (Nat.le_refl _) rfl (by decide)).alloc _ | exact owns_bytes (wr.drew.alloc _) [] _ _ _ (by simp) (Nat.le_succ _) rfl (by decide)) _ rfl hl1.out (by first | exact RB.zero hl1.out | (rw [← HD.out]; exact (RD.out.alloc _).drop_take 6 _) | (rw [← HD.out]; exact ((RD.out.alloc _).alloc _).drop_take 6 _)) (by have := hl1.out; simp only [List.length_nil]; omega) (by simp <;> omega) ?_); intro v1 w1 o1 g1 at1; have BL1 : Below wr.drew.heap.size wr.drew w1 := (by first | exact grown_lit (below_alloc _ _) g1 (Nat.le_refl _) | exact grown_lit ((below_alloc _ _).alloc (by simp) _) g1 (Nat.le_refl _) | exact grown_lit ((below_alloc _ _).alloc (by simp) _) g1 (Nat.le_succ _)))
    | ((refine step_append_bytes rfl (.tmp 58) (.tmp 62) rfl wr.heap.size (.slice (some ⟨_, 0, none⟩) 0 0) [] tl _ _ rfl (by first | exact owns_bytes w1 [] _ _ _ rfl BL1.size rfl (by decide) | exact owns_apart (owns_bytes (wr.drew.alloc _) [] _ _ _ (by simp) (Nat.le_succ _) rfl (by decide)) g1 (.inr (ne_some (Nat.succ_ne_self _))) | exact owns_apart ((owns_bytes wr.drew [] _ _ _ rfl (Nat.le_refl _) rfl (by decide)).alloc _) g1 (.inr (ne_some (Nat.succ_ne_self _).symm))) _ rfl (by have := hl2.out; omega) (by first | (rw [← TL.out]; exact ((RD.out.below BL1).drop_drop' _ _ (by omega))) | (rw [← TL.out]; exact (((RD.out.below BL1).alloc _).drop_drop' _ _ (by omega))) | exact RB.zero (by have := hl2.out; omega)) (by have := hl2.out; simp only [List.length_nil]; omega) (by first | exact BL1.size | exact Nat.le_trans BL1.size (by simp)) ?_); intro v3 w3 o3 g3 at3; have BL3 : Below wr.drew.heap.size wr.drew w3 := (by first | exact grown_lit (BL1.alloc BL1.size _) g3 BL1.size | exact grown_lit BL1 g3 (Nat.le_succ _) | exact grown_lit BL1 g3 (Nat.le_refl _)); have o13 : w3.ownsRow wr.heap.size 5 1 v1 hd.length (hd.map byteV) := (by first | exact owns_apart (o1.alloc _) g3 (.inr (apart_old o1 (Nat.le_refl _))) | exact owns_apart o1 g3 (.inr (apart_two at1 (by simp <;> omega) (by simp <;> omega)))); clear at1 at3 g1 g3 o1))
  all_goals go_wp2
  all_goals go_ret3
  all_goals exact ⟨below_on BD BL3, .inr ⟨hd, tl, v1, v3, HC.out, rfl, ownsRow_base o13 BD.size, ownsRow_base o3 BD.size⟩⟩
theorem rcut_any (b : List UInt8) (a : Option Addr) (cap : Nat) (w : World) (hc : b.length ≤ cap) (hm : cap ≤ maxLen) (hb : b.length ≤ 1000000) (hr : RB w a b) : Calls Try.prog 27 #[.slice a b.length cap] w (CutNew b w) := by
  by_cases h6 : b.length < 6
  · exact rcut_short b a cap w h6
  · obtain ⟨g, off, rfl, _, _⟩ := hr 0 (by omega)
    exact rcut_main b g off cap w (by omega) hc hm hb hr
end Go.Proofs.Ytopemjbakpahfaa
