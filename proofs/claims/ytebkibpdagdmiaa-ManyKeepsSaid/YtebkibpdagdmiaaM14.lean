/-
  The walk of ManyPlays: it returns true for every three numbers, every number and every row of steps, and nothing that was there is written. No condition.
-/
import Derived.Test.YtebkibpdagdmiaaM13
import Derived.Laws.AppendOwnNone
namespace Go.Proofs.Ytebkibpdagdmiaa
open Go.RowKit
theorem info3b : (Try.prog.info? 3).map (fun i => (i.zero, i.size, i.bytes)) = some (some (.int .i64 0), 1, 8) := by kernel_rfl
theorem play_len (x y z n : Int) (l : List Int) : (play x y z n l).2.length ≤ l.length + 1 := by
  unfold play
  split
  · rw [plays_len]; omega
  · simp
theorem Reads.alloc {q : IntKind} {w : World} {a : Option Addr} {xs : List Int} (h : Reads q w a xs) (X : Obj) : Reads q (w.alloc X) a xs :=
  h.below ((Below.refl _ _).alloc (Nat.le_refl _) X)
theorem Reads.of_owns' {q : IntKind} {w : World} {base n : Nat} {t : TypeId} {v : Value} {xs : List Int} (h : w.ownsRow base t 1 v n (xs.map (.int q))) : ∃ a cap, v = .slice a xs.length cap ∧ Reads q w a xs := by
  have hn : n = xs.length := by have := h.1; simp at this; omega
  subst hn; exact Reads.of_owns h
theorem Reads.news {q : IntKind} {w : World} {ad : Addr} {xs : List Int} (h : Reads q w (some ad) xs) : ∀ j u, (xs.map (Value.int q))[j]? = some u → w.cell? (ad.add j) = some u := by
  intro j u hu
  have hj : j < xs.length := by
    rcases Nat.lt_or_ge j xs.length with h1 | h1
    · exact h1
    · rw [List.getElem?_eq_none (by simpa using h1)] at hu; cases hu
  obtain ⟨g, off, e, _, hc⟩ := h j hj
  simp at e
  subst e
  simp [hj] at hu
  subst hu
  unfold Addr.add
  split
  · rename_i h0; subst h0; simpa [hj] using hc
  · simpa [hj] using hc
theorem plays_long (x y z n : Int) (a : Option Addr) (len cap : Nat) (w : World) (hl : 200 < len) :
    Calls Try.prog 6 #[.agg #[.int .i64 x, .int .i64 y, .int .i64 z], .int .i64 n, .slice a len cap] w (Yes w) := by
  have hl' : (200 : Int) < (len : Int) := by omega
  go_enter Try.func6, Try.ntmps6
  go_wp2_with (go_at_call 8; refine (small_any _).mono ?_; rintro en w1 ⟨rfl, hb1⟩)
  go_ret
  exact ⟨rfl, on_alloc (Below.refl _ _) (Nat.le_refl _) hb1⟩
set_option maxHeartbeats 1000000 in
theorem plays_some (x y z n : Int) (l : List Int) (ad : Addr) (cap : Nat) (w : World) (hl : l.length ≤ 200) (hr : Reads .i64 w (some ad) l) :
    Calls Try.prog 6 #[.agg #[.int .i64 x, .int .i64 y, .int .i64 z], .int .i64 n, .slice (some ad) l.length cap] w (Yes w) := by
  have hl' : (l.length : Int) ≤ 200 := by omega
  have hl2 : ¬ (200 : Int) < (l.length : Int) := by omega
  obtain ⟨i0, hi, hz0, hz1, hz2⟩ := info_parts info3b
  have hpl := play_len x y z n l
  have HR := Lib.hid hr
  clear hr
  go_enter Try.func6, Try.ntmps6
  go_wp2_with (first
    | (go_at_call 8; refine (small_any _).mono ?_; rintro en w1 ⟨rfl, hb1⟩; have c1 := new_blk hb1; have z1 := new_lt hb1; have H1 := on_alloc (Below.refl _ _) (Nat.le_refl _) hb1; clear hb1)
    | (at_builtin; refine wpList_append_own _ rfl (.tmp 18) (.tmp 19) 34 rfl w1.heap.size 3 i0 (.int .i64 0) 1 8 Try.underlying34 hi hz0 hz1 hz2 rfl (by decide) (.slice (some ⟨w1.heap.size, 0, none⟩) 0 0) 0 [] rfl (World.ownsRow_made w1 #[] 0 (Nat.le_refl _) (by unfold maxLen; omega) rfl) ad l.length cap (l.map (.int .i64)) rfl (by simp) (((HR.out.below H1).alloc _).news) (by simp [Value.oneCell']) (by unfold maxLen; omega) (by omega) (by simp) ?_; intro v2 w2 hown2 hgrow2 _; have H2 : Below w.heap.size w w2 := (H1.alloc H1.size _).grown hgrow2 (by simp; have := H1.size; omega) (by intro k hk; simp [Value.ownBlock] at hk; have := H1.size; omega); have c2 := grown_blk hgrow2 (alloc_blk c1 z1) (by simp; omega) (by simp [Value.ownBlock]; omega); have z2 : w.heap.size < w2.heap.size := by { have := hgrow2.size; simp at this; omega }; simp only [List.nil_append] at hown2; obtain ⟨a2, k2, hv2, R2⟩ := Reads.of_owns' hown2; clear hown2 hgrow2 c1 z1; have RI := Lib.hid R2; clear R2; rw [hv2]; clear hv2)
    | (go_at_call 25; refine (play_any x y z n l _ _ _ (by omega) RI.out).mono ?_; rintro en w3 ⟨v3, rfl, own3, hb3⟩; have H3 := H2.trans (hb3.mono H2.size); have c3 := below_blk hb3 c2 z2; have z3 := Nat.lt_of_lt_of_le z2 hb3.size; obtain ⟨a3, k3, hv3, R3⟩ := Reads.of_owns' own3; have Q3 := Lib.hid R3; have I3 := Lib.hid (RI.out.below hb3); clear R3 own3 c2 z2 hb3; rw [hv3]; clear hv3; simp only [B.v]))
  have c4 := alloc_blk (X := (.cells #[.int .i64 (play x y z n l).1.m, .int .i64 (play x y z n l).1.e, .int .i64 (play x y z n l).1.o, .int .i64 (play x y z n l).1.d, .int .i64 (play x y z n l).1.f] 23)) c3 z3
  go_wp2_with fail
  refine (rplay_any x y z n l _ _ _ (by omega) ((HR.out.below H3).alloc _)).mono ?_
  rintro en w4 ⟨v4, rfl, own4, hb4⟩
  have H4 := on_alloc H3 H3.size hb4
  have b4 := new_blk hb4
  have z4 := new_lt hb4
  obtain ⟨a4, k4, hv4, R4⟩ := Reads.of_owns' own4
  have Q4 := Lib.hid R4
  have Q3' := Lib.hid ((Q3.out.alloc (.cells #[.int .i64 (play x y z n l).1.m, .int .i64 (play x y z n l).1.e, .int .i64 (play x y z n l).1.o, .int .i64 (play x y z n l).1.d, .int .i64 (play x y z n l).1.f] 23)).below hb4)
  have I4 := Lib.hid ((I3.out.alloc (.cells #[.int .i64 (play x y z n l).1.m, .int .i64 (play x y z n l).1.e, .int .i64 (play x y z n l).1.o, .int .i64 (play x y z n l).1.d, .int .i64 (play x y z n l).1.f] 23)).below hb4)
  clear R4 own4 c3 z3 c4 hb4 Q3 I3
  rw [hv4]
  clear hv4
  simp only [B.v]
  have b5 := alloc_blk (X := (.cells #[.int .i64 (play x y z n l).1.m, .int .i64 (play x y z n l).1.e, .int .i64 (play x y z n l).1.o, .int .i64 (play x y z n l).1.d, .int .i64 (play x y z n l).1.f] 23)) b4 z4
  have H5 := H4.alloc H4.size (.cells #[.int .i64 (play x y z n l).1.m, .int .i64 (play x y z n l).1.e, .int .i64 (play x y z n l).1.o, .int .i64 (play x y z n l).1.d, .int .i64 (play x y z n l).1.f] 23)
  have hrl : (play x y z n l).2.length ≤ 1000 := by omega
  go_wp2_with (first
    | (go_at_call 27; refine (errs_same _ _ _ _ _ _ hrl (Q3'.out.alloc _) (Q4.out.alloc _)).mono ?_; rintro en w6 ⟨rfl, hb6⟩; have H6 := H5.trans (hb6.mono H5.size))
    | (go_at_call 28; refine (ints_same _ _ _ _ l _ (by omega) ((I4.out.alloc _).below hb6) (HR.out.below H6)).mono ?_; rintro en w7 ⟨rfl, hb7⟩; have H7 := H6.trans (hb7.mono H6.size)))
  go_ret
  exact ⟨rfl, H7⟩
set_option maxHeartbeats 1000000 in
theorem plays_none (x y z n : Int) (cap : Nat) (hc : cap = 0) (w : World) :
    Calls Try.prog 6 #[.agg #[.int .i64 x, .int .i64 y, .int .i64 z], .int .i64 n, .slice none 0 cap] w (Yes w) := by
  subst hc
  obtain ⟨i0, hi, hz0, hz1, hz2⟩ := info_parts info3b
  have hpl := play_len x y z n []
  have HR : Hid (Reads .i64 w none ([] : List Int)) := fun i hi => absurd hi (by simp)
  go_enter Try.func6, Try.ntmps6
  go_wp2_with (first
    | (go_at_call 8; refine (small_any _).mono ?_; rintro en w1 ⟨rfl, hb1⟩; have c1 := new_blk hb1; have z1 := new_lt hb1; have H1 := on_alloc (Below.refl _ _) (Nat.le_refl _) hb1; clear hb1)
    | (at_builtin; refine wpList_append_own_none rfl (.tmp 18) (.tmp 19) 34 rfl w1.heap.size 3 i0 1 Try.underlying34 hi (.slice (some ⟨w1.heap.size, 0, none⟩) 0 0) 0 [] rfl (World.ownsRow_made w1 #[] 0 (Nat.le_refl _) (by unfold maxLen; omega) rfl) rfl ?_; have H2 : Below w.heap.size w (w1.alloc (.cells #[] 3)) := H1.alloc H1.size _; have c2 := alloc_blk (X := .cells #[] 3) c1 z1; have z2 : w.heap.size < (w1.alloc (.cells #[] 3)).heap.size := by { simp; omega }; have RI : Hid (Reads .i64 (w1.alloc (.cells #[] 3)) (some ⟨w1.heap.size, 0, none⟩) ([] : List Int)) := (fun i hi => absurd hi (by simp)); generalize (World.alloc w1 _) = w2 at H2 c2 z2 RI ⊢; clear c1 z1)
    | (go_at_call 25; refine (play_any x y z n [] _ _ _ (by simp) RI.out).mono ?_; rintro en w3 ⟨v3, rfl, own3, hb3⟩; have H3 := H2.trans (hb3.mono H2.size); have c3 := below_blk hb3 c2 z2; have z3 := Nat.lt_of_lt_of_le z2 hb3.size; obtain ⟨a3, k3, hv3, R3⟩ := Reads.of_owns' own3; have Q3 := Lib.hid R3; have I3 := Lib.hid (RI.out.below hb3); clear R3 own3 c2 z2 hb3; rw [hv3]; clear hv3; simp only [B.v]))
  have c4 := alloc_blk (X := (.cells #[.int .i64 (play x y z n []).1.m, .int .i64 (play x y z n []).1.e, .int .i64 (play x y z n []).1.o, .int .i64 (play x y z n []).1.d, .int .i64 (play x y z n []).1.f] 23)) c3 z3
  go_wp2_with fail
  refine (rplay_any x y z n [] _ _ _ (by simp) ((HR.out.below H3).alloc _)).mono ?_
  rintro en w4 ⟨v4, rfl, own4, hb4⟩
  have H4 := on_alloc H3 H3.size hb4
  have b4 := new_blk hb4
  have z4 := new_lt hb4
  obtain ⟨a4, k4, hv4, R4⟩ := Reads.of_owns' own4
  have Q4 := Lib.hid R4
  have Q3' := Lib.hid ((Q3.out.alloc (.cells #[.int .i64 (play x y z n []).1.m, .int .i64 (play x y z n []).1.e, .int .i64 (play x y z n []).1.o, .int .i64 (play x y z n []).1.d, .int .i64 (play x y z n []).1.f] 23)).below hb4)
  have I4 := Lib.hid ((I3.out.alloc (.cells #[.int .i64 (play x y z n []).1.m, .int .i64 (play x y z n []).1.e, .int .i64 (play x y z n []).1.o, .int .i64 (play x y z n []).1.d, .int .i64 (play x y z n []).1.f] 23)).below hb4)
  clear R4 own4 c3 z3 c4 hb4 Q3 I3
  rw [hv4]
  clear hv4
  simp only [B.v]
  have b5 := alloc_blk (X := (.cells #[.int .i64 (play x y z n []).1.m, .int .i64 (play x y z n []).1.e, .int .i64 (play x y z n []).1.o, .int .i64 (play x y z n []).1.d, .int .i64 (play x y z n []).1.f] 23)) b4 z4
  have H5 := H4.alloc H4.size (.cells #[.int .i64 (play x y z n []).1.m, .int .i64 (play x y z n []).1.e, .int .i64 (play x y z n []).1.o, .int .i64 (play x y z n []).1.d, .int .i64 (play x y z n []).1.f] 23)
  have hrl : (play x y z n []).2.length ≤ 1000 := by have := play_len x y z n []; simp at this; omega
  go_wp2_with (first
    | (go_at_call 27; refine (errs_same _ _ _ _ _ _ hrl (Q3'.out.alloc _) (Q4.out.alloc _)).mono ?_; rintro en w6 ⟨rfl, hb6⟩; have H6 := H5.trans (hb6.mono H5.size))
    | (go_at_call 28; refine (ints_same _ _ _ _ [] _ (by simp) ((I4.out.alloc _).below hb6) (HR.out.below H6)).mono ?_; rintro en w7 ⟨rfl, hb7⟩; have H7 := H6.trans (hb7.mono H6.size)))
  go_ret
  exact ⟨rfl, H7⟩
theorem plays_any (x y z n : Int) (a : Option Addr) (len cap : Nat) (zs : List Int) (w : World) (hrow : IsRow .i64 w a len cap zs) :
    Calls Try.prog 6 #[.agg #[.int .i64 x, .int .i64 y, .int .i64 z], .int .i64 n, .slice a len cap] w (Yes w) := by
  by_cases hl : 200 < len
  · exact plays_long x y z n a len cap w hl
  · obtain ⟨e, hr⟩ := hrow.reads
    rcases hrow with ⟨rfl, rfl, rfl, _⟩ | ⟨ad, rfl, _⟩
    · exact plays_none x y z n 0 rfl w
    · rw [e]
      exact plays_some x y z n (zs.take len) ad cap w (by omega) hr
end Go.Proofs.Ytebkibpdagdmiaa
