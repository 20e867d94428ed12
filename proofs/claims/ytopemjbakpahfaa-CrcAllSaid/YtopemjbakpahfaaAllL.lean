/-
  CrcAll: the walk, for all bytes and all rows. No condition.
-/
import Derived.Test.YtopemjbakpahfaaBackL
namespace Go.Proofs.Ytopemjbakpahfaa
open Go.RowKit Crc
/-- Only cells of bytes in blocks from base to top are other than they were. -/
def Wr (base top : Nat) (A B : World) : Prop := ∀ blk : Nat, B.heap[blk]? = A.heap[blk]? ∨ (base ≤ blk ∧ blk < top ∧ ∃ cs cs' : Array Value, A.heap[blk]? = some (.cells cs 5 (0, 0)) ∧ B.heap[blk]? = some (.cells cs' 5 (0, 0)) ∧ cs'.size = cs.size)
theorem Wr.refl (base top : Nat) (A : World) : Wr base top A A := fun _ => .inl rfl
theorem Wr.at {base top : Nat} {A B : World} (h : Wr base top A B) {g : Nat} {cs : Array Value} (hg : A.heap[g]? = some (.cells cs 5 (0, 0))) : ∃ cs', B.heap[g]? = some (.cells cs' 5 (0, 0)) ∧ cs'.size = cs.size := by
  rcases h g with e | ⟨_, _, c1, c2, e1, e2, e3⟩
  · exact ⟨cs, e.trans hg, rfl⟩
  · rw [hg] at e1; cases e1
    exact ⟨c2, e2, e3⟩
theorem Wr.put {base top : Nat} {A B : World} (h : Wr base top A B) {g : Nat} {cs : Array Value} (hg : A.heap[g]? = some (.cells cs 5 (0, 0))) (h1 : base ≤ g) (h2 : g < top) (i : Nat) (v : Value) : Wr base top A (B.setCell ⟨g, i, none⟩ v) := by
  intro blk
  by_cases hb : g = blk
  · subst hb
    obtain ⟨cs', e1, e2⟩ := h.at hg
    exact .inr ⟨h1, h2, cs, _, hg, Joins.block_setCell e1 v, by simpa using e2⟩
  · rw [Below.heap_setCell _ _ _ _ (Ne.symm hb)]
    exact h blk
theorem owns_wr {base top b0 n s : Nat} {t : TypeId} {A B : World} {v : Value} {xs : List Value} (h : A.ownsRow b0 t s v n xs) (hw : Wr base top A B) (hne : t ≠ 5 ∨ ∀ k, v.ownBlock = some k → k < base ∨ top ≤ k) : B.ownsRow b0 t s v n xs := by
  refine ⟨h.1, h.2.imp_right ?_⟩
  rintro ⟨g, cap, cur, rfl, hb, hh, r⟩
  refine ⟨g, cap, cur, rfl, hb, ?_, r⟩
  rcases hw g with e | ⟨e0, e1, c1, c2, e2, _⟩
  · exact e.trans hh
  · rw [hh] at e2; cases e2
    rcases hne with h1 | h1
    · exact absurd rfl h1
    · have := h1 g rfl; omega
structure RowSpot (w3 : World) (base : Nat) (v : Value) (n : Nat) : Prop where
  ex : 0 < n → ∃ g cap cs, v = .slice (some ⟨g, 0, none⟩) n cap ∧ n ≤ cap ∧ base ≤ g ∧ g < w3.heap.size ∧ w3.heap[g]? = some (.cells cs 5 (0, 0)) ∧ cs.size = cap ∧ cap ≤ 9223372036854775807
theorem rowSpot {w3 : World} {base : Nat} {v : Value} {l : List UInt8} (h : w3.ownsRow base 5 1 v l.length (l.map byteV)) : RowSpot w3 base v l.length := ⟨fun h0 => by
  rcases h.2 with ⟨_, h1⟩ | ⟨g, cap, cur, rfl, hb, hg, h1, hm, h2, _⟩
  · omega
  · unfold maxLen at hm
    exact ⟨g, cap, cur, rfl, h1, hb, lt_of_block hg, hg, by simpa using h2, by omega⟩⟩
def JoinR (L : List (List UInt8)) (w : World) (en : Ending) (w' : World) : Prop :=
  Below w.heap.size w w' ∧ ∃ v k, en = .returned (.tuple #[v, .int .i64 k]) ∧ (k = if (join L).isNone then 1 else 0) ∧ w'.ownsRow w.heap.size 5 1 v ((join L).getD []).length (((join L).getD []).map byteV)
theorem join_R {L : List (List UInt8)} {w : World} {en : Ending} {w' : World} (h : JoinOf L w en w') : JoinR L w en w' := by
  obtain ⟨hb, ⟨e, rfl⟩ | ⟨x, v, e, rfl, o⟩⟩ := h
  · exact ⟨hb, _, _, rfl, by rw [e]; rfl, by rw [e]; exact World.ownsRow_nil _ _ _ _⟩
  · exact ⟨hb, _, _, rfl, by rw [e]; rfl, by rw [e]; exact o⟩
set_option maxRecDepth 100000 in
set_option maxHeartbeats 4000000 in
theorem all_law (b : List UInt8) (ab : Option Addr) (capb : Nat) (L : List (List UInt8)) (al : Option Addr) (capl : Nat) (W : World) (hbl : b.length ≤ capb) (hbm : capb ≤ maxLen) (hbn : ab = none → capb = 0) (hRb : RB W ab b)
    (hlL : L.length ≤ capl) (hml : capl ≤ maxLen) (hRL : RR W al L) (hLm : ∀ i, i < L.length → (L.getD i []).length ≤ maxLen) :
    Calls Try.prog 12 #[.slice ab b.length capb, .slice al L.length capl] W (Yes W) := by
  have HL := Lib.hid hRL
  have HB := Lib.hid hRb
  have HM := Lib.hid hLm
  have HBM := Lib.hid hbm
  clear hRL hRb hLm
  unfold maxLen at hml hbm
  have hLi : (L.length : Int) ≤ 9223372036854775807 := by omega
  go_enter Try.func12, Try.ntmps12
  go_wp2_with fail
  refine (small_any _).mono ?_
  rintro en w1 ⟨rfl, B1⟩
  by_cases h2000 : 2000 < (b.length : Int)
  · go_wp2
    go_ret
    exact ⟨rfl, B1⟩
  by_cases h40 : 40 < (L.length : Int)
  · go_wp2
    go_ret
    exact ⟨rfl, B1⟩
  have L1 := Lib.hid (HL.out.below B1)
  have R1 := Lib.hid (HB.out.below B1)
  clear HL
  go_wp2_with fail
  go_loop [6] (fun iv => ∃ k : Nat, iv = .int .i64 k ∧ k ≤ L.length ∧ ∀ j, j < k → (L.getD j []).length ≤ 5000) (fun iv => L.length - (intOf iv).toNat)
  case atStart => exact ⟨0, rfl, Nat.zero_le _, fun j hj => absurd hj (Nat.not_lt_zero j)⟩
  case round =>
    obtain ⟨k, rfl, hk, hall⟩ := hrel
    have HA := Lib.hid hall
    clear hall
    by_cases hlt : k < L.length
    · have hk0 : (0 : Int) ≤ (k : Int) := by omega
      have hki : (k : Int) < (L.length : Int) := by omega
      obtain ⟨g, off, u, rfl, hg, hcell, hu⟩ := L1.out k hlt
      have hm := HM.out k hlt
      unfold maxLen at hm
      have hnext : Hid ((L.getD k []).length ≤ 5000 → ∀ j, j < k + 1 → (L.getD j []).length ≤ 5000) := fun hx j hj => by
        rcases Nat.lt_or_ge j k with h1 | h1
        · exact HA.out j h1
        · obtain rfl : j = k := by omega
          exact hx
      generalize L.getD k [] = l at hu hm hnext
      obtain ⟨a1, c1, rfl, q1, _, _⟩ := hu
      by_cases h3 : 5000 < (l.length : Int)
      · go_wp2_with fail
        go_ret
        exact ⟨rfl, B1⟩
      · go_wp2_with fail
        go_round
        case rel => exact ⟨k + 1, rfl, hlt, hnext.out (by omega)⟩
        case measure => simp only [intOf]; omega
    · have hki : ¬ (k : Int) < (L.length : Int) := by omega
      obtain rfl : k = L.length := by omega
      go_wp2_with (at_builtin; refine app_bytes rfl (.tmp 42) (.tmp 43) rfl w1.heap.size _ [] b _ rfl (owns_bytes w1 [] _ _ _ rfl (Nat.le_refl _) rfl (by decide)) _ rfl (fun e => ⟨hbn e, List.eq_nil_of_length_eq_zero (by have := hbn e; omega)⟩) (R1.out.alloc _) (by simp; omega) (by simp) ?_; intro v2 w2 o2 b2 _; rw [List.nil_append] at o2; have B2 := (below_alloc w1 _).trans b2; clear b2; obtain ⟨a2, c2, rfl, l2, n2, r2⟩ := Bs.of_owns o2)
      have BB2 := below_on B1 B2
      have SB2 := BB2.size
      have L2 := Lib.hid (L1.out.below B2)
      have R2 := Lib.hid (R1.out.below B2)
      have I2 := Lib.hid o2
      clear o2 L1 R1 B2
      refine (All_any b a2 c2 _ l2 (by omega) (fun e => (n2 e).1) r2).mono ?_
      rintro en w3 ⟨b3, v3, rfl, o3⟩
      have BB3 := below_on BB2 b3
      have L3 := Lib.hid (L2.out.below b3)
      have R3 := Lib.hid (R2.out.below b3)
      have I3 := Lib.hid (owns_below I2.out b3)
      have i3 := I2.out.lt
      have X3 := Lib.hid o3
      obtain ⟨a3, c3, rfl, q3, _, _⟩ := RR.of_rows o3
      have S3 := b3.size
      clear b3 o3 L2 R2 I2 BB2 r2
      go_wp2_with fail
      refine (rall_any b ab capb _ hbl HBM.out (by omega) hbn R3.out).mono ?_
      rintro en w4 ⟨b4, v4, rfl, o4⟩
      have Y4 := Lib.hid o4
      obtain ⟨a4, c4, rfl, _, _, _⟩ := RR.of_rows o4
      have BB4 := below_on BB3 b4
      have L4 := Lib.hid (L3.out.below b4)
      have C34 := b4
      have S34 := b4.size
      clear o4 L3 R3 BB3
      go_wp2_with fail
      refine (join_any L al capl _ (by omega) L4.out (fun i hi => Nat.le_trans (HA.out i hi) (by omega))).mono ?_
      intro en w5 h5
      obtain ⟨b5, v5, k5, rfl, e5, o5⟩ := join_R h5
      have E5 := Lib.hid e5
      have O5 := Lib.hid o5
      have BB5 := below_on BB4 b5
      have L5 := Lib.hid (L4.out.below b5)
      have C35 := below_on C34 b5
      have D45 := b5
      have S45 := b5.size
      clear h5 o5 e5 L4 BB4
      go_wp2_with fail
      refine (rjoin_any L al capl _ (by omega) L5.out (fun i hi => Nat.le_trans (HA.out i hi) (by omega))).mono ?_
      intro en w6 h6
      obtain ⟨b6, v6, k6, rfl, e6, o6⟩ := join_R h6
      obtain rfl : k5 = k6 := by rw [E5.out, e6]
      generalize (join L).getD [] = txt at o6 O5
      have O6 := Lib.hid o6
      have P6 := Lib.hid (owns_below O5.out b6)
      have BB6 := below_on BB5 b6
      have C36 := below_on C35 b6
      have C46 := below_on D45 b6
      have J6 := b6
      clear h6 o6 e6 E5 L5 BB5 O5 D45 C35 C34 b6
      obtain ⟨_, _, e, _, _, rx⟩ := RR.of_rows (rowsOf_kept X3.out C36)
      cases e
      obtain ⟨_, _, e, _, _, ry⟩ := RR.of_rows (rowsOf_kept Y4.out C46)
      cases e
      have RX := Lib.hid rx
      have RY := Lib.hid ry
      have hXl := all_len b
      generalize (all b).1 = X at X3 Y4 RX RY hXl q3
      generalize (all b).2 = m2
      clear rx ry
      have hXi : (X.length : Int) ≤ 9223372036854775807 := by omega
      go_wp2_with fail
      refine (rows_at X X a3 a4 _ _ _ _ _ rfl rfl hXi RX.out RY.out).mono ?_
      rintro en w7 ⟨rfl, b7⟩
      rw [decide_eq_true rfl]
      have BB7 := Lib.hid (below_on BB6 b7)
      have C37 := Lib.hid (below_on C36 b7)
      have Q7 := Lib.hid (owns_below O6.out b7)
      have P7 := Lib.hid (owns_below P6.out b7)
      have I7 := Lib.hid (owns_below I3.out C37.out)
      have S67 := J6.size
      have S46 := C46.size
      have S36 := C36.size
      clear RX RY O6 P6 Y4 BB6 C36 C46 b7 J6
      obtain ⟨vs, h1, hvl, h3⟩ := X3.out
      have V1 := Lib.hid h1
      have V3 := Lib.hid h3
      have hXn : (X.length : Int) = (vs.length : Int) := by omega
      clear h1 h3 X3
      go_wp2_with fail
      go_loopw [17] (fun iv wr => ∃ i : Nat, iv = .int .i64 i ∧ i ≤ X.length ∧ Wr w2.heap.size w3.heap.size w7 wr ∧ Below W.heap.size W wr) (fun iv _ => X.length - (intOf iv).toNat)
      case atStart => exact ⟨0, rfl, Nat.zero_le _, Wr.refl _ _ _, BB7.out⟩
      case round =>
        obtain ⟨i, rfl, hi, hwr, hbw⟩ := hrel
        have HW := Lib.hid hwr
        have HBW := Lib.hid hbw
        clear hwr hbw
        by_cases hlt : i < X.length
        · have hi0 : (0 : Int) ≤ (i : Int) := by omega
          have hii : (i : Int) < (X.length : Int) := by omega
          have hiv : (i : Int) < (vs.length : Int) := by omega
          have hvi : i < vs.length := by omega
          have hu := V3.out i vs[i] (X.getD i []) (by simp [hvi]) (by simp [List.getD, hlt])
          have hcells : ∀ wr', Wr w2.heap.size w3.heap.size w7 wr' → ∃ g, a3 = some ⟨g, 0, none⟩ ∧ wr'.cell? ⟨g, i, none⟩ = some vs[i] := by
            intro wr' hw'
            have ow := owns_wr (owns_below V1.out C37.out) hw' (.inl (by decide))
            obtain ⟨g, cap, e, _⟩ := own_form ow (by omega)
            simp only [Value.slice.injEq] at e
            obtain ⟨rfl, _, _⟩ := e
            refine ⟨g, rfl, ?_⟩
            have := ow.cells (g := g) rfl i vs[i] (by simp [hvi])
            unfold Addr.add at this
            split at this
            · rename_i h0; subst h0; exact this
            · simpa using this
          have HC := Lib.hid hcells
          generalize vs[i] = u at hu hcells HC
          generalize X.getD i [] = l at hu
          have SP := Lib.hid (rowSpot hu)
          obtain ⟨au, cu, rfl, _, _, _⟩ := RB.of_owns hu
          obtain ⟨g, rfl, hcell⟩ := hcells wr HW.out
          clear hu hcells
          go_wp2_with fail
          go_loopw [18] (fun tv wr' => ∃ t : Nat, tv = .int .i64 t ∧ t ≤ l.length ∧ Wr w2.heap.size w3.heap.size w7 wr' ∧ Below W.heap.size W wr') (fun tv _ => l.length - (intOf tv).toNat)
          case atStart => exact ⟨0, rfl, Nat.zero_le _, HW.out, HBW.out⟩
          case round =>
            obtain ⟨t, rfl, ht, hwr2, hbw2⟩ := hrel
            have HW2 := Lib.hid hwr2
            have HBW2 := Lib.hid hbw2
            obtain ⟨_, e, hcell2⟩ := HC.out _ hwr2
            cases e
            clear hwr2 hbw2
            by_cases htl : t < l.length
            · have ht0 : (0 : Int) ≤ (t : Int) := by omega
              have hti : (t : Int) < (l.length : Int) := by omega
              obtain ⟨gi, ci, cs, e, hlc, hgb, hgt, hgh, hcs, hcm⟩ := SP.out.ex (by omega)
              simp only [Value.slice.injEq, true_and] at e
              obtain ⟨rfl, rfl⟩ := e
              have hg7 : w7.heap[gi]? = some (.cells cs 5 (0, 0)) := (C37.out.block gi hgt).trans hgh
              obtain ⟨cs', e1, e2⟩ := HW2.out.at hg7
              have hts : t < cs'.size := by omega
              have hlm : (l.length : Int) ≤ 9223372036854775807 := by omega
              have hcz : wr.cell? ⟨gi, t, none⟩ = some cs'[t] := by simp [World.cell?, e1, hts]
              have hff : wr.frozen? ⟨gi, t, none⟩ = false := by simp [World.frozen?, e1]
              have NX := Lib.hid (HW2.out.put hg7 hgb hgt t (.int .u8 9))
              clear e1 hg7 hgh
              go_wp2_with fail
              go_roundw
              case rel => exact ⟨t + 1, rfl, htl, NX.out, HBW2.out.setCell (p := ⟨gi, t, none⟩) (by simp; omega) _⟩
              case measure => simp only [intOf]; omega
            · have hti : ¬ (t : Int) < (l.length : Int) := by omega
              go_wp2_with fail
              go_roundw
              case rel => exact ⟨i + 1, rfl, hlt, HW2.out, HBW2.out⟩
              case measure => simp only [intOf]; omega
        · have hki : ¬ (i : Int) < (X.length : Int) := by omega
          have hkv : ¬ (i : Int) < (vs.length : Int) := by omega
          have z5 : (convert 22 9 v5).run Try.prog wr = .ok (.string ⟨txt.toArray⟩) wr := conv_bs (owns_wr P7.out HW.out (.inr fun k hk => .inr (by have := (P7.out.lt k hk).1; omega)))
          have z6 : (convert 22 9 v6).run Try.prog wr = .ok (.string ⟨txt.toArray⟩) wr := conv_bs (owns_wr Q7.out HW.out (.inr fun k hk => .inr (by have := (Q7.out.lt k hk).1; omega)))
          have z2 : (convert 22 9 (.slice a2 b.length c2)).run Try.prog wr = .ok (.string ⟨b.toArray⟩) wr := conv_bs (owns_wr I7.out HW.out (.inr fun k hk => .inl (i3 k hk).2))
          have zb : (convert 22 9 (.slice ab b.length capb)).run Try.prog wr = .ok (.string ⟨b.toArray⟩) wr := conv_str _ ab capb b (fun e => by have := hbn e; omega) (HB.out.below HBW.out)
          go_wp2
          go_ret
          exact ⟨rfl, HBW.out⟩
end Go.Proofs.Ytopemjbakpahfaa
