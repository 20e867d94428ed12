/-
  DiskKeeps: the walk, for all bytes and all numbers. No condition.
-/
import Derived.Test.YtopemjbakpahfaaIntRow
import Derived.Test.YtopemjbakpahfaaOpenF
import Derived.Deep.DeepCutAuto
import Derived.Test.YtopemjbakpahfaaReg
namespace Go.Proofs.Ytopemjbakpahfaa
open Go.RowKit Disk
set_option linter.unusedSimpArgs false
def kA (k : List (List UInt8)) (p : List (Nat × List UInt8)) (w s : Nat) : Dev := ⟨k, p, false, 0, w, s⟩
theorem k_new : Dev.new 3 = kA [zero32, zero32, zero32] [] 0 0 := rfl
theorem k_write (k : List (List UInt8)) (p : List (Nat × List UInt8)) (w s : Nat) (i : Nat) (b : List UInt8) (hi : i < k.length) (hb : b.length ≤ 32) : (kA k p w s).write i b = (kA k (p ++ [(i, pad b)]) (w + 1) s, 0) := by
  rw [write_ok_at rfl (by omega) (by show (i : Int) < (k.length : Int); omega) hb (by show (0 : Nat) ≠ 1; decide), Int.toNat_natCast]; rfl
theorem k_sync (k : List (List UInt8)) (p : List (Nat × List UInt8)) (w s : Nat) : (kA k p w s).sync = (kA (p.foldl put k) [] w (s + 1), 0) := by
  rw [sync_ok_at rfl (by show (0 : Nat) ≠ 1; decide)]; rfl
theorem k_read (k : List (List UInt8)) (p : List (Nat × List UInt8)) (w s : Nat) (i : Nat) (hi : i < k.length) : (kA k p w s).read i = ((kA k p w s).sector i, 0) := by
  rw [read_ok_at rfl (by omega) (by show (i : Int) < (k.length : Int); omega), Int.toNat_natCast]
def pick (keep : List Int) (f s t : List UInt8) : List UInt8 := if (1 : Int) ∈ keep then pad t else if (0 : Int) ∈ keep then pad s else pad f
def many (keep : List Int) : Nat := (if (0 : Int) ∈ keep then 1 else 0) + (if (1 : Int) ∈ keep then 1 else 0)
theorem k_restart (keep : List Int) (f s t : List UInt8) : (kA [pad f, pad f, zero32] [(1, pad s), (1, pad t)] 4 1).restart keep = (kA [pad f, pick keep f s t, zero32] [] 4 1, many keep) := by
  unfold Dev.restart kA many pick
  dsimp only
  unfold sel sel sel
  by_cases h0 : (0 : Int) ∈ keep <;> by_cases h1 : (1 : Int) ∈ keep <;> simp [h0, h1, put]
theorem many_cond (K : List Int) : many K = cond (decide ((0 : Int) ∈ K)) 1 0 + cond (decide ((1 : Int) ∈ K)) 1 0 := by
  unfold many
  by_cases h0 : (0 : Int) ∈ K <;> by_cases h1 : (1 : Int) ∈ K <;> simp [h0, h1]
theorem pick_cond (K : List Int) (f s t : List UInt8) : pick K f s t = cond (decide ((1 : Int) ∈ K)) (pad t) (cond (decide ((0 : Int) ∈ K)) (pad s) (pad f)) := by
  unfold pick
  by_cases h0 : (0 : Int) ∈ K <;> by_cases h1 : (1 : Int) ∈ K <;> simp [h0, h1]
theorem mem_take {l : List Int} {i : Nat} (x : Int) (h : i < l.length) : decide (x ∈ l.take (i + 1)) = (decide (x ∈ l.take i) || (l.getD i 0 == x)) := by
  rw [take_snoc l i 0 h]
  rw [Bool.eq_iff_iff]
  simp
  constructor
  · rintro (h | h)
    · exact .inl h
    · exact .inr h.symm
  · rintro (h | h)
    · exact .inl h
    · exact .inr h.symm

set_option maxRecDepth 100000 in
set_option maxHeartbeats 4000000 in
theorem dkeeps_law (f s t : List UInt8) (af as_ at_ : Option Addr) (cf cs ct : Nat) (K : List Int) (ak : Option Addr) (ck : Nat) (W : World)
    (mf : f.length ≤ maxLen) (ms : s.length ≤ maxLen) (mt : t.length ≤ maxLen) (mk : K.length ≤ maxLen) (nf : af = none → cf = 0) (ns : as_ = none → cs = 0) (nt : at_ = none → ct = 0) (lf : f.length ≤ cf) (ls : s.length ≤ cs) (lt : t.length ≤ ct)
    (rf : RB W af f) (rs : RB W as_ s) (rt : RB W at_ t) (rk : RI W ak K) : Calls Try.prog 7 #[.slice af f.length cf, .slice as_ s.length cs, .slice at_ t.length ct, .slice ak K.length ck] W (Yes W) := by
  unfold maxLen at mf ms mt mk
  have Nf : Hid (af = none → cf = 0 ∧ f = []) := fun e => ⟨nf e, List.eq_nil_of_length_eq_zero (by have := nf e; omega)⟩
  have Ns : Hid (as_ = none → cs = 0 ∧ s = []) := fun e => ⟨ns e, List.eq_nil_of_length_eq_zero (by have := ns e; omega)⟩
  have Nt : Hid (at_ = none → ct = 0 ∧ t = []) := fun e => ⟨nt e, List.eq_nil_of_length_eq_zero (by have := nt e; omega)⟩
  have Rf := Lib.hid rf
  have Rs := Lib.hid rs
  have Rt := Lib.hid rt
  have Rk := Lib.hid rk
  clear rf rs rt rk nf ns nt lf ls lt
  go_enter Try.func7, Try.ntmps7
  go_wp2_with fail
  refine (dsmall_any _).mono ?_
  rintro en w1 ⟨rfl, B1⟩
  go_wp2_with fail
  refine (new_any w1 3).mono ?_
  rintro en w2 ⟨B, rfl, b2, hB, D2⟩
  rw [show sizeOfDev 3 = 3 by decide +kernel, k_new] at D2
  have B2 := B1.trans (b2.mono B1.size)
  by_cases hf : 32 < (f.length : Int)
  · go_wp2
    go_ret
    exact ⟨rfl, B2⟩
  by_cases hs : 32 < (s.length : Int)
  · go_wp2
    go_ret
    exact ⟨rfl, B2⟩
  by_cases ht : 32 < (t.length : Int)
  · go_wp2
    go_ret
    exact ⟨rfl, B2⟩
  by_cases hk : 50 < (K.length : Int)
  · go_wp2
    go_ret
    exact ⟨rfl, B2⟩
  have hW1 := B1.size
  obtain ⟨F2, hF2⟩ : ∃ F : Nat → Prop, (fun k => w1.heap.size ≤ k ∧ k < w2.heap.size) = F := ⟨_, rfl⟩
  have g2 : ∀ k, F2 k → W.heap.size ≤ k := by rw [← hF2]; exact fun k hk => by omega
  rw [hF2] at D2
  clear hF2
  have G2 := Lib.hid g2
  clear g2
  go_wp2_with fail
  refine (write_any D2 0 f af cf (by omega) (fun e => (Nf.out e).2) (fun w' hf => Rf.out.below (B2.trans (hf.below G2.out B2.size))) (by show 0 ≤ _; omega) (by show 0 ≤ _; omega)).mono ?_
  intro en w3 h3
  rw [show (0 : Int) = ((0 : Nat) : Int) from rfl, k_write _ _ _ _ 0 f (by decide) (by omega)] at h3
  obtain ⟨rfl, _, b3, F3, D3, g3, _⟩ := h3.out G2.out B2.size
  replace b3 := B2.trans b3
  have G3 := Lib.hid g3
  clear h3 D2 g3 B2 b2 B1 G2
  go_wp2_with fail
  refine (write_any D3 1 f af cf (by omega) (fun e => (Nf.out e).2) (fun w' hf => Rf.out.below (b3.trans (hf.below G3.out b3.size))) (by show 1 ≤ _; omega) (by show 1 ≤ _; omega)).mono ?_
  intro en w4 h4
  rw [show (1 : Int) = ((1 : Nat) : Int) from rfl, k_write _ _ _ _ 1 f (by decide) (by omega)] at h4
  obtain ⟨rfl, _, b4, F4, D4, g4, _⟩ := h4.out G3.out b3.size
  replace b4 := b3.trans b4
  have G4 := Lib.hid g4
  clear h4 D3 g4 b3 G3
  go_wp2_with fail
  refine (sync_any D4 (by show 2 ≤ _; omega) (by show 0 ≤ _; omega)).mono ?_
  intro en w5 h5
  rw [k_sync] at h5
  obtain ⟨rfl, _, b5, F5, D5, g5, _⟩ := h5.out G4.out b4.size
  replace b5 := b4.trans b5
  have G5 := Lib.hid g5
  have D5 : IsDev F5 w5 B (kA [pad f, pad f, zero32] [] 2 1) := D5
  clear h5 D4 g5 b4 G4
  go_wp2_with fail
  refine (write_any D5 1 s as_ cs (by omega) (fun e => (Ns.out e).2) (fun w' hf => Rs.out.below (b5.trans (hf.below G5.out b5.size))) (by show 0 ≤ _; omega) (by show 2 ≤ _; omega)).mono ?_
  intro en w6 h6
  rw [show (1 : Int) = ((1 : Nat) : Int) from rfl, k_write _ _ _ _ 1 s (by simp) (by omega)] at h6
  obtain ⟨rfl, _, b6, F6, D6, g6, _⟩ := h6.out G5.out b5.size
  replace b6 := b5.trans b6
  have G6 := Lib.hid g6
  clear h6 D5 g6 b5 G5
  go_wp2_with fail
  refine (write_any D6 1 t at_ ct (by omega) (fun e => (Nt.out e).2) (fun w' hf => Rt.out.below (b6.trans (hf.below G6.out b6.size))) (by show 1 ≤ _; omega) (by show 3 ≤ _; omega)).mono ?_
  intro en w7 h7
  rw [show (1 : Int) = ((1 : Nat) : Int) from rfl, k_write _ _ _ _ 1 t (by simp) (by omega)] at h7
  obtain ⟨rfl, _, b7, F7, D7, g7, _⟩ := h7.out G6.out b6.size
  replace b7 := b6.trans b7
  have G7 := Lib.hid g7
  clear h7 D6 g7 b6 G6
  go_wp2_with fail
  refine (pending_any D7).mono ?_
  rintro en w8 ⟨rfl, rfl⟩
  go_wp2_with fail
  refine (restart_any D7 (by show 2 ≤ _; omega) K ak ck (by omega) (fun w' hf => Rk.out.below (b7.trans (hf.below G7.out b7.size)))).mono ?_
  intro en w8 h8
  have h8 : DevOf F7 w7 B ((kA [pad f, pad f, zero32] [(1, pad s), (1, pad t)] 4 1).restart K).1 (.int .i64 (((kA [pad f, pad f, zero32] [(1, pad s), (1, pad t)] 4 1).restart K).2 : Nat)) en w8 := h8
  rw [k_restart] at h8
  obtain ⟨rfl, _, b8, F8, D8, g8, _⟩ := h8.out G7.out b7.size
  replace b8 := b7.trans b8
  have G8 := Lib.hid g8
  clear h8 D7 g8 b7 G7
  go_wp2_with fail
  refine (read_any D8 0 (by show 0 ≤ _; omega)).mono ?_
  rintro en w9 ⟨b9, v9, rfl, s9⟩
  rw [show (0 : Int) = ((0 : Nat) : Int) from rfl, k_read _ _ _ _ 0 (by simp)] at s9 ⊢
  have D9 := D8.below b9
  replace b9 := b8.trans (b9.mono b8.size)
  clear D8 b8
  go_wp2_with fail
  refine (read_any D9 1 (by show 0 ≤ _; omega)).mono ?_
  rintro en w10 ⟨b10, v10, rfl, s10⟩
  rw [show (1 : Int) = ((1 : Nat) : Int) from rfl, k_read _ _ _ _ 1 (by simp)] at s10 ⊢
  have D10 := D9.below b10
  have c10 := b10
  replace b10 := b9.trans (b10.mono b9.size)
  clear D9 b9
  go_wp2_with fail
  refine (read_any D10 2 (by show 0 ≤ _; omega)).mono ?_
  rintro en w11 ⟨b11, v11, rfl, s11⟩
  rw [show (2 : Int) = ((2 : Nat) : Int) from rfl, k_read _ _ _ _ 2 (by simp)] at s11 ⊢
  have D11 := D10.below b11
  have c11 := b11
  have Bw11 := b10.trans (b11.mono b10.size)
  clear D10 b11
  have S9 : Sec w9 w8.heap.size v9 (pad f) := s9
  have S10 : Sec w10 w9.heap.size v10 (pick K f s t) := s10
  obtain ⟨pk, hpk⟩ : ∃ pk, pick K f s t = pk := ⟨_, rfl⟩
  rw [hpk] at S10
  have HP := Lib.hid hpk
  clear hpk
  have S11 : Sec w11 w10.heap.size v11 zero32 := s11
  obtain ⟨a9, k9, rfl, n9, r9⟩ := sec_text S9
  obtain ⟨a10, k10, rfl, n10, r10⟩ := sec_text S10
  obtain ⟨a11, k11, rfl, n11, r11⟩ := sec_text S11
  have T9 := Lib.hid (r9.below (c10.trans (c11.mono c10.size)))
  have T10 := Lib.hid (r10.below c11)
  have T11 := Lib.hid r11
  clear s9 s10 s11 S9 S10 S11 r9 r10 r11 c10 c11 b10
  go_wp2_with (first
    | (at_builtin; refine app_bytes rfl (.tmp 105) (.tmp 106) rfl w11.heap.size _ [] f _ rfl (owns_bytes w11 [] _ _ _ rfl (Nat.le_refl _) rfl (by decide)) af rfl Nf.out ((Rf.out.below Bw11).alloc _) (by show 0 + f.length ≤ _; omega) (by simp) ?_; intro xf yf oxf bxf _; have BXf := (below_alloc w11 _).trans bxf; clear bxf)
    | (at_builtin; refine wpList_append_zeros rfl (.tmp 107) (.tmp 110) rfl w11.heap.size _ f (32 - f.length) rfl (show Value.int .i64 (32 - (f.length : Int)) = .int .i64 ((32 - f.length : Nat) : Int) by congr 1; omega) oxf (by omega) BXf.size ?_; intro vf zf ozf gzf; have czf : (convert 22 9 vf).run Try.prog zf = .ok (.string ⟨(pad f).toArray⟩) zf := conv_bs ozf; have BZf : Below w11.heap.size w11 zf := BXf.grown gzf BXf.size (fun k hk => (oxf.lt k hk).1); have Bzf := Bw11.trans (BZf.mono Bw11.size); have D12 := D11.below BZf; have Uf := Lib.hid BZf; clear oxf ozf gzf BXf BZf D11)
    | (at_builtin; refine app_bytes rfl (.tmp 113) (.tmp 114) rfl zf.heap.size _ [] s _ rfl (owns_bytes zf [] _ _ _ rfl (Nat.le_refl _) rfl (by decide)) as_ rfl Ns.out ((Rs.out.below Bzf).alloc _) (by show 0 + s.length ≤ _; omega) (by simp) ?_; intro xs ys oxs bxs _; have BXs := (below_alloc zf _).trans bxs; clear bxs)
    | (at_builtin; refine wpList_append_zeros rfl (.tmp 115) (.tmp 118) rfl zf.heap.size _ s (32 - s.length) rfl (show Value.int .i64 (32 - (s.length : Int)) = .int .i64 ((32 - s.length : Nat) : Int) by congr 1; omega) oxs (by omega) BXs.size ?_; intro vs zs ozs gzs; have czs : (convert 22 9 vs).run Try.prog zs = .ok (.string ⟨(pad s).toArray⟩) zs := conv_bs ozs; have BZs : Below zf.heap.size zf zs := BXs.grown gzs BXs.size (fun k hk => (oxs.lt k hk).1); have Bzs := Bzf.trans (BZs.mono Bzf.size); have D13 := D12.below BZs; have Us := Lib.hid BZs; clear oxs ozs gzs BXs BZs D12)
    | (at_builtin; refine app_bytes rfl (.tmp 121) (.tmp 122) rfl zs.heap.size _ [] t _ rfl (owns_bytes zs [] _ _ _ rfl (Nat.le_refl _) rfl (by decide)) at_ rfl Nt.out ((Rt.out.below Bzs).alloc _) (by show 0 + t.length ≤ _; omega) (by simp) ?_; intro xt yt oxt bxt _; have BXt := (below_alloc zs _).trans bxt; clear bxt)
    | (at_builtin; refine wpList_append_zeros rfl (.tmp 123) (.tmp 126) rfl zs.heap.size _ t (32 - t.length) rfl (show Value.int .i64 (32 - (t.length : Int)) = .int .i64 ((32 - t.length : Nat) : Int) by congr 1; omega) oxt (by omega) BXt.size ?_; intro vt zt ozt gzt; have czt : (convert 22 9 vt).run Try.prog zt = .ok (.string ⟨(pad t).toArray⟩) zt := conv_bs ozt; have BZt : Below zs.heap.size zs zt := BXt.grown gzt BXt.size (fun k hk => (oxt.lt k hk).1); have Bzt := Bzs.trans (BZt.mono Bzs.size); have D14 := D13.below BZt; have Ut := Lib.hid BZt; clear oxt ozt gzt BXt BZt D13))
  have T9 := Lib.hid (((T9.out.below Uf.out).below Us.out).below Ut.out)
  have T10 := Lib.hid (((T10.out.below Uf.out).below Us.out).below Ut.out)
  have T11 := Lib.hid (((T11.out.below Uf.out).below Us.out).below Ut.out)
  clear czf czs czt Uf Us Ut Bzf Bzs
  go_wp2_with fail
  go_loop [21, 22, 23] (fun hv lv iv => ∃ i : Nat, iv = .int .i64 i ∧ i ≤ K.length ∧ hv = .bool (decide ((0 : Int) ∈ K.take i)) ∧ lv = .bool (decide ((1 : Int) ∈ K.take i))) (fun _ _ iv => K.length - (intOf iv).toNat)
  case atStart => exact ⟨0, rfl, Nat.zero_le _, by simp, by simp⟩
  case round =>
    obtain ⟨i, rfl, hi, rfl, rfl⟩ := hrel
    by_cases hlt : i < K.length
    · have hi0 : (0 : Int) ≤ (i : Int) := by omega
      have hii : (i : Int) < (K.length : Int) := by omega
      obtain ⟨g, off, rfl, hg, hcell⟩ := (Rk.out.below Bzt) i hlt
      have m0 := Lib.hid (mem_take 0 hlt)
      have m1 := Lib.hid (mem_take 1 hlt)
      generalize K.getD i 0 = y at hcell m0 m1
      generalize decide ((0 : Int) ∈ K.take i) = h0 at m0
      generalize decide ((1 : Int) ∈ K.take i) = h1 at m1
      cases h0 <;> cases h1
      all_goals
        go_wp2_with fail
        go_round
        case rel => exact ⟨i + 1, rfl, by omega, by rw [m0.out]; simp, by rw [m1.out]; simp⟩
        case measure => simp only [intOf]; omega
    · have hii : ¬ (i : Int) < (K.length : Int) := by omega
      obtain rfl : i = K.length := by omega
      rw [List.take_length]
      have HM := many_cond K
      have HQ := (HP.out.symm).trans (pick_cond K f s t)
      generalize many K = m at HM ⊢
      have C9 : (convert 22 9 (.slice a9 (pad f).length k9)).run Try.prog zt.drew = .ok (.string ⟨(pad f).toArray⟩) zt.drew := conv_str _ a9 k9 _ n9 (T9.out.below (Below.refl _ _).drew)
      have C10 : (convert 22 9 (.slice a10 pk.length k10)).run Try.prog zt.drew = .ok (.string ⟨pk.toArray⟩) zt.drew := conv_str _ a10 k10 _ n10 (T10.out.below (Below.refl _ _).drew)
      have C11 : (convert 22 9 (.slice a11 zero32.length k11)).run Try.prog zt.drew = .ok (.string ⟨zero32.toArray⟩) zt.drew := conv_str _ a11 k11 _ n11 (T11.out.below (Below.refl _ _).drew)
      obtain ⟨Z, hZ⟩ : ∃ Z, zt.drew = Z := ⟨_, rfl⟩
      rw [hZ] at C9 C10 C11
      have hmk : (Instr.makeSlice 22 (.int .i64 32) (.int .i64 32)).run Try.prog Z = .ok (.slice (some ⟨Z.heap.size, 0, none⟩) 32 32) (Z.alloc (.cells (zero32.map byteV).toArray 5)) := run_make_bytes Z 32 (by decide)
      have C12 : (convert 22 9 (.slice (some ⟨Z.heap.size, 0, none⟩) 32 32)).run Try.prog (Z.alloc (.cells (zero32.map byteV).toArray 5)) = .ok (.string ⟨zero32.toArray⟩) (Z.alloc (.cells (zero32.map byteV).toArray 5)) :=
        conv_bs (owns_bytes Z zero32 _ Z.heap.size _ rfl (Nat.le_refl _) rfl (by decide))
      have C13 : (convert 22 9 (.slice a11 zero32.length k11)).run Try.prog (Z.alloc (.cells (zero32.map byteV).toArray 5)) = .ok (.string ⟨zero32.toArray⟩) (Z.alloc (.cells (zero32.map byteV).toArray 5)) := conv_str _ a11 k11 _ n11 ((T11.out.below (by rw [← hZ]; exact (Below.refl _ _).drew)).alloc _)
      have E9 : (convert 22 9 (.slice a9 (pad f).length k9)).run Try.prog (Z.alloc (.cells (zero32.map byteV).toArray 5)) = .ok (.string ⟨(pad f).toArray⟩) (Z.alloc (.cells (zero32.map byteV).toArray 5)) := conv_str _ a9 k9 _ n9 ((T9.out.below (by rw [← hZ]; exact (Below.refl _ _).drew)).alloc _)
      have E10 : (convert 22 9 (.slice a10 pk.length k10)).run Try.prog (Z.alloc (.cells (zero32.map byteV).toArray 5)) = .ok (.string ⟨pk.toArray⟩) (Z.alloc (.cells (zero32.map byteV).toArray 5)) := conv_str _ a10 k10 _ n10 ((T10.out.below (by rw [← hZ]; exact (Below.refl _ _).drew)).alloc _)
      have DZ : Hid (IsDev F8 Z B (kA [pad f, pick K f s t, zero32] [] 4 1)) := Lib.hid (by rw [← hZ]; exact D14.below (Below.refl _ _).drew)
      have BZ : Hid (Below W.heap.size W Z) := Lib.hid (by rw [← hZ]; exact Bzt.drew)
      obtain ⟨bz, hbz⟩ : ∃ bz, pick K f s t = bz := ⟨_, rfl⟩
      rw [hbz] at DZ
      clear hbz HP D14 Bzt T9 T10 T11
      generalize decide ((0 : Int) ∈ K) = b0 at HM HQ ⊢
      generalize decide ((1 : Int) ∈ K) = b1 at HM HQ ⊢
      obtain ⟨x1, hx1⟩ : ∃ x : List UInt8, x = cond b0 (pad s) (pad f) := ⟨_, rfl⟩
      obtain ⟨y1, hy1⟩ : ∃ y : Nat, y = cond b0 1 0 := ⟨_, rfl⟩
      have X1 := Lib.hid hx1
      have Y1 := Lib.hid hy1
      have HM2 := Lib.hid HM
      have HQ2 := Lib.hid HQ
      clear hx1 hy1 HM HQ
      go_upto_if 152 with fail
      go_cut [24] (fun s24 wx => s24 = .string ⟨x1.toArray⟩ ∧ zt = wx)
      case first =>
        cases b0
        all_goals
          go_wp2_with fail
          go_meet
          exact ⟨by rw [X1.out]; rfl, rfl⟩
      case rest =>
      obtain ⟨rfl, rfl⟩ := hcut
      go_upto_if 154 with fail
      go_cut [24] (fun s24 wx => s24 = .string ⟨pk.toArray⟩ ∧ zt = wx)
      case first =>
        cases b1
        all_goals
          go_wp2_with fail
          go_meet
          exact ⟨by first | (rw [HQ2.out, X1.out]; rfl) | (rw [HQ2.out]; rfl), rfl⟩
      case rest =>
      obtain ⟨rfl, rfl⟩ := hcut
      go_upto_if 156 with fail
      go_cut [25] (fun s25 wx => s25 = .int .i64 (y1 : Nat) ∧ zt = wx)
      case first =>
        cases b0
        all_goals
          go_wp2_with fail
          go_meet
          exact ⟨by rw [Y1.out]; rfl, rfl⟩
      case rest =>
      obtain ⟨rfl, rfl⟩ := hcut
      go_upto_if 159 with fail
      go_cut [25] (fun s25 wx => s25 = .int .i64 (m : Nat) ∧ zt = wx)
      case first =>
        have hy2 : (y1 : Int) ≤ 1 := by rw [Y1.out]; cases b0 <;> decide
        have hy3 : (0 : Int) ≤ y1 := by omega
        cases b1
        all_goals
          go_wp2_with fail
          go_meet
          exact ⟨by rw [HM2.out, Y1.out]; cases b0 <;> rfl, rfl⟩
      case rest =>
      obtain ⟨rfl, rfl⟩ := hcut
      go_wp2_with fail
      obtain ⟨S, hS⟩ : ∃ S : World → Prop, S = fun w' => (convert 22 9 (.slice a9 (pad f).length k9)).run Try.prog w' = .ok (.string ⟨(pad f).toArray⟩) w' ∧ (convert 22 9 (.slice a10 pk.length k10)).run Try.prog w' = .ok (.string ⟨pk.toArray⟩) w' ∧ (convert 22 9 (.slice a11 zero32.length k11)).run Try.prog w' = .ok (.string ⟨zero32.toArray⟩) w' := ⟨_, rfl⟩
      have s0 : S Z := by rw [hS]; exact ⟨C9, C10, C11⟩
      have s1 : S (Z.alloc (.cells (zero32.map byteV).toArray 5)) := by rw [hS]; exact ⟨E9, E10, C13⟩
      have h9 : Hid (∀ w', S w' → (convert 22 9 (.slice a9 (pad f).length k9)).run Try.prog w' = .ok (.string ⟨(pad f).toArray⟩) w') := fun w' h => by rw [hS] at h; exact h.1
      have h10 : Hid (∀ w', S w' → (convert 22 9 (.slice a10 pk.length k10)).run Try.prog w' = .ok (.string ⟨pk.toArray⟩) w') := fun w' h => by rw [hS] at h; exact h.2.1
      have h11 : Hid (∀ w', S w' → (convert 22 9 (.slice a11 zero32.length k11)).run Try.prog w' = .ok (.string ⟨zero32.toArray⟩) w') := fun w' h => by rw [hS] at h; exact h.2.2
      clear hS C9 C10 C11 C13 E9 E10
      refine wp_region_held (S := S) (by kernel_rfl) ?_
      change wpAnyH _ _ _ _ _ _ _ _ (World.drew _)
      rw [hZ]
      refine wpAnyH_take (i := 0) (v := .bool true) rfl (by kernel_rfl) (by kernel_rfl) (by kernel_rfl) (fun _ _ _ h => h) (.inl ⟨by rfl, by intro w hw; go_simp⟩) s0 ?_
      try simp only [Act.put, List.getElem_toArray, List.getElem_cons_zero, List.getElem_cons_succ, List.setIfInBounds_toArray, List.set_cons_zero, List.set_cons_succ]
      refine wpAnyH_take (i := 1) (v := .bool true) rfl (by kernel_rfl) (by kernel_rfl) (by kernel_rfl) (fun _ _ _ h => h) (.inl ⟨by rfl, by intro w hw; go_simp⟩) s0 ?_
      try simp only [Act.put, List.getElem_toArray, List.getElem_cons_zero, List.getElem_cons_succ, List.setIfInBounds_toArray, List.set_cons_zero, List.set_cons_succ]
      refine wpAnyH_take (i := 2) (v := .int .i64 0) rfl (by kernel_rfl) (by kernel_rfl) (by kernel_rfl) (fun _ _ _ h => h) (.inl ⟨by rfl, by intro w hw; go_simp⟩) s0 ?_
      try simp only [Act.put, List.getElem_toArray, List.getElem_cons_zero, List.getElem_cons_succ, List.setIfInBounds_toArray, List.set_cons_zero, List.set_cons_succ]
      refine wpAnyH_take (i := 3) (v := .bool true) rfl (by kernel_rfl) (by kernel_rfl) (by kernel_rfl) (fun _ _ _ h => h) (.inl ⟨by rfl, by intro w hw; go_simp⟩) s0 ?_
      try simp only [Act.put, List.getElem_toArray, List.getElem_cons_zero, List.getElem_cons_succ, List.setIfInBounds_toArray, List.set_cons_zero, List.set_cons_succ]
      refine wpAnyH_take (i := 4) (v := .bool true) rfl (by kernel_rfl) (by kernel_rfl) (by kernel_rfl) (fun _ _ _ h => h) (.inl ⟨by rfl, by intro w hw; go_simp⟩) s0 ?_
      try simp only [Act.put, List.getElem_toArray, List.getElem_cons_zero, List.getElem_cons_succ, List.setIfInBounds_toArray, List.set_cons_zero, List.set_cons_succ]
      refine wpAnyH_take (i := 5) (v := .bool true) rfl (by kernel_rfl) (by kernel_rfl) (by kernel_rfl) (fun _ _ _ h => h) (.inl ⟨by rfl, by intro w hw; go_simp⟩) s0 ?_
      try simp only [Act.put, List.getElem_toArray, List.getElem_cons_zero, List.getElem_cons_succ, List.setIfInBounds_toArray, List.set_cons_zero, List.set_cons_succ]
      refine wpAnyH_take (i := 6) (v := .int .i64 0) rfl (by kernel_rfl) (by kernel_rfl) (by kernel_rfl) (fun _ _ _ h => h) (.inl ⟨by rfl, by intro w hw; go_simp⟩) s0 ?_
      try simp only [Act.put, List.getElem_toArray, List.getElem_cons_zero, List.getElem_cons_succ, List.setIfInBounds_toArray, List.set_cons_zero, List.set_cons_succ]
      refine wpAnyH_take (i := 7) (v := .bool true) rfl (by kernel_rfl) (by kernel_rfl) (by kernel_rfl) (fun _ _ _ h => h) (.inl ⟨by rfl, by intro w hw; go_simp⟩) s0 ?_
      try simp only [Act.put, List.getElem_toArray, List.getElem_cons_zero, List.getElem_cons_succ, List.setIfInBounds_toArray, List.set_cons_zero, List.set_cons_succ]
      refine wpAnyH_take (i := 8) (v := .bool true) rfl (by kernel_rfl) (by kernel_rfl) (by kernel_rfl) (fun _ _ _ h => h) (.inl ⟨by rfl, by intro w hw; go_simp⟩) s0 ?_
      try simp only [Act.put, List.getElem_toArray, List.getElem_cons_zero, List.getElem_cons_succ, List.setIfInBounds_toArray, List.set_cons_zero, List.set_cons_succ]
      refine wpAnyH_take (i := 9) (v := .bool true) rfl (by kernel_rfl) (by kernel_rfl) (by kernel_rfl) (fun _ _ _ h => h) (.inl ⟨by rfl, by intro w hw; go_simp⟩) s0 ?_
      try simp only [Act.put, List.getElem_toArray, List.getElem_cons_zero, List.getElem_cons_succ, List.setIfInBounds_toArray, List.set_cons_zero, List.set_cons_succ]
      refine wpAnyH_take (i := 10) (v := .int .i64 0) rfl (by kernel_rfl) (by kernel_rfl) (by kernel_rfl) (fun _ _ _ h => h) (.inl ⟨by rfl, by intro w hw; go_simp⟩) s0 ?_
      try simp only [Act.put, List.getElem_toArray, List.getElem_cons_zero, List.getElem_cons_succ, List.setIfInBounds_toArray, List.set_cons_zero, List.set_cons_succ]
      refine wpAnyH_take (i := 11) (v := .bool true) rfl (by kernel_rfl) (by kernel_rfl) (by kernel_rfl) (fun _ _ _ h => h) (.inl ⟨by rfl, by intro w hw; go_simp⟩) s0 ?_
      try simp only [Act.put, List.getElem_toArray, List.getElem_cons_zero, List.getElem_cons_succ, List.setIfInBounds_toArray, List.set_cons_zero, List.set_cons_succ]
      refine wpAnyH_take (i := 12) (v := .bool true) rfl (by kernel_rfl) (by kernel_rfl) (by kernel_rfl) (fun _ _ _ h => h) (.inl ⟨by rfl, by intro w hw; go_simp⟩) s0 ?_
      try simp only [Act.put, List.getElem_toArray, List.getElem_cons_zero, List.getElem_cons_succ, List.setIfInBounds_toArray, List.set_cons_zero, List.set_cons_succ]
      refine wpAnyH_take (i := 13) (v := .bool true) rfl (by kernel_rfl) (by kernel_rfl) (by kernel_rfl) (fun _ _ _ h => h) (.inl ⟨by rfl, by intro w hw; go_simp⟩) s0 ?_
      try simp only [Act.put, List.getElem_toArray, List.getElem_cons_zero, List.getElem_cons_succ, List.setIfInBounds_toArray, List.set_cons_zero, List.set_cons_succ]
      refine wpAnyH_take (i := 14) (v := .slice a9 (pad f).length k9) rfl (by kernel_rfl) (by kernel_rfl) (by kernel_rfl) (fun _ _ _ h => h) (.inl ⟨by rfl, by intro w hw; go_simp⟩) s0 ?_
      try simp only [Act.put, List.getElem_toArray, List.getElem_cons_zero, List.getElem_cons_succ, List.setIfInBounds_toArray, List.set_cons_zero, List.set_cons_succ]
      refine wpAnyH_take (i := 16) (v := .string ⟨(pad f).toArray⟩) rfl (by kernel_rfl) (by kernel_rfl) (by kernel_rfl) (fun _ _ _ h => h) (.inl ⟨by rfl, by intro w hw; go_simp⟩) s0 ?_
      try simp only [Act.put, List.getElem_toArray, List.getElem_cons_zero, List.getElem_cons_succ, List.setIfInBounds_toArray, List.set_cons_zero, List.set_cons_succ]
      refine wpAnyH_take (i := 15) (v := .string ⟨(pad f).toArray⟩) rfl (by kernel_rfl) (by kernel_rfl) (by kernel_rfl) (fun _ _ _ h => h) (.inl ⟨by rfl, by intro w hw; have h := h9.out w hw; go_simp⟩) s0 ?_
      try simp only [Act.put, List.getElem_toArray, List.getElem_cons_zero, List.getElem_cons_succ, List.setIfInBounds_toArray, List.set_cons_zero, List.set_cons_succ]
      refine wpAnyH_take (i := 17) (v := .bool true) rfl (by kernel_rfl) (by kernel_rfl) (by kernel_rfl) (fun _ _ _ h => h) (.inl ⟨by rfl, by intro w hw; go_simp⟩) s0 ?_
      try simp only [Act.put, List.getElem_toArray, List.getElem_cons_zero, List.getElem_cons_succ, List.setIfInBounds_toArray, List.set_cons_zero, List.set_cons_succ]
      refine wpAnyH_take (i := 18) (v := .bool true) rfl (by kernel_rfl) (by kernel_rfl) (by kernel_rfl) (fun _ _ _ h => h) (.inl ⟨by rfl, by intro w hw; go_simp⟩) s0 ?_
      try simp only [Act.put, List.getElem_toArray, List.getElem_cons_zero, List.getElem_cons_succ, List.setIfInBounds_toArray, List.set_cons_zero, List.set_cons_succ]
      refine wpAnyH_take (i := 19) (v := .bool true) rfl (by kernel_rfl) (by kernel_rfl) (by kernel_rfl) (fun _ _ _ h => h) (.inl ⟨by rfl, by intro w hw; go_simp⟩) s0 ?_
      try simp only [Act.put, List.getElem_toArray, List.getElem_cons_zero, List.getElem_cons_succ, List.setIfInBounds_toArray, List.set_cons_zero, List.set_cons_succ]
      refine wpAnyH_take (i := 20) (v := .slice a10 pk.length k10) rfl (by kernel_rfl) (by kernel_rfl) (by kernel_rfl) (fun _ _ _ h => h) (.inl ⟨by rfl, by intro w hw; go_simp⟩) s0 ?_
      try simp only [Act.put, List.getElem_toArray, List.getElem_cons_zero, List.getElem_cons_succ, List.setIfInBounds_toArray, List.set_cons_zero, List.set_cons_succ]
      refine wpAnyH_take (i := 22) (v := .string ⟨pk.toArray⟩) rfl (by kernel_rfl) (by kernel_rfl) (by kernel_rfl) (fun _ _ _ h => h) (.inl ⟨by rfl, by intro w hw; go_simp⟩) s0 ?_
      try simp only [Act.put, List.getElem_toArray, List.getElem_cons_zero, List.getElem_cons_succ, List.setIfInBounds_toArray, List.set_cons_zero, List.set_cons_succ]
      refine wpAnyH_take (i := 21) (v := .string ⟨pk.toArray⟩) rfl (by kernel_rfl) (by kernel_rfl) (by kernel_rfl) (fun _ _ _ h => h) (.inl ⟨by rfl, by intro w hw; have h := h10.out w hw; go_simp⟩) s0 ?_
      try simp only [Act.put, List.getElem_toArray, List.getElem_cons_zero, List.getElem_cons_succ, List.setIfInBounds_toArray, List.set_cons_zero, List.set_cons_succ]
      refine wpAnyH_take (i := 23) (v := .bool true) rfl (by kernel_rfl) (by kernel_rfl) (by kernel_rfl) (fun _ _ _ h => h) (.inl ⟨by rfl, by intro w hw; go_simp⟩) s0 ?_
      try simp only [Act.put, List.getElem_toArray, List.getElem_cons_zero, List.getElem_cons_succ, List.setIfInBounds_toArray, List.set_cons_zero, List.set_cons_succ]
      refine wpAnyH_take (i := 24) (v := .bool true) rfl (by kernel_rfl) (by kernel_rfl) (by kernel_rfl) (fun _ _ _ h => h) (.inl ⟨by rfl, by intro w hw; go_simp⟩) s0 ?_
      try simp only [Act.put, List.getElem_toArray, List.getElem_cons_zero, List.getElem_cons_succ, List.setIfInBounds_toArray, List.set_cons_zero, List.set_cons_succ]
      refine wpAnyH_take (i := 25) (v := .bool true) rfl (by kernel_rfl) (by kernel_rfl) (by kernel_rfl) (fun _ _ _ h => h) (.inl ⟨by rfl, by intro w hw; go_simp⟩) s0 ?_
      try simp only [Act.put, List.getElem_toArray, List.getElem_cons_zero, List.getElem_cons_succ, List.setIfInBounds_toArray, List.set_cons_zero, List.set_cons_succ]
      refine wpAnyH_take (i := 26) (v := .slice a11 zero32.length k11) rfl (by kernel_rfl) (by kernel_rfl) (by kernel_rfl) (fun _ _ _ h => h) (.inl ⟨by rfl, by intro w hw; go_simp⟩) s0 ?_
      try simp only [Act.put, List.getElem_toArray, List.getElem_cons_zero, List.getElem_cons_succ, List.setIfInBounds_toArray, List.set_cons_zero, List.set_cons_succ]
      refine wpAnyH_take (i := 27) (v := .string ⟨zero32.toArray⟩) rfl (by kernel_rfl) (by kernel_rfl) (by kernel_rfl) (fun _ _ _ h => h) (.inl ⟨by rfl, by intro w hw; have h := h11.out w hw; go_simp⟩) s0 ?_
      try simp only [Act.put, List.getElem_toArray, List.getElem_cons_zero, List.getElem_cons_succ, List.setIfInBounds_toArray, List.set_cons_zero, List.set_cons_succ]
      refine wpAnyH_one (i := 28) (by kernel_rfl) rfl (by rfl) (fun Kc hK => ?_)
      go_simp
      refine hK _ _ s1 ?_
      clear hK Kc
      try simp only [Act.put, List.getElem_toArray, List.getElem_cons_zero, List.getElem_cons_succ, List.setIfInBounds_toArray, List.set_cons_zero, List.set_cons_succ]
      refine wpAnyH_one (i := 29) (by kernel_rfl) rfl (by rfl) (fun Kc hK => ?_)
      go_simp
      refine hK _ _ s1 ?_
      clear hK Kc
      try simp only [Act.put, List.getElem_toArray, List.getElem_cons_zero, List.getElem_cons_succ, List.setIfInBounds_toArray, List.set_cons_zero, List.set_cons_succ]
      refine wpAnyH_take (i := 30) (v := .bool true) rfl (by kernel_rfl) (by kernel_rfl) (by kernel_rfl) (fun _ _ _ h => h) (.inl ⟨by rfl, by intro w hw; go_simp⟩) s1 ?_
      try simp only [Act.put, List.getElem_toArray, List.getElem_cons_zero, List.getElem_cons_succ, List.setIfInBounds_toArray, List.set_cons_zero, List.set_cons_succ]
      refine wpAnyH_take (i := 31) (v := .bool true) rfl (by kernel_rfl) (by kernel_rfl) (by kernel_rfl) (fun _ _ _ h => h) (.inl ⟨by rfl, by intro w hw; go_simp⟩) s1 ?_
      try simp only [Act.put, List.getElem_toArray, List.getElem_cons_zero, List.getElem_cons_succ, List.setIfInBounds_toArray, List.set_cons_zero, List.set_cons_succ]
      refine wpAnyH_take (i := 32) (v := .bool true) rfl (by kernel_rfl) (by kernel_rfl) (by kernel_rfl) (fun _ _ _ h => h) (.inl ⟨by rfl, by intro w hw; go_simp⟩) s1 ?_
      try simp only [Act.put, List.getElem_toArray, List.getElem_cons_zero, List.getElem_cons_succ, List.setIfInBounds_toArray, List.set_cons_zero, List.set_cons_succ]
      refine wpAnyH_take (i := 33) (v := .int .i64 (m : Nat)) rfl (by kernel_rfl) (by kernel_rfl) (by kernel_rfl) (fun _ _ _ h => h) (.inl ⟨by rfl, by intro w hw; go_simp⟩) s1 ?_
      try simp only [Act.put, List.getElem_toArray, List.getElem_cons_zero, List.getElem_cons_succ, List.setIfInBounds_toArray, List.set_cons_zero, List.set_cons_succ]
      refine wpAnyH_take (i := 34) (v := .int .i64 (m : Nat)) rfl (by kernel_rfl) (by kernel_rfl) (by kernel_rfl) (fun _ _ _ h => h) (.inl ⟨by rfl, by intro w hw; go_simp⟩) s1 ?_
      try simp only [Act.put, List.getElem_toArray, List.getElem_cons_zero, List.getElem_cons_succ, List.setIfInBounds_toArray, List.set_cons_zero, List.set_cons_succ]
      refine wpAnyH_take (i := 35) (v := .bool true) rfl (by kernel_rfl) (by kernel_rfl) (by kernel_rfl) (fun _ _ _ h => h) (.inl ⟨by rfl, by intro w hw; go_simp⟩) s1 ?_
      try simp only [Act.put, List.getElem_toArray, List.getElem_cons_zero, List.getElem_cons_succ, List.setIfInBounds_toArray, List.set_cons_zero, List.set_cons_succ]
      refine wpAnyH_take (i := 36) (v := .bool true) rfl (by kernel_rfl) (by kernel_rfl) (by kernel_rfl) (fun _ _ _ h => h) (.inl ⟨by rfl, by intro w hw; go_simp⟩) s1 ?_
      try simp only [Act.put, List.getElem_toArray, List.getElem_cons_zero, List.getElem_cons_succ, List.setIfInBounds_toArray, List.set_cons_zero, List.set_cons_succ]
      refine wpAnyH_take (i := 37) (v := .bool true) rfl (by kernel_rfl) (by kernel_rfl) (by kernel_rfl) (fun _ _ _ h => h) (.inl ⟨by rfl, by intro w hw; go_simp⟩) s1 ?_
      try simp only [Act.put, List.getElem_toArray, List.getElem_cons_zero, List.getElem_cons_succ, List.setIfInBounds_toArray, List.set_cons_zero, List.set_cons_succ]
      refine wpAnyH_take (i := 38) (v := .pointer (some ⟨B, 0, none⟩)) rfl (by kernel_rfl) (by kernel_rfl) (by kernel_rfl) (fun _ _ _ h => h) (.inl ⟨by rfl, by intro w hw; go_simp⟩) s1 ?_
      try simp only [Act.put, List.getElem_toArray, List.getElem_cons_zero, List.getElem_cons_succ, List.setIfInBounds_toArray, List.set_cons_zero, List.set_cons_succ]
      refine wpAnyH_one (i := 39) (by kernel_rfl) rfl (by rfl) (fun Kc hK => ?_)
      go_simp
      refine (pending_any (DZ.out.below (below_alloc Z _))).mono ?_
      rintro en wz ⟨rfl, rfl⟩
      rw [show (kA [pad f, bz, zero32] [] 4 1).pend.length = 0 from rfl]
      go_simp
      refine hK _ _ s1 ?_
      clear hK Kc
      try simp only [Act.put, List.getElem_toArray, List.getElem_cons_zero, List.getElem_cons_succ, List.setIfInBounds_toArray, List.set_cons_zero, List.set_cons_succ]
      refine wpAnyH_take (i := 40) (v := .bool true) rfl (by kernel_rfl) (by kernel_rfl) (by kernel_rfl) (fun _ _ _ h => h) (.inl ⟨by rfl, by intro w hw; go_simp⟩) s1 ?_
      try simp only [Act.put, List.getElem_toArray, List.getElem_cons_zero, List.getElem_cons_succ, List.setIfInBounds_toArray, List.set_cons_zero, List.set_cons_succ]
      refine wpAnyH_take (i := 41) (v := .bool true) rfl (by kernel_rfl) (by kernel_rfl) (by kernel_rfl) (fun _ _ _ h => h) (.inl ⟨by rfl, by intro w hw; go_simp⟩) s1 ?_
      try simp only [Act.put, List.getElem_toArray, List.getElem_cons_zero, List.getElem_cons_succ, List.setIfInBounds_toArray, List.set_cons_zero, List.set_cons_succ]
      refine wpAnyH_take (i := 42) (v := .bool true) rfl (by kernel_rfl) (by kernel_rfl) (by kernel_rfl) (fun _ _ _ h => h) (.inl ⟨by rfl, by intro w hw; go_simp⟩) s1 ?_
      try simp only [Act.put, List.getElem_toArray, List.getElem_cons_zero, List.getElem_cons_succ, List.setIfInBounds_toArray, List.set_cons_zero, List.set_cons_succ]
      refine wpAnyH_done (by kernel_rfl) ?_ _
      go_wp2
      go_ret
      exact ⟨rfl, BZ.out.alloc BZ.out.size _⟩
end Go.Proofs.Ytopemjbakpahfaa
