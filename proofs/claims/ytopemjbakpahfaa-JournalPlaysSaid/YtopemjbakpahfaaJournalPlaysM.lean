/-
  Contracts and plain laws, part 28 (texts: OpenF, TornL, JDo, Do2). No condition but what each states.
-/
import Derived.Test.YtopemjbakpahfaaJournalPlaysL
/-
  Opening an argument of a law: a row of numbers. No condition.
-/
namespace Go.Proofs.Ytopemjbakpahfaa
open Go.ChangeShapes Go.WideShapes Go.ChangeAt Go.RowKit Go.Deep
section
variable {H : Type} {enc : TypeId × Value → H} {P : Program} {w : World} {base : Nat} {spare : Nat → Bool} {held : Bool}
theorem open_nums {r : Reach} {b0 : Nat} {t e : TypeId} {v : Value} {d : DataW H} {p : List MemPlace} (ht : P.underlying t = some (.slice e)) (he : P.underlying e = some (.int .i64)) (hE : P.cellsOf e = 1)
    (hv : Value.okWide P w r b0 t v) (h : DataW.Trod enc P w 0 (fun _ => true) held t v d p) :
    ∃ (l : List Int) (a : Option Addr) (cap : Nat), v = .slice a l.length cap ∧ l.length ≤ cap ∧ cap ≤ maxLen ∧ (a = none → cap = 0) ∧ RI w a l ∧ ∀ x ∈ l, -9223372036854775808 ≤ x ∧ x ≤ 9223372036854775807 := by
  obtain ⟨a0, len0, cap0, rfl⟩ := okWide_slice ht hv
  obtain ⟨fuel, hf⟩ := h
  rcases open_ints ht he hE hf with ⟨hcs, _⟩ | ⟨x, l, c, zs, hcs, _, hl, hm, hz, _, hcell, hwz⟩
  · simp [Value.cells] at hcs
    obtain ⟨rfl, rfl, rfl⟩ := hcs
    exact ⟨[], none, 0, rfl, Nat.le_refl _, Nat.zero_le _, fun _ => rfl, fun i hi => absurd hi (by simp), fun x hx => by simp at hx⟩
  · simp [Value.cells] at hcs
    obtain ⟨rfl, rfl, rfl⟩ := hcs
    have hz : zs.length = cap0 := by simpa using hz
    have hlen : (zs.take len0).length = len0 := by simp; omega
    refine ⟨zs.take len0, some x, cap0, by rw [hlen], by omega, hm, fun e => (by cases e), ?_, fun y hy => wf_i64 (hwz y (List.mem_of_mem_take hy))⟩
    intro i hi
    rw [hlen] at hi
    have h0 := hcell 0 (by omega)
    obtain ⟨g, off, spot⟩ := x
    have hspot : spot = none := by simpa [Addr.add] using World.cell?_spot h0
    subst hspot
    refine ⟨g, off, rfl, World.block_lt_of_cell? w _ h0, ?_⟩
    have h := hcell i (by omega)
    rw [Addr.add_lit] at h
    rw [h]
    simp [List.getD, hi]
end
end Go.Proofs.Ytopemjbakpahfaa
/-
  JournalTorn: the plain law and the walk, for all places, bytes, stops and sectors that are kept. No condition.
-/
namespace Go.Proofs.Ytopemjbakpahfaa
open Go.RowKit Disk Jour
theorem overs_cases (k : Nat) : ∀ (ps : List (Nat × List UInt8)) (s : List UInt8), ps.foldl (over k) s = s ∨ ∃ q ∈ ps, q.1 = k ∧ ps.foldl (over k) s = q.2 := by
  intro ps
  induction ps with
  | nil => intro s; exact .inl rfl
  | cons p ps ih =>
    intro s
    rw [List.foldl_cons]
    rcases ih (over k s p) with h | ⟨q, hq, h1, h2⟩
    · rw [h]
      unfold over
      by_cases hp : p.1 = k
      · exact .inr ⟨p, by simp, hp, by rw [if_pos hp]⟩
      · exact .inl (by rw [if_neg hp])
    · exact .inr ⟨q, by simp [hq], h1, h2⟩
/-- What a place is to hold. -/
def wantB (was : List UInt8) (p : Nat) (b : List UInt8) (i : Nat) : UInt8 := if (p ≤ i ∧ i < p + b.length) ∧ p + b.length ≤ 256 then b.getD (i - p) 0 else was.getD i 0
def tornD (d : Dev) (stop : Int) (p : Nat) (b : List UInt8) (keep : List Int) : Dev := ((jput (d.arm stop) 0 8 p b).1.restart keep).1
theorem jput_bound (d : Dev) (first N : Nat) (p : Int) (b : List UInt8) : (jput d first N p b).1.pend.length ≤ d.pend.length + b.length ∧ (jput d first N p b).1.kept = d.kept ∧ (jput d first N p b).1.writes ≤ d.writes + b.length ∧ (jput d first N p b).1.syncs = d.syncs := by
  unfold jput
  split
  · exact ⟨Nat.le_add_right _ _, rfl, Nat.le_add_right _ _, rfl⟩
  · split
    · have h := putParts_bound b (parts (32 * first + p.toNat) b.length b.length 0) d
      have h2 := parts_length (32 * first + p.toNat) b.length b.length 0
      exact ⟨by omega, h.2.2.2, by omega, h.2.2.1⟩
    · exact ⟨Nat.le_add_right _ _, rfl, Nat.le_add_right _ _, rfl⟩
theorem torn {d : Dev} {M : Nat} (u : Up d 8 M) (hp0 : d.pend = []) (stop : Int) (p : Nat) (b : List UInt8) (keep : List Int) :
    (tornD d stop p b keep).ok ∧ (tornD d stop p b keep).down = false ∧ (tornD d stop p b keep).kept.length = 8 ∧ ∀ s, s < 8 →
      (∀ j, j < 32 → byte (tornD d stop p b keep) (32 * s + j) = byte d (32 * s + j)) ∨ (∀ j, j < 32 → byte (tornD d stop p b keep) (32 * s + j) = wantB (Jour.bytes d 0 256) p b (32 * s + j)) := by
  obtain ⟨e, he⟩ : ∃ e, d.arm stop = e := ⟨_, rfl⟩
  have hek : e.kept = d.kept := by rw [← he]; rfl
  have hep : e.pend = [] := by rw [← he]; exact hp0
  have hed : e.down = false := by rw [← he]; exact u.down
  have heo : e.ok := by rw [← he]; exact u.ok
  have hby : ∀ x, byte e x = byte d x := fun x => by unfold byte Dev.sector; rw [hek, hep, hp0]
  have hkl : e.kept.length = 8 := by rw [hek]; exact u.kept
  unfold tornD
  rw [he]
  obtain ⟨f, hf⟩ : ∃ f, (jput e 0 8 p b).1 = f := ⟨_, rfl⟩
  rw [hf]
  have key : f.ok ∧ f.kept = e.kept ∧ ∀ q ∈ f.pend, (roomB 8 p b.length = true ∧ fresh e p b q) := by
    rw [← hf]
    unfold jput
    rw [if_neg (by omega)]
    by_cases hr : roomB 8 p b.length = true
    · rw [if_pos hr, Int.toNat_natCast, Nat.mul_zero, Nat.zero_add]
      have hrm := (roomB_iff _ _ _).1 hr
      have hA : p + b.length ≤ 32 * e.kept.length := by rw [hkl]; omega
      have fin : ∀ {d' : Dev} {k : Nat}, PutInv e d' p b k → d'.ok ∧ d'.kept = e.kept ∧ ∀ q ∈ d'.pend, (roomB 8 p b.length = true ∧ fresh e p b q) := fun h => by
        obtain ⟨qs, h1, h2⟩ := h.pend
        rw [hep, List.nil_append] at h1
        exact ⟨h.ok, h.kept, fun q hq => ⟨hr, h2 q (by rw [← h1]; exact hq)⟩⟩
      rcases put_all hA b.length 0 e (by omega) (Nat.zero_le _) (PutInv.start heo _ _) hed with ⟨_, _, h3, _⟩ | ⟨_, _, _, k, h3⟩
      · exact fin h3
      · exact fin h3
    · rw [if_neg hr]
      exact ⟨heo, rfl, fun q hq => by rw [hep] at hq; simp at hq⟩
  obtain ⟨k1, k2, k3⟩ := key
  have hrk : (f.restart keep).1.kept = (sel keep 0 f.pend).foldl put f.kept := rfl
  refine ⟨restart_ok k1 keep, rfl, by rw [hrk, puts_length, k2]; exact hkl, fun s hs => ?_⟩
  have hsec : (f.restart keep).1.sector s = (sel keep 0 f.pend).foldl (over s) (e.kept.getD s []) := by
    unfold Dev.sector
    rw [hrk, puts_get s _ _ (by rw [k2, hkl]; exact hs), k2]
    rfl
  have hes : e.sector s = e.kept.getD s [] := by unfold Dev.sector; rw [hep]; rfl
  have hb5 : ∀ j, j < 32 → byte (f.restart keep).1 (32 * s + j) = ((f.restart keep).1.sector s).getD j 0 := fun j hj => by
    unfold byte; rw [show (32 * s + j) / 32 = s by omega, show (32 * s + j) % 32 = j by omega]
  have hbe : ∀ j, j < 32 → byte d (32 * s + j) = (e.sector s).getD j 0 := fun j hj => by
    rw [← hby]; unfold byte; rw [show (32 * s + j) / 32 = s by omega, show (32 * s + j) % 32 = j by omega]
  rcases overs_cases s (sel keep 0 f.pend) (e.kept.getD s []) with h | ⟨q, hq, h1, h2⟩
  · left
    intro j hj
    rw [hb5 j hj, hbe j hj, hsec, h, hes]
  · right
    intro j hj
    obtain ⟨hr, hfr⟩ := k3 q (sel_sub _ _ _ _ hq)
    have hrm := (roomB_iff _ _ _).1 hr
    rw [hb5 j hj, hsec, h2, hfr j hj, h1]
    unfold wantB
    by_cases hc : p ≤ 32 * s + j ∧ 32 * s + j < p + b.length
    · rw [if_pos hc, if_pos ⟨hc, by omega⟩]
    · rw [if_neg hc, if_neg (fun h => hc h.1), bytes_get _ _ _ _ (by omega), hby, Nat.zero_add]
/-- Are the first bytes of a sector like these? -/
def likeB (now like : Nat → UInt8) (s j : Nat) : Bool := (List.range j).all (fun t => now (32 * s + t) == like (32 * s + t))
theorem likeB_zero (now like : Nat → UInt8) (s : Nat) : likeB now like s 0 = true := rfl
theorem likeB_succ (now like : Nat → UInt8) (s j : Nat) : likeB now like s (j + 1) = (likeB now like s j && (now (32 * s + j) == like (32 * s + j))) := by
  unfold likeB
  rw [List.range_succ, List.all_append]
  simp
theorem likeB_all {now like : Nat → UInt8} {s n : Nat} (h : ∀ j, j < n → now (32 * s + j) = like (32 * s + j)) : likeB now like s n = true := by
  unfold likeB
  rw [List.all_eq_true]
  intro t ht
  rw [h t (List.mem_range.1 ht)]
  simp
set_option maxRecDepth 100000 in
set_option maxHeartbeats 8000000 in
theorem jtorn_law (p : Int) (b : List UInt8) (a : Option Addr) (cap : Nat) (c : List UInt8) (ac : Option Addr) (cc : Nat) (stop : Int) (K : List Int) (ak : Option Addr) (ck : Nat) (W : World) (hst : stop ≤ 9223372036854775807)
    (hlc : b.length ≤ cap) (hn : a = none → cap = 0) (hr : RB W a b) (hlo : c.length ≤ cc) (hno : ac = none → cc = 0) (hro : RB W ac c) (hrk : RI W ak K) :
    Calls Try.prog 17 #[.int .i64 p, .slice a b.length cap, .slice ac c.length cc, .int .i64 stop, .slice ak K.length ck] W (Yes W) := by
  have HR := Lib.hid hr
  have HRO := Lib.hid hro
  have HRK := Lib.hid hrk
  have HN : Hid (a = none → b = []) := fun e => List.eq_nil_of_length_eq_zero (by have := hn e; omega)
  have HNO : Hid (ac = none → c = []) := fun e => List.eq_nil_of_length_eq_zero (by have := hno e; omega)
  clear hr hn hro hno hrk
  go_enter Try.func17, Try.ntmps17
  go_wp2_with fail
  refine (jsmall_any _).mono ?_
  rintro en w1 ⟨rfl, B1⟩
  go_wp2_with fail
  refine (new_any w1 8).mono ?_
  rintro en w2 ⟨X, rfl, b2, hX, D1⟩
  rw [show sizeOfDev 8 = 8 by decide +kernel] at D1
  have B2 := B1.trans (b2.mono B1.size)
  by_cases h1 : 200 < (b.length : Int)
  · go_wp2
    go_ret
    exact ⟨rfl, B2⟩
  by_cases h2 : 200 < (c.length : Int)
  · go_wp2
    go_ret
    exact ⟨rfl, B2⟩
  by_cases h3 : p < 0
  · go_wp2
    go_ret
    exact ⟨rfl, B2⟩
  by_cases h4 : 200 < p
  · go_wp2
    go_ret
    exact ⟨rfl, B2⟩
  by_cases h5 : 30 < (K.length : Int)
  · go_wp2
    go_ret
    exact ⟨rfl, B2⟩
  obtain ⟨q, rfl⟩ : ∃ q : Nat, p = (q : Int) := ⟨p.toNat, by omega⟩
  have hs1 := B1.size
  have U0 := Lib.hid (Up.new 8)
  obtain ⟨F1, hF1⟩ : ∃ F : Nat → Prop, (fun k => w1.heap.size ≤ k ∧ k < w2.heap.size) = F := ⟨_, rfl⟩
  have G1 : Hid (∀ k, F1 k → W.heap.size ≤ k) := by rw [← hF1]; exact fun k hk => by omega
  rw [hF1] at D1
  clear hF1
  generalize Dev.new 8 = d0 at D1 U0
  have hk0 : d0.kept.length = 8 := U0.out.kept
  have hp0 : d0.pend.length ≤ 0 := U0.out.pend
  have hw0 : d0.writes ≤ 0 := U0.out.writes
  have hof := of_any D1 (by omega) 0 8 (by omega)
  rw [hk0, show asize 0 8 8 = 8 by decide +kernel] at hof
  have HOF : Hid (Calls Try.prog 52 #[.pointer (some ⟨X, 0, none⟩), .int .i64 0, .int .i64 8] w2 (OfOf w2 X 0 8)) := Lib.hid hof
  clear hof
  go_wp2_with fail
  refine HOF.out.mono ?_
  rintro en w3 ⟨A, rfl, b3, hA, I3⟩
  have D3 := D1.below b3
  have B3 := B2.trans (b3.mono B2.size)
  have nA : ¬ F1 A := fun h => by have := D1.lt A h; omega
  clear HOF D1 b3 B2
  obtain ⟨u1, z1, _⟩ := put_up U0.out (first := 0) (N := 8) (.inr (by omega)) 0 c
  have hz1 : (jput d0 0 8 0 c).2 = 0 := z1.2 ((roomB_iff _ _ _).2 (by omega))
  have hq := u1.pend
  have hqw := u1.writes
  have hqs := u1.syncs
  have U1 := Lib.hid u1
  have Z1 := Lib.hid hz1
  have hq' : (jput d0 0 8 0 c).1.pend.length ≤ 1000 := by omega
  have hqw' : (jput d0 0 8 0 c).1.writes ≤ 1000 := by omega
  have hqs' : (jput d0 0 8 0 c).1.syncs ≤ 1000 := by omega
  clear u1 z1 hz1 hq hqw hqs
  go_wp2_with fail
  refine (put_any D3 I3 nA 0 c ac cc HNO.out hlo (fun w' hf => HRO.out.below (B3.trans (hf.below G1.out B3.size))) (by omega) (by omega) (.inr (by omega))).mono ?_
  intro en w4 h4
  have f4 := h4.2.1
  have I4 := I3.frm f4 nA
  obtain ⟨rfl, _, b4, F4, D4, g4, n4⟩ := h4.out G1.out B3.size
  have B4 := B3.trans b4
  have nA4 : ¬ F4 A := fun h => (n4 A h).elim nA (fun h => by have := I3.lt; omega)
  have G4 := Lib.hid g4
  rw [Z1.out]
  clear h4 b4 g4 n4 f4 D3 I3 B3 nA G1 Z1 hp0 hw0 hk0 U0
  generalize (jput d0 0 8 0 c).1 = d1 at D4 U1 hq' hqw' hqs'
  go_wp2_with fail
  refine (sync_any D4 (by omega) (by omega)).mono ?_
  intro en w5 h5
  rw [sync_ok_at U1.out.down (by rw [U1.out.armed]; decide)] at h5
  have f5 := h5.2.1
  have I5 := I4.frm f5 nA4
  obtain ⟨rfl, _, b5, F5, D5, g5, n5⟩ := h5.out G4.out B4.size
  have B5 := B4.trans b5
  have nA5 : ¬ F5 A := fun h => (n5 A h).elim nA4 (fun h => by have := I4.lt; omega)
  have G5 := Lib.hid g5
  obtain ⟨d2, hd2⟩ : ∃ d2 : Dev, d2 = { d1.step with kept := d1.pend.foldl put d1.kept, pend := [], syncs := d1.syncs + 1 } := ⟨_, rfl⟩
  rw [← hd2] at D5
  have u2 : Up d2 8 2000 := by
    refine ⟨D5.ok, ?_, ?_, ?_, ?_, ?_, ?_⟩
    · rw [hd2]; exact decide_eq_false (by rw [U1.out.armed]; decide)
    · rw [hd2]; show d1.armed - 1 = 0; rw [U1.out.armed]
    · rw [hd2]; show (List.foldl put d1.kept d1.pend).length = 8; rw [puts_length]; exact U1.out.kept
    · rw [hd2]; exact Nat.zero_le _
    · rw [hd2]; show d1.writes ≤ _; omega
    · rw [hd2]; show d1.syncs + 1 ≤ _; omega
  have hd2p : d2.pend = [] := by rw [hd2]
  have U2 := Lib.hid u2
  have HP2 := Lib.hid hd2p
  have hp2 : d2.pend.length ≤ 0 := by rw [hd2p]; exact Nat.le_refl _
  have hw2 : d2.writes ≤ 2000 := u2.writes
  clear hd2p u2 hd2 h5 b5 g5 n5 f5 D4 I4 B4 nA4 G4 U1 hq' hqw' hqs'
  go_wp2_with fail
  refine (size_any I5).mono ?_
  rintro en w6 ⟨rfl, rfl⟩
  have hg := get_any D5 I5 0 256 (by omega) (.inr (by omega))
  have hgu := get_up U2.out (first := 0) (N := 8) (.inr (by omega))
  have hgu : jget d2 0 8 0 256 = (Jour.bytes d2 0 256, 0) := hgu
  rw [hgu] at hg
  have TORN := Lib.hid (torn U2.out HP2.out stop q b K)
  have hbg : ∀ i, i < 256 → (Jour.bytes d2 0 256).getD i 0 = byte d2 i := fun i hi => by rw [bytes_get _ _ _ _ hi, Nat.zero_add]
  have BG := Lib.hid hbg
  have hwl : (Jour.bytes d2 0 256).length = 256 := bytes_length _ _ _
  have HG := Lib.hid hg
  clear hg hgu hbg
  generalize Jour.bytes d2 0 256 = was at TORN BG hwl HG
  have WL := Lib.hid hwl
  clear hwl
  go_wp2_with fail
  refine HG.out.mono ?_
  rintro en w6 ⟨b6, v6, rfl, o6⟩
  have D6 := D5.below b6
  have I6 := I5.below b6
  have B6 := B5.trans (b6.mono B5.size)
  have KW := Lib.hid (fun k hk => (o6.lt k hk))
  have L5 := Lib.hid D5.lt
  have O6 := Lib.hid o6
  clear D5 I5 B5 b6 o6 HG
  go_wp2_with fail
  refine (arm_any D6 stop hst).mono ?_
  rintro en w7 ⟨⟨u7, rfl⟩, f7, D7⟩
  have I7 := I6.frm f7 nA5
  have b7 := f7.below G5.out B6.size
  have B7 := B6.trans b7
  have o7 := owns_block O6.out (B := w7) (fun k hk => f7.block k (KW.out k hk).2 (fun hF => by have h1 := L5.out k hF; have h2 := (KW.out k hk).1; omega))
  have O7 := Lib.hid o7
  have hs7 := f7.size
  obtain ⟨e, he⟩ : ∃ e, d2.arm stop = e := ⟨_, rfl⟩
  have hep : e.pend.length ≤ 0 := by rw [← he]; exact hp2
  have hew : e.writes ≤ 2000 := by rw [← he]; exact hw2
  unfold tornD at TORN
  rw [he] at D7 TORN
  clear he o7 b7 f7 D6 I6 B6 O6
  have hjb := jput_bound e 0 8 q b
  go_wp2_with fail
  refine (put_any D7 I7 nA5 (q : Int) b a cap HN.out hlc (fun w' hf => HR.out.below (B7.trans (hf.below G5.out B7.size))) (by omega) (by omega) (.inr (by omega))).mono ?_
  intro en w8 h8
  have f8 := h8.2.1
  have I8 := I7.frm f8 nA5
  obtain ⟨rfl, _, b8, F8, D8, g8, n8⟩ := h8.out G5.out B7.size
  have B8 := B7.trans b8
  have nA8 : ¬ F8 A := fun h => (n8 A h).elim nA5 (fun h => by have := I7.lt; omega)
  have G8 := Lib.hid g8
  have N8 := Lib.hid n8
  have hs8 := f8.size
  have hs67 := L5.out
  have o8 := owns_block O7.out (B := w8) (fun k hk => f8.block k (by have := (KW.out k hk).2; omega) (fun hF => by have h1 := hs67 k hF; have h2 := (KW.out k hk).1; omega))
  have O8 := Lib.hid o8
  have hjp : (jput e 0 8 (q : Int) b).1.pend.length ≤ 1000 := by have := hjb.1; omega
  clear h8 b8 g8 n8 f8 D7 I7 B7 O7 o8 hs67 hjb
  generalize (jput e 0 8 (q : Int) b).2 = bad
  generalize (jput e 0 8 (q : Int) b).1 = g at D8 TORN hjp
  go_wp2_with fail
  refine (restart_any D8 (by omega) K ak ck (by omega) (fun w' hf => HRK.out.below (B8.trans (hf.below G8.out B8.size)))).mono ?_
  intro en w9 h9
  have f9 := h9.2.1
  have I9 := I8.frm f9 nA8
  obtain ⟨rfl, _, b9, F9, D9, g9, n9⟩ := h9.out G8.out B8.size
  have B9 := B8.trans b9
  have o9 := owns_block O8.out (B := w9) (fun k hk => f9.block k (by have := (KW.out k hk).2; omega) (fun hF => by
    have h2 := KW.out k hk
    rcases N8.out k hF with h1 | h1
    · have := L5.out k h1; omega
    · omega))
  have O9 := Lib.hid o9
  have hrp : (g.restart K).1.pend = [] := rfl
  generalize (g.restart K).2 = cnt
  generalize (g.restart K).1 = t at D9 TORN hrp
  have htp : t.pend.length ≤ 0 := by rw [hrp]; exact Nat.le_refl _
  obtain ⟨t1, t2, t3, t4⟩ := TORN.out
  have hg := get_any D9 I9 0 256 (by omega) (.inr (by omega))
  have hga := get_all t1 t2 (A := 0) (n := 256) (by omega) 256 0 (by omega) (by omega)
  have hgu : jget t 0 8 0 256 = (Jour.bytes t 0 256, 0) := by
    unfold jget
    rw [if_neg (by omega), if_pos (by decide)]
    exact hga
  rw [hgu] at hg
  have hbg : ∀ i, i < 256 → (Jour.bytes t 0 256).getD i 0 = byte t i := fun i hi => by rw [bytes_get _ _ _ _ hi, Nat.zero_add]
  have hnl : (Jour.bytes t 0 256).length = 256 := bytes_length _ _ _
  have HG := Lib.hid hg
  generalize Jour.bytes t 0 256 = now at hbg hnl HG
  have LAW : Hid (∀ s, s < 8 → (likeB (now.getD · 0) (was.getD · 0) s 32 || likeB (now.getD · 0) (wantB was q b) s 32) = true) := Lib.hid (fun s hs => by
    rcases t4 s hs with h | h
    · rw [likeB_all (fun j hj => by rw [hbg _ (by omega), h j hj, BG.out _ (by omega)])]; rfl
    · rw [likeB_all (like := wantB was q b) (fun j hj => by rw [hbg _ (by omega), h j hj]), Bool.or_true])
  have NL := Lib.hid hnl
  clear hg hga hgu hbg hnl TORN t1 t2 t3 t4 BG hrp h9 b9 g9 n9 f9 D8 I8 B8 O8 o9 N8 KW L5 G5
  go_wp2_with fail
  refine (size_any I9).mono ?_
  rintro en w10 ⟨rfl, rfl⟩
  go_wp2_with fail
  refine HG.out.mono ?_
  rintro en w10 ⟨b10, v10, rfl, o10⟩
  have B10 := B9.trans (b10.mono B9.size)
  obtain ⟨a6, c6, rfl, _, _, r6⟩ := RB.of_owns (owns_below O9.out b10)
  obtain ⟨a10, c10, rfl, _, _, r10⟩ := RB.of_owns o10
  have R6 := Lib.hid r6
  have R10 := Lib.hid r10
  have RB10 := Lib.hid (HR.out.below B10)
  have e6 : (was, (0 : Int)).1.length = 256 := WL.out
  have e10 : (now, (0 : Int)).1.length = 256 := NL.out
  rw [e6, e10]
  clear e6 e10 b10 o10 r6 r10 HG O9 D9 I9 B9
  go_wp2_with fail
  go_loopw [18] (fun sv wr => ∃ s : Nat, sv = .int .i64 s ∧ s ≤ 8 ∧ Below w10.heap.size w10 wr) (fun sv _ => 8 - (intOf sv).toNat)
  case atStart => exact ⟨0, rfl, by omega, Below.refl _ _⟩
  case round =>
    obtain ⟨s, rfl, hs, bw⟩ := hrel
    have BW := Lib.hid bw
    clear bw
    by_cases hlt : s < 8
    · have hsi : (s : Int) < 8 := by omega
      have hs0 : (0 : Int) ≤ (s : Int) := by omega
      have LS := Lib.hid (LAW.out s hlt)
      go_wp2_with fail
      go_loopw [19, 20, 21] (fun ov fv iv wr => ∃ j : Nat, iv = .int .i64 (32 * (s : Int) + (j : Int)) ∧ j ≤ 32 ∧ ov = .bool (likeB (now.getD · 0) (was.getD · 0) s j) ∧ fv = .bool (likeB (now.getD · 0) (wantB was q b) s j) ∧ Below w10.heap.size w10 wr)
        (fun _ _ iv _ => (32 * s + 32) - (intOf iv).toNat)
      case atStart => exact ⟨0, by simp, by omega, by rw [likeB_zero], by rw [likeB_zero], BW.out⟩
      case round =>
        obtain ⟨j, rfl, hj, rfl, rfl, bw⟩ := hrel
        have BW2 := Lib.hid bw
        clear bw
        by_cases hjl : j < 32
        · have hji : (j : Int) < 32 := by omega
          have hj0 : (0 : Int) ≤ (j : Int) := by omega
          have hx := likeB_succ (now.getD · 0) (was.getD · 0) s j
          have hy := likeB_succ (now.getD · 0) (wantB was q b) s j
          have H1 := Lib.hid hx
          have H2 := Lib.hid hy
          clear hx hy
          obtain ⟨n, hn⟩ : ∃ n : Nat, 32 * s + j = n := ⟨_, rfl⟩
          have hnI : 32 * (s : Int) + (j : Int) = (n : Int) := by omega
          have hn256 : n < 256 := by omega
          have hn0 : (0 : Int) ≤ (n : Int) := by omega
          have hni : (n : Int) < 256 := by omega
          obtain ⟨ga, oa, rfl, _, ea⟩ := (R10.out.below BW2.out) n (by rw [NL.out]; exact hn256)
          obtain ⟨gb, ob, rfl, _, eb⟩ := (R6.out.below BW2.out) n (by rw [WL.out]; exact hn256)
          rw [hnI]
          rw [hn] at H1 H2
          have HNI := Lib.hid hnI
          have HNE := Lib.hid hn
          clear hn hnI
          have WB : Hid (wantB was q b n = if (q ≤ n ∧ n < q + b.length) ∧ q + b.length ≤ 256 then b.getD (n - q) 0 else was.getD n 0) := rfl
          unfold byteV at ea eb
          generalize now.getD n 0 = x at ea H1 H2
          generalize was.getD n 0 = y at eb H1 WB
          generalize wantB was q b n = z at H2 WB
          generalize likeB (now.getD · 0) (was.getD · 0) s j = o0 at H1 ⊢
          generalize likeB (now.getD · 0) (wantB was q b) s j = f0 at H2 ⊢
          have hq0 : (0 : Int) ≤ (q : Int) := by omega
          have hnl32 : (n : Int) < 32 * (s : Int) + 32 := by have := HNI.out; omega
          have nxt : 32 * (s : Int) + (j : Int) + 1 = (n : Int) + 1 := by rw [HNI.out]
          have NXT := Lib.hid nxt
          clear nxt
          have hxy : (x == y) = ((x.toNat : Int) == (y.toNat : Int)) := by
            rw [Bool.eq_iff_iff]; simp [← UInt8.toNat_inj]; omega
          have hxz : (x == z) = ((x.toNat : Int) == (z.toNat : Int)) := by
            rw [Bool.eq_iff_iff]; simp [← UInt8.toNat_inj]; omega
          have HXY := Lib.hid hxy
          have HXZ := Lib.hid hxz
          clear hxy hxz
          by_cases c1 : (q : Int) ≤ (n : Int)
          · by_cases c2 : (n : Int) < (q : Int) + (b.length : Int)
            · by_cases c3 : (q : Int) + (b.length : Int) ≤ 256
              · have hz : z = b.getD (n - q) 0 := by rw [WB.out, if_pos (by omega)]
                obtain ⟨gc, oc, rfl, _, ec⟩ := (RB10.out.below BW2.out) (n - q) (by omega)
                unfold byteV at ec
                rw [← hz] at ec
                clear hz
                cases hb1 : ((x.toNat : Int) == (y.toNat : Int)) <;> cases hb2 : ((x.toNat : Int) == (z.toNat : Int)) <;> cases o0 <;> cases f0
                all_goals
                  have HB2 := hb2
                  go_wp2_with fail
                  go_quiet (fail)
                  go_wp2_with fail
                  go_roundw
                  case rel => exact ⟨j + 1, by rw [← NXT.out]; simp only [Value.int.injEq, true_and]; omega, by omega, by rw [H1.out, HXY.out, hb1]; rfl, by rw [H2.out, HXZ.out, HB2]; rfl, by first | exact BW2.out | exact below_drewN BW2.out _⟩
                  case measure => simp only [intOf]; have := HNI.out; omega
              · have hz : z = y := by rw [WB.out, if_neg (by omega)]
                subst hz
                cases hb1 : ((x.toNat : Int) == (z.toNat : Int)) <;> cases o0 <;> cases f0
                all_goals
                  have HB2 := hb1
                  go_wp2_with fail
                  go_quiet (fail)
                  go_wp2_with fail
                  go_roundw
                  case rel => exact ⟨j + 1, by rw [← NXT.out]; simp only [Value.int.injEq, true_and]; omega, by omega, by rw [H1.out, HXY.out, hb1]; rfl, by rw [H2.out, HXZ.out, HB2]; rfl, by first | exact BW2.out | exact below_drewN BW2.out _⟩
                  case measure => simp only [intOf]; have := HNI.out; omega
            · have hz : z = y := by rw [WB.out, if_neg (by omega)]
              subst hz
              cases hb1 : ((x.toNat : Int) == (z.toNat : Int)) <;> cases o0 <;> cases f0
              all_goals
                have HB2 := hb1
                go_wp2_with fail
                go_quiet (fail)
                go_wp2_with fail
                go_roundw
                case rel => exact ⟨j + 1, by rw [← NXT.out]; simp only [Value.int.injEq, true_and]; omega, by omega, by rw [H1.out, HXY.out, hb1]; rfl, by rw [H2.out, HXZ.out, HB2]; rfl, by first | exact BW2.out | exact below_drewN BW2.out _⟩
                case measure => simp only [intOf]; have := HNI.out; omega
          · have hz : z = y := by rw [WB.out, if_neg (by omega)]
            subst hz
            cases hb1 : ((x.toNat : Int) == (z.toNat : Int)) <;> cases o0 <;> cases f0
            all_goals
              have HB2 := hb1
              go_wp2_with fail
              go_quiet (fail)
              go_wp2_with fail
              go_roundw
              case rel => exact ⟨j + 1, by rw [← NXT.out]; simp only [Value.int.injEq, true_and]; omega, by omega, by rw [H1.out, HXY.out, hb1]; rfl, by rw [H2.out, HXZ.out, HB2]; rfl, by first | exact BW2.out | exact below_drewN BW2.out _⟩
              case measure => simp only [intOf]; have := HNI.out; omega
        · have hji : ¬ (j : Int) < 32 := by omega
          obtain rfl : j = 32 := by omega
          have ls := LS.out
          generalize likeB (now.getD · 0) (was.getD · 0) s 32 = o0 at ls ⊢
          generalize likeB (now.getD · 0) (wantB was q b) s 32 = f0 at ls ⊢
          cases o0 <;> cases f0
          · cases ls
          all_goals
            clear ls
            go_wp2_with fail
            go_roundw
            case rel => exact ⟨s + 1, rfl, by omega, BW2.out⟩
            case measure => simp only [intOf]; omega
    · have hsi : ¬ (s : Int) < 8 := by omega
      go_wp2
      go_ret
      exact ⟨rfl, B10.trans (BW.out.mono B10.size)⟩
end Go.Proofs.Ytopemjbakpahfaa
/-
  Areas of two devices side by side: Put, Get and Frames of either, where the other keeps. No condition but that the numbers are small.
-/
namespace Go.Proofs.Ytopemjbakpahfaa
open Go.RowKit Disk Jour Crc
/-- A block that stands in the row of kept blocks reads as these bytes. -/
def SrcB (L : List (Nat × Obj)) (a : Option Addr) (b : List UInt8) : Prop := ∃ p ∈ L, ∀ w' : World, w'.heap[p.1]? = some p.2 → RB w' a b
theorem SrcB.of (L : List (Nat × Obj)) {g : Nat} {b : List UInt8} (hm : (g, Obj.cells (b.map byteV).toArray 5 (0, 0)) ∈ L) : SrcB L (some ⟨g, 0, none⟩) b := ⟨_, hm, fun _ h => rb_block h⟩
theorem rb_same {w w' : World} {g off : Nat} {l : List UInt8} (h : RB w (some ⟨g, off, none⟩) l) (e : w'.heap[g]? = w.heap[g]?) : RB w' (some ⟨g, off, none⟩) l := by
  intro i hi
  obtain ⟨g', off', e1, h1, h2⟩ := h i hi
  cases e1
  refine ⟨g, off, rfl, ?_, (World.cell?_of_block e).trans h2⟩
  rw [Array.getElem?_eq_getElem h1] at e
  exact (Array.getElem?_eq_some_iff.1 e).1
theorem Half.add {F1 F2 : Nat → Prop} {w w1 w2 : World} {X Y : Nat} {L : List (Nat × Obj)} {d1 d2 : Dev} (h : Half F1 F2 w X Y L d1 d2 w1) (hb : Below w1.heap.size w1 w2) {g : Nat} {o : Obj} (hg : w1.heap.size ≤ g) (ho : w2.heap[g]? = some o) : Half F1 F2 w X Y ((g, o) :: L) d1 d2 w2 := by
  obtain ⟨hf, G1, G2, h1, h2, h3, h4, h5, h6⟩ := h
  refine ⟨hf.trans (Frm.of_below (F := fun k => F1 k ∨ F2 k) hb) (fun _ hk => .inl hk), G1, G2, h1.below hb, h2.below hb, h3, h4, h5, fun p hp => ?_⟩
  rcases List.mem_cons.1 hp with rfl | hp
  · exact ⟨ho, fun hk => by have := h1.lt _ hk; omega, fun hk => by have := h2.lt _ hk; omega⟩
  · obtain ⟨e1, e2⟩ := h6 p hp
    exact ⟨(hb.block p.1 (Array.getElem?_eq_some_iff.1 e1).1).trans e1, e2⟩
theorem Half.sub {F1 F2 : Nat → Prop} {w w1 : World} {X Y : Nat} {L M : List (Nat × Obj)} {d1 d2 : Dev} (h : Half F1 F2 w X Y L d1 d2 w1) (hM : ∀ p ∈ M, p ∈ L) : Half F1 F2 w X Y M d1 d2 w1 := by
  obtain ⟨hf, G1, G2, h1, h2, h3, h4, h5, h6⟩ := h
  exact ⟨hf, G1, G2, h1, h2, h3, h4, h5, fun p hp => h6 p (hM p hp)⟩
section
variable {F1 F2 : Nat → Prop} {w w1 : World} {X Y : Nat} {L : List (Nat × Obj)} {d1 d2 : Dev}
theorem Half.putX (h : Half F1 F2 w X Y L d1 d2 w1) {A fi N : Nat} (hA : (A, Obj.cells (acells X fi N) 122 (0, 0)) ∈ L) (hN : N ≤ 1024) (hfi : fi ≤ 9223372036854775807) (hf : N = 0 ∨ fi ≤ 1024) (p : Int) (b : List UInt8) (g off n c : Nat) (hs : SrcB L (some ⟨g, off, none⟩) b) (hn : b.length = n) (hc : n ≤ c) (hp : d1.pend.length + b.length ≤ 100000) (hw : d1.writes + b.length ≤ 100000) :
    Calls Try.prog 54 #[.pointer (some ⟨A, 0, none⟩), .int .i64 p, .slice (some ⟨g, off, none⟩) n c] w1 (HalfOf F1 F2 w X Y L (jput d1 fi N p b).1 d2 (.int .i64 (jput d1 fi N p b).2)) := by
  subst hn
  refine (h.callX (V := fun v => v = .int .i64 (jput d1 fi N p b).2) (e := (jput d1 fi N p b).1) ?_).mono (fun _ _ h => HalfOf.of h)
  intro G hG hL
  obtain ⟨q, hq, hr⟩ := hs
  obtain ⟨e1, e2⟩ := hL _ hq
  obtain ⟨a1, a2⟩ := hL _ hA
  have hl := (Array.getElem?_eq_some_iff.1 e1).1
  refine (put_any hG ⟨a1, hN, hfi⟩ a2 p b _ c (fun e => by cases e) hc (fun w' hf => hr w' ((hf.block q.1 hl e2).trans e1)) hp hw hf).mono ?_
  rintro en w2 ⟨rfl, i1, i2⟩
  exact ⟨⟨_, rfl, rfl⟩, i1, i2⟩
theorem Half.putY (h : Half F1 F2 w X Y L d1 d2 w1) {A N : Nat} {fi : Int} (hA : (A, Obj.cells (racells Y fi N) 129 (0, 0)) ∈ L) (hN : N ≤ 1024) (hfi : fi ≤ 9223372036854775807) (hf : N = 0 ∨ (0 ≤ fi ∧ fi ≤ 1024)) (p : Int) (b : List UInt8) (g off n c : Nat) (hs : SrcB L (some ⟨g, off, none⟩) b) (hn : b.length = n) (hc : n ≤ c) (hp : d2.pend.length + b.length ≤ 100000) (hw : d2.writes + b.length ≤ 100000) :
    Calls Try.prog 59 #[.pointer (some ⟨A, 0, none⟩), .int .i64 p, .slice (some ⟨g, off, none⟩) n c] w1 (HalfOf F1 F2 w X Y L d1 (jput d2 fi.toNat N p b).1 (.int .i64 (jput d2 fi.toNat N p b).2)) := by
  subst hn
  refine (h.callY (V := fun v => v = .int .i64 (jput d2 fi.toNat N p b).2) (e := (jput d2 fi.toNat N p b).1) ?_).mono (fun _ _ h => HalfOf.of h)
  intro G hG hL
  obtain ⟨q, hq, hr⟩ := hs
  obtain ⟨e1, e2⟩ := hL _ hq
  obtain ⟨a1, a2⟩ := hL _ hA
  have hl := (Array.getElem?_eq_some_iff.1 e1).1
  refine (rput_any hG ⟨a1, hN, hfi⟩ a2 p b _ c hc (fun w' hf => hr w' ((hf.block q.1 hl e2).trans e1)) hp hw hf).mono ?_
  rintro en w2 ⟨rfl, i1, i2⟩
  exact ⟨⟨_, rfl, rfl⟩, i1, i2⟩
theorem Half.getX (h : Half F1 F2 w X Y L d1 d2 w1) {A fi N : Nat} (hA : (A, Obj.cells (acells X fi N) 122 (0, 0)) ∈ L) (hN : N ≤ 1024) (hfi : fi ≤ 9223372036854775807) (hf : N = 0 ∨ fi ≤ 1024) (p m : Int) (hp : d1.pend.length ≤ 100000) :
    Calls Try.prog 55 #[.pointer (some ⟨A, 0, none⟩), .int .i64 p, .int .i64 m] w1 (GetOf w1 (jget d1 fi N p m)) := by
  have hb := h.blk hA
  obtain ⟨_, G1, G2, h1, h2, _⟩ := h
  exact get_any h1 ⟨hb, hN, hfi⟩ p m hp hf
theorem Half.getY (h : Half F1 F2 w X Y L d1 d2 w1) {A N : Nat} {fi : Int} (hA : (A, Obj.cells (racells Y fi N) 129 (0, 0)) ∈ L) (hN : N ≤ 1024) (hfi : fi ≤ 9223372036854775807) (hf : N = 0 ∨ (0 ≤ fi ∧ fi ≤ 1024)) (p m : Int) (hp : d2.pend.length ≤ 100000) :
    Calls Try.prog 63 #[.pointer (some ⟨A, 0, none⟩), .int .i64 p, .int .i64 m] w1 (GetOf w1 (jget d2 fi.toNat N p m)) := by
  have hb := h.blk hA
  obtain ⟨_, G1, G2, h1, h2, _⟩ := h
  exact rget_any h2 ⟨hb, hN, hfi⟩ p m hp hf
theorem Half.framesX (h : Half F1 F2 w X Y L d1 d2 w1) {A fi N : Nat} (hA : (A, Obj.cells (acells X fi N) 122 (0, 0)) ∈ L) (hN : N ≤ 1024) (hfi : fi ≤ 9223372036854775807) (hf : N = 0 ∨ fi ≤ 1024) (m : Int) (hp : d1.pend.length ≤ 100000) :
    Calls Try.prog 64 #[.pointer (some ⟨A, 0, none⟩), .int .i64 m] w1 (FramesOf w1 (jframes d1 fi N m)) := by
  have hb := h.blk hA
  obtain ⟨_, G1, G2, h1, h2, _⟩ := h
  exact frames_any55 h1 ⟨hb, hN, hfi⟩ m hp hf
theorem Half.framesY (h : Half F1 F2 w X Y L d1 d2 w1) {A N : Nat} {fi : Int} (hA : (A, Obj.cells (racells Y fi N) 129 (0, 0)) ∈ L) (hN : N ≤ 1024) (hfi : fi ≤ 9223372036854775807) (hf : N = 0 ∨ (0 ≤ fi ∧ fi ≤ 1024)) (m : Int) (hp : d2.pend.length ≤ 100000) :
    Calls Try.prog 65 #[.pointer (some ⟨A, 0, none⟩), .int .i64 m] w1 (FramesOf w1 (jframes d2 fi.toNat N m)) := by
  have hb := h.blk hA
  obtain ⟨_, G1, G2, h1, h2, _⟩ := h
  exact rframes_any h2 ⟨hb, hN, hfi⟩ m hp hf
theorem Half.restX (h : Half F1 F2 w X Y L d1 d2 w1) (ks : List Int) (g n c : Nat) (hm : ∃ o, (g, o) ∈ L ∧ ∀ w' : World, w'.heap[g]? = some o → RI w' (some ⟨g, 0, none⟩) ks) (hn : ks.length = n) (h3 : n ≤ 100) (hp : d1.pend.length ≤ 100000) :
    Calls Try.prog 37 #[.pointer (some ⟨X, 0, none⟩), .slice (some ⟨g, 0, none⟩) n c] w1 (HalfOf F1 F2 w X Y L (d1.restart ks).1 d2 (.int .i64 ((d1.restart ks).2 : Nat))) := by
  subst hn
  refine (h.callX (V := fun v => v = .int .i64 ((d1.restart ks).2 : Nat)) (e := (d1.restart ks).1) ?_).mono (fun _ _ h => HalfOf.of h)
  intro G hG hL
  obtain ⟨o, hm, hr⟩ := hm
  obtain ⟨e1, e2⟩ := hL _ hm
  have hl := (Array.getElem?_eq_some_iff.1 e1).1
  refine (restart_any hG hp ks (some ⟨g, 0, none⟩) c (by omega) (fun w' hf => hr w' ((hf.block g hl e2).trans e1))).mono ?_
  rintro en w2 ⟨rfl, i1, i2⟩
  exact ⟨⟨_, rfl, rfl⟩, i1, i2⟩
theorem Half.restY (h : Half F1 F2 w X Y L d1 d2 w1) (ks : List Int) (g n c : Nat) (hm : ∃ o, (g, o) ∈ L ∧ ∀ w' : World, w'.heap[g]? = some o → RI w' (some ⟨g, 0, none⟩) ks) (hn : ks.length = n) (h3 : n ≤ 100) (hp : d2.pend.length ≤ 100000) :
    Calls Try.prog 62 #[.pointer (some ⟨Y, 0, none⟩), .slice (some ⟨g, 0, none⟩) n c] w1 (HalfOf F1 F2 w X Y L d1 (d2.restart ks).1 (.int .i64 ((d2.restart ks).2 : Nat))) := by
  subst hn
  refine (h.callY (V := fun v => v = .int .i64 ((d2.restart ks).2 : Nat)) (e := (d2.restart ks).1) ?_).mono (fun _ _ h => HalfOf.of h)
  intro G hG hL
  obtain ⟨o, hm, hr⟩ := hm
  obtain ⟨e1, e2⟩ := hL _ hm
  have hl := (Array.getElem?_eq_some_iff.1 e1).1
  refine (rrestart_any hG hp ks (some ⟨g, 0, none⟩) c (by omega) (fun w' hf => hr w' ((hf.block g hl e2).trans e1))).mono ?_
  rintro en w2 ⟨rfl, i1, i2⟩
  exact ⟨⟨_, rfl, rfl⟩, i1, i2⟩
end
theorem ri_two {w : World} {g : Nat} {y z : Int} {t : TypeId} (h : w.heap[g]? = some (.cells #[.int .i64 y, .int .i64 z] t (0, 0))) : RI w (some ⟨g, 0, none⟩) [y, z] := by
  intro i hi
  refine ⟨g, 0, rfl, (Array.getElem?_eq_some_iff.1 h).1, ?_⟩
  rw [Nat.zero_add, cell_of_row _ _ i _ t (0, 0) h]
  have h3 : i < 2 := hi
  have : i = 0 ∨ i = 1 := by omega
  rcases this with rfl | rfl <;> rfl
def low7 (x : Int) : Nat := (bits .and .i64 x 127).toNat
theorem low7_eq (x : Int) : bits .and .i64 x 127 = (low7 x : Int) ∧ low7 x ≤ 127 := by
  obtain ⟨r, h1, h2⟩ := and_le x 127 (by decide)
  have h1' : bits .and .i64 x 127 = (r : Int) := h1
  unfold low7
  rw [h1']
  exact ⟨by simp, by simpa using h2⟩
/-- One step of an area's plays, in plain Lean. -/
def doJ (d : Dev) (fi N : Nat) (data : List UInt8) (x y z : Int) : Dev :=
  if low3 x ≤ 3 then (jput d fi N y data).1 else if low3 x = 4 then d.sync.1 else if low3 x = 5 then d.arm z else if low3 x = 6 then (d.restart [0, y]).1 else (jput d fi N 0 (frame data)).1
structure SmallJ (d : Dev) (i : Nat) : Prop where
  pend : d.pend.length ≤ 200 * i
  writes : d.writes ≤ 200 * i
  syncs : d.syncs ≤ 200 * i
theorem SmallJ.put {d : Dev} {i : Nat} (h : SmallJ d i) (fi N : Nat) (p : Int) (b : List UInt8) (hb : b.length ≤ 150) : SmallJ (jput d fi N p b).1 (i + 1) := by
  obtain ⟨h1, h2, h3⟩ := h
  obtain ⟨k1, k2, k3, k4⟩ := jput_bound d fi N p b
  exact ⟨by omega, by omega, by omega⟩
theorem sync_bound (d : Dev) : d.sync.1.pend.length ≤ d.pend.length ∧ d.sync.1.writes = d.writes ∧ d.sync.1.syncs ≤ d.syncs + 1 ∧ d.sync.1.kept.length = d.kept.length := by
  unfold Dev.sync
  split
  · exact ⟨Nat.le_refl _, rfl, Nat.le_succ _, rfl⟩
  · split
    · exact ⟨Nat.le_refl _, rfl, Nat.le_succ _, rfl⟩
    · exact ⟨Nat.zero_le _, rfl, Nat.le_refl _, puts_length _ _⟩
theorem SmallJ.sync {d : Dev} {i : Nat} (h : SmallJ d i) : SmallJ d.sync.1 (i + 1) := by
  obtain ⟨h1, h2, h3⟩ := h
  obtain ⟨k1, k2, k3, _⟩ := sync_bound d
  exact ⟨by omega, by omega, by omega⟩
theorem SmallJ.arm {d : Dev} {i : Nat} (h : SmallJ d i) (z : Int) : SmallJ (d.arm z) (i + 1) := by
  obtain ⟨h1, h2, h3⟩ := h
  exact ⟨by show d.pend.length ≤ _; omega, by show d.writes ≤ _; omega, by show d.syncs ≤ _; omega⟩
theorem SmallJ.restart {d : Dev} {i : Nat} (h : SmallJ d i) (ks : List Int) : SmallJ (d.restart ks).1 (i + 1) := by
  obtain ⟨h1, h2, h3⟩ := h
  exact ⟨by show 0 ≤ _; omega, by show d.writes ≤ _; omega, by show d.syncs ≤ _; omega⟩
end Go.Proofs.Ytopemjbakpahfaa
/-
  Plain facts of a step: the numbers stay small. No condition.
-/
namespace Go.Proofs.Ytopemjbakpahfaa
open Go.RowKit Disk
structure SmallD (d : Dev) (i : Nat) : Prop where
  pend : d.pend.length ≤ i
  writes : d.writes ≤ i
  syncs : d.syncs ≤ i
theorem SmallD.doD {d : Dev} {i : Nat} (h : SmallD d i) (x y z : Int) : SmallD (doD d x y z) (i + 1) := by
  have h1 := h.pend
  have h2 := h.writes
  have h3 := h.syncs
  unfold Ytopemjbakpahfaa.doD
  split
  · unfold Dev.write
    split
    · exact ⟨by show d.pend.length ≤ _; omega, by show d.writes ≤ _; omega, by show d.syncs ≤ _; omega⟩
    · split
      · exact ⟨by show d.pend.length ≤ _; omega, by show d.writes ≤ _; omega, by show d.syncs ≤ _; omega⟩
      · split
        · exact ⟨by show d.pend.length ≤ _; omega, by show d.writes ≤ _; omega, by show d.syncs ≤ _; omega⟩
        · exact ⟨by simp; omega, by show d.writes + 1 ≤ _; omega, by show d.syncs ≤ _; omega⟩
  · split
    · unfold Dev.sync
      split
      · exact ⟨by show d.pend.length ≤ _; omega, by show d.writes ≤ _; omega, by show d.syncs ≤ _; omega⟩
      · split
        · exact ⟨by show d.pend.length ≤ _; omega, by show d.writes ≤ _; omega, by show d.syncs ≤ _; omega⟩
        · exact ⟨Nat.zero_le _, by show d.writes ≤ _; omega, by show d.syncs + 1 ≤ _; omega⟩
    · split
      · exact ⟨by show d.pend.length ≤ _; omega, by show d.writes ≤ _; omega, by show d.syncs ≤ _; omega⟩
      · split
        · exact ⟨Nat.zero_le _, by show d.writes ≤ _; omega, by show d.syncs ≤ _; omega⟩
        · exact ⟨by omega, by omega, by omega⟩
end Go.Proofs.Ytopemjbakpahfaa
