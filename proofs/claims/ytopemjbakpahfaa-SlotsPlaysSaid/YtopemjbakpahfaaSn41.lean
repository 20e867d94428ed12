/-
  Contracts and plain laws, part 41 (texts: SP2, S17). No condition but what each states.
-/
import Derived.Test.YtopemjbakpahfaaSn40
/-
  A store whose device tells it: appending and saving keep that, stopped or not. Plain Lean, no program, no condition.
-/
namespace Go.Proofs.Ytopemjbakpahfaa.Slot
open Disk Jour Crc
/-- What the device tells is this store. -/
structure Good (d : Dev) (s : St) : Prop where
  ok : d.ok
  down : d.down = false
  pend : d.pend = []
  K : d.kept.length = 1 + 2 * s.N + s.L
  n1 : 1 ≤ s.N
  l1 : 1 ≤ s.L
  le : 1 + 2 * s.N + s.L ≤ 1024
  head : hread (d.sector 0) = some s.h
  long : s.h.long = s.check.length
  fits : s.check.length ≤ 32 * s.N
  used : s.h.used ≤ 32 * s.L
  check : ∀ i, i < s.check.length → byte d (32 * (1 + s.h.slot * s.N) + i) = s.check.getD i 0
  log : ∃ X, join s.recs = some X ∧ X.length = s.h.used ∧ ∀ i, i < X.length → byte d (32 * (1 + 2 * s.N) + i) = X.getD i 0
  broken : s.broken = false
theorem get_at {d : Dev} {first N n : Nat} (ok : d.ok) (hd : d.down = false) (hK : first + N ≤ d.kept.length) (hn : n ≤ 32 * N) : jget d first N 0 (n : Int) = (Jour.bytes d (32 * first) n, 0) := by
  unfold jget
  have hr : roomB N 0 (n : Int) = true := by rw [roomB_iff]; omega
  rw [if_neg (by omega), if_pos hr, Int.toNat_zero, Int.toNat_natCast, Nat.add_zero]
  exact get_all ok hd (by omega) _ 0 (by omega) (Nat.zero_le _)
theorem bytes_is {d : Dev} {A : Nat} {X : List UInt8} (h : ∀ i, i < X.length → byte d (A + i) = X.getD i 0) : Jour.bytes d A X.length = X := by
  apply list_ext0
  · rw [bytes_length]
  · intro i hi
    rw [bytes_length] at hi
    rw [bytes_get _ _ _ _ hi]
    exact h i hi
theorem all_nil' : all [] = ([], 0) := all_none (by decide)
theorem Good.slot {d : Dev} {s : St} (g : Good d s) : s.h.slot < 2 := (hread_bound g.head).1
theorem Good.turn {d : Dev} {s : St} (g : Good d s) : s.h.turn < 4294967296 := (hread_bound g.head).2.2.2
theorem slot_le {k N : Nat} (h : k < 2) : k * N ≤ N := by
  have : k = 0 ∨ k = 1 := by omega
  rcases this with rfl | rfl <;> omega
theorem Good.opensN {d : Dev} {s : St} (g : Good d s) : sopenN d s.N = (some s, 0) := by
  have hr : d.read 0 = (d.sector 0, 0) := by
    rw [read_ok_at g.down (by omega) (by rw [g.K]; omega)]; rfl
  have hsl := slot_le (N := s.N) g.slot
  have hL : d.kept.length - 1 - 2 * s.N = s.L := by rw [g.K]; omega
  have h1 : jget d (1 + s.h.slot * s.N) s.N 0 s.h.long = (s.check, 0) := by
    rw [g.long, get_at g.ok g.down (by rw [g.K]; omega) g.fits, bytes_is g.check]
  obtain ⟨X, x1, x2, x3⟩ := g.log
  have h2 : jframes d (1 + 2 * s.N) s.L s.h.used = (s.recs, 0) := by
    unfold jframes
    have ha := all_join s.recs X [] x1
    rw [List.append_nil, all_nil', List.append_nil, Nat.add_zero] at ha
    rw [← x2, get_at g.ok g.down (by rw [g.K]; omega) (by rw [x2]; exact g.used), bytes_is x3]
    dsimp only
    rw [if_neg (by simp), ha, if_pos rfl]
  unfold sopenN
  rw [hr]
  dsimp only
  rw [if_neg (by simp), g.head]
  dsimp only
  unfold sload
  rw [hL, if_neg (by rw [g.long]; have := g.fits; have := g.used; omega), h1]
  dsimp only
  rw [if_neg (by simp), h2]
  dsimp only
  rw [if_neg (by simp)]
  have hb := g.broken
  obtain ⟨N, L, h, c, r, b⟩ := s
  dsimp only at hb ⊢
  rw [hb]
theorem Good.opens {d : Dev} {s : St} (g : Good d s) {size : Int} (hs : size = s.N) : sopen d size = (some s, 0) := by
  have := g.K; have := g.n1; have := g.l1; have := g.le
  unfold sopen
  rw [if_neg (by omega), hs, Int.toNat_natCast]
  exact g.opensN
def st0 (N K : Nat) : St := ⟨N, K - 1 - 2 * N, hd0, [], [], false⟩
theorem good_new {N K : Nat} (h1 : 1 ≤ N) (h2 : 2 * N + 2 ≤ K) (h3 : K ≤ 1024) : Good (Dev.new K) (st0 N K) := by
  have hk : (Dev.new K).kept.length = K := by simp [Dev.new]
  refine ⟨new_ok K, rfl, rfl, ?_, h1, ?_, ?_, ?_, rfl, Nat.zero_le _, Nat.zero_le _, fun i hi => absurd hi (Nat.not_lt_zero _), ⟨[], rfl, rfl, fun i hi => absurd hi (Nat.not_lt_zero _)⟩, rfl⟩
  · rw [hk]; unfold st0; dsimp only; omega
  · unfold st0; dsimp only; omega
  · unfold st0; dsimp only; omega
  · have : (Dev.new K).sector 0 = List.replicate 32 0 := by
      rw [sector_kept rfl]
      simp only [Dev.new, List.getD]
      rw [List.getElem?_replicate, if_pos (by omega)]
      rfl
    rw [this]
    exact hread_zero 32
theorem open_new (K : Nat) (hK : K ≤ 1024) (size : Int) : (sopen (Dev.new K) size = (none, 1)) ∨ (∃ N : Nat, size = (N : Int) ∧ 1 ≤ N ∧ 2 * N + 2 ≤ K ∧ sopen (Dev.new K) size = (some (st0 N K), 0)) := by
  have hk : (Dev.new K).kept.length = K := by simp [Dev.new]
  by_cases hc : size < 1 ∨ 1024 < size ∨ ((Dev.new K).kept.length : Int) < 2 * size + 2
  · left; unfold sopen; rw [if_pos hc]
  · right
    rw [hk] at hc
    refine ⟨size.toNat, by omega, by omega, by omega, ?_⟩
    exact (good_new (N := size.toNat) (K := K) (by omega) (by omega) hK).opens (by show size = ((size.toNat : Nat) : Int); omega)
theorem sector_bytes {d e : Dev} (hd : d.ok) (he : e.ok) {k : Nat} (h1 : k < d.kept.length) (h2 : k < e.kept.length) (h : ∀ j, j < 32 → byte e (32 * k + j) = byte d (32 * k + j)) : e.sector k = d.sector k := by
  apply list_ext0
  · rw [sector_length hd h1, sector_length he h2]
  · intro j hj
    rw [sector_length he h2] at hj
    have := h j hj
    unfold byte at this
    rwa [show (32 * k + j) / 32 = k by omega, show (32 * k + j) % 32 = j by omega] at this
/-- Bytes that the store doesn't read may change. -/
theorem Good.old {d e : Dev} {s : St} (g : Good d s) {A n : Nat} (ok : e.ok) (hd : e.down = false) (hp : e.pend = []) (hk : e.kept.length = d.kept.length) (hb : ∀ x, x < 32 * d.kept.length → ¬ (A ≤ x ∧ x < A + n) → byte e x = byte d x)
    (h32 : 32 ≤ A) (hc : A + n ≤ 32 * (1 + s.h.slot * s.N) ∨ 32 * (1 + s.h.slot * s.N) + s.check.length ≤ A) (hl : A + n ≤ 32 * (1 + 2 * s.N) ∨ 32 * (1 + 2 * s.N) + s.h.used ≤ A) : Good e s := by
  have hsl := slot_le (N := s.N) g.slot
  have hK := g.K
  have hf := g.fits
  have hu := g.used
  refine ⟨ok, hd, hp, hk.trans g.K, g.n1, g.l1, g.le, ?_, g.long, g.fits, g.used, ?_, ?_, g.broken⟩
  · rw [sector_bytes g.ok ok (k := 0) (by omega) (by omega) (fun j hj => hb _ (by omega) (by omega))]
    exact g.head
  · intro i hi
    rw [hb _ (by omega) (by omega)]
    exact g.check i hi
  · obtain ⟨X, x1, x2, x3⟩ := g.log
    refine ⟨X, x1, x2, fun i hi => ?_⟩
    rw [hb _ (by omega) (by omega)]
    exact x3 i hi
def apS (s : St) (b : List UInt8) : St := { s with h := apHd s b, recs := s.recs ++ [b] }
def svS (s : St) (b : List UInt8) : St := { s with h := svHd s b, check := b, recs := [] }
theorem join_snoc (b : List UInt8) (hb : b.length ≤ 4096) : ∀ (l : List (List UInt8)) (X : List UInt8), join l = some X → join (l ++ [b]) = some (X ++ frame b) := by
  intro l
  induction l with
  | nil =>
    intro X h
    simp [join] at h
    subst h
    simp [join, show ¬ 4096 < b.length by omega]
  | cons x l ih =>
    intro X h
    unfold join at h
    split at h
    · cases h
    · rename_i hx
      cases hj : join l with
      | none => rw [hj] at h; cases h
      | some c =>
        rw [hj] at h
        simp at h
        subst h
        rw [List.cons_append]
        unfold join
        rw [if_neg hx, ih c hj]
        simp
theorem Good.append {d e : Dev} {s : St} (g : Good d s) {b : List UInt8} (hb : b.length ≤ 4096) (hroom : s.h.used + (b.length + 6) ≤ 32 * s.L) (ok : e.ok) (hd : e.down = false) (hp : e.pend = []) (hk : e.kept.length = d.kept.length)
    (h0 : e.sector 0 = pad (hbytes (apHd s b))) (hby : ∀ x, 32 ≤ x → x < 32 * d.kept.length → byte e x = if 32 * (1 + 2 * s.N) + s.h.used ≤ x ∧ x < 32 * (1 + 2 * s.N) + s.h.used + (frame b).length then (frame b).getD (x - (32 * (1 + 2 * s.N) + s.h.used)) 0 else byte d x) : Good e (apS s b) := by
  have hsl := slot_le (N := s.N) g.slot
  have hs := g.slot
  have hK := g.K
  have hf := g.fits
  have hle := g.le
  have hlg := g.long
  have hfl := frame_length b
  refine ⟨ok, hd, hp, hk.trans g.K, g.n1, g.l1, g.le, ?_, g.long, g.fits, hroom, ?_, ?_, g.broken⟩
  · rw [h0]
    exact hread_raw hs (by show s.h.long < _; omega) (by show s.h.used + (b.length + 6) < _; omega) (by show (s.h.turn + 1) % 4294967296 < _; omega)
  · intro i hi
    have hi : i < s.check.length := hi
    show byte e (32 * (1 + s.h.slot * s.N) + i) = s.check.getD i 0
    rw [hby _ (by omega) (by omega), if_neg (by omega)]
    exact g.check i hi
  · obtain ⟨X, x1, x2, x3⟩ := g.log
    refine ⟨X ++ frame b, join_snoc b hb _ _ x1, by rw [List.length_append, x2, hfl]; rfl, fun i hi => ?_⟩
    rw [List.length_append] at hi
    show byte e (32 * (1 + 2 * s.N) + i) = _
    rw [hby _ (by omega) (by omega)]
    by_cases hc : s.h.used ≤ i
    · rw [if_pos (by omega)]
      simp only [List.getD]
      rw [List.getElem?_append_right (by omega)]
      congr 2
      omega
    · rw [if_neg (by omega), x3 i (by omega)]
      simp only [List.getD]
      rw [List.getElem?_append_left (by omega)]
theorem Good.save {d e : Dev} {s : St} (g : Good d s) {b : List UInt8} (hb : b.length ≤ 32 * s.N) (ok : e.ok) (hd : e.down = false) (hp : e.pend = []) (hk : e.kept.length = d.kept.length)
    (h0 : e.sector 0 = pad (hbytes (svHd s b))) (hby : ∀ x, 32 ≤ x → x < 32 * d.kept.length → byte e x = if 32 * (1 + (1 - s.h.slot) * s.N) + 0 ≤ x ∧ x < 32 * (1 + (1 - s.h.slot) * s.N) + 0 + b.length then b.getD (x - (32 * (1 + (1 - s.h.slot) * s.N) + 0)) 0 else byte d x) : Good e (svS s b) := by
  have hsl := slot_le (N := s.N) (show 1 - s.h.slot < 2 by omega)
  have hs := g.slot
  have hK := g.K
  have hle := g.le
  refine ⟨ok, hd, hp, hk.trans g.K, g.n1, g.l1, g.le, ?_, rfl, hb, Nat.zero_le _, ?_, ⟨[], rfl, rfl, fun i hi => absurd hi (Nat.not_lt_zero _)⟩, g.broken⟩
  · rw [h0]
    exact hread_raw (by show 1 - s.h.slot < 2; omega) (by show b.length < _; omega) (by show (0 : Nat) < _; omega) (by show (s.h.turn + 1) % 4294967296 < _; omega)
  · intro i hi
    have hi : i < b.length := hi
    show byte e (32 * (1 + (1 - s.h.slot) * s.N) + i) = b.getD i 0
    rw [hby _ (by omega) (by omega), if_pos (by omega)]
    congr 1
    omega
/-- A call is done as a whole, or the device stops; then what it tells is as before, or as the call was to make it. -/
structure CallOk (d : Dev) (s' : St) (r : Dev × St × Int) : Prop where
  z : r.2.2 = 0
  st : r.2.1 = s'
  good : Good r.1 s'
  arm : d.armed = 0 → r.1.armed = 0
structure CallNo (d : Dev) (s s' : St) (r : Dev × St × Int) : Prop where
  z : r.2.2 = 14
  arm : d.armed ≠ 0
  back : ∀ keep, (r.1.restart keep).1.armed = 0 ∧ (Good (r.1.restart keep).1 s ∨ Good (r.1.restart keep).1 s')
theorem append_cases {d : Dev} {s : St} (g : Good d s) (b : List UInt8) (hb : b.length ≤ 4096) :
    (¬ s.h.used + (b.length + 6) ≤ 32 * s.L ∧ sappend d s b = (d, s, 2)) ∨ (s.h.used + (b.length + 6) ≤ 32 * s.L ∧ (CallOk d (apS s b) (sappend d s b) ∨ CallNo d s (apS s b) (sappend d s b))) := by
  have hsl := slot_le (N := s.N) g.slot
  have hK := g.K
  have hf := g.fits
  have hfl := frame_length b
  by_cases hr : s.h.used + (b.length + 6) ≤ 32 * s.L
  · right
    refine ⟨hr, ?_⟩
    have e1 : sappend d s b = if (apD d s b).2 ≠ 0 then ((apD d s b).1, { s with broken := true }, (apD d s b).2) else ((apD d s b).1, apS s b, 0) := by
      unfold sappend
      rw [if_neg (by rw [g.broken]; decide), if_neg (by unfold St.room; omega)]
      rfl
    rw [e1]
    have hc := ssafe_cases g.ok g.down g.pend (1 + 2 * s.N) s.L s.h.used (frame b) (apHd s b) (by rw [roomB_iff]; omega) (by omega) (by omega) (by omega)
    change SafeOk d _ (frame b) (apHd s b) (apD d s b) ∨ SafeNo d _ (frame b) (apHd s b) (apD d s b) at hc
    rcases hc with hc | hc
    · left
      rw [if_neg (by rw [hc.z]; decide)]
      exact ⟨rfl, rfl, g.append hb hr hc.ok hc.down hc.pend hc.kept hc.head hc.byte, hc.arm⟩
    · right
      rw [if_pos (by rw [hc.z]; decide)]
      refine ⟨hc.z, hc.arm, fun keep => ⟨rfl, ?_⟩⟩
      have hk := hc.back keep
      rcases hk.alt with h | ⟨h1, h2⟩
      · exact .inl (g.old hk.ok hk.down hk.pend hk.kept h (by omega) (.inr (by omega)) (.inr (by omega)))
      · exact .inr (g.append hb hr hk.ok hk.down hk.pend hk.kept h1 h2)
  · left
    refine ⟨hr, ?_⟩
    unfold sappend
    rw [if_neg (by rw [g.broken]; decide), if_pos (by unfold St.room; omega)]
theorem save_cases {d : Dev} {s : St} (g : Good d s) (b : List UInt8) :
    (¬ b.length ≤ 32 * s.N ∧ ssave d s b = (d, s, 2)) ∨ (b.length ≤ 32 * s.N ∧ (CallOk d (svS s b) (ssave d s b) ∨ CallNo d s (svS s b) (ssave d s b))) := by
  have hsl := slot_le (N := s.N) g.slot
  have hs2 := slot_le (N := s.N) (show 1 - s.h.slot < 2 by omega)
  have hs := g.slot
  have hK := g.K
  have hf := g.fits
  by_cases hr : b.length ≤ 32 * s.N
  · right
    refine ⟨hr, ?_⟩
    have e1 : ssave d s b = if (svD d s b).2 ≠ 0 then ((svD d s b).1, { s with broken := true }, (svD d s b).2) else ((svD d s b).1, svS s b, 0) := by
      unfold ssave
      rw [if_neg (by rw [g.broken]; decide), if_neg (by omega)]
      rfl
    rw [e1]
    have hc := ssafe_cases g.ok g.down g.pend (1 + (1 - s.h.slot) * s.N) s.N 0 b (svHd s b) (by rw [roomB_iff]; omega) (by omega) (by omega) (by omega)
    change SafeOk d _ b (svHd s b) (svD d s b) ∨ SafeNo d _ b (svHd s b) (svD d s b) at hc
    have hmix : 32 * (1 + (1 - s.h.slot) * s.N) + 0 + b.length ≤ 32 * (1 + s.h.slot * s.N) ∨ 32 * (1 + s.h.slot * s.N) + s.check.length ≤ 32 * (1 + (1 - s.h.slot) * s.N) + 0 := by
      have : s.h.slot = 0 ∨ s.h.slot = 1 := by omega
      rcases this with h | h <;> rw [h] <;> omega
    rcases hc with hc | hc
    · left
      rw [if_neg (by rw [hc.z]; decide)]
      exact ⟨rfl, rfl, g.save hr hc.ok hc.down hc.pend hc.kept hc.head hc.byte, hc.arm⟩
    · right
      rw [if_pos (by rw [hc.z]; decide)]
      refine ⟨hc.z, hc.arm, fun keep => ⟨rfl, ?_⟩⟩
      have hk := hc.back keep
      rcases hk.alt with h | ⟨h1, h2⟩
      · exact .inl (g.old hk.ok hk.down hk.pend hk.kept h (by omega) hmix (.inl (by omega)))
      · exact .inr (g.save hr hk.ok hk.down hk.pend hk.kept h1 h2)
  · left
    refine ⟨hr, ?_⟩
    unfold ssave
    rw [if_neg (by rw [g.broken]; decide), if_pos (by omega)]
theorem restart_good {d : Dev} {s : St} (g : Good d s) (keep : List Int) : Good (d.restart keep).1 s ∧ (d.restart keep).1.armed = 0 := by
  refine ⟨?_, rfl⟩
  have hk : (d.restart keep).1.kept = d.kept := by
    show (sel keep 0 d.pend).foldl put d.kept = d.kept
    rw [g.pend]; rfl
  refine g.old (A := 32 * d.kept.length + 32768) (n := 0) (restart_ok g.ok keep) rfl rfl (by rw [hk]) (fun x hx _ => ?_) (by omega) (.inr ?_) (.inr ?_)
  · apply byte_of_sector
    rw [sector_kept rfl, sector_kept g.pend, hk]
  · have := slot_le (N := s.N) g.slot
    have := g.K; have := g.fits
    omega
  · have := g.K; have := g.used
    omega
theorem arm_good {d : Dev} {s : St} (g : Good d s) (n : Int) : Good (d.arm n) s :=
  ⟨g.ok, g.down, g.pend, g.K, g.n1, g.l1, g.le, g.head, g.long, g.fits, g.used, g.check, g.log, g.broken⟩
end Go.Proofs.Ytopemjbakpahfaa.Slot
/-
  Stores, call by call: plain bounds, and a store of the caller's own beside other blocks. No condition but that the numbers are small.
-/
namespace Go.Proofs.Ytopemjbakpahfaa
open Go.RowKit Disk Jour Crc Slot
set_option linter.unusedSimpArgs false
set_option linter.unusedVariables false
theorem sappend_bound (d : Dev) (s : St) (b : List UInt8) : (sappend d s b).1.pend.length ≤ d.pend.length + (b.length + 7) ∧ (sappend d s b).1.writes ≤ d.writes + (b.length + 7) ∧ (sappend d s b).1.syncs ≤ d.syncs + 2 ∧ (sappend d s b).1.kept.length = d.kept.length := by
  have h : (apD d s b).1.pend.length ≤ d.pend.length + (frame b).length + 1 ∧ (apD d s b).1.writes ≤ d.writes + (frame b).length + 1 ∧ (apD d s b).1.syncs ≤ d.syncs + 2 ∧ (apD d s b).1.kept.length = d.kept.length := ssafe_bound d (1 + 2 * s.N) s.L s.h.used (frame b) (apHd s b)
  have hf := frame_length b
  obtain ⟨q1, q2, q3, q4⟩ := h
  unfold sappend
  split
  · exact ⟨by dsimp only; omega, by dsimp only; omega, by dsimp only; omega, rfl⟩
  · split
    · exact ⟨by dsimp only; omega, by dsimp only; omega, by dsimp only; omega, rfl⟩
    · split
      · exact ⟨by dsimp only; omega, by dsimp only; omega, by dsimp only; omega, q4⟩
      · exact ⟨by dsimp only; omega, by dsimp only; omega, by dsimp only; omega, q4⟩
theorem ssave_bound (d : Dev) (s : St) (b : List UInt8) : (ssave d s b).1.pend.length ≤ d.pend.length + (b.length + 7) ∧ (ssave d s b).1.writes ≤ d.writes + (b.length + 7) ∧ (ssave d s b).1.syncs ≤ d.syncs + 2 ∧ (ssave d s b).1.kept.length = d.kept.length := by
  have h : (svD d s b).1.pend.length ≤ d.pend.length + b.length + 1 ∧ (svD d s b).1.writes ≤ d.writes + b.length + 1 ∧ (svD d s b).1.syncs ≤ d.syncs + 2 ∧ (svD d s b).1.kept.length = d.kept.length := ssafe_bound d (1 + (1 - s.h.slot) * s.N) s.N 0 b (svHd s b)
  have hf := frame_length b
  obtain ⟨q1, q2, q3, q4⟩ := h
  unfold ssave
  split
  · exact ⟨by dsimp only; omega, by dsimp only; omega, by dsimp only; omega, rfl⟩
  · split
    · exact ⟨by dsimp only; omega, by dsimp only; omega, by dsimp only; omega, rfl⟩
    · split
      · exact ⟨by dsimp only; omega, by dsimp only; omega, by dsimp only; omega, q4⟩
      · exact ⟨by dsimp only; omega, by dsimp only; omega, by dsimp only; omega, q4⟩
/-- A good store on a device that is not armed; small numbers. -/
structure Runs (d : Dev) (s : St) (M : Nat) : Prop where
  good : Slot.Good d s
  armed : d.armed = 0
  writes : d.writes ≤ M
  syncs : d.syncs ≤ M
theorem Runs.pend {d : Dev} {s : St} {M : Nat} (h : Runs d s M) : d.pend.length = 0 := by rw [h.good.pend]; rfl
theorem Runs.append {d : Dev} {s : St} {M : Nat} (h : Runs d s M) (b : List UInt8) (hb : b.length ≤ 4096) (hr : s.h.used + (b.length + 6) ≤ 32 * s.L) : ∃ e, sappend d s b = (e, apS s b, 0) ∧ Runs e (apS s b) (M + (b.length + 7)) := by
  have hbd := sappend_bound d s b
  have := h.writes; have := h.syncs
  rcases append_cases h.good b hb with ⟨h1, _⟩ | ⟨_, hc | hc⟩
  · exact absurd hr h1
  · refine ⟨(sappend d s b).1, Prod.ext rfl (Prod.ext hc.st hc.z), hc.good, hc.arm h.armed, by omega, by omega⟩
  · exact absurd h.armed hc.arm
theorem Runs.full {d : Dev} {s : St} {M : Nat} (h : Runs d s M) (b : List UInt8) (hb : b.length ≤ 4096) (hr : ¬ s.h.used + (b.length + 6) ≤ 32 * s.L) : sappend d s b = (d, s, 2) := by
  rcases append_cases h.good b hb with ⟨_, h1⟩ | ⟨h1, _⟩
  · exact h1
  · exact absurd h1 hr
theorem Runs.save {d : Dev} {s : St} {M : Nat} (h : Runs d s M) (b : List UInt8) (hr : b.length ≤ 32 * s.N) : ∃ e, ssave d s b = (e, svS s b, 0) ∧ Runs e (svS s b) (M + (b.length + 7)) := by
  have hbd := ssave_bound d s b
  have := h.writes; have := h.syncs
  rcases save_cases h.good b with ⟨h1, _⟩ | ⟨_, hc | hc⟩
  · exact absurd hr h1
  · refine ⟨(ssave d s b).1, Prod.ext rfl (Prod.ext hc.st hc.z), hc.good, hc.arm h.armed, by omega, by omega⟩
  · exact absurd h.armed hc.arm
theorem Runs.fullS {d : Dev} {s : St} {M : Nat} (h : Runs d s M) (b : List UInt8) (hr : ¬ b.length ≤ 32 * s.N) : ssave d s b = (d, s, 2) := by
  rcases save_cases h.good b with ⟨_, h1⟩ | ⟨h1, _⟩
  · exact h1
  · exact absurd h1 hr
theorem Runs.mono {d : Dev} {s : St} {M M' : Nat} (h : Runs d s M) (hm : M ≤ M') : Runs d s M' := ⟨h.good, h.armed, Nat.le_trans h.writes hm, Nat.le_trans h.syncs hm⟩
theorem Runs.new {N K : Nat} (h1 : 1 ≤ N) (h2 : 2 * N + 2 ≤ K) (h3 : K ≤ 1024) : Runs (Dev.new K) (st0 N K) 0 := ⟨good_new h1 h2 h3, rfl, Nat.le_refl _, Nat.le_refl _⟩
/-- A store and its device, in blocks of the caller's own; other blocks stay. -/
structure Held (n0 : Nat) (H : Nat → Prop) (w : World) (S B : Nat) (d : Dev) (s : St) : Prop where
  ex : ∃ F G, Stor F G w S B d s ∧ (∀ k, F k → n0 ≤ k ∧ ¬ H k) ∧ ∀ k, G k → n0 ≤ k ∧ ¬ H k
  h : ∀ k, H k → k < w.heap.size
  sz : n0 ≤ w.heap.size
def HeldOf (n0 : Nat) (H : Nat → Prop) (w : World) (S B : Nat) (d : Dev) (s : St) (e : Int) (en : Ending) (w' : World) : Prop :=
  en = .returned (.int .i64 e) ∧ Held n0 H w' S B d s ∧ Below n0 w w' ∧ Frm (fun k => ¬ H k) w w'
theorem StorOf.held {n0 : Nat} {H F G : Nat → Prop} {w : World} {S B : Nat} {d : Dev} {s : St} {e : Int} {en : Ending} {w' : World} (h : StorOf F G w S B d s e en w') (h1 : ∀ k, F k → n0 ≤ k ∧ ¬ H k) (h2 : ∀ k, G k → n0 ≤ k ∧ ¬ H k) (hH : ∀ k, H k → k < w.heap.size) (hs : n0 ≤ w.heap.size) : HeldOf n0 H w S B d s e en w' := by
  obtain ⟨he, hf, F', G', hst, g1, g2⟩ := h
  have hsz := hf.size
  have new : ∀ k, w.heap.size ≤ k → n0 ≤ k ∧ ¬ H k := fun k hk => ⟨by omega, fun hh => by have := hH k hh; omega⟩
  refine ⟨he, ⟨⟨F', G', hst, fun k hk => (g1 k hk).elim (h1 k) (new k), fun k hk => (g2 k hk).elim (h2 k) (new k)⟩, fun k hk => by have := hH k hk; omega, by omega⟩, hf.below (fun k hk => hk.elim (fun h => (h1 k h).1) (fun h => (h2 k h).1)) hs, ⟨hf.os, hf.tape, hf.output, hf.size, fun k hk hn => hf.block k hk (fun h => hn (h.elim (fun h => (h1 k h).2) (fun h => (h2 k h).2)))⟩⟩
theorem Held.below {n0 : Nat} {H : Nat → Prop} {w w' : World} {S B : Nat} {d : Dev} {s : St} (h : Held n0 H w S B d s) (hb : Below w.heap.size w w') : Held n0 H w' S B d s := by
  obtain ⟨⟨F, G, h1, h2, h3⟩, h4, h5⟩ := h
  have := hb.size
  exact ⟨⟨F, G, h1.below hb, h2, h3⟩, fun k hk => by have := h4 k hk; omega, by omega⟩
/-- Blocks that came may be kept away from the store too. -/
theorem Held.ext {n0 : Nat} {H H' : Nat → Prop} {w w' : World} {S B : Nat} {d : Dev} {s : St} (h : Held n0 H w S B d s) (hb : Below w.heap.size w w') (hH : ∀ k, H' k → H k ∨ (w.heap.size ≤ k ∧ k < w'.heap.size)) : Held n0 H' w' S B d s := by
  obtain ⟨⟨F, G, h1, h2, h3⟩, h4, h5⟩ := h
  have hs := hb.size
  refine ⟨⟨F, G, h1.below hb, fun k hk => ⟨(h2 k hk).1, fun hh => ?_⟩, fun k hk => ⟨(h3 k hk).1, fun hh => ?_⟩⟩, fun k hk => ?_, by omega⟩
  · rcases hH k hh with h | h
    · exact (h2 k hk).2 h
    · have := h1.dev.lt k hk; omega
  · rcases hH k hh with h | h
    · exact (h3 k hk).2 h
    · have := h1.st.lt k hk; omega
  · rcases hH k hk with h | h
    · have := h4 k h; omega
    · exact h.2
theorem Held.st {n0 : Nat} {H : Nat → Prop} {w : World} {S B : Nat} {d : Dev} {s : St} (h : Held n0 H w S B d s) : ∃ G, IsSt G w S B s := by obtain ⟨⟨F, G, h1, _⟩, _⟩ := h; exact ⟨G, h1.st⟩
theorem Held.dev {n0 : Nat} {H : Nat → Prop} {w : World} {S B : Nat} {d : Dev} {s : St} (h : Held n0 H w S B d s) : ∃ F, IsDev F w B d := by obtain ⟨⟨F, G, h1, _⟩, _⟩ := h; exact ⟨F, h1.dev⟩
theorem Held.append {n0 : Nat} {H : Nat → Prop} {w : World} {S B : Nat} {d : Dev} {s : St} (h : Held n0 H w S B d s) {b : List UInt8} {a : Option Addr} {cap : Nat} (hlc : b.length ≤ cap) (hna : a = none → cap = 0) (hb : RB w a b) (hsrc : ∀ g o, a = some ⟨g, o, none⟩ → H g) (hb4 : b.length ≤ 4096)
    (hp : d.pend.length + 33000 ≤ 90000) (hw : d.writes + 33000 ≤ 90000) (hy : d.syncs ≤ 90000) :
    Calls Try.prog 71 #[.pointer (some ⟨S, 0, none⟩), .slice a b.length cap] w (HeldOf n0 H w S B (sappend d s b).1 (sappend d s b).2.1 (sappend d s b).2.2) := by
  obtain ⟨⟨F, G, h1, h2, h3⟩, h4, h5⟩ := h
  refine (append_any h1 hlc hna hb (fun g o e => ⟨fun hF => (h2 g hF).2 (hsrc g o e), fun hS => ?_⟩) hb4 hp hw hy).mono (fun en w' h => h.held h2 h3 h4 h5)
  obtain ⟨A0, A1, AL, vc, vr, V⟩ := h1.st
  exact (h3 S V.fs).2 (hS ▸ hsrc g o e)
theorem Held.save {n0 : Nat} {H : Nat → Prop} {w : World} {S B : Nat} {d : Dev} {s : St} (h : Held n0 H w S B d s) {b : List UInt8} {g off cap : Nat} (hlc : b.length ≤ cap) (hb : RB w (some ⟨g, off, none⟩) b) (hg : H g) (hbl : b.length ≤ 1000000)
    (hp : d.pend.length + 33000 ≤ 90000) (hw : d.writes + 33000 ≤ 90000) (hy : d.syncs ≤ 90000) :
    Calls Try.prog 70 #[.pointer (some ⟨S, 0, none⟩), .slice (some ⟨g, off, none⟩) b.length cap] w (HeldOf n0 H w S B (ssave d s b).1 (ssave d s b).2.1 (ssave d s b).2.2) := by
  obtain ⟨⟨F, G, h1, h2, h3⟩, h4, h5⟩ := h
  refine (save_any h1 hlc hb (fun hF => (h2 g hF).2 hg) (fun hS => ?_) (h4 g hg) hbl hp hw hy).mono (fun en w' h => h.held h2 h3 h4 h5)
  obtain ⟨A0, A1, AL, vc, vr, V⟩ := h1.st
  exact (h3 S V.fs).2 (hS ▸ hg)
/-- Bytes in a block that is kept away stay. -/
theorem HeldOf.rb {n0 : Nat} {H : Nat → Prop} {w : World} {S B : Nat} {d : Dev} {s : St} {e : Int} {en : Ending} {w' : World} (h : HeldOf n0 H w S B d s e en w') {g off : Nat} {l : List UInt8} (hr : RB w (some ⟨g, off, none⟩) l) (hg : H g) : RB w' (some ⟨g, off, none⟩) l :=
  RB.frm hr h.2.2.2 (fun hn => hn hg)
theorem Held.start {F : Nat → Prop} {w w' : World} {S B : Nat} {d : Dev} {s : St} {n0 : Nat} (hd : IsDev F w B d) (hF : ∀ k, F k → n0 ≤ k) (hs : n0 ≤ w.heap.size) (hb : Below w.heap.size w w') (h : IsSt (fun k => w.heap.size ≤ k ∧ k < w'.heap.size) w' S B s) {H : Nat → Prop} (hH : ∀ k, H k → k < n0) : Held n0 H w' S B d s := by
  have := hb.size
  exact ⟨⟨F, _, ⟨hd.below hb, h, fun k hk hx => by have := hd.lt k hx; omega⟩, fun k hk => ⟨hF k hk, fun hh => by have := hF k hk; have := hH k hh; omega⟩, fun k hk => ⟨by omega, fun hh => by have := hH k hh; omega⟩⟩, fun k hk => by have := hH k hk; omega, by omega⟩
theorem RowsG.frm {F H : Nat → Prop} {w w' : World} {v : Value} {L : List (List UInt8)} (h : RowsG H w v L) (hf : Frm F w w') (hd : ∀ k, H k → ¬ F k) : RowsG H w' v L := h.same (fun k hk hl => hf.block k hl (hd k hk)) (fun _ h => h)
end Go.Proofs.Ytopemjbakpahfaa
