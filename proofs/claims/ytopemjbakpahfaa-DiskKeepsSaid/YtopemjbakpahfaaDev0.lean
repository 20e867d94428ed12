/-
  A device in plain Lean: sectors, pending writes. No program, no condition.
-/
import Derived.Test.YtopemjbakpahfaaMem
namespace Go.Proofs.Ytopemjbakpahfaa.Disk
structure Dev where
  kept : List (List UInt8)
  pend : List (Nat × List UInt8)
  down : Bool
  armed : Nat
  writes : Nat
  syncs : Nat
def Dev.ok (d : Dev) : Prop := (∀ k, k < d.kept.length → (d.kept.getD k []).length = 32) ∧ ∀ p ∈ d.pend, p.1 < d.kept.length ∧ p.2.length = 32
/-- As many bytes as a sector has. -/
def pad (b : List UInt8) : List UInt8 := b ++ List.replicate (32 - b.length) 0
def Dev.ask (d : Dev) (k : Int) : Int := if d.down = true then 14 else if k < 0 ∨ (d.kept.length : Int) ≤ k then 1 else 0
/-- One call more: does it stop? -/
def Dev.step (d : Dev) : Dev := { d with down := decide (d.armed = 1), armed := d.armed - 1 }
def Dev.write (d : Dev) (k : Int) (b : List UInt8) : Dev × Int :=
  if d.ask k ≠ 0 then (d, d.ask k) else if 32 < b.length then (d, 1) else if d.armed = 1 then (d.step, 14)
  else ({ d.step with pend := d.pend ++ [(k.toNat, pad b)], writes := d.writes + 1 }, 0)
def put (l : List (List UInt8)) (p : Nat × List UInt8) : List (List UInt8) := l.set p.1 p.2
def Dev.sync (d : Dev) : Dev × Int :=
  if d.down = true then (d, 14) else if d.armed = 1 then (d.step, 14)
  else ({ d.step with kept := d.pend.foldl put d.kept, pend := [], syncs := d.syncs + 1 }, 0)
/-- Those of the pending writes whose number, from i on, is among the given. -/
def sel (keep : List Int) : Nat → List (Nat × List UInt8) → List (Nat × List UInt8)
  | _, [] => []
  | i, p :: l => if (i : Int) ∈ keep then p :: sel keep (i + 1) l else sel keep (i + 1) l
def Dev.restart (d : Dev) (keep : List Int) : Dev × Nat :=
  ({ d with kept := (sel keep 0 d.pend).foldl put d.kept, pend := [], down := false, armed := 0 }, (sel keep 0 d.pend).length)
def over (k : Nat) (s : List UInt8) (p : Nat × List UInt8) : List UInt8 := if p.1 = k then p.2 else s
def Dev.sector (d : Dev) (k : Nat) : List UInt8 := d.pend.foldl (over k) (d.kept.getD k [])
def Dev.read (d : Dev) (k : Int) : List UInt8 × Int := if d.ask k ≠ 0 then ([], d.ask k) else (d.sector k.toNat, 0)
def Dev.new (n : Nat) : Dev := ⟨List.replicate n (List.replicate 32 0), [], false, 0, 0, 0⟩
def Dev.arm (d : Dev) (n : Int) : Dev := { d with armed := n.toNat }
theorem pad_length {b : List UInt8} (h : b.length ≤ 32) : (pad b).length = 32 := by simp [pad]; omega
theorem put_length (l : List (List UInt8)) (p : Nat × List UInt8) : (put l p).length = l.length := by simp [put]
theorem puts_length (ps : List (Nat × List UInt8)) : ∀ l : List (List UInt8), (ps.foldl put l).length = l.length := by
  induction ps with
  | nil => intro l; rfl
  | cons p ps ih => intro l; rw [List.foldl_cons, ih, put_length]
theorem put_get (l : List (List UInt8)) (p : Nat × List UInt8) (k : Nat) : (put l p).getD k [] = if p.1 = k ∧ k < l.length then p.2 else l.getD k [] := by
  unfold put
  simp only [List.getD]
  rw [List.getElem?_set]
  by_cases h : p.1 = k
  · subst h
    by_cases h2 : p.1 < l.length
    · simp [h2]
    · simp [h2]
  · simp [h]
/-- A kept row of sectors is one, and what is put into it, too. -/
def full (l : List (List UInt8)) : Prop := ∀ k, k < l.length → (l.getD k []).length = 32
theorem full_put {l : List (List UInt8)} {p : Nat × List UInt8} (h : full l) (hp : p.2.length = 32) : full (put l p) := by
  intro k hk
  rw [put_length] at hk
  rw [put_get]
  split
  · exact hp
  · exact h k hk
theorem full_puts {ps : List (Nat × List UInt8)} (hp : ∀ p ∈ ps, p.2.length = 32) : ∀ {l : List (List UInt8)}, full l → full (ps.foldl put l) := by
  induction ps with
  | nil => intro l h; exact h
  | cons p ps ih =>
    intro l h
    rw [List.foldl_cons]
    exact ih (fun q hq => hp q (by simp [hq])) (full_put h (hp p (by simp)))
theorem sel_sub (keep : List Int) : ∀ (l : List (Nat × List UInt8)) (i : Nat) (p : Nat × List UInt8), p ∈ sel keep i l → p ∈ l := by
  intro l
  induction l with
  | nil => intro i p h; simp [sel] at h
  | cons q l ih =>
    intro i p h
    unfold sel at h
    split at h
    · rcases List.mem_cons.1 h with h | h
      · subst h; simp
      · exact List.mem_cons_of_mem _ (ih _ _ h)
    · exact List.mem_cons_of_mem _ (ih _ _ h)
theorem new_ok (n : Nat) : (Dev.new n).ok := ⟨fun k hk => by simp [Dev.new] at hk; simp [Dev.new, List.getD, hk], fun p hp => by simp [Dev.new] at hp⟩
theorem step_ok {d : Dev} (h : d.ok) : d.step.ok := h
theorem write_ok {d : Dev} (h : d.ok) (k : Int) (b : List UInt8) : (d.write k b).1.ok := by
  unfold Dev.write
  by_cases h1 : d.ask k = 0
  · rw [if_neg (by simpa using h1)]
    by_cases h2 : 32 < b.length
    · rw [if_pos h2]; exact h
    · rw [if_neg h2]
      by_cases h3 : d.armed = 1
      · rw [if_pos h3]; exact h
      · rw [if_neg h3]
        refine ⟨h.1, fun p hp => ?_⟩
        simp only [List.mem_append, List.mem_singleton] at hp
        rcases hp with hp | rfl
        · exact h.2 p hp
        · refine ⟨?_, pad_length (by omega)⟩
          unfold Dev.ask at h1
          split at h1
          · omega
          · split at h1
            · omega
            · show k.toNat < d.kept.length
              omega
  · rw [if_pos h1]; exact h
theorem sync_ok {d : Dev} (h : d.ok) : d.sync.1.ok := by
  unfold Dev.sync
  by_cases h1 : d.down = true
  · rw [if_pos h1]; exact h
  · rw [if_neg h1]
    by_cases h3 : d.armed = 1
    · rw [if_pos h3]; exact h
    · rw [if_neg h3]
      exact ⟨full_puts (fun p hp => (h.2 p hp).2) h.1, fun p hp => by simp at hp⟩
theorem restart_ok {d : Dev} (h : d.ok) (keep : List Int) : (d.restart keep).1.ok :=
  ⟨full_puts (fun p hp => (h.2 p (sel_sub _ _ _ _ hp)).2) h.1, fun p hp => by simp [Dev.restart] at hp⟩
theorem over_length {ps : List (Nat × List UInt8)} (k : Nat) (hp : ∀ p ∈ ps, p.2.length = 32) : ∀ {s : List UInt8}, s.length = 32 → (ps.foldl (over k) s).length = 32 := by
  induction ps with
  | nil => intro s h; exact h
  | cons p ps ih =>
    intro s h
    rw [List.foldl_cons]
    refine ih (fun q hq => hp q (by simp [hq])) ?_
    unfold over
    split
    · exact hp p (by simp)
    · exact h
theorem sector_length {d : Dev} (h : d.ok) {k : Nat} (hk : k < d.kept.length) : (d.sector k).length = 32 := over_length k (fun p hp => (h.2 p hp).2) (h.1 k hk)
end Go.Proofs.Ytopemjbakpahfaa.Disk
