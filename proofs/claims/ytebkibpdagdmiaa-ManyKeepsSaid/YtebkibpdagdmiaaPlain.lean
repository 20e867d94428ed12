/-
  What a batch is, in plain Lean: no program, no memory, no condition.
-/
namespace Go.Proofs.Ytebkibpdagdmiaa
structure B where
  m : Int
  e : Int
  o : Int
  d : Int
  f : Int
def within (n lo hi : Int) : Bool := decide (lo ≤ n) && decide (n ≤ hi)
theorem within_true {n lo hi : Int} : within n lo hi = true ↔ lo ≤ n ∧ n ≤ hi := by simp [within]
def right (b : B) : Bool := within b.m 1 16 && within b.e 1 b.m && within b.o 0 b.m && within b.d 0 b.m && within b.f 0 b.m && within (b.o + b.d + b.f) 1 b.m
def over (b : B) : Bool := right b && (decide (b.e ≤ b.d) || b.o == 0)
def well (b : B) : Bool := right b && decide (b.e ≤ b.d)
def step (b : B) (k : Int) : B × Int :=
  if right b = false then (b, 1)
  else if over b = true then (b, 12)
  else if k = 0 then (if b.o + b.d + b.f = b.m then (b, 2) else (⟨b.m, b.e, b.o + 1, b.d, b.f⟩, 0))
  else if k = 1 then (⟨b.m, b.e, b.o - 1, b.d + 1, b.f⟩, 0)
  else if k = 2 then (⟨b.m, b.e, b.o - 1, b.d, b.f + 1⟩, 0)
  else (b, 0)
def close (b : B) : B × Int := if right b = false then (b, 0) else (⟨b.m, b.e, 0, b.d, b.f + b.o⟩, b.o)
def startM (x y z n : Int) : B × Int :=
  if x < 1 ∨ within y x 16 = false ∨ within z 1 y = false ∨ within n x y = false then (⟨0, 0, 0, 0, 0⟩, 1) else (⟨y, z, n, 0, 0⟩, 0)
def start (x y z n : Int) : B × Int := if x = 0 ∧ y = 0 ∧ z = 0 then startM 1 1 1 n else startM x y z n
theorem right_iff {b : B} : right b = true ↔ (1 ≤ b.m ∧ b.m ≤ 16) ∧ (1 ≤ b.e ∧ b.e ≤ b.m) ∧ (0 ≤ b.o) ∧ (0 ≤ b.d) ∧ (0 ≤ b.f) ∧ 1 ≤ b.o + b.d + b.f ∧ b.o + b.d + b.f ≤ b.m := by
  simp only [right, Bool.and_eq_true, within_true]; omega
end Go.Proofs.Ytebkibpdagdmiaa
