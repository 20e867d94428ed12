/-
  Contracts and plain laws, part 13 (texts: Get). No condition but what each states.
-/
import Derived.Test.YtopemjbakpahfaaSn12
/-
  Get of an area: for every place and every number of bytes. No condition but that the device's numbers are small.
-/
namespace Go.Proofs.Ytopemjbakpahfaa
open Go.RowKit Disk Jour
attribute [local go_sem] Oper.semAt_some
set_option linter.unusedSimpArgs false
set_option linter.unusedVariables false
theorem in_append_run {F : Fence} {n : Nat} (w : World) {o : Oper} {a : Act} {K : Act → World → Prop} {Q : Exit → Act → World → Prop} (s x : Operand) (t ty : TypeId)
    (hop : o.op = .call { callee := .builtin .append, args := #[s, x], argTypes := #[t, t] }) (hty : o.type = ty) (v u : Value) (hs : a.eval s = v) (hx : a.eval x = u) (v' : Value) (w' : World)
    (hr : (Builtin.append_ #[t, t] ty #[v, u]).run Try.prog w = .ok v' w') (h : K (a.put o.dst v') w') : o.wpIn F n Try.prog a w K Q := by
  subst hty
  unfold Oper.wpIn
  refine ⟨by simp [Oper.about, hop, resolve, Target.leads, Sem.run_pure], ?_⟩
  rw [Oper.semAt_plain F _ _ (by rw [hop]; intro c hc'; cases hc')]
  simp [execOp, hop, resolve, invoke, builtin, hs, hx, hr, Result.andThen]
  exact h
/-- Get, in plain Lean. -/
def jget (d : Dev) (first N : Nat) (p m : Int) : List UInt8 × Int :=
  if p < 0 ∨ m < 0 then ([], 1) else if roomB N p m = true then getParts d [] (parts (32 * first + p.toNat) m.toNat m.toNat 0) else ([], 2)
def getOf (d : Dev) {len : Nat} (pre : List (PartS len)) : List UInt8 × Int := getParts d [] (pre.map (·.1))
theorem getOf_snoc {d : Dev} {len : Nat} (pre : List (PartS len)) (x : PartS len) (hok : (getOf d pre).2 = 0) :
    getOf d (pre ++ [x]) = if (d.read (x.1.sec : Int)).2 ≠ 0 then ([], (d.read (x.1.sec : Int)).2) else ((getOf d pre).1 ++ ((d.read (x.1.sec : Int)).1.drop x.1.ins).take x.1.n, 0) := by
  unfold getOf at hok ⊢
  rw [List.map_append]
  exact getParts_snoc d x.1 _ _ hok
theorem getParts_len (d : Dev) : ∀ (ps : List Part) (out : List UInt8), (∀ p ∈ ps, p.n ≤ 32) → (getParts d out ps).1.length ≤ out.length + 32 * ps.length := by
  intro ps
  induction ps with
  | nil => intro out _; exact Nat.le_refl _
  | cons p ps ih =>
    intro out h
    unfold getParts
    split
    · simp
    · have h1 := ih (out ++ ((d.read (p.sec : Int)).1.drop p.ins).take p.n) (fun q hq => h q (by simp [hq]))
      have h2 := h p (by simp)
      simp only [List.length_append, List.length_take, List.length_drop, List.length_cons] at h1 ⊢
      omega
theorem getOf_len {d : Dev} {len : Nat} (pre : List (PartS len)) : (getOf d pre).1.length ≤ 32 * pre.length := by
  have h := getParts_len d (pre.map (·.1)) [] (fun p hp => by
    obtain ⟨x, _, rfl⟩ := List.mem_map.1 hp
    have := x.2.1.1
    omega)
  simpa [getOf] using h
/-- What Get hands back: bytes of the call's own, or nil; and an error's number. -/
def GetOf (w : World) (r : List UInt8 × Int) (en : Ending) (w' : World) : Prop := Below w.heap.size w w' ∧ ∃ v, en = .returned (.tuple #[v, .int .i64 r.2]) ∧ w'.ownsRow w.heap.size 5 1 v r.1.length (r.1.map byteV)
structure GetL (w : World) (A : Nat) (d : Dev) {len : Nat} (pre : List (PartS len)) (W : World) : Prop where
  bl : Below w.heap.size w W
  size : w.heap.size + 7 ≤ W.heap.size
  ok : (getOf d pre).2 = 0
  b0 : Boxed W w.heap.size 69 (.pointer (some ⟨A, 0, none⟩))
  b1 : Boxed W (w.heap.size + 1) 22 (.slice none 0 0)
  b2 : Boxed W (w.heap.size + 2) 25 (.int .i64 0)
  ex : ∃ v, Boxed W (w.heap.size + 3) 22 v ∧ W.ownsRow (w.heap.size + 7) 5 1 v (getOf d pre).1.length ((getOf d pre).1.map byteV)
structure GetX (w : World) (d : Dev) {len : Nat} (c : Code) (pre : List (PartS len)) (W : World) : Prop where
  c : c = .ret
  bl : Below w.heap.size w W
  ne : (getOf d pre).2 ≠ 0
  nil : (getOf d pre).1 = []
  b1 : Boxed W (w.heap.size + 1) 22 (.slice none 0 0)
  b2 : Boxed W (w.heap.size + 2) 25 (.int .i64 (getOf d pre).2)
theorem GetL.own (w : World) (A : Nat) (d : Dev) (len : Nat) : OwnFrom (w.heap.size + 7) (GetL w A d (len := len)) := fun s W W' row h hg hr => by
  obtain ⟨v, h1, h2⟩ := h.ex
  exact ⟨h.bl.grown hg (by have := h.size; omega) (fun k e => by have := (hr k e).1; omega), Nat.le_trans h.size hg.size, h.ok, boxed_grown h.b0 (by omega) hg hr, boxed_grown h.b1 (by omega) hg hr, boxed_grown h.b2 (by omega) hg hr,
    v, boxed_grown h1 (by omega) hg hr, owns_grown h2 hg (fun r e => .inr (hr r e).2)⟩
theorem GetX.own (w : World) (d : Dev) (len : Nat) (c : Code) : OwnFrom (w.heap.size + 7) (GetX w d (len := len) c) := fun s W W' row h hg hr =>
  ⟨h.c, h.bl.grown hg h.bl.size (fun k e => by have := (hr k e).1; omega), h.ne, h.nil, boxed_grown h.b1 (by omega) hg hr, boxed_grown h.b2 (by omega) hg hr⟩
theorem GetL.alloc {w : World} {A : Nat} {d : Dev} {len : Nat} {pre : List (PartS len)} {W : World} (h : GetL w A d pre W) (o : Obj) : GetL w A d pre (W.alloc o) :=
  GetL.own w A d len pre W _ none h (World.grownBy_alloc W o none) (fun _ e => by cases e)
theorem getOf_nil (w w' : World) (v : Value) (e : Int) (h : Below w.heap.size w w') (hv : v = .tuple #[.slice none 0 0, .int .i64 e]) : GetOf w ([], e) (.returned v) w' := by
  subst hv; exact ⟨h, _, rfl, World.ownsRow_nil _ _ _ _⟩
set_option maxRecDepth 100000 in
set_option maxHeartbeats 4000000 in
theorem get_any {F : Nat → Prop} {w : World} {B : Nat} {d : Dev} (h : IsDev F w B d) {A first N : Nat} (hA : IsArea w A B first N) (p m : Int) (hp : d.pend.length ≤ 100000) (hf : N = 0 ∨ first ≤ 1024) :
    Calls Try.prog 55 #[.pointer (some ⟨A, 0, none⟩), .int .i64 p, .int .i64 m] w (GetOf w (jget d first N p m)) := by
  obtain ⟨r, hr0⟩ : ∃ r, jget d first N p m = r := ⟨_, rfl⟩
  rw [hr0]
  have HR0 := Lib.hid hr0
  clear hr0
  have NIL := Lib.hid (getOf_nil w)
  refine (callsIn_wide (n := 5)).1 ?_
  refine callsIn_of_wp_marks Try.func55 rfl trivial ?_ rfl
  simp only [Try.ntmps55, List.size_toArray, List.length_cons, List.length_nil, Nat.reduceAdd, Nat.reduceSub, Array.replicate_succ, Array.replicate_zero, List.push_toArray, List.append_toArray, List.nil_append, List.cons_append]
  by_cases h0 : p < 0
  · obtain rfl : r = ([], 1) := by rw [← HR0.out]; unfold jget; rw [if_pos (.inl h0)]
    gi_wp2_with fail
    refine ⟨.tuple #[.slice none 0 0, .int .i64 1], by simp [results, Try.results55, go_sem], ?_⟩
    exact NIL.out _ _ 1 ((((Below.refl _ w).alloc (Nat.le_refl _) _).alloc (by simp) _).alloc (by simp; omega) _) rfl
  by_cases hm0 : m < 0
  · obtain rfl : r = ([], 1) := by rw [← HR0.out]; unfold jget; rw [if_pos (.inr hm0)]
    gi_wp2_with fail
    refine ⟨.tuple #[.slice none 0 0, .int .i64 1], by simp [results, Try.results55, go_sem], ?_⟩
    exact NIL.out _ _ 1 ((((Below.refl _ w).alloc (Nat.le_refl _) _).alloc (by simp) _).alloc (by simp; omega) _) rfl
  gi_wp2_with fail
  refine ⟨trivial, (callsIn_wide.2 (room_any (((hA.below (below_alloc w _)).below (below_alloc _ _)).below (below_alloc _ _)) p m)).mono ?_⟩
  rintro en w1 ⟨rfl, rfl⟩
  cases hroom : roomB N p m
  · obtain rfl : r = ([], 2) := by rw [← HR0.out]; unfold jget; rw [if_neg (by omega), hroom, if_neg (by decide)]
    clear hroom
    gi_wp2_with fail
    refine ⟨.tuple #[.slice none 0 0, .int .i64 2], by simp [results, Try.results55, go_sem], ?_⟩
    exact NIL.out _ _ 2 ((((Below.refl _ w).alloc (Nat.le_refl _) _).alloc (by simp) _).alloc (by simp; omega) _) rfl
  obtain ⟨q, rfl⟩ : ∃ q : Nat, p = (q : Int) := ⟨p.toNat, by omega⟩
  obtain ⟨m, rfl⟩ : ∃ k : Nat, m = (k : Int) := ⟨m.toNat, by omega⟩
  have hrm : q ≤ 32 * N ∧ m ≤ 32 * N - q := by
    unfold roomB at hroom
    simp at hroom
    omega
  have hrr : r = getParts d [] (parts (32 * first + q) m m 0) := by rw [← HR0.out]; unfold jget; rw [if_neg (by omega), hroom, if_pos rfl, Int.toNat_natCast, Int.toNat_natCast]
  have HRR := Lib.hid hrr
  clear hroom hrr HR0
  gi_wp2_with fail
  refine ⟨trivial, (callsIn_wide.2 (parts_any _ A (q : Int) (m : Int))).mono ?_⟩
  rintro en w1 ⟨rfl, rfl⟩
  gi_wp2_with fail
  simp only [Nat.add_assoc, Nat.reduceAdd]
  obtain ⟨W0, hW0⟩ : ∃ W0, partsW ((((w.alloc (.cells #[.pointer (some ⟨A, 0, none⟩)] 69)).alloc (.cells #[.slice none 0 0] 22)).alloc (.cells #[.int .i64 0] 25)).alloc (.cells #[.slice none 0 0] 22)) A (q : Int) (m : Int) = W0 := ⟨_, rfl⟩
  have hsz : W0.heap.size = w.heap.size + 7 := by rw [← hW0]; simp [partsW]
  have hBW : Below w.heap.size w W0 := by
    rw [← hW0]
    exact ((((((((Below.refl _ w).alloc (Nat.le_refl _) _).alloc (by simp) _).alloc (by simp; omega) _).alloc (by simp; omega) _).alloc (by simp; omega) _).alloc (by simp; omega) _).alloc (by simp; omega) _)
  have x0 : Boxed W0 (w.heap.size) 69 (.pointer (some ⟨A, 0, none⟩)) := by
    rw [← hW0]
    have := ((((((Boxed.new w 69 (.pointer (some ⟨A, 0, none⟩))).alloc (.cells #[.slice none 0 0] 22)).alloc (.cells #[.int .i64 0] 25)).alloc (.cells #[.slice none 0 0] 22)).alloc (.cells #[.pointer (some ⟨A, 0, none⟩)] 69)).alloc (.cells #[.int .i64 (q : Int)] 3)).alloc (.cells #[.int .i64 (m : Int)] 3)
    simpa only [World.size_alloc, Nat.add_assoc, Nat.reduceAdd, partsW] using this
  have x1 : Boxed W0 (w.heap.size + 1) 22 (.slice none 0 0) := by
    rw [← hW0]
    have := (((((Boxed.new (w.alloc (.cells #[.pointer (some ⟨A, 0, none⟩)] 69)) 22 (.slice none 0 0)).alloc (.cells #[.int .i64 0] 25)).alloc (.cells #[.slice none 0 0] 22)).alloc (.cells #[.pointer (some ⟨A, 0, none⟩)] 69)).alloc (.cells #[.int .i64 (q : Int)] 3)).alloc (.cells #[.int .i64 (m : Int)] 3)
    simpa only [World.size_alloc, Nat.add_assoc, Nat.reduceAdd, partsW] using this
  have x2 : Boxed W0 (w.heap.size + 2) 25 (.int .i64 0) := by
    rw [← hW0]
    have := ((((Boxed.new ((w.alloc (.cells #[.pointer (some ⟨A, 0, none⟩)] 69)).alloc (.cells #[.slice none 0 0] 22)) 25 (.int .i64 0)).alloc (.cells #[.slice none 0 0] 22)).alloc (.cells #[.pointer (some ⟨A, 0, none⟩)] 69)).alloc (.cells #[.int .i64 (q : Int)] 3)).alloc (.cells #[.int .i64 (m : Int)] 3)
    simpa only [World.size_alloc, Nat.add_assoc, Nat.reduceAdd, partsW] using this
  have x3 : Boxed W0 (w.heap.size + 3) 22 (.slice none 0 0) := by
    rw [← hW0]
    have := (((Boxed.new (((w.alloc (.cells #[.pointer (some ⟨A, 0, none⟩)] 69)).alloc (.cells #[.slice none 0 0] 22)).alloc (.cells #[.int .i64 0] 25)) 22 (.slice none 0 0)).alloc (.cells #[.pointer (some ⟨A, 0, none⟩)] 69)).alloc (.cells #[.int .i64 (q : Int)] 3)).alloc (.cells #[.int .i64 (m : Int)] 3)
    simpa only [World.size_alloc, Nat.add_assoc, Nat.reduceAdd, partsW] using this
  have x4 : Boxed W0 (w.heap.size + 4) 69 (.pointer (some ⟨A, 0, none⟩)) := by
    rw [← hW0]
    have := ((Boxed.new ((((w.alloc (.cells #[.pointer (some ⟨A, 0, none⟩)] 69)).alloc (.cells #[.slice none 0 0] 22)).alloc (.cells #[.int .i64 0] 25)).alloc (.cells #[.slice none 0 0] 22)) 69 (.pointer (some ⟨A, 0, none⟩))).alloc (.cells #[.int .i64 (q : Int)] 3)).alloc (.cells #[.int .i64 (m : Int)] 3)
    simpa only [World.size_alloc, Nat.add_assoc, Nat.reduceAdd, partsW] using this
  have x5 : Boxed W0 (w.heap.size + 5) 3 (.int .i64 (q : Int)) := by
    rw [← hW0]
    have := (Boxed.new (((((w.alloc (.cells #[.pointer (some ⟨A, 0, none⟩)] 69)).alloc (.cells #[.slice none 0 0] 22)).alloc (.cells #[.int .i64 0] 25)).alloc (.cells #[.slice none 0 0] 22)).alloc (.cells #[.pointer (some ⟨A, 0, none⟩)] 69)) 3 (.int .i64 (q : Int))).alloc (.cells #[.int .i64 (m : Int)] 3)
    simpa only [World.size_alloc, Nat.add_assoc, Nat.reduceAdd, partsW] using this
  have x6 : Boxed W0 (w.heap.size + 6) 3 (.int .i64 (m : Int)) := by
    rw [← hW0]
    have := Boxed.new ((((((w.alloc (.cells #[.pointer (some ⟨A, 0, none⟩)] 69)).alloc (.cells #[.slice none 0 0] 22)).alloc (.cells #[.int .i64 0] 25)).alloc (.cells #[.slice none 0 0] 22)).alloc (.cells #[.pointer (some ⟨A, 0, none⟩)] 69)).alloc (.cells #[.int .i64 (q : Int)] 3)) 3 (.int .i64 (m : Int))
    simpa only [World.size_alloc, Nat.add_assoc, Nat.reduceAdd, partsW] using this
  rw [hW0]
  clear hW0
  have hAW := hA.below hBW
  have hlt : ∀ k ∈ [A, w.heap.size + 6, w.heap.size + 5, w.heap.size + 4], k < w.heap.size + 7 := by
    have := hA.lt
    intro k hk
    simp at hk
    rcases hk with rfl | rfl | rfl | rfl <;> omega
  have hseq := parts1_stops W0 A B first N (w.heap.size + 6) (w.heap.size + 5) (w.heap.size + 4) q m 4 hAW x6 x5 x4 (by have := hA.n; omega) (by omega)
  have hL0 : GetL w A d (len := m) [] W0 := ⟨hBW, by omega, rfl, x0, x1, x2, .slice none 0 0, x3, World.ownsRow_nil _ _ _ _⟩
  rw [← hsz] at hlt
  have hDW0 := h.below hBW
  have hm32 : m ≤ 32768 := by have := hA.n; omega
  refine wpIn_rangeFunc_ownH (w0 := W0) rfl (by omega) (gf := 104) (lb := #[.pointer (some ⟨w.heap.size + 6, 0, none⟩), .pointer (some ⟨w.heap.size + 5, 0, none⟩), .pointer (some ⟨w.heap.size + 4, 0, none⟩)]) rfl trivial (enters_of Try.func104 (by kernel_rfl) rfl)
    hseq (fun h k => h.trans k) (fun W l o o' hl hW ho _ => KeepP.put o' (fun k hk => by have := hlt k hk; omega) hW ho) (Below.refl _ _) (fun _ => rfl)
    (GetL w A d) (GetX w d) (by rw [hsz]; exact GetL.own w A d m) (fun c => by rw [hsz]; exact GetX.own w d m c) hL0
    (fun x a' W => ∃ g, w.heap.size + 7 ≤ g ∧ W.heap[g]? = some (.cells (pcell3 x.1) 127 (0, 0)) ∧ a' = { tmps := #[Value.pointer (some ⟨A, 0, none⟩), Value.int .i64 (q : Int), Value.int .i64 (m : Int), Value.pointer (some ⟨w.heap.size, 0, none⟩), undef, undef, Value.pointer (some ⟨w.heap.size + 1, 0, none⟩), Value.pointer (some ⟨w.heap.size + 2, 0, none⟩), Value.pointer (some ⟨w.heap.size + 3, 0, none⟩), Value.int .i64 (x.1.sec : Int), Value.pointer (some ⟨g, 0, none⟩), undef, undef, Value.bool false, Value.int .i64 (q : Int), Value.bool false, Value.bool false, Value.int .i64 (m : Int), Value.bool false, Value.bool false, Value.bool false, Value.pointer (some ⟨A, 0, none⟩), Value.int .i64 (q : Int), Value.int .i64 (m : Int), Value.bool true, Value.bool false, Value.pointer (some ⟨A, 0, none⟩), Value.int .i64 (q : Int), Value.int .i64 (m : Int), Value.func (Fn.func 104) #[] #[Value.pointer (some ⟨w.heap.size + 6, 0, none⟩), Value.pointer (some ⟨w.heap.size + 5, 0, none⟩), Value.pointer (some ⟨w.heap.size + 4, 0, none⟩)], Value.int .i64 (x.1.sec : Int), Value.agg (pcell3 x.1), undef, undef, undef, undef, undef, undef, undef, undef, undef, undef, undef, undef, undef, undef, undef, undef, undef, undef, undef, undef, undef, undef, undef, undef], defers := [] })
    (fun x a' s W W' row h hg hr => by
      obtain ⟨g, h0, h1, h2⟩ := h
      exact ⟨g, h0, (hg.block g (Array.getElem?_eq_some_iff.1 h1).1 (fun e => by obtain ⟨_, o, ho, hc⟩ := hr g e.symm; rw [h1] at ho; cases ho; cases hc)).trans h1, h2⟩) ?assign ?body ?done ?stop
  case assign =>
    intro l pre x W K hi hK
    have hs6 := hi.size
    have hK2 := hK _ _ ((KeepsOthers.alloc W (.cells (pcell3 x.1) 127)).from _) (KeepP.alloc (fun k hk => by have := hlt k hk; omega) _) (hi.alloc _) ⟨W.heap.size, hs6, heap_alloc_new W _, rfl⟩
    have HK2 := Lib.hid hK2
    clear hK2 hK
    dsimp only [PartS.enc, pcell3] at HK2 ⊢
    gi_wp2
    exact HK2.out
  case body =>
    rintro l pre x a' W hl ⟨rr, hrr⟩ ⟨hbl, hsz7, hok, y0, y1, y2, vo, y3, hown⟩ ⟨g, hg7, hg, rfl⟩ hlen
    have hAr := hA.below hbl
    have hDW := h.below hbl
    have hsn := getOf_snoc pre x hok
    have holen := getOf_len (d := d) pre
    obtain ⟨⟨hx1, hx2⟩, hx3, hx4⟩ := x.2
    obtain ⟨px, hpx⟩ : ∃ px, pre ++ [x] = px := ⟨_, rfl⟩
    rw [hpx] at hsn ⊢
    clear hpx hok
    generalize (getOf d pre).1 = out at hown hsn holen
    generalize x.1 = xp at hx1 hx2 hx3 hx4 hg hsn ⊢
    obtain ⟨sec, ins, outs, n⟩ := xp
    dsimp only at hx1 hx2 hx3 hx4 hsn
    dsimp only [pcell3] at hg ⊢
    have HSN := Lib.hid hsn
    clear hsn
    have c0 := y0.cell
    have cA : W.cell? ⟨A, 0, none⟩ = some (.pointer (some ⟨B, 0, none⟩)) := Joins.cell_of_block hAr.blk 0
    gi_wp2_with fail
    refine ⟨trivial, (CallsIn.inRound l (callsIn_wide.2 (read_any hDW (sec : Int) hp))).mono ?_⟩
    rintro en W1 ⟨b1, v, rfl, hsec⟩
    have kb : ∀ {k : Nat} {t : TypeId} {u : Value}, Boxed W k t u → Boxed W1 k t u := fun h => h.kept (grown_below b1) (by simp)
    have z0 := kb y0
    have z1 := kb y1
    have z2 := kb y2
    have z3 := kb y3
    have hown1 := owns_below hown b1
    have bl1 := hbl.trans (b1.mono hbl.size)
    have KF1 : KeepsFrom W0.heap.size W W1 := keepsFrom_below b1
    have cz1 := z1.cell
    have fz1 := z1.frozen
    have cz2 := z2.cell
    have fz2 := z2.frozen
    clear kb hown
    by_cases hz : (d.read (sec : Int)).2 = 0
    rotate_left
    · have hne : (((d.read (sec : Int)).2 : Int) != 0) = true := by rw [bne_iff_ne]; exact hz
      have HD1 : getOf d px = ([], (d.read (sec : Int)).2) := by rw [HSN.out, if_pos hz]
      have HD2 := Lib.hid HD1
      clear HD1
      generalize (d.read (sec : Int)).2 = re at hz hne HD2
      have z2' := z2.other (B' := w.heap.size + 1) (by omega) (.slice none 0 0)
      have cz2' := z2'.cell
      have fz2' := z2'.frozen
      gi_wp2
      exact ⟨(KF1.trans ((KeepsOthers.setCell _ _ _).from _)).trans ((KeepsOthers.setCell _ _ _).from _), rfl, (bl1.setCell (p := ⟨w.heap.size + 1, 0, none⟩) (by simp) _).setCell (p := ⟨w.heap.size + 2, 0, none⟩) (by simp) _, by rw [HD2.out]; exact hz, by rw [HD2.out], (z1.set _).other (by omega) _, by rw [HD2.out]; exact z2'.set _⟩
    obtain ⟨hl32, hs0, hs1⟩ := read_len h.ok hz
    have HD1 : getOf d px = (out ++ ((d.read (sec : Int)).1.drop ins).take n, 0) := by rw [HSN.out, if_neg (by simpa using hz)]
    rw [hz]
    have HD2 := Lib.hid HD1
    clear HD1 HSN hz
    generalize (d.read (sec : Int)).1 = sl at hsec hl32 HD2
    rcases hsec with ⟨_, e0⟩ | ⟨gs, rfl, _, hgs1, hgs2, hrg, hth⟩
    · rw [e0] at hl32; cases hl32
    have hgW : g < W.heap.size := (Array.getElem?_eq_some_iff.1 hg).1
    have hg1 := (b1.block g hgW).trans hg
    obtain ⟨S, hS⟩ : ∃ S : World → Prop, S = fun w' => w'.cell? ⟨g, 0, none⟩ = some (.int .i64 (ins : Int)) ∧ w'.cell? ⟨g, 1, none⟩ = some (.int .i64 (outs : Int)) ∧ w'.cell? ⟨g, 2, none⟩ = some (.int .i64 (n : Int)) := ⟨_, rfl⟩
    have hSS : Hid (∀ w', S w' → w'.cell? ⟨g, 0, none⟩ = some (.int .i64 (ins : Int)) ∧ w'.cell? ⟨g, 1, none⟩ = some (.int .i64 (outs : Int)) ∧ w'.cell? ⟨g, 2, none⟩ = some (.int .i64 (n : Int))) := fun w' h => by rw [hS] at h; exact h
    have hSb : ∀ w' : World, w'.heap[g]? = some (.cells #[.int .i64 (ins : Int), .int .i64 (outs : Int), .int .i64 (n : Int)] 127 (0, 0)) → S w' := fun w' h1 => by
      rw [hS]; exact ⟨Joins.cell_of_block h1 0, Joins.cell_of_block h1 1, Joins.cell_of_block h1 2⟩
    obtain ⟨pc, hpc⟩ : ∃ pc, (sl.drop ins).take n = pc := ⟨_, rfl⟩
    have pcl : pc.length = n := by rw [← hpc]; simp; omega
    have rbs : RB W1.drew (some ⟨gs, ins, none⟩) pc := by
      have hr0 : RB W1 (some ⟨gs, 0, none⟩) sl := fun i hi => ⟨gs, 0, rfl, hgs2, by have := hrg i (byteV (sl.getD i 0)) (by simp [List.getD, hi]); simpa using this⟩
      have := (hr0.below (Below.refl _ _).drew).drop_take ins n
      rw [hpc] at this
      simpa using this
    have s0 : S W1.drew := hSb _ hg1
    have hownd := owns_below hown1 ((Below.refl _ W1).drew)
    have z3d : Boxed W1.drew (w.heap.size + 3) 22 vo := z3
    have cz3d := z3d.cell
    have hs1' := b1.size
    obtain ⟨i0, hi', hz0, hz1, hz2⟩ := info_parts info5
    obtain ⟨v', w', hrun, own', gr', _, _⟩ := run_append_own_at (P := Try.prog) W1.drew (w.heap.size + 7) 22 22 5 i0 (.int .u8 0) 1 1 Try.underlying22 hi' hz0 hz1 hz2 rfl (by decide) vo out.length _ hownd ⟨gs, ins, none⟩ n (32 - ins) (pc.map byteV) (by rw [List.length_map, pcl]; omega) rbs.news (oneCell_bytes _) (by unfold maxLen; omega) (by omega) (by show _ ≤ W1.heap.size; omega)
    have hgrow := gr'.size
    have hgrow' : W1.heap.size ≤ w'.heap.size := hgrow
    have ob : ∀ k, k < W1.heap.size → k < w.heap.size + 7 ∨ (∃ C, W1.heap[k]? = some (.cells C 127 (0, 0))) → w'.heap[k]? = W1.heap[k]? := fun k hk hor => by
      refine gr'.block k hk (fun e => ?_)
      have hlt2 := hownd.lt k e.symm
      rcases hor with h1 | ⟨C, h1⟩
      · omega
      · rcases hownd.2 with ⟨rfl, _⟩ | ⟨g', cap, cur, rfl, _, hh, _⟩
        · simp [Value.ownBlock] at e
        · obtain rfl : g' = k := by simpa [Value.ownBlock] using e.symm
          have hh' : W1.heap[g']? = some (.cells cur 5 (0, 0)) := hh
          rw [h1] at hh'; cases hh'
    have s1 : S w' := hSb _ ((ob g (by omega) (.inr ⟨_, hg1⟩)).trans hg1)
    have z3' : Boxed w' (w.heap.size + 3) 22 vo := (ob _ z3.lt (.inl (by omega))).trans z3
    have fz3' := z3'.frozen
    have cz3' := z3'.cell
    obtain ⟨av, cv, hv', _, _, _⟩ := RB.of_owns (l := out ++ pc) (t := 5) (n := out.length + n) (base := w.heap.size + 7) (w := w') (v := v') (by simpa using own')
    rw [List.length_append, pcl] at hv'
    subst hv'
    have s2 : S (w'.setCell ⟨w.heap.size + 3, 0, none⟩ (.slice av (out.length + n) cv)) := hSb _ ((Below.heap_setCell _ _ _ _ (by show g ≠ w.heap.size + 3; omega)).trans ((ob g (by omega) (.inr ⟨_, hg1⟩)).trans hg1))
    have HRUN := Lib.hid hrun
    have OW := Lib.hid own'
    have OB := Lib.hid ob
    have GR := Lib.hid gr'
    have hi0 : (0 : Int) ≤ (ins : Int) := by omega
    have hi1 : (ins : Int) < 32 := by omega
    have hi2 : (ins : Int) + (n : Int) ≤ 32 := by omega
    have hn0 : (0 : Int) < (n : Int) := by omega
    clear hS hSb hg1 hrun own' ob gr' hi' hz0 hz1 hz2 rbs hrg hth
    gi_wp2_with fail
    refine wpIn_region_held (S := S) (by kernel_rfl) ?_
    change wpHIn _ _ _ _ _ _ _ _ _ _ (World.drew _)
    refine wpHIn_take (i := 1) (v := .slice (some ⟨gs, 0, none⟩) 32 32) (by kernel_rfl) rfl (by kernel_rfl) (by kernel_rfl) (by kernel_rfl) (fun _ _ _ h => h) (by rfl) (by intro w hw; go_simp) (by intro w; go_simp) s0 ?_
    try simp only [Act.put, List.getElem_toArray, List.getElem_cons_zero, List.getElem_cons_succ, List.setIfInBounds_toArray, List.set_cons_zero, List.set_cons_succ]
    refine wpHIn_take (i := 2) (v := .pointer (some ⟨g, 0, none⟩)) (by kernel_rfl) rfl (by kernel_rfl) (by kernel_rfl) (by kernel_rfl) (fun _ _ _ h => h) (by rfl) (by intro w hw; go_simp) (by intro w; go_simp) s0 ?_
    try simp only [Act.put, List.getElem_toArray, List.getElem_cons_zero, List.getElem_cons_succ, List.setIfInBounds_toArray, List.set_cons_zero, List.set_cons_succ]
    refine wpHIn_take (i := 3) (v := .int .i64 (ins : Int)) (by kernel_rfl) rfl (by kernel_rfl) (by kernel_rfl) (by kernel_rfl) (fun _ _ _ h => h) (by rfl) (by intro w hw; have h := hSS.out w hw; obtain ⟨h1, h2, h3⟩ := h; go_simp) (by intro w; go_simp) s0 ?_
    try simp only [Act.put, List.getElem_toArray, List.getElem_cons_zero, List.getElem_cons_succ, List.setIfInBounds_toArray, List.set_cons_zero, List.set_cons_succ]
    refine wpHIn_take (i := 4) (v := .pointer (some ⟨g, 0, none⟩)) (by kernel_rfl) rfl (by kernel_rfl) (by kernel_rfl) (by kernel_rfl) (fun _ _ _ h => h) (by rfl) (by intro w hw; go_simp) (by intro w; go_simp) s0 ?_
    try simp only [Act.put, List.getElem_toArray, List.getElem_cons_zero, List.getElem_cons_succ, List.setIfInBounds_toArray, List.set_cons_zero, List.set_cons_succ]
    refine wpHIn_take (i := 5) (v := .int .i64 (ins : Int)) (by kernel_rfl) rfl (by kernel_rfl) (by kernel_rfl) (by kernel_rfl) (fun _ _ _ h => h) (by rfl) (by intro w hw; have h := hSS.out w hw; obtain ⟨h1, h2, h3⟩ := h; go_simp) (by intro w; go_simp) s0 ?_
    try simp only [Act.put, List.getElem_toArray, List.getElem_cons_zero, List.getElem_cons_succ, List.setIfInBounds_toArray, List.set_cons_zero, List.set_cons_succ]
    refine wpHIn_take (i := 6) (v := .pointer (some ⟨g, 2, none⟩)) (by kernel_rfl) rfl (by kernel_rfl) (by kernel_rfl) (by kernel_rfl) (fun _ _ _ h => h) (by rfl) (by intro w hw; go_simp) (by intro w; go_simp) s0 ?_
    try simp only [Act.put, List.getElem_toArray, List.getElem_cons_zero, List.getElem_cons_succ, List.setIfInBounds_toArray, List.set_cons_zero, List.set_cons_succ]
    refine wpHIn_take (i := 7) (v := .int .i64 (n : Int)) (by kernel_rfl) rfl (by kernel_rfl) (by kernel_rfl) (by kernel_rfl) (fun _ _ _ h => h) (by rfl) (by intro w hw; have h := hSS.out w hw; obtain ⟨h1, h2, h3⟩ := h; go_simp) (by intro w; go_simp) s0 ?_
    try simp only [Act.put, List.getElem_toArray, List.getElem_cons_zero, List.getElem_cons_succ, List.setIfInBounds_toArray, List.set_cons_zero, List.set_cons_succ]
    refine wpHIn_take (i := 8) (v := .int .i64 ((ins : Int) + (n : Int))) (by kernel_rfl) rfl (by kernel_rfl) (by kernel_rfl) (by kernel_rfl) (fun _ _ _ h => h) (by rfl) (by intro w hw; go_simp; exact IntWalk.i64_in _ (by omega)) (by intro w; go_simp) s0 ?_
    try simp only [Act.put, List.getElem_toArray, List.getElem_cons_zero, List.getElem_cons_succ, List.setIfInBounds_toArray, List.set_cons_zero, List.set_cons_succ]
    refine wpHIn_take (i := 9) (v := .slice (some ⟨gs, ins, none⟩) n (32 - ins)) (by kernel_rfl) rfl (by kernel_rfl) (by kernel_rfl) (by kernel_rfl) (fun _ _ _ h => h) (by rfl) (by intro w hw; go_simp; rw [if_pos (by omega), if_pos (by omega), if_neg (by omega), show ((ins : Int) + (n : Int)).toNat - ins = n by omega]) (by intro w; go_simp) s0 ?_
    try simp only [Act.put, List.getElem_toArray, List.getElem_cons_zero, List.getElem_cons_succ, List.setIfInBounds_toArray, List.set_cons_zero, List.set_cons_succ]
    refine wpHIn_one (i := 0) (by kernel_rfl) rfl (by rfl) (fun Kc hK => ?_)
    go_simp
    refine hK _ _ s0 ?_
    clear hK Kc
    try simp only [Act.put, List.getElem_toArray, List.getElem_cons_zero, List.getElem_cons_succ, List.setIfInBounds_toArray, List.set_cons_zero, List.set_cons_succ]
    refine wpHIn_one (i := 10) (by kernel_rfl) rfl (by rfl) (fun Kc hK => ?_)
    refine in_append_run _ (.tmp 44) (.tmp 53) 22 22 rfl rfl _ _ rfl rfl _ _ HRUN.out ?_
    refine hK _ _ s1 ?_
    clear hK Kc
    try simp only [Act.put, List.getElem_toArray, List.getElem_cons_zero, List.getElem_cons_succ, List.setIfInBounds_toArray, List.set_cons_zero, List.set_cons_succ]
    refine wpHIn_one (i := 11) (by kernel_rfl) rfl (by rfl) (fun Kc hK => ?_)
    go_simp
    refine hK _ _ s2 ?_
    clear hK Kc
    try simp only [Act.put, List.getElem_toArray, List.getElem_cons_zero, List.getElem_cons_succ, List.setIfInBounds_toArray, List.set_cons_zero, List.set_cons_succ]
    refine wpHIn_done (by kernel_rfl) ?_ _
    have ob := OB.out
    have own' := OW.out
    have gr' := GR.out
    have o2 := owns_other own' (grownBy_setCell' w' (w.heap.size + 3) (.slice av (out.length + n) cv)) (rowOf_box z3') (by decide)
    have e1 : ((out ++ pc).map byteV) = out.map byteV ++ pc.map byteV := by rw [List.map_append]
    have e2 : (out ++ pc).length = out.length + n := by rw [List.length_append, pcl]
    have o3 : (w'.setCell ⟨w.heap.size + 3, 0, none⟩ (.slice av (out.length + n) cv)).ownsRow (w.heap.size + 7) 5 1 (.slice av (out.length + n) cv) (out ++ pc).length ((out ++ pc).map byteV) := by rw [e1, e2]; exact o2
    have q0 := (ob _ z0.lt (.inl (by omega))).trans z0
    have q1 := (ob _ z1.lt (.inl (by omega))).trans z1
    have q2 := (ob _ z2.lt (.inl (by omega))).trans z2
    have bZ : Below w.heap.size w (w'.setCell ⟨w.heap.size + 3, 0, none⟩ (.slice av (out.length + n) cv)) := ((bl1.drew).grown gr' bl1.size (fun k e => by have := (hownd.lt k e).1; omega)).setCell (p := ⟨w.heap.size + 3, 0, none⟩) (by simp) _
    have kF : KeepsFrom W0.heap.size W (w'.setCell ⟨w.heap.size + 3, 0, none⟩ (.slice av (out.length + n) cv)) :=
      ((KF1.trans (keepsFrom_below ((Below.refl _ W1).drew))).trans ((keepsOthers_row gr' (rowOf_owns hownd)).from _)).trans ((KeepsOthers.setCell _ _ _).from _)
    have kP : KeepP [A, w.heap.size + 6, w.heap.size + 5, w.heap.size + 4] W (w'.setCell ⟨w.heap.size + 3, 0, none⟩ (.slice av (out.length + n) cv)) := by
      have hAlt := hA.lt
      refine ⟨fun k hk => ?_, fun k hk => ?_⟩
      · have hk6 := hlt k hk
        have hk3 : k ≠ w.heap.size + 3 := by
          simp at hk
          rcases hk with rfl | rfl | rfl | rfl <;> omega
        exact (Below.heap_setCell _ _ _ _ hk3).trans ((ob k (by omega) (.inl (by omega))).trans (b1.block k (by omega)))
      · obtain ⟨C, hC⟩ := hk
        have hkW : k < W.heap.size := (Array.getElem?_eq_some_iff.1 hC).1
        have hC1 := (b1.block k hkW).trans hC
        have hk3 : k ≠ w.heap.size + 3 := by
          rintro rfl
          have h9 : W.heap[w.heap.size + 3]? = _ := y3
          rw [hC] at h9; cases h9
        exact (Below.heap_setCell _ _ _ _ hk3).trans ((ob k (by omega) (.inr ⟨C, hC1⟩)).trans (b1.block k hkW))
    have FIN := Lib.hid (show GetL w A d px (w'.setCell ⟨w.heap.size + 3, 0, none⟩ (.slice av (out.length + n) cv)) from by
      refine ⟨bZ, by simp; omega, by rw [HD2.out], Boxed.other q0 (by omega) _, Boxed.other q1 (by omega) _, Boxed.other q2 (by omega) _, _, z3'.set _, ?_⟩
      rw [HD2.out, hpc]
      exact o3)
    have KFF := Lib.hid kF
    have KPP := Lib.hid kP
    clear kF kP bZ o3 o2 e1 e2 q0 q1 q2 ob own' gr'
    gi_wp2
    exact ⟨KFF.out, KPP.out, FIN.out⟩
  case done =>
    rintro D xs W hD hxs ⟨hbl, hsz7, hok, y0, y1, y2, vo, y3, hown⟩ hDW
    have hrr := HRR.out
    rw [← hxs] at hrr
    have hr1 : getOf d xs = r := hrr.symm
    rw [hr1] at hown hok
    have HOK := Lib.hid hok
    have HOW := Lib.hid hown
    clear hrr hr1 hxs hok hown
    have c3 := y3.cell
    have c1 := y1.cell
    have f1 := y1.frozen
    have z1 := y1.set vo
    have z2 := y2.other (B' := w.heap.size + 1) (by omega) vo
    have c2 := z2.cell
    have f2 := z2.frozen
    have hK1 := (KeepsOthers.setCell W ⟨w.heap.size + 1, 0, none⟩ vo).same D _ hDW rfl
    have hK2 := (KeepsOthers.setCell (W.setCell ⟨w.heap.size + 1, 0, none⟩ vo) ⟨w.heap.size + 2, 0, none⟩ (.int .i64 0)).same D _ hK1 rfl
    have y1' := (z1.other (B' := w.heap.size + 2) (by omega) (.int .i64 0)).kept (grownBy_putObj' _ D (.deferred none)) (by simp; omega)
    have y2' := (z2.set (.int .i64 0)).kept (grownBy_putObj' _ D (.deferred none)) (by simp; omega)
    have d1 := y1'.cell
    have d2 := y2'.cell
    have o1 := owns_other HOW.out (grownBy_setCell' W (w.heap.size + 1) vo) (rowOf_box y1) (by decide)
    have o2 := owns_other o1 (grownBy_setCell' _ (w.heap.size + 2) (.int .i64 0)) (rowOf_box z2) (by decide)
    have O3 := Lib.hid (ownsRow_putObj o2 (.deferred none) hK2 rfl)
    have B3 := Lib.hid (((hbl.setCell (p := ⟨w.heap.size + 1, 0, none⟩) (by simp) vo).setCell (p := ⟨w.heap.size + 2, 0, none⟩) (by simp) (.int .i64 0)).trans (below_put (n₀ := w.heap.size) (.deferred none) (by omega) hK2))
    obtain ⟨av, cv, rfl, _, _, _⟩ := RB.of_owns HOW.out
    clear o1 o2
    gi_wp2
    refine ⟨by simp, .inl ⟨_, _, rfl, run_takeDeferred hK2, ?_⟩⟩
    refine ⟨.tuple #[.slice av r.1.length cv, .int .i64 0], by simp [results, Try.results55, go_sem, d1, d2], ?_⟩
    exact ⟨B3.out, _, by rw [HOK.out], ownsRow_base O3.out (by omega)⟩
  case stop =>
    rintro D c pre W hD ⟨rest, hrest⟩ ⟨rfl, hbl, hne, hnil, y1, y2⟩ hDW
    have hrr := HRR.out
    rw [hrest, getParts_stop d rest _ _ hne] at hrr
    have hr1 : getOf d pre = r := hrr.symm
    rw [hr1] at hnil y2
    have HNIL := Lib.hid hnil
    have y1' := y1.kept (grownBy_putObj' W D (.deferred none)) (by simp; omega)
    have y2' := y2.kept (grownBy_putObj' W D (.deferred none)) (by simp; omega)
    have d1 := y1'.cell
    have d2 := y2'.cell
    have B3 := Lib.hid (hbl.trans (below_put (n₀ := w.heap.size) (.deferred none) (by omega) hDW))
    clear hrr hr1 hne hrest hnil
    gi_wp2
    refine ⟨by simp, .inl ⟨_, _, rfl, run_takeDeferred hDW, ?_⟩⟩
    refine ⟨.tuple #[.slice none 0 0, .int .i64 r.2], by simp [results, Try.results55, go_sem, d1, d2], ?_⟩
    exact ⟨B3.out, _, rfl, by rw [HNIL.out]; exact World.ownsRow_nil _ _ _ _⟩
end Go.Proofs.Ytopemjbakpahfaa
