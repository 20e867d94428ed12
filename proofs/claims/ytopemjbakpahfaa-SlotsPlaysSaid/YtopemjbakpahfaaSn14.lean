/-
  Contracts and plain laws, part 14 (texts: RowsC, JFr, IntRow, JSmall, JLaw, SP0, Ref0). No condition but what each states.
-/
import Derived.Test.YtopemjbakpahfaaSn13
import Derived.Maps.AppendAt
import Derived.Laws.OwnMore
/-
  The contract of Rows: two rows of rows are alike. No condition but that the machine's numbers hold the lengths.
-/
namespace Go.Proofs.Ytopemjbakpahfaa
open Go.RowKit Crc
theorem same_ext {A B : List (List UInt8)} (hl : A.length = B.length) (h : ∀ j, j < A.length → A.getD j [] = B.getD j []) : A = B := by
  apply List.ext_getElem hl
  intro i h1 h2
  have := h i h1
  simpa [List.getD, h1, h2] using this
set_option maxRecDepth 100000 in
set_option maxHeartbeats 4000000 in
theorem rows_any (A B : List (List UInt8)) (a b : Option Addr) (ca cb : Nat) (w : World) (hA : (A.length : Int) ≤ 9223372036854775807) (hRA : RR w a A) (hRB : RR w b B) :
    Calls Try.prog 50 #[.slice a A.length ca, .slice b B.length cb] w fun en w' => en = .returned (.bool (decide (A = B))) ∧ Below w.heap.size w w' := by
  have HA := Lib.hid hRA
  have HB := Lib.hid hRB
  clear hRA hRB
  go_enter Try.func50, Try.ntmps50
  by_cases hl : A.length = B.length
  rotate_left
  · have hli : ((A.length : Int) != (B.length : Int)) = true := by rw [bne_iff_ne]; omega
    have hd : decide (A = B) = false := by simp; intro e; exact hl (by rw [e])
    go_wp2
    go_ret
    exact ⟨ret_bool hd.symm, Below.refl _ _⟩
  have hli : ((A.length : Int) != (B.length : Int)) = false := by rw [bne_eq_false_iff_eq]; omega
  have HL := Lib.hid hl
  clear hl
  go_wp2_with fail
  go_loopw [5] (fun iv wr => ∃ k : Nat, iv = .int .i64 k ∧ k ≤ A.length ∧ (∀ j, j < k → A.getD j [] = B.getD j []) ∧ Below w.heap.size w wr) (fun iv _ => A.length - (intOf iv).toNat)
  case atStart => exact ⟨0, rfl, Nat.zero_le _, fun j hj => absurd hj (Nat.not_lt_zero j), Below.refl _ _⟩
  case round =>
    obtain ⟨k, rfl, hk, heq, hbl⟩ := hrel
    have EQ := Lib.hid heq
    have BL := Lib.hid hbl
    clear heq hbl
    by_cases hlt : k < A.length
    · have hk0 : (0 : Int) ≤ (k : Int) := by omega
      have hki : (k : Int) < (A.length : Int) := by omega
      have hkb : (k : Int) < (B.length : Int) := by have := HL.out; omega
      obtain ⟨g1, f1, u1, rfl, hg1, hc1, hu1⟩ := HA.out k hlt
      obtain ⟨g2, f2, u2, rfl, hg2, hc2, hu2⟩ := HB.out k (by have := HL.out; omega)
      have hw1 : wr.cell? ⟨g1, f1 + k, none⟩ = some u1 := (BL.out.cell (p := ⟨g1, f1 + k, none⟩) hg1).trans hc1
      have hw2 : wr.cell? ⟨g2, f2 + k, none⟩ = some u2 := (BL.out.cell (p := ⟨g2, f2 + k, none⟩) hg2).trans hc2
      have hnext : Hid (A.getD k [] = B.getD k [] → ∀ j, j < k + 1 → A.getD j [] = B.getD j []) := fun hx j hj => by
        rcases Nat.lt_or_ge j k with h1 | h1
        · exact EQ.out j h1
        · obtain rfl : j = k := by omega
          exact hx
      have hmiss : Hid (A.getD k [] ≠ B.getD k [] → decide (A = B) = false) := fun hx => by simp; intro e; exact hx (by rw [e])
      generalize A.getD k [] = l at hu1 hnext hmiss
      generalize B.getD k [] = m at hu2 hnext hmiss
      obtain ⟨a1, c1, rfl, q1, q2, q3⟩ := hu1
      obtain ⟨a2, c2, rfl, q4, q5, q6⟩ := hu2
      have k1 : ∀ w', Below wr.heap.size wr w' → (convert 22 9 (.slice a1 l.length c1)).run Try.prog w' = .ok (.string ⟨l.toArray⟩) w' := fun w' hw => conv_str w' a1 c1 l (fun e => by have := q2 e; omega) ((q3.below BL.out).below hw)
      have k2 : ∀ w', Below wr.heap.size wr w' → (convert 22 9 (.slice a2 m.length c2)).run Try.prog w' = .ok (.string ⟨m.toArray⟩) w' := fun w' hw => conv_str w' a2 c2 m (fun e => by have := q5 e; omega) ((q6.below BL.out).below hw)
      have K1 : ∀ n, (convert 22 9 (.slice a1 l.length c1)).run Try.prog (wr.drewN n) = .ok (.string ⟨l.toArray⟩) (wr.drewN n) := fun n => k1 _ (below_drewN (Below.refl _ _) n)
      have K2 : ∀ n, (convert 22 9 (.slice a2 m.length c2)).run Try.prog (wr.drewN n) = .ok (.string ⟨m.toArray⟩) (wr.drewN n) := fun n => k2 _ (below_drewN (Below.refl _ _) n)
      clear k1 k2 q3 q6 hc1 hc2
      cases hlm : (l == m)
      · go_wp2_with fail
        go_quiet (fail)
        go_wp2
        go_ret
        exact ⟨ret_bool (hmiss.out (by simpa using hlm)).symm, below_drewN BL.out _⟩
      · go_wp2_with fail
        go_quiet (fail)
        go_wp2
        go_roundw
        case rel => exact ⟨k + 1, rfl, hlt, hnext.out (by simpa using hlm), below_drewN BL.out _⟩
        case measure => simp only [intOf]; omega
    · have hki : ¬ (k : Int) < (A.length : Int) := by omega
      have hd : decide (A = B) = true := by simp; exact same_ext HL.out (fun j hj => EQ.out j (by omega))
      have HD := Lib.hid hd
      clear hd
      go_wp2
      go_ret
      exact ⟨ret_bool HD.out.symm, BL.out⟩
end Go.Proofs.Ytopemjbakpahfaa
/-
  Frames of an area: what All tells of the bytes that Get hands back. No condition but that the device's numbers are small.
-/
namespace Go.Proofs.Ytopemjbakpahfaa
open Go.RowKit Disk Jour Crc
def sumN (ps : List Part) : Nat := (ps.map (·.n)).sum
theorem getParts_sum (d : Dev) : ∀ (ps : List Part) (out : List UInt8), (getParts d out ps).1.length ≤ out.length + sumN ps := by
  intro ps
  induction ps with
  | nil => intro out; exact Nat.le_add_right _ _
  | cons p ps ih =>
    intro out
    unfold getParts
    split
    · simp
    · have h1 := ih (out ++ ((d.read (p.sec : Int)).1.drop p.ins).take p.n)
      simp only [List.length_append, List.length_take, sumN, List.map_cons, List.sum_cons] at h1 ⊢
      omega
theorem parts_sum (A n : Nat) : ∀ (f done : Nat), sumN (parts A n f done) ≤ n - done := by
  intro f
  induction f with
  | zero => intro done; simp [parts, sumN]
  | succ f ih =>
    intro done
    unfold parts
    split
    · have h1 := ih (done + min (n - done) (32 - (A + done) % 32))
      simp only [sumN, List.map_cons, List.sum_cons] at h1 ⊢
      omega
    · simp [sumN]
theorem jget_len (d : Dev) (first N : Nat) (p m : Int) (hN : N ≤ 1024) : (jget d first N p m).1.length ≤ 32768 := by
  unfold jget
  split
  · simp
  · split
    · rename_i h1 h2
      have h3 := getParts_sum d (parts (32 * first + p.toNat) m.toNat m.toNat 0) []
      have h4 := parts_sum (32 * first + p.toNat) m.toNat m.toNat 0
      unfold roomB at h2
      simp at h2 h3
      omega
    · simp
/-- Frames, in plain Lean. -/
def jframes (d : Dev) (first N : Nat) (n : Int) : List (List UInt8) × Int :=
  if (jget d first N 0 n).2 ≠ 0 then ([], (jget d first N 0 n).2) else if ((all (jget d first N 0 n).1).2 : Int) = n then ((all (jget d first N 0 n).1).1, 0) else ([], 4)
def FramesOf (w : World) (r : List (List UInt8) × Int) (en : Ending) (w' : World) : Prop := Below w.heap.size w w' ∧ ∃ v, en = .returned (.tuple #[v, .int .i64 r.2]) ∧ RowsOf w' w.heap.size v r.1
set_option maxHeartbeats 1000000 in
theorem frames_any55 {F : Nat → Prop} {w : World} {B : Nat} {d : Dev} (h : IsDev F w B d) {A first N : Nat} (hA : IsArea w A B first N) (n : Int) (hp : d.pend.length ≤ 100000) (hf : N = 0 ∨ first ≤ 1024) :
    Calls Try.prog 64 #[.pointer (some ⟨A, 0, none⟩), .int .i64 n] w (FramesOf w (jframes d first N n)) := by
  have hlen := jget_len d first N 0 n hA.n
  have HJ : Hid (jframes d first N n = if (jget d first N 0 n).2 ≠ 0 then ([], (jget d first N 0 n).2) else if ((all (jget d first N 0 n).1).2 : Int) = n then ((all (jget d first N 0 n).1).1, 0) else ([], 4)) := rfl
  have hget := get_any h hA 0 n hp hf
  generalize jget d first N 0 n = r at hlen HJ hget
  generalize jframes d first N n = q at HJ ⊢
  have HG := Lib.hid hget
  clear hget
  go_enter Try.func64, Try.ntmps64
  go_wp2_with fail
  refine (HG.out).mono ?_
  rintro en w1 ⟨b1, v, rfl, o1⟩
  by_cases hz : r.2 = 0
  rotate_left
  · have hne : ((r.2 : Int) != 0) = true := by rw [bne_iff_ne]; exact hz
    obtain rfl : q = ([], r.2) := by rw [HJ.out, if_pos hz]
    go_wp2
    go_ret2
    exact ⟨b1, _, rfl, rowsOf_nil _ _⟩
  obtain ⟨a, cap, rfl, hlc, hn, rb⟩ := RB.of_owns o1
  rw [hz]
  have HZ := Lib.hid hz
  have RBH := Lib.hid rb
  clear hz rb o1
  go_wp2_with fail
  refine (All_any r.1 a cap _ hlc (by omega) hn RBH.out).mono ?_
  rintro en w2 ⟨b2, v2, rfl, hrows⟩
  have B2 := b1.trans (b2.mono b1.size)
  by_cases he : ((all r.1).2 : Int) = n
  · obtain rfl : q = ((all r.1).1, 0) := by rw [HJ.out, if_neg (by rw [HZ.out]; simp), if_pos he]
    have hne : (((all r.1).2 : Int) != n) = false := by rw [he]; simp
    have HR := Lib.hid (rowsOf_base hrows b1.size)
    clear hrows he
    go_wp2
    go_ret2
    exact ⟨B2, _, rfl, HR.out⟩
  · obtain rfl : q = ([], 4) := by rw [HJ.out, if_neg (by rw [HZ.out]; simp), if_neg he]
    have hne : (((all r.1).2 : Int) != n) = true := by rw [bne_iff_ne]; exact he
    clear hrows he
    go_wp2
    go_ret2
    exact ⟨B2, _, rfl, rowsOf_nil _ _⟩
end Go.Proofs.Ytopemjbakpahfaa
/-
  Rows of the call's own: numbers that count up; texts. All pending writes kept. No condition but that the lengths are small.
-/
namespace Go.Proofs.Ytopemjbakpahfaa
open Go.RowKit Disk
theorem info3 : (Try.prog.info? 3).map (fun i => (i.zero, i.size, i.bytes)) = some (some (.int .i64 0), 1, 8) := by kernel_rfl
theorem info9 : (Try.prog.info? 9).map (fun i => (i.zero, i.size, i.bytes)) = some (some (.string ⟨#[]⟩), 1, 16) := by kernel_rfl
/-- Numbers from nought on. -/
def iota (n : Nat) : List Int := (List.range n).map (fun i : Nat => (i : Int))
def intV (i : Int) : Value := .int .i64 i
theorem iota_length (n : Nat) : (iota n).length = n := by simp [iota]
theorem iota_succ (n : Nat) : iota (n + 1) = iota n ++ [(n : Int)] := by simp [iota, List.range_succ]
theorem mem_iota {n i : Nat} (h : i < n) : (i : Int) ∈ iota n := by simp [iota]; exact ⟨i, h, rfl⟩
theorem sel_all (n : Nat) : ∀ (l : List (Nat × List UInt8)) (i : Nat), i + l.length ≤ n → sel (iota n) i l = l := by
  intro l
  induction l with
  | nil => intro i _; rfl
  | cons p l ih =>
    intro i h
    simp only [List.length_cons] at h
    unfold sel
    rw [if_pos (mem_iota (by omega)), ih _ (by omega)]
/-- Numbers of the call's own are read wherever their block stays. -/
theorem ri_owns {w : World} {base n : Nat} {v : Value} {l : List Int} (h : w.ownsRow base 3 1 v n (l.map intV)) :
    ∃ a c, v = .slice a l.length c ∧ l.length = n ∧ ∀ w', w.heap.size ≤ w'.heap.size → (∀ k, v.ownBlock = some k → w'.heap[k]? = w.heap[k]?) → RI w' a l := by
  have hn : l.length = n := by have := h.1; simpa using this
  rcases h.2 with ⟨rfl, h0⟩ | ⟨g, cap, cur, rfl, hb, hg, hnc, hcm, hcs, htake⟩
  · refine ⟨none, 0, by rw [hn, h0], hn, fun w' _ _ i hi => ?_⟩
    omega
  · refine ⟨some ⟨g, 0, none⟩, cap, by rw [hn], hn, fun w' hs hk i hi => ⟨g, 0, rfl, ?_, ?_⟩⟩
    · exact Nat.lt_of_lt_of_le (h.lt g rfl).2 hs
    · have h1 := h.cells (g := g) rfl i (intV (l.getD i 0)) (by simp [List.getD, hi])
      have h2 : w'.cell? ⟨g, i, none⟩ = w.cell? ⟨g, i, none⟩ := World.cell?_of_block (hk g rfl)
      rw [Nat.zero_add, h2]
      simpa [Addr.add_lit, intV] using h1
/-- A text of a row of the call's own. -/
theorem text_owns {w : World} {base n : Nat} {v : Value} {L : List (List UInt8)} (h : w.ownsRow base 9 1 v n (L.map strV)) {i : Nat} (hi : i < L.length) :
    ∃ g c, v = .slice (some ⟨g, 0, none⟩) n c ∧ w.cell? ⟨g, i, none⟩ = some (strV (L.getD i [])) := by
  have hn : L.length = n := by have := h.1; simpa using this
  rcases h.2 with ⟨rfl, h0⟩ | ⟨g, cap, cur, rfl, hb, hg, hnc, hcm, hcs, htake⟩
  · omega
  · have h1 := h.cells (g := g) rfl i (strV (L.getD i [])) (by simp [List.getD, hi])
    exact ⟨g, cap, rfl, by simpa [Addr.add_lit] using h1⟩
theorem cell_lit (w : World) (v : Value) (t : TypeId) (fr : Nat × Nat) (g : Nat) (hg : w.heap.size = g) : (w.alloc (.cells #[v] t fr)).cell? ⟨g, 0, none⟩ = some v := by
  subst hg
  exact Joins.cell_of_block (heap_alloc_new w _) 0
section
variable {w : World} {ops : Array Oper} {rest : List Oper} {o : Oper} {a : Act} {Q : Exit → Act → World → Prop}
/-- A number appended to numbers of the call's own. -/
theorem app_int (hgd : o.guard = none) (s x : Operand) (ho : o.op = .call { callee := .builtin .append, args := #[s, x], argTypes := #[37, 37] })
    (base : Nat) (v : Value) (l : List Int) (z : Int) (g : Nat) (hs : a.eval s = v) (hown : w.ownsRow base 3 1 v l.length (l.map intV)) (hx : a.eval x = .slice (some ⟨g, 0, none⟩) 1 1)
    (hc : w.cell? ⟨g, 0, none⟩ = some (intV z)) (hb : l.length ≤ 1000000000) (b3 : base ≤ w.heap.size)
    (hK : ∀ v' w', w'.ownsRow base 3 1 v' (l ++ [z]).length ((l ++ [z]).map intV) → w.grownBy w' v.ownBlock → (v'.ownBlock = v.ownBlock ∨ v'.ownBlock = some w.heap.size) → wpList Try.prog ops Q rest (a.put o.dst v') w') : wpList Try.prog ops Q (o :: rest) a w := by
  obtain ⟨i0, hi, hz0, hz1, hz2⟩ := info_parts info3
  obtain ⟨v', w', hrun, own', g', _, r3⟩ := run_append_own_at (P := Try.prog) w base 37 o.type 3 i0 (.int .i64 0) 1 8 Try.underlying37 hi hz0 hz1 hz2 rfl (by decide) v l.length _ hown ⟨g, 0, none⟩ 1 1 [intV z] rfl (by
    intro j u hu
    match j with
    | 0 => simp only [List.getElem?_cons_zero, Option.some.injEq] at hu; subst hu; rw [Addr.add_lit]; exact hc
    | j + 1 => simp at hu) (by
    intro u hu
    obtain rfl := List.mem_singleton.1 hu
    rfl) (by unfold maxLen; omega) (by omega) b3
  exact Lib.wpList_append_run w hgd s x 37 37 ho v _ hs hx v' w' hrun (hK v' w' (by simpa using own') g' r3)
/-- A text appended to texts of the call's own. -/
theorem app_text (hgd : o.guard = none) (s x : Operand) (ho : o.op = .call { callee := .builtin .append, args := #[s, x], argTypes := #[48, 48] })
    (base : Nat) (v : Value) (L : List (List UInt8)) (z : List UInt8) (g : Nat) (hs : a.eval s = v) (hown : w.ownsRow base 9 1 v L.length (L.map strV)) (hx : a.eval x = .slice (some ⟨g, 0, none⟩) 1 1)
    (hc : w.cell? ⟨g, 0, none⟩ = some (strV z)) (hb : L.length ≤ 1000000000) (b3 : base ≤ w.heap.size)
    (hK : ∀ v' w', w'.ownsRow base 9 1 v' (L ++ [z]).length ((L ++ [z]).map strV) → w.grownBy w' v.ownBlock → (v'.ownBlock = v.ownBlock ∨ v'.ownBlock = some w.heap.size) → wpList Try.prog ops Q rest (a.put o.dst v') w') : wpList Try.prog ops Q (o :: rest) a w := by
  obtain ⟨i0, hi, hz0, hz1, hz2⟩ := info_parts info9
  obtain ⟨v', w', hrun, own', g', _, r3⟩ := run_append_own_at (P := Try.prog) w base 48 o.type 9 i0 (.string ⟨#[]⟩) 1 16 Try.underlying48 hi hz0 hz1 hz2 rfl (by decide) v L.length _ hown ⟨g, 0, none⟩ 1 1 [strV z] rfl (by
    intro j u hu
    match j with
    | 0 => simp only [List.getElem?_cons_zero, Option.some.injEq] at hu; subst hu; rw [Addr.add_lit]; exact hc
    | j + 1 => simp at hu) (by
    intro u hu
    obtain rfl := List.mem_singleton.1 hu
    rfl) (by unfold maxLen; omega) (by omega) b3
  exact Lib.wpList_append_run w hgd s x 48 48 ho v _ hs hx v' w' hrun (hK v' w' (by simpa using own') g' r3)
end
end Go.Proofs.Ytopemjbakpahfaa
/-
  The small case of the statements on areas comes out right. No condition.
-/
namespace Go.Proofs.Ytopemjbakpahfaa
open Go.RowKit Disk Jour Crc
def abcd : List UInt8 := [97, 98, 99, 100]
def e0 : Dev := Dev.new 4
def e1 : Dev := (jput e0 1 2 30 abcd).1
def e2 : Dev := (jput e1 1 2 61 abcd).1
def e3 : Dev := (jput e2 1 2 0 (frame [120])).1
theorem q1 : (jput e0 1 2 30 abcd).2 = 0 := by decide +kernel
theorem q2 : jget e1 1 2 31 2 = ([98, 99], 0) := by decide +kernel
theorem q3 : (jput e1 1 2 61 abcd).2 = 2 := by decide +kernel
theorem q4 : e2.pend.length = 2 := by decide +kernel
theorem q5 : (jput e2 1 2 0 (frame [120])).2 = 0 := by decide +kernel
theorem q6 : jframes e3 1 2 7 = ([[120]], 0) := by decide +kernel
theorem sz4 : sizeOfDev 4 = 4 := by decide +kernel
theorem as2 : asize 1 2 4 = 2 := by decide +kernel
theorem fl7 : (frame [120]).length = 7 := by decide +kernel
/-- A literal's bytes are put. -/
theorem put_lit {F : Nat → Prop} {w : World} {B : Nat} {d : Dev} (h : IsDev F w B d) {A first N : Nat} (hA : IsArea w A B first N) (hAF : ¬ F A) (p : Int) (l : List UInt8) (xs : Array Value) (fr : Nat × Nat) (n c g : Nat) (hn : l.length = n) (hc : l.length ≤ c) (hx : xs = (l.map byteV).toArray) (hg : w.heap.size = g)
    (hp : d.pend.length + l.length ≤ 100000) (hw : d.writes + l.length ≤ 100000) (hf : N = 0 ∨ first ≤ 1024) :
    Calls Try.prog 54 #[.pointer (some ⟨A, 0, none⟩), .int .i64 p, .slice (some ⟨g, 0, none⟩) n c] (w.alloc (.cells xs 5 fr)) (DevOf F (w.alloc (.cells xs 5 fr)) B (jput d first N p l).1 (.int .i64 (jput d first N p l).2)) := by
  subst hn hg
  exact put_any (h.below (below_alloc w _)) (hA.below (below_alloc w _)) hAF p l _ c (fun e => by cases e) hc (fun w' hf => RB.frm (RB.lit w l xs fr _ rfl hx) hf (fun hF => by have := h.lt _ hF; omega)) hp hw hf
set_option maxRecDepth 100000 in
set_option maxHeartbeats 4000000 in
theorem jsmall_any (w : World) : Calls Try.prog 51 #[] w fun en w' => en = .returned (.bool true) ∧ Below w.heap.size w w' := by
  have kc := conv_const
  go_enter Try.func51, Try.ntmps51
  go_wp2_with fail
  refine (new_any w 4).mono ?_
  rintro en w1 ⟨B, rfl, B1, hB, D1⟩
  rw [sz4] at D1
  obtain ⟨F1, hF1⟩ : ∃ F : Nat → Prop, (fun k => w.heap.size ≤ k ∧ k < w1.heap.size) = F := ⟨_, rfl⟩
  have g1 : ∀ k, F1 k → w.heap.size ≤ k := by rw [← hF1]; exact fun k hk => hk.1
  rw [hF1] at D1
  clear hF1
  have D1 : IsDev F1 w1 B e0 := D1
  have G1 := Lib.hid g1
  clear g1
  go_wp2_with fail
  refine (of_any D1 (by decide +kernel) 1 2 (by decide)).mono ?_
  rintro en w2 ⟨A, rfl, b2, hA, A2⟩
  have A2 : IsArea w2 A B 1 2 := A2
  have D2 := D1.below b2
  have nA : ¬ F1 A := fun hF => by have := D1.lt A hF; omega
  have B2 := B1.trans (b2.mono B1.size)
  have hBA : w.heap.size ≤ A := Nat.le_trans B1.size hA
  clear D1 B1 b2
  go_wp2_with fail
  refine (put_lit D2 A2 nA 30 abcd _ _ _ _ _ rfl (by decide) rfl rfl (by decide +kernel) (by decide +kernel) (.inr (by decide))).mono ?_
  intro en w3 h3
  have a3 := (A2.below (below_alloc w2 (.cells #[.int .u8 97, .int .u8 98, .int .u8 99, .int .u8 100] 5 (4, 5)))).frm h3.2.1 nA
  obtain ⟨rfl, _, b3, F3, D3, g3, n3⟩ := h3.out G1.out (Nat.le_trans B2.size (by simp))
  rw [q1]
  have D3 : IsDev F3 w3 B e1 := D3
  have nA3 : ¬ F3 A := fun hF => (n3 A hF).elim nA (fun h => by have := A2.lt; simp at h; omega)
  have B3 := (B2.alloc B2.size _).trans b3
  have G3 := Lib.hid g3
  clear h3 D2 A2 nA B2 b3 g3 n3 G1
  go_wp2_with fail
  refine (get_any D3 a3 31 2 (by decide +kernel) (.inr (by decide))).mono ?_
  rw [q2]
  rintro en w4 ⟨b4, v4, rfl, o4⟩
  have D4 := D3.below b4
  have a4 := a3.below b4
  have B4 := B3.trans (b4.mono B3.size)
  obtain ⟨c4, k4, rfl, _, n4, r4⟩ := RB.of_owns o4
  have hF4 : ∀ k, F3 k → k < w3.heap.size := D3.lt
  have o4' := Lib.hid o4
  have K4 := Lib.hid o4.lt
  clear D3 a3 B3 o4
  go_wp2_with fail
  refine (put_lit D4 a4 nA3 61 abcd _ _ _ _ _ rfl (by decide) rfl rfl (by decide +kernel) (by decide +kernel) (.inr (by decide))).mono ?_
  intro en w5 h5
  have f5 := h5.2.1
  have a5 := (a4.below (below_alloc w4 (.cells #[.int .u8 97, .int .u8 98, .int .u8 99, .int .u8 100] 5 (4, 5)))).frm f5 nA3
  obtain ⟨rfl, _, b5, F5, D5, g5, n5⟩ := h5.out G3.out (Nat.le_trans B4.size (by simp))
  rw [q3]
  have D5 : IsDev F5 w5 B e2 := D5
  have nA5 : ¬ F5 A := fun hF => (n5 A hF).elim nA3 (fun h => by have := a4.lt; simp at h; omega)
  have B5 := (B4.alloc B4.size _).trans b5
  have G5 := Lib.hid g5
  have N5 := Lib.hid n5
  have o5 := owns_block o4'.out (B := w5) (fun k hk => by
    have h1 := o4'.out.lt k hk
    exact (f5.block k (by simp; omega) (fun hF => by have := hF4 k hF; omega)).trans (Below.heap_alloc w4 _ k h1.2))
  have O5 := Lib.hid o5
  clear h5 D4 a4 B4 b5 g5 n5 G3 f5 o4' o5 r4
  go_wp2_with fail
  refine (pending_any D5).mono ?_
  rintro en w6 ⟨rfl, rfl⟩
  rw [q4]
  go_wp2_with fail
  refine (frame_at [120] _ _ _ _ rfl (by decide) (by decide) (fun e => by cases e) (RB.lit w5 [120] _ _ _ rfl rfl)).mono ?_
  rintro en w6 ⟨v6, rfl, o6, b6⟩
  have b6' := (below_alloc w5 (.cells #[.int .u8 120] 5 (1, 2))).trans (b6.mono (by simp))
  have D6 := D5.below b6'
  have a6 := a5.below b6'
  have B6 := B5.trans (b6'.mono B5.size)
  have O6 := Lib.hid (owns_below O5.out b6')
  obtain ⟨c6, k6, rfl, l6, n6, r6⟩ := RB.of_owns o6
  have hF6 : ∀ k, F5 k → k < w5.heap.size := D5.lt
  have R6 := Lib.hid r6
  have Q6 := Lib.hid o6
  clear D5 a5 B5 b6 b6' O5 o6 r6
  rw [fl7]
  go_wp2_with fail
  have hput := put_any D6 a6 nA5 0 (frame [120]) c6 k6 (fun e => by have := n6 e; rw [fl7] at l6; omega) l6 (fun w' hf => by
    have h1 : w'.ownsRow (w5.heap.size + 1) 5 1 (.slice c6 (frame [120]).length k6) (frame [120]).length ((frame [120]).map byteV) := owns_block (by have := Q6.out; simpa using this) (fun k hk => by
      have h2 := Q6.out.lt k hk
      exact hf.block k h2.2 (fun hF => by have := hF6 k hF; have := h2.1; simp at this; omega))
    obtain ⟨a', c', e, _, _, hr⟩ := RB.of_owns h1
    cases e
    exact hr) (by decide +kernel) (by decide +kernel) (.inr (by decide))
  rw [fl7] at hput
  refine hput.mono ?_
  intro en w7 h7
  have f7 := h7.2.1
  have a7 := a6.frm f7 nA5
  obtain ⟨rfl, _, b7, F7, D7, g7, n7⟩ := h7.out G5.out B6.size
  rw [q5]
  have D7 : IsDev F7 w7 B e3 := D7
  have B7 := B6.trans b7
  have O7 := Lib.hid (owns_block O6.out (B := w7) (fun k hk => by
    have h1 := O6.out.lt k hk
    exact f7.block k h1.2 (fun hF => by
      have h2 := K4.out k hk
      rcases N5.out k hF with h3 | h3
      · have := hF4 k h3; omega
      · simp at h3; omega)))
  have hF7 : ∀ k, F7 k → k < w7.heap.size := D7.lt
  clear h7 D6 a6 B6 b7 g7 n7 f7 O6 Q6 R6 N5 K4 hput G5
  go_wp2_with fail
  refine (frames_any55 D7 a7 7 (by decide +kernel) (.inr (by decide))).mono ?_
  rw [q6]
  rintro en w8 ⟨b8, v8, rfl, r8⟩
  have a8 := a7.below b8
  have B8 := B7.trans (b8.mono B7.size)
  have cvt : (convert 22 9 (.slice c4 2 k4)).run Try.prog w8 = .ok (.string ⟨#[98, 99]⟩) w8 := conv_bs (owns_below O7.out b8)
  obtain ⟨c8, k8, rfl, _, _, rr8⟩ := RR.of_rows r8
  have RR8 := Lib.hid rr8
  clear D7 a7 B7 O7 r8 rr8
  go_wp2_with fail
  refine (size_any a8).mono ?_
  rintro en w9 ⟨rfl, rfl⟩
  go_wp2_with fail
  have bL : Below w8.heap.size w8 ((w8.alloc (.cells #[.int .u8 120] 5 (1, 2))).alloc (.cells #[.slice (some ⟨w8.heap.size, 0, none⟩) 1 1] 22)) := (below_alloc w8 _).alloc (by simp) _
  have rL : RR ((w8.alloc (.cells #[.int .u8 120] 5 (1, 2))).alloc (.cells #[.slice (some ⟨w8.heap.size, 0, none⟩) 1 1] 22)) (some ⟨w8.heap.size + 1, 0, none⟩) [[120]] := by
    intro i hi
    obtain rfl : i = 0 := by simpa using hi
    refine ⟨w8.heap.size + 1, 0, _, rfl, by simp, cell_lit _ (.slice (some ⟨w8.heap.size, 0, none⟩) 1 1) 22 (0, 0) _ (by simp), some ⟨w8.heap.size, 0, none⟩, 1, rfl, by decide, fun e => (by cases e), ?_⟩
    exact (RB.lit w8 [120] _ (1, 2) _ rfl rfl).alloc _
  refine (rows_any [[120]] [[120]] c8 (some ⟨w8.heap.size + 1, 0, none⟩) k8 1 _ (by decide) (RR8.out.below bL) rL).mono ?_
  rintro en w10 ⟨rfl, b10⟩
  have B10 := (B8.trans (bL.mono B8.size)).trans (b10.mono (Nat.le_trans B8.size bL.size))
  rw [decide_eq_true rfl]
  clear bL rL b10
  go_wp2
  go_ret
  exact ⟨rfl, B10⟩
end Go.Proofs.Ytopemjbakpahfaa
/-
  Plain laws of an area whose device is up: what is put is got, and nothing else is changed. No program, no condition.
-/
namespace Go.Proofs.Ytopemjbakpahfaa
open Disk Jour
structure Up (d : Dev) (K M : Nat) : Prop where
  ok : d.ok
  down : d.down = false
  armed : d.armed = 0
  kept : d.kept.length = K
  pend : d.pend.length ≤ M
  writes : d.writes ≤ M
  syncs : d.syncs ≤ M
theorem Up.new (n : Nat) : Up (Dev.new n) n 0 := ⟨new_ok n, rfl, rfl, by simp [Dev.new], Nat.le_refl _, Nat.le_refl _, Nat.le_refl _⟩
theorem roomB_iff (N : Nat) (p m : Int) : roomB N p m = true ↔ 0 ≤ p ∧ p ≤ 32 * (N : Int) ∧ m ≤ 32 * (N : Int) - p := by
  unfold roomB
  simp
theorem put_up {d : Dev} {K M first N : Nat} (u : Up d K M) (hN : N = 0 ∨ first + N ≤ K) (p : Int) (b : List UInt8) :
    Up (jput d first N p b).1 K (M + b.length) ∧ ((jput d first N p b).2 = 0 ↔ roomB N p b.length = true) ∧ ∀ x, x < 32 * K →
      byte (jput d first N p b).1 x = if roomB N p b.length = true ∧ 32 * first + p.toNat ≤ x ∧ x < 32 * first + p.toNat + b.length then b.getD (x - (32 * first + p.toNat)) 0 else byte d x := by
  have u2 : Up d K (M + b.length) := ⟨u.ok, u.down, u.armed, u.kept, by have := u.pend; omega, by have := u.writes; omega, by have := u.syncs; omega⟩
  unfold jput
  by_cases h0 : p < 0
  · have hr : ¬ roomB N p b.length = true := by rw [roomB_iff]; omega
    rw [if_pos h0]
    exact ⟨u2, ⟨fun h => by simp at h, fun h => absurd h hr⟩, fun x _ => by rw [if_neg (fun h => hr h.1)]⟩
  rw [if_neg h0]
  by_cases hr : roomB N p b.length = true
  · rw [if_pos hr]
    have hrm := (roomB_iff _ _ _).1 hr
    rcases Nat.eq_zero_or_pos b.length with hb | hb
    · have hbe : b = [] := List.eq_nil_of_length_eq_zero hb
      subst hbe
      have hp0 : putParts d [] (parts (32 * first + p.toNat) 0 0 0) = (d, 0) := rfl
      rw [show ([] : List UInt8).length = 0 from rfl, hp0]
      exact ⟨u2, ⟨fun _ => hr, fun _ => rfl⟩, fun x _ => by rw [if_neg (fun h => by omega)]⟩
    · have hA : 32 * first + p.toNat + b.length ≤ 32 * d.kept.length := by rw [u.kept]; omega
      have hbd := putParts_bound b (parts (32 * first + p.toNat) b.length b.length 0) d
      have hpl := parts_length (32 * first + p.toNat) b.length b.length 0
      rcases put_all hA b.length 0 d (by omega) (Nat.zero_le _) (PutInv.start u.ok _ _) u.down with ⟨h1, h2, h3, h4⟩ | ⟨h1, h2, h3, h4⟩
      · refine ⟨⟨h3.ok, h2, h4 u.armed, by rw [h3.kept]; exact u.kept, by have := u.pend; omega, by have := u.writes; omega, by have := u.syncs; omega⟩, ⟨fun _ => hr, fun _ => h1⟩, fun x hx => ?_⟩
        rw [h3.byte x (by rw [u.kept]; exact hx)]
        by_cases hc : 32 * first + p.toNat ≤ x ∧ x < 32 * first + p.toNat + b.length
        · rw [if_pos hc, if_pos ⟨hr, hc⟩]
        · rw [if_neg hc, if_neg (fun h => hc h.2)]
      · exact absurd u.armed h2
  · rw [if_neg hr]
    exact ⟨u2, ⟨fun h => by simp at h, fun h => absurd h hr⟩, fun x _ => by rw [if_neg (fun h => hr h.1)]⟩
theorem get_up {d : Dev} {K M first N : Nat} (u : Up d K M) (hN : N = 0 ∨ first + N ≤ K) : jget d first N 0 (32 * (N : Int)) = (Jour.bytes d (32 * first) (32 * N), 0) := by
  unfold jget
  have hr : roomB N 0 (32 * (N : Int)) = true := by rw [roomB_iff]; omega
  rw [if_neg (by omega), if_pos hr, Int.toNat_zero, show (32 * (N : Int)).toNat = 32 * N by omega, Nat.add_zero]
  rcases Nat.eq_zero_or_pos N with h0 | h0
  · subst h0; rfl
  · exact get_all u.ok u.down (by rw [u.kept]; omega) _ 0 (by omega) (Nat.zero_le _)
theorem asize_le (f s : Int) (k : Nat) : asize f s k = 0 ∨ f.toNat + asize f s k ≤ k := by
  by_cases hf : f < 0
  · exact .inl (by unfold asize; rw [if_pos hf])
  · have e : asize f s k = (min s ((k : Int) - f)).toNat := by unfold asize; rw [if_neg hf]
    rw [e]
    omega
theorem asize_1024 (f s : Int) (k : Nat) (hk : k ≤ 1024) : asize f s k = 0 ∨ f.toNat ≤ 1024 := (asize_le f s k).imp_right (by omega)
/-- Two parts, one behind the other, are as if put at once. -/
theorem parts_same (p k : Nat) (b : List UInt8) (hb : b.length ≤ 200) (hp : p ≤ 100) (hk : k ≤ b.length) :
    (jput (Dev.new 10) 0 10 p b).2 = 0 ∧ (jput (Dev.new 10) 0 10 p (b.take k)).2 = 0 ∧ (jput (jput (Dev.new 10) 0 10 p (b.take k)).1 0 10 (p + k : Int) (b.drop k)).2 = 0 ∧
    jget (jput (Dev.new 10) 0 10 p b).1 0 10 0 320 = (Jour.bytes (jput (Dev.new 10) 0 10 p b).1 0 320, 0) ∧
    jget (jput (jput (Dev.new 10) 0 10 p (b.take k)).1 0 10 (p + k : Int) (b.drop k)).1 0 10 0 320 = (Jour.bytes (jput (Dev.new 10) 0 10 p b).1 0 320, 0) := by
  have hbt : (b.take k).length = k := by simp; omega
  have hbd : (b.drop k).length = b.length - k := by simp
  obtain ⟨u1, z1, y1⟩ := put_up (Up.new 10) (first := 0) (N := 10) (.inr (by omega)) (p : Int) b
  obtain ⟨u2, z2, y2⟩ := put_up (Up.new 10) (first := 0) (N := 10) (.inr (by omega)) (p : Int) (b.take k)
  obtain ⟨u3, z3, y3⟩ := put_up u2 (first := 0) (N := 10) (.inr (by omega)) ((p : Int) + (k : Int)) (b.drop k)
  have r1 : roomB 10 (p : Int) b.length = true := by rw [roomB_iff]; omega
  have r2 : roomB 10 (p : Int) (b.take k).length = true := by rw [roomB_iff, hbt]; omega
  have r3 : roomB 10 ((p : Int) + (k : Int)) (b.drop k).length = true := by rw [roomB_iff, hbd]; omega
  have g1 := get_up u1 (first := 0) (N := 10) (.inr (by omega))
  have g3 := get_up u3 (first := 0) (N := 10) (.inr (by omega))
  refine ⟨z1.2 r1, z2.2 r2, z3.2 r3, g1, g3.trans ?_⟩
  congr 1
  apply list_ext0
  · rw [bytes_length, bytes_length]
  · intro i hi
    rw [bytes_length] at hi
    rw [bytes_get _ _ _ _ hi, bytes_get _ _ _ _ hi, Nat.mul_zero, Nat.zero_add]
    rw [y3 i (by omega), y2 i (by omega), y1 i (by omega)]
    rw [hbt] at r2
    rw [hbd] at r3
    simp only [r1, r2, r3, true_and, Nat.mul_zero, Nat.zero_add, hbt, hbd]
    rw [show ((p : Int) + (k : Int)).toNat = p + k by omega, Int.toNat_natCast]
    by_cases c1 : p + k ≤ i ∧ i < p + k + (b.length - k)
    · rw [if_pos c1, if_pos (by omega), getD_drop]
      congr 1; omega
    · rw [if_neg c1]
      by_cases c2 : p ≤ i ∧ i < p + k
      · rw [if_pos c2, if_pos (by omega)]
        simp [List.getD, show i - p < k by omega]
      · rw [if_neg c2, if_neg (by omega)]
/-- What was put is got; all other bytes are as they were. -/
theorem keeps_byte {d : Dev} {M first N : Nat} (u : Up d 20 M) (hN : N = 0 ∨ first + N ≤ 20) (p : Int) (b : List UInt8) (i : Nat) (hi : i < 32 * N) :
    (Jour.bytes (jput d first N p b).1 (32 * first) (32 * N)).getD i 0 = if (roomB N p b.length = true ∧ p ≤ (i : Int)) ∧ (i : Int) < p + (b.length : Int) then b.getD ((i : Int) - p).toNat 0 else (Jour.bytes d (32 * first) (32 * N)).getD i 0 := by
  obtain ⟨u1, z1, y1⟩ := put_up u hN p b
  rw [bytes_get _ _ _ _ hi, bytes_get _ _ _ _ hi, y1 _ (by omega)]
  by_cases hr : roomB N p b.length = true
  · have hrm := (roomB_iff _ _ _).1 hr
    by_cases hc : p ≤ (i : Int) ∧ (i : Int) < p + (b.length : Int)
    · rw [if_pos ⟨hr, by omega, by omega⟩, if_pos ⟨⟨hr, hc.1⟩, hc.2⟩]
      congr 1; omega
    · rw [if_neg (by omega), if_neg (fun h => hc ⟨h.1.2, h.2⟩)]
  · rw [if_neg (fun h => hr h.1), if_neg (fun h => hr h.1.1)]
end Go.Proofs.Ytopemjbakpahfaa
/-
  A store in plain Lean: its head, what it holds, opening, appending, saving. No program, no condition.
-/
namespace Go.Proofs.Ytopemjbakpahfaa.Slot
open Disk Jour Crc
structure Hd where
  slot : Nat
  long : Nat
  used : Nat
  turn : Nat
def hd0 : Hd := ⟨0, 0, 0, 0⟩
/-- What a head's frame holds. -/
def hraw (h : Hd) : List UInt8 := UInt8.ofNat h.slot :: (be 4 h.long ++ (be 4 h.used ++ be 4 h.turn))
def hbytes (h : Hd) : List UInt8 := frame (hraw h)
def zerosB (b : List UInt8) : Bool := b.all (fun x => x == 0)
/-- The head that a frame's bytes tell. -/
def htell (x : List UInt8) : Hd := ⟨(x.getD 0 0).toNat, num ((x.drop 1).take 4), num ((x.drop 5).take 4), num ((x.drop 9).take 4)⟩
def hread (b : List UInt8) : Option Hd :=
  if zerosB b = true then some hd0 else
  match cut b with
  | none => none
  | some (x, r) => if x.length = 13 ∧ (x.getD 0 0).toNat < 2 ∧ zerosB r = true then some (htell x) else none
structure St where
  N : Nat
  L : Nat
  h : Hd
  check : List UInt8
  recs : List (List UInt8)
  broken : Bool
def sload (d : Dev) (N L : Nat) (h : Hd) : Option St × Int :=
  if 32 * N < h.long ∨ 32 * L < h.used then (none, 4)
  else if (jget d (1 + h.slot * N) N 0 h.long).2 ≠ 0 then (none, (jget d (1 + h.slot * N) N 0 h.long).2)
  else if (jframes d (1 + 2 * N) L h.used).2 ≠ 0 then (none, (jframes d (1 + 2 * N) L h.used).2)
  else (some ⟨N, L, h, (jget d (1 + h.slot * N) N 0 h.long).1, (jframes d (1 + 2 * N) L h.used).1, false⟩, 0)
def sopenN (d : Dev) (N : Nat) : Option St × Int :=
  if (d.read 0).2 ≠ 0 then (none, (d.read 0).2)
  else match hread (d.read 0).1 with
    | none => (none, 4)
    | some h => sload d N (d.kept.length - 1 - 2 * N) h
def sopen (d : Dev) (size : Int) : Option St × Int :=
  if size < 1 ∨ 1024 < size ∨ (d.kept.length : Int) < 2 * size + 2 then (none, 1) else sopenN d size.toNat
/-- Bytes are put, synced, then the head is written and synced. -/
def ssafe (d : Dev) (first n p : Nat) (b : List UInt8) (h : Hd) : Dev × Int :=
  if (jput d first n p b).2 ≠ 0 then jput d first n p b
  else if (jput d first n p b).1.sync.2 ≠ 0 then (jput d first n p b).1.sync
  else if ((jput d first n p b).1.sync.1.write 0 (hbytes h)).2 ≠ 0 then (jput d first n p b).1.sync.1.write 0 (hbytes h)
  else ((jput d first n p b).1.sync.1.write 0 (hbytes h)).1.sync
def St.room (s : St) : Int := 32 * (s.L : Int) - s.h.used
def turnOf (h : Hd) : Nat := (h.turn + 1) % 4294967296
def apHd (s : St) (b : List UInt8) : Hd := ⟨s.h.slot, s.h.long, s.h.used + (b.length + 6), turnOf s.h⟩
def svHd (s : St) (b : List UInt8) : Hd := ⟨1 - s.h.slot, b.length, 0, turnOf s.h⟩
def apD (d : Dev) (s : St) (b : List UInt8) : Dev × Int := ssafe d (1 + 2 * s.N) s.L s.h.used (frame b) (apHd s b)
def svD (d : Dev) (s : St) (b : List UInt8) : Dev × Int := ssafe d (1 + (1 - s.h.slot) * s.N) s.N 0 b (svHd s b)
def sappend (d : Dev) (s : St) (b : List UInt8) : Dev × St × Int :=
  if s.broken = true then (d, s, 14)
  else if s.room < ((b.length + 6 : Nat) : Int) then (d, s, 2)
  else if (apD d s b).2 ≠ 0 then ((apD d s b).1, { s with broken := true }, (apD d s b).2)
  else ((apD d s b).1, { s with h := apHd s b, recs := s.recs ++ [b] }, 0)
def ssave (d : Dev) (s : St) (b : List UInt8) : Dev × St × Int :=
  if s.broken = true then (d, s, 14)
  else if 32 * s.N < b.length then (d, s, 2)
  else if (svD d s b).2 ≠ 0 then ((svD d s b).1, { s with broken := true }, (svD d s b).2)
  else ((svD d s b).1, { s with h := svHd s b, check := b, recs := [] }, 0)
theorem hraw_length (h : Hd) : (hraw h).length = 13 := by simp [hraw, be_length]
theorem hbytes_length (h : Hd) : (hbytes h).length = 19 := by unfold hbytes; rw [frame_length, hraw_length]
theorem zerosB_rep (n : Nat) : zerosB (List.replicate n 0) = true := by simp [zerosB]
theorem zerosB_iff (b : List UInt8) : zerosB b = true ↔ ∀ x ∈ b, x = 0 := by simp [zerosB]
theorem hread_zero (n : Nat) : hread (List.replicate n 0) = some hd0 := by unfold hread; rw [if_pos (zerosB_rep n)]
theorem take_app {α : Type} (a b : List α) (n : Nat) (h : a.length = n) : (a ++ b).take n = a := by subst h; simp
theorem drop_app {α : Type} (a b : List α) (n : Nat) (h : a.length = n) : (a ++ b).drop n = b := by subst h; simp
theorem htell_raw {h : Hd} (h0 : h.slot < 2) (h1 : h.long < 4294967296) (h2 : h.used < 4294967296) (h3 : h.turn < 4294967296) : htell (hraw h) = h := by
  obtain ⟨s, l, u, t⟩ := h
  dsimp only at h0 h1 h2 h3
  have p4 : (256 : Nat) ^ 4 = 4294967296 := by decide
  have e1 : (hraw ⟨s, l, u, t⟩).drop 1 = be 4 l ++ (be 4 u ++ be 4 t) := rfl
  have e5 : (hraw ⟨s, l, u, t⟩).drop 5 = be 4 u ++ be 4 t := by
    rw [show 5 = 1 + 4 by rfl, ← List.drop_drop, e1, drop_app _ _ 4 (be_length 4 l)]
  have e9 : (hraw ⟨s, l, u, t⟩).drop 9 = be 4 t := by
    rw [show 9 = 5 + 4 by rfl, ← List.drop_drop, e5, drop_app _ _ 4 (be_length 4 u)]
  unfold htell
  rw [e1, e5, e9, take_app _ _ 4 (be_length 4 l), take_app _ _ 4 (be_length 4 u), show (be 4 t).take 4 = be 4 t from List.take_of_length_le (by rw [be_length]; exact Nat.le_refl _)]
  rw [num_be, num_be, num_be, p4, Nat.mod_eq_of_lt h1, Nat.mod_eq_of_lt h2, Nat.mod_eq_of_lt h3]
  have : ((hraw ⟨s, l, u, t⟩).getD 0 0).toNat = s := by
    show (UInt8.ofNat s).toNat = s
    rw [UInt8.toNat_ofNat']; omega
  rw [this]
theorem raw_slot {h : Hd} (h0 : h.slot < 2) : ((hraw h).getD 0 0).toNat = h.slot := by
  show (UInt8.ofNat h.slot).toNat = h.slot
  rw [UInt8.toNat_ofNat']; omega
theorem pad_hbytes (h : Hd) : pad (hbytes h) = frame (hraw h) ++ List.replicate 13 0 := by
  unfold pad; rw [hbytes_length]; rfl
theorem hread_raw {h : Hd} (h0 : h.slot < 2) (h1 : h.long < 4294967296) (h2 : h.used < 4294967296) (h3 : h.turn < 4294967296) : hread (pad (hbytes h)) = some h := by
  have hz : ¬ zerosB (pad (hbytes h)) = true := by
    rw [zerosB_iff]
    intro hx
    have hm : (13 : UInt8) ∈ pad (hbytes h) := by
      rw [pad_hbytes]
      unfold frame head
      rw [hraw_length, show be 2 13 = [0, 13] by decide]
      simp
    exact absurd (hx 13 hm) (by decide)
  unfold hread
  rw [if_neg hz, pad_hbytes, cut_frame _ (by rw [hraw_length]; omega)]
  dsimp only
  rw [if_pos ⟨hraw_length h, by rw [raw_slot h0]; exact h0, zerosB_rep _⟩, htell_raw h0 h1 h2 h3]
theorem hread_bound {b : List UInt8} {h : Hd} (e : hread b = some h) : h.slot < 2 ∧ h.long < 4294967296 ∧ h.used < 4294967296 ∧ h.turn < 4294967296 := by
  unfold hread at e
  split at e
  · cases e; decide
  · split at e
    · cases e
    · rename_i x r _
      split at e
      · rename_i hc
        cases e
        have p4 : (256 : Nat) ^ 4 = 4294967296 := by decide
        have f : ∀ l : List UInt8, num (l.take 4) < 4294967296 := fun l => by
          have h1 := num_lt (l.take 4)
          have h2 : (256 : Nat) ^ (l.take 4).length ≤ 256 ^ 4 := Nat.pow_le_pow_right (by omega) (by rw [List.length_take]; omega)
          omega
        exact ⟨hc.2.1, f _, f _, f _⟩
      · cases e
end Go.Proofs.Ytopemjbakpahfaa.Slot
/-
  The reference's device in memory: rows of sectors, each a slice of its own; its small contracts. No condition but that its numbers are small.
-/
namespace Go.Proofs.Ytopemjbakpahfaa
open Go.RowKit Disk
/-- A sector's slice: its whole block is known. -/
def Row5 (F : Nat → Prop) (w : World) (v : Value) (l : List UInt8) : Prop := ∃ g, v = .slice (some ⟨g, 0, none⟩) 32 32 ∧ F g ∧ w.heap[g]? = some (.cells (l.map byteV).toArray 5 (0, 0))
structure RKept (F : Nat → Prop) (w : World) (v : Value) (l : List (List UInt8)) : Prop where
  ex : ∃ vs, w.ownsRow 0 22 1 v l.length vs ∧ ∀ i, i < l.length → ∃ u, vs[i]? = some u ∧ Row5 F w u (l.getD i [])
  f : ∀ k, v.ownBlock = some k → F k
/-- The cells of pending writes: a number, a slice. -/
def wcells : List (Nat × List UInt8) → List Value → List Value
  | p :: ps, u :: us => Value.int .i64 (p.1 : Int) :: u :: wcells ps us
  | _, _ => []
structure RWait (F : Nat → Prop) (w : World) (v : Value) (ps : List (Nat × List UInt8)) : Prop where
  ex : ∃ us, us.length = ps.length ∧ w.ownsRow 0 117 2 v ps.length (wcells ps us) ∧ ∀ (i : Nat) (p : Nat × List UInt8), ps[i]? = some p → ∃ u, us[i]? = some u ∧ Row5 F w u p.2
  f : ∀ k, v.ownBlock = some k → F k
def rcells (d : Dev) (vk vw : Value) : Array Value := #[vk, vw, .bool d.down, .int .i64 (d.armed : Int), .int .i64 (d.writes : Int), .int .i64 (d.syncs : Int)]
structure RefV (F : Nat → Prop) (w : World) (B : Nat) (vk vw : Value) (d : Dev) : Prop where
  blk : w.heap[B]? = some (.cells (rcells d vk vw) 59 (0, 0))
  kept : RKept F w vk d.kept
  wait : RWait F w vw d.pend
  ok : d.ok
  f : F B
  arm : d.armed ≤ 9223372036854775807
  lt : ∀ k, F k → k < w.heap.size
/-- The reference's device. -/
def IsRef (F : Nat → Prop) (w : World) (B : Nat) (d : Dev) : Prop := ∃ vk vw, RefV F w B vk vw d
theorem Row5.same {F G : Nat → Prop} {A B : World} {v : Value} {l : List UInt8} (h : Row5 F A v l) (e : ∀ k, F k → k < A.heap.size → B.heap[k]? = A.heap[k]?) (hG : ∀ k, F k → G k) : Row5 G B v l := by
  obtain ⟨g, h1, h2, h3⟩ := h
  exact ⟨g, h1, hG g h2, (e g h2 (Array.getElem?_eq_some_iff.1 h3).1).trans h3⟩
theorem RKept.same {F G : Nat → Prop} {A B : World} {v : Value} {l : List (List UInt8)} (h : RKept F A v l) (e : ∀ k, F k → k < A.heap.size → B.heap[k]? = A.heap[k]?) (hG : ∀ k, F k → G k) : RKept G B v l := by
  obtain ⟨⟨vs, h1, h2⟩, h3⟩ := h
  exact ⟨⟨vs, owns_block h1 (fun k hk => e k (h3 k hk) (h1.lt k hk).2), fun i hi => by obtain ⟨u, e1, e2⟩ := h2 i hi; exact ⟨u, e1, e2.same e hG⟩⟩, fun k hk => hG k (h3 k hk)⟩
theorem RWait.same {F G : Nat → Prop} {A B : World} {v : Value} {ps : List (Nat × List UInt8)} (h : RWait F A v ps) (e : ∀ k, F k → k < A.heap.size → B.heap[k]? = A.heap[k]?) (hG : ∀ k, F k → G k) : RWait G B v ps := by
  obtain ⟨⟨us, h0, h1, h2⟩, h3⟩ := h
  exact ⟨⟨us, h0, owns_block h1 (fun k hk => e k (h3 k hk) (h1.lt k hk).2), fun i p hi => by obtain ⟨u, e1, e2⟩ := h2 i p hi; exact ⟨u, e1, e2.same e hG⟩⟩, fun k hk => hG k (h3 k hk)⟩
theorem RefV.frm {F G : Nat → Prop} {A B : World} {b : Nat} {vk vw : Value} {d : Dev} (h : RefV F A b vk vw d) (hf : Frm G A B) (hd : ∀ k, F k → ¬ G k) : RefV F B b vk vw d := by
  obtain ⟨h1, h2, h3, h4, h5, h6, h7⟩ := h
  have e : ∀ k, F k → k < A.heap.size → B.heap[k]? = A.heap[k]? := fun k hk hl => hf.block k hl (hd k hk)
  exact ⟨(e b h5 (h7 b h5)).trans h1, h2.same e (fun _ h => h), h3.same e (fun _ h => h), h4, h5, h6, fun k hk => Nat.lt_of_lt_of_le (h7 k hk) hf.size⟩
theorem IsRef.frm {F G : Nat → Prop} {A B : World} {b : Nat} {d : Dev} (h : IsRef F A b d) (hf : Frm G A B) (hd : ∀ k, F k → ¬ G k) : IsRef F B b d := by
  obtain ⟨vk, vw, h⟩ := h; exact ⟨vk, vw, h.frm hf hd⟩
theorem IsRef.below {F : Nat → Prop} {A B : World} {b : Nat} {d : Dev} (h : IsRef F A b d) (hb : Below A.heap.size A B) : IsRef F B b d :=
  h.frm (G := fun _ => False) (Frm.of_below hb) (fun _ _ h => h)
theorem IsRef.lt {F : Nat → Prop} {w : World} {B : Nat} {d : Dev} (h : IsRef F w B d) : ∀ k, F k → k < w.heap.size := by obtain ⟨vk, vw, h⟩ := h; exact h.lt
theorem IsRef.ok {F : Nat → Prop} {w : World} {B : Nat} {d : Dev} (h : IsRef F w B d) : d.ok := by obtain ⟨vk, vw, h⟩ := h; exact h.ok
theorem RefV.mono {F G : Nat → Prop} {w : World} {B : Nat} {vk vw : Value} {d : Dev} (h : RefV F w B vk vw d) (hG : ∀ k, F k → G k) (hl : ∀ k, G k → k < w.heap.size) : RefV G w B vk vw d := by
  obtain ⟨h1, h2, h3, h4, h5, h6, _⟩ := h
  exact ⟨h1, h2.same (fun _ _ _ => rfl) hG, h3.same (fun _ _ _ => rfl) hG, h4, hG B h5, h6, hl⟩
theorem IsRef.grow {F : Nat → Prop} {w w' : World} {B : Nat} {d : Dev} (h : IsRef F w' B d) (hF : ∀ k, F k → k < w.heap.size) (hs : w.heap.size ≤ w'.heap.size) : IsRef (Grow F w w') w' B d := by
  obtain ⟨vk, vw, h⟩ := h
  exact ⟨vk, vw, h.mono (fun _ hk => .inl hk) (fun k hk => hk.elim (fun h1 => by have := hF k h1; omega) (fun h1 => h1.2))⟩
/-- What a call leaves: the world but for the device's blocks, and the device. -/
def RefOf (F : Nat → Prop) (w : World) (B : Nat) (e : Dev) (v : Value) (en : Ending) (w' : World) : Prop := en = .returned v ∧ Frm F w w' ∧ IsRef (Grow F w w') w' B e
theorem RefOf.out {F : Nat → Prop} {w w' : World} {B : Nat} {e : Dev} {v : Value} {en : Ending} (h : RefOf F w B e v en w') {n : Nat} (hF : ∀ k, F k → n ≤ k) (hn : n ≤ w.heap.size) :
    en = .returned v ∧ Frm F w w' ∧ Below n w w' ∧ ∃ F', IsRef F' w' B e ∧ (∀ k, F' k → n ≤ k) ∧ ∀ k, F' k → F k ∨ w.heap.size ≤ k :=
  ⟨h.1, h.2.1, h.2.1.below hF hn, _, h.2.2, grow_ge hF hn, fun _ hk => hk.imp_right (·.1)⟩
theorem RefOf.same {F : Nat → Prop} {w w' : World} {B : Nat} {d : Dev} {v : Value} (h : IsRef F w B d) (hb : Below w.heap.size w w') : RefOf F w B d v (.returned v) w' :=
  ⟨rfl, Frm.of_below hb, (h.below hb).grow h.lt hb.size⟩
theorem rkept_form {F : Nat → Prop} {w : World} {v : Value} {l : List (List UInt8)} (h : RKept F w v l) : ∃ a c, v = .slice a l.length c := by
  obtain ⟨⟨vs, h1, _⟩, _⟩ := h
  rcases h1.2 with ⟨rfl, h0⟩ | ⟨g, cap, cur, rfl, _⟩
  · exact ⟨none, 0, by rw [h0]⟩
  · exact ⟨_, _, rfl⟩
theorem rwait_form {F : Nat → Prop} {w : World} {v : Value} {l : List (Nat × List UInt8)} (h : RWait F w v l) : ∃ a c, v = .slice a l.length c := by
  obtain ⟨⟨vs, _, h1, _⟩, _⟩ := h
  rcases h1.2 with ⟨rfl, h0⟩ | ⟨g, cap, cur, rfl, _⟩
  · exact ⟨none, 0, by rw [h0]⟩
  · exact ⟨_, _, rfl⟩
theorem row5_not {F : Nat → Prop} {w : World} {B : Nat} {v : Value} {l : List UInt8} {C : Array Value} {t : TypeId} (h : Row5 F w v l) (hb : w.heap[B]? = some (.cells C t (0, 0))) (ht : t ≠ 5) : ∃ g, v = .slice (some ⟨g, 0, none⟩) 32 32 ∧ g ≠ B := by
  obtain ⟨g, rfl, _, h3⟩ := h
  refine ⟨g, rfl, ?_⟩
  rintro rfl
  rw [hb] at h3; cases h3; exact ht rfl
/-- Where only a cell of the device's own block was stored. -/
theorem ref_set {F : Nat → Prop} {w : World} {B : Nat} {d e : Dev} {vk vw uk uw : Value} (hb : w.heap[B]? = some (.cells (rcells d vk vw) 59 (0, 0))) (hk : RKept F w uk e.kept) (hp : RWait F w uw e.pend) (i : Nat) (v : Value)
    (he : (rcells d vk vw).setIfInBounds i v = rcells e uk uw) (hf : F B) (hok : e.ok) (ha : e.armed ≤ 9223372036854775807) (hlt : ∀ k, F k → k < w.heap.size) : RefV F (w.setCell ⟨B, i, none⟩ v) B uk uw e := by
  refine ⟨?_, ?_, ?_, hok, hf, ha, fun k hk => by simpa using hlt k hk⟩
  · rw [← he]; exact Joins.block_setCell hb v
  · obtain ⟨⟨vs, h1, h2⟩, h3⟩ := hk
    refine ⟨⟨vs, owns_block h1 (fun k hk => Below.heap_setCell _ _ _ _ (row_apart hb h1 (by decide) k hk)), fun i' hi => ?_⟩, h3⟩
    obtain ⟨u, e1, g, e2, e3, e4⟩ := h2 i' hi
    exact ⟨u, e1, g, e2, e3, (Below.heap_setCell _ _ _ _ (by rintro rfl; rw [hb] at e4; simp at e4)).trans e4⟩
  · obtain ⟨⟨us, h0, h1, h2⟩, h3⟩ := hp
    refine ⟨⟨us, h0, owns_block h1 (fun k hk => Below.heap_setCell _ _ _ _ (row_apart hb h1 (by decide) k hk)), fun i' p hi => ?_⟩, h3⟩
    obtain ⟨u, e1, g, e2, e3, e4⟩ := h2 i' p hi
    exact ⟨u, e1, g, e2, e3, (Below.heap_setCell _ _ _ _ (by rintro rfl; rw [hb] at e4; simp at e4)).trans e4⟩
def thereB (d : Dev) (k : Int) : Bool := decide (0 ≤ k) && decide (k < (d.kept.length : Int))
theorem there_any {F : Nat → Prop} {w : World} {B : Nat} {d : Dev} (h : IsRef F w B d) (k : Int) : Calls Try.prog 90 #[.pointer (some ⟨B, 0, none⟩), .int .i64 k] w fun en w' => en = .returned (.bool (thereB d k)) ∧ w = w' := by
  obtain ⟨vk, vw, h⟩ := h
  obtain ⟨a, c, rfl⟩ := rkept_form h.kept
  have c0 : w.cell? ⟨B, 0, none⟩ = some (.slice a d.kept.length c) := Joins.cell_of_block h.blk 0
  have HT : Hid (thereB d k = (decide (0 ≤ k) && decide (k < (d.kept.length : Int)))) := rfl
  generalize thereB d k = r at HT
  by_cases h0 : 0 ≤ k
  · by_cases h1 : k < (d.kept.length : Int)
    · go_enter Try.func90, Try.ntmps90
      go_wp2
      go_ret
      exact ⟨ret_bool (by rw [HT.out, decide_eq_true h0, decide_eq_true h1]; first | rfl | simp), rfl⟩
    · go_enter Try.func90, Try.ntmps90
      go_wp2
      go_ret
      exact ⟨ret_bool (by rw [HT.out, decide_eq_true h0, decide_eq_false (p := k < (d.kept.length : Int)) (by omega)]; first | rfl | simp), rfl⟩
  · go_enter Try.func90, Try.ntmps90
    go_wp2
    go_ret
    exact ⟨ret_bool (by rw [HT.out, decide_eq_false (p := 0 ≤ k) (by omega)]; first | rfl | simp), rfl⟩
def RStopsOf (F : Nat → Prop) (w : World) (B : Nat) (d : Dev) (en : Ending) (w' : World) : Prop := en = .returned (.bool (decide (d.armed = 1))) ∧ Frm F w w' ∧ IsRef F w' B d.step
theorem rstops_any {F : Nat → Prop} {w : World} {B : Nat} {d : Dev} (h : IsRef F w B d) (hd : d.down = false) : Calls Try.prog 94 #[.pointer (some ⟨B, 0, none⟩)] w (RStopsOf F w B d) := by
  obtain ⟨vk, vw, h⟩ := h
  have c3 : w.cell? ⟨B, 3, none⟩ = some (.int .i64 (d.armed : Int)) := Joins.cell_of_block h.blk 3
  have f3 : w.frozen? ⟨B, 3, none⟩ = false := Joins.unfrozen_of_block h.blk 3
  have ha := h.arm
  have hai : (d.armed : Int) ≤ 9223372036854775807 := by omega
  have fin0 : d.armed = 0 → RStopsOf F w B d (.returned (.bool false)) w := fun h0 => by
    refine ⟨by rw [h0]; rfl, Frm.refl _ _, vk, vw, ?_⟩
    have e : d.step = d := by
      unfold Dev.step
      rw [h0, show decide ((0 : Nat) = 1) = false from rfl, ← hd]
      cases d; simp_all
    rw [e]; exact h
  have set3 : ∀ x : Int, x = ((d.armed - 1 : Nat) : Int) → RefV F (w.setCell ⟨B, 3, none⟩ (.int .i64 x)) B vk vw { d with armed := d.armed - 1 } := fun x hx =>
    ref_set (e := { d with armed := d.armed - 1 }) h.blk h.kept h.wait 3 _ (by rw [hx]; rfl) h.f h.ok (by show d.armed - 1 ≤ _; omega) h.lt
  have fin1 : ∀ x : Int, x = ((d.armed - 1 : Nat) : Int) → d.armed ≠ 1 → RStopsOf F w B d (.returned (.bool false)) (w.setCell ⟨B, 3, none⟩ (.int .i64 x)) := fun x hx h1 => by
    refine ⟨by rw [decide_eq_false h1], Frm.setCell w 3 _ h.f, vk, vw, ?_⟩
    have e : d.step = { d with armed := d.armed - 1 } := by
      unfold Dev.step
      rw [decide_eq_false h1, ← hd]
    rw [e]; exact set3 x hx
  have fin2 : ∀ x : Int, x = ((d.armed - 1 : Nat) : Int) → d.armed = 1 → RStopsOf F w B d (.returned (.bool true)) ((w.setCell ⟨B, 3, none⟩ (.int .i64 x)).setCell ⟨B, 2, none⟩ (.bool true)) := fun x hx h1 => by
    have h3 := set3 x hx
    refine ⟨by rw [h1]; rfl, (Frm.setCell w 3 _ h.f).trans (Frm.setCell _ 2 _ h.f) (fun k hk => .inl hk), vk, vw, ?_⟩
    exact ref_set (e := d.step) h3.blk h3.kept h3.wait 2 _ (by simp [rcells, Dev.step, h1]) h3.f h.ok (by show d.armed - 1 ≤ _; omega) h3.lt
  have hb3 := Joins.block_setCell (i := 3) h.blk (.int .i64 ((d.armed : Int) - 1))
  have f2 : (w.setCell ⟨B, 3, none⟩ (.int .i64 ((d.armed : Int) - 1))).frozen? ⟨B, 2, none⟩ = false := Joins.unfrozen_of_block hb3 2
  have c2 : (w.setCell ⟨B, 3, none⟩ (.int .i64 ((d.armed : Int) - 1))).cell? ⟨B, 2, none⟩ = some (.bool d.down) := Joins.cell_of_block hb3 2
  have FN0 := Lib.hid fin0
  have FN1 := Lib.hid fin1
  have FN2 := Lib.hid fin2
  clear fin0 fin1 fin2 set3 hb3 hd
  by_cases h0 : d.armed = 0
  · have h0' : ¬ (0 : Int) < (d.armed : Int) := by omega
    have H0 := Lib.hid h0
    clear h0
    go_enter Try.func94, Try.ntmps94
    go_wp2
    go_ret
    exact FN0.out H0.out
  · have h0' : (0 : Int) < (d.armed : Int) := by omega
    by_cases h1 : d.armed = 1
    · have e1 : ((d.armed : Int) - 1 == 0) = true := by rw [beq_iff_eq]; omega
      have H1 := Lib.hid h1
      clear h1 h0
      go_enter Try.func94, Try.ntmps94
      go_wp2
      go_ret
      exact FN2.out _ (by omega) H1.out
    · have e1 : ((d.armed : Int) - 1 == 0) = false := by rw [beq_eq_false_iff_ne]; omega
      have H1 := Lib.hid h1
      clear h1 h0
      go_enter Try.func94, Try.ntmps94
      go_wp2
      go_ret
      exact FN1.out _ (by omega) H1.out
theorem rarm_any {F : Nat → Prop} {w : World} {B : Nat} {d : Dev} (h : IsRef F w B d) (n : Int) (hn : n ≤ 9223372036854775807) : Calls Try.prog 61 #[.pointer (some ⟨B, 0, none⟩), .int .i64 n] w fun en w' => (∃ v, en = .returned v) ∧ Frm F w w' ∧ IsRef F w' B (d.arm n) := by
  obtain ⟨vk, vw, h⟩ := h
  have c3 : w.cell? ⟨B, 3, none⟩ = some (.int .i64 (d.armed : Int)) := Joins.cell_of_block h.blk 3
  have f3 : w.frozen? ⟨B, 3, none⟩ = false := Joins.unfrozen_of_block h.blk 3
  have fin : ∀ x, x = ((n.toNat : Nat) : Int) → Frm F w (w.setCell ⟨B, 3, none⟩ (.int .i64 x)) ∧ IsRef F (w.setCell ⟨B, 3, none⟩ (.int .i64 x)) B (d.arm n) := fun x hx => by
    subst hx
    exact ⟨Frm.setCell w 3 _ h.f, vk, vw, ref_set (e := d.arm n) h.blk h.kept h.wait 3 _ rfl h.f h.ok (by show n.toNat ≤ _; omega) h.lt⟩
  have FN := Lib.hid fin
  clear fin
  go_enter Try.func61, Try.ntmps61
  go_wp2
  all_goals
    go_end0
    exact ⟨⟨_, rfl⟩, FN.out _ (by omega)⟩
end Go.Proofs.Ytopemjbakpahfaa
