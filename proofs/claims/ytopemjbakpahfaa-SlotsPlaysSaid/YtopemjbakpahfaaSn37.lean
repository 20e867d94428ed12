/-
  Contracts and plain laws, part 37 (texts: S13). No condition but what each states.
-/
import Derived.Test.YtopemjbakpahfaaSn36
/-
  Opening a store: the walk. No condition but that the numbers are small.
-/
namespace Go.Proofs.Ytopemjbakpahfaa
open Go.RowKit Disk Jour Crc Slot
set_option linter.unusedSimpArgs false
set_option linter.unusedVariables false
def OpenOf (w : World) (B : Nat) (r : Option St × Int) (en : Ending) (w' : World) : Prop :=
  Below w.heap.size w w' ∧ ((r.1 = none ∧ en = .returned (.tuple #[.pointer none, .int .i64 r.2])) ∨ ∃ s S, r = (some s, 0) ∧ en = .returned (.tuple #[.pointer (some ⟨S, 0, none⟩), .int .i64 0]) ∧ IsSt (fun k => w.heap.size ≤ k ∧ k < w'.heap.size) w' S B s)
theorem OpenOf.none {w w' : World} {B : Nat} {r : Option St × Int} (e : Int) (h : r = (none, e)) (hb : Below w.heap.size w w') {v : Value} (hv : v = .tuple #[.pointer none, .int .i64 e]) : OpenOf w B r (.returned v) w' := by
  subst h hv; exact ⟨hb, .inl ⟨rfl, rfl⟩⟩
theorem sopen_arg {d : Dev} {size : Int} (h : size < 1 ∨ 1024 < size ∨ (d.kept.length : Int) < 2 * size + 2) : sopen d size = (none, 1) := by unfold sopen; rw [if_pos h]
theorem sopen_n {d : Dev} {N : Nat} (h1 : 1 ≤ N) (h2 : N ≤ 1024) (h3 : 2 * N + 2 ≤ d.kept.length) : sopen d (N : Int) = sopenN d N := by unfold sopen; rw [if_neg (by omega), Int.toNat_natCast]
def scells (B AL : Nat) (x0 x1 : Option Addr) : Array Value := #[.pointer (some ⟨B, 0, none⟩), .pointer x0, .pointer x1, .pointer (some ⟨AL, 0, none⟩), .int .i64 0, .int .i64 0, .int .i64 0, .int .i64 0, .slice none 0 0, .slice none 0 0, .bool false]
/-- The slots' areas, while they are made. -/
structure SlotsI (w w2 : World) (S B AL N : Nat) (k : Nat) (wr : World) : Prop where
  frm : Frm (fun k => k = S) w2 wr
  ex : ∃ x0 x1 : Option Addr, wr.heap[S]? = some (.cells (scells B AL x0 x1) 134 (0, 0)) ∧ (1 ≤ k → ∃ A0, x0 = some ⟨A0, 0, none⟩ ∧ IsArea wr A0 B 1 N ∧ w.heap.size ≤ A0) ∧ (2 ≤ k → ∃ A1, x1 = some ⟨A1, 0, none⟩ ∧ IsArea wr A1 B (1 + N) N ∧ w.heap.size ≤ A1)
theorem SlotsI.step {w w2 : World} {S B AL N k : Nat} {wr w3 : World} (h : SlotsI w w2 S B AL N k wr) (hk : k < 2) (hw : w.heap.size ≤ w2.heap.size) {A : Nat} (b3 : Below wr.heap.size wr w3) (hA : IsArea w3 A B (1 + k * N) N) (hAl : wr.heap.size ≤ A) :
    SlotsI w w2 S B AL N (k + 1) (w3.setCell ⟨S, 1 + k, none⟩ (.pointer (some ⟨A, 0, none⟩))) := by
  obtain ⟨hf, x0, x1, hb, h0, h1⟩ := h
  have hS := (Array.getElem?_eq_some_iff.1 hb).1
  have hb3 := (b3.block S hS).trans hb
  have fS : Frm (fun k => k = S) w3 (w3.setCell ⟨S, 1 + k, none⟩ (.pointer (some ⟨A, 0, none⟩))) := Frm.setCell w3 _ _ rfl
  have ar : ∀ {A' f n : Nat}, IsArea w3 A' B f n → IsArea (w3.setCell ⟨S, 1 + k, none⟩ (.pointer (some ⟨A, 0, none⟩))) A' B f n := fun h => h.frm fS (area_ne h hb3)
  have hsz := hf.size
  refine ⟨(hf.trans (Frm.of_below (F := fun k => k = S) b3) (fun k hk => .inl hk)).trans fS (fun k hk => .inl hk), ?_⟩
  rcases (by omega : k = 0 ∨ k = 1) with rfl | rfl
  · refine ⟨some ⟨A, 0, none⟩, x1, Joins.block_setCell hb3 _, fun _ => ⟨A, rfl, ?_, by omega⟩, fun h => by omega⟩
    have := ar hA
    rw [Nat.zero_mul, Nat.add_zero] at this
    exact this
  · obtain ⟨A0, e0, i0, l0⟩ := h0 (by omega)
    refine ⟨x0, some ⟨A, 0, none⟩, Joins.block_setCell hb3 _, fun _ => ⟨A0, e0, ar (i0.below b3), l0⟩, fun _ => ⟨A, rfl, ?_, by omega⟩⟩
    have := ar hA
    rw [Nat.one_mul] at this
    exact this
theorem SlotsI.sub {w w2 : World} {S B AL N k : Nat} {wr w3 : World} (h : SlotsI w w2 S B AL N k wr) (b3 : Below wr.heap.size wr w3) : SlotsI w w2 S B AL N k w3 := by
  obtain ⟨hf, x0, x1, hb, h0, h1⟩ := h
  exact ⟨hf.trans (Frm.of_below (F := fun k => k = S) b3) (fun k hk => .inl hk), x0, x1, (b3.block S (Array.getElem?_eq_some_iff.1 hb).1).trans hb, fun hk => by obtain ⟨A, e, i, l⟩ := h0 hk; exact ⟨A, e, i.below b3, l⟩, fun hk => by obtain ⟨A, e, i, l⟩ := h1 hk; exact ⟨A, e, i.below b3, l⟩⟩
theorem asize_log {N K : Nat} (h : 2 * N + 2 ≤ K) (hK : K ≤ 1024) : asize (1 + 2 * (N : Int)) 1024 K = K - 1 - 2 * N := by
  unfold asize; rw [if_neg (by omega)]; omega
theorem asize_slot {N K k : Nat} (h : 2 * N + 2 ≤ K) (hk : k < 2) : asize (1 + (k : Int) * (N : Int)) N K = N := by
  unfold asize
  rcases (by omega : k = 0 ∨ k = 1) with rfl | rfl
  · rw [if_neg (by omega)]; omega
  · rw [if_neg (by omega)]; omega
theorem Sec.rb {w : World} {base : Nat} {v : Value} {l : List UInt8} (h : Sec w base v l) : ∃ a cap, v = .slice a l.length cap ∧ l.length ≤ cap ∧ l.length ≤ 32 ∧ RB w a l := by
  rcases h with ⟨rfl, rfl⟩ | ⟨g, rfl, hl, _, hg, hr, _⟩
  · exact ⟨none, 0, rfl, Nat.le_refl _, Nat.zero_le _, RB.nil _ _⟩
  · refine ⟨some ⟨g, 0, none⟩, 32, by rw [hl], by omega, by omega, fun i hi => ⟨g, 0, rfl, hg, ?_⟩⟩
    exact hr i (byteV (l.getD i 0)) (by simp [List.getD, hi])
/-- A store while it is opened. -/
structure OpS (w W : World) (S B A0 A1 AL N L bx : Nat) (h x : Hd) (vc vr : Value) (cs : List UInt8) : Prop where
  bl : Below w.heap.size w W
  blk : W.heap[S]? = some (.cells (stcells B A0 A1 AL ⟨N, L, x, [], [], false⟩ vc vr) 134 (0, 0))
  a0 : IsArea W A0 B 1 N
  a1 : IsArea W A1 B (1 + N) N
  al : IsArea W AL B (1 + 2 * N) L
  l0 : w.heap.size ≤ A0
  l1 : w.heap.size ≤ A1
  ll : w.heap.size ≤ AL
  ls : w.heap.size ≤ S
  bx : W.heap[bx]? = some (.cells (hcells h) 132 (0, 0))
  chk : BsG (fun k => w.heap.size ≤ k) W vc cs
theorem OpS.frm {w W W' : World} {S B A0 A1 AL N L bx : Nat} {h x x' : Hd} {vc vr vr' : Value} {cs : List UInt8} (o : OpS w W S B A0 A1 AL N L bx h x vc vr cs) (hf : Frm (fun k => k = S) W W') (hb : W'.heap[S]? = some (.cells (stcells B A0 A1 AL ⟨N, L, x', [], [], false⟩ vc vr') 134 (0, 0))) : OpS w W' S B A0 A1 AL N L bx h x' vc vr' cs := by
  have e : ∀ k, k < W.heap.size → k ≠ S → W'.heap[k]? = W.heap[k]? := fun k hl hne => hf.block k hl hne
  have lb := (Array.getElem?_eq_some_iff.1 o.bx).1
  refine ⟨o.bl.trans (hf.below (fun k hk => by rw [hk]; exact o.ls) o.bl.size), hb, o.a0.same (e _ o.a0.lt (area_ne o.a0 o.blk)), o.a1.same (e _ o.a1.lt (area_ne o.a1 o.blk)), o.al.same (e _ o.al.lt (area_ne o.al o.blk)), o.l0, o.l1, o.ll, o.ls, (e _ lb (fun he => by have h1 := o.bx; rw [he, o.blk] at h1; cases h1)).trans o.bx, ?_⟩
  exact ((o.chk.not o.blk).same (fun k hk hl => e k hl hk.2) (fun _ h => h)).mono (fun _ h => h.1)
theorem OpS.below {w W W' : World} {S B A0 A1 AL N L bx : Nat} {h x : Hd} {vc vr : Value} {cs : List UInt8} (o : OpS w W S B A0 A1 AL N L bx h x vc vr cs) (hb : Below W.heap.size W W') : OpS w W' S B A0 A1 AL N L bx h x vc vr cs :=
  o.frm (Frm.of_below hb) ((hb.block S (Array.getElem?_eq_some_iff.1 o.blk).1).trans o.blk)
theorem OpS.start {w w5 : World} {S B A0 A1 AL N L : Nat} {h : Hd} (bl : Below w.heap.size w w5) (hb : w5.heap[S]? = some (.cells (scells B AL (some ⟨A0, 0, none⟩) (some ⟨A1, 0, none⟩)) 134 (0, 0))) (a0 : IsArea w5 A0 B 1 N) (a1 : IsArea w5 A1 B (1 + N) N) (al : IsArea w5 AL B (1 + 2 * N) L) (l0 : w.heap.size ≤ A0) (l1 : w.heap.size ≤ A1) (ll : w.heap.size ≤ AL) (ls : w.heap.size ≤ S) :
    OpS w (w5.alloc (.cells (hcells h) 132)) S B A0 A1 AL N L w5.heap.size h hd0 (.slice none 0 0) (.slice none 0 0) [] := by
  have b := below_alloc w5 (.cells (hcells h) 132)
  exact ⟨bl.alloc bl.size _, (b.block S (Array.getElem?_eq_some_iff.1 hb).1).trans hb, a0.below b, a1.below b, al.below b, l0, l1, ll, ls, heap_alloc_new w5 _, ⟨World.ownsRow_nil _ _ _ _, fun k hk => by simp [Value.ownBlock] at hk⟩⟩
theorem OpS.setHead {w W : World} {S B A0 A1 AL N L bx : Nat} {h x : Hd} {vc vr : Value} {cs : List UInt8} (o : OpS w W S B A0 A1 AL N L bx h x vc vr cs) :
    OpS w ((((W.setCell ⟨S, 4, none⟩ (.int .i64 (h.slot : Int))).setCell ⟨S, 5, none⟩ (.int .i64 (h.long : Int))).setCell ⟨S, 6, none⟩ (.int .i64 (h.used : Int))).setCell ⟨S, 7, none⟩ (.int .i64 (h.turn : Int))) S B A0 A1 AL N L bx h h vc vr cs := by
  have f : ∀ (w : World) (o : Nat) (v : Value), Frm (fun k => k = S) w (w.setCell ⟨S, o, none⟩ v) := fun w o v => Frm.setCell w o v rfl
  have t : ∀ {a b c : World}, Frm (fun k => k = S) a b → Frm (fun k => k = S) b c → Frm (fun k => k = S) a c := fun h k => h.trans k (fun _ h => .inl h)
  exact o.frm (t (t (t (f _ _ _) (f _ _ _)) (f _ _ _)) (f _ _ _)) (Joins.block_setCell (Joins.block_setCell (Joins.block_setCell (Joins.block_setCell o.blk _) _) _) _)
theorem OpS.setCheck {w W W8 : World} {S B A0 A1 AL N L bx : Nat} {h x : Hd} {vr v : Value} {cs : List UInt8} (o : OpS w W S B A0 A1 AL N L bx h x (.slice none 0 0) vr []) (b8 : Below W.heap.size W W8) (o8 : W8.ownsRow W.heap.size 5 1 v cs.length (cs.map byteV)) :
    OpS w (W8.setCell ⟨S, 8, none⟩ v) S B A0 A1 AL N L bx h x v vr cs := by
  have p := o.below b8
  have hf : Frm (fun k => k = S) W8 (W8.setCell ⟨S, 8, none⟩ v) := Frm.setCell W8 8 v rfl
  have hb : (W8.setCell ⟨S, 8, none⟩ v).heap[S]? = some (.cells (stcells B A0 A1 AL ⟨N, L, x, [], [], false⟩ v vr) 134 (0, 0)) := Joins.block_setCell p.blk v
  have e : ∀ k, k < W8.heap.size → k ≠ S → (W8.setCell ⟨S, 8, none⟩ v).heap[k]? = W8.heap[k]? := fun k hl hne => hf.block k hl hne
  have lb := (Array.getElem?_eq_some_iff.1 p.bx).1
  have lS := (Array.getElem?_eq_some_iff.1 o.blk).1
  have sz := o.bl.size
  refine ⟨p.bl.trans (hf.below (fun k hk => by rw [hk]; exact p.ls) p.bl.size), hb, p.a0.same (e _ p.a0.lt (area_ne p.a0 p.blk)), p.a1.same (e _ p.a1.lt (area_ne p.a1 p.blk)), p.al.same (e _ p.al.lt (area_ne p.al p.blk)), p.l0, p.l1, p.ll, p.ls, (e _ lb (fun he => by have h1 := p.bx; rw [he, p.blk] at h1; cases h1)).trans p.bx, ownsRow_base (owns_block o8 (fun k hk => e k (o8.lt k hk).2 (by have := (o8.lt k hk).1; omega))) (Nat.zero_le _), fun k hk => by have := (o8.lt k hk).1; show _ ≤ _; omega⟩
theorem OpS.fin {w W W8 : World} {S B A0 A1 AL N L bx : Nat} {h x : Hd} {vc v : Value} {cs : List UInt8} {R : List (List UInt8)} (o : OpS w W S B A0 A1 AL N L bx h x vc (.slice none 0 0) cs) (b8 : Below W.heap.size W W8) (o8 : RowsOf W8 W.heap.size v R) (ok : StOk ⟨N, L, x, cs, R, false⟩) :
    Below w.heap.size w (W8.setCell ⟨S, 9, none⟩ v) ∧ IsSt (fun k => w.heap.size ≤ k ∧ k < (W8.setCell ⟨S, 9, none⟩ v).heap.size) (W8.setCell ⟨S, 9, none⟩ v) S B ⟨N, L, x, cs, R, false⟩ := by
  have p := o.below b8
  have hf : Frm (fun k => k = S) W8 (W8.setCell ⟨S, 9, none⟩ v) := Frm.setCell W8 9 v rfl
  have hb : (W8.setCell ⟨S, 9, none⟩ v).heap[S]? = some (.cells (stcells B A0 A1 AL ⟨N, L, x, [], [], false⟩ vc v) 134 (0, 0)) := Joins.block_setCell p.blk v
  have lS := (Array.getElem?_eq_some_iff.1 o.blk).1
  have sz := o.bl.size
  have q := p.frm hf hb
  have ss : (W8.setCell ⟨S, 9, none⟩ v).heap.size = W8.heap.size := by simp
  have s8 := b8.size
  refine ⟨q.bl, A0, A1, AL, vc, v, hb, q.a0, q.a1, q.al, ⟨q.chk.1, fun k hk => ⟨q.chk.2 k hk, (q.chk.1.lt k hk).2⟩⟩, ?_, ⟨q.ls, by omega⟩, ⟨q.l0, q.a0.lt⟩, ⟨q.l1, q.a1.lt⟩, ⟨q.ll, q.al.lt⟩, fun k hk => hk.2, ok⟩
  have r8 : RowsG (fun k => W.heap.size ≤ k) W8 v R := RowsG.of o8 (fun k h1 _ => h1)
  obtain ⟨vs, h1, h2, h3⟩ := r8
  have e : ∀ k, W.heap.size ≤ k → k < W8.heap.size → (W8.setCell ⟨S, 9, none⟩ v).heap[k]? = W8.heap[k]? := fun k hl hl2 => hf.block k hl2 (by omega)
  have := RowsG.same (F := fun k => W.heap.size ≤ k ∧ k < W8.heap.size) (G := fun k => w.heap.size ≤ k ∧ k < (W8.setCell ⟨S, 9, none⟩ v).heap.size) (B := W8.setCell ⟨S, 9, none⟩ v) (A := W8) (v := v) (L := R) ⟨vs, h1, fun k hk => ⟨h2 k hk, (h1.lt k hk).2⟩, fun i u l a c => ⟨(h3 i u l a c).1, fun k hk => ⟨(h3 i u l a c).2 k hk, ((h3 i u l a c).1.lt k hk).2⟩⟩⟩ (fun k hk _ => e k hk.1 hk.2) (fun k hk => ⟨by omega, by omega⟩)
  exact this
theorem allF_bound : ∀ (k : Nat) (b : List UInt8), (allF k b).1.length ≤ (allF k b).2 ∧ ∀ r ∈ (allF k b).1, r.length ≤ 4096 := by
  intro k
  induction k with
  | zero => intro b; exact ⟨Nat.le_refl _, fun r hr => absurd hr (by simp [allF])⟩
  | succ k ih =>
    intro b
    unfold allF
    split
    · exact ⟨Nat.le_refl _, fun r hr => absurd hr (by simp)⟩
    · rename_i h r hc
      obtain ⟨i1, i2⟩ := ih r
      refine ⟨by simp only [List.length_cons]; omega, fun x hx => ?_⟩
      rcases List.mem_cons.1 hx with rfl | hx
      · exact (cut_some hc).1
      · exact i2 x hx
theorem jframes_bound {d : Dev} {first N : Nat} {n : Nat} {R : List (List UInt8)} (h : jframes d first N (n : Int) = (R, 0)) : R.length ≤ n ∧ ∀ r ∈ R, r.length ≤ 4096 := by
  unfold jframes at h
  split at h
  · rename_i h0; injection h with _ h2; exact absurd h2 h0
  · split at h
    · rename_i h1
      cases h
      have := allF_bound ((jget d first N 0 n).1.length + 1) (jget d first N 0 n).1
      change (all _).1.length ≤ (all _).2 ∧ _ at this
      exact ⟨by omega, this.2⟩
    · cases h
theorem sload_stok {d : Dev} {N L : Nat} {h : Hd} {b cs : List UInt8} {R : List (List UInt8)} (hr : hread b = some h) (h1 : ¬ 32 * N < h.long) (h2 : ¬ 32 * L < h.used) (hN : 1 ≤ N) (hL : 1 + 2 * N + L ≤ 1024) (hc : (jget d (1 + h.slot * N) N 0 h.long).1 = cs) (hf : jframes d (1 + 2 * N) L h.used = (R, 0)) : StOk ⟨N, L, h, cs, R, false⟩ := by
  obtain ⟨b1, b2, b3, b4⟩ := hread_bound hr
  obtain ⟨f1, f2⟩ := jframes_bound hf
  have := jget_len d (1 + h.slot * N) N 0 h.long (by omega)
  exact ⟨b1, b4, by show h.long ≤ 32 * N; omega, by show h.used ≤ 32 * L; omega, hN, hL, by show cs.length ≤ 32768; rw [← hc]; exact this, f1, f2⟩
end Go.Proofs.Ytopemjbakpahfaa
