/-
  The small case of the statements on a device comes out right. No condition.
-/
import Derived.Test.YtopemjbakpahfaaDev7
import Derived.Test.YtopemjbakpahfaaApp
namespace Go.Proofs.Ytopemjbakpahfaa
open Go.RowKit Disk
/-- Bytes in a block that is not the device's stay. -/
theorem RB.frm {F : Nat → Prop} {w w' : World} {g off : Nat} {l : List UInt8} (h : RB w (some ⟨g, off, none⟩) l) (hf : Frm F w w') (hg : ¬ F g) : RB w' (some ⟨g, off, none⟩) l := by
  intro i hi
  obtain ⟨g', off', e, hl, hc⟩ := h i hi
  cases e
  exact ⟨g, off, rfl, Nat.lt_of_lt_of_le hl hf.size, (World.cell?_of_block (hf.block g hl hg)).trans hc⟩
theorem grow_ge {F : Nat → Prop} {w w' : World} {n : Nat} (h : ∀ k, F k → n ≤ k) (hn : n ≤ w.heap.size) : ∀ k, Grow F w w' k → n ≤ k := fun k hk => hk.elim (h k) (fun h1 => Nat.le_trans hn h1.1)
theorem grow_not {F : Nat → Prop} {w w' : World} {g : Nat} (h : ¬ F g) (hg : g < w.heap.size) : ¬ Grow F w w' g := fun hk => hk.elim h (fun h1 => by omega)
theorem DevOf.out {F : Nat → Prop} {w w' : World} {B : Nat} {e : Dev} {v : Value} {en : Ending} (h : DevOf F w B e v en w') {n : Nat} (hF : ∀ k, F k → n ≤ k) (hn : n ≤ w.heap.size) :
    en = .returned v ∧ Frm F w w' ∧ Below n w w' ∧ ∃ F', IsDev F' w' B e ∧ (∀ k, F' k → n ≤ k) ∧ ∀ k, F' k → F k ∨ w.heap.size ≤ k :=
  ⟨h.1, h.2.1, h.2.1.below hF hn, _, h.2.2, grow_ge hF hn, fun _ hk => hk.imp_right (·.1)⟩
/-- A literal's bytes are written. -/
theorem write_lit {F : Nat → Prop} {w : World} {B : Nat} {d : Dev} (h : IsDev F w B d) (k : Int) (l : List UInt8) (xs : Array Value) (fr : Nat × Nat) (n c g : Nat) (hn : l.length = n) (hx : xs = (l.map byteV).toArray) (hg : w.heap.size = g) (hl : l.length ≤ 1000) (hp : d.pend.length ≤ 100000) (hw : d.writes ≤ 100000) :
    Calls Try.prog 34 #[.pointer (some ⟨B, 0, none⟩), .int .i64 k, .slice (some ⟨g, 0, none⟩) n c] (w.alloc (.cells xs 5 fr)) (DevOf F (w.alloc (.cells xs 5 fr)) B (d.write k l).1 (.int .i64 (d.write k l).2)) := by
  subst hn hg
  exact write_any (h.below (below_alloc w _)) k l _ c (by omega) (fun e => by cases e) (fun w' hf => RB.frm (RB.lit w l xs fr _ rfl hx) hf (fun hF => by have := h.lt _ hF; omega)) hp hw
def d0 : Dev := Dev.new 2
def d1 : Dev := (d0.write 0 [97]).1
def d2 : Dev := d1.sync.1
def d3 : Dev := (d2.write 0 [98]).1
def d4 : Dev := (d3.write 1 [99]).1
def d5 : Dev := (d4.restart [1]).1
def d6 : Dev := d5.arm 1
def d7 : Dev := (d6.write 0 []).1
theorem r1 : (d0.write 0 [97]).2 = 0 := by decide +kernel
theorem r2 : d1.sync.2 = 0 := by decide +kernel
theorem r3 : (d2.write 0 [98]).2 = 0 := by decide +kernel
theorem r4 : (d3.write 1 [99]).2 = 0 := by decide +kernel
theorem r5 : (d4.restart [1]).2 = 1 := by decide +kernel
theorem r6 : d5.read 0 = (97 :: List.replicate 31 0, 0) := by decide +kernel
theorem r7 : d5.read 1 = (99 :: List.replicate 31 0, 0) := by decide +kernel
theorem r8 : (d6.write 0 []).2 = 14 := by decide +kernel
theorem r9 : (d7.read 0).2 = 14 := by decide +kernel
theorem r10 : d7.down = true := by decide +kernel
theorem r11 : d7.kept.length = 2 := by decide +kernel
theorem sz2 : sizeOfDev 2 = 2 := by decide +kernel
set_option maxRecDepth 100000 in
set_option maxHeartbeats 4000000 in
theorem dsmall_any (w : World) : Calls Try.prog 32 #[] w fun en w' => en = .returned (.bool true) ∧ Below w.heap.size w w' := by
  have kc := conv_const
  go_enter Try.func32, Try.ntmps32
  go_wp2_with fail
  refine (new_any w 2).mono ?_
  rintro en w1 ⟨B, rfl, B1, hB, D1⟩
  rw [sz2] at D1
  obtain ⟨F1, hF1⟩ : ∃ F : Nat → Prop, (fun k => w.heap.size ≤ k ∧ k < w1.heap.size) = F := ⟨_, rfl⟩
  have g1 : ∀ k, F1 k → w.heap.size ≤ k := by rw [← hF1]; exact fun k hk => hk.1
  rw [hF1] at D1
  clear hF1
  have hD0 : IsDev F1 w1 B d0 := D1
  clear D1
  go_wp2_with fail
  refine (write_lit hD0 0 [97] _ _ _ _ _ rfl rfl rfl (by decide) (by decide +kernel) (by decide +kernel)).mono ?_
  intro en w2 h2
  obtain ⟨rfl, _, b2, F2, D2, g2, _⟩ := h2.out g1 (Nat.le_trans B1.size (by simp))
  replace b2 := (B1.alloc B1.size _).trans b2
  rw [r1]
  have D2 : IsDev F2 w2 B d1 := D2
  clear h2 hD0 g1 B1
  go_wp2_with fail
  refine (sync_any D2 (by decide +kernel) (by decide +kernel)).mono ?_
  intro en w3 h3
  obtain ⟨rfl, _, b3, F3, D3, g3, _⟩ := h3.out g2 b2.size
  replace b3 := b2.trans b3
  rw [r2]
  have D3 : IsDev F3 w3 B d2 := D3
  clear h3 D2 g2 b2
  go_wp2_with fail
  refine (write_lit D3 0 [98] _ _ _ _ _ rfl rfl rfl (by decide) (by decide +kernel) (by decide +kernel)).mono ?_
  intro en w4 h4
  obtain ⟨rfl, _, b4, F4, D4, g4, _⟩ := h4.out g3 (Nat.le_trans b3.size (by simp))
  replace b4 := (b3.alloc b3.size _).trans b4
  rw [r3]
  have D4 : IsDev F4 w4 B d3 := D4
  clear h4 D3 g3 b3
  go_wp2_with fail
  refine (write_lit D4 1 [99] _ _ _ _ _ rfl rfl rfl (by decide) (by decide +kernel) (by decide +kernel)).mono ?_
  intro en w5 h5
  obtain ⟨rfl, _, b5, F5, D5, g5, _⟩ := h5.out g4 (Nat.le_trans b4.size (by simp))
  replace b5 := (b4.alloc b4.size _).trans b5
  rw [r4]
  have D5 : IsDev F5 w5 B d4 := D5
  clear h5 D4 g4 b4
  go_wp2_with fail
  have hri : ∀ w', Frm F5 (w5.alloc (.cells #[.int .i64 1] 3)) w' → RI w' (some ⟨w5.heap.size, 0, none⟩) [1] := by
    intro w' hf i hi
    obtain rfl : i = 0 := by simpa using hi
    refine ⟨w5.heap.size, 0, rfl, Nat.lt_of_lt_of_le (by simp) hf.size, ?_⟩
    rw [World.cell?_of_block (hf.block w5.heap.size (by simp) (fun hF => by have := D5.lt _ hF; omega)), Joins.cell_of_block (heap_alloc_new w5 _)]
    rfl
  refine (restart_any (D5.below (below_alloc w5 (.cells #[.int .i64 1] 3))) (by decide +kernel) [1] _ 1 (by decide) hri).mono ?_
  intro en w6 h6
  obtain ⟨rfl, _, b6, F6, D6, g6, _⟩ := h6.out g5 (Nat.le_trans b5.size (by simp))
  replace b6 := (b5.alloc b5.size _).trans b6
  rw [r5]
  have D6 : IsDev F6 w6 B d5 := D6
  clear h6 D5 g5 b5 hri
  go_wp2_with fail
  refine (read_any D6 0 (by decide +kernel)).mono ?_
  rintro en w7 ⟨b7, v7, rfl, s7⟩
  rw [r6] at s7 ⊢
  rcases s7 with ⟨_, e⟩ | ⟨ga, rfl, _, ha1, ha2, ha3, _⟩
  · cases e
  have D7 := D6.below b7
  have n7 : ¬ F6 ga := fun hF => by have := D6.lt _ hF; omega
  have c7 : w7.cell? ⟨ga, 0, none⟩ = some (.int .u8 97) := ha3 0 _ rfl
  have B7 := b6.trans (b7.mono b6.size)
  clear D6 ha3 b6 b7
  go_wp2_with fail
  refine (read_any D7 1 (by decide +kernel)).mono ?_
  rintro en w8 ⟨b8, v8, rfl, s8⟩
  rw [r7] at s8 ⊢
  rcases s8 with ⟨_, e⟩ | ⟨gb, rfl, _, hb1, hb2, hb3, _⟩
  · cases e
  have D8 := D7.below b8
  have n8 : ¬ F6 gb := fun hF => by have := D7.lt _ hF; omega
  have c8 : w8.cell? ⟨gb, 0, none⟩ = some (.int .u8 99) := hb3 0 _ rfl
  have c7' : w8.cell? ⟨ga, 0, none⟩ = some (.int .u8 97) := (b8.cell (p := ⟨ga, 0, none⟩) ha2).trans c7
  have hga8 : ga < w8.heap.size := Nat.lt_of_lt_of_le ha2 b8.size
  have B8 := B7.trans (b8.mono B7.size)
  clear D7 hb3 c7 b8 B7
  go_wp2_with fail
  refine (arm_any D8 1 (by omega)).mono ?_
  rintro en w9 ⟨⟨v9, rfl⟩, f9, D9⟩
  have D9 : IsDev F6 w9 B d6 := D9
  have c9a : w9.cell? ⟨ga, 0, none⟩ = some (.int .u8 97) := (World.cell?_of_block (f9.block ga hga8 n7)).trans c7'
  have c9b : w9.cell? ⟨gb, 0, none⟩ = some (.int .u8 99) := (World.cell?_of_block (f9.block gb hb2 n8)).trans c8
  have B9 := B8.trans (f9.below g6 B8.size)
  have hga9 := Nat.lt_of_lt_of_le hga8 f9.size
  have hgb9 := Nat.lt_of_lt_of_le hb2 f9.size
  clear D8 c7' c8 B8 f9
  go_wp2_with fail
  refine (write_any D9 0 [] none 0 (by decide) (fun _ => rfl) (fun w' _ => RB.nil _ _) (by decide +kernel) (by decide +kernel)).mono ?_
  intro en w10 h10
  obtain ⟨rfl, f10, b10, F10, D10, g10, s10⟩ := h10.out g6 B9.size
  rw [r8]
  have D10 : IsDev F10 w10 B d7 := D10
  have c10a : w10.cell? ⟨ga, 0, none⟩ = some (.int .u8 97) := (World.cell?_of_block (f10.block ga hga9 n7)).trans c9a
  have c10b : w10.cell? ⟨gb, 0, none⟩ = some (.int .u8 99) := (World.cell?_of_block (f10.block gb hgb9 n8)).trans c9b
  have B10 := B9.trans b10
  have hga10 := Nat.lt_of_lt_of_le hga9 f10.size
  have hgb10 := Nat.lt_of_lt_of_le hgb9 f10.size
  clear h10 D9 c9a c9b B9 f10
  go_wp2_with fail
  refine (read_any D10 0 (by decide +kernel)).mono ?_
  rintro en w11 ⟨b11, v11, rfl, _⟩
  rw [r9]
  have D11 := D10.below b11
  have c11a : w11.cell? ⟨ga, 0, none⟩ = some (.int .u8 97) := (b11.cell (p := ⟨ga, 0, none⟩) hga10).trans c10a
  have c11b : w11.cell? ⟨gb, 0, none⟩ = some (.int .u8 99) := (b11.cell (p := ⟨gb, 0, none⟩) hgb10).trans c10b
  have B11 := B10.trans (b11.mono B10.size)
  clear D10 c10a c10b B10 b11
  go_wp2_with fail
  refine (down_any D11).mono ?_
  rintro en w12 ⟨rfl, rfl⟩
  rw [r10]
  go_wp2_with fail
  refine (sectors_any D11).mono ?_
  rintro en w12 ⟨rfl, rfl⟩
  rw [r11]
  go_wp2
  go_ret
  exact ⟨rfl, B11⟩
end Go.Proofs.Ytopemjbakpahfaa
