/-
  Contracts and plain laws, part 26 (texts: RA3). No condition but what each states.
-/
import Derived.Test.YtopemjbakpahfaaSn25
/-
  Put of the reference's area: the walk. No condition but that the numbers are small.
-/
namespace Go.Proofs.Ytopemjbakpahfaa
open Go.RowKit Disk Jour
set_option linter.unusedSimpArgs false
set_option linter.unusedVariables false
theorem IsRef.mono {F G : Nat → Prop} {w : World} {B : Nat} {d : Dev} (h : IsRef F w B d) (hG : ∀ k, F k → G k) (hl : ∀ k, G k → k < w.heap.size) : IsRef G w B d := by
  obtain ⟨vk, vw, h⟩ := h; exact ⟨vk, vw, h.mono hG hl⟩
/-- A sector's bytes, where those before place i are what is to be put. -/
def mixTo (s b : List UInt8) (P k i : Nat) : List UInt8 := (List.range 32).map fun j => if j < i ∧ P ≤ 32 * k + j ∧ 32 * k + j < P + b.length then b.getD (32 * k + j - P) 0 else s.getD j 0
theorem mixTo_length (s b : List UInt8) (P k i : Nat) : (mixTo s b P k i).length = 32 := by simp [mixTo]
theorem mixTo_get (s b : List UInt8) (P k i j : Nat) (h : j < 32) : (mixTo s b P k i).getD j 0 = if j < i ∧ P ≤ 32 * k + j ∧ 32 * k + j < P + b.length then b.getD (32 * k + j - P) 0 else s.getD j 0 := by
  simp [mixTo, List.getD, h]
theorem mixTo_zero {s : List UInt8} (b : List UInt8) (P k : Nat) (hs : s.length = 32) : mixTo s b P k 0 = s := by
  apply list_ext0
  · rw [mixTo_length, hs]
  · intro j hj
    rw [mixTo_length] at hj
    rw [mixTo_get _ _ _ _ _ _ hj, if_neg (by omega)]
theorem mixTo_out (s b : List UInt8) (P k i : Nat) (h : ¬ (P ≤ 32 * k + i ∧ 32 * k + i < P + b.length)) : mixTo s b P k (i + 1) = mixTo s b P k i := by
  apply list_ext0
  · rw [mixTo_length, mixTo_length]
  · intro j hj
    rw [mixTo_length] at hj
    rw [mixTo_get _ _ _ _ _ _ hj, mixTo_get _ _ _ _ _ _ hj]
    by_cases c : j < i ∧ P ≤ 32 * k + j ∧ 32 * k + j < P + b.length
    · rw [if_pos c, if_pos (by omega)]
    · rw [if_neg c, if_neg ?_]
      intro e
      rcases Nat.lt_or_ge j i with h1 | h1
      · exact c ⟨h1, e.2⟩
      · obtain rfl : j = i := by omega
        exact h e.2
theorem mixTo_in (s b : List UInt8) (P k i : Nat) (h : P ≤ 32 * k + i ∧ 32 * k + i < P + b.length) (hi : i < 32) : mixTo s b P k (i + 1) = (mixTo s b P k i).set i (b.getD (32 * k + i - P) 0) := by
  apply list_ext0
  · rw [mixTo_length, List.length_set, mixTo_length]
  · intro j hj
    rw [mixTo_length] at hj
    have e : ((mixTo s b P k i).set i (b.getD (32 * k + i - P) 0)).getD j 0 = if i = j then b.getD (32 * k + i - P) 0 else (mixTo s b P k i).getD j 0 := by
      simp only [List.getD]
      rw [List.getElem?_set]
      by_cases c : i = j
      · subst c
        rw [if_pos rfl, if_pos (by rw [mixTo_length]; exact hj), if_pos rfl]
        rfl
      · rw [if_neg c, if_neg c]
    rw [e, mixTo_get _ _ _ _ _ _ hj, mixTo_get _ _ _ _ _ _ hj]
    by_cases c : i = j
    · subst c
      rw [if_pos rfl, if_pos (by omega)]
    · rw [if_neg c]
      by_cases c2 : j < i ∧ P ≤ 32 * k + j ∧ 32 * k + j < P + b.length
      · rw [if_pos c2, if_pos (by omega)]
      · rw [if_neg c2, if_neg (by omega)]
theorem mixTo_lay {s b : List UInt8} {f P k : Nat} (hs : s.length = 32) (ha : ¬ Away P b.length k) : mixTo s b P k 32 = lay s (P - 32 * k) (piece b (secPart f P b.length k)) := by
  unfold Away at ha
  have hpl : (piece b (secPart f P b.length k)).length = min (P + b.length - 32 * k) 32 - (P - 32 * k) := piece_length (p := secPart f P b.length k) (by show (32 * k - P) + (min (P + b.length - 32 * k) 32 - (P - 32 * k)) ≤ b.length; omega)
  apply list_ext0
  · rw [mixTo_length, lay_length hs (by rw [hpl]; omega)]
  · intro j hj
    rw [mixTo_length] at hj
    rw [mixTo_get _ _ _ _ _ _ hj, lay_get hs (by rw [hpl]; omega), hpl]
    by_cases c : P - 32 * k ≤ j ∧ j < P - 32 * k + (min (P + b.length - 32 * k) 32 - (P - 32 * k))
    · rw [if_pos c, if_pos (by omega), piece_get _ _ _ (by show j - (P - 32 * k) < min (P + b.length - 32 * k) 32 - (P - 32 * k); omega)]
      congr 1
      show _ = (32 * k - P) + (j - (P - 32 * k))
      omega
    · rw [if_neg c, if_neg (by omega)]
structure RPut (F : Nat → Prop) (w : World) (B : Nat) (d : Dev) (f : Nat) (b : List UInt8) (P k : Nat) (wr : World) : Prop where
  frm : Frm F w wr
  ex : ∃ G, IsRef G wr B (putParts d b (secTo f P b.length k)).1 ∧ ∀ j, G j → F j ∨ w.heap.size ≤ j
  ok : (putParts d b (secTo f P b.length k)).2 = 0
theorem RPut.away {F : Nat → Prop} {w : World} {B : Nat} {d : Dev} {f : Nat} {b : List UInt8} {P k : Nat} {wr : World} (h : RPut F w B d f b P k wr) (ha : Away P b.length k) : RPut F w B d f b P (k + 1) wr := by
  obtain ⟨h1, h2, h3⟩ := h
  refine ⟨h1, ?_, ?_⟩ <;> rw [secTo_away ha] <;> assumption
/-- An early end: a sector that is not put. -/
theorem rput_bad {d e : Dev} {x : Int} {f P k N : Nat} {b : List UInt8} (hk : k < N) (ha : ¬ Away P b.length k) (hok : (putParts d b (secTo f P b.length k)).2 = 0) (hb : doPart (putParts d b (secTo f P b.length k)).1 b (secPart f P b.length k) = (e, x)) (hx : x ≠ 0) (hr : P + b.length ≤ 32 * N) :
    putParts d b (parts (32 * f + P) b.length b.length 0) = (e, x) := by
  rw [secTo_parts f P b.length N hr]
  obtain ⟨qs, hq⟩ := secTo_le f P b.length (k := k + 1) (N - (k + 1))
  rw [show k + 1 + (N - (k + 1)) = N by omega] at hq
  have h1 := putParts_snoc b (secPart f P b.length k) _ d hok
  rw [hb] at h1
  rw [hq, secTo_in ha]
  rw [putParts_stop b qs _ d (by rw [h1]; exact hx), h1]
theorem rb_at {w : World} {g off : Nat} {l : List UInt8} (h : RB w (some ⟨g, off, none⟩) l) (i : Nat) (hi : i < l.length) : w.cell? ⟨g, off + i, none⟩ = some (byteV (l.getD i 0)) := by
  obtain ⟨g', off', e2, _, hc⟩ := h i hi
  cases e2
  exact hc
theorem rb_mk {w : World} {base g n c : Nat} {l : List UInt8} (h : w.ownsRow base 5 1 (.slice (some ⟨g, 0, none⟩) n c) n (l.map byteV)) : RB w (some ⟨g, 0, none⟩) l := by
  obtain ⟨a, cap, e, _, _, r⟩ := RB.of_owns h
  injection e with e1 _ _
  subst e1
  exact r
structure RPin (wr : World) (l : List UInt8) (gv cv : Nat) (W : World) : Prop where
  bl : Below wr.heap.size wr W
  own : W.ownsRow wr.heap.size 5 1 (.slice (some ⟨gv, 0, none⟩) 32 cv) 32 (l.map byteV)
theorem RPin.set {wr W : World} {l : List UInt8} {gv cv : Nat} (h : RPin wr l gv cv W) (i : Nat) (x : UInt8) : RPin wr (l.set i x) gv cv (W.setCell ⟨gv, i, none⟩ (byteV x)) := by
  have hg := (h.own.lt gv rfl).1
  obtain ⟨h1, h2⟩ := h.own.stored i (byteV x)
  refine ⟨h.bl.setCell (p := ⟨gv, i, none⟩) hg _, ?_⟩
  rw [List.map_set]
  exact h1
theorem refOf_fin {F : Nat → Prop} {w w' : World} {B : Nat} {e : Dev} {v : Value} (hF : ∀ k, F k → k < w.heap.size) (hf : Frm F w w') (h : ∃ G, IsRef G w' B e ∧ ∀ j, G j → F j ∨ w.heap.size ≤ j) : RefOf F w B e v (.returned v) w' := by
  obtain ⟨G, h1, h2⟩ := h
  refine ⟨rfl, hf, h1.mono (fun k hk => (h2 k hk).imp_right (fun h => ⟨h, h1.lt k hk⟩)) (fun k hk => hk.elim (fun h => Nat.lt_of_lt_of_le (hF k h) hf.size) (·.2))⟩
set_option maxRecDepth 100000 in
set_option maxHeartbeats 8000000 in
theorem rput_any {F : Nat → Prop} {w : World} {B : Nat} {d : Dev} (h : IsRef F w B d) {A : Nat} {first : Int} {N : Nat} (hA : IsRArea w A B first N) (hAF : ¬ F A) (p : Int) (b : List UInt8) (a : Option Addr) (cap : Nat) (hlc : b.length ≤ cap)
    (hsrc : ∀ w', Frm F w w' → RB w' a b) (hp : d.pend.length + b.length ≤ 100000) (hw : d.writes + b.length ≤ 100000) (hf : N = 0 ∨ (0 ≤ first ∧ first ≤ 1024)) :
    Calls Try.prog 59 #[.pointer (some ⟨A, 0, none⟩), .int .i64 p, .slice a b.length cap] w (RefOf F w B (jput d first.toNat N p b).1 (.int .i64 (jput d first.toNat N p b).2)) := by
  obtain ⟨r, hr0⟩ : ∃ r, jput d first.toNat N p b = r := ⟨_, rfl⟩
  rw [hr0]
  have hn := hA.n
  have hni : (N : Int) ≤ 1024 := by omega
  have HA := Lib.hid hA
  have HH := Lib.hid h
  have FL := Lib.hid h.lt
  have SRC := Lib.hid hsrc
  clear hsrc
  have FIN : Hid (∀ (e : Dev) (x : Int) (v : Value) (w' : World), r = (e, x) → Frm F w w' → (∃ G, IsRef G w' B e ∧ ∀ j, G j → F j ∨ w.heap.size ≤ j) → v = .int .i64 x → RefOf F w B r.1 (.int .i64 r.2) (.returned v) w') := fun e x v w' h1 h2 h3 h4 => by
    subst h1 h4; exact refOf_fin FL.out h2 h3
  by_cases h0 : p < 0
  · have e1 : r = (d, 1) := by rw [← hr0]; unfold jput; rw [if_pos (by omega)]
    have E1 := Lib.hid e1
    clear hr0 e1
    go_enter Try.func59, Try.ntmps59
    go_wp2
    go_ret
    exact FIN.out d 1 _ _ E1.out (Frm.refl _ _) ⟨F, HH.out, fun j hj => .inl hj⟩ rfl
  by_cases hroom : roomB N p b.length = true
  rotate_left
  · have hroom' : roomB N p b.length = false := by simpa using hroom
    have e1 : r = (d, 2) := by rw [← hr0]; unfold jput; rw [if_neg (by omega), if_neg hroom]
    have E1 := Lib.hid e1
    clear hr0 e1 hroom
    go_enter Try.func59, Try.ntmps59
    go_wp2_with (go_at_call 66; refine (rfits_any HA.out p b a cap).mono ?_; rintro en w1 ⟨rfl, rfl⟩)
    go_ret
    exact FIN.out d 2 _ _ E1.out (Frm.refl _ _) ⟨F, HH.out, fun j hj => .inl hj⟩ rfl
  obtain ⟨P, rfl⟩ : ∃ P : Nat, p = (P : Int) := ⟨p.toNat, by omega⟩
  have hrm : P + b.length ≤ 32 * N := by
    unfold roomB at hroom
    simp at hroom
    omega
  have HR : Hid (r = putParts d b (parts (32 * first.toNat + P) b.length b.length 0)) := by
    show _ = _
    rw [← hr0]; unfold jput
    rw [if_neg (by omega), if_pos hroom, Int.toNat_natCast]
  clear hr0
  have hPi : (P : Int) ≤ 32768 := by omega
  have hMi : (b.length : Int) ≤ 32768 := by omega
  have hPM : (P : Int) + (b.length : Int) ≤ 32768 := by omega
  have I0 : Hid (RPut F w B d first.toNat b P 0 w) := ⟨Frm.refl _ _, ⟨F, h, fun j hj => .inl hj⟩, rfl⟩
  clear h
  go_enter Try.func59, Try.ntmps59
  go_wp2_with (go_at_call 66; refine (rfits_any HA.out (P : Int) b a cap).mono ?_; rintro en w1 ⟨rfl, rfl⟩)
  clear hroom
  go_loopw [7] (fun kv wr => ∃ k : Nat, kv = .int .i64 k ∧ k ≤ N ∧ RPut F w B d first.toNat b P k wr) (fun kv _ => N - (intOf kv).toNat)
  case atStart => exact ⟨0, rfl, Nat.zero_le _, I0.out⟩
  case round =>
    obtain ⟨wo, rfl⟩ : ∃ wo : World, wo = wr := ⟨_, rfl⟩
    obtain ⟨k, rfl, hk, hrun⟩ := hrel
    have hAr : IsRArea wo A B first N := HA.out.same (hrun.frm.block A HA.out.lt hAF)
    have cA2 : wo.cell? ⟨A, 2, none⟩ = some (.int .i64 (N : Int)) := Joins.cell_of_block hAr.blk 2
    have RUN := Lib.hid hrun
    have AR := Lib.hid hAr
    clear hrun hAr
    by_cases hkN : k < N
    · have hk0 : (0 : Int) ≤ (k : Int) := by omega
      have hkNi : (k : Int) < (N : Int) := by omega
      by_cases ha : Away P b.length k
      · have NX := Lib.hid (RUN.out.away ha)
        unfold Away at ha
        by_cases a1 : 32 * (k : Int) + 32 ≤ (P : Int)
        · clear ha
          go_wp2_with fail
          go_roundw
          case rel => first | exact ⟨k + 1, rfl, by omega, NX.out⟩ | exact ⟨_, _, _, _, ⟨k + 1, rfl, by omega, NX.out⟩, rfl, rfl, rfl, rfl⟩
          case measure => simp only [intOf]; omega
        · by_cases a2 : (P : Int) + (b.length : Int) ≤ 32 * (k : Int)
          · clear ha
            go_wp2_with fail
            go_roundw
            case rel => first | exact ⟨k + 1, rfl, by omega, NX.out⟩ | exact ⟨_, _, _, _, ⟨k + 1, rfl, by omega, NX.out⟩, rfl, rfl, rfl, rfl⟩
            case measure => simp only [intOf]; omega
          · have a3 : (b.length : Int) = 0 := by omega
            clear ha
            go_wp2_with fail
            go_roundw
            case rel => first | exact ⟨k + 1, rfl, by omega, NX.out⟩ | exact ⟨_, _, _, _, ⟨k + 1, rfl, by omega, NX.out⟩, rfl, rfl, rfl, rfl⟩
            case measure => simp only [intOf]; omega
      · obtain ⟨f, hff⟩ : ∃ f : Nat, first = (f : Int) := ⟨first.toNat, by rcases hf with h | h <;> omega⟩
        subst hff
        have hfi : (f : Int) ≤ 1024 := by rcases hf with h | h <;> omega
        rw [Int.toNat_natCast] at HR RUN I0
        have hb1 : ¬ 32 * (k : Int) + 32 ≤ (P : Int) := by unfold Away at ha; omega
        have hb2 : ¬ (P : Int) + (b.length : Int) ≤ 32 * (k : Int) := by unfold Away at ha; omega
        have hb3 : ¬ (b.length : Int) = 0 := by unfold Away at ha; omega
        obtain ⟨ga, off, hga, _, _⟩ := SRC.out w (Frm.refl _ _) 0 (by omega)
        subst hga
        obtain ⟨G, hD, hGF⟩ := RUN.out.ex
        have hbd := putParts_bound b (secTo f P b.length k) d
        have hsl : (secTo f P b.length k).length ≤ b.length := by
          obtain ⟨qs, hq⟩ := secTo_le f P b.length (k := k) (N - k)
          rw [show k + (N - k) = N by omega, ← secTo_parts f P b.length N hrm] at hq
          have h1 := parts_length (32 * f + P) b.length b.length 0
          rw [hq, List.length_append] at h1
          omega
        have PSN : Hid (putParts d b (secTo f P b.length (k + 1)) = doPart (putParts d b (secTo f P b.length k)).1 b (secPart f P b.length k)) := by
          show _ = _
          rw [secTo_in ha]; exact putParts_snoc b _ _ d RUN.out.ok
        have BADX : Hid (∀ (e : Dev) (x : Int), doPart (putParts d b (secTo f P b.length k)).1 b (secPart f P b.length k) = (e, x) → x ≠ 0 → r = (e, x)) := fun e x h1 h2 => by
          rw [HR.out]; exact rput_bad hkN ha RUN.out.ok h1 h2 hrm
        have LAY : Hid (∀ s : List UInt8, s.length = 32 → mixTo s b P k 32 = lay s (P - 32 * k) (piece b (secPart f P b.length k))) := fun s hs => mixTo_lay hs ha
        have FRW := Lib.hid RUN.out.frm
        generalize hdd : putParts d b (secTo f P b.length k) = dd at hD hbd PSN BADX
        clear hdd
        obtain ⟨e, ez⟩ := dd
        dsimp only at hD hbd PSN BADX
        have hep : e.pend.length ≤ 100000 := by omega
        have hew : e.writes ≤ 100000 := by omega
        have EOK := Lib.hid hD.ok
        have RD := Lib.hid (rread_any (hD.below ((Below.refl _ wo).drew)) ((f : Int) + (k : Int)) hep)
        have HD := Lib.hid hD
        have GF := Lib.hid hGF
        clear hbd hD hGF
        have BAD : Hid ((e.read ((f : Int) + (k : Int))).2 ≠ 0 → r = (e, (e.read ((f : Int) + (k : Int))).2)) := fun hb => BADX.out _ _ (by
          unfold doPart
          rw [show (((secPart f P b.length k).sec : Nat) : Int) = (f : Int) + (k : Int) from Int.natCast_add f k, if_pos hb]) hb
        have OKN : Hid ((e.read ((f : Int) + (k : Int))).2 = 0 → doPart e b (secPart f P b.length k) = e.write ((f : Int) + (k : Int)) (mixTo (e.read ((f : Int) + (k : Int))).1 b P k 32)) := fun hb => by
          unfold doPart
          rw [show (((secPart f P b.length k).sec : Nat) : Int) = (f : Int) + (k : Int) from Int.natCast_add f k, if_neg (by rw [hb]; exact fun h => h rfl), LAY.out _ (rread_len EOK.out hb)]
          rfl
        have L32 : Hid ((e.read ((f : Int) + (k : Int))).2 = 0 → (e.read ((f : Int) + (k : Int))).1.length = 32) := fun hb => rread_len EOK.out hb
        generalize e.read ((f : Int) + (k : Int)) = rr at RD BAD OKN L32
        obtain ⟨S, hS⟩ : ∃ S : World → Prop, S = fun w' => w'.cell? ⟨A, 0, none⟩ = some (.pointer (some ⟨B, 0, none⟩)) ∧ w'.cell? ⟨A, 1, none⟩ = some (.int .i64 (f : Int)) := ⟨_, rfl⟩
        have hSS : Hid (∀ w', S w' → w'.cell? ⟨A, 0, none⟩ = some (.pointer (some ⟨B, 0, none⟩)) ∧ w'.cell? ⟨A, 1, none⟩ = some (.int .i64 (f : Int))) := fun w' h => by rw [hS] at h; exact h
        have SA : Hid (∀ w', IsRArea w' A B (f : Int) N → S w') := fun w' h => by rw [hS]; exact ⟨Joins.cell_of_block h.blk 0, Joins.cell_of_block h.blk 1⟩
        have SB : ∀ w', Below wo.drew.heap.size wo.drew w' → S w' := fun w' hb => SA.out _ ((AR.out.below (Below.refl _ wo).drew).below hb)
        have s0 : S wo.drew := SB _ (Below.refl _ _)
        have hwf : IntKind.i64.wrap ((f : Int) + (k : Int)) = (f : Int) + (k : Int) := by rw [IntKind.wrap_i64]; omega
        clear hS ha I0
        go_wp2_with fail
        refine wp_region_held (S := S) (by kernel_rfl) ?_
        change wpAnyH _ _ _ _ _ _ _ _ (World.drew _)
        refine wpAnyH_take (i := 0) (v := .pointer (some ⟨A, 0, none⟩)) rfl (by kernel_rfl) (by kernel_rfl) (by kernel_rfl) (fun _ _ _ h => h) (.inl ⟨by rfl, by intro w hw; go_simp⟩) s0 ?_
        try simp only [Act.put, List.getElem_toArray, List.getElem_cons_zero, List.getElem_cons_succ, List.setIfInBounds_toArray, List.set_cons_zero, List.set_cons_succ]
        refine wpAnyH_take (i := 1) (v := .pointer (some ⟨A, 0, none⟩)) rfl (by kernel_rfl) (by kernel_rfl) (by kernel_rfl) (fun _ _ _ h => h) (.inl ⟨by rfl, by intro w hw; go_simp⟩) s0 ?_
        try simp only [Act.put, List.getElem_toArray, List.getElem_cons_zero, List.getElem_cons_succ, List.setIfInBounds_toArray, List.set_cons_zero, List.set_cons_succ]
        refine wpAnyH_take (i := 2) (v := .pointer (some ⟨A, 0, none⟩)) rfl (by kernel_rfl) (by kernel_rfl) (by kernel_rfl) (fun _ _ _ h => h) (.inl ⟨by rfl, by intro w hw; go_simp⟩) s0 ?_
        try simp only [Act.put, List.getElem_toArray, List.getElem_cons_zero, List.getElem_cons_succ, List.setIfInBounds_toArray, List.set_cons_zero, List.set_cons_succ]
        refine wpAnyH_take (i := 3) (v := .pointer (some ⟨B, 0, none⟩)) rfl (by kernel_rfl) (by kernel_rfl) (by kernel_rfl) (fun _ _ _ h => h) (.inl ⟨by rfl, by intro w hw; have h := hSS.out w hw; obtain ⟨q0, q1⟩ := h; go_simp⟩) s0 ?_
        try simp only [Act.put, List.getElem_toArray, List.getElem_cons_zero, List.getElem_cons_succ, List.setIfInBounds_toArray, List.set_cons_zero, List.set_cons_succ]
        refine wpAnyH_take (i := 4) (v := .pointer (some ⟨A, 0, none⟩)) rfl (by kernel_rfl) (by kernel_rfl) (by kernel_rfl) (fun _ _ _ h => h) (.inl ⟨by rfl, by intro w hw; go_simp⟩) s0 ?_
        try simp only [Act.put, List.getElem_toArray, List.getElem_cons_zero, List.getElem_cons_succ, List.setIfInBounds_toArray, List.set_cons_zero, List.set_cons_succ]
        refine wpAnyH_take (i := 5) (v := .pointer (some ⟨A, 0, none⟩)) rfl (by kernel_rfl) (by kernel_rfl) (by kernel_rfl) (fun _ _ _ h => h) (.inl ⟨by rfl, by intro w hw; go_simp⟩) s0 ?_
        try simp only [Act.put, List.getElem_toArray, List.getElem_cons_zero, List.getElem_cons_succ, List.setIfInBounds_toArray, List.set_cons_zero, List.set_cons_succ]
        refine wpAnyH_take (i := 6) (v := .pointer (some ⟨A, 1, none⟩)) rfl (by kernel_rfl) (by kernel_rfl) (by kernel_rfl) (fun _ _ _ h => h) (.inl ⟨by rfl, by intro w hw; go_simp⟩) s0 ?_
        try simp only [Act.put, List.getElem_toArray, List.getElem_cons_zero, List.getElem_cons_succ, List.setIfInBounds_toArray, List.set_cons_zero, List.set_cons_succ]
        refine wpAnyH_take (i := 7) (v := .int .i64 (f : Int)) rfl (by kernel_rfl) (by kernel_rfl) (by kernel_rfl) (fun _ _ _ h => h) (.inl ⟨by rfl, by intro w hw; have h := hSS.out w hw; obtain ⟨q0, q1⟩ := h; go_simp⟩) s0 ?_
        try simp only [Act.put, List.getElem_toArray, List.getElem_cons_zero, List.getElem_cons_succ, List.setIfInBounds_toArray, List.set_cons_zero, List.set_cons_succ]
        refine wpAnyH_take (i := 8) (v := .int .i64 (k : Int)) rfl (by kernel_rfl) (by kernel_rfl) (by kernel_rfl) (fun _ _ _ h => h) (.inl ⟨by rfl, by intro w hw; go_simp⟩) s0 ?_
        try simp only [Act.put, List.getElem_toArray, List.getElem_cons_zero, List.getElem_cons_succ, List.setIfInBounds_toArray, List.set_cons_zero, List.set_cons_succ]
        refine wpAnyH_take (i := 9) (v := .int .i64 ((f : Int) + (k : Int))) rfl (by kernel_rfl) (by kernel_rfl) (by kernel_rfl) (fun _ _ _ h => h) (.inl ⟨by rfl, by intro w hw; go_simp⟩) s0 ?_
        try simp only [Act.put, List.getElem_toArray, List.getElem_cons_zero, List.getElem_cons_succ, List.setIfInBounds_toArray, List.set_cons_zero, List.set_cons_succ]
        refine wpAnyH_one (i := 10) (by kernel_rfl) rfl (by rfl) (fun Kc hK => ?_)
        go_simp
        refine (RD.out).mono ?_
        rintro en w2 ⟨b2, v2, rfl, o2⟩
        go_simp
        refine hK _ _ (SB w2 b2) ?_
        clear hK Kc
        try simp only [Act.put, List.getElem_toArray, List.getElem_cons_zero, List.getElem_cons_succ, List.setIfInBounds_toArray, List.set_cons_zero, List.set_cons_succ]
        refine wpAnyH_take (i := 11) (v := .tuple #[v2, .int .i64 rr.2]) rfl (by kernel_rfl) (by kernel_rfl) (by kernel_rfl) (fun _ _ _ h => h) (.inl ⟨by rfl, by intro w hw; go_simp⟩) (SB w2 b2) ?_
        try simp only [Act.put, List.getElem_toArray, List.getElem_cons_zero, List.getElem_cons_succ, List.setIfInBounds_toArray, List.set_cons_zero, List.set_cons_succ]
        refine wpAnyH_take (i := 12) (v := v2) rfl (by kernel_rfl) (by kernel_rfl) (by kernel_rfl) (fun _ _ _ h => h) (.inl ⟨by rfl, by intro w hw; go_simp⟩) (SB w2 b2) ?_
        try simp only [Act.put, List.getElem_toArray, List.getElem_cons_zero, List.getElem_cons_succ, List.setIfInBounds_toArray, List.set_cons_zero, List.set_cons_succ]
        refine wpAnyH_take (i := 13) (v := .int .i64 rr.2) rfl (by kernel_rfl) (by kernel_rfl) (by kernel_rfl) (fun _ _ _ h => h) (.inl ⟨by rfl, by intro w hw; go_simp⟩) (SB w2 b2) ?_
        try simp only [Act.put, List.getElem_toArray, List.getElem_cons_zero, List.getElem_cons_succ, List.setIfInBounds_toArray, List.set_cons_zero, List.set_cons_succ]
        refine wpAnyH_take (i := 14) (v := v2) rfl (by kernel_rfl) (by kernel_rfl) (by kernel_rfl) (fun _ _ _ h => h) (.inl ⟨by rfl, by intro w hw; go_simp⟩) (SB w2 b2) ?_
        try simp only [Act.put, List.getElem_toArray, List.getElem_cons_zero, List.getElem_cons_succ, List.setIfInBounds_toArray, List.set_cons_zero, List.set_cons_succ]
        refine wpAnyH_take (i := 15) (v := .int .i64 rr.2) rfl (by kernel_rfl) (by kernel_rfl) (by kernel_rfl) (fun _ _ _ h => h) (.inl ⟨by rfl, by intro w hw; go_simp⟩) (SB w2 b2) ?_
        try simp only [Act.put, List.getElem_toArray, List.getElem_cons_zero, List.getElem_cons_succ, List.setIfInBounds_toArray, List.set_cons_zero, List.set_cons_succ]
        refine wpAnyH_done (by kernel_rfl) ?_ _
        clear s0 hwf RD
        by_cases hb : rr.2 = 0
        rotate_left
        · have hne : ((rr.2 : Int) != 0) = true := by rw [bne_iff_ne]; exact hb
          have e1 := Lib.hid (BAD.out hb)
          have fr2 : Frm F w w2 := (FRW.out.trans (Frm.of_below (F := F) ((Below.refl _ wo).drew)) (fun k hk => .inl hk)).trans (Frm.of_below (F := F) b2) (fun k hk => .inl hk)
          have FX := Lib.hid (FIN.out e rr.2 (.int .i64 rr.2) w2 e1.out fr2 ⟨G, (HD.out.below ((Below.refl _ wo).drew)).below b2, GF.out⟩ rfl)
          clear BAD OKN L32 hb fr2
          go_wp2_with fail
          go_ret
          exact FX.out
        · have hlen := L32.out hb
          have OK1 := Lib.hid (OKN.out hb)
          rw [hlen] at o2
          obtain ⟨gv, cv, rfl⟩ := own_rec o2 (by decide)
          have B2 : Hid (Below wo.heap.size wo w2) := ((Below.refl _ wo).drew).trans (b2.mono (by simp))
          have I1 : Hid (RPin wo (mixTo rr.1 b P k 0) gv cv w2) := ⟨B2.out, by rw [mixTo_zero b P k hlen]; simpa using o2⟩
          rw [hb]
          have HB := Lib.hid hb
          clear BAD OKN L32 hlen b2 o2 hb SB
          go_wp2_with fail
          go_loopw [10] (fun iv W => ∃ i : Nat, iv = .int .i64 i ∧ i ≤ 32 ∧ RPin wo (mixTo rr.1 b P k i) gv cv W) (fun iv _ => 32 - (intOf iv).toNat)
          case atStart => exact ⟨0, rfl, Nat.zero_le _, I1.out⟩
          case round =>
            obtain ⟨i, rfl, hi, hin⟩ := hrel
            by_cases hi32 : i < 32
            · have hi0 : (0 : Int) ≤ (i : Int) := by omega
              have hii : (i : Int) < 32 := by omega
              have hwx : IntKind.i64.wrap (32 * (k : Int) + (i : Int) - (P : Int)) = 32 * (k : Int) + (i : Int) - (P : Int) := by rw [IntKind.wrap_i64]; omega
              by_cases c1 : 0 ≤ 32 * (k : Int) + (i : Int) - (P : Int)
              · by_cases c2 : 32 * (k : Int) + (i : Int) - (P : Int) < (b.length : Int)
                · obtain ⟨X, hX⟩ : ∃ X : Nat, 32 * (k : Int) + (i : Int) - (P : Int) = (X : Int) := ⟨(32 * (k : Int) + (i : Int) - (P : Int)).toNat, by omega⟩
                  have hXN : 32 * k + i - P = X := by omega
                  have hX0 : (0 : Int) ≤ (X : Int) := by omega
                  have hXb : (X : Int) < (b.length : Int) := by omega
                  have hXn : X < b.length := by omega
                  have hsc := rb_at (SRC.out wr (FRW.out.trans (Frm.of_below (F := F) hin.bl) (fun k hk => .inl hk))) X hXn
                  have hcs := rb_own hin.own i (by rw [mixTo_length]; exact hi32)
                  have hfz := hin.own.frozenAt i
                  have UP := Lib.hid (mixTo_in rr.1 b P k i (by omega) hi32)
                  rw [hXN] at UP
                  have HX := Lib.hid hX
                  generalize b.getD X 0 = bb at hsc UP
                  have NX : Hid (RPin wo (mixTo rr.1 b P k (i + 1)) gv cv (wr.setCell ⟨gv, i, none⟩ (.int .u8 (bb.toNat : Int)))) := by show RPin _ _ _ _ _; rw [UP.out]; exact hin.set i bb
                  unfold byteV at hsc
                  clear hin hXN hwx hXn
                  rw [hX] at c1 c2
                  go_wp2_with fail
                  go_roundw
                  case rel => exact ⟨i + 1, rfl, by omega, NX.out⟩
                  case measure => simp only [intOf]; omega
                · have UP := Lib.hid (mixTo_out rr.1 b P k i (by omega))
                  have NX : Hid (RPin wo (mixTo rr.1 b P k (i + 1)) gv cv wr) := by show RPin _ _ _ _ _; rw [UP.out]; exact hin
                  clear hin
                  go_wp2_with fail
                  go_roundw
                  case rel => exact ⟨i + 1, rfl, by omega, NX.out⟩
                  case measure => simp only [intOf]; omega
              · have UP := Lib.hid (mixTo_out rr.1 b P k i (by omega))
                have NX : Hid (RPin wo (mixTo rr.1 b P k (i + 1)) gv cv wr) := by show RPin _ _ _ _ _; rw [UP.out]; exact hin
                clear hin
                go_wp2_with fail
                go_roundw
                case rel => exact ⟨i + 1, rfl, by omega, NX.out⟩
                case measure => simp only [intOf]; omega
            · obtain rfl : i = 32 := by omega
              have hgv := (hin.own.lt gv rfl).1
              have BL2 := Lib.hid ((hin.bl).drew)
              have hDq := HD.out.below BL2.out
              have hWD := rwrite_any hDq ((f : Int) + (k : Int)) (mixTo rr.1 b P k 32) (some ⟨gv, 0, none⟩) cv (by rw [mixTo_length]; decide) (fun w' hw' => RB.frm (rb_mk (owns_below hin.own ((Below.refl _ wr).drew))) hw' (fun hG => by have := HD.out.lt gv hG; omega)) hep hew
              rw [mixTo_length] at hWD
              have OK2 : Hid (doPart e b (secPart f P b.length k) = e.write ((f : Int) + (k : Int)) (mixTo rr.1 b P k 32)) := OK1
              generalize e.write ((f : Int) + (k : Int)) (mixTo rr.1 b P k 32) = ww at hWD OK2
              have WD := Lib.hid hWD
              have ARq := Lib.hid (AR.out.below BL2.out)
              have FRq : Hid (Frm F w wr.drew) := FRW.out.trans (Frm.of_below (F := F) BL2.out) (fun k hk => .inl hk)
              have s0 : S wr.drew := SA.out _ ARq.out
              have SF : ∀ w3, Frm G wr.drew w3 → S w3 := fun w3 h3 => SA.out _ (ARq.out.same (h3.block A ARq.out.lt (fun hG => (GF.out A hG).elim hAF (fun h => by have := HA.out.lt; omega))))
              have hwf : IntKind.i64.wrap ((f : Int) + (k : Int)) = (f : Int) + (k : Int) := by rw [IntKind.wrap_i64]; omega
              clear hin hDq hWD OK1 hgv
              go_wp2_with fail
              refine wp_region_held (S := S) (by kernel_rfl) ?_
              change wpAnyH _ _ _ _ _ _ _ _ (World.drew _)
              refine wpAnyH_take (i := 0) (v := .pointer (some ⟨A, 0, none⟩)) rfl (by kernel_rfl) (by kernel_rfl) (by kernel_rfl) (fun _ _ _ h => h) (.inl ⟨by rfl, by intro w hw; go_simp⟩) s0 ?_
              try simp only [Act.put, List.getElem_toArray, List.getElem_cons_zero, List.getElem_cons_succ, List.setIfInBounds_toArray, List.set_cons_zero, List.set_cons_succ]
              refine wpAnyH_take (i := 1) (v := .pointer (some ⟨A, 0, none⟩)) rfl (by kernel_rfl) (by kernel_rfl) (by kernel_rfl) (fun _ _ _ h => h) (.inl ⟨by rfl, by intro w hw; go_simp⟩) s0 ?_
              try simp only [Act.put, List.getElem_toArray, List.getElem_cons_zero, List.getElem_cons_succ, List.setIfInBounds_toArray, List.set_cons_zero, List.set_cons_succ]
              refine wpAnyH_take (i := 2) (v := .pointer (some ⟨A, 0, none⟩)) rfl (by kernel_rfl) (by kernel_rfl) (by kernel_rfl) (fun _ _ _ h => h) (.inl ⟨by rfl, by intro w hw; go_simp⟩) s0 ?_
              try simp only [Act.put, List.getElem_toArray, List.getElem_cons_zero, List.getElem_cons_succ, List.setIfInBounds_toArray, List.set_cons_zero, List.set_cons_succ]
              refine wpAnyH_take (i := 3) (v := .pointer (some ⟨B, 0, none⟩)) rfl (by kernel_rfl) (by kernel_rfl) (by kernel_rfl) (fun _ _ _ h => h) (.inl ⟨by rfl, by intro w hw; have h := hSS.out w hw; obtain ⟨q0, q1⟩ := h; go_simp⟩) s0 ?_
              try simp only [Act.put, List.getElem_toArray, List.getElem_cons_zero, List.getElem_cons_succ, List.setIfInBounds_toArray, List.set_cons_zero, List.set_cons_succ]
              refine wpAnyH_take (i := 4) (v := .pointer (some ⟨A, 0, none⟩)) rfl (by kernel_rfl) (by kernel_rfl) (by kernel_rfl) (fun _ _ _ h => h) (.inl ⟨by rfl, by intro w hw; go_simp⟩) s0 ?_
              try simp only [Act.put, List.getElem_toArray, List.getElem_cons_zero, List.getElem_cons_succ, List.setIfInBounds_toArray, List.set_cons_zero, List.set_cons_succ]
              refine wpAnyH_take (i := 5) (v := .pointer (some ⟨A, 0, none⟩)) rfl (by kernel_rfl) (by kernel_rfl) (by kernel_rfl) (fun _ _ _ h => h) (.inl ⟨by rfl, by intro w hw; go_simp⟩) s0 ?_
              try simp only [Act.put, List.getElem_toArray, List.getElem_cons_zero, List.getElem_cons_succ, List.setIfInBounds_toArray, List.set_cons_zero, List.set_cons_succ]
              refine wpAnyH_take (i := 6) (v := .pointer (some ⟨A, 1, none⟩)) rfl (by kernel_rfl) (by kernel_rfl) (by kernel_rfl) (fun _ _ _ h => h) (.inl ⟨by rfl, by intro w hw; go_simp⟩) s0 ?_
              try simp only [Act.put, List.getElem_toArray, List.getElem_cons_zero, List.getElem_cons_succ, List.setIfInBounds_toArray, List.set_cons_zero, List.set_cons_succ]
              refine wpAnyH_take (i := 7) (v := .int .i64 (f : Int)) rfl (by kernel_rfl) (by kernel_rfl) (by kernel_rfl) (fun _ _ _ h => h) (.inl ⟨by rfl, by intro w hw; have h := hSS.out w hw; obtain ⟨q0, q1⟩ := h; go_simp⟩) s0 ?_
              try simp only [Act.put, List.getElem_toArray, List.getElem_cons_zero, List.getElem_cons_succ, List.setIfInBounds_toArray, List.set_cons_zero, List.set_cons_succ]
              refine wpAnyH_take (i := 8) (v := .int .i64 (k : Int)) rfl (by kernel_rfl) (by kernel_rfl) (by kernel_rfl) (fun _ _ _ h => h) (.inl ⟨by rfl, by intro w hw; go_simp⟩) s0 ?_
              try simp only [Act.put, List.getElem_toArray, List.getElem_cons_zero, List.getElem_cons_succ, List.setIfInBounds_toArray, List.set_cons_zero, List.set_cons_succ]
              refine wpAnyH_take (i := 9) (v := .int .i64 ((f : Int) + (k : Int))) rfl (by kernel_rfl) (by kernel_rfl) (by kernel_rfl) (fun _ _ _ h => h) (.inl ⟨by rfl, by intro w hw; go_simp⟩) s0 ?_
              try simp only [Act.put, List.getElem_toArray, List.getElem_cons_zero, List.getElem_cons_succ, List.setIfInBounds_toArray, List.set_cons_zero, List.set_cons_succ]
              refine wpAnyH_take (i := 10) (v := .slice (some ⟨gv, 0, none⟩) 32 cv) rfl (by kernel_rfl) (by kernel_rfl) (by kernel_rfl) (fun _ _ _ h => h) (.inl ⟨by rfl, by intro w hw; go_simp⟩) s0 ?_
              try simp only [Act.put, List.getElem_toArray, List.getElem_cons_zero, List.getElem_cons_succ, List.setIfInBounds_toArray, List.set_cons_zero, List.set_cons_succ]
              refine wpAnyH_one (i := 11) (by kernel_rfl) rfl (by rfl) (fun Kc hK => ?_)
              go_simp
              refine (WD.out).mono ?_
              rintro en w3 h3
              obtain ⟨rfl, f3, D3⟩ := h3
              go_simp
              refine hK _ _ (SF w3 f3) ?_
              clear hK Kc
              try simp only [Act.put, List.getElem_toArray, List.getElem_cons_zero, List.getElem_cons_succ, List.setIfInBounds_toArray, List.set_cons_zero, List.set_cons_succ]
              refine wpAnyH_take (i := 12) (v := .int .i64 ww.2) rfl (by kernel_rfl) (by kernel_rfl) (by kernel_rfl) (fun _ _ _ h => h) (.inl ⟨by rfl, by intro w hw; go_simp⟩) (SF w3 f3) ?_
              try simp only [Act.put, List.getElem_toArray, List.getElem_cons_zero, List.getElem_cons_succ, List.setIfInBounds_toArray, List.set_cons_zero, List.set_cons_succ]
              refine wpAnyH_done (by kernel_rfl) ?_ _
              clear s0 hSS SF hwf WD
              have FR3 : Hid (Frm F w w3) := FRq.out.trans f3 (fun j hj => (GF.out j hj))
              have EX3 : Hid (∃ G, IsRef G w3 B ww.1 ∧ ∀ j, G j → F j ∨ w.heap.size ≤ j) := ⟨_, D3, fun j hj => hj.elim (fun h => GF.out j h) (fun h => .inr (by have h1 := FRq.out.size; exact Nat.le_trans h1 h.1))⟩
              by_cases hz : ww.2 = 0
              rotate_left
              · have hne : ((ww.2 : Int) != 0) = true := by rw [bne_iff_ne]; exact hz
                have FX := Lib.hid (FIN.out ww.1 ww.2 (.int .i64 ww.2) w3 (BADX.out ww.1 ww.2 OK2.out hz) FR3.out EX3.out rfl)
                clear f3 D3 hz
                go_wp2_with fail
                go_ret
                exact FX.out
              · have NX : Hid (RPut F w B d f b P (k + 1) w3) := ⟨FR3.out, by rw [PSN.out, OK2.out]; exact EX3.out, by rw [PSN.out, OK2.out]; exact hz⟩
                rw [hz]
                clear f3 D3 hz
                go_wp2_with fail
                go_roundw
                case rel => exact ⟨k + 1, rfl, by omega, NX.out⟩
                case measure => simp only [intOf]; omega
    · obtain rfl : k = N := by omega
      have hkk : ¬ (k : Int) < (k : Int) := by omega
      have FX : Hid (RefOf F w B r.1 (.int .i64 r.2) (.returned (.int .i64 0)) wo) := by
        have e1 : r = ((putParts d b (secTo first.toNat P b.length k)).1, 0) := by rw [HR.out, secTo_parts _ _ _ k hrm, ← RUN.out.ok]
        exact FIN.out _ 0 _ wo e1 RUN.out.frm RUN.out.ex rfl
      clear HR I0
      go_wp2_with fail
      go_ret
      exact FX.out
end Go.Proofs.Ytopemjbakpahfaa
