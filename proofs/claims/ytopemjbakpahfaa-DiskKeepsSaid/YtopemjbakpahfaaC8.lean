/-
  The contract of Cut: for all bytes.
-/
import Derived.Test.YtopemjbakpahfaaC7
namespace Go.Proofs.Ytopemjbakpahfaa
open Go.RowKit Crc
/-- What Cut hands back: bytes of new memory, or none. -/
def CutNew (b : List UInt8) (w : World) (en : Ending) (w' : World) : Prop :=
  Below w.heap.size w w' ∧ ((cut b = none ∧ en = .returned (.tuple #[.slice none 0 0, .slice none 0 0, .int .i64 4])) ∨
    ∃ h r v1 v2, cut b = some (h, r) ∧ en = .returned (.tuple #[v1, v2, .int .i64 0]) ∧ w'.ownsRow w.heap.size 5 1 v1 h.length (h.map byteV) ∧ w'.ownsRow w.heap.size 5 1 v2 r.length (r.map byteV))
theorem Cut_any (b : List UInt8) (a : Option Addr) (cap : Nat) (w : World) (hc : b.length ≤ cap) (hb : b.length ≤ 1000000) (hr : RB w a b) : Calls Try.prog 26 #[.slice a b.length cap] w (CutNew b w) := by
  go_enter Try.func26, Try.ntmps26
  go_wp2_with fail
  refine (cut_any b a cap w hc hb hr).mono ?_
  rintro en w1 ⟨hb1, ⟨e, v1, v2, rfl⟩ | ⟨h, r, v1, v2, e, rfl, hpp⟩⟩
  · go_wp2
    go_ret3
    exact ⟨hb1, .inl ⟨e, rfl⟩⟩
  · obtain ⟨⟨a1, c1, rfl, l1, n1, r1⟩, ⟨a2, c2, rfl, l2, n2, r2⟩⟩ := hpp w hr
    have hlen := (cut_some e).2.2
    replace r1 := r1.below hb1
    replace r2 := r2.below hb1
    have E := Lib.hid e
    have R1 := Lib.hid r1
    have R2 := Lib.hid r2
    clear e r1 r2
    go_wp2_with fail
    refine (clone_any h a1 c1 w1 (by omega) l1 n1 R1.out).mono ?_
    rintro en w2 ⟨v3, rfl, o3, hb2⟩
    go_wp2_with fail
    refine (clone_any r a2 c2 w2 (by omega) l2 n2 (R2.out.below hb2)).mono ?_
    rintro en w3 ⟨v4, rfl, o4, hb3⟩
    go_wp2
    go_ret3
    have s2 := hb1.size
    have s3 := hb2.size
    exact ⟨hb1.trans ((hb2.mono s2).trans (hb3.mono (by omega))), .inr ⟨h, r, v3, v4, E.out, rfl, ownsRow_base (owns_below o3 hb3) s2, ownsRow_base o4 (by omega)⟩⟩
end Go.Proofs.Ytopemjbakpahfaa
