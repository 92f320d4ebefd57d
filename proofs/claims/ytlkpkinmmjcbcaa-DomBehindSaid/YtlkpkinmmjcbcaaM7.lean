/-
  What the walks of dom.tree need of the mathematics. No program in sight.
-/
import Derived.Test.YtlkpkinmmjcbcaaM6
import Derived.Test.YtlkpkinmmjcbcaaL11
namespace Go.Mor
open Go.RowKit

theorem IntsOf.at_ {n : Nat} {l : List Int} {f : Int → Int} (h : IntsOf n l f) {x : Int} (h0 : 0 ≤ x) (h1 : x < n) : (ints l)[x.toNat]? = some (.int .i64 (f x)) := by
  obtain ⟨i, rfl⟩ := Int.eq_ofNat_of_zero_le h0
  have := h.get (i := i) (by omega)
  simp [ints, this]
/-- What the climbing needs. -/
structure Mok (T : Int → List Int) (pl up : Int → Int) (n : Nat) (atl ab : List Int) : Prop where
  plc : Plc T pl
  ok : Up T pl up
  rng : ∀ x, 0 ≤ pl x → 0 ≤ x ∧ x < (n : Int)
  hat : IntsOf n atl pl
  hab : IntsOf n ab up
section
variable {T : Int → List Int} {pl up : Int → Int} {n : Nat} {atl ab : List Int}
theorem Mok.at0 (h : Mok T pl up n atl ab) {x : Int} (hx : Prc pl up x) : (ints atl)[x.toNat]? = some (.int .i64 (pl x)) := h.hat.at_ (h.rng x hx.1).1 (h.rng x hx.1).2
theorem Mok.up0 (h : Mok T pl up n atl ab) {x : Int} (hx : Prc pl up x) : (ints ab)[x.toNat]? = some (.int .i64 (up x)) := h.hab.at_ (h.rng x hx.1).1 (h.rng x hx.1).2
theorem Mok.ne0 (h : Mok T pl up n atl ab) {a b : Int} (hb : Prc pl up b) (hlt : pl a > pl b) : a ≠ 0 := by
  rintro rfl
  rw [h.plc.zero] at hlt
  have := hb.1
  omega
theorem meet_dec (h : Mok T pl up n atl ab) {a b a2 b2 : Int} (ha : Prc pl up a) (ha2 : Prc pl up a2) (hb2 : Prc pl up b2) (hne : a ≠ b) (h1 : a2 = a ∨ pl a2 < pl a) (h2 : b2 = b ∨ pl b2 < pl b) (g1 : ¬ pl a2 > pl b) (g2 : ¬ pl b2 > pl a2) :
    (pl a2 + pl b2).toNat < (pl a + pl b).toNat := by
  have p1 := ha2.1
  have p2 := hb2.1
  rcases h1 with rfl | h1
  · rcases h2 with rfl | h2
    · exact absurd (h.plc.inj _ _ ha.1 (by omega)) hne
    · omega
  · rcases h2 with rfl | h2 <;> omega
end
end Go.Mor
