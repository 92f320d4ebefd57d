/-
  Small laws that the printed walks use. Nothing of a program in sight.
-/
import Derived.Test.YtlkpkinmmjcbcaaL4
namespace Go.Mor
open Go.RowKit

theorem inB_ret {id : Nat} {K : Act → World → Prop} {Q : Exit → Act → World → Prop} {a : Act} {w : World} (h : Q .ret a w) : inB id K Q .ret a w := h
theorem inB_hit {id id' : Nat} {K : Act → World → Prop} {Q : Exit → Act → World → Prop} {a : Act} {w : World} (e : Nat.beq id' id = true) (h : K a w) : inB id K Q (.exit id') a w := by
  simp only [inB, e]; exact h
theorem inB_miss {id id' : Nat} {K : Act → World → Prop} {Q : Exit → Act → World → Prop} {a : Act} {w : World} (e : Nat.beq id' id = false) (h : Q (.exit id') a w) : inB id K Q (.exit id') a w := by
  simp only [inB, e]; exact h

/-- What holds at the code's end is told first. -/
theorem W_cut {P : Program} {c : Code} {K : Act → World → Prop} {Q : Exit → Act → World → Prop} {a : Act} {w : World} (I : Act → World → Prop) (h : ∀ a w, I a w → K a w) (h' : W P c I Q a w) : W P c K Q a w :=
  W_mono h' h (fun _ _ _ h => h)

theorem add_blk (g j : Nat) : (⟨g, 0, none⟩ : Addr).add j = ⟨g, j, none⟩ := by unfold Addr.add; split <;> simp_all
theorem blk_cells {w : World} {g t : Nat} {cs : List Value} (h : (Res.blk g t cs).holds w) (j : Nat) (v : Value) (hj : cs[j]? = some v) : w.cell? ((⟨g, 0, none⟩ : Addr).add j) = some v := by
  rw [add_blk]; exact blk_cell h hj

theorem Mem.nilrow (w : World) (e size : Nat) : Mem noS w w [.row e size none 0 0 []] := by
  refine ⟨rfl, rfl, rfl, Nat.le_refl _, fun _ _ _ => rfl, ?_, List.pairwise_singleton _ _⟩
  simp only [List.mem_singleton]
  rintro _ rfl
  exact ⟨row_nil w e size, fun g hg => by obtain ⟨a, ha, _⟩ := hg; cases ha⟩

theorem rd_get {w : World} {A : Option Addr} {ad : Addr} {xs : List Value} (h : (Res.rd A xs).holds w) (hA : A = some ad) {j : Nat} {v : Value} (hj : xs[j]? = some v) : w.cell? (ad.add j) = some v := by
  obtain ⟨a', ha, hc⟩ := h j v hj
  rw [hA] at ha
  injection ha with ha
  subst ha
  exact hc
theorem rd_get1 {w : World} {A : Option Addr} {ad : Addr} {xs : List Value} (h : (Res.rd A xs).holds w) (hA : A = some ad) {j : Nat} {v : Value} (hj : xs[j]? = some v) : w.cell? (ad.add (j * 1)) = some v := by
  rw [Nat.mul_one]; exact rd_get h hA hj
theorem rd_some {w : World} {A : Option Addr} {xs : List Value} (h : (Res.rd A xs).holds w) (hn : 0 < xs.length) : ∃ ad, A = some ad := by
  obtain ⟨a', ha, _⟩ := h 0 xs[0] (by simp [hn])
  exact ⟨a', ha⟩
theorem row_some' {w : World} {e size n c : Nat} {A : Option Addr} {xs : List Value} (h : (Res.row e size A n c xs).holds w) (hn : 0 < n) : ∃ ad, A = some ad := by
  obtain ⟨g, hg⟩ := row_some h hn
  exact ⟨_, hg⟩

/-- A list of numbers, as cells. -/
def ints (l : List Int) : List Value := l.map (Value.int .i64)
theorem ints_get {l : List Int} {i : Nat} (h : i < l.length) : (ints l)[i]? = some (.int .i64 (l.getD i 0)) := by
  simp [ints, List.getD, h]
theorem ints_len (l : List Int) : (ints l).length = l.length := by simp [ints]
theorem ints_append (l m : List Int) : ints (l ++ m) = ints l ++ ints m := by simp [ints]
theorem ints_one (l : List Int) : ∀ u ∈ ints l, u.oneCell' = true := by
  intro u hu
  simp only [ints, List.mem_map] at hu
  obtain ⟨x, _, rfl⟩ := hu
  rfl
/-- The element of a slice of numbers that came in. -/
theorem rd_int {w : World} {A : Option Addr} {ad : Addr} {l : List Int} (h : (Res.rd A (ints l)).holds w) (hA : A = some ad) {i : Int} (h0 : 0 ≤ i) (h1 : i < l.length) :
    w.cell? (ad.add (i.toNat * 1)) = some (.int .i64 (l.getD i.toNat 0)) := rd_get1 h hA (ints_get (by omega))
theorem rd_at {w : World} {A : Option Addr} {ad : Addr} {l : List Int} (h : (Res.rd A (ints l)).holds w) (hA : A = some ad) {i : Nat} {v : Int} (hi : l[i]? = some v) :
    w.cell? (ad.add ((i : Int).toNat * 1)) = some (.int .i64 v) := by
  rw [Int.toNat_natCast]
  exact rd_get1 h hA (by simp [ints, hi])
theorem rd_ints_some {w : World} {A : Option Addr} {l : List Int} (h : (Res.rd A (ints l)).holds w) (hn : 0 < l.length) : ∃ ad, A = some ad := rd_some h (by rw [ints_len]; exact hn)
end Go.Mor
