/-
  Texts of the proof, part 12.
-/
import Derived.Test.YtejbeeaomokjpaaZA11
import Derived.Shelf.SlSortCmp.Whole1
set_option maxRecDepth 10000
namespace Go.Mor
open Go.RowKit Go.Sort Go.Proofs
def Gw (w w' : World) : Prop := ∃ q os, w' = grow (w.drewN q) os
theorem Gw.refl (w : World) : Gw w w := ⟨0, #[], by rw [grow_empty]; rfl⟩
theorem Gw.drew {w w' : World} (h : Gw w w') : Gw w w'.drew := by
  obtain ⟨q, os, rfl⟩ := h
  exact ⟨q + 1, os, rfl⟩
theorem Gw.kp {w w' : World} (h : Gw w w') : Mem noS w w' [] := by
  obtain ⟨q, os, rfl⟩ := h
  refine ⟨rfl, rfl, rfl, by simp [grow, World.drewN], fun k hk _ => ?_, by simp, List.Pairwise.nil⟩
  show (w.heap ++ os)[k]? = w.heap[k]?
  rw [Array.getElem?_append_left hk]
end Go.Mor
namespace Go.Mor
open Go.RowKit Go.Sort Go.Proofs
theorem putCells_toList {α : Type} [Inhabited α] (enc : α → Value) (d : Array α) (cur : Array Value) (h : d.size ≤ cur.size) : ((putCells enc 0 d cur).toList).take d.size = d.toList.map enc := by
  refine List.ext_getElem? fun i => ?_
  by_cases hi : i < d.size
  · have h2 : i < cur.size := by omega
    have e1 : (putCells enc 0 d cur).toList[i]? = some (enc d[i]!) := by
      unfold putCells
      rw [Array.getElem?_toList, Array.getElem?_mapIdx, Array.getElem?_eq_getElem h2]
      simp [hi]
    rw [List.getElem?_take_of_lt hi, e1, List.getElem?_map, Array.getElem?_toList, Array.getElem?_eq_getElem hi]
    simp [hi]
  · rw [List.getElem?_eq_none (by rw [List.length_take]; omega), List.getElem?_eq_none (by simp; omega)]
theorem sort_mem {α : Type} [Inhabited α] (enc : α → Value) {w : World} {e n c g : Nat} {xs : List Value} (h : (Res.row e 1 (some ⟨g, 0, none⟩) n c xs).holds w) (m : Nat) {dk : Array α} (hd : dk.size = n) (os : Array Obj) :
    Mem (Res.row e 1 (some ⟨g, 0, none⟩) n c xs).fp w (sortWorld enc w g 0 m dk os) [.row e 1 (some ⟨g, 0, none⟩) n c (dk.toList.map enc)] := by
  obtain ⟨hl, h2⟩ := h
  rcases h2 with ⟨h2, _⟩ | ⟨g', cap, cur, hv, hb, hg, hnc, hcm, hcs, ht⟩
  · cases h2
  injection hv with hv _ hc
  injection hv with hv
  injection hv with hv
  subst hv hc
  have hlt : g < w.heap.size := lt_of_heap hg
  have hheap : (sortWorld enc w g 0 m dk os).heap = (w.heap.modify g (onCells (putCells enc 0 dk))) ++ os := rfl
  refine ⟨rfl, rfl, rfl, ?_, fun k hk hne => ?_, ?_, List.pairwise_singleton _ _⟩
  · rw [hheap]; simp
  · rw [hheap, Array.getElem?_append_left (by simpa using hk), Array.getElem?_modify, if_neg]
    intro e1
    subst e1
    exact hne ⟨⟨g, 0, none⟩, rfl, rfl⟩
  · simp only [List.mem_singleton]
    rintro _ rfl
    refine ⟨⟨by simp [hd], .inr ⟨g, c, putCells enc 0 dk cur, rfl, hb, ?_, hnc, hcm, ?_, ?_⟩⟩, fun k hk => .inl hk⟩
    · rw [hheap, Array.getElem?_append_left (by simpa using hlt), Array.getElem?_modify, if_pos rfl, hg]
      rfl
    · simpa [putCells] using hcs
    · rw [Nat.mul_one, ← hd]
      refine putCells_toList enc dk cur ?_
      rw [Nat.mul_one] at hcs
      omega
theorem row_Holds {α : Type} [Inhabited α] (enc : α → Value) {w : World} {e n c g : Nat} {d : Array α} (h : (Res.row e 1 (some ⟨g, 0, none⟩) n c (d.toList.map enc)).holds w) : Holds enc w g 0 d := by
  intro j hj
  obtain ⟨ad, ha, hc⟩ := row_rd h j (enc d[j]!) (by rw [List.getElem?_map, Array.getElem?_toList, Array.getElem?_eq_getElem hj]; simp [hj])
  injection ha with ha
  subst ha
  rw [add_blk] at hc
  have hf := row_frozen h j
  rw [add_blk] at hf
  exact ⟨by rw [Nat.zero_add]; exact hc, by rw [Nat.zero_add]; exact hf⟩
def Sorted_ (n : Nat) (key : Nat → Int) (il : List Nat) : Prop := il.Perm (List.range n) ∧ il.Pairwise (fun i j => key i ≤ key j)
def keyI (nl fl : List Int) (i : Nat) : Int := nl.getD (fl.getD i 0).toNat 0
theorem Sorted_.rising {n : Nat} {key : Nat → Int} {il : List Nat} (h : Sorted_ n key il) (hr : ∀ i j, i < j → j < n → key i < key j) : il = List.range n := by
  have key_inj : ∀ i j, i < n → j < n → key i ≤ key j → key j ≤ key i → i = j := by
    intro i j hi hj h1 h2
    rcases Nat.lt_trichotomy i j with h3 | h3 | h3
    · have := hr i j h3 hj; omega
    · exact h3
    · have := hr j i h3 hi; omega
  refine List.Perm.eq_of_pairwise (le := fun i j => key i ≤ key j) ?_ h.2 ?_ h.1
  · intro a b ha hb h1 h2
    have ha' := List.mem_range.1 (h.1.mem_iff.1 ha)
    have hb' := List.mem_range.1 hb
    exact key_inj a b ha' hb' h1 h2
  · rw [List.pairwise_iff_getElem]
    intro i j hi hj hij
    simp only [List.length_range] at hi hj
    simp only [List.getElem_range]
    have := hr i j hij hj
    omega
def natsI (l : List Nat) : List Int := l.map (fun i : Nat => (i : Int))
theorem natsI_get {l : List Nat} {j i : Nat} (h : l[j]? = some i) : (natsI l)[j]? = some (i : Int) := by simp [natsI, h]
theorem nati_next {f : Nat → Int} {l : List Nat} {j i : Nat} (h : l[j]? = some i) : (l.take (j + 1)).map f = (l.take j).map f ++ [f i] := by
  obtain ⟨hj, he⟩ := List.getElem?_eq_some_iff.1 h
  rw [List.take_succ_eq_append_getElem hj, List.map_append, he]
  rfl
def fillN (n j : Nat) : List Int := natsI (List.range j) ++ List.replicate (n - j) 0
theorem fillN_zero (n : Nat) : ints (fillN n 0) = List.replicate n (.int .i64 0) := by simp [fillN, natsI, ints]
theorem fillN_all (n : Nat) : fillN n n = natsI (List.range n) := by simp [fillN]
theorem fillN_next {n j : Nat} (h : j < n) : (ints (fillN n j)).set j (.int .i64 (j : Int)) = ints (fillN n (j + 1)) := by
  unfold fillN natsI ints
  obtain ⟨d, hd⟩ := Nat.le.dest h
  rw [show n - j = d + 1 by omega, show n - (j + 1) = d by omega, List.replicate_succ, List.range_succ]
  simp
def encF (n : Nat) (i : Fin n) : Value := .int .i64 ((i.val : Nat) : Int)
def cfF (nl fl : List Int) (n : Nat) (i j : Fin n) : Int := keyI nl fl i.val - keyI nl fl j.val
theorem cfF_swo (nl fl : List Int) (n : Nat) : SWO (ltOf (cfF nl fl n)) := by
  have e : ∀ x y, ltOf (cfF nl fl n) x y = decide (keyI nl fl x.val < keyI nl fl y.val) := by
    intro x y
    unfold ltOf cfF
    exact decide_eq_decide.2 (by omega)
  refine ⟨fun x => ?_, fun x y z h1 h2 => ?_, fun x y z h1 h2 => ?_⟩
  · rw [e]; simp
  · rw [e] at *; simp at *; omega
  · rw [e] at *; simp at *; omega
theorem finArr_map (n : Nat) : ((Array.ofFn (n := n) id).toList).map (encF n) = ints (natsI (List.range n)) := by
  refine List.ext_getElem? fun i => ?_
  by_cases hi : i < n
  · simp [ints, natsI, encF, hi]
  · simp [ints, natsI, encF, hi]
theorem sorted_out {nl fl : List Int} {n : Nat} [Inhabited (Fin n)] {d' : Array (Fin n)} (hp : PermIn 0 (Array.ofFn (n := n) id).size (Array.ofFn (n := n) id) d') (hs : SortedIn (ltOf (cfF nl fl n)) 0 (Array.ofFn (n := n) id).size d') :
    Sorted_ n (keyI nl fl) (d'.toList.map (·.val)) ∧ d'.toList.map (encF n) = ints (natsI (d'.toList.map (·.val))) := by
  obtain ⟨h1, _, h3⟩ := hp
  have hn : (Array.ofFn (n := n) id).size = n := by simp
  have hdn : d'.size = n := by rw [h1, hn]
  refine ⟨⟨?_, ?_⟩, ?_⟩
  · have e1 : d'.extract 0 (Array.ofFn (n := n) id).size = d' := by rw [← h1]; exact Array.extract_size
    rw [e1, Array.extract_size] at h3
    have := h3.map (fun i : Fin n => i.val)
    refine this.trans ?_
    have e2 : ((Array.ofFn (n := n) id).toList).map (fun i : Fin n => i.val) = List.range n := by
      refine List.ext_getElem? fun i => ?_
      by_cases hi : i < n <;> simp [hi]
    rw [e2]
  · rw [List.pairwise_iff_getElem]
    intro i j hi hj hij
    simp only [List.length_map, Array.length_toList] at hi hj
    have := hs i j (Nat.zero_le _) hij (by rw [hn, ← hdn]; exact hj)
    rw [getElem!_pos d' j (by omega), getElem!_pos d' i (by omega)] at this
    unfold ltOf cfF at this
    simp only [decide_eq_false_iff_not] at this
    simp only [List.getElem_map, Array.getElem_toList]
    omega
  · unfold ints natsI
    rw [List.map_map, List.map_map]
    rfl
end Go.Mor
namespace Go.Mor
open Go.RowKit
def AllR {α β : Type} (R : α → β → Prop) (l : List α) (m : List β) : Prop := l.length = m.length ∧ ∀ (i : Nat) (x : α) (y : β), l[i]? = some x → m[i]? = some y → R x y
section
variable {α β : Type} {R : α → β → Prop} {l : List α} {m : List β}
theorem AllR.nil : AllR R [] [] := ⟨rfl, fun i x y h => by simp at h⟩
theorem AllR.snoc (h : AllR R l m) {x : α} {y : β} (hr : R x y) : AllR R (l ++ [x]) (m ++ [y]) := by
  obtain ⟨hl, h⟩ := h
  refine ⟨by simp [hl], fun i a b ha hb => ?_⟩
  rcases Nat.lt_trichotomy i l.length with h1 | h1 | h1
  · rw [List.getElem?_append_left h1] at ha
    rw [List.getElem?_append_left (by omega)] at hb
    exact h i a b ha hb
  · subst h1
    rw [List.getElem?_append_right (Nat.le_refl _), Nat.sub_self] at ha
    rw [List.getElem?_append_right (by omega), hl, Nat.sub_self] at hb
    simp at ha hb
    subst ha hb
    exact hr
  · rw [List.getElem?_eq_none (by simp; omega)] at ha
    cases ha
theorem AllR.next {k : Nat} (h : AllR R (l.take k) m) {x : α} (hx : l[k]? = some x) {y : β} (hr : R x y) : AllR R (l.take (k + 1)) (m ++ [y]) := by
  obtain ⟨hk, he⟩ := List.getElem?_eq_some_iff.1 hx
  rw [List.take_succ_eq_append_getElem hk, he]
  exact h.snoc hr
end
def cntL (gl : List Bool) (k : Nat) : Nat := ((gl.take k).filter (fun b => !b)).length
def numT (gl : List Bool) (k : Nat) : List Int := (List.range gl.length).map (fun i => if i < k ∧ gl.getD i true = false then (cntL gl i : Int) else 0)
theorem cntL_le (gl : List Bool) (k : Nat) : cntL gl k ≤ k := by
  unfold cntL
  exact Nat.le_trans (List.length_filter_le _ _) (by simp; omega)
theorem cntL_yes {gl : List Bool} {k : Nat} (h : gl[k]? = some false) : cntL gl (k + 1) = cntL gl k + 1 := by
  obtain ⟨hk, he⟩ := List.getElem?_eq_some_iff.1 h
  unfold cntL
  rw [List.take_succ_eq_append_getElem hk, List.filter_append, he]
  simp
theorem cntL_no {gl : List Bool} {k : Nat} (h : gl[k]? = some true) : cntL gl (k + 1) = cntL gl k := by
  obtain ⟨hk, he⟩ := List.getElem?_eq_some_iff.1 h
  unfold cntL
  rw [List.take_succ_eq_append_getElem hk, List.filter_append, he]
  simp
theorem numT_len (gl : List Bool) (k : Nat) : (numT gl k).length = gl.length := by simp [numT]
theorem numT_zero (gl : List Bool) : ints (numT gl 0) = List.replicate gl.length (.int .i64 0) := by
  unfold numT ints
  simp only [Nat.not_lt_zero, false_and, if_false, List.map_map]
  refine List.ext_getElem? fun i => ?_
  by_cases hi : i < gl.length
  · simp [hi]
  · simp [hi]
theorem numT_yes {gl : List Bool} {k : Nat} (h : gl[k]? = some false) : (ints (numT gl k)).set k (.int .i64 (cntL gl k : Int)) = ints (numT gl (k + 1)) := by
  obtain ⟨hk, he⟩ := List.getElem?_eq_some_iff.1 h
  unfold numT ints
  refine List.ext_getElem? fun i => ?_
  by_cases hi : i < gl.length
  · by_cases e : k = i
    · subst e
      rw [List.getElem?_set_self (by simpa using hk)]
      simp [hk, List.getD, he]
    · rw [List.getElem?_set_ne e]
      simp only [List.getElem?_map, List.getElem?_range hi, Option.map_some]
      have : (i < k ∧ gl.getD i true = false) ↔ (i < k + 1 ∧ gl.getD i true = false) := and_congr (by omega) Iff.rfl
      simp only [this]
  · rw [List.getElem?_eq_none (by simp; omega), List.getElem?_eq_none (by simp; omega)]
theorem numT_no {gl : List Bool} {k : Nat} (h : gl[k]? = some true) : numT gl k = numT gl (k + 1) := by
  obtain ⟨hk, he⟩ := List.getElem?_eq_some_iff.1 h
  unfold numT
  refine List.map_congr_left fun i _ => ?_
  have : (i < k ∧ gl.getD i true = false) ↔ (i < k + 1 ∧ gl.getD i true = false) := by
    by_cases e : i = k
    · subst e; simp [List.getD, h]
    · exact and_congr (by omega) Iff.rfl
  simp only [this]
def numL (gl : List Bool) : List Int := numT gl gl.length
theorem numT_get {gl : List Bool} {k i : Nat} (hi : i < gl.length) : (numT gl k).getD i 0 = if i < k ∧ gl.getD i true = false then (cntL gl i : Int) else 0 := by
  unfold numT
  rw [List.getD_eq_getElem?_getD, List.getElem?_map, List.getElem?_range hi]
  rfl
theorem numL_rng (gl : List Bool) (k : Nat) (hl : gl.length ≤ 1000000) : 0 ≤ (numL gl).getD k 0 ∧ (numL gl).getD k 0 ≤ 1000000 := by
  unfold numL
  by_cases hk : k < gl.length
  · have := cntL_le gl k
    rw [numT_get hk]
    by_cases hc : k < gl.length ∧ gl.getD k true = false
    · rw [if_pos hc]; omega
    · rw [if_neg hc]; omega
  · rw [List.getD_eq_getElem?_getD, List.getElem?_eq_none (by rw [numT_len]; omega)]
    simp
def goneL (ks : List KBlk) : List Bool := ks.map (fun x => x.gone)
def toA (nl : List Int) (e a : Int) : Int := if e = 0 ∨ e = 1 then nl.getD a.toNat 0 else if e = 3 then a else 0
def toBb (nl : List Int) (e b : Int) : Int := if e = 1 then nl.getD b.toNat 0 else 0
def ToP (nl : List Int) (p : KPhi) (q : FPhi) : Prop := q.dst = p.dst ∧ ∃ il, Sorted_ p.from_.length (keyI nl p.from_) il ∧ q.args = il.map (fun i => p.args.getD i 0)
structure ToB (nl : List Int) (x : KBlk) (y : FBlk) : Prop where
  phis : AllR (ToP nl) x.phis y.phis
  insts : y.insts.map FIns.e0 = x.insts
  e : y.e = x.e
  v : y.v = x.v
  a : y.a = toA nl x.e x.a
  b : y.b = toBb nl x.e x.b
def liveK (ks : List KBlk) : List KBlk := ks.filter (fun x => !x.gone)
def ToQ (ks : List KBlk) (fs : List FBlk) : Prop := AllR (ToB (numL (goneL ks))) (liveK ks) fs
structure ToOk (n : Int) (x : KBlk) : Prop where
  lp : x.phis.length ≤ 20000
  phis : ∀ p, p ∈ x.phis → 0 < p.from_.length ∧ p.from_.length ≤ 20000 ∧ p.args.length = p.from_.length ∧ ∀ s, s ∈ p.from_ → 0 ≤ s ∧ s < n
  e0 : x.e = 0 → 0 ≤ x.a ∧ x.a < n
  e1 : x.e = 1 → (0 ≤ x.a ∧ x.a < n) ∧ 0 ≤ x.b ∧ x.b < n
theorem live_yes {ks : List KBlk} {k : Nat} {x : KBlk} (hx : ks[k]? = some x) (h : x.gone = false) : liveK (ks.take (k + 1)) = liveK (ks.take k) ++ [x] := by
  obtain ⟨hk, he⟩ := List.getElem?_eq_some_iff.1 hx
  unfold liveK
  rw [List.take_succ_eq_append_getElem hk, List.filter_append, he]
  simp [h]
theorem live_no {ks : List KBlk} {k : Nat} {x : KBlk} (hx : ks[k]? = some x) (h : x.gone = true) : liveK (ks.take (k + 1)) = liveK (ks.take k) := by
  obtain ⟨hk, he⟩ := List.getElem?_eq_some_iff.1 hx
  unfold liveK
  rw [List.take_succ_eq_append_getElem hk, List.filter_append, he]
  simp [h]
section
variable {w : World} {A : Option Addr} {c : Nat} {ad : Addr} {k : Nat} {gs : List GBlk} {x : GBlk}
theorem own_ptr (h : (ptR A c gs).holds w) (hA : A = some ad) (hx : gs[k]? = some x) : w.cell? (ad.add (k * 1)) = some (.pointer (some ⟨x.g, 0, none⟩)) :=
  rd_get1 (row_rd h) hA (by unfold ptrs; rw [List.getElem?_map, hx]; rfl)
theorem gB_of (h : (Res.pk (gs.map gB)).holds w) (hx : gs[k]? = some x) {r : Res} (hr : r ∈ gL x) : r.holds w :=
  pk_of (pk_of h (List.mem_map.2 ⟨x, List.mem_of_getElem? hx, rfl⟩) : (gB x).holds w) hr
theorem gB_cell (h : (Res.pk (gs.map gB)).holds w) (hx : gs[k]? = some x) {j : Nat} {v : Value} (hj : (gV x)[j]? = some v) : w.cell? ⟨x.g, j, none⟩ = some v :=
  blk_cell (gB_of h hx (r := .blk x.g 65 (gV x)) (by simp)) hj
theorem gone_at (hx : gs[k]? = some x) : (goneL (gs.map GBlk.k))[k]? = some x.gone := by
  unfold goneL
  rw [List.getElem?_map, List.getElem?_map, hx]
  rfl
theorem goneL_len (ks : List KBlk) : (goneL ks).length = ks.length := by simp [goneL]
end
end Go.Mor
namespace Go.Mor
open Go.RowKit
def GPhi.f (p : GPhi) : FPhi := ⟨p.dst, none, 0, p.args⟩
def GBlk.f (x : GBlk) : FBlk := ⟨none, 0, x.phis.map GPhi.f, none, 0, x.insts.map FIns.e0, x.e, x.v, x.a, x.b⟩
section
variable {fs : List FBlk} {gs : List GBlk} {nm : ByteArray} {pa va : Int}
theorem fz_e0 (h : gs.map GBlk.k = fromK fs) : gs.map GBlk.f = fs.map FBlk.e0 := by
  have hl : gs.length = fs.length := by have := congrArg List.length h; rwa [List.length_map, fromK_len] at this
  refine List.ext_getElem? fun i => ?_
  rw [List.getElem?_map, List.getElem?_map]
  by_cases hi : i < fs.length
  · obtain ⟨x, hx⟩ := get_of (l := fs) hi
    obtain ⟨y, hy⟩ := get_of (l := gs) (i := i) (by omega)
    have h1 := congrArg (fun l : List KBlk => l[i]?) h
    simp only [List.getElem?_map, hy, Option.map_some, fromK_get hx] at h1
    injection h1 with h1
    rw [hx, hy, Option.map_some, Option.map_some]
    congr 1
    unfold GBlk.f FBlk.e0
    have e1 : y.phis.map GPhi.k = x.phis.map (fromP (srcs (bsOf fs) (i : Int))) := congrArg KBlk.phis h1
    have e2 : y.insts.map FIns.e0 = x.insts.map FIns.e0 := congrArg KBlk.insts h1
    have e3 : y.e = x.e := congrArg KBlk.e h1
    have e4 : y.v = x.v := congrArg KBlk.v h1
    have e5 : y.a = x.a := congrArg KBlk.a h1
    have e6 : y.b = x.b := congrArg KBlk.b h1
    have e7 : y.phis.map GPhi.f = x.phis.map FPhi.e0 := by
      have h2 := congrArg (List.map (fun p : KPhi => (⟨p.dst, none, 0, p.args⟩ : FPhi))) e1
      rw [List.map_map, List.map_map] at h2
      exact h2
    rw [e2, e3, e4, e5, e6, e7]
  · rw [List.getElem?_eq_none (by omega), List.getElem?_eq_none (by omega)]
    rfl
theorem fz_alike (h : gs.map GBlk.k = fromK fs) : AlikeF fs (gs.map GBlk.f) := by
  unfold AlikeF
  rw [fz_e0 h, List.map_map]
  refine List.map_congr_left fun x _ => ?_
  show x.e0 = x.e0.e0
  unfold FBlk.e0
  simp only [List.map_map]
  rfl
end
section
variable {fs gs : List FBlk}
theorem Rd.alike (h : AlikeF fs gs) {v : Int} (hv : Rd fs v) : Rd gs v := by
  have key : ∀ x, x ∈ fs → ∃ y, y ∈ gs ∧ x.e0 = y.e0 := by
    intro x hx
    obtain ⟨k, hk⟩ := List.mem_iff_getElem?.1 hx
    obtain ⟨y, hy, e⟩ := e0_get h hk
    exact ⟨y, List.mem_of_getElem? hy, e⟩
  induction hv with
  | @inst x i v hx hi hp hv h0 =>
    obtain ⟨y, hy, e⟩ := key x hx
    obtain ⟨j, hj⟩ := List.mem_iff_getElem?.1 hi
    obtain ⟨q, hq, e1, e2, e3, e4, e5⟩ := e0_inst e hj
    exact .inst hy (List.mem_of_getElem? hq) (e1 ▸ hp) (e5 ▸ hv) h0
  | @fin x hx he h0 =>
    obtain ⟨y, hy, e⟩ := key x hx
    rw [e0_v e]
    exact .fin hy (by rw [← e0_e e]; exact he) (by rw [← e0_v e]; exact h0)
  | @phi x p v hx hi hd hv h0 ih =>
    obtain ⟨y, hy, e⟩ := key x hx
    obtain ⟨j, hj⟩ := List.mem_iff_getElem?.1 hi
    obtain ⟨q, hq, e1, e2⟩ := e0_phi e hj
    exact .phi hy (List.mem_of_getElem? hq) (e1 ▸ ih) (e2 ▸ hv) h0
  | @pure x i v hx hi hp hd hv h0 ih =>
    obtain ⟨y, hy, e⟩ := key x hx
    obtain ⟨j, hj⟩ := List.mem_iff_getElem?.1 hi
    obtain ⟨q, hq, e1, e2, e3, e4, e5⟩ := e0_inst e hj
    exact .pure hy (List.mem_of_getElem? hq) (e1 ▸ hp) (e2 ▸ ih) (e5 ▸ hv) h0
theorem dead_alike (h : AlikeF fs gs) : AlikeF (deadF fs) (deadF gs) := by
  have hr : ∀ v, Rd fs v ↔ Rd gs v := fun v => ⟨Rd.alike h, Rd.alike h.symm⟩
  have e : ∀ x : FBlk, (deadB fs x).e0 = deadB gs x.e0 := by
    intro x
    unfold deadB FBlk.e0
    simp only [FBlk.mk.injEq, true_and, and_true]
    refine ⟨?_, ?_⟩
    · rw [List.filter_map]
      congr 1
      refine List.filter_congr fun p _ => ?_
      unfold keepP
      exact decide_eq_decide.2 (hr _)
    · rw [List.filter_map]
      congr 1
      refine List.filter_congr fun p _ => ?_
      unfold keepI
      exact decide_eq_decide.2 (by show ¬ (pureQ p.op ∧ ¬ Rd fs p.dst) ↔ ¬ (pureQ p.op ∧ ¬ Rd gs p.dst); rw [hr])
  have e' : ∀ x : FBlk, (deadB gs x).e0 = deadB gs x.e0 := by
    intro x
    unfold deadB FBlk.e0
    simp only [FBlk.mk.injEq, true_and, and_true]
    refine ⟨?_, ?_⟩
    · rw [List.filter_map]; rfl
    · rw [List.filter_map]; rfl
  unfold AlikeF deadF
  rw [List.map_map, List.map_map]
  have h1 : fs.map (FBlk.e0 ∘ deadB fs) = (fs.map FBlk.e0).map (deadB gs) := by
    rw [List.map_map]; exact List.map_congr_left fun x _ => e x
  have h2 : gs.map (FBlk.e0 ∘ deadB gs) = (gs.map FBlk.e0).map (deadB gs) := by
    rw [List.map_map]; exact List.map_congr_left fun x _ => e' x
  rw [h1, h2, h]
end
theorem nodup_flat {α β : Type} {f : α → List β} : ∀ {l : List α}, (l.flatMap f).Nodup → ∀ {i j : Nat} {x y : α} {v : β}, l[i]? = some x → l[j]? = some y → v ∈ f x → v ∈ f y → i = j
  | [], _, i, _, _, _, _, hi, _, _, _ => by simp at hi
  | a :: l, h, i, j, x, y, v, hi, hj, hx, hy => by
    rw [List.flatMap_cons, List.nodup_append] at h
    obtain ⟨_, h2, h3⟩ := h
    cases i with
    | zero =>
      cases j with
      | zero => rfl
      | succ j =>
        simp at hi hj
        subst hi
        exact absurd rfl (h3 v hx v (List.mem_flatMap.2 ⟨y, List.mem_of_getElem? hj, hy⟩))
    | succ i =>
      cases j with
      | zero =>
        simp at hi hj
        subst hj
        exact absurd rfl (h3 v hy v (List.mem_flatMap.2 ⟨x, List.mem_of_getElem? hi, hx⟩))
      | succ j =>
        simp at hi hj
        rw [nodup_flat h2 hi hj hx hy]
theorem sub_mem_flat {α β : Type} {f : α → List β} : ∀ {l : List α} {x : α}, x ∈ l → (f x).Sublist (l.flatMap f)
  | a :: l, x, h => by
    rw [List.flatMap_cons]
    rcases List.mem_cons.1 h with rfl | h
    · exact List.sublist_append_left _ _
    · exact (sub_mem_flat h).trans (List.sublist_append_right _ _)
theorem map_inj_of {α β : Type} {f : α → β} {l : List α} (h : (l.map f).Nodup) {x y : α} (hx : x ∈ l) (hy : y ∈ l) (e : f x = f y) : x = y := by
  obtain ⟨i, hi⟩ := List.mem_iff_getElem?.1 hx
  obtain ⟨j, hj⟩ := List.mem_iff_getElem?.1 hy
  have hp := List.pairwise_map.1 h
  by_cases hij : i = j
  · subst hij; rw [hi] at hj; injection hj
  · exact absurd e (pair_get (R := fun a b => f a ≠ f b) (fun _ _ h e => h e.symm) hp hi hj hij)
inductive MkBy (fs : List FBlk) (v : Int) : List Int → Prop
  | phi {x : FBlk} {p : FPhi} : x ∈ fs → p ∈ x.phis → p.dst = v → MkBy fs v p.args
  | inst {x : FBlk} {i : FIns} : x ∈ fs → i ∈ x.insts → pureQ i.op → i.dst = v → MkBy fs v i.args
theorem MkBy.uniq {fs : List FBlk} {pa va : Int} (h : OnceQ pa va (defsF fs)) {v : Int} {l m : List Int} (h1 : MkBy fs v l) (h2 : MkBy fs v m) : l = m := by
  have hn := h.2
  rw [defsF_fst] at hn
  have key : ∀ {x y : FBlk}, x ∈ fs → y ∈ fs → v ∈ mksOf x → v ∈ mksOf y → x = y := by
    intro x y hx hy h3 h4
    obtain ⟨i, hi⟩ := List.mem_iff_getElem?.1 hx
    obtain ⟨j, hj⟩ := List.mem_iff_getElem?.1 hy
    have := nodup_flat hn hi hj h3 h4
    subst this
    rw [hi] at hj; injection hj
  have hb : ∀ x, x ∈ fs → (mksOf x).Nodup := by
    intro x hx
    exact hn.sublist (sub_mem_flat hx)
  have mp : ∀ {x : FBlk} {p : FPhi}, p ∈ x.phis → p.dst ∈ mksOf x := fun hp => List.mem_append_left _ (List.mem_map.2 ⟨_, hp, rfl⟩)
  have mi : ∀ {x : FBlk} {i : FIns}, i ∈ x.insts → pureQ i.op → i.dst ∈ mksOf x := fun hi hp => List.mem_append_right _ (List.mem_map.2 ⟨_, List.mem_filter.2 ⟨hi, by simp [pure_makes hp]⟩, rfl⟩)
  cases h1 with
  | @phi x p hx hp e =>
    cases h2 with
    | @phi y q hy hq e2 =>
      have := key hx hy (e ▸ mp hp) (e2 ▸ mp hq)
      subst this
      have h3 := (List.nodup_append.1 (hb x hx)).1
      rw [map_inj_of h3 hp hq (e.trans e2.symm)]
    | @inst y q hy hq hpu e2 =>
      have := key hx hy (e ▸ mp hp) (e2 ▸ mi hq hpu)
      subst this
      have h3 := (List.nodup_append.1 (hb x hx)).2.2
      exact absurd (e.trans e2.symm) (h3 p.dst (List.mem_map.2 ⟨p, hp, rfl⟩) q.dst (List.mem_map.2 ⟨q, List.mem_filter.2 ⟨hq, by simp [pure_makes hpu]⟩, rfl⟩))
  | @inst x p hx hp hpu0 e =>
    cases h2 with
    | @phi y q hy hq e2 =>
      have := key hx hy (e ▸ mi hp hpu0) (e2 ▸ mp hq)
      subst this
      have h3 := (List.nodup_append.1 (hb x hx)).2.2
      exact absurd (e2.trans e.symm) (h3 q.dst (List.mem_map.2 ⟨q, hq, rfl⟩) p.dst (List.mem_map.2 ⟨p, List.mem_filter.2 ⟨hp, by simp [pure_makes hpu0]⟩, rfl⟩))
    | @inst y q hy hq hpu e2 =>
      have := key hx hy (e ▸ mi hp hpu0) (e2 ▸ mi hq hpu)
      subst this
      have h3 := (List.nodup_append.1 (hb x hx)).2.1
      rw [map_inj_of h3 (List.mem_filter.2 ⟨hp, by simp [pure_makes hpu0]⟩) (List.mem_filter.2 ⟨hq, by simp [pure_makes hpu]⟩) (e.trans e2.symm)]
abbrev FrE := Option Addr × Nat × List Int
def frV (e : FrE) : Value := .slice e.1 e.2.2.length e.2.1
def frC (fc : List FrE) : List Value := fc.map frV
inductive GArg (gs : List GBlk) (v : Int) : FrE → Prop
  | phi {x : GBlk} {p : GPhi} : x ∈ gs → p ∈ x.phis → p.dst = v → GArg gs v (p.aA, p.ac, p.args)
  | inst {x : GBlk} {i : FIns} : x ∈ gs → i ∈ x.insts → pureQ i.op → i.dst = v → GArg gs v (i.A, i.c, i.args)
theorem GArg.mk {gs : List GBlk} {v : Int} {e : FrE} (h : GArg gs v e) : MkBy (gs.map GBlk.f) v e.2.2 := by
  cases h with
  | @phi x p hx hp e => exact .phi (p := p.f) (List.mem_map.2 ⟨x, hx, rfl⟩) (List.mem_map.2 ⟨p, hp, rfl⟩) e
  | @inst x i hx hi hp e => exact .inst (i := i.e0) (List.mem_map.2 ⟨x, hx, rfl⟩) (List.mem_map.2 ⟨i, hi, rfl⟩) hp e
def FrS (gs : List GBlk) (fc : List FrE) : Prop := ∀ (v : Nat) (e : FrE), fc[v]? = some e → e = (none, 0, []) ∨ GArg gs (v : Int) e
def FrD (gs : List GBlk) (fc : List FrE) (v : Int) : Prop := ∃ e, fc[v.toNat]? = some e ∧ GArg gs v e
section
variable {gs : List GBlk} {fc : List FrE} {v u : Int} {e : FrE}
theorem FrS.zero (n : Nat) : FrS gs (List.replicate n (none, 0, [])) := fun v e h => by
  rw [List.getElem?_replicate] at h
  split at h
  · injection h with h; exact .inl h.symm
  · cases h
theorem FrS.set (h : FrS gs fc) (h0 : 0 ≤ v) (hg : GArg gs v e) : FrS gs (fc.set v.toNat e) := by
  intro u e' hu
  by_cases hq : v.toNat = u
  · subst hq
    have hl : v.toNat < fc.length := by
      rcases Nat.lt_or_ge v.toNat fc.length with h | h
      · exact h
      · rw [List.getElem?_eq_none (by simpa using h)] at hu; cases hu
    rw [List.getElem?_set_self hl] at hu
    injection hu with hu
    subst hu
    right
    rw [Int.toNat_of_nonneg h0]; exact hg
  · rw [List.getElem?_set_ne hq] at hu
    exact h u e' hu
theorem FrD.set (h : FrD gs fc u) (h0 : 0 ≤ v) (hu0 : 0 ≤ u) (hg : GArg gs v e) : FrD gs (fc.set v.toNat e) u := by
  obtain ⟨e', h1, h2⟩ := h
  by_cases hq : v.toNat = u.toNat
  · have : v = u := by omega
    subst this
    have hl : v.toNat < fc.length := (List.getElem?_eq_some_iff.1 h1).1
    exact ⟨e, by rw [List.getElem?_set_self hl], hg⟩
  · exact ⟨e', by rw [List.getElem?_set_ne hq]; exact h1, h2⟩
theorem FrD.new (hl : v.toNat < fc.length) (hg : GArg gs v e) : FrD gs (fc.set v.toNat e) v := ⟨e, by rw [List.getElem?_set_self hl], hg⟩
end
structure Wk (gs : List GBlk) (n : Nat) (fc : List FrE) (rl : List Bool) (ls : List Int) : Prop where
  len : rl.length = n
  rd : ∀ i : Nat, i < n → rl.getD i false = true → Rd (gs.map GBlk.f) (i : Int)
  lst : ∀ v, v ∈ ls → 0 ≤ v ∧ v < (n : Int) ∧ rl.getD v.toNat false = true
  cnt : ls.length ≤ cntB rl
  closed : ∀ i : Nat, i < n → rl.getD i false = true → (i : Int) ∈ ls ∨ ∀ e, fc[i]? = some e → ∀ a, a ∈ e.2.2 → 0 ≤ a → rl.getD a.toNat false = true
section
variable {gs : List GBlk} {n : Nat} {fc : List FrE} {rl : List Bool} {ls : List Int}
theorem Wk.start (gs : List GBlk) (n : Nat) (fc : List FrE) : Wk gs n fc (List.replicate n false) [] where
  len := by simp
  rd i hi h := by simp [List.getD, hi] at h
  lst := by simp
  cnt := Nat.zero_le _
  closed i hi h := by simp [List.getD, hi] at h
theorem reads_more (h : rl.length = n) {l : List Int} (hl : ∀ v, v ∈ l → v < (n : Int)) {i : Nat} (hi : i < n) (hm : rl.getD i false = true) : (readsS l (rl, ls)).1.getD i false = true :=
  (readsS_get l (rl, ls) i (fun v hv => by show v < (rl.length : Int); rw [h]; exact hl v hv) (by show i < rl.length; omega)).2 (.inl hm)
theorem Wk.reads (h : Wk gs n fc rl ls) {l : List Int} (hl : ∀ v, v ∈ l → v < (n : Int)) (hr : ∀ v, v ∈ l → 0 ≤ v → Rd (gs.map GBlk.f) v) : Wk gs n fc (readsS l (rl, ls)).1 (readsS l (rl, ls)).2 := by
  have hl' : ∀ v, v ∈ l → v < ((rl, ls).1.length : Int) := fun v hv => by show v < (rl.length : Int); rw [h.len]; exact hl v hv
  have hget := fun i => readsS_get l (rl, ls) i hl'
  obtain ⟨q1, q2, q3⟩ := readsS_list l (rl, ls) hl'
  have hcnt := readsS_cnt l (rl, ls) hl'
  simp only at hcnt
  refine ⟨by rw [readsS_len]; exact h.len, fun i hi hm => ?_, fun v hv => ?_, by have := h.cnt; omega, fun i hi hm => ?_⟩
  · rcases (hget i (by show i < rl.length; rw [h.len]; exact hi)).1 hm with h1 | h1
    · exact h.rd i hi h1
    · exact hr _ h1 (Int.natCast_nonneg _)
  · rcases q1 v hv with h1 | ⟨h1, h2⟩
    · obtain ⟨a, b, c⟩ := h.lst v h1
      exact ⟨a, b, reads_more h.len hl (by omega) c⟩
    · refine ⟨h2, hl v h1, ?_⟩
      have := (hget v.toNat (by show v.toNat < rl.length; have := hl v h1; rw [h.len]; omega)).2 (.inr (by rw [Int.toNat_of_nonneg h2]; exact h1))
      exact this
  · rcases q3 i (by show i < rl.length; rw [h.len]; exact hi) hm with h1 | h1
    · rcases h.closed i hi h1 with h2 | h2
      · exact .inl (q2 _ h2)
      · refine .inr fun e he a ha h0 => ?_
        have := h2 e he a ha h0
        by_cases ha2 : a.toNat < n
        · exact reads_more h.len hl ha2 this
        · rw [List.getD_eq_getElem?_getD, List.getElem?_eq_none (by rw [h.len]; omega)] at this
          cases this
    · exact .inl h1
theorem Wk.pop {v : Int} {e : FrE} (h : Wk gs n fc rl (ls ++ [v])) (he : fc[v.toNat]? = some e) (hg : e = (none, 0, []) ∨ GArg gs v e) (hl : ∀ a, a ∈ e.2.2 → a < (n : Int)) : Wk gs n fc (readsS e.2.2 (rl, ls)).1 (readsS e.2.2 (rl, ls)).2 := by
  obtain ⟨hv0, hvn, hvm⟩ := h.lst v (by simp)
  have hvr : Rd (gs.map GBlk.f) v := by
    have := h.rd v.toNat (by omega) hvm
    rwa [Int.toNat_of_nonneg hv0] at this
  have hl' : ∀ a, a ∈ e.2.2 → a < ((rl, ls).1.length : Int) := fun a ha => by show a < (rl.length : Int); rw [h.len]; exact hl a ha
  have hget := fun i => readsS_get e.2.2 (rl, ls) i hl'
  obtain ⟨q1, q2, q3⟩ := readsS_list e.2.2 (rl, ls) hl'
  have hcnt := readsS_cnt e.2.2 (rl, ls) hl'
  simp only at hcnt
  have hc0 := h.cnt
  rw [List.length_append, List.length_singleton] at hc0
  refine ⟨by rw [readsS_len]; exact h.len, fun i hi hm => ?_, fun u hu => ?_, by omega, fun i hi hm => ?_⟩
  · rcases (hget i (by show i < rl.length; rw [h.len]; exact hi)).1 hm with h1 | h1
    · exact h.rd i hi h1
    · rcases hg with rfl | hg
      · cases h1
      · cases hg with
        | @phi x p hx hp ed => exact .phi (p := p.f) (List.mem_map.2 ⟨x, hx, rfl⟩) (List.mem_map.2 ⟨p, hp, rfl⟩) (by show Rd _ p.dst; rw [ed]; exact hvr) h1 (Int.natCast_nonneg _)
        | @inst x j hx hj hp ed => exact .pure (i := j.e0) (List.mem_map.2 ⟨x, hx, rfl⟩) (List.mem_map.2 ⟨j, hj, rfl⟩) hp (by show Rd _ j.dst; rw [ed]; exact hvr) h1 (Int.natCast_nonneg _)
  · rcases q1 u hu with h1 | ⟨h1, h2⟩
    · obtain ⟨a, b, c⟩ := h.lst u (List.mem_append_left _ h1)
      exact ⟨a, b, reads_more h.len hl (by omega) c⟩
    · refine ⟨h2, hl u h1, ?_⟩
      exact (hget u.toNat (by show u.toNat < rl.length; have := hl u h1; rw [h.len]; omega)).2 (.inr (by rw [Int.toNat_of_nonneg h2]; exact h1))
  · have keep : ∀ a : Int, 0 ≤ a → rl.getD a.toNat false = true → (readsS e.2.2 (rl, ls)).1.getD a.toNat false = true := by
      intro a h0 hm
      by_cases ha2 : a.toNat < n
      · exact reads_more h.len hl ha2 hm
      · rw [List.getD_eq_getElem?_getD, List.getElem?_eq_none (by rw [h.len]; omega)] at hm
        cases hm
    rcases q3 i (by show i < rl.length; rw [h.len]; exact hi) hm with h1 | h1
    · rcases h.closed i hi h1 with h2 | h2
      · rcases List.mem_append.1 h2 with h2 | h2
        · exact .inl (q2 _ h2)
        · simp at h2
          right
          intro e' he' a ha h0
          have : v.toNat = i := by omega
          rw [← this, he] at he'
          injection he' with he'
          subst he'
          exact (hget a.toNat (by show a.toNat < rl.length; have := hl a ha; rw [h.len]; omega)).2 (.inr (by rw [Int.toNat_of_nonneg h0]; exact ha))
      · exact .inr fun e' he' a ha h0 => keep a h0 (h2 e' he' a ha h0)
    · exact .inl h1
theorem Wk.done {pa va : Int} (h : Wk gs n fc rl []) (hpa : 0 ≤ pa) (ho : OnceQ pa va (defsF (gs.map GBlk.f))) (hlt : ∀ v, Rd (gs.map GBlk.f) v → v < (n : Int))
    (hd : ∀ x, x ∈ gs → (∀ p, p ∈ x.phis → FrD gs fc p.dst) ∧ ∀ i, i ∈ x.insts → pureQ i.op → FrD gs fc i.dst)
    (hr : ∀ x, x ∈ gs → (∀ i, i ∈ x.insts → ¬ pureQ i.op → ∀ v, v ∈ i.args → 0 ≤ v → rl.getD v.toNat false = true) ∧ ((x.e = 1 ∨ x.e = 2) → 0 ≤ x.v → rl.getD x.v.toNat false = true))
    {v : Int} (hv0 : 0 ≤ v) : rl.getD v.toNat false = true ↔ Rd (gs.map GBlk.f) v := by
  constructor
  · intro hm
    by_cases hn : v.toNat < n
    · have := h.rd v.toNat hn hm
      rwa [Int.toNat_of_nonneg hv0] at this
    · rw [List.getD_eq_getElem?_getD, List.getElem?_eq_none (by rw [h.len]; omega)] at hm
      cases hm
  · have step : ∀ {d : Int} {args : List Int}, MkBy (gs.map GBlk.f) d args → FrD gs fc d → Rd (gs.map GBlk.f) d → (0 ≤ d → rl.getD d.toNat false = true) → 0 ≤ d → ∀ a, a ∈ args → 0 ≤ a → rl.getD a.toNat false = true := by
      intro d args hmk ⟨e, he, hg⟩ hrd ih hd0 a ha h0
      have e1 : e.2.2 = args := MkBy.uniq ho hg.mk hmk
      have hdn := hlt d hrd
      rcases h.closed d.toNat (by omega) (ih hd0) with h2 | h2
      · cases h2
      · exact h2 e he a (by rw [e1]; exact ha) h0
    have dst0 : ∀ d : Int, d ∈ (defsF (gs.map GBlk.f)).map (·.1) → 0 ≤ d := fun d hd => by
      obtain ⟨e, he, rfl⟩ := List.mem_map.1 hd
      have := (ho.1 e he).1
      omega
    rw [defsF_fst] at dst0
    intro hrd
    clear hv0
    induction hrd with
    | @inst x i v hx hi hp hv h0 =>
      obtain ⟨y, hy, rfl⟩ := List.mem_map.1 hx
      obtain ⟨j, hj, rfl⟩ := List.mem_map.1 hi
      exact (hr y hy).1 j hj hp v hv h0
    | @fin x hx he h0 =>
      obtain ⟨y, hy, rfl⟩ := List.mem_map.1 hx
      exact (hr y hy).2 he h0
    | @phi x p v hx hi hrd hv h0 ih =>
      obtain ⟨y, hy, rfl⟩ := List.mem_map.1 hx
      obtain ⟨j, hj, rfl⟩ := List.mem_map.1 hi
      exact step (.phi hx hi rfl) ((hd y hy).1 j hj) hrd (fun _ => ih) (dst0 _ (List.mem_flatMap.2 ⟨_, hx, List.mem_append_left _ (List.mem_map.2 ⟨_, hi, rfl⟩)⟩)) v hv h0
    | @pure x i v hx hi hp hrd hv h0 ih =>
      obtain ⟨y, hy, rfl⟩ := List.mem_map.1 hx
      obtain ⟨j, hj, rfl⟩ := List.mem_map.1 hi
      exact step (.inst hx hi hp rfl) ((hd y hy).2 j hj hp) hrd (fun _ => ih) (dst0 _ (List.mem_flatMap.2 ⟨_, hx, List.mem_append_right _ (List.mem_map.2 ⟨_, List.mem_filter.2 ⟨hi, by simp [pure_makes hp]⟩, rfl⟩)⟩)) v hv h0
end
end Go.Mor
namespace Go.Mor
open Go.RowKit
section
variable {n : Nat} {ws : List Nat} {S : Int → Bool}
end
end Go.Mor
namespace Go.Mor
end Go.Mor
namespace Go.Mor
open Go.RowKit
structure VR (n : Nat) (x : FBlk) : Prop where
  phis : ∀ p, p ∈ x.phis → 0 ≤ p.dst ∧ p.dst < (n : Int)
  insts : ∀ p, p ∈ x.insts → -1 ≤ p.dst ∧ p.dst < (n : Int) ∧ ∀ a, a ∈ p.args → 0 ≤ a ∧ a < (n : Int)
  fin : finS x → 0 ≤ x.v ∧ x.v < (n : Int)
section
variable {fs : List FBlk} {SI SO : Int → Int → Bool}
end
end Go.Mor
namespace Go.Mor
open Go.RowKit
section
variable {n nb k : Nat} {rows : List RowV} {SS : Int → Int → Bool}
end
section
variable {fs : List FBlk} {m j i : Nat} {SO : Int → Int → Bool}
end
section
variable {n : Nat} {fs : List FBlk} {SI SO : Int → Int → Bool}
end
end Go.Mor
namespace Go.Mor
end Go.Mor
namespace Go.Mor
end Go.Mor
namespace Go.Mor
open Go.RowKit
theorem defs_phi {fs : List FBlk} {k : Nat} {x : FBlk} {p : FPhi} (hx : fs[k]? = some x) (hp : p ∈ x.phis) : (p.dst, (k : Int), -1) ∈ defsF fs := by
  unfold defsF defsTo
  rw [List.take_length, List.mem_flatMap]
  exact ⟨(x, k), List.mem_zipIdx_iff_getElem?.2 hx, List.mem_append_left _ (List.mem_map.2 ⟨p, hp, rfl⟩)⟩
theorem defs_ins {fs : List FBlk} {k j : Nat} {x : FBlk} {p : FIns} (hx : fs[k]? = some x) (hp : x.insts[j]? = some p) (hm : makesQ p.op) : (p.dst, (k : Int), (j : Int)) ∈ defsF fs := by
  unfold defsF defsTo
  rw [List.take_length, List.mem_flatMap]
  exact ⟨(x, k), List.mem_zipIdx_iff_getElem?.2 hx, List.mem_append_right _ (List.mem_map.2 ⟨(p, j), List.mem_filter.2 ⟨List.mem_zipIdx_iff_getElem?.2 hp, by simpa using hm⟩, rfl⟩)⟩
section
variable {nm : ByteArray} {pa va : Int} {fs : List FBlk} {n : Nat}
theorem good_vr (h : GoodQ nm pa va fs) (hva : va = (n : Int)) : ∀ x, x ∈ fs → VR n x := by
  intro x hx
  obtain ⟨k, hk⟩ := List.mem_iff_getElem?.1 hx
  have hkl := (List.getElem?_eq_some_iff.1 hk).1
  obtain ⟨y, hy, hr⟩ := h.reads k hkl
  rw [hk] at hy
  injection hy with hy
  subst hy
  have hp0 := h.par
  refine ⟨fun p hp => ?_, fun p hp => ?_, fun hf => ?_⟩
  · have := h.vals.2.1 _ (defs_phi hk hp)
    simp only at this
    omega
  · obtain ⟨j, hj⟩ := List.mem_iff_getElem?.1 hp
    have ha : ∀ a, a ∈ p.args → 0 ≤ a ∧ a < (n : Int) := by
      intro a ha
      obtain ⟨i, hi⟩ := List.mem_iff_getElem?.1 ha
      have := hr.insts j p hj i a hi
      exact ⟨this.1, by rw [← hva]; exact this.2.1⟩
    by_cases hm : makesQ p.op
    · have := h.vals.2.1 _ (defs_ins hk hj hm)
      simp only at this
      exact ⟨by omega, by omega, ha⟩
    · rcases (h.vals.1 x hx p hp).1 with h1 | h1
      · exact absurd h1 hm
      · exact ⟨by omega, by omega, ha⟩
  · have := hr.fin (by unfold finS at hf; unfold finR; omega)
    exact ⟨this.1, by rw [← hva]; exact this.2.1⟩
end
end Go.Mor
namespace Go.Mor
open Go.RowKit
section
variable {n nb k : Nat} {SS TT : Int → Int → Bool}
end
theorem valid_good {nm : ByteArray} {pa va : Int} {fs : List FBlk} (h : validN nm pa va fs = 0) : GoodQ nm pa va fs ∧ va ≤ 20000 ∧ (sizeF fs : Int) ≤ 20000 := by
  unfold validN at h
  split at h
  · omega
  · split at h
    · rename_i h1 h2; exact ⟨h2, by omega, by omega⟩
    · omega
end Go.Mor
namespace Go.Mor
open Go.RowKit
def KBlk.f (x : KBlk) : FBlk := ⟨none, 0, x.phis.map (fun p => ⟨p.dst, none, 0, p.args⟩), none, 0, x.insts, x.e, x.v, x.a, x.b⟩
structure PhiUp (n : Int) (p : KPhi) : Prop where
  up : p.from_.Pairwise (· < ·)
  rng : ∀ s, s ∈ p.from_ → 0 ≤ s ∧ s < n
  len : p.args.length = p.from_.length
def endsK (n : Int) (x : KBlk) : Prop :=
  (x.e = 0 ∧ (0 ≤ x.a ∧ x.a < n) ∧ x.v = 0 ∧ x.b = 0) ∨ (x.e = 1 ∧ (0 ≤ x.a ∧ x.a < n) ∧ (0 ≤ x.b ∧ x.b < n) ∧ x.a ≠ x.b) ∨ (x.e = 2 ∧ x.a = 0 ∧ x.b = 0) ∨ (x.e = 3 ∧ codeQ x.a ∧ x.v = 0 ∧ x.b = 0)
theorem numL_live {gl : List Bool} (h : ∀ b, b ∈ gl → b = false) {i : Nat} (hi : i < gl.length) : (numL gl).getD i 0 = (i : Int) := by
  unfold numL
  have h1 : gl.getD i true = false := by
    rw [List.getD_eq_getElem?_getD, List.getElem?_eq_getElem hi]
    exact h _ (List.getElem_mem hi)
  rw [numT_get hi, if_pos ⟨hi, h1⟩]
  have : cntL gl i = i := by
    unfold cntL
    rw [List.filter_eq_self.2 (fun b hb => by rw [h b (List.mem_of_mem_take hb)]; rfl), List.length_take]
    omega
  rw [this]
theorem map_getD (l : List Int) : (List.range l.length).map (fun i => l.getD i 0) = l := by
  refine List.ext_getElem? fun i => ?_
  by_cases hi : i < l.length
  · simp [hi]
  · simp [hi]
theorem to_same {ks : List KBlk} {fs : List FBlk} (hg : ∀ x, x ∈ ks → x.gone = false) (he : ∀ x, x ∈ ks → endsK (ks.length : Int) x) (hp : ∀ x, x ∈ ks → ∀ p, p ∈ x.phis → PhiUp (ks.length : Int) p) (h : ToQ ks fs) : fs.map FBlk.e0 = ks.map KBlk.f := by
  have hl : liveK ks = ks := List.filter_eq_self.2 fun x hx => by rw [hg x hx]; rfl
  unfold ToQ at h
  rw [hl] at h
  obtain ⟨hlen, h⟩ := h
  have hgl : ∀ b, b ∈ goneL ks → b = false := by
    intro b hb
    obtain ⟨x, hx, rfl⟩ := List.mem_map.1 hb
    exact hg x hx
  have hnum : ∀ a : Int, 0 ≤ a → a < (ks.length : Int) → (numL (goneL ks)).getD a.toNat 0 = a := by
    intro a h0 h1
    rw [numL_live hgl (by rw [goneL_len]; omega)]
    omega
  refine List.ext_getElem? fun i => ?_
  rw [List.getElem?_map, List.getElem?_map]
  by_cases hi : i < ks.length
  · obtain ⟨x, hx⟩ := get_of (l := ks) hi
    obtain ⟨y, hy⟩ := get_of (l := fs) (i := i) (by omega)
    have hxm := List.mem_of_getElem? hx
    have hb := h i x y hx hy
    rw [hx, hy, Option.map_some, Option.map_some]
    congr 1
    unfold FBlk.e0 KBlk.f
    have h1 : y.phis.map FPhi.e0 = x.phis.map (fun p => (⟨p.dst, none, 0, p.args⟩ : FPhi)) := by
      obtain ⟨hpl, hpp⟩ := hb.phis
      refine List.ext_getElem? fun j => ?_
      rw [List.getElem?_map, List.getElem?_map]
      by_cases hj : j < x.phis.length
      · obtain ⟨p, hpj⟩ := get_of (l := x.phis) hj
        obtain ⟨q, hqj⟩ := get_of (l := y.phis) (i := j) (by omega)
        obtain ⟨hd, il, hs, ha⟩ := hpp j p q hpj hqj
        have hu := hp x hxm p (List.mem_of_getElem? hpj)
        have hk : ∀ i, i < p.from_.length → keyI (numL (goneL ks)) p.from_ i = p.from_.getD i 0 := by
          intro i hi
          unfold keyI
          have hm : p.from_.getD i 0 ∈ p.from_ := by
            rw [List.getD_eq_getElem?_getD, List.getElem?_eq_getElem hi]; exact List.getElem_mem hi
          obtain ⟨h0, h1⟩ := hu.rng _ hm
          exact hnum _ h0 h1
        have := hs.rising (fun a b hab hb => by
          rw [hk a (by omega), hk b hb]
          have := List.pairwise_iff_getElem.1 hu.up a b (by omega) hb hab
          rw [List.getD_eq_getElem?_getD, List.getD_eq_getElem?_getD, List.getElem?_eq_getElem hb, List.getElem?_eq_getElem (show a < p.from_.length by omega)]
          exact this)
        rw [this, ← hu.len, map_getD] at ha
        rw [hpj, hqj, Option.map_some, Option.map_some]
        unfold FPhi.e0
        rw [hd, ha]
      · rw [List.getElem?_eq_none (by omega), List.getElem?_eq_none (by omega)]
        rfl
    have ha : y.a = x.a ∧ y.b = x.b := by
      rw [hb.a, hb.b]
      unfold toA toBb
      rcases he x hxm with ⟨e, ⟨h1, h2⟩, h3, h4⟩ | ⟨e, ⟨h1, h2⟩, ⟨h3, h4⟩, _⟩ | ⟨e, h1, h2⟩ | ⟨e, h1, h2, h3⟩
      · rw [if_pos (.inl e), if_neg (by omega), hnum _ h1 h2, h4]; exact ⟨rfl, rfl⟩
      · rw [if_pos (.inr e), if_pos e, hnum _ h1 h2, hnum _ h3 h4]; exact ⟨rfl, rfl⟩
      · rw [if_neg (by omega), if_neg (by omega), if_neg (by omega), h1, h2]; exact ⟨rfl, rfl⟩
      · rw [if_neg (by omega), if_pos e, if_neg (by omega), h3]; exact ⟨rfl, rfl⟩
    rw [h1, hb.insts, hb.e, hb.v, ha.1, ha.2]
  · rw [List.getElem?_eq_none (by omega), List.getElem?_eq_none (by omega)]
    rfl
theorem srcs_up (bs : List SB) (b : Int) : (srcs bs b).Pairwise (· < ·) := by
  unfold srcs srcsTo
  rw [List.pairwise_map]
  refine List.Pairwise.filter _ ?_
  refine List.pairwise_lt_range.imp ?_
  intro a b h
  exact Int.ofNat_lt.2 h
section
variable {nm : ByteArray} {pa va : Int} {fs : List FBlk} {n : Nat}
theorem good_src (h : GoodQ nm pa va fs) {k : Nat} (hk : k < fs.length) (h0 : k ≠ 0) : 0 < (srcs (bsOf fs) (k : Int)).length := by
  have hr : Reach (tg (bsOf fs)) (k : Int) := by
    have h1 := all_walk (bs := bsOf fs)
    rw [bsOf_len] at h1
    exact walk_reach.1 (h1.1 h.all k hk)
  have : ∀ x : Int, Reach (tg (bsOf fs)) x → x ≠ 0 → ∃ s, s ∈ srcs (bsOf fs) x := by
    intro x hx hne
    cases hx with
    | zero => exact absurd rfl hne
    | step hs ht =>
      rename_i s
      refine ⟨s, mem_srcs.2 ⟨?_, ht⟩⟩
      exact reach_rng (by rw [bsOf_len]; exact h.pos) hs
  obtain ⟨s, hs⟩ := this _ hr (by omega)
  exact List.length_pos_of_mem hs
theorem good_sm (hv : validN nm pa va fs = 0) (hN : fs.length ≤ 1000) : FSm fs := by
  obtain ⟨h, _, hsz⟩ := valid_good hv
  have hp : ∀ (k : Nat) (x : FBlk), fs[k]? = some x → x.phis.length + x.insts.length ≤ sizeF fs := by
    intro k x hx
    have hm : x.phis.length + x.insts.length ∈ (fs.take fs.length).map (fun x => x.phis.length + x.insts.length) := by
      rw [List.take_of_length_le (Nat.le_refl _)]
      exact List.mem_map.2 ⟨x, List.mem_of_getElem? hx, rfl⟩
    have : ∀ l : List Nat, ∀ a, a ∈ l → a ≤ l.sum := by
      intro l
      induction l with
      | nil => intro a ha; cases ha
      | cons b l ih =>
        intro a ha
        rcases List.mem_cons.1 ha with rfl | ha
        · simp
        · have := ih a ha; simp; omega
    have := this _ _ hm
    unfold sizeF sizeTo
    omega
  have key : ∀ x, x ∈ fs → ∃ k : Nat, fs[k]? = some x := fun x hx => List.mem_iff_getElem?.1 hx
  refine ⟨fun x hx => ?_, fun x hx => ?_, fun x hx p hpm => ?_, fun x hx i hi => ?_⟩
  · obtain ⟨k, hk⟩ := key x hx; have := hp k x hk; omega
  · obtain ⟨k, hk⟩ := key x hx; have := hp k x hk; omega
  · obtain ⟨k, hk⟩ := key x hx
    obtain ⟨y, hy, hr⟩ := h.reads k (List.getElem?_eq_some_iff.1 hk).1
    rw [hk] at hy; injection hy with hy; subst hy
    obtain ⟨j, hj⟩ := List.mem_iff_getElem?.1 hpm
    rw [(hr.phis j p hj).1]
    have : (srcs (bsOf fs) (k : Int)).length ≤ (bsOf fs).length := srcsTo_len _ _ _
    rw [bsOf_len] at this
    omega
  · have := (h.vals.1 x hx i hi).2
    omega
structure GIn (n N : Nat) (x : GBlk) : Prop where
  lp : x.phis.length ≤ 20000
  li : x.insts.length ≤ 20000
  gone : x.gone = false
  phis : ∀ p, p ∈ x.phis → (0 ≤ p.dst ∧ p.dst < (n : Int)) ∧ p.args.length ≤ 20000 ∧ (∀ a, a ∈ p.args → 0 ≤ a ∧ a < (n : Int)) ∧ 0 < p.from_.length ∧ p.from_.length ≤ 20000 ∧ PhiUp (N : Int) p.k
  insts : ∀ i, i ∈ x.insts → (pureQ i.op → 0 ≤ i.dst ∧ i.dst < (n : Int)) ∧ i.args.length ≤ 20000 ∧ ∀ a, a ∈ i.args → 0 ≤ a ∧ a < (n : Int)
  ends : endsK (N : Int) x.k
  fin : (x.e = 1 ∨ x.e = 2) → -1 ≤ x.v ∧ x.v < (n : Int)
theorem good_gin {gs : List GBlk} (hv : validN nm pa va fs = 0) (hN : fs.length ≤ 1000) (hva : va = (n : Int)) (hg : gs.map GBlk.k = fromK fs) : ∀ x, x ∈ gs → GIn n gs.length x := by
  obtain ⟨h, _, hsz⟩ := valid_good hv
  have hsm := good_sm hv hN
  have hvr := good_vr h hva
  have hl : gs.length = fs.length := by have := congrArg List.length hg; rwa [List.length_map, fromK_len] at this
  intro y hy
  obtain ⟨k, hk⟩ := List.mem_iff_getElem?.1 hy
  have hkl := (List.getElem?_eq_some_iff.1 hk).1
  obtain ⟨x, hx⟩ := get_of (l := fs) (i := k) (by omega)
  have hxm := List.mem_of_getElem? hx
  have h1 := congrArg (fun l : List KBlk => l[k]?) hg
  simp only [List.getElem?_map, hk, Option.map_some, fromK_get hx] at h1
  injection h1 with h1
  have e1 : y.phis.map GPhi.k = x.phis.map (fromP (srcs (bsOf fs) (k : Int))) := congrArg KBlk.phis h1
  have e2 : y.insts.map FIns.e0 = x.insts.map FIns.e0 := congrArg KBlk.insts h1
  have e3 : y.e = x.e := congrArg KBlk.e h1
  have e4 : y.v = x.v := congrArg KBlk.v h1
  have e5 : y.a = x.a := congrArg KBlk.a h1
  have e6 : y.b = x.b := congrArg KBlk.b h1
  have e7 : y.gone = false := congrArg KBlk.gone h1
  obtain ⟨z, hz, hr⟩ := h.reads k (by omega)
  rw [hx] at hz; injection hz with hz; subst hz
  have hv1 := hvr x hxm
  have hsl : (srcs (bsOf fs) (k : Int)).length ≤ fs.length := by
    have : (srcs (bsOf fs) (k : Int)).length ≤ (bsOf fs).length := srcsTo_len _ _ _
    rwa [bsOf_len] at this
  refine ⟨by rw [map_len' e1]; exact hsm.lp x hxm, by rw [map_len e2]; exact hsm.li x hxm, e7, fun p hp => ?_, fun i hi => ?_, ?_, fun hf => ?_⟩
  · obtain ⟨j, hj⟩ := List.mem_iff_getElem?.1 hp
    have h2 := congrArg (fun l : List KPhi => l[j]?) e1
    simp only [List.getElem?_map, hj, Option.map_some] at h2
    obtain ⟨q, hq⟩ : ∃ q, x.phis[j]? = some q := get_of (by rw [← map_len' e1]; exact (List.getElem?_eq_some_iff.1 hj).1)
    rw [hq, Option.map_some] at h2
    injection h2 with h2
    have d1 : p.dst = q.dst := congrArg KPhi.dst h2
    have d2 : p.from_ = srcs (bsOf fs) (k : Int) := congrArg KPhi.from_ h2
    have d3 : p.args = q.args := congrArg KPhi.args h2
    obtain ⟨h3, h4⟩ := hr.phis j q hq
    have hk0 : k ≠ 0 := by
      rintro rfl
      have := h.phis x hx
      have := (List.getElem?_eq_some_iff.1 hq).1
      omega
    have hs0 := good_src h (k := k) (by omega) hk0
    refine ⟨by rw [d1]; exact hv1.phis q (List.mem_of_getElem? hq), by rw [d3, h3]; omega, fun a ha => ?_, by rw [d2]; exact hs0, by rw [d2]; omega, ⟨by show p.from_.Pairwise _; rw [d2]; exact srcs_up _ _, fun s hs => ?_, by show p.args.length = p.from_.length; rw [d3, d2, h3]⟩⟩
    · rw [d3] at ha
      obtain ⟨i, hi⟩ := List.mem_iff_getElem?.1 ha
      obtain ⟨s, hs⟩ : ∃ s, (srcs (bsOf fs) (k : Int))[i]? = some s := get_of (by rw [← h3]; exact (List.getElem?_eq_some_iff.1 hi).1)
      have ht := h4 i a s hi hs
      exact ⟨ht.1, by rw [← hva]; exact ht.2.1⟩
    · have hs' : s ∈ p.from_ := hs
      rw [d2] at hs'
      have := srcs_mem hs'
      rw [bsOf_len] at this
      rw [hl]; exact this
  · obtain ⟨j, hj⟩ := List.mem_iff_getElem?.1 hi
    have h2 := congrArg (fun l : List FIns => l[j]?) e2
    simp only [List.getElem?_map, hj, Option.map_some] at h2
    obtain ⟨q, hq⟩ : ∃ q, x.insts[j]? = some q := get_of (by rw [← map_len e2]; exact (List.getElem?_eq_some_iff.1 hj).1)
    rw [hq, Option.map_some] at h2
    injection h2 with h2
    have d1 : i.op = q.op := show i.e0.op = q.e0.op by rw [h2]
    have d2 : i.dst = q.dst := show i.e0.dst = q.e0.dst by rw [h2]
    have d3 : i.args = q.args := show i.e0.args = q.e0.args by rw [h2]
    have hqm := List.mem_of_getElem? hq
    obtain ⟨h5, h6, h7⟩ := hv1.insts q hqm
    refine ⟨fun hp => ?_, by rw [d3]; exact hsm.ai x hxm q hqm, by rw [d3]; exact h7⟩
    rw [d1] at hp
    have := h.vals.2.1 _ (defs_ins hx hq (pure_makes hp))
    have hpar := h.par
    simp only at this
    rw [d2]
    omega
  · have := h.ends x hxm
    unfold endsQ at this
    unfold endsK
    show (y.e = 0 ∧ (0 ≤ y.a ∧ y.a < _) ∧ y.v = 0 ∧ y.b = 0) ∨ (y.e = 1 ∧ (0 ≤ y.a ∧ y.a < _) ∧ (0 ≤ y.b ∧ y.b < _) ∧ y.a ≠ y.b) ∨ (y.e = 2 ∧ y.a = 0 ∧ y.b = 0) ∨ (y.e = 3 ∧ codeQ y.a ∧ y.v = 0 ∧ y.b = 0)
    rw [e3, e4, e5, e6, hl]
    exact this
  · rw [e3] at hf
    rw [e4]
    by_cases hv2 : finR x
    · have ht := hr.fin hv2
      have := ht.1
      have := ht.2.1
      omega
    · unfold finR at hv2
      omega
end
def delG (rl : List Bool) (x : GBlk) : GBlk := { x with phis := x.phis.filter (fun p => !delP rl p), insts := x.insts.filter (fun i => !delI rl i) }
def Marks (gs : List GBlk) (rl : List Bool) : Prop := ∀ v : Int, 0 ≤ v → (rl.getD v.toNat false = true ↔ Rd (gs.map GBlk.f) v)
section
variable {fs : List FBlk} {gs : List GBlk} {n : Nat} {rl : List Bool}
theorem del_f (hm : Marks gs rl) (hg : ∀ x, x ∈ gs → GIn n gs.length x) {x : GBlk} (hx : x ∈ gs) : (delG rl x).k.f = deadB (gs.map GBlk.f) x.f := by
  have hi := hg x hx
  unfold delG GBlk.k KBlk.f deadB GBlk.f
  simp only [FBlk.mk.injEq, true_and, and_true]
  refine ⟨?_, ?_⟩
  · rw [List.filter_map, List.map_map]
    have : ((fun p : KPhi => (⟨p.dst, none, 0, p.args⟩ : FPhi)) ∘ GPhi.k) = GPhi.f := rfl
    rw [this]
    congr 1
    refine List.filter_congr fun p hp => ?_
    have h0 := (hi.phis p hp).1.1
    unfold delP keepP
    simp only [Bool.not_not, Function.comp_apply]
    show rl.getD p.dst.toNat false = decide (Rd (gs.map GBlk.f) p.dst)
    rw [Bool.eq_iff_iff, decide_eq_true_eq]
    exact hm _ h0
  · rw [List.filter_map]
    congr 1
    refine List.filter_congr fun i hi' => ?_
    have h0 := (hi.insts i hi').1
    unfold delI keepI
    show (!(decide (pureQ i.op) && !(rl.getD i.dst.toNat false))) = decide (¬ (pureQ i.op ∧ ¬ Rd (gs.map GBlk.f) i.dst))
    by_cases hp : pureQ i.op
    · have := hm _ (h0 hp).1
      rw [decide_eq_true hp, Bool.true_and, Bool.not_not, Bool.eq_iff_iff, decide_eq_true_eq, this]
      simp [hp]
    · simp [hp]
theorem dead_to {fd : List FBlk} (hv : gs.map GBlk.k = fromK fs) (hm : Marks gs rl) (hg : ∀ x, x ∈ gs → GIn n gs.length x) (h : ToQ (gs.map (fun x => (delG rl x).k)) fd) : AlikeF fd (deadF fs) := by
  have h1 := to_same (ks := gs.map (fun x => (delG rl x).k)) (fun y hy => by
      obtain ⟨x, hx, rfl⟩ := List.mem_map.1 hy
      exact (hg x hx).gone) (fun y hy => by
      obtain ⟨x, hx, rfl⟩ := List.mem_map.1 hy
      rw [List.length_map]
      exact (hg x hx).ends) (fun y hy p hp => by
      obtain ⟨x, hx, rfl⟩ := List.mem_map.1 hy
      obtain ⟨q, hq, rfl⟩ := List.mem_map.1 hp
      rw [List.length_map]
      exact ((hg x hx).phis q (List.mem_filter.1 hq).1).2.2.2.2.2) h
  have h2 : (gs.map (fun x => (delG rl x).k)).map KBlk.f = deadF (gs.map GBlk.f) := by
    unfold deadF
    rw [List.map_map, List.map_map]
    exact List.map_congr_left fun x hx => del_f hm hg hx
  rw [h2] at h1
  have h3 := dead_alike (fz_alike hv)
  unfold AlikeF at h3 ⊢
  rw [h3, ← h1, List.map_map]
  exact List.map_congr_left fun x _ => (show x.e0 = x.e0.e0 by unfold FBlk.e0; simp only [List.map_map]; rfl)
theorem del_ok (hN : gs.length ≤ 1000) (hg : ∀ x, x ∈ gs → GIn n gs.length x) : ∀ y, y ∈ gs.map (fun x => (delG rl x).k) → ToOk (gs.length : Int) y := by
  intro y hy
  obtain ⟨x, hx, rfl⟩ := List.mem_map.1 hy
  have hi := hg x hx
  refine ⟨?_, fun p hp => ?_, fun he => ?_, fun he => ?_⟩
  · show ((x.phis.filter _).map GPhi.k).length ≤ 20000
    rw [List.length_map]
    exact Nat.le_trans (List.length_filter_le _ _) hi.lp
  · obtain ⟨q, hq, rfl⟩ := List.mem_map.1 hp
    obtain ⟨_, _, _, h4, h5, h6⟩ := hi.phis q (List.mem_filter.1 hq).1
    exact ⟨h4, h5, h6.len, h6.rng⟩
  · rcases hi.ends with h | h | h | h
    · exact h.2.1
    · have : x.e = 1 := h.1; have : x.e = 0 := he; omega
    · have : x.e = 2 := h.1; have : x.e = 0 := he; omega
    · have : x.e = 3 := h.1; have : x.e = 0 := he; omega
  · rcases hi.ends with h | h | h | h
    · have : x.e = 0 := h.1; have : x.e = 1 := he; omega
    · exact ⟨h.2.1, h.2.2.1⟩
    · have : x.e = 2 := h.1; have : x.e = 1 := he; omega
    · have : x.e = 3 := h.1; have : x.e = 1 := he; omega
end
end Go.Mor
namespace Go.Mor
open Go.RowKit
section
variable {S : Nat → Prop} {w : World} {gs : List GBlk} {x : GBlk}
theorem RO.gbk (h : RO S w (.pk (gs.map gB))) (hx : x ∈ gs) {r : Res} (hr : r ∈ gL x) : RO S w r := (h.pk_sub (List.mem_map.2 ⟨x, hx, rfl⟩) : RO S w (gB x)).pk_sub hr
theorem RO.gphi (h : RO S w (.pk (gs.map gB))) (hx : x ∈ gs) {p : GPhi} (hp : p ∈ x.phis) : RO S w (.rd p.aA (ints p.args)) :=
  RO.row_rd ((h.gbk hx (r := .pk (x.phis.map argG)) (by simp)).pk_sub (List.mem_map.2 ⟨p, hp, rfl⟩) : RO S w (argG p))
theorem RO.gins (h : RO S w (.pk (gs.map gB))) (hx : x ∈ gs) {i : FIns} (hi : i ∈ x.insts) : RO S w (.rd i.A (ints i.args)) :=
  RO.row_rd ((h.gbk hx (r := .pk (x.insts.map argI)) (by simp)).pk_sub (List.mem_map.2 ⟨i, hi, rfl⟩) : RO S w (argI i))
theorem RO.garg (h : RO S w (.pk (gs.map gB))) {v : Int} {e : FrE} (he : GArg gs v e) : RO S w (.rd e.1 (ints e.2.2)) := by
  cases he with
  | @phi x p hx hp _ => exact h.gphi hx hp
  | @inst x i hx hi _ _ => exact h.gins hx hi
end
theorem frC_set (fc : List FrE) (i : Nat) (e : FrE) : frC (fc.set i e) = (frC fc).set i (frV e) := by simp [frC, List.map_set]
theorem frC_zero (n : Nat) : frC (List.replicate n (none, 0, [])) = List.replicate n (.slice none 0 0) := by simp [frC, frV]
theorem frC_at {fc : List FrE} {i : Nat} {e : FrE} (h : fc[i]? = some e) : (frC fc)[i]? = some (frV e) := by simp [frC, h]
theorem readsS_mono : ∀ (l : List Int) (s : List Bool × List Int), s.2.length ≤ (readsS l s).2.length
  | [], s => Nat.le_refl _
  | v :: l, s => by
    rw [readsS]
    split
    · have := readsS_mono l (s.1.set v.toNat true, s.2 ++ [v])
      simp only [List.length_append, List.length_singleton] at this
      omega
    · exact readsS_mono l s
def AllOn (n : Nat) (rl : List Bool) (ls : List Int) : Prop := ∀ i : Nat, i < n → rl.getD i false = true → (i : Int) ∈ ls
section
variable {gs : List GBlk} {n : Nat} {fc : List FrE} {rl : List Bool} {ls l : List Int}
theorem AllOn.start (n : Nat) : AllOn n (List.replicate n false) [] := fun i hi h => by simp [List.getD, hi] at h
theorem AllOn.reads (h : AllOn n rl ls) (hn : rl.length = n) (hl : ∀ v, v ∈ l → v < (n : Int)) : AllOn n (readsS l (rl, ls)).1 (readsS l (rl, ls)).2 := by
  obtain ⟨_, q2, q3⟩ := readsS_list l (rl, ls) (fun v hv => by show v < (rl.length : Int); rw [hn]; exact hl v hv)
  intro i hi hm
  rcases q3 i (by show i < rl.length; omega) hm with h1 | h1
  · exact q2 _ (h i hi h1)
  · exact h1
theorem Wk.begin (h : Wk gs n [] rl ls) (ha : AllOn n rl ls) : Wk gs n fc rl ls := ⟨h.len, h.rd, h.lst, h.cnt, fun i hi hm => .inl (ha i hi hm)⟩
theorem marks_new (h : rl.length = n) (hl : ∀ v, v ∈ l → v < (n : Int)) {v : Int} (hv : v ∈ l) (h0 : 0 ≤ v) : (readsS l (rl, ls)).1.getD v.toNat false = true :=
  (readsS_get l (rl, ls) v.toNat (fun v hv => by show v < (rl.length : Int); rw [h]; exact hl v hv) (by show v.toNat < rl.length; have := hl v hv; omega)).2 (.inr (by rw [Int.toNat_of_nonneg h0]; exact hv))
theorem marks_keep (h : rl.length = n) (hl : ∀ v, v ∈ l → v < (n : Int)) {v : Int} (hm : rl.getD v.toNat false = true) : (readsS l (rl, ls)).1.getD v.toNat false = true := by
  by_cases hn : v.toNat < n
  · exact reads_more h hl hn hm
  · rw [List.getD_eq_getElem?_getD, List.getElem?_eq_none (by rw [h]; omega)] at hm
    cases hm
def RootQ (rl : List Bool) (x : GBlk) (m : Nat) : Prop := ∀ (j : Nat) (i : FIns), j < m → x.insts[j]? = some i → ¬ pureQ i.op → ∀ v, v ∈ i.args → 0 ≤ v → rl.getD v.toNat false = true
def RootA (rl : List Bool) (x : GBlk) : Prop := RootQ rl x x.insts.length ∧ ((x.e = 1 ∨ x.e = 2) → 0 ≤ x.v → rl.getD x.v.toNat false = true)
theorem RootQ.keep {x : GBlk} {m : Nat} (hq : RootQ rl x m) (h : rl.length = n) (hl : ∀ v, v ∈ l → v < (n : Int)) : RootQ (readsS l (rl, ls)).1 x m :=
  fun j i hj hi hp v hv h0 => marks_keep h hl (hq j i hj hi hp v hv h0)
theorem RootA.keep {x : GBlk} (hq : RootA rl x) (h : rl.length = n) (hl : ∀ v, v ∈ l → v < (n : Int)) : RootA (readsS l (rl, ls)).1 x :=
  ⟨hq.1.keep h hl, fun he h0 => marks_keep h hl (hq.2 he h0)⟩
theorem RootQ.pure {x : GBlk} {m : Nat} {i : FIns} (hq : RootQ rl x m) (hi : x.insts[m]? = some i) (hp : pureQ i.op) : RootQ rl x (m + 1) := by
  intro j i' hj hi' hn
  rcases Nat.lt_or_ge j m with h | h
  · exact hq j i' h hi' hn
  · have : j = m := by omega
    subst this
    rw [hi] at hi'; injection hi' with hi'; subst hi'
    exact absurd hp hn
theorem RootQ.read {x : GBlk} {m : Nat} {i : FIns} (hq : RootQ rl x m) (hi : x.insts[m]? = some i) (h : rl.length = n) (hl : ∀ v, v ∈ i.args → v < (n : Int)) : RootQ (readsS i.args (rl, ls)).1 x (m + 1) := by
  intro j i' hj hi' hn v hv h0
  rcases Nat.lt_or_ge j m with h1 | h1
  · exact marks_keep h hl (hq j i' h1 hi' hn v hv h0)
  · have : j = m := by omega
    subst this
    rw [hi] at hi'; injection hi' with hi'; subst hi'
    exact marks_new h hl hv h0
def DefQ (gs : List GBlk) (fc : List FrE) (x : GBlk) (j m : Nat) : Prop := (∀ (i : Nat) (p : GPhi), i < j → x.phis[i]? = some p → FrD gs fc p.dst) ∧ ∀ (k : Nat) (i : FIns), k < m → x.insts[k]? = some i → pureQ i.op → FrD gs fc i.dst
def NonNegD (x : GBlk) : Prop := (∀ p, p ∈ x.phis → 0 ≤ p.dst) ∧ ∀ i, i ∈ x.insts → pureQ i.op → 0 ≤ i.dst
theorem DefQ.set {x : GBlk} {j m : Nat} {v : Int} {e : FrE} (h : DefQ gs fc x j m) (hx : NonNegD x) (h0 : 0 ≤ v) (hg : GArg gs v e) : DefQ gs (fc.set v.toNat e) x j m :=
  ⟨fun i p hi hp => (h.1 i p hi hp).set h0 (hx.1 p (List.mem_of_getElem? hp)) hg, fun k i hk hi hp => (h.2 k i hk hi hp).set h0 (hx.2 i (List.mem_of_getElem? hi) hp) hg⟩
theorem DefQ.phi {x : GBlk} {j m : Nat} {p : GPhi} (h : DefQ gs fc x j m) (hx : NonNegD x) (hg : x ∈ gs) (hp : x.phis[j]? = some p) (hl : p.dst.toNat < fc.length) : DefQ gs (fc.set p.dst.toNat (p.aA, p.ac, p.args)) x (j + 1) m := by
  have hpm := List.mem_of_getElem? hp
  have ha : GArg gs p.dst (p.aA, p.ac, p.args) := .phi hg hpm rfl
  have h0 := hx.1 p hpm
  refine ⟨fun i q hi hq => ?_, (h.set hx h0 ha).2⟩
  rcases Nat.lt_or_ge i j with h1 | h1
  · exact (h.set hx h0 ha).1 i q h1 hq
  · have : i = j := by omega
    subst this
    rw [hp] at hq; injection hq with hq; subst hq
    exact .new hl ha
theorem DefQ.ins {x : GBlk} {j m : Nat} {i : FIns} (h : DefQ gs fc x j m) (hx : NonNegD x) (hg : x ∈ gs) (hi : x.insts[m]? = some i) (hp : pureQ i.op) (hl : i.dst.toNat < fc.length) : DefQ gs (fc.set i.dst.toNat (i.A, i.c, i.args)) x j (m + 1) := by
  have him := List.mem_of_getElem? hi
  have ha : GArg gs i.dst (i.A, i.c, i.args) := .inst hg him hp rfl
  have h0 := hx.2 i him hp
  refine ⟨(h.set hx h0 ha).1, fun k q hk hq hpq => ?_⟩
  rcases Nat.lt_or_ge k m with h1 | h1
  · exact (h.set hx h0 ha).2 k q h1 hq hpq
  · have : k = m := by omega
    subst this
    rw [hi] at hq; injection hq with hq; subst hq
    exact .new hl ha
theorem DefQ.not {x : GBlk} {j m : Nat} {i : FIns} (h : DefQ gs fc x j m) (hi : x.insts[m]? = some i) (hp : ¬ pureQ i.op) : DefQ gs fc x j (m + 1) := by
  refine ⟨h.1, fun k q hk hq hpq => ?_⟩
  rcases Nat.lt_or_ge k m with h1 | h1
  · exact h.2 k q h1 hq hpq
  · have : k = m := by omega
    subst this
    rw [hi] at hq; injection hq with hq; subst hq
    exact absurd hpq hp
theorem all_done {gs : List GBlk} {k : Nat} {x : GBlk} {P : GBlk → Prop} (h : ∀ (i : Nat) (y : GBlk), i < k → gs[i]? = some y → P y) (hx : gs[k]? = some x) (hp : P x) : ∀ (i : Nat) (y : GBlk), i < k + 1 → gs[i]? = some y → P y := by
  intro i y hi hy
  rcases Nat.lt_or_ge i k with h1 | h1
  · exact h i y h1 hy
  · have : i = k := by omega
    subst this
    rw [hx] at hy; injection hy with hy; subst hy
    exact hp
theorem all_all {gs : List GBlk} {k : Nat} {P : GBlk → Prop} (h : ∀ (i : Nat) (y : GBlk), i < k → gs[i]? = some y → P y) (hk : gs.length ≤ k) : ∀ y, y ∈ gs → P y := by
  intro y hy
  obtain ⟨i, hi⟩ := List.mem_iff_getElem?.1 hy
  exact h i y (by have := (List.getElem?_eq_some_iff.1 hi).1; omega) hi
end
theorem take_map_snoc {α β : Type} {f : α → β} {g : α → β} {d l : List α} {k : Nat} {x y : α} (h : d.map f = (l.take k).map g) (hx : l[k]? = some x) (hy : f y = g x) : (d ++ [y]).map f = (l.take (k + 1)).map g := by
  obtain ⟨hk, he⟩ := List.getElem?_eq_some_iff.1 hx
  rw [List.map_append, h, List.take_succ_eq_append_getElem hk, List.map_append, he]
  simp [hy]
theorem ptR_same {hd gs : List GBlk} (h : hd.map (·.g) = gs.map (·.g)) (A : Option Addr) (c : Nat) : ptR A c hd = ptR A c gs := by
  have hl : hd.length = gs.length := by have := congrArg List.length h; simpa using this
  have e : ∀ l : List GBlk, ptrs l = (l.map (·.g)).map (fun g => Value.pointer (some ⟨g, 0, none⟩)) := fun l => by unfold ptrs; rw [List.map_map]; rfl
  unfold ptR
  rw [hl, e, e, h]
theorem rd_lt {gs : List GBlk} {n : Nat} (hg : ∀ x, x ∈ gs → GIn n gs.length x) {v : Int} (h : Rd (gs.map GBlk.f) v) : v < (n : Int) := by
  cases h with
  | @inst x i v hx hi hp hv h0 =>
    obtain ⟨y, hy, rfl⟩ := List.mem_map.1 hx
    obtain ⟨j, hj, rfl⟩ := List.mem_map.1 hi
    exact (((hg y hy).insts j hj).2.2 v hv).2
  | @fin x hx he h0 =>
    obtain ⟨y, hy, rfl⟩ := List.mem_map.1 hx
    exact ((hg y hy).fin he).2
  | @phi x p v hx hi hrd hv h0 =>
    obtain ⟨y, hy, rfl⟩ := List.mem_map.1 hx
    obtain ⟨j, hj, rfl⟩ := List.mem_map.1 hi
    exact (((hg y hy).phis j hj).2.2.1 v hv).2
  | @pure x i v hx hi hp hrd hv h0 =>
    obtain ⟨y, hy, rfl⟩ := List.mem_map.1 hx
    obtain ⟨j, hj, rfl⟩ := List.mem_map.1 hi
    exact (((hg y hy).insts j hj).2.2 v hv).2
theorem marks_all {gs : List GBlk} {nm : ByteArray} {pa va : Int} {n : Nat} {fc : List FrE} {rl : List Bool} (hw : Wk gs n fc rl []) (hg : GoodQ nm pa va (gs.map GBlk.f)) (hlt : ∀ v, Rd (gs.map GBlk.f) v → v < (n : Int))
    (hd : ∀ y, y ∈ gs → DefQ gs fc y y.phis.length y.insts.length) (hr : ∀ y, y ∈ gs → RootA rl y) : Marks gs rl := by
  intro v hv0
  refine hw.done hg.par.1 hg.vals.2 hlt (fun x hx => ⟨fun p hp => ?_, fun i hi hpu => ?_⟩) (fun x hx => ⟨fun i hi hpu v hv h0 => ?_, (hr x hx).2⟩) hv0
  · obtain ⟨j, hj⟩ := List.mem_iff_getElem?.1 hp
    exact (hd x hx).1 j p (List.getElem?_eq_some_iff.1 hj).1 hj
  · obtain ⟨j, hj⟩ := List.mem_iff_getElem?.1 hi
    exact (hd x hx).2 j i (List.getElem?_eq_some_iff.1 hj).1 hj hpu
  · obtain ⟨j, hj⟩ := List.mem_iff_getElem?.1 hi
    exact (hr x hx).1 j i (List.getElem?_eq_some_iff.1 hj).1 hj hpu v hv h0
theorem bools_rep (n : Nat) : bools (List.replicate n false) = List.replicate n (.bool false) := by simp [bools]
theorem snoc_of {α : Type} {l : List α} (h : 0 < l.length) : ∃ m x, l = m ++ [x] := by
  refine ⟨l.dropLast, l.getLast (by intro e; rw [e] at h; simp at h), ?_⟩
  exact (List.dropLast_concat_getLast _).symm
theorem rd_int_at {w : World} {ad : Addr} {l : List Int} {i : Nat} {v : Int} (h : (Res.rd (some ad) (ints l)).holds w) (hi : l[i]? = some v) : w.cell? (ad.add (((i : Nat) : Int).toNat * 1)) = some (.int .i64 v) := by
  rw [Int.toNat_natCast]
  exact rd_at h rfl hi
theorem ints_take_snoc (l : List Int) (v : Int) : (ints (l ++ [v])).take l.length = ints l := by
  unfold ints
  rw [List.map_append, List.take_append_of_le_length (by simp), List.take_of_length_le (by simp)]
end Go.Mor
namespace Go.Mor
open Go.RowKit
def thereB (bs : List SB) (pa va : Int) (ds : Dfs) (v b q : Int) : Bool := decide (0 ≤ v) && decide (v < va) && (decide (v < pa) || match findD ds v with
  | some p => if p.1 = b then decide (p.2 < q) else at2 (overL bs) p.1.toNat b.toNat
  | none => false)
theorem there_of {bs : List SB} {pa va : Int} {ds : Dfs} {v b q : Int} (h : thereB bs pa va ds v b q = true) : thereQ (overD bs) pa va ds v b q := by
  unfold thereB at h
  simp only [Bool.and_eq_true, Bool.or_eq_true, decide_eq_true_eq] at h
  obtain ⟨⟨h1, h2⟩, h3⟩ := h
  refine ⟨h1, h2, h3.imp id fun h3 => ?_⟩
  split at h3
  · rename_i p hp
    refine ⟨p, hp, ?_⟩
    split at h3
    · rename_i e
      exact .inl ⟨e, by simpa using h3⟩
    · rename_i e
      exact .inr ⟨e, h3⟩
  · cases h3
def readsB (pa va : Int) (fs : List FBlk) (k : Nat) (x : FBlk) : Bool :=
  (x.phis.all fun p => p.args.length == (srcs (bsOf fs) (k : Int)).length && (p.args.zip (srcs (bsOf fs) (k : Int))).all fun u => thereB (bsOf fs) pa va (defsF fs) u.1 u.2 20000) &&
  (x.insts.zipIdx.all fun p => p.1.args.all fun a => thereB (bsOf fs) pa va (defsF fs) a (k : Int) (p.2 : Int)) &&
  ((!decide (x.e = 1 ∨ (x.e = 2 ∧ x.v ≠ -1))) || thereB (bsOf fs) pa va (defsF fs) x.v (k : Int) 20000)
theorem reads_okB {pa va : Int} {fs : List FBlk} {k : Nat} {x : FBlk} (hx : fs[k]? = some x) (h : readsB pa va fs k x = true) : readsQ (overD (bsOf fs)) (fun _ => 20000) finR pa va fs k := by
  unfold readsB at h
  simp only [Bool.and_eq_true] at h
  obtain ⟨⟨h1, h2⟩, h3⟩ := h
  refine ⟨x, hx, fun j p hp => ?_, fun j p hp i a ha => ?_, fun hf => ?_⟩
  · have := List.all_eq_true.1 h1 p (List.mem_of_getElem? hp)
    simp only [Bool.and_eq_true, beq_iff_eq] at this
    refine ⟨this.1, fun i a s ha hs => ?_⟩
    have hz : (a, s) ∈ p.args.zip (srcs (bsOf fs) (k : Int)) := by
      refine List.mem_of_getElem? (i := i) ?_
      rw [List.getElem?_zip_eq_some]
      exact ⟨ha, hs⟩
    exact there_of (List.all_eq_true.1 this.2 _ hz)
  · have := List.all_eq_true.1 h2 (p, j) (List.mem_zipIdx_iff_getElem?.2 hp)
    exact there_of (List.all_eq_true.1 this a (List.mem_of_getElem? ha))
  · rw [Bool.or_eq_true] at h3
    rcases h3 with h3 | h3
    · simp only [Bool.not_eq_true', decide_eq_false_iff_not] at h3
      exact absurd hf h3
    · exact there_of h3
def goodB (nm : ByteArray) (pa va : Int) (fs : List FBlk) : Bool :=
  decide (nameQ nm) && decide (0 ≤ pa ∧ pa ≤ 16 ∧ pa ≤ va) && decide (0 < fs.length) && (match fs[0]? with | some x => decide (x.phis.length = 0) | none => true) && decide ((srcs (bsOf fs) 0).length = 0) &&
  decide ((orderL (bsOf fs)).length = fs.length) && (fs.all fun x => decide (endsQ (fs.length : Int) x)) && (fs.all fun x => x.insts.all fun p => decide (shapeQ p)) &&
  ((defsF fs).all fun d => decide (pa ≤ d.1) && decide (d.1 < va)) && decide (((defsF fs).map (·.1)).Nodup) && (fs.zipIdx.all fun x => readsB pa va fs x.2 x.1)
theorem good_of {nm : ByteArray} {pa va : Int} {fs : List FBlk} (h : goodB nm pa va fs = true) : GoodQ nm pa va fs := by
  unfold goodB at h
  simp only [Bool.and_eq_true, decide_eq_true_eq, List.all_eq_true] at h
  obtain ⟨⟨⟨⟨⟨⟨⟨⟨⟨⟨h1, h2⟩, h3⟩, h4⟩, h5⟩, h6⟩, h7⟩, h8⟩, h9⟩, h10⟩, h11⟩ := h
  refine ⟨h1, h2, h3, fun x hx => ?_, h5, h6, h7, ⟨h8, h9, h10⟩, fun k hk => ?_⟩
  · rw [hx] at h4
    simpa using h4
  · obtain ⟨x, hx⟩ := get_of hk
    exact (agree_ref h3 h6).readsQ (fun _ _ h => h) (reads_okB hx (h11 (x, k) (List.mem_zipIdx_iff_getElem?.2 hx)))
theorem valid_of {nm : ByteArray} {pa va : Int} {fs : List FBlk} (h : (decide ((sizeF fs : Int) > 20000 ∨ va > 20000) = false) ∧ goodB nm pa va fs = true) : validN nm pa va fs = 0 :=
  (valid_0 (by simpa using h.1) (good_of h.2)).symm
end Go.Mor
namespace Go.Mor
open Go.RowKit
theorem phi_ok_e0 {p : FPhi} : p.e0.Ok ↔ p.Ok := ⟨fun h => ⟨h.dst, h.len, h.args⟩, fun h => ⟨h.dst, h.len, h.args⟩⟩
theorem ins_ok_e0 {p : FIns} : p.e0.Ok ↔ p.Ok := ⟨fun h => ⟨h.op, h.dst, h.n, h.name, h.len, h.args⟩, fun h => ⟨h.op, h.dst, h.n, h.name, h.len, h.args⟩⟩
theorem blk_ok_e0 {x : FBlk} : x.e0.Ok ↔ x.Ok := by
  constructor
  · intro h
    have h1 := h.lp
    have h2 := h.li
    refine ⟨?_, fun p hp => phi_ok_e0.1 (h.phis p.e0 (List.mem_map.2 ⟨p, hp, rfl⟩)), ?_, fun p hp => ins_ok_e0.1 (h.insts p.e0 (List.mem_map.2 ⟨p, hp, rfl⟩)), h.e, h.v, h.a, h.b⟩
    · have : LenOk (x.phis.map FPhi.e0).length := h1
      rwa [List.length_map] at this
    · have : LenOk (x.insts.map FIns.e0).length := h2
      rwa [List.length_map] at this
  · intro h
    refine ⟨?_, fun p hp => ?_, ?_, fun p hp => ?_, h.e, h.v, h.a, h.b⟩
    · show LenOk (x.phis.map FPhi.e0).length
      rw [List.length_map]; exact h.lp
    · obtain ⟨q, hq, rfl⟩ := List.mem_map.1 hp
      exact phi_ok_e0.2 (h.phis q hq)
    · show LenOk (x.insts.map FIns.e0).length
      rw [List.length_map]; exact h.li
    · obtain ⟨q, hq, rfl⟩ := List.mem_map.1 hp
      exact ins_ok_e0.2 (h.insts q hq)
theorem FOk.alike {fs gs : List FBlk} (h : AlikeF fs gs) (ho : FOk fs) : FOk gs := by
  intro y hy
  have : y.e0 ∈ fs.map FBlk.e0 := by rw [show fs.map FBlk.e0 = gs.map FBlk.e0 from h]; exact List.mem_map.2 ⟨y, hy, rfl⟩
  obtain ⟨x, hx, e⟩ := List.mem_map.1 this
  exact blk_ok_e0.1 (e ▸ blk_ok_e0.2 (ho x hx))
theorem dead_fok {fs : List FBlk} (ho : FOk fs) : FOk (deadF fs) := by
  intro y hy
  obtain ⟨x, hx, rfl⟩ := List.mem_map.1 hy
  have h := ho x hx
  exact ⟨Nat.le_trans (List.length_filter_le _ _) h.lp, fun p hp => h.phis p (List.mem_filter.1 hp).1, Nat.le_trans (List.length_filter_le _ _) h.li, fun p hp => h.insts p (List.mem_filter.1 hp).1, h.e, h.v, h.a, h.b⟩
theorem dead_len {fs : List FBlk} : (deadF fs).length = fs.length := by unfold deadF; rw [List.length_map]
theorem size_alike {fs gs : List FBlk} (h : AlikeF fs gs) : sizeF fs = sizeF gs := by rw [← sizeF_e0 fs, ← sizeF_e0 gs, h]
def great3Q (va : Int) (fs : List FBlk) : Prop := greatQ va fs ∨ 1500 < sizeF fs
instance (va : Int) (fs : List FBlk) : Decidable (great3Q va fs) := by unfold great3Q; infer_instance
theorem great3_no {va : Int} {fs : List FBlk} (h : ¬ great3Q va fs) : fs.length ≤ 60 ∧ sizeF fs ≤ 1500 := by
  unfold great3Q at h
  exact ⟨greatQ_len (fun e => h (.inl e)), by omega⟩
theorem one_ro {w : World} {A9 : Option Addr} {e7 e9 n7 n9 c7 c9 : Nat} {x : FBlk} (hp : x.phis = []) (h9 : (Res.row e9 6 A9 n9 c9 (xV x)).holds w) (h7 : (Res.row e7 5 x.iA n7 c7 (inC x.insts)).holds w) (hi : ∀ i, i ∈ x.insts → (Res.rd i.A (ints i.args)).holds w) : RO noS w (.fn A9 [x]) := by
  refine RO.of (fun r hr => ?_)
  rcases List.mem_cons.1 hr with rfl | hr
  · have h1 : (Res.rd A9 ([x].flatMap xV)).holds w := by
      rw [show [x].flatMap xV = xV x by simp]
      exact row_rd h9
    have := rd_rds (f := xV) xV_len (by omega) h1
    unfold Res.blocks
    rw [show (bsOf [x]).map SB.cells = [x].map xV by unfold bsOf; rw [List.map_map]; rfl]
    exact this
  · obtain ⟨y, hy, hr2⟩ := List.mem_flatMap.1 hr
    rw [List.mem_singleton] at hy
    subst hy
    unfold FBlk.parts at hr2
    rw [hp] at hr2
    rcases List.mem_cons.1 hr2 with rfl | hr3
    · intro i cs h; simp at h
    rcases List.mem_cons.1 hr3 with rfl | hr4
    · exact rd_rds ins_cells_len (by omega) (row_rd h7)
    rcases List.mem_append.1 hr4 with hr5 | hr5
    · simp at hr5
    · obtain ⟨p, hp, rfl⟩ := List.mem_map.1 hr5
      exact hi p hp
theorem rd_nil_ {w : World} {A : Option Addr} : (Res.rd A (ints [])).holds w := fun i v hi => by simp [ints] at hi
def dxN : ByteArray := ⟨#[102]⟩
def dxB (A5 : Option Addr) : FBlk := ⟨none, 0, [], A5, 1, [⟨1, 0, 7, ⟨#[]⟩, none, 0, []⟩], 2, -1, 0, 0⟩
theorem dx_ok {A5 : Option Addr} : FOk [dxB A5] := by
  intro x hx
  rw [List.mem_singleton] at hx
  subst hx
  refine ⟨by simp [dxB, LenOk], fun p hp => by simp [dxB] at hp, by simp [dxB, LenOk], fun p hp => ?_, by simp [dxB, In64], by simp [dxB, In64], by simp [dxB, In64], by simp [dxB, In64]⟩
  simp only [dxB, List.mem_cons, List.not_mem_nil, or_false] at hp
  subst hp
  exact ⟨by simp [In64], by simp [In64], by simp [In64], by show (0 : Nat) ≤ _; omega, by simp [LenOk], fun x hx => by simp at hx⟩
theorem dx_valid {A5 : Option Addr} : validN dxN 0 1 [dxB A5] = 0 := valid_of ⟨by simp [sizeF, sizeTo, dxB], by rfl⟩
theorem dx_rd {A5 : Option Addr} {v : Int} : ¬ Rd [dxB A5] v := by
  intro h
  have pu : pureQ 1 := by unfold pureQ; omega
  induction h with
  | @inst x i v hx hi hp hv h0 =>
    rw [List.mem_singleton] at hx
    subst hx
    simp only [dxB, List.mem_cons, List.not_mem_nil, or_false] at hi
    subst hi
    exact hp pu
  | @fin x hx he h0 =>
    rw [List.mem_singleton] at hx
    subst hx
    simp [dxB] at h0
  | phi _ _ _ _ _ ih => exact ih
  | pure _ _ _ _ _ _ ih => exact ih
theorem dx_dead {A5 : Option Addr} : sizeF (deadF [dxB A5]) = 1 := by
  have pu : pureQ 1 := by unfold pureQ; omega
  have : deadF [dxB A5] = [{ dxB A5 with insts := [] }] := by
    unfold deadF deadB
    simp only [List.map_cons, List.map_nil]
    congr 1
    unfold dxB
    simp only [FBlk.mk.injEq, true_and, and_true, List.filter_nil]
    rw [List.filter_cons_of_neg (by
      unfold keepI
      rw [decide_eq_true_eq, Classical.not_not]
      exact ⟨pu, dx_rd⟩), List.filter_nil]
  rw [this]
  rfl
end Go.Mor
