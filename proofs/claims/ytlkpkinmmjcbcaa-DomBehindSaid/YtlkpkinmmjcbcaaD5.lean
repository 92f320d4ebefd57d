/-
  Walks of layer 18. Printed by wip/gen/dom.py.
-/
import Derived.Test.YtlkpkinmmjcbcaaD4
namespace Go.Proofs.Ytlkpkinmmjcbcaa
open Go.Mor

/-- What the reference's inner walk leaves, where so many blocks were not met. -/
def ROrd (m : Nat) : Prop := ∀ (nm wk pa va : Value) (A : Option Addr) (c : Nat) (bs : List SB) (b : Nat) (Ai : Option Addr) (ci : Nat) (inl : List Bool) (Ao : Option Addr) (no co : Nat) (o : List Int) (S : Int → Bool) (s1 : DSt) (w : World),
  bs.length ≤ 1000000 → b < bs.length → BoolsOf bs.length inl S → S (b : Int) = false → unmet bs.length S ≤ m → o.length + unmet bs.length S ≤ bs.length → no = o.length → Go.Mor.Kids (tg bs) (tg bs (b : Int)) (addS S (b : Int), o) s1 →
  (Res.row 4 1 Ai bs.length ci (bools inl)).holds w → (Res.row 3 1 Ao no co (ints o)).holds w → (∀ g, (Res.row 4 1 Ai bs.length ci (bools inl)).fp g → ¬ (Res.row 3 1 Ao no co (ints o)).fp g) → RO (Res.and (.row 4 1 Ai bs.length ci (bools inl)) (.row 3 1 Ao no co (ints o))).fp w (.blocks A bs) →
  Calls Try.prog 28 #[.agg #[nm, wk, pa, va, .slice A bs.length c], .int .i64 (b : Int), .slice Ai bs.length ci, .slice Ao no co] w (Ret fun v w' => ∃ A' n' c' inl', v = .slice A' n' c' ∧ n' = s1.2.length + 1 ∧ BoolsOf bs.length inl' s1.1 ∧
    Mem (Res.and (.row 4 1 Ai bs.length ci (bools inl)) (.row 3 1 Ao no co (ints o))).fp w w' [.row 4 1 Ai bs.length ci (bools inl'), .row 3 1 A' n' c' (ints (s1.2 ++ [(b : Int)]))])


set_option maxRecDepth 10000 in
theorem rord_step (m : Nat) (ih : ∀ m', m' < m → ROrd m') : ROrd m := by
  intro nm wk pa va A c bs b Ai ci inl Ao no co o S s1 w hm hb hin hSb hu hcnt0 hno hkids0 hri hro hap hA
  refine enter (N := 43) (vs := [(.agg #[nm, wk, pa, va, (.slice A bs.length c)]), (.int .i64 (b : Int)), (.slice Ai bs.length ci), (.slice Ao no co)]) Try.func28 (by kernel_rfl) (by kernel_rfl) (by kernel_rfl) ?_
  intro a hF
  have hM := Mem.init2 hri hro hap
  refine W_seq (by kernel_rfl) ?_
  refine W_region (by kernel_rfl) ?_   -- region 0
  refine From_box (by kernel_rfl : coreAt _ 0 = some (some 4, (Go.Op.box 24 (Go.Operand.tmp 0)), 0, none)) hF (by kernel_rfl) (by kernel_rfl) (k' := 1) rfl (v := (.agg #[nm, wk, pa, va, (.slice A bs.length c)])) (cs := [nm, wk, pa, va, (.slice A bs.length c)]) (by kernel_rfl) rfl hM ?_
  intro b1 w2 hb1 _ hM3 _ a4 ea hF5; clear ea hF a
  change Mem ((Res.and (.row 4 1 Ai bs.length ci (bools inl)) (.row 3 1 Ao no co (ints o))).fp) w w2 [.row 4 1 Ai bs.length ci (bools inl), .row 3 1 Ao no co (ints o), .blk b1 24 [nm, wk, pa, va, (.slice A bs.length c)]] at hM3
  clear hM
  replace hF5 : Fr a4 43 [(1, (.int .i64 (b : Int))), (2, (.slice Ai bs.length ci)), (3, (.slice Ao no co)), (4, (.pointer (some ⟨b1, 0, none⟩)))] := hF5.keep (keep := [1, 2, 3, 4]) (by kernel_rfl)
  refine From_pure 1 2 [1, 2, 3, 4] hF5 (env' := [(1, (.int .i64 (b : Int))), (2, (.slice Ai bs.length ci)), (3, (.slice Ao no co)), (4, (.pointer (some ⟨b1, 0, none⟩)))]) (by kernel_rfl) rfl ?_
  intro a6 hF7; clear hF5 a4
  refine From_end (by kernel_rfl) ?_
  refine W_seq (by kernel_rfl) ?_
  refine W_region (by kernel_rfl) ?_   -- region 1
  have hil := hin.1
  have hud := unmet_add (n := bs.length) (S := S) (t := (b : Int)) (by omega) (by omega) hSb
  have hin1 := hin.put hb
  refine From_pure 2 2 [1, 2, 3, 4, 11, 12] hF7 (env' := [(1, (.int .i64 (b : Int))), (2, (.slice Ai bs.length ci)), (3, (.slice Ao no co)), (4, (.pointer (some ⟨b1, 0, none⟩))), (11, (.slice Ai bs.length ci)), (12, (.int .i64 (b : Int)))]) (by kernel_rfl) rfl ?_
  intro a8 hF9; clear hF7 a6
  obtain ⟨g11, rfl⟩ := row_some (hM3.get 0 rfl) (by omega)
  refine From_index (by kernel_rfl : coreAt _ 2 = some (some 13, (Go.Op.indexAddr 33 (Go.Operand.tmp 11) (Go.Operand.tmp 12)), 0, none)) hF9 (by kernel_rfl) (by kernel_rfl) (k' := 3) rfl (A := (some ⟨g11, 0, none⟩)) (ad := ⟨g11, 0, none⟩) (n := bs.length) (cap := ci) (e := 4) (size := 1) (kd := .i64) (i := (b : Int)) (by kernel_rfl) (by kernel_rfl) rfl (by kernel_rfl) (by kernel_rfl) (by omega) (by omega) ?_
  intro a12 ea hF13; clear ea hF9 a8
  replace hF13 : Fr a12 43 [(1, (.int .i64 (b : Int))), (2, (.slice (some ⟨g11, 0, none⟩) bs.length ci)), (3, (.slice Ao no co)), (4, (.pointer (some ⟨b1, 0, none⟩))), (13, (.pointer (some ((⟨g11, 0, none⟩ : Addr).add (((b : Int)).toNat * 1)))))] := hF13.keep (keep := [1, 2, 3, 4, 13]) (by kernel_rfl)
  refine From_store_row (by kernel_rfl : coreAt _ 3 = some (none, (Go.Op.store 4 (Go.Operand.tmp 13) (Go.Operand.const (Go.Value.bool true))), 0, none)) hF13 (by kernel_rfl) (by kernel_rfl) (k' := 4) rfl (ad := (⟨g11, 0, none⟩ : Addr)) (j := (((b : Int)).toNat * 1)) (e := 4) (size := 1) (n := bs.length) (cap := ci) (v := (.bool true)) (xs := (bools inl)) (ad' := ((⟨g11, 0, none⟩ : Addr).add (((b : Int)).toNat * 1))) (by kernel_rfl) rfl (by kernel_rfl) (by kernel_rfl) rfl hM3 0 rfl (by omega) ?_
  intro w14 hM15 _ a16 ea hF17; clear ea hF13 a12
  change Mem ((Res.and (.row 4 1 (some ⟨g11, 0, none⟩) bs.length ci (bools inl)) (.row 3 1 Ao no co (ints o))).fp) w w14 [.row 4 1 (some ⟨g11, 0, none⟩) bs.length ci ((bools inl).set (((b : Int)).toNat * 1) (.bool true)), .row 3 1 Ao no co (ints o), .blk b1 24 [nm, wk, pa, va, (.slice A bs.length c)]] at hM15
  clear hM3
  replace hF17 : Fr a16 43 [(1, (.int .i64 (b : Int))), (2, (.slice (some ⟨g11, 0, none⟩) bs.length ci)), (3, (.slice Ao no co)), (4, (.pointer (some ⟨b1, 0, none⟩)))] := hF17.keep (keep := [1, 2, 3, 4]) (by kernel_rfl)
  refine From_end (by kernel_rfl) ?_
  refine W_seq (by kernel_rfl) ?_
  refine W_region (by kernel_rfl) ?_   -- region 2
  have hM18 : Mem ((Res.and (.row 4 1 (some ⟨g11, 0, none⟩) bs.length ci (bools inl)) (.row 3 1 Ao no co (ints o))).fp) w w14 [.row 4 1 (some ⟨g11, 0, none⟩) bs.length ci (bools (inl.set b true)), .row 3 1 Ao no co (ints o), .blk b1 24 [nm, wk, pa, va, (.slice A bs.length c)]] := hM15.cast (by rw [bools_set]; simp only [Int.toNat_natCast, Nat.mul_one])
  clear hM15
  refine From_loadS (by kernel_rfl : coreAt _ 0 = some (some 14, (Go.Op.load 24 (Go.Operand.tmp 4)), 24, none)) hF17 (by kernel_rfl) (by kernel_rfl) (k' := 1) rfl (ad := ⟨b1, 0, none⟩) (vs := [nm, wk, pa, va, (.slice A bs.length c)]) (by kernel_rfl) (by kernel_rfl) (blk_cells (hM18.get 2 rfl)) ?_
  intro a19 ea hF20; clear ea hF17 a16
  replace hF20 : Fr a19 43 [(1, (.int .i64 (b : Int))), (2, (.slice (some ⟨g11, 0, none⟩) bs.length ci)), (3, (.slice Ao no co)), (4, (.pointer (some ⟨b1, 0, none⟩))), (14, (.agg #[nm, wk, pa, va, (.slice A bs.length c)]))] := hF20.keep (keep := [1, 2, 3, 4, 14]) (by kernel_rfl)
  refine From_pure 1 2 [1, 2, 3, 4, 14, 15] hF20 (env' := [(1, (.int .i64 (b : Int))), (2, (.slice (some ⟨g11, 0, none⟩) bs.length ci)), (3, (.slice Ao no co)), (4, (.pointer (some ⟨b1, 0, none⟩))), (14, (.agg #[nm, wk, pa, va, (.slice A bs.length c)])), (15, (.int .i64 (b : Int)))]) (by kernel_rfl) rfl ?_
  intro a21 hF22; clear hF20 a19
  refine From_call (by kernel_rfl : coreAt _ 2 = some (some 16, (Go.Op.call { callee := (Go.Callee.value (Go.Operand.func 20)), args := #[(Go.Operand.tmp 14), (Go.Operand.tmp 15)], argTypes := #[24, 3] }), 27, none)) hF22 (by kernel_rfl) (by kernel_rfl) (k' := 3) rfl (f := 20) (vs := [(.agg #[nm, wk, pa, va, (.slice A bs.length c)]), (.int .i64 (b : Int))]) (cap := []) (by kernel_rfl) (by kernel_rfl) (by kernel_rfl) (rtargets_c _ _ _ _ A c bs (b : Int) w14 hm (hA.at_ hM18)) ?_
  rintro _ w25 ⟨A23, c24, rfl, hM26x⟩ a27 ea hF28; clear ea hF22 a21
  have hM26 : Mem ((Res.and (.row 4 1 (some ⟨g11, 0, none⟩) bs.length ci (bools inl)) (.row 3 1 Ao no co (ints o))).fp) w w25 [.row 4 1 (some ⟨g11, 0, none⟩) bs.length ci (bools (inl.set b true)), .row 3 1 Ao no co (ints o), .blk b1 24 [nm, wk, pa, va, (.slice A bs.length c)], .row 3 1 A23 ((tg bs (b : Int)).length) c24 (ints (tg bs (b : Int)))] := hM18.call hM26x
  clear hM26x hM18
  replace hF28 : Fr a27 43 [(1, (.int .i64 (b : Int))), (2, (.slice (some ⟨g11, 0, none⟩) bs.length ci)), (3, (.slice Ao no co)), (4, (.pointer (some ⟨b1, 0, none⟩))), (16, (.slice A23 ((tg bs (b : Int)).length) c24))] := hF28.keep (keep := [1, 2, 3, 4, 16]) (by kernel_rfl)
  refine From_pure 1 4 [1, 2, 3, 4, 9] hF28 (env' := [(1, (.int .i64 (b : Int))), (2, (.slice (some ⟨g11, 0, none⟩) bs.length ci)), (3, (.slice Ao no co)), (4, (.pointer (some ⟨b1, 0, none⟩))), (9, (.slice A23 ((tg bs (b : Int)).length) c24))]) (by kernel_rfl) rfl ?_
  intro a29 hF30; clear hF28 a27
  refine From_end (by kernel_rfl) ?_
  refine W_seq (by kernel_rfl) ?_
  refine W_seq (by kernel_rfl) ?_
  refine W_region (by kernel_rfl) ?_   -- region 3
  refine From_pure 1 1 [1, 2, 3, 4, 9, 10] hF30 (env' := [(1, (.int .i64 (b : Int))), (2, (.slice (some ⟨g11, 0, none⟩) bs.length ci)), (3, (.slice Ao no co)), (4, (.pointer (some ⟨b1, 0, none⟩))), (9, (.slice A23 ((tg bs (b : Int)).length) c24)), (10, (.int .i64 0))]) (by kernel_rfl) rfl ?_
  intro a31 hF32; clear hF30 a29
  refine From_end (by kernel_rfl) ?_
  refine W_block (id := 0) (by kernel_rfl) ?_
  refine W_loop (by kernel_rfl) (fun n_ a_ w_ => ∃ (k : Nat) (inl2 : List Bool) (S2 : Int → Bool) (A2 : Option Addr) (n2 : Nat) (c2 : Nat) (o2 : List Int), n_ = (tg bs (b : Int)).length - k ∧ Fr a_ 43 [(1, (.int .i64 (b : Int))), (2, (.slice (some ⟨g11, 0, none⟩) bs.length ci)), (3, (.slice A2 n2 c2)), (4, (.pointer (some ⟨b1, 0, none⟩))), (9, (.slice A23 ((tg bs (b : Int)).length) c24)), (10, (.int .i64 (k : Int)))] ∧ Mem ((Res.and (.row 4 1 (some ⟨g11, 0, none⟩) bs.length ci (bools inl)) (.row 3 1 Ao no co (ints o))).fp) w w_ [.row 4 1 (some ⟨g11, 0, none⟩) bs.length ci (bools inl2), .row 3 1 A2 n2 c2 (ints o2), .blk b1 24 [nm, wk, pa, va, (.slice A bs.length c)], .row 3 1 A23 ((tg bs (b : Int)).length) c24 (ints (tg bs (b : Int)))] ∧ (k ≤ (tg bs (b : Int)).length) ∧ (BoolsOf bs.length inl2 S2) ∧ (Go.Mor.Kids (tg bs) ((tg bs (b : Int)).drop k) (S2, o2) s1) ∧ (unmet bs.length S2 + 1 ≤ unmet bs.length S) ∧ (o2.length + unmet bs.length S2 + 1 ≤ bs.length) ∧ (n2 = o2.length)) (n := _) ⟨0, inl.set b true, addS S (b : Int), Ao, no, co, o, rfl, hF32.keep (keep := [1, 2, 3, 4, 9, 10]) (by kernel_rfl), hM26, by omega, hin1, hkids0, by omega, by omega, hno⟩ ?_
  clear hF32 a31 hM26; rintro n a35 w33 ⟨k, inl2, S2, A2, n2, c2, o2, rfl, hF36, hM34, hk, hin2, hkids, hum, hcnt, hn2⟩
  refine W_seq (by kernel_rfl) ?_
  refine W_seq (by kernel_rfl) ?_
  refine W_region (by kernel_rfl) ?_   -- region 4
  refine From_pure 3 3 [1, 2, 3, 4, 9, 10, 17, 19] hF36 (env' := [(1, (.int .i64 (b : Int))), (2, (.slice (some ⟨g11, 0, none⟩) bs.length ci)), (3, (.slice A2 n2 c2)), (4, (.pointer (some ⟨b1, 0, none⟩))), (9, (.slice A23 ((tg bs (b : Int)).length) c24)), (10, (.int .i64 (k : Int))), (17, (.int .i64 (k : Int))), (19, (.int .i64 (((tg bs (b : Int)).length : Nat) : Int)))]) (by kernel_rfl) rfl ?_
  intro a37 hF38; clear hF36 a35
  refine From_cmp (by kernel_rfl : coreAt _ 3 = some (some 20, (Go.Op.binOp Go.BinOp.lss 3 (Go.Operand.tmp 17) (Go.Operand.tmp 19) 3), 4, none)) hF38 (by kernel_rfl) (by kernel_rfl) (k' := 4) rfl (kd := .i64) (i := (k : Int)) (j := (((tg bs (b : Int)).length : Nat) : Int)) (by kernel_rfl) (by kernel_rfl) rfl ?_
  intro Bk hBk a39 ea hF40; clear ea hF38 a37
  replace hF40 : Fr a39 43 [(1, (.int .i64 (b : Int))), (2, (.slice (some ⟨g11, 0, none⟩) bs.length ci)), (3, (.slice A2 n2 c2)), (4, (.pointer (some ⟨b1, 0, none⟩))), (9, (.slice A23 ((tg bs (b : Int)).length) c24)), (10, (.int .i64 (k : Int))), (20, (.bool Bk))] := hF40.keep (keep := [1, 2, 3, 4, 9, 10, 20]) (by kernel_rfl)
  refine From_end (by kernel_rfl) ?_
  cases Bk
  · have ck : ¬ ((k : Int) < (((tg bs (b : Int)).length : Nat) : Int)) := by simpa using hBk
    refine W_cond (t := 20) (B := false) (by kernel_rfl) hF40 (by kernel_rfl) (fun t => Bool.noConfusion t) (fun _ => ?_)
    refine W_exit (id := 0) (by kernel_rfl) ?_
    refine inB_hit rfl ?_
    refine W_seq (by kernel_rfl) ?_
    refine W_region (by kernel_rfl) ?_   -- region 8
    refine From_pure 2 2 [39, 40] hF40 (env' := [(39, (.slice A2 n2 c2)), (40, (.int .i64 (b : Int)))]) (by kernel_rfl) rfl ?_
    intro a41 hF42; clear hF40 a39
    refine From_buildSlice (by kernel_rfl : coreAt _ 2 = some (some 41, (Go.Op.buildSlice 27 1 #[(0, (Go.Operand.tmp 40))]), 27, none)) hF42 (by kernel_rfl) (by kernel_rfl) (k' := 3) rfl (e := 3) (size := 1) (zs := [(.int .i64 0)]) (vs := [(0, (.int .i64 (b : Int)))]) (cs := [(.int .i64 (b : Int))]) (by kernel_rfl) (by kernel_rfl) (by kernel_rfl) (by kernel_rfl) (by kernel_rfl) (by kernel_rfl) hM34 ?_
    intro b43 w44 hb43 _ hM45 _ a46 ea hF47; clear ea hF42 a41
    change Mem ((Res.and (.row 4 1 (some ⟨g11, 0, none⟩) bs.length ci (bools inl)) (.row 3 1 Ao no co (ints o))).fp) w w44 [.row 4 1 (some ⟨g11, 0, none⟩) bs.length ci (bools inl2), .row 3 1 A2 n2 c2 (ints o2), .blk b1 24 [nm, wk, pa, va, (.slice A bs.length c)], .row 3 1 A23 ((tg bs (b : Int)).length) c24 (ints (tg bs (b : Int))), .row 3 1 (some ⟨b43, 0, none⟩) 1 1 [(.int .i64 (b : Int))]] at hM45
    clear hM34
    replace hF47 : Fr a46 43 [(39, (.slice A2 n2 c2)), (41, (.slice (some ⟨b43, 0, none⟩) 1 1))] := hF47.keep (keep := [39, 41]) (by kernel_rfl)
    refine From_append (by kernel_rfl : coreAt _ 3 = some (some 42, (Go.Op.call { callee := (Go.Callee.builtin Go.Builtin.append), args := #[(Go.Operand.tmp 39), (Go.Operand.tmp 41)], argTypes := #[27, 27] }), 27, none)) hF47 (by kernel_rfl) (by kernel_rfl) (k' := 4) rfl (e := 3) (size := 1) (bytes := 8) (z := (.int .i64 0)) (by kernel_rfl) (by kernel_rfl) (by kernel_rfl) (by kernel_rfl) (A := A2) (B := (some ⟨b43, 0, none⟩)) (n := n2) (cap := c2) (m := 1) (cap' := 1) (xs := (ints o2)) (news := [(.int .i64 (b : Int))]) (by kernel_rfl) (by kernel_rfl) hM45 1 rfl (row_rd (hM45.get 4 rfl)) rfl (by simp [Value.oneCell']) (by omega) (by simp only [maxLen]; omega) ?_
    intro A48 c49 w50 hM51 _ a52 ea hF53; clear ea hF47 a46
    change Mem ((Res.and (.row 4 1 (some ⟨g11, 0, none⟩) bs.length ci (bools inl)) (.row 3 1 Ao no co (ints o))).fp) w w50 [.row 4 1 (some ⟨g11, 0, none⟩) bs.length ci (bools inl2), .row 3 1 A48 (n2 + 1) c49 ((ints o2) ++ [(.int .i64 (b : Int))]), .blk b1 24 [nm, wk, pa, va, (.slice A bs.length c)], .row 3 1 A23 ((tg bs (b : Int)).length) c24 (ints (tg bs (b : Int))), .row 3 1 (some ⟨b43, 0, none⟩) 1 1 [(.int .i64 (b : Int))]] at hM51
    clear hM45
    replace hM51 : Mem ((Res.and (.row 4 1 (some ⟨g11, 0, none⟩) bs.length ci (bools inl)) (.row 3 1 Ao no co (ints o))).fp) w w50 [.row 4 1 (some ⟨g11, 0, none⟩) bs.length ci (bools inl2), .row 3 1 A48 (n2 + 1) c49 ((ints o2) ++ [(.int .i64 (b : Int))]), .blk b1 24 [nm, wk, pa, va, (.slice A bs.length c)], .row 3 1 A23 ((tg bs (b : Int)).length) c24 (ints (tg bs (b : Int)))] := hM51.pick [true, true, true, true, false] rfl
    replace hF53 : Fr a52 43 [(42, (.slice A48 (n2 + 1) c49))] := hF53.keep (keep := [42]) (by kernel_rfl)
    refine From_pure 1 5 [8] hF53 (env' := [(8, (.slice A48 (n2 + 1) c49))]) (by kernel_rfl) rfl ?_
    intro a54 hF55; clear hF53 a52
    refine From_end (by kernel_rfl) ?_
    refine W_ret (by kernel_rfl) ?_
    refine out1 (v := (.slice A48 (n2 + 1) c49)) hF55 rfl (by kernel_rfl) ?_
    refine ⟨_, rfl, ?_⟩
    have hse := kids_end hkids (by omega)
    subst hse
    exact ⟨_, _, _, inl2, rfl, by simp only; omega, hin2, (hM51.pick [true, true, false, false] rfl).cast (by rw [ints_append]; rfl)⟩
  · have ck : (k : Int) < (((tg bs (b : Int)).length : Nat) : Int) := by simpa using hBk
    refine W_cond (t := 20) (B := true) (by kernel_rfl) hF40 (by kernel_rfl) (fun _ => ?_) (fun t => Bool.noConfusion t)
    refine W_skip (by kernel_rfl) ?_
    refine W_seq (by kernel_rfl) ?_
    refine W_block (id := 1) (by kernel_rfl) ?_
    refine W_seq (by kernel_rfl) ?_
    refine W_region (by kernel_rfl) ?_   -- region 6
    obtain ⟨ti, hti, htn⟩ := tg_at (bs := bs) (b := (b : Int)) (k := k) (by omega)
    refine From_pure 3 3 [1, 2, 3, 4, 9, 10, 23, 24, 25] hF40 (env' := [(1, (.int .i64 (b : Int))), (2, (.slice (some ⟨g11, 0, none⟩) bs.length ci)), (3, (.slice A2 n2 c2)), (4, (.pointer (some ⟨b1, 0, none⟩))), (9, (.slice A23 ((tg bs (b : Int)).length) c24)), (10, (.int .i64 (k : Int))), (23, (.slice (some ⟨g11, 0, none⟩) bs.length ci)), (24, (.slice A23 ((tg bs (b : Int)).length) c24)), (25, (.int .i64 (k : Int)))]) (by kernel_rfl) rfl ?_
    intro a56 hF57; clear hF40 a39
    obtain ⟨g59, rfl⟩ := row_some (hM34.get 3 rfl) (by omega)
    refine From_index (by kernel_rfl : coreAt _ 3 = some (some 26, (Go.Op.indexAddr 27 (Go.Operand.tmp 24) (Go.Operand.tmp 25)), 0, none)) hF57 (by kernel_rfl) (by kernel_rfl) (k' := 4) rfl (A := (some ⟨g59, 0, none⟩)) (ad := ⟨g59, 0, none⟩) (n := ((tg bs (b : Int)).length)) (cap := c24) (e := 3) (size := 1) (kd := .i64) (i := (k : Int)) (by kernel_rfl) (by kernel_rfl) rfl (by kernel_rfl) (by kernel_rfl) (by omega) (by omega) ?_
    intro a60 ea hF61; clear ea hF57 a56
    replace hF61 : Fr a60 43 [(1, (.int .i64 (b : Int))), (2, (.slice (some ⟨g11, 0, none⟩) bs.length ci)), (3, (.slice A2 n2 c2)), (4, (.pointer (some ⟨b1, 0, none⟩))), (9, (.slice (some ⟨g59, 0, none⟩) ((tg bs (b : Int)).length) c24)), (10, (.int .i64 (k : Int))), (23, (.slice (some ⟨g11, 0, none⟩) bs.length ci)), (26, (.pointer (some ((⟨g59, 0, none⟩ : Addr).add (((k : Int)).toNat * 1)))))] := hF61.keep (keep := [1, 2, 3, 4, 9, 10, 23, 26]) (by kernel_rfl)
    refine From_load1 (by kernel_rfl : coreAt _ 4 = some (some 27, (Go.Op.load 3 (Go.Operand.tmp 26)), 3, none)) hF61 (by kernel_rfl) (by kernel_rfl) (k' := 5) rfl (ad := ((⟨g59, 0, none⟩ : Addr).add (((k : Int)).toNat * 1))) (v := (.int .i64 (ti : Int))) (by kernel_rfl) (by kernel_rfl) (rd_at (row_rd (hM34.get 3 rfl)) rfl hti) ?_
    intro a62 ea hF63; clear ea hF61 a60
    replace hF63 : Fr a62 43 [(1, (.int .i64 (b : Int))), (2, (.slice (some ⟨g11, 0, none⟩) bs.length ci)), (3, (.slice A2 n2 c2)), (4, (.pointer (some ⟨b1, 0, none⟩))), (9, (.slice (some ⟨g59, 0, none⟩) ((tg bs (b : Int)).length) c24)), (10, (.int .i64 (k : Int))), (23, (.slice (some ⟨g11, 0, none⟩) bs.length ci)), (27, (.int .i64 (ti : Int)))] := hF63.keep (keep := [1, 2, 3, 4, 9, 10, 23, 27]) (by kernel_rfl)
    refine From_index (by kernel_rfl : coreAt _ 5 = some (some 28, (Go.Op.indexAddr 33 (Go.Operand.tmp 23) (Go.Operand.tmp 27)), 0, none)) hF63 (by kernel_rfl) (by kernel_rfl) (k' := 6) rfl (A := (some ⟨g11, 0, none⟩)) (ad := ⟨g11, 0, none⟩) (n := bs.length) (cap := ci) (e := 4) (size := 1) (kd := .i64) (i := (ti : Int)) (by kernel_rfl) (by kernel_rfl) rfl (by kernel_rfl) (by kernel_rfl) (by omega) (by omega) ?_
    intro a64 ea hF65; clear ea hF63 a62
    replace hF65 : Fr a64 43 [(1, (.int .i64 (b : Int))), (2, (.slice (some ⟨g11, 0, none⟩) bs.length ci)), (3, (.slice A2 n2 c2)), (4, (.pointer (some ⟨b1, 0, none⟩))), (9, (.slice (some ⟨g59, 0, none⟩) ((tg bs (b : Int)).length) c24)), (10, (.int .i64 (k : Int))), (28, (.pointer (some ((⟨g11, 0, none⟩ : Addr).add (((ti : Int)).toNat * 1)))))] := hF65.keep (keep := [1, 2, 3, 4, 9, 10, 28]) (by kernel_rfl)
    refine From_load1 (by kernel_rfl : coreAt _ 6 = some (some 29, (Go.Op.load 4 (Go.Operand.tmp 28)), 4, none)) hF65 (by kernel_rfl) (by kernel_rfl) (k' := 7) rfl (ad := ((⟨g11, 0, none⟩ : Addr).add (((ti : Int)).toNat * 1))) (v := (.bool (inl2.getD ti false))) (by kernel_rfl) (by kernel_rfl) (rd_get1 (row_rd (hM34.get 0 rfl)) rfl (bools_get (by rw [hin2.1]; exact htn))) ?_
    intro a66 ea hF67; clear ea hF65 a64
    replace hF67 : Fr a66 43 [(1, (.int .i64 (b : Int))), (2, (.slice (some ⟨g11, 0, none⟩) bs.length ci)), (3, (.slice A2 n2 c2)), (4, (.pointer (some ⟨b1, 0, none⟩))), (9, (.slice (some ⟨g59, 0, none⟩) ((tg bs (b : Int)).length) c24)), (10, (.int .i64 (k : Int))), (29, (.bool (inl2.getD ti false)))] := hF67.keep (keep := [1, 2, 3, 4, 9, 10, 29]) (by kernel_rfl)
    obtain ⟨Bin, hBin⟩ : ∃ B, B = inl2.getD ti false := ⟨_, rfl⟩
    rw [← hBin] at hF67
    replace hF67 : Fr a66 43 [(1, (.int .i64 (b : Int))), (2, (.slice (some ⟨g11, 0, none⟩) bs.length ci)), (3, (.slice A2 n2 c2)), (4, (.pointer (some ⟨b1, 0, none⟩))), (9, (.slice (some ⟨g59, 0, none⟩) ((tg bs (b : Int)).length) c24)), (10, (.int .i64 (k : Int))), (29, (.bool Bin))] := hF67.keep (keep := [1, 2, 3, 4, 9, 10, 29]) (by kernel_rfl)
    refine From_pure 1 8 [1, 2, 3, 4, 9, 10, 30] hF67 (env' := [(1, (.int .i64 (b : Int))), (2, (.slice (some ⟨g11, 0, none⟩) bs.length ci)), (3, (.slice A2 n2 c2)), (4, (.pointer (some ⟨b1, 0, none⟩))), (9, (.slice (some ⟨g59, 0, none⟩) ((tg bs (b : Int)).length) c24)), (10, (.int .i64 (k : Int))), (30, (.bool (!Bin)))]) (by kernel_rfl) rfl ?_
    intro a68 hF69; clear hF67 a66
    refine From_end (by kernel_rfl) ?_
    cases Bin
    · have cin : (inl2.getD ti false) = false := hBin.symm
      have hSt : S2 (ti : Int) = false := by rw [← hin2.2 ti htn]; exact cin
      obtain ⟨s2, hka, hkb⟩ := kids_go hkids hti hSt
      refine W_cond (t := 30) (B := true) (by kernel_rfl) hF69 (by kernel_rfl) (fun _ => ?_) (fun t => Bool.noConfusion t)
      refine W_drawJ (N := 43) (env0 := [(1, (.int .i64 (b : Int))), (2, (.slice (some ⟨g11, 0, none⟩) bs.length ci)), (3, (.slice A2 n2 c2)), (4, (.pointer (some ⟨b1, 0, none⟩))), (9, (.slice (some ⟨g59, 0, none⟩) ((tg bs (b : Int)).length) c24)), (10, (.int .i64 (k : Int))), (30, (.bool true))]) (by kernel_rfl) (by kernel_rfl) (specAt [.det (.agg #[nm, wk, pa, va, (.slice A bs.length c)]), .det (.slice (some ⟨g59, 0, none⟩) ((tg bs (b : Int)).length) c24), .det (.int .i64 (k : Int)), .det (.pointer (some ((⟨g59, 0, none⟩ : Addr).add (((k : Int)).toNat * 1)))), .det (.int .i64 (ti : Int)), .det (.slice (some ⟨g11, 0, none⟩) bs.length ci), .det (.slice A2 n2 c2), Spec.free, Spec.free]) (fun ls vs w_ => match ls 8 with | true => (∃ (A3x : Option Addr) (n3 : Nat) (c3x : Nat) (inl3 : List Bool), vs 8 = (.slice A3x n3 c3x) ∧ (n3 = s2.2.length + 1) ∧ (BoolsOf bs.length inl3 s2.1) ∧ Mem ((Res.and (.row 4 1 (some ⟨g11, 0, none⟩) bs.length ci (bools inl)) (.row 3 1 Ao no co (ints o))).fp) w w_ [.row 4 1 (some ⟨g11, 0, none⟩) bs.length ci (bools inl3), .row 3 1 A3x n3 c3x (ints (s2.2 ++ [(ti : Int)])), .blk b1 24 [nm, wk, pa, va, (.slice A bs.length c)], .row 3 1 (some ⟨g59, 0, none⟩) ((tg bs (b : Int)).length) c24 (ints (tg bs (b : Int)))]) | false => (match ls 7 with | true => (∃ (A3x : Option Addr) (n3 : Nat) (c3x : Nat) (inl3 : List Bool), vs 7 = (.slice A3x n3 c3x) ∧ (n3 = s2.2.length + 1) ∧ (BoolsOf bs.length inl3 s2.1) ∧ Mem ((Res.and (.row 4 1 (some ⟨g11, 0, none⟩) bs.length ci (bools inl)) (.row 3 1 Ao no co (ints o))).fp) w w_ [.row 4 1 (some ⟨g11, 0, none⟩) bs.length ci (bools inl3), .row 3 1 A3x n3 c3x (ints (s2.2 ++ [(ti : Int)])), .blk b1 24 [nm, wk, pa, va, (.slice A bs.length c)], .row 3 1 (some ⟨g59, 0, none⟩) ((tg bs (b : Int)).length) c24 (ints (tg bs (b : Int)))]) | false => (Mem ((Res.and (.row 4 1 (some ⟨g11, 0, none⟩) bs.length ci (bools inl)) (.row 3 1 Ao no co (ints o))).fp) w w_ [.row 4 1 (some ⟨g11, 0, none⟩) bs.length ci (bools inl2), .row 3 1 A2 n2 c2 (ints o2), .blk b1 24 [nm, wk, pa, va, (.slice A bs.length c)], .row 3 1 (some ⟨g59, 0, none⟩) ((tg bs (b : Int)).length) c24 (ints (tg bs (b : Int)))]))) (by kernel_rfl) (by kernel_rfl) hF69 (by kernel_rfl) (by kernel_rfl) (plain_ok (.det (.det (.det (.det (.det (.det (.det (.free (.free .nil)))))))))) (hM34.then_ (Mem.drew _)) (lt_succ_all (lt_succ_all (lt_succ_all (lt_succ_all (lt_succ_all (lt_succ_all (lt_succ_all (lt_succ_all (lt_succ_all lt_zero_all ?_) ?_) ?_) ?_) ?_) ?_) ?_) ?_) ?_) ?_   -- region 7
      · intro aa_ w_ ls vs rest_ hJ hi_ hc_ hp hF
        refine ⟨true, opok_guard (g0 := none) (by kernel_rfl) (by kernel_rfl), fun _ => ?_, fun h => Bool.noConfusion h⟩
        replace hF : Fr aa_ 43 [(4, (.pointer (some ⟨b1, 0, none⟩)))] := hF.keep (keep := [4]) (by kernel_rfl)
        have f7 : ls 7 = false := notyet hc_ hi_ (n := 9) (by kernel_rfl)
        have f8 : ls 8 = false := notyet hc_ hi_ (n := 9) (by kernel_rfl)
        have hM_ := hJ
        simp only [f7, f8] at hM_
        refine From_loadS (by kernel_rfl : coreAt _ 0 = some (some 31, (Go.Op.load 24 (Go.Operand.tmp 4)), 24, none)) hF (by kernel_rfl) (by kernel_rfl) (k' := 1) rfl (ad := ⟨b1, 0, none⟩) (vs := [nm, wk, pa, va, (.slice A bs.length c)]) (by kernel_rfl) (by kernel_rfl) (blk_cells (hM_.get 2 rfl)) ?_
        intro a2 ea _
        refine From_end (by kernel_rfl) ?_; exact op_doneJ (d := some 31) (by kernel_rfl) ea rfl hJ
      · intro aa_ w_ ls vs rest_ hJ hi_ hc_ hp hF
        refine ⟨true, opok_guard (g0 := none) (by kernel_rfl) (by kernel_rfl), fun _ => ?_, fun h => Bool.noConfusion h⟩
        replace hF : Fr aa_ 43 [(9, (.slice (some ⟨g59, 0, none⟩) ((tg bs (b : Int)).length) c24))] := hF.keep (keep := [9]) (by kernel_rfl)
        refine From_pure1 (by kernel_rfl : coreAt _ 0 = some (some 32, (Go.Op.move (Go.Operand.tmp 9)), 27, none)) hF (by kernel_rfl) (by kernel_rfl) (k' := 1) rfl (v := (.slice (some ⟨g59, 0, none⟩) ((tg bs (b : Int)).length) c24)) (by kernel_rfl) ?_
        intro a2 ea _
        refine From_end (by kernel_rfl) ?_; exact op_doneJ (d := some 32) (by kernel_rfl) ea rfl hJ
      · intro aa_ w_ ls vs rest_ hJ hi_ hc_ hp hF
        refine ⟨true, opok_guard (g0 := none) (by kernel_rfl) (by kernel_rfl), fun _ => ?_, fun h => Bool.noConfusion h⟩
        replace hF : Fr aa_ 43 [(10, (.int .i64 (k : Int)))] := hF.keep (keep := [10]) (by kernel_rfl)
        refine From_pure1 (by kernel_rfl : coreAt _ 0 = some (some 33, (Go.Op.move (Go.Operand.tmp 10)), 3, none)) hF (by kernel_rfl) (by kernel_rfl) (k' := 1) rfl (v := (.int .i64 (k : Int))) (by kernel_rfl) ?_
        intro a2 ea _
        refine From_end (by kernel_rfl) ?_; exact op_doneJ (d := some 33) (by kernel_rfl) ea rfl hJ
      · intro aa_ w_ ls vs rest_ hJ hi_ hc_ hp hF
        refine ⟨true, opok_guard (g0 := none) (by kernel_rfl) (by kernel_rfl), fun _ => ?_, fun h => Bool.noConfusion h⟩
        replace hF : Fr aa_ 43 [(32, (.slice (some ⟨g59, 0, none⟩) ((tg bs (b : Int)).length) c24)), (33, (.int .i64 (k : Int)))] := hF.keep (keep := [32, 33]) (by kernel_rfl)
        refine From_index (by kernel_rfl : coreAt _ 0 = some (some 34, (Go.Op.indexAddr 27 (Go.Operand.tmp 32) (Go.Operand.tmp 33)), 0, none)) hF (by kernel_rfl) (by kernel_rfl) (k' := 1) rfl (A := (some ⟨g59, 0, none⟩)) (ad := ⟨g59, 0, none⟩) (n := ((tg bs (b : Int)).length)) (cap := c24) (e := 3) (size := 1) (kd := .i64) (i := (k : Int)) (by kernel_rfl) (by kernel_rfl) rfl (by kernel_rfl) (by kernel_rfl) (by omega) (by omega) ?_
        intro a2 ea _
        refine From_end (by kernel_rfl) ?_; exact op_doneJ (d := some 34) (by kernel_rfl) ea rfl hJ
      · intro aa_ w_ ls vs rest_ hJ hi_ hc_ hp hF
        refine ⟨true, opok_guard (g0 := none) (by kernel_rfl) (by kernel_rfl), fun _ => ?_, fun h => Bool.noConfusion h⟩
        replace hF : Fr aa_ 43 [(34, (.pointer (some ((⟨g59, 0, none⟩ : Addr).add (((k : Int)).toNat * 1)))))] := hF.keep (keep := [34]) (by kernel_rfl)
        have f7 : ls 7 = false := notyet hc_ hi_ (n := 9) (by kernel_rfl)
        have f8 : ls 8 = false := notyet hc_ hi_ (n := 9) (by kernel_rfl)
        have hM_ := hJ
        simp only [f7, f8] at hM_
        refine From_load1 (by kernel_rfl : coreAt _ 0 = some (some 35, (Go.Op.load 3 (Go.Operand.tmp 34)), 3, none)) hF (by kernel_rfl) (by kernel_rfl) (k' := 1) rfl (ad := ((⟨g59, 0, none⟩ : Addr).add (((k : Int)).toNat * 1))) (v := (.int .i64 (ti : Int))) (by kernel_rfl) (by kernel_rfl) (rd_at (row_rd (hM_.get 3 rfl)) rfl hti) ?_
        intro a2 ea _
        refine From_end (by kernel_rfl) ?_; exact op_doneJ (d := some 35) (by kernel_rfl) ea rfl hJ
      · intro aa_ w_ ls vs rest_ hJ hi_ hc_ hp hF
        refine ⟨true, opok_guard (g0 := none) (by kernel_rfl) (by kernel_rfl), fun _ => ?_, fun h => Bool.noConfusion h⟩
        replace hF : Fr aa_ 43 [(2, (.slice (some ⟨g11, 0, none⟩) bs.length ci))] := hF.keep (keep := [2]) (by kernel_rfl)
        refine From_pure1 (by kernel_rfl : coreAt _ 0 = some (some 36, (Go.Op.move (Go.Operand.tmp 2)), 33, none)) hF (by kernel_rfl) (by kernel_rfl) (k' := 1) rfl (v := (.slice (some ⟨g11, 0, none⟩) bs.length ci)) (by kernel_rfl) ?_
        intro a2 ea _
        refine From_end (by kernel_rfl) ?_; exact op_doneJ (d := some 36) (by kernel_rfl) ea rfl hJ
      · intro aa_ w_ ls vs rest_ hJ hi_ hc_ hp hF
        refine ⟨true, opok_guard (g0 := none) (by kernel_rfl) (by kernel_rfl), fun _ => ?_, fun h => Bool.noConfusion h⟩
        replace hF : Fr aa_ 43 [(3, (.slice A2 n2 c2))] := hF.keep (keep := [3]) (by kernel_rfl)
        refine From_pure1 (by kernel_rfl : coreAt _ 0 = some (some 37, (Go.Op.move (Go.Operand.tmp 3)), 27, none)) hF (by kernel_rfl) (by kernel_rfl) (k' := 1) rfl (v := (.slice A2 n2 c2)) (by kernel_rfl) ?_
        intro a2 ea _
        refine From_end (by kernel_rfl) ?_; exact op_doneJ (d := some 37) (by kernel_rfl) ea rfl hJ
      · intro aa_ w_ ls vs rest_ hJ hi_ hc_ hp hF
        refine ⟨true, opok_guard (g0 := none) (by kernel_rfl) (by kernel_rfl), fun _ => ?_, fun h => Bool.noConfusion h⟩
        replace hF : Fr aa_ 43 [(31, (.agg #[nm, wk, pa, va, (.slice A bs.length c)])), (35, (.int .i64 (ti : Int))), (36, (.slice (some ⟨g11, 0, none⟩) bs.length ci)), (37, (.slice A2 n2 c2))] := hF.keep (keep := [31, 35, 36, 37]) (by kernel_rfl)
        have f7 : ls 7 = false := hi_
        have f8 : ls 8 = false := notyet hc_ hi_ (n := 9) (by kernel_rfl)
        have hM_ := hJ
        simp only [f7, f8] at hM_
        refine From_call (by kernel_rfl : coreAt _ 0 = some (some 38, (Go.Op.call { callee := (Go.Callee.value (Go.Operand.func 28)), args := #[(Go.Operand.tmp 31), (Go.Operand.tmp 35), (Go.Operand.tmp 36), (Go.Operand.tmp 37)], argTypes := #[24, 3, 33, 27] }), 27, none)) hF (by kernel_rfl) (by kernel_rfl) (k' := 1) rfl (f := 28) (vs := [(.agg #[nm, wk, pa, va, (.slice A bs.length c)]), (.int .i64 (ti : Int)), (.slice (some ⟨g11, 0, none⟩) bs.length ci), (.slice A2 n2 c2)]) (cap := []) (by kernel_rfl) (by kernel_rfl) (by kernel_rfl) (ih (unmet bs.length S2) (by omega) _ _ _ _ _ _ bs ti _ _ inl2 _ _ _ o2 S2 s2 _ hm htn hin2 hSt (Nat.le_refl _) (by omega) hn2 hka (hM_.get 0 rfl) (hM_.get 1 rfl) (hM_.far (i := 0) (j := 1) rfl rfl (by decide)) (hA.but hM_.join 0 rfl)) ?_
        rintro _ w2 ⟨A3xp, n3p, c3xp, inl3p, rfl, hn3, hin3, hm2⟩ a2 ea _
        have hm3 := hM_.mod2 hm2
        refine From_end (by kernel_rfl) ?_; refine op_doneJ (d := some 38) (by kernel_rfl) ea trivial ?_
        show match ls 8 with | true => (∃ (A3x : Option Addr) (n3 : Nat) (c3x : Nat) (inl3 : List Bool), vs 8 = (.slice A3x n3 c3x) ∧ (n3 = s2.2.length + 1) ∧ (BoolsOf bs.length inl3 s2.1) ∧ Mem ((Res.and (.row 4 1 (some ⟨g11, 0, none⟩) bs.length ci (bools inl)) (.row 3 1 Ao no co (ints o))).fp) w w2 [.row 4 1 (some ⟨g11, 0, none⟩) bs.length ci (bools inl3), .row 3 1 A3x n3 c3x (ints (s2.2 ++ [(ti : Int)])), .blk b1 24 [nm, wk, pa, va, (.slice A bs.length c)], .row 3 1 (some ⟨g59, 0, none⟩) ((tg bs (b : Int)).length) c24 (ints (tg bs (b : Int)))]) | false => (∃ (A3x : Option Addr) (n3 : Nat) (c3x : Nat) (inl3 : List Bool), ((.slice A3xp n3p c3xp) : Value) = (.slice A3x n3 c3x) ∧ (n3 = s2.2.length + 1) ∧ (BoolsOf bs.length inl3 s2.1) ∧ Mem ((Res.and (.row 4 1 (some ⟨g11, 0, none⟩) bs.length ci (bools inl)) (.row 3 1 Ao no co (ints o))).fp) w w2 [.row 4 1 (some ⟨g11, 0, none⟩) bs.length ci (bools inl3), .row 3 1 A3x n3 c3x (ints (s2.2 ++ [(ti : Int)])), .blk b1 24 [nm, wk, pa, va, (.slice A bs.length c)], .row 3 1 (some ⟨g59, 0, none⟩) ((tg bs (b : Int)).length) c24 (ints (tg bs (b : Int)))])
        rw [f8]
        exact ⟨A3xp, n3p, c3xp, inl3p, rfl, hn3, hin3, hm3⟩
      · intro aa_ w_ ls vs rest_ hJ hi_ hc_ hp hF
        refine ⟨true, opok_guard (g0 := none) (by kernel_rfl) (by kernel_rfl), fun _ => ?_, fun h => Bool.noConfusion h⟩
        replace hF : Fr aa_ 43 [(38, vs 7)] := hF.keep (keep := [38]) (by kernel_rfl)
        have f7 : ls 7 = true := donebefore hc_ (fun k hk => (hp k hk).1) (n := 9) (by kernel_rfl)
        have f8 : ls 8 = false := hi_
        have hM_ := hJ
        simp only [f7, f8] at hM_
        obtain ⟨A3xp, n3p, c3xp, inl3p, e_, hn3, hin3, hm2⟩ := hM_
        rw [e_] at hF
        refine From_pure1 (by kernel_rfl : coreAt _ 0 = some (some 3, (Go.Op.assign (Go.Operand.tmp 38)), 27, none)) hF (by kernel_rfl) (by kernel_rfl) (k' := 1) rfl (v := (.slice A3xp n3p c3xp)) (by kernel_rfl) ?_
        intro a2 ea _
        refine From_end (by kernel_rfl) ?_; refine op_doneJ (d := some 3) (by kernel_rfl) ea trivial ?_
        show ∃ (A3x : Option Addr) (n3 : Nat) (c3x : Nat) (inl3 : List Bool), ((.slice A3xp n3p c3xp) : Value) = (.slice A3x n3 c3x) ∧ (n3 = s2.2.length + 1) ∧ (BoolsOf bs.length inl3 s2.1) ∧ Mem ((Res.and (.row 4 1 (some ⟨g11, 0, none⟩) bs.length ci (bools inl)) (.row 3 1 Ao no co (ints o))).fp) w w_ [.row 4 1 (some ⟨g11, 0, none⟩) bs.length ci (bools inl3), .row 3 1 A3x n3 c3x (ints (s2.2 ++ [(ti : Int)])), .blk b1 24 [nm, wk, pa, va, (.slice A bs.length c)], .row 3 1 (some ⟨g59, 0, none⟩) ((tg bs (b : Int)).length) c24 (ints (tg bs (b : Int)))]
        exact ⟨A3xp, n3p, c3xp, inl3p, rfl, hn3, hin3, hm2⟩
      intro a70 w72 ls vs hall hM73 hv hF71
      simp only [show ls 8 = true from hall 8 (by decide)] at hM73
      replace hF71 : Fr a70 43 [(1, (.int .i64 (b : Int))), (2, (.slice (some ⟨g11, 0, none⟩) bs.length ci)), (3, vs 8), (4, (.pointer (some ⟨b1, 0, none⟩))), (9, (.slice (some ⟨g59, 0, none⟩) ((tg bs (b : Int)).length) c24)), (10, (.int .i64 (k : Int)))] := hF71.keep (keep := [1, 2, 3, 4, 9, 10]) (by kernel_rfl)
      obtain ⟨A3x, n3, c3x, inl3, e_, hn3, hin3, hM73⟩ := hM73
      rw [e_] at hF71; clear e_
      clear hall hv hF69 a68 hM34; clear vs ls
      refine W_region (by kernel_rfl) ?_   -- region 5
      refine From_pure 1 1 [1, 2, 3, 4, 9, 21] hF71 (env' := [(1, (.int .i64 (b : Int))), (2, (.slice (some ⟨g11, 0, none⟩) bs.length ci)), (3, (.slice A3x n3 c3x)), (4, (.pointer (some ⟨b1, 0, none⟩))), (9, (.slice (some ⟨g59, 0, none⟩) ((tg bs (b : Int)).length) c24)), (21, (.int .i64 (k : Int)))]) (by kernel_rfl) rfl ?_
      intro a74 hF75; clear hF71 a70
      refine From_arith (by kernel_rfl : coreAt _ 1 = some (some 22, (Go.Op.binOp Go.BinOp.add 3 (Go.Operand.tmp 21) (Go.Operand.const (Go.Value.int Go.IntKind.i64 1)) 3), 3, none)) hF75 (by kernel_rfl) (by kernel_rfl) (k' := 2) rfl (i := (k : Int)) (j := 1) (z := ((k : Int) + 1)) (by kernel_rfl) (by kernel_rfl) rfl (by omega) (by have := tg_len bs (b : Int); omega) ?_
      intro a76 ea hF77; clear ea hF75 a74
      replace hF77 : Fr a76 43 [(1, (.int .i64 (b : Int))), (2, (.slice (some ⟨g11, 0, none⟩) bs.length ci)), (3, (.slice A3x n3 c3x)), (4, (.pointer (some ⟨b1, 0, none⟩))), (9, (.slice (some ⟨g59, 0, none⟩) ((tg bs (b : Int)).length) c24)), (22, (.int .i64 ((k : Int) + 1)))] := hF77.keep (keep := [1, 2, 3, 4, 9, 22]) (by kernel_rfl)
      refine From_pure 1 3 [1, 2, 3, 4, 9, 10] hF77 (env' := [(1, (.int .i64 (b : Int))), (2, (.slice (some ⟨g11, 0, none⟩) bs.length ci)), (3, (.slice A3x n3 c3x)), (4, (.pointer (some ⟨b1, 0, none⟩))), (9, (.slice (some ⟨g59, 0, none⟩) ((tg bs (b : Int)).length) c24)), (10, (.int .i64 ((k : Int) + 1)))]) (by kernel_rfl) rfl ?_
      intro a78 hF79; clear hF77 a76
      refine From_end (by kernel_rfl) ?_
      exact ⟨(tg bs (b : Int)).length - (k + 1), by omega, k + 1, inl3, s2.1, A3x, n3, c3x, s2.2 ++ [(ti : Int)], rfl, hF79.keep (keep := [1, 2, 3, 4, 9, 10]) (by kernel_rfl), hM73, by omega, hin3, hkb, by have := unmet_mono (n := bs.length) (Kids.mono hka); have := unmet_add (n := bs.length) (S := S2) (t := (ti : Int)) (by omega) (by omega) hSt; simp only at *; omega, by have := Kids.count (n := bs.length) (fun t x h => tg_mem h) hka (fun x h => tg_mem h); have := unmet_add (n := bs.length) (S := S2) (t := (ti : Int)) (by omega) (by omega) hSt; simp only [List.length_append, List.length_cons, List.length_nil] at *; omega, by simp only [List.length_append, List.length_cons, List.length_nil]; exact hn3⟩
    · have cin : (inl2.getD ti false) = true := hBin.symm
      have hSt : S2 (ti : Int) = true := by rw [← hin2.2 ti htn]; exact cin
      refine W_cond (t := 30) (B := false) (by kernel_rfl) hF69 (by kernel_rfl) (fun t => Bool.noConfusion t) (fun _ => ?_)
      refine W_skip (by kernel_rfl) ?_
      refine W_region (by kernel_rfl) ?_   -- region 5
      refine From_pure 1 1 [1, 2, 3, 4, 9, 21] hF69 (env' := [(1, (.int .i64 (b : Int))), (2, (.slice (some ⟨g11, 0, none⟩) bs.length ci)), (3, (.slice A2 n2 c2)), (4, (.pointer (some ⟨b1, 0, none⟩))), (9, (.slice (some ⟨g59, 0, none⟩) ((tg bs (b : Int)).length) c24)), (21, (.int .i64 (k : Int)))]) (by kernel_rfl) rfl ?_
      intro a80 hF81; clear hF69 a68
      refine From_arith (by kernel_rfl : coreAt _ 1 = some (some 22, (Go.Op.binOp Go.BinOp.add 3 (Go.Operand.tmp 21) (Go.Operand.const (Go.Value.int Go.IntKind.i64 1)) 3), 3, none)) hF81 (by kernel_rfl) (by kernel_rfl) (k' := 2) rfl (i := (k : Int)) (j := 1) (z := ((k : Int) + 1)) (by kernel_rfl) (by kernel_rfl) rfl (by omega) (by have := tg_len bs (b : Int); omega) ?_
      intro a82 ea hF83; clear ea hF81 a80
      replace hF83 : Fr a82 43 [(1, (.int .i64 (b : Int))), (2, (.slice (some ⟨g11, 0, none⟩) bs.length ci)), (3, (.slice A2 n2 c2)), (4, (.pointer (some ⟨b1, 0, none⟩))), (9, (.slice (some ⟨g59, 0, none⟩) ((tg bs (b : Int)).length) c24)), (22, (.int .i64 ((k : Int) + 1)))] := hF83.keep (keep := [1, 2, 3, 4, 9, 22]) (by kernel_rfl)
      refine From_pure 1 3 [1, 2, 3, 4, 9, 10] hF83 (env' := [(1, (.int .i64 (b : Int))), (2, (.slice (some ⟨g11, 0, none⟩) bs.length ci)), (3, (.slice A2 n2 c2)), (4, (.pointer (some ⟨b1, 0, none⟩))), (9, (.slice (some ⟨g59, 0, none⟩) ((tg bs (b : Int)).length) c24)), (10, (.int .i64 ((k : Int) + 1)))]) (by kernel_rfl) rfl ?_
      intro a84 hF85; clear hF83 a82
      refine From_end (by kernel_rfl) ?_
      exact ⟨(tg bs (b : Int)).length - (k + 1), by omega, k + 1, inl2, S2, A2, n2, c2, o2, rfl, hF85.keep (keep := [1, 2, 3, 4, 9, 10]) (by kernel_rfl), hM34, by omega, hin2, kids_skip hkids hti hSt, hum, hcnt, hn2⟩
theorem rord_all (m : Nat) : ROrd m := by
  induction m using Nat.strongRecOn with
  | _ m ih => exact rord_step m ih

set_option maxRecDepth 10000 in
theorem rorder_c (nm wk pa va : Value) (A : Option Addr) (c : Nat) (bs : List SB) (w : World) (hm : bs.length ≤ 1000000) (hA : RO noS w (.blocks A bs)) :
    Calls Try.prog 12 #[(.agg #[nm, wk, pa, va, (.slice A bs.length c)])] w (Ret fun v w' => ∃ A' c', v = .slice A' (orderL bs).length c' ∧ Mem noS w w' [.row 3 1 A' (orderL bs).length c' (ints (orderL bs))]) := by
  refine enter (N := 47) (vs := [(.agg #[nm, wk, pa, va, (.slice A bs.length c)])]) Try.func12 (by kernel_rfl) (by kernel_rfl) (by kernel_rfl) ?_
  intro a hF
  have hM := Mem.init w
  refine W_seq (by kernel_rfl) ?_
  refine W_region (by kernel_rfl) ?_   -- region 0
  refine From_box (by kernel_rfl : coreAt _ 0 = some (some 1, (Go.Op.box 24 (Go.Operand.tmp 0)), 0, none)) hF (by kernel_rfl) (by kernel_rfl) (k' := 1) rfl (v := (.agg #[nm, wk, pa, va, (.slice A bs.length c)])) (cs := [nm, wk, pa, va, (.slice A bs.length c)]) (by kernel_rfl) rfl hM ?_
  intro b1 w2 hb1 _ hM3 _ a4 ea hF5; clear ea hF a
  change Mem noS w w2 [.blk b1 24 [nm, wk, pa, va, (.slice A bs.length c)]] at hM3
  clear hM
  replace hF5 : Fr a4 47 [(1, (.pointer (some ⟨b1, 0, none⟩)))] := hF5.keep (keep := [1]) (by kernel_rfl)
  refine From_pure 1 2 [1] hF5 (env' := [(1, (.pointer (some ⟨b1, 0, none⟩)))]) (by kernel_rfl) rfl ?_
  intro a6 hF7; clear hF5 a4
  refine From_end (by kernel_rfl) ?_
  refine W_seq (by kernel_rfl) ?_
  refine W_seq (by kernel_rfl) ?_
  refine W_region (by kernel_rfl) ?_   -- region 1
  refine From_pure 1 1 [1, 6] hF7 (env' := [(1, (.pointer (some ⟨b1, 0, none⟩))), (6, (.pointer (some ⟨b1, 4, none⟩)))]) (by kernel_rfl) rfl ?_
  intro a8 hF9; clear hF7 a6
  refine From_load1 (by kernel_rfl : coreAt _ 1 = some (some 7, (Go.Op.load 22 (Go.Operand.tmp 6)), 22, none)) hF9 (by kernel_rfl) (by kernel_rfl) (k' := 2) rfl (ad := ⟨b1, 4, none⟩) (v := (.slice A bs.length c)) (by kernel_rfl) (by kernel_rfl) (blk_cell (hM3.get 0 rfl) rfl) ?_
  intro a10 ea hF11; clear ea hF9 a8
  replace hF11 : Fr a10 47 [(1, (.pointer (some ⟨b1, 0, none⟩))), (7, (.slice A bs.length c))] := hF11.keep (keep := [1, 7]) (by kernel_rfl)
  refine From_pure 1 3 [1, 8] hF11 (env' := [(1, (.pointer (some ⟨b1, 0, none⟩))), (8, (.int .i64 ((bs.length : Nat) : Int)))]) (by kernel_rfl) rfl ?_
  intro a12 hF13; clear hF11 a10
  refine From_cmp (by kernel_rfl : coreAt _ 3 = some (some 9, (Go.Op.binOp Go.BinOp.eql 3 (Go.Operand.tmp 8) (Go.Operand.const (Go.Value.int Go.IntKind.i64 0)) 3), 4, none)) hF13 (by kernel_rfl) (by kernel_rfl) (k' := 4) rfl (kd := .i64) (i := ((bs.length : Nat) : Int)) (j := 0) (by kernel_rfl) (by kernel_rfl) rfl ?_
  intro Bz hBz a14 ea hF15; clear ea hF13 a12
  replace hF15 : Fr a14 47 [(1, (.pointer (some ⟨b1, 0, none⟩))), (9, (.bool Bz))] := hF15.keep (keep := [1, 9]) (by kernel_rfl)
  refine From_end (by kernel_rfl) ?_
  cases Bz
  · have cz : ¬ (((bs.length : Nat) : Int) = 0) := by simpa using hBz
    refine W_cond (t := 9) (B := false) (by kernel_rfl) hF15 (by kernel_rfl) (fun t => Bool.noConfusion t) (fun _ => ?_)
    refine W_skip (by kernel_rfl) ?_
    refine W_seq (by kernel_rfl) ?_
    obtain ⟨s0, hk0, hl0⟩ := left_kids bs
    have hnz : 0 < bs.length := by omega
    have hll := leftL_len hnz
    have hb0 := BoolsOf.start bs.length
    refine W_drawJ (N := 47) (env0 := [(1, (.pointer (some ⟨b1, 0, none⟩))), (9, (.bool false))]) (by kernel_rfl) (by kernel_rfl) (specAt [.det (.agg #[nm, wk, pa, va, (.slice A bs.length c)]), .det (.pointer (some ⟨b1, 4, none⟩)), .det (.slice A bs.length c), .det (.int .i64 ((bs.length : Nat) : Int)), Spec.free, Spec.free, Spec.free]) (fun ls vs w_ => match ls 6 with | true => (∃ (g16 : Nat) (A3x : Option Addr) (n3 : Nat) (c3x : Nat) (inl3 : List Bool), vs 6 = (.slice A3x n3 c3x) ∧ (n3 = s0.2.length + 1) ∧ Mem noS w w_ [.row 4 1 (some ⟨g16, 0, none⟩) bs.length bs.length (bools inl3), .row 3 1 A3x n3 c3x (ints (s0.2 ++ [0])), .blk b1 24 [nm, wk, pa, va, (.slice A bs.length c)]]) | false => (match ls 5 with | true => (∃ (g16 : Nat) (A3x : Option Addr) (n3 : Nat) (c3x : Nat) (inl3 : List Bool), vs 5 = (.slice A3x n3 c3x) ∧ (n3 = s0.2.length + 1) ∧ Mem noS w w_ [.row 4 1 (some ⟨g16, 0, none⟩) bs.length bs.length (bools inl3), .row 3 1 A3x n3 c3x (ints (s0.2 ++ [0])), .blk b1 24 [nm, wk, pa, va, (.slice A bs.length c)]]) | false => (match ls 4 with | true => (∃ (g16 : Nat), vs 4 = (.slice (some ⟨g16, 0, none⟩) bs.length bs.length) ∧ Mem noS w w_ [.blk b1 24 [nm, wk, pa, va, (.slice A bs.length c)], .row 4 1 (some ⟨g16, 0, none⟩) bs.length bs.length (bools (List.replicate bs.length false)), .row 3 1 none 0 0 (ints [])]) | false => (Mem noS w w_ [.blk b1 24 [nm, wk, pa, va, (.slice A bs.length c)]])))) (by kernel_rfl) (by kernel_rfl) hF15 (by kernel_rfl) (by kernel_rfl) (plain_ok (.det (.det (.det (.det (.free (.free (.free .nil)))))))) (hM3.then_ (Mem.drew _)) (lt_succ_all (lt_succ_all (lt_succ_all (lt_succ_all (lt_succ_all (lt_succ_all (lt_succ_all lt_zero_all ?_) ?_) ?_) ?_) ?_) ?_) ?_) ?_   -- region 3
    · intro aa_ w_ ls vs rest_ hJ hi_ hc_ hp hF
      refine ⟨true, opok_guard (g0 := none) (by kernel_rfl) (by kernel_rfl), fun _ => ?_, fun h => Bool.noConfusion h⟩
      replace hF : Fr aa_ 47 [(1, (.pointer (some ⟨b1, 0, none⟩)))] := hF.keep (keep := [1]) (by kernel_rfl)
      have f5 : ls 5 = false := notyet hc_ hi_ (n := 7) (by kernel_rfl)
      have f6 : ls 6 = false := notyet hc_ hi_ (n := 7) (by kernel_rfl)
      have hM_ := hJ
      simp only [f5, f6] at hM_
      cases fu : ls 4
      · simp only [fu] at hM_
        refine From_loadS (by kernel_rfl : coreAt _ 0 = some (some 10, (Go.Op.load 24 (Go.Operand.tmp 1)), 24, none)) hF (by kernel_rfl) (by kernel_rfl) (k' := 1) rfl (ad := ⟨b1, 0, none⟩) (vs := [nm, wk, pa, va, (.slice A bs.length c)]) (by kernel_rfl) (by kernel_rfl) (blk_cells (hM_.get 0 rfl)) ?_
        intro a2 ea _
        refine From_end (by kernel_rfl) ?_; exact op_doneJ (d := some 10) (by kernel_rfl) ea rfl hJ
      · simp only [fu] at hM_
        obtain ⟨_, _, hM_⟩ := hM_
        refine From_loadS (by kernel_rfl : coreAt _ 0 = some (some 10, (Go.Op.load 24 (Go.Operand.tmp 1)), 24, none)) hF (by kernel_rfl) (by kernel_rfl) (k' := 1) rfl (ad := ⟨b1, 0, none⟩) (vs := [nm, wk, pa, va, (.slice A bs.length c)]) (by kernel_rfl) (by kernel_rfl) (blk_cells (hM_.get 0 rfl)) ?_
        intro a2 ea _
        refine From_end (by kernel_rfl) ?_; exact op_doneJ (d := some 10) (by kernel_rfl) ea rfl hJ
    · intro aa_ w_ ls vs rest_ hJ hi_ hc_ hp hF
      refine ⟨true, opok_guard (g0 := none) (by kernel_rfl) (by kernel_rfl), fun _ => ?_, fun h => Bool.noConfusion h⟩
      replace hF : Fr aa_ 47 [(1, (.pointer (some ⟨b1, 0, none⟩)))] := hF.keep (keep := [1]) (by kernel_rfl)
      refine From_pure1 (by kernel_rfl : coreAt _ 0 = some (some 11, (Go.Op.fieldAddr 24 (Go.Operand.tmp 1) 4), 0, none)) hF (by kernel_rfl) (by kernel_rfl) (k' := 1) rfl (v := (.pointer (some ⟨b1, 4, none⟩))) (by kernel_rfl) ?_
      intro a2 ea _
      refine From_end (by kernel_rfl) ?_; exact op_doneJ (d := some 11) (by kernel_rfl) ea rfl hJ
    · intro aa_ w_ ls vs rest_ hJ hi_ hc_ hp hF
      refine ⟨true, opok_guard (g0 := none) (by kernel_rfl) (by kernel_rfl), fun _ => ?_, fun h => Bool.noConfusion h⟩
      replace hF : Fr aa_ 47 [(11, (.pointer (some ⟨b1, 4, none⟩)))] := hF.keep (keep := [11]) (by kernel_rfl)
      have f4 : ls 4 = false := notyet hc_ hi_ (n := 7) (by kernel_rfl)
      have f5 : ls 5 = false := notyet hc_ hi_ (n := 7) (by kernel_rfl)
      have f6 : ls 6 = false := notyet hc_ hi_ (n := 7) (by kernel_rfl)
      have hM_ := hJ
      simp only [f4, f5, f6] at hM_
      refine From_load1 (by kernel_rfl : coreAt _ 0 = some (some 12, (Go.Op.load 22 (Go.Operand.tmp 11)), 22, none)) hF (by kernel_rfl) (by kernel_rfl) (k' := 1) rfl (ad := ⟨b1, 4, none⟩) (v := (.slice A bs.length c)) (by kernel_rfl) (by kernel_rfl) (blk_cell (hM_.get 0 rfl) rfl) ?_
      intro a2 ea _
      refine From_end (by kernel_rfl) ?_; exact op_doneJ (d := some 12) (by kernel_rfl) ea rfl hJ
    · intro aa_ w_ ls vs rest_ hJ hi_ hc_ hp hF
      refine ⟨true, opok_guard (g0 := none) (by kernel_rfl) (by kernel_rfl), fun _ => ?_, fun h => Bool.noConfusion h⟩
      replace hF : Fr aa_ 47 [(12, (.slice A bs.length c))] := hF.keep (keep := [12]) (by kernel_rfl)
      refine From_pure1 (by kernel_rfl : coreAt _ 0 = some (some 13, (Go.Op.call { callee := (Go.Callee.builtin Go.Builtin.len), args := #[(Go.Operand.tmp 12)], argTypes := #[22] }), 3, none)) hF (by kernel_rfl) (by kernel_rfl) (k' := 1) rfl (v := (.int .i64 ((bs.length : Nat) : Int))) (by kernel_rfl) ?_
      intro a2 ea _
      refine From_end (by kernel_rfl) ?_; exact op_doneJ (d := some 13) (by kernel_rfl) ea rfl hJ
    · intro aa_ w_ ls vs rest_ hJ hi_ hc_ hp hF
      refine ⟨true, opok_guard (g0 := none) (by kernel_rfl) (by kernel_rfl), fun _ => ?_, fun h => Bool.noConfusion h⟩
      replace hF : Fr aa_ 47 [(13, (.int .i64 ((bs.length : Nat) : Int)))] := hF.keep (keep := [13]) (by kernel_rfl)
      have f4 : ls 4 = false := hi_
      have f5 : ls 5 = false := notyet hc_ hi_ (n := 7) (by kernel_rfl)
      have f6 : ls 6 = false := notyet hc_ hi_ (n := 7) (by kernel_rfl)
      have hM_ := hJ
      simp only [f4, f5, f6] at hM_
      refine From_make1 (by kernel_rfl : coreAt _ 0 = some (some 14, (Go.Op.makeSlice 33 (Go.Operand.tmp 13) (Go.Operand.tmp 13)), 33, none)) hF (by kernel_rfl) (by kernel_rfl) (k' := 1) rfl (e := 4) (bytes := 1) (z := (.bool false)) (n := bs.length) (i := ((bs.length : Nat) : Int)) (by kernel_rfl) (by kernel_rfl) rfl (by kernel_rfl) (by kernel_rfl) rfl (by omega) (by simp only [maxLen]; omega) hM_ ?_
      intro g16p w2 _ _ hm2 _ a2 ea _
      have hm3 := (hm2.call (Mem.nilrow _ 3 1)).cast (L' := [.blk b1 24 [nm, wk, pa, va, (.slice A bs.length c)], .row 4 1 (some ⟨g16p, 0, none⟩) bs.length bs.length (bools (List.replicate bs.length false)), .row 3 1 none 0 0 (ints [])]) (by simp [bools, ints])
      refine From_end (by kernel_rfl) ?_; refine op_doneJ (d := some 14) (by kernel_rfl) ea trivial ?_
      show match ls 6 with | true => (∃ (g16 : Nat) (A3x : Option Addr) (n3 : Nat) (c3x : Nat) (inl3 : List Bool), vs 6 = (.slice A3x n3 c3x) ∧ (n3 = s0.2.length + 1) ∧ Mem noS w w2 [.row 4 1 (some ⟨g16, 0, none⟩) bs.length bs.length (bools inl3), .row 3 1 A3x n3 c3x (ints (s0.2 ++ [0])), .blk b1 24 [nm, wk, pa, va, (.slice A bs.length c)]]) | false => (match ls 5 with | true => (∃ (g16 : Nat) (A3x : Option Addr) (n3 : Nat) (c3x : Nat) (inl3 : List Bool), vs 5 = (.slice A3x n3 c3x) ∧ (n3 = s0.2.length + 1) ∧ Mem noS w w2 [.row 4 1 (some ⟨g16, 0, none⟩) bs.length bs.length (bools inl3), .row 3 1 A3x n3 c3x (ints (s0.2 ++ [0])), .blk b1 24 [nm, wk, pa, va, (.slice A bs.length c)]]) | false => (∃ (g16 : Nat), ((.slice (some ⟨g16p, 0, none⟩) bs.length bs.length) : Value) = (.slice (some ⟨g16, 0, none⟩) bs.length bs.length) ∧ Mem noS w w2 [.blk b1 24 [nm, wk, pa, va, (.slice A bs.length c)], .row 4 1 (some ⟨g16, 0, none⟩) bs.length bs.length (bools (List.replicate bs.length false)), .row 3 1 none 0 0 (ints [])]))
      rw [f6, f5]
      exact ⟨g16p, rfl, hm3⟩
    · intro aa_ w_ ls vs rest_ hJ hi_ hc_ hp hF
      refine ⟨true, opok_guard (g0 := none) (by kernel_rfl) (by kernel_rfl), fun _ => ?_, fun h => Bool.noConfusion h⟩
      replace hF : Fr aa_ 47 [(10, (.agg #[nm, wk, pa, va, (.slice A bs.length c)])), (14, vs 4)] := hF.keep (keep := [10, 14]) (by kernel_rfl)
      have f4 : ls 4 = true := donebefore hc_ (fun k hk => (hp k hk).1) (n := 7) (by kernel_rfl)
      have f5 : ls 5 = false := hi_
      have f6 : ls 6 = false := notyet hc_ hi_ (n := 7) (by kernel_rfl)
      have hM_ := hJ
      simp only [f4, f5, f6] at hM_
      obtain ⟨g16p, e_, hM_⟩ := hM_
      try rw [e_] at hF
      refine From_call (by kernel_rfl : coreAt _ 0 = some (some 15, (Go.Op.call { callee := (Go.Callee.value (Go.Operand.func 28)), args := #[(Go.Operand.tmp 10), (Go.Operand.const (Go.Value.int Go.IntKind.i64 0)), (Go.Operand.tmp 14), (Go.Operand.const (Go.Value.slice none 0 0))], argTypes := #[24, 3, 33, 27] }), 27, none)) hF (by kernel_rfl) (by kernel_rfl) (k' := 1) rfl (f := 28) (vs := [(.agg #[nm, wk, pa, va, (.slice A bs.length c)]), (.int .i64 0), (.slice (some ⟨g16p, 0, none⟩) bs.length bs.length), (.slice none 0 0)]) (cap := []) (by kernel_rfl) (by kernel_rfl) (by kernel_rfl) (rord_all bs.length _ _ _ _ _ _ bs 0 _ _ (List.replicate bs.length false) _ _ _ [] (fun _ => false) s0 _ hm hnz hb0 rfl (unmet_le _ _) (by simpa using unmet_le bs.length (fun _ => false)) rfl hk0 ((hM_.get 1 rfl)) (hM_.get 2 rfl) (hM_.far (i := 1) (j := 2) rfl rfl (by decide)) (hA.but ((hM_.front 2 rfl).front 2 rfl).join 0 rfl)) ?_
      rintro _ w2 ⟨A3xp, n3p, c3xp, inl3p, rfl, hn3, hin3, hm2⟩ a2 ea _
      replace hM_ := (hM_.front 2 rfl).front 2 rfl
      have hm3 := hM_.mod2 hm2
      refine From_end (by kernel_rfl) ?_; refine op_doneJ (d := some 15) (by kernel_rfl) ea trivial ?_
      show match ls 6 with | true => (∃ (g16 : Nat) (A3x : Option Addr) (n3 : Nat) (c3x : Nat) (inl3 : List Bool), vs 6 = (.slice A3x n3 c3x) ∧ (n3 = s0.2.length + 1) ∧ Mem noS w w2 [.row 4 1 (some ⟨g16, 0, none⟩) bs.length bs.length (bools inl3), .row 3 1 A3x n3 c3x (ints (s0.2 ++ [0])), .blk b1 24 [nm, wk, pa, va, (.slice A bs.length c)]]) | false => (∃ (g16 : Nat) (A3x : Option Addr) (n3 : Nat) (c3x : Nat) (inl3 : List Bool), ((.slice A3xp n3p c3xp) : Value) = (.slice A3x n3 c3x) ∧ (n3 = s0.2.length + 1) ∧ Mem noS w w2 [.row 4 1 (some ⟨g16, 0, none⟩) bs.length bs.length (bools inl3), .row 3 1 A3x n3 c3x (ints (s0.2 ++ [0])), .blk b1 24 [nm, wk, pa, va, (.slice A bs.length c)]])
      rw [f6]
      exact ⟨g16p, A3xp, n3p, c3xp, inl3p, rfl, hn3, hm3⟩
    · intro aa_ w_ ls vs rest_ hJ hi_ hc_ hp hF
      refine ⟨true, opok_guard (g0 := none) (by kernel_rfl) (by kernel_rfl), fun _ => ?_, fun h => Bool.noConfusion h⟩
      replace hF : Fr aa_ 47 [(15, vs 5)] := hF.keep (keep := [15]) (by kernel_rfl)
      have f4 : ls 4 = true := donebefore hc_ (fun k hk => (hp k hk).1) (n := 7) (by kernel_rfl)
      have f5 : ls 5 = true := donebefore hc_ (fun k hk => (hp k hk).1) (n := 7) (by kernel_rfl)
      have f6 : ls 6 = false := hi_
      have hM_ := hJ
      simp only [f4, f5, f6] at hM_
      obtain ⟨g16p, A3xp, n3p, c3xp, inl3p, e_, hn3, hm2⟩ := hM_
      rw [e_] at hF
      refine From_pure1 (by kernel_rfl : coreAt _ 0 = some (some 3, (Go.Op.assign (Go.Operand.tmp 15)), 27, none)) hF (by kernel_rfl) (by kernel_rfl) (k' := 1) rfl (v := (.slice A3xp n3p c3xp)) (by kernel_rfl) ?_
      intro a2 ea _
      refine From_end (by kernel_rfl) ?_; refine op_doneJ (d := some 3) (by kernel_rfl) ea trivial ?_
      show ∃ (g16 : Nat) (A3x : Option Addr) (n3 : Nat) (c3x : Nat) (inl3 : List Bool), ((.slice A3xp n3p c3xp) : Value) = (.slice A3x n3 c3x) ∧ (n3 = s0.2.length + 1) ∧ Mem noS w w_ [.row 4 1 (some ⟨g16, 0, none⟩) bs.length bs.length (bools inl3), .row 3 1 A3x n3 c3x (ints (s0.2 ++ [0])), .blk b1 24 [nm, wk, pa, va, (.slice A bs.length c)]]
      exact ⟨g16p, A3xp, n3p, c3xp, inl3p, rfl, hn3, hm2⟩
    intro a17 w19 ls vs hall hM20 hv hF18
    simp only [show ls 6 = true from hall 6 (by decide)] at hM20
    replace hF18 : Fr a17 47 [(3, vs 6)] := hF18.keep (keep := [3]) (by kernel_rfl)
    obtain ⟨g16, A3x, n3, c3x, inl3, e_, hn3, hM20⟩ := hM20
    rw [e_] at hF18; clear e_
    clear hall hv hF15 a14 hM3; clear vs ls
    refine W_seq (by kernel_rfl) ?_
    refine W_seq (by kernel_rfl) ?_
    refine W_region (by kernel_rfl) ?_   -- region 4
    refine From_pure 1 1 [3, 4] hF18 (env' := [(3, (.slice A3x n3 c3x)), (4, (.int .i64 0))]) (by kernel_rfl) rfl ?_
    intro a21 hF22; clear hF18 a17
    refine From_end (by kernel_rfl) ?_
    refine W_block (id := 0) (by kernel_rfl) ?_
    obtain rfl : n3 = (leftL bs).length := by rw [← hl0]; simp [hn3]
    have hM23 : Mem noS w w19 [.row 4 1 (some ⟨g16, 0, none⟩) bs.length bs.length (bools inl3), .row 3 1 A3x ((leftL bs).length) c3x (ints (leftL bs)), .blk b1 24 [nm, wk, pa, va, (.slice A bs.length c)]] := hM20.cast (by rw [hl0])
    clear hM20
    replace hM23 : Mem noS w w19 [.row 3 1 A3x ((leftL bs).length) c3x (ints (leftL bs))] := hM23.pick [false, true, false] rfl
    refine W_loop (by kernel_rfl) (fun n_ a_ w_ => ∃ (k : Nat) (m : List Int), n_ = (leftL bs).length - k ∧ Fr a_ 47 [(3, (.slice A3x ((leftL bs).length) c3x)), (4, (.int .i64 (k : Int)))] ∧ Mem noS w w_ [.row 3 1 A3x ((leftL bs).length) c3x (ints m)] ∧ (2 * k ≤ (leftL bs).length) ∧ (Swapped (leftL bs) m k)) (n := _) ⟨0, (leftL bs), rfl, hF22.keep (keep := [3, 4]) (by kernel_rfl), hM23, by omega, swapped_start _⟩ ?_
    clear hF22 a21 hM23; rintro n a26 w24 ⟨k, m, rfl, hF27, hM25, hk, hs⟩
    refine W_seq (by kernel_rfl) ?_
    refine W_seq (by kernel_rfl) ?_
    refine W_region (by kernel_rfl) ?_   -- region 5
    refine From_pure 3 3 [3, 4, 16, 18] hF27 (env' := [(3, (.slice A3x ((leftL bs).length) c3x)), (4, (.int .i64 (k : Int))), (16, (.int .i64 (k : Int))), (18, (.int .i64 (((leftL bs).length : Nat) : Int)))]) (by kernel_rfl) rfl ?_
    intro a28 hF29; clear hF27 a26
    refine From_binI (by kernel_rfl : coreAt _ 3 = some (some 19, (Go.Op.binOp Go.BinOp.quo 3 (Go.Operand.tmp 18) (Go.Operand.const (Go.Value.int Go.IntKind.i64 2)) 3), 3, none)) hF29 (by kernel_rfl) (by kernel_rfl) (k' := 4) rfl (kd := .i64) (kd' := .i64) (i := (((leftL bs).length : Nat) : Int)) (j := 2) (z := .int .i64 (((leftL bs).length / 2 : Nat) : Int)) (by kernel_rfl) (by kernel_rfl) (fun w => bin_quoN 2 (by omega) (by decide) w) ?_
    intro a30 ea hF31; clear ea hF29 a28
    replace hF31 : Fr a30 47 [(3, (.slice A3x ((leftL bs).length) c3x)), (4, (.int .i64 (k : Int))), (16, (.int .i64 (k : Int))), (19, (.int .i64 (((leftL bs).length / 2 : Nat) : Int)))] := hF31.keep (keep := [3, 4, 16, 19]) (by kernel_rfl)
    refine From_cmp (by kernel_rfl : coreAt _ 4 = some (some 20, (Go.Op.binOp Go.BinOp.lss 3 (Go.Operand.tmp 16) (Go.Operand.tmp 19) 3), 4, none)) hF31 (by kernel_rfl) (by kernel_rfl) (k' := 5) rfl (kd := .i64) (i := (k : Int)) (j := (((leftL bs).length / 2 : Nat) : Int)) (by kernel_rfl) (by kernel_rfl) rfl ?_
    intro Blt hBlt a32 ea hF33; clear ea hF31 a30
    replace hF33 : Fr a32 47 [(3, (.slice A3x ((leftL bs).length) c3x)), (4, (.int .i64 (k : Int))), (20, (.bool Blt))] := hF33.keep (keep := [3, 4, 20]) (by kernel_rfl)
    refine From_end (by kernel_rfl) ?_
    cases Blt
    · have clt : ¬ ((k : Int) < (((leftL bs).length / 2 : Nat) : Int)) := by simpa using hBlt
      refine W_cond (t := 20) (B := false) (by kernel_rfl) hF33 (by kernel_rfl) (fun t => Bool.noConfusion t) (fun _ => ?_)
      refine W_exit (id := 0) (by kernel_rfl) ?_
      refine inB_hit rfl ?_
      refine W_seq (by kernel_rfl) ?_
      refine W_region (by kernel_rfl) ?_   -- region 10
      refine From_pure 2 2 [2] hF33 (env' := [(2, (.slice A3x ((leftL bs).length) c3x))]) (by kernel_rfl) rfl ?_
      intro a34 hF35; clear hF33 a32
      refine From_end (by kernel_rfl) ?_
      refine W_ret (by kernel_rfl) ?_
      refine out1 (v := (.slice A3x ((leftL bs).length) c3x)) hF35 rfl (by kernel_rfl) ?_
      refine ⟨_, rfl, ?_⟩
      exact row_ret hM25 (by unfold orderL; rw [if_neg (by omega), swapped_end hs (by omega)]) hs.1.symm
    · have clt : (k : Int) < (((leftL bs).length / 2 : Nat) : Int) := by simpa using hBlt
      refine W_cond (t := 20) (B := true) (by kernel_rfl) hF33 (by kernel_rfl) (fun _ => ?_) (fun t => Bool.noConfusion t)
      refine W_skip (by kernel_rfl) ?_
      refine W_seq (by kernel_rfl) ?_
      refine W_block (id := 1) (by kernel_rfl) ?_
      refine W_seq (by kernel_rfl) ?_
      refine W_region (by kernel_rfl) ?_   -- region 7
      obtain ⟨q, hq⟩ : ∃ q : Nat, q + k + 1 = (leftL bs).length := ⟨(leftL bs).length - 1 - k, by omega⟩
      have hml : m.length = (leftL bs).length := hs.1
      refine From_pure 2 2 [3, 4, 23, 24] hF33 (env' := [(3, (.slice A3x ((leftL bs).length) c3x)), (4, (.int .i64 (k : Int))), (23, (.slice A3x ((leftL bs).length) c3x)), (24, (.int .i64 (k : Int)))]) (by kernel_rfl) rfl ?_
      intro a36 hF37; clear hF33 a32
      obtain ⟨g39, rfl⟩ := row_some (hM25.get 0 rfl) (by omega)
      refine From_index (by kernel_rfl : coreAt _ 2 = some (some 25, (Go.Op.indexAddr 27 (Go.Operand.tmp 23) (Go.Operand.tmp 24)), 0, none)) hF37 (by kernel_rfl) (by kernel_rfl) (k' := 3) rfl (A := (some ⟨g39, 0, none⟩)) (ad := ⟨g39, 0, none⟩) (n := ((leftL bs).length)) (cap := c3x) (e := 3) (size := 1) (kd := .i64) (i := (k : Int)) (by kernel_rfl) (by kernel_rfl) rfl (by kernel_rfl) (by kernel_rfl) (by omega) (by omega) ?_
      intro a40 ea hF41; clear ea hF37 a36
      replace hF41 : Fr a40 47 [(3, (.slice (some ⟨g39, 0, none⟩) ((leftL bs).length) c3x)), (4, (.int .i64 (k : Int))), (25, (.pointer (some ((⟨g39, 0, none⟩ : Addr).add (((k : Int)).toNat * 1)))))] := hF41.keep (keep := [3, 4, 25]) (by kernel_rfl)
      refine From_load1 (by kernel_rfl : coreAt _ 3 = some (some 26, (Go.Op.load 3 (Go.Operand.tmp 25)), 3, none)) hF41 (by kernel_rfl) (by kernel_rfl) (k' := 4) rfl (ad := ((⟨g39, 0, none⟩ : Addr).add (((k : Int)).toNat * 1))) (v := (.int .i64 (m.getD (k : Int).toNat 0))) (by kernel_rfl) (by kernel_rfl) (rd_int (row_rd (hM25.get 0 rfl)) rfl (by omega) (by omega)) ?_
      intro a42 ea hF43; clear ea hF41 a40
      replace hF43 : Fr a42 47 [(3, (.slice (some ⟨g39, 0, none⟩) ((leftL bs).length) c3x)), (4, (.int .i64 (k : Int))), (26, (.int .i64 (m.getD (k : Int).toNat 0)))] := hF43.keep (keep := [3, 4, 26]) (by kernel_rfl)
      refine From_pure 1 5 [3, 4, 5] hF43 (env' := [(3, (.slice (some ⟨g39, 0, none⟩) ((leftL bs).length) c3x)), (4, (.int .i64 (k : Int))), (5, (.int .i64 (m.getD (k : Int).toNat 0)))]) (by kernel_rfl) rfl ?_
      intro a44 hF45; clear hF43 a42
      refine From_end (by kernel_rfl) ?_
      refine W_seq (by kernel_rfl) ?_
      refine W_region (by kernel_rfl) ?_   -- region 8
      refine From_pure 5 5 [3, 4, 5, 27, 28, 29, 31] hF45 (env' := [(3, (.slice (some ⟨g39, 0, none⟩) ((leftL bs).length) c3x)), (4, (.int .i64 (k : Int))), (5, (.int .i64 (m.getD (k : Int).toNat 0))), (27, (.slice (some ⟨g39, 0, none⟩) ((leftL bs).length) c3x)), (28, (.int .i64 (k : Int))), (29, (.slice (some ⟨g39, 0, none⟩) ((leftL bs).length) c3x)), (31, (.int .i64 (((leftL bs).length : Nat) : Int)))]) (by kernel_rfl) rfl ?_
      intro a46 hF47; clear hF45 a44
      refine From_arith (by kernel_rfl : coreAt _ 5 = some (some 32, (Go.Op.binOp Go.BinOp.sub 3 (Go.Operand.tmp 31) (Go.Operand.const (Go.Value.int Go.IntKind.i64 1)) 3), 3, none)) hF47 (by kernel_rfl) (by kernel_rfl) (k' := 6) rfl (i := (((leftL bs).length : Nat) : Int)) (j := 1) (z := ((((leftL bs).length : Nat) : Int) - 1)) (by kernel_rfl) (by kernel_rfl) rfl (by omega) (by omega) ?_
      intro a48 ea hF49; clear ea hF47 a46
      replace hF49 : Fr a48 47 [(3, (.slice (some ⟨g39, 0, none⟩) ((leftL bs).length) c3x)), (4, (.int .i64 (k : Int))), (5, (.int .i64 (m.getD (k : Int).toNat 0))), (27, (.slice (some ⟨g39, 0, none⟩) ((leftL bs).length) c3x)), (28, (.int .i64 (k : Int))), (29, (.slice (some ⟨g39, 0, none⟩) ((leftL bs).length) c3x)), (32, (.int .i64 ((((leftL bs).length : Nat) : Int) - 1)))] := hF49.keep (keep := [3, 4, 5, 27, 28, 29, 32]) (by kernel_rfl)
      refine From_pure 1 7 [3, 4, 5, 27, 28, 29, 32, 33] hF49 (env' := [(3, (.slice (some ⟨g39, 0, none⟩) ((leftL bs).length) c3x)), (4, (.int .i64 (k : Int))), (5, (.int .i64 (m.getD (k : Int).toNat 0))), (27, (.slice (some ⟨g39, 0, none⟩) ((leftL bs).length) c3x)), (28, (.int .i64 (k : Int))), (29, (.slice (some ⟨g39, 0, none⟩) ((leftL bs).length) c3x)), (32, (.int .i64 ((((leftL bs).length : Nat) : Int) - 1))), (33, (.int .i64 (k : Int)))]) (by kernel_rfl) rfl ?_
      intro a50 hF51; clear hF49 a48
      refine From_arith (by kernel_rfl : coreAt _ 7 = some (some 34, (Go.Op.binOp Go.BinOp.sub 3 (Go.Operand.tmp 32) (Go.Operand.tmp 33) 3), 3, none)) hF51 (by kernel_rfl) (by kernel_rfl) (k' := 8) rfl (i := ((((leftL bs).length : Nat) : Int) - 1)) (j := (k : Int)) (z := ((q : Nat) : Int)) (by kernel_rfl) (by kernel_rfl) (congrArg some (by omega)) (by omega) (by omega) ?_
      intro a52 ea hF53; clear ea hF51 a50
      replace hF53 : Fr a52 47 [(3, (.slice (some ⟨g39, 0, none⟩) ((leftL bs).length) c3x)), (4, (.int .i64 (k : Int))), (5, (.int .i64 (m.getD (k : Int).toNat 0))), (27, (.slice (some ⟨g39, 0, none⟩) ((leftL bs).length) c3x)), (28, (.int .i64 (k : Int))), (29, (.slice (some ⟨g39, 0, none⟩) ((leftL bs).length) c3x)), (34, (.int .i64 ((q : Nat) : Int)))] := hF53.keep (keep := [3, 4, 5, 27, 28, 29, 34]) (by kernel_rfl)
      refine From_index (by kernel_rfl : coreAt _ 8 = some (some 35, (Go.Op.indexAddr 27 (Go.Operand.tmp 29) (Go.Operand.tmp 34)), 0, none)) hF53 (by kernel_rfl) (by kernel_rfl) (k' := 9) rfl (A := (some ⟨g39, 0, none⟩)) (ad := ⟨g39, 0, none⟩) (n := ((leftL bs).length)) (cap := c3x) (e := 3) (size := 1) (kd := .i64) (i := ((q : Nat) : Int)) (by kernel_rfl) (by kernel_rfl) rfl (by kernel_rfl) (by kernel_rfl) (by omega) (by omega) ?_
      intro a54 ea hF55; clear ea hF53 a52
      replace hF55 : Fr a54 47 [(3, (.slice (some ⟨g39, 0, none⟩) ((leftL bs).length) c3x)), (4, (.int .i64 (k : Int))), (5, (.int .i64 (m.getD (k : Int).toNat 0))), (27, (.slice (some ⟨g39, 0, none⟩) ((leftL bs).length) c3x)), (28, (.int .i64 (k : Int))), (35, (.pointer (some ((⟨g39, 0, none⟩ : Addr).add ((((q : Nat) : Int)).toNat * 1)))))] := hF55.keep (keep := [3, 4, 5, 27, 28, 35]) (by kernel_rfl)
      refine From_load1 (by kernel_rfl : coreAt _ 9 = some (some 36, (Go.Op.load 3 (Go.Operand.tmp 35)), 3, none)) hF55 (by kernel_rfl) (by kernel_rfl) (k' := 10) rfl (ad := ((⟨g39, 0, none⟩ : Addr).add ((((q : Nat) : Int)).toNat * 1))) (v := (.int .i64 (m.getD (q : Int).toNat 0))) (by kernel_rfl) (by kernel_rfl) (rd_int (row_rd (hM25.get 0 rfl)) rfl (by omega) (by omega)) ?_
      intro a56 ea hF57; clear ea hF55 a54
      replace hF57 : Fr a56 47 [(3, (.slice (some ⟨g39, 0, none⟩) ((leftL bs).length) c3x)), (4, (.int .i64 (k : Int))), (5, (.int .i64 (m.getD (k : Int).toNat 0))), (27, (.slice (some ⟨g39, 0, none⟩) ((leftL bs).length) c3x)), (28, (.int .i64 (k : Int))), (36, (.int .i64 (m.getD (q : Int).toNat 0)))] := hF57.keep (keep := [3, 4, 5, 27, 28, 36]) (by kernel_rfl)
      refine From_index (by kernel_rfl : coreAt _ 10 = some (some 37, (Go.Op.indexAddr 27 (Go.Operand.tmp 27) (Go.Operand.tmp 28)), 0, none)) hF57 (by kernel_rfl) (by kernel_rfl) (k' := 11) rfl (A := (some ⟨g39, 0, none⟩)) (ad := ⟨g39, 0, none⟩) (n := ((leftL bs).length)) (cap := c3x) (e := 3) (size := 1) (kd := .i64) (i := (k : Int)) (by kernel_rfl) (by kernel_rfl) rfl (by kernel_rfl) (by kernel_rfl) (by omega) (by omega) ?_
      intro a58 ea hF59; clear ea hF57 a56
      replace hF59 : Fr a58 47 [(3, (.slice (some ⟨g39, 0, none⟩) ((leftL bs).length) c3x)), (4, (.int .i64 (k : Int))), (5, (.int .i64 (m.getD (k : Int).toNat 0))), (36, (.int .i64 (m.getD (q : Int).toNat 0))), (37, (.pointer (some ((⟨g39, 0, none⟩ : Addr).add (((k : Int)).toNat * 1)))))] := hF59.keep (keep := [3, 4, 5, 36, 37]) (by kernel_rfl)
      refine From_store_row (by kernel_rfl : coreAt _ 11 = some (none, (Go.Op.store 3 (Go.Operand.tmp 37) (Go.Operand.tmp 36)), 0, none)) hF59 (by kernel_rfl) (by kernel_rfl) (k' := 12) rfl (ad := (⟨g39, 0, none⟩ : Addr)) (j := (((k : Int)).toNat * 1)) (e := 3) (size := 1) (n := ((leftL bs).length)) (cap := c3x) (v := (.int .i64 (m.getD (q : Int).toNat 0))) (xs := (ints m)) (ad' := ((⟨g39, 0, none⟩ : Addr).add (((k : Int)).toNat * 1))) (by kernel_rfl) rfl (by kernel_rfl) (by kernel_rfl) rfl hM25 0 rfl (by omega) ?_
      intro w60 hM61 _ a62 ea hF63; clear ea hF59 a58
      change Mem noS w w60 [.row 3 1 (some ⟨g39, 0, none⟩) ((leftL bs).length) c3x ((ints m).set (((k : Int)).toNat * 1) (.int .i64 (m.getD (q : Int).toNat 0)))] at hM61
      clear hM25
      replace hF63 : Fr a62 47 [(3, (.slice (some ⟨g39, 0, none⟩) ((leftL bs).length) c3x)), (4, (.int .i64 (k : Int))), (5, (.int .i64 (m.getD (k : Int).toNat 0)))] := hF63.keep (keep := [3, 4, 5]) (by kernel_rfl)
      refine From_end (by kernel_rfl) ?_
      refine W_region (by kernel_rfl) ?_   -- region 9
      refine From_pure 3 3 [3, 4, 5, 38, 40] hF63 (env' := [(3, (.slice (some ⟨g39, 0, none⟩) ((leftL bs).length) c3x)), (4, (.int .i64 (k : Int))), (5, (.int .i64 (m.getD (k : Int).toNat 0))), (38, (.slice (some ⟨g39, 0, none⟩) ((leftL bs).length) c3x)), (40, (.int .i64 (((leftL bs).length : Nat) : Int)))]) (by kernel_rfl) rfl ?_
      intro a64 hF65; clear hF63 a62
      refine From_arith (by kernel_rfl : coreAt _ 3 = some (some 41, (Go.Op.binOp Go.BinOp.sub 3 (Go.Operand.tmp 40) (Go.Operand.const (Go.Value.int Go.IntKind.i64 1)) 3), 3, none)) hF65 (by kernel_rfl) (by kernel_rfl) (k' := 4) rfl (i := (((leftL bs).length : Nat) : Int)) (j := 1) (z := ((((leftL bs).length : Nat) : Int) - 1)) (by kernel_rfl) (by kernel_rfl) rfl (by omega) (by omega) ?_
      intro a66 ea hF67; clear ea hF65 a64
      replace hF67 : Fr a66 47 [(3, (.slice (some ⟨g39, 0, none⟩) ((leftL bs).length) c3x)), (4, (.int .i64 (k : Int))), (5, (.int .i64 (m.getD (k : Int).toNat 0))), (38, (.slice (some ⟨g39, 0, none⟩) ((leftL bs).length) c3x)), (41, (.int .i64 ((((leftL bs).length : Nat) : Int) - 1)))] := hF67.keep (keep := [3, 4, 5, 38, 41]) (by kernel_rfl)
      refine From_pure 1 5 [3, 4, 5, 38, 41, 42] hF67 (env' := [(3, (.slice (some ⟨g39, 0, none⟩) ((leftL bs).length) c3x)), (4, (.int .i64 (k : Int))), (5, (.int .i64 (m.getD (k : Int).toNat 0))), (38, (.slice (some ⟨g39, 0, none⟩) ((leftL bs).length) c3x)), (41, (.int .i64 ((((leftL bs).length : Nat) : Int) - 1))), (42, (.int .i64 (k : Int)))]) (by kernel_rfl) rfl ?_
      intro a68 hF69; clear hF67 a66
      refine From_arith (by kernel_rfl : coreAt _ 5 = some (some 43, (Go.Op.binOp Go.BinOp.sub 3 (Go.Operand.tmp 41) (Go.Operand.tmp 42) 3), 3, none)) hF69 (by kernel_rfl) (by kernel_rfl) (k' := 6) rfl (i := ((((leftL bs).length : Nat) : Int) - 1)) (j := (k : Int)) (z := ((q : Nat) : Int)) (by kernel_rfl) (by kernel_rfl) (congrArg some (by omega)) (by omega) (by omega) ?_
      intro a70 ea hF71; clear ea hF69 a68
      replace hF71 : Fr a70 47 [(3, (.slice (some ⟨g39, 0, none⟩) ((leftL bs).length) c3x)), (4, (.int .i64 (k : Int))), (5, (.int .i64 (m.getD (k : Int).toNat 0))), (38, (.slice (some ⟨g39, 0, none⟩) ((leftL bs).length) c3x)), (43, (.int .i64 ((q : Nat) : Int)))] := hF71.keep (keep := [3, 4, 5, 38, 43]) (by kernel_rfl)
      refine From_pure 1 7 [3, 4, 38, 43, 44] hF71 (env' := [(3, (.slice (some ⟨g39, 0, none⟩) ((leftL bs).length) c3x)), (4, (.int .i64 (k : Int))), (38, (.slice (some ⟨g39, 0, none⟩) ((leftL bs).length) c3x)), (43, (.int .i64 ((q : Nat) : Int))), (44, (.int .i64 (m.getD (k : Int).toNat 0)))]) (by kernel_rfl) rfl ?_
      intro a72 hF73; clear hF71 a70
      refine From_index (by kernel_rfl : coreAt _ 7 = some (some 45, (Go.Op.indexAddr 27 (Go.Operand.tmp 38) (Go.Operand.tmp 43)), 0, none)) hF73 (by kernel_rfl) (by kernel_rfl) (k' := 8) rfl (A := (some ⟨g39, 0, none⟩)) (ad := ⟨g39, 0, none⟩) (n := ((leftL bs).length)) (cap := c3x) (e := 3) (size := 1) (kd := .i64) (i := ((q : Nat) : Int)) (by kernel_rfl) (by kernel_rfl) rfl (by kernel_rfl) (by kernel_rfl) (by omega) (by omega) ?_
      intro a74 ea hF75; clear ea hF73 a72
      replace hF75 : Fr a74 47 [(3, (.slice (some ⟨g39, 0, none⟩) ((leftL bs).length) c3x)), (4, (.int .i64 (k : Int))), (44, (.int .i64 (m.getD (k : Int).toNat 0))), (45, (.pointer (some ((⟨g39, 0, none⟩ : Addr).add ((((q : Nat) : Int)).toNat * 1)))))] := hF75.keep (keep := [3, 4, 44, 45]) (by kernel_rfl)
      refine From_store_row (by kernel_rfl : coreAt _ 8 = some (none, (Go.Op.store 3 (Go.Operand.tmp 45) (Go.Operand.tmp 44)), 0, none)) hF75 (by kernel_rfl) (by kernel_rfl) (k' := 9) rfl (ad := (⟨g39, 0, none⟩ : Addr)) (j := ((((q : Nat) : Int)).toNat * 1)) (e := 3) (size := 1) (n := ((leftL bs).length)) (cap := c3x) (v := (.int .i64 (m.getD (k : Int).toNat 0))) (xs := ((ints m).set (((k : Int)).toNat * 1) (.int .i64 (m.getD (q : Int).toNat 0)))) (ad' := ((⟨g39, 0, none⟩ : Addr).add ((((q : Nat) : Int)).toNat * 1))) (by kernel_rfl) rfl (by kernel_rfl) (by kernel_rfl) rfl hM61 0 rfl (by omega) ?_
      intro w76 hM77 _ a78 ea hF79; clear ea hF75 a74
      change Mem noS w w76 [.row 3 1 (some ⟨g39, 0, none⟩) ((leftL bs).length) c3x (((ints m).set (((k : Int)).toNat * 1) (.int .i64 (m.getD (q : Int).toNat 0))).set ((((q : Nat) : Int)).toNat * 1) (.int .i64 (m.getD (k : Int).toNat 0)))] at hM77
      clear hM61
      replace hF79 : Fr a78 47 [(3, (.slice (some ⟨g39, 0, none⟩) ((leftL bs).length) c3x)), (4, (.int .i64 (k : Int)))] := hF79.keep (keep := [3, 4]) (by kernel_rfl)
      refine From_end (by kernel_rfl) ?_
      refine W_region (by kernel_rfl) ?_   -- region 6
      refine From_pure 1 1 [3, 21] hF79 (env' := [(3, (.slice (some ⟨g39, 0, none⟩) ((leftL bs).length) c3x)), (21, (.int .i64 (k : Int)))]) (by kernel_rfl) rfl ?_
      intro a80 hF81; clear hF79 a78
      refine From_arith (by kernel_rfl : coreAt _ 1 = some (some 22, (Go.Op.binOp Go.BinOp.add 3 (Go.Operand.tmp 21) (Go.Operand.const (Go.Value.int Go.IntKind.i64 1)) 3), 3, none)) hF81 (by kernel_rfl) (by kernel_rfl) (k' := 2) rfl (i := (k : Int)) (j := 1) (z := ((k : Int) + 1)) (by kernel_rfl) (by kernel_rfl) rfl (by omega) (by omega) ?_
      intro a82 ea hF83; clear ea hF81 a80
      replace hF83 : Fr a82 47 [(3, (.slice (some ⟨g39, 0, none⟩) ((leftL bs).length) c3x)), (22, (.int .i64 ((k : Int) + 1)))] := hF83.keep (keep := [3, 22]) (by kernel_rfl)
      refine From_pure 1 3 [3, 4] hF83 (env' := [(3, (.slice (some ⟨g39, 0, none⟩) ((leftL bs).length) c3x)), (4, (.int .i64 ((k : Int) + 1)))]) (by kernel_rfl) rfl ?_
      intro a84 hF85; clear hF83 a82
      refine From_end (by kernel_rfl) ?_
      exact ⟨(leftL bs).length - (k + 1), by omega, k + 1, (m.set k (m.getD q 0)).set q (m.getD k 0), rfl, hF85.keep (keep := [3, 4]) (by kernel_rfl), (hM77.cast (by rw [ints_set, ints_set]; simp only [Int.toNat_natCast, Nat.mul_one])), by omega, swapped_next hs (by omega)⟩
  · have cz : ((bs.length : Nat) : Int) = 0 := by simpa using hBz
    refine W_cond (t := 9) (B := true) (by kernel_rfl) hF15 (by kernel_rfl) (fun _ => ?_) (fun t => Bool.noConfusion t)
    refine W_seq (by kernel_rfl) ?_
    refine W_region (by kernel_rfl) ?_   -- region 2
    refine From_pure 1 1 [2] hF15 (env' := [(2, (.slice none 0 0))]) (by kernel_rfl) rfl ?_
    intro a86 hF87; clear hF15 a14
    refine From_end (by kernel_rfl) ?_
    refine W_ret (by kernel_rfl) ?_
    refine out1 (v := (.slice none 0 0)) hF87 rfl (by kernel_rfl) ?_
    refine ⟨_, rfl, ?_⟩
    exact nil_ret (hM3.pick [false] rfl) (by unfold orderL; rw [if_pos (by omega)])

end Go.Proofs.Ytlkpkinmmjcbcaa
