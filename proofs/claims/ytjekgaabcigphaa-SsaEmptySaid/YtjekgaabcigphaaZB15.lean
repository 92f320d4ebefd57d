/-
  Texts of the proof, part 15.
-/
import Derived.Test.YtjekgaabcigphaaZB14
import Derived.Laws.BytesArg
set_option maxRecDepth 10000
namespace Go.Mor
open Go.RowKit
theorem conv_bytes {P : Program} {w : World} {A : Option Addr} {n c : Nat} {l : List Int} {src dst e : TypeId} (hn : l.length = n) (h : (Res.rd A (l.map (Value.int .u8))).holds w) (hs : P.underlying src = some (.slice e)) (he : P.underlying e = some (.int .u8)) (hd : P.underlying dst = some .string) :
    (convert src dst (.slice A n c)).run P w = .ok (.string (strOfNums l)) w := by
  subst hn
  rw [run_convert_bytes_string w src dst e A l.length c hs he hd]
  cases A with
  | none =>
    have : l = [] := by
      cases l with
      | nil => rfl
      | cons x r =>
        obtain ⟨a, ha, _⟩ := h 0 (.int .u8 x) rfl
        cases ha
    subst this
    simp [Conv.bytesToString, strOfNums]
    rfl
  | some a =>
    have hl : (loadCells a l.length).run P w = .ok (l.map (Value.int .u8)).toArray w := by
      have := run_loadCells_list (P := P) w a (l.map (Value.int .u8)) (fun j v hj => by
        obtain ⟨a', ha', hc⟩ := h j v hj
        injection ha' with ha'
        rw [ha']
        exact hc)
      simpa using this
    rw [run_bytesToString w a l.length c l hl, foldl_push_bytes]
    simp [strOfNums, ByteArray.empty, ByteArray.emptyWithCapacity]
    rfl
def csE (P : Program) (c : Code) (N : FN) (env : Env) (k : Nat) : Option (Option Nat × Option Addr × Nat × Nat) := match coreAt c k with
  | some (d, .convert t t' x, _, g) => match guardE c g env, okd d N, ev env x, P.underlying t, P.underlying t' with
    | some true, true, some (.slice A n cap), some (.slice e), some .string => match P.underlying e with
      | some (.int .u8) => some (d, A, n, cap)
      | _ => none
    | _, _, _, _, _ => none
  | _ => none
theorem cs_spec {P : Program} {c : Code} {N : FN} {env : Env} {k : Nat} {d : Option Nat} {A : Option Addr} {n cap : Nat} (h : csE P c N env k = some (d, A, n, cap)) : ∃ t t' x ty g e, coreAt c k = some (d, .convert t t' x, ty, g) ∧ guardE c g env = some true ∧ okd d N = true ∧ ev env x = some (.slice A n cap) ∧ P.underlying t = some (.slice e) ∧ P.underlying e = some (.int .u8) ∧ P.underlying t' = some .string := by
  unfold csE at h
  split at h
  · rename_i h0
    split at h
    · rename_i h1 h2 h3 h4 h5
      split at h
      · rename_i h6
        simp only [Option.some.injEq, Prod.mk.injEq] at h
        obtain ⟨rfl, rfl, rfl, rfl⟩ := h
        exact ⟨_, _, _, _, _, _, h0, h1, h2, h3, h4, h6, h5⟩
      · cases h
    · cases h
  · cases h
section
variable {P : Program} {c : Code} {K : Act → World → Prop} {Q : Exit → Act → World → Prop} {w : World} {k : Nat} {N : FN} {env : Env}
theorem zcs (l : List Int) (A : Option Addr) (n cap : Nat) (hn : l.length = n) (hr : (Res.rd A (l.map (Value.int .u8))).holds w) (h : ∀ a, Fr a N (putE env (dstAt c k) (.string (strOfNums l))) → From P c K Q (k + 1) a w) (hk : csE P c N env k = some (dstAt c k, A, n, cap) := by kernel_rfl) : ∀ a, Fr a N env → From P c K Q k a w := fun a hF => by
  obtain ⟨t, t', x, ty, g, e, h0, h1, h2, h3, h4, h5, h6⟩ := cs_spec hk
  refine From_same h0 hF h1 h2 rfl (fun o ho => ?_) (fun a' _ => h a')
  unfold execOp
  rw [ho]
  simp [hF.ev h3, Sem.run_bind, conv_bytes hn hr h4 h5 h6, Result.andThen_ok]
end
section
variable {P : Program} {c : Code} {Q : Exit → Act → World → Prop} {N : FN} {i : Nat} {env0 : Env} {wr : World} {sp : Nat → Spec}
end
end Go.Mor
namespace Go.Proofs.Ytjekgaabcigphaa
open Go.Mor
theorem alike_c (k c st k2 c2 st2 : Int) (o o2 : List Int) (A A2 : Option Addr) (ac ac2 : Nat) (w : World) (hA : RO noS w (.rd A (u8s o))) (hA2 : RO noS w (.rd A2 (u8s o2))) :
    Calls Try.prog 50 #[(.agg #[(.int .i64 k), (.int .i64 c), (.slice A o.length ac), (.int .i64 st)]), (.agg #[(.int .i64 k2), (.int .i64 c2), (.slice A2 o2.length ac2), (.int .i64 st2)])] w (Ret fun v w' => v = .bool (decide (k = k2 ∧ c = c2 ∧ (strOfNums o).toList = (strOfNums o2).toList)) ∧ Mem noS w w' []) := by
 refine zen 26 [(.agg #[(.int .i64 k), (.int .i64 c), (.slice A o.length ac), (.int .i64 st)]), (.agg #[(.int .i64 k2), (.int .i64 c2), (.slice A2 o2.length ac2), (.int .i64 st2)])] Try.func50 ?_
 have hM := Mem.init w
 refine zsr <| zbx hM 36 (.agg #[(.int .i64 k), (.int .i64 c), (.slice A o.length ac), (.int .i64 st)]) [(.int .i64 k), (.int .i64 c), (.slice A o.length ac), (.int .i64 st)] fun b1 w2 hb1 M3 => ?_
 replace M3 := M3.nf
 clear hM
 refine zbx M3 36 (.agg #[(.int .i64 k2), (.int .i64 c2), (.slice A2 o2.length ac2), (.int .i64 st2)]) [(.int .i64 k2), (.int .i64 c2), (.slice A2 o2.length ac2), (.int .i64 st2)] fun b4 w5 hb4 M6 => ?_
 replace M6 := M6.nf
 refine zpn 1 <| zfe <| zsr <| zpn 1 <| zld ⟨b1, 0, none⟩ (.int .i64 k) (blk_cell (M6.get 0 rfl) rfl) <| zpn 1 <| zld ⟨b4, 0, none⟩ (.int .i64 k2) (blk_cell (M6.get 1 rfl) rfl) <| zpn 2 ?_
 obtain ⟨B7, hB7⟩ : ∃ B : Bool, B = ((k : Int) == k2) := ⟨_, rfl⟩
 refine zkp [(2, (pT b1 0)), (3, (pT b4 0)), (10, (.bool ((k : Int) == k2)))] ?_
 rw [← hB7]
 have iB7 : B7 = true ↔ ((k : Int) = k2) := by rw [hB7]; simp only [beq_iff_eq]
 clear hB7
 intro aC fr
 refine zpk 1 7 [11] fr (news := [(11, (cond B7 (pT b1 1) undef))]) (by cases B7 <;> kernel_rfl) ?_
 intro aC fr
 refine From_either (B := B7) (d := (some 12)) (.int .i64 c) fr (by cases B7 <;> kernel_rfl) (fun hB hh => ?_) ?_
 cases B7 <;> first | (exact absurd hB (by decide)) | skip
 have c7 : ((k : Int) = k2) := iB7.1 rfl
 exact From_ld (some 12) ⟨b1, 1, none⟩ fr (by kernel_rfl) (.int .i64 c) (blk_cell (M6.get 0 rfl) rfl) hh
 intro aC fr
 refine zpk 1 9 [13] fr (news := [(13, (cond B7 (pT b4 1) undef))]) (by cases B7 <;> kernel_rfl) ?_
 intro aC fr
 refine From_either (B := B7) (d := (some 14)) (.int .i64 c2) fr (by cases B7 <;> kernel_rfl) (fun hB hh => ?_) ?_
 cases B7 <;> first | (exact absurd hB (by decide)) | skip
 have c7 : ((k : Int) = k2) := iB7.1 rfl
 exact From_ld (some 14) ⟨b4, 1, none⟩ fr (by kernel_rfl) (.int .i64 c2) (blk_cell (M6.get 1 rfl) rfl) hh
 intro aC fr
 refine zpk 3 13 [16, 17] fr (news := [(16, (.bool (B7 && ((c : Int) == c2)))), (17, (.bool (B7 && ((c : Int) == c2))))]) (by cases B7 <;> kernel_rfl) ?_
 intro aC fr
 obtain ⟨B20, hB20⟩ : ∃ B : Bool, B = (B7 && ((c : Int) == c2)) := ⟨_, rfl⟩
 revert aC
 refine zkp [(2, (pT b1 0)), (3, (pT b4 0)), (17, (.bool (B7 && ((c : Int) == c2))))] ?_
 rw [← hB20]
 have iB20 : B20 = true ↔ (((k : Int) = k2) ∧ ((c : Int) = c2)) := by rw [hB20]; simp only [Bool.and_eq_true, beq_iff_eq, iB7]
 clear hB20
 intro aC fr
 refine zpk 1 14 [18] fr (news := [(18, (cond B20 (pT b1 2) undef))]) (by cases B20 <;> kernel_rfl) ?_
 intro aC fr
 refine From_either (B := B20) (d := (some 19)) (.slice A o.length ac) fr (by cases B20 <;> kernel_rfl) (fun hB hh => ?_) ?_
 cases B20 <;> first | (exact absurd hB (by decide)) | skip
 have c20 : (((k : Int) = k2) ∧ ((c : Int) = c2)) := iB20.1 rfl
 exact From_ld (some 19) ⟨b1, 2, none⟩ fr (by kernel_rfl) (.slice A o.length ac) (blk_cell (M6.get 0 rfl) rfl) hh
 intro aC fr
 cases B20
 have c20 : ¬ (((k : Int) = k2) ∧ ((c : Int) = c2)) := (fun h => Bool.noConfusion (iB20.2 h) : ¬ (((k : Int) = k2) ∧ ((c : Int) = c2)))
 revert aC
 refine zpn 7 <| zfe <| zre <| zo1 (.bool false) ?_
 have hR : false = true ↔ False := by simp
 have M27 := M6.od [] 0
 exact ⟨bool_dec hR (⟨fun h_ => h_.elim, fun h_ => by have h1 := h_.1; have h2 := h_.2.1; omega⟩), M27⟩
 have c20 : (((k : Int) = k2) ∧ ((c : Int) = c2)) := iB20.1 rfl
 revert aC
 refine zcs o A o.length ac rfl (M6.ro hA) <| zpn 1 <| zld ⟨b4, 2, none⟩ (.slice A2 o2.length ac2) (blk_cell (M6.get 1 rfl) rfl) <| zcs o2 A2 o2.length ac2 rfl (M6.ro hA2) <| zpn 3 <| zfe <| zre <| zo1 (.bool (((strOfNums o) : ByteArray).toList == ((strOfNums o2) : ByteArray).toList)) ?_
 have hR : (((strOfNums o) : ByteArray).toList == ((strOfNums o2) : ByteArray).toList) = true ↔ (((strOfNums o)).toList = ((strOfNums o2)).toList) := by simp only [beq_iff_eq]
 have M28 := M6.od [] 0
 exact ⟨bool_dec hR (⟨fun h_ => ⟨by omega, by omega, h_⟩, fun h_ => h_.2.2⟩), M28⟩
theorem same3_c (k c st k2 c2 st2 : Int) (o o2 : List Int) (A A2 : Option Addr) (ac ac2 : Nat) (w : World) (hA : RO noS w (.rd A (u8s o))) (hA2 : RO noS w (.rd A2 (u8s o2))) :
    Calls Try.prog 17 #[(.agg #[(.int .i64 k), (.int .i64 c), (.slice A o.length ac), (.int .i64 st)]), (.agg #[(.int .i64 k2), (.int .i64 c2), (.slice A2 o2.length ac2), (.int .i64 st2)])] w (Ret fun v w' => v = .bool (decide (st = st2 ∧ (k = k2 ∧ c = c2 ∧ (strOfNums o).toList = (strOfNums o2).toList))) ∧ Mem noS w w' []) := by
 refine zen 15 [(.agg #[(.int .i64 k), (.int .i64 c), (.slice A o.length ac), (.int .i64 st)]), (.agg #[(.int .i64 k2), (.int .i64 c2), (.slice A2 o2.length ac2), (.int .i64 st2)])] Try.func17 ?_
 have hM := Mem.init w
 refine zsr <| zbx hM 36 (.agg #[(.int .i64 k), (.int .i64 c), (.slice A o.length ac), (.int .i64 st)]) [(.int .i64 k), (.int .i64 c), (.slice A o.length ac), (.int .i64 st)] fun b1 w2 hb1 M3 => ?_
 replace M3 := M3.nf
 clear hM
 refine zbx M3 36 (.agg #[(.int .i64 k2), (.int .i64 c2), (.slice A2 o2.length ac2), (.int .i64 st2)]) [(.int .i64 k2), (.int .i64 c2), (.slice A2 o2.length ac2), (.int .i64 st2)] fun b4 w5 hb4 M6 => ?_
 replace M6 := M6.nf
 refine zpn 1 <| zfe <| zsr <| zpn 1 <| zld ⟨b1, 3, none⟩ (.int .i64 st) (blk_cell (M6.get 0 rfl) rfl) <| zpn 1 <| zld ⟨b4, 3, none⟩ (.int .i64 st2) (blk_cell (M6.get 1 rfl) rfl) <| zpn 2 ?_
 obtain ⟨B7, hB7⟩ : ∃ B : Bool, B = ((st : Int) == st2) := ⟨_, rfl⟩
 refine zkp [(2, (pT b1 0)), (3, (pT b4 0)), (10, (.bool ((st : Int) == st2)))] ?_
 rw [← hB7]
 have iB7 : B7 = true ↔ ((st : Int) = st2) := by rw [hB7]; simp only [beq_iff_eq]
 clear hB7
 cases B7
 have c7 : ¬ ((st : Int) = st2) := (fun h => Bool.noConfusion (iB7.2 h) : ¬ ((st : Int) = st2))
 refine zpn 5 <| zfe <| zre <| zo1 (.bool false) ?_
 have hR : false = true ↔ False := by simp
 have M8 := M6.od [] 0
 exact ⟨bool_dec hR (⟨fun h_ => h_.elim, fun h_ => by have h1 := h_.1; omega⟩), M8⟩
 have c7 : ((st : Int) = st2) := iB7.1 rfl
 refine zls ⟨b1, 0, none⟩ [(.int .i64 k), (.int .i64 c), (.slice A o.length ac), (.int .i64 st)] (blk_cells (M6.get 0 rfl)) <| zls ⟨b4, 0, none⟩ [(.int .i64 k2), (.int .i64 c2), (.slice A2 o2.length ac2), (.int .i64 st2)] (blk_cells (M6.get 1 rfl)) <| zcl (alike_c k c st k2 c2 st2 o o2 A A2 ac ac2 w5 (hA.at_ M6) (hA2.at_ M6)) ?_
 rintro _ w9 ⟨rfl, M10x⟩
 have M10 := M6.cl M10x
 refine zpn 2 <| zfe <| zre <| zo1 (.bool (decide (k = k2 ∧ c = c2 ∧ (strOfNums o).toList = (strOfNums o2).toList))) ?_
 have hR : decide (k = k2 ∧ c = c2 ∧ (strOfNums o).toList = (strOfNums o2).toList) = true ↔ (k = k2 ∧ c = c2 ∧ (strOfNums o).toList = (strOfNums o2).toList) := by simp only [decide_eq_true_eq]
 have M11 := M10.od [] 0
 exact ⟨bool_dec hR (⟨fun h_ => ⟨by omega, h_⟩, fun h_ => h_.2⟩), M11⟩
theorem awake19_d (w : World) :
    Calls Try.prog 9 #[] w (Ret fun v w' => v = .bool (decide (True)) ∧ Mem noS w w' []) := by
 refine zen 38 [] Try.func9 ?_
 have hM := Mem.init w
 refine zsp <| zsr <| zpn 1 ?_
 intro aC fr
 refine zBs 4 44 1 #[(0, (.const (.int .i64 0)))] 44 fr (e := 3) (size := 1) (zs := [(.int .i64 0)]) (vs := [(0, (.int .i64 0))]) (cs := [(.int .i64 0)]) hM ?_
 intro b1 w2 hb1 _ M3 _ aC ea fr; clear ea
 replace M3 := M3.nf
 clear hM
 revert aC
 refine zpn 1 ?_
 intro aC fr
 refine zBs 6 41 2 #[(0, (.tmp 3)), (1, (.tmp 5))] 41 fr (e := 46) (size := 5) (zs := [(.int .i64 0), (.int .i64 0), (.int .i64 0), (.string ⟨#[]⟩), (.slice none 0 0)]) (vs := [(0, (.agg #[(.int .i64 1), (.int .i64 0), (.int .i64 7), (.string ⟨#[]⟩), (.slice none 0 0)])), (1, (.agg #[(.int .i64 10), (.int .i64 (-1)), (.int .i64 0), (.string ⟨#[]⟩), (.slice (sM b1) 1 1)]))]) (cs := [(.int .i64 1), (.int .i64 0), (.int .i64 7), (.string ⟨#[]⟩), (.slice none 0 0), (.int .i64 10), (.int .i64 (-1)), (.int .i64 0), (.string ⟨#[]⟩), (.slice (sM b1) 1 1)]) M3 ?_
 intro b8 w9 hb8 _ M10 _ aC ea fr; clear ea
 replace M10 := M10.nf
 revert aC
 refine zpn 1 ?_
 intro aC fr
 refine zBs 8 22 1 #[(0, (.tmp 7))] 22 fr (e := 43) (size := 6) (zs := [(.slice none 0 0), (.slice none 0 0), (.int .i64 0), (.int .i64 0), (.int .i64 0), (.int .i64 0)]) (vs := [(0, (.agg #[(.slice none 0 0), (.slice (sM b8) 2 2), (.int .i64 2), (.int .i64 (-1)), (.int .i64 0), (.int .i64 0)]))]) (cs := [(.slice none 0 0), (.slice (sM b8) 2 2), (.int .i64 2), (.int .i64 (-1)), (.int .i64 0), (.int .i64 0)]) M10 ?_
 intro b15 w16 hb15 _ M17 _ aC ea fr; clear ea
 replace M17 := M17.nf
 revert aC
 refine zpn 1 <| zal M17 24 [(.string ⟨#[]⟩), (.bool false), (.int .i64 0), (.int .i64 0), (.slice none 0 0)] fun b22 w23 hb22 M24 => ?_
 replace M24 := M24.nf
 refine zss M24 3 [(.string ⟨#[102]⟩), (.bool false), (.int .i64 0), (.int .i64 1), (.slice (sM b15) 1 1)] rfl fun w25 M26 => ?_
 replace M26 := M26.nf
 refine zfe <| zsr <| zls ⟨b22, 0, none⟩ [(.string ⟨#[102]⟩), (.bool false), (.int .i64 0), (.int .i64 1), (.slice (sM b15) 1 1)] (blk_cells (M26.get 3 rfl)) ?_
 intro aC fr
 refine zBs 11 31 1 #[(0, (.tmp 10))] 31 fr (e := 24) (size := 5) (zs := [(.string ⟨#[]⟩), (.bool false), (.int .i64 0), (.int .i64 0), (.slice none 0 0)]) (vs := [(0, (.agg #[(.string ⟨#[102]⟩), (.bool false), (.int .i64 0), (.int .i64 1), (.slice (sM b15) 1 1)]))]) (cs := [(.string ⟨#[102]⟩), (.bool false), (.int .i64 0), (.int .i64 1), (.slice (sM b15) 1 1)]) M26 ?_
 intro b27 w28 hb27 _ M29 _ aC ea fr; clear ea
 replace M29 := M29.nf
 revert aC
 refine zkp [(1, (pT b22 0)), (11, (.slice (sM b27) 1 1))] ?_
 intro aC fr
 refine zBs 12 32 1 #[(0, (.const (.string { data := #[102] })))] 32 fr (e := 9) (size := 1) (zs := [(.string ⟨#[]⟩)]) (vs := [(0, (.string ⟨#[102]⟩))]) (cs := [(.string ⟨#[102]⟩)]) M29 ?_
 intro b34 w35 hb34 _ M36 _ aC ea fr; clear ea
 replace M36 := M36.nf
 revert aC
 refine zcl ((by have h9 := run_c [awF (sM b15) (sM b8) (sM b1)] (sM b27) 1 [awN] (sM b34) 1 10 [] none 0 10 w35 (aw_in (aw_ro (A5 := (sM b1)) (A7 := (sM b8)) (A9 := (sM b15)) (M36.get 0 rfl) (M36.get 1 rfl) (M36.get 2 rfl)) (M36.get 4 rfl) (M36.get 5 rfl)); rw [aw_run] at h9; exact h9)) ?_
 rintro _ w43 ⟨oA41, oc42, rfl, M44x⟩
 have M44 := M36.cl M44x
 refine zal M44 36 [(.int .i64 0), (.int .i64 0), (.slice none 0 0), (.int .i64 0)] fun b45 w46 hb45 M47 => ?_
 replace M47 := M47.nf
 refine zss M47 7 [(.int .i64 1), (.int .i64 0), (.slice oA41 1 oc42), (.int .i64 3)] rfl fun w48 M49 => ?_
 replace M49 := M49.nf
 refine zfe <| zsr <| zls ⟨b22, 0, none⟩ [(.string ⟨#[102]⟩), (.bool false), (.int .i64 0), (.int .i64 1), (.slice (sM b15) 1 1)] (blk_cells (M49.get 3 rfl)) <| zcl ((by have h9 := valid_c awN false 0 1 (sM b15) 1 [awB (sM b8) (sM b1)] w48 (by simp) aw_ok (aw_ro (A5 := (sM b1)) (A7 := (sM b8)) (A9 := (sM b15)) (M49.get 0 rfl) (M49.get 1 rfl) (M49.get 2 rfl)); rw [aw_valid] at h9; exact h9)) ?_
 rintro _ w50 ⟨rfl, M51x⟩
 have M51 := M49.cl M51x
 refine zpn 2 <| zls ⟨b22, 0, none⟩ [(.string ⟨#[102]⟩), (.bool false), (.int .i64 0), (.int .i64 1), (.slice (sM b15) 1 1)] (blk_cells (M51.get 3 rfl)) <| zcl ((by have h9 := size_c awN false 0 1 (sM b15) 1 [awB (sM b8) (sM b1)] w50 (by simp) aw_ok (aw_ro (A5 := (sM b1)) (A7 := (sM b8)) (A9 := (sM b15)) (M51.get 0 rfl) (M51.get 1 rfl) (M51.get 2 rfl)); rw [aw_size] at h9; exact h9)) ?_
 rintro _ w52 ⟨rfl, M53x⟩
 have M53 := M51.cl M53x
 refine zpn 4 <| zld ⟨b45, 0, none⟩ (.int .i64 1) (blk_cell (M53.get 7 rfl) rfl) <| zpn 4 <| zld ⟨b45, 2, none⟩ (.slice oA41 1 oc42) (blk_cell (M53.get 7 rfl) rfl) <| zkp [(2, (pT b45 0)), (27, (.bool true)), (29, (.slice oA41 1 oc42))] <| zcs [7] oA41 1 oc42 rfl (row_rd (M53.get 6 rfl)) <| zpn 3 ?_
 obtain ⟨B54, hB54⟩ : ∃ B : Bool, B = (((strOfNums [7]) : ByteArray).toList == (⟨#[7]⟩ : ByteArray).toList) := ⟨_, rfl⟩
 refine zkp [(2, (pT b45 0)), (33, (.bool (((strOfNums [7]) : ByteArray).toList == (⟨#[7]⟩ : ByteArray).toList)))] ?_
 rw [← hB54]
 have iB54 : B54 = true ↔ (((strOfNums [7])).toList = (⟨#[7]⟩ : ByteArray).toList) := by rw [hB54]; simp only [beq_iff_eq]
 clear hB54
 intro aC fr
 refine zpk 1 21 [34] fr (news := [(34, (cond B54 (pT b45 3) undef))]) (by cases B54 <;> kernel_rfl) ?_
 intro aC fr
 refine From_either (B := B54) (d := (some 35)) (.int .i64 3) fr (by cases B54 <;> kernel_rfl) (fun hB hh => ?_) ?_
 cases B54 <;> first | (exact absurd hB (by decide)) | skip
 have c54 : (((strOfNums [7])).toList = (⟨#[7]⟩ : ByteArray).toList) := iB54.1 rfl
 exact From_ld (some 35) ⟨b45, 3, none⟩ fr (by kernel_rfl) (.int .i64 3) (blk_cell (M53.get 7 rfl) rfl) hh
 intro aC fr
 refine zpk 3 25 [0, 37] fr (news := [(0, (.bool B54)), (37, (.bool B54))]) (by cases B54 <;> kernel_rfl) ?_
 intro aC fr
 revert aC
 refine zfe <| zre <| zo1 (.bool B54) ?_
 have hR : B54 = true ↔ (((strOfNums [7])).toList = (⟨#[7]⟩ : ByteArray).toList) := by simp only [iB54]
 have M63 := M53.od [] 0
 exact ⟨bool_dec hR (⟨fun _ => trivial, fun _ => congrArg ByteArray.toList (rfl : strOfNums [7] = ⟨#[7]⟩)⟩), M63⟩
theorem awake19_c (w : World) : Calls Try.prog 9 #[] w (Ret fun v w' => v = .bool true ∧ Mem noS w w' []) := by
  have h := awake19_d w
  simpa using h
end Go.Proofs.Ytjekgaabcigphaa
namespace Go.Proofs.Ytjekgaabcigphaa
open Go.Mor
theorem ssaEmpty_c (mem : Int) (nm : ByteArray) (inp : List Int) (iA : Option Addr) (ic : Nat) (w : World) (hnl : LenOk nm.size) (hil : LenOk inp.length) (hic : inp.length ≤ ic) (hA : RO noS w (.rd iA (u8s inp))) (hby : ∀ b, b ∈ inp → 0 ≤ b ∧ b ≤ 255) :
    Calls Try.prog 7 #[(.int .i64 mem), (.string nm), (.slice iA inp.length ic)] w (Ret fun v w' => v = .bool true ∧ Mem noS w w' []) := by
 unfold LenOk at hnl hil
 refine zen 50 [(.int .i64 mem), (.string nm), (.slice iA inp.length ic)] Try.func7 ?_
 have hM := Mem.init w
 refine zsp <| zsq <| zsr <| zpn 4 ?_
 obtain ⟨B1, hB1⟩ : ∃ B : Bool, B = decide ((((inp.length : Nat) : Int) : Int) > 5000) := ⟨_, rfl⟩
 refine zkp [(0, (.int .i64 mem)), (1, (.string nm)), (2, (.slice iA inp.length ic)), (13, (.bool (decide ((((inp.length : Nat) : Int) : Int) > 5000))))] ?_
 rw [← hB1]
 have iB1 : B1 = true ↔ ((((inp.length : Nat) : Int) : Int) > 5000) := by rw [hB1]; simp only [decide_eq_true_eq]
 clear hB1
 intro aC fr
 refine zpk 4 8 [17] fr (news := [(17, (.bool (B1 || decide ((((nm).size : Int) : Int) > 100))))]) (by cases B1 <;> kernel_rfl) ?_
 intro aC fr
 revert aC
 refine zfe <| zcP (B1 || decide ((((nm).size : Int) : Int) > 100)) (((((inp.length : Nat) : Int) : Int) > 5000) ∨ ((((nm).size : Int) : Int) > 100)) (by simp only [Bool.or_eq_true, decide_eq_true_eq, iB1]) (fun c6 => ?_) (fun c6 => ?_)
 refine zsr <| zcl (awake19_c w) ?_
 rintro _ w7 ⟨rfl, M8x⟩
 have M8 := hM.cl M8x
 clear M8x hM
 refine zpn 1 <| zfe <| zre <| zo1 (.bool true) ?_
 exact ⟨rfl, M8⟩
 refine zsk <| zsr <| zpn 2 <| zcl ((by have h9 := run_c [] none 0 [] none 0 mem inp iA ic 10 w (nil_in (by simp) (RO.of rd_none) hic (hA.at_ hM) hby); rw [run_nil_k] at h9; exact h9)) ?_
 rintro _ w11 ⟨oA9, oc10, rfl, M12x⟩
 have M12 := hM.cl M12x
 clear M12x hM
 refine zal M12 36 [(.int .i64 0), (.int .i64 0), (.slice none 0 0), (.int .i64 0)] fun b13 w14 hb13 M15 => ?_
 replace M15 := M15.nf
 refine zss M15 1 [(.int .i64 (nilK mem inp)), (.int .i64 0), (.slice oA9 0 oc10), (.int .i64 0)] rfl fun w16 M17 => ?_
 replace M17 := M17.nf
 refine zfe <| zsr <| zpn 1 ?_
 intro aC fr
 refine zBs 23 32 1 #[(0, (.tmp 22))] 32 fr (e := 9) (size := 1) (zs := [(.string ⟨#[]⟩)]) (vs := [(0, (.string nm))]) (cs := [(.string nm)]) M17 ?_
 intro b18 w19 hb18 _ M20 _ aC ea fr; clear ea
 replace M20 := M20.nf
 revert aC
 refine zpn 2 <| zcl ((by have h9 := run_c [] none 0 [nm] (sM b18) 1 mem inp iA ic 10 w19 (nil_in (by simp) (RO.of (row_rd (M20.get 2 rfl))) hic (hA.at_ M20) hby); rw [run_nil1] at h9; exact h9)) ?_
 rintro _ w27 ⟨oA25, oc26, rfl, M28x⟩
 have M28 := M20.cl M28x
 refine zal M28 36 [(.int .i64 0), (.int .i64 0), (.slice none 0 0), (.int .i64 0)] fun b29 w30 hb29 M31 => ?_
 replace M31 := M31.nf
 refine zss M31 4 [(.int .i64 5), (.int .i64 0), (.slice oA25 0 oc26), (.int .i64 0)] rfl fun w32 M33 => ?_
 replace M33 := M33.nf
 refine zfe <| zsp <| zsq <| zsr <| zpn 3 ?_
 obtain ⟨B34, hB34⟩ : ∃ B : Bool, B = decide ((mem : Int) < 1) := ⟨_, rfl⟩
 refine zkp [(0, (.int .i64 mem)), (2, (.slice iA inp.length ic)), (7, (pT b13 0)), (8, (pT b29 0)), (9, (.int .i64 1)), (29, (.bool (decide ((mem : Int) < 1))))] ?_
 rw [← hB34]
 have iB34 : B34 = true ↔ ((mem : Int) < 1) := by rw [hB34]; simp only [decide_eq_true_eq]
 clear hB34
 intro aC fr
 refine zpk 4 7 [32, 33] fr (news := [(32, (.bool (B34 || decide ((mem : Int) > 262144)))), (33, (.bool (B34 || decide ((mem : Int) > 262144))))]) (by cases B34 <;> kernel_rfl) ?_
 intro aC fr
 obtain ⟨B39, hB39⟩ : ∃ B : Bool, B = (B34 || decide ((mem : Int) > 262144)) := ⟨_, rfl⟩
 revert aC
 refine zkp [(2, (.slice iA inp.length ic)), (7, (pT b13 0)), (8, (pT b29 0)), (9, (.int .i64 1)), (33, (.bool (B34 || decide ((mem : Int) > 262144))))] ?_
 rw [← hB39]
 have iB39 : B39 = true ↔ (((mem : Int) < 1) ∨ ((mem : Int) > 262144)) := by rw [hB39]; simp only [Bool.or_eq_true, decide_eq_true_eq, iB34]
 clear hB39
 intro aC fr
 refine zpk 4 11 [37] fr (news := [(37, (.bool (B39 || decide ((((inp.length : Nat) : Int) : Int) > 4096))))]) (by cases B39 <;> kernel_rfl) ?_
 intro aC fr
 revert aC
 refine zfe <| zcP (B39 || decide ((((inp.length : Nat) : Int) : Int) > 4096)) ((((mem : Int) < 1) ∨ ((mem : Int) > 262144)) ∨ ((((inp.length : Nat) : Int) : Int) > 4096)) (by simp only [Bool.or_eq_true, decide_eq_true_eq, iB39]) (fun c44 => ?_) (fun c44 => ?_)
 have hk_ : nilK mem inp = 5 := by unfold nilK; rw [if_pos (by omega)]
 refine zrp <| zsr <| zls ⟨b13, 0, none⟩ [(.int .i64 (nilK mem inp)), (.int .i64 0), (.slice oA9 0 oc10), (.int .i64 0)] (blk_cells (M33.get 1 rfl)) <| zpn 2 <| zcl (vs := #[(.agg #[(.int .i64 (nilK mem inp)), (.int .i64 0), (.slice oA9 0 oc10), (.int .i64 0)]), (.agg #[(.int .i64 5), (.int .i64 0), (.slice none 0 0), (.int .i64 0)])]) (same3_c (nilK mem inp) 0 0 5 0 0 ([] : List Int) ([] : List Int) oA9 none oc10 0 w32 (RO.of (rd_nilA _)) (RO.of (rd_nilA _))) ?_
 rintro _ w45 ⟨rfl, M46x⟩
 have M46 := M33.cl M46x
 obtain ⟨B47, hB47⟩ : ∃ B : Bool, B = decide ((0 : Int) = 0 ∧ ((nilK mem inp) : Int) = 5 ∧ (0 : Int) = 0 ∧ (strOfNums ([] : List Int)).toList = (strOfNums ([] : List Int)).toList) := ⟨_, rfl⟩
 refine zkp [(8, (pT b29 0)), (38, (.agg #[(.int .i64 (nilK mem inp)), (.int .i64 0), (.slice oA9 0 oc10), (.int .i64 0)])), (40, (.agg #[(.int .i64 5), (.int .i64 0), (.slice none 0 0), (.int .i64 0)])), (41, (.bool (decide ((0 : Int) = 0 ∧ ((nilK mem inp) : Int) = 5 ∧ (0 : Int) = 0 ∧ (strOfNums ([] : List Int)).toList = (strOfNums ([] : List Int)).toList))))] ?_
 rw [← hB47]
 obtain rfl : B47 = true := by rw [hB47]; exact decide_eq_true ⟨rfl, hk_, rfl, rfl⟩
 clear hB47
 refine zpn 1 <| zls ⟨b29, 0, none⟩ [(.int .i64 5), (.int .i64 0), (.slice oA25 0 oc26), (.int .i64 0)] (blk_cells (M46.get 4 rfl)) <| zpn 1 <| zcl (vs := #[(.agg #[(.int .i64 5), (.int .i64 0), (.slice oA25 0 oc26), (.int .i64 0)]), (.agg #[(.int .i64 5), (.int .i64 0), (.slice none 0 0), (.int .i64 0)])]) (same3_c 5 0 0 5 0 0 ([] : List Int) ([] : List Int) oA25 none oc26 0 w45 (RO.of (rd_nilA _)) (RO.of (rd_nilA _))) ?_
 rintro _ w48 ⟨rfl, M49x⟩
 have M49 := M46.cl M49x
 obtain ⟨B50, hB50⟩ : ∃ B : Bool, B = decide ((0 : Int) = 0 ∧ (5 : Int) = 5 ∧ (0 : Int) = 0 ∧ (strOfNums ([] : List Int)).toList = (strOfNums ([] : List Int)).toList) := ⟨_, rfl⟩
 refine zkp [(42, (.bool true)), (43, (.agg #[(.int .i64 5), (.int .i64 0), (.slice oA25 0 oc26), (.int .i64 0)])), (44, (.agg #[(.int .i64 5), (.int .i64 0), (.slice none 0 0), (.int .i64 0)])), (45, (.bool (decide ((0 : Int) = 0 ∧ (5 : Int) = 5 ∧ (0 : Int) = 0 ∧ (strOfNums ([] : List Int)).toList = (strOfNums ([] : List Int)).toList))))] ?_
 rw [← hB50]
 obtain rfl : B50 = true := by rw [hB50]; exact decide_eq_true ⟨rfl, rfl, rfl, rfl⟩
 clear hB50
 refine zpn 2 <| zcl (awake19_c w48) ?_
 rintro _ w51 ⟨rfl, M52x⟩
 have M52 := M49.cl M52x
 refine zpn 2 <| zfe <| zre <| zo1 (.bool true) ?_
 have M53 := M52.od [] 0
 exact ⟨rfl, M53⟩
 have hk_ : nilK mem inp = 1 := by unfold nilK; rw [if_neg (by omega)]
 refine zsk <| zsr <| zls ⟨b13, 0, none⟩ [(.int .i64 (nilK mem inp)), (.int .i64 0), (.slice oA9 0 oc10), (.int .i64 0)] (blk_cells (M33.get 1 rfl)) <| zpn 2 <| zcl (vs := #[(.agg #[(.int .i64 (nilK mem inp)), (.int .i64 0), (.slice oA9 0 oc10), (.int .i64 0)]), (.agg #[(.int .i64 1), (.int .i64 0), (.slice none 0 0), (.int .i64 0)])]) (same3_c (nilK mem inp) 0 0 1 0 0 ([] : List Int) ([] : List Int) oA9 none oc10 0 w32 (RO.of (rd_nilA _)) (RO.of (rd_nilA _))) ?_
 rintro _ w54 ⟨rfl, M55x⟩
 have M55 := M33.cl M55x
 obtain ⟨B56, hB56⟩ : ∃ B : Bool, B = decide ((0 : Int) = 0 ∧ ((nilK mem inp) : Int) = 1 ∧ (0 : Int) = 0 ∧ (strOfNums ([] : List Int)).toList = (strOfNums ([] : List Int)).toList) := ⟨_, rfl⟩
 refine zkp [(8, (pT b29 0)), (38, (.agg #[(.int .i64 (nilK mem inp)), (.int .i64 0), (.slice oA9 0 oc10), (.int .i64 0)])), (40, (.agg #[(.int .i64 1), (.int .i64 0), (.slice none 0 0), (.int .i64 0)])), (41, (.bool (decide ((0 : Int) = 0 ∧ ((nilK mem inp) : Int) = 1 ∧ (0 : Int) = 0 ∧ (strOfNums ([] : List Int)).toList = (strOfNums ([] : List Int)).toList))))] ?_
 rw [← hB56]
 obtain rfl : B56 = true := by rw [hB56]; exact decide_eq_true ⟨rfl, hk_, rfl, rfl⟩
 clear hB56
 refine zpn 1 <| zls ⟨b29, 0, none⟩ [(.int .i64 5), (.int .i64 0), (.slice oA25 0 oc26), (.int .i64 0)] (blk_cells (M55.get 4 rfl)) <| zpn 1 <| zcl (vs := #[(.agg #[(.int .i64 5), (.int .i64 0), (.slice oA25 0 oc26), (.int .i64 0)]), (.agg #[(.int .i64 5), (.int .i64 0), (.slice none 0 0), (.int .i64 0)])]) (same3_c 5 0 0 5 0 0 ([] : List Int) ([] : List Int) oA25 none oc26 0 w54 (RO.of (rd_nilA _)) (RO.of (rd_nilA _))) ?_
 rintro _ w57 ⟨rfl, M58x⟩
 have M58 := M55.cl M58x
 obtain ⟨B59, hB59⟩ : ∃ B : Bool, B = decide ((0 : Int) = 0 ∧ (5 : Int) = 5 ∧ (0 : Int) = 0 ∧ (strOfNums ([] : List Int)).toList = (strOfNums ([] : List Int)).toList) := ⟨_, rfl⟩
 refine zkp [(42, (.bool true)), (43, (.agg #[(.int .i64 5), (.int .i64 0), (.slice oA25 0 oc26), (.int .i64 0)])), (44, (.agg #[(.int .i64 5), (.int .i64 0), (.slice none 0 0), (.int .i64 0)])), (45, (.bool (decide ((0 : Int) = 0 ∧ (5 : Int) = 5 ∧ (0 : Int) = 0 ∧ (strOfNums ([] : List Int)).toList = (strOfNums ([] : List Int)).toList))))] ?_
 rw [← hB59]
 obtain rfl : B59 = true := by rw [hB59]; exact decide_eq_true ⟨rfl, rfl, rfl, rfl⟩
 clear hB59
 refine zpn 2 <| zcl (awake19_c w57) ?_
 rintro _ w60 ⟨rfl, M61x⟩
 have M61 := M58.cl M61x
 refine zpn 2 <| zfe <| zre <| zo1 (.bool true) ?_
 have M62 := M61.od [] 0
 exact ⟨rfl, M62⟩
end Go.Proofs.Ytjekgaabcigphaa
namespace Go.Proofs.Ytjekgaabcigphaa
open Go.Mor Go.ChangeShapes Go.WideShapes Go.ChangeAt Go.RowKit Go.Deep
section
variable {H : Type} {enc : TypeId × Value → H} {w : World} {base : Nat} {spare : Nat → Bool} {held : Bool}
theorem open_str1 {r : Reach} {b0 : Nat} {v : Value} {d : DataW H} {p : List MemPlace} (hok : Value.okWide Try.prog w r b0 9 v) (h : DataW.Trod enc Try.prog w base spare held 9 v d p) (hz : Reach_ 9 d) :
    ∃ s, v = .string s ∧ LenOk s.size := by
  obtain ⟨s, rfl⟩ := okWide_string Try.underlying9 hok
  obtain ⟨fuel, h⟩ := h
  exact str_of Try.underlying9 h hz
theorem slice_cap {t e : TypeId} (ht : Try.prog.underlying t = some (.slice e)) {fuel : Nat} {A : Option Addr} {len cap : Nat} {x : DataW H × List MemPlace} (h : DataW.trod enc Try.prog w base spare held fuel t [.slice A len cap] = some x) : len ≤ cap := by
  rcases DataW.trod_slice ht h with ⟨hcs, _⟩ | ⟨a, len', cap', elems, rest, n, _, hcs, _, _, hl, _, _, _, _, _⟩
  · simp at hcs
    omega
  · simp at hcs
    obtain ⟨_, rfl, rfl⟩ := hcs
    exact hl
theorem u8_of {t : TypeId} (ht : Try.prog.underlying t = some (.int .u8)) {fuel : Nat} {v : Value} {x : DataW H × List MemPlace} (h : DataW.trod enc Try.prog w base spare held fuel t [v] = some x) : ∃ n, v = .int .u8 n ∧ 0 ≤ n ∧ n ≤ 255 := by
  obtain ⟨n, rfl, h1, h2⟩ := int_of ht h
  exact ⟨n, rfl, h1, h2⟩
theorem open_bytes {r : Reach} {b0 : Nat} {v : Value} {d : DataW H} {p : List MemPlace} (hok : Value.okWide Try.prog w r b0 33 v) (h : DataW.Trod enc Try.prog w base spare held 33 v d p) (hz : Reach_ 33 d) :
    ∃ A l c, v = .slice A (List.length l) c ∧ LenOk l.length ∧ l.length ≤ c ∧ (∀ b, b ∈ l → 0 ≤ b ∧ b ≤ 255) ∧ (Res.rd A (u8s l)).holds w := by
  obtain ⟨A, len, cap, rfl⟩ := okWide_slice Try.underlying33 hok
  obtain ⟨fuel, h⟩ := h
  have hcap := slice_cap Try.underlying33 h
  obtain ⟨A', len', cap', e, hl, hx⟩ := open_elems (k := 1) Try.underlying33 (by kernel_rfl) (by omega) (v := .slice A len cap) h hz
  injection e with e1 e2 e3
  subst e1 e2 e3
  have c3 : Try.prog.cellsOf 5 = 1 := by kernel_rfl
  have : ∀ i, i < len → ∃ k : Int, (0 ≤ k ∧ k ≤ 255) ∧ ∃ ad, A = some ad ∧ w.cell? (ad.add i) = some (.int .u8 k) := by
    intro i hi
    obtain ⟨ad, cs, n, y, hA, hlen, hc, htr, _⟩ := hx i hi
    rw [c3] at hlen hc
    match cs, hlen with
    | [c0], _ =>
      obtain ⟨k, rfl, hk⟩ := u8_of Try.underlying5 htr
      refine ⟨k, hk, ad, hA, ?_⟩
      have h0 := hc 0 _ rfl
      rw [Nat.mul_one] at h0
      simpa [Addr.add] using h0
  obtain ⟨l, rfl, hp⟩ := list_of this
  refine ⟨A, l, cap, rfl, hl, hcap, fun k hk => ?_, fun i v hi => ?_⟩
  · obtain ⟨i, hi⟩ := List.mem_iff_getElem?.1 hk
    exact (hp i k hi).1
  · simp only [u8s, List.getElem?_map, Option.map_eq_some_iff] at hi
    obtain ⟨k, hk, rfl⟩ := hi
    exact (hp i k hk).2
end
end Go.Proofs.Ytjekgaabcigphaa
