/-
  Texts of the proof, part 14.
-/
import Derived.Test.YtdcgcjibgihbbaaZc13
import Derived.Laws.BytesArg
import Derived.Test.YtdcgcjibgihbbaaRows
set_option maxRecDepth 10000
namespace Go.Mor
open Go.RowKit
theorem conv_bytes {P : Program} {w : World} {A : Option Addr} {n c : Nat} {l : List Int} {src dst e : TypeId} (hn : l.length = n) (h : (Res.rd A (l.map (Value.int .u8))).holds w) (hs : P.underlying src = some (.slice e)) (he : P.underlying e = some (.int .u8)) (hd : P.underlying dst = some .string) :
    (convert src dst (.slice A n c)).run P w = .ok (.string (strOfNums l)) w := by
  subst hn
  rw [run_convert_bytes_string w src dst e A l.length c hs he hd]
  cases A with
  | none =>
    have : l = [] := by
      cases l with
      | nil => rfl
      | cons x r =>
        obtain ⟨a, ha, _⟩ := h 0 (.int .u8 x) rfl
        cases ha
    subst this
    simp [Conv.bytesToString, strOfNums]
    rfl
  | some a =>
    have hl : (loadCells a l.length).run P w = .ok (l.map (Value.int .u8)).toArray w := by
      have := run_loadCells_list (P := P) w a (l.map (Value.int .u8)) (fun j v hj => by
        obtain ⟨a', ha', hc⟩ := h j v hj
        injection ha' with ha'
        rw [ha']
        exact hc)
      simpa using this
    rw [run_bytesToString w a l.length c l hl, foldl_push_bytes]
    simp [strOfNums, ByteArray.empty, ByteArray.emptyWithCapacity]
    rfl
def csE (P : Program) (c : Code) (N : FN) (env : Env) (k : Nat) : Option (Option Nat × Option Addr × Nat × Nat) := match coreAt c k with
  | some (d, .convert t t' x, _, g) => match guardE c g env, okd d N, ev env x, P.underlying t, P.underlying t' with
    | some true, true, some (.slice A n cap), some (.slice e), some .string => match P.underlying e with
      | some (.int .u8) => some (d, A, n, cap)
      | _ => none
    | _, _, _, _, _ => none
  | _ => none
theorem cs_spec {P : Program} {c : Code} {N : FN} {env : Env} {k : Nat} {d : Option Nat} {A : Option Addr} {n cap : Nat} (h : csE P c N env k = some (d, A, n, cap)) : ∃ t t' x ty g e, coreAt c k = some (d, .convert t t' x, ty, g) ∧ guardE c g env = some true ∧ okd d N = true ∧ ev env x = some (.slice A n cap) ∧ P.underlying t = some (.slice e) ∧ P.underlying e = some (.int .u8) ∧ P.underlying t' = some .string := by
  unfold csE at h
  split at h
  · rename_i h0
    split at h
    · rename_i h1 h2 h3 h4 h5
      split at h
      · rename_i h6
        simp only [Option.some.injEq, Prod.mk.injEq] at h
        obtain ⟨rfl, rfl, rfl, rfl⟩ := h
        exact ⟨_, _, _, _, _, _, h0, h1, h2, h3, h4, h6, h5⟩
      · cases h
    · cases h
  · cases h
section
variable {P : Program} {c : Code} {K : Act → World → Prop} {Q : Exit → Act → World → Prop} {w : World} {k : Nat} {N : FN} {env : Env}
theorem zcs (l : List Int) (A : Option Addr) (n cap : Nat) (hn : l.length = n) (hr : (Res.rd A (l.map (Value.int .u8))).holds w) (h : ∀ a, Fr a N (putE env (dstAt c k) (.string (strOfNums l))) → From P c K Q (k + 1) a w) (hk : csE P c N env k = some (dstAt c k, A, n, cap) := by kernel_rfl) : ∀ a, Fr a N env → From P c K Q k a w := fun a hF => by
  obtain ⟨t, t', x, ty, g, e, h0, h1, h2, h3, h4, h5, h6⟩ := cs_spec hk
  refine From_same h0 hF h1 h2 rfl (fun o ho => ?_) (fun a' _ => h a')
  unfold execOp
  rw [ho]
  simp [hF.ev h3, Sem.run_bind, conv_bytes hn hr h4 h5 h6, Result.andThen_ok]
end
section
variable {P : Program} {c : Code} {Q : Exit → Act → World → Prop} {N : FN} {i : Nat} {env0 : Env} {wr : World} {sp : Nat → Spec}
end
end Go.Mor
namespace Go.Proofs.Ytdcgcjibgihbbaa
open Go.Mor
theorem num15_c (e : Int) (w : World) :
    Calls Try.prog 11 #[(.int .i64 e)] w (Ret fun v w' => v = .int .i64 e ∧ Mem noS w w' []) := by
 refine zen 4 [(.int .i64 e)] Try.func11 ?_
 have hM := Mem.init w
 refine zsp <| zsp <| zre <| zo1 (.int .i64 e) ?_
 exact ⟨rfl, hM⟩
theorem alike_c (k c st k2 c2 st2 : Int) (o o2 : List Int) (A A2 : Option Addr) (ac ac2 : Nat) (w : World) (hA : RO noS w (.rd A (u8s o))) (hA2 : RO noS w (.rd A2 (u8s o2))) :
    Calls Try.prog 34 #[(.agg #[(.int .i64 k), (.int .i64 c), (.slice A o.length ac), (.int .i64 st)]), (.agg #[(.int .i64 k2), (.int .i64 c2), (.slice A2 o2.length ac2), (.int .i64 st2)])] w (Ret fun v w' => v = .bool (decide (k = k2 ∧ c = c2 ∧ (strOfNums o).toList = (strOfNums o2).toList)) ∧ Mem noS w w' []) := by
 refine zen 26 [(.agg #[(.int .i64 k), (.int .i64 c), (.slice A o.length ac), (.int .i64 st)]), (.agg #[(.int .i64 k2), (.int .i64 c2), (.slice A2 o2.length ac2), (.int .i64 st2)])] Try.func34 ?_
 have hM := Mem.init w
 refine zsr <| zbx hM 38 (.agg #[(.int .i64 k), (.int .i64 c), (.slice A o.length ac), (.int .i64 st)]) [(.int .i64 k), (.int .i64 c), (.slice A o.length ac), (.int .i64 st)] fun b1 w2 hb1 M3 => ?_
 replace M3 := M3.nf
 clear hM
 refine zbx M3 38 (.agg #[(.int .i64 k2), (.int .i64 c2), (.slice A2 o2.length ac2), (.int .i64 st2)]) [(.int .i64 k2), (.int .i64 c2), (.slice A2 o2.length ac2), (.int .i64 st2)] fun b4 w5 hb4 M6 => ?_
 replace M6 := M6.nf
 refine zpn 1 <| zfe <| zsr <| zpn 1 <| zld ⟨b1, 0, none⟩ (.int .i64 k) (blk_cell (M6.get 0 rfl) rfl) <| zpn 1 <| zld ⟨b4, 0, none⟩ (.int .i64 k2) (blk_cell (M6.get 1 rfl) rfl) <| zpn 2 ?_
 obtain ⟨B7, hB7⟩ : ∃ B : Bool, B = ((k : Int) == k2) := ⟨_, rfl⟩
 refine zkp [(2, (pT b1 0)), (3, (pT b4 0)), (10, (.bool ((k : Int) == k2)))] ?_
 rw [← hB7]
 have iB7 : B7 = true ↔ ((k : Int) = k2) := by rw [hB7]; simp only [beq_iff_eq]
 clear hB7
 intro aC fr
 refine zpk 1 7 [11] fr (news := [(11, (cond B7 (pT b1 1) undef))]) (by cases B7 <;> kernel_rfl) ?_
 intro aC fr
 refine From_either (B := B7) (d := (some 12)) (.int .i64 c) fr (by cases B7 <;> kernel_rfl) (fun hB hh => ?_) ?_
 cases B7 <;> first | (exact absurd hB (by decide)) | skip
 have c7 : ((k : Int) = k2) := iB7.1 rfl
 exact From_ld (some 12) ⟨b1, 1, none⟩ fr (by kernel_rfl) (.int .i64 c) (blk_cell (M6.get 0 rfl) rfl) hh
 intro aC fr
 refine zpk 1 9 [13] fr (news := [(13, (cond B7 (pT b4 1) undef))]) (by cases B7 <;> kernel_rfl) ?_
 intro aC fr
 refine From_either (B := B7) (d := (some 14)) (.int .i64 c2) fr (by cases B7 <;> kernel_rfl) (fun hB hh => ?_) ?_
 cases B7 <;> first | (exact absurd hB (by decide)) | skip
 have c7 : ((k : Int) = k2) := iB7.1 rfl
 exact From_ld (some 14) ⟨b4, 1, none⟩ fr (by kernel_rfl) (.int .i64 c2) (blk_cell (M6.get 1 rfl) rfl) hh
 intro aC fr
 refine zpk 3 13 [16, 17] fr (news := [(16, (.bool (B7 && ((c : Int) == c2)))), (17, (.bool (B7 && ((c : Int) == c2))))]) (by cases B7 <;> kernel_rfl) ?_
 intro aC fr
 obtain ⟨B20, hB20⟩ : ∃ B : Bool, B = (B7 && ((c : Int) == c2)) := ⟨_, rfl⟩
 revert aC
 refine zkp [(2, (pT b1 0)), (3, (pT b4 0)), (17, (.bool (B7 && ((c : Int) == c2))))] ?_
 rw [← hB20]
 have iB20 : B20 = true ↔ (((k : Int) = k2) ∧ ((c : Int) = c2)) := by rw [hB20]; simp only [Bool.and_eq_true, beq_iff_eq, iB7]
 clear hB20
 intro aC fr
 refine zpk 1 14 [18] fr (news := [(18, (cond B20 (pT b1 2) undef))]) (by cases B20 <;> kernel_rfl) ?_
 intro aC fr
 refine From_either (B := B20) (d := (some 19)) (.slice A o.length ac) fr (by cases B20 <;> kernel_rfl) (fun hB hh => ?_) ?_
 cases B20 <;> first | (exact absurd hB (by decide)) | skip
 have c20 : (((k : Int) = k2) ∧ ((c : Int) = c2)) := iB20.1 rfl
 exact From_ld (some 19) ⟨b1, 2, none⟩ fr (by kernel_rfl) (.slice A o.length ac) (blk_cell (M6.get 0 rfl) rfl) hh
 intro aC fr
 cases B20
 have c20 : ¬ (((k : Int) = k2) ∧ ((c : Int) = c2)) := (fun h => Bool.noConfusion (iB20.2 h) : ¬ (((k : Int) = k2) ∧ ((c : Int) = c2)))
 revert aC
 refine zpn 7 <| zfe <| zre <| zo1 (.bool false) ?_
 have hR : false = true ↔ False := by simp
 have M27 := M6.od [] 0
 exact ⟨bool_dec hR (⟨fun h_ => h_.elim, fun h_ => by have h1 := h_.1; have h2 := h_.2.1; omega⟩), M27⟩
 have c20 : (((k : Int) = k2) ∧ ((c : Int) = c2)) := iB20.1 rfl
 revert aC
 refine zcs o A o.length ac rfl (M6.ro hA) <| zpn 1 <| zld ⟨b4, 2, none⟩ (.slice A2 o2.length ac2) (blk_cell (M6.get 1 rfl) rfl) <| zcs o2 A2 o2.length ac2 rfl (M6.ro hA2) <| zpn 3 <| zfe <| zre <| zo1 (.bool (((strOfNums o) : ByteArray).toList == ((strOfNums o2) : ByteArray).toList)) ?_
 have hR : (((strOfNums o) : ByteArray).toList == ((strOfNums o2) : ByteArray).toList) = true ↔ (((strOfNums o)).toList = ((strOfNums o2)).toList) := by simp only [beq_iff_eq]
 have M28 := M6.od [] 0
 exact ⟨bool_dec hR (⟨fun h_ => ⟨by omega, by omega, h_⟩, fun h_ => h_.2.2⟩), M28⟩
theorem same3_c (k c st k2 c2 st2 : Int) (o o2 : List Int) (A A2 : Option Addr) (ac ac2 : Nat) (w : World) (hA : RO noS w (.rd A (u8s o))) (hA2 : RO noS w (.rd A2 (u8s o2))) :
    Calls Try.prog 15 #[(.agg #[(.int .i64 k), (.int .i64 c), (.slice A o.length ac), (.int .i64 st)]), (.agg #[(.int .i64 k2), (.int .i64 c2), (.slice A2 o2.length ac2), (.int .i64 st2)])] w (Ret fun v w' => v = .bool (decide (st = st2 ∧ (k = k2 ∧ c = c2 ∧ (strOfNums o).toList = (strOfNums o2).toList))) ∧ Mem noS w w' []) := by
 refine zen 15 [(.agg #[(.int .i64 k), (.int .i64 c), (.slice A o.length ac), (.int .i64 st)]), (.agg #[(.int .i64 k2), (.int .i64 c2), (.slice A2 o2.length ac2), (.int .i64 st2)])] Try.func15 ?_
 have hM := Mem.init w
 refine zsr <| zbx hM 38 (.agg #[(.int .i64 k), (.int .i64 c), (.slice A o.length ac), (.int .i64 st)]) [(.int .i64 k), (.int .i64 c), (.slice A o.length ac), (.int .i64 st)] fun b1 w2 hb1 M3 => ?_
 replace M3 := M3.nf
 clear hM
 refine zbx M3 38 (.agg #[(.int .i64 k2), (.int .i64 c2), (.slice A2 o2.length ac2), (.int .i64 st2)]) [(.int .i64 k2), (.int .i64 c2), (.slice A2 o2.length ac2), (.int .i64 st2)] fun b4 w5 hb4 M6 => ?_
 replace M6 := M6.nf
 refine zpn 1 <| zfe <| zsr <| zpn 1 <| zld ⟨b1, 3, none⟩ (.int .i64 st) (blk_cell (M6.get 0 rfl) rfl) <| zpn 1 <| zld ⟨b4, 3, none⟩ (.int .i64 st2) (blk_cell (M6.get 1 rfl) rfl) <| zpn 2 ?_
 obtain ⟨B7, hB7⟩ : ∃ B : Bool, B = ((st : Int) == st2) := ⟨_, rfl⟩
 refine zkp [(2, (pT b1 0)), (3, (pT b4 0)), (10, (.bool ((st : Int) == st2)))] ?_
 rw [← hB7]
 have iB7 : B7 = true ↔ ((st : Int) = st2) := by rw [hB7]; simp only [beq_iff_eq]
 clear hB7
 cases B7
 have c7 : ¬ ((st : Int) = st2) := (fun h => Bool.noConfusion (iB7.2 h) : ¬ ((st : Int) = st2))
 refine zpn 5 <| zfe <| zre <| zo1 (.bool false) ?_
 have hR : false = true ↔ False := by simp
 have M8 := M6.od [] 0
 exact ⟨bool_dec hR (⟨fun h_ => h_.elim, fun h_ => by have h1 := h_.1; omega⟩), M8⟩
 have c7 : ((st : Int) = st2) := iB7.1 rfl
 refine zls ⟨b1, 0, none⟩ [(.int .i64 k), (.int .i64 c), (.slice A o.length ac), (.int .i64 st)] (blk_cells (M6.get 0 rfl)) <| zls ⟨b4, 0, none⟩ [(.int .i64 k2), (.int .i64 c2), (.slice A2 o2.length ac2), (.int .i64 st2)] (blk_cells (M6.get 1 rfl)) <| zcl (alike_c k c st k2 c2 st2 o o2 A A2 ac ac2 w5 (hA.at_ M6) (hA2.at_ M6)) ?_
 rintro _ w9 ⟨rfl, M10x⟩
 have M10 := M6.cl M10x
 refine zpn 2 <| zfe <| zre <| zo1 (.bool (decide (k = k2 ∧ c = c2 ∧ (strOfNums o).toList = (strOfNums o2).toList))) ?_
 have hR : decide (k = k2 ∧ c = c2 ∧ (strOfNums o).toList = (strOfNums o2).toList) = true ↔ (k = k2 ∧ c = c2 ∧ (strOfNums o).toList = (strOfNums o2).toList) := by simp only [decide_eq_true_eq]
 have M11 := M10.od [] 0
 exact ⟨bool_dec hR (⟨fun h_ => ⟨by omega, h_⟩, fun h_ => h_.2⟩), M11⟩
theorem one15_c (n : Int) (w : World) :
    Calls Try.prog 26 #[(.int .i64 n)] w (Ret fun v w' => v = .agg #[.int .i64 1, .int .i64 n, .string ⟨#[]⟩, .slice none 0 0] ∧ Mem noS w w' []) := by
 refine zen 5 [(.int .i64 n)] Try.func26 ?_
 have hM := Mem.init w
 refine zsr <| zal hM 53 [(.int .i64 0), (.int .i64 0), (.string ⟨#[]⟩), (.slice none 0 0)] fun b1 w2 hb1 M3 => ?_
 replace M3 := M3.nf
 clear hM
 refine zfe <| zsr <| zpn 2 ?_
 intro aC fr
 refine From_storeS_blk (by kernel_rfl : coreAt _ 2 = some (none, (.store 53 (.tmp 2) (.tmp 4)), 0, none)) fr (by kernel_rfl) (by kernel_rfl) (k' := 3) rfl (b := b1) (t0 := 53) (vs := [(.int .i64 1), (.int .i64 n), (.string ⟨#[]⟩), (.slice none 0 0)]) (cs := [(.int .i64 0), (.int .i64 0), (.string ⟨#[]⟩), (.slice none 0 0)]) (by kernel_rfl) (by kernel_rfl) (by kernel_rfl) (by simp only [List.mem_cons, List.not_mem_nil, or_false]; intro v hv; rcases hv with rfl | rfl | rfl | rfl <;> first | rfl | assumption) M3 0 rfl rfl ?_
 intro w4 M5 _ aC ea fr; clear ea
 replace M5 := M5.nf
 revert aC
 refine zfe <| zre ?_
 intro aC fr
 refine outC (ad := ⟨b1, 0, none⟩) (vs := [(.int .i64 1), (.int .i64 n), (.string ⟨#[]⟩), (.slice none 0 0)]) fr rfl (by kernel_rfl) (by kernel_rfl) (blk_cells (M5.get 0 rfl)) ?_
 refine ⟨_, rfl, ?_⟩
 have M12 := M5.od [] 0
 exact ⟨rfl, M12⟩
theorem local15_c (n : Int) (w : World) :
    Calls Try.prog 25 #[(.int .i64 n)] w (Ret fun v w' => v = .agg #[.int .i64 2, .int .i64 n, .string ⟨#[]⟩, .slice none 0 0] ∧ Mem noS w w' []) := by
 refine zen 5 [(.int .i64 n)] Try.func25 ?_
 have hM := Mem.init w
 refine zsr <| zal hM 53 [(.int .i64 0), (.int .i64 0), (.string ⟨#[]⟩), (.slice none 0 0)] fun b1 w2 hb1 M3 => ?_
 replace M3 := M3.nf
 clear hM
 refine zfe <| zsr <| zpn 2 ?_
 intro aC fr
 refine From_storeS_blk (by kernel_rfl : coreAt _ 2 = some (none, (.store 53 (.tmp 2) (.tmp 4)), 0, none)) fr (by kernel_rfl) (by kernel_rfl) (k' := 3) rfl (b := b1) (t0 := 53) (vs := [(.int .i64 2), (.int .i64 n), (.string ⟨#[]⟩), (.slice none 0 0)]) (cs := [(.int .i64 0), (.int .i64 0), (.string ⟨#[]⟩), (.slice none 0 0)]) (by kernel_rfl) (by kernel_rfl) (by kernel_rfl) (by simp only [List.mem_cons, List.not_mem_nil, or_false]; intro v hv; rcases hv with rfl | rfl | rfl | rfl <;> first | rfl | assumption) M3 0 rfl rfl ?_
 intro w4 M5 _ aC ea fr; clear ea
 replace M5 := M5.nf
 revert aC
 refine zfe <| zre ?_
 intro aC fr
 refine outC (ad := ⟨b1, 0, none⟩) (vs := [(.int .i64 2), (.int .i64 n), (.string ⟨#[]⟩), (.slice none 0 0)]) fr rfl (by kernel_rfl) (by kernel_rfl) (blk_cells (M5.get 0 rfl)) ?_
 refine ⟨_, rfl, ?_⟩
 have M12 := M5.od [] 0
 exact ⟨rfl, M12⟩
theorem awake15_d (w : World) :
    Calls Try.prog 10 #[] w (Ret fun v w' => v = .bool (decide (True)) ∧ Mem noS w w' []) := by
 refine zen 48 [] Try.func10 ?_
 have hM := Mem.init w
 refine zsp <| zsr <| zcl (local15_c 0 w) ?_
 rintro _ w1 ⟨rfl, M2x⟩
 have M2 := hM.cl M2x
 clear M2x hM
 refine zcl (one15_c 1 w1) ?_
 rintro _ w3 ⟨rfl, M4x⟩
 have M4 := M2.cl M4x
 intro aC fr
 refine zBs 6 46 2 #[(0, (.tmp 4)), (1, (.tmp 5))] 46 fr (e := 53) (size := 4) (zs := [(.int .i64 0), (.int .i64 0), (.string ⟨#[]⟩), (.slice none 0 0)]) (vs := [(0, (.agg #[(.int .i64 2), (.int .i64 0), (.string ⟨#[]⟩), (.slice none 0 0)])), (1, (.agg #[(.int .i64 1), (.int .i64 1), (.string ⟨#[]⟩), (.slice none 0 0)]))]) (cs := [(.int .i64 2), (.int .i64 0), (.string ⟨#[]⟩), (.slice none 0 0), (.int .i64 1), (.int .i64 1), (.string ⟨#[]⟩), (.slice none 0 0)]) M4 ?_
 intro b5 w6 hb5 _ M7 _ aC ea fr; clear ea
 replace M7 := M7.nf
 revert aC
 refine zpn 1 ?_
 intro aC fr
 refine zBs 8 46 1 #[(0, (.tmp 7))] 46 fr (e := 53) (size := 4) (zs := [(.int .i64 0), (.int .i64 0), (.string ⟨#[]⟩), (.slice none 0 0)]) (vs := [(0, (.agg #[(.int .i64 3), (.int .i64 1), (.string ⟨#[]⟩), (.slice (sM b5) 2 2)]))]) (cs := [(.int .i64 3), (.int .i64 1), (.string ⟨#[]⟩), (.slice (sM b5) 2 2)]) M7 ?_
 intro b12 w13 hb12 _ M14 _ aC ea fr; clear ea
 replace M14 := M14.nf
 revert aC
 refine zpn 1 ?_
 intro aC fr
 refine zBs 10 43 1 #[(0, (.tmp 9))] 43 fr (e := 48) (size := 5) (zs := [(.int .i64 0), (.int .i64 0), (.slice none 0 0), (.slice none 0 0), (.slice none 0 0)]) (vs := [(0, (.agg #[(.int .i64 9), (.int .i64 0), (.slice (sM b12) 1 1), (.slice none 0 0), (.slice none 0 0)]))]) (cs := [(.int .i64 9), (.int .i64 0), (.slice (sM b12) 1 1), (.slice none 0 0), (.slice none 0 0)]) M14 ?_
 intro b19 w20 hb19 _ M21 _ aC ea fr; clear ea
 replace M21 := M21.nf
 revert aC
 refine zpn 1 <| zal M21 45 [(.string ⟨#[]⟩), (.bool false), (.int .i64 0), (.int .i64 0), (.slice none 0 0)] fun b26 w27 hb26 M28 => ?_
 replace M28 := M28.nf
 refine zss M28 3 [(.string ⟨#[102]⟩), (.bool false), (.int .i64 1), (.int .i64 1), (.slice (sM b19) 1 1)] rfl fun w29 M30 => ?_
 replace M30 := M30.nf
 refine zfe <| zsr <| zpn 1 ?_
 intro aC fr
 refine zBs 13 43 1 #[(0, (.tmp 12))] 43 fr (e := 48) (size := 5) (zs := [(.int .i64 0), (.int .i64 0), (.slice none 0 0), (.slice none 0 0), (.slice none 0 0)]) (vs := [(0, (.agg #[(.int .i64 10), (.int .i64 5), (.slice none 0 0), (.slice none 0 0), (.slice none 0 0)]))]) (cs := [(.int .i64 10), (.int .i64 5), (.slice none 0 0), (.slice none 0 0), (.slice none 0 0)]) M30 ?_
 intro b31 w32 hb31 _ M33 _ aC ea fr; clear ea
 replace M33 := M33.nf
 revert aC
 refine zkp [(1, (pT b26 0)), (13, (.slice (sM b31) 1 1))] <| zpn 1 <| zal M33 45 [(.string ⟨#[]⟩), (.bool false), (.int .i64 0), (.int .i64 0), (.slice none 0 0)] fun b38 w39 hb38 M40 => ?_
 replace M40 := M40.nf
 refine zss M40 5 [(.string ⟨#[103]⟩), (.bool false), (.int .i64 0), (.int .i64 0), (.slice (sM b31) 1 1)] rfl fun w41 M42 => ?_
 replace M42 := M42.nf
 refine zfe <| zsr <| zls ⟨b38, 0, none⟩ [(.string ⟨#[103]⟩), (.bool false), (.int .i64 0), (.int .i64 0), (.slice (sM b31) 1 1)] (blk_cells (M42.get 5 rfl)) ?_
 intro aC fr
 refine zBs 16 22 1 #[(0, (.tmp 15))] 22 fr (e := 45) (size := 5) (zs := [(.string ⟨#[]⟩), (.bool false), (.int .i64 0), (.int .i64 0), (.slice none 0 0)]) (vs := [(0, (.agg #[(.string ⟨#[103]⟩), (.bool false), (.int .i64 0), (.int .i64 0), (.slice (sM b31) 1 1)]))]) (cs := [(.string ⟨#[103]⟩), (.bool false), (.int .i64 0), (.int .i64 0), (.slice (sM b31) 1 1)]) M42 ?_
 intro b43 w44 hb43 _ M45 _ aC ea fr; clear ea
 replace M45 := M45.nf
 revert aC
 refine zpn 1 ?_
 intro aC fr
 refine zBs 18 32 1 #[(0, (.tmp 17))] 32 fr (e := 25) (size := 3) (zs := [(.string ⟨#[]⟩), (.slice none 0 0), (.slice none 0 0)]) (vs := [(0, (.agg #[(.string ⟨#[]⟩), (.slice (sM b43) 1 1), (.slice none 0 0)]))]) (cs := [(.string ⟨#[]⟩), (.slice (sM b43) 1 1), (.slice none 0 0)]) M45 ?_
 intro b50 w51 hb50 _ M52 _ aC ea fr; clear ea
 replace M52 := M52.nf
 refine zBs 19 33 1 #[(0, (.const (.string { data := #[103] })))] 33 fr (e := 9) (size := 1) (zs := [(.string ⟨#[]⟩)]) (vs := [(0, (.string ⟨#[103]⟩))]) (cs := [(.string ⟨#[103]⟩)]) M52 ?_
 intro b57 w58 hb57 _ M59 _ aC ea fr; clear ea
 replace M59 := M59.nf
 revert aC
 refine zcl (vs := #[(.slice (sM b50) 1 1), (.slice (sM b57) 1 1), (.int .i64 10), (.slice none 0 0), (.int .i64 10)]) ((by have h9 := trun_c [awM1 (sM b43) (sM b31)] (sM b50) 1 [⟨#[103]⟩] (sM b57) 1 10 [] none 0 10 w58 (aw1_in (A13 := (sM b31)) (A16 := (sM b43)) (M59.get 7 rfl) (M59.get 8 rfl) (M59.get 6 rfl) (M59.get 4 rfl)) (by show (0 : Nat) ≤ _; omega); rw [aw1_run] at h9; exact h9)) ?_
 rintro _ w64 ⟨oA62, oc63, rfl, M65x⟩
 have M65 := M59.cl M65x
 refine zal M65 38 [(.int .i64 0), (.int .i64 0), (.slice none 0 0), (.int .i64 0)] fun b66 w67 hb66 M68 => ?_
 replace M68 := M68.nf
 refine zss M68 10 [(.int .i64 2), (.int .i64 5), (.slice oA62 0 oc63), (.int .i64 1)] rfl fun w69 M70 => ?_
 replace M70 := M70.nf
 refine zfe <| zsr <| zls ⟨b26, 0, none⟩ [(.string ⟨#[102]⟩), (.bool false), (.int .i64 1), (.int .i64 1), (.slice (sM b19) 1 1)] (blk_cells (M70.get 3 rfl)) <| zkp [(1, (pT b26 0)), (2, (pT b38 0)), (3, (pT b66 0)), (21, (.agg #[(.string ⟨#[102]⟩), (.bool false), (.int .i64 1), (.int .i64 1), (.slice (sM b19) 1 1)]))] <| zcl (vs := #[(.agg #[(.string ⟨#[102]⟩), (.bool false), (.int .i64 1), (.int .i64 1), (.slice (sM b19) 1 1)])]) ((by have h9 := tsize_c (awFn (sM b5) (sM b12) (sM b19)) _ w69 (awFn_ro (A6 := (sM b5)) (A8 := (sM b12)) (A10 := (sM b19)) (M70.get 0 rfl) (M70.get 1 rfl) (M70.get 2 rfl)) (sub_fn (List.mem_singleton.2 rfl)) awFn_in (by show (4 : Nat) ≤ _; omega); exact h9)) ?_
 rintro _ w71 ⟨rfl, M72x⟩
 have M72 := M70.cl M72x
 refine zpn 2 <| zls ⟨b26, 0, none⟩ [(.string ⟨#[102]⟩), (.bool false), (.int .i64 1), (.int .i64 1), (.slice (sM b19) 1 1)] (blk_cells (M72.get 3 rfl)) <| zls ⟨b38, 0, none⟩ [(.string ⟨#[103]⟩), (.bool false), (.int .i64 0), (.int .i64 0), (.slice (sM b31) 1 1)] (blk_cells (M72.get 5 rfl)) ?_
 intro aC fr
 refine From_buildSlice (by kernel_rfl : coreAt _ 6 = some (some 27, (.buildSlice 22 2 #[(0, (.tmp 25)), (1, (.tmp 26))]), 22, some (3, true))) fr (by kernel_rfl) (by kernel_rfl) (k' := 7) rfl (e := 45) (size := 5) (zs := [(.string ⟨#[]⟩), (.bool false), (.int .i64 0), (.int .i64 0), (.slice none 0 0)]) (vs := [(0, (.agg #[(.string ⟨#[102]⟩), (.bool false), (.int .i64 1), (.int .i64 1), (.slice (sM b19) 1 1)])), (1, (.agg #[(.string ⟨#[103]⟩), (.bool false), (.int .i64 0), (.int .i64 0), (.slice (sM b31) 1 1)]))]) (cs := [(.string ⟨#[102]⟩), (.bool false), (.int .i64 1), (.int .i64 1), (.slice (sM b19) 1 1), (.string ⟨#[103]⟩), (.bool false), (.int .i64 0), (.int .i64 0), (.slice (sM b31) 1 1)]) (by kernel_rfl) (by kernel_rfl) (by kernel_rfl) (by kernel_rfl) (by kernel_rfl) (by kernel_rfl) M72 ?_
 intro b73 w74 hb73 _ M75 _ aC ea fr; clear ea
 replace M75 := M75.nf
 revert aC
 refine zpn 1 <| zcl (tsmall_c (awM2 (sM b73) (sM b5) (sM b12) (sM b19) (sM b31)) w74 (awM2_ro (A27 := (sM b73)) (A6 := (sM b5)) (A8 := (sM b12)) (A10 := (sM b19)) (A13 := (sM b31)) (M75.get 11 rfl) (M75.get 0 rfl) (M75.get 1 rfl) (M75.get 2 rfl) (M75.get 4 rfl)) awM2_in) ?_
 rintro _ w84 ⟨fs82, A80, c81, hf83, rfl, M85x⟩
 have M85 := M75.cl M85x
 rw [aw_small_len hf83]
 have hfl_ := aw_small_len hf83
 refine zpn 5 <| zld ⟨b66, 0, none⟩ (.int .i64 2) (blk_cell (M85.get 10 rfl) rfl) <| zpn 4 <| zld ⟨b66, 1, none⟩ (.int .i64 5) (blk_cell (M85.get 10 rfl) rfl) <| zpn 4 <| zld ⟨b66, 3, none⟩ (.int .i64 1) (blk_cell (M85.get 10 rfl) rfl) <| zkp [(43, (.bool true)), (45, (.int .i64 1))] <| zpn 3 <| zfe <| zre ?_
 refine zo1 (.bool true) ?_
 have hR : true = true ↔ True := by simp
 have M86 := M85.od [] 0
 exact ⟨bool_dec hR (⟨fun _ => trivial, fun _ => by first | trivial | omega | rfl⟩), M86⟩
theorem awake15_c (w : World) : Calls Try.prog 10 #[] w (Ret fun v w' => v = .bool true ∧ Mem noS w w' []) := by
  have h := awake15_d w
  simpa using h
end Go.Proofs.Ytdcgcjibgihbbaa
namespace Go.Proofs.Ytdcgcjibgihbbaa
open Go.Mor
end Go.Proofs.Ytdcgcjibgihbbaa
namespace Go.Proofs.Ytdcgcjibgihbbaa
open Go.Mor
set_option maxHeartbeats 1000000 in
theorem treeWeak_d (m : TMod) (o : TFn) (bg : List ByteArray) (gA : Option Addr) (gc : Nat) (inp : List Int) (iA : Option Addr) (ic : Nat) (fuel : Int) (w : World) (hI : WeakIn w m o bg gA inp iA ic) :
    Calls Try.prog 7 #[(.agg #[(.string m.pkg), (.slice m.fA m.fns.length m.fc), (.slice m.dA m.dats.length m.dc)]), (.agg #[(.string o.nm), (.bool o.wk), (.int .i64 o.pa), (.int .i64 o.lo), (.slice o.A o.body.length o.c)]), (.slice gA bg.length gc), (.slice iA inp.length ic), (.int .i64 fuel)] w (Ret fun v w' => v = .bool (decide (True)) ∧ Mem noS w w' []) := by
 have hR := hI.mod
 have hso : SubXs o.parts o.A o.body := by have h_ := sub_fn (f := o) (l := [o]) (List.mem_singleton.2 rfl); rwa [List.flatMap_cons, List.flatMap_nil, List.append_nil] at h_
 refine zen 82 [(.agg #[(.string m.pkg), (.slice m.fA m.fns.length m.fc), (.slice m.dA m.dats.length m.dc)]), (.agg #[(.string o.nm), (.bool o.wk), (.int .i64 o.pa), (.int .i64 o.lo), (.slice o.A o.body.length o.c)]), (.slice gA bg.length gc), (.slice iA inp.length ic), (.int .i64 fuel)] Try.func7 ?_
 have hM := Mem.init w
 refine zsr <| zbx hM 25 (.agg #[(.string m.pkg), (.slice m.fA m.fns.length m.fc), (.slice m.dA m.dats.length m.dc)]) [(.string m.pkg), (.slice m.fA m.fns.length m.fc), (.slice m.dA m.dats.length m.dc)] fun b1 w2 hb1 M3 => ?_
 replace M3 := M3.nf
 clear hM
 refine zbx M3 45 (.agg #[(.string o.nm), (.bool o.wk), (.int .i64 o.pa), (.int .i64 o.lo), (.slice o.A o.body.length o.c)]) [(.string o.nm), (.bool o.wk), (.int .i64 o.pa), (.int .i64 o.lo), (.slice o.A o.body.length o.c)] fun b4 w5 hb4 M6 => ?_
 replace M6 := M6.nf
 refine zpn 1 <| zfe <| zsq <| zsr <| zls ⟨b1, 0, none⟩ [(.string m.pkg), (.slice m.fA m.fns.length m.fc), (.slice m.dA m.dats.length m.dc)] (blk_cells (M6.get 0 rfl)) ?_
 intro aC fr
 refine zBs 18 32 1 #[(0, (.tmp 17))] 32 fr (e := 25) (size := 3) (zs := [(.string ⟨#[]⟩), (.slice none 0 0), (.slice none 0 0)]) (vs := [(0, (.agg #[(.string m.pkg), (.slice m.fA m.fns.length m.fc), (.slice m.dA m.dats.length m.dc)]))]) (cs := [(.string m.pkg), (.slice m.fA m.fns.length m.fc), (.slice m.dA m.dats.length m.dc)]) M6 ?_
 intro b7 w8 hb7 _ M9 _ aC ea fr; clear ea
 replace M9 := M9.nf
 revert aC
 refine zpn 3 <| zcl (theavy_c [m] (sM b7) 1 bg gA gc 1000 inp iA ic fuel w8 (hI.one M9 (A0 := (sM b7)) (M9.get 2 rfl))) ?_
 rintro _ w15 ⟨B14, rfl, hBh, M16x⟩
 have M16 := M9.cl M16x
 refine zpn 1 ?_
 obtain ⟨B17, hB17⟩ : ∃ B : Bool, B = B14 := ⟨_, rfl⟩
 refine zkp [(2, (.slice gA bg.length gc)), (3, (.slice iA inp.length ic)), (4, (.int .i64 fuel)), (5, (pT b1 0)), (6, (pT b4 0)), (23, (.bool B14))] ?_
 rw [← hB17]
 have iB17 : B17 = true ↔ (B14 = true) := by rw [hB17]
 clear hB17
 intro aC fr
 refine zpk 1 8 [24] fr (news := [(24, (cond (!B17) (pT b4 4) undef))]) (by cases B17 <;> kernel_rfl) ?_
 intro aC fr
 cases B17
 have c17 : B14 = false := Bool.eq_false_iff.2 ((fun h => Bool.noConfusion (iB17.2 h) : ¬ (B14 = true)))
 have hHv := hBh c17
 revert aC
 refine zld ⟨b4, 4, none⟩ (.slice o.A o.body.length o.c) (blk_cell (M16.get 1 rfl) rfl) <| zcl (tsck_all o.body o.A o.c 2000 o.parts w15 (by decide) (by decide) (hI.oth.at_ M16) hso hI.oin.body hI.oin.len) ?_
 rintro _ w23 ⟨r22, rfl, ⟨hrk, hrb⟩, M24x⟩
 have M24 := M16.cl M24x
 unfold Cnt at hrk
 refine zpn 2 <| zfe <| zcD ((r22 : Int) > 2000) (fun c25 => ?_) (fun c25 => ?_)
 refine zsr <| zcl (awake15_c w23) ?_
 rintro _ w26 ⟨rfl, M27x⟩
 have M27 := M24.cl M27x
 refine zpn 1 <| zfe <| zre <| zo1 (.bool true) ?_
 have hR : true = true ↔ True := by simp
 have M28 := M27.od [] 0
 exact ⟨bool_dec hR (⟨fun _ => trivial, fun _ => by first | trivial | omega⟩), M28⟩
 have hon : stsN o.body ≤ 2000 := by have h_ := c25; omega
 have hsm := hHv.sm m (List.mem_singleton.2 rfl)
 have hmc := hsm.cnt
 refine zsk <| zsp <| zsq <| zsp <| zbk 0 ?_
 have M29 : Mem noS w w23 [.blk b1 25 [(.string m.pkg), (.slice m.fA m.fns.length m.fc), (.slice m.dA m.dats.length m.dc)], .blk b4 45 [(.string o.nm), (.bool o.wk), (.int .i64 o.pa), (.int .i64 o.lo), (.slice o.A o.body.length o.c)], .row 25 3 (sM b7) 1 1 [(.string m.pkg), (.slice m.fA m.fns.length m.fc), (.slice m.dA m.dats.length m.dc)], .row 45 5 none ((wkTo m o 0).length) 0 ((wkTo m o 0).flatMap TFn.cells)] := (M24.call (Mem.nilrow _ 45 5)).cast rfl
 intro aC fr
 refine zlp (fun n_ a_ w_ => ∃ (j : Nat) (oA : Option Addr) (oc : Nat), n_ = m.fns.length - j ∧ Fr a_ 82 [(2, (.slice gA bg.length gc)), (3, (.slice iA inp.length ic)), (4, (.int .i64 fuel)), (5, (pT b1 0)), (6, (pT b4 0)), (11, (.slice oA ((wkTo m o j).length) oc)), (12, (nV j))] ∧ Mem noS w w_ [.blk b1 25 [(.string m.pkg), (.slice m.fA m.fns.length m.fc), (.slice m.dA m.dats.length m.dc)], .blk b4 45 [(.string o.nm), (.bool o.wk), (.int .i64 o.pa), (.int .i64 o.lo), (.slice o.A o.body.length o.c)], .row 25 3 (sM b7) 1 1 [(.string m.pkg), (.slice m.fA m.fns.length m.fc), (.slice m.dA m.dats.length m.dc)], .row 45 5 oA ((wkTo m o j).length) oc ((wkTo m o j).flatMap TFn.cells)] ∧ (j ≤ m.fns.length)) (n := _) ⟨0, none, 0, rfl, fr.kp [2, 3, 4, 5, 6, 11, 12], M29, Nat.zero_le _⟩ ?_
 clear fr aC M29; rintro n aC w32 ⟨j, oA, oc, rfl, fr, M33, hj⟩
 revert aC
 refine zsq <| zsr <| zpn 2 <| zld ⟨b1, 1, none⟩ (.slice m.fA m.fns.length m.fc) (blk_cell (M33.get 0 rfl) rfl) <| zpn 2 <| zfe <| zcD (((j : Int) : Int) < ((m.fns.length : Nat) : Int)) (fun c36 => ?_) (fun c36 => ?_)
 refine zsk <| zsq <| zbk 1 <| zsr ?_
 obtain ⟨f, hf⟩ := get_of (l := m.fns) (i := j) (by omega)
 have hfm := List.mem_of_getElem? hf
 have hwl := wkTo_len (m := m) (o := o) hj
 have hwl2 := wkTo_len (m := m) (o := o) (j := j + 1) (by omega)
 refine zls ⟨b4, 0, none⟩ [(.string o.nm), (.bool o.wk), (.int .i64 o.pa), (.int .i64 o.lo), (.slice o.A o.body.length o.c)] (blk_cells (M33.get 1 rfl)) <| zal M33 45 [(.string ⟨#[]⟩), (.bool false), (.int .i64 0), (.int .i64 0), (.slice none 0 0)] fun b37 w38 hb37 M39 => ?_
 replace M39 := M39.nf
 refine zss M39 4 [(.string o.nm), (.bool o.wk), (.int .i64 o.pa), (.int .i64 o.lo), (.slice o.A o.body.length o.c)] rfl fun w40 M41 => ?_
 replace M41 := M41.nf
 refine zfe <| zsr <| zpn 1 <| zld ⟨b1, 1, none⟩ (.slice m.fA m.fns.length m.fc) (blk_cell (M41.get 0 rfl) rfl) <| zpn 1 ?_
 obtain ⟨ad42, had43⟩ := rds_some (M41.ro hR.m_fns) (cs := f.cells) (i := j) (by rw [List.getElem?_map, hf]; rfl)
 intro aC fr
 refine From_ixA (some 41) m.fA ad42 m.fns.length 5 (j : Int) fr (by kernel_rfl) had43 (by omega) (by omega) ?_
 intro aC fr
 revert aC
 refine zpn 1 ?_
 refine zld ((ad42 : Addr).add (((j : Int)).toNat * 5)) (.string f.nm) (rds_get (M41.ro hR.m_fns) had43 (i := j) (cs := f.cells) (by rw [List.getElem?_map, hf]; rfl) 0 _ rfl) ?_
 refine zkp [(2, (.slice gA bg.length gc)), (3, (.slice iA inp.length ic)), (4, (.int .i64 fuel)), (5, (pT b1 0)), (6, (pT b4 0)), (11, (.slice oA ((wkTo m o j).length) oc)), (12, (nV j)), (13, (pT b37 0)), (43, (.string f.nm))] <| zpn 1 <| zsb (ho := (by simp)) M41 4 0 (.string f.nm) rfl fun w48 M49 => ?_
 replace M49 := M49.nf
 refine zfe <| zsr <| zpn 1 <| zsb (ho := (by simp)) M49 4 1 (.bool true) rfl fun w50 M51 => ?_
 replace M51 := M51.nf
 refine zfe <| zrg <| zpn 1 <| zls ⟨b37, 0, none⟩ [(.string f.nm), (.bool true), (.int .i64 o.pa), (.int .i64 o.lo), (.slice o.A o.body.length o.c)] (blk_cells (M51.get 4 rfl)) ?_
 intro aC fr
 refine zBs 48 22 1 #[(0, (.tmp 47))] 22 fr (e := 45) (size := 5) (zs := [(.string ⟨#[]⟩), (.bool false), (.int .i64 0), (.int .i64 0), (.slice none 0 0)]) (vs := [(0, (.agg #[(.string f.nm), (.bool true), (.int .i64 o.pa), (.int .i64 o.lo), (.slice o.A o.body.length o.c)]))]) (cs := [(.string f.nm), (.bool true), (.int .i64 o.pa), (.int .i64 o.lo), (.slice o.A o.body.length o.c)]) M51 ?_
 intro b52 w53 hb52 _ M54 _ aC ea fr; clear ea
 replace M54 := M54.nf
 refine From_appendN (by kernel_rfl : coreAt _ 3 = some (some 49, (.call { callee := (.builtin .append), args := #[(.tmp 46), (.tmp 48)], argTypes := #[22, 22] }), 22, none)) fr (by kernel_rfl) (by kernel_rfl) (k' := 4) rfl (e := 45) (size := 5) (bytes := 64) (z := (.agg #[(.string ⟨#[]⟩), (.bool false), (.int .i64 0), (.int .i64 0), (.slice none 0 0)])) (by kernel_rfl) (by kernel_rfl) (by kernel_rfl) (by kernel_rfl) (A := oA) (B := (sM b52)) (n := ((wkTo m o j).length)) (cap := oc) (m := 1) (cap' := 1) (xs := ((wkTo m o j).flatMap TFn.cells)) (news := [(.string f.nm), (.bool true), (.int .i64 o.pa), (.int .i64 o.lo), (.slice o.A o.body.length o.c)]) (by kernel_rfl) (by kernel_rfl) M54 3 rfl (row_rd (M54.get 5 rfl)) rfl (by simp [Value.oneCell']) (by omega) (by simp only [maxLen]; omega) ((wkTo m o (j + 1)).length) ((wkTo m o (j + 1)).flatMap TFn.cells) (by rw [hwl, hwl2]) (by rw [wkTo_succ hf, List.flatMap_append]; rfl) ?_
 intro A59 c60 w61 M62 _ aC ea fr; clear ea
 replace M62 := M62.nf
 have M65 := M62.od [4, 4, 4, 4, 4] 5
 revert aC
 refine zpn 1 <| zfe <| zrg <| zpn 1 <| zar ((j : Int) + 1) <| zpn 1 <| zfe ?_
 have M66 := M65.od [3, 3, 3, 3] 4
 intro aC fr
 exact ⟨m.fns.length - (j + 1), by omega, j + 1, A59, c60, rfl, fr.kp [2, 3, 4, 5, 6, 11, 12], M66, by omega⟩
 refine zex 0 <| zbh <| zsr ?_
 obtain rfl : j = m.fns.length := by omega
 refine zpn 2 <| zal M33 25 [(.string ⟨#[]⟩), (.slice none 0 0), (.slice none 0 0)] fun b69 w70 hb69 M71 => ?_
 replace M71 := M71.nf
 refine zss M71 4 [(.string ⟨#[119]⟩), (.slice oA ((wkTo m o m.fns.length).length) oc), (.slice none 0 0)] rfl fun w72 M73 => ?_
 replace M73 := M73.nf
 refine zfe <| zsq <| zsr <| zls ⟨b1, 0, none⟩ [(.string m.pkg), (.slice m.fA m.fns.length m.fc), (.slice m.dA m.dats.length m.dc)] (blk_cells (M73.get 0 rfl)) <| zcl (tvalid_c m w72 (hR.at_ M73) (hI.ins.in_ hsm)) ?_
 rintro _ w74 ⟨rfl, M75x⟩
 have M75 := M73.cl M75x
 refine zcl (num15_c (validT m) w74) ?_
 rintro _ w76 ⟨rfl, M77x⟩
 have M77 := M75.cl M77x
 refine zpn 2 ?_
 obtain ⟨B78, hB78⟩ : ∃ B : Bool, B = (((validT m) : Int) != 0) := ⟨_, rfl⟩
 refine zkp [(2, (.slice gA bg.length gc)), (3, (.slice iA inp.length ic)), (4, (.int .i64 fuel)), (5, (pT b1 0)), (14, (pT b69 0)), (56, (.bool (((validT m) : Int) != 0)))] ?_
 rw [← hB78]
 have iB78 : B78 = true ↔ (((validT m) : Int) ≠ 0) := by rw [hB78]; simp only [bne_iff_ne]
 clear hB78
 cases B78
 have c78 : ¬ (((validT m) : Int) ≠ 0) := (fun h => Bool.noConfusion (iB78.2 h) : ¬ (((validT m) : Int) ≠ 0))
 have hv1 : validT m = 0 := by have h_ := c78; omega
 refine zls ⟨b69, 0, none⟩ [(.string ⟨#[119]⟩), (.slice oA ((wkTo m o m.fns.length).length) oc), (.slice none 0 0)] (blk_cells (M77.get 4 rfl)) <| zcl (tvalid_c (wkMod m o oA oc) w76 (weak_ro (A := oA) (M77.get 3 rfl) (hI.oth.at_ M77)) (weak_in hI.ins hsm hI.oin hon)) ?_
 rintro _ w79 ⟨rfl, M80x⟩
 have M80 := M77.cl M80x
 refine zcl (num15_c (validT (wkMod m o oA oc)) w79) ?_
 rintro _ w81 ⟨rfl, M82x⟩
 have M82 := M80.cl M82x
 refine zpn 2 <| zfe <| zcP (((validT (wkMod m o oA oc)) : Int) != 0) (((validT (wkMod m o oA oc)) : Int) ≠ 0) (by simp only [bne_iff_ne]) (fun c83 => ?_) (fun c83 => ?_)
 refine zsr <| zcl (awake15_c w81) ?_
 rintro _ w84 ⟨rfl, M85x⟩
 have M85 := M82.cl M85x
 refine zpn 1 <| zfe <| zre <| zo1 (.bool true) ?_
 have hR : true = true ↔ True := by simp
 have M86 := M85.od [] 0
 exact ⟨bool_dec hR (⟨fun _ => trivial, fun _ => by first | trivial | omega⟩), M86⟩
 have hv2 : validT (wkMod m o oA oc) = 0 := by have h_ := c83; omega
 obtain ⟨ra, hra⟩ : ∃ r : Out, r = runTO [m] bg 1000 inp fuel := ⟨_, rfl⟩
 have hrb : ra = runTO [m, (wkMod m o oA oc)] bg 1000 inp fuel := by rw [weak_run hv1 hv2]; exact hra
 refine zsk <| zsr <| zls ⟨b1, 0, none⟩ [(.string m.pkg), (.slice m.fA m.fns.length m.fc), (.slice m.dA m.dats.length m.dc)] (blk_cells (M82.get 0 rfl)) ?_
 intro aC fr
 refine zBs 64 32 1 #[(0, (.tmp 63))] 32 fr (e := 25) (size := 3) (zs := [(.string ⟨#[]⟩), (.slice none 0 0), (.slice none 0 0)]) (vs := [(0, (.agg #[(.string m.pkg), (.slice m.fA m.fns.length m.fc), (.slice m.dA m.dats.length m.dc)]))]) (cs := [(.string m.pkg), (.slice m.fA m.fns.length m.fc), (.slice m.dA m.dats.length m.dc)]) M82 ?_
 intro b87 w88 hb87 _ M89 _ aC ea fr; clear ea
 replace M89 := M89.nf
 revert aC
 refine zpn 3 <| zcl ((by have h9 := trun_c [m] (sM b87) 1 bg gA gc 1000 inp iA ic fuel w88 ((hI.one M89 (A0 := (sM b87)) (M89.get 5 rfl)).run hHv) hI.ill; rw [← hra] at h9; exact h9)) ?_
 rintro _ w96 ⟨oA94, oc95, rfl, M97x⟩
 have M97 := M89.cl M97x
 refine zal M97 38 [(.int .i64 0), (.int .i64 0), (.slice none 0 0), (.int .i64 0)] fun b98 w99 hb98 M100 => ?_
 replace M100 := M100.nf
 refine zss M100 7 [(.int .i64 ra.1), (.int .i64 ra.2.1), (.slice oA94 ra.2.2.1.length oc95), (.int .i64 ra.2.2.2)] rfl fun w101 M102 => ?_
 replace M102 := M102.nf
 refine zfe <| zsr <| zls ⟨b1, 0, none⟩ [(.string m.pkg), (.slice m.fA m.fns.length m.fc), (.slice m.dA m.dats.length m.dc)] (blk_cells (M102.get 0 rfl)) <| zls ⟨b69, 0, none⟩ [(.string ⟨#[119]⟩), (.slice oA ((wkTo m o m.fns.length).length) oc), (.slice none 0 0)] (blk_cells (M102.get 4 rfl)) <| zkp [(2, (.slice gA bg.length gc)), (3, (.slice iA inp.length ic)), (4, (.int .i64 fuel)), (15, (pT b98 0)), (69, (.agg #[(.string m.pkg), (.slice m.fA m.fns.length m.fc), (.slice m.dA m.dats.length m.dc)])), (70, (.agg #[(.string ⟨#[119]⟩), (.slice oA ((wkTo m o m.fns.length).length) oc), (.slice none 0 0)]))] ?_
 intro aC fr
 refine zBs 71 32 2 #[(0, (.tmp 69)), (1, (.tmp 70))] 32 fr (e := 25) (size := 3) (zs := [(.string ⟨#[]⟩), (.slice none 0 0), (.slice none 0 0)]) (vs := [(0, (.agg #[(.string m.pkg), (.slice m.fA m.fns.length m.fc), (.slice m.dA m.dats.length m.dc)])), (1, (.agg #[(.string ⟨#[119]⟩), (.slice oA ((wkTo m o m.fns.length).length) oc), (.slice none 0 0)]))]) (cs := [(.string m.pkg), (.slice m.fA m.fns.length m.fc), (.slice m.dA m.dats.length m.dc), (.string ⟨#[119]⟩), (.slice oA ((wkTo m o m.fns.length).length) oc), (.slice none 0 0)]) M102 ?_
 intro b103 w104 hb103 _ M105 _ aC ea fr; clear ea
 replace M105 := M105.nf
 revert aC
 refine zpn 3 <| zcl ((by have h9 := trun_c [m, (wkMod m o oA oc)] (sM b103) 2 bg gA gc 1000 inp iA ic fuel w104 (hI.two hHv hon M105 (A0 := (sM b103)) (M105.get 8 rfl) (M105.get 3 rfl)) hI.ill; rw [← hrb] at h9; exact h9)) ?_
 rintro _ w112 ⟨oA110, oc111, rfl, M113x⟩
 have M113 := M105.cl M113x
 refine zal M113 38 [(.int .i64 0), (.int .i64 0), (.slice none 0 0), (.int .i64 0)] fun b114 w115 hb114 M116 => ?_
 replace M116 := M116.nf
 refine zss M116 10 [(.int .i64 ra.1), (.int .i64 ra.2.1), (.slice oA110 ra.2.2.1.length oc111), (.int .i64 ra.2.2.2)] rfl fun w117 M118 => ?_
 replace M118 := M118.nf
 refine zfe <| zsr <| zls ⟨b98, 0, none⟩ [(.int .i64 ra.1), (.int .i64 ra.2.1), (.slice oA94 ra.2.2.1.length oc95), (.int .i64 ra.2.2.2)] (blk_cells (M118.get 7 rfl)) <| zls ⟨b114, 0, none⟩ [(.int .i64 ra.1), (.int .i64 ra.2.1), (.slice oA110 ra.2.2.1.length oc111), (.int .i64 ra.2.2.2)] (blk_cells (M118.get 10 rfl)) <| zcl (same3_c ra.1 ra.2.1 ra.2.2.2 ra.1 ra.2.1 ra.2.2.2 ra.2.2.1 ra.2.2.1 oA94 oA110 oc95 oc111 w117 (RO.of (row_rd (M118.get 6 rfl))) (RO.of (row_rd (M118.get 9 rfl)))) ?_
 rintro _ w119 ⟨rfl, M120x⟩
 have M120 := M118.cl M120x
 obtain ⟨B121, hB121⟩ : ∃ B : Bool, B = decide (ra.2.2.2 = ra.2.2.2 ∧ ra.1 = ra.1 ∧ ra.2.1 = ra.2.1 ∧ (strOfNums ra.2.2.1).toList = (strOfNums ra.2.2.1).toList) := ⟨_, rfl⟩
 refine zkp [(76, (.agg #[(.int .i64 ra.1), (.int .i64 ra.2.1), (.slice oA94 ra.2.2.1.length oc95), (.int .i64 ra.2.2.2)])), (77, (.agg #[(.int .i64 ra.1), (.int .i64 ra.2.1), (.slice oA110 ra.2.2.1.length oc111), (.int .i64 ra.2.2.2)])), (78, (.bool (decide (ra.2.2.2 = ra.2.2.2 ∧ ra.1 = ra.1 ∧ ra.2.1 = ra.2.1 ∧ (strOfNums ra.2.2.1).toList = (strOfNums ra.2.2.1).toList))))] ?_
 rw [← hB121]
 obtain rfl : B121 = true := by rw [hB121]; exact decide_eq_true ⟨rfl, rfl, rfl, rfl⟩
 clear hB121
 refine zpn 1 <| zcl (awake15_c w119) ?_
 rintro _ w122 ⟨rfl, M123x⟩
 have M123 := M120.cl M123x
 refine zpn 2 <| zfe <| zre <| zo1 (.bool true) ?_
 have hR : true = true ↔ True := by simp
 have M124 := M123.od [] 0
 exact ⟨bool_dec hR (⟨fun _ => trivial, fun _ => by first | trivial | omega⟩), M124⟩
 have c78 : (((validT m) : Int) ≠ 0) := iB78.1 rfl
 refine zpn 5 <| zfe <| zcT <| zsr <| zcl (awake15_c w76) ?_
 rintro _ w125 ⟨rfl, M126x⟩
 have M126 := M77.cl M126x
 refine zpn 1 <| zfe <| zre <| zo1 (.bool true) ?_
 have hR : true = true ↔ True := by simp
 have M127 := M126.od [] 0
 exact ⟨bool_dec hR (⟨fun _ => trivial, fun _ => by first | trivial | omega⟩), M127⟩
 have c17 : (B14 = true) := iB17.1 rfl
 revert aC
 refine zpn 4 <| zfe <| zcT <| zsr <| zcl (awake15_c w15) ?_
 rintro _ w128 ⟨rfl, M129x⟩
 have M129 := M16.cl M129x
 refine zpn 1 <| zfe <| zre <| zo1 (.bool true) ?_
 have hR : true = true ↔ True := by simp
 have M130 := M129.od [] 0
 exact ⟨bool_dec hR (⟨fun _ => trivial, fun _ => by first | trivial | omega⟩), M130⟩
theorem treeWeak_c (m : TMod) (o : TFn) (bg : List ByteArray) (gA : Option Addr) (gc : Nat) (inp : List Int) (iA : Option Addr) (ic : Nat) (fuel : Int) (w : World) (hI : WeakIn w m o bg gA inp iA ic) : Calls Try.prog 7 #[(.agg #[(.string m.pkg), (.slice m.fA m.fns.length m.fc), (.slice m.dA m.dats.length m.dc)]), (.agg #[(.string o.nm), (.bool o.wk), (.int .i64 o.pa), (.int .i64 o.lo), (.slice o.A o.body.length o.c)]), .slice gA bg.length gc, .slice iA inp.length ic, .int .i64 fuel] w (Ret fun v w' => v = .bool true ∧ Mem noS w w' []) := by
  have h := treeWeak_d m o bg gA gc inp iA ic fuel w hI
  simpa using h
end Go.Proofs.Ytdcgcjibgihbbaa
