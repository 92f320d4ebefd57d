/-
  Texts of the proof, part 16.
-/
import Derived.Test.YtdcgcjibgihbbaaZg15
import Derived.Laws.BytesArg
import Derived.Test.YtdcgcjibgihbbaaRows
set_option maxRecDepth 10000
namespace Go.Mor
open Go.RowKit
theorem conv_bytes {P : Program} {w : World} {A : Option Addr} {n c : Nat} {l : List Int} {src dst e : TypeId} (hn : l.length = n) (h : (Res.rd A (l.map (Value.int .u8))).holds w) (hs : P.underlying src = some (.slice e)) (he : P.underlying e = some (.int .u8)) (hd : P.underlying dst = some .string) :
    (convert src dst (.slice A n c)).run P w = .ok (.string (strOfNums l)) w := by
  subst hn
  rw [run_convert_bytes_string w src dst e A l.length c hs he hd]
  cases A with
  | none =>
    have : l = [] := by
      cases l with
      | nil => rfl
      | cons x r =>
        obtain ⟨a, ha, _⟩ := h 0 (.int .u8 x) rfl
        cases ha
    subst this
    simp [Conv.bytesToString, strOfNums]
    rfl
  | some a =>
    have hl : (loadCells a l.length).run P w = .ok (l.map (Value.int .u8)).toArray w := by
      have := run_loadCells_list (P := P) w a (l.map (Value.int .u8)) (fun j v hj => by
        obtain ⟨a', ha', hc⟩ := h j v hj
        injection ha' with ha'
        rw [ha']
        exact hc)
      simpa using this
    rw [run_bytesToString w a l.length c l hl, foldl_push_bytes]
    simp [strOfNums, ByteArray.empty, ByteArray.emptyWithCapacity]
    rfl
def csE (P : Program) (c : Code) (N : FN) (env : Env) (k : Nat) : Option (Option Nat × Option Addr × Nat × Nat) := match coreAt c k with
  | some (d, .convert t t' x, _, g) => match guardE c g env, okd d N, ev env x, P.underlying t, P.underlying t' with
    | some true, true, some (.slice A n cap), some (.slice e), some .string => match P.underlying e with
      | some (.int .u8) => some (d, A, n, cap)
      | _ => none
    | _, _, _, _, _ => none
  | _ => none
theorem cs_spec {P : Program} {c : Code} {N : FN} {env : Env} {k : Nat} {d : Option Nat} {A : Option Addr} {n cap : Nat} (h : csE P c N env k = some (d, A, n, cap)) : ∃ t t' x ty g e, coreAt c k = some (d, .convert t t' x, ty, g) ∧ guardE c g env = some true ∧ okd d N = true ∧ ev env x = some (.slice A n cap) ∧ P.underlying t = some (.slice e) ∧ P.underlying e = some (.int .u8) ∧ P.underlying t' = some .string := by
  unfold csE at h
  split at h
  · rename_i h0
    split at h
    · rename_i h1 h2 h3 h4 h5
      split at h
      · rename_i h6
        simp only [Option.some.injEq, Prod.mk.injEq] at h
        obtain ⟨rfl, rfl, rfl, rfl⟩ := h
        exact ⟨_, _, _, _, _, _, h0, h1, h2, h3, h4, h6, h5⟩
      · cases h
    · cases h
  · cases h
section
variable {P : Program} {c : Code} {K : Act → World → Prop} {Q : Exit → Act → World → Prop} {w : World} {k : Nat} {N : FN} {env : Env}
theorem zcs (l : List Int) (A : Option Addr) (n cap : Nat) (hn : l.length = n) (hr : (Res.rd A (l.map (Value.int .u8))).holds w) (h : ∀ a, Fr a N (putE env (dstAt c k) (.string (strOfNums l))) → From P c K Q (k + 1) a w) (hk : csE P c N env k = some (dstAt c k, A, n, cap) := by kernel_rfl) : ∀ a, Fr a N env → From P c K Q k a w := fun a hF => by
  obtain ⟨t, t', x, ty, g, e, h0, h1, h2, h3, h4, h5, h6⟩ := cs_spec hk
  refine From_same h0 hF h1 h2 rfl (fun o ho => ?_) (fun a' _ => h a')
  unfold execOp
  rw [ho]
  simp [hF.ev h3, Sem.run_bind, conv_bytes hn hr h4 h5 h6, Result.andThen_ok]
end
section
variable {P : Program} {c : Code} {Q : Exit → Act → World → Prop} {N : FN} {i : Nat} {env0 : Env} {wr : World} {sp : Nat → Spec}
end
end Go.Mor
namespace Go.Proofs.Ytdcgcjibgihbbaa
open Go.Mor
theorem alike_c (k c st k2 c2 st2 : Int) (o o2 : List Int) (A A2 : Option Addr) (ac ac2 : Nat) (w : World) (hA : RO noS w (.rd A (u8s o))) (hA2 : RO noS w (.rd A2 (u8s o2))) :
    Calls Try.prog 34 #[(.agg #[(vI k), (vI c), (vS A o.length ac), (vI st)]), (.agg #[(vI k2), (vI c2), (vS A2 o2.length ac2), (vI st2)])] w (Ret fun v w' => v = .bool (decide (k = k2 ∧ c = c2 ∧ (strOfNums o).toList = (strOfNums o2).toList)) ∧ Mem noS w w' []) := by
 refine zen 26 [(.agg #[(vI k), (vI c), (vS A o.length ac), (vI st)]), (.agg #[(vI k2), (vI c2), (vS A2 o2.length ac2), (vI st2)])] Try.func34 ?_
 have hM := Mem.init w
 refine zsr <| zbx hM 38 (.agg #[(vI k), (vI c), (vS A o.length ac), (vI st)]) [(vI k), (vI c), (vS A o.length ac), (vI st)] fun b1 w2 hb1 M3 => ?_
 replace M3 := M3.nf
 clear hM
 refine zbx M3 38 (.agg #[(vI k2), (vI c2), (vS A2 o2.length ac2), (vI st2)]) [(vI k2), (vI c2), (vS A2 o2.length ac2), (vI st2)] fun b4 w5 hb4 M6 => ?_
 replace M6 := M6.nf
 refine zpn 1 <| zfe <| zsr <| zpn 1 <| zld ⟨b1, 0, none⟩ (vI k) (blk_cell (M6.get 0 rfl) rfl) <| zpn 1 <| zld ⟨b4, 0, none⟩ (vI k2) (blk_cell (M6.get 1 rfl) rfl) <| zpn 2 ?_
 obtain ⟨B7, hB7⟩ : ∃ B : Bool, B = ((k : Int) == k2) := ⟨_, rfl⟩
 refine zkp [(2, (pT b1 0)), (3, (pT b4 0)), (10, (.bool ((k : Int) == k2)))] ?_
 rw [← hB7]
 have iB7 : B7 = true ↔ ((k : Int) = k2) := by rw [hB7]; simp only [beq_iff_eq]
 clear hB7
 intro aC fr
 refine zpk 1 7 [11] fr (news := [(11, (cond B7 (pT b1 1) undef))]) (by cases B7 <;> kernel_rfl) ?_
 intro aC fr
 refine From_either (B := B7) (d := (some 12)) (vI c) fr (by cases B7 <;> kernel_rfl) (fun hB hh => ?_) ?_
 cases B7 <;> try exact absurd hB (by decide)
 have c7 : ((k : Int) = k2) := iB7.1 rfl
 exact From_ld (some 12) ⟨b1, 1, none⟩ fr (by kernel_rfl) (vI c) (blk_cell (M6.get 0 rfl) rfl) hh
 intro aC fr
 refine zpk 1 9 [13] fr (news := [(13, (cond B7 (pT b4 1) undef))]) (by cases B7 <;> kernel_rfl) ?_
 intro aC fr
 refine From_either (B := B7) (d := (some 14)) (vI c2) fr (by cases B7 <;> kernel_rfl) (fun hB hh => ?_) ?_
 cases B7 <;> try exact absurd hB (by decide)
 have c7 : ((k : Int) = k2) := iB7.1 rfl
 exact From_ld (some 14) ⟨b4, 1, none⟩ fr (by kernel_rfl) (vI c2) (blk_cell (M6.get 1 rfl) rfl) hh
 intro aC fr
 refine zpk 3 13 [16, 17] fr (news := [(16, (.bool (B7 && ((c : Int) == c2)))), (17, (.bool (B7 && ((c : Int) == c2))))]) (by cases B7 <;> kernel_rfl) ?_
 intro aC fr
 obtain ⟨B20, hB20⟩ : ∃ B : Bool, B = (B7 && ((c : Int) == c2)) := ⟨_, rfl⟩
 revert aC
 refine zkp [(2, (pT b1 0)), (3, (pT b4 0)), (17, (.bool (B7 && ((c : Int) == c2))))] ?_
 rw [← hB20]
 have iB20 : B20 = true ↔ (((k : Int) = k2) ∧ ((c : Int) = c2)) := by rw [hB20]; simp only [Bool.and_eq_true, beq_iff_eq, iB7]
 clear hB20
 intro aC fr
 refine zpk 1 14 [18] fr (news := [(18, (cond B20 (pT b1 2) undef))]) (by cases B20 <;> kernel_rfl) ?_
 intro aC fr
 refine From_either (B := B20) (d := (some 19)) (vS A o.length ac) fr (by cases B20 <;> kernel_rfl) (fun hB hh => ?_) ?_
 cases B20 <;> try exact absurd hB (by decide)
 have c20 : (((k : Int) = k2) ∧ ((c : Int) = c2)) := iB20.1 rfl
 exact From_ld (some 19) ⟨b1, 2, none⟩ fr (by kernel_rfl) (vS A o.length ac) (blk_cell (M6.get 0 rfl) rfl) hh
 intro aC fr
 cases B20
 have c20 : ¬ (((k : Int) = k2) ∧ ((c : Int) = c2)) := (fun h => Bool.noConfusion (iB20.2 h) : ¬ (((k : Int) = k2) ∧ ((c : Int) = c2)))
 revert aC
 refine zpn 7 <| zfe <| zre <| zo1 (.bool false) ?_
 have hR : false = true ↔ False := by simp
 have M27 := M6.od [] 0
 exact ⟨bool_dec hR (⟨fun h_ => h_.elim, fun h_ => by have h1 := h_.1; have h2 := h_.2.1; omega⟩), M27⟩
 have c20 : (((k : Int) = k2) ∧ ((c : Int) = c2)) := iB20.1 rfl
 revert aC
 refine zcs o A o.length ac rfl (M6.ro hA) <| zpn 1 <| zld ⟨b4, 2, none⟩ (vS A2 o2.length ac2) (blk_cell (M6.get 1 rfl) rfl) <| zcs o2 A2 o2.length ac2 rfl (M6.ro hA2) <| zpn 3 <| zfe <| zre <| zo1 (.bool (((strOfNums o) : ByteArray).toList == ((strOfNums o2) : ByteArray).toList)) ?_
 have hR : (((strOfNums o) : ByteArray).toList == ((strOfNums o2) : ByteArray).toList) = true ↔ (((strOfNums o)).toList = ((strOfNums o2)).toList) := by simp only [beq_iff_eq]
 have M28 := M6.od [] 0
 exact ⟨bool_dec hR (⟨fun h_ => ⟨by omega, by omega, h_⟩, fun h_ => h_.2.2⟩), M28⟩
theorem same3_c (k c st k2 c2 st2 : Int) (o o2 : List Int) (A A2 : Option Addr) (ac ac2 : Nat) (w : World) (hA : RO noS w (.rd A (u8s o))) (hA2 : RO noS w (.rd A2 (u8s o2))) :
    Calls Try.prog 15 #[(.agg #[(vI k), (vI c), (vS A o.length ac), (vI st)]), (.agg #[(vI k2), (vI c2), (vS A2 o2.length ac2), (vI st2)])] w (Ret fun v w' => v = .bool (decide (st = st2 ∧ (k = k2 ∧ c = c2 ∧ (strOfNums o).toList = (strOfNums o2).toList))) ∧ Mem noS w w' []) := by
 refine zen 15 [(.agg #[(vI k), (vI c), (vS A o.length ac), (vI st)]), (.agg #[(vI k2), (vI c2), (vS A2 o2.length ac2), (vI st2)])] Try.func15 ?_
 have hM := Mem.init w
 refine zsr <| zbx hM 38 (.agg #[(vI k), (vI c), (vS A o.length ac), (vI st)]) [(vI k), (vI c), (vS A o.length ac), (vI st)] fun b1 w2 hb1 M3 => ?_
 replace M3 := M3.nf
 clear hM
 refine zbx M3 38 (.agg #[(vI k2), (vI c2), (vS A2 o2.length ac2), (vI st2)]) [(vI k2), (vI c2), (vS A2 o2.length ac2), (vI st2)] fun b4 w5 hb4 M6 => ?_
 replace M6 := M6.nf
 refine zpn 1 <| zfe <| zsr <| zpn 1 <| zld ⟨b1, 3, none⟩ (vI st) (blk_cell (M6.get 0 rfl) rfl) <| zpn 1 <| zld ⟨b4, 3, none⟩ (vI st2) (blk_cell (M6.get 1 rfl) rfl) <| zpn 2 ?_
 obtain ⟨B7, hB7⟩ : ∃ B : Bool, B = ((st : Int) == st2) := ⟨_, rfl⟩
 refine zkp [(2, (pT b1 0)), (3, (pT b4 0)), (10, (.bool ((st : Int) == st2)))] ?_
 rw [← hB7]
 have iB7 : B7 = true ↔ ((st : Int) = st2) := by rw [hB7]; simp only [beq_iff_eq]
 clear hB7
 cases B7
 have c7 : ¬ ((st : Int) = st2) := (fun h => Bool.noConfusion (iB7.2 h) : ¬ ((st : Int) = st2))
 refine zpn 5 <| zfe <| zre <| zo1 (.bool false) ?_
 have hR : false = true ↔ False := by simp
 have M8 := M6.od [] 0
 exact ⟨bool_dec hR (⟨fun h_ => h_.elim, fun h_ => by have h1 := h_.1; omega⟩), M8⟩
 have c7 : ((st : Int) = st2) := iB7.1 rfl
 refine zls ⟨b1, 0, none⟩ [(vI k), (vI c), (vS A o.length ac), (vI st)] (blk_cells (M6.get 0 rfl)) <| zls ⟨b4, 0, none⟩ [(vI k2), (vI c2), (vS A2 o2.length ac2), (vI st2)] (blk_cells (M6.get 1 rfl)) <| zcl (alike_c k c st k2 c2 st2 o o2 A A2 ac ac2 w5 (hA.at_ M6) (hA2.at_ M6)) ?_
 rintro _ w9 ⟨rfl, M10x⟩
 have M10 := M6.cl M10x
 refine zpn 2 <| zfe <| zre <| zo1 (.bool (decide (k = k2 ∧ c = c2 ∧ (strOfNums o).toList = (strOfNums o2).toList))) ?_
 have hR : decide (k = k2 ∧ c = c2 ∧ (strOfNums o).toList = (strOfNums o2).toList) = true ↔ (k = k2 ∧ c = c2 ∧ (strOfNums o).toList = (strOfNums o2).toList) := by simp only [decide_eq_true_eq]
 have M11 := M10.od [] 0
 exact ⟨bool_dec hR (⟨fun h_ => ⟨by omega, h_⟩, fun h_ => h_.2⟩), M11⟩
theorem one15_c (n : Int) (w : World) :
    Calls Try.prog 26 #[(vI n)] w (Ret fun v w' => v = .agg #[.int .i64 1, .int .i64 n, .string ⟨#[]⟩, .slice none 0 0] ∧ Mem noS w w' []) := by
 refine zen 5 [(vI n)] Try.func26 ?_
 have hM := Mem.init w
 refine zsr <| zal hM 53 [(vI 0), (vI 0), (.string ⟨#[]⟩), (vS none 0 0)] fun b1 w2 hb1 M3 => ?_
 replace M3 := M3.nf
 clear hM
 refine zfe <| zsr <| zpn 2 ?_
 intro aC fr
 refine From_storeS_blk (by kernel_rfl : coreAt _ 2 = some (none, (.store 53 (.tmp 2) (.tmp 4)), 0, none)) fr (by kernel_rfl) (by kernel_rfl) (k' := 3) rfl (b := b1) (t0 := 53) (vs := [(vI 1), (vI n), (.string ⟨#[]⟩), (vS none 0 0)]) (cs := [(vI 0), (vI 0), (.string ⟨#[]⟩), (vS none 0 0)]) (by kernel_rfl) (by kernel_rfl) (by kernel_rfl) (by simp only [List.mem_cons, List.not_mem_nil, or_false]; intro v hv; rcases hv with rfl | rfl | rfl | rfl <;> first | rfl | assumption) M3 0 rfl rfl ?_
 intro w4 M5 _ aC ea fr; clear ea
 replace M5 := M5.nf
 revert aC
 refine zfe <| zre ?_
 intro aC fr
 refine outC (ad := ⟨b1, 0, none⟩) (vs := [(vI 1), (vI n), (.string ⟨#[]⟩), (vS none 0 0)]) fr rfl (by kernel_rfl) (by kernel_rfl) (blk_cells (M5.get 0 rfl)) ?_
 refine ⟨_, rfl, ?_⟩
 have M12 := M5.od [] 0
 exact ⟨rfl, M12⟩
theorem local15_c (n : Int) (w : World) :
    Calls Try.prog 25 #[(vI n)] w (Ret fun v w' => v = .agg #[.int .i64 2, .int .i64 n, .string ⟨#[]⟩, .slice none 0 0] ∧ Mem noS w w' []) := by
 refine zen 5 [(vI n)] Try.func25 ?_
 have hM := Mem.init w
 refine zsr <| zal hM 53 [(vI 0), (vI 0), (.string ⟨#[]⟩), (vS none 0 0)] fun b1 w2 hb1 M3 => ?_
 replace M3 := M3.nf
 clear hM
 refine zfe <| zsr <| zpn 2 ?_
 intro aC fr
 refine From_storeS_blk (by kernel_rfl : coreAt _ 2 = some (none, (.store 53 (.tmp 2) (.tmp 4)), 0, none)) fr (by kernel_rfl) (by kernel_rfl) (k' := 3) rfl (b := b1) (t0 := 53) (vs := [(vI 2), (vI n), (.string ⟨#[]⟩), (vS none 0 0)]) (cs := [(vI 0), (vI 0), (.string ⟨#[]⟩), (vS none 0 0)]) (by kernel_rfl) (by kernel_rfl) (by kernel_rfl) (by simp only [List.mem_cons, List.not_mem_nil, or_false]; intro v hv; rcases hv with rfl | rfl | rfl | rfl <;> first | rfl | assumption) M3 0 rfl rfl ?_
 intro w4 M5 _ aC ea fr; clear ea
 replace M5 := M5.nf
 revert aC
 refine zfe <| zre ?_
 intro aC fr
 refine outC (ad := ⟨b1, 0, none⟩) (vs := [(vI 2), (vI n), (.string ⟨#[]⟩), (vS none 0 0)]) fr rfl (by kernel_rfl) (by kernel_rfl) (blk_cells (M5.get 0 rfl)) ?_
 refine ⟨_, rfl, ?_⟩
 have M12 := M5.od [] 0
 exact ⟨rfl, M12⟩
theorem awake15_d (w : World) :
    Calls Try.prog 10 #[] w (Ret fun v w' => v = .bool (decide (True)) ∧ Mem noS w w' []) := by
 refine zen 48 [] Try.func10 ?_
 have hM := Mem.init w
 refine zsp <| zsr <| zcl (local15_c 0 w) ?_
 rintro _ w1 ⟨rfl, M2x⟩
 have M2 := hM.cl M2x
 clear M2x hM
 refine zcl (one15_c 1 w1) ?_
 rintro _ w3 ⟨rfl, M4x⟩
 have M4 := M2.cl M4x
 intro aC fr
 refine zBs 6 46 2 #[(0, (.tmp 4)), (1, (.tmp 5))] 46 fr (e := 53) (size := 4) (zs := [(vI 0), (vI 0), (.string ⟨#[]⟩), (vS none 0 0)]) (vs := [(0, (.agg #[(vI 2), (vI 0), (.string ⟨#[]⟩), (vS none 0 0)])), (1, (.agg #[(vI 1), (vI 1), (.string ⟨#[]⟩), (vS none 0 0)]))]) (cs := [(vI 2), (vI 0), (.string ⟨#[]⟩), (vS none 0 0), (vI 1), (vI 1), (.string ⟨#[]⟩), (vS none 0 0)]) M4 ?_
 intro b5 w6 hb5 _ M7 _ aC ea fr; clear ea
 replace M7 := M7.nf
 revert aC
 refine zpn 1 ?_
 intro aC fr
 refine zBs 8 46 1 #[(0, (.tmp 7))] 46 fr (e := 53) (size := 4) (zs := [(vI 0), (vI 0), (.string ⟨#[]⟩), (vS none 0 0)]) (vs := [(0, (.agg #[(vI 3), (vI 1), (.string ⟨#[]⟩), (vS (sM b5) 2 2)]))]) (cs := [(vI 3), (vI 1), (.string ⟨#[]⟩), (vS (sM b5) 2 2)]) M7 ?_
 intro b12 w13 hb12 _ M14 _ aC ea fr; clear ea
 replace M14 := M14.nf
 revert aC
 refine zpn 1 ?_
 intro aC fr
 refine zBs 10 43 1 #[(0, (.tmp 9))] 43 fr (e := 48) (size := 5) (zs := [(vI 0), (vI 0), (vS none 0 0), (vS none 0 0), (vS none 0 0)]) (vs := [(0, (.agg #[(vI 9), (vI 0), (vS (sM b12) 1 1), (vS none 0 0), (vS none 0 0)]))]) (cs := [(vI 9), (vI 0), (vS (sM b12) 1 1), (vS none 0 0), (vS none 0 0)]) M14 ?_
 intro b19 w20 hb19 _ M21 _ aC ea fr; clear ea
 replace M21 := M21.nf
 revert aC
 refine zpn 1 <| zal M21 45 [(.string ⟨#[]⟩), (.bool false), (vI 0), (vI 0), (vS none 0 0)] fun b26 w27 hb26 M28 => ?_
 replace M28 := M28.nf
 refine zss M28 3 [(.string ⟨#[102]⟩), (.bool false), (vI 1), (vI 1), (vS (sM b19) 1 1)] rfl fun w29 M30 => ?_
 replace M30 := M30.nf
 refine zfe <| zsr <| zpn 1 ?_
 intro aC fr
 refine zBs 13 43 1 #[(0, (.tmp 12))] 43 fr (e := 48) (size := 5) (zs := [(vI 0), (vI 0), (vS none 0 0), (vS none 0 0), (vS none 0 0)]) (vs := [(0, (.agg #[(vI 10), (vI 5), (vS none 0 0), (vS none 0 0), (vS none 0 0)]))]) (cs := [(vI 10), (vI 5), (vS none 0 0), (vS none 0 0), (vS none 0 0)]) M30 ?_
 intro b31 w32 hb31 _ M33 _ aC ea fr; clear ea
 replace M33 := M33.nf
 revert aC
 refine zkp [(1, (pT b26 0)), (13, (vS (sM b31) 1 1))] <| zpn 1 <| zal M33 45 [(.string ⟨#[]⟩), (.bool false), (vI 0), (vI 0), (vS none 0 0)] fun b38 w39 hb38 M40 => ?_
 replace M40 := M40.nf
 refine zss M40 5 [(.string ⟨#[103]⟩), (.bool false), (vI 0), (vI 0), (vS (sM b31) 1 1)] rfl fun w41 M42 => ?_
 replace M42 := M42.nf
 refine zfe <| zsr <| zls ⟨b38, 0, none⟩ [(.string ⟨#[103]⟩), (.bool false), (vI 0), (vI 0), (vS (sM b31) 1 1)] (blk_cells (M42.get 5 rfl)) ?_
 intro aC fr
 refine zBs 16 22 1 #[(0, (.tmp 15))] 22 fr (e := 45) (size := 5) (zs := [(.string ⟨#[]⟩), (.bool false), (vI 0), (vI 0), (vS none 0 0)]) (vs := [(0, (.agg #[(.string ⟨#[103]⟩), (.bool false), (vI 0), (vI 0), (vS (sM b31) 1 1)]))]) (cs := [(.string ⟨#[103]⟩), (.bool false), (vI 0), (vI 0), (vS (sM b31) 1 1)]) M42 ?_
 intro b43 w44 hb43 _ M45 _ aC ea fr; clear ea
 replace M45 := M45.nf
 revert aC
 refine zpn 1 ?_
 intro aC fr
 refine zBs 18 32 1 #[(0, (.tmp 17))] 32 fr (e := 25) (size := 3) (zs := [(.string ⟨#[]⟩), (vS none 0 0), (vS none 0 0)]) (vs := [(0, (.agg #[(.string ⟨#[]⟩), (vS (sM b43) 1 1), (vS none 0 0)]))]) (cs := [(.string ⟨#[]⟩), (vS (sM b43) 1 1), (vS none 0 0)]) M45 ?_
 intro b50 w51 hb50 _ M52 _ aC ea fr; clear ea
 replace M52 := M52.nf
 refine zBs 19 33 1 #[(0, (.const (.string { data := #[103] })))] 33 fr (e := 9) (size := 1) (zs := [(.string ⟨#[]⟩)]) (vs := [(0, (.string ⟨#[103]⟩))]) (cs := [(.string ⟨#[103]⟩)]) M52 ?_
 intro b57 w58 hb57 _ M59 _ aC ea fr; clear ea
 replace M59 := M59.nf
 revert aC
 refine zcl (vs := #[(vS (sM b50) 1 1), (vS (sM b57) 1 1), (vI 10), (vS none 0 0), (vI 10)]) ((by have h9 := trun_c [awM1 (sM b43) (sM b31)] (sM b50) 1 [⟨#[103]⟩] (sM b57) 1 10 [] none 0 10 w58 (aw1_in (A13 := (sM b31)) (A16 := (sM b43)) (M59.get 7 rfl) (M59.get 8 rfl) (M59.get 6 rfl) (M59.get 4 rfl)) (by show (0 : Nat) ≤ _; omega); rw [aw1_run] at h9; exact h9)) ?_
 rintro _ w64 ⟨oA62, oc63, rfl, M65x⟩
 have M65 := M59.cl M65x
 refine zal M65 38 [(vI 0), (vI 0), (vS none 0 0), (vI 0)] fun b66 w67 hb66 M68 => ?_
 replace M68 := M68.nf
 refine zss M68 10 [(vI 2), (vI 5), (vS oA62 0 oc63), (vI 1)] rfl fun w69 M70 => ?_
 replace M70 := M70.nf
 refine zfe <| zsr <| zls ⟨b26, 0, none⟩ [(.string ⟨#[102]⟩), (.bool false), (vI 1), (vI 1), (vS (sM b19) 1 1)] (blk_cells (M70.get 3 rfl)) <| zkp [(1, (pT b26 0)), (2, (pT b38 0)), (3, (pT b66 0)), (21, (.agg #[(.string ⟨#[102]⟩), (.bool false), (vI 1), (vI 1), (vS (sM b19) 1 1)]))] <| zcl (vs := #[(.agg #[(.string ⟨#[102]⟩), (.bool false), (vI 1), (vI 1), (vS (sM b19) 1 1)])]) ((by have h9 := tsize_c (awFn (sM b5) (sM b12) (sM b19)) _ w69 (awFn_ro (A6 := (sM b5)) (A8 := (sM b12)) (A10 := (sM b19)) (M70.get 0 rfl) (M70.get 1 rfl) (M70.get 2 rfl)) (sub_fn (List.mem_singleton.2 rfl)) awFn_in (by show (4 : Nat) ≤ _; omega); exact h9)) ?_
 rintro _ w71 ⟨rfl, M72x⟩
 have M72 := M70.cl M72x
 refine zpn 2 <| zls ⟨b26, 0, none⟩ [(.string ⟨#[102]⟩), (.bool false), (vI 1), (vI 1), (vS (sM b19) 1 1)] (blk_cells (M72.get 3 rfl)) <| zls ⟨b38, 0, none⟩ [(.string ⟨#[103]⟩), (.bool false), (vI 0), (vI 0), (vS (sM b31) 1 1)] (blk_cells (M72.get 5 rfl)) ?_
 intro aC fr
 refine From_buildSlice (by kernel_rfl : coreAt _ 6 = some (some 27, (.buildSlice 22 2 #[(0, (.tmp 25)), (1, (.tmp 26))]), 22, some (3, true))) fr (by kernel_rfl) (by kernel_rfl) (k' := 7) rfl (e := 45) (size := 5) (zs := [(.string ⟨#[]⟩), (.bool false), (vI 0), (vI 0), (vS none 0 0)]) (vs := [(0, (.agg #[(.string ⟨#[102]⟩), (.bool false), (vI 1), (vI 1), (vS (sM b19) 1 1)])), (1, (.agg #[(.string ⟨#[103]⟩), (.bool false), (vI 0), (vI 0), (vS (sM b31) 1 1)]))]) (cs := [(.string ⟨#[102]⟩), (.bool false), (vI 1), (vI 1), (vS (sM b19) 1 1), (.string ⟨#[103]⟩), (.bool false), (vI 0), (vI 0), (vS (sM b31) 1 1)]) (by kernel_rfl) (by kernel_rfl) (by kernel_rfl) (by kernel_rfl) (by kernel_rfl) (by kernel_rfl) M72 ?_
 intro b73 w74 hb73 _ M75 _ aC ea fr; clear ea
 replace M75 := M75.nf
 revert aC
 refine zpn 1 <| zcl (tsmall_c (awM2 (sM b73) (sM b5) (sM b12) (sM b19) (sM b31)) w74 (awM2_ro (A27 := (sM b73)) (A6 := (sM b5)) (A8 := (sM b12)) (A10 := (sM b19)) (A13 := (sM b31)) (M75.get 11 rfl) (M75.get 0 rfl) (M75.get 1 rfl) (M75.get 2 rfl) (M75.get 4 rfl)) awM2_in) ?_
 rintro _ w84 ⟨fs82, A80, c81, hf83, rfl, M85x⟩
 have M85 := M75.cl M85x
 rw [aw_small_len hf83]
 have hfl_ := aw_small_len hf83
 refine zpn 5 <| zld ⟨b66, 0, none⟩ (vI 2) (blk_cell (M85.get 10 rfl) rfl) <| zpn 4 <| zld ⟨b66, 1, none⟩ (vI 5) (blk_cell (M85.get 10 rfl) rfl) <| zpn 4 <| zld ⟨b66, 3, none⟩ (vI 1) (blk_cell (M85.get 10 rfl) rfl) <| zkp [(43, (.bool true)), (45, (vI 1))] <| zpn 3 <| zfe <| zre ?_
 refine zo1 (.bool true) ?_
 have hR : true = true ↔ True := by simp
 have M86 := M85.od [] 0
 exact ⟨bool_dec hR (⟨fun _ => trivial, fun _ => by first | trivial | omega | rfl⟩), M86⟩
theorem awake15_c (w : World) : Calls Try.prog 10 #[] w (Ret fun v w' => v = .bool true ∧ Mem noS w w' []) := by
  have h := awake15_d w
  simpa using h
end Go.Proofs.Ytdcgcjibgihbbaa
namespace Go.Proofs.Ytdcgcjibgihbbaa
open Go.Mor
theorem rparts_c (m : TMod) (w : World) (hR : RO noS w (.all m.parts)) (hI : m.In) :
    Calls Try.prog 30 #[(.agg (MC m).toArray)] w (Ret fun v w' => ∃ r, v = .int .i64 r ∧ Cnt 20000 0 (fnsN m.fns) r ∧ Mem noS w w' []) := by
 have hnf := hI.nf
 have hnd := hI.nd
 refine zen 28 [(.agg (MC m).toArray)] Try.func30 ?_
 have hM := Mem.init w
 refine zsr <| zbx hM 25 (.agg (MC m).toArray) (MC m) fun b1 w2 hb1 M3 => ?_
 replace M3 := M3.nf
 clear hM
 refine zpn 1 <| zfe <| zsp <| zsq <| zsp <| zbk 0 ?_
 intro aC fr
 refine zlp (fun n_ a_ w_ => ∃ (j : Nat) (nj : Int), n_ = m.fns.length - j ∧ Fr a_ 28 [(1, (pT b1 0)), (3, (vI nj)), (4, (nV j))] ∧ Mem noS w w_ [.blk b1 25 (MC m)] ∧ (j ≤ m.fns.length) ∧ (Cnt 20000 0 (fnsN (m.fns.take j)) nj) ∧ (nj ≤ 20002)) (n := _) ⟨0, 0, rfl, fr.kp [1, 3, 4], M3, Nat.zero_le _, Cnt.zero, by omega⟩ ?_
 clear fr aC M3; rintro n aC w6 ⟨j, nj, rfl, fr, M7, hj, hc, hb⟩
 revert aC
 refine zsq <| zsr <| zpn 2 <| zld ⟨b1, 1, none⟩ (vS m.fA m.fns.length m.fc) (blk_cell (M7.get 0 rfl) rfl) <| zpn 3 ?_
 obtain ⟨B10, hB10⟩ : ∃ B : Bool, B = decide (((j : Int) : Int) < ((m.fns.length : Nat) : Int)) := ⟨_, rfl⟩
 refine zkp [(1, (pT b1 0)), (3, (vI nj)), (4, (nV j)), (10, (.bool (decide (((j : Int) : Int) < ((m.fns.length : Nat) : Int)))))] ?_
 rw [← hB10]
 have iB10 : B10 = true ↔ (((j : Int) : Int) < ((m.fns.length : Nat) : Int)) := by rw [hB10]; simp only [decide_eq_true_eq]
 clear hB10
 intro aC fr
 refine zpk 3 9 [13] fr (news := [(13, (.bool (B10 && decide ((nj : Int) ≤ 20000))))]) (by cases B10 <;> kernel_rfl) ?_
 intro aC fr
 revert aC
 refine zfe <| zcP (B10 && decide ((nj : Int) ≤ 20000)) ((((j : Int) : Int) < ((m.fns.length : Nat) : Int)) ∧ ((nj : Int) ≤ 20000)) (by simp only [Bool.and_eq_true, decide_eq_true_eq, iB10]) (fun c15 => ?_) (fun c15 => ?_)
 refine zsk <| zsq <| zbk 1 <| zrg ?_
 have hcb := hc.le
 obtain ⟨f, hf⟩ := get_of (l := m.fns) (i := j) (by omega)
 have hfm := List.mem_of_getElem? hf
 have hfI := hI.fns f hfm
 refine zpn 2 <| zld ⟨b1, 1, none⟩ (vS m.fA m.fns.length m.fc) (blk_cell (M7.get 0 rfl) rfl) <| zpn 1 ?_
 obtain ⟨ad16, had17⟩ := rds_some (M7.ro hR.m_fns) (cs := f.cells) (i := j) (gm hf)
 intro aC fr
 refine From_ixA (some 20) m.fA ad16 m.fns.length 5 (j : Int) fr (by kernel_rfl) had17 (by omega) (by omega) ?_
 intro aC fr
 revert aC
 refine zpn 1 ?_
 refine zld (((ad16 : Addr).add (((j : Int)).toNat * 5)).add 4) (vS f.A f.body.length f.c) (rds_get (M7.ro hR.m_fns) had17 (i := j) (cs := f.cells) (gm hf) 4 _ rfl) ?_
 refine zpn 1 <| zar (20000 - nj) <| zcl (vs := #[(vS f.A f.body.length f.c), (vI (20000 - nj))]) (tsck_all f.body f.A f.c _ _ w6 (by omega) (by omega) (hR.m_tree.at_ M7) (sub_fn hfm) hfI.body hfI.len) ?_
 rintro _ w23 ⟨r22, rfl, ⟨hrk, hrb⟩, M24x⟩
 have M24 := M7.cl M24x
 have hrl := hrk.le
 refine zar (nj + r22) <| zpn 1 <| zfe <| zrg <| zpn 1 <| zar ((j : Int) + 1) <| zkp [(1, (pT b1 0)), (3, (vI (nj + r22))), (15, (vI ((j : Int) + 1)))] <| zpn 1 <| zfe ?_
 intro aC fr
 exact ⟨m.fns.length - (j + 1), by omega, j + 1, (nj + r22), rfl, fr.kp [1, 3, 4], (M24.tk 1), by omega, (hc.trans hrk.sh).cast (by rw [fnsN_take hf]; omega), by omega⟩
 refine zex 0 <| zbh <| zsp <| zre <| zo1 (vI nj) ?_
 have M27 := M7.od [] 0
 exact ⟨nj, rfl, hc.upto (by have := fnsN_le m.fns j; omega) (by by_cases h_ : j < m.fns.length; exact .inl (by omega); exact .inr (by rw [List.take_of_length_le (by omega)])), M27⟩
theorem rwords_c (m : TMod) (w : World) (hR : RO noS w (.all m.parts)) (hI : m.In) :
    Calls Try.prog 31 #[(.agg (MC m).toArray)] w (Ret fun v w' => ∃ r, v = .int .i64 r ∧ Cnt 16384 0 (datN m.dats) r ∧ Mem noS w w' []) := by
 have hnf := hI.nf
 have hnd := hI.nd
 refine zen 27 [(.agg (MC m).toArray)] Try.func31 ?_
 have hM := Mem.init w
 refine zsr <| zbx hM 25 (.agg (MC m).toArray) (MC m) fun b1 w2 hb1 M3 => ?_
 replace M3 := M3.nf
 clear hM
 refine zpn 1 <| zfe <| zsp <| zsq <| zsp <| zbk 0 ?_
 intro aC fr
 refine zlp (fun n_ a_ w_ => ∃ (j : Nat) (nj : Int), n_ = m.dats.length - j ∧ Fr a_ 27 [(1, (pT b1 0)), (3, (vI nj)), (4, (nV j))] ∧ Mem noS w w_ [.blk b1 25 (MC m)] ∧ (j ≤ m.dats.length) ∧ (Cnt 16384 0 (datN (m.dats.take j)) nj) ∧ (nj ≤ 32770)) (n := _) ⟨0, 0, rfl, fr.kp [1, 3, 4], M3, Nat.zero_le _, Cnt.zero, by omega⟩ ?_
 clear fr aC M3; rintro n aC w6 ⟨j, nj, rfl, fr, M7, hj, hc, hb⟩
 revert aC
 refine zsq <| zsr <| zpn 2 <| zld ⟨b1, 2, none⟩ (vS m.dA m.dats.length m.dc) (blk_cell (M7.get 0 rfl) rfl) <| zpn 3 ?_
 obtain ⟨B10, hB10⟩ : ∃ B : Bool, B = decide (((j : Int) : Int) < ((m.dats.length : Nat) : Int)) := ⟨_, rfl⟩
 refine zkp [(1, (pT b1 0)), (3, (vI nj)), (4, (nV j)), (10, (.bool (decide (((j : Int) : Int) < ((m.dats.length : Nat) : Int)))))] ?_
 rw [← hB10]
 have iB10 : B10 = true ↔ (((j : Int) : Int) < ((m.dats.length : Nat) : Int)) := by rw [hB10]; simp only [decide_eq_true_eq]
 clear hB10
 intro aC fr
 refine zpk 3 9 [13] fr (news := [(13, (.bool (B10 && decide ((nj : Int) ≤ 16384))))]) (by cases B10 <;> kernel_rfl) ?_
 intro aC fr
 revert aC
 refine zfe <| zcP (B10 && decide ((nj : Int) ≤ 16384)) ((((j : Int) : Int) < ((m.dats.length : Nat) : Int)) ∧ ((nj : Int) ≤ 16384)) (by simp only [Bool.and_eq_true, decide_eq_true_eq, iB10]) (fun c15 => ?_) (fun c15 => ?_)
 refine zsk <| zsq <| zbk 1 <| zrg ?_
 have hcb := hc.le
 obtain ⟨d, hd⟩ := get_of (l := m.dats) (i := j) (by omega)
 have hdI := hI.dats d (List.mem_of_getElem? hd)
 have hdw := hdI.2.1
 unfold LenOk at hdw
 refine zpn 2 <| zld ⟨b1, 2, none⟩ (vS m.dA m.dats.length m.dc) (blk_cell (M7.get 0 rfl) rfl) <| zpn 1 ?_
 obtain ⟨ad16, had17⟩ := rds_some (M7.ro hR.m_dats) (cs := d.cells) (i := j) (gm hd)
 intro aC fr
 refine From_ixA (some 20) m.dA ad16 m.dats.length 4 (j : Int) fr (by kernel_rfl) had17 (by omega) (by omega) ?_
 intro aC fr
 revert aC
 refine zpn 1 ?_
 refine zld (((ad16 : Addr).add (((j : Int)).toNat * 4)).add 2) (vS d.wA d.words.length d.wc) (rds_get (M7.ro hR.m_dats) had17 (i := j) (cs := d.cells) (gm hd) 2 _ rfl) ?_
 refine zpn 1 <| zmn (some 24) (.tmp 23) (.const (vI 16385)) #[3, 3] 3 .i64 ((d.words.length : Nat) : Int) 16385 <| zar (nj + (min ((d.words.length : Nat) : Int) 16385)) <| zpn 1 <| zfe <| zrg <| zpn 1 <| zar ((j : Int) + 1) <| zkp [(1, (pT b1 0)), (3, (vI (nj + (min ((d.words.length : Nat) : Int) 16385)))), (15, (vI ((j : Int) + 1)))] <| zpn 1 ?_
 refine zfe ?_
 intro aC fr
 exact ⟨m.dats.length - (j + 1), by omega, j + 1, (nj + (min ((d.words.length : Nat) : Int) 16385)), rfl, fr.kp [1, 3, 4], M7, by omega, (by unfold Cnt at hc ⊢; rw [datN_take hd]; omega), by omega⟩
 refine zex 0 <| zbh <| zsp <| zre <| zo1 (vI nj) ?_
 have M24 := M7.od [] 0
 exact ⟨nj, rfl, hc.upto (by have := datN_le m.dats j; omega) (by by_cases h_ : j < m.dats.length; exact .inl (by omega); exact .inr (by rw [List.take_of_length_le (by omega)])), M24⟩
set_option maxHeartbeats 1000000 in
theorem rvalid_c (m : TMod) (w : World) (hR : RO noS w (.all m.parts)) (hI : m.In) :
    Calls Try.prog 13 #[(.agg (MC m).toArray)] w (Ret fun v w' => v = .int .i64 (validT m) ∧ Mem noS w w' []) := by
 have hnf := hI.nf
 have hnd := hI.nd
 refine zen 79 [(.agg (MC m).toArray)] Try.func13 ?_
 have hM := Mem.init w
 refine zsr <| zbx hM 25 (.agg (MC m).toArray) (MC m) fun b1 w2 hb1 M3 => ?_
 replace M3 := M3.nf
 clear hM
 refine zpn 1 <| zfe <| zsq <| zsr <| zls ⟨b1, 0, none⟩ (MC m) (blk_cells (M3.get 0 rfl)) <| zcl (rparts_c m w2 (hR.at_ M3) hI) ?_
 rintro _ w5 ⟨r4, rfl, hcp, M6x⟩
 have M6 := M3.cl M6x
 have hgp := hcp.gt
 refine zpn 2 ?_
 obtain ⟨B7, hB7⟩ : ∃ B : Bool, B = decide ((r4 : Int) > 20000) := ⟨_, rfl⟩
 refine zkp [(1, (pT b1 0)), (10, (.bool (decide ((r4 : Int) > 20000))))] ?_
 rw [← hB7]
 have iB7 : B7 = true ↔ ((r4 : Int) > 20000) := by rw [hB7]; simp only [decide_eq_true_eq]
 clear hB7
 cases B7
 have c7 : ¬ ((r4 : Int) > 20000) := (fun h => Bool.noConfusion (iB7.2 h) : ¬ ((r4 : Int) > 20000))
 refine zls ⟨b1, 0, none⟩ (MC m) (blk_cells (M6.get 0 rfl)) <| zcl (rwords_c m w5 (hR.at_ M6) hI) ?_
 rintro _ w9 ⟨r8, rfl, hcw, M10x⟩
 have M10 := M6.cl M10x
 have hgw := hcw.gt
 refine zpn 2 <| zfe <| zcD ((r8 : Int) > 16384) (fun c11 => ?_) (fun c11 => ?_)
 refine zsr ?_
 have hlq : largeQ m := by unfold largeQ; omega
 refine zpn 1 <| zfe <| zre <| zo1 (vI 12) ?_
 have M12 := M10.od [] 0
 exact ⟨by rw [validT_12 hlq], M12⟩
 refine zsk <| zsq <| zsr ?_
 have hnl : ¬ largeQ m := by unfold largeQ; omega
 refine zpn 1 <| zfe <| zbk 0 ?_
 intro aC fr
 refine zlp (fun n_ a_ w_ => ∃ (j : Nat), n_ = m.fns.length - j ∧ Fr a_ 79 [(1, (pT b1 0)), (3, (nV j))] ∧ Mem noS w w_ [.blk b1 25 (MC m)] ∧ (j ≤ m.fns.length) ∧ (fnsTo m.fns j)) (n := _) ⟨0, rfl, fr.kp [1, 3], M10, Nat.zero_le _, fnsTo_zero _⟩ ?_
 clear fr aC M10; rintro n aC w15 ⟨j, rfl, fr, M16, hj, hr⟩
 revert aC
 refine zsq <| zsr <| zpn 2 <| zld ⟨b1, 1, none⟩ (vS m.fA m.fns.length m.fc) (blk_cell (M16.get 0 rfl) rfl) <| zpn 2 <| zfe <| zcD (((j : Int) : Int) < ((m.fns.length : Nat) : Int)) (fun c19 => ?_) (fun c19 => ?_)
 refine zsk <| zsq <| zbk 1 <| zsq <| zsr ?_
 obtain ⟨f, hf⟩ := get_of (l := m.fns) (i := j) (by omega)
 have hfm := List.mem_of_getElem? hf
 have hfI := hI.fns f hfm
 refine zpn 1 <| zld ⟨b1, 1, none⟩ (vS m.fA m.fns.length m.fc) (blk_cell (M16.get 0 rfl) rfl) <| zpn 1 ?_
 obtain ⟨ad20, had21⟩ := rds_some (M16.ro hR.m_fns) (cs := f.cells) (i := j) (gm hf)
 intro aC fr
 refine From_ixA (some 25) m.fA ad20 m.fns.length 5 (j : Int) fr (by kernel_rfl) had21 (by omega) (by omega) ?_
 intro aC fr
 revert aC
 refine zls ((ad20 : Addr).add (((j : Int)).toNat * 5)) (FC f) (rds_cells (i := j) (M16.ro hR.m_fns) had21 (gm hf)) ?_
 refine zcl (rfunc_c f (m.fns.flatMap TFn.parts) w15 (hR.m_tree.at_ M16) (sub_fn hfm) hfI) ?_
 rintro _ w26 ⟨rfl, M27x⟩
 have M27 := M16.cl M27x
 refine zpn 1 <| zfe <| zcP (!(fnV f)) (¬ ((fnV f) = true)) (by simp only [notT]) (fun c28 => ?_) (fun c28 => ?_)
 replace c28 : (fnV f) = false := Bool.eq_false_iff.2 c28
 have hV_ : ¬ fnV f = true := by have h_ := c28; simp_all
 refine zsp <| zre <| zbr <| zbr <| zo1 (vI 4) ?_
 have M29 := M27.od [] 0
 have hb_ : ¬ fnsTo m.fns m.fns.length := fns_no hf (by omega) (fun h_ => hV_ h_.1)
 exact ⟨by rw [validT_4 hnl (fun h_ => hb_ h_.1)], M29⟩
 replace c28 : (fnV f) = true := Classical.not_not.1 c28
 have hV_ : fnV f = true := by have h_ := c28; simp_all
 refine zsk <| zsp <| zbk 2 ?_
 intro aC fr
 refine zlp (fun n_ a_ w_ => ∃ (k : Nat), n_ = j - k ∧ Fr a_ 79 [(1, (pT b1 0)), (3, (nV j)), (4, (nV k))] ∧ Mem noS w w_ [.blk b1 25 (MC m)] ∧ (k ≤ j) ∧ (f.nm ∉ (m.fns.take k).map (·.nm))) (n := _) ⟨0, rfl, fr.kp [1, 3, 4], M27, Nat.zero_le _, nin_zero _⟩ ?_
 clear fr aC M27; rintro n aC w32 ⟨k, rfl, fr, M33, hk, hkn⟩
 revert aC
 refine zsq <| zsp <| zcD (((k : Int) : Int) < (j : Int)) (fun c36 => ?_) (fun c36 => ?_)
 refine zsk <| zsq <| zbk 3 <| zsq ?_
 obtain ⟨fk, hfk⟩ := get_of (l := m.fns) (i := k) (by omega)
 obtain ⟨ad37, had38⟩ := rds_some (M33.ro hR.m_fns) (cs := fk.cells) (i := k) (gm hfk)
 obtain ⟨ad39, had40⟩ := rds_some (M33.ro hR.m_fns) (cs := f.cells) (i := j) (gm hf)
 obtain ⟨B41, hB41⟩ : ∃ B : Bool, B = ((fk.nm : ByteArray).toList == (f.nm : ByteArray).toList) := ⟨_, rfl⟩
 refine zkp [(1, (pT b1 0)), (3, (nV j)), (4, (nV k))] ?_
 intro aC fr
 refine zdr (N := 79) (env0 := [(1, (pT b1 0)), (3, (nV j)), (4, (nV k))]) (specAt [.det (pT b1 1), .det (vS m.fA m.fns.length m.fc), .det (nV k), .det (.pointer (some ((ad37 : Addr).add (((k : Int)).toNat * 5)))), .det (.pointer (some ((ad37 : Addr).add (((k : Int)).toNat * 5)))), .det (.string fk.nm), .det (pT b1 1), .det (vS m.fA m.fns.length m.fc), .det (nV j), .det (.pointer (some ((ad39 : Addr).add (((j : Int)).toNat * 5)))), .det (.pointer (some ((ad39 : Addr).add (((j : Int)).toNat * 5)))), .det (.string f.nm), .det (.bool B41)]) fr (la (la (la (la (la (la (la (la (la (la (la (la (la lz dP) (dL ⟨b1, 1, none⟩ (vS m.fA m.fns.length m.fc) fun w_ hK => (blk_cell ((M33.then_ hK).get 0 rfl) rfl))) dP) (dIA m.fA ad37 m.fns.length 5 (k : Int) had38)) dP) (dL ((ad37 : Addr).add (((k : Int)).toNat * 5)) (.string fk.nm) fun w_ hK => (rds_get ((M33.then_ hK).ro hR.m_fns) had38 (i := k) (cs := fk.cells) (gm hfk) 0 _ rfl))) dP) (dL ⟨b1, 1, none⟩ (vS m.fA m.fns.length m.fc) fun w_ hK => (blk_cell ((M33.then_ hK).get 0 rfl) rfl))) dP) (dIA m.fA ad39 m.fns.length 5 (j : Int) had40)) dP) (dL ((ad39 : Addr).add (((j : Int)).toNat * 5)) (.string f.nm) fun w_ hK => (rds_get ((M33.then_ hK).ro hR.m_fns) had40 (i := j) (cs := f.cells) (gm hf) 0 _ rfl))) (dPe hB41)) ?_
 intro aC w46 vs hK hv fr
 revert aC; refine zkp [(1, (pT b1 0)), (3, (nV j)), (4, (nV k)), (46, (.bool B41))] ?_
 have M47 := M33.then_ hK
 clear hK hv fr aC M33; clear vs
 have iB41 : B41 = true ↔ ((fk.nm).toList = (f.nm).toList) := by rw [hB41]; simp only [beq_iff_eq]
 clear hB41
 refine zcP B41 ((fk.nm).toList = (f.nm).toList) iB41 (fun c48 => ?_) (fun c48 => ?_)
 refine zsp <| zre <| zbr <| zbr <| zbr <| zbr <| zo1 (vI 4) ?_
 have M49 := M47.od [] 0
 have hb_ : ¬ fnsTo m.fns m.fns.length := fns_no hf (by omega) (fun h_ => h_.2 (nin_no (k := k) (by omega) hfk (ba_same.1 c48)))
 exact ⟨by rw [validT_4 hnl (fun h_ => hb_ h_.1)], M49⟩
 refine zsk <| zrg <| zpn 1 <| zar ((k : Int) + 1) <| zpn 1 <| zfe ?_
 intro aC fr
 exact ⟨j - (k + 1), by omega, k + 1, rfl, fr.kp [1, 3, 4], M47, by omega, nin_succ hkn hfk (fun h_ => c48 (ba_same.2 h_))⟩
 refine zex 2 <| zbh <| zrg ?_
 obtain rfl : j = k := by omega
 refine zpn 1 <| zar ((j : Int) + 1) <| zpn 1 <| zfe ?_
 intro aC fr
 exact ⟨m.fns.length - (j + 1), by omega, j + 1, rfl, fr.kp [1, 3], M33, by omega, fnsTo_succ hr hf hV_ hkn⟩
 refine zex 0 <| zbh <| zsq <| zsp <| zbk 4 ?_
 obtain rfl : j = m.fns.length := by omega
 have hfT := hr
 clear hr hj
 intro aC fr
 refine zlp (fun n_ a_ w_ => ∃ (j : Nat), n_ = m.dats.length - j ∧ Fr a_ 79 [(1, (pT b1 0)), (5, (nV j))] ∧ Mem noS w w_ [.blk b1 25 (MC m)] ∧ (j ≤ m.dats.length) ∧ (datsTo m.dats j)) (n := _) ⟨0, rfl, fr.kp [1, 5], M16, Nat.zero_le _, datsTo_zero _⟩ ?_
 clear fr aC M16; rintro n aC w56 ⟨j, rfl, fr, M57, hj, hr⟩
 revert aC
 refine zsq <| zsr <| zpn 2 <| zld ⟨b1, 2, none⟩ (vS m.dA m.dats.length m.dc) (blk_cell (M57.get 0 rfl) rfl) <| zpn 2 <| zfe <| zcD (((j : Int) : Int) < ((m.dats.length : Nat) : Int)) (fun c60 => ?_) (fun c60 => ?_)
 refine zsk <| zsq <| zbk 5 <| zsq <| zsr ?_
 obtain ⟨d, hd⟩ := get_of (l := m.dats) (i := j) (by omega)
 have hdm := List.mem_of_getElem? hd
 have hdI := hI.dats d hdm
 refine zpn 1 <| zld ⟨b1, 2, none⟩ (vS m.dA m.dats.length m.dc) (blk_cell (M57.get 0 rfl) rfl) <| zpn 1 ?_
 obtain ⟨ad61, had62⟩ := rds_some (M57.ro hR.m_dats) (cs := d.cells) (i := j) (gm hd)
 intro aC fr
 refine From_ixA (some 57) m.dA ad61 m.dats.length 4 (j : Int) fr (by kernel_rfl) had62 (by omega) (by omega) ?_
 intro aC fr
 revert aC
 refine zls ((ad61 : Addr).add (((j : Int)).toNat * 4)) (DC d) (rds_cells (i := j) (M57.ro hR.m_dats) had62 (gm hd)) ?_
 refine zcl (rdata_c d w56 ((hR.m_refs hdm).at_ M57) hdI) ?_
 rintro _ w67 ⟨rfl, M68x⟩
 have M68 := M57.cl M68x
 refine zpn 1 <| zfe <| zcP (!(decide (datQ d))) (¬ (datQ d)) (by simp only [notT, decide_eq_true_eq]) (fun c69 => ?_) (fun c69 => ?_)
 have hV_ : ¬ datQ d := by have h_ := c69; simp_all
 refine zsp <| zre <| zbr <| zbr <| zo1 (vI 4) ?_
 have M70 := M68.od [] 0
 have hb_ : ¬ datsTo m.dats m.dats.length := dats_no hd (by omega) (fun h_ => hV_ h_.1)
 exact ⟨by rw [validT_4 hnl (fun h_ => hb_ h_.2)], M70⟩
 have hV_ : datQ d := by have h_ := c69; simp_all
 refine zsk <| zsp <| zbk 6 ?_
 intro aC fr
 refine zlp (fun n_ a_ w_ => ∃ (k : Nat), n_ = j - k ∧ Fr a_ 79 [(1, (pT b1 0)), (5, (nV j)), (6, (nV k))] ∧ Mem noS w w_ [.blk b1 25 (MC m)] ∧ (k ≤ j) ∧ (d.nm ∉ (m.dats.take k).map (·.nm))) (n := _) ⟨0, rfl, fr.kp [1, 5, 6], M68, Nat.zero_le _, nin_zero _⟩ ?_
 clear fr aC M68; rintro n aC w73 ⟨k, rfl, fr, M74, hk, hkn⟩
 revert aC
 refine zsq <| zsp <| zcD (((k : Int) : Int) < (j : Int)) (fun c77 => ?_) (fun c77 => ?_)
 refine zsk <| zsq <| zbk 7 <| zsq ?_
 obtain ⟨dk, hdk⟩ := get_of (l := m.dats) (i := k) (by omega)
 obtain ⟨ad78, had79⟩ := rds_some (M74.ro hR.m_dats) (cs := dk.cells) (i := k) (gm hdk)
 obtain ⟨ad80, had81⟩ := rds_some (M74.ro hR.m_dats) (cs := d.cells) (i := j) (gm hd)
 obtain ⟨B82, hB82⟩ : ∃ B : Bool, B = ((dk.nm : ByteArray).toList == (d.nm : ByteArray).toList) := ⟨_, rfl⟩
 refine zkp [(1, (pT b1 0)), (5, (nV j)), (6, (nV k))] ?_
 intro aC fr
 refine zdr (N := 79) (env0 := [(1, (pT b1 0)), (5, (nV j)), (6, (nV k))]) (specAt [.det (pT b1 2), .det (vS m.dA m.dats.length m.dc), .det (nV k), .det (.pointer (some ((ad78 : Addr).add (((k : Int)).toNat * 4)))), .det (.pointer (some ((ad78 : Addr).add (((k : Int)).toNat * 4)))), .det (.string dk.nm), .det (pT b1 2), .det (vS m.dA m.dats.length m.dc), .det (nV j), .det (.pointer (some ((ad80 : Addr).add (((j : Int)).toNat * 4)))), .det (.pointer (some ((ad80 : Addr).add (((j : Int)).toNat * 4)))), .det (.string d.nm), .det (.bool B82)]) fr (la (la (la (la (la (la (la (la (la (la (la (la (la lz dP) (dL ⟨b1, 2, none⟩ (vS m.dA m.dats.length m.dc) fun w_ hK => (blk_cell ((M74.then_ hK).get 0 rfl) rfl))) dP) (dIA m.dA ad78 m.dats.length 4 (k : Int) had79)) dP) (dL ((ad78 : Addr).add (((k : Int)).toNat * 4)) (.string dk.nm) fun w_ hK => (rds_get ((M74.then_ hK).ro hR.m_dats) had79 (i := k) (cs := dk.cells) (gm hdk) 0 _ rfl))) dP) (dL ⟨b1, 2, none⟩ (vS m.dA m.dats.length m.dc) fun w_ hK => (blk_cell ((M74.then_ hK).get 0 rfl) rfl))) dP) (dIA m.dA ad80 m.dats.length 4 (j : Int) had81)) dP) (dL ((ad80 : Addr).add (((j : Int)).toNat * 4)) (.string d.nm) fun w_ hK => (rds_get ((M74.then_ hK).ro hR.m_dats) had81 (i := j) (cs := d.cells) (gm hd) 0 _ rfl))) (dPe hB82)) ?_
 intro aC w87 vs hK hv fr
 revert aC; refine zkp [(1, (pT b1 0)), (5, (nV j)), (6, (nV k)), (78, (.bool B82))] ?_
 have M88 := M74.then_ hK
 clear hK hv fr aC M74; clear vs
 have iB82 : B82 = true ↔ ((dk.nm).toList = (d.nm).toList) := by rw [hB82]; simp only [beq_iff_eq]
 clear hB82
 refine zcP B82 ((dk.nm).toList = (d.nm).toList) iB82 (fun c89 => ?_) (fun c89 => ?_)
 refine zsp <| zre <| zbr <| zbr <| zbr <| zbr <| zo1 (vI 4) ?_
 have M90 := M88.od [] 0
 have hb_ : ¬ datsTo m.dats m.dats.length := dats_no hd (by omega) (fun h_ => h_.2 (nin_no (k := k) (by omega) hdk (ba_same.1 c89)))
 exact ⟨by rw [validT_4 hnl (fun h_ => hb_ h_.2)], M90⟩
 refine zsk <| zrg <| zpn 1 <| zar ((k : Int) + 1) <| zpn 1 <| zfe ?_
 intro aC fr
 exact ⟨j - (k + 1), by omega, k + 1, rfl, fr.kp [1, 5, 6], M88, by omega, nin_succ hkn hdk (fun h_ => c89 (ba_same.2 h_))⟩
 refine zex 6 <| zbh <| zrg ?_
 obtain rfl : j = k := by omega
 refine zpn 1 <| zar ((j : Int) + 1) <| zpn 1 <| zfe ?_
 intro aC fr
 exact ⟨m.dats.length - (j + 1), by omega, j + 1, rfl, fr.kp [1, 5], M74, by omega, datsTo_succ hr hd hV_ hkn⟩
 refine zex 4 <| zbh <| zsp <| zre <| zo1 (vI 0) ?_
 have M95 := M57.od [] 0
 obtain rfl : j = m.dats.length := by omega
 exact ⟨by rw [validT_0 hnl hfT hr], M95⟩
 have c7 : ((r4 : Int) > 20000) := iB7.1 rfl
 refine zpn 4 <| zfe <| zcT <| zsr ?_
 have hlq : largeQ m := by unfold largeQ; omega
 refine zpn 1 <| zfe <| zre <| zo1 (vI 12) ?_
 have M96 := M6.od [] 0
 exact ⟨by rw [validT_12 hlq], M96⟩
end Go.Proofs.Ytdcgcjibgihbbaa
namespace Go.Proofs.Ytdcgcjibgihbbaa
open Go.Mor
theorem rendO_c (b : Nat) (c0_ c1_ c2_ c3_ c4_ c5_ c6_ c7_ c8_ c9_ c11_ c12_ c13_ c14_ c15_ : Value) (k c : Int) (w : World) (hRb : RO noS w (.blk b 75 [c0_, c1_, c2_, c3_, c4_, c5_, c6_, c7_, c8_, c9_, (.bool true), c11_, c12_, c13_, c14_, c15_])) :
    Calls Try.prog 41 #[(pT b 0), (vI k), (vI c)] w (Ret fun v w' => v = .tuple #[] ∧ Mem noS w w' []) := by
 refine zen 24 [(pT b 0), (vI k), (vI c)] Try.func41 ?_
 have hM := Mem.init w
 refine zsr <| zpn 3 <| zld ⟨b, 10, none⟩ (.bool true) (blk_cell (hM.ro hRb) rfl) <| zpn 1 <| zfe <| zcF <| zsk <| zo0 ?_
 exact ⟨rfl, hM⟩
set_option maxHeartbeats 4000000 in
theorem rrun_c (ms : List TMod) (mA : Option Addr) (mc : Nat) (bg : List ByteArray) (gA : Option Addr) (gc : Nat) (mem : Int) (inp : List Int) (iA : Option Addr) (ic : Nat) (fuel : Int) (w : World) (hI : RunInT w ms mA bg gA inp iA ic) (hil : LenOk inp.length) :
    Calls Try.prog 17 #[(vS mA ms.length mc), (vS gA bg.length gc), (vI mem), (vS iA inp.length ic), (vI fuel)] w (Ret fun v w' => ∃ oA oc, v = outV (runTO ms bg mem inp fuel) oA oc ∧ Mem noS w w' [.row 5 1 oA (runTO ms bg mem inp fuel).2.2.1.length oc (u8s (runTO ms bg mem inp fuel).2.2.1)]) := by
 have hI1 := hI.len
 have hI2 := hI.glen
 unfold LenOk at hil
 refine zen 106 [(vS mA ms.length mc), (vS gA bg.length gc), (vI mem), (vS iA inp.length ic), (vI fuel)] Try.func17 ?_
 have hM := Mem.init w
 refine zsr <| zal hM 38 [(vI 0), (vI 0), (vS none 0 0), (vI 0)] fun b1 w2 hb1 M3 => ?_
 replace M3 := M3.nf
 clear hM
 refine zfe <| zsq <| zsp <| zbk 0 ?_
 intro aC fr
 refine zlp (fun n_ a_ w_ => ∃ (j : Nat), n_ = ms.length - j ∧ Fr a_ 106 [(0, (vS mA ms.length mc)), (1, (vS gA bg.length gc)), (2, (vI mem)), (3, (vS iA inp.length ic)), (4, (vI fuel)), (10, (pT b1 0)), (11, (nV j))] ∧ Mem noS w w_ [.blk b1 38 [(vI 0), (vI 0), (vS none 0 0), (vI 0)]] ∧ (j ≤ ms.length) ∧ (∀ i m, i < j → ms[i]? = some m → validT m = 0)) (n := _) ⟨0, rfl, fr.kp [0, 1, 2, 3, 4, 10, 11], M3, Nat.zero_le _, fun i _ hi => absurd hi (Nat.not_lt_zero i)⟩ ?_
 clear fr aC M3; rintro n aC w6 ⟨j, rfl, fr, M7, hj, hvj⟩
 revert aC
 refine zsq <| zsp <| zcD (((j : Int) : Int) < ((ms.length : Nat) : Int)) (fun c10 => ?_) (fun c10 => ?_)
 refine zsk <| zsq <| zbk 1 <| zsr ?_
 obtain ⟨m, hm⟩ := get_of (l := ms) (i := j) (by omega)
 have hmm := List.mem_of_getElem? hm
 refine zpn 2 ?_
 obtain ⟨ad11, rfl⟩ := rds_some (M7.ro hI.mods.mcells) (cs := m.cells) (i := j) (gm hm)
 refine zix ad11 ms.length 3 (j : Int) ?_
 refine zls ((ad11 : Addr).add (((j : Int)).toNat * 3)) (MC m) (rds_cells (i := j) (M7.ro hI.mods.mcells) rfl (gm hm)) ?_
 refine zcl (rvalid_c m w6 ((hI.mods.mod_of hmm).at_ M7) (hI.ins m hmm)) ?_
 rintro _ w12 ⟨rfl, M13x⟩
 have M13 := M7.cl M13x
 refine zpn 1 <| zfe <| zcP (((validT m) : Int) != 0) (((validT m) : Int) ≠ 0) (by simp only [bne_iff_ne]) (fun c14 => ?_) (fun c14 => ?_)
 refine zsr <| zpn 1 <| zss M13 0 [(vI 5), (vI 0), (vS none 0 0), (vI 0)] rfl fun w15 M16 => ?_
 replace M16 := M16.nf
 refine zfe <| zre <| zbr <| zbr ?_
 intro aC fr
 refine outC (ad := ⟨b1, 0, none⟩) (vs := [(vI 5), (vI 0), (vS none 0 0), (vI 0)]) fr rfl (by kernel_rfl) (by kernel_rfl) (blk_cells (M16.get 0 rfl)) ?_
 refine ⟨_, rfl, ?_⟩
 have hMz := M16.cl (Mem.nilrow _ 5 1)
 have M19 := hMz.od [1] 1
 clear hMz
 rw [runT_bad (.inr ⟨j, m, (List.getElem?_eq_some_iff.1 hm).1, hm, c14⟩)]; exact ⟨none, 0, rfl, M19⟩
 refine zsk <| zrg <| zpn 1 <| zar ((j : Int) + 1) <| zpn 1 <| zfe ?_
 intro aC fr
 exact ⟨ms.length - (j + 1), by omega, j + 1, rfl, fr.kp [0, 1, 2, 3, 4, 10, 11], M13, by omega, valid_next hvj hm (Classical.byContradiction c14)⟩
 refine zex 0 <| zbh <| zsq <| zsr <| zpn 3 ?_
 obtain ⟨B22, hB22⟩ : ∃ B : Bool, B = decide ((mem : Int) < 1) := ⟨_, rfl⟩
 refine zkp [(0, (vS mA ms.length mc)), (1, (vS gA bg.length gc)), (2, (vI mem)), (3, (vS iA inp.length ic)), (4, (vI fuel)), (10, (pT b1 0)), (31, (.bool (decide ((mem : Int) < 1))))] ?_
 rw [← hB22]
 have iB22 : B22 = true ↔ ((mem : Int) < 1) := by rw [hB22]; simp only [decide_eq_true_eq]
 clear hB22
 intro aC fr
 refine zpk 4 7 [34, 35] fr (news := [(34, (.bool (B22 || decide ((mem : Int) > 262144)))), (35, (.bool (B22 || decide ((mem : Int) > 262144))))]) (by cases B22 <;> kernel_rfl) ?_
 intro aC fr
 obtain ⟨B27, hB27⟩ : ∃ B : Bool, B = (B22 || decide ((mem : Int) > 262144)) := ⟨_, rfl⟩
 revert aC
 refine zkp [(0, (vS mA ms.length mc)), (1, (vS gA bg.length gc)), (2, (vI mem)), (3, (vS iA inp.length ic)), (4, (vI fuel)), (10, (pT b1 0)), (35, (.bool (B22 || decide ((mem : Int) > 262144))))] ?_
 rw [← hB27]
 have iB27 : B27 = true ↔ (((mem : Int) < 1) ∨ ((mem : Int) > 262144)) := by rw [hB27]; simp only [Bool.or_eq_true, decide_eq_true_eq, iB22]
 clear hB27
 intro aC fr
 refine zpk 4 11 [39] fr (news := [(39, (.bool (B27 || decide ((((inp.length : Nat) : Int) : Int) > 4096))))]) (by cases B27 <;> kernel_rfl) ?_
 intro aC fr
 revert aC
 refine zfe <| zcP (B27 || decide ((((inp.length : Nat) : Int) : Int) > 4096)) ((((mem : Int) < 1) ∨ ((mem : Int) > 262144)) ∨ ((((inp.length : Nat) : Int) : Int) > 4096)) (by simp only [Bool.or_eq_true, decide_eq_true_eq, iB27]) (fun c32 => ?_) (fun c32 => ?_)
 refine zsr <| zpn 1 <| zss M7 0 [(vI 5), (vI 0), (vS none 0 0), (vI 0)] rfl fun w33 M34 => ?_
 replace M34 := M34.nf
 refine zfe <| zre ?_
 intro aC fr
 refine outC (ad := ⟨b1, 0, none⟩) (vs := [(vI 5), (vI 0), (vS none 0 0), (vI 0)]) fr rfl (by kernel_rfl) (by kernel_rfl) (blk_cells (M34.get 0 rfl)) ?_
 refine ⟨_, rfl, ?_⟩
 have hMz := M34.cl (Mem.nilrow _ 5 1)
 have M37 := hMz.od [1] 1
 clear hMz
 rw [runT_bad (.inl (by omega))]; exact ⟨none, 0, rfl, M37⟩
 refine zsk <| zsr ?_
 obtain rfl : j = ms.length := by omega
 have hbad : ¬ badT ms mem inp ms.length := fun h_ => h_.elim (fun h_ => by omega) (fun ⟨i_, m_, hi_, hm_, hv_⟩ => hv_ (hvj i_ m_ hi_ hm_))
 have hm1 : 1 ≤ mem := by omega
 have hm2 : mem ≤ 262144 := by omega
 have hdat := fun d hd => runT_dats hbad d (csD_mem hd)
 have hnf1 := csF_len (ms := ms)
 have hnd1 := csD_len (ms := ms)
 have hnf2 := hI.nf
 have hnd2 := hI.nd
 have hsum := nextTo_sum hdat (csD ms).length (Nat.le_refl _)
 refine zpn 1 <| zcl (rFuncs_c ms mA mc w6 (hI.mods.at_ M7) hI.len (by exact hI.nf)) ?_
 rintro _ w40 ⟨A38, c39, rfl, M41x⟩
 have M41 := M7.cl M41x
 refine zpn 1 <| zbx M41 75 (.agg #[(vS none 0 0), (vS none 0 0), (vS none 0 0), (vI 0), (vS none 0 0), (vI 0), (vI 0), (vI 0), (vS none 0 0), (vI 0), (.bool false), (vI 0), (vI 0), (vS A38 (csF ms).length c39), (vI 0), (vI 0)]) [(vS none 0 0), (vS none 0 0), (vS none 0 0), (vI 0), (vS none 0 0), (vI 0), (vI 0), (vI 0), (vS none 0 0), (vI 0), (.bool false), (vI 0), (vI 0), (vS A38 (csF ms).length c39), (vI 0), (vI 0)] fun b42 w43 hb42 M44 => ?_
 replace M44 := M44.nf
 refine zpn 1 <| zfe <| zsp <| zsq <| zsp <| zbk 2 ?_
 have M45 := M44.cl (Mem.nilrow _ 9 1)
 have M46 : Mem noS w w43 [.blk b1 38 [(vI 0), (vI 0), (vS none 0 0), (vI 0)], .row 45 5 A38 ((csF ms).length) c39 ((csF ms).flatMap TFn.cells), .blk b42 75 [(vS none 0 0), (vS none 0 0), (vS none 0 0), (vI 0), (vS none 0 0), (vI 0), (vI 0), (vI 0), (vS none 0 0), (vI 0), (.bool false), (vI 0), (vI 0), (vS A38 (csF ms).length c39), (vI 0), (vI 0)], .row 9 1 none 0 0 (((csF ms).take 0).map (fun f : TFn => Value.string f.nm))] := M45.cast rfl
 intro aC fr
 refine zlp (fun n_ a_ w_ => ∃ (k : Nat) (An : Option Addr) (cn : Nat), n_ = (csF ms).length - k ∧ Fr a_ 106 [(0, (vS mA ms.length mc)), (1, (vS gA bg.length gc)), (2, (vI mem)), (3, (vS iA inp.length ic)), (4, (vI fuel)), (10, (pT b1 0)), (12, (pT b42 0)), (13, (vS An k cn)), (14, (nV k))] ∧ Mem noS w w_ [.blk b1 38 [(vI 0), (vI 0), (vS none 0 0), (vI 0)], .row 45 5 A38 ((csF ms).length) c39 ((csF ms).flatMap TFn.cells), .blk b42 75 [(vS none 0 0), (vS none 0 0), (vS none 0 0), (vI 0), (vS none 0 0), (vI 0), (vI 0), (vI 0), (vS none 0 0), (vI 0), (.bool false), (vI 0), (vI 0), (vS A38 (csF ms).length c39), (vI 0), (vI 0)], .row 9 1 An k cn (((csF ms).take k).map (fun f : TFn => Value.string f.nm))] ∧ (k ≤ (csF ms).length)) (n := _) ⟨0, none, 0, rfl, fr.kp [0, 1, 2, 3, 4, 10, 12, 13, 14], M46, Nat.zero_le _⟩ ?_
 clear fr aC M46; rintro n aC w49 ⟨k, An, cn, rfl, fr, M50, hk⟩
 revert aC
 refine zsq <| zsr <| zpn 4 <| zld ⟨b42, 13, none⟩ (vS A38 (csF ms).length c39) (blk_cell (M50.get 2 rfl) rfl) <| zpn 2 <| zfe <| zcD (((k : Int) : Int) < (((csF ms).length : Nat) : Int)) (fun c53 => ?_) (fun c53 => ?_)
 refine zsk <| zsq <| zbk 3 <| zrg ?_
 obtain ⟨f, hf⟩ := get_of (l := csF ms) (i := k) (by omega)
 refine zpn 4 <| zld ⟨b42, 13, none⟩ (vS A38 (csF ms).length c39) (blk_cell (M50.get 2 rfl) rfl) <| zpn 1 ?_
 obtain ⟨ad54, rfl⟩ := rds_some (rows_rds (f := TFn.cells) (l := csF ms) (fun _ => rfl) (by decide) (M50.get 1 rfl)) (cs := f.cells) (i := k) (gm hf)
 refine zix ad54 ((csF ms).length) 5 (k : Int) <| zpn 1 <| zld ((ad54 : Addr).add (((k : Int)).toNat * 5)) (.string f.nm) (rds_get (rows_rds (f := TFn.cells) (l := csF ms) (fun _ => rfl) (by decide) (M50.get 1 rfl)) rfl (i := k) (cs := f.cells) (gm hf) 0 _ rfl) ?_
 intro aC fr
 refine zBs 63 33 1 #[(0, (.tmp 62))] 33 fr (e := 9) (size := 1) (zs := [(.string ⟨#[]⟩)]) (vs := [(0, (.string f.nm))]) (cs := [(.string f.nm)]) M50 ?_
 intro b55 w56 hb55 _ M57 _ aC ea fr; clear ea
 replace M57 := M57.nf
 refine zAN 64 (.tmp 54) (.tmp 63) 33 33 fr (e := 9) (size := 1) (bytes := 16) (z := (.string ⟨#[]⟩)) (A := An) (B := (sM b55)) (n := k) (cap := cn) (m := 1) (cap' := 1) (xs := (((csF ms).take k).map (fun f : TFn => Value.string f.nm))) (news := [(.string f.nm)]) M57 3 rfl (row_rd (M57.get 4 rfl)) rfl (by simp [Value.oneCell']) (by omega) (by simp only [maxLen]; omega) (k + 1) (((csF ms).take (k + 1)).map (fun f : TFn => Value.string f.nm)) rfl (by rw [List.take_add_one, hf, List.map_append]; rfl) ?_
 intro A62 c63 w64 M65 _ aC ea fr; clear ea
 replace M65 := M65.nf
 have M68 := M65.od [3, 3, 3, 3] 4
 revert aC
 refine zpn 1 <| zfe <| zrg <| zpn 1 <| zar ((k : Int) + 1) <| zkp [(0, (vS mA ms.length mc)), (1, (vS gA bg.length gc)), (2, (vI mem)), (3, (vS iA inp.length ic)), (4, (vI fuel)), (10, (pT b1 0)), (12, (pT b42 0)), (13, (vS A62 (k + 1) c63)), (53, (vI ((k : Int) + 1)))] <| zpn 1 <| zfe ?_
 intro aC fr
 exact ⟨(csF ms).length - (k + 1), by omega, k + 1, A62, c63, rfl, fr.kp [0, 1, 2, 3, 4, 10, 12, 13, 14], M68, by omega⟩
 refine zex 2 <| zbh <| zsr <| zpn 2 <| zcl (rDatas_c ms mA mc w49 (hI.mods.at_ M50) hI.len (by exact hI.nd)) ?_
 rintro _ w73 ⟨A71, c72, rfl, M74x⟩
 have M74 := M50.cl M74x
 refine zpn 4 ?_
 obtain rfl : k = (csF ms).length := by omega
 refine zcl (rlay_c (csD ms) A71 c72 (csF ms) An cn mem inp iA ic fuel w73 ((M74.own_ro 4 rfl).mono (rows_rds (fun _ => rfl) (by decide)) (fun g hg => hg.2)) (fun d hd => (hI.mods.mwords (csD_mem hd)).at_ M74) (fun d hd => (hI.mods.mrefs (csD_mem hd)).at_ M74) (RO.row_rd (row_take (M74.own_ro 3 rfl))) hdat (by omega) (by omega) (by omega) hm1 hm2) ?_
 rintro _ w75 ⟨pA, pc, hlay⟩
 rcases hlay with ⟨hbig, rfl, hMx⟩ | ⟨hfit, mG, rfl, hMx⟩
 have M76 : Mem noS w w75 [.blk b1 38 [(vI 0), (vI 0), (vS none 0 0), (vI 0)], .row 45 5 A38 ((csF ms).length) c39 ((csF ms).flatMap TFn.cells), .blk b42 75 [(vS none 0 0), (vS none 0 0), (vS none 0 0), (vI 0), (vS none 0 0), (vI 0), (vI 0), (vI 0), (vS none 0 0), (vI 0), (.bool false), (vI 0), (vI 0), (vS A38 (csF ms).length c39), (vI 0), (vI 0)], .row 9 1 An (csF ms).length cn (((csF ms).take (csF ms).length).map (fun f : TFn => Value.string f.nm)), .row 59 4 A71 ((csD ms).length) c72 ((csD ms).flatMap FDat.cells), .row 3 1 pA (csD ms).length pc (ints (plcs (csD ms) (csD ms).length))] := M74.cl hMx
 clear hMx M74
 refine zpn 2 <| zspt M76 2 [(vS A71 (csD ms).length c72), (vS pA (csD ms).length pc), (vS none 0 0), (vI (nextTo (csD ms) (csD ms).length : Int)), (vS iA inp.length ic), (vI 0), (vI 3), (vI 0), (vS none 0 0), (vI 0), (.bool true), (vI (max 0 (min fuel 4194304))), (vI 0)] rfl fun w77 M78 => ?_
 replace M78 := M78.nf
 have M79 : Mem noS w w77 [.blk b1 38 [(vI 0), (vI 0), (vS none 0 0), (vI 0)], .row 45 5 A38 ((csF ms).length) c39 ((csF ms).flatMap TFn.cells), .blk b42 75 [(vS A71 (csD ms).length c72), (vS pA (csD ms).length pc), (vS none 0 0), (vI (nextTo (csD ms) (csD ms).length : Int)), (vS iA inp.length ic), (vI 0), (vI 3), (vI 0), (vS none 0 0), (vI 0), (.bool true), (vI (max 0 (min fuel 4194304))), (vI 0), (vS A38 (csF ms).length c39), (vI 0), (vI 0)], .row 9 1 An (csF ms).length cn (((csF ms).take (csF ms).length).map (fun f : TFn => Value.string f.nm)), .row 59 4 A71 ((csD ms).length) c72 ((csD ms).flatMap FDat.cells), .row 3 1 pA (csD ms).length pc (ints (plcs (csD ms) (csD ms).length))] := M78.cast rfl
 refine zfe <| zsq <| zsp <| zbk 4 ?_
 intro aC fr
 refine zlp (fun n_ a_ w_ => ∃ (jb : Nat), n_ = bg.length - jb ∧ Fr a_ 106 [(1, (vS gA bg.length gc)), (10, (pT b1 0)), (12, (pT b42 0)), (15, (nV jb))] ∧ Mem noS w w_ [.blk b1 38 [(vI 0), (vI 0), (vS none 0 0), (vI 0)], .row 45 5 A38 ((csF ms).length) c39 ((csF ms).flatMap TFn.cells), .blk b42 75 [(vS A71 (csD ms).length c72), (vS pA (csD ms).length pc), (vS none 0 0), (vI (nextTo (csD ms) (csD ms).length : Int)), (vS iA inp.length ic), (vI 0), (vI 3), (vI 0), (vS none 0 0), (vI 0), (.bool true), (vI (max 0 (min fuel 4194304))), (vI 0), (vS A38 (csF ms).length c39), (vI 0), (vI 0)], .row 9 1 An (csF ms).length cn (((csF ms).take (csF ms).length).map (fun f : TFn => Value.string f.nm)), .row 59 4 A71 ((csD ms).length) c72 ((csD ms).flatMap FDat.cells), .row 3 1 pA (csD ms).length pc (ints (plcs (csD ms) (csD ms).length))] ∧ (jb ≤ bg.length)) (n := _) ⟨0, rfl, fr.kp [1, 10, 12, 15], M79, Nat.zero_le _⟩ ?_
 clear fr aC M79; rintro n aC w82 ⟨jb, rfl, fr, M83, hjb⟩
 revert aC
 refine zsq <| zsr <| zpn 5 ?_
 obtain ⟨B86, hB86⟩ : ∃ B : Bool, B = decide (((jb : Int) : Int) < ((bg.length : Nat) : Int)) := ⟨_, rfl⟩
 refine zkp [(1, (vS gA bg.length gc)), (10, (pT b1 0)), (12, (pT b42 0)), (15, (nV jb)), (79, (.bool (decide (((jb : Int) : Int) < ((bg.length : Nat) : Int)))))] ?_
 rw [← hB86]
 have iB86 : B86 = true ↔ (((jb : Int) : Int) < ((bg.length : Nat) : Int)) := by rw [hB86]; simp only [decide_eq_true_eq]
 clear hB86
 intro aC fr
 refine zpk 4 9 [83] fr (news := [(83, (cond B86 (pT b42 10) undef))]) (by cases B86 <;> kernel_rfl) ?_
 intro aC fr
 refine From_either (B := B86) (d := (some 84)) (.bool true) fr (by cases B86 <;> kernel_rfl) (fun hB hh => ?_) ?_
 cases B86 <;> try exact absurd hB (by decide)
 have c86 : (((jb : Int) : Int) < ((bg.length : Nat) : Int)) := iB86.1 rfl
 exact From_ld (some 84) ⟨b42, 10, none⟩ fr (by kernel_rfl) (.bool true) (blk_cell (M83.get 2 rfl) rfl) hh
 intro aC fr
 refine zpk 2 12 [86] fr (news := [(86, (.bool false))]) (by cases B86 <;> kernel_rfl) ?_
 intro aC fr
 revert aC
 refine zfe <| zcF <| zex 4 <| zbh <| zsr <| zpn 3 <| zcl (rendO_c b42 (vS A71 (csD ms).length c72) (vS pA (csD ms).length pc) (vS none 0 0) (vI (nextTo (csD ms) (csD ms).length : Int)) (vS iA inp.length ic) (vI 0) (vI 3) (vI 0) (vS none 0 0) (vI 0) (vI (max 0 (min fuel 4194304))) (vI 0) (vS A38 (csF ms).length c39) (vI 0) (vI 0) 1 0 w82 (M83.own_ro 2 rfl)) ?_
 rintro _ w95 ⟨rfl, M96x⟩
 have M96 := M83.cl M96x
 refine zfe <| zsr <| zpn 4 <| zls ⟨b42, 6, none⟩ [(vI 3), (vI 0), (vS none 0 0), (vI 0)] (blk_cells_at (M96.get 2 rfl) 6 rfl) <| zss M96 0 [(vI 3), (vI 0), (vS none 0 0), (vI 0)] rfl fun w97 M98 => ?_
 replace M98 := M98.nf
 refine zfe <| zre ?_
 intro aC fr
 refine outC (ad := ⟨b1, 0, none⟩) (vs := [(vI 3), (vI 0), (vS none 0 0), (vI 0)]) fr rfl (by kernel_rfl) (by kernel_rfl) (blk_cells (M98.get 0 rfl)) ?_
 refine ⟨_, rfl, ?_⟩
 have hMz := M98.cl (Mem.nilrow _ 5 1)
 have M101 := hMz.od [6] 1
 clear hMz
 rw [runT_out (k := 3) (c := 0) hbad (by rw [trunS_no (by show ¬ nextTo (csD ms) (csD ms).length ≤ mem.toNat; omega)]; rfl)]; exact ⟨none, 0, rfl, M101⟩
 have M102 : Mem noS w w75 [.blk b1 38 [(vI 0), (vI 0), (vS none 0 0), (vI 0)], .row 45 5 A38 ((csF ms).length) c39 ((csF ms).flatMap TFn.cells), .blk b42 75 [(vS none 0 0), (vS none 0 0), (vS none 0 0), (vI 0), (vS none 0 0), (vI 0), (vI 0), (vI 0), (vS none 0 0), (vI 0), (.bool false), (vI 0), (vI 0), (vS A38 (csF ms).length c39), (vI 0), (vI 0)], .row 9 1 An (csF ms).length cn (((csF ms).take (csF ms).length).map (fun f : TFn => Value.string f.nm)), .row 59 4 A71 ((csD ms).length) c72 ((csD ms).flatMap FDat.cells), .row 3 1 pA (csD ms).length pc (ints (plcs (csD ms) (csD ms).length)), .row 2 1 (sM mG) mem.toNat mem.toNat (ints (lyT (nmsTo (csF ms) (csF ms).length) (dataTo (csD ms) (csD ms).length) mem.toNat (csD ms)))] := M74.cl hMx
 clear hMx M74
 refine zpn 2 <| zspt M102 2 [(vS A71 (csD ms).length c72), (vS pA (csD ms).length pc), (vS (sM mG) mem.toNat mem.toNat), (vI (nextTo (csD ms) (csD ms).length : Int)), (vS iA inp.length ic), (vI 0), (vI 0), (vI 0), (vS none 0 0), (vI 0), (.bool false), (vI (max 0 (min fuel 4194304))), (vI 0)] rfl fun w103 M104 => ?_
 replace M104 := M104.nf
 have M105 : Mem noS w w103 [.blk b1 38 [(vI 0), (vI 0), (vS none 0 0), (vI 0)], .row 45 5 A38 ((csF ms).length) c39 ((csF ms).flatMap TFn.cells), .blk b42 75 [(vS A71 (csD ms).length c72), (vS pA (csD ms).length pc), (vS (sM mG) mem.toNat mem.toNat), (vI (nextTo (csD ms) (csD ms).length : Int)), (vS iA inp.length ic), (vI 0), (vI 0), (vI 0), (vS none 0 0), (vI 0), (.bool false), (vI (max 0 (min fuel 4194304))), (vI 0), (vS A38 (csF ms).length c39), (vI 0), (vI 0)], .row 9 1 An (csF ms).length cn (((csF ms).take (csF ms).length).map (fun f : TFn => Value.string f.nm)), .row 59 4 A71 ((csD ms).length) c72 ((csD ms).flatMap FDat.cells), .row 3 1 pA (csD ms).length pc (ints (plcs (csD ms) (csD ms).length)), .row 2 1 (sM mG) mem.toNat mem.toNat (ints (lyT (nmsTo (csF ms) (csF ms).length) (dataTo (csD ms) (csD ms).length) mem.toNat (csD ms)))] := M104.cast rfl
 refine zfe <| zsq <| zsr ?_
 have M106 := M105.cl (Mem.nilrow _ 5 1)
 have M107 := M106.od [5, 5, 5, 4, 4, 7, 7, 7] 8
 obtain ⟨X, hXe⟩ : ∃ X : RX, X = (⟨envT ms mem inp fuel, csD ms, b42, A38, c39, A71, c72, pA, pc, mG, iA, ic⟩ : RX) := ⟨_, rfl⟩
 obtain rfl : b42 = X.r := by rw [hXe]
 have hX : X.WF := by rw [hXe]; exact run_xwf hI hbad hfit _ _ _ _ _ _ _ _
 obtain ⟨zs, hzs⟩ : ∃ z : ZSt, z = z0 (lyT (nmsTo (csF ms) (csF ms).length) (dataTo (csD ms) (csD ms).length) mem.toNat (csD ms)) (nextTo (csD ms) (csD ms).length) := ⟨_, rfl⟩
 have hG : ZGood X zs := by rw [hXe, hzs]; exact z0_good (lyT_len hfit) nextTo_pos hfit (by show 0 ≤ min (max fuel 0) 4194304; omega)
 have hein := hX.ein
 have hEX : X.E = envT ms mem inp fuel := by rw [hXe]
 obtain ⟨g, hgd⟩ : ∃ g : Nat, g = (envT ms mem inp fuel).fuel.toNat + 1 := ⟨_, rfl⟩
 have hZ : Zok X.E.toEnv0 zs (g : Int) [] := by rw [hEX, hgd, hzs]; exact .inr ⟨by show min (max fuel 0) 4194304 - 0 < (((min (max fuel 0) 4194304).toNat + 1 : Nat) : Int); omega, ⟨by rw [lyT_fit hfit]; exact layTo_in (fun nm v h => hein.names nm v (by rw [hEX]; exact h)) (fun nm v h => hein.data nm v (by rw [hEX]; exact h)) (fun d hd => run_words hI (csD_mem hd)) _, by show (0 : Int) ≤ (nextTo (csD ms) (csD ms).length : Nat); omega, by show ((nextTo (csD ms) (csD ms).length : Nat) : Int) ≤ 262144; omega⟩, ⟨Int.le_refl _, by show (0 : Int) ≤ 1200; omega⟩, fun x hx => by cases hx⟩
 have M108 : Mem noS w w103 [xb_ X zs none 0, xm_ X zs, xo_ zs none 0, .blk b1 38 [(vI 0), (vI 0), (vS none 0 0), (vI 0)], .row 45 5 A38 ((csF ms).length) c39 ((csF ms).flatMap TFn.cells), .row 9 1 An (csF ms).length cn (((csF ms).take (csF ms).length).map (fun f : TFn => Value.string f.nm)), .row 59 4 A71 ((csD ms).length) c72 ((csD ms).flatMap FDat.cells), .row 3 1 pA (csD ms).length pc (ints (plcs (csD ms) (csD ms).length))] := (M107.cast (by rw [fuel_eq])).cast (by rw [hXe, hzs]; rfl)
 refine zpn 1 <| zfe <| zbk 4 ?_
 intro aC fr
 refine zlp (fun n_ a_ w_ => ∃ (jb : Nat) (zj : ZSt) (oAj : Option Addr) (ocj : Nat), n_ = bg.length - jb ∧ Fr a_ 106 [(1, (vS gA bg.length gc)), (10, (pT b1 0)), (12, (pT X.r 0)), (15, (nV jb))] ∧ Mem noS w w_ [xb_ X zj oAj ocj, xm_ X zj, xo_ zj oAj ocj, .blk b1 38 [(vI 0), (vI 0), (vS none 0 0), (vI 0)], .row 45 5 A38 ((csF ms).length) c39 ((csF ms).flatMap TFn.cells), .row 9 1 An (csF ms).length cn (((csF ms).take (csF ms).length).map (fun f : TFn => Value.string f.nm)), .row 59 4 A71 ((csD ms).length) c72 ((csD ms).flatMap FDat.cells), .row 3 1 pA (csD ms).length pc (ints (plcs (csD ms) (csD ms).length))] ∧ (jb ≤ bg.length) ∧ (ZGood X zj) ∧ (Zok X.E.toEnv0 zj (g : Int) []) ∧ (Eqv (playT X.E g bg zs.s) (zj.go (playT X.E g (bg.drop jb))))) (n := _) ⟨0, zs, none, 0, rfl, fr.kp [1, 10, 12, 15], M108, Nat.zero_le _, hG, hZ, (by rw [List.drop_zero, hzs]; exact rfl)⟩ ?_
 clear fr aC M108; rintro n aC w111 ⟨jb, zj, oAj, ocj, rfl, fr, M112, hjb, hGj, hZj, hrj⟩
 revert aC
 refine zsq <| zsr <| zpn 5 ?_
 obtain ⟨B115, hB115⟩ : ∃ B : Bool, B = decide (((jb : Int) : Int) < ((bg.length : Nat) : Int)) := ⟨_, rfl⟩
 refine zkp [(1, (vS gA bg.length gc)), (10, (pT b1 0)), (12, (pT X.r 0)), (15, (nV jb)), (79, (.bool (decide (((jb : Int) : Int) < ((bg.length : Nat) : Int)))))] ?_
 rw [← hB115]
 have iB115 : B115 = true ↔ (((jb : Int) : Int) < ((bg.length : Nat) : Int)) := by rw [hB115]; simp only [decide_eq_true_eq]
 clear hB115
 intro aC fr
 refine zpk 4 9 [83] fr (news := [(83, (cond B115 (.pointer (some ⟨X.r, 10, none⟩)) undef))]) (by cases B115 <;> kernel_rfl) ?_
 intro aC fr
 refine From_either (B := B115) (d := (some 84)) (.bool zj.ov) fr (by cases B115 <;> kernel_rfl) (fun hB hh => ?_) ?_
 cases B115 <;> try exact absurd hB (by decide)
 have c115 : (((jb : Int) : Int) < ((bg.length : Nat) : Int)) := iB115.1 rfl
 exact From_ld (some 84) ⟨X.r, 10, none⟩ fr (by kernel_rfl) (.bool zj.ov) (blk_cell (M112.get 0 rfl) rfl) hh
 intro aC fr
 refine zpk 2 12 [86] fr (news := [(86, (.bool (B115 && (!zj.ov))))]) (by cases B115 <;> kernel_rfl) ?_
 intro aC fr
 revert aC
 refine zfe <| zcP (B115 && (!zj.ov)) ((((jb : Int) : Int) < ((bg.length : Nat) : Int)) ∧ (¬ (zj.ov = true))) (by simp only [Bool.and_eq_true, notT, iB115]) (fun c124 => ?_) (fun c124 => ?_)
 refine zsk <| zsq <| zbk 5 <| zrg ?_
 obtain ⟨b, hb⟩ := get_of (l := bg) (i := jb) (by omega)
 refine zpn 4 ?_
 obtain ⟨ad125, rfl⟩ := rd_some (M112.ro hI.bg) (by rw [List.length_map]; omega)
 refine zix ad125 bg.length 1 (jb : Int) ?_
 refine zld ((ad125 : Addr).add (((jb : Int)).toNat * 1)) (.string b) (rd_get1 (j := jb) (M112.ro hI.bg) rfl (gm hb)) ?_
 refine zcl (rnumber_c X zj oAj ocj w111 hX (M112.own_ro 0 rfl) (xro_run hXe (M112.own_ro 4 rfl) (M112.own_ro 6 rfl) (M112.own_ro 7 rfl) (hI.inr.at_ M112) (hI.mods.at_ M112)) b) ?_
 rintro _ w126 ⟨rfl, M127x⟩
 have M127 := M112.cl M127x
 refine zcl (rcall_all X hX g ((lkp X.E.names b).getD 0) [] none 0 zj oAj ocj w126 hGj hZj (Mem.pk_holds (l := rwnL X zj oAj ocj) M127) (xro_run hXe (RO.pk_own (l := rwnL X zj oAj ocj) M127 1 rfl) (RO.pk_own (l := rwnL X zj oAj ocj) M127 3 rfl) (RO.pk_own (l := rwnL X zj oAj ocj) M127 4 rfl) (hI.inr.pk_at (l := rwnL X zj oAj ocj) M127) (hI.mods.pk_at (l := rwnL X zj oAj ocj) M127)) RO.nil_ (by decide)) ?_
 rintro _ w133 ⟨x128, z129, oA130, oc131, rfl, hGz129, he132, M134x⟩
 have M134 : Mem noS w w133 [xb_ X z129 oA130 oc131, xm_ X z129, xo_ z129 oA130 oc131, .blk b1 38 [(vI 0), (vI 0), (vS none 0 0), (vI 0)], .row 45 5 A38 ((csF ms).length) c39 ((csF ms).flatMap TFn.cells), .row 9 1 An (csF ms).length cn (((csF ms).take (csF ms).length).map (fun f : TFn => Value.string f.nm)), .row 59 4 A71 ((csD ms).length) c72 ((csD ms).flatMap FDat.cells), .row 3 1 pA (csD ms).length pc (ints (plcs (csD ms) (csD ms).length))] := M127.mdk M134x
 refine zfe <| zrg <| zpn 1 <| zar ((jb : Int) + 1) <| zpn 1 <| zfe ?_
 intro aC fr
 exact ⟨bg.length - (jb + 1), by omega, jb + 1, z129, oA130, oc131, rfl, fr.kp [1, 10, 12, 15], M134, by omega, hGz129, hZj.call (call_stay g _ _ _) (fun hL => call_ki hein g _ _ _ hL) he132 (fun hL _ => hL), play_step hrj hb he132⟩
 refine zex 4 <| zbh <| zsr <| zpn 3 <| zcl (rend_c X zj oAj ocj w111 hX hGj (Mem.pk_holds (l := rwnL X zj oAj ocj) M112) 1 0) ?_
 rintro _ w137 ⟨rfl, M138x⟩
 have M138 : Mem noS w w137 [xb_ X (zj.fin 1 0) oAj ocj, xm_ X (zj.fin 1 0), xo_ (zj.fin 1 0) oAj ocj, .blk b1 38 [(vI 0), (vI 0), (vS none 0 0), (vI 0)], .row 45 5 A38 ((csF ms).length) c39 ((csF ms).flatMap TFn.cells), .row 9 1 An (csF ms).length cn (((csF ms).take (csF ms).length).map (fun f : TFn => Value.string f.nm)), .row 59 4 A71 ((csD ms).length) c72 ((csD ms).flatMap FDat.cells), .row 3 1 pA (csD ms).length pc (ints (plcs (csD ms) (csD ms).length))] := M112.mdk M138x
 refine zfe <| zsr <| zpn 4 <| zls ⟨X.r, 6, none⟩ [(vI (zj.fin 1 0).k), (vI (zj.fin 1 0).c), (vS oAj (zj.fin 1 0).s.out.length ocj), (vI (zj.fin 1 0).s.steps)] (blk_cells_at (M138.get 0 rfl) 6 rfl) <| zss M138 3 [(vI (zj.fin 1 0).k), (vI (zj.fin 1 0).c), (vS oAj (zj.fin 1 0).s.out.length ocj), (vI (zj.fin 1 0).s.steps)] rfl fun w139 M140 => ?_
 replace M140 := M140.nf
 refine zfe <| zre ?_
 intro aC fr
 refine outC (ad := ⟨b1, 0, none⟩) (vs := [(vI (zj.fin 1 0).k), (vI (zj.fin 1 0).c), (vS oAj (zj.fin 1 0).s.out.length ocj), (vI (zj.fin 1 0).s.steps)]) fr rfl (by kernel_rfl) (by kernel_rfl) (blk_cells (M140.get 3 rfl)) ?_
 refine ⟨_, rfl, ?_⟩
 have M143 := M140.od [2] 1
 have ho_ := play_fin hrj (fun h_ => c124 ⟨by have := h_.1; omega, Bool.eq_false_iff.1 h_.2⟩)
 have he_ : runTO ms bg mem inp fuel = ((zj.fin 1 0).k, (zj.fin 1 0).c, (zj.fin 1 0).s.out, (zj.fin 1 0).s.steps) := by rw [← ho_, hEX, hgd, hzs]; unfold runTO; rw [if_neg hbad, trunS_yes hfit]; rfl
 rw [he_]; exact ⟨oAj, ocj, rfl, M143⟩
end Go.Proofs.Ytdcgcjibgihbbaa
namespace Go.Proofs.Ytdcgcjibgihbbaa
open Go.Mor
theorem treeRuns_d (ms : List TMod) (mA : Option Addr) (mc : Nat) (bg : List ByteArray) (gA : Option Addr) (gc : Nat) (mem : Int) (inp : List Int) (iA : Option Addr) (ic : Nat) (fuel : Int) (w : World) (hI : RunIn0 w ms mA bg gA inp iA ic) :
    Calls Try.prog 4 #[(vS mA ms.length mc), (vS gA bg.length gc), (vI mem), (vS iA inp.length ic), (vI fuel)] w (Ret fun v w' => v = .bool (decide (True)) ∧ Mem noS w w' []) := by
 refine zen 34 [(vS mA ms.length mc), (vS gA bg.length gc), (vI mem), (vS iA inp.length ic), (vI fuel)] Try.func4 ?_
 have hM := Mem.init w
 refine zsp <| zsq <| zsr <| zpn 5 <| zcl (theavy_c ms mA mc bg gA gc mem inp iA ic fuel w (hI.at_ hM)) ?_
 rintro _ w2 ⟨B1, rfl, hBh, M3x⟩
 have M3 := hM.cl M3x
 clear M3x hM
 refine zfe <| zcP B1 (B1 = true) Iff.rfl (fun c4 => ?_) (fun c4 => ?_)
 refine zsr <| zcl (awake15_c w2) ?_
 rintro _ w5 ⟨rfl, M6x⟩
 have M6 := M3.cl M6x
 refine zpn 1 <| zfe <| zre <| zo1 (.bool true) ?_
 have hR : true = true ↔ True := by simp
 exact ⟨bool_dec hR (⟨fun _ => trivial, fun _ => by first | trivial | omega | exact ⟨by omega, by omega⟩⟩), M6⟩
 replace c4 : B1 = false := Bool.eq_false_iff.2 c4
 have hHv := hBh c4
 obtain ⟨ra, hra⟩ : ∃ r : Out, r = runTO ms bg mem inp fuel := ⟨_, rfl⟩
 refine zsk <| zsr <| zpn 5 <| zcl ((by have h9 := trun_c ms mA mc bg gA gc mem inp iA ic fuel w2 ((hI.at_ M3).run hHv) hI.ill; rw [← hra] at h9; exact h9)) ?_
 rintro _ w9 ⟨oA7, oc8, rfl, M10x⟩
 have M10 := M3.cl M10x
 refine zpn 5 <| zcl ((by have h9 := rrun_c ms mA mc bg gA gc mem inp iA ic fuel w9 ((hI.at_ M10).run hHv) hI.ill; rw [← hra] at h9; exact h9)) ?_
 rintro _ w13 ⟨oA11, oc12, rfl, M14x⟩
 have M14 := M10.cl M14x
 refine zcl (same3_c ra.1 ra.2.1 ra.2.2.2 ra.1 ra.2.1 ra.2.2.2 ra.2.2.1 ra.2.2.1 oA7 oA11 oc8 oc12 w13 (RO.of (row_rd (M14.get 0 rfl))) (RO.of (row_rd (M14.get 1 rfl)))) ?_
 rintro _ w15 ⟨rfl, M16x⟩
 have M16 := M14.cl M16x
 obtain ⟨B17, hB17⟩ : ∃ B : Bool, B = decide (ra.2.2.2 = ra.2.2.2 ∧ ra.1 = ra.1 ∧ ra.2.1 = ra.2.1 ∧ (strOfNums ra.2.2.1).toList = (strOfNums ra.2.2.1).toList) := ⟨_, rfl⟩
 refine zkp [(23, (.agg #[(vI ra.1), (vI ra.2.1), (vS oA7 ra.2.2.1.length oc8), (vI ra.2.2.2)])), (29, (.agg #[(vI ra.1), (vI ra.2.1), (vS oA11 ra.2.2.1.length oc12), (vI ra.2.2.2)])), (30, (.bool (decide (ra.2.2.2 = ra.2.2.2 ∧ ra.1 = ra.1 ∧ ra.2.1 = ra.2.1 ∧ (strOfNums ra.2.2.1).toList = (strOfNums ra.2.2.1).toList))))] ?_
 rw [← hB17]
 obtain rfl : B17 = true := by rw [hB17]; exact decide_eq_true ⟨rfl, rfl, rfl, rfl⟩
 clear hB17
 refine zpn 1 <| zcl (awake15_c w15) ?_
 rintro _ w18 ⟨rfl, M19x⟩
 have M19 := M16.cl M19x
 refine zpn 2 <| zfe <| zre <| zo1 (.bool true) ?_
 have hR : true = true ↔ True := by simp
 have M20 := M19.od [] 0
 exact ⟨bool_dec hR (⟨fun _ => trivial, fun _ => by first | trivial | omega | exact ⟨by omega, by omega⟩⟩), M20⟩
theorem treeRuns_c (ms : List TMod) (mA : Option Addr) (mc : Nat) (bg : List ByteArray) (gA : Option Addr) (gc : Nat) (mem : Int) (inp : List Int) (iA : Option Addr) (ic : Nat) (fuel : Int) (w : World) (hI : RunIn0 w ms mA bg gA inp iA ic) : Calls Try.prog 4 #[.slice mA ms.length mc, .slice gA bg.length gc, .int .i64 mem, .slice iA inp.length ic, .int .i64 fuel] w (Ret fun v w' => v = .bool true ∧ Mem noS w w' []) := by
  have h := treeRuns_d ms mA mc bg gA gc mem inp iA ic fuel w hI
  simpa using h
end Go.Proofs.Ytdcgcjibgihbbaa
