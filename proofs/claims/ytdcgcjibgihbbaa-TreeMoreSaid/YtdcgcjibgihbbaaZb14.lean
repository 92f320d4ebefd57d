/-
  Texts of the proof, part 14.
-/
import Derived.Test.YtdcgcjibgihbbaaZb13
import Derived.Laws.BytesArg
import Derived.Test.YtdcgcjibgihbbaaRows
set_option maxRecDepth 10000
namespace Go.Mor
open Go.RowKit
theorem conv_bytes {P : Program} {w : World} {A : Option Addr} {n c : Nat} {l : List Int} {src dst e : TypeId} (hn : l.length = n) (h : (Res.rd A (l.map (Value.int .u8))).holds w) (hs : P.underlying src = some (.slice e)) (he : P.underlying e = some (.int .u8)) (hd : P.underlying dst = some .string) :
    (convert src dst (.slice A n c)).run P w = .ok (.string (strOfNums l)) w := by
  subst hn
  rw [run_convert_bytes_string w src dst e A l.length c hs he hd]
  cases A with
  | none =>
    have : l = [] := by
      cases l with
      | nil => rfl
      | cons x r =>
        obtain ⟨a, ha, _⟩ := h 0 (.int .u8 x) rfl
        cases ha
    subst this
    simp [Conv.bytesToString, strOfNums]
    rfl
  | some a =>
    have hl : (loadCells a l.length).run P w = .ok (l.map (Value.int .u8)).toArray w := by
      have := run_loadCells_list (P := P) w a (l.map (Value.int .u8)) (fun j v hj => by
        obtain ⟨a', ha', hc⟩ := h j v hj
        injection ha' with ha'
        rw [ha']
        exact hc)
      simpa using this
    rw [run_bytesToString w a l.length c l hl, foldl_push_bytes]
    simp [strOfNums, ByteArray.empty, ByteArray.emptyWithCapacity]
    rfl
def csE (P : Program) (c : Code) (N : FN) (env : Env) (k : Nat) : Option (Option Nat × Option Addr × Nat × Nat) := match coreAt c k with
  | some (d, .convert t t' x, _, g) => match guardE c g env, okd d N, ev env x, P.underlying t, P.underlying t' with
    | some true, true, some (.slice A n cap), some (.slice e), some .string => match P.underlying e with
      | some (.int .u8) => some (d, A, n, cap)
      | _ => none
    | _, _, _, _, _ => none
  | _ => none
theorem cs_spec {P : Program} {c : Code} {N : FN} {env : Env} {k : Nat} {d : Option Nat} {A : Option Addr} {n cap : Nat} (h : csE P c N env k = some (d, A, n, cap)) : ∃ t t' x ty g e, coreAt c k = some (d, .convert t t' x, ty, g) ∧ guardE c g env = some true ∧ okd d N = true ∧ ev env x = some (.slice A n cap) ∧ P.underlying t = some (.slice e) ∧ P.underlying e = some (.int .u8) ∧ P.underlying t' = some .string := by
  unfold csE at h
  split at h
  · rename_i h0
    split at h
    · rename_i h1 h2 h3 h4 h5
      split at h
      · rename_i h6
        simp only [Option.some.injEq, Prod.mk.injEq] at h
        obtain ⟨rfl, rfl, rfl, rfl⟩ := h
        exact ⟨_, _, _, _, _, _, h0, h1, h2, h3, h4, h6, h5⟩
      · cases h
    · cases h
  · cases h
section
variable {P : Program} {c : Code} {K : Act → World → Prop} {Q : Exit → Act → World → Prop} {w : World} {k : Nat} {N : FN} {env : Env}
theorem zcs (l : List Int) (A : Option Addr) (n cap : Nat) (hn : l.length = n) (hr : (Res.rd A (l.map (Value.int .u8))).holds w) (h : ∀ a, Fr a N (putE env (dstAt c k) (.string (strOfNums l))) → From P c K Q (k + 1) a w) (hk : csE P c N env k = some (dstAt c k, A, n, cap) := by kernel_rfl) : ∀ a, Fr a N env → From P c K Q k a w := fun a hF => by
  obtain ⟨t, t', x, ty, g, e, h0, h1, h2, h3, h4, h5, h6⟩ := cs_spec hk
  refine From_same h0 hF h1 h2 rfl (fun o ho => ?_) (fun a' _ => h a')
  unfold execOp
  rw [ho]
  simp [hF.ev h3, Sem.run_bind, conv_bytes hn hr h4 h5 h6, Result.andThen_ok]
end
section
variable {P : Program} {c : Code} {Q : Exit → Act → World → Prop} {N : FN} {i : Nat} {env0 : Env} {wr : World} {sp : Nat → Spec}
theorem dCS (l : List Int) (A : Option Addr) (n cap : Nat) (hn : l.length = n) (hr : ∀ w, Kp wr w → (Res.rd A (l.map (Value.int .u8))).holds w) (hv : sp i = .det (.string (strOfNums l)) := by rfl) (hg : ∀ vs, gtE c i (predE c i sp vs env0) = some true := by intro _; kernel_rfl)
    (hk : ∀ us, csE P (one c i) N (predE c i sp us env0) 0 = some (dstAt c i, A, n, cap) := by intro _; kernel_rfl) (he : coreAt (one c i) 1 = none := by kernel_rfl) : OpOK P c Q N env0 wr sp i := by
  refine op_of hg (fun w vs hK hp a hF => ?_)
  obtain ⟨t, t', x, ty, g, e, h0, h1, h2, h3, h4, h5, h6⟩ := cs_spec (hk vs)
  refine From_same h0 hF h1 h2 rfl (v := .string (strOfNums l)) (fun o ho => ?_) (fun a' ea _ => From_end he ⟨_, ea, Kp.refl w, by rw [hv]; rfl⟩)
  unfold execOp
  rw [ho]
  simp [hF.ev h3, Sem.run_bind, conv_bytes hn (hr w hK) h4 h5 h6, Result.andThen_ok]
theorem dSh (A : Option Addr) (cap m : Nat) (j : Int) (hi : j = (m : Int)) (hm : m ≤ cap) (hv : sp i = .det (.slice A m cap) := by rfl) (hg : ∀ vs, gtE c i (predE c i sp vs env0) = some true := by intro _; kernel_rfl)
    (hk : ∀ us, slhE P (one c i) N (predE c i sp us env0) 0 = some (dstAt c i, A, cap, j) := by intro _; kernel_rfl) (he : coreAt (one c i) 1 = none := by kernel_rfl) : OpOK P c Q N env0 wr sp i := by
  refine op_of hg (fun w vs hK hp a hF => ?_)
  have hk' := hk vs
  unfold slhE at hk'
  split at hk'
  · rename_i h0
    split at hk'
    · rename_i h1 h2 h3 h4 h5
      split at hk'
      · rename_i sz h6
        simp only [Option.some.injEq, Prod.mk.injEq] at hk'
        obtain ⟨hd, rfl, rfl, rfl⟩ := hk'
        rw [hd] at h0 h2
        exact From_sliceHi h0 hF h1 h2 rfl m h3 h4 hi h5 h6 hm (fun a' ea _ => From_end he ⟨_, ea, Kp.refl w, by rw [hv]; rfl⟩)
      · cases hk'
    · cases hk'
  · cases hk'
end
end Go.Mor
namespace Go.Proofs.Ytdcgcjibgihbbaa
open Go.Mor
theorem alike_c (k c st k2 c2 st2 : Int) (o o2 : List Int) (A A2 : Option Addr) (ac ac2 : Nat) (w : World) (hA : RO noS w (.rd A (u8s o))) (hA2 : RO noS w (.rd A2 (u8s o2))) :
    Calls Try.prog 34 #[(.agg #[(.int .i64 k), (.int .i64 c), (.slice A o.length ac), (.int .i64 st)]), (.agg #[(.int .i64 k2), (.int .i64 c2), (.slice A2 o2.length ac2), (.int .i64 st2)])] w (Ret fun v w' => v = .bool (decide (k = k2 ∧ c = c2 ∧ (strOfNums o).toList = (strOfNums o2).toList)) ∧ Mem noS w w' []) := by
 refine zen 26 [(.agg #[(.int .i64 k), (.int .i64 c), (.slice A o.length ac), (.int .i64 st)]), (.agg #[(.int .i64 k2), (.int .i64 c2), (.slice A2 o2.length ac2), (.int .i64 st2)])] Try.func34 ?_
 have hM := Mem.init w
 refine zsr <| zbx hM 38 (.agg #[(.int .i64 k), (.int .i64 c), (.slice A o.length ac), (.int .i64 st)]) [(.int .i64 k), (.int .i64 c), (.slice A o.length ac), (.int .i64 st)] fun b1 w2 hb1 M3 => ?_
 replace M3 := M3.nf
 clear hM
 refine zbx M3 38 (.agg #[(.int .i64 k2), (.int .i64 c2), (.slice A2 o2.length ac2), (.int .i64 st2)]) [(.int .i64 k2), (.int .i64 c2), (.slice A2 o2.length ac2), (.int .i64 st2)] fun b4 w5 hb4 M6 => ?_
 replace M6 := M6.nf
 refine zpn 1 <| zfe <| zsr <| zpn 1 <| zld ⟨b1, 0, none⟩ (.int .i64 k) (blk_cell (M6.get 0 rfl) rfl) <| zpn 1 <| zld ⟨b4, 0, none⟩ (.int .i64 k2) (blk_cell (M6.get 1 rfl) rfl) <| zpn 2 ?_
 obtain ⟨B7, hB7⟩ : ∃ B : Bool, B = ((k : Int) == k2) := ⟨_, rfl⟩
 refine zkp [(2, (pT b1 0)), (3, (pT b4 0)), (10, (.bool ((k : Int) == k2)))] ?_
 rw [← hB7]
 have iB7 : B7 = true ↔ ((k : Int) = k2) := by rw [hB7]; simp only [beq_iff_eq]
 clear hB7
 intro aC fr
 refine zpk 1 7 [11] fr (news := [(11, (cond B7 (pT b1 1) undef))]) (by cases B7 <;> kernel_rfl) ?_
 intro aC fr
 refine From_either (B := B7) (d := (some 12)) (.int .i64 c) fr (by cases B7 <;> kernel_rfl) (fun hB hh => ?_) ?_
 cases B7 <;> first | (exact absurd hB (by decide)) | skip
 have c7 : ((k : Int) = k2) := iB7.1 rfl
 exact From_ld (some 12) ⟨b1, 1, none⟩ fr (by kernel_rfl) (.int .i64 c) (blk_cell (M6.get 0 rfl) rfl) hh
 intro aC fr
 refine zpk 1 9 [13] fr (news := [(13, (cond B7 (pT b4 1) undef))]) (by cases B7 <;> kernel_rfl) ?_
 intro aC fr
 refine From_either (B := B7) (d := (some 14)) (.int .i64 c2) fr (by cases B7 <;> kernel_rfl) (fun hB hh => ?_) ?_
 cases B7 <;> first | (exact absurd hB (by decide)) | skip
 have c7 : ((k : Int) = k2) := iB7.1 rfl
 exact From_ld (some 14) ⟨b4, 1, none⟩ fr (by kernel_rfl) (.int .i64 c2) (blk_cell (M6.get 1 rfl) rfl) hh
 intro aC fr
 refine zpk 3 13 [16, 17] fr (news := [(16, (.bool (B7 && ((c : Int) == c2)))), (17, (.bool (B7 && ((c : Int) == c2))))]) (by cases B7 <;> kernel_rfl) ?_
 intro aC fr
 obtain ⟨B20, hB20⟩ : ∃ B : Bool, B = (B7 && ((c : Int) == c2)) := ⟨_, rfl⟩
 revert aC
 refine zkp [(2, (pT b1 0)), (3, (pT b4 0)), (17, (.bool (B7 && ((c : Int) == c2))))] ?_
 rw [← hB20]
 have iB20 : B20 = true ↔ (((k : Int) = k2) ∧ ((c : Int) = c2)) := by rw [hB20]; simp only [Bool.and_eq_true, beq_iff_eq, iB7]
 clear hB20
 intro aC fr
 refine zpk 1 14 [18] fr (news := [(18, (cond B20 (pT b1 2) undef))]) (by cases B20 <;> kernel_rfl) ?_
 intro aC fr
 refine From_either (B := B20) (d := (some 19)) (.slice A o.length ac) fr (by cases B20 <;> kernel_rfl) (fun hB hh => ?_) ?_
 cases B20 <;> first | (exact absurd hB (by decide)) | skip
 have c20 : (((k : Int) = k2) ∧ ((c : Int) = c2)) := iB20.1 rfl
 exact From_ld (some 19) ⟨b1, 2, none⟩ fr (by kernel_rfl) (.slice A o.length ac) (blk_cell (M6.get 0 rfl) rfl) hh
 intro aC fr
 cases B20
 have c20 : ¬ (((k : Int) = k2) ∧ ((c : Int) = c2)) := (fun h => Bool.noConfusion (iB20.2 h) : ¬ (((k : Int) = k2) ∧ ((c : Int) = c2)))
 revert aC
 refine zpn 7 <| zfe <| zre <| zo1 (.bool false) ?_
 have hR : false = true ↔ False := by simp
 have M27 := M6.od [] 0
 exact ⟨bool_dec hR (⟨fun h_ => h_.elim, fun h_ => by have h1 := h_.1; have h2 := h_.2.1; omega⟩), M27⟩
 have c20 : (((k : Int) = k2) ∧ ((c : Int) = c2)) := iB20.1 rfl
 revert aC
 refine zcs o A o.length ac rfl (M6.ro hA) <| zpn 1 <| zld ⟨b4, 2, none⟩ (.slice A2 o2.length ac2) (blk_cell (M6.get 1 rfl) rfl) <| zcs o2 A2 o2.length ac2 rfl (M6.ro hA2) <| zpn 3 <| zfe <| zre <| zo1 (.bool (((strOfNums o) : ByteArray).toList == ((strOfNums o2) : ByteArray).toList)) ?_
 have hR : (((strOfNums o) : ByteArray).toList == ((strOfNums o2) : ByteArray).toList) = true ↔ (((strOfNums o)).toList = ((strOfNums o2)).toList) := by simp only [beq_iff_eq]
 have M28 := M6.od [] 0
 exact ⟨bool_dec hR (⟨fun h_ => ⟨by omega, by omega, h_⟩, fun h_ => h_.2.2⟩), M28⟩
theorem same3_c (k c st k2 c2 st2 : Int) (o o2 : List Int) (A A2 : Option Addr) (ac ac2 : Nat) (w : World) (hA : RO noS w (.rd A (u8s o))) (hA2 : RO noS w (.rd A2 (u8s o2))) :
    Calls Try.prog 15 #[(.agg #[(.int .i64 k), (.int .i64 c), (.slice A o.length ac), (.int .i64 st)]), (.agg #[(.int .i64 k2), (.int .i64 c2), (.slice A2 o2.length ac2), (.int .i64 st2)])] w (Ret fun v w' => v = .bool (decide (st = st2 ∧ (k = k2 ∧ c = c2 ∧ (strOfNums o).toList = (strOfNums o2).toList))) ∧ Mem noS w w' []) := by
 refine zen 15 [(.agg #[(.int .i64 k), (.int .i64 c), (.slice A o.length ac), (.int .i64 st)]), (.agg #[(.int .i64 k2), (.int .i64 c2), (.slice A2 o2.length ac2), (.int .i64 st2)])] Try.func15 ?_
 have hM := Mem.init w
 refine zsr <| zbx hM 38 (.agg #[(.int .i64 k), (.int .i64 c), (.slice A o.length ac), (.int .i64 st)]) [(.int .i64 k), (.int .i64 c), (.slice A o.length ac), (.int .i64 st)] fun b1 w2 hb1 M3 => ?_
 replace M3 := M3.nf
 clear hM
 refine zbx M3 38 (.agg #[(.int .i64 k2), (.int .i64 c2), (.slice A2 o2.length ac2), (.int .i64 st2)]) [(.int .i64 k2), (.int .i64 c2), (.slice A2 o2.length ac2), (.int .i64 st2)] fun b4 w5 hb4 M6 => ?_
 replace M6 := M6.nf
 refine zpn 1 <| zfe <| zsr <| zpn 1 <| zld ⟨b1, 3, none⟩ (.int .i64 st) (blk_cell (M6.get 0 rfl) rfl) <| zpn 1 <| zld ⟨b4, 3, none⟩ (.int .i64 st2) (blk_cell (M6.get 1 rfl) rfl) <| zpn 2 ?_
 obtain ⟨B7, hB7⟩ : ∃ B : Bool, B = ((st : Int) == st2) := ⟨_, rfl⟩
 refine zkp [(2, (pT b1 0)), (3, (pT b4 0)), (10, (.bool ((st : Int) == st2)))] ?_
 rw [← hB7]
 have iB7 : B7 = true ↔ ((st : Int) = st2) := by rw [hB7]; simp only [beq_iff_eq]
 clear hB7
 cases B7
 have c7 : ¬ ((st : Int) = st2) := (fun h => Bool.noConfusion (iB7.2 h) : ¬ ((st : Int) = st2))
 refine zpn 5 <| zfe <| zre <| zo1 (.bool false) ?_
 have hR : false = true ↔ False := by simp
 have M8 := M6.od [] 0
 exact ⟨bool_dec hR (⟨fun h_ => h_.elim, fun h_ => by have h1 := h_.1; omega⟩), M8⟩
 have c7 : ((st : Int) = st2) := iB7.1 rfl
 refine zls ⟨b1, 0, none⟩ [(.int .i64 k), (.int .i64 c), (.slice A o.length ac), (.int .i64 st)] (blk_cells (M6.get 0 rfl)) <| zls ⟨b4, 0, none⟩ [(.int .i64 k2), (.int .i64 c2), (.slice A2 o2.length ac2), (.int .i64 st2)] (blk_cells (M6.get 1 rfl)) <| zcl (alike_c k c st k2 c2 st2 o o2 A A2 ac ac2 w5 (hA.at_ M6) (hA2.at_ M6)) ?_
 rintro _ w9 ⟨rfl, M10x⟩
 have M10 := M6.cl M10x
 refine zpn 2 <| zfe <| zre <| zo1 (.bool (decide (k = k2 ∧ c = c2 ∧ (strOfNums o).toList = (strOfNums o2).toList))) ?_
 have hR : decide (k = k2 ∧ c = c2 ∧ (strOfNums o).toList = (strOfNums o2).toList) = true ↔ (k = k2 ∧ c = c2 ∧ (strOfNums o).toList = (strOfNums o2).toList) := by simp only [decide_eq_true_eq]
 have M11 := M10.od [] 0
 exact ⟨bool_dec hR (⟨fun h_ => ⟨by omega, h_⟩, fun h_ => h_.2⟩), M11⟩
theorem one15_c (n : Int) (w : World) :
    Calls Try.prog 26 #[(.int .i64 n)] w (Ret fun v w' => v = .agg #[.int .i64 1, .int .i64 n, .string ⟨#[]⟩, .slice none 0 0] ∧ Mem noS w w' []) := by
 refine zen 5 [(.int .i64 n)] Try.func26 ?_
 have hM := Mem.init w
 refine zsr <| zal hM 53 [(.int .i64 0), (.int .i64 0), (.string ⟨#[]⟩), (.slice none 0 0)] fun b1 w2 hb1 M3 => ?_
 replace M3 := M3.nf
 clear hM
 refine zfe <| zsr <| zpn 2 ?_
 intro aC fr
 refine From_storeS_blk (by kernel_rfl : coreAt _ 2 = some (none, (.store 53 (.tmp 2) (.tmp 4)), 0, none)) fr (by kernel_rfl) (by kernel_rfl) (k' := 3) rfl (b := b1) (t0 := 53) (vs := [(.int .i64 1), (.int .i64 n), (.string ⟨#[]⟩), (.slice none 0 0)]) (cs := [(.int .i64 0), (.int .i64 0), (.string ⟨#[]⟩), (.slice none 0 0)]) (by kernel_rfl) (by kernel_rfl) (by kernel_rfl) (by simp only [List.mem_cons, List.not_mem_nil, or_false]; intro v hv; rcases hv with rfl | rfl | rfl | rfl <;> first | rfl | assumption) M3 0 rfl rfl ?_
 intro w4 M5 _ aC ea fr; clear ea
 replace M5 := M5.nf
 revert aC
 refine zfe <| zre ?_
 intro aC fr
 refine outC (ad := ⟨b1, 0, none⟩) (vs := [(.int .i64 1), (.int .i64 n), (.string ⟨#[]⟩), (.slice none 0 0)]) fr rfl (by kernel_rfl) (by kernel_rfl) (blk_cells (M5.get 0 rfl)) ?_
 refine ⟨_, rfl, ?_⟩
 have M12 := M5.od [] 0
 exact ⟨rfl, M12⟩
theorem local15_c (n : Int) (w : World) :
    Calls Try.prog 25 #[(.int .i64 n)] w (Ret fun v w' => v = .agg #[.int .i64 2, .int .i64 n, .string ⟨#[]⟩, .slice none 0 0] ∧ Mem noS w w' []) := by
 refine zen 5 [(.int .i64 n)] Try.func25 ?_
 have hM := Mem.init w
 refine zsr <| zal hM 53 [(.int .i64 0), (.int .i64 0), (.string ⟨#[]⟩), (.slice none 0 0)] fun b1 w2 hb1 M3 => ?_
 replace M3 := M3.nf
 clear hM
 refine zfe <| zsr <| zpn 2 ?_
 intro aC fr
 refine From_storeS_blk (by kernel_rfl : coreAt _ 2 = some (none, (.store 53 (.tmp 2) (.tmp 4)), 0, none)) fr (by kernel_rfl) (by kernel_rfl) (k' := 3) rfl (b := b1) (t0 := 53) (vs := [(.int .i64 2), (.int .i64 n), (.string ⟨#[]⟩), (.slice none 0 0)]) (cs := [(.int .i64 0), (.int .i64 0), (.string ⟨#[]⟩), (.slice none 0 0)]) (by kernel_rfl) (by kernel_rfl) (by kernel_rfl) (by simp only [List.mem_cons, List.not_mem_nil, or_false]; intro v hv; rcases hv with rfl | rfl | rfl | rfl <;> first | rfl | assumption) M3 0 rfl rfl ?_
 intro w4 M5 _ aC ea fr; clear ea
 replace M5 := M5.nf
 revert aC
 refine zfe <| zre ?_
 intro aC fr
 refine outC (ad := ⟨b1, 0, none⟩) (vs := [(.int .i64 2), (.int .i64 n), (.string ⟨#[]⟩), (.slice none 0 0)]) fr rfl (by kernel_rfl) (by kernel_rfl) (blk_cells (M5.get 0 rfl)) ?_
 refine ⟨_, rfl, ?_⟩
 have M12 := M5.od [] 0
 exact ⟨rfl, M12⟩
theorem awake15_d (w : World) :
    Calls Try.prog 10 #[] w (Ret fun v w' => v = .bool (decide (True)) ∧ Mem noS w w' []) := by
 refine zen 48 [] Try.func10 ?_
 have hM := Mem.init w
 refine zsp <| zsr <| zcl (local15_c 0 w) ?_
 rintro _ w1 ⟨rfl, M2x⟩
 have M2 := hM.cl M2x
 clear M2x hM
 refine zcl (one15_c 1 w1) ?_
 rintro _ w3 ⟨rfl, M4x⟩
 have M4 := M2.cl M4x
 intro aC fr
 refine zBs 6 46 2 #[(0, (.tmp 4)), (1, (.tmp 5))] 46 fr (e := 53) (size := 4) (zs := [(.int .i64 0), (.int .i64 0), (.string ⟨#[]⟩), (.slice none 0 0)]) (vs := [(0, (.agg #[(.int .i64 2), (.int .i64 0), (.string ⟨#[]⟩), (.slice none 0 0)])), (1, (.agg #[(.int .i64 1), (.int .i64 1), (.string ⟨#[]⟩), (.slice none 0 0)]))]) (cs := [(.int .i64 2), (.int .i64 0), (.string ⟨#[]⟩), (.slice none 0 0), (.int .i64 1), (.int .i64 1), (.string ⟨#[]⟩), (.slice none 0 0)]) M4 ?_
 intro b5 w6 hb5 _ M7 _ aC ea fr; clear ea
 replace M7 := M7.nf
 revert aC
 refine zpn 1 ?_
 intro aC fr
 refine zBs 8 46 1 #[(0, (.tmp 7))] 46 fr (e := 53) (size := 4) (zs := [(.int .i64 0), (.int .i64 0), (.string ⟨#[]⟩), (.slice none 0 0)]) (vs := [(0, (.agg #[(.int .i64 3), (.int .i64 1), (.string ⟨#[]⟩), (.slice (sM b5) 2 2)]))]) (cs := [(.int .i64 3), (.int .i64 1), (.string ⟨#[]⟩), (.slice (sM b5) 2 2)]) M7 ?_
 intro b12 w13 hb12 _ M14 _ aC ea fr; clear ea
 replace M14 := M14.nf
 revert aC
 refine zpn 1 ?_
 intro aC fr
 refine zBs 10 43 1 #[(0, (.tmp 9))] 43 fr (e := 48) (size := 5) (zs := [(.int .i64 0), (.int .i64 0), (.slice none 0 0), (.slice none 0 0), (.slice none 0 0)]) (vs := [(0, (.agg #[(.int .i64 9), (.int .i64 0), (.slice (sM b12) 1 1), (.slice none 0 0), (.slice none 0 0)]))]) (cs := [(.int .i64 9), (.int .i64 0), (.slice (sM b12) 1 1), (.slice none 0 0), (.slice none 0 0)]) M14 ?_
 intro b19 w20 hb19 _ M21 _ aC ea fr; clear ea
 replace M21 := M21.nf
 revert aC
 refine zpn 1 <| zal M21 45 [(.string ⟨#[]⟩), (.bool false), (.int .i64 0), (.int .i64 0), (.slice none 0 0)] fun b26 w27 hb26 M28 => ?_
 replace M28 := M28.nf
 refine zss M28 3 [(.string ⟨#[102]⟩), (.bool false), (.int .i64 1), (.int .i64 1), (.slice (sM b19) 1 1)] rfl fun w29 M30 => ?_
 replace M30 := M30.nf
 refine zfe <| zsr <| zpn 1 ?_
 intro aC fr
 refine zBs 13 43 1 #[(0, (.tmp 12))] 43 fr (e := 48) (size := 5) (zs := [(.int .i64 0), (.int .i64 0), (.slice none 0 0), (.slice none 0 0), (.slice none 0 0)]) (vs := [(0, (.agg #[(.int .i64 10), (.int .i64 5), (.slice none 0 0), (.slice none 0 0), (.slice none 0 0)]))]) (cs := [(.int .i64 10), (.int .i64 5), (.slice none 0 0), (.slice none 0 0), (.slice none 0 0)]) M30 ?_
 intro b31 w32 hb31 _ M33 _ aC ea fr; clear ea
 replace M33 := M33.nf
 revert aC
 refine zkp [(1, (pT b26 0)), (13, (.slice (sM b31) 1 1))] <| zpn 1 <| zal M33 45 [(.string ⟨#[]⟩), (.bool false), (.int .i64 0), (.int .i64 0), (.slice none 0 0)] fun b38 w39 hb38 M40 => ?_
 replace M40 := M40.nf
 refine zss M40 5 [(.string ⟨#[103]⟩), (.bool false), (.int .i64 0), (.int .i64 0), (.slice (sM b31) 1 1)] rfl fun w41 M42 => ?_
 replace M42 := M42.nf
 refine zfe <| zsr <| zls ⟨b38, 0, none⟩ [(.string ⟨#[103]⟩), (.bool false), (.int .i64 0), (.int .i64 0), (.slice (sM b31) 1 1)] (blk_cells (M42.get 5 rfl)) ?_
 intro aC fr
 refine zBs 16 22 1 #[(0, (.tmp 15))] 22 fr (e := 45) (size := 5) (zs := [(.string ⟨#[]⟩), (.bool false), (.int .i64 0), (.int .i64 0), (.slice none 0 0)]) (vs := [(0, (.agg #[(.string ⟨#[103]⟩), (.bool false), (.int .i64 0), (.int .i64 0), (.slice (sM b31) 1 1)]))]) (cs := [(.string ⟨#[103]⟩), (.bool false), (.int .i64 0), (.int .i64 0), (.slice (sM b31) 1 1)]) M42 ?_
 intro b43 w44 hb43 _ M45 _ aC ea fr; clear ea
 replace M45 := M45.nf
 revert aC
 refine zpn 1 ?_
 intro aC fr
 refine zBs 18 32 1 #[(0, (.tmp 17))] 32 fr (e := 25) (size := 3) (zs := [(.string ⟨#[]⟩), (.slice none 0 0), (.slice none 0 0)]) (vs := [(0, (.agg #[(.string ⟨#[]⟩), (.slice (sM b43) 1 1), (.slice none 0 0)]))]) (cs := [(.string ⟨#[]⟩), (.slice (sM b43) 1 1), (.slice none 0 0)]) M45 ?_
 intro b50 w51 hb50 _ M52 _ aC ea fr; clear ea
 replace M52 := M52.nf
 refine zBs 19 33 1 #[(0, (.const (.string { data := #[103] })))] 33 fr (e := 9) (size := 1) (zs := [(.string ⟨#[]⟩)]) (vs := [(0, (.string ⟨#[103]⟩))]) (cs := [(.string ⟨#[103]⟩)]) M52 ?_
 intro b57 w58 hb57 _ M59 _ aC ea fr; clear ea
 replace M59 := M59.nf
 revert aC
 refine zcl (vs := #[(.slice (sM b50) 1 1), (.slice (sM b57) 1 1), (.int .i64 10), (.slice none 0 0), (.int .i64 10)]) ((by have h9 := trun_c [awM1 (sM b43) (sM b31)] (sM b50) 1 [⟨#[103]⟩] (sM b57) 1 10 [] none 0 10 w58 (aw1_in (A13 := (sM b31)) (A16 := (sM b43)) (M59.get 7 rfl) (M59.get 8 rfl) (M59.get 6 rfl) (M59.get 4 rfl)) (by show (0 : Nat) ≤ _; omega); rw [aw1_run] at h9; exact h9)) ?_
 rintro _ w64 ⟨oA62, oc63, rfl, M65x⟩
 have M65 := M59.cl M65x
 refine zal M65 38 [(.int .i64 0), (.int .i64 0), (.slice none 0 0), (.int .i64 0)] fun b66 w67 hb66 M68 => ?_
 replace M68 := M68.nf
 refine zss M68 10 [(.int .i64 2), (.int .i64 5), (.slice oA62 0 oc63), (.int .i64 1)] rfl fun w69 M70 => ?_
 replace M70 := M70.nf
 refine zfe <| zsr <| zls ⟨b26, 0, none⟩ [(.string ⟨#[102]⟩), (.bool false), (.int .i64 1), (.int .i64 1), (.slice (sM b19) 1 1)] (blk_cells (M70.get 3 rfl)) <| zkp [(1, (pT b26 0)), (2, (pT b38 0)), (3, (pT b66 0)), (21, (.agg #[(.string ⟨#[102]⟩), (.bool false), (.int .i64 1), (.int .i64 1), (.slice (sM b19) 1 1)]))] <| zcl (vs := #[(.agg #[(.string ⟨#[102]⟩), (.bool false), (.int .i64 1), (.int .i64 1), (.slice (sM b19) 1 1)])]) ((by have h9 := tsize_c (awFn (sM b5) (sM b12) (sM b19)) _ w69 (awFn_ro (A6 := (sM b5)) (A8 := (sM b12)) (A10 := (sM b19)) (M70.get 0 rfl) (M70.get 1 rfl) (M70.get 2 rfl)) (sub_fn (List.mem_singleton.2 rfl)) awFn_in (by show (4 : Nat) ≤ _; omega); exact h9)) ?_
 rintro _ w71 ⟨rfl, M72x⟩
 have M72 := M70.cl M72x
 refine zpn 2 <| zls ⟨b26, 0, none⟩ [(.string ⟨#[102]⟩), (.bool false), (.int .i64 1), (.int .i64 1), (.slice (sM b19) 1 1)] (blk_cells (M72.get 3 rfl)) <| zls ⟨b38, 0, none⟩ [(.string ⟨#[103]⟩), (.bool false), (.int .i64 0), (.int .i64 0), (.slice (sM b31) 1 1)] (blk_cells (M72.get 5 rfl)) ?_
 intro aC fr
 refine From_buildSlice (by kernel_rfl : coreAt _ 6 = some (some 27, (.buildSlice 22 2 #[(0, (.tmp 25)), (1, (.tmp 26))]), 22, some (3, true))) fr (by kernel_rfl) (by kernel_rfl) (k' := 7) rfl (e := 45) (size := 5) (zs := [(.string ⟨#[]⟩), (.bool false), (.int .i64 0), (.int .i64 0), (.slice none 0 0)]) (vs := [(0, (.agg #[(.string ⟨#[102]⟩), (.bool false), (.int .i64 1), (.int .i64 1), (.slice (sM b19) 1 1)])), (1, (.agg #[(.string ⟨#[103]⟩), (.bool false), (.int .i64 0), (.int .i64 0), (.slice (sM b31) 1 1)]))]) (cs := [(.string ⟨#[102]⟩), (.bool false), (.int .i64 1), (.int .i64 1), (.slice (sM b19) 1 1), (.string ⟨#[103]⟩), (.bool false), (.int .i64 0), (.int .i64 0), (.slice (sM b31) 1 1)]) (by kernel_rfl) (by kernel_rfl) (by kernel_rfl) (by kernel_rfl) (by kernel_rfl) (by kernel_rfl) M72 ?_
 intro b73 w74 hb73 _ M75 _ aC ea fr; clear ea
 replace M75 := M75.nf
 revert aC
 refine zpn 1 <| zcl (tsmall_c (awM2 (sM b73) (sM b5) (sM b12) (sM b19) (sM b31)) w74 (awM2_ro (A27 := (sM b73)) (A6 := (sM b5)) (A8 := (sM b12)) (A10 := (sM b19)) (A13 := (sM b31)) (M75.get 11 rfl) (M75.get 0 rfl) (M75.get 1 rfl) (M75.get 2 rfl) (M75.get 4 rfl)) awM2_in) ?_
 rintro _ w84 ⟨fs82, A80, c81, hf83, rfl, M85x⟩
 have M85 := M75.cl M85x
 rw [aw_small_len hf83]
 have hfl_ := aw_small_len hf83
 refine zpn 5 <| zld ⟨b66, 0, none⟩ (.int .i64 2) (blk_cell (M85.get 10 rfl) rfl) <| zpn 4 <| zld ⟨b66, 1, none⟩ (.int .i64 5) (blk_cell (M85.get 10 rfl) rfl) <| zpn 4 <| zld ⟨b66, 3, none⟩ (.int .i64 1) (blk_cell (M85.get 10 rfl) rfl) <| zkp [(43, (.bool true)), (45, (.int .i64 1))] <| zpn 3 <| zfe <| zre ?_
 refine zo1 (.bool true) ?_
 have hR : true = true ↔ True := by simp
 have M86 := M85.od [] 0
 exact ⟨bool_dec hR (⟨fun _ => trivial, fun _ => by first | trivial | omega | rfl⟩), M86⟩
theorem awake15_c (w : World) : Calls Try.prog 10 #[] w (Ret fun v w' => v = .bool true ∧ Mem noS w w' []) := by
  have h := awake15_d w
  simpa using h
end Go.Proofs.Ytdcgcjibgihbbaa
namespace Go.Proofs.Ytdcgcjibgihbbaa
open Go.Mor
theorem begins_c (k c st k2 c2 st2 : Int) (o o2 : List Int) (A A2 : Option Addr) (ac ac2 : Nat) (w : World) (hA : RO noS w (.rd A (u8s o))) (hA2 : RO noS w (.rd A2 (u8s o2))) (hlen : o.length ≤ o2.length) (hc2 : o.length ≤ ac2) :
    Calls Try.prog 23 #[(.agg #[(.int .i64 k), (.int .i64 c), (.slice A o.length ac), (.int .i64 st)]), (.agg #[(.int .i64 k2), (.int .i64 c2), (.slice A2 o2.length ac2), (.int .i64 st2)])] w (Ret fun v w' => v = .bool (decide ((strOfNums (o2.take o.length)).toList = (strOfNums o).toList)) ∧ Mem noS w w' []) := by
 refine zen 25 [(.agg #[(.int .i64 k), (.int .i64 c), (.slice A o.length ac), (.int .i64 st)]), (.agg #[(.int .i64 k2), (.int .i64 c2), (.slice A2 o2.length ac2), (.int .i64 st2)])] Try.func23 ?_
 have hM := Mem.init w
 refine zsr <| zbx hM 38 (.agg #[(.int .i64 k), (.int .i64 c), (.slice A o.length ac), (.int .i64 st)]) [(.int .i64 k), (.int .i64 c), (.slice A o.length ac), (.int .i64 st)] fun b1 w2 hb1 M3 => ?_
 replace M3 := M3.nf
 clear hM
 refine zbx M3 38 (.agg #[(.int .i64 k2), (.int .i64 c2), (.slice A2 o2.length ac2), (.int .i64 st2)]) [(.int .i64 k2), (.int .i64 c2), (.slice A2 o2.length ac2), (.int .i64 st2)] fun b4 w5 hb4 M6 => ?_
 replace M6 := M6.nf
 refine zpn 1 <| zfe <| zsq <| zkp [(2, (pT b1 0)), (3, (pT b4 0))] ?_
 intro aC fr
 refine zdt 18 (N := 25) (env0 := [(2, (pT b1 0)), (3, (pT b4 0))]) (specAt [.det (pT b1 2), .det (.slice A o.length ac), .det (.int .i64 ((o.length : Nat) : Int)), .det (pT b4 2), .det (.slice A2 o2.length ac2), .det (.int .i64 ((o2.length : Nat) : Int)), .det (.bool true), .det (.bool true), .det (pT b4 2), .det (.slice A2 o2.length ac2), .det (pT b1 2), .det (.slice A o.length ac), .det (.int .i64 ((o.length : Nat) : Int)), .det (.slice A2 o.length ac2), .det (.string (strOfNums (o2.take o.length))), .det (pT b1 2), .det (.slice A o.length ac), .det (.string (strOfNums o))]) fr (la (la (la (la (la (la (la (la (la (la (la (la (la (la (la (la (la (la lz dP) (dL ⟨b1, 2, none⟩ (.slice A o.length ac) fun w_ hK => (blk_cell ((M6.then_ hK).get 0 rfl) rfl))) dP) dP) (dL ⟨b4, 2, none⟩ (.slice A2 o2.length ac2) fun w_ hK => (blk_cell ((M6.then_ hK).get 1 rfl) rfl))) dP) (dC (decide ((o.length : Int) ≤ (o2.length : Int))) (B := true) (by rw [eq_comm, decide_eq_true_eq]; omega))) dP) dP) (dL ⟨b4, 2, none⟩ (.slice A2 o2.length ac2) fun w_ hK => (blk_cell ((M6.then_ hK).get 1 rfl) rfl))) dP) (dL ⟨b1, 2, none⟩ (.slice A o.length ac) fun w_ hK => (blk_cell ((M6.then_ hK).get 0 rfl) rfl))) dP) (dSh A2 ac2 o.length (o.length : Int) rfl hc2)) (dCS (o2.take o.length) A2 o.length ac2 (by rw [List.length_take]; omega) (fun w_ hK_ => rd_take (RO.later (hA2.at_ M6) hK_).1))) dP) (dL ⟨b1, 2, none⟩ (.slice A o.length ac) fun w_ hK => (blk_cell ((M6.then_ hK).get 0 rfl) rfl))) (dCS o A o.length ac rfl (fun w_ hK_ => (RO.later (hA.at_ M6) hK_).1))) ?_
 intro aC w11 vs hK hv fr
 revert aC; refine zkp [(12, (.bool true)), (19, (.string (strOfNums (o2.take o.length)))), (22, (.string (strOfNums o)))] ?_
 have M12 := M6.then_ hK
 clear hK hv fr aC M6; clear vs
 refine zpn 3 <| zfe <| zre <| zo1 (.bool (((strOfNums (o2.take o.length)) : ByteArray).toList == ((strOfNums o) : ByteArray).toList)) ?_
 have hR : (((strOfNums (o2.take o.length)) : ByteArray).toList == ((strOfNums o) : ByteArray).toList) = true ↔ (((strOfNums (o2.take o.length))).toList = ((strOfNums o)).toList) := by simp only [beq_iff_eq]
 have M13 := M12.od [] 0
 exact ⟨bool_dec hR (Iff.rfl), M13⟩
theorem treeMore_d (ms : List TMod) (mA : Option Addr) (mc : Nat) (bg : List ByteArray) (gA : Option Addr) (gc : Nat) (mem : Int) (inp : List Int) (iA : Option Addr) (ic : Nat) (fuel : Int) (more : Int) (w : World) (hI : RunIn0 w ms mA bg gA inp iA ic) (hf1 : In64 fuel) (hm1 : In64 more) :
    Calls Try.prog 6 #[(.slice mA ms.length mc), (.slice gA bg.length gc), (.int .i64 mem), (.slice iA inp.length ic), (.int .i64 fuel), (.int .i64 more)] w (Ret fun v w' => v = .bool (decide (True)) ∧ Mem noS w w' []) := by
 unfold In64 at hf1 hm1
 refine zen 75 [(.slice mA ms.length mc), (.slice gA bg.length gc), (.int .i64 mem), (.slice iA inp.length ic), (.int .i64 fuel), (.int .i64 more)] Try.func6 ?_
 have hM := Mem.init w
 refine zsp <| zsq <| zsr <| zpn 5 <| zcl (theavy_c ms mA mc bg gA gc mem inp iA ic fuel w (hI.at_ hM)) ?_
 rintro _ w2 ⟨B1, rfl, hBh, M3x⟩
 have M3 := hM.cl M3x
 clear M3x hM
 refine zpn 1 ?_
 obtain ⟨B4, hB4⟩ : ∃ B : Bool, B = B1 := ⟨_, rfl⟩
 refine zkp [(0, (.slice mA ms.length mc)), (1, (.slice gA bg.length gc)), (2, (.int .i64 mem)), (3, (.slice iA inp.length ic)), (4, (.int .i64 fuel)), (5, (.int .i64 more)), (21, (.bool B1))] ?_
 rw [← hB4]
 have iB4 : B4 = true ↔ (B1 = true) := by rw [hB4]
 clear hB4
 intro aC fr
 refine zpk 4 11 [24, 25] fr (news := [(24, (.bool (B4 || decide ((fuel : Int) < 0)))), (25, (.bool (B4 || decide ((fuel : Int) < 0))))]) (by cases B4 <;> kernel_rfl) ?_
 intro aC fr
 obtain ⟨B9, hB9⟩ : ∃ B : Bool, B = (B4 || decide ((fuel : Int) < 0)) := ⟨_, rfl⟩
 revert aC
 refine zkp [(0, (.slice mA ms.length mc)), (1, (.slice gA bg.length gc)), (2, (.int .i64 mem)), (3, (.slice iA inp.length ic)), (4, (.int .i64 fuel)), (5, (.int .i64 more)), (25, (.bool (B4 || decide ((fuel : Int) < 0))))] ?_
 rw [← hB9]
 have iB9 : B9 = true ↔ ((B1 = true) ∨ ((fuel : Int) < 0)) := by rw [hB9]; simp only [Bool.or_eq_true, decide_eq_true_eq, iB4]
 clear hB9
 intro aC fr
 refine zpk 4 15 [28, 29] fr (news := [(28, (.bool (B9 || decide ((more : Int) < 0)))), (29, (.bool (B9 || decide ((more : Int) < 0))))]) (by cases B9 <;> kernel_rfl) ?_
 intro aC fr
 obtain ⟨B14, hB14⟩ : ∃ B : Bool, B = (B9 || decide ((more : Int) < 0)) := ⟨_, rfl⟩
 revert aC
 refine zkp [(0, (.slice mA ms.length mc)), (1, (.slice gA bg.length gc)), (2, (.int .i64 mem)), (3, (.slice iA inp.length ic)), (4, (.int .i64 fuel)), (5, (.int .i64 more)), (29, (.bool (B9 || decide ((more : Int) < 0))))] ?_
 rw [← hB14]
 have iB14 : B14 = true ↔ (((B1 = true) ∨ ((fuel : Int) < 0)) ∨ ((more : Int) < 0)) := by rw [hB14]; simp only [Bool.or_eq_true, decide_eq_true_eq, iB9]
 clear hB14
 intro aC fr
 refine zpk 3 18 [32] fr (news := [(32, (.bool (B14 || decide ((more : Int) > 5000))))]) (by cases B14 <;> kernel_rfl) ?_
 intro aC fr
 revert aC
 refine zfe <| zcP (B14 || decide ((more : Int) > 5000)) ((((B1 = true) ∨ ((fuel : Int) < 0)) ∨ ((more : Int) < 0)) ∨ ((more : Int) > 5000)) (by simp only [Bool.or_eq_true, decide_eq_true_eq, iB14]) (fun c19 => ?_) (fun c19 => ?_)
 refine zsr <| zcl (awake15_c w2) ?_
 rintro _ w20 ⟨rfl, M21x⟩
 have M21 := M3.cl M21x
 refine zpn 1 <| zfe <| zre <| zo1 (.bool true) ?_
 have hR : true = true ↔ True := by simp
 exact ⟨bool_dec hR (⟨fun _ => trivial, fun _ => by first | trivial | omega | exact ⟨by omega, by omega⟩⟩), M21⟩
 have hb4 : (0 ≤ fuel ∧ 0 ≤ more ∧ more ≤ 5000) ∧ B1 = false := by first | exact ⟨by omega, by simp_all⟩ | (have h_ := c19; simp only [not_or, Bool.not_eq_true] at h_; exact ⟨by omega, by simp_all⟩)
 obtain ⟨⟨hb5, hb6, hb7⟩, hb8⟩ := hb4
 have hHv := hBh hb8
 have hHf := hHv.fuel
 obtain ⟨ra, hra⟩ : ∃ r : Out, r = runTO ms bg mem inp fuel := ⟨_, rfl⟩
 obtain ⟨rb, hrb⟩ : ∃ r : Out, r = runTO ms bg mem inp (fuel + more) := ⟨_, rfl⟩
 have hmr := more_runT (ms := ms) (bg := bg) (mem := mem) (inp := inp) hb5 hHf hb6 hb7
 rw [← hra, ← hrb] at hmr
 refine zsk <| zsr <| zpn 5 <| zcl ((by have h9 := trun_c ms mA mc bg gA gc mem inp iA ic fuel w2 ((hI.at_ M3).run hHv) hI.ill; rw [← hra] at h9; exact h9)) ?_
 rintro _ w24 ⟨oA22, oc23, rfl, M25x⟩
 have M25 := M3.cl M25x
 refine zal M25 38 [(.int .i64 0), (.int .i64 0), (.slice none 0 0), (.int .i64 0)] fun b26 w27 hb26 M28 => ?_
 replace M28 := M28.nf
 refine zss M28 1 [(.int .i64 ra.1), (.int .i64 ra.2.1), (.slice oA22 ra.2.2.1.length oc23), (.int .i64 ra.2.2.2)] rfl fun w29 M30 => ?_
 replace M30 := M30.nf
 refine zfe <| zsr <| zpn 6 <| zar (fuel + more) <| zcl ((by have h9 := trun_c ms mA mc bg gA gc mem inp iA ic (fuel + more) w29 ((hI.at_ M30).run hHv) hI.ill; rw [← hrb] at h9; exact h9)) ?_
 rintro _ w33 ⟨oA31, oc32, rfl, M34x⟩
 have M34 := M30.cl M34x
 refine zal M34 38 [(.int .i64 0), (.int .i64 0), (.slice none 0 0), (.int .i64 0)] fun b35 w36 hb35 M37 => ?_
 replace M37 := M37.nf
 refine zss M37 3 [(.int .i64 rb.1), (.int .i64 rb.2.1), (.slice oA31 rb.2.2.1.length oc32), (.int .i64 rb.2.2.2)] rfl fun w38 M39 => ?_
 replace M39 := M39.nf
 refine zfe <| zsq <| zsr <| zpn 1 <| zld ⟨b26, 0, none⟩ (.int .i64 ra.1) (blk_cell (M39.get 1 rfl) rfl) <| zkp [(4, (.int .i64 fuel)), (13, (pT b26 0)), (14, (pT b35 0)), (49, (.int .i64 ra.1))] <| zpn 1 <| zfe <| zcP ((ra.1 : Int) != 0) ((ra.1 : Int) ≠ 0) (by simp only [bne_iff_ne]) (fun c40 => ?_) (fun c40 => ?_)
 have hrr : rb = ra := by rcases hmr with h_ | h_; exact h_.2; exact absurd h_.1 c40
 refine zsr <| zls ⟨b26, 0, none⟩ [(.int .i64 ra.1), (.int .i64 ra.2.1), (.slice oA22 ra.2.2.1.length oc23), (.int .i64 ra.2.2.2)] (blk_cells (M39.get 1 rfl)) <| zls ⟨b35, 0, none⟩ [(.int .i64 rb.1), (.int .i64 rb.2.1), (.slice oA31 rb.2.2.1.length oc32), (.int .i64 rb.2.2.2)] (blk_cells (M39.get 3 rfl)) <| zcl (same3_c ra.1 ra.2.1 ra.2.2.2 rb.1 rb.2.1 rb.2.2.2 ra.2.2.1 rb.2.2.1 oA22 oA31 oc23 oc32 w38 (RO.of (row_rd (M39.get 0 rfl))) (RO.of (row_rd (M39.get 2 rfl)))) ?_
 rintro _ w41 ⟨rfl, M42x⟩
 have M42 := M39.cl M42x
 obtain ⟨B43, hB43⟩ : ∃ B : Bool, B = decide (ra.2.2.2 = rb.2.2.2 ∧ ra.1 = rb.1 ∧ ra.2.1 = rb.2.1 ∧ (strOfNums ra.2.2.1).toList = (strOfNums rb.2.2.1).toList) := ⟨_, rfl⟩
 refine zkp [(51, (.agg #[(.int .i64 ra.1), (.int .i64 ra.2.1), (.slice oA22 ra.2.2.1.length oc23), (.int .i64 ra.2.2.2)])), (52, (.agg #[(.int .i64 rb.1), (.int .i64 rb.2.1), (.slice oA31 rb.2.2.1.length oc32), (.int .i64 rb.2.2.2)])), (53, (.bool (decide (ra.2.2.2 = rb.2.2.2 ∧ ra.1 = rb.1 ∧ ra.2.1 = rb.2.1 ∧ (strOfNums ra.2.2.1).toList = (strOfNums rb.2.2.1).toList))))] ?_
 rw [← hB43]
 obtain rfl : B43 = true := by rw [hB43]; exact decide_eq_true (by rw [hrr]; exact ⟨rfl, rfl, rfl, rfl⟩)
 clear hB43
 refine zpn 1 <| zcl (awake15_c w41) ?_
 rintro _ w44 ⟨rfl, M45x⟩
 have M45 := M42.cl M45x
 refine zpn 2 <| zfe <| zre <| zo1 (.bool true) ?_
 have hR : true = true ↔ True := by simp
 have M46 := M45.od [] 0
 exact ⟨bool_dec hR (⟨fun _ => trivial, fun _ => by first | trivial | omega | exact ⟨by omega, by omega⟩⟩), M46⟩
 obtain ⟨hk0, hst, hst2, tb, htb⟩ : ra.1 = 0 ∧ ra.2.2.2 = fuel ∧ fuel ≤ rb.2.2.2 ∧ ∃ t, rb.2.2.1 = ra.2.2.1 ++ t := by rcases hmr with h_ | h_; exact absurd (by omega) h_.1; exact h_
 have hll : ra.2.2.1.length ≤ rb.2.2.1.length := by rw [htb, List.length_append]; omega
 refine zsk <| zsr <| zpn 1 <| zld ⟨b26, 3, none⟩ (.int .i64 ra.2.2.2) (blk_cell (M39.get 1 rfl) rfl) <| zpn 3 ?_
 obtain ⟨B47, hB47⟩ : ∃ B : Bool, B = ((ra.2.2.2 : Int) == fuel) := ⟨_, rfl⟩
 refine zkp [(4, (.int .i64 fuel)), (13, (pT b26 0)), (14, (pT b35 0)), (61, (.bool ((ra.2.2.2 : Int) == fuel)))] ?_
 rw [← hB47]
 have iB47 : B47 = true ↔ ((ra.2.2.2 : Int) = fuel) := by rw [hB47]; simp only [beq_iff_eq]
 clear hB47
 intro aC fr
 refine zpk 1 6 [62] fr (news := [(62, (cond B47 (pT b35 3) undef))]) (by cases B47 <;> kernel_rfl) ?_
 intro aC fr
 refine From_either (B := B47) (d := (some 63)) (.int .i64 rb.2.2.2) fr (by cases B47 <;> kernel_rfl) (fun hB hh => ?_) ?_
 cases B47 <;> first | (exact absurd hB (by decide)) | skip
 have c47 : ((ra.2.2.2 : Int) = fuel) := iB47.1 rfl
 exact From_ld (some 63) ⟨b35, 3, none⟩ fr (by kernel_rfl) (.int .i64 rb.2.2.2) (blk_cell (M39.get 3 rfl) rfl) hh
 intro aC fr
 refine zpk 4 11 [66, 67] fr (news := [(66, (.bool (B47 && decide ((rb.2.2.2 : Int) ≥ fuel)))), (67, (.bool (B47 && decide ((rb.2.2.2 : Int) ≥ fuel))))]) (by cases B47 <;> kernel_rfl) ?_
 intro aC fr
 obtain ⟨B56, hB56⟩ : ∃ B : Bool, B = (B47 && decide ((rb.2.2.2 : Int) ≥ fuel)) := ⟨_, rfl⟩
 revert aC
 refine zkp [(13, (pT b26 0)), (14, (pT b35 0)), (67, (.bool (B47 && decide ((rb.2.2.2 : Int) ≥ fuel))))] ?_
 rw [← hB56]
 have iB56 : B56 = true ↔ (((ra.2.2.2 : Int) = fuel) ∧ ((rb.2.2.2 : Int) ≥ fuel)) := by rw [hB56]; simp only [Bool.and_eq_true, decide_eq_true_eq, iB47]
 clear hB56
 cases B56
 have c56 : ¬ (((ra.2.2.2 : Int) = fuel) ∧ ((rb.2.2.2 : Int) ≥ fuel)) := (fun h => Bool.noConfusion (iB56.2 h) : ¬ (((ra.2.2.2 : Int) = fuel) ∧ ((rb.2.2.2 : Int) ≥ fuel)))
 refine zpn 8 <| zfe <| zre <| zo1 (.bool false) ?_
 have hR : false = true ↔ False := by simp
 have M57 := M39.od [] 0
 exact ⟨bool_dec hR (⟨fun h_ => h_.elim, fun _ => by omega⟩), M57⟩
 have c56 : (((ra.2.2.2 : Int) = fuel) ∧ ((rb.2.2.2 : Int) ≥ fuel)) := iB56.1 rfl
 refine zls ⟨b26, 0, none⟩ [(.int .i64 ra.1), (.int .i64 ra.2.1), (.slice oA22 ra.2.2.1.length oc23), (.int .i64 ra.2.2.2)] (blk_cells (M39.get 1 rfl)) <| zls ⟨b35, 0, none⟩ [(.int .i64 rb.1), (.int .i64 rb.2.1), (.slice oA31 rb.2.2.1.length oc32), (.int .i64 rb.2.2.2)] (blk_cells (M39.get 3 rfl)) <| zcl (begins_c ra.1 ra.2.1 ra.2.2.2 rb.1 rb.2.1 rb.2.2.2 ra.2.2.1 rb.2.2.1 oA22 oA31 oc23 oc32 w38 (RO.of (row_rd (M39.get 0 rfl))) (RO.of (row_rd (M39.get 2 rfl))) hll (Nat.le_trans hll (row_le (M39.get 2 rfl)))) ?_
 rintro _ w58 ⟨rfl, M59x⟩
 have M59 := M39.cl M59x
 obtain ⟨B60, hB60⟩ : ∃ B : Bool, B = decide ((strOfNums (rb.2.2.1.take ra.2.2.1.length)).toList = (strOfNums ra.2.2.1).toList) := ⟨_, rfl⟩
 refine zkp [(67, (.bool true)), (68, (.agg #[(.int .i64 ra.1), (.int .i64 ra.2.1), (.slice oA22 ra.2.2.1.length oc23), (.int .i64 ra.2.2.2)])), (69, (.agg #[(.int .i64 rb.1), (.int .i64 rb.2.1), (.slice oA31 rb.2.2.1.length oc32), (.int .i64 rb.2.2.2)])), (70, (.bool (decide ((strOfNums (rb.2.2.1.take ra.2.2.1.length)).toList = (strOfNums ra.2.2.1).toList))))] ?_
 rw [← hB60]
 obtain rfl : B60 = true := by rw [hB60]; exact decide_eq_true (by rw [htb, List.take_left])
 clear hB60
 refine zpn 2 <| zcl (awake15_c w58) ?_
 rintro _ w61 ⟨rfl, M62x⟩
 have M62 := M59.cl M62x
 refine zpn 2 <| zfe <| zre <| zo1 (.bool true) ?_
 have hR : true = true ↔ True := by simp
 have M63 := M62.od [] 0
 exact ⟨bool_dec hR (⟨fun _ => trivial, fun _ => by first | trivial | omega | exact ⟨by omega, by omega⟩⟩), M63⟩
theorem treeMore_c (ms : List TMod) (mA : Option Addr) (mc : Nat) (bg : List ByteArray) (gA : Option Addr) (gc : Nat) (mem : Int) (inp : List Int) (iA : Option Addr) (ic : Nat) (fuel : Int) (more : Int) (w : World) (hI : RunIn0 w ms mA bg gA inp iA ic) (hf1 : In64 fuel) (hm1 : In64 more) : Calls Try.prog 6 #[.slice mA ms.length mc, .slice gA bg.length gc, .int .i64 mem, .slice iA inp.length ic, .int .i64 fuel, .int .i64 more] w (Ret fun v w' => v = .bool true ∧ Mem noS w w' []) := by
  have h := treeMore_d ms mA mc bg gA gc mem inp iA ic fuel more w hI hf1 hm1
  simpa using h
end Go.Proofs.Ytdcgcjibgihbbaa
