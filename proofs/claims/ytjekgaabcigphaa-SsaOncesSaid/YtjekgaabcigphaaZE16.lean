/-
  Texts of the proof, part 16.
-/
import Derived.Test.YtjekgaabcigphaaZE15
import Derived.Laws.BytesArg
set_option maxRecDepth 10000
namespace Go.Mor
open Go.RowKit
theorem conv_bytes {P : Program} {w : World} {A : Option Addr} {n c : Nat} {l : List Int} {src dst e : TypeId} (hn : l.length = n) (h : (Res.rd A (l.map (Value.int .u8))).holds w) (hs : P.underlying src = some (.slice e)) (he : P.underlying e = some (.int .u8)) (hd : P.underlying dst = some .string) :
    (convert src dst (.slice A n c)).run P w = .ok (.string (strOfNums l)) w := by
  subst hn
  rw [run_convert_bytes_string w src dst e A l.length c hs he hd]
  cases A with
  | none =>
    have : l = [] := by
      cases l with
      | nil => rfl
      | cons x r =>
        obtain ⟨a, ha, _⟩ := h 0 (.int .u8 x) rfl
        cases ha
    subst this
    simp [Conv.bytesToString, strOfNums]
    rfl
  | some a =>
    have hl : (loadCells a l.length).run P w = .ok (l.map (Value.int .u8)).toArray w := by
      have := run_loadCells_list (P := P) w a (l.map (Value.int .u8)) (fun j v hj => by
        obtain ⟨a', ha', hc⟩ := h j v hj
        injection ha' with ha'
        rw [ha']
        exact hc)
      simpa using this
    rw [run_bytesToString w a l.length c l hl, foldl_push_bytes]
    simp [strOfNums, ByteArray.empty, ByteArray.emptyWithCapacity]
    rfl
def csE (P : Program) (c : Code) (N : FN) (env : Env) (k : Nat) : Option (Option Nat × Option Addr × Nat × Nat) := match coreAt c k with
  | some (d, .convert t t' x, _, g) => match guardE c g env, okd d N, ev env x, P.underlying t, P.underlying t' with
    | some true, true, some (.slice A n cap), some (.slice e), some .string => match P.underlying e with
      | some (.int .u8) => some (d, A, n, cap)
      | _ => none
    | _, _, _, _, _ => none
  | _ => none
theorem cs_spec {P : Program} {c : Code} {N : FN} {env : Env} {k : Nat} {d : Option Nat} {A : Option Addr} {n cap : Nat} (h : csE P c N env k = some (d, A, n, cap)) : ∃ t t' x ty g e, coreAt c k = some (d, .convert t t' x, ty, g) ∧ guardE c g env = some true ∧ okd d N = true ∧ ev env x = some (.slice A n cap) ∧ P.underlying t = some (.slice e) ∧ P.underlying e = some (.int .u8) ∧ P.underlying t' = some .string := by
  unfold csE at h
  split at h
  · rename_i h0
    split at h
    · rename_i h1 h2 h3 h4 h5
      split at h
      · rename_i h6
        simp only [Option.some.injEq, Prod.mk.injEq] at h
        obtain ⟨rfl, rfl, rfl, rfl⟩ := h
        exact ⟨_, _, _, _, _, _, h0, h1, h2, h3, h4, h6, h5⟩
      · cases h
    · cases h
  · cases h
section
variable {P : Program} {c : Code} {K : Act → World → Prop} {Q : Exit → Act → World → Prop} {w : World} {k : Nat} {N : FN} {env : Env}
theorem zcs (l : List Int) (A : Option Addr) (n cap : Nat) (hn : l.length = n) (hr : (Res.rd A (l.map (Value.int .u8))).holds w) (h : ∀ a, Fr a N (putE env (dstAt c k) (.string (strOfNums l))) → From P c K Q (k + 1) a w) (hk : csE P c N env k = some (dstAt c k, A, n, cap) := by kernel_rfl) : ∀ a, Fr a N env → From P c K Q k a w := fun a hF => by
  obtain ⟨t, t', x, ty, g, e, h0, h1, h2, h3, h4, h5, h6⟩ := cs_spec hk
  refine From_same h0 hF h1 h2 rfl (fun o ho => ?_) (fun a' _ => h a')
  unfold execOp
  rw [ho]
  simp [hF.ev h3, Sem.run_bind, conv_bytes hn hr h4 h5 h6, Result.andThen_ok]
end
section
variable {P : Program} {c : Code} {Q : Exit → Act → World → Prop} {N : FN} {i : Nat} {env0 : Env} {wr : World} {sp : Nat → Spec}
end
end Go.Mor
namespace Go.Proofs.Ytjekgaabcigphaa
open Go.Mor
theorem num19_c (e : Int) (w : World) :
    Calls Try.prog 10 #[(.int .i64 e)] w (Ret fun v w' => v = .int .i64 e ∧ Mem noS w w' []) := by
 refine zen 4 [(.int .i64 e)] Try.func10 ?_
 have hM := Mem.init w
 refine zsp <| zsp <| zre <| zo1 (.int .i64 e) ?_
 exact ⟨rfl, hM⟩
theorem awake19_d (w : World) :
    Calls Try.prog 9 #[] w (Ret fun v w' => v = .bool (decide (True)) ∧ Mem noS w w' []) := by
 refine zen 38 [] Try.func9 ?_
 have hM := Mem.init w
 refine zsp <| zsr <| zpn 1 ?_
 intro aC fr
 refine zBs 4 44 1 #[(0, (.const (.int .i64 0)))] 44 fr (e := 3) (size := 1) (zs := [(.int .i64 0)]) (vs := [(0, (.int .i64 0))]) (cs := [(.int .i64 0)]) hM ?_
 intro b1 w2 hb1 _ M3 _ aC ea fr; clear ea
 replace M3 := M3.nf
 clear hM
 revert aC
 refine zpn 1 ?_
 intro aC fr
 refine zBs 6 41 2 #[(0, (.tmp 3)), (1, (.tmp 5))] 41 fr (e := 46) (size := 5) (zs := [(.int .i64 0), (.int .i64 0), (.int .i64 0), (.string ⟨#[]⟩), (.slice none 0 0)]) (vs := [(0, (.agg #[(.int .i64 1), (.int .i64 0), (.int .i64 7), (.string ⟨#[]⟩), (.slice none 0 0)])), (1, (.agg #[(.int .i64 10), (.int .i64 (-1)), (.int .i64 0), (.string ⟨#[]⟩), (.slice (sM b1) 1 1)]))]) (cs := [(.int .i64 1), (.int .i64 0), (.int .i64 7), (.string ⟨#[]⟩), (.slice none 0 0), (.int .i64 10), (.int .i64 (-1)), (.int .i64 0), (.string ⟨#[]⟩), (.slice (sM b1) 1 1)]) M3 ?_
 intro b8 w9 hb8 _ M10 _ aC ea fr; clear ea
 replace M10 := M10.nf
 revert aC
 refine zpn 1 ?_
 intro aC fr
 refine zBs 8 22 1 #[(0, (.tmp 7))] 22 fr (e := 43) (size := 6) (zs := [(.slice none 0 0), (.slice none 0 0), (.int .i64 0), (.int .i64 0), (.int .i64 0), (.int .i64 0)]) (vs := [(0, (.agg #[(.slice none 0 0), (.slice (sM b8) 2 2), (.int .i64 2), (.int .i64 (-1)), (.int .i64 0), (.int .i64 0)]))]) (cs := [(.slice none 0 0), (.slice (sM b8) 2 2), (.int .i64 2), (.int .i64 (-1)), (.int .i64 0), (.int .i64 0)]) M10 ?_
 intro b15 w16 hb15 _ M17 _ aC ea fr; clear ea
 replace M17 := M17.nf
 revert aC
 refine zpn 1 <| zal M17 24 [(.string ⟨#[]⟩), (.bool false), (.int .i64 0), (.int .i64 0), (.slice none 0 0)] fun b22 w23 hb22 M24 => ?_
 replace M24 := M24.nf
 refine zss M24 3 [(.string ⟨#[102]⟩), (.bool false), (.int .i64 0), (.int .i64 1), (.slice (sM b15) 1 1)] rfl fun w25 M26 => ?_
 replace M26 := M26.nf
 refine zfe <| zsr <| zls ⟨b22, 0, none⟩ [(.string ⟨#[102]⟩), (.bool false), (.int .i64 0), (.int .i64 1), (.slice (sM b15) 1 1)] (blk_cells (M26.get 3 rfl)) ?_
 intro aC fr
 refine zBs 11 31 1 #[(0, (.tmp 10))] 31 fr (e := 24) (size := 5) (zs := [(.string ⟨#[]⟩), (.bool false), (.int .i64 0), (.int .i64 0), (.slice none 0 0)]) (vs := [(0, (.agg #[(.string ⟨#[102]⟩), (.bool false), (.int .i64 0), (.int .i64 1), (.slice (sM b15) 1 1)]))]) (cs := [(.string ⟨#[102]⟩), (.bool false), (.int .i64 0), (.int .i64 1), (.slice (sM b15) 1 1)]) M26 ?_
 intro b27 w28 hb27 _ M29 _ aC ea fr; clear ea
 replace M29 := M29.nf
 revert aC
 refine zkp [(1, (pT b22 0)), (11, (.slice (sM b27) 1 1))] ?_
 intro aC fr
 refine zBs 12 32 1 #[(0, (.const (.string { data := #[102] })))] 32 fr (e := 9) (size := 1) (zs := [(.string ⟨#[]⟩)]) (vs := [(0, (.string ⟨#[102]⟩))]) (cs := [(.string ⟨#[102]⟩)]) M29 ?_
 intro b34 w35 hb34 _ M36 _ aC ea fr; clear ea
 replace M36 := M36.nf
 revert aC
 refine zcl ((by have h9 := run_c [awF (sM b15) (sM b8) (sM b1)] (sM b27) 1 [awN] (sM b34) 1 10 [] none 0 10 w35 (aw_in (aw_ro (A5 := (sM b1)) (A7 := (sM b8)) (A9 := (sM b15)) (M36.get 0 rfl) (M36.get 1 rfl) (M36.get 2 rfl)) (M36.get 4 rfl) (M36.get 5 rfl)); rw [aw_run] at h9; exact h9)) ?_
 rintro _ w43 ⟨oA41, oc42, rfl, M44x⟩
 have M44 := M36.cl M44x
 refine zal M44 36 [(.int .i64 0), (.int .i64 0), (.slice none 0 0), (.int .i64 0)] fun b45 w46 hb45 M47 => ?_
 replace M47 := M47.nf
 refine zss M47 7 [(.int .i64 1), (.int .i64 0), (.slice oA41 1 oc42), (.int .i64 3)] rfl fun w48 M49 => ?_
 replace M49 := M49.nf
 refine zfe <| zsr <| zls ⟨b22, 0, none⟩ [(.string ⟨#[102]⟩), (.bool false), (.int .i64 0), (.int .i64 1), (.slice (sM b15) 1 1)] (blk_cells (M49.get 3 rfl)) <| zcl ((by have h9 := valid_c awN false 0 1 (sM b15) 1 [awB (sM b8) (sM b1)] w48 (by simp) aw_ok (aw_ro (A5 := (sM b1)) (A7 := (sM b8)) (A9 := (sM b15)) (M49.get 0 rfl) (M49.get 1 rfl) (M49.get 2 rfl)); rw [aw_valid] at h9; exact h9)) ?_
 rintro _ w50 ⟨rfl, M51x⟩
 have M51 := M49.cl M51x
 refine zpn 2 <| zls ⟨b22, 0, none⟩ [(.string ⟨#[102]⟩), (.bool false), (.int .i64 0), (.int .i64 1), (.slice (sM b15) 1 1)] (blk_cells (M51.get 3 rfl)) <| zcl ((by have h9 := size_c awN false 0 1 (sM b15) 1 [awB (sM b8) (sM b1)] w50 (by simp) aw_ok (aw_ro (A5 := (sM b1)) (A7 := (sM b8)) (A9 := (sM b15)) (M51.get 0 rfl) (M51.get 1 rfl) (M51.get 2 rfl)); rw [aw_size] at h9; exact h9)) ?_
 rintro _ w52 ⟨rfl, M53x⟩
 have M53 := M51.cl M53x
 refine zpn 4 <| zld ⟨b45, 0, none⟩ (.int .i64 1) (blk_cell (M53.get 7 rfl) rfl) <| zpn 4 <| zld ⟨b45, 2, none⟩ (.slice oA41 1 oc42) (blk_cell (M53.get 7 rfl) rfl) <| zkp [(2, (pT b45 0)), (27, (.bool true)), (29, (.slice oA41 1 oc42))] <| zcs [7] oA41 1 oc42 rfl (row_rd (M53.get 6 rfl)) <| zpn 3 ?_
 obtain ⟨B54, hB54⟩ : ∃ B : Bool, B = (((strOfNums [7]) : ByteArray).toList == (⟨#[7]⟩ : ByteArray).toList) := ⟨_, rfl⟩
 refine zkp [(2, (pT b45 0)), (33, (.bool (((strOfNums [7]) : ByteArray).toList == (⟨#[7]⟩ : ByteArray).toList)))] ?_
 rw [← hB54]
 have iB54 : B54 = true ↔ (((strOfNums [7])).toList = (⟨#[7]⟩ : ByteArray).toList) := by rw [hB54]; simp only [beq_iff_eq]
 clear hB54
 intro aC fr
 refine zpk 1 21 [34] fr (news := [(34, (cond B54 (pT b45 3) undef))]) (by cases B54 <;> kernel_rfl) ?_
 intro aC fr
 refine From_either (B := B54) (d := (some 35)) (.int .i64 3) fr (by cases B54 <;> kernel_rfl) (fun hB hh => ?_) ?_
 cases B54 <;> first | (exact absurd hB (by decide)) | skip
 have c54 : (((strOfNums [7])).toList = (⟨#[7]⟩ : ByteArray).toList) := iB54.1 rfl
 exact From_ld (some 35) ⟨b45, 3, none⟩ fr (by kernel_rfl) (.int .i64 3) (blk_cell (M53.get 7 rfl) rfl) hh
 intro aC fr
 refine zpk 3 25 [0, 37] fr (news := [(0, (.bool B54)), (37, (.bool B54))]) (by cases B54 <;> kernel_rfl) ?_
 intro aC fr
 revert aC
 refine zfe <| zre <| zo1 (.bool B54) ?_
 have hR : B54 = true ↔ (((strOfNums [7])).toList = (⟨#[7]⟩ : ByteArray).toList) := by simp only [iB54]
 have M63 := M53.od [] 0
 exact ⟨bool_dec hR (⟨fun _ => trivial, fun _ => congrArg ByteArray.toList (rfl : strOfNums [7] = ⟨#[7]⟩)⟩), M63⟩
theorem awake19_c (w : World) : Calls Try.prog 9 #[] w (Ret fun v w' => v = .bool true ∧ Mem noS w w' []) := by
  have h := awake19_d w
  simpa using h
end Go.Proofs.Ytjekgaabcigphaa
namespace Go.Proofs.Ytjekgaabcigphaa
open Go.Mor
theorem great19_c (nm : ByteArray) (wk : Bool) (pa va : Int) (A : Option Addr) (c : Nat) (fs : List FBlk) (w : World) (hok : FOk fs) (hA : RO noS w (.fn A fs)) :
    Calls Try.prog 8 #[(fA nm wk pa va A c fs)] w (Ret fun v w' => v = .bool (decide (greatQ va fs)) ∧ Mem noS w w' []) := by
 have hbl := bsOf_len fs
 have hB := hA.bs
 refine zen 51 [(fA nm wk pa va A c fs)] Try.func8 ?_
 have hM := Mem.init w
 refine zsr <| zbx hM 24 (fA nm wk pa va A c fs) (fV nm wk pa va A c fs) fun b1 w2 hb1 M3 => ?_
 replace M3 := M3.nf
 clear hM
 refine zpn 1 <| zfe <| zsq <| zsr <| zpn 1 <| zld ⟨b1, 4, none⟩ (.slice A ((bsOf fs).length) c) (blk_cell (M3.get 0 rfl) rfl) <| zpn 3 ?_
 obtain ⟨B4, hB4⟩ : ∃ B : Bool, B = decide (((((bsOf fs).length : Nat) : Int) : Int) > 60) := ⟨_, rfl⟩
 refine zkp [(1, (pT b1 0)), (9, (.bool (decide (((((bsOf fs).length : Nat) : Int) : Int) > 60))))] ?_
 rw [← hB4]
 have iB4 : B4 = true ↔ (((((bsOf fs).length : Nat) : Int) : Int) > 60) := by rw [hB4]; simp only [decide_eq_true_eq]
 clear hB4
 intro aC fr
 refine zpk 1 6 [10] fr (news := [(10, (cond (!B4) (pT b1 3) undef))]) (by cases B4 <;> kernel_rfl) ?_
 intro aC fr
 refine From_either (B := (!B4)) (d := (some 11)) (.int .i64 va) fr (by cases B4 <;> kernel_rfl) (fun hB hh => ?_) ?_
 cases B4 <;> first | (exact absurd hB (by decide)) | skip
 have c4 : ¬ (((((bsOf fs).length : Nat) : Int) : Int) > 60) := (fun h => Bool.noConfusion (iB4.2 h) : ¬ (((((bsOf fs).length : Nat) : Int) : Int) > 60))
 exact From_ld (some 11) ⟨b1, 3, none⟩ fr (by kernel_rfl) (.int .i64 va) (blk_cell (M3.get 0 rfl) rfl) hh
 intro aC fr
 refine zpk 2 9 [13] fr (news := [(13, (.bool (B4 || decide ((va : Int) > 3000))))]) (by cases B4 <;> kernel_rfl) ?_
 intro aC fr
 revert aC
 refine zfe <| zcP (B4 || decide ((va : Int) > 3000)) ((((((bsOf fs).length : Nat) : Int) : Int) > 60) ∨ ((va : Int) > 3000)) (by simp only [Bool.or_eq_true, decide_eq_true_eq, iB4]) (fun c13 => ?_) (fun c13 => ?_)
 refine zsr <| zpn 1 <| zld ⟨b1, 3, none⟩ (.int .i64 va) (blk_cell (M3.get 0 rfl) rfl) <| zpn 2 ?_
 obtain ⟨B14, hB14⟩ : ∃ B : Bool, B = decide ((va : Int) ≤ 20000) := ⟨_, rfl⟩
 refine zkp [(1, (pT b1 0)), (17, (.bool (decide ((va : Int) ≤ 20000))))] ?_
 rw [← hB14]
 have iB14 : B14 = true ↔ ((va : Int) ≤ 20000) := by rw [hB14]; simp only [decide_eq_true_eq]
 clear hB14
 intro aC fr
 refine zpk 1 5 [18] fr (news := [(18, (cond (!B14) (pT b1 4) undef))]) (by cases B14 <;> kernel_rfl) ?_
 intro aC fr
 refine From_either (B := (!B14)) (d := (some 19)) (.slice A ((bsOf fs).length) c) fr (by cases B14 <;> kernel_rfl) (fun hB hh => ?_) ?_
 cases B14 <;> first | (exact absurd hB (by decide)) | skip
 have c14 : ¬ ((va : Int) ≤ 20000) := (fun h => Bool.noConfusion (iB14.2 h) : ¬ ((va : Int) ≤ 20000))
 exact From_ld (some 19) ⟨b1, 4, none⟩ fr (by kernel_rfl) (.slice A ((bsOf fs).length) c) (blk_cell (M3.get 0 rfl) rfl) hh
 intro aC fr
 refine zpk 4 10 [2, 22] fr (news := [(2, (.bool (B14 || decide (((((bsOf fs).length : Nat) : Int) : Int) > 60)))), (22, (.bool (B14 || decide (((((bsOf fs).length : Nat) : Int) : Int) > 60))))]) (by cases B14 <;> kernel_rfl) ?_
 intro aC fr
 revert aC
 refine zfe <| zre <| zo1 (.bool (B14 || decide (((((bsOf fs).length : Nat) : Int) : Int) > 60))) ?_
 have hR : (B14 || decide (((((bsOf fs).length : Nat) : Int) : Int) > 60)) = true ↔ (((va : Int) ≤ 20000) ∨ (((((bsOf fs).length : Nat) : Int) : Int) > 60)) := by simp only [Bool.or_eq_true, decide_eq_true_eq, iB14]
 have M23 := M3.od [] 0
 exact ⟨bool_dec hR (by unfold greatQ; omega), M23⟩
 have hl60 : fs.length ≤ 60 := by omega
 refine zsk <| zsp <| zsq <| zsp <| zbk 0 ?_
 intro aC fr
 refine zlp (fun n_ a_ w_ => ∃ (k : Nat), n_ = fs.length - k ∧ Fr a_ 51 [(1, (pT b1 0)), (3, (.int .i64 ((greatTo fs k : Nat) : Int))), (4, (nV k))] ∧ Mem noS w w_ [.blk b1 24 (fV nm wk pa va A c fs)] ∧ (k ≤ fs.length)) (n := _) ⟨0, rfl, fr.kp [1, 3, 4], M3, by omega⟩ ?_
 clear fr aC M3; rintro n aC w26 ⟨k, rfl, fr, M27, hk⟩
 revert aC
 refine zsq <| zsr <| zpn 2 <| zld ⟨b1, 4, none⟩ (.slice A ((bsOf fs).length) c) (blk_cell (M27.get 0 rfl) rfl) <| zpn 2 <| zfe <| zcD (((k : Int) : Int) < (((bsOf fs).length : Nat) : Int)) (fun c30 => ?_) (fun c30 => ?_)
 refine zsk <| zsq <| zbk 1 ?_
 obtain ⟨x, hx⟩ := get_of (l := fs) (i := k) (by omega)
 have hl1 : x.phis.length ≤ 281474976710656 := (hok.get hx).lp
 have hl2 : x.insts.length ≤ 281474976710656 := (hok.get hx).li
 have hgl := greatTo_le fs k hk
 have hgs := greatTo_succ hx
 obtain ⟨ad31, rfl⟩ := blocks_some (M27.ro hB) (bsOf_get hx)
 refine zkp [(1, (pT b1 0)), (3, (.int .i64 ((greatTo fs k : Nat) : Int))), (4, (nV k))] ?_
 intro aC fr
 refine zdr (N := 51) (env0 := [(1, (pT b1 0)), (3, (.int .i64 ((greatTo fs k : Nat) : Int))), (4, (nV k))]) (specAt [.det (.int .i64 ((greatTo fs k : Nat) : Int)), .det (pT b1 4), .det (.slice (some ad31) ((bsOf fs).length) c), .det (nV k), .det (.pointer (some ((ad31 : Addr).add (((k : Int)).toNat * 6)))), .det (.pointer (some ((ad31 : Addr).add (((k : Int)).toNat * 6)))), .det (.slice x.pA x.phis.length x.pc), .det (.int .i64 ((x.phis.length : Nat) : Int)), .det (.int .i64 ((min x.phis.length 5000 : Nat) : Int)), .det (.int .i64 (((greatTo fs k : Nat) : Int) + ((min x.phis.length 5000 : Nat) : Int))), .det (pT b1 4), .det (.slice (some ad31) ((bsOf fs).length) c), .det (nV k), .det (.pointer (some ((ad31 : Addr).add (((k : Int)).toNat * 6)))), .det (.pointer (some (((ad31 : Addr).add (((k : Int)).toNat * 6)).add 1))), .det (.slice x.iA x.insts.length x.ic), .det (.int .i64 ((x.insts.length : Nat) : Int)), .det (.int .i64 ((min x.insts.length 5000 : Nat) : Int)), .det (.int .i64 (((greatTo fs (k + 1) : Nat) : Int))), .det (.int .i64 (((greatTo fs (k + 1) : Nat) : Int)))]) fr (la (la (la (la (la (la (la (la (la (la (la (la (la (la (la (la (la (la (la (la lz dP) dP) (dL ⟨b1, 4, none⟩ (.slice (some ad31) ((bsOf fs).length) c) fun w_ hK => (blk_cell ((M27.then_ hK).get 0 rfl) rfl))) dP) (dI ad31 ((bsOf fs).length) 6 (k : Int))) dP) (dL ((ad31 : Addr).add (((k : Int)).toNat * 6)) (.slice x.pA x.phis.length x.pc) fun w_ hK => (fblk_get ((M27.then_ hK).ro hB) rfl hx 0 _ rfl))) dP) (dMN .i64 ((x.phis.length : Nat) : Int) 5000 ((min x.phis.length 5000 : Nat) : Int) (.tmp 37) (.const (.int .i64 5000)) #[3, 3] 3 none (by split <;> omega))) (dA (((greatTo fs k : Nat) : Int) + ((min x.phis.length 5000 : Nat) : Int)))) dP) (dL ⟨b1, 4, none⟩ (.slice (some ad31) ((bsOf fs).length) c) fun w_ hK => (blk_cell ((M27.then_ hK).get 0 rfl) rfl))) dP) (dI ad31 ((bsOf fs).length) 6 (k : Int))) dP) (dL (((ad31 : Addr).add (((k : Int)).toNat * 6)).add 1) (.slice x.iA x.insts.length x.ic) fun w_ hK => (fblk_get ((M27.then_ hK).ro hB) rfl hx 1 _ rfl))) dP) (dMN .i64 ((x.insts.length : Nat) : Int) 5000 ((min x.insts.length 5000 : Nat) : Int) (.tmp 46) (.const (.int .i64 5000)) #[3, 3] 3 none (by split <;> omega))) ?_) dP) ?_
 intro aa_ w_ vs rest_ hK hp hF
 refine okG (g0 := none) ?_
 replace hF : Fr aa_ 51 [(39, (.int .i64 (((greatTo fs k : Nat) : Int) + ((min x.phis.length 5000 : Nat) : Int)))), (47, (.int .i64 ((min x.insts.length 5000 : Nat) : Int)))] := hF.kp [39, 47]
 refine From_arith (by kernel_rfl : coreAt _ 0 = some (some 48, (.binOp .add 3 (.tmp 39) (.tmp 47) 3), 3, none)) hF (by kernel_rfl) (by kernel_rfl) (k' := 1) rfl (i := (((greatTo fs k : Nat) : Int) + ((min x.phis.length 5000 : Nat) : Int))) (j := ((min x.insts.length 5000 : Nat) : Int)) (z := (((greatTo fs (k + 1) : Nat) : Int))) (by kernel_rfl) (by kernel_rfl) (congrArg some (by omega)) (by omega) (by omega) ?_
 intro a2 ea _
 refine From_end (by kernel_rfl) ?_; exact op_done (d := some 48) (by kernel_rfl) ea (Kp.refl _) rfl
 intro aC w36 vs hK hv fr
 revert aC; refine zkp [(1, (pT b1 0)), (3, (.int .i64 (((greatTo fs (k + 1) : Nat) : Int)))), (4, (nV k))] ?_
 have M37 := M27.then_ hK
 clear hK hv fr aC M27; clear vs
 refine zrg <| zpn 1 <| zar ((k : Int) + 1) <| zpn 1 <| zfe ?_
 intro aC fr
 exact ⟨fs.length - (k + 1), by omega, k + 1, rfl, fr.kp [1, 3, 4], M37, by omega⟩
 refine zex 0 <| zbh <| zsp <| zre <| zo1 (.bool (decide ((((greatTo fs k : Nat) : Int) : Int) > 3000))) ?_
 have hR : decide ((((greatTo fs k : Nat) : Int) : Int) > 3000) = true ↔ ((((greatTo fs k : Nat) : Int) : Int) > 3000) := by simp only [decide_eq_true_eq]
 have M40 := M27.od [] 0
 exact ⟨bool_dec hR (by unfold greatQ; (try rw [show k = fs.length by omega]); omega), M40⟩
end Go.Proofs.Ytjekgaabcigphaa
namespace Go.Mor
section
variable {i : FIns} {lo mo : Int} {bn bm : Bool} {N : Prop}
end
end Go.Mor
namespace Go.Proofs.Ytjekgaabcigphaa
open Go.Mor
end Go.Proofs.Ytjekgaabcigphaa
namespace Go.Proofs.Ytjekgaabcigphaa
open Go.Mor
end Go.Proofs.Ytjekgaabcigphaa
namespace Go.Proofs.Ytjekgaabcigphaa
open Go.Mor
end Go.Proofs.Ytjekgaabcigphaa
namespace Go.Proofs.Ytjekgaabcigphaa
open Go.Mor
theorem valid_n (nm : ByteArray) (wk : Bool) (pa va : Int) (A : Option Addr) (n c : Nat) (fs : List FBlk) (w : World) (hn : (bsOf fs).length = n) (hN : fs.length ≤ 1000) (hok : FOk fs) (hA : RO noS w (.fn A fs)) :
    Calls Try.prog 11 #[.agg #[.string nm, .bool wk, .int .i64 pa, .int .i64 va, .slice A n c]] w (Ret fun v w' => v = .int .i64 (validN nm pa va fs) ∧ Mem noS w w' []) := by
  subst hn
  exact valid_c nm wk pa va A c fs w hN hok hA
theorem ssaOnces_c (nm : ByteArray) (wk : Bool) (pa va : Int) (A : Option Addr) (c : Nat) (fs : List FBlk) (w : World) (hok : FOk fs) (hA : RO noS w (.fn A fs)) :
    Calls Try.prog 5 #[(fA nm wk pa va A c fs)] w (Ret fun v w' => v = .bool true ∧ Mem noS w w' []) := by
 have hbl := bsOf_len fs
 have hB := hA.bs
 refine zen 122 [(fA nm wk pa va A c fs)] Try.func5 ?_
 have hM := Mem.init w
 refine zsr <| zbx hM 24 (fA nm wk pa va A c fs) (fV nm wk pa va A c fs) fun b1 w2 hb1 M3 => ?_
 replace M3 := M3.nf
 clear hM
 refine zpn 1 <| zfe <| zsq <| zsr <| zls ⟨b1, 0, none⟩ (fV nm wk pa va A c fs) (blk_cells (M3.get 0 rfl)) <| zcl (great19_c nm wk pa va A c fs w2 hok (hA.at_ M3)) ?_
 rintro _ w4 ⟨rfl, M5x⟩
 have M5 := M3.cl M5x
 refine zpn 1 ?_
 obtain ⟨B6, hB6⟩ : ∃ B : Bool, B = decide (greatQ va fs) := ⟨_, rfl⟩
 refine zkp [(1, (pT b1 0)), (12, (.bool (decide (greatQ va fs))))] ?_
 rw [← hB6]
 have iB6 : B6 = true ↔ (greatQ va fs) := by rw [hB6]; simp only [decide_eq_true_eq]
 clear hB6
 cases B6
 have c6 : ¬ (greatQ va fs) := (fun h => Bool.noConfusion (iB6.2 h) : ¬ (greatQ va fs))
 have hng : ¬ greatQ va fs := c6
 have hl60 : fs.length ≤ 60 := greatQ_len hng
 refine zls ⟨b1, 0, none⟩ (fV nm wk pa va A c fs) (blk_cells (M5.get 0 rfl)) <| zcl (valid_c nm wk pa va A c fs w4 (by omega) hok (hA.at_ M5)) ?_
 rintro _ w7 ⟨rfl, M8x⟩
 have M8 := M5.cl M8x
 refine zpn 2 <| zfe <| zcP (((validN nm pa va fs) : Int) != 0) (((validN nm pa va fs) : Int) ≠ 0) (by simp only [bne_iff_ne]) (fun c9 => ?_) (fun c9 => ?_)
 refine zsr <| zcl (awake19_c w7) ?_
 rintro _ w10 ⟨rfl, M11x⟩
 have M11 := M8.cl M11x
 refine zpn 1 <| zfe <| zre <| zo1 (.bool true) ?_
 have M12 := M11.od [] 0
 exact ⟨rfl, M12⟩
 have hv0 : validN nm pa va fs = 0 := by omega
 obtain ⟨hgd, hsz, hva2⟩ := valid_gd hv0
 have hpar := hgd.par
 have hpos := hgd.pos
 have hsm := size_small hva2 hng
 obtain ⟨m, hm⟩ : ∃ m, m + 1 = fs.length := ⟨fs.length - 1, by omega⟩
 obtain ⟨x, hx⟩ := get_of (l := fs) (i := m) (by omega)
 have hxl : x.insts.length ≤ 3060 := Nat.le_trans (ins_size hx) hsm.1
 have hv64 : In64 va := by unfold In64; omega
 have hx1 : (x.insts ++ [cI va 1]).length ≤ 3061 := by rw [List.length_append, List.length_singleton]; omega
 have hx2 : (x.insts ++ [cI va 1] ++ [cI va 2]).length ≤ 3062 := by rw [List.length_append, List.length_singleton]; omega
 refine zsk <| zsr <| zls ⟨b1, 0, none⟩ (fV nm wk pa va A c fs) (blk_cells (M8.get 0 rfl)) <| zal M8 24 [(.string ⟨#[]⟩), (.bool false), (.int .i64 0), (.int .i64 0), (.slice none 0 0)] fun b13 w14 hb13 M15 => ?_
 replace M15 := M15.nf
 refine zss M15 1 (fV nm wk pa va A c fs) rfl fun w16 M17 => ?_
 replace M17 := M17.nf
 refine zfe <| zsr ?_
 intro aC fr
 refine From_build0 (by kernel_rfl : coreAt _ 0 = some (some 19, (.buildSlice 22 0 #[]), 22, none)) fr (by kernel_rfl) (by kernel_rfl) (k' := 1) rfl (e := 43) (size := 6) (by kernel_rfl) (by kernel_rfl) M17 ?_
 intro b18 w19 hb18 _ M20 _ aC ea fr; clear ea
 replace M20 := M20.nf
 revert aC
 refine zpn 1 <| zld ⟨b1, 4, none⟩ (.slice A ((bsOf fs).length) c) (blk_cell (M20.get 0 rfl) rfl) ?_
 intro aC fr
 refine From_appendN (by kernel_rfl : coreAt _ 3 = some (some 22, (.call { callee := (.builtin .append), args := #[(.tmp 19), (.tmp 21)], argTypes := #[22, 22] }), 22, none)) fr (by kernel_rfl) (by kernel_rfl) (k' := 4) rfl (e := 43) (size := 6) (bytes := 80) (z := (.agg #[(.slice none 0 0), (.slice none 0 0), (.int .i64 0), (.int .i64 0), (.int .i64 0), (.int .i64 0)])) (by kernel_rfl) (by kernel_rfl) (by kernel_rfl) (by kernel_rfl) (A := (sM b18)) (B := A) (n := 0) (cap := 0) (m := ((bsOf fs).length)) (cap' := c) (xs := []) (news := ((bsOf fs).flatMap SB.cells)) (by kernel_rfl) (by kernel_rfl) M20 2 rfl (bs_rd (M20.ro hB)) (bs_len6 _) (bs_one _) (by omega) (by simp only [maxLen]; omega) ((bsOf fs).length) ((bsOf fs).flatMap SB.cells) (by omega) rfl ?_
 intro A25 c26 w27 M28 _ aC ea fr; clear ea
 replace M28 := M28.nf
 revert aC
 refine zpn 1 <| zsb (ho := (by simp)) M28 1 4 (.slice A25 ((bsOf fs).length) c26) rfl fun w33 M34 => ?_
 replace M34 := M34.nf
 refine zkp [(1, (pT b1 0)), (3, (pT b13 0))] <| zfe <| zsr <| zpn 1 <| zld ⟨b13, 4, none⟩ (.slice A25 ((bsOf fs).length) c26) (blk_cell (M34.get 1 rfl) rfl) <| zpn 1 ?_
 intro aC fr
 refine From_ar (some 27) ((m : Nat) : Int) fr (z0 := (((bsOf fs).length : Nat) : Int) - 1) (by kernel_rfl) (by omega) (by omega) (by omega) ?_
 intro aC fr
 revert aC
 refine zpn 1 <| zfe <| zsr <| zpn 1 <| zld ⟨b13, 4, none⟩ (.slice A25 ((bsOf fs).length) c26) (blk_cell (M34.get 1 rfl) rfl) <| zpn 1 ?_
 obtain ⟨g40, rfl⟩ := row_some (M34.get 2 rfl) (by omega)
 refine zix ⟨g40, 0, none⟩ ((bsOf fs).length) 6 ((m : Nat) : Int) <| zls ((⟨g40, 0, none⟩ : Addr).add ((((m : Nat) : Int)).toNat * 6)) (xV x) (fblk_get (blocks_row (M34.get 2 rfl)) rfl hx) <| zal M34 43 [(.slice none 0 0), (.slice none 0 0), (.int .i64 0), (.int .i64 0), (.int .i64 0), (.int .i64 0)] fun b41 w42 hb41 M43 => ?_
 replace M43 := M43.nf
 refine zss M43 3 (xV x) rfl fun w44 M45 => ?_
 replace M45 := M45.nf
 refine zkp [(1, (pT b1 0)), (3, (pT b13 0)), (4, (.int .i64 ((m : Nat) : Int))), (5, (pT b41 0))] <| zfe <| zsr ?_
 intro aC fr
 refine From_build0 (by kernel_rfl : coreAt _ 0 = some (some 33, (.buildSlice 41 0 #[]), 41, none)) fr (by kernel_rfl) (by kernel_rfl) (k' := 1) rfl (e := 46) (size := 5) (by kernel_rfl) (by kernel_rfl) M45 ?_
 intro b46 w47 hb46 _ M48 _ aC ea fr; clear ea
 replace M48 := M48.nf
 revert aC
 refine zpn 1 <| zld ⟨b41, 1, none⟩ (.slice x.iA x.insts.length x.ic) (blk_cell (M48.get 3 rfl) rfl) ?_
 intro aC fr
 refine From_appendN (by kernel_rfl : coreAt _ 3 = some (some 36, (.call { callee := (.builtin .append), args := #[(.tmp 33), (.tmp 35)], argTypes := #[41, 41] }), 41, none)) fr (by kernel_rfl) (by kernel_rfl) (k' := 4) rfl (e := 46) (size := 5) (bytes := 64) (z := (.agg #[(.int .i64 0), (.int .i64 0), (.int .i64 0), (.string ⟨#[]⟩), (.slice none 0 0)])) (by kernel_rfl) (by kernel_rfl) (by kernel_rfl) (by kernel_rfl) (A := (sM b46)) (B := x.iA) (n := 0) (cap := 0) (m := x.insts.length) (cap' := x.ic) (xs := []) (news := (x.insts.flatMap FIns.cells)) (by kernel_rfl) (by kernel_rfl) M48 4 rfl (ins_rd (fn_rds (hA.at_ M48) hx)) (ins_len5 _) (ins_one _) (by omega) (by simp only [maxLen]; omega) x.insts.length (x.insts.flatMap FIns.cells) (by omega) rfl ?_
 intro A53 c54 w55 M56 _ aC ea fr; clear ea
 replace M56 := M56.nf
 revert aC
 refine zpn 1 <| zsb (ho := (by simp)) M56 3 1 (.slice A53 x.insts.length c54) rfl fun w61 M62 => ?_
 replace M62 := M62.nf
 refine zfe <| zsr <| zpn 1 <| zld ⟨b41, 1, none⟩ (.slice A53 x.insts.length c54) (blk_cell (M62.get 3 rfl) rfl) <| zpn 1 <| zld ⟨b1, 3, none⟩ (.int .i64 va) (blk_cell (M62.get 0 rfl) rfl) <| zpn 1 ?_
 intro aC fr
 refine zBs 43 41 1 #[(0, (.tmp 42))] 41 fr (e := 46) (size := 5) (zs := [(.int .i64 0), (.int .i64 0), (.int .i64 0), (.string ⟨#[]⟩), (.slice none 0 0)]) (vs := [(0, (.agg #[(.int .i64 1), (.int .i64 va), (.int .i64 1), (.string ⟨#[]⟩), (.slice none 0 0)]))]) (cs := [(.int .i64 1), (.int .i64 va), (.int .i64 1), (.string ⟨#[]⟩), (.slice none 0 0)]) M62 ?_
 intro b63 w64 hb63 _ M65 _ aC ea fr; clear ea
 replace M65 := M65.nf
 revert aC
 refine zkp [(1, (pT b1 0)), (3, (pT b13 0)), (4, (.int .i64 ((m : Nat) : Int))), (5, (pT b41 0)), (39, (.slice A53 x.insts.length c54)), (43, (.slice (sM b63) 1 1))] ?_
 intro aC fr
 refine From_appendN (by kernel_rfl : coreAt _ 6 = some (some 44, (.call { callee := (.builtin .append), args := #[(.tmp 39), (.tmp 43)], argTypes := #[41, 41] }), 41, none)) fr (by kernel_rfl) (by kernel_rfl) (k' := 7) rfl (e := 46) (size := 5) (bytes := 64) (z := (.agg #[(.int .i64 0), (.int .i64 0), (.int .i64 0), (.string ⟨#[]⟩), (.slice none 0 0)])) (by kernel_rfl) (by kernel_rfl) (by kernel_rfl) (by kernel_rfl) (A := A53) (B := (sM b63)) (n := x.insts.length) (cap := c54) (m := 1) (cap' := 1) (xs := (x.insts.flatMap FIns.cells)) (news := [(.int .i64 1), (.int .i64 va), (.int .i64 1), (.string ⟨#[]⟩), (.slice none 0 0)]) (by kernel_rfl) (by kernel_rfl) M65 4 rfl (row_rd (M65.get 5 rfl)) rfl (by simp [Value.oneCell']) (by omega) (by simp only [maxLen]; omega) ((x.insts ++ [cI va 1]).length) ((x.insts ++ [cI va 1]).flatMap FIns.cells) (by simp) (ins_snoc x.insts (cI va 1)) ?_
 intro A70 c71 w72 M73 _ aC ea fr; clear ea
 replace M73 := M73.nf
 have M78 := M73.od [4, 4, 4, 4, 4] 5
 revert aC
 refine zpn 1 <| zsb (ho := (by simp)) M78 3 1 (.slice A70 ((x.insts ++ [cI va 1]).length) c71) rfl fun w79 M80 => ?_
 replace M80 := M80.nf
 refine zfe <| zsr <| zpn 1 <| zld ⟨b13, 4, none⟩ (.slice (sM g40) ((bsOf fs).length) c26) (blk_cell (M80.get 1 rfl) rfl) <| zpn 1 <| zls ⟨b41, 0, none⟩ [(.slice x.pA x.phis.length x.pc), (.slice A70 ((x.insts ++ [cI va 1]).length) c71), (.int .i64 x.e), (.int .i64 x.v), (.int .i64 x.a), (.int .i64 x.b)] (blk_cells (M80.get 3 rfl)) <| zix ⟨g40, 0, none⟩ ((bsOf fs).length) 6 ((m : Nat) : Int) ?_
 intro aC fr
 refine From_storeS_row (by kernel_rfl : coreAt _ 5 = some (none, (.store 43 (.tmp 50) (.tmp 49)), 0, none)) fr (by kernel_rfl) (by kernel_rfl) (k' := 6) rfl (ad := (⟨g40, 0, none⟩ : Addr)) (j := ((((m : Nat) : Int)).toNat * 6)) (e := 43) (size := 6) (n := ((bsOf fs).length)) (cap := c26) (vs := [(.slice x.pA x.phis.length x.pc), (.slice A70 ((x.insts ++ [cI va 1]).length) c71), (.int .i64 x.e), (.int .i64 x.v), (.int .i64 x.a), (.int .i64 x.b)]) (xs := ((bsOf fs).flatMap SB.cells)) (ad' := ((⟨g40, 0, none⟩ : Addr).add ((((m : Nat) : Int)).toNat * 6))) (by kernel_rfl) rfl (by kernel_rfl) (by kernel_rfl) (by simp only [List.mem_cons, List.not_mem_nil, or_false]; intro v hv; rcases hv with rfl | rfl | rfl | rfl | rfl | rfl <;> rfl) M80 2 rfl (by simp only [List.length_cons, List.length_nil]; omega) ?_
 intro w81 M82 _ aC ea fr; clear ea
 replace M82 := M82.nf
 have M87 : Mem noS w w81 [.blk b1 24 (fV nm wk pa va A c fs), .blk b13 24 [(.string nm), (.bool wk), (.int .i64 pa), (.int .i64 va), (.slice (sM g40) ((bsOf fs).length) c26)], .row 43 6 (sM g40) ((bsOf fs).length) c26 ((bsOf (fs.set m (x.wi A70 c71 (x.insts ++ [cI va 1])))).flatMap SB.cells), .blk b41 43 [(.slice x.pA x.phis.length x.pc), (.slice A70 ((x.insts ++ [cI va 1]).length) c71), (.int .i64 x.e), (.int .i64 x.v), (.int .i64 x.a), (.int .i64 x.b)], .row 46 5 A70 ((x.insts ++ [cI va 1]).length) c71 ((x.insts ++ [cI va 1]).flatMap FIns.cells)] := M82.cast (congrArg (fun z_ => ([.blk b1 24 (fV nm wk pa va A c fs), .blk b13 24 [(.string nm), (.bool wk), (.int .i64 pa), (.int .i64 va), (.slice (sM g40) ((bsOf fs).length) c26)], .row 43 6 (sM g40) ((bsOf fs).length) c26 z_, .blk b41 43 [(.slice x.pA x.phis.length x.pc), (.slice A70 ((x.insts ++ [cI va 1]).length) c71), (.int .i64 x.e), (.int .i64 x.v), (.int .i64 x.a), (.int .i64 x.b)], .row 46 5 A70 ((x.insts ++ [cI va 1]).length) c71 ((x.insts ++ [cI va 1]).flatMap FIns.cells)] : List Res)) (setAt_bs (m := m) (by omega) (x.wi A70 c71 (x.insts ++ [cI va 1]))))
 revert aC
 refine zfe <| zsr <| zpn 1 <| zld ⟨b1, 3, none⟩ (.int .i64 va) (blk_cell (M87.get 0 rfl) rfl) <| zar (va + 1) <| zkp [(1, (pT b1 0)), (3, (pT b13 0)), (4, (.int .i64 ((m : Nat) : Int))), (5, (pT b41 0)), (53, (.int .i64 (va + 1)))] <| zpn 1 <| zsb (ho := (by simp)) M87 1 3 (.int .i64 (va + 1)) rfl fun w88 M89 => ?_
 replace M89 := M89.nf
 refine zfe <| zsr ?_
 have hgok : FOk (fs.set m (x.wi A70 c71 (x.insts ++ [cI va 1]))) := set_ok hok hx (by unfold LenOk; omega) (more_ok (hok.get hx).insts (one_ok (cI_ok hv64 (by simp [In64]))))
 have hgl : (fs.set m (x.wi A70 c71 (x.insts ++ [cI va 1]))).length = fs.length := List.length_set
 have hone := one_more (iA := A70) (ic := c71) hx hm hv0 hng
 refine zls ⟨b13, 0, none⟩ [(.string nm), (.bool wk), (.int .i64 pa), (.int .i64 (va + 1)), (.slice (sM g40) ((bsOf fs).length) c26)] (blk_cells (M89.get 1 rfl)) <| zcl ((by have h9 := valid_n nm wk pa (va + 1) (sM g40) ((bsOf fs).length) c26 (fs.set m (x.wi A70 c71 (x.insts ++ [cI va 1]))) w88 (by rw [bsOf_len, List.length_set, hbl]) (by omega) hgok (set_ro (hA.at_ M89) hx (blocks_row (M89.get 2 rfl)) (ins_row (M89.get 4 rfl)) (more_rd (fn_insts (hA.at_ M89) hx) cI_rd)); rw [hone] at h9; exact h9)) ?_
 rintro _ w90 ⟨rfl, M91x⟩
 have M91 := M89.cl M91x
 refine zcl (num19_c 0 w90) ?_
 rintro _ w92 ⟨rfl, M93x⟩
 have M93 := M91.cl M93x
 refine zpn 2 <| zfe <| zsr <| zls ⟨b13, 0, none⟩ [(.string nm), (.bool wk), (.int .i64 pa), (.int .i64 (va + 1)), (.slice (sM g40) ((bsOf fs).length) c26)] (blk_cells (M93.get 1 rfl)) <| zal M93 24 [(.string ⟨#[]⟩), (.bool false), (.int .i64 0), (.int .i64 0), (.slice none 0 0)] fun b94 w95 hb94 M96 => ?_
 replace M96 := M96.nf
 refine zss M96 5 [(.string nm), (.bool wk), (.int .i64 pa), (.int .i64 (va + 1)), (.slice (sM g40) ((bsOf fs).length) c26)] rfl fun w97 M98 => ?_
 replace M98 := M98.nf
 refine zfe <| zsr ?_
 intro aC fr
 refine From_build0 (by kernel_rfl : coreAt _ 0 = some (some 60, (.buildSlice 22 0 #[]), 22, none)) fr (by kernel_rfl) (by kernel_rfl) (k' := 1) rfl (e := 43) (size := 6) (by kernel_rfl) (by kernel_rfl) M98 ?_
 intro b99 w100 hb99 _ M101 _ aC ea fr; clear ea
 replace M101 := M101.nf
 revert aC
 refine zpn 1 <| zld ⟨b13, 4, none⟩ (.slice (sM g40) ((bsOf fs).length) c26) (blk_cell (M101.get 1 rfl) rfl) <| zkp [(1, (pT b1 0)), (3, (pT b13 0)), (4, (.int .i64 ((m : Nat) : Int))), (5, (pT b41 0)), (6, (.bool true)), (7, (pT b94 0)), (60, (.slice (sM b99) 0 0)), (62, (.slice (sM g40) ((bsOf fs).length) c26))] ?_
 intro aC fr
 refine From_appendN (by kernel_rfl : coreAt _ 3 = some (some 63, (.call { callee := (.builtin .append), args := #[(.tmp 60), (.tmp 62)], argTypes := #[22, 22] }), 22, none)) fr (by kernel_rfl) (by kernel_rfl) (k' := 4) rfl (e := 43) (size := 6) (bytes := 80) (z := (.agg #[(.slice none 0 0), (.slice none 0 0), (.int .i64 0), (.int .i64 0), (.int .i64 0), (.int .i64 0)])) (by kernel_rfl) (by kernel_rfl) (by kernel_rfl) (by kernel_rfl) (A := (sM b99)) (B := (sM g40)) (n := 0) (cap := 0) (m := ((bsOf fs).length)) (cap' := c26) (xs := []) (news := ((bsOf (fs.set m (x.wi A70 c71 (x.insts ++ [cI va 1])))).flatMap SB.cells)) (by kernel_rfl) (by kernel_rfl) M101 6 rfl (row_rd (M101.get 2 rfl)) (by rw [bs_len6, bsOf_len, hgl, hbl]) (bs_one _) (by omega) (by simp only [maxLen]; omega) ((bsOf fs).length) ((bsOf (fs.set m (x.wi A70 c71 (x.insts ++ [cI va 1])))).flatMap SB.cells) (by omega) rfl ?_
 intro A106 c107 w108 M109 _ aC ea fr; clear ea
 replace M109 := M109.nf
 revert aC
 refine zpn 1 <| zsb (ho := (by simp)) M109 5 4 (.slice A106 ((bsOf fs).length) c107) rfl fun w114 M115 => ?_
 replace M115 := M115.nf
 refine zfe <| zsr ?_
 intro aC fr
 refine From_build0 (by kernel_rfl : coreAt _ 0 = some (some 65, (.buildSlice 41 0 #[]), 41, none)) fr (by kernel_rfl) (by kernel_rfl) (k' := 1) rfl (e := 46) (size := 5) (by kernel_rfl) (by kernel_rfl) M115 ?_
 intro b116 w117 hb116 _ M118 _ aC ea fr; clear ea
 replace M118 := M118.nf
 revert aC
 refine zpn 1 <| zld ⟨b41, 1, none⟩ (.slice A70 ((x.insts ++ [cI va 1]).length) c71) (blk_cell (M118.get 3 rfl) rfl) ?_
 intro aC fr
 refine From_appendN (by kernel_rfl : coreAt _ 3 = some (some 68, (.call { callee := (.builtin .append), args := #[(.tmp 65), (.tmp 67)], argTypes := #[41, 41] }), 41, none)) fr (by kernel_rfl) (by kernel_rfl) (k' := 4) rfl (e := 46) (size := 5) (bytes := 64) (z := (.agg #[(.int .i64 0), (.int .i64 0), (.int .i64 0), (.string ⟨#[]⟩), (.slice none 0 0)])) (by kernel_rfl) (by kernel_rfl) (by kernel_rfl) (by kernel_rfl) (A := (sM b116)) (B := A70) (n := 0) (cap := 0) (m := ((x.insts ++ [cI va 1]).length)) (cap' := c71) (xs := []) (news := ((x.insts ++ [cI va 1]).flatMap FIns.cells)) (by kernel_rfl) (by kernel_rfl) M118 7 rfl (row_rd (M118.get 4 rfl)) (ins_len5 _) (ins_one _) (by omega) (by simp only [maxLen]; omega) ((x.insts ++ [cI va 1]).length) ((x.insts ++ [cI va 1]).flatMap FIns.cells) (by omega) rfl ?_
 intro A123 c124 w125 M126 _ aC ea fr; clear ea
 replace M126 := M126.nf
 revert aC
 refine zpn 1 <| zsb (ho := (by simp)) M126 3 1 (.slice A123 ((x.insts ++ [cI va 1]).length) c124) rfl fun w131 M132 => ?_
 replace M132 := M132.nf
 refine zfe <| zsr <| zpn 1 <| zld ⟨b41, 1, none⟩ (.slice A123 ((x.insts ++ [cI va 1]).length) c124) (blk_cell (M132.get 3 rfl) rfl) <| zpn 1 <| zld ⟨b1, 3, none⟩ (.int .i64 va) (blk_cell (M132.get 0 rfl) rfl) <| zkp [(1, (pT b1 0)), (3, (pT b13 0)), (4, (.int .i64 ((m : Nat) : Int))), (5, (pT b41 0)), (6, (.bool true)), (7, (pT b94 0)), (71, (.slice A123 ((x.insts ++ [cI va 1]).length) c124)), (73, (.int .i64 va))] <| zpn 1 ?_
 intro aC fr
 refine zBs 75 41 1 #[(0, (.tmp 74))] 41 fr (e := 46) (size := 5) (zs := [(.int .i64 0), (.int .i64 0), (.int .i64 0), (.string ⟨#[]⟩), (.slice none 0 0)]) (vs := [(0, (.agg #[(.int .i64 1), (.int .i64 va), (.int .i64 2), (.string ⟨#[]⟩), (.slice none 0 0)]))]) (cs := [(.int .i64 1), (.int .i64 va), (.int .i64 2), (.string ⟨#[]⟩), (.slice none 0 0)]) M132 ?_
 intro b133 w134 hb133 _ M135 _ aC ea fr; clear ea
 replace M135 := M135.nf
 refine From_appendN (by kernel_rfl : coreAt _ 6 = some (some 76, (.call { callee := (.builtin .append), args := #[(.tmp 71), (.tmp 75)], argTypes := #[41, 41] }), 41, none)) fr (by kernel_rfl) (by kernel_rfl) (k' := 7) rfl (e := 46) (size := 5) (bytes := 64) (z := (.agg #[(.int .i64 0), (.int .i64 0), (.int .i64 0), (.string ⟨#[]⟩), (.slice none 0 0)])) (by kernel_rfl) (by kernel_rfl) (by kernel_rfl) (by kernel_rfl) (A := A123) (B := (sM b133)) (n := ((x.insts ++ [cI va 1]).length)) (cap := c124) (m := 1) (cap' := 1) (xs := ((x.insts ++ [cI va 1]).flatMap FIns.cells)) (news := [(.int .i64 1), (.int .i64 va), (.int .i64 2), (.string ⟨#[]⟩), (.slice none 0 0)]) (by kernel_rfl) (by kernel_rfl) M135 7 rfl (row_rd (M135.get 8 rfl)) rfl (by simp [Value.oneCell']) (by omega) (by simp only [maxLen]; omega) ((x.insts ++ [cI va 1] ++ [cI va 2]).length) ((x.insts ++ [cI va 1] ++ [cI va 2]).flatMap FIns.cells) (by simp) (ins_snoc (x.insts ++ [cI va 1]) (cI va 2)) ?_
 intro A140 c141 w142 M143 _ aC ea fr; clear ea
 replace M143 := M143.nf
 have M146 := M143.od [7, 7, 7, 7, 7, 7, 7, 7] 8
 revert aC
 refine zpn 1 <| zsb (ho := (by simp)) M146 3 1 (.slice A140 ((x.insts ++ [cI va 1] ++ [cI va 2]).length) c141) rfl fun w147 M148 => ?_
 replace M148 := M148.nf
 refine zfe <| zsr <| zpn 1 <| zld ⟨b94, 4, none⟩ (.slice A106 ((bsOf fs).length) c107) (blk_cell (M148.get 5 rfl) rfl) <| zpn 1 <| zls ⟨b41, 0, none⟩ [(.slice x.pA x.phis.length x.pc), (.slice A140 ((x.insts ++ [cI va 1] ++ [cI va 2]).length) c141), (.int .i64 x.e), (.int .i64 x.v), (.int .i64 x.a), (.int .i64 x.b)] (blk_cells (M148.get 3 rfl)) ?_
 obtain ⟨g150, rfl⟩ := row_some (M148.get 6 rfl) (by omega)
 refine zix ⟨g150, 0, none⟩ ((bsOf fs).length) 6 ((m : Nat) : Int) ?_
 intro aC fr
 refine From_storeS_row (by kernel_rfl : coreAt _ 5 = some (none, (.store 43 (.tmp 82) (.tmp 81)), 0, none)) fr (by kernel_rfl) (by kernel_rfl) (k' := 6) rfl (ad := (⟨g150, 0, none⟩ : Addr)) (j := ((((m : Nat) : Int)).toNat * 6)) (e := 43) (size := 6) (n := ((bsOf fs).length)) (cap := c107) (vs := [(.slice x.pA x.phis.length x.pc), (.slice A140 ((x.insts ++ [cI va 1] ++ [cI va 2]).length) c141), (.int .i64 x.e), (.int .i64 x.v), (.int .i64 x.a), (.int .i64 x.b)]) (xs := ((bsOf (fs.set m (x.wi A70 c71 (x.insts ++ [cI va 1])))).flatMap SB.cells)) (ad' := ((⟨g150, 0, none⟩ : Addr).add ((((m : Nat) : Int)).toNat * 6))) (by kernel_rfl) rfl (by kernel_rfl) (by kernel_rfl) (by simp only [List.mem_cons, List.not_mem_nil, or_false]; intro v hv; rcases hv with rfl | rfl | rfl | rfl | rfl | rfl <;> rfl) M148 6 rfl (by simp only [List.length_cons, List.length_nil]; omega) ?_
 intro w151 M152 _ aC ea fr; clear ea
 replace M152 := M152.nf
 have M157 : Mem noS w w151 [.blk b1 24 (fV nm wk pa va A c fs), .blk b13 24 [(.string nm), (.bool wk), (.int .i64 pa), (.int .i64 (va + 1)), (.slice (sM g40) ((bsOf fs).length) c26)], .row 43 6 (sM g40) ((bsOf fs).length) c26 ((bsOf (fs.set m (x.wi A70 c71 (x.insts ++ [cI va 1])))).flatMap SB.cells), .blk b41 43 [(.slice x.pA x.phis.length x.pc), (.slice A140 ((x.insts ++ [cI va 1] ++ [cI va 2]).length) c141), (.int .i64 x.e), (.int .i64 x.v), (.int .i64 x.a), (.int .i64 x.b)], .row 46 5 A70 ((x.insts ++ [cI va 1]).length) c71 ((x.insts ++ [cI va 1]).flatMap FIns.cells), .blk b94 24 [(.string nm), (.bool wk), (.int .i64 pa), (.int .i64 (va + 1)), (.slice (sM g150) ((bsOf fs).length) c107)], .row 43 6 (sM g150) ((bsOf fs).length) c107 ((bsOf (fs.set m (x.wi A140 c141 (x.insts ++ [cI va 1] ++ [cI va 2])))).flatMap SB.cells), .row 46 5 A140 ((x.insts ++ [cI va 1] ++ [cI va 2]).length) c141 ((x.insts ++ [cI va 1] ++ [cI va 2]).flatMap FIns.cells)] := M152.cast (congrArg (fun z_ => ([.blk b1 24 (fV nm wk pa va A c fs), .blk b13 24 [(.string nm), (.bool wk), (.int .i64 pa), (.int .i64 (va + 1)), (.slice (sM g40) ((bsOf fs).length) c26)], .row 43 6 (sM g40) ((bsOf fs).length) c26 ((bsOf (fs.set m (x.wi A70 c71 (x.insts ++ [cI va 1])))).flatMap SB.cells), .blk b41 43 [(.slice x.pA x.phis.length x.pc), (.slice A140 ((x.insts ++ [cI va 1] ++ [cI va 2]).length) c141), (.int .i64 x.e), (.int .i64 x.v), (.int .i64 x.a), (.int .i64 x.b)], .row 46 5 A70 ((x.insts ++ [cI va 1]).length) c71 ((x.insts ++ [cI va 1]).flatMap FIns.cells), .blk b94 24 [(.string nm), (.bool wk), (.int .i64 pa), (.int .i64 (va + 1)), (.slice (sM g150) ((bsOf fs).length) c107)], .row 43 6 (sM g150) ((bsOf fs).length) c107 z_, .row 46 5 A140 ((x.insts ++ [cI va 1] ++ [cI va 2]).length) c141 ((x.insts ++ [cI va 1] ++ [cI va 2]).flatMap FIns.cells)] : List Res)) ((setAt_bs (l := (fs.set m (x.wi A70 c71 (x.insts ++ [cI va 1])))) (m := m) (by omega) (x.wi A140 c141 (x.insts ++ [cI va 1] ++ [cI va 2]))).trans (by rw [List.set_set])))
 revert aC
 refine zfe <| zsr <| zls ⟨b13, 0, none⟩ [(.string nm), (.bool wk), (.int .i64 pa), (.int .i64 (va + 1)), (.slice (sM g40) ((bsOf fs).length) c26)] (blk_cells (M157.get 1 rfl)) <| zkp [(1, (pT b1 0)), (3, (pT b13 0)), (6, (.bool true)), (7, (pT b94 0)), (83, (.agg #[(.string nm), (.bool wk), (.int .i64 pa), (.int .i64 (va + 1)), (.slice (sM g40) ((bsOf fs).length) c26)]))] <| zal M157 24 [(.string ⟨#[]⟩), (.bool false), (.int .i64 0), (.int .i64 0), (.slice none 0 0)] fun b158 w159 hb158 M160 => ?_
 replace M160 := M160.nf
 refine zss M160 8 [(.string nm), (.bool wk), (.int .i64 pa), (.int .i64 (va + 1)), (.slice (sM g40) ((bsOf fs).length) c26)] rfl fun w161 M162 => ?_
 replace M162 := M162.nf
 refine zfe <| zsr ?_
 intro aC fr
 refine From_build0 (by kernel_rfl : coreAt _ 0 = some (some 84, (.buildSlice 22 0 #[]), 22, none)) fr (by kernel_rfl) (by kernel_rfl) (k' := 1) rfl (e := 43) (size := 6) (by kernel_rfl) (by kernel_rfl) M162 ?_
 intro b163 w164 hb163 _ M165 _ aC ea fr; clear ea
 replace M165 := M165.nf
 revert aC
 refine zpn 1 <| zld ⟨b13, 4, none⟩ (.slice (sM g40) ((bsOf fs).length) c26) (blk_cell (M165.get 1 rfl) rfl) ?_
 intro aC fr
 refine From_appendN (by kernel_rfl : coreAt _ 3 = some (some 87, (.call { callee := (.builtin .append), args := #[(.tmp 84), (.tmp 86)], argTypes := #[22, 22] }), 22, none)) fr (by kernel_rfl) (by kernel_rfl) (k' := 4) rfl (e := 43) (size := 6) (bytes := 80) (z := (.agg #[(.slice none 0 0), (.slice none 0 0), (.int .i64 0), (.int .i64 0), (.int .i64 0), (.int .i64 0)])) (by kernel_rfl) (by kernel_rfl) (by kernel_rfl) (by kernel_rfl) (A := (sM b163)) (B := (sM g40)) (n := 0) (cap := 0) (m := ((bsOf fs).length)) (cap' := c26) (xs := []) (news := ((bsOf (fs.set m (x.wi A70 c71 (x.insts ++ [cI va 1])))).flatMap SB.cells)) (by kernel_rfl) (by kernel_rfl) M165 9 rfl (row_rd (M165.get 2 rfl)) (by rw [bs_len6, bsOf_len, hgl, hbl]) (bs_one _) (by omega) (by simp only [maxLen]; omega) ((bsOf fs).length) ((bsOf (fs.set m (x.wi A70 c71 (x.insts ++ [cI va 1])))).flatMap SB.cells) (by omega) rfl ?_
 intro A170 c171 w172 M173 _ aC ea fr; clear ea
 replace M173 := M173.nf
 revert aC
 refine zpn 1 <| zsb (ho := (by simp)) M173 8 4 (.slice A170 ((bsOf fs).length) c171) rfl fun w178 M179 => ?_
 replace M179 := M179.nf
 refine zfe <| zsr ?_
 obtain ⟨y, hy⟩ := get_of (l := (fs.set m (x.wi A70 c71 (x.insts ++ [cI va 1])))) (i := 0) (by omega)
 have hyl := one_size hx hm hv0 hng hy
 refine zpn 1 <| zld ⟨b158, 4, none⟩ (.slice A170 ((bsOf fs).length) c171) (blk_cell (M179.get 8 rfl) rfl) ?_
 obtain ⟨g181, rfl⟩ := row_some (M179.get 9 rfl) (by omega)
 refine zix ⟨g181, 0, none⟩ ((bsOf fs).length) 6 0 <| zls ((⟨g181, 0, none⟩ : Addr).add ((0 : Int).toNat * 6)) (xV y) (fblk_get (blocks_row (M179.get 9 rfl)) rfl hy) <| zkp [(1, (pT b1 0)), (6, (.bool true)), (7, (pT b94 0)), (8, (pT b158 0)), (92, (xA y))] <| zal M179 43 [(.slice none 0 0), (.slice none 0 0), (.int .i64 0), (.int .i64 0), (.int .i64 0), (.int .i64 0)] fun b182 w183 hb182 M184 => ?_
 replace M184 := M184.nf
 refine zss M184 10 (xV y) rfl fun w185 M186 => ?_
 replace M186 := M186.nf
 refine zfe <| zsr <| zpn 1 <| zld ⟨b1, 3, none⟩ (.int .i64 va) (blk_cell (M186.get 0 rfl) rfl) ?_
 intro aC fr
 refine zBs 95 44 1 #[(0, (.tmp 94))] 44 fr (e := 3) (size := 1) (zs := [(.int .i64 0)]) (vs := [(0, (.int .i64 va))]) (cs := [(.int .i64 va)]) M186 ?_
 intro b187 w188 hb187 _ M189 _ aC ea fr; clear ea
 replace M189 := M189.nf
 revert aC
 refine zpn 1 ?_
 intro aC fr
 refine zBs 97 41 1 #[(0, (.tmp 96))] 41 fr (e := 46) (size := 5) (zs := [(.int .i64 0), (.int .i64 0), (.int .i64 0), (.string ⟨#[]⟩), (.slice none 0 0)]) (vs := [(0, (.agg #[(.int .i64 10), (.int .i64 (-1)), (.int .i64 0), (.string ⟨#[]⟩), (.slice (sM b187) 1 1)]))]) (cs := [(.int .i64 10), (.int .i64 (-1)), (.int .i64 0), (.string ⟨#[]⟩), (.slice (sM b187) 1 1)]) M189 ?_
 intro b194 w195 hb194 _ M196 _ aC ea fr; clear ea
 replace M196 := M196.nf
 revert aC
 refine zpn 1 <| zld ⟨b182, 1, none⟩ (.slice y.iA y.insts.length y.ic) (blk_cell (M196.get 10 rfl) rfl) ?_
 intro aC fr
 refine From_appendN (by kernel_rfl : coreAt _ 7 = some (some 100, (.call { callee := (.builtin .append), args := #[(.tmp 97), (.tmp 99)], argTypes := #[41, 41] }), 41, none)) fr (by kernel_rfl) (by kernel_rfl) (k' := 8) rfl (e := 46) (size := 5) (bytes := 64) (z := (.agg #[(.int .i64 0), (.int .i64 0), (.int .i64 0), (.string ⟨#[]⟩), (.slice none 0 0)])) (by kernel_rfl) (by kernel_rfl) (by kernel_rfl) (by kernel_rfl) (A := (sM b194)) (B := y.iA) (n := 1) (cap := 1) (m := y.insts.length) (cap' := y.ic) (xs := [(.int .i64 10), (.int .i64 (-1)), (.int .i64 0), (.string ⟨#[]⟩), (.slice (sM b187) 1 1)]) (news := (y.insts.flatMap FIns.cells)) (by kernel_rfl) (by kernel_rfl) M196 12 rfl (ins_rd (fn_rds (set_ro (hA.at_ M196) hx (blocks_row (M196.get 2 rfl)) (ins_row (M196.get 4 rfl)) (more_rd (fn_insts (hA.at_ M196) hx) cI_rd)) hy)) (ins_len5 _) (ins_one _) (by omega) (by simp only [maxLen]; omega) (([pI (sM b187) va] ++ y.insts).length) (([pI (sM b187) va] ++ y.insts).flatMap FIns.cells) (by simp; omega) (ins_cons y.insts (pI (sM b187) va)) ?_
 intro A201 c202 w203 M204 _ aC ea fr; clear ea
 replace M204 := M204.nf
 revert aC
 refine zpn 1 <| zsb (ho := (by simp)) M204 10 1 (.slice A201 (([pI (sM b187) va] ++ y.insts).length) c202) rfl fun w209 M210 => ?_
 replace M210 := M210.nf
 refine zkp [(6, (.bool true)), (7, (pT b94 0)), (8, (pT b158 0)), (9, (pT b182 0))] <| zfe <| zsr <| zpn 1 <| zld ⟨b158, 4, none⟩ (.slice (sM g181) ((bsOf fs).length) c171) (blk_cell (M210.get 8 rfl) rfl) <| zls ⟨b182, 0, none⟩ [(.slice y.pA y.phis.length y.pc), (.slice A201 (([pI (sM b187) va] ++ y.insts).length) c202), (.int .i64 y.e), (.int .i64 y.v), (.int .i64 y.a), (.int .i64 y.b)] (blk_cells (M210.get 10 rfl)) <| zix ⟨g181, 0, none⟩ ((bsOf fs).length) 6 0 ?_
 intro aC fr
 refine From_storeS_row (by kernel_rfl : coreAt _ 4 = some (none, (.store 43 (.tmp 105) (.tmp 104)), 0, none)) fr (by kernel_rfl) (by kernel_rfl) (k' := 5) rfl (ad := (⟨g181, 0, none⟩ : Addr)) (j := ((0 : Int).toNat * 6)) (e := 43) (size := 6) (n := ((bsOf fs).length)) (cap := c171) (vs := [(.slice y.pA y.phis.length y.pc), (.slice A201 (([pI (sM b187) va] ++ y.insts).length) c202), (.int .i64 y.e), (.int .i64 y.v), (.int .i64 y.a), (.int .i64 y.b)]) (xs := ((bsOf (fs.set m (x.wi A70 c71 (x.insts ++ [cI va 1])))).flatMap SB.cells)) (ad' := ((⟨g181, 0, none⟩ : Addr).add ((0 : Int).toNat * 6))) (by kernel_rfl) rfl (by kernel_rfl) (by kernel_rfl) (by simp only [List.mem_cons, List.not_mem_nil, or_false]; intro v hv; rcases hv with rfl | rfl | rfl | rfl | rfl | rfl <;> rfl) M210 9 rfl (by simp only [List.length_cons, List.length_nil]; omega) ?_
 intro w211 M212 _ aC ea fr; clear ea
 replace M212 := M212.nf
 have M217 : Mem noS w w211 [.blk b1 24 (fV nm wk pa va A c fs), .blk b13 24 [(.string nm), (.bool wk), (.int .i64 pa), (.int .i64 (va + 1)), (.slice (sM g40) ((bsOf fs).length) c26)], .row 43 6 (sM g40) ((bsOf fs).length) c26 ((bsOf (fs.set m (x.wi A70 c71 (x.insts ++ [cI va 1])))).flatMap SB.cells), .blk b41 43 [(.slice x.pA x.phis.length x.pc), (.slice A140 ((x.insts ++ [cI va 1] ++ [cI va 2]).length) c141), (.int .i64 x.e), (.int .i64 x.v), (.int .i64 x.a), (.int .i64 x.b)], .row 46 5 A70 ((x.insts ++ [cI va 1]).length) c71 ((x.insts ++ [cI va 1]).flatMap FIns.cells), .blk b94 24 [(.string nm), (.bool wk), (.int .i64 pa), (.int .i64 (va + 1)), (.slice (sM g150) ((bsOf fs).length) c107)], .row 43 6 (sM g150) ((bsOf fs).length) c107 ((bsOf (fs.set m (x.wi A140 c141 (x.insts ++ [cI va 1] ++ [cI va 2])))).flatMap SB.cells), .row 46 5 A140 ((x.insts ++ [cI va 1] ++ [cI va 2]).length) c141 ((x.insts ++ [cI va 1] ++ [cI va 2]).flatMap FIns.cells), .blk b158 24 [(.string nm), (.bool wk), (.int .i64 pa), (.int .i64 (va + 1)), (.slice (sM g181) ((bsOf fs).length) c171)], .row 43 6 (sM g181) ((bsOf fs).length) c171 ((bsOf ((fs.set m (x.wi A70 c71 (x.insts ++ [cI va 1]))).set 0 (y.wi A201 c202 ([pI (sM b187) va] ++ y.insts)))).flatMap SB.cells), .blk b182 43 [(.slice y.pA y.phis.length y.pc), (.slice A201 (([pI (sM b187) va] ++ y.insts).length) c202), (.int .i64 y.e), (.int .i64 y.v), (.int .i64 y.a), (.int .i64 y.b)], .row 3 1 (sM b187) 1 1 [(.int .i64 va)], .row 46 5 A201 (([pI (sM b187) va] ++ y.insts).length) c202 (([pI (sM b187) va] ++ y.insts).flatMap FIns.cells)] := M212.cast (congrArg (fun z_ => ([.blk b1 24 (fV nm wk pa va A c fs), .blk b13 24 [(.string nm), (.bool wk), (.int .i64 pa), (.int .i64 (va + 1)), (.slice (sM g40) ((bsOf fs).length) c26)], .row 43 6 (sM g40) ((bsOf fs).length) c26 ((bsOf (fs.set m (x.wi A70 c71 (x.insts ++ [cI va 1])))).flatMap SB.cells), .blk b41 43 [(.slice x.pA x.phis.length x.pc), (.slice A140 ((x.insts ++ [cI va 1] ++ [cI va 2]).length) c141), (.int .i64 x.e), (.int .i64 x.v), (.int .i64 x.a), (.int .i64 x.b)], .row 46 5 A70 ((x.insts ++ [cI va 1]).length) c71 ((x.insts ++ [cI va 1]).flatMap FIns.cells), .blk b94 24 [(.string nm), (.bool wk), (.int .i64 pa), (.int .i64 (va + 1)), (.slice (sM g150) ((bsOf fs).length) c107)], .row 43 6 (sM g150) ((bsOf fs).length) c107 ((bsOf (fs.set m (x.wi A140 c141 (x.insts ++ [cI va 1] ++ [cI va 2])))).flatMap SB.cells), .row 46 5 A140 ((x.insts ++ [cI va 1] ++ [cI va 2]).length) c141 ((x.insts ++ [cI va 1] ++ [cI va 2]).flatMap FIns.cells), .blk b158 24 [(.string nm), (.bool wk), (.int .i64 pa), (.int .i64 (va + 1)), (.slice (sM g181) ((bsOf fs).length) c171)], .row 43 6 (sM g181) ((bsOf fs).length) c171 z_, .blk b182 43 [(.slice y.pA y.phis.length y.pc), (.slice A201 (([pI (sM b187) va] ++ y.insts).length) c202), (.int .i64 y.e), (.int .i64 y.v), (.int .i64 y.a), (.int .i64 y.b)], .row 3 1 (sM b187) 1 1 [(.int .i64 va)], .row 46 5 A201 (([pI (sM b187) va] ++ y.insts).length) c202 (([pI (sM b187) va] ++ y.insts).flatMap FIns.cells)] : List Res)) (setAt_bs (l := (fs.set m (x.wi A70 c71 (x.insts ++ [cI va 1])))) (m := 0) (by omega) (y.wi A201 c202 ([pI (sM b187) va] ++ y.insts))))
 revert aC
 refine zfe <| zsr <| zpn 2 <| zls ⟨b94, 0, none⟩ [(.string nm), (.bool wk), (.int .i64 pa), (.int .i64 (va + 1)), (.slice (sM g150) ((bsOf fs).length) c107)] (blk_cells (M217.get 5 rfl)) <| zcl ((by have h9 := valid_n nm wk pa (va + 1) (sM g150) ((bsOf fs).length) c107 (fs.set m (x.wi A140 c141 (x.insts ++ [cI va 1] ++ [cI va 2]))) w211 (by rw [bsOf_len, List.length_set, hbl]) (by rw [List.length_set]; omega) (set_ok hok hx (by unfold LenOk; omega) (more_ok (more_ok (hok.get hx).insts (one_ok (cI_ok hv64 (by simp [In64])))) (one_ok (cI_ok hv64 (by simp [In64]))))) (set_ro (hA.at_ M217) hx (blocks_row (M217.get 6 rfl)) (ins_row (M217.get 7 rfl)) (more_rd (more_rd (fn_insts (hA.at_ M217) hx) cI_rd) cI_rd)); rw [two_more hx hm hv0 hng] at h9; exact h9)) ?_
 rintro _ w218 ⟨rfl, M219x⟩
 have M219 := M217.cl M219x
 refine zcl (num19_c 4 w218) ?_
 rintro _ w220 ⟨rfl, M221x⟩
 have M221 := M219.cl M221x
 refine zpn 3 <| zls ⟨b158, 0, none⟩ [(.string nm), (.bool wk), (.int .i64 pa), (.int .i64 (va + 1)), (.slice (sM g181) ((bsOf fs).length) c171)] (blk_cells (M221.get 8 rfl)) <| zcl ((by have h9 := valid_n nm wk pa (va + 1) (sM g181) ((bsOf fs).length) c171 ((fs.set m (x.wi A70 c71 (x.insts ++ [cI va 1]))).set 0 (y.wi A201 c202 ([pI (sM b187) va] ++ y.insts))) w220 (by rw [bsOf_len, List.length_set, hgl, hbl]) (by rw [List.length_set]; omega) (set_ok hgok hy (by unfold LenOk; rw [List.length_append, List.length_singleton]; omega) (more_ok (one_ok (pI_ok hv64)) (hgok.get hy).insts)) (set_ro (set_ro (hA.at_ M221) hx (blocks_row (M221.get 2 rfl)) (ins_row (M221.get 4 rfl)) (more_rd (fn_insts (hA.at_ M221) hx) cI_rd)) hy (blocks_row (M221.get 9 rfl)) (ins_row (M221.get 12 rfl)) (more_rd (pI_rd (M221.get 11 rfl)) (fn_insts (set_ro (hA.at_ M221) hx (blocks_row (M221.get 2 rfl)) (ins_row (M221.get 4 rfl)) (more_rd (fn_insts (hA.at_ M221) hx) cI_rd)) hy))); rw [one_read hx hm hv0 hng hy] at h9; exact h9)) ?_
 rintro _ w222 ⟨rfl, M223x⟩
 have M223 := M221.cl M223x
 refine zkp [(113, (.bool true)), (115, (.int .i64 4))] <| zcl (num19_c 4 w222) ?_
 rintro _ w224 ⟨rfl, M225x⟩
 have M225 := M223.cl M225x
 refine zpn 3 <| zcl (awake19_c w224) ?_
 rintro _ w226 ⟨rfl, M227x⟩
 have M227 := M225.cl M227x
 refine zpn 2 <| zfe <| zre <| zo1 (.bool true) ?_
 have M228 := M227.od [] 0
 exact ⟨rfl, M228⟩
 have c6 : (greatQ va fs) := iB6.1 rfl
 refine zpn 4 <| zfe <| zcT <| zsr <| zcl (awake19_c w4) ?_
 rintro _ w229 ⟨rfl, M230x⟩
 have M230 := M5.cl M230x
 refine zpn 1 <| zfe <| zre <| zo1 (.bool true) ?_
 have M231 := M230.od [] 0
 exact ⟨rfl, M231⟩
end Go.Proofs.Ytjekgaabcigphaa
