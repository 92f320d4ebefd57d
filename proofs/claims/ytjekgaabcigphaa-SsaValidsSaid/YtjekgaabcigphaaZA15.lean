/-
  Texts of the proof, part 15.
-/
import Derived.Test.YtjekgaabcigphaaZA14
import Derived.Laws.BytesArg
set_option maxRecDepth 10000
namespace Go.Mor
open Go.RowKit
theorem conv_bytes {P : Program} {w : World} {A : Option Addr} {n c : Nat} {l : List Int} {src dst e : TypeId} (hn : l.length = n) (h : (Res.rd A (l.map (Value.int .u8))).holds w) (hs : P.underlying src = some (.slice e)) (he : P.underlying e = some (.int .u8)) (hd : P.underlying dst = some .string) :
    (convert src dst (.slice A n c)).run P w = .ok (.string (strOfNums l)) w := by
  subst hn
  rw [run_convert_bytes_string w src dst e A l.length c hs he hd]
  cases A with
  | none =>
    have : l = [] := by
      cases l with
      | nil => rfl
      | cons x r =>
        obtain ⟨a, ha, _⟩ := h 0 (.int .u8 x) rfl
        cases ha
    subst this
    simp [Conv.bytesToString, strOfNums]
    rfl
  | some a =>
    have hl : (loadCells a l.length).run P w = .ok (l.map (Value.int .u8)).toArray w := by
      have := run_loadCells_list (P := P) w a (l.map (Value.int .u8)) (fun j v hj => by
        obtain ⟨a', ha', hc⟩ := h j v hj
        injection ha' with ha'
        rw [ha']
        exact hc)
      simpa using this
    rw [run_bytesToString w a l.length c l hl, foldl_push_bytes]
    simp [strOfNums, ByteArray.empty, ByteArray.emptyWithCapacity]
    rfl
def csE (P : Program) (c : Code) (N : FN) (env : Env) (k : Nat) : Option (Option Nat × Option Addr × Nat × Nat) := match coreAt c k with
  | some (d, .convert t t' x, _, g) => match guardE c g env, okd d N, ev env x, P.underlying t, P.underlying t' with
    | some true, true, some (.slice A n cap), some (.slice e), some .string => match P.underlying e with
      | some (.int .u8) => some (d, A, n, cap)
      | _ => none
    | _, _, _, _, _ => none
  | _ => none
theorem cs_spec {P : Program} {c : Code} {N : FN} {env : Env} {k : Nat} {d : Option Nat} {A : Option Addr} {n cap : Nat} (h : csE P c N env k = some (d, A, n, cap)) : ∃ t t' x ty g e, coreAt c k = some (d, .convert t t' x, ty, g) ∧ guardE c g env = some true ∧ okd d N = true ∧ ev env x = some (.slice A n cap) ∧ P.underlying t = some (.slice e) ∧ P.underlying e = some (.int .u8) ∧ P.underlying t' = some .string := by
  unfold csE at h
  split at h
  · rename_i h0
    split at h
    · rename_i h1 h2 h3 h4 h5
      split at h
      · rename_i h6
        simp only [Option.some.injEq, Prod.mk.injEq] at h
        obtain ⟨rfl, rfl, rfl, rfl⟩ := h
        exact ⟨_, _, _, _, _, _, h0, h1, h2, h3, h4, h6, h5⟩
      · cases h
    · cases h
  · cases h
section
variable {P : Program} {c : Code} {K : Act → World → Prop} {Q : Exit → Act → World → Prop} {w : World} {k : Nat} {N : FN} {env : Env}
theorem zcs (l : List Int) (A : Option Addr) (n cap : Nat) (hn : l.length = n) (hr : (Res.rd A (l.map (Value.int .u8))).holds w) (h : ∀ a, Fr a N (putE env (dstAt c k) (.string (strOfNums l))) → From P c K Q (k + 1) a w) (hk : csE P c N env k = some (dstAt c k, A, n, cap) := by kernel_rfl) : ∀ a, Fr a N env → From P c K Q k a w := fun a hF => by
  obtain ⟨t, t', x, ty, g, e, h0, h1, h2, h3, h4, h5, h6⟩ := cs_spec hk
  refine From_same h0 hF h1 h2 rfl (fun o ho => ?_) (fun a' _ => h a')
  unfold execOp
  rw [ho]
  simp [hF.ev h3, Sem.run_bind, conv_bytes hn hr h4 h5 h6, Result.andThen_ok]
end
section
variable {P : Program} {c : Code} {Q : Exit → Act → World → Prop} {N : FN} {i : Nat} {env0 : Env} {wr : World} {sp : Nat → Spec}
end
end Go.Mor
namespace Go.Proofs.Ytjekgaabcigphaa
open Go.Mor
theorem num19_c (e : Int) (w : World) :
    Calls Try.prog 10 #[(.int .i64 e)] w (Ret fun v w' => v = .int .i64 e ∧ Mem noS w w' []) := by
 refine zen 4 [(.int .i64 e)] Try.func10 ?_
 have hM := Mem.init w
 refine zsp <| zsp <| zre <| zo1 (.int .i64 e) ?_
 exact ⟨rfl, hM⟩
theorem awake19_d (w : World) :
    Calls Try.prog 9 #[] w (Ret fun v w' => v = .bool (decide (True)) ∧ Mem noS w w' []) := by
 refine zen 38 [] Try.func9 ?_
 have hM := Mem.init w
 refine zsp <| zsr <| zpn 1 ?_
 intro aC fr
 refine zBs 4 44 1 #[(0, (.const (.int .i64 0)))] 44 fr (e := 3) (size := 1) (zs := [(.int .i64 0)]) (vs := [(0, (.int .i64 0))]) (cs := [(.int .i64 0)]) hM ?_
 intro b1 w2 hb1 _ M3 _ aC ea fr; clear ea
 replace M3 := M3.nf
 clear hM
 revert aC
 refine zpn 1 ?_
 intro aC fr
 refine zBs 6 41 2 #[(0, (.tmp 3)), (1, (.tmp 5))] 41 fr (e := 46) (size := 5) (zs := [(.int .i64 0), (.int .i64 0), (.int .i64 0), (.string ⟨#[]⟩), (.slice none 0 0)]) (vs := [(0, (.agg #[(.int .i64 1), (.int .i64 0), (.int .i64 7), (.string ⟨#[]⟩), (.slice none 0 0)])), (1, (.agg #[(.int .i64 10), (.int .i64 (-1)), (.int .i64 0), (.string ⟨#[]⟩), (.slice (sM b1) 1 1)]))]) (cs := [(.int .i64 1), (.int .i64 0), (.int .i64 7), (.string ⟨#[]⟩), (.slice none 0 0), (.int .i64 10), (.int .i64 (-1)), (.int .i64 0), (.string ⟨#[]⟩), (.slice (sM b1) 1 1)]) M3 ?_
 intro b8 w9 hb8 _ M10 _ aC ea fr; clear ea
 replace M10 := M10.nf
 revert aC
 refine zpn 1 ?_
 intro aC fr
 refine zBs 8 22 1 #[(0, (.tmp 7))] 22 fr (e := 43) (size := 6) (zs := [(.slice none 0 0), (.slice none 0 0), (.int .i64 0), (.int .i64 0), (.int .i64 0), (.int .i64 0)]) (vs := [(0, (.agg #[(.slice none 0 0), (.slice (sM b8) 2 2), (.int .i64 2), (.int .i64 (-1)), (.int .i64 0), (.int .i64 0)]))]) (cs := [(.slice none 0 0), (.slice (sM b8) 2 2), (.int .i64 2), (.int .i64 (-1)), (.int .i64 0), (.int .i64 0)]) M10 ?_
 intro b15 w16 hb15 _ M17 _ aC ea fr; clear ea
 replace M17 := M17.nf
 revert aC
 refine zpn 1 <| zal M17 24 [(.string ⟨#[]⟩), (.bool false), (.int .i64 0), (.int .i64 0), (.slice none 0 0)] fun b22 w23 hb22 M24 => ?_
 replace M24 := M24.nf
 refine zss M24 3 [(.string ⟨#[102]⟩), (.bool false), (.int .i64 0), (.int .i64 1), (.slice (sM b15) 1 1)] rfl fun w25 M26 => ?_
 replace M26 := M26.nf
 refine zfe <| zsr <| zls ⟨b22, 0, none⟩ [(.string ⟨#[102]⟩), (.bool false), (.int .i64 0), (.int .i64 1), (.slice (sM b15) 1 1)] (blk_cells (M26.get 3 rfl)) ?_
 intro aC fr
 refine zBs 11 31 1 #[(0, (.tmp 10))] 31 fr (e := 24) (size := 5) (zs := [(.string ⟨#[]⟩), (.bool false), (.int .i64 0), (.int .i64 0), (.slice none 0 0)]) (vs := [(0, (.agg #[(.string ⟨#[102]⟩), (.bool false), (.int .i64 0), (.int .i64 1), (.slice (sM b15) 1 1)]))]) (cs := [(.string ⟨#[102]⟩), (.bool false), (.int .i64 0), (.int .i64 1), (.slice (sM b15) 1 1)]) M26 ?_
 intro b27 w28 hb27 _ M29 _ aC ea fr; clear ea
 replace M29 := M29.nf
 revert aC
 refine zkp [(1, (pT b22 0)), (11, (.slice (sM b27) 1 1))] ?_
 intro aC fr
 refine zBs 12 32 1 #[(0, (.const (.string { data := #[102] })))] 32 fr (e := 9) (size := 1) (zs := [(.string ⟨#[]⟩)]) (vs := [(0, (.string ⟨#[102]⟩))]) (cs := [(.string ⟨#[102]⟩)]) M29 ?_
 intro b34 w35 hb34 _ M36 _ aC ea fr; clear ea
 replace M36 := M36.nf
 revert aC
 refine zcl ((by have h9 := run_c [awF (sM b15) (sM b8) (sM b1)] (sM b27) 1 [awN] (sM b34) 1 10 [] none 0 10 w35 (aw_in (aw_ro (A5 := (sM b1)) (A7 := (sM b8)) (A9 := (sM b15)) (M36.get 0 rfl) (M36.get 1 rfl) (M36.get 2 rfl)) (M36.get 4 rfl) (M36.get 5 rfl)); rw [aw_run] at h9; exact h9)) ?_
 rintro _ w43 ⟨oA41, oc42, rfl, M44x⟩
 have M44 := M36.cl M44x
 refine zal M44 36 [(.int .i64 0), (.int .i64 0), (.slice none 0 0), (.int .i64 0)] fun b45 w46 hb45 M47 => ?_
 replace M47 := M47.nf
 refine zss M47 7 [(.int .i64 1), (.int .i64 0), (.slice oA41 1 oc42), (.int .i64 3)] rfl fun w48 M49 => ?_
 replace M49 := M49.nf
 refine zfe <| zsr <| zls ⟨b22, 0, none⟩ [(.string ⟨#[102]⟩), (.bool false), (.int .i64 0), (.int .i64 1), (.slice (sM b15) 1 1)] (blk_cells (M49.get 3 rfl)) <| zcl ((by have h9 := valid_c awN false 0 1 (sM b15) 1 [awB (sM b8) (sM b1)] w48 (by simp) aw_ok (aw_ro (A5 := (sM b1)) (A7 := (sM b8)) (A9 := (sM b15)) (M49.get 0 rfl) (M49.get 1 rfl) (M49.get 2 rfl)); rw [aw_valid] at h9; exact h9)) ?_
 rintro _ w50 ⟨rfl, M51x⟩
 have M51 := M49.cl M51x
 refine zpn 2 <| zls ⟨b22, 0, none⟩ [(.string ⟨#[102]⟩), (.bool false), (.int .i64 0), (.int .i64 1), (.slice (sM b15) 1 1)] (blk_cells (M51.get 3 rfl)) <| zcl ((by have h9 := size_c awN false 0 1 (sM b15) 1 [awB (sM b8) (sM b1)] w50 (by simp) aw_ok (aw_ro (A5 := (sM b1)) (A7 := (sM b8)) (A9 := (sM b15)) (M51.get 0 rfl) (M51.get 1 rfl) (M51.get 2 rfl)); rw [aw_size] at h9; exact h9)) ?_
 rintro _ w52 ⟨rfl, M53x⟩
 have M53 := M51.cl M53x
 refine zpn 4 <| zld ⟨b45, 0, none⟩ (.int .i64 1) (blk_cell (M53.get 7 rfl) rfl) <| zpn 4 <| zld ⟨b45, 2, none⟩ (.slice oA41 1 oc42) (blk_cell (M53.get 7 rfl) rfl) <| zkp [(2, (pT b45 0)), (27, (.bool true)), (29, (.slice oA41 1 oc42))] <| zcs [7] oA41 1 oc42 rfl (row_rd (M53.get 6 rfl)) <| zpn 3 ?_
 obtain ⟨B54, hB54⟩ : ∃ B : Bool, B = (((strOfNums [7]) : ByteArray).toList == (⟨#[7]⟩ : ByteArray).toList) := ⟨_, rfl⟩
 refine zkp [(2, (pT b45 0)), (33, (.bool (((strOfNums [7]) : ByteArray).toList == (⟨#[7]⟩ : ByteArray).toList)))] ?_
 rw [← hB54]
 have iB54 : B54 = true ↔ (((strOfNums [7])).toList = (⟨#[7]⟩ : ByteArray).toList) := by rw [hB54]; simp only [beq_iff_eq]
 clear hB54
 intro aC fr
 refine zpk 1 21 [34] fr (news := [(34, (cond B54 (pT b45 3) undef))]) (by cases B54 <;> kernel_rfl) ?_
 intro aC fr
 refine From_either (B := B54) (d := (some 35)) (.int .i64 3) fr (by cases B54 <;> kernel_rfl) (fun hB hh => ?_) ?_
 cases B54 <;> first | (exact absurd hB (by decide)) | skip
 have c54 : (((strOfNums [7])).toList = (⟨#[7]⟩ : ByteArray).toList) := iB54.1 rfl
 exact From_ld (some 35) ⟨b45, 3, none⟩ fr (by kernel_rfl) (.int .i64 3) (blk_cell (M53.get 7 rfl) rfl) hh
 intro aC fr
 refine zpk 3 25 [0, 37] fr (news := [(0, (.bool B54)), (37, (.bool B54))]) (by cases B54 <;> kernel_rfl) ?_
 intro aC fr
 revert aC
 refine zfe <| zre <| zo1 (.bool B54) ?_
 have hR : B54 = true ↔ (((strOfNums [7])).toList = (⟨#[7]⟩ : ByteArray).toList) := by simp only [iB54]
 have M63 := M53.od [] 0
 exact ⟨bool_dec hR (⟨fun _ => trivial, fun _ => congrArg ByteArray.toList (rfl : strOfNums [7] = ⟨#[7]⟩)⟩), M63⟩
theorem awake19_c (w : World) : Calls Try.prog 9 #[] w (Ret fun v w' => v = .bool true ∧ Mem noS w w' []) := by
  have h := awake19_d w
  simpa using h
end Go.Proofs.Ytjekgaabcigphaa
namespace Go.Proofs.Ytjekgaabcigphaa
open Go.Mor
theorem great19_c (nm : ByteArray) (wk : Bool) (pa va : Int) (A : Option Addr) (c : Nat) (fs : List FBlk) (w : World) (hok : FOk fs) (hA : RO noS w (.fn A fs)) :
    Calls Try.prog 8 #[(fA nm wk pa va A c fs)] w (Ret fun v w' => v = .bool (decide (greatQ va fs)) ∧ Mem noS w w' []) := by
 have hbl := bsOf_len fs
 have hB := hA.bs
 refine zen 51 [(fA nm wk pa va A c fs)] Try.func8 ?_
 have hM := Mem.init w
 refine zsr <| zbx hM 24 (fA nm wk pa va A c fs) (fV nm wk pa va A c fs) fun b1 w2 hb1 M3 => ?_
 replace M3 := M3.nf
 clear hM
 refine zpn 1 <| zfe <| zsq <| zsr <| zpn 1 <| zld ⟨b1, 4, none⟩ (.slice A ((bsOf fs).length) c) (blk_cell (M3.get 0 rfl) rfl) <| zpn 3 ?_
 obtain ⟨B4, hB4⟩ : ∃ B : Bool, B = decide (((((bsOf fs).length : Nat) : Int) : Int) > 60) := ⟨_, rfl⟩
 refine zkp [(1, (pT b1 0)), (9, (.bool (decide (((((bsOf fs).length : Nat) : Int) : Int) > 60))))] ?_
 rw [← hB4]
 have iB4 : B4 = true ↔ (((((bsOf fs).length : Nat) : Int) : Int) > 60) := by rw [hB4]; simp only [decide_eq_true_eq]
 clear hB4
 intro aC fr
 refine zpk 1 6 [10] fr (news := [(10, (cond (!B4) (pT b1 3) undef))]) (by cases B4 <;> kernel_rfl) ?_
 intro aC fr
 refine From_either (B := (!B4)) (d := (some 11)) (.int .i64 va) fr (by cases B4 <;> kernel_rfl) (fun hB hh => ?_) ?_
 cases B4 <;> first | (exact absurd hB (by decide)) | skip
 have c4 : ¬ (((((bsOf fs).length : Nat) : Int) : Int) > 60) := (fun h => Bool.noConfusion (iB4.2 h) : ¬ (((((bsOf fs).length : Nat) : Int) : Int) > 60))
 exact From_ld (some 11) ⟨b1, 3, none⟩ fr (by kernel_rfl) (.int .i64 va) (blk_cell (M3.get 0 rfl) rfl) hh
 intro aC fr
 refine zpk 2 9 [13] fr (news := [(13, (.bool (B4 || decide ((va : Int) > 3000))))]) (by cases B4 <;> kernel_rfl) ?_
 intro aC fr
 revert aC
 refine zfe <| zcP (B4 || decide ((va : Int) > 3000)) ((((((bsOf fs).length : Nat) : Int) : Int) > 60) ∨ ((va : Int) > 3000)) (by simp only [Bool.or_eq_true, decide_eq_true_eq, iB4]) (fun c13 => ?_) (fun c13 => ?_)
 refine zsr <| zpn 1 <| zld ⟨b1, 3, none⟩ (.int .i64 va) (blk_cell (M3.get 0 rfl) rfl) <| zpn 2 ?_
 obtain ⟨B14, hB14⟩ : ∃ B : Bool, B = decide ((va : Int) ≤ 20000) := ⟨_, rfl⟩
 refine zkp [(1, (pT b1 0)), (17, (.bool (decide ((va : Int) ≤ 20000))))] ?_
 rw [← hB14]
 have iB14 : B14 = true ↔ ((va : Int) ≤ 20000) := by rw [hB14]; simp only [decide_eq_true_eq]
 clear hB14
 intro aC fr
 refine zpk 1 5 [18] fr (news := [(18, (cond (!B14) (pT b1 4) undef))]) (by cases B14 <;> kernel_rfl) ?_
 intro aC fr
 refine From_either (B := (!B14)) (d := (some 19)) (.slice A ((bsOf fs).length) c) fr (by cases B14 <;> kernel_rfl) (fun hB hh => ?_) ?_
 cases B14 <;> first | (exact absurd hB (by decide)) | skip
 have c14 : ¬ ((va : Int) ≤ 20000) := (fun h => Bool.noConfusion (iB14.2 h) : ¬ ((va : Int) ≤ 20000))
 exact From_ld (some 19) ⟨b1, 4, none⟩ fr (by kernel_rfl) (.slice A ((bsOf fs).length) c) (blk_cell (M3.get 0 rfl) rfl) hh
 intro aC fr
 refine zpk 4 10 [2, 22] fr (news := [(2, (.bool (B14 || decide (((((bsOf fs).length : Nat) : Int) : Int) > 60)))), (22, (.bool (B14 || decide (((((bsOf fs).length : Nat) : Int) : Int) > 60))))]) (by cases B14 <;> kernel_rfl) ?_
 intro aC fr
 revert aC
 refine zfe <| zre <| zo1 (.bool (B14 || decide (((((bsOf fs).length : Nat) : Int) : Int) > 60))) ?_
 have hR : (B14 || decide (((((bsOf fs).length : Nat) : Int) : Int) > 60)) = true ↔ (((va : Int) ≤ 20000) ∨ (((((bsOf fs).length : Nat) : Int) : Int) > 60)) := by simp only [Bool.or_eq_true, decide_eq_true_eq, iB14]
 have M23 := M3.od [] 0
 exact ⟨bool_dec hR (by unfold greatQ; omega), M23⟩
 have hl60 : fs.length ≤ 60 := by omega
 refine zsk <| zsp <| zsq <| zsp <| zbk 0 ?_
 intro aC fr
 refine zlp (fun n_ a_ w_ => ∃ (k : Nat), n_ = fs.length - k ∧ Fr a_ 51 [(1, (pT b1 0)), (3, (.int .i64 ((greatTo fs k : Nat) : Int))), (4, (nV k))] ∧ Mem noS w w_ [.blk b1 24 (fV nm wk pa va A c fs)] ∧ (k ≤ fs.length)) (n := _) ⟨0, rfl, fr.kp [1, 3, 4], M3, by omega⟩ ?_
 clear fr aC M3; rintro n aC w26 ⟨k, rfl, fr, M27, hk⟩
 revert aC
 refine zsq <| zsr <| zpn 2 <| zld ⟨b1, 4, none⟩ (.slice A ((bsOf fs).length) c) (blk_cell (M27.get 0 rfl) rfl) <| zpn 2 <| zfe <| zcD (((k : Int) : Int) < (((bsOf fs).length : Nat) : Int)) (fun c30 => ?_) (fun c30 => ?_)
 refine zsk <| zsq <| zbk 1 ?_
 obtain ⟨x, hx⟩ := get_of (l := fs) (i := k) (by omega)
 have hl1 : x.phis.length ≤ 281474976710656 := (hok.get hx).lp
 have hl2 : x.insts.length ≤ 281474976710656 := (hok.get hx).li
 have hgl := greatTo_le fs k hk
 have hgs := greatTo_succ hx
 obtain ⟨ad31, rfl⟩ := blocks_some (M27.ro hB) (bsOf_get hx)
 refine zkp [(1, (pT b1 0)), (3, (.int .i64 ((greatTo fs k : Nat) : Int))), (4, (nV k))] ?_
 intro aC fr
 refine zdr (N := 51) (env0 := [(1, (pT b1 0)), (3, (.int .i64 ((greatTo fs k : Nat) : Int))), (4, (nV k))]) (specAt [.det (.int .i64 ((greatTo fs k : Nat) : Int)), .det (pT b1 4), .det (.slice (some ad31) ((bsOf fs).length) c), .det (nV k), .det (.pointer (some ((ad31 : Addr).add (((k : Int)).toNat * 6)))), .det (.pointer (some ((ad31 : Addr).add (((k : Int)).toNat * 6)))), .det (.slice x.pA x.phis.length x.pc), .det (.int .i64 ((x.phis.length : Nat) : Int)), .det (.int .i64 ((min x.phis.length 5000 : Nat) : Int)), .det (.int .i64 (((greatTo fs k : Nat) : Int) + ((min x.phis.length 5000 : Nat) : Int))), .det (pT b1 4), .det (.slice (some ad31) ((bsOf fs).length) c), .det (nV k), .det (.pointer (some ((ad31 : Addr).add (((k : Int)).toNat * 6)))), .det (.pointer (some (((ad31 : Addr).add (((k : Int)).toNat * 6)).add 1))), .det (.slice x.iA x.insts.length x.ic), .det (.int .i64 ((x.insts.length : Nat) : Int)), .det (.int .i64 ((min x.insts.length 5000 : Nat) : Int)), .det (.int .i64 (((greatTo fs (k + 1) : Nat) : Int))), .det (.int .i64 (((greatTo fs (k + 1) : Nat) : Int)))]) fr (la (la (la (la (la (la (la (la (la (la (la (la (la (la (la (la (la (la (la (la lz dP) dP) (dL ⟨b1, 4, none⟩ (.slice (some ad31) ((bsOf fs).length) c) fun w_ hK => (blk_cell ((M27.then_ hK).get 0 rfl) rfl))) dP) (dI ad31 ((bsOf fs).length) 6 (k : Int))) dP) (dL ((ad31 : Addr).add (((k : Int)).toNat * 6)) (.slice x.pA x.phis.length x.pc) fun w_ hK => (fblk_get ((M27.then_ hK).ro hB) rfl hx 0 _ rfl))) dP) (dMN .i64 ((x.phis.length : Nat) : Int) 5000 ((min x.phis.length 5000 : Nat) : Int) (.tmp 37) (.const (.int .i64 5000)) #[3, 3] 3 none (by split <;> omega))) (dA (((greatTo fs k : Nat) : Int) + ((min x.phis.length 5000 : Nat) : Int)))) dP) (dL ⟨b1, 4, none⟩ (.slice (some ad31) ((bsOf fs).length) c) fun w_ hK => (blk_cell ((M27.then_ hK).get 0 rfl) rfl))) dP) (dI ad31 ((bsOf fs).length) 6 (k : Int))) dP) (dL (((ad31 : Addr).add (((k : Int)).toNat * 6)).add 1) (.slice x.iA x.insts.length x.ic) fun w_ hK => (fblk_get ((M27.then_ hK).ro hB) rfl hx 1 _ rfl))) dP) (dMN .i64 ((x.insts.length : Nat) : Int) 5000 ((min x.insts.length 5000 : Nat) : Int) (.tmp 46) (.const (.int .i64 5000)) #[3, 3] 3 none (by split <;> omega))) ?_) dP) ?_
 intro aa_ w_ vs rest_ hK hp hF
 refine okG (g0 := none) ?_
 replace hF : Fr aa_ 51 [(39, (.int .i64 (((greatTo fs k : Nat) : Int) + ((min x.phis.length 5000 : Nat) : Int)))), (47, (.int .i64 ((min x.insts.length 5000 : Nat) : Int)))] := hF.kp [39, 47]
 refine From_arith (by kernel_rfl : coreAt _ 0 = some (some 48, (.binOp .add 3 (.tmp 39) (.tmp 47) 3), 3, none)) hF (by kernel_rfl) (by kernel_rfl) (k' := 1) rfl (i := (((greatTo fs k : Nat) : Int) + ((min x.phis.length 5000 : Nat) : Int))) (j := ((min x.insts.length 5000 : Nat) : Int)) (z := (((greatTo fs (k + 1) : Nat) : Int))) (by kernel_rfl) (by kernel_rfl) (congrArg some (by omega)) (by omega) (by omega) ?_
 intro a2 ea _
 refine From_end (by kernel_rfl) ?_; exact op_done (d := some 48) (by kernel_rfl) ea (Kp.refl _) rfl
 intro aC w36 vs hK hv fr
 revert aC; refine zkp [(1, (pT b1 0)), (3, (.int .i64 (((greatTo fs (k + 1) : Nat) : Int)))), (4, (nV k))] ?_
 have M37 := M27.then_ hK
 clear hK hv fr aC M27; clear vs
 refine zrg <| zpn 1 <| zar ((k : Int) + 1) <| zpn 1 <| zfe ?_
 intro aC fr
 exact ⟨fs.length - (k + 1), by omega, k + 1, rfl, fr.kp [1, 3, 4], M37, by omega⟩
 refine zex 0 <| zbh <| zsp <| zre <| zo1 (.bool (decide ((((greatTo fs k : Nat) : Int) : Int) > 3000))) ?_
 have hR : decide ((((greatTo fs k : Nat) : Int) : Int) > 3000) = true ↔ ((((greatTo fs k : Nat) : Int) : Int) > 3000) := by simp only [decide_eq_true_eq]
 have M40 := M27.od [] 0
 exact ⟨bool_dec hR (by unfold greatQ; (try rw [show k = fs.length by omega]); omega), M40⟩
end Go.Proofs.Ytjekgaabcigphaa
namespace Go.Mor
def caseQ (i : FIns) (lo mo : Int) (bn bm : Bool) : Prop :=
  (makesQ i.op ∨ i.dst = -1) ∧ (bn = true ∧ (bm = true ↔ i.name.size ≠ 0) ∧ (bm = true → nameQ i.name) ∧ lo ≤ (i.args.length : Int) ∧ (i.args.length : Int) ≤ mo)
section
variable {i : FIns} {lo mo : Int} {bn bm : Bool} {N : Prop}
theorem caseF (hn : bn = true ↔ N) : caseQ i lo mo bn false ↔ ((makesQ i.op ∨ i.dst = -1) ∧ N ∧ i.name.size = 0 ∧ lo ≤ (i.args.length : Int) ∧ (i.args.length : Int) ≤ mo) := by
  unfold caseQ
  rw [hn]
  simp only [Bool.false_eq_true, false_iff, ne_eq, Decidable.not_not, false_implies, true_and]
theorem caseT (hn : bn = true ↔ N) : caseQ i lo mo bn true ↔ ((makesQ i.op ∨ i.dst = -1) ∧ N ∧ nameQ i.name ∧ lo ≤ (i.args.length : Int) ∧ (i.args.length : Int) ≤ mo) := by
  unfold caseQ
  rw [hn]
  simp only [true_iff, ne_eq, true_implies]
  constructor
  · rintro ⟨h1, h2, h3, h4, h5⟩; exact ⟨h1, h2, h4, h5⟩
  · rintro ⟨h1, h2, h3, h4⟩; exact ⟨h1, h2, by unfold nameQ at h3; omega, h3, h4⟩
theorem rshape_fin {x : Bool} (hx : (x = true) = (i.name.size = 0)) (hs : shapeQ i ↔ caseQ i lo mo bn bm) (hc : ¬ (¬ makesQ i.op ∧ i.dst ≠ -1)) :
    (((((bn = true) ∧ (bm = (!x))) ∧ ((¬ (bm = true)) ∨ (nameQ i.name))) ∧ ((i.args.length : Int) ≥ lo)) ∧ ((i.args.length : Int) ≤ mo)) ↔ shapeQ i := by
  rw [hs]
  have hc' : makesQ i.op ∨ i.dst = -1 := by
    by_cases h : makesQ i.op
    · exact .inl h
    · exact .inr (Classical.not_not.1 (fun e => hc ⟨h, e⟩))
  cases bm with
  | false =>
    rw [caseF Iff.rfl, ← hx]
    cases x
    · simp
    · simp only [Bool.not_true, Bool.false_eq_true, not_false_eq_true, true_or, and_true, true_and, hc']
      constructor
      · rintro ⟨⟨h1, h2⟩, h3⟩; exact ⟨h1, h2, h3⟩
      · rintro ⟨h1, h2, h3⟩; exact ⟨⟨h1, h2⟩, h3⟩
  | true =>
    rw [caseT Iff.rfl]
    have hne : nameQ i.name → x = false := by
      intro h
      rw [Bool.eq_false_iff]
      intro e
      rw [hx] at e
      unfold nameQ at h
      omega
    constructor
    · rintro ⟨⟨⟨⟨h1, h2⟩, h3⟩, h4⟩, h5⟩
      rcases h3 with h3 | h3
      · exact absurd rfl h3
      · exact ⟨hc', h1, h3, h4, h5⟩
    · rintro ⟨_, h1, h3, h4, h5⟩
      exact ⟨⟨⟨⟨h1, by rw [hne h3]; rfl⟩, .inr h3⟩, h4⟩, h5⟩
theorem rshape_no (hc : ¬ makesQ i.op ∧ i.dst ≠ -1) : ¬ shapeQ i := fun h => h.1.elim hc.1 hc.2
theorem litT : (true = true) ↔ True := by simp
theorem litF : (false = true) ↔ False := by simp
end
end Go.Mor
namespace Go.Proofs.Ytjekgaabcigphaa
open Go.Mor
theorem rshape_c (i : FIns) (w : World) (hi : i.Ok) :
    Calls Try.prog 28 #[(iG i)] w (Ret fun v w' => v = .bool (decide (shapeQ i)) ∧ Mem noS w w' []) := by
 have hnl : i.name.size ≤ 281474976710656 := hi.name
 have hal : i.args.length ≤ 281474976710656 := hi.len
 refine zen 143 [(iG i)] Try.func28 ?_
 have hM := Mem.init w
 refine zsr <| zbx hM 46 (iG i) (iV i) fun b1 w2 hb1 M3 => ?_
 replace M3 := M3.nf
 clear hM
 refine zpn 1 <| zfe <| zsp <| zsr <| zpn 1 <| zld ⟨b1, 2, none⟩ (.int .i64 i.n) (blk_cell (M3.get 0 rfl) rfl) <| zpn 3 <| zfe <| zsq ?_
 intro aC fr
 refine W_cut (fun a_ w_ => ∃ (lo : Int) (mo : Int) (bn : Bool) (bm : Bool), Fr a_ 143 [(1, (pT b1 0)), (3, (.int .i64 lo)), (4, (.int .i64 mo)), (5, (.bool bn)), (6, (.bool bm))] ∧ Mem noS w w_ [.blk b1 46 (iV i)] ∧ (shapeQ i ↔ caseQ i lo mo bn bm)) ?_ ?_
 clear fr aC M3; rintro aC w6 ⟨lo, mo, bn, bm, fr, M7, hsh⟩
 revert aC
 refine zsq <| zsr <| zpn 1 <| zld ⟨b1, 0, none⟩ (.int .i64 i.op) (blk_cell (M7.get 0 rfl) rfl) <| zcl (rmakes_c i.op w6) ?_
 rintro _ w10 ⟨rfl, M11x⟩
 have M11 := M7.cl M11x
 refine zpn 2 ?_
 obtain ⟨B12, hB12⟩ : ∃ B : Bool, B = (!(decide (makesQ i.op))) := ⟨_, rfl⟩
 refine zkp [(1, (pT b1 0)), (3, (.int .i64 lo)), (4, (.int .i64 mo)), (5, (.bool bn)), (6, (.bool bm)), (107, (.bool (!(decide (makesQ i.op)))))] ?_
 rw [← hB12]
 have iB12 : B12 = true ↔ (¬ (makesQ i.op)) := by rw [hB12]; simp only [notT, decide_eq_true_eq]
 clear hB12
 intro aC fr
 refine zpk 1 6 [108] fr (news := [(108, (cond B12 (pT b1 1) undef))]) (by cases B12 <;> kernel_rfl) ?_
 intro aC fr
 refine From_either (B := B12) (d := (some 109)) (.int .i64 i.dst) fr (by cases B12 <;> kernel_rfl) (fun hB hh => ?_) ?_
 cases B12 <;> first | (exact absurd hB (by decide)) | skip
 have c12 : (¬ (makesQ i.op)) := iB12.1 rfl
 exact From_ld (some 109) ⟨b1, 1, none⟩ fr (by kernel_rfl) (.int .i64 i.dst) (blk_cell (M11.get 0 rfl) rfl) hh
 intro aC fr
 refine zpk 2 9 [111] fr (news := [(111, (.bool (B12 && ((i.dst : Int) != (-1)))))]) (by cases B12 <;> kernel_rfl) ?_
 intro aC fr
 revert aC
 refine zfe <| zcP (B12 && ((i.dst : Int) != (-1))) ((¬ (makesQ i.op)) ∧ ((i.dst : Int) ≠ (-1))) (by simp only [Bool.and_eq_true, bne_iff_ne, iB12]) (fun c21 => ?_) (fun c21 => ?_)
 refine zsp <| zre <| zo1 (.bool false) ?_
 have hR : false = true ↔ False := by simp
 have M22 := M11.od [] 0
 exact ⟨bool_dec hR (⟨False.elim, fun h => rshape_no c21 h⟩), M22⟩
 refine zsk <| zsr ?_
 intro aC fr
 refine zpk 4 4 [112, 113, 114, 115] fr (news := [(112, (.bool bn)), (113, (.bool bn)), (114, (cond bn (.bool bm) undef)), (115, (cond bn (pT b1 3) undef))]) (by cases bn <;> kernel_rfl) ?_
 intro aC fr
 refine From_either (B := bn) (d := (some 116)) (.string i.name) fr (by cases bn <;> kernel_rfl) (fun hB hh => ?_) ?_
 cases bn <;> first | (exact absurd hB (by decide)) | skip
 exact From_ld (some 116) ⟨b1, 3, none⟩ fr (by kernel_rfl) (.string i.name) (blk_cell (M11.get 0 rfl) rfl) hh
 intro aC fr
 refine zpk 4 9 [119, 120] fr (news := [(119, (.bool (bn && (bm == (!((i.name : ByteArray).toList == (⟨#[]⟩ : ByteArray).toList)))))), (120, (.bool (bn && (bm == (!((i.name : ByteArray).toList == (⟨#[]⟩ : ByteArray).toList))))))]) (by cases bn <;> kernel_rfl) ?_
 intro aC fr
 obtain ⟨B31, hB31⟩ : ∃ B : Bool, B = (bn && (bm == (!((i.name : ByteArray).toList == (⟨#[]⟩ : ByteArray).toList)))) := ⟨_, rfl⟩
 revert aC
 refine zkp [(1, (pT b1 0)), (3, (.int .i64 lo)), (4, (.int .i64 mo)), (6, (.bool bm)), (120, (.bool (bn && (bm == (!((i.name : ByteArray).toList == (⟨#[]⟩ : ByteArray).toList))))))] ?_
 rw [← hB31]
 have iB31 : B31 = true ↔ ((bn = true) ∧ (bm = (!((i.name : ByteArray).toList == (⟨#[]⟩ : ByteArray).toList)))) := by rw [hB31]; simp only [Bool.and_eq_true, beq_iff_eq, notT, seq_nil]
 clear hB31
 intro aC fr
 refine zpk 3 12 [123] fr (news := [(123, (cond B31 (.bool (!bm)) undef))]) (by cases B31 <;> kernel_rfl) ?_
 intro aC fr
 obtain ⟨B36, hB36⟩ : ∃ B : Bool, B = (!bm) := ⟨_, rfl⟩
 revert aC
 refine zkp [(1, (pT b1 0)), (3, (.int .i64 lo)), (4, (.int .i64 mo)), (120, (.bool B31)), (123, (cond B31 (.bool (!bm)) undef))] ?_
 rw [← hB36]
 have iB36 : B36 = true ↔ (¬ (bm = true)) := by rw [hB36]; simp only [notT]
 clear hB36
 intro aC fr
 refine zpk 1 13 [124] fr (news := [(124, (cond (B31 && !B36) (pT b1 3) undef))]) (by cases B31 <;> cases B36 <;> kernel_rfl) ?_
 intro aC fr
 refine From_either (B := (B31 && !B36)) (d := (some 125)) (.string i.name) fr (by cases B31 <;> cases B36 <;> kernel_rfl) (fun hB hh => ?_) ?_
 cases B31 <;> cases B36 <;> first | (exact absurd hB (by decide)) | skip
 have c31 : ((bn = true) ∧ (bm = (!((i.name : ByteArray).toList == (⟨#[]⟩ : ByteArray).toList)))) := iB31.1 rfl
 have c36 : ¬ (¬ (bm = true)) := (fun h => Bool.noConfusion (iB36.2 h) : ¬ (¬ (bm = true)))
 exact From_ld (some 125) ⟨b1, 3, none⟩ fr (by kernel_rfl) (.string i.name) (blk_cell (M11.get 0 rfl) rfl) hh
 intro aC fr
 refine From_eitherC (B := (B31 && !B36)) (d := (some 126)) (.bool (decide (nameQ i.name))) fr (by cases B31 <;> cases B36 <;> kernel_rfl) (fun hB hh => ?_) ?_
 cases B31 <;> cases B36 <;> first | (exact absurd hB (by decide)) | skip
 have c31 : ((bn = true) ∧ (bm = (!((i.name : ByteArray).toList == (⟨#[]⟩ : ByteArray).toList)))) := iB31.1 rfl
 have c36 : ¬ (¬ (bm = true)) := (fun h => Bool.noConfusion (iB36.2 h) : ¬ (¬ (bm = true)))
 refine From_cl (some 126) 26 [(.string i.name)] fr (by kernel_rfl) (rname_c i.name w10) ?_
 rintro _ w2 ⟨rfl, hm2⟩ a2 hF2; exact hh a2 w2 hm2 hF2
 intro aC w43 M44x fr
 have M44 := M11.cl M44x
 refine zpk 3 18 [128, 129] fr (news := [(128, (.bool (B31 && (B36 || decide (nameQ i.name))))), (129, (.bool (B31 && (B36 || decide (nameQ i.name)))))]) (by cases B31 <;> cases B36 <;> kernel_rfl) ?_
 intro aC fr
 obtain ⟨B49, hB49⟩ : ∃ B : Bool, B = (B31 && (B36 || decide (nameQ i.name))) := ⟨_, rfl⟩
 revert aC
 refine zkp [(1, (pT b1 0)), (3, (.int .i64 lo)), (4, (.int .i64 mo)), (129, (.bool (B31 && (B36 || decide (nameQ i.name)))))] ?_
 rw [← hB49]
 have iB49 : B49 = true ↔ (((bn = true) ∧ (bm = (!((i.name : ByteArray).toList == (⟨#[]⟩ : ByteArray).toList)))) ∧ ((¬ (bm = true)) ∨ (nameQ i.name))) := by rw [hB49]; simp only [Bool.and_eq_true, Bool.or_eq_true, decide_eq_true_eq, iB31, iB36]
 clear hB49
 intro aC fr
 refine zpk 1 19 [130] fr (news := [(130, (cond B49 (pT b1 4) undef))]) (by cases B49 <;> kernel_rfl) ?_
 intro aC fr
 refine From_either (B := B49) (d := (some 131)) (.slice i.A i.args.length i.c) fr (by cases B49 <;> kernel_rfl) (fun hB hh => ?_) ?_
 cases B49 <;> first | (exact absurd hB (by decide)) | skip
 have c49 : (((bn = true) ∧ (bm = (!((i.name : ByteArray).toList == (⟨#[]⟩ : ByteArray).toList)))) ∧ ((¬ (bm = true)) ∨ (nameQ i.name))) := iB49.1 rfl
 exact From_ld (some 131) ⟨b1, 4, none⟩ fr (by kernel_rfl) (.slice i.A i.args.length i.c) (blk_cell (M44.get 0 rfl) rfl) hh
 intro aC fr
 refine zpk 5 25 [135, 136] fr (news := [(135, (.bool (B49 && decide ((((i.args.length : Nat) : Int) : Int) ≥ lo)))), (136, (.bool (B49 && decide ((((i.args.length : Nat) : Int) : Int) ≥ lo))))]) (by cases B49 <;> kernel_rfl) ?_
 intro aC fr
 obtain ⟨B58, hB58⟩ : ∃ B : Bool, B = (B49 && decide ((((i.args.length : Nat) : Int) : Int) ≥ lo)) := ⟨_, rfl⟩
 revert aC
 refine zkp [(1, (pT b1 0)), (4, (.int .i64 mo)), (136, (.bool (B49 && decide ((((i.args.length : Nat) : Int) : Int) ≥ lo))))] ?_
 rw [← hB58]
 have iB58 : B58 = true ↔ ((((bn = true) ∧ (bm = (!((i.name : ByteArray).toList == (⟨#[]⟩ : ByteArray).toList)))) ∧ ((¬ (bm = true)) ∨ (nameQ i.name))) ∧ ((((i.args.length : Nat) : Int) : Int) ≥ lo)) := by rw [hB58]; simp only [Bool.and_eq_true, decide_eq_true_eq, iB49]
 clear hB58
 intro aC fr
 refine zpk 1 26 [137] fr (news := [(137, (cond B58 (pT b1 4) undef))]) (by cases B58 <;> kernel_rfl) ?_
 intro aC fr
 refine From_either (B := B58) (d := (some 138)) (.slice i.A i.args.length i.c) fr (by cases B58 <;> kernel_rfl) (fun hB hh => ?_) ?_
 cases B58 <;> first | (exact absurd hB (by decide)) | skip
 have c58 : ((((bn = true) ∧ (bm = (!((i.name : ByteArray).toList == (⟨#[]⟩ : ByteArray).toList)))) ∧ ((¬ (bm = true)) ∨ (nameQ i.name))) ∧ ((((i.args.length : Nat) : Int) : Int) ≥ lo)) := iB58.1 rfl
 exact From_ld (some 138) ⟨b1, 4, none⟩ fr (by kernel_rfl) (.slice i.A i.args.length i.c) (blk_cell (M44.get 0 rfl) rfl) hh
 intro aC fr
 refine zpk 5 32 [2, 142] fr (news := [(2, (.bool (B58 && decide ((((i.args.length : Nat) : Int) : Int) ≤ mo)))), (142, (.bool (B58 && decide ((((i.args.length : Nat) : Int) : Int) ≤ mo))))]) (by cases B58 <;> kernel_rfl) ?_
 intro aC fr
 revert aC
 refine zfe <| zre <| zo1 (.bool (B58 && decide ((((i.args.length : Nat) : Int) : Int) ≤ mo))) ?_
 have hR : (B58 && decide ((((i.args.length : Nat) : Int) : Int) ≤ mo)) = true ↔ (((((bn = true) ∧ (bm = (!((i.name : ByteArray).toList == (⟨#[]⟩ : ByteArray).toList)))) ∧ ((¬ (bm = true)) ∨ (nameQ i.name))) ∧ ((((i.args.length : Nat) : Int) : Int) ≥ lo)) ∧ ((((i.args.length : Nat) : Int) : Int) ≤ mo)) := by simp only [Bool.and_eq_true, decide_eq_true_eq, iB58]
 have M67 := M44.od [] 0
 exact ⟨bool_dec hR (rshape_fin (seq_nil _) hsh c21), M67⟩
 revert aC
 refine zbk 0 <| zsr <| zpn 1 <| zld ⟨b1, 0, none⟩ (.int .i64 i.op) (blk_cell (M3.get 0 rfl) rfl) <| zpn 2 <| zfe <| zcP ((i.op : Int) == 1) ((i.op : Int) = 1) (by simp only [beq_iff_eq]) (fun c68 => ?_) (fun c68 => ?_)
 refine zrp ?_
 intro aC fr
 exact ⟨0, 0, true, false, fr.kp [1, 3, 4, 5, 6], M3, by rw [shape_1 (by omega), caseF litT]; unfold makesQ; simp only [true_and]; constructor <;> intro h <;> first | omega | exact h.elim⟩
 refine zsr <| zpn 1 <| zld ⟨b1, 0, none⟩ (.int .i64 i.op) (blk_cell (M3.get 0 rfl) rfl) <| zpn 2 <| zfe <| zcP ((i.op : Int) == 2) ((i.op : Int) = 2) (by simp only [beq_iff_eq]) (fun c71 => ?_) (fun c71 => ?_)
 obtain ⟨B72, hB72⟩ : ∃ B : Bool, B = decide (i.n ≥ 0) := ⟨_, rfl⟩
 cases B72
 have c72 : ¬ (i.n ≥ 0) := of_decide_eq_false hB72.symm
 refine zkp [(1, (pT b1 0)), (3, (.int .i64 0)), (4, (.int .i64 0)), (5, (.bool ((i.n : Int) == 0))), (6, (.bool false))] ?_
 intro aC fr
 refine zdr (N := 143) (env0 := [(1, (pT b1 0)), (3, (.int .i64 0)), (4, (.int .i64 0)), (5, (.bool ((i.n : Int) == 0))), (6, (.bool false))]) (specAt [.det (pT b1 2), .det (.int .i64 i.n), .det (.bool false), .det (.bool false), dU, dU, dU, .det (.bool false), .det (.int .i64 1), .det (.int .i64 1), .det (.bool false)]) fr (la (la (la (la (la (la (la (la (la (la (la lz dP) (dL ⟨b1, 2, none⟩ (.int .i64 i.n) fun w_ hK => (blk_cell ((M3.then_ hK).get 0 rfl) rfl))) (dC (decide (i.n ≥ 0)) hB72)) dP) dK) dK) dK) dP) dP) dP) dP) ?_
 intro aC w77 vs hK hv fr
 revert aC; refine zkp [(1, (pT b1 0)), (3, (.int .i64 1)), (4, (.int .i64 1)), (5, (.bool false)), (6, (.bool false))] ?_
 have M78 := M3.then_ hK
 clear hK hv fr aC M3; clear vs
 intro aC fr
 exact ⟨1, 1, false, false, fr.kp [1, 3, 4, 5, 6], M78, by rw [shape_2 (by omega), caseF litF]; unfold makesQ; simp only [false_and, and_false]; constructor <;> intro h <;> first | omega | exact h.elim⟩
 have c72 : i.n ≥ 0 := of_decide_eq_true hB72.symm
 obtain ⟨B81, hB81⟩ : ∃ B : Bool, B = decide (i.n ≤ 2147483647) := ⟨_, rfl⟩
 refine zkp [(1, (pT b1 0)), (3, (.int .i64 0)), (4, (.int .i64 0)), (5, (.bool ((i.n : Int) == 0))), (6, (.bool false))] ?_
 intro aC fr
 refine zdr (N := 143) (env0 := [(1, (pT b1 0)), (3, (.int .i64 0)), (4, (.int .i64 0)), (5, (.bool ((i.n : Int) == 0))), (6, (.bool false))]) (specAt [.det (pT b1 2), .det (.int .i64 i.n), .det (.bool true), .det (.bool true), .det (pT b1 2), .det (.int .i64 i.n), .det (.bool B81), .det (.bool B81), .det (.int .i64 1), .det (.int .i64 1), .det (.bool B81)]) fr (la (la (la (la (la (la (la (la (la (la (la lz dP) (dL ⟨b1, 2, none⟩ (.int .i64 i.n) fun w_ hK => (blk_cell ((M3.then_ hK).get 0 rfl) rfl))) (dC (decide (i.n ≥ 0)) hB72)) dP) dP) (dL ⟨b1, 2, none⟩ (.int .i64 i.n) fun w_ hK => (blk_cell ((M3.then_ hK).get 0 rfl) rfl))) (dC (decide (i.n ≤ 2147483647)) hB81)) dP) dP) dP) dP) ?_
 intro aC w86 vs hK hv fr
 revert aC; refine zkp [(1, (pT b1 0)), (3, (.int .i64 1)), (4, (.int .i64 1)), (5, (.bool B81)), (6, (.bool false))] ?_
 have M87 := M3.then_ hK
 clear hK hv fr aC M3; clear vs
 have iB81 : B81 = true ↔ ((i.n : Int) ≤ 2147483647) := by rw [hB81]; simp only [decide_eq_true_eq]
 clear hB81
 intro aC fr
 exact ⟨1, 1, B81, false, fr.kp [1, 3, 4, 5, 6], M87, by rw [shape_2 (by omega), caseF (show B81 = true ↔ ((i.n : Int) ≤ 2147483647) by simp only [iB81])]; unfold makesQ; constructor <;> intro h <;> first | omega | exact h.elim⟩
 refine zsr <| zpn 1 <| zld ⟨b1, 0, none⟩ (.int .i64 i.op) (blk_cell (M3.get 0 rfl) rfl) <| zkp [(1, (pT b1 0)), (3, (.int .i64 0)), (4, (.int .i64 0)), (5, (.bool ((i.n : Int) == 0))), (6, (.bool false)), (28, (.int .i64 i.op))] <| zpn 2 <| zfe <| zcP ((i.op : Int) == 3) ((i.op : Int) = 3) (by simp only [beq_iff_eq]) (fun c90 => ?_) (fun c90 => ?_)
 obtain ⟨B91, hB91⟩ : ∃ B : Bool, B = decide (i.n ≥ 0) := ⟨_, rfl⟩
 cases B91
 have c91 : ¬ (i.n ≥ 0) := of_decide_eq_false hB91.symm
 refine zkp [(1, (pT b1 0)), (3, (.int .i64 0)), (4, (.int .i64 0)), (5, (.bool ((i.n : Int) == 0))), (6, (.bool false))] ?_
 intro aC fr
 refine zdr (N := 143) (env0 := [(1, (pT b1 0)), (3, (.int .i64 0)), (4, (.int .i64 0)), (5, (.bool ((i.n : Int) == 0))), (6, (.bool false))]) (specAt [.det (pT b1 2), .det (.int .i64 i.n), .det (.bool false), .det (.bool false), dU, dU, dU, .det (.bool false), .det (.int .i64 2), .det (.int .i64 2), .det (.bool false)]) fr (la (la (la (la (la (la (la (la (la (la (la lz dP) (dL ⟨b1, 2, none⟩ (.int .i64 i.n) fun w_ hK => (blk_cell ((M3.then_ hK).get 0 rfl) rfl))) (dC (decide (i.n ≥ 0)) hB91)) dP) dK) dK) dK) dP) dP) dP) dP) ?_
 intro aC w96 vs hK hv fr
 revert aC; refine zkp [(1, (pT b1 0)), (3, (.int .i64 2)), (4, (.int .i64 2)), (5, (.bool false)), (6, (.bool false))] ?_
 have M97 := M3.then_ hK
 clear hK hv fr aC M3; clear vs
 intro aC fr
 exact ⟨2, 2, false, false, fr.kp [1, 3, 4, 5, 6], M97, by rw [shape_3 (by omega), caseF litF]; unfold makesQ; simp only [false_and, and_false]; constructor <;> intro h <;> first | omega | exact h.elim⟩
 have c91 : i.n ≥ 0 := of_decide_eq_true hB91.symm
 obtain ⟨B100, hB100⟩ : ∃ B : Bool, B = decide (i.n ≤ 2147483647) := ⟨_, rfl⟩
 refine zkp [(1, (pT b1 0)), (3, (.int .i64 0)), (4, (.int .i64 0)), (5, (.bool ((i.n : Int) == 0))), (6, (.bool false))] ?_
 intro aC fr
 refine zdr (N := 143) (env0 := [(1, (pT b1 0)), (3, (.int .i64 0)), (4, (.int .i64 0)), (5, (.bool ((i.n : Int) == 0))), (6, (.bool false))]) (specAt [.det (pT b1 2), .det (.int .i64 i.n), .det (.bool true), .det (.bool true), .det (pT b1 2), .det (.int .i64 i.n), .det (.bool B100), .det (.bool B100), .det (.int .i64 2), .det (.int .i64 2), .det (.bool B100)]) fr (la (la (la (la (la (la (la (la (la (la (la lz dP) (dL ⟨b1, 2, none⟩ (.int .i64 i.n) fun w_ hK => (blk_cell ((M3.then_ hK).get 0 rfl) rfl))) (dC (decide (i.n ≥ 0)) hB91)) dP) dP) (dL ⟨b1, 2, none⟩ (.int .i64 i.n) fun w_ hK => (blk_cell ((M3.then_ hK).get 0 rfl) rfl))) (dC (decide (i.n ≤ 2147483647)) hB100)) dP) dP) dP) dP) ?_
 intro aC w105 vs hK hv fr
 revert aC; refine zkp [(1, (pT b1 0)), (3, (.int .i64 2)), (4, (.int .i64 2)), (5, (.bool B100)), (6, (.bool false))] ?_
 have M106 := M3.then_ hK
 clear hK hv fr aC M3; clear vs
 have iB100 : B100 = true ↔ ((i.n : Int) ≤ 2147483647) := by rw [hB100]; simp only [decide_eq_true_eq]
 clear hB100
 intro aC fr
 exact ⟨2, 2, B100, false, fr.kp [1, 3, 4, 5, 6], M106, by rw [shape_3 (by omega), caseF (show B100 = true ↔ ((i.n : Int) ≤ 2147483647) by simp only [iB100])]; unfold makesQ; constructor <;> intro h <;> first | omega | exact h.elim⟩
 refine zsr <| zpn 1 <| zld ⟨b1, 0, none⟩ (.int .i64 i.op) (blk_cell (M3.get 0 rfl) rfl) <| zpn 2 <| zfe <| zcP ((i.op : Int) == 4) ((i.op : Int) = 4) (by simp only [beq_iff_eq]) (fun c109 => ?_) (fun c109 => ?_)
 refine zrp ?_
 intro aC fr
 exact ⟨0, 16, ((i.n : Int) == 0), true, fr.kp [1, 3, 4, 5, 6], M3, by rw [shape_4 (by omega), caseT (show ((i.n : Int) == 0) = true ↔ ((i.n : Int) = 0) by simp only [beq_iff_eq])]; unfold makesQ nameQ; constructor <;> intro h <;> omega⟩
 refine zsr <| zpn 1 <| zld ⟨b1, 0, none⟩ (.int .i64 i.op) (blk_cell (M3.get 0 rfl) rfl) <| zpn 2 <| zfe <| zcP ((i.op : Int) == 5) ((i.op : Int) = 5) (by simp only [beq_iff_eq]) (fun c112 => ?_) (fun c112 => ?_)
 refine zrp ?_
 intro aC fr
 exact ⟨1, 17, ((i.n : Int) == 0), false, fr.kp [1, 3, 4, 5, 6], M3, by rw [shape_5 (by omega), caseF (show ((i.n : Int) == 0) = true ↔ ((i.n : Int) = 0) by simp only [beq_iff_eq])]; unfold makesQ; constructor <;> intro h <;> first | omega | exact h.elim⟩
 refine zsr <| zpn 1 <| zld ⟨b1, 0, none⟩ (.int .i64 i.op) (blk_cell (M3.get 0 rfl) rfl) <| zpn 2 ?_
 obtain ⟨B115, hB115⟩ : ∃ B : Bool, B = ((i.op : Int) == 6) := ⟨_, rfl⟩
 refine zkp [(1, (pT b1 0)), (3, (.int .i64 0)), (4, (.int .i64 0)), (5, (.bool ((i.n : Int) == 0))), (6, (.bool false)), (50, (.bool ((i.op : Int) == 6)))] ?_
 rw [← hB115]
 have iB115 : B115 = true ↔ ((i.op : Int) = 6) := by rw [hB115]; simp only [beq_iff_eq]
 clear hB115
 intro aC fr
 refine zpk 1 5 [51] fr (news := [(51, (cond (!B115) (pT b1 0) undef))]) (by cases B115 <;> kernel_rfl) ?_
 intro aC fr
 refine From_either (B := (!B115)) (d := (some 52)) (.int .i64 i.op) fr (by cases B115 <;> kernel_rfl) (fun hB hh => ?_) ?_
 cases B115 <;> first | (exact absurd hB (by decide)) | skip
 have c115 : ¬ ((i.op : Int) = 6) := (fun h => Bool.noConfusion (iB115.2 h) : ¬ ((i.op : Int) = 6))
 exact From_ld (some 52) ⟨b1, 0, none⟩ fr (by kernel_rfl) (.int .i64 i.op) (blk_cell (M3.get 0 rfl) rfl) hh
 intro aC fr
 refine zpk 3 9 [46, 54] fr (news := [(46, (.bool (B115 || ((i.op : Int) == 7)))), (54, (.bool (B115 || ((i.op : Int) == 7))))]) (by cases B115 <;> kernel_rfl) ?_
 intro aC fr
 revert aC
 refine zfe <| zcP (B115 || ((i.op : Int) == 7)) (((i.op : Int) = 6) ∨ ((i.op : Int) = 7)) (by simp only [Bool.or_eq_true, beq_iff_eq, iB115]) (fun c124 => ?_) (fun c124 => ?_)
 refine zrp ?_
 intro aC fr
 exact ⟨0, 0, ((i.n : Int) == 0), true, fr.kp [1, 3, 4, 5, 6], M3, by rcases c124 with c0 | c0; (rw [shape_6 c0, caseT (show ((i.n : Int) == 0) = true ↔ ((i.n : Int) = 0) by simp only [beq_iff_eq])]; unfold makesQ nameQ; constructor <;> intro h <;> omega); (rw [shape_7 c0, caseT (show ((i.n : Int) == 0) = true ↔ ((i.n : Int) = 0) by simp only [beq_iff_eq])]; unfold makesQ nameQ; constructor <;> intro h <;> omega)⟩
 refine zsr <| zpn 1 <| zld ⟨b1, 0, none⟩ (.int .i64 i.op) (blk_cell (M3.get 0 rfl) rfl) <| zpn 2 ?_
 obtain ⟨B127, hB127⟩ : ∃ B : Bool, B = ((i.op : Int) == 8) := ⟨_, rfl⟩
 refine zkp [(1, (pT b1 0)), (3, (.int .i64 0)), (4, (.int .i64 0)), (5, (.bool ((i.n : Int) == 0))), (6, (.bool false)), (59, (.bool ((i.op : Int) == 8)))] ?_
 rw [← hB127]
 have iB127 : B127 = true ↔ ((i.op : Int) = 8) := by rw [hB127]; simp only [beq_iff_eq]
 clear hB127
 intro aC fr
 refine zpk 1 5 [60] fr (news := [(60, (cond (!B127) (pT b1 0) undef))]) (by cases B127 <;> kernel_rfl) ?_
 intro aC fr
 refine From_either (B := (!B127)) (d := (some 61)) (.int .i64 i.op) fr (by cases B127 <;> kernel_rfl) (fun hB hh => ?_) ?_
 cases B127 <;> first | (exact absurd hB (by decide)) | skip
 have c127 : ¬ ((i.op : Int) = 8) := (fun h => Bool.noConfusion (iB127.2 h) : ¬ ((i.op : Int) = 8))
 exact From_ld (some 61) ⟨b1, 0, none⟩ fr (by kernel_rfl) (.int .i64 i.op) (blk_cell (M3.get 0 rfl) rfl) hh
 intro aC fr
 refine zpk 3 9 [63, 64] fr (news := [(63, (.bool (B127 || ((i.op : Int) == 10)))), (64, (.bool (B127 || ((i.op : Int) == 10))))]) (by cases B127 <;> kernel_rfl) ?_
 intro aC fr
 obtain ⟨B136, hB136⟩ : ∃ B : Bool, B = (B127 || ((i.op : Int) == 10)) := ⟨_, rfl⟩
 revert aC
 refine zkp [(1, (pT b1 0)), (3, (.int .i64 0)), (4, (.int .i64 0)), (5, (.bool ((i.n : Int) == 0))), (6, (.bool false)), (64, (.bool (B127 || ((i.op : Int) == 10))))] ?_
 rw [← hB136]
 have iB136 : B136 = true ↔ (((i.op : Int) = 8) ∨ ((i.op : Int) = 10)) := by rw [hB136]; simp only [Bool.or_eq_true, beq_iff_eq, iB127]
 clear hB136
 intro aC fr
 refine zpk 1 10 [65] fr (news := [(65, (cond (!B136) (pT b1 0) undef))]) (by cases B136 <;> kernel_rfl) ?_
 intro aC fr
 refine From_either (B := (!B136)) (d := (some 66)) (.int .i64 i.op) fr (by cases B136 <;> kernel_rfl) (fun hB hh => ?_) ?_
 cases B136 <;> first | (exact absurd hB (by decide)) | skip
 have c136 : ¬ (((i.op : Int) = 8) ∨ ((i.op : Int) = 10)) := (fun h => Bool.noConfusion (iB136.2 h) : ¬ (((i.op : Int) = 8) ∨ ((i.op : Int) = 10)))
 exact From_ld (some 66) ⟨b1, 0, none⟩ fr (by kernel_rfl) (.int .i64 i.op) (blk_cell (M3.get 0 rfl) rfl) hh
 intro aC fr
 refine zpk 3 14 [55, 68] fr (news := [(55, (.bool (B136 || ((i.op : Int) == 12)))), (68, (.bool (B136 || ((i.op : Int) == 12))))]) (by cases B136 <;> kernel_rfl) ?_
 intro aC fr
 revert aC
 refine zfe <| zcP (B136 || ((i.op : Int) == 12)) ((((i.op : Int) = 8) ∨ ((i.op : Int) = 10)) ∨ ((i.op : Int) = 12)) (by simp only [Bool.or_eq_true, beq_iff_eq, iB136]) (fun c145 => ?_) (fun c145 => ?_)
 refine zrp ?_
 intro aC fr
 exact ⟨1, 1, ((i.n : Int) == 0), false, fr.kp [1, 3, 4, 5, 6], M3, by rcases c145 with (c0 | c0) | c0; (rw [shape_8 c0, caseF (show ((i.n : Int) == 0) = true ↔ ((i.n : Int) = 0) by simp only [beq_iff_eq])]; unfold makesQ; constructor <;> intro h <;> first | omega | exact h.elim); (rw [shape_10 c0, caseF (show ((i.n : Int) == 0) = true ↔ ((i.n : Int) = 0) by simp only [beq_iff_eq])]; unfold makesQ; constructor <;> intro h <;> first | omega | exact h.elim); (rw [shape_12 c0, caseF (show ((i.n : Int) == 0) = true ↔ ((i.n : Int) = 0) by simp only [beq_iff_eq])]; unfold makesQ; constructor <;> intro h <;> first | omega | exact h.elim)⟩
 refine zsr <| zpn 1 <| zld ⟨b1, 0, none⟩ (.int .i64 i.op) (blk_cell (M3.get 0 rfl) rfl) <| zpn 2 <| zfe <| zcP ((i.op : Int) == 9) ((i.op : Int) = 9) (by simp only [beq_iff_eq]) (fun c148 => ?_) (fun c148 => ?_)
 refine zsk ?_
 intro aC fr
 exact ⟨0, 0, ((i.n : Int) == 0), false, fr.kp [1, 3, 4, 5, 6], M3, by rw [shape_9 (by omega), caseF (show ((i.n : Int) == 0) = true ↔ ((i.n : Int) = 0) by simp only [beq_iff_eq])]; unfold makesQ; constructor <;> intro h <;> first | omega | exact h.elim⟩
 refine zsr <| zpn 1 <| zld ⟨b1, 0, none⟩ (.int .i64 i.op) (blk_cell (M3.get 0 rfl) rfl) <| zpn 2 <| zfe <| zcP ((i.op : Int) == 11) ((i.op : Int) = 11) (by simp only [beq_iff_eq]) (fun c151 => ?_) (fun c151 => ?_)
 obtain ⟨B152, hB152⟩ : ∃ B : Bool, B = decide (i.n ≥ 1) := ⟨_, rfl⟩
 cases B152
 have c152 : ¬ (i.n ≥ 1) := of_decide_eq_false hB152.symm
 refine zkp [(1, (pT b1 0)), (5, (.bool ((i.n : Int) == 0))), (6, (.bool false))] ?_
 intro aC fr
 refine zdr (N := 143) (env0 := [(1, (pT b1 0)), (5, (.bool ((i.n : Int) == 0))), (6, (.bool false))]) (specAt [.det (pT b1 2), .det (.int .i64 i.n), .det (.bool false), .det (.bool false), dU, dU, dU, .det (.bool false), .det (.int .i64 1), .det (.int .i64 1), .det (.bool false)]) fr (la (la (la (la (la (la (la (la (la (la (la lz dP) (dL ⟨b1, 2, none⟩ (.int .i64 i.n) fun w_ hK => (blk_cell ((M3.then_ hK).get 0 rfl) rfl))) (dC (decide (i.n ≥ 1)) hB152)) dP) dK) dK) dK) dP) dP) dP) dP) ?_
 intro aC w157 vs hK hv fr
 revert aC; refine zkp [(1, (pT b1 0)), (3, (.int .i64 1)), (4, (.int .i64 1)), (5, (.bool false)), (6, (.bool false))] ?_
 have M158 := M3.then_ hK
 clear hK hv fr aC M3; clear vs
 intro aC fr
 exact ⟨1, 1, false, false, fr.kp [1, 3, 4, 5, 6], M158, by rw [shape_11 (by omega), caseF litF]; unfold makesQ; simp only [false_and, and_false]; constructor <;> intro h <;> first | omega | exact h.elim⟩
 have c152 : i.n ≥ 1 := of_decide_eq_true hB152.symm
 obtain ⟨B161, hB161⟩ : ∃ B : Bool, B = decide (i.n ≤ 999) := ⟨_, rfl⟩
 refine zkp [(1, (pT b1 0)), (5, (.bool ((i.n : Int) == 0))), (6, (.bool false))] ?_
 intro aC fr
 refine zdr (N := 143) (env0 := [(1, (pT b1 0)), (5, (.bool ((i.n : Int) == 0))), (6, (.bool false))]) (specAt [.det (pT b1 2), .det (.int .i64 i.n), .det (.bool true), .det (.bool true), .det (pT b1 2), .det (.int .i64 i.n), .det (.bool B161), .det (.bool B161), .det (.int .i64 1), .det (.int .i64 1), .det (.bool B161)]) fr (la (la (la (la (la (la (la (la (la (la (la lz dP) (dL ⟨b1, 2, none⟩ (.int .i64 i.n) fun w_ hK => (blk_cell ((M3.then_ hK).get 0 rfl) rfl))) (dC (decide (i.n ≥ 1)) hB152)) dP) dP) (dL ⟨b1, 2, none⟩ (.int .i64 i.n) fun w_ hK => (blk_cell ((M3.then_ hK).get 0 rfl) rfl))) (dC (decide (i.n ≤ 999)) hB161)) dP) dP) dP) dP) ?_
 intro aC w166 vs hK hv fr
 revert aC; refine zkp [(1, (pT b1 0)), (3, (.int .i64 1)), (4, (.int .i64 1)), (5, (.bool B161)), (6, (.bool false))] ?_
 have M167 := M3.then_ hK
 clear hK hv fr aC M3; clear vs
 have iB161 : B161 = true ↔ ((i.n : Int) ≤ 999) := by rw [hB161]; simp only [decide_eq_true_eq]
 clear hB161
 intro aC fr
 exact ⟨1, 1, B161, false, fr.kp [1, 3, 4, 5, 6], M167, by rw [shape_11 (by omega), caseF (show B161 = true ↔ ((i.n : Int) ≤ 999) by simp only [iB161])]; unfold makesQ; constructor <;> intro h <;> first | omega | exact h.elim⟩
 refine zsr <| zpn 1 <| zld ⟨b1, 0, none⟩ (.int .i64 i.op) (blk_cell (M3.get 0 rfl) rfl) <| zpn 2 ?_
 obtain ⟨B170, hB170⟩ : ∃ B : Bool, B = decide ((i.op : Int) ≥ 17) := ⟨_, rfl⟩
 refine zkp [(1, (pT b1 0)), (5, (.bool ((i.n : Int) == 0))), (6, (.bool false)), (89, (.bool (decide ((i.op : Int) ≥ 17))))] ?_
 rw [← hB170]
 have iB170 : B170 = true ↔ ((i.op : Int) ≥ 17) := by rw [hB170]; simp only [decide_eq_true_eq]
 clear hB170
 intro aC fr
 refine zpk 1 5 [90] fr (news := [(90, (cond B170 (pT b1 0) undef))]) (by cases B170 <;> kernel_rfl) ?_
 intro aC fr
 refine From_either (B := B170) (d := (some 91)) (.int .i64 i.op) fr (by cases B170 <;> kernel_rfl) (fun hB hh => ?_) ?_
 cases B170 <;> first | (exact absurd hB (by decide)) | skip
 have c170 : ((i.op : Int) ≥ 17) := iB170.1 rfl
 exact From_ld (some 91) ⟨b1, 0, none⟩ fr (by kernel_rfl) (.int .i64 i.op) (blk_cell (M3.get 0 rfl) rfl) hh
 intro aC fr
 refine zpk 3 9 [85, 93] fr (news := [(85, (.bool (B170 && decide ((i.op : Int) ≤ 32)))), (93, (.bool (B170 && decide ((i.op : Int) ≤ 32))))]) (by cases B170 <;> kernel_rfl) ?_
 intro aC fr
 revert aC
 refine zfe <| zcP (B170 && decide ((i.op : Int) ≤ 32)) (((i.op : Int) ≥ 17) ∧ ((i.op : Int) ≤ 32)) (by simp only [Bool.and_eq_true, decide_eq_true_eq, iB170]) (fun c179 => ?_) (fun c179 => ?_)
 refine zrp ?_
 intro aC fr
 exact ⟨2, 2, ((i.n : Int) == 0), false, fr.kp [1, 3, 4, 5, 6], M3, by rw [shape_big (by omega), caseF (show ((i.n : Int) == 0) = true ↔ ((i.n : Int) = 0) by simp only [beq_iff_eq])]; unfold makesQ; constructor <;> intro h <;> first | omega | exact h.elim⟩
 refine zsr <| zpn 1 <| zld ⟨b1, 0, none⟩ (.int .i64 i.op) (blk_cell (M3.get 0 rfl) rfl) <| zpn 2 ?_
 obtain ⟨B182, hB182⟩ : ∃ B : Bool, B = decide ((i.op : Int) ≥ 41) := ⟨_, rfl⟩
 refine zkp [(1, (pT b1 0)), (5, (.bool ((i.n : Int) == 0))), (6, (.bool false)), (98, (.bool (decide ((i.op : Int) ≥ 41))))] ?_
 rw [← hB182]
 have iB182 : B182 = true ↔ ((i.op : Int) ≥ 41) := by rw [hB182]; simp only [decide_eq_true_eq]
 clear hB182
 intro aC fr
 refine zpk 1 5 [99] fr (news := [(99, (cond B182 (pT b1 0) undef))]) (by cases B182 <;> kernel_rfl) ?_
 intro aC fr
 refine From_either (B := B182) (d := (some 100)) (.int .i64 i.op) fr (by cases B182 <;> kernel_rfl) (fun hB hh => ?_) ?_
 cases B182 <;> first | (exact absurd hB (by decide)) | skip
 have c182 : ((i.op : Int) ≥ 41) := iB182.1 rfl
 exact From_ld (some 100) ⟨b1, 0, none⟩ fr (by kernel_rfl) (.int .i64 i.op) (blk_cell (M3.get 0 rfl) rfl) hh
 intro aC fr
 refine zpk 3 9 [94, 102] fr (news := [(94, (.bool (B182 && decide ((i.op : Int) ≤ 43)))), (102, (.bool (B182 && decide ((i.op : Int) ≤ 43))))]) (by cases B182 <;> kernel_rfl) ?_
 intro aC fr
 revert aC
 refine zfe <| zcP (B182 && decide ((i.op : Int) ≤ 43)) (((i.op : Int) ≥ 41) ∧ ((i.op : Int) ≤ 43)) (by simp only [Bool.and_eq_true, decide_eq_true_eq, iB182]) (fun c191 => ?_) (fun c191 => ?_)
 refine zrp ?_
 intro aC fr
 exact ⟨1, 1, ((i.n : Int) == 0), false, fr.kp [1, 3, 4, 5, 6], M3, by rw [shape_big (by omega), caseF (show ((i.n : Int) == 0) = true ↔ ((i.n : Int) = 0) by simp only [beq_iff_eq])]; unfold makesQ; constructor <;> intro h <;> first | omega | exact h.elim⟩
 refine zsp <| zre <| zbr <| zo1 (.bool false) ?_
 have hR : false = true ↔ False := by simp
 have M194 := M3.od [] 0
 exact ⟨bool_dec hR (⟨False.elim, fun h => by unfold shapeQ at h; omega⟩), M194⟩
end Go.Proofs.Ytjekgaabcigphaa
namespace Go.Proofs.Ytjekgaabcigphaa
open Go.Mor
theorem rvalid_c (nm : ByteArray) (wk : Bool) (pa va : Int) (A : Option Addr) (c : Nat) (fs : List FBlk) (w : World) (hN : fs.length ≤ 1000) (hok : FOk fs) (hA : RO noS w (.fn A fs)) :
    Calls Try.prog 12 #[(fA nm wk pa va A c fs)] w (Ret fun v w' => v = .int .i64 (validN nm pa va fs) ∧ Mem noS w w' []) := by
 have hbl := bsOf_len fs
 have hm : (bsOf fs).length ≤ 1000000 := by omega
 have hB := hA.bs
 refine zen 135 [(fA nm wk pa va A c fs)] Try.func12 ?_
 have hM := Mem.init w
 refine zsr <| zbx hM 24 (fA nm wk pa va A c fs) (fV nm wk pa va A c fs) fun b1 w2 hb1 M3 => ?_
 replace M3 := M3.nf
 clear hM
 refine zpn 1 <| zfe <| zsq <| zsr <| zls ⟨b1, 0, none⟩ (fV nm wk pa va A c fs) (blk_cells (M3.get 0 rfl)) <| zcl (vs := #[(fA nm wk pa va A c fs)]) (rsize_c _ _ _ _ A c fs w2 hN hok (hA.at_ M3)) ?_
 rintro _ w4 ⟨rfl, M5x⟩
 have M5 := M3.cl M5x
 refine zpn 2 ?_
 obtain ⟨B6, hB6⟩ : ∃ B : Bool, B = decide ((((sizeF fs : Nat) : Int) : Int) > 20000) := ⟨_, rfl⟩
 refine zkp [(1, (pT b1 0)), (14, (.bool (decide ((((sizeF fs : Nat) : Int) : Int) > 20000))))] ?_
 rw [← hB6]
 have iB6 : B6 = true ↔ ((((sizeF fs : Nat) : Int) : Int) > 20000) := by rw [hB6]; simp only [decide_eq_true_eq]
 clear hB6
 intro aC fr
 refine zpk 1 5 [15] fr (news := [(15, (cond (!B6) (pT b1 3) undef))]) (by cases B6 <;> kernel_rfl) ?_
 intro aC fr
 refine From_either (B := (!B6)) (d := (some 16)) (.int .i64 va) fr (by cases B6 <;> kernel_rfl) (fun hB hh => ?_) ?_
 cases B6 <;> first | (exact absurd hB (by decide)) | skip
 have c6 : ¬ ((((sizeF fs : Nat) : Int) : Int) > 20000) := (fun h => Bool.noConfusion (iB6.2 h) : ¬ ((((sizeF fs : Nat) : Int) : Int) > 20000))
 exact From_ld (some 16) ⟨b1, 3, none⟩ fr (by kernel_rfl) (.int .i64 va) (blk_cell (M5.get 0 rfl) rfl) hh
 intro aC fr
 refine zpk 2 8 [18] fr (news := [(18, (.bool (B6 || decide ((va : Int) > 20000))))]) (by cases B6 <;> kernel_rfl) ?_
 intro aC fr
 revert aC
 refine zfe <| zcP (B6 || decide ((va : Int) > 20000)) (((((sizeF fs : Nat) : Int) : Int) > 20000) ∨ ((va : Int) > 20000)) (by simp only [Bool.or_eq_true, decide_eq_true_eq, iB6]) (fun c15 => ?_) (fun c15 => ?_)
 have hbig : ((sizeF fs : Int) > 20000 ∨ va > 20000) := by omega
 refine zsp <| zre <| zo1 (.int .i64 12) ?_
 have M16 := M5.od [] 0
 exact ⟨congrArg _ (valid_12 hbig), M16⟩
 have hbig : ¬ ((sizeF fs : Int) > 20000 ∨ va > 20000) := by omega
 refine zsk <| zsq <| zsr <| zpn 1 <| zld ⟨b1, 0, none⟩ (.string nm) (blk_cell (M5.get 0 rfl) rfl) <| zcl (rname_c nm w4) ?_
 rintro _ w17 ⟨rfl, M18x⟩
 have M18 := M5.cl M18x
 refine zpn 2 ?_
 obtain ⟨B19, hB19⟩ : ∃ B : Bool, B = (!(decide (nameQ nm))) := ⟨_, rfl⟩
 refine zkp [(1, (pT b1 0)), (23, (.bool (!(decide (nameQ nm)))))] ?_
 rw [← hB19]
 have iB19 : B19 = true ↔ (¬ (nameQ nm)) := by rw [hB19]; simp only [notT, decide_eq_true_eq]
 clear hB19
 intro aC fr
 refine zpk 1 6 [24] fr (news := [(24, (cond (!B19) (pT b1 2) undef))]) (by cases B19 <;> kernel_rfl) ?_
 intro aC fr
 refine From_either (B := (!B19)) (d := (some 25)) (.int .i64 pa) fr (by cases B19 <;> kernel_rfl) (fun hB hh => ?_) ?_
 cases B19 <;> first | (exact absurd hB (by decide)) | skip
 have c19 : ¬ (¬ (nameQ nm)) := (fun h => Bool.noConfusion (iB19.2 h) : ¬ (¬ (nameQ nm)))
 exact From_ld (some 25) ⟨b1, 2, none⟩ fr (by kernel_rfl) (.int .i64 pa) (blk_cell (M18.get 0 rfl) rfl) hh
 intro aC fr
 refine zpk 3 10 [27, 28] fr (news := [(27, (.bool (B19 || decide ((pa : Int) < 0)))), (28, (.bool (B19 || decide ((pa : Int) < 0))))]) (by cases B19 <;> kernel_rfl) ?_
 intro aC fr
 obtain ⟨B28, hB28⟩ : ∃ B : Bool, B = (B19 || decide ((pa : Int) < 0)) := ⟨_, rfl⟩
 revert aC
 refine zkp [(1, (pT b1 0)), (28, (.bool (B19 || decide ((pa : Int) < 0))))] ?_
 rw [← hB28]
 have iB28 : B28 = true ↔ ((¬ (nameQ nm)) ∨ ((pa : Int) < 0)) := by rw [hB28]; simp only [Bool.or_eq_true, decide_eq_true_eq, iB19]
 clear hB28
 intro aC fr
 refine zpk 1 11 [29] fr (news := [(29, (cond (!B28) (pT b1 2) undef))]) (by cases B28 <;> kernel_rfl) ?_
 intro aC fr
 refine From_either (B := (!B28)) (d := (some 30)) (.int .i64 pa) fr (by cases B28 <;> kernel_rfl) (fun hB hh => ?_) ?_
 cases B28 <;> first | (exact absurd hB (by decide)) | skip
 have c28 : ¬ ((¬ (nameQ nm)) ∨ ((pa : Int) < 0)) := (fun h => Bool.noConfusion (iB28.2 h) : ¬ ((¬ (nameQ nm)) ∨ ((pa : Int) < 0)))
 exact From_ld (some 30) ⟨b1, 2, none⟩ fr (by kernel_rfl) (.int .i64 pa) (blk_cell (M18.get 0 rfl) rfl) hh
 intro aC fr
 refine zpk 3 15 [32, 33] fr (news := [(32, (.bool (B28 || decide ((pa : Int) > 16)))), (33, (.bool (B28 || decide ((pa : Int) > 16))))]) (by cases B28 <;> kernel_rfl) ?_
 intro aC fr
 obtain ⟨B37, hB37⟩ : ∃ B : Bool, B = (B28 || decide ((pa : Int) > 16)) := ⟨_, rfl⟩
 revert aC
 refine zkp [(1, (pT b1 0)), (33, (.bool (B28 || decide ((pa : Int) > 16))))] ?_
 rw [← hB37]
 have iB37 : B37 = true ↔ (((¬ (nameQ nm)) ∨ ((pa : Int) < 0)) ∨ ((pa : Int) > 16)) := by rw [hB37]; simp only [Bool.or_eq_true, decide_eq_true_eq, iB28]
 clear hB37
 intro aC fr
 refine zpk 1 16 [34] fr (news := [(34, (cond (!B37) (pT b1 2) undef))]) (by cases B37 <;> kernel_rfl) ?_
 intro aC fr
 refine From_either (B := (!B37)) (d := (some 35)) (.int .i64 pa) fr (by cases B37 <;> kernel_rfl) (fun hB hh => ?_) ?_
 cases B37 <;> first | (exact absurd hB (by decide)) | skip
 have c37 : ¬ (((¬ (nameQ nm)) ∨ ((pa : Int) < 0)) ∨ ((pa : Int) > 16)) := (fun h => Bool.noConfusion (iB37.2 h) : ¬ (((¬ (nameQ nm)) ∨ ((pa : Int) < 0)) ∨ ((pa : Int) > 16)))
 exact From_ld (some 35) ⟨b1, 2, none⟩ fr (by kernel_rfl) (.int .i64 pa) (blk_cell (M18.get 0 rfl) rfl) hh
 intro aC fr
 refine zpk 1 18 [36] fr (news := [(36, (cond (!B37) (pT b1 3) undef))]) (by cases B37 <;> kernel_rfl) ?_
 intro aC fr
 refine From_either (B := (!B37)) (d := (some 37)) (.int .i64 va) fr (by cases B37 <;> kernel_rfl) (fun hB hh => ?_) ?_
 cases B37 <;> first | (exact absurd hB (by decide)) | skip
 have c37 : ¬ (((¬ (nameQ nm)) ∨ ((pa : Int) < 0)) ∨ ((pa : Int) > 16)) := (fun h => Bool.noConfusion (iB37.2 h) : ¬ (((¬ (nameQ nm)) ∨ ((pa : Int) < 0)) ∨ ((pa : Int) > 16)))
 exact From_ld (some 37) ⟨b1, 3, none⟩ fr (by kernel_rfl) (.int .i64 va) (blk_cell (M18.get 0 rfl) rfl) hh
 intro aC fr
 refine zpk 3 22 [39, 40] fr (news := [(39, (.bool (B37 || decide ((pa : Int) > va)))), (40, (.bool (B37 || decide ((pa : Int) > va))))]) (by cases B37 <;> kernel_rfl) ?_
 intro aC fr
 obtain ⟨B50, hB50⟩ : ∃ B : Bool, B = (B37 || decide ((pa : Int) > va)) := ⟨_, rfl⟩
 revert aC
 refine zkp [(1, (pT b1 0)), (40, (.bool (B37 || decide ((pa : Int) > va))))] ?_
 rw [← hB50]
 have iB50 : B50 = true ↔ ((((¬ (nameQ nm)) ∨ ((pa : Int) < 0)) ∨ ((pa : Int) > 16)) ∨ ((pa : Int) > va)) := by rw [hB50]; simp only [Bool.or_eq_true, decide_eq_true_eq, iB37]
 clear hB50
 intro aC fr
 refine zpk 1 23 [41] fr (news := [(41, (cond (!B50) (pT b1 4) undef))]) (by cases B50 <;> kernel_rfl) ?_
 intro aC fr
 refine From_either (B := (!B50)) (d := (some 42)) (.slice A ((bsOf fs).length) c) fr (by cases B50 <;> kernel_rfl) (fun hB hh => ?_) ?_
 cases B50 <;> first | (exact absurd hB (by decide)) | skip
 have c50 : ¬ ((((¬ (nameQ nm)) ∨ ((pa : Int) < 0)) ∨ ((pa : Int) > 16)) ∨ ((pa : Int) > va)) := (fun h => Bool.noConfusion (iB50.2 h) : ¬ ((((¬ (nameQ nm)) ∨ ((pa : Int) < 0)) ∨ ((pa : Int) > 16)) ∨ ((pa : Int) > va)))
 exact From_ld (some 42) ⟨b1, 4, none⟩ fr (by kernel_rfl) (.slice A ((bsOf fs).length) c) (blk_cell (M18.get 0 rfl) rfl) hh
 intro aC fr
 refine zpk 4 28 [45, 46] fr (news := [(45, (.bool (B50 || (((((bsOf fs).length : Nat) : Int) : Int) == 0)))), (46, (.bool (B50 || (((((bsOf fs).length : Nat) : Int) : Int) == 0))))]) (by cases B50 <;> kernel_rfl) ?_
 intro aC fr
 obtain ⟨B59, hB59⟩ : ∃ B : Bool, B = (B50 || (((((bsOf fs).length : Nat) : Int) : Int) == 0)) := ⟨_, rfl⟩
 revert aC
 refine zkp [(1, (pT b1 0)), (46, (.bool (B50 || (((((bsOf fs).length : Nat) : Int) : Int) == 0))))] ?_
 rw [← hB59]
 have iB59 : B59 = true ↔ (((((¬ (nameQ nm)) ∨ ((pa : Int) < 0)) ∨ ((pa : Int) > 16)) ∨ ((pa : Int) > va)) ∨ (((((bsOf fs).length : Nat) : Int) : Int) = 0)) := by rw [hB59]; simp only [Bool.or_eq_true, beq_iff_eq, iB50]
 clear hB59
 intro aC fr
 refine zpk 1 29 [47] fr (news := [(47, (cond (!B59) (pT b1 4) undef))]) (by cases B59 <;> kernel_rfl) ?_
 intro aC fr
 refine From_either (B := (!B59)) (d := (some 48)) (.slice A ((bsOf fs).length) c) fr (by cases B59 <;> kernel_rfl) (fun hB hh => ?_) ?_
 cases B59 <;> first | (exact absurd hB (by decide)) | skip
 have c59 : ¬ (((((¬ (nameQ nm)) ∨ ((pa : Int) < 0)) ∨ ((pa : Int) > 16)) ∨ ((pa : Int) > va)) ∨ (((((bsOf fs).length : Nat) : Int) : Int) = 0)) := (fun h => Bool.noConfusion (iB59.2 h) : ¬ (((((¬ (nameQ nm)) ∨ ((pa : Int) < 0)) ∨ ((pa : Int) > 16)) ∨ ((pa : Int) > va)) ∨ (((((bsOf fs).length : Nat) : Int) : Int) = 0)))
 exact From_ld (some 48) ⟨b1, 4, none⟩ fr (by kernel_rfl) (.slice A ((bsOf fs).length) c) (blk_cell (M18.get 0 rfl) rfl) hh
 intro aC fr
 cases B59
 have c59 : ¬ (((((¬ (nameQ nm)) ∨ ((pa : Int) < 0)) ∨ ((pa : Int) > 16)) ∨ ((pa : Int) > va)) ∨ (((((bsOf fs).length : Nat) : Int) : Int) = 0)) := (fun h => Bool.noConfusion (iB59.2 h) : ¬ (((((¬ (nameQ nm)) ∨ ((pa : Int) < 0)) ∨ ((pa : Int) > 16)) ∨ ((pa : Int) > va)) ∨ (((((bsOf fs).length : Nat) : Int) : Int) = 0)))
 obtain ⟨x0, hx0⟩ := get_of (l := fs) (i := 0) (by omega)
 have hl0 : x0.phis.length ≤ 281474976710656 := (hok.get hx0).lp
 obtain ⟨ad66, rfl⟩ := blocks_some (M18.ro hB) (bsOf_get hx0)
 revert aC
 refine zix ad66 ((bsOf fs).length) 6 0 <| zpn 1 <| zld ((ad66 : Addr).add ((0 : Int).toNat * 6)) (.slice x0.pA x0.phis.length x0.pc) (fblk_get (M18.ro hB) rfl hx0 0 _ rfl) <| zpn 3 <| zfe <| zcD ((((x0.phis.length : Nat) : Int) : Int) > 0) (fun c67 => ?_) (fun c67 => ?_)
 refine zsp <| zre <| zo1 (.int .i64 4) ?_
 have M68 := M18.od [] 0
 exact ⟨congrArg _ (valid_4 hbig (fun h => by have h1 := h.name; have h2 := h.par; have h3 := h.pos; have h4 := h.phis x0 hx0; unfold nameQ at *; omega)), M68⟩
 have hfrm : nameQ nm ∧ 0 ≤ pa ∧ pa ≤ 16 ∧ pa ≤ va ∧ 0 < fs.length ∧ x0.phis.length = 0 := by unfold nameQ at *; omega
 obtain ⟨n, hva⟩ : ∃ n : Nat, va = (n : Int) := ⟨va.toNat, by omega⟩
 refine zsk <| zsq <| zsp <| zbk 0 ?_
 intro aC fr
 refine zlp (fun n_ a_ w_ => ∃ (m : Nat), n_ = fs.length - m ∧ Fr a_ 135 [(1, (pT b1 0)), (3, (nV m))] ∧ Mem noS w w_ [.blk b1 24 (fV nm wk pa va (some ad66) c fs)] ∧ (m ≤ fs.length) ∧ (∀ (i : Nat) (x : FBlk), i < m → fs[i]? = some x → endsQ ((bsOf fs).length : Int) x) ∧ (ShapesTo fs m)) (n := _) ⟨0, rfl, fr.kp [1, 3], M18, by omega, fun _ _ h => absurd h (Nat.not_lt_zero _), fun _ _ h => absurd h (Nat.not_lt_zero _)⟩ ?_
 clear fr aC M18; rintro n aC w71 ⟨m, rfl, fr, M72, hm1, hen, hsh⟩
 revert aC
 refine zsq <| zsr <| zpn 2 <| zld ⟨b1, 4, none⟩ (.slice (some ad66) ((bsOf fs).length) c) (blk_cell (M72.get 0 rfl) rfl) <| zpn 2 <| zfe <| zcD (((m : Int) : Int) < (((bsOf fs).length : Nat) : Int)) (fun c75 => ?_) (fun c75 => ?_)
 refine zsk <| zsq <| zbk 1 <| zsq <| zsq ?_
 obtain ⟨x, hx⟩ := get_of (l := fs) (i := m) (by omega)
 have hl1 : x.phis.length ≤ 281474976710656 := (hok.get hx).lp
 have hl2 : x.insts.length ≤ 281474976710656 := (hok.get hx).li
 obtain ⟨Ben, hBen⟩ : ∃ B : Bool, B = decide (endsQ ((bsOf fs).length : Int) x) := ⟨_, rfl⟩
 refine zkp [(1, (pT b1 0)), (3, (nV m))] ?_
 intro aC fr
 refine zdr (N := 135) (env0 := [(1, (pT b1 0)), (3, (nV m))]) (specAt [.det (fA nm wk pa va (some ad66) c fs), .det (pT b1 4), .det (.slice (some ad66) ((bsOf fs).length) c), .det (nV m), .det (.pointer (some ((ad66 : Addr).add (((m : Int)).toNat * 6)))), .det (xA x), .det (.bool Ben), .det (.bool (!Ben))]) fr (la (la (la (la (la (la (la (la lz (dS ⟨b1, 0, none⟩ (fV nm wk pa va (some ad66) c fs) fun w_ hK => (blk_cells ((M72.then_ hK).get 0 rfl)))) dP) (dL ⟨b1, 4, none⟩ (.slice (some ad66) ((bsOf fs).length) c) fun w_ hK => (blk_cell ((M72.then_ hK).get 0 rfl) rfl))) dP) (dI ad66 ((bsOf fs).length) 6 (m : Int))) (dS ((ad66 : Addr).add (((m : Int)).toNat * 6)) (xV x) fun w_ hK => (fblk_get ((M72.then_ hK).ro hB) rfl hx))) (dD (fun w_ hK => rends_c (.string nm) (.bool wk) (.int .i64 pa) (.int .i64 va) (some ad66) (bsOf fs).length c x w_) (congrArg Value.bool hBen.symm))) dP) ?_
 intro aC w80 vs hK hv fr
 revert aC; refine zkp [(1, (pT b1 0)), (3, (nV m)), (69, (.bool (!Ben)))] ?_
 have M81 := M72.then_ hK
 clear hK hv fr aC M72; clear vs
 cases Ben
 have cen : (decide (endsQ ((bsOf fs).length : Int) x)) = false := hBen.symm
 refine zcT <| zsp <| zre <| zbr <| zbr <| zo1 (.int .i64 4) ?_
 have M82 := M81.od [] 0
 exact ⟨congrArg _ (valid_4 hbig (fun h => of_decide_eq_false cen (by rw [hbl]; exact h.ends x (List.mem_of_getElem? hx)))), M82⟩
 have cen : (decide (endsQ ((bsOf fs).length : Int) x)) = true := hBen.symm
 have heq := of_decide_eq_true cen
 refine zcF <| zsk <| zsp <| zbk 2 ?_
 intro aC fr
 refine zlp (fun n_ a_ w_ => ∃ (j : Nat), n_ = x.insts.length - j ∧ Fr a_ 135 [(1, (pT b1 0)), (3, (nV m)), (4, (nV j))] ∧ Mem noS w w_ [.blk b1 24 (fV nm wk pa va (some ad66) c fs)] ∧ (j ≤ x.insts.length) ∧ (ShapesIn x j)) (n := _) ⟨0, rfl, fr.kp [1, 3, 4], M81, by omega, fun _ _ h => absurd h (Nat.not_lt_zero _)⟩ ?_
 clear fr aC M81; rintro n aC w85 ⟨j, rfl, fr, M86, hj, hsi⟩
 revert aC
 refine zsq <| zsr <| zpn 2 <| zld ⟨b1, 4, none⟩ (.slice (some ad66) ((bsOf fs).length) c) (blk_cell (M86.get 0 rfl) rfl) <| zpn 1 <| zix ad66 ((bsOf fs).length) 6 (m : Int) <| zpn 1 <| zld (((ad66 : Addr).add (((m : Int)).toNat * 6)).add 1) (.slice x.iA x.insts.length x.ic) (fblk_get (M86.ro hB) rfl hx 1 _ rfl) <| zpn 2 <| zfe <| zcD (((j : Int) : Int) < ((x.insts.length : Nat) : Int)) (fun c89 => ?_) (fun c89 => ?_)
 refine zsk <| zsq <| zbk 3 <| zsr ?_
 obtain ⟨p, hp3⟩ := get_of (l := x.insts) (i := j) (by omega)
 have hpo : p.Ok := (hok.get hx).insts p (List.mem_of_getElem? hp3)
 refine zpn 1 <| zld ⟨b1, 4, none⟩ (.slice (some ad66) ((bsOf fs).length) c) (blk_cell (M86.get 0 rfl) rfl) <| zpn 1 <| zix ad66 ((bsOf fs).length) 6 (m : Int) <| zpn 1 <| zld (((ad66 : Addr).add (((m : Int)).toNat * 6)).add 1) (.slice x.iA x.insts.length x.ic) (fblk_get (M86.ro hB) rfl hx 1 _ rfl) <| zkp [(1, (pT b1 0)), (3, (nV m)), (4, (nV j)), (86, (.slice x.iA x.insts.length x.ic))] <| zpn 1 ?_
 obtain ⟨ad90, had91⟩ := rds_some (M86.ro (hA.insts hx)) (cs := p.cells) (i := j) (by simp [hp3])
 intro aC fr
 refine From_ixA (some 88) x.iA ad90 x.insts.length 5 (j : Int) fr (by kernel_rfl) had91 (by omega) (by omega) ?_
 intro aC fr
 revert aC
 refine zls ((ad90 : Addr).add (((j : Int)).toNat * 5)) (iV p) (ins_get (M86.ro (hA.insts hx)) had91 hp3) <| zcl (rshape_c p w85 hpo) ?_
 rintro _ w96 ⟨rfl, M97x⟩
 have M97 := M86.cl M97x
 refine zpn 1 <| zfe <| zcP (!(decide (shapeQ p))) (¬ (shapeQ p)) (by simp only [notT, decide_eq_true_eq]) (fun c98 => ?_) (fun c98 => ?_)
 refine zsp <| zre <| zbr <| zbr <| zbr <| zbr <| zo1 (.int .i64 4) ?_
 have M99 := M97.od [] 0
 exact ⟨congrArg _ (valid_4 hbig (fun h => c98 (h.vals.1 x (List.mem_of_getElem? hx) p (List.mem_of_getElem? hp3)))), M99⟩
 have hsq := Classical.not_not.1 c98
 refine zsk <| zrg <| zpn 1 <| zar ((j : Int) + 1) <| zpn 1 <| zfe ?_
 intro aC fr
 exact ⟨x.insts.length - (j + 1), by omega, j + 1, rfl, fr.kp [1, 3, 4], M97, by omega, hsi.next hp3 hsq⟩
 refine zex 2 <| zbh <| zrg <| zpn 1 <| zar ((m : Int) + 1) <| zpn 1 <| zfe ?_
 have hje : j = x.insts.length := by omega
 rw [hje] at hsi
 intro aC fr
 exact ⟨fs.length - (m + 1), by omega, m + 1, rfl, fr.kp [1, 3], M86, by omega, ends_next hen hx heq, hsh.next hx hsi⟩
 refine zex 0 <| zbh <| zsr <| zls ⟨b1, 0, none⟩ (fV nm wk pa va (some ad66) c fs) (blk_cells (M72.get 0 rfl)) <| zcl (rmade_c n nm wk pa va (some ad66) c fs w71 hN hok hva (by omega) (by omega) (hA.at_ M72)) ?_
 rintro _ w104 ⟨Bv, Am, nM, cM, gm, l, rfl, hBv, htab, M105x⟩
 have M105 := M72.cl M105x
 refine zpn 5 <| zfe <| zsr <| zls ⟨b1, 0, none⟩ (fV nm wk pa va (some ad66) c fs) (blk_cells (M105.get 0 rfl)) <| zcl (vs := #[(fA nm wk pa va (some ad66) c fs), (.int .i64 (-1))]) (walk_c _ _ _ _ (some ad66) c (bsOf fs) (-1) w104 hm (hB.at_ M105)) ?_
 rintro _ w108 ⟨A106, c107, rfl, M109x⟩
 have M109 := M105.cl M109x
 refine zpn 1 <| zfe <| zsq <| zsr ?_
 have hwl := walkL_len (bsOf fs) (-1)
 obtain ⟨gw, rfl⟩ := row_some (M109.get 2 rfl) (by omega)
 refine zpn 1 <| zfe <| zbk 4 ?_
 intro aC fr
 refine zlp (fun n_ a_ w_ => ∃ (k : Nat) (Bk : Bool), n_ = fs.length - k ∧ Fr a_ 135 [(1, (pT b1 0)), (5, (.slice Am nM cM)), (6, (.bool Bk)), (7, (.slice (sM gw) ((bsOf fs).length) c107)), (8, (nV k))] ∧ Mem noS w w_ [.blk b1 24 (fV nm wk pa va (some ad66) c fs), .row 114 2 (sM gm) n n (mdc l), .row 4 1 (sM gw) ((bsOf fs).length) c107 (bools (walkL (bsOf fs) (-1)))] ∧ (k ≤ fs.length) ∧ (Bk = true ↔ Bv = true ∧ ∀ i : Nat, i < k → walkB (bsOf fs) (-1) (i : Int) = true)) (n := _) ⟨0, Bv, rfl, fr.kp [1, 5, 6, 7, 8], M109, by omega, ⟨fun h => ⟨h, fun _ h => absurd h (Nat.not_lt_zero _)⟩, fun h => h.1⟩⟩ ?_
 clear fr aC M109; rintro n aC w112 ⟨k, Bk, rfl, fr, M113, hk, hbk⟩
 revert aC
 refine zsq <| zsp <| zcD (((k : Int) : Int) < (((bsOf fs).length : Nat) : Int)) (fun c116 => ?_) (fun c116 => ?_)
 refine zsk <| zsq <| zbk 5 <| zrg <| zpn 2 ?_
 obtain ⟨B117, hB117⟩ : ∃ B : Bool, B = Bk := ⟨_, rfl⟩
 refine zkp [(1, (pT b1 0)), (5, (.slice Am nM cM)), (7, (.slice (sM gw) ((bsOf fs).length) c107)), (8, (nV k)), (106, (.bool Bk))] ?_
 rw [← hB117]
 have iB117 : B117 = true ↔ (Bk = true) := by rw [hB117]
 clear hB117
 intro aC fr
 refine zpk 2 4 [107, 108] fr (news := [(107, (cond B117 (.slice (sM gw) ((bsOf fs).length) c107) undef)), (108, (cond B117 (nV k) undef))]) (by cases B117 <;> kernel_rfl) ?_
 intro aC fr
 refine From_either (B := B117) (d := (some 109)) (.pointer (some ((⟨gw, 0, none⟩ : Addr).add (((k : Int)).toNat * 1)))) fr (by cases B117 <;> kernel_rfl) (fun hB hh => ?_) ?_
 cases B117 <;> first | (exact absurd hB (by decide)) | skip
 have c117 : (Bk = true) := iB117.1 rfl
 exact From_ix (some 109) ⟨gw, 0, none⟩ ((bsOf fs).length) 1 (k : Int) fr (by kernel_rfl) (by omega) (by omega) hh
 intro aC fr
 refine From_either (B := B117) (d := (some 110)) (.bool (walkB (bsOf fs) (-1) (k : Int))) fr (by cases B117 <;> kernel_rfl) (fun hB hh => ?_) ?_
 cases B117 <;> first | (exact absurd hB (by decide)) | skip
 have c117 : (Bk = true) := iB117.1 rfl
 exact From_ld (some 110) ((⟨gw, 0, none⟩ : Addr).add (((k : Int)).toNat * 1)) fr (by kernel_rfl) (.bool (walkB (bsOf fs) (-1) (k : Int))) (by rw [← walkL_get (bs := bsOf fs) (bar := -1) (by omega)]; exact rd_get1 (row_rd (M113.get 2 rfl)) rfl (bools_get (by omega))) hh
 intro aC fr
 refine zpk 2 8 [6, 111] fr (news := [(6, (.bool (B117 && (walkB (bsOf fs) (-1) (k : Int))))), (111, (.bool (B117 && (walkB (bsOf fs) (-1) (k : Int)))))]) (by cases B117 <;> kernel_rfl) ?_
 intro aC fr
 revert aC
 refine zfe <| zrg <| zpn 1 <| zar ((k : Int) + 1) <| zpn 1 <| zfe ?_
 intro aC fr
 exact ⟨fs.length - (k + 1), by omega, k + 1, (B117 && (walkB (bsOf fs) (-1) (k : Int))), rfl, fr.kp [1, 5, 6, 7, 8], M113, by omega, walk_step hbk iB117⟩
 refine zex 4 <| zbh <| zsq <| zsr <| zpn 3 ?_
 obtain ⟨B130, hB130⟩ : ∃ B : Bool, B = (!Bk) := ⟨_, rfl⟩
 refine zkp [(1, (pT b1 0)), (5, (.slice Am nM cM)), (114, (.bool (!Bk)))] ?_
 rw [← hB130]
 have iB130 : B130 = true ↔ (¬ (Bk = true)) := by rw [hB130]; simp only [notT]
 clear hB130
 cases B130
 have c130 : Bk = true := Classical.not_not.1 ((fun h => Bool.noConfusion (iB130.2 h) : ¬ (¬ (Bk = true))))
 have hbt : Bk = true := by cases Bk <;> first | rfl | (exact absurd rfl c130) | (exact absurd c130 (by decide))
 refine zls ⟨b1, 0, none⟩ (fV nm wk pa va (some ad66) c fs) (blk_cells (M113.get 0 rfl)) <| zcl (vs := #[(fA nm wk pa va (some ad66) c fs), (.int .i64 0)]) (rsources_c _ _ _ _ (some ad66) c (bsOf fs) 0 w112 hm (hB.at_ M113)) ?_
 rintro _ w133 ⟨A131, c132, rfl, M134x⟩
 have M134 := M113.cl M134x
 refine zpn 3 <| zfe <| zcD (((((srcs (bsOf fs) 0).length : Nat) : Int) : Int) > 0) (fun c135 => ?_) (fun c135 => ?_)
 refine zsp <| zre <| zo1 (.int .i64 4) ?_
 have M136 := M134.od [] 0
 exact ⟨congrArg _ (valid_4 hbig (fun h => by have := h.src; omega)), M136⟩
 refine zsk <| zsr ?_
 obtain ⟨hbv, hwk⟩ := hbk.1 hbt
 obtain ⟨e1, e2, e3, htb⟩ := htab hbv
 subst e1
 have e4 := e2.symm
 subst e4
 have e5 := e3.symm
 subst e5
 have hall : (orderL (bsOf fs)).length = fs.length := by rw [← bsOf_len fs]; exact all_walk.2 (fun i hi => hwk i (by omega))
 have hvq : VQ pa va fs := ⟨((show m = fs.length by omega) ▸ hsh : ShapesTo fs fs.length).all, hBv.1 hbv⟩
 have hpos : 0 < fs.length := by omega
 have hag := agree_ref hpos hall
 have hsrc0 : (srcs (bsOf fs) 0).length = 0 := by omega
 refine zls ⟨b1, 0, none⟩ (fV nm wk pa va (some ad66) c fs) (blk_cells (M134.get 0 rfl)) <| zcl (vs := #[(fA nm wk pa va (some ad66) c fs)]) (over_c _ _ _ _ (some ad66) c (bsOf fs) w133 hm (hB.at_ M134)) ?_
 rintro _ w140 ⟨A137, c138, rows139, rfl, hfrows139, M141x⟩
 have M141 := M134.cl M141x
 refine zpn 1 <| zfe <| zsq <| zsp <| zbk 6 ?_
 intro aC fr
 refine zlp (fun n_ a_ w_ => ∃ (k2 : Nat), n_ = fs.length - k2 ∧ Fr a_ 135 [(1, (pT b1 0)), (5, (.slice (sM gm) n n)), (9, (.slice A137 ((bsOf fs).length) c138)), (10, (nV k2))] ∧ Mem noS w w_ [.blk b1 24 (fV nm wk pa va (some ad66) c fs), .row 114 2 (sM gm) n n (mdc l), .row 4 1 (sM gw) ((bsOf fs).length) c107 (bools (walkL (bsOf fs) (-1))), .row 3 1 A131 ((srcs (bsOf fs) 0).length) c132 (ints (srcs (bsOf fs) 0)), .fam 4 rows139, .row 68 1 A137 ((bsOf fs).length) c138 (slv rows139)] ∧ (k2 ≤ fs.length) ∧ (∀ j, j < k2 → readsQ (overD (bsOf fs)) (fun _ => 20000) finR pa va fs j)) (n := _) ⟨0, rfl, fr.kp [1, 5, 9, 10], M141, by omega, fun _ h => absurd h (Nat.not_lt_zero _)⟩ ?_
 clear fr aC M141; rintro n aC w144 ⟨k2, rfl, fr, M145, hk2, hrd⟩
 revert aC
 refine zsq <| zsr <| zpn 2 <| zld ⟨b1, 4, none⟩ (.slice (some ad66) ((bsOf fs).length) c) (blk_cell (M145.get 0 rfl) rfl) <| zpn 2 <| zfe <| zcD (((k2 : Int) : Int) < (((bsOf fs).length : Nat) : Int)) (fun c148 => ?_) (fun c148 => ?_)
 refine zsk <| zsq <| zbk 7 <| zsr <| zls ⟨b1, 0, none⟩ (fV nm wk pa va (some ad66) c fs) (blk_cells (M145.get 0 rfl)) <| zpn 3 <| zcl (rreads_c nm wk gm n c138 k2 A137 pa va (some ad66) c fs l rows139 w144 hN (by omega) hok (hA.at_ M145) (M145.own_ro 1 rfl) (M145.own_ro 4 rfl) (M145.own_ro 5 rfl) hfrows139 hva htb (fun d hd => (hvq.2.1 d hd).1)) ?_
 rintro _ w149 ⟨rfl, M150x⟩
 have M150 := M145.cl M150x
 refine zpn 1 <| zfe <| zcP (!(decide (readsQ (overD (bsOf fs)) (fun _ => 20000) finR pa va fs k2))) (¬ (readsQ (overD (bsOf fs)) (fun _ => 20000) finR pa va fs k2)) (by simp only [notT, decide_eq_true_eq]) (fun c151 => ?_) (fun c151 => ?_)
 refine zsp <| zre <| zbr <| zbr <| zo1 (.int .i64 4) ?_
 have M152 := M150.od [] 0
 exact ⟨congrArg _ (valid_4 hbig (fun h => c151 (hag.symm.readsQ (fun x hx hR => hR) (h.reads k2 (by omega))))), M152⟩
 have hrq := Classical.not_not.1 c151
 refine zsk <| zrg <| zpn 1 <| zar ((k2 : Int) + 1) <| zpn 1 <| zfe ?_
 intro aC fr
 exact ⟨fs.length - (k2 + 1), by omega, k2 + 1, rfl, fr.kp [1, 5, 9, 10], M150, by omega, lt_succ_cases hrd hrq⟩
 refine zex 6 <| zbh <| zsp <| zre <| zo1 (.int .i64 0) ?_
 have M155 := M145.od [] 0
 exact ⟨congrArg _ (valid_0 hbig ⟨hfrm.1, ⟨hfrm.2.1, hfrm.2.2.1, hfrm.2.2.2.1⟩, hpos, fun x hx => by rw [hx0] at hx; injection hx with hx; subst hx; exact hfrm.2.2.2.2.2, hsrc0, hall, fun x hx => by obtain ⟨i, hi⟩ := List.mem_iff_getElem?.1 hx; have := hen i x (by have := (List.getElem?_eq_some_iff.1 hi).1; omega) hi; rwa [hbl] at this, hvq, fun j hj => hag.readsQ (fun x hx hR => hR) (hrd j (by omega))⟩), M155⟩
 have c130 : Bk = false := Bool.eq_false_iff.2 (iB130.1 rfl)
 refine zpn 5 <| zfe <| zcT <| zsp <| zre <| zo1 (.int .i64 4) ?_
 have M156 := M113.od [] 0
 exact ⟨congrArg _ (valid_4 hbig (fun h => absurd (hbk.2 ⟨hBv.2 h.vals.2, fun i hi => all_walk.1 (by rw [bsOf_len]; exact h.all) i (by omega)⟩) (fun e => by rw [e] at c130; exact absurd c130 (by decide)))), M156⟩
 have c59 : (((((¬ (nameQ nm)) ∨ ((pa : Int) < 0)) ∨ ((pa : Int) > 16)) ∨ ((pa : Int) > va)) ∨ (((((bsOf fs).length : Nat) : Int) : Int) = 0)) := iB59.1 rfl
 revert aC
 refine zpn 6 <| zfe <| zcT <| zsp <| zre <| zo1 (.int .i64 4) ?_
 have M157 := M18.od [] 0
 exact ⟨congrArg _ (valid_4 hbig (fun h => by have h1 := h.name; have h2 := h.par; have h3 := h.pos; unfold nameQ at *; omega)), M157⟩
end Go.Proofs.Ytjekgaabcigphaa
namespace Go.Proofs.Ytjekgaabcigphaa
open Go.Mor
theorem ssaValids_d (nm : ByteArray) (wk : Bool) (pa va : Int) (A : Option Addr) (c : Nat) (fs : List FBlk) (w : World) (hok : FOk fs) (hA : RO noS w (.fn A fs)) :
    Calls Try.prog 3 #[(fA nm wk pa va A c fs)] w (Ret fun v w' => v = .bool (decide (True)) ∧ Mem noS w w' []) := by
 have hbl := bsOf_len fs
 have hB := hA.bs
 refine zen 22 [(fA nm wk pa va A c fs)] Try.func3 ?_
 have hM := Mem.init w
 refine zsr <| zbx hM 24 (fA nm wk pa va A c fs) (fV nm wk pa va A c fs) fun b1 w2 hb1 M3 => ?_
 replace M3 := M3.nf
 clear hM
 refine zpn 1 <| zfe <| zsq <| zsr <| zls ⟨b1, 0, none⟩ (fV nm wk pa va A c fs) (blk_cells (M3.get 0 rfl)) <| zcl (great19_c nm wk pa va A c fs w2 hok (hA.at_ M3)) ?_
 rintro _ w4 ⟨rfl, M5x⟩
 have M5 := M3.cl M5x
 refine zfe <| zcD (greatQ va fs) (fun c6 => ?_) (fun c6 => ?_)
 refine zsr <| zcl (awake19_c w4) ?_
 rintro _ w7 ⟨rfl, M8x⟩
 have M8 := M5.cl M8x
 refine zpn 1 <| zfe <| zre <| zo1 (.bool true) ?_
 have hR : true = true ↔ True := by simp
 have M9 := M8.od [] 0
 exact ⟨bool_dec hR (⟨fun _ => trivial, fun _ => by first | trivial | exact ⟨rfl, rfl⟩ | simp⟩), M9⟩
 have hN : fs.length ≤ 1000 := Nat.le_trans (greatQ_len (va := va) c6) (by decide)
 refine zsk <| zsq ?_
 obtain ⟨B10, hB10⟩ : ∃ B : Bool, B = ((validN nm pa va fs) == (validN nm pa va fs)) := ⟨_, rfl⟩
 obtain rfl : B10 = true := by
   have hkn : (((validN nm pa va fs) : Int) = (validN nm pa va fs)) := by rfl
   first | exact hB10.trans (decide_eq_true hkn) | exact hB10.trans (decide_eq_false hkn) | exact hB10.trans (beq_iff_eq.2 hkn) | exact hB10.trans (bne_iff_ne.2 hkn) | exact hB10.trans (Bool.eq_false_iff.2 (fun e => hkn (beq_iff_eq.1 e))) | exact hB10.trans (Bool.eq_false_iff.2 (fun e => hkn (bne_iff_ne.1 e)))
 refine zkp [(1, (pT b1 0))] ?_
 intro aC fr
 refine zdt 10 (N := 22) (env0 := [(1, (pT b1 0))]) (specAt [.det (fA nm wk pa va A c fs), .det (.int .i64 (validN nm pa va fs)), .det (.int .i64 (validN nm pa va fs)), .det (fA nm wk pa va A c fs), .det (.int .i64 (validN nm pa va fs)), .det (.bool true), .det (.bool true), .det (fA nm wk pa va A c fs), .det (.int .i64 ((sizeF fs : Nat) : Int)), .det (fA nm wk pa va A c fs)]) fr (la (la (la (la (la (la (la (la (la (la lz (dS ⟨b1, 0, none⟩ (fV nm wk pa va A c fs) fun w_ hK => (blk_cells ((M5.then_ hK).get 0 rfl)))) (dD (vs := #[(fA nm wk pa va A c fs)]) (fun w_ hK => valid_c _ _ _ _ A c fs w_ hN hok (hA.at_ (M5.then_ hK))) rfl)) (dD (fun w_ hK => num19_c (validN nm pa va fs) w_) rfl)) (dS ⟨b1, 0, none⟩ (fV nm wk pa va A c fs) fun w_ hK => (blk_cells ((M5.then_ hK).get 0 rfl)))) (dD (fun w_ hK => rvalid_c nm wk pa va A c fs w_ hN hok (hA.at_ (M5.then_ hK))) rfl)) (dC ((validN nm pa va fs) == (validN nm pa va fs)) hB10)) dP) (dS ⟨b1, 0, none⟩ (fV nm wk pa va A c fs) fun w_ hK => (blk_cells ((M5.then_ hK).get 0 rfl)))) (dD (vs := #[(fA nm wk pa va A c fs)]) (fun w_ hK => size_c _ _ _ _ A c fs w_ hN hok (hA.at_ (M5.then_ hK))) rfl)) (dS ⟨b1, 0, none⟩ (fV nm wk pa va A c fs) fun w_ hK => (blk_cells ((M5.then_ hK).get 0 rfl)))) ?_
 intro aC w15 vs hK hv fr
 revert aC; refine zkp [(12, (.bool true)), (14, (.int .i64 ((sizeF fs : Nat) : Int))), (15, (fA nm wk pa va A c fs))] ?_
 have M16 := M5.then_ hK
 clear hK hv fr aC M5; clear vs
 refine zcl (vs := #[(fA nm wk pa va A c fs)]) (rsize_c _ _ _ _ A c fs w15 hN hok (hA.at_ M16)) ?_
 rintro _ w17 ⟨rfl, M18x⟩
 have M18 := M16.cl M18x
 refine zcm (((sizeF fs : Nat) : Int) == ((sizeF fs : Nat) : Int)) fun B19 hB19 => ?_
 obtain rfl : B19 = true := by
   have hkn : ((((sizeF fs : Nat) : Int) : Int) = ((sizeF fs : Nat) : Int)) := by rfl
   first | exact hB19.trans (decide_eq_true hkn) | exact hB19.trans (decide_eq_false hkn) | exact hB19.trans (beq_iff_eq.2 hkn) | exact hB19.trans (bne_iff_ne.2 hkn) | exact hB19.trans (Bool.eq_false_iff.2 (fun e => hkn (beq_iff_eq.1 e))) | exact hB19.trans (Bool.eq_false_iff.2 (fun e => hkn (bne_iff_ne.1 e)))
 clear hB19
 refine zpn 2 <| zcl (awake19_c w17) ?_
 rintro _ w20 ⟨rfl, M21x⟩
 have M21 := M18.cl M21x
 refine zpn 2 <| zfe <| zre <| zo1 (.bool true) ?_
 have hR : true = true ↔ True := by simp
 have M22 := M21.od [] 0
 exact ⟨bool_dec hR (⟨fun _ => trivial, fun _ => by first | trivial | exact ⟨rfl, rfl⟩ | simp⟩), M22⟩
theorem ssaValids_c (nm : ByteArray) (wk : Bool) (pa va : Int) (A : Option Addr) (c : Nat) (fs : List FBlk) (w : World) (hok : FOk fs) (hA : RO noS w (.fn A fs)) : Calls Try.prog 3 #[(fA nm wk pa va A c fs)] w (Ret fun v w' => v = .bool true ∧ Mem noS w w' []) := by
  have h := ssaValids_d nm wk pa va A c fs w hok hA
  simpa using h
end Go.Proofs.Ytjekgaabcigphaa
