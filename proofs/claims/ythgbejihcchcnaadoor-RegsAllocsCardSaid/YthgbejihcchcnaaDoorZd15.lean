/-
  For every function of SSA and every number the law RegsAllocs answers true, and leaves what came in as it was; the condition: the table by which math/bits tells the lowest bit reads as its initialiser lays it, which is tied to the text.
-/
import Derived.Test.YthgbejihcchcnaaDoorZd14
import Derived.Test.YthgbejihcchcnaaDoorCards
import Derived.Test.YthgbejihcchcnaaDoorTie
import Derived.LaidMore
import Derived.Lib.LaidTab
import Derived.Stop.Joined
import Derived.SevenTiedAt
set_option maxRecDepth 10000
namespace Go.Proofs.YthgbejihcchcnaaDoor
open Go.Mor Go.ChangeShapes Go.WideShapes Go.ChangeAt Go.RowKit Go.Deep
abbrev zT:List (String×DataW Unit):=[("math/bits.deBruijn64tab",Rows.laid_math_bits_deBruijn64tab)]
theorem PN:zT=[("math/bits.deBruijn64tab",Lib.tabData .u8 (NV.map (fun x:Nat=>(x:Int))))]:=kR
theorem PO(os:Os)(args:Array Value):laidMetH Tryd.prog zT ((World.doorLaid Tryd.prog 400 os).forCall (fun _ _=>0) ⟨#[],args,[]⟩).memory:=laidMetH_of_parts3 (fuel:=8) (laidMet_of_run' 8 kR kR) kR kR
theorem Ef{W:World}(h:laidMetH Tryd.prog zT W):RO aR W (.rd (some (aZ 0)) nF):=by
 rw[MakeChecks.laidMetH_plain _ _ _ kR,PN]at h;have hT:=Lib.tabIs_of_head (t:=133) (e:=5) (n:=64) (g:=0) kR kR Tryd.underlying133 Tryd.underlying5 kR kR h;refine RO.of (fun i v hi=>⟨_,rfl,?_⟩);have hl:i<(NV.map (fun x:Nat=>(x:Int))).length:=by have:=(List.getElem?_eq_some_iff.1 hi).1;simpa[nF]using this
 have hc:=hT.cell (g:=0) kR i hl;have qM:i<NV.length:=by simpa using hl
 rw[List.getElem?_eq_getElem (by simpa[nF]using qM)]at hi;injection hi with hi;subst hi;by_cases h0:i=0
 ·subst h0;simpa[nF,Addr.add,List.getD,qM]using hc
 ·simpa[nF,Addr.add,List.getD,qM,h0]using hc
set_option maxRecDepth 100000 in
theorem dk(os:Os)(started:os.Started)(H:Type)(enc:TypeId×Value→H):ReturnsInHanded {} Tryd.checked os 4 .any (fun w args=>(Rows.regsAllocsSpec.pre enc Tryd.prog Tryd.f4 [] false w args∧laidMetH Tryd.prog zT w)∧sizedMet enc Tryd.prog Tryd.f4 (OpenSpec.ofChange Rows.regsAllocsSpec) false w args) (Rows.regsAllocsSpec.post enc Tryd.prog Tryd.f4 false true false false):=by
 refine returnsInHanded_of_change_and (C:=Tryd.checked) (X:=fun w _=>laidMetH Tryd.prog zT w) (fun _ _ _ hh h=>h.of_heap hh) Tryd.own started kR Tryd.func4 (ChangeSpec.witness_shaped (enc:=enc) (C:=Tryd.checked) (os:=os) (X:=fun w _=>laidMetH Tryd.prog zT w) false (World.doorLaid Tryd.prog 400 os) #[.agg #[.string ⟨#[]⟩,.bool false,vI 0,vI 0,aB],vI 0] 8 rfl (World.shaped_of_RefB kR kR) kR kR kR (PO os _)) ?_;intro W base args ds gs before Qc5 hW _ hz hL _;have YP:∀(j:Nat) t v,Tryd.f4.params[j]?=some t→args[j]?=some v→Value.okWide Tryd.prog W .any base t v:=Qc5;have hW':=hW;obtain⟨p,q,hA0,hV,_,_,_⟩:=hW;obtain⟨rfl,rfl⟩:=trodVars_none hV;have hA:DataW.TrodAll enc Tryd.prog W 0 (fun _=>true) true Tryd.f4.params.toList args.toList ds p:=hA0;rw[Tryd.params4]at hA YP hz;obtain⟨v0,v1,d0,d1,p0,p1,rfl,rfl,rfl,h0,h1⟩:=trodAll_two hA;have hr:ju 24 d0:=fun n hn=>by have:=List.all_eq_true.1 hz n (DataW.weights_mem_each (j:=0) (t:=24) (d:=d0) rfl rfl n hn);simpa using this
 have ZV:ju 3 d1:=fun n hn=>by have:=List.all_eq_true.1 hz n (DataW.weights_mem_each (j:=1) (t:=3) (d:=d1) rfl rfl n hn);simpa using this
 obtain⟨nm,wk,pa,va,A,fs,c,rfl,fe,hb,DM⟩:=Ee (YP 0 24 v0 rfl rfl) h0 hr;obtain⟨x1,rfl,rfl,rfl,wf1⟩:=open_int Tryd.underlying3 (YP 1 3 v1 rfl rfl) h1;refine(gg nm wk pa va A c fs x1 W fe (RO.of hb) DM (Ef hL)).mono fun e W' ⟨v,he,hv,hm⟩=> ?_
 subst he;subst hv;exact⟨_,rfl,Ie Tryd.laidOut Tryd.underlying4 kR kR rfl hW' rfl rfl rfl hm rfl⟩
theorem dV:Rows.RegsAllocsSaid:=OpenClaim.holds_of_wide 4 Tryd.f4 rfl rfl rfl rfl rfl rfl rfl ⟨rfl,rfl,rfl,rfl,rfl⟩ rfl rfl rfl rfl rfl kR Tryd.func4 kR (of_decide_eq_true kR) (by unfold Func.isWrapper;first|(rw[if_pos (by decide+kernel)];kernel_rfl)|(rw[if_neg (by decide+kernel)];exact⟨rfl,rfl⟩)) (fun os started H enc _=>dk os started H enc)
theorem regsAllocsCard_holds:Rows.RegsAllocsCardSaid:=Claim7.holds_tied_plain_at .later [] [.data] true Rows.regsAllocsCard.stood.harness true dV (fun _ h=>by cases h) kR (fun _ h=>by cases h) regsAllocs_row_tie rfl ⟨rfl,rfl⟩ kR rfl (fun f fn hf hfn=>by
   obtain rfl:f=4:=dT ((show Tryd.prog.funcNamed "mortise/mortiselaw27.RegsAllocs" =some 4 by kernel_rfl).symm.trans hf)|>.symm;obtain rfl:fn=Tryd.f4:=(dT (Tryd.func4.symm.trans hfn)).symm;exact⟨kR,fun j t ht=>by
    rw[Tryd.params4]at ht;have h3:t=24∨t=3:=by
     rcases j with _|_|j
     ·exact .inl (by simpa using ht.symm)
     ·exact .inr (by simpa using ht.symm)
     ·simp at ht
    rcases h3 with rfl|rfl
    ·exact(show Tryd.prog.wantsStandIn 24=false by kernel_rfl)
    ·exact(show Tryd.prog.wantsStandIn 3=false by kernel_rfl)⟩)
  kR
#print axioms regsAllocsCard_holds
end Go.Proofs.YthgbejihcchcnaaDoor
