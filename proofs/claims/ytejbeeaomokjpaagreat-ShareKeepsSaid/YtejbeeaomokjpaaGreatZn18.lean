/-
  For all functions of SSA, names that begin, bytes and numbers of steps the law ShareKeeps answers true, and leaves what came in as it was; no condition.
-/
import Derived.Test.YtejbeeaomokjpaaGreatZn17
import Derived.SizedLaws
set_option maxRecDepth 10000
namespace Go.Proofs.YtejbeeaomokjpaaGreat
open Go.Mor Go.ChangeShapes Go.WideShapes Go.ChangeAt Go.RowKit Go.Deep
set_option maxRecDepth 100000 in
theorem LM(os:Os)(started:os.Started)(H:Type)(enc:TypeId×Value→H):ReturnsInHanded {} Tryz.checked os 5 .any (Rows.shareKeepsSpec.pre6 enc Tryz.prog Tryz.f5 Rows.shareKeepsRow.domain false) (Rows.shareKeepsSpec.post enc Tryz.prog Tryz.f5 false true false false):=by
 refine returnsInHanded_of_change_sized (C:=Tryz.checked) Tryz.own started kR Tryz.func5 (ChangeSpec.witness6 (enc:=enc) (C:=Tryz.checked) false ⟨#[],#[an,an,an,vI 0],[]⟩ 8 kR kR kR kR) ?_;intro W base args ds gs before QhL hW _ hz _;have US:∀(j:Nat) t v,Tryz.f5.params[j]?=some t→args[j]?=some v→Value.okWide Tryz.prog W .any base t v:=QhL;have hW':=hW;obtain⟨p,q,hA0,hV,_,_,_⟩:=hW;obtain⟨rfl,rfl⟩:=trodVars_none hV;have hA:DataW.TrodAll enc Tryz.prog W 0 (fun _=>true) true Tryz.f5.params.toList args.toList ds p:=hA0;rw[Tryz.params5]at hA US hz;obtain⟨v0,v1,v2,v3,d0,d1,d2,d3,p0,p1,p2,p3,rfl,rfl,rfl,h0,h1,h2,h3⟩:=trodAll_four hA;have LO:gQ 22 d0:=fun n hn=>by have:=QoP.1 hz n (DataW.weights_mem_each (j:=0) (t:=22) (d:=d0) rfl rfl n hn);simpa using this
 have hr1:gQ 23 d1:=fun n hn=>by have:=QoP.1 hz n (DataW.weights_mem_each (j:=1) (t:=23) (d:=d1) rfl rfl n hn);simpa using this
 have RU:gQ 24 d2:=fun n hn=>by have:=QoP.1 hz n (DataW.weights_mem_each (j:=2) (t:=24) (d:=d2) rfl rfl n hn);simpa using this
 have hr3:gQ 3 d3:=fun n hn=>by have:=QoP.1 hz n (DataW.weights_mem_each (j:=3) (t:=3) (d:=d3) rfl rfl n hn);simpa using this
 obtain⟨A0,l0,c0,rfl,lO,wF,hf0⟩:=UR (US 0 22 v0 rfl rfl) h0 LO;obtain⟨A1,l1,c1,rfl,qe,jU⟩:=open_strs (US 1 23 v1 rfl rfl) h1 hr1;obtain⟨A2,l2,c2,rfl,BA,Yc,uV,Df⟩:=J6 (US 2 24 v2 rfl rfl) h2 RU;obtain⟨x3,rfl,rfl,rfl,wf3⟩:=open_int Tryz.underlying3 (US 3 3 v3 rfl rfl) h3;refine(Qhu l0 A0 c0 l1 A1 c1 l2 A2 c2 x3 W lO (RO.of wF) (fun x h=>(hf0 x h).1) (fun x h=>RO.of (hf0 x h).2) qe BA (RO.of jU) Yc (RO.of Df) uV).mono fun e W' ⟨v,he,hv,hm⟩=> ?_
 subst he;subst hv;exact⟨_,rfl,L0 Tryz.laidOut Tryz.underlying4 kR kR rfl hW' rfl rfl rfl hm rfl⟩
theorem shareKeeps_holds:Rows.ShareKeepsSaid:=OpenClaim.holds_of_wide 5 Tryz.f5 rfl rfl rfl rfl rfl rfl rfl ⟨rfl,rfl,rfl,rfl,rfl⟩ rfl rfl rfl rfl rfl kR Tryz.func5 kR (QlT kR) (by unfold Func.isWrapper;first|(rw[Kt (by decide+kernel)];kernel_rfl)|(rw[Ds (by decide+kernel)];exact⟨rfl,rfl⟩)) (fun os started H enc _=>LM os started H enc)
#print axioms shareKeeps_holds
end Go.Proofs.YtejbeeaomokjpaaGreat
