/-
  For all functions of SSA, names that begin, bytes and numbers of steps the law DeadKeeps answers true, and leaves what came in as it was; no condition.
-/
import Derived.Test.YtejbeeaomokjpaaGreatZm17
import Derived.SizedLaws
set_option maxRecDepth 10000
namespace Go.Proofs.YtejbeeaomokjpaaGreat
open Go.Mor Go.ChangeShapes Go.WideShapes Go.ChangeAt Go.RowKit Go.Deep
set_option maxRecDepth 100000 in
theorem vt(os:Os)(started:os.Started)(H:Type)(enc:TypeId×Value→H):ReturnsInHanded {} Tryz.checked os 4 .any (Rows.deadKeepsSpec.pre6 enc Tryz.prog Tryz.f4 Rows.deadKeepsRow.domain false) (Rows.deadKeepsSpec.post enc Tryz.prog Tryz.f4 false true false false):=by
 refine returnsInHanded_of_change_sized (C:=Tryz.checked) Tryz.own started kR Tryz.func4 (ChangeSpec.witness6 (enc:=enc) (C:=Tryz.checked) false ⟨#[],#[an,an,an,vI 0],[]⟩ 8 kR kR kR kR) ?_;intro W base args ds gs before QhL hW _ hz _;have US:∀(j:Nat) t v,Tryz.f4.params[j]?=some t→args[j]?=some v→Value.okWide Tryz.prog W .any base t v:=QhL;have hW':=hW;obtain⟨p,q,hA0,hV,_,_,_⟩:=hW;obtain⟨rfl,rfl⟩:=trodVars_none hV;have hA:DataW.TrodAll enc Tryz.prog W 0 (fun _=>true) true Tryz.f4.params.toList args.toList ds p:=hA0;rw[Tryz.params4]at hA US hz;obtain⟨v0,v1,v2,v3,d0,d1,d2,d3,p0,p1,p2,p3,rfl,rfl,rfl,h0,h1,h2,h3⟩:=trodAll_four hA;have LO:gQ 22 d0:=fun n hn=>by have:=List.all_eq_true.1 hz n (Fb (j:=0) (t:=22) (d:=d0) rfl rfl n hn);simpa using this
 have hr1:gQ 23 d1:=fun n hn=>by have:=List.all_eq_true.1 hz n (Fb (j:=1) (t:=23) (d:=d1) rfl rfl n hn);simpa using this
 have RU:gQ 24 d2:=fun n hn=>by have:=List.all_eq_true.1 hz n (Fb (j:=2) (t:=24) (d:=d2) rfl rfl n hn);simpa using this
 have hr3:gQ 3 d3:=fun n hn=>by have:=List.all_eq_true.1 hz n (Fb (j:=3) (t:=3) (d:=d3) rfl rfl n hn);simpa using this
 obtain⟨A0,l0,c0,rfl,hl0,wF,hf0⟩:=UR (US 0 22 v0 rfl rfl) h0 LO;obtain⟨A1,l1,c1,rfl,qe,jU⟩:=open_strs (US 1 23 v1 rfl rfl) h1 hr1;obtain⟨A2,l2,c2,rfl,BA,hc2,uV,Df⟩:=J6 (US 2 24 v2 rfl rfl) h2 RU;obtain⟨x3,rfl,rfl,rfl,wf3⟩:=open_int Tryz.underlying3 (US 3 3 v3 rfl rfl) h3;refine(Hu l0 A0 c0 l1 A1 c1 l2 A2 c2 x3 W hl0 (RO.of wF) (fun x h=>(hf0 x h).1) (fun x h=>RO.of (hf0 x h).2) qe BA (RO.of jU) hc2 (RO.of Df) uV).mono fun e W' ⟨v,he,hv,hm⟩=> ?_
 subst he;subst hv;exact⟨_,rfl,L0 Tryz.laidOut Tryz.underlying4 kR kR rfl hW' rfl rfl rfl hm rfl⟩
theorem deadKeeps_holds:Rows.DeadKeepsSaid:=OpenClaim.holds_of_wide 4 Tryz.f4 rfl rfl rfl rfl rfl rfl rfl ⟨rfl,rfl,rfl,rfl,rfl⟩ rfl rfl rfl rfl rfl kR Tryz.func4 kR (of_decide_eq_true kR) (by unfold Func.isWrapper;first|(rw[if_pos (by decide+kernel)];kernel_rfl)|(rw[if_neg (by decide+kernel)];exact⟨rfl,rfl⟩)) (fun os started H enc _=>vt os started H enc)
#print axioms deadKeeps_holds
end Go.Proofs.YtejbeeaomokjpaaGreat
