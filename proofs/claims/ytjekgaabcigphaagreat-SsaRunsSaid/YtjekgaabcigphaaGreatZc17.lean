/-
  For all functions of SSA, words, names that begin, memory, input and numbers of steps the law SsaRuns answers true, and leaves what came in as it was; no condition.
-/
import Derived.Test.YtjekgaabcigphaaGreatZc16
import Derived.SizedLaws
set_option maxRecDepth 10000
namespace Go.Proofs.YtjekgaabcigphaaGreat
open Go.Mor Go.ChangeShapes Go.WideShapes Go.ChangeAt Go.RowKit Go.Deep
set_option maxRecDepth 100000 in
theorem AN(os:Os)(started:os.Started)(H:Type)(enc:TypeId×Value→H):ReturnsInHanded {} Tryz.checked os 3 .any (Rows.ssaRunsSpec.pre6 enc Tryz.prog Tryz.f3 Rows.ssaRunsRow.domain false) (Rows.ssaRunsSpec.post enc Tryz.prog Tryz.f3 false true false false):=by
 refine returnsInHanded_of_change_sized (C:=Tryz.checked) Tryz.own started kR Tryz.func3 (ChangeSpec.witness6 (enc:=enc) (C:=Tryz.checked) false ⟨#[],#[ag,ag,ag,vI 0,ag,vI 0],[]⟩ 8 kR kR kR kR) ?_;intro W base args ds gs before QhT hW _ hz _;have KB:∀(j:Nat) t v,Tryz.f3.params[j]?=some t→args[j]?=some v→Value.okWide Tryz.prog W .any base t v:=QhT;have hW':=hW;obtain⟨p,q,hA0,hV,_,_,_⟩:=hW;obtain⟨rfl,rfl⟩:=trodVars_none hV;have hA:DataW.TrodAll enc Tryz.prog W 0 (fun _=>true) true Tryz.f3.params.toList args.toList ds p:=hA0;rw[Tryz.params3]at hA KB hz;obtain⟨v0,v1,v2,v3,v4,v5,d0,d1,d2,d3,d4,d5,p0,p1,p2,p3,p4,p5,rfl,rfl,h0,h1,h2,h3,h4,h5⟩:=HS hA;have Ii:gx 22 d0:=fun n hn=>by have:=fW.1 hz n (sU (j:=0) (t:=22) (d:=d0) rfl rfl n hn);simpa using this
 have hr1:gx 23 d1:=fun n hn=>by have:=fW.1 hz n (sU (j:=1) (t:=23) (d:=d1) rfl rfl n hn);simpa using this
 have LS:gx 24 d2:=fun n hn=>by have:=fW.1 hz n (sU (j:=2) (t:=24) (d:=d2) rfl rfl n hn);simpa using this
 have hr3:gx 3 d3:=fun n hn=>by have:=fW.1 hz n (sU (j:=3) (t:=3) (d:=d3) rfl rfl n hn);simpa using this
 have hr4:gx 25 d4:=fun n hn=>by have:=fW.1 hz n (sU (j:=4) (t:=25) (d:=d4) rfl rfl n hn);simpa using this
 have hr5:gx 3 d5:=fun n hn=>by have:=fW.1 hz n (sU (j:=5) (t:=3) (d:=d5) rfl rfl n hn);simpa using this
 obtain⟨A0,l0,c0,rfl,WV,uj,hf0⟩:=Vg (KB 0 22 v0 rfl rfl) h0 Ii;obtain⟨A1,l1,c1,rfl,s5,LW,hi1⟩:=Pm (KB 1 23 v1 rfl rfl) h1 hr1;obtain⟨A2,l2,c2,rfl,Fj,ua⟩:=open_strs (KB 2 24 v2 rfl rfl) h2 LS;obtain⟨x3,rfl,rfl,rfl,wf3⟩:=open_int Tryz.underlying3 (KB 3 3 v3 rfl rfl) h3;obtain⟨A4,l4,c4,rfl,hl4,hc4,Pu,hx4⟩:=KA (KB 4 25 v4 rfl rfl) h4 hr4;obtain⟨x5,rfl,rfl,rfl,wf5⟩:=open_int Tryz.underlying3 (KB 5 3 v5 rfl rfl) h5;refine(Pg l0 A0 c0 l1 A1 c1 l2 A2 c2 x3 l4 A4 c4 x5 W WV s5 (RO.of uj) (fun x h=>(hf0 x h).1) (fun x h=>RO.of (hf0 x h).2) LW hi1 Fj hl4 (RO.of ua) hc4 (RO.of hx4) Pu).mono fun e W' ⟨v,he,hv,hm⟩=> ?_
 subst he;subst hv;exact⟨_,rfl,MB Tryz.laidOut Tryz.underlying4 kR kR rfl hW' rfl rfl rfl hm rfl⟩
theorem ssaRuns_holds:Rows.SsaRunsSaid:=OpenClaim.holds_of_wide 3 Tryz.f3 rfl rfl rfl rfl rfl rfl rfl ⟨rfl,rfl,rfl,rfl,rfl⟩ rfl rfl rfl rfl rfl kR Tryz.func3 kR (bK kR) (by unfold Func.isWrapper;first|(rw[bC (by decide+kernel)];kernel_rfl)|(rw[aB (by decide+kernel)];exact⟨rfl,rfl⟩)) (fun os started H enc _=>AN os started H enc)
#print axioms ssaRuns_holds
end Go.Proofs.YtjekgaabcigphaaGreat
