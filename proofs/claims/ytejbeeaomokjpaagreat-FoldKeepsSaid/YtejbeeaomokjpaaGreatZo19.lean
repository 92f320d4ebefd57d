/-
  For all functions of SSA, names that begin, bytes and numbers of steps the law FoldKeeps answers true, and leaves what came in as it was; no condition.
-/
import Derived.Test.YtejbeeaomokjpaaGreatZo18
import Derived.SizedLaws
set_option maxRecDepth 10000
open List Go.Mor Go.ChangeShapes Go.WideShapes Go.ChangeAt Go.RowKit Go.Deep
open List renaming length -> ae
namespace Go.Proofs.YtejbeeaomokjpaaGreat
set_option maxRecDepth 100000 in
theorem Ac(os:Os)(started:os.Started)(H:Type)(enc:TypeId×Value->H):ReturnsInHanded {} Tryz.checked os 6 .any (Rows.foldKeepsSpec.pre6 enc Tryz.prog Tryz.f6 Rows.foldKeepsRow.domain false) (Rows.foldKeepsSpec.post enc Tryz.prog Tryz.f6 false true false false):=by
 refine returnsInHanded_of_change_sized (C:=Tryz.checked) Tryz.own started kR Tryz.func6 (ChangeSpec.witness6 (enc:=enc) (C:=Tryz.checked) false ⟨#[],#[ay,ay,ay,vI 0],[]⟩ 8 kR kR kR kR) ?_;intro W base args ds gs before QmN hW _ hz _;have FC:∀(j:Nat) t v,Tryz.f6.params[j]?=some t->args[j]?=some v->Value.okWide Tryz.prog W .any base t v:=QmN;have hW':=hW;obtain⟨p,q,hA0,hV,_,_,_⟩:=hW;obtain⟨rfl,rfl⟩:=trodVars_none hV;have hA:DataW.TrodAll enc Tryz.prog W 0 (λ_=>true) true Tryz.f6.params.toList args.toList ds p:=hA0;rw[Tryz.params6]at hA FC hz;obtain⟨v0,v1,v2,v3,d0,d1,d2,d3,p0,p1,p2,p3,rfl,rfl,rfl,h0,h1,h2,h3⟩:=trodAll_four hA;have BA:kG 22 d0:=λn hn=>by have:=gQ.1 hz n (xG (j:=0) (t:=22) (d:=d0) rfl rfl n hn);simpa using this
 have hr1:kG 23 d1:=λn hn=>by have:=gQ.1 hz n (xG (j:=1) (t:=23) (d:=d1) rfl rfl n hn);simpa using this
 have QT:kG 24 d2:=λn hn=>by have:=gQ.1 hz n (xG (j:=2) (t:=24) (d:=d2) rfl rfl n hn);simpa using this
 have hr3:kG 3 d3:=λn hn=>by have:=gQ.1 hz n (xG (j:=3) (t:=3) (d:=d3) rfl rfl n hn);simpa using this
 obtain⟨A0,l0,c0,rfl,hl0,xP,hf0⟩:=Qbg (FC 0 22 v0 rfl rfl) h0 BA;obtain⟨A1,l1,c1,rfl,ub,mS⟩:=open_strs (FC 1 23 v1 rfl rfl) h1 hr1;obtain⟨A2,l2,c2,rfl,Aq,hc2,tm,Qy⟩:=Qj (FC 2 24 v2 rfl rfl) h2 QT;obtain⟨x3,rfl,rfl,rfl,wf3⟩:=open_int Tryz.underlying3 (FC 3 3 v3 rfl rfl) h3;refine(M0 l0 A0 c0 l1 A1 c1 l2 A2 c2 x3 W hl0 (RO.of xP) (λx h=>(hf0 x h).1) (λx h=>RO.of (hf0 x h).2) ub Aq (RO.of mS) hc2 (RO.of Qy) tm).mono λe W' ⟨v,he,hv,hm⟩=> ?_
 subst he;subst hv;exact⟨_,rfl,Sp Tryz.laidOut Tryz.underlying4 kR kR rfl hW' rfl rfl rfl hm rfl⟩
theorem foldKeeps_holds:Rows.FoldKeepsSaid:=OpenClaim.holds_of_wide 6 Tryz.f6 rfl rfl rfl rfl rfl rfl rfl ⟨rfl,rfl,rfl,rfl,rfl⟩ rfl rfl rfl rfl rfl kR Tryz.func6 kR (cf kR) (by unfold Func.isWrapper;first|(rw[ax (by decide+kernel)];kernel_rfl)|(rw[ao (by decide+kernel)];exact⟨rfl,rfl⟩)) (λos started H enc _=>Ac os started H enc)
#print axioms foldKeeps_holds
end Go.Proofs.YtejbeeaomokjpaaGreat
