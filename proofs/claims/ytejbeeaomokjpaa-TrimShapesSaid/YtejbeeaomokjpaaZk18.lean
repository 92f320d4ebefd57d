/-
  For every function of SSA the law TrimShapes answers true, and leaves what came in as it was; no condition.
-/
import Derived.Test.YtejbeeaomokjpaaZk17
import Derived.SizedLaws
set_option maxRecDepth 10000
namespace Go.Proofs.Ytejbeeaomokjpaa
open Go.Mor Go.ChangeShapes Go.WideShapes Go.ChangeAt Go.RowKit Go.Deep
set_option maxRecDepth 100000 in
theorem Qbf(os:Os)(started:os.Started)(H:Type)(enc:TypeId×Value→H):ReturnsInHanded {} Try.checked os 12 .any (Rows.trimShapesSpec.pre6 enc Try.prog Try.f12 Rows.trimShapesRow.domain false) (Rows.trimShapesSpec.post enc Try.prog Try.f12 false true false false):=by
 refine returnsInHanded_of_change_sized (C:=Try.checked) Try.own started kR Try.func12 (ChangeSpec.witness6 (enc:=enc) (C:=Try.checked) false ⟨#[],#[.agg #[.string ⟨#[]⟩,.bool false,vI 0,vI 0,aq]],[]⟩ 8 kR kR kR kR) ?_;intro W base args ds gs before XY hW _ hz _;have XZ:∀(j:Nat) t v,Try.f12.params[j]?=some t→args[j]?=some v→Value.okWide Try.prog W .any base t v:=XY;have X3:=hW;obtain⟨p,q,hA0,hV,_,_,_⟩:=hW;obtain⟨rfl,rfl⟩:=trodVars_none hV;have hA:DataW.TrodAll enc Try.prog W 0 (fun _=>true) true Try.f12.params.toList args.toList ds p:=hA0;rw[Try.params12]at hA XZ hz;obtain⟨v0,d0,rfl,rfl,h0⟩:=trodAll_one hA;have Fc:jK 24 d0:=fun n hn=>by have:=Qjq.1 hz n (DataW.weights_mem_each (j:=0) (t:=24) (d:=d0) rfl rfl n hn);simpa using this
 obtain⟨nm0,wk0,pa0,La,A0,fs0,c0,rfl,Qco,vX⟩:=CX (XZ 0 24 v0 rfl rfl) h0 Fc;refine(Qko nm0 wk0 pa0 La A0 c0 fs0 W Qco (RO.of vX)).mono fun e W' ⟨v,he,hv,hm⟩=> ?_
 subst he;subst hv;exact⟨_,rfl,Fq Try.laidOut Try.underlying4 kR kR rfl X3 rfl rfl rfl hm rfl⟩
theorem trimShapes_holds:Rows.TrimShapesSaid:=OpenClaim.holds_of_wide 12 Try.f12 rfl rfl rfl rfl rfl rfl rfl ⟨rfl,rfl,rfl,rfl,rfl⟩ rfl rfl rfl rfl rfl kR Try.func12 kR (nF kR) (by unfold Func.isWrapper;first|(rw[dd (by decide+kernel)];kernel_rfl)|(rw[QcA (by decide+kernel)];exact⟨rfl,rfl⟩)) (fun os started H enc _=>Qbf os started H enc)
#print axioms trimShapes_holds
end Go.Proofs.Ytejbeeaomokjpaa
