/-
  For every function of SSA the law TrimLeft answers true, and leaves what came in as it was; no condition.
-/
import Derived.Test.YtejbeeaomokjpaaZl16
import Derived.SizedLaws
set_option maxRecDepth 10000
namespace Go.Proofs.Ytejbeeaomokjpaa
open Go.Mor Go.ChangeShapes Go.WideShapes Go.ChangeAt Go.RowKit Go.Deep
set_option maxRecDepth 100000 in
theorem Qbe(os:Os)(started:os.Started)(H:Type)(enc:TypeId×Value→H):ReturnsInHanded {} Try.checked os 13 .any (Rows.trimLeftSpec.pre6 enc Try.prog Try.f13 Rows.trimLeftRow.domain false) (Rows.trimLeftSpec.post enc Try.prog Try.f13 false true false false):=by
 refine returnsInHanded_of_change_sized (C:=Try.checked) Try.own started kR Try.func13 (ChangeSpec.witness6 (enc:=enc) (C:=Try.checked) false ⟨#[],#[.agg #[.string ⟨#[]⟩,.bool false,vI 0,vI 0,aq]],[]⟩ 8 kR kR kR kR) ?_;intro W base args ds gs before XY hW _ hz _;have XZ:∀(j:Nat) t v,Try.f13.params[j]?=some t→args[j]?=some v→Value.okWide Try.prog W .any base t v:=XY;have X3:=hW;obtain⟨p,q,hA0,hV,_,_,_⟩:=hW;obtain⟨rfl,rfl⟩:=trodVars_none hV;have hA:DataW.TrodAll enc Try.prog W 0 (fun _=>true) true Try.f13.params.toList args.toList ds p:=hA0;rw[Try.params13]at hA XZ hz;obtain⟨v0,d0,rfl,rfl,h0⟩:=trodAll_one hA;have Fc:jK 24 d0:=fun n hn=>by have:=Qjq.1 hz n (DataW.weights_mem_each (j:=0) (t:=24) (d:=d0) rfl rfl n hn);simpa using this
 obtain⟨nm0,wk0,pa0,La,A0,fs0,c0,rfl,Qco,vX⟩:=CX (XZ 0 24 v0 rfl rfl) h0 Fc;refine(Qj4 nm0 wk0 pa0 La A0 c0 fs0 W Qco (RO.of vX)).mono fun e W' ⟨v,he,hv,hm⟩=> ?_
 subst he;subst hv;exact⟨_,rfl,Fq Try.laidOut Try.underlying4 kR kR rfl X3 rfl rfl rfl hm rfl⟩
theorem trimLeft_holds:Rows.TrimLeftSaid:=OpenClaim.holds_of_wide 13 Try.f13 rfl rfl rfl rfl rfl rfl rfl ⟨rfl,rfl,rfl,rfl,rfl⟩ rfl rfl rfl rfl rfl kR Try.func13 kR (nF kR) (by unfold Func.isWrapper;first|(rw[dd (by decide+kernel)];kernel_rfl)|(rw[QcA (by decide+kernel)];exact⟨rfl,rfl⟩)) (fun os started H enc _=>Qbe os started H enc)
#print axioms trimLeft_holds
end Go.Proofs.Ytejbeeaomokjpaa
