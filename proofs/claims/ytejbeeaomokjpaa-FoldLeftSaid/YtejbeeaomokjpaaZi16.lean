/-
  Texts of the proof, part 16.
-/
import Derived.Test.YtejbeeaomokjpaaZi15
set_option maxRecDepth 10000
namespace Go.Proofs.Ytejbeeaomokjpaa
open Go.Mor
theorem Xh(w:World):Calls Try.prog 31 #[] w (fE fun v w'=>v=vB true∧Mem ba w w' []):=by
 refine hZ 40 [] Try.func31 ?_;have hM:=Mem.init w;refine bC<|aQ<|aj 2 ?_;intro aC fr;refine rG 8 37 2 #[(0,.const (vI 0)),(1,.const (vI 1))] 37 fr (e:=3) (size:=1) (zs:=[vI 0]) (vs:=[(0,vI 0),(1,vI 1)]) (cs:=[vI 0,vI 1]) hM ?_;intro b1 w2 kH _ M3 _ aC ea fr;clear ea;replace M3:=M3.nf;clear hM;revert aC;refine aj 1 ?_;intro aC fr;refine rG 10 37 1 #[(0,.const (vI 2))] 37 fr (e:=3) (size:=1) (zs:=[vI 0]) (vs:=[(0,vI 2)]) (cs:=[vI 2]) M3 ?_;intro b8 w9 hb8 _ mc _ aC ea fr;clear ea;replace mc:=mc.nf;revert aC;refine aj 1 ?_;intro aC fr;refine rG 12 34 4 #[(0,.tmp 6),(1,.tmp 7),(2,.tmp 9),(3,.tmp 11)] 34 fr (e:=39) (size:=5) (zs:=[vI 0,vI 0,vI 0,vT ⟨#[]⟩,aq]) (vs:=[(0,(.agg #[vI 1,vI 0,vI 2,vT ⟨#[]⟩,aq])),(1,(.agg #[vI 1,vI 1,vI 3,vT ⟨#[]⟩,aq])),(2,(.agg #[vI 17,vI 2,vI 0,vT ⟨#[]⟩,vS (sM b1) 2 2])),(3,(.agg #[vI 10,vI (-1),vI 0,vT ⟨#[]⟩,vS (sM b8) 1 1]))]) (cs:=[vI 1,vI 0,vI 2,vT ⟨#[]⟩,aq,vI 1,vI 1,vI 3,vT ⟨#[]⟩,aq,vI 17,vI 2,vI 0,vT ⟨#[]⟩,vS (sM b1) 2 2,vI 10,vI (-1),vI 0,vT ⟨#[]⟩,vS (sM b8) 1 1]) mc ?_;intro fO Dx Rt _ kI _ aC ea fr;clear ea;replace kI:=kI.nf;revert aC;refine aj 1 ?_;intro aC fr;refine rG 14 22 1 #[(0,.tmp 13)] 22 fr (e:=36) (size:=6) (zs:=[aq,aq,vI 0,vI 0,vI 0,vI 0]) (vs:=[(0,(.agg #[aq,vS (sM fO) 4 4,vI 2,vI (-1),vI 0,vI 0]))]) (cs:=[aq,vS (sM fO) 4 4,vI 2,vI (-1),vI 0,vI 0]) kI ?_;intro K7 TJ Qey _ wC _ aC ea fr;clear ea;replace wC:=wC.nf;revert aC;refine aj 1<|eY (QcU PH false 0 3 (sM K7) 1 [iZ (sM b1) (sM b8) (sM fO)] TJ sI QgD (Rl (x:=iZ (sM b1) (sM b8) (sM fO)) rfl (wC.get 3 rfl) (wC.get 2 rfl) (by intro i hi;simp only[iZ,iR,xK,rA]at hi;rcases hi with rfl|rfl|rfl|rfl;exact NO;exact NO;exact aB (wC.get 0 rfl);exact aB (wC.get 1 rfl))) Qbt) ?_;rintro _ cX ⟨CB,Qc2,XQ,rfl,QbJ,Ow⟩;have v8:=wC.cl Ow;refine aj 3<|mZ v8 24 [vT ⟨#[]⟩,vB false,vI 0,vI 0,aq] fun UL YA Qev pU=> ?_
 replace pU:=pU.nf;refine dX [1,17,18]<|po pU 6 [vT PH,vB false,vI 0,vI 3,vS CB ((af XQ).length) Qc2] rfl fun ZR tX=> ?_
 replace tX:=tX.nf;refine aj 1<|aE<|aQ ?_;obtain⟨hmb,hmo,hmn⟩:=Qhs QbJ;have yy:pL XQ:=pL.alike QbJ.symm (Qbs Qbt QgD);have yz:XQ.length≤1000:=by have h9:=Qbr (fs:=[iZ (sM b1) (sM b8) (sM fO)]) (nm:=PH) (pa:=0) (va:=3) Qbt;rw[QbJ.len];simp only[qC,u6]at h9;omega
 refine gu (aZ UL) [vT PH,vB false,vI 0,vI 3,vS CB ((af XQ).length) Qc2] (aK (tX.get 6 rfl))<|eY ((by have h9:=QeA PH false 0 3 CB Qc2 XQ 2 ZR yz yy (RO.of (jQ (tX.get 4 rfl) (tX.get 5 rfl)));rw[hmb,hmo,hmn]at h9;exact h9)) ?_;rintro _ VH ⟨rfl,V4⟩;have s8:=tX.cl V4;refine aj 3<|mZ s8 39 [vI 0,vI 0,vI 0,vT ⟨#[]⟩,aq] fun b41 cY hb41 zT=> ?_
 replace zT:=zT.nf;refine po zT 7 [vI 1,vI ((lS XQ 2).dst),vI 5,vT ((lS XQ 2).name),vS ((lS XQ 2).A) ((lS XQ 2).args.length) ((lS XQ 2).c)] rfl fun Xi NW=> ?_
 replace NW:=NW.nf;refine aj 1<|aE<|aQ<|aj 1<|eY (QcT (0:Int) Xi) ?_;rintro _ kP ⟨rfl,RC⟩;have EO:=NW.cl RC;refine gC ((0:Int)==0) fun B48 DH=> ?_
 obtain rfl:B48=true:=by
   have bW:((0:Int)=0):=by rfl
   first|exact DH.trans (NI bW)|exact DH.trans (Oc bW)|exact DH.trans (bl.2 bW)|exact DH.trans (kb.2 bW)|exact DH.trans (nF.2 (fun e=>bW (bl.1 e)))|exact DH.trans (nF.2 (fun e=>bW (kb.1 e)))
 clear DH;refine aj 5<|bq (aZ b41) _ (ae (EO.get 7 rfl) rfl)<|dX [3,30,32]<|gC ((1:Int)==1) fun Lm S1=> ?_
 obtain rfl:Lm=true:=by
   have bW:((1:Int)=1):=by rfl
   first|exact S1.trans (NI bW)|exact S1.trans (Oc bW)|exact S1.trans (bl.2 bW)|exact S1.trans (kb.2 bW)|exact S1.trans (nF.2 (fun e=>bW (bl.1 e)))|exact S1.trans (nF.2 (fun e=>bW (kb.1 e)))
 clear S1;refine aj 3<|bq (ak b41 2) _ (ae (EO.get 7 rfl) rfl)<|gC ((5:Int)==5) fun Gx vy=> ?_
 obtain rfl:Gx=true:=by
   have bW:((5:Int)=5):=by rfl
   first|exact vy.trans (NI bW)|exact vy.trans (Oc bW)|exact vy.trans (bl.2 bW)|exact vy.trans (kb.2 bW)|exact vy.trans (nF.2 (fun e=>bW (bl.1 e)))|exact vy.trans (nF.2 (fun e=>bW (kb.1 e)))
 clear vy;refine aj 2<|aE<|an<|cQ (vB true) ?_;have sD:=EO.od [] 0;exact⟨rfl,sD⟩
end Go.Proofs.Ytejbeeaomokjpaa
namespace Go.Proofs.Ytejbeeaomokjpaa
open Go.Mor
theorem QjP(nm:cV)(wk:Bool)(pa va:Int)(A:aX)(c:Nat)(fs:List ay)(w:World)(gx:pL fs)(hA:RO ba w (.fn A fs)):Calls Try.prog 10 #[fA nm wk pa va A c fs] w (fE fun v w'=>v=vB true∧Mem ba w w' []):=by
 have wA:=bE fs;have hB:=hA.bs;refine hZ 29 [fA nm wk pa va A c fs] Try.func10 ?_;have hM:=Mem.init w;refine aQ<|nJ hM 24 (fA nm wk pa va A c fs) (fV nm wk pa va A c fs) fun b1 w2 kH M3=> ?_
 replace M3:=M3.nf;clear hM;refine aj 1<|aE<|bx<|aQ<|gu (aZ b1) (fV nm wk pa va A c fs) (aK (M3.get 0 rfl))<|eY (Qez nm wk pa va A c fs w2 gx (hA.at_ M3)) ?_;rintro _ w4 ⟨rfl,KO⟩;have M5:=M3.cl KO;refine aj 1 ?_;obtain⟨B6,sJ⟩:∃B:Bool,B=decide (lP va fs):=⟨_,rfl⟩;refine cH [(1,pT b1 0),(7,vB (decide (lP va fs)))] ?_;rw[←sJ];have zq:B6=true↔(lP va fs):=by rw[sJ];simp only[dF]
 clear sJ;cases B6;have c6:¬(lP va fs):=jb zq.2;obtain⟨hN6,hs8⟩:=Gl c6;refine gu (aZ b1) (fV nm wk pa va A c fs) (aK (M5.get 0 rfl))<|eY (mF nm wk pa va A c fs w4 oM gx (hA.at_ M5)) ?_;rintro _ w7 ⟨rfl,LV⟩;have M8:=M5.cl LV;refine aj 2<|aE<|fh (((bV nm pa va fs):Int) !=0) (((bV nm pa va fs):Int)≠0) (by simp only[kb]) (fun c9=> ?_) (fun c9=> ?_);refine aQ<|eY (Xh w7) ?_;rintro _ U9 ⟨rfl,Sb⟩;have rP:=M8.cl Sb;refine aj 1<|aE<|an<|cQ (vB true) ?_;have jV:=rP.od [] 0;exact⟨rfl,jV⟩;have xI:bV nm pa va fs=0:=oM;refine cg<|aQ<|gu (aZ b1) (fV nm wk pa va A c fs) (aK (M8.get 0 rfl))<|eY (QcU nm wk pa va A c fs w7 oM gx (hA.at_ M8) xI) ?_;rintro _ Dx ⟨OA,Qj4,QjS,rfl,QjY,Qka⟩;have kI:=M8.cl Qka;refine aj 3<|mZ kI 24 [vT ⟨#[]⟩,vB false,vI 0,vI 0,aq] fun b18 Qh Qia Gu=> ?_
 replace Gu:=Gu.nf;refine po Gu 3 [vT nm,vB wk,vI pa,vI va,vS OA ((af QjS).length) Qj4] rfl fun Vj oJ=> ?_
 replace oJ:=oJ.nf;refine aj 1<|aE<|aQ ?_;have Ta:pL QjS:=pL.alike QjY.symm (Qbs xI gx);have nR:QjS.length≤1000:=by have h9:=Qbr xI;rw[QjY.len];omega
 have Qkb:QjF QjS:=QjR xI QjY;refine aj 1<|eY (QcT (0:Int) Vj) ?_;rintro _ TJ ⟨rfl,QcB⟩;have wC:=oJ.cl QcB;refine gC ((0:Int)==0) fun P4 vH=> ?_
 obtain rfl:P4=true:=by
   have bW:((0:Int)=0):=by rfl
   first|exact vH.trans (NI bW)|exact vH.trans (Oc bW)|exact vH.trans (bl.2 bW)|exact vH.trans (kb.2 bW)|exact vH.trans (nF.2 (fun e=>bW (bl.1 e)))|exact vH.trans (nF.2 (fun e=>bW (kb.1 e)))
 clear vH;refine dX [3,20]<|aj 1<|gu (aZ b18) [vT nm,vB wk,vI pa,vI va,vS OA ((af QjS).length) Qj4] (aK (wC.get 3 rfl))<|eY (QjX nm wk pa va OA Qj4 QjS TJ nR Ta (RO.of (jQ (wC.get 1 rfl) (wC.get 2 rfl))) Qkb) ?_;rintro _ Vg ⟨rfl,Qcd⟩;have pS:=wC.cl Qcd;refine aj 3<|eY (Xh Vg) ?_;rintro _ NX ⟨rfl,Qkc⟩;have kr:=pS.cl Qkc;refine aj 2<|aE<|an<|cQ (vB true) ?_;have zN:=kr.od [] 0;exact⟨rfl,zN⟩;have c6:(lP va fs):=zq.1 rfl;refine aj 4<|aE<|fN<|aQ<|eY (Xh w4) ?_;rintro _ cF ⟨rfl,D6⟩;have qL:=M5.cl D6;refine aj 1<|aE<|an<|cQ (vB true) ?_;have v8:=qL.od [] 0;exact⟨rfl,v8⟩
end Go.Proofs.Ytejbeeaomokjpaa
