/-
  Texts of the proof, part 12.
-/
import Derived.Test.YtejbeeaomokjpaaZe11
import Derived.Test.YtejbeeaomokjpaaRows
set_option maxRecDepth 10000
namespace Go.Proofs.Ytejbeeaomokjpaa
open Go.Mor
theorem UR(l:ar)(k:Int)(A:aX)(c:Nat)(w:World)(hm:l.length≤1000000)(hA:RO ba w (.rd A (ints l))):Calls Try.prog 75 #[vS A l.length c,vI k] w (fE fun v w'=>v=vB (l.contains k)∧Mem ba w w' []):=by
 refine hZ 18 [vS A l.length c,vI k] Try.func75 ?_;have hM:=Mem.init w;refine bC<|bx<|bC<|cK 0 ?_;intro aC fr;refine gT (fun n_ a_ w_=>∃(j:Nat),n_=l.length-j∧Fr a_ 18 [(0,vS A l.length c),(1,vI k),(5,nV j)]∧Mem ba w w_ []∧(j≤l.length)∧((l.take j).contains k=false)) (n:=_) ⟨0,rfl,fr.kp [0,1,5],hM,oM,sI⟩ ?_;clear fr aC hM;rintro n aC w3 ⟨j,rfl,fr,M4,hj,hn⟩;revert aC;refine bx<|aQ<|aj 3<|gC (decide ((j:Int)<(l.length:Int))) fun B7 wv=> ?_
 refine aE ?_;cases B7;have c7:¬((j:Int)<(l.length:Int)):=Qe7 wv.symm;refine fT<|gq 0<|gr<|bC<|an<|cQ (vB false) ?_;exact⟨by rw[QM hn oM],M4⟩;have c7:(j:Int)<(l.length:Int):=Qe4 wv.symm;refine fN<|cg<|bx<|cK 1<|aQ<|aj 2 ?_;obtain⟨zi,rfl⟩:=ra (M4.ro hA) oM;refine eZ zi l.length 1 (j:Int)<|bq (aN zi (j:Int) 1) _ (kS (M4.ro hA) rfl oM oM)<|aj 1<|gC ((l.getD (j:Int).toNat 0)==k) fun JA pR=> ?_
 refine aE ?_;cases JA;have vq:¬((l.getD (j:Int).toNat 0)=k):=F6 pR;refine fT<|cg<|dh<|aj 1<|ep ((j:Int)+1)<|aj 1<|aE ?_;intro aC fr;exact⟨l.length-(j+1),oM,j+1,rfl,fr.kp [0,1,5],M4,oM,H2 hn vq oM⟩;have vq:(l.getD (j:Int).toNat 0)=k:=Qc3.1 pR.symm;refine fN<|bC<|an<|eu<|eu<|cQ (vB true) ?_;exact⟨by rw[Mw vq oM],M4⟩
theorem vr(nm wk pa va:Value)(A:aX)(c:Nat)(bs:List SB)(b:Int)(w:World)(jH:bs.length≤1000000)(hA:RO ba w (.blocks A bs)):Calls Try.prog 74 #[(.agg #[nm,wk,pa,va,vS A bs.length c]),vI b] w (fE fun v w'=>∃A' c',v=vS A' (tg bs b).length c'∧Mem ba w w' [.row 3 1 A' (tg bs b).length c' (ints (tg bs b))]):=by
 refine hZ 74 [(.agg #[nm,wk,pa,va,vS A bs.length c]),vI b] Try.func74 ?_;have hM:=Mem.init w;refine aQ<|nJ hM 24 (.agg #[nm,wk,pa,va,vS A bs.length c]) [nm,wk,pa,va,vS A bs.length c] fun b1 w2 kH M3=> ?_
 replace M3:=M3.nf;clear hM;refine aj 1<|aE<|bx<|aQ<|aj 1<|gC (decide (b<0)) fun US BN=> ?_
 refine aj 1 ?_;cases US;have UT:¬(b<0):=Qe7 BN.symm;refine aj 2<|bq (ak b1 4) _ (ae (M3.get 0 rfl) rfl)<|aj 1<|gC (decide (b≥(bs.length:Int))) fun UU Dw=> ?_
 refine aj 1<|aE ?_;cases UU;have ZP:¬(b≥(bs.length:Int)):=Qe7 Dw.symm;refine fT<|cg<|aQ ?_;obtain⟨x,hx⟩:=H0 (l:=bs) (i:=b) oM oM;refine aj 1<|bq (ak b1 4) _ (ae (M3.get 0 rfl) rfl)<|aj 1 ?_;obtain⟨vt,rfl⟩:=dN (M3.ro hA) hx;refine eZ vt bs.length 6 b<|gu (aN vt (b) 6) [vS x.pA x.pn x.pc,vS x.iA x.ik x.ic,vI x.e,vI x.v,vI x.a,vI x.b] (qj (M3.ro hA) rfl hx)<|mZ M3 36 [aq,aq,vI 0,vI 0,vI 0,vI 0] fun b5 w6 ZQ M7=> ?_
 replace M7:=M7.nf;refine po M7 1 [vS x.pA x.pn x.pc,vS x.iA x.ik x.ic,vI x.e,vI x.v,vI x.a,vI x.b] rfl fun w8 M9=> ?_
 replace M9:=M9.nf;refine dX [2,5]<|aE<|bC<|bx ?_;intro aC fr;refine wS (fun a_ w_=>Fr a_ 74 [(2,pT b1 0),(5,pT b5 0),(6,aq)]∧Mem ba w w_ [.au b1 24 [nm,wk,pa,va,vS (some vt) bs.length c],.au b5 36 [vS x.pA x.pn x.pc,vS x.iA x.ik x.ic,vI x.e,vI x.v,vI x.a,vI x.b]]∧(x.e=0∨x.e=1)) ?_ ?_;clear fr aC M9;rintro aC UW ⟨fr,qJ,he⟩;revert aC;refine bx ?_;intro aC fr;refine wS (fun a_ w_=>∃(A1:aX) (n1:Nat) (c1:Nat) (l1:ar),Fr a_ 74 [(2,pT b1 0),(5,pT b5 0),(6,vS A1 n1 c1)]∧Mem ba w w_ [.au b1 24 [nm,wk,pa,va,vS (some vt) bs.length c],.au b5 36 [vS x.pA x.pn x.pc,vS x.iA x.ik x.ic,vI x.e,vI x.v,vI x.a,vI x.b],.row 3 1 A1 n1 c1 (ints l1)]∧(l1=LH bs.length x)∧(n1=l1.length)) ?_ ?_;clear fr aC qJ;rintro aC NS ⟨A1,n1,c1,l1,fr,lu,nR,Cs⟩;revert aC;refine bx ?_;intro aC fr;refine wS (fun a_ w_=>∃(A2:aX) (n2:Nat) (c2:Nat) (l2:ar),Fr a_ 74 [(6,vS A2 n2 c2)]∧Mem ba w w_ [.au b1 24 [nm,wk,pa,va,vS (some vt) bs.length c],.au b5 36 [vS x.pA x.pn x.pc,vS x.iA x.ik x.ic,vI x.e,vI x.v,vI x.a,vI x.b],.row 3 1 A2 n2 c2 (ints l2)]∧(l2=LH bs.length x++QP bs.length x)∧(n2=l2.length)) ?_ ?_;clear fr aC lu;rintro aC Yn ⟨A2,n2,c2,l2,fr,JB,xo,Ho⟩;revert aC;refine bC<|an<|cQ (vS A2 n2 c2) ?_;exact mO (JB.pick [false,false,true] rfl) (by rw[xo,rt_eq he,wW oM hx]) Ho;revert aC;refine aQ<|aj 1<|bq (ak b5 2) _ (ae (lu.get 1 rfl) rfl)<|gC (x.e==1) fun Bf1 UX=> ?_
 refine aj 1 ?_;cases Bf1;have cf1:¬(x.e=1):=F6 UX;refine aj 19<|aE<|fT<|cg ?_;intro aC fr;exact⟨A1,n1,c1,l1,fr.kp [6],lu,by rw[yD oM,Qga];exact nR,Cs⟩;have cf1:x.e=1:=Qc3.1 UX.symm;refine aj 1<|bq (ak b5 5) _ (ae (lu.get 1 rfl) rfl)<|aj 1<|bq (ak b5 4) _ (ae (lu.get 1 rfl) rfl)<|gC (x.b !=x.a) fun UY zj=> ?_
 refine aj 2 ?_;cases UY;have Rp:¬(x.b≠x.a):=Q9 zj;refine aj 12<|aE<|fT<|cg ?_;intro aC fr;exact⟨A1,n1,c1,l1,fr.kp [6],lu,by rw[yD oM,Qga];exact nR,Cs⟩;have Rp:x.b≠x.a:=QeY.1 zj.symm;refine aj 1<|bq (ak b5 5) _ (ae (lu.get 1 rfl) rfl)<|gC (decide (x.b≥0)) fun Bb0 UZ=> ?_
 refine aj 2 ?_;cases Bb0;have cb0:¬(x.b≥0):=Qe7 UZ.symm;refine aj 7<|aE<|fT<|cg ?_;intro aC fr;exact⟨A1,n1,c1,l1,fr.kp [6],lu,by rw[yD oM,Qga];exact nR,Cs⟩;have cb0:x.b≥0:=Qe4 UZ.symm;refine aj 1<|bq (ak b5 5) _ (ae (lu.get 1 rfl) rfl)<|aj 1<|bq (ak b1 4) _ (ae (lu.get 0 rfl) rfl)<|aj 1<|gC (decide (x.b<(bs.length:Int))) fun Bb1 U0=> ?_
 refine aj 1<|aE ?_;cases Bb1;have cb1:¬(x.b<(bs.length:Int)):=Qe7 U0.symm;refine fT<|cg ?_;intro aC fr;exact⟨A1,n1,c1,l1,fr.kp [6],lu,by rw[yD oM,Qga];exact nR,Cs⟩;have cb1:x.b<(bs.length:Int):=Qe4 U0.symm;refine fN<|dh<|aj 2<|bq (ak b5 5) _ (ae (lu.get 1 rfl) rfl)<|dX [68,70] ?_;intro aC fr;refine rG 71 37 1 #[(0,.tmp 70)] 37 fr (e:=3) (size:=1) (zs:=[vI 0]) (vs:=[(0,vI x.b)]) (cs:=[vI x.b]) lu ?_;intro b36 ZR hb36 _ tX _ aC ea fr;clear ea;replace tX:=tX.nf;refine tT 72 (.tmp 68) (.tmp 71) 37 37 fr (e:=3) (size:=1) (bytes:=8) (z:=(vI 0)) (A:=A1) (B:=(sM b36)) (n:=n1) (cap:=c1) (m:=1) (cap':=1) (xs:=(ints l1)) (news:=[vI x.b]) tX 2 rfl (aB (tX.get 3 rfl)) rfl (by simp[Value.oneCell']) (by have:=Ei bs.length x;rw[nR]at Cs;omega) (by have:=Ei bs.length x;rw[nR]at Cs;simp only[maxLen];omega) ?_;intro A43 LR Yo sB _ aC ea fr;clear ea;replace sB:=sB.nf;have oI:=sB.od [2,2,2] 3;revert aC;refine aj 1<|aE ?_;intro aC fr;exact⟨A43,(n1+1),LR,l1++[x.b],fr.kp [6],oI.cast (by rw[iU];rfl),by rw[MB oM oM oM oM,nR],by simp[Cs]⟩;revert aC;refine aQ<|aj 1<|bq (ak b5 4) _ (ae (qJ.get 1 rfl) rfl)<|gC (decide (x.a≥0)) fun Ba0 U1=> ?_
 refine aj 1 ?_;cases Ba0;have ca0:¬(x.a≥0):=Qe7 U1.symm;refine aj 7<|aE<|fT<|cg ?_;intro aC fr;exact⟨none,0,0,[],fr.kp [2,5,6],qJ.call (Mem.gK _ 3 1),(H4 oM).symm,rfl⟩;have ca0:x.a≥0:=Qe4 U1.symm;refine aj 1<|bq (ak b5 4) _ (ae (qJ.get 1 rfl) rfl)<|aj 1<|bq (ak b1 4) _ (ae (qJ.get 0 rfl) rfl)<|aj 1<|gC (decide (x.a<(bs.length:Int))) fun Ba1 U2=> ?_
 refine aj 1<|aE ?_;cases Ba1;have ca1:¬(x.a<(bs.length:Int)):=Qe7 U2.symm;refine fT<|cg ?_;intro aC fr;exact⟨none,0,0,[],fr.kp [2,5,6],qJ.call (Mem.gK _ 3 1),(H4 oM).symm,rfl⟩;have ca1:x.a<(bs.length:Int):=Qe4 U2.symm;refine fN<|dh<|aj 2<|bq (ak b5 4) _ (ae (qJ.get 1 rfl) rfl) ?_;intro aC fr;refine rG 43 37 1 #[(0,.tmp 42)] 37 fr (e:=3) (size:=1) (zs:=[vI 0]) (vs:=[(0,vI x.a)]) (cs:=[vI x.a]) qJ ?_;intro b56 Yp hb56 _ sC _ aC ea fr;clear ea;replace sC:=sC.nf;have wx:=sC.cl (Mem.gK _ 3 1);refine tT 44 (.tmp 40) (.tmp 43) 37 37 fr (e:=3) (size:=1) (bytes:=8) (z:=(vI 0)) (A:=none) (B:=(sM b56)) (n:=0) (cap:=0) (m:=1) (cap':=1) (xs:=[]) (news:=[vI x.a]) wx 3 rfl (aB (wx.get 2 rfl)) rfl (by simp[Value.oneCell']) oM (by simp only[maxLen];omega) ?_;intro A64 c65 jI tY _ aC ea fr;clear ea;replace tY:=tY.nf;have Ct:=tY.od [3,2,2] 3;revert aC;refine aj 1<|aE ?_;intro aC fr;exact⟨A64,(0+1),c65,[x.a],fr.kp [2,5,6],Ct,(MA oM oM).symm,rfl⟩;revert aC;refine aQ<|aj 1<|bq (ak b5 2) _ (ae (M9.get 1 rfl) rfl)<|gC (x.e !=0) fun ZS JC=> ?_
 refine aj 1 ?_;cases ZS;have Yq:¬(x.e≠0):=Q9 JC;refine aj 4<|aE<|fT<|cg ?_;intro aC fr;exact⟨fr.kp [2,5,6],M9,oM⟩;have Yq:x.e≠0:=QeY.1 JC.symm;refine aj 1<|bq (ak b5 2) _ (ae (M9.get 1 rfl) rfl)<|gC (x.e !=1) fun ZT JD=> ?_
 refine aj 1<|aE ?_;cases ZT;have Yr:¬(x.e≠1):=Q9 JD;refine fT<|cg ?_;intro aC fr;exact⟨fr.kp [2,5,6],M9,oM⟩;have Yr:x.e≠1:=QeY.1 JD.symm;refine fN<|bC<|an<|cQ aq ?_;exact Ha (M9.pick [false,false] rfl) (by rw[wW oM hx];exact Mz oM oM);have ZP:b≥(bs.length:Int):=Qe4 Dw.symm;refine fN<|bC<|an<|cQ aq ?_;exact Ha (M3.pick [false] rfl) (uI oM);have UT:b<0:=Qe4 BN.symm;refine aj 6<|aE<|fN<|bC<|an<|cQ aq ?_;exact Ha (M3.pick [false] rfl) (uI oM)
theorem JE(q:Nat)(nm wk pa va:Value)(A:aX)(c:Nat)(bs:List SB)(t:Int)(w:World)(jH:bs.length≤1000000)(hq:RO ba w (.au q 24 [nm,wk,pa,va,.slice A bs.length c])):Calls Try.prog 129 #[vI t,pT q 0] w (fE fun v w'=>v=vB (!(gU bs.length t))∧Mem ba w w' []):=by
 refine hZ 13 [vI t,pT q 0] Try.func129 ?_;have hM:=Mem.init w;refine bC<|aQ<|aj 1<|gC (decide (t<0)) fun US BN=> ?_
 refine aj 1 ?_;cases US;have UT:¬(t<0):=Qe7 BN.symm;refine aj 2<|bq (ak q 4) _ (ae (hM.ro hq) rfl)<|aj 1<|gC (decide (t≥(bs.length:Int))) fun UU Dw=> ?_
 refine aj 2<|aE<|an<|cQ (vB UU) ?_;exact⟨by rw[Dw,QO oM],hM⟩;have UT:t<0:=Qe4 BN.symm;refine aj 7<|aE<|an<|cQ (vB true) ?_;exact⟨by rw[QN oM];rfl,hM⟩
theorem JF(l:ar)(B:aX)(d:Nat)(q:Nat)(nm wk pa va:Value)(A:aX)(c:Nat)(bs:List SB)(w:World)(LS:l.length≤1000000)(hl:RO ba w (.rd B (ints l)))(hm:bs.length≤1000000)(hq:RO ba w (.au q 24 [nm,wk,pa,va,.slice A bs.length c])):Calls Try.prog 121 #[vS B l.length d,(.func (.func 129) #[] #[pT q 0])] w (fE fun v w'=>v=vI (nH (fun x=> !(gU bs.length x)) l)∧Mem ba w w' []):=by
 refine hZ 19 [vS B l.length d,(.func (.func 129) #[] #[pT q 0])] Try.func121 ?_;have hM:=Mem.init w;refine bC<|bx<|bC<|cK 0 ?_;intro aC fr;refine gT (fun n_ a_ w_=>∃(j:Nat),n_=l.length-j∧Fr a_ 19 [(0,vS B l.length d),(1,(.func (.func 129) #[] #[pT q 0])),(7,(vI (l.length:Int))),(8,nV j)]∧Mem ba w w_ []∧(j≤l.length)∧((l.take j).any (fun x=> !(gU bs.length x))=false)) (n:=_) ⟨0,rfl,fr.kp [0,1,7,8],hM,oM,sI⟩ ?_;clear fr aC hM;rintro n aC w3 ⟨j,rfl,fr,M4,hj,hn⟩;revert aC;refine aQ<|gC (decide ((j:Int)<(l.length:Int))) fun B7 wv=> ?_
 refine aE<|bx ?_;cases B7;have c7:¬((j:Int)<(l.length:Int)):=Qe7 wv.symm;refine fT<|gq 0<|gr<|bC<|an<|cQ (vI (-1)) ?_;exact⟨by rw[wX hn oM],M4⟩;have c7:(j:Int)<(l.length:Int):=Qe4 wv.symm;refine fN<|cg<|bx<|cK 1<|bC<|aQ<|aj 3 ?_;obtain⟨zi,rfl⟩:=ra (M4.ro hl) oM;refine eZ zi l.length 1 (j:Int)<|bq (aN zi (j:Int) 1) _ (kS (M4.ro hl) rfl oM oM)<|ej (JE q nm wk pa va A c bs (l.getD (j:Int).toNat 0) w3 hm (hq.at_ M4)) ?_;rintro _ w9 ⟨rfl,JG⟩;have mc:=M4.cl JG;obtain⟨JA,pR⟩:∃B,B=!(gU bs.length (l.getD (j:Int).toNat 0)):=⟨_,rfl⟩;refine cH [(0,vS (some zi) l.length d),(1,(.func (.func 129) #[] #[pT q 0])),(5,nV j),(7,(vI (l.length:Int))),(8,nV j),(11,(.func (.func 129) #[] #[pT q 0])),(15,(vI (l.getD (j:Int).toNat 0))),(16,(vB (!(gU bs.length (l.getD (j:Int).toNat 0)))))] ?_;rw[←pR];refine aE ?_;cases JA;have vq:(!(gU bs.length (l.getD (j:Int).toNat 0)))=false:=pR.symm;refine fT<|cg<|dh<|ep ((j:Int)+1)<|aj 1<|aE ?_;intro aC fr;exact⟨l.length-(j+1),oM,j+1,rfl,fr.kp [0,1,7,8],mc,oM,H5 hn vq oM⟩;have vq:(!(gU bs.length (l.getD (j:Int).toNat 0)))=true:=pR.symm;refine fN<|bC<|an<|eu<|eu<|cQ (nV j) ?_;exact⟨by rw[Aj hn vq oM],mc⟩
theorem pv(l:ar)(B:aX)(d:Nat)(q:Nat)(nm wk pa va:Value)(A:aX)(c:Nat)(bs:List SB)(w:World)(LS:l.length≤1000000)(hl:(bo.row 3 1 B l.length d (ints l)).holds w)(hm:bs.length≤1000000)(hq:RO (bo.row 3 1 B l.length d (ints l)).fp w (.au q 24 [nm,wk,pa,va,.slice A bs.length c])):Calls Try.prog 128 #[vS B l.length d,(.func (.func 129) #[] #[pT q 0])] w (fE fun v w'=>∃B' d',v=vS B' (l.filter (fun x=> !((fun x=> !(gU bs.length x)) x))).length d'∧Mem (bo.row 3 1 B l.length d (ints l)).fp w w' [.row 3 1 B' (l.filter (fun x=> !((fun x=> !(gU bs.length x)) x))).length d' (ints (l.filter (fun x=> !((fun x=> !(gU bs.length x)) x))))]):=by
 refine hZ 42 [vS B l.length d,(.func (.func 129) #[] #[pT q 0])] Try.func128 ?_;have hM:=Mem.nr hl;refine bC<|aQ<|aj 2<|ej (JF l B d q nm wk pa va A c bs w LS (RO.aB (hM.dT 0 rfl)) hm (hq.at_ hM)) ?_;rintro _ w1 ⟨rfl,PK⟩;have M2:=hM.cl PK;clear PK hM;refine aj 1<|aE<|bx<|aQ<|aj 1<|gC ((nH (fun x=> !(gU bs.length x)) l)==(-1)) fun U3 JH=> ?_
 refine aE ?_;cases U3;have EM:¬((nH (fun x=> !(gU bs.length x)) l)=(-1)):=F6 JH;refine fT<|cg<|bx<|aQ<|aj 1<|ep (h1:=(by have:=yH (fun x=> !(gU bs.length x)) l;omega)) (h2:=(by have:=yH (fun x=> !(gU bs.length x)) l;omega)) ((nH (fun x=> !(gU bs.length x)) l)+1) ?_;refine aj 1<|aE<|cK 0 ?_;obtain⟨i0,Rq,q8,EI⟩:=CQ EM;refine dX [0,1,5,6] ?_;intro aC fr;rw[Rq]at fr;obtain⟨g0,NT⟩:=cW (M2.get 0 rfl) (show 0<l.length by omega);subst NT;have hle:=p7 (M2.get 0 rfl);have BO:(kept (fun x=> !(gU bs.length x)) l (i0+1)).length=i0:=by rw[EI];simp;omega
 have QT:((i0+1:Nat):Int)=(i0:Int)+1:=oM;replace fr:Fr aC 42 [(0,.slice (sM g0) l.length d),(1,((.func (.func 129) #[] #[pT q 0]))),(5,(vI ((kept (fun x=> !(gU bs.length x)) l (i0+1)).length:Int))),(6,(vI ((i0+1:Nat):Int)))]:=by rw[BO];exact fr.keep (keep:=[0,1,5,6]) kR
 refine gT (fun n_ a_ w_=>∃(j:Nat) (m:ar),n_=l.length-j∧Fr a_ 42 [(0,vS (sM g0) l.length d),(1,(.func (.func 129) #[] #[pT q 0])),(5,(vI ((kept (fun x=> !(gU bs.length x)) l j).length:Int))),(6,nV j)]∧Mem ((bo.row 3 1 (sM g0) l.length d (ints l)).fp) w w_ [.row 3 1 (sM g0) l.length d (ints m)]∧(j≤l.length)∧(CR l m (kept (fun x=> !(gU bs.length x)) l j) j)) (n:=_) ⟨i0+1,l,rfl,fr.kp [0,1,5,6],M2,oM,by rw[EI];exact halfL_start q8⟩ ?_;clear fr aC M2;rintro n aC w5 ⟨j,m,rfl,fr,M6,hj,hh⟩;revert aC;refine bx<|aQ<|aj 3<|gC (decide ((j:Int)<(l.length:Int))) fun B9 xT=> ?_
 refine aE ?_;cases B9;have c9:¬((j:Int)<(l.length:Int)):=Qe7 xT.symm;refine fT<|gq 0<|gr<|aQ<|aj 2 ?_;intro aC fr;have Fl:j=l.length:=oM;have Jm:=hh.2.2.2;refine ky (kR:ao _ 2=some (some 38,.slice 37 (.tmp 36) (some (.tmp 37)) none none,37,none)) fr kR kR (k':=3) rfl (A:=(sM g0)) (n:=l.length) (cap:=d) (e:=3) (size:=1) (kd:= .i64) (i:=((kept (fun x=> !(gU bs.length x)) l j).length:Int)) (kept (fun x=> !(gU bs.length x)) l j).length kR kR rfl kR kR oM ?_;intro aC ea fr;clear ea;rw[QeW (show¬(d=(kept (fun x=> !(gU bs.length x)) l j).length)by omega)]at fr;refine CG (kR:ao _ 3=some (none,(.call {callee:=(.builtin .clear),args:=#[.tmp 38],argTypes:=#[37]}),0,none)) fr kR kR (k':=4) rfl (e:=3) (z:=vI 0) kR kR rfl (ad:=aZ g0) (off:=(kept (fun x=> !(gU bs.length x)) l j).length*1) (m:=l.length-(kept (fun x=> !(gU bs.length x)) l j).length) (cap':=d-(kept (fun x=> !(gU bs.length x)) l j).length) (n:=l.length) (cap:=d) (xs:=ints m) kR M6 0 rfl oM ?_;intro Ys q5 _ aC ea fr;clear ea;replace q5:=q5.nf;revert aC;refine aE<|aQ<|aj 2 ?_;intro aC fr;refine fW (kR:ao _ 2=some (some 41,.slice 37 (.tmp 39) none (some (.tmp 40)) none,37,none)) fr kR kR (k':=3) rfl (A:=(sM g0)) (n:=l.length) (cap:=d) (e:=3) (size:=1) (kd:= .i64) (i:=((kept (fun x=> !(gU bs.length x)) l j).length:Int)) (kept (fun x=> !(gU bs.length x)) l j).length kR kR rfl kR kR oM ?_;intro aC ea fr;clear ea;revert aC;refine aj 1<|aE<|an<|cQ (vS (sM g0) ((kept (fun x=> !(gU bs.length x)) l j).length) d) ?_;have dY:=q5.kW 0 rfl (kept (fun x=> !(gU bs.length x)) l j).length oM;refine⟨some (aZ g0),d,by rw[←An (p:=(fun x=> !(gU bs.length x))) (show l.length≤j by omega)],dY.cast ?_⟩;rw[←An (p:=(fun x=> !(gU bs.length x))) (show l.length≤j by omega)];show[_]=_;rw[ME hh.2.1];have c9:(j:Int)<(l.length:Int):=Qe4 xT.symm;refine fN<|cg<|bx<|cK 1<|aQ<|aj 2<|eZ (aZ g0) l.length 1 (j:Int)<|bq (aN (aZ g0) (j:Int) 1) (vI (l.getD (j:Int).toNat 0)) (by rw[←H7 hh];exact kS (aB (M6.get 0 rfl)) rfl oM (by have:=hh.1;omega))<|aj 1<|aE ?_;refine aQ<|aj 2<|ej (JE q nm wk pa va A c bs (l.getD (j:Int).toNat 0) w5 hm (hq.at_ M6)) ?_;rintro _ U4 ⟨rfl,Rr⟩;have qK:=M6.cl Rr;obtain⟨ZU,JI⟩:∃B,B=!(gU bs.length (l.getD (j:Int).toNat 0)):=⟨_,rfl⟩;refine cH [(0,vS (sM g0) l.length d),(1,(.func (.func 129) #[] #[pT q 0])),(5,(vI ((kept (fun x=> !(gU bs.length x)) l j).length:Int))),(6,nV j),(7,(vI (l.getD (j:Int).toNat 0))),(26,(.func (.func 129) #[] #[pT q 0])),(27,(vI (l.getD (j:Int).toNat 0))),(28,(vB (!(gU bs.length (l.getD (j:Int).toNat 0)))))] ?_;rw[←JI];refine aj 1<|aE ?_;cases ZU;have Rs:(!(gU bs.length (l.getD (j:Int).toNat 0)))=false:=JI.symm;refine fN<|aQ<|aj 3<|eZ (h0:=oM) (h1:=(by have:=hh.2.2.2;omega)) (aZ g0) l.length 1 ((kept (fun x=> !(gU bs.length x)) l j).length:Int) ?_;refine zJ qK 0 (aN (aZ g0) ((kept (fun x=> !(gU bs.length x)) l j).length:Int) 1) ((((kept (fun x=> !(gU bs.length x)) l j).length:Int)).toNat*1) (vI (l.getD (j:Int).toNat 0)) rfl rfl (by have:=hh.2.2.2;omega) fun Yn JB=> ?_
 replace JB:=JB.nf;refine aE<|dh<|aj 1<|ep (h2:=(by have:=hh.2.2.2;omega)) (((kept (fun x=> !(gU bs.length x)) l j).length:Int)+1) ?_;refine aj 1<|aE<|dh<|aj 1<|ep ((j:Int)+1)<|aj 1<|aE ?_;intro aC fr;have xG:=H6 (p:=(fun x=> !(gU bs.length x))) (show j<l.length by omega) Rs;replace fr:Fr aC 42 [(0,.slice (sM g0) l.length d),(1,((.func (.func 129) #[] #[pT q 0]))),(5,(vI ((kept (fun x=> !(gU bs.length x)) l (j+1)).length:Int))),(6,(vI ((j:Int)+1)))]:=by rw[xG,QfK];exact fr.keep (keep:=[0,1,5,6]) kR
 exact⟨l.length-(j+1),oM,j+1,m.set (kept (fun x=> !(gU bs.length x)) l j).length (l.getD (j:Int).toNat 0),rfl,fr.kp [0,1,5,6],(JB.cast (by rw[ints_set,Qfd,Qfp])),oM,by rw[xG];exact H8 hh oM _⟩;have Rs:(!(gU bs.length (l.getD (j:Int).toNat 0)))=true:=JI.symm;refine fT<|cg<|dh<|aj 1<|ep ((j:Int)+1)<|aj 1<|aE ?_;intro aC fr;have xG:=MC (p:=(fun x=> !(gU bs.length x))) (show j<l.length by omega) Rs;replace fr:Fr aC 42 [(0,.slice (sM g0) l.length d),(1,((.func (.func 129) #[] #[pT q 0]))),(5,(vI ((kept (fun x=> !(gU bs.length x)) l (j+1)).length:Int))),(6,(vI ((j:Int)+1)))]:=by rw[xG];exact fr.keep (keep:=[0,1,5,6]) kR
 exact⟨l.length-(j+1),oM,j+1,m,rfl,fr.kp [0,1,5,6],qK,oM,by rw[xG];exact MD hh⟩;have EM:(nH (fun x=> !(gU bs.length x)) l)=(-1):=Qc3.1 JH.symm;refine fN<|bC<|an<|cQ (vS B l.length d) ?_;exact⟨B,d,by rw[any_filter EM],M2.cast (by rw[any_filter EM])⟩
theorem xU(nm wk pa va:Value)(A:aX)(c:Nat)(bs:List SB)(b:Int)(w:World)(hm:bs.length≤1000000)(hA:RO ba w (.blocks A bs)):Calls Try.prog 108 #[(.agg #[nm,wk,pa,va,vS A bs.length c]),vI b] w (fE fun v w'=>∃A' c',v=vS A' (tg bs b).length c'∧Mem ba w w' [.row 3 1 A' (tg bs b).length c' (ints (tg bs b))]):=by
 refine hZ 45 [(.agg #[nm,wk,pa,va,vS A bs.length c]),vI b] Try.func108 ?_;have hM:=Mem.init w;refine aQ<|nJ hM 24 (.agg #[nm,wk,pa,va,vS A bs.length c]) [nm,wk,pa,va,vS A bs.length c] fun b1 w2 kH M3=> ?_
 replace M3:=M3.nf;clear hM;refine aj 1<|aE<|bx<|aQ<|aj 1<|gC (decide (b<0)) fun US BN=> ?_
 refine aj 1 ?_;cases US;have UT:¬(b<0):=Qe7 BN.symm;refine aj 2<|bq (ak b1 4) _ (ae (M3.get 0 rfl) rfl)<|aj 1<|gC (decide (b≥(bs.length:Int))) fun UU Dw=> ?_
 refine aj 1<|aE ?_;cases UU;have ZP:¬(b≥(bs.length:Int)):=Qe7 Dw.symm;refine fT<|cg<|aQ ?_;obtain⟨x,hx⟩:=H0 (l:=bs) (i:=b) oM oM;refine aj 1<|bq (ak b1 4) _ (ae (M3.get 0 rfl) rfl)<|aj 1 ?_;obtain⟨vt,rfl⟩:=dN (M3.ro hA) hx;refine eZ vt bs.length 6 b<|gu (aN vt (b) 6) [vS x.pA x.pn x.pc,vS x.iA x.ik x.ic,vI x.e,vI x.v,vI x.a,vI x.b] (qj (M3.ro hA) rfl hx)<|mZ M3 36 [aq,aq,vI 0,vI 0,vI 0,vI 0] fun b5 w6 ZQ M7=> ?_
 replace M7:=M7.nf;refine po M7 1 [vS x.pA x.pn x.pc,vS x.iA x.ik x.ic,vI x.e,vI x.v,vI x.a,vI x.b] rfl fun w8 M9=> ?_
 replace M9:=M9.nf;refine dX [2,5]<|aE<|bC<|bx<|aQ<|aj 1<|bq (ak b5 2) _ (ae (M9.get 1 rfl) rfl)<|aE<|cK 0<|aQ<|gC (x.e==0) fun ZS JC=> ?_
 refine aj 1<|aE ?_;cases ZS;have Yq:¬(x.e=0):=F6 JC;refine fT<|aQ<|gC (x.e==1) fun ZT JD=> ?_
 refine aj 1<|aE ?_;cases ZT;have Yr:¬(x.e=1):=F6 JD;refine fT<|cg<|aQ<|aj 2 ?_;have mc:Mem ba w w8 [.au b1 24 [nm,wk,pa,va,vS (some vt) bs.length c],.au b5 36 [vS x.pA x.pn x.pc,vS x.iA x.ik x.ic,vI x.e,vI x.v,vI x.a,vI x.b],.row 3 1 none 0 0 []]:=M9.call (Mem.gK _ 3 1);refine ej (vs:=#[aq,(.func (.func 129) #[] #[pT b1 0])]) (pv [] none 0 b1 nm wk pa va _ c bs w8 sI (mc.get 2 rfl) hm (mc.iJ 0 2 rfl rfl dQ)) ?_;rintro _ NU ⟨U5,NV,rfl,JJ⟩;have rO:=mc.md 2 rfl JJ;refine aj 1<|aE<|an<|cQ (vS U5 (([].filter (fun x=> !((fun x=> !(gU bs.length x)) x))).length) NV) ?_;exact mO (rO.pick [false,false,true] rfl) (by rw[wW oM hx];exact H3 Yq Yr) rfl;have Yr:x.e=1:=Qc3.1 JD.symm;refine fN<|aQ<|aj 1<|bq (ak b5 4) _ (ae (M9.get 1 rfl) rfl)<|aj 1<|bq (ak b5 5) _ (ae (M9.get 1 rfl) rfl) ?_;intro aC fr;refine rG 34 37 2 #[(0,.tmp 31),(1,.tmp 33)] 37 fr (e:=3) (size:=1) (zs:=[vI 0]) (vs:=[(0,vI x.a),(1,vI x.b)]) (cs:=[vI x.a,vI x.b]) M9 ?_;intro fO Dx Rt _ kI _ aC ea fr;clear ea;replace kI:=kI.nf;revert aC;refine aj 1<|aE<|aQ<|aj 1<|bq (ak b5 4) _ (ae (kI.get 1 rfl) rfl)<|aj 1<|bq (ak b5 5) _ (ae (kI.get 1 rfl) rfl)<|dX [2,6,36,38]<|gC (x.a==x.b) fun UY zj=> ?_
 refine aE ?_;cases UY;have Rp:¬(x.a=x.b):=F6 zj;refine fT<|cg<|aQ<|aj 2<|ej (vs:=#[vS (sM fO) 2 2,(.func (.func 129) #[] #[pT b1 0])]) (pv [x.a,x.b] (sM fO) 2 b1 nm wk pa va _ c bs Dx sI (kI.get 2 rfl) hm (kI.iJ 0 2 rfl rfl dQ)) ?_;rintro _ Yn ⟨A22,c23,rfl,ZV⟩;have JB:=kI.md 2 rfl ZV;refine aj 1<|aE<|an<|cQ (vS A22 (([x.a,x.b].filter (fun x=> !((fun x=> !(gU bs.length x)) x))).length) c23) ?_;exact mO (JB.pick [false,false,true] rfl) (by rw[wW oM hx];exact My oM oM) rfl;have Rp:x.a=x.b:=Qc3.1 zj.symm;refine fN<|dh<|aj 1 ?_;intro aC fr;refine fW (kR:ao _ 1=some (some 41,.slice 37 (.tmp 40) none (some (.const (vI 1))) none,37,none)) fr kR kR (k':=2) rfl (A:=(sM fO)) (n:=2) (cap:=2) (e:=3) (size:=1) (kd:= .i64) (i:=1) 1 kR kR rfl kR kR dQ ?_;intro aC ea fr;clear ea;have zN:Mem ba w Dx [.au b1 24 [nm,wk,pa,va,vS (some vt) bs.length c],.au b5 36 [vS x.pA x.pn x.pc,vS x.iA x.ik x.ic,vI x.e,vI x.v,vI x.a,vI x.b],.row 3 1 (sM fO) 1 2 [vI x.a]]:=kI.kW 2 rfl 1 dQ;revert aC;refine aj 1<|aE<|aQ<|aj 2<|ej (vs:=#[vS (sM fO) 1 2,(.func (.func 129) #[] #[pT b1 0])]) (pv [x.a] (sM fO) 2 b1 nm wk pa va _ c bs Dx sI (zN.get 2 rfl) hm (zN.iJ 0 2 rfl rfl dQ)) ?_;rintro _ kh ⟨A31,Yt,rfl,ZW⟩;have Dy:=zN.md 2 rfl ZW;refine aj 1<|aE<|an<|cQ (vS A31 (([x.a].filter (fun x=> !((fun x=> !(gU bs.length x)) x))).length) Yt) ?_;exact mO (Dy.pick [false,false,true] rfl) (by rw[wW oM hx];exact Eh oM) rfl;have Yq:x.e=0:=Qc3.1 JC.symm;refine fN<|dh<|aj 1<|bq (ak b5 4) _ (ae (M9.get 1 rfl) rfl) ?_;intro aC fr;refine rG 27 37 1 #[(0,.tmp 26)] 37 fr (e:=3) (size:=1) (zs:=[vI 0]) (vs:=[(0,vI x.a)]) (cs:=[vI x.a]) M9 ?_;intro b35 LU hb35 _ me _ aC ea fr;clear ea;replace me:=me.nf;revert aC;refine aj 1<|aE<|aQ<|aj 2<|ej (vs:=#[vS (sM b35) 1 1,(.func (.func 129) #[] #[pT b1 0])]) (pv [x.a] (sM b35) 1 b1 nm wk pa va _ c bs LU sI (me.get 2 rfl) hm (me.iJ 0 2 rfl rfl dQ)) ?_;rintro _ w44 ⟨A42,ZX,rfl,ZY⟩;have NW:=me.md 2 rfl ZY;refine aj 1<|aE<|an<|cQ (vS A42 (([x.a].filter (fun x=> !((fun x=> !(gU bs.length x)) x))).length) ZX) ?_;exact mO (NW.pick [false,false,true] rfl) (by rw[wW oM hx];exact Eh oM) rfl;have ZP:b≥(bs.length:Int):=Qe4 Dw.symm;refine fN<|bC<|an<|cQ aq ?_;exact Ha (M3.pick [false] rfl) (uI oM);have UT:b<0:=Qe4 BN.symm;refine aj 6<|aE<|fN<|bC<|an<|cQ aq ?_;exact Ha (M3.pick [false] rfl) (uI oM)
theorem vu(nm wk pa va:Value)(A:aX)(c:Nat)(bs:List SB)(b:Int)(w:World)(hm:bs.length≤1000000)(hA:RO ba w (.blocks A bs)):Calls Try.prog 42 #[(.agg #[nm,wk,pa,va,vS A bs.length c]),vI b] w (fE fun v w'=>∃A' c',v=vS A' (bS bs b).length c'∧Mem ba w w' [.row 3 1 A' (bS bs b).length c' (ints (bS bs b))]):=by
 refine hZ 24 [(.agg #[nm,wk,pa,va,vS A bs.length c]),vI b] Try.func42 ?_;have hM:=Mem.init w;refine aQ<|nJ hM 24 (.agg #[nm,wk,pa,va,vS A bs.length c]) [nm,wk,pa,va,vS A bs.length c] fun b1 w2 kH M3=> ?_
 replace M3:=M3.nf;clear hM;refine aj 1<|aE<|bC<|bx<|bC<|cK 0 ?_;intro aC fr;refine gT (fun n_ a_ w_=>∃(k:Nat) (A1:aX) (n1:Nat) (c1:Nat) (l1:ar),n_=bs.length-k∧Fr a_ 24 [(1,vI b),(2,pT b1 0),(5,vS A1 n1 c1),(6,nV k)]∧Mem ba w w_ [.au b1 24 [nm,wk,pa,va,vS A bs.length c],.row 3 1 A1 n1 c1 (ints l1)]∧(k≤bs.length)∧(l1=dW bs b k)∧(n1=l1.length)) (n:=_) ⟨0,none,0,0,[],rfl,fr.kp [1,2,5,6],M3.call (Mem.gK _ 3 1),oM,rfl,rfl⟩ ?_;clear fr aC M3;rintro n aC w6 ⟨k,A1,n1,c1,l1,rfl,fr,M7,hk,nR,Cs⟩;revert aC;refine bx<|aQ<|aj 2<|bq (ak b1 4) _ (ae (M7.get 0 rfl) rfl)<|aj 1<|gC (decide ((k:Int)<(bs.length:Int))) fun kf nN=> ?_
 refine aE ?_;cases kf;have Hq:¬((k:Int)<(bs.length:Int)):=Qe7 nN.symm;refine fT<|gq 0<|gr<|bC<|an<|cQ (vS A1 n1 c1) ?_;obtain rfl:k=bs.length:=oM;exact mO (M7.pick [false,true] rfl) nR Cs;have Hq:(k:Int)<(bs.length:Int):=Qe4 nN.symm;refine fN<|cg<|bx<|cK 1<|aQ<|gu (aZ b1) [nm,wk,pa,va,vS A bs.length c] (aK (M7.get 0 rfl))<|aj 1<|ej (vs:=#[(.agg #[nm,wk,pa,va,vS A bs.length c]),nV k]) (vr _ _ _ _ A c bs (k:Int) w6 hm (hA.at_ M7)) ?_;rintro _ NU ⟨U5,NV,rfl,JJ⟩;have rO:=M7.cl JJ;refine aj 1<|ej (vs:=#[(vS U5 ((tg bs (k:Int)).length) NV),vI b]) (UR (tg bs (k:Int)) b U5 NV NU (QfD (oe _ _) dQ) (RO.aB (rO.dT 2 rfl))) ?_;rintro _ Ty ⟨rfl,ZZ⟩;have lQ:=rO.cl ZZ;obtain⟨JA,pR⟩:∃B,B=(tg bs (k:Int)).contains b:=⟨_,rfl⟩;refine cH [(1,vI b),(2,pT b1 0),(5,vS A1 n1 c1),(6,nV k),(16,(vS U5 ((tg bs (k:Int)).length) NV)),(17,vI b),(18,(vB ((tg bs (k:Int)).contains b)))] ?_;rw[←pR];refine aE ?_;cases JA;have vq:((tg bs (k:Int)).contains b)=false:=pR.symm;refine fT<|cg<|dh<|aj 1<|ep ((k:Int)+1)<|aj 1<|aE ?_;intro aC fr;exact⟨bs.length-(k+1),oM,k+1,A1,n1,c1,l1,rfl,fr.kp [1,2,5,6],(lQ.pick [true,true,false] rfl),oM,by rw[oh,QeW (by rw[vq];simp),Qga];exact nR,Cs⟩;have vq:((tg bs (k:Int)).contains b)=true:=pR.symm;refine fN<|dh<|aj 2 ?_;intro aC fr;refine rG 21 37 1 #[(0,.tmp 20)] 37 fr (e:=3) (size:=1) (zs:=[vI 0]) (vs:=[(0,nV k)]) (cs:=[nV k]) lQ ?_;intro kJ Gm U6 _ ni _ aC ea fr;clear ea;replace ni:=ni.nf;refine tT 22 (.tmp 19) (.tmp 21) 37 37 fr (e:=3) (size:=1) (bytes:=8) (z:=(vI 0)) (A:=A1) (B:=(sM kJ)) (n:=n1) (cap:=c1) (m:=1) (cap':=1) (xs:=(ints l1)) (news:=[nV k]) ni 1 rfl (aB (ni.get 3 rfl)) rfl (by simp[Value.oneCell']) (by have:=fZ bs b k;rw[nR]at Cs;omega) (by have:=fZ bs b k;rw[nR]at Cs;simp only[maxLen];omega) ?_;intro A26 BP NX kr _ aC ea fr;clear ea;replace kr:=kr.nf;have qL:=kr.od [2,2,2] 3;revert aC;refine aj 1<|aE<|dh<|aj 1<|ep ((k:Int)+1)<|aj 1<|aE ?_;intro aC fr;exact⟨bs.length-(k+1),oM,k+1,A26,(n1+1),BP,l1++[(k:Int)],rfl,fr.kp [1,2,5,6],((qL.pick [true,true,false] rfl).cast (by rw[iU];rfl)),oM,by rw[oh,Qe3 vq,nR],by rw[QfK,Cs];rfl⟩
end Go.Proofs.Ytejbeeaomokjpaa
namespace Go.Proofs.Ytejbeeaomokjpaa
open Go.Mor
theorem Gn(n:Nat)(w:World)(hn:n≤1000000):Calls Try.prog 109 #[nV n] w (fE fun v w'=>∃g,v=vS (sM g) ((n+63) / 64) ((n+63) / 64)∧Mem ba w w' [.row 160 1 (sM g) ((n+63) / 64) ((n+63) / 64) (kz (List.replicate ((n+63) / 64) 0))]):=by
 refine hZ 8 [nV n] Try.func109 ?_;have hM:=Mem.init w;refine bC<|aQ<|aj 1<|ep ((n:Int)+64)<|ep (((n:Int)+64)-1) ?_;intro aC fr;refine dq (kR:ao _ 3=some (some 6,.binOp .quo 3 (.tmp 5) (.const (vI 64)) 3,3,none)) fr kR kR (k':=4) rfl (kd:= .i64) (kd':= .i64) (i:=(n:Int)+64-1) (j:=64) (z:=vI ((((n+63) / 64):Nat):Int)) kR kR (fun w=>by have h:=uF (P:=Try.prog) (t:=3) (i:=n+63) 64 oM dQ w;rw[show((n+63:Nat):Int)=(n:Int)+64-1 by omega]at h;exact h) ?_;intro aC ea fr;clear ea;refine I9 7 132 (.tmp 6) (.tmp 6) 132 fr (e:=160) (bytes:=8) (z:=(.int .u64 0)) (n:=((n+63) / 64)) (i:=((((n+63) / 64):Nat):Int)) oM (by simp only[maxLen];omega) hM ?_;intro b5 w6 ZQ _ M7 _ aC ea fr;clear ea;replace M7:=M7.nf;clear hM;revert aC;refine aj 1<|aE<|an<|cQ (vS (sM b5) ((n+63) / 64) ((n+63) / 64)) ?_;exact⟨b5,rfl,M7.cast (by simp[kz])⟩
theorem PL(ws:List Nat)(n i:Nat)(A:aX)(c:Nat)(w:World)(Ru:Fit ws)(Rq:i≤1000000)(hn:n=ws.length)(hi:i / 64<ws.length)(j0:(bo.row 160 1 A n c (kz ws)).holds w):Calls Try.prog 110 #[vS A n c,nV i] w (fE fun v w'=>v= .tuple #[]∧Mem (bo.row 160 1 A n c (kz ws)).fp w w' [.row 160 1 A n c (kz (uG ws i))]):=by
 subst hn;refine hZ 14 [vS A ws.length c,nV i] Try.func110 ?_;have hM:=Mem.nr j0;obtain⟨g0,NT⟩:=cW (hM.get 0 rfl) (show 0<ws.length by omega);subst NT;refine dX [0,1] ?_;intro aC fr;refine zK (bL [eS (sM g0) ws.length c,.bg (nV i),eI ((i / 64:Nat):Int),eA (aZ g0) ((i / 64:Nat):Int) 1,.bg (.int .u64 ((ws.getD (i / 64) 0:Nat):Int)),.bg (nV i),eI ((i % 64:Nat):Int),.bg (.int .u64 ((2^(i % 64):Nat):Int)),.bg (.int .u64 ((ws.getD (i / 64) 0|||2^(i % 64):Nat):Int)),eA (aZ g0) ((i / 64:Nat):Int) 1,.bg undef]) (fun ls vs w_=>match ls 10 with|true=>(Mem (bo.row 160 1 (sM g0) ws.length c (kz ws)).fp w w_ [.row 160 1 (sM g0) ws.length c (kz (uG ws i))])|false=>(Mem (bo.row 160 1 (sM g0) ws.length c (kz ws)).fp w w_ [.row 160 1 (sM g0) ws.length c (kz ws)])) fr (en (.bg (.bg (.bg (.bg (.bg (.bg (.bg (.bg (.bg (.bg (.bg .nil)))))))))))) (hM.aD (Mem.drew _)) (pw (tZ lz (fi fun _ _ _ _ h=>h) (fi fun _ _ _ _ h=>h) ?_ (K6 (aZ g0) ws.length 1 ((i / 64:Nat):Int) fun _ _ _ _ h=>h) (lL (aN (aZ g0) ((i / 64:Nat):Int) 1) (.int .u64 ((ws.getD (i / 64) 0:Nat):Int)) (fun _ _ _ _ h=>h) ?_) (fi fun _ _ _ _ h=>h) ?_ ?_) ?_ (K6 (aZ g0) ws.length 1 ((i / 64:Nat):Int) fun _ _ _ _ h=>h) ?_) ?_;intro dM w_ ls vs bZ hJ bp bj hp hF;refine iW (g0:=none) ?_;replace hF:Fr dM 14 [(5,nV i)]:=hF.kp [5];refine dq (kR:ao _ 0=some (some 6,.binOp .quo 3 (.tmp 5) (.const (vI 64)) 3,3,none)) hF kR kR (k':=1) rfl (kd:= .i64) (kd':= .i64) (i:=(i:Int)) (j:=64) (z:=vI ((i / 64:Nat):Int)) kR kR (fun w=>uF 64 oM dQ w) ?_;intro a2 ea _;refine aJ kR ?_;exact aY (d:=some 6) kR ea rfl hJ;intro w_ ls vs hJ bp bj hp;have f10:ls 10=false:=az bj bp (n:=11) kR;have aI:=hJ;simp only[f10]at aI;exact(bB (aB (aI.get 0 rfl)) rfl (Ah oM));intro dM w_ ls vs bZ hJ bp bj hp hF;refine iW (g0:=none) ?_;replace hF:Fr dM 14 [(9,nV i)]:=hF.kp [9];refine dq (kR:ao _ 0=some (some 10,.binOp .rem 3 (.tmp 9) (.const (vI 64)) 3,3,none)) hF kR kR (k':=1) rfl (kd:= .i64) (kd':= .i64) (i:=(i:Int)) (j:=64) (z:=vI ((i % 64:Nat):Int)) kR kR (fun w=>Ag 64 dQ w) ?_;intro a2 ea _;refine aJ kR ?_;exact aY (d:=some 10) kR ea rfl hJ;intro dM w_ ls vs bZ hJ bp bj hp hF;refine iW (g0:=none) ?_;replace hF:Fr dM 14 [(10,(vI ((i % 64:Nat):Int)))]:=hF.kp [10];refine dq (kR:ao _ 0=some (some 11,.binOp .shl 160 (.const (.int .u64 1)) (.tmp 10) 3,160,none)) hF kR kR (k':=1) rfl (kd:= .u64) (kd':= .i64) (i:=1) (j:=((i % 64:Nat):Int)) (z:= .int .u64 ((2^(i % 64):Nat):Int)) kR kR (fun w=>Mo (Nat.mod_lt _ dQ) w) ?_;intro a2 ea _;refine aJ kR ?_;exact aY (d:=some 11) kR ea rfl hJ;intro dM w_ ls vs bZ hJ bp bj hp hF;refine iW (g0:=none) ?_;replace hF:Fr dM 14 [(8,(.int .u64 ((ws.getD (i / 64) 0:Nat):Int))),(11,(.int .u64 ((2^(i % 64):Nat):Int)))]:=hF.kp [8,11];refine dq (kR:ao _ 0=some (some 12,.binOp .or 160 (.tmp 8) (.tmp 11) 160,160,none)) hF kR kR (k':=1) rfl (kd:= .u64) (kd':= .u64) (i:=((ws.getD (i / 64) 0:Nat):Int)) (j:=((2^(i % 64):Nat):Int)) (z:= .int .u64 ((ws.getD (i / 64) 0|||2^(i % 64):Nat):Int)) kR kR (fun w=>QG (Ru.get _) (qi (Nat.mod_lt _ dQ)) w) ?_;intro a2 ea _;refine aJ kR ?_;exact aY (d:=some 12) kR ea rfl hJ;intro dM w_ ls vs bZ hJ bp bj hp hF;refine iW (g0:=none) ?_;replace hF:Fr dM 14 [(12,(.int .u64 ((ws.getD (i / 64) 0|||2^(i % 64):Nat):Int))),(13,(vP (aN (aZ g0) ((i / 64:Nat):Int) 1)))]:=hF.kp [12,13];have f10:ls 10=false:=bp;have aI:=hJ;simp only[f10]at aI;refine dZ (kR:ao _ 0=some (none,.store 160 (.tmp 13) (.tmp 12),0,none)) hF kR kR (k':=1) rfl (ad:=(aZ g0)) (j:=((((i / 64:Nat):Int)).toNat*1)) (e:=160) (size:=1) (n:=ws.length) (cap:=c) (v:=(.int .u64 ((ws.getD (i / 64) 0|||2^(i % 64):Nat):Int))) (xs:=(kz ws)) (ad':=(aN (aZ g0) ((i / 64:Nat):Int) 1)) kR rfl kR kR rfl aI 0 rfl oM ?_;intro w2 dY _ a2 ea _;refine aJ kR ?_;refine aY (d:=none) kR ea rfl ?_;show _;exact dY.cast (by show[bo.row _ _ _ _ _ _]=_;rw[uG,HY,Qfd,Qfp]);intro aC w5 ls vs cA M6 hv fr;simp only[show ls 10=true from cA 10 dQ]at M6;revert aC;refine cH [] ?_;clear cA hv fr aC hM;clear vs ls;refine ZD ?_;exact⟨rfl,M6⟩
theorem Rv(ws:List Nat)(n i:Nat)(A:aX)(c:Nat)(w:World)(Ru:Fit ws)(Rq:i≤1000000)(hn:n=ws.length)(hi:i / 64<ws.length)(hA:RO ba w (.rd A (kz ws))):Calls Try.prog 111 #[vS A n c,nV i] w (fE fun v w'=>v=vB (tb ws i)∧Mem ba w w' []):=by
 subst hn;refine hZ 15 [vS A ws.length c,nV i] Try.func111 ?_;have hM:=Mem.init w;refine bC<|aQ<|aj 2 ?_;intro aC fr;refine dq (kR:ao _ 2=some (some 7,.binOp .quo 3 (.tmp 6) (.const (vI 64)) 3,3,none)) fr kR kR (k':=3) rfl (kd:= .i64) (kd':= .i64) (i:=(i:Int)) (j:=64) (z:=vI ((i / 64:Nat):Int)) kR kR (fun w=>uF 64 oM dQ w) ?_;intro aC ea fr;clear ea;obtain⟨kB,rfl⟩:=rd_some (hM.ro hA) (by rw[HZ];omega);revert aC;refine eZ kB ws.length 1 ((i / 64:Nat):Int)<|bq (aN kB ((i / 64:Nat):Int) 1) _ (bB (hM.ro hA) rfl (Ah oM))<|aj 1 ?_;intro aC fr;refine dq (kR:ao _ 6=some (some 11,.binOp .rem 3 (.tmp 10) (.const (vI 64)) 3,3,none)) fr kR kR (k':=7) rfl (kd:= .i64) (kd':= .i64) (i:=(i:Int)) (j:=64) (z:=vI ((i % 64:Nat):Int)) kR kR (fun w=>Ag 64 dQ w) ?_;intro aC ea fr;clear ea;refine dq (kR:ao _ 7=some (some 12,.binOp .shr 160 (.tmp 9) (.tmp 11) 3,160,none)) fr kR kR (k':=8) rfl (kd:= .u64) (kd':= .i64) (i:=((ws.getD (i / 64) 0:Nat):Int)) (j:=((i % 64:Nat):Int)) (z:= .int .u64 ((ws.getD (i / 64) 0 / 2^(i % 64):Nat):Int)) kR kR (fun w=>Mq (Nat.mod_lt _ dQ) w) ?_;intro aC ea fr;clear ea;refine dq (kR:ao _ 8=some (some 13,.binOp .and 160 (.tmp 12) (.const (.int .u64 1)) 160,160,none)) fr kR kR (k':=9) rfl (kd:= .u64) (kd':= .u64) (i:=((ws.getD (i / 64) 0 / 2^(i % 64):Nat):Int)) (j:=1) (z:= .int .u64 ((ws.getD (i / 64) 0 / 2^(i % 64)&&&1:Nat):Int)) kR kR (fun w=>HX (Nat.lt_of_le_of_lt (Nat.div_le_self _ _) (Ru.get _)) w) ?_;intro aC ea fr;clear ea;revert aC;refine gC (((ws.getD (i / 64) 0 / 2^(i % 64)&&&1:Nat):Int)==1) fun Bh hBh=> ?_
 refine aj 1<|aE<|an<|cQ (vB Bh) ?_;exact⟨by rw[hBh,QI];rfl,hM⟩
theorem Gp(l:ar)(A:aX)(c:Nat)(w:World)(hm:l.length≤1000000)(j0:(bo.row 3 1 A l.length c (ints l)).holds w):Calls Try.prog 112 #[vS A l.length c] w (fE fun v w'=>v= .tuple #[]∧Mem (bo.row 3 1 A l.length c (ints l)).fp w w' [.row 3 1 A l.length c (ints l.reverse)]):=by
 refine hZ 28 [vS A l.length c] Try.func112 ?_;have hM:=Mem.nr j0;refine aQ<|aj 2<|ep ((l.length:Int)-1)<|aj 2<|aE<|cK 0 ?_;intro aC fr;replace fr:Fr aC 28 [(0,.slice A l.length c),(2,vI (0:Int)),(3,vI ((l.length:Int)-1-(0:Int)))]:=by rw[show((l.length:Int)-1-(0:Int))=(l.length:Int)-1 by omega];exact fr.keep (keep:=[0,2,3]) kR
 refine gT (fun n_ a_ w_=>∃(k:Nat) (m:ar),n_=l.length-k∧Fr a_ 28 [(0,vS A l.length c),(2,nV k),(3,(vI ((l.length:Int)-1-(k:Int))))]∧Mem (bo.row 3 1 A l.length c (ints l)).fp w w_ [.row 3 1 A l.length c (ints m)]∧(2*k≤l.length)∧(rr l m k)) (n:=_) ⟨0,l,rfl,fr.kp [0,2,3],hM,oM,wi l⟩ ?_;clear fr aC hM;rintro n aC w3 ⟨k,m,rfl,fr,M4,hk,hs⟩;revert aC;refine bx<|aQ<|aj 2<|gC (decide ((k:Int)<((l.length:Int)-1-(k:Int)))) fun Blt U7=> ?_
 refine aE ?_;cases Blt;have kC:¬((k:Int)<((l.length:Int)-1-(k:Int))):=Qe7 U7.symm;refine fT<|gq 0<|gr<|ZD ?_;exact⟨rfl,M4.cast (by rw[AH hs oM])⟩;have kC:(k:Int)<((l.length:Int)-1-(k:Int)):=Qe4 U7.symm;refine fN<|cg<|bx<|cK 1 ?_;obtain⟨q,hq⟩:∃q:Nat,((l.length:Int)-1-(k:Int))=(q:Int):=⟨l.length-1-k,oM⟩;refine dX [0,2,3,9] ?_;intro aC fr;rw[hq]at fr kC;have Pt:m.length=l.length:=hs.1;obtain⟨g0,NT⟩:=cW (M4.get 0 rfl) (show 0<l.length by omega);subst NT;revert aC;refine dX [0,2,3,9] ?_;intro aC fr;refine zK (bL [eS (sM g0) l.length c,.bg (nV k),eS (sM g0) l.length c,.bg (nV q),eS (sM g0) l.length c,.bg (nV q),eA (aZ g0) (q:Int) 1,eI (m.getD (q:Int).toNat 0),eS (sM g0) l.length c,.bg (nV k),eA (aZ g0) (k:Int) 1,eI (m.getD (k:Int).toNat 0),eA (aZ g0) (k:Int) 1,.bg undef,eA (aZ g0) (q:Int) 1,.bg undef]) (fun ls vs w_=>match ls 15 with|true=>(Mem (bo.row 3 1 (sM g0) l.length c (ints l)).fp w w_ [.row 3 1 (sM g0) l.length c (((ints m).set (((k:Int)).toNat*1) (vI (m.getD (q:Int).toNat 0))).set (((q:Int)).toNat*1) (vI (m.getD (k:Int).toNat 0)))])|false=>(match ls 13 with|true=>(Mem (bo.row 3 1 (sM g0) l.length c (ints l)).fp w w_ [.row 3 1 (sM g0) l.length c ((ints m).set (((k:Int)).toNat*1) (vI (m.getD (q:Int).toNat 0)))])|false=>(Mem (bo.row 3 1 (sM g0) l.length c (ints l)).fp w w_ [.row 3 1 (sM g0) l.length c (ints m)]))) fr (en (.bg (.bg (.bg (.bg (.bg (.bg (.bg (.bg (.bg (.bg (.bg (.bg (.bg (.bg (.bg (.bg .nil))))))))))))))))) (M4.aD (Mem.drew _)) (la (pw (gE lz (fi fun _ _ _ _ h=>h) (fi fun _ _ _ _ h=>h) (fi fun _ _ _ _ h=>h) (fi fun _ _ _ _ h=>h) (fi fun _ _ _ _ h=>h) (fi fun _ _ _ _ h=>h) (K6 (aZ g0) l.length 1 (q:Int) fun _ _ _ _ h=>h) (lL (aN (aZ g0) (q:Int) 1) (vI (m.getD (q:Int).toNat 0)) (fun _ _ _ _ h=>h) ?_) (fi fun _ _ _ _ h=>h) (fi fun _ _ _ _ h=>h) (K6 (aZ g0) l.length 1 (k:Int) fun _ _ _ _ h=>h) (lL (aN (aZ g0) (k:Int) 1) (vI (m.getD (k:Int).toNat 0)) (fun _ _ _ _ h=>h) ?_)) (K6 (aZ g0) l.length 1 (k:Int) fun _ _ _ _ h=>h) ?_ (K6 (aZ g0) l.length 1 (q:Int) fun _ _ _ _ h=>h)) ?_) ?_;intro w_ ls vs hJ bp bj hp;have f13:ls 13=false:=az bj bp (n:=16) kR;have f15:ls 15=false:=az bj bp (n:=16) kR;have aI:=hJ;simp only[f13,f15]at aI;exact(kS (aB (aI.get 0 rfl)) rfl oM oM);intro w_ ls vs hJ bp bj hp;have f13:ls 13=false:=az bj bp (n:=16) kR;have f15:ls 15=false:=az bj bp (n:=16) kR;have aI:=hJ;simp only[f13,f15]at aI;exact(kS (aB (aI.get 0 rfl)) rfl oM oM);intro dM w_ ls vs bZ hJ bp bj hp hF;refine iW (g0:=none) ?_;replace hF:Fr dM 28 [(21,(vI (m.getD (q:Int).toNat 0))),(26,(vP (aN (aZ g0) (k:Int) 1)))]:=hF.kp [21,26];have f13:ls 13=false:=bp;have f15:ls 15=false:=az bj bp (n:=16) kR;have aI:=hJ;simp only[f13,f15]at aI;refine dZ (kR:ao _ 0=some (none,.store 3 (.tmp 26) (.tmp 21),0,none)) hF kR kR (k':=1) rfl (ad:=(aZ g0)) (j:=(((k:Int)).toNat*1)) (e:=3) (size:=1) (n:=l.length) (cap:=c) (v:=(vI (m.getD (q:Int).toNat 0))) (xs:=(ints m)) (ad':=(aN (aZ g0) (k:Int) 1)) kR rfl kR kR rfl aI 0 rfl oM ?_;intro w2 dY _ a2 ea _;refine aJ kR ?_;refine aY (d:=none) kR ea rfl ?_;show match ls 15 with|true=>_|false=>(_)
 rw[f15];exact dY;intro dM w_ ls vs bZ hJ bp bj hp hF;refine iW (g0:=none) ?_;replace hF:Fr dM 28 [(25,(vI (m.getD (k:Int).toNat 0))),(27,(vP (aN (aZ g0) (q:Int) 1)))]:=hF.kp [25,27];have f13:ls 13=true:=aG bj (fun k hk=>(hp k hk).1) (n:=16) kR;have f15:ls 15=false:=bp;have aI:=hJ;simp only[f13,f15]at aI;refine dZ (kR:ao _ 0=some (none,.store 3 (.tmp 27) (.tmp 25),0,none)) hF kR kR (k':=1) rfl (ad:=(aZ g0)) (j:=(((q:Int)).toNat*1)) (e:=3) (size:=1) (n:=l.length) (cap:=c) (v:=(vI (m.getD (k:Int).toNat 0))) (xs:=((ints m).set (((k:Int)).toNat*1) (vI (m.getD (q:Int).toNat 0)))) (ad':=(aN (aZ g0) (q:Int) 1)) kR rfl kR kR rfl aI 0 rfl oM ?_;intro w2 dY _ a2 ea _;refine aJ kR ?_;refine aY (d:=none) kR ea rfl ?_;show _;exact dY;intro aC NU ls vs cA rO hv fr;simp only[show ls 15=true from cA 15 dQ]at rO;revert aC;refine cH [(0,vS (sM g0) l.length c),(2,nV k),(3,nV q)] ?_;clear cA hv fr aC M4;clear vs ls;refine dh<|aj 1<|ep ((k:Int)+1)<|aj 1<|ep ((q:Int)-1)<|aj 2<|aE ?_;intro aC fr;replace fr:Fr aC 28 [(0,.slice (sM g0) l.length c),(2,vI ((k+1:Nat):Int)),(3,vI ((l.length:Int)-1-((k+1:Nat):Int)))]:=by rw[show((l.length:Int)-1-((k+1:Nat):Int))=(q:Int)-1 by omega];exact fr.keep (keep:=[0,2,3]) kR
 exact⟨l.length-(k+1),oM,k+1,(m.set k (m.getD q 0)).set q (m.getD k 0),rfl,fr.kp [0,2,3],(rO.cast (by rw[ints_set,ints_set];simp only[Qfd,Qfp])),oM,yR hs oM⟩
end Go.Proofs.Ytejbeeaomokjpaa
namespace Go.Proofs.Ytejbeeaomokjpaa
open Go.Mor
theorem zk(nm wk pa va:Value)(A:aX)(c:Nat)(bs:List SB)(w:World)(hm:bs.length≤1000000)(hA:RO ba w (.blocks A bs)):Calls Try.prog 80 #[(.agg #[nm,wk,pa,va,(.slice A bs.length c)])] w (fE fun v w'=>∃A' c',v=vS A' (aF bs).length c'∧Mem ba w w' [.row 3 1 A' (aF bs).length c' (ints (aF bs))]):=by
 refine hZ 83 [(.agg #[nm,wk,pa,va,(.slice A bs.length c)])] Try.func80 ?_;have hM:=Mem.init w;refine aQ<|nJ hM 24 (.agg #[nm,wk,pa,va,(.slice A bs.length c)]) [nm,wk,pa,va,(.slice A bs.length c)] fun b1 w2 kH M3=> ?_
 replace M3:=M3.nf;clear hM;refine aj 1<|aE<|bx<|aQ<|aj 1<|bq (ak b1 4) (.slice A bs.length c) (ae (M3.get 0 rfl) rfl)<|aj 1<|gC (((bs.length:Nat):Int)==0) fun Bz U8=> ?_
 refine aE ?_;cases Bz;have cz:¬(((bs.length:Nat):Int)=0):=F6 U8;refine fT<|cg<|aQ<|aj 1<|bq (ak b1 4) (.slice A bs.length c) (ae (M3.get 0 rfl) rfl)<|aj 1<|ej (Gn bs.length w2 oM) ?_;rintro _ w5 ⟨g4,rfl,M6x⟩;have M6:=M3.cl M6x;refine aj 1<|aE<|aQ<|aj 1<|ej (vs:=#[(.slice (sM g4) ((bs.length+63) / 64) ((bs.length+63) / 64)),(.int .i64 0)]) (PL (List.replicate ((bs.length+63) / 64) 0) ((bs.length+63) / 64) 0 (sM g4) ((bs.length+63) / 64) w5 (Fit.zero _) oM sI (by simp;omega) (M6.get 1 rfl)) ?_;rintro _ w7 ⟨rfl,LV⟩;have M8:=M6.md 1 rfl LV;refine aE<|bC<|aQ<|aj 1 ?_;intro aC fr;refine rG 20 137 1 #[(0,(.tmp 19))] 137 fr (e:=136) (size:=2) (zs:=[(.int .i64 0),(.int .i64 0)]) (vs:=[(0,(.agg #[(.int .i64 0),(.int .i64 0)]))]) (cs:=[(.int .i64 0),(.int .i64 0)]) M8 ?_;intro b9 U9 hb9 _ rP _ aC ea fr;clear ea;replace rP:=rP.nf;revert aC;refine aj 1<|aE<|bx<|cK 0 ?_;obtain⟨s0,EI,Va⟩:=sd bs;intro aC fr;refine gT (fun n_ a_ w_=>∃(ws:List Nat) (S:Int→Bool) (o9:List (Int×Nat)) (A3:aX) (c3:Nat) (A2:aX) (n2:Nat) (c2:Nat) (o:ar),n_=4*jn bs.length S+AF (tg bs) o9∧Fr a_ 83 [(1,(pT b1 0)),(3,(.slice (sM g4) ((bs.length+63) / 64) ((bs.length+63) / 64))),(4,(.slice A2 n2 c2)),(5,(.slice A3 o9.length c3))]∧Mem ba w w_ [.au b1 24 [nm,wk,pa,va,(.slice A bs.length c)],.row 160 1 (sM g4) ((bs.length+63) / 64) ((bs.length+63) / 64) (kz ws),.row 136 2 A3 o9.length c3 (ou o9),.row 3 1 A2 n2 c2 (ints o)]∧(MetL bs.length ws S)∧(AE (tg bs) o9 (S,o) (AD bs))∧(xh (tg bs) o9)∧(o.length+o9.length+jn bs.length S≤bs.length)∧(n2=o.length)) (n:=_) ⟨uG (List.replicate ((bs.length+63) / 64) 0) 0,fw (fun _=>false) 0,[(0,0)],(sM b9),1,none,0,0,[],rfl,fr.kp [1,3,4,5],(rP.call (Mem.gK _ 3 1)),(MetL.start bs.length).put oM,⟨s0,EI,Va⟩,MS _ _,by have:=fL (n:=bs.length) (S:=fun _=>false) (t:=0) oM oM rfl;have:=j8 bs.length (fun _=>false);simp only[Qfw,QfP];omega,rfl⟩ ?_;clear fr aC rP;rintro n aC NS ⟨ws,S,o9,A3,c3,A2,n2,c2,o,rfl,fr,lu,SS,wy,NY,vh,Ho⟩;revert aC;refine bx<|aQ<|aj 2<|gC (decide (((o9.length:Nat):Int)>0)) fun Bw PM=> ?_
 refine aE ?_;cases Bw;have cw:¬(((o9.length:Nat):Int)>0):=Qe7 PM.symm;refine fT<|gq 0<|gr<|aQ ?_;obtain rfl:o9=[]:=by cases o9 with|nil=>rfl|cons p r=>simp at cw
 have Vb:o=AD bs:=wy;simp only[QfP]at vh;subst Ho;refine aj 1<|ej (Gp o A2 c2 NS oM (lu.get 3 rfl)) ?_;rintro _ U4 ⟨rfl,Rr⟩;have qK:=lu.md 3 rfl Rr;refine aE<|bC<|an<|cQ (.slice A2 o.length c2) ?_;exact mO (qK.pick [false,false,false,true] rfl) (by unfold aF;rw[QeW oM,Vb]) sI;have cw:((o9.length:Nat):Int)>0:=Qe4 PM.symm;refine fN<|cg<|cK 1<|aQ ?_;obtain⟨b,k,rest,rfl⟩:∃b k rest,o9=(b,k)::rest:=by
   cases o9 with
   |nil=>simp at cw
   |cons p rest=>exact⟨p.1,p.2,rest,rfl⟩
 have Jm:=NY _ (Qfs ..);simp only at Jm;have Hr:((b,k)::rest).length=rest.length+1:=rfl;have BQ:=vh;simp only[Qfw]at BQ;have jv:=p7 (lu.get 2 rfl);obtain⟨g3,rfl⟩:=cW (lu.get 2 rfl) (Nat.succ_pos _);refine aj 3 ?_;intro aC fr;refine fU (kR:ao _ 3=some (some 27,(.binOp .sub 3 (.tmp 26) (.const (.int .i64 1)) 3),3,none)) fr kR kR (k':=4) rfl (i:=((((b,k)::rest).length:Nat):Int)) (j:=1) (z:=((rest.length:Nat):Int)) kR kR (QeZ some (by rw[Hr];omega)) oM oM ?_;intro aC ea fr;clear ea;revert aC;refine eZ (aZ g3) (((b,k)::rest).length) 2 ((rest.length:Nat):Int)<|aj 1<|aE<|bx<|cH [(1,(pT b1 0)),(3,(.slice (sM g4) ((bs.length+63) / 64) ((bs.length+63) / 64))),(4,(.slice A2 n2 c2)),(5,(.slice (sM g3) (((b,k)::rest).length) c3)),(6,(.pointer (some (((aZ g3):Addr).add ((((rest.length:Nat):Int)).toNat*2)))))] ?_;intro aC fr;refine zK (N:=83) (env0:=[(1,(pT b1 0)),(3,(.slice (sM g4) ((bs.length+63) / 64) ((bs.length+63) / 64))),(4,(.slice A2 n2 c2)),(5,(.slice (sM g3) (((b,k)::rest).length) c3)),(6,(.pointer (some (((aZ g3):Addr).add ((((rest.length:Nat):Int)).toNat*2)))))]) (bL [.bg (.agg #[nm,wk,pa,va,(.slice A bs.length c)]),.bg (.pointer (some (((aZ g3):Addr).add ((((rest.length:Nat):Int)).toNat*2)))),.bg (.pointer (some (((aZ g3):Addr).add ((((rest.length:Nat):Int)).toNat*2)))),.bg (.pointer (some (((aZ g3):Addr).add ((((rest.length:Nat):Int)).toNat*2)))),.bg (.int .i64 b),Spec.free,Spec.free]) (fun ls vs w_=>match ls 6 with|true=>(∃(NZ:aX) (Hs:Nat),vs 6=(.slice NZ ((tg bs b).length) Hs)∧Mem ba w w_ [.au b1 24 [nm,wk,pa,va,(.slice A bs.length c)],.row 160 1 (sM g4) ((bs.length+63) / 64) ((bs.length+63) / 64) (kz ws),.row 136 2 (sM g3) (((b,k)::rest).length) c3 (ou ((b,k)::rest)),.row 3 1 A2 n2 c2 (ints o),.row 3 1 NZ ((tg bs b).length) Hs (ints (tg bs b))])|false=>(match ls 5 with|true=>(∃(NZ:aX) (Hs:Nat),vs 5=(.slice NZ ((tg bs b).length) Hs)∧Mem ba w w_ [.au b1 24 [nm,wk,pa,va,(.slice A bs.length c)],.row 160 1 (sM g4) ((bs.length+63) / 64) ((bs.length+63) / 64) (kz ws),.row 136 2 (sM g3) (((b,k)::rest).length) c3 (ou ((b,k)::rest)),.row 3 1 A2 n2 c2 (ints o),.row 3 1 NZ ((tg bs b).length) Hs (ints (tg bs b))])|false=>(Mem ba w w_ [.au b1 24 [nm,wk,pa,va,(.slice A bs.length c)],.row 160 1 (sM g4) ((bs.length+63) / 64) ((bs.length+63) / 64) (kz ws),.row 136 2 (sM g3) (((b,k)::rest).length) c3 (ou ((b,k)::rest)),.row 3 1 A2 n2 c2 (ints o)]))) fr (en (.bg (.bg (.bg (.bg (.bg (.free (.free .nil)))))))) (lu.aD (Mem.drew _)) (rY (Cu lz ?_ (fi fun _ _ _ _ h=>h) (fi fun _ _ _ _ h=>h) (fi fun _ _ _ _ h=>h) (lL (((aZ g3):Addr).add ((((rest.length:Nat):Int)).toNat*2)) (.int .i64 b) (fun _ _ _ _ h=>h) ?_)) ?_ ?_) ?_;intro dM w_ ls vs bZ hJ bp bj hp hF;refine iW (g0:=none) ?_;replace hF:Fr dM 83 [(1,(pT b1 0))]:=hF.kp [1];have f5:ls 5=false:=az bj bp (n:=7) kR;have f6:ls 6=false:=az bj bp (n:=7) kR;have aI:=hJ;simp only[f5,f6]at aI;refine eV (kR:ao _ 0=some (some 29,(.load 24 (.tmp 1)),24,none)) hF kR kR (k':=1) rfl (ad:=aZ b1) (vs:=[nm,wk,pa,va,(.slice A bs.length c)]) kR kR (aK (aI.get 0 rfl)) ?_;intro a2 ea _;refine aJ kR ?_;exact aY (d:=some 29) kR ea rfl hJ;intro w_ ls vs hJ bp bj hp;have f5:ls 5=false:=az bj bp (n:=7) kR;have f6:ls 6=false:=az bj bp (n:=7) kR;have aI:=hJ;simp only[f5,f6]at aI;exact(by rw[Qfd];exact ji (aB (aI.get 2 rfl)) rfl rq.1);intro dM w_ ls vs bZ hJ bp bj hp hF;refine iW (g0:=none) ?_;replace hF:Fr dM 83 [(29,(.agg #[nm,wk,pa,va,(.slice A bs.length c)])),(33,(.int .i64 b))]:=hF.kp [29,33];have f5:ls 5=false:=bp;have f6:ls 6=false:=az bj bp (n:=7) kR;have aI:=hJ;simp only[f5,f6]at aI;refine iT (kR:ao _ 0=some (some 34,(.call {callee:=(.value (.func 108)),args:=#[(.tmp 29),(.tmp 33)],argTypes:=#[24,3]}),37,none)) hF kR kR (k':=1) rfl (f:=108) (vs:=[(.agg #[nm,wk,pa,va,(.slice A bs.length c)]),(.int .i64 b)]) (cap:=[]) kR kR kR (xU _ _ _ _ A c bs b w_ hm (hA.at_ aI)) ?_;rintro _ w2 ⟨N0,N1,rfl,dY⟩ a2 ea _;have N2:=aI.call dY;refine aJ kR ?_;refine aY (d:=some 34) kR ea trivial ?_;show match ls 6 with|true=>_|false=>(∃(NZ:aX) (Hs:Nat),_)
 rw[f6];exact⟨N0,N1,rfl,N2⟩;intro dM w_ ls vs bZ hJ bp bj hp hF;refine iW (g0:=none) ?_;replace hF:Fr dM 83 [(34,vs 5)]:=hF.kp [34];have f5:ls 5=true:=aG bj (fun k hk=>(hp k hk).1) (n:=7) kR;have f6:ls 6=false:=bp;have aI:=hJ;simp only[f5,f6]at aI;obtain⟨N0,N1,e_,dY⟩:=aI;rw[e_]at hF;refine eU (kR:ao _ 0=some (some 7,(.assign (.tmp 34)),37,none)) hF kR kR (k':=1) rfl (v:=(.slice N0 ((tg bs b).length) N1)) kR ?_;intro a2 ea _;refine aJ kR ?_;refine aY (d:=some 7) kR ea trivial ?_;show∃(NZ:aX) (Hs:Nat),_;exact⟨N0,N1,rfl,dY⟩;intro aC N3 ls vs cA ll hv fr;simp only[show ls 6=true from cA 6 dQ]at ll;revert aC;refine cH [(1,(pT b1 0)),(3,(.slice (sM g4) ((bs.length+63) / 64) ((bs.length+63) / 64))),(4,(.slice A2 n2 c2)),(5,(.slice (sM g3) (((b,k)::rest).length) c3)),(6,(.pointer (some (((aZ g3):Addr).add ((((rest.length:Nat):Int)).toNat*2))))),(7,vs 6)] ?_;obtain⟨NZ,Hs,e_,ll⟩:=ll;rw[e_];clear e_;clear cA hv fr aC lu;clear vs ls;refine bx<|aQ<|aj 3<|bq ((((aZ g3):Addr).add ((((rest.length:Nat):Int)).toNat*2)).add 1) (nV k) (by rw[Qfd,add_add];exact ji (aB (ll.get 2 rfl)) rfl rq.2)<|aj 2<|gC ((k:Int)==(((tg bs b).length:Nat):Int)) fun Bl Tz=> ?_
 refine aE ?_;cases Bl;have cl:¬((k:Int)=(((tg bs b).length:Nat):Int)):=F6 Tz;refine fT<|cg<|aQ ?_;obtain⟨ti,Dz,Gq⟩:=Ir (bs:=bs) (b:=b) (k:=k) oM;refine aj 4<|bq ((((aZ g3):Addr).add ((((rest.length:Nat):Int)).toNat*2)).add 1) (nV k) (by rw[Qfd,add_add];exact ji (aB (ll.get 2 rfl)) rfl rq.2) ?_;obtain⟨Z0,rfl⟩:=cW (ll.get 4 rfl) oM;refine eZ (h1:=oM) (aZ Z0) ((tg bs b).length) 1 (k:Int)<|bq (((aZ Z0):Addr).add (((k:Int)).toNat*1)) (nV ti) (fR (aB (ll.get 4 rfl)) rfl Dz)<|aj 1<|aE<|aQ<|aj 3<|bq ((((aZ g3):Addr).add ((((rest.length:Nat):Int)).toNat*2)).add 1) (nV k) (by rw[Qfd,add_add];exact ji (aB (ll.get 2 rfl)) rfl rq.2)<|ep (h2:=(by have:=oe bs b;omega)) ((k:Int)+1)<|aj 2<|zJ ll 2 ((((aZ g3):Addr).add ((((rest.length:Nat):Int)).toNat*2)).add 1) (rest.length*2+1) (.int .i64 ((k:Int)+1)) rfl (by rw[Qfd,add_add]) (by rw[Hr];omega) fun kD Vc=> ?_
 replace Vc:=Vc.nf;refine aE<|aQ ?_;have s8:Mem ba w kD [.au b1 24 [nm,wk,pa,va,(.slice A bs.length c)],.row 160 1 (sM g4) ((bs.length+63) / 64) ((bs.length+63) / 64) (kz ws),.row 136 2 (sM g3) (((b,k+1)::rest).length) c3 (ou ((b,k+1)::rest)),.row 3 1 A2 n2 c2 (ints o),.row 3 1 (sM Z0) ((tg bs b).length) Hs (ints (tg bs b))]:=Vc.cast (by rw[MR];rfl);refine aj 2<|ej (Rv ws ((bs.length+63) / 64) ti (sM g4) ((bs.length+63) / 64) kD SS.fit oM SS.len.symm (SS.idx Gq) (RO.aB (s8.dT 1 rfl))) ?_;rintro _ kE ⟨rfl,Rw⟩;have EN:=s8.cl Rw;obtain⟨Bm,Z1⟩:∃B,B=tb ws ti:=⟨_,rfl⟩;refine cH [(1,(pT b1 0)),(3,(.slice (sM g4) ((bs.length+63) / 64) ((bs.length+63) / 64))),(4,(.slice A2 n2 c2)),(5,(.slice (sM g3) (((b,k+1)::rest).length) c3)),(8,(nV ti)),(68,(.slice (sM g4) ((bs.length+63) / 64) ((bs.length+63) / 64))),(69,(nV ti)),(70,(.bool (tb ws ti)))] ?_;rw[←Z1];refine aj 1<|aE ?_;cases Bm;have cm:(tb ws ti)=false:=Z1.symm;have N4:S (ti:Int)=false:=by rw[←SS.bits ti Gq];exact cm
 refine fN<|aQ<|aj 2<|ej (PL ws ((bs.length+63) / 64) ti (sM g4) ((bs.length+63) / 64) kE SS.fit oM SS.len.symm (SS.idx Gq) (EN.get 1 rfl)) ?_;rintro _ kF ⟨rfl,Rx⟩;have JK:=EN.md 1 rfl Rx;refine aE<|dh<|aj 3 ?_;intro aC fr;refine rG 78 137 1 #[(0,(.tmp 77))] 137 fr (e:=136) (size:=2) (zs:=[(.int .i64 0),(.int .i64 0)]) (vs:=[(0,(.agg #[(nV ti),(.int .i64 0)]))]) (cs:=[(nV ti),(.int .i64 0)]) JK ?_;intro b45 kP hb45 _ EO _ aC ea fr;clear ea;replace EO:=EO.nf;refine tT 79 (.tmp 75) (.tmp 78) 137 137 fr (e:=136) (size:=2) (bytes:=16) (z:=(.agg #[(.int .i64 0),(.int .i64 0)])) (A:=(sM g3)) (B:=(sM b45)) (n:=(((b,k+1)::rest).length)) (cap:=c3) (m:=1) (cap':=1) (xs:=(ou ((b,k+1)::rest))) (news:=[(nV ti),(.int .i64 0)]) EO 2 rfl (aB (EO.get 5 rfl)) rfl (by simp[Value.oneCell']) (by simp only[Qfw];omega) (by simp only[maxLen,Qfw];omega) ?_;intro mH kK Vd qM _ aC ea fr;clear ea;replace qM:=qM.nf;have sC:=qM.od [4,4,4,4,4] 5;revert aC;refine aj 1<|aE ?_;intro aC fr;exact⟨4*jn bs.length (fw S (ti:Int))+AF (tg bs) (((ti:Int),0)::(b,k+1)::rest),by have:=oe bs (ti:Int);have:=fL (n:=bs.length) (S:=S) (t:=(ti:Int)) oM oM N4;simp only[AF];omega,uG ws ti,fw S (ti:Int),((ti:Int),0)::(b,k+1)::rest,mH,kK,A2,n2,c2,o,rfl,fr.kp [1,3,4,5],((sC.pick [true,true,true,true,false] rfl).cast (by rw[kN ((ti:Int),0)];rfl)),SS.put Gq,Ip wy Dz N4,Iq NY oM,by have:=fL (n:=bs.length) (S:=S) (t:=(ti:Int)) oM oM N4;simp only[Qfw]at vh⊢;omega,Ho⟩;have cm:(tb ws ti)=true:=Z1.symm;have N4:S (ti:Int)=true:=by rw[←SS.bits ti Gq];exact cm
 refine fT<|cg ?_;intro aC fr;exact⟨4*jn bs.length S+AF (tg bs) ((b,k+1)::rest),by simp only[AF];omega,ws,S,(b,k+1)::rest,(sM g3),c3,A2,n2,c2,o,rfl,fr.kp [1,3,4,5],(EN.pick [true,true,true,true,false] rfl),SS,Io wy Dz N4,MT NY oM,by simp only[Qfw]at vh⊢;omega,Ho⟩;have cl:(k:Int)=(((tg bs b).length:Nat):Int):=Qc3.1 Tz.symm;refine fN<|aQ<|aj 4<|bq (((aZ g3):Addr).add ((((rest.length:Nat):Int)).toNat*2)) (.int .i64 b) (by rw[Qfd];exact ji (aB (ll.get 2 rfl)) rfl rq.1) ?_;intro aC fr;refine rG 47 37 1 #[(0,(.tmp 46))] 37 fr (e:=3) (size:=1) (zs:=[(.int .i64 0)]) (vs:=[(0,(.int .i64 b))]) (cs:=[(.int .i64 b)]) ll ?_;intro b63 I7 hb63 _ Cv _ aC ea fr;clear ea;replace Cv:=Cv.nf;refine tT 48 (.tmp 42) (.tmp 47) 37 37 fr (e:=3) (size:=1) (bytes:=8) (z:=(.int .i64 0)) (A:=A2) (B:=(sM b63)) (n:=n2) (cap:=c2) (m:=1) (cap':=1) (xs:=(ints o)) (news:=[(.int .i64 b)]) Cv 3 rfl (aB (Cv.get 5 rfl)) rfl (by simp[Value.oneCell']) oM (by simp only[maxLen];omega) ?_;intro kU Ry Z2 Cw _ aC ea fr;clear ea;replace Cw:=Cw.nf;have EP:=Cw.od [4,4,4,4,4] 5;revert aC;refine aj 1<|aE<|aQ<|aj 3 ?_;intro aC fr;refine fU (kR:ao _ 3=some (some 52,(.binOp .sub 3 (.tmp 51) (.const (.int .i64 1)) 3),3,none)) fr kR kR (k':=4) rfl (i:=((((b,k)::rest).length:Nat):Int)) (j:=1) (z:=((rest.length:Nat):Int)) kR kR (QeZ some (by rw[Hr];omega)) oM oM ?_;intro aC ea fr;clear ea;refine fW (kR:ao _ 4=some (some 53,(.slice 137 (.tmp 49) none (some (.tmp 52)) none),137,none)) fr kR kR (k':=5) rfl (A:=(sM g3)) (n:=((b,k)::rest).length) (cap:=c3) (e:=136) (size:=2) (kd:= .i64) (i:=((rest.length:Nat):Int)) rest.length kR kR rfl kR kR oM ?_;intro aC ea fr;clear ea;have nx:Mem ba w Z2 [.au b1 24 [nm,wk,pa,va,(.slice A bs.length c)],.row 160 1 (sM g4) ((bs.length+63) / 64) ((bs.length+63) / 64) (kz ws),.row 136 2 (sM g3) rest.length c3 (ou rest),.row 3 1 kU (n2+1) Ry ((ints o)++[(.int .i64 b)]),.row 3 1 NZ ((tg bs b).length) Hs (ints (tg bs b))]:=(EP.kW 2 rfl rest.length oM).cast (by rw[MQ];rfl);revert aC;refine aj 1<|aE<|gq 1<|gr ?_;intro aC fr;exact⟨4*jn bs.length S+AF (tg bs) rest,by simp only[AF];omega,ws,S,rest,(sM g3),c3,kU,(n2+1),Ry,o++[b],rfl,fr.kp [1,3,4,5],((nx.pick [true,true,true,true,false] rfl).cast (by rw[iU];rfl)),SS,MP wy oM,fun p hp=>NY p (Qfa _ hp),by simp only[QfK,Qfw,QfP]at vh⊢;omega,by simp only[QfK,Qfw,QfP];omega⟩;have cz:((bs.length:Nat):Int)=0:=Qc3.1 U8.symm;refine fN<|bC<|an<|cQ aq ?_;exact Ha (M3.pick [false] rfl) (by unfold aF;rw[Qe3 oM])
end Go.Proofs.Ytejbeeaomokjpaa
namespace Go.Proofs.Ytejbeeaomokjpaa
open Go.Mor
theorem DA(nm wk pa va:Value)(A:aX)(c:Nat)(bs:List SB)(bar:Int)(w:World)(hm:bs.length≤1000000)(hA:RO ba w (.blocks A bs)):Calls Try.prog 41 #[(.agg #[nm,wk,pa,va,vS A bs.length c]),vI bar] w (fE fun v w'=>∃A' c',v=vS A' bs.length c'∧Mem ba w w' [.row 4 1 A' bs.length c' (bD (fM bs bar))]):=by
 refine hZ 74 [(.agg #[nm,wk,pa,va,vS A bs.length c]),vI bar] Try.func41 ?_;have hM:=Mem.init w;refine aQ<|nJ hM 24 (.agg #[nm,wk,pa,va,vS A bs.length c]) [nm,wk,pa,va,vS A bs.length c] fun b1 w2 kH M3=> ?_
 replace M3:=M3.nf;clear hM;refine aj 1<|aE<|aQ<|aj 1<|bq (ak b1 4) _ (ae (M3.get 0 rfl) rfl)<|aj 1 ?_;intro aC fr;refine I9 13 46 (.tmp 12) (.tmp 12) 46 fr (e:=4) (bytes:=1) (z:=(vB false)) (n:=bs.length) (i:=(bs.length:Int)) oM (by simp only[maxLen];omega) M3 ?_;intro b4 w5 LW _ M6 _ aC ea fr;clear ea;replace M6:=M6.nf;revert aC;refine aj 1<|aE<|bx<|aQ<|aj 1<|bq (ak b1 4) _ (ae (M6.get 0 rfl) rfl)<|aj 1<|gC ((bs.length:Int)==0) fun Bz U8=> ?_
 refine aj 1 ?_;cases Bz;have cz:¬((bs.length:Int)=0):=F6 U8;refine aj 1<|gC (bar==0) fun Bb Ve=> ?_
 refine aj 1<|aE ?_;cases Bb;have cb:¬(bar=0):=F6 Ve;refine fT<|cg<|aQ<|aj 1<|eZ (aZ b4) bs.length 1 0<|zJ M6 1 (aN (aZ b4) (0:Int) 1) ((0:Int).toNat*1) (vB true) rfl rfl oM fun DB jV=> ?_
 replace jV:=jV.nf;refine dX [1,2,5]<|aE<|aQ ?_;intro aC fr;refine rG 25 37 1 #[(0,.const (vI 0))] 37 fr (e:=3) (size:=1) (zs:=[vI 0]) (vs:=[(0,vI 0)]) (cs:=[vI 0]) jV ?_;intro Z3 Ys hb13 _ q5 _ aC ea fr;clear ea;replace q5:=q5.nf;revert aC;refine aj 1<|aE<|bx<|bC<|cK 0 ?_;intro aC fr;refine gT (fun n_ a_ w_=>∃(i:Nat) (S:Int→Bool) (inl:List Bool) (todo:ar) (A2:aX) (n2:Nat) (c2:Nat),n_=bs.length-i∧Fr a_ 74 [(1,vI bar),(2,pT b1 0),(5,vS (sM b4) bs.length bs.length),(6,vS A2 n2 c2),(7,nV i)]∧Mem ba w w_ [.au b1 24 [nm,wk,pa,va,vS A bs.length c],.row 4 1 (sM b4) bs.length bs.length (bD inl),.row 3 1 A2 n2 c2 (ints todo)]∧(dR bs.length inl S)∧(AJ (tg bs) bar S todo i 0)∧(todo.length+jn bs.length S≤bs.length)∧(n2=todo.length)∧(i≤todo.length)) (n:=_) ⟨0,fw (fun _=>false) 0,(List.replicate bs.length false).set 0 true,[0],(sM Z3),1,1,rfl,fr.kp [1,2,5,6,7],(q5.cast (by simp[bD,ints,Qgb])),(dR.start bs.length).put oM,AJ.start _ _,by have:=fL (n:=bs.length) (S:=fun _=>false) (t:=0) oM oM rfl;have:=j8 bs.length (fun _=>false);simp only[Qfw,QfP];omega,rfl,oM⟩ ?_;clear fr aC q5;rintro n aC U4 ⟨i,S,inl,todo,A2,n2,c2,rfl,fr,qK,o8,lD,vh,Ho,hi⟩;revert aC;refine bx<|aQ<|aj 3<|gC (decide ((i:Int)<(n2:Int))) fun Bw PM=> ?_
 refine aE ?_;cases Bw;have cw:¬((i:Int)<(n2:Int)):=Qe7 PM.symm;refine fT<|gq 0<|gr<|bC<|an<|cQ (vS (sM b4) bs.length bs.length) ?_;have fk:=qK.od [1] 1;exact⟨_,_,rfl,(fk).cast (by rw[Iw o8 lD oM oM])⟩;have cw:(i:Int)<(n2:Int):=Qe4 PM.symm;refine fN<|cg<|bx<|cK 1<|bx ?_;obtain⟨b,hb⟩:∃b,todo[i]?=some b:=⟨_,List.getElem?_eq_getElem oM⟩;obtain⟨g3,rfl⟩:=cW (qK.get 2 rfl) oM;have x9:=oe bs b;refine dX [1,2,5,6,7,29] ?_;intro aC fr;refine zK (bL [.bg (.agg #[nm,wk,pa,va,vS A bs.length c]),eS (sM g3) n2 c2,.bg (nV i),eA (aZ g3) (i:Int) 1,eI b,Spec.free,Spec.free]) (fun ls vs w_=>match ls 6 with|true=>(∃(LX:aX) (Gr:Nat),vs 6=(vS LX ((tg bs b).length) Gr)∧Mem ba w w_ [.au b1 24 [nm,wk,pa,va,vS A bs.length c],.row 4 1 (sM b4) bs.length bs.length (bD inl),.row 3 1 (sM g3) n2 c2 (ints todo),.row 3 1 LX ((tg bs b).length) Gr (ints (tg bs b))])|false=>(match ls 5 with|true=>(∃(LX:aX) (Gr:Nat),vs 5=(vS LX ((tg bs b).length) Gr)∧Mem ba w w_ [.au b1 24 [nm,wk,pa,va,vS A bs.length c],.row 4 1 (sM b4) bs.length bs.length (bD inl),.row 3 1 (sM g3) n2 c2 (ints todo),.row 3 1 LX ((tg bs b).length) Gr (ints (tg bs b))])|false=>(Mem ba w w_ [.au b1 24 [nm,wk,pa,va,vS A bs.length c],.row 4 1 (sM b4) bs.length bs.length (bD inl),.row 3 1 (sM g3) n2 c2 (ints todo)]))) fr (en (.bg (.bg (.bg (.bg (.bg (.free (.free .nil)))))))) (qK.aD (Mem.drew _)) (rY (Cu lz ?_ (fi fun _ _ _ _ h=>h) (fi fun _ _ _ _ h=>h) (K6 (aZ g3) n2 1 (i:Int) fun _ _ _ _ h=>h) (lL (aN (aZ g3) (i:Int) 1) (vI b) (fun _ _ _ _ h=>h) ?_)) ?_ ?_) ?_;intro dM w_ ls vs bZ hJ bp bj hp hF;refine iW (g0:=none) ?_;replace hF:Fr dM 74 [(2,pT b1 0)]:=hF.kp [2];have f5:ls 5=false:=az bj bp (n:=7) kR;have f6:ls 6=false:=az bj bp (n:=7) kR;have aI:=hJ;simp only[f5,f6]at aI;refine eV (kR:ao _ 0=some (some 32,.load 24 (.tmp 2),24,none)) hF kR kR (k':=1) rfl (ad:=aZ b1) (vs:=[nm,wk,pa,va,vS A bs.length c]) kR kR (aK (aI.get 0 rfl)) ?_;intro a2 ea _;refine aJ kR ?_;exact aY (d:=some 32) kR ea rfl hJ;intro w_ ls vs hJ bp bj hp;have f5:ls 5=false:=az bj bp (n:=7) kR;have f6:ls 6=false:=az bj bp (n:=7) kR;have aI:=hJ;simp only[f5,f6]at aI;exact(fR (aB (aI.get 2 rfl)) rfl hb);intro dM w_ ls vs bZ hJ bp bj hp hF;refine iW (g0:=none) ?_;replace hF:Fr dM 74 [(32,(.agg #[nm,wk,pa,va,vS A bs.length c])),(36,vI b)]:=hF.kp [32,36];have f5:ls 5=false:=bp;have f6:ls 6=false:=az bj bp (n:=7) kR;have aI:=hJ;simp only[f5,f6]at aI;refine iT (kR:ao _ 0=some (some 37,(.call {callee:=(.value (.func 74)),args:=#[.tmp 32,.tmp 36],argTypes:=#[24,3]}),37,none)) hF kR kR (k':=1) rfl (f:=74) (vs:=[(.agg #[nm,wk,pa,va,vS A bs.length c]),vI b]) (cap:=[]) kR kR kR (vr _ _ _ _ A c bs b w_ hm (hA.at_ aI)) ?_;rintro _ w2 ⟨N5,N6,rfl,dY⟩ a2 ea _;have N2:=aI.call dY;refine aJ kR ?_;refine aY (d:=some 37) kR ea trivial ?_;show match ls 6 with|true=>_|false=>(∃(LX:aX) (Gr:Nat),_)
 rw[f6];exact⟨N5,N6,rfl,N2⟩;intro dM w_ ls vs bZ hJ bp bj hp hF;refine iW (g0:=none) ?_;replace hF:Fr dM 74 [(37,vs 5)]:=hF.kp [37];have f5:ls 5=true:=aG bj (fun k hk=>(hp k hk).1) (n:=7) kR;have f6:ls 6=false:=bp;have aI:=hJ;simp only[f5,f6]at aI;obtain⟨N5,N6,e_,dY⟩:=aI;rw[e_]at hF;refine eU (kR:ao _ 0=some (some 8,.assign (.tmp 37),37,none)) hF kR kR (k':=1) rfl (v:=(vS N5 ((tg bs b).length) N6)) kR ?_;intro a2 ea _;refine aJ kR ?_;refine aY (d:=some 8) kR ea trivial ?_;show∃(LX:aX) (Gr:Nat),_;exact⟨N5,N6,rfl,dY⟩;intro aC kh ls vs cA Dy hv fr;simp only[show ls 6=true from cA 6 dQ]at Dy;revert aC;refine cH [(1,vI bar),(2,pT b1 0),(5,vS (sM b4) bs.length bs.length),(6,vS (sM g3) n2 c2),(7,nV i),(8,vs 6)] ?_;obtain⟨LX,Gr,e_,Dy⟩:=Dy;rw[e_];clear e_;clear cA hv fr aC qK;clear vs ls;refine bC<|cK 2 ?_;intro aC fr;refine gT (fun n_ a_ w_=>∃(k:Nat) (S2:Int→Bool) (tq:List Bool) (ny:ar) (A4:aX) (n4:Nat) (c4:Nat),n_=(tg bs b).length-k∧Fr a_ 74 [(1,vI bar),(2,pT b1 0),(5,vS (sM b4) bs.length bs.length),(6,vS A4 n4 c4),(7,nV i),(8,vS LX ((tg bs b).length) Gr),(9,nV k)]∧Mem ba w w_ [.au b1 24 [nm,wk,pa,va,vS A bs.length c],.row 4 1 (sM b4) bs.length bs.length (bD tq),.row 3 1 A4 n4 c4 (ints ny),.row 3 1 LX ((tg bs b).length) Gr (ints (tg bs b))]∧(k≤(tg bs b).length)∧(dR bs.length tq S2)∧(AJ (tg bs) bar S2 ny i k)∧(ny[i]?=some b)∧(ny.length+jn bs.length S2≤bs.length)∧(n4=ny.length)) (n:=_) ⟨0,S,inl,todo,(sM g3),n2,c2,rfl,fr.kp [1,2,5,6,7,8,9],Dy,oM,o8,lD,hb,vh,Ho⟩ ?_;clear fr aC Dy;rintro n aC ZR ⟨k,S2,tq,ny,A4,n4,c4,rfl,fr,tX,hk,wz,N7,tP,BQ,Yu⟩;revert aC;refine bx<|aQ<|aj 3<|gC (decide ((k:Int)<((tg bs b).length:Int))) fun Bk JL=> ?_
 refine aE ?_;cases Bk;have ck:¬((k:Int)<((tg bs b).length:Int)):=Qe7 JL.symm;refine fT<|gq 2<|gr<|dh<|aj 1<|ep ((i:Int)+1)<|aj 1<|aE ?_;intro aC fr;exact⟨bs.length-(i+1),by have:=(List.getElem?_eq_some_iff.1 tP).1;omega,i+1,S2,tq,ny,A4,n4,c4,rfl,fr.kp [1,2,5,6,7],(tX.pick [true,true,true,false] rfl),wz,N7.next tP oM,BQ,Yu,by have:=(List.getElem?_eq_some_iff.1 tP).1;omega⟩;have ck:(k:Int)<((tg bs b).length:Int):=Qe4 JL.symm;refine fN<|cg<|bx<|cK 3<|aQ ?_;obtain⟨ti,Dz,Gq⟩:=Ir (bs:=bs) (b:=b) (k:=k) oM;refine aj 3 ?_;obtain⟨LY,rfl⟩:=cW (tX.get 3 rfl) oM;refine eZ (aZ LY) ((tg bs b).length) 1 (k:Int)<|bq (aN (aZ LY) (k:Int) 1) _ (fR (aB (tX.get 3 rfl)) rfl Dz)<|eZ (aZ b4) bs.length 1 (ti:Int)<|bq (aN (aZ b4) (ti:Int) 1) _ (bB (aB (tX.get 1 rfl)) rfl (jM (by rw[wz.1];exact Gq))) ?_;obtain⟨Bin,Rz⟩:∃B,B=tq.getD ti false:=⟨_,rfl⟩;refine cH [(1,vI bar),(2,pT b1 0),(5,vS (sM b4) bs.length bs.length),(6,vS A4 n4 c4),(7,nV i),(8,vS (sM LY) ((tg bs b).length) Gr),(9,nV k),(50,vB (tq.getD ti false))] ?_;rw[←Rz];refine aj 2 ?_;cases Bin;have cin:(tq.getD ti false)=false:=Rz.symm;have N4:S2 (ti:Int)=false:=by rw[←wz.2 ti Gq];exact cin
 refine aj 2<|eZ (aZ LY) ((tg bs b).length) 1 (k:Int)<|bq (aN (aZ LY) (k:Int) 1) _ (fR (aB (tX.get 3 rfl)) rfl Dz)<|aj 1<|gC ((ti:Int) !=bar) fun Z4 PN=> ?_
 refine aj 1<|aE ?_;cases Z4;have Z5:¬((ti:Int)≠bar):=Q9 PN;refine fT<|cg<|dh<|aj 1<|ep ((k:Int)+1)<|aj 1<|aE ?_;intro aC fr;exact⟨(tg bs b).length-(k+1),oM,k+1,S2,tq,ny,A4,n4,c4,rfl,fr.kp [1,2,5,6,7,8,9],tX,oM,wz,N7.skip tP Dz (.inr oM),tP,BQ,Yu⟩;have Z5:(ti:Int)≠bar:=QeY.1 PN.symm;refine fN<|aQ<|aj 3<|eZ (aZ LY) ((tg bs b).length) 1 (k:Int)<|bq (aN (aZ LY) (k:Int) 1) _ (fR (aB (tX.get 3 rfl)) rfl Dz)<|eZ (aZ b4) bs.length 1 (ti:Int)<|zJ tX 1 (aN (aZ b4) (ti:Int) 1) (((ti:Int)).toNat*1) (vB true) rfl rfl oM fun Vf ER=> ?_
 replace ER:=ER.nf;refine aE<|dh ?_;have oI:Mem ba w Vf [.au b1 24 [nm,wk,pa,va,vS A bs.length c],.row 4 1 (sM b4) bs.length bs.length (bD (tq.set ti true)),.row 3 1 A4 n4 c4 (ints ny),.row 3 1 (sM LY) ((tg bs b).length) Gr (ints (tg bs b))]:=ER.cast (by rw[o7];simp only[Qfd,Qfp]);refine aj 3<|eZ (aZ LY) ((tg bs b).length) 1 (k:Int)<|dX [1,2,5,7,8,9,66,69]<|bq (aN (aZ LY) (k:Int) 1) _ (fR (aB (oI.get 3 rfl)) rfl Dz) ?_;intro aC fr;refine rG 71 37 1 #[(0,.tmp 70)] 37 fr (e:=3) (size:=1) (zs:=[vI 0]) (vs:=[(0,nV ti)]) (cs:=[nV ti]) oI ?_;intro b50 lF hb50 _ DC _ aC ea fr;clear ea;replace DC:=DC.nf;refine tT 72 (.tmp 66) (.tmp 71) 37 37 fr (e:=3) (size:=1) (bytes:=8) (z:=(vI 0)) (A:=A4) (B:=(sM b50)) (n:=n4) (cap:=c4) (m:=1) (cap':=1) (xs:=(ints ny)) (news:=[nV ti]) DC 2 rfl (aB (DC.get 4 rfl)) rfl (by simp[Value.oneCell']) oM (by simp only[maxLen];omega) ?_;intro A57 N8 Yv BR _ aC ea fr;clear ea;replace BR:=BR.nf;have wx:=BR.od [3,3,3,3] 4;revert aC;refine aj 1<|aE<|dh<|aj 1<|ep ((k:Int)+1)<|aj 1<|aE ?_;intro aC fr;exact⟨(tg bs b).length-(k+1),oM,k+1,fw S2 (ti:Int),tq.set ti true,ny++[(ti:Int)],A57,(n4+1),N8,rfl,fr.kp [1,2,5,6,7,8,9],(wx.cast (by rw[iU];rfl)),oM,wz.put Gq,N7.push tP Dz oM,by rw[List.getElem?_append_left (List.getElem?_eq_some_iff.1 tP).1];exact tP,by have:=fL (n:=bs.length) (S:=S2) (t:=(ti:Int)) oM oM N4;simp only[QfK,Qfw,QfP];omega,by simp[Yu]⟩;have cin:(tq.getD ti false)=true:=Rz.symm;have N4:S2 (ti:Int)=true:=by rw[←wz.2 ti Gq];exact cin
 refine aj 7<|aE<|fT<|cg<|dh<|aj 1<|ep ((k:Int)+1)<|aj 1<|aE ?_;intro aC fr;exact⟨(tg bs b).length-(k+1),oM,k+1,S2,tq,ny,A4,n4,c4,rfl,fr.kp [1,2,5,6,7,8,9],tX,oM,wz,N7.skip tP Dz (.inl N4),tP,BQ,Yu⟩;have cb:bar=0:=Qc3.1 Ve.symm;refine fN<|bC<|an<|cQ (vS (sM b4) bs.length bs.length) ?_;have DD:=M6.od [1] 1;exact⟨_,_,rfl,(DD).cast (by rw[←xj (bar:=bar) oM];simp[bD])⟩;have cz:(bs.length:Int)=0:=Qc3.1 U8.symm;refine aj 3<|aE<|fN<|bC<|an<|cQ (vS (sM b4) bs.length bs.length) ?_;have vY:=M6.od [1] 1;exact⟨_,_,rfl,(vY).cast (by rw[←xj (bar:=bar) oM];simp[bD])⟩
end Go.Proofs.Ytejbeeaomokjpaa
namespace Go.Proofs.Ytejbeeaomokjpaa
open Go.Mor
theorem RB(nm wk pa va:Value)(A:aX)(c:Nat)(bs:List SB)(w:World)(hm:bs.length≤1000000)(hA:RO ba w (.blocks A bs)):Calls Try.prog 43 #[(.agg #[nm,wk,pa,va,vS A bs.length c])] w (fE fun v w'=>∃A' c' rows,v=vS A' bs.length c'∧et Value.bool rows (fS bs)∧Mem ba w w' [.fK 4 rows,.row 46 1 A' bs.length c' (fq rows)]):=by
 refine hZ 54 [(.agg #[nm,wk,pa,va,vS A bs.length c])] Try.func43 ?_;have hM:=Mem.init w;refine aQ<|nJ hM 24 (.agg #[nm,wk,pa,va,vS A bs.length c]) [nm,wk,pa,va,vS A bs.length c] fun b1 w2 kH M3=> ?_
 replace M3:=M3.nf;clear hM;refine aj 1<|aE<|aQ<|gu (aZ b1) [nm,wk,pa,va,vS A bs.length c] (aK (M3.get 0 rfl))<|ej (vs:=#[(.agg #[nm,wk,pa,va,vS A bs.length c]),vI (-1)]) (DA _ _ _ _ A c bs (-1) w2 hm (hA.at_ M3)) ?_;rintro _ w6 ⟨A4,c5,rfl,Z6⟩;have M7:=M3.cl Z6;refine aj 1<|aE<|bC<|bx<|bC<|cK 0 ?_;have Xn:=jN bs;intro aC fr;refine gT (fun n_ a_ w_=>∃(d:Nat) (rows:List fJ) (A2:aX) (c2:Nat),n_=bs.length-d∧Fr a_ 54 [(1,pT b1 0),(3,vS A4 bs.length c5),(4,vS A2 d c2),(5,nV d)]∧Mem ba w w_ [.fK 4 rows,.au b1 24 [nm,wk,pa,va,vS A bs.length c],.row 4 1 A4 bs.length c5 (bD (fM bs (-1))),.row 46 1 A2 d c2 (fq rows)]∧(d≤bs.length)∧(et Value.bool rows ((fS bs).take d))) (n:=_) ⟨0,[],none,0,rfl,fr.kp [1,3,4,5],(((((M7.pick [true,true] rfl).call (Mem.CM _ 4 0)).call (Mem.gK _ 46 1)).front 2 rfl).cast rfl),oM,rfl⟩ ?_;clear fr aC M7;rintro n aC U9 ⟨d,rows,A2,c2,rfl,fr,rP,hd,hf⟩;revert aC;refine bx<|aQ<|aj 2<|bq (ak b1 4) _ (ae (rP.get 1 rfl) rfl)<|aj 1<|gC (decide ((d:Int)<(bs.length:Int))) fun Bd lI=> ?_
 refine aE ?_;cases Bd;have cd:¬((d:Int)<(bs.length:Int)):=Qe7 lI.symm;refine fT<|gq 0<|gr<|bC<|an<|cQ (vS A2 d c2) ?_;obtain rfl:d=bs.length:=oM;have rO:=rP.od [3,1] 2;exact⟨_,_,rows,rfl,hf.all oM,rO⟩;have cd:(d:Int)<(bs.length:Int):=Qe4 lI.symm;refine fN<|cg<|bx<|cK 1<|aQ ?_;have pD:d<bs.length:=oM;refine aj 1<|bq (ak b1 4) _ (ae (rP.get 1 rfl) rfl)<|aj 1 ?_;intro aC fr;refine I9 21 46 (.tmp 20) (.tmp 20) 46 fr (e:=4) (bytes:=1) (z:=(vB false)) (n:=bs.length) (i:=(bs.length:Int)) oM (by simp only[maxLen];omega) rP ?_;intro fO Dx Rt _ kI _ aC ea fr;clear ea;replace kI:=kI.nf;revert aC;refine aj 1<|aE<|bx<|aQ ?_;have oJ:Mem ba w Dx [.fK 4 rows,.au b1 24 [nm,wk,pa,va,vS A bs.length c],.row 4 1 A4 bs.length c5 (bD (fM bs (-1))),.row 46 1 A2 d c2 (fq rows),.row 4 1 (sM fO) bs.length bs.length (bD (List.replicate bs.length false))]:=kI.cast (by simp[bD]);refine aj 2 ?_;obtain⟨g24,rfl⟩:=cW (oJ.get 2 rfl) oM;refine eZ (aZ g24) bs.length 1 (d:Int)<|bq (aN (aZ g24) (d:Int) 1) _ (bB (aB (oJ.get 2 rfl)) rfl (jM (by rw[kO];omega))) ?_;obtain⟨Z7,JM⟩:∃B,B=(fM bs (-1)).getD d false:=⟨_,rfl⟩;refine cH [(1,pT b1 0),(3,vS (sM g24) bs.length c5),(4,vS A2 d c2),(5,nV d),(6,vS (sM fO) bs.length bs.length),(25,vB ((fM bs (-1)).getD d false))] ?_;rw[←JM];refine aE ?_;cases Z7;have call:((fM bs (-1)).getD d false)=false:=JM.symm;refine fT<|cg<|dh<|aj 2 ?_;intro aC fr;refine rG 51 49 1 #[(0,.tmp 50)] 49 fr (e:=46) (size:=1) (zs:=[aq]) (vs:=[(0,vS (sM fO) bs.length bs.length)]) (cs:=[vS (sM fO) bs.length bs.length]) oJ ?_;intro vZ Vg Z8 _ pS _ aC ea fr;clear ea;replace pS:=pS.nf;refine tT 52 (.tmp 49) (.tmp 51) 49 49 fr (e:=46) (size:=1) (bytes:=24) (z:=aq) (A:=A2) (B:=(sM vZ)) (n:=d) (cap:=c2) (m:=1) (cap':=1) (xs:=(fq rows)) (news:=[vS (sM fO) bs.length bs.length]) pS 3 rfl (aB (pS.get 5 rfl)) rfl (by simp[Value.oneCell']) oM (by simp only[maxLen];omega) ?_;intro Z9 TB N3 ll _ aC ea fr;clear ea;replace ll:=ll.nf;have tX:=ll.od [4,4,4,4,4] 5;revert aC;refine aj 1<|aE<|dh<|aj 1<|ep ((d:Int)+1)<|aj 1<|aE ?_;have Vc:=tX.od [3,3,3,4,4] 5;have s8:Mem ba w N3 [.fK 4 (rows++[⟨(sM fO),bs.length,bs.length,bD (List.replicate bs.length false)⟩]),.au b1 24 [nm,wk,pa,va,vS A bs.length c],.row 4 1 (sM g24) bs.length c5 (bD (fM bs (-1))),.row 46 1 Z9 (d+1) TB ((fq rows)++[vS (sM fO) bs.length bs.length])]:=Vc.push;have v7:Mem ba w N3 [.fK 4 (rows++[⟨(sM fO),bs.length,bs.length,bD (List.replicate bs.length false)⟩]),.au b1 24 [nm,wk,pa,va,vS A bs.length c],.row 4 1 (sM g24) bs.length c5 (bD (fM bs (-1))),.row 46 1 Z9 (d+1) TB (fq (rows++[⟨(sM fO),bs.length,bs.length,bD (List.replicate bs.length false)⟩]))]:=s8.cast (by rw[uH]);intro aC fr;exact⟨bs.length-(d+1),oM,d+1,(rows++[⟨(sM fO),bs.length,bs.length,bD (List.replicate bs.length false)⟩]),Z9,TB,rfl,fr.kp [1,3,4,5],v7,oM,hf.next (xk pD (FF (by rw[←iY pD];exact call))) sI rfl⟩;have call:((fM bs (-1)).getD d false)=true:=JM.symm;refine fN<|aQ<|gu (aZ b1) [nm,wk,pa,va,vS A bs.length c] (aK (oJ.get 1 rfl))<|aj 1<|ej (vs:=#[(.agg #[nm,wk,pa,va,vS A bs.length c]),nV d]) (DA _ _ _ _ A c bs (d:Int) Dx hm (hA.at_ oJ)) ?_;rintro _ kP ⟨PO,LZ,rfl,RC⟩;have EO:=oJ.cl RC;refine aj 1<|aE<|bC<|cK 2 ?_;have hwd:fy bs (-1) (d:Int)=true:=by rw[←iY pD];exact call
 intro aC fr;refine gT (fun n_ a_ w_=>∃(b:Nat) (m:List Bool),n_=bs.length-b∧Fr a_ 54 [(1,pT b1 0),(3,vS (sM g24) bs.length c5),(4,vS A2 d c2),(5,nV d),(6,vS (sM fO) bs.length bs.length),(7,vS PO bs.length LZ),(8,nV b)]∧Mem ba w w_ [.fK 4 rows,.au b1 24 [nm,wk,pa,va,vS A bs.length c],.row 4 1 (sM g24) bs.length c5 (bD (fM bs (-1))),.row 46 1 A2 d c2 (fq rows),.row 4 1 (sM fO) bs.length bs.length (bD m),.row 4 1 PO bs.length LZ (bD (fM bs (d:Int)))]∧(b≤bs.length)∧(dR bs.length m (lY bs (d:Int) b))) (n:=_) ⟨0,List.replicate bs.length false,rfl,fr.kp [1,3,4,5,6,7,8],EO,oM,C3 bs _⟩ ?_;clear fr aC EO;rintro n aC Yw ⟨b,m,rfl,fr,sD,hb,dY⟩;revert aC;refine bx<|aQ<|aj 3<|gC (decide ((b:Int)<(bs.length:Int))) fun Bb Ve=> ?_
 refine aE ?_;cases Bb;have cb:¬((b:Int)<(bs.length:Int)):=Qe7 Ve.symm;refine fT<|gq 2<|gr<|dh<|aj 2 ?_;intro aC fr;refine rG 51 49 1 #[(0,.tmp 50)] 49 fr (e:=46) (size:=1) (zs:=[aq]) (vs:=[(0,vS (sM fO) bs.length bs.length)]) (cs:=[vS (sM fO) bs.length bs.length]) sD ?_;intro aH Xo Qaa _ L0 _ aC ea fr;clear ea;replace L0:=L0.nf;refine tT 52 (.tmp 49) (.tmp 51) 49 49 fr (e:=46) (size:=1) (bytes:=24) (z:=aq) (A:=A2) (B:=(sM aH)) (n:=d) (cap:=c2) (m:=1) (cap':=1) (xs:=(fq rows)) (news:=[vS (sM fO) bs.length bs.length]) L0 3 rfl (aB (L0.get 6 rfl)) rfl (by simp[Value.oneCell']) oM (by simp only[maxLen];omega) ?_;intro aL Yx Yy DE _ aC ea fr;clear ea;replace DE:=DE.nf;have tY:=DE.od [5,5,5,5,5,5] 6;revert aC;refine aj 1<|aE<|dh<|aj 1<|ep ((d:Int)+1)<|aj 1<|aE ?_;have DD:=tY.od [3,3,3,4,4] 5;have vY:Mem ba w Yy [.fK 4 (rows++[⟨(sM fO),bs.length,bs.length,bD m⟩]),.au b1 24 [nm,wk,pa,va,vS A bs.length c],.row 4 1 (sM g24) bs.length c5 (bD (fM bs (-1))),.row 46 1 aL (d+1) Yx ((fq rows)++[vS (sM fO) bs.length bs.length])]:=DD.push;have Ct:Mem ba w Yy [.fK 4 (rows++[⟨(sM fO),bs.length,bs.length,bD m⟩]),.au b1 24 [nm,wk,pa,va,vS A bs.length c],.row 4 1 (sM g24) bs.length c5 (bD (fM bs (-1))),.row 46 1 aL (d+1) Yx (fq (rows++[⟨(sM fO),bs.length,bs.length,bD m⟩]))]:=vY.cast (by rw[uH]);intro aC fr;exact⟨bs.length-(d+1),oM,d+1,(rows++[⟨(sM fO),bs.length,bs.length,bD m⟩]),aL,Yx,rfl,fr.kp [1,3,4,5],Ct,oM,hf.next (xk pD (FG dY oM)) (by simp[dY.1]) rfl⟩;have cb:(b:Int)<(bs.length:Int):=Qe4 Ve.symm;refine fN<|cg<|bx<|cK 3<|dh ?_;have Gs:b<bs.length:=oM;refine aj 4<|eZ (aZ g24) bs.length 1 (b:Int)<|bq (aN (aZ g24) (b:Int) 1) _ (bB (aB (sD.get 2 rfl)) rfl (jM (by rw[kO];omega))) ?_;obtain⟨UY,zj⟩:∃B,B=(fM bs (-1)).getD b false:=⟨_,rfl⟩;refine cH [(1,pT b1 0),(3,vS (sM g24) bs.length c5),(4,vS A2 d c2),(5,nV d),(6,vS (sM fO) bs.length bs.length),(7,vS PO bs.length LZ),(8,nV b),(35,vS (sM fO) bs.length bs.length),(36,nV b),(40,vB ((fM bs (-1)).getD b false))] ?_;rw[←zj];refine aj 1 ?_;cases UY;have Rp:((fM bs (-1)).getD b false)=false:=zj.symm;have Yz:fy bs (-1) (b:Int)=false:=by rw[←iY Gs];exact Rp
 refine aj 6<|eZ (aZ fO) bs.length 1 (b:Int)<|zJ sD 4 (aN (aZ fO) (b:Int) 1) (((b:Int)).toNat*1) (vB false) rfl rfl oM fun w73 L1=> ?_
 replace L1:=L1.nf;refine aE<|dh<|aj 1<|ep ((b:Int)+1)<|aj 1<|aE ?_;intro aC fr;exact⟨bs.length-(b+1),oM,b+1,m.set b false,rfl,fr.kp [1,3,4,5,6,7,8],(L1.cast (by rw[o7];simp only[Qfd,Qfp])),oM,xl dY Gs (Iy Yz)⟩;have Rp:((fM bs (-1)).getD b false)=true:=zj.symm;have Yz:fy bs (-1) (b:Int)=true:=by rw[←iY Gs];exact Rp
 refine aj 2 ?_;obtain⟨lT,rfl⟩:=cW (sD.get 5 rfl) oM;refine eZ (aZ lT) bs.length 1 (b:Int)<|bq (aN (aZ lT) (b:Int) 1) _ (bB (aB (sD.get 5 rfl)) rfl (jM (by rw[kO];omega)))<|aj 2<|eZ (aZ fO) bs.length 1 (b:Int)<|zJ sD 4 (aN (aZ fO) (b:Int) 1) (((b:Int)).toNat*1) (vB (!(fM bs (d:Int)).getD b false)) rfl rfl oM fun w79 RD=> ?_
 replace RD:=RD.nf;refine aE<|dh<|aj 1<|ep ((b:Int)+1)<|aj 1<|aE ?_;intro aC fr;exact⟨bs.length-(b+1),oM,b+1,m.set b (!((fM bs (d:Int)).getD b false)),rfl,fr.kp [1,3,4,5,6,7,8],(RD.cast (by rw[o7];simp only[Qfd,Qfp])),oM,xl dY Gs ((QeZ _ (iY Gs)).trans (Ix hwd Yz))⟩
end Go.Proofs.Ytejbeeaomokjpaa
namespace Go.Proofs.Ytejbeeaomokjpaa
open Go.Mor
theorem JN(nm wk pa va:Value)(A:aX)(c:Nat)(bs:List SB)(w:World)(hm:bs.length≤1000000)(hA:RO ba w (.blocks A bs)):Calls Try.prog 78 #[(.agg #[nm,wk,pa,va,vS A bs.length c])] w (fE fun v w'=>∃A' c' rows,v=vS A' bs.length c'∧et vI rows (uY bs)∧Mem ba w w' [.fK 3 rows,.row 37 1 A' bs.length c' (fq rows)]):=by
 refine hZ 38 [(.agg #[nm,wk,pa,va,vS A bs.length c])] Try.func78 ?_;have hM:=Mem.init w;refine aQ<|nJ hM 24 (.agg #[nm,wk,pa,va,vS A bs.length c]) [nm,wk,pa,va,vS A bs.length c] fun b1 w2 kH M3=> ?_
 replace M3:=M3.nf;clear hM;refine aj 1<|aE<|aQ<|aj 1<|bq (ak b1 4) _ (ae (M3.get 0 rfl) rfl)<|aj 1 ?_;intro aC fr;refine I9 10 57 (.tmp 9) (.tmp 9) 57 fr (e:=37) (bytes:=24) (z:=aq) (n:=bs.length) (i:=(bs.length:Int)) oM (by simp only[maxLen];omega) M3 ?_;intro b4 w5 LW _ M6 _ aC ea fr;clear ea;replace M6:=M6.nf;revert aC;refine aj 1<|aE<|bx<|aQ<|aj 1<|bq (ak b1 4) _ (ae (M6.get 0 rfl) rfl)<|aj 2<|aE<|cK 0 ?_;have rP:=M6.od [1,1] 2;have Vh:=IB bs;intro aC fr;refine gT (fun n_ a_ w_=>∃(i:Nat) (rows:List fJ),n_=bs.length-i∧Fr a_ 38 [(1,pT b1 0),(3,vS (sM b4) bs.length bs.length),(13,(vI (bs.length:Int))),(14,nV i)]∧Mem ba w w_ [.fK 3 rows,.au b1 24 [nm,wk,pa,va,vS A bs.length c],.row 37 1 (sM b4) bs.length bs.length (fq rows)]∧(i≤bs.length)∧(et vI rows (sS bs i))) (n:=_) ⟨0,List.replicate bs.length jx,rfl,fr.kp [1,3,13,14],(((rP.call (Mem.CM _ 3 bs.length)).front 2 rfl).cast (by simp[fq,jx])),oM,by rw[FI];exact et.Us _⟩ ?_;clear fr aC rP;rintro n aC Ys ⟨i,rows,rfl,fr,q5,hi,hf⟩;revert aC;refine aQ<|gC (decide ((i:Int)<(bs.length:Int))) fun Bi Vi=> ?_
 refine aE<|bx ?_;cases Bi;have ci:¬((i:Int)<(bs.length:Int)):=Qe7 Vi.symm;refine fT<|gq 0<|gr<|bC<|an<|cQ (vS (sM b4) bs.length bs.length) ?_;obtain rfl:i=bs.length:=oM;rw[MX]at hf;have nz:=q5.od [2,1] 2;exact⟨_,_,rows,rfl,hf,nz⟩;have ci:(i:Int)<(bs.length:Int):=Qe4 Vi.symm;refine fN<|cg<|bx<|cK 1<|bC<|aQ<|gu (aZ b1) [nm,wk,pa,va,vS A bs.length c] (aK (q5.get 1 rfl))<|aj 1<|ej (vs:=#[(.agg #[nm,wk,pa,va,vS A bs.length c]),nV i]) (xU _ _ _ _ A c bs (i:Int) Ys hm (hA.at_ q5)) ?_;rintro _ Vj ⟨lU,zO,rfl,Qab⟩;have oJ:=q5.cl Qab;refine aj 2<|aE<|cK 2 ?_;have x9:=oe bs (i:Int);intro aC fr;refine gT (fun n_ a_ w_=>∃(k:Nat) (mC:List fJ),n_=(tg bs (i:Int)).length-k∧Fr a_ 38 [(1,pT b1 0),(3,vS (sM b4) bs.length bs.length),(4,nV i),(13,(vI (bs.length:Int))),(14,nV i),(19,(vS lU ((tg bs (i:Int)).length) zO)),(20,(vI ((tg bs (i:Int)).length:Int))),(21,nV k)]∧Mem ba w w_ [.fK 3 mC,.au b1 24 [nm,wk,pa,va,vS A bs.length c],.row 37 1 (sM b4) bs.length bs.length (fq mC),.row 3 1 lU ((tg bs (i:Int)).length) zO (ints (tg bs (i:Int)))]∧(k≤(tg bs (i:Int)).length)∧(et vI mC (km bs i k))) (n:=_) ⟨0,rows,rfl,fr.kp [1,3,4,13,14,19,20,21],oJ,oM,by rw[MW];exact hf⟩ ?_;clear fr aC oJ;rintro n aC TC ⟨k,mC,rfl,fr,fk,hk,aM⟩;revert aC;refine aQ<|gC (decide ((k:Int)<((tg bs (i:Int)).length:Int))) fun Bk JL=> ?_
 refine aE<|bx ?_;cases Bk;have ck:¬((k:Int)<((tg bs (i:Int)).length:Int)):=Qe7 JL.symm;refine fT<|gq 2<|gr<|dh<|ep ((i:Int)+1)<|aj 1<|aE ?_;intro aC fr;exact⟨bs.length-(i+1),oM,i+1,mC,rfl,fr.kp [1,3,13,14],(fk.pick [true,true,true,false] rfl),oM,by rw[←IA (k:=k) oM];exact aM⟩;have ck:(k:Int)<((tg bs (i:Int)).length:Int):=Qe4 JL.symm;refine fN<|cg<|bx<|cK 3<|aQ ?_;obtain⟨ti,Dz,Gq⟩:=Ir (bs:=bs) (b:=(i:Int)) (k:=k) oM;obtain⟨At,ct,TD⟩:=aM.get (MY Dz Gq);have Tx:=fZ bs (ti:Int) i;obtain⟨Vk,rfl⟩:=cW (fk.get 3 rfl) oM;refine eZ (aZ Vk) ((tg bs (i:Int)).length) 1 (k:Int)<|bq (aN (aZ Vk) (k:Int) 1) _ (fR (aB (fk.get 3 rfl)) rfl Dz)<|aj 1<|aE<|dh<|aj 4<|eZ (aZ b4) bs.length 1 (ti:Int)<|bq (aN (aZ b4) (ti:Int) 1) _ (bB (aB (fk.get 2 rfl)) rfl (ia TD)) ?_;have v8:Mem ba w TC [.fK 3 (mC.set ti jx),.row 3 1 At ((dW bs (ti:Int) i).length) ct (ints (dW bs (ti:Int) i)),.au b1 24 [nm,wk,pa,va,vS A bs.length c],.row 37 1 (sM b4) bs.length bs.length (fq mC),.row 3 1 (sM Vk) ((tg bs (i:Int)).length) zO (ints (tg bs (i:Int)))]:=fk.focus ti TD;refine aj 1 ?_;intro aC fr;refine rG 32 37 1 #[(0,.tmp 31)] 37 fr (e:=3) (size:=1) (zs:=[vI 0]) (vs:=[(0,nV i)]) (cs:=[nV i]) v8 ?_;intro UL YA Qev _ pU _ aC ea fr;clear ea;replace pU:=pU.nf;refine tT 33 (.tmp 30) (.tmp 32) 37 37 fr (e:=3) (size:=1) (bytes:=8) (z:=(vI 0)) (A:=At) (B:=(sM UL)) (n:=((dW bs (ti:Int) i).length)) (cap:=ct) (m:=1) (cap':=1) (xs:=(ints (dW bs (ti:Int) i))) (news:=[nV i]) pU 1 rfl (aB (pU.get 5 rfl)) rfl (by simp[Value.oneCell']) oM (by simp only[maxLen];omega) ?_;intro TE JO kF JK _ aC ea fr;clear ea;replace JK:=JK.nf;have EO:=JK.od [4,4,4,4,4] 5;revert aC;refine eZ (aZ b4) bs.length 1 (ti:Int)<|zJ EO 3 (aN (aZ b4) (ti:Int) 1) (((ti:Int)).toNat*1) (vS TE (((dW bs (ti:Int) i).length)+1) JO) rfl rfl oM fun TF oI=> ?_
 replace oI:=oI.nf;refine aE<|dh ?_;have ES:=oI.od [4,4,4,4,4] 5;have BS:ti<mC.length:=(List.getElem?_eq_some_iff.1 TD).1;have sD:Mem ba w TF [.fK 3 ((mC.set ti jx).set ti ⟨TE,((dW bs (ti:Int) i).length)+1,JO,(ints (dW bs (ti:Int) i))++[nV i]⟩),.au b1 24 [nm,wk,pa,va,vS A bs.length c],.row 37 1 (sM b4) bs.length bs.length ((fq mC).set (((ti:Int)).toNat*1) (vS TE (((dW bs (ti:Int) i).length)+1) JO)),.row 3 1 (sM Vk) ((tg bs (i:Int)).length) zO (ints (tg bs (i:Int)))]:=ES.Eg ti (List.getElem?_set_self BS);have DC:Mem ba w TF [.fK 3 (mC.set ti ⟨TE,((dW bs (ti:Int) i).length)+1,JO,(ints (dW bs (ti:Int) i))++[nV i]⟩),.au b1 24 [nm,wk,pa,va,vS A bs.length c],.row 37 1 (sM b4) bs.length bs.length (fq (mC.set ti ⟨TE,((dW bs (ti:Int) i).length)+1,JO,(ints (dW bs (ti:Int) i))++[nV i]⟩)),.row 3 1 (sM Vk) ((tg bs (i:Int)).length) zO (ints (tg bs (i:Int)))]:=sD.cast (by rw[xm,Ef];simp only[Qfd,Qfp]);refine ep ((k:Int)+1)<|aj 1<|aE ?_;intro aC fr;exact⟨(tg bs (i:Int)).length-(k+1),oM,k+1,(mC.set ti ⟨TE,((dW bs (ti:Int) i).length)+1,JO,(ints (dW bs (ti:Int) i))++[nV i]⟩),rfl,fr.kp [1,3,4,13,14,19,20,21],DC,oM,by rw[←MZ Dz Gq];exact aM.set sI (by rw[Qfq];rfl)⟩
end Go.Proofs.Ytejbeeaomokjpaa
namespace Go.Proofs.Ytejbeeaomokjpaa
open Go.Mor
theorem JP(g5 g6:Nat)(zP JQ:Addr)(n ca cb:Nat)(LN ab:ar)(T:Int→ar)(pl up:Int→Int)(xa xb:Int)(w:World)(jH:n≤1000000)(h5:RO ba w (.au g5 37 [.slice (some zP) n ca]))(h6:RO ba w (.au g6 37 [.slice (some JQ) n cb]))(hA:RO ba w (.rd (some zP) (ints LN)))(hB:RO ba w (.rd (some JQ) (ints ab)))(k9:Nb T pl up n LN ab)(hxa:jz pl up xa)(Ux:jz pl up xb):Calls Try.prog 131 #[vI xa,vI xb,pT g5 0,pT g6 0] w (fE fun v w'=>∃c:Int,v=vI c∧dw pl up xa xb c∧Mem ba w w' []):=by
 refine hZ 37 [vI xa,vI xb,pT g5 0,pT g6 0] Try.func131 ?_;have hM:=Mem.init w;refine bC<|bx<|cK 0 ?_;intro aC fr;refine gT (fun n_ a_ w_=>∃(a1:Int) (b1:Int),n_=(pl a1+pl b1).toNat∧Fr a_ 37 [(0,vI a1),(1,vI b1),(2,pT g5 0),(3,pT g6 0)]∧Mem ba w w_ []∧(jz pl up a1)∧(jz pl up b1)∧(∀c,dw pl up a1 b1 c→dw pl up xa xb c)) (n:=_) ⟨xa,xb,rfl,fr.kp [0,1,2,3],hM,hxa,Ux,fun _ h=>h⟩ ?_;clear fr aC hM;rintro n aC w3 ⟨a1,b1,rfl,fr,M4,L2,kH,QT⟩;revert aC;refine bx<|aQ<|aj 2<|gC (a1 !=b1) fun Bne Vl=> ?_
 refine aE ?_;cases Bne;have lV:¬(a1≠b1):=Q9 Vl;refine fT<|gq 0<|gr<|bC<|an<|cQ (vI a1) ?_;obtain rfl:a1=b1:=oM;exact⟨_,rfl,QT _ (.done _),M4⟩;have lV:a1≠b1:=QeY.1 Vl.symm;refine fN<|cg<|cK 1<|bx<|cK 2 ?_;intro aC fr;refine gT (fun n_ a_ w_=>∃(a2:Int),n_=(pl a2).toNat∧Fr a_ 37 [(0,vI a2),(1,vI b1),(2,pT g5 0),(3,pT g6 0)]∧Mem ba w w_ []∧(jz pl up a2)∧(∀c,dw pl up a2 b1 c→dw pl up a1 b1 c)∧(a2=a1∨pl a2<pl a1)) (n:=_) ⟨a1,rfl,fr.kp [0,1,2,3],M4,L2,fun _ h=>h,.inl rfl⟩ ?_;clear fr aC M4;rintro n aC w9 ⟨a2,rfl,fr,mc,yX,lW,Vm⟩;revert aC;refine bx<|bx ?_;obtain⟨aP,RE⟩:∃B:Bool,B=decide ((pl a2)>(pl b1)):=⟨_,rfl⟩;refine dX [0,1,2,3] ?_;intro aC fr;refine qy (bL [eS (some zP) n ca,eI a2,eA zP (a2) 1,eI (pl a2),eS (some zP) n ca,eI b1,eA zP (b1) 1,eI (pl b1),eB aP]) fr (la (tZ lz (dL (aZ g5) _ fun w_ hK=>(ae ((mc.aD hK).ro h5) rfl)) dP (dI (h0:=(k9.yW a2 yX.1).1) (h1:=(k9.yW a2 yX.1).2) zP n 1 a2) (dL (aN zP (a2) 1) _ fun w_ hK=>(bB ((mc.aD hK).ro hA) rfl (k9.Ya yX))) (dL (aZ g5) _ fun w_ hK=>(ae ((mc.aD hK).ro h5) rfl)) dP (dI (h0:=(k9.yW b1 kH.1).1) (h1:=(k9.yW b1 kH.1).2) zP n 1 b1) (dL (aN zP (b1) 1) _ fun w_ hK=>(bB ((mc.aD hK).ro hA) rfl (k9.Ya kH)))) (dC (decide ((pl a2)>(pl b1))) RE)) ?_;intro aC Vn vs hK hv fr;revert aC;refine cH [(0,vI a2),(1,vI b1),(2,pT g5 0),(3,pT g6 0),(18,vB aP)] ?_;have nz:=mc.aD hK;clear hK hv fr aC mc;clear vs;cases aP;have YB:¬((pl a2)>(pl b1)):=Qe7 RE.symm;refine fT<|gq 2<|gr<|cK 4 ?_;intro aC fr;refine gT (fun n_ a_ w_=>∃(b2:Int),n_=(pl b2).toNat∧Fr a_ 37 [(0,vI a2),(1,vI b2),(2,pT g5 0),(3,pT g6 0)]∧Mem ba w w_ []∧(jz pl up b2)∧(∀c,dw pl up a2 b2 c→dw pl up a2 b1 c)∧(b2=b1∨pl b2<pl b1)) (n:=_) ⟨b1,rfl,fr.kp [0,1,2,3],nz,kH,fun _ h=>h,.inl rfl⟩ ?_;clear fr aC nz;rintro n aC Vj ⟨b2,rfl,fr,oJ,tP,mJ,Vo⟩;revert aC;refine bx<|bx ?_;obtain⟨aV,RF⟩:∃B:Bool,B=decide ((pl b2)>(pl a2)):=⟨_,rfl⟩;refine dX [0,1,2,3] ?_;intro aC fr;refine qy (bL [eS (some zP) n ca,eI b2,eA zP (b2) 1,eI (pl b2),eS (some zP) n ca,eI a2,eA zP (a2) 1,eI (pl a2),eB aV]) fr (la (tZ lz (dL (aZ g5) _ fun w_ hK=>(ae ((oJ.aD hK).ro h5) rfl)) dP (dI (h0:=(k9.yW b2 tP.1).1) (h1:=(k9.yW b2 tP.1).2) zP n 1 b2) (dL (aN zP (b2) 1) _ fun w_ hK=>(bB ((oJ.aD hK).ro hA) rfl (k9.Ya tP))) (dL (aZ g5) _ fun w_ hK=>(ae ((oJ.aD hK).ro h5) rfl)) dP (dI (h0:=(k9.yW a2 yX.1).1) (h1:=(k9.yW a2 yX.1).2) zP n 1 a2) (dL (aN zP (a2) 1) _ fun w_ hK=>(bB ((oJ.aD hK).ro hA) rfl (k9.Ya yX)))) (dC (decide ((pl b2)>(pl a2))) RF)) ?_;intro aC UM vs hK hv fr;revert aC;refine cH [(0,vI a2),(1,vI b2),(2,pT g5 0),(3,pT g6 0),(31,vB aV)] ?_;have zN:=oJ.aD hK;clear hK hv fr aC oJ;clear vs;cases aV;have YC:¬((pl b2)>(pl a2)):=Qe7 RF.symm;refine fT<|gq 4<|gr ?_;intro aC fr;exact⟨(pl a2+pl b2).toNat,IL k9 L2 yX tP lV Vm Vo YB YC,a2,b2,rfl,fr.kp [0,1,2,3],zN,yX,tP,fun c h=>QT c (lW c (mJ c h))⟩;have YC:(pl b2)>(pl a2):=Qe4 RF.symm;refine fN<|cg<|cK 5<|dh<|bq (aZ g6) _ (ae (zN.ro h6) rfl)<|aj 1<|eZ (h0:=(k9.yW b2 tP.1).1) (h1:=(k9.yW b2 tP.1).2) JQ n 1 b2<|bq (aN JQ (b2) 1) _ (bB (zN.ro hB) rfl (k9.fX tP))<|aj 1<|aE ?_;have cU:=k9.fY yX YC;obtain⟨nR,xo⟩:=k9.ok.low b2 tP cU;have Va:=nR.1;intro aC fr;exact⟨(pl (up b2)).toNat,oM,up b2,rfl,fr.kp [0,1,2,3],zN,nR,fun c h=>mJ c (.right YC h),.inr (by rcases Vo with Vo|Vo<;>(try subst Vo)<;>omega)⟩;have YB:(pl a2)>(pl b1):=Qe4 RE.symm;refine fN<|cg<|cK 3<|dh<|bq (aZ g6) _ (ae (nz.ro h6) rfl)<|aj 1<|eZ (h0:=(k9.yW a2 yX.1).1) (h1:=(k9.yW a2 yX.1).2) JQ n 1 a2<|bq (aN JQ (a2) 1) _ (bB (nz.ro hB) rfl (k9.fX yX))<|aj 1<|aE ?_;have cU:=k9.fY kH YB;obtain⟨nR,xo⟩:=k9.ok.low a2 yX cU;have Va:=nR.1;intro aC fr;exact⟨(pl (up a2)).toNat,oM,up a2,rfl,fr.kp [0,1,2,3],nz,nR,fun c h=>lW c (.left YB h),.inr (by rcases Vm with Vm|Vm<;>(try subst Vm)<;>omega)⟩
end Go.Proofs.Ytejbeeaomokjpaa
namespace Go.Proofs.Ytejbeeaomokjpaa
open Go.Mor
theorem RG(nm wk pa va:Value)(A:aX)(c:Nat)(bs:List SB)(w:World)(hm:bs.length≤1000000)(hA:RO ba w (.blocks A bs)):Calls Try.prog 118 #[(.agg #[nm,wk,pa,va,vS A bs.length c])] w (fE fun v w'=>∃A1 c1 A2 c2,v= .tuple #[.slice A1 bs.length c1,.slice A2 bs.length c2]∧PB bs∧Mem ba w w' [.row 3 1 A1 bs.length c1 (ints (eK bs)),.row 3 1 A2 bs.length c2 (ints (sh bs))]):=by
 refine hZ 112 [(.agg #[nm,wk,pa,va,vS A bs.length c])] Try.func118 ?_;have hM:=Mem.init w;refine aQ<|nJ hM 24 (.agg #[nm,wk,pa,va,vS A bs.length c]) [nm,wk,pa,va,vS A bs.length c] fun b1 w2 kH M3=> ?_
 replace M3:=M3.nf;clear hM;refine aj 2<|aE<|aQ<|gu (aZ b1) [nm,wk,pa,va,vS A bs.length c] (aK (M3.get 0 rfl))<|ej (vs:=#[(.agg #[nm,wk,pa,va,vS A bs.length c])]) (zk _ _ _ _ A c bs w2 hm (hA.at_ M3)) ?_;rintro _ w6 ⟨A4,c5,rfl,Z6⟩;have M7:=M3.cl Z6;refine aj 1<|aE<|aQ<|aj 1<|bq (ak b1 4) _ (ae (M7.get 0 rfl) rfl)<|aj 1 ?_;intro aC fr;refine I9 23 37 (.tmp 22) (.tmp 22) 37 fr (e:=3) (bytes:=8) (z:=(vI 0)) (n:=bs.length) (i:=(bs.length:Int)) oM (by simp only[maxLen];omega) M7 ?_;intro b8 w9 hb8 _ mc _ aC ea fr;clear ea;replace mc:=mc.nf;revert aC;refine mZ mc 37 [aq] fun fO Dx Rt kI=> ?_
 replace kI:=kI.nf;refine wq kI 3 0 (vS (sM b8) bs.length bs.length) rfl fun NS lu=> ?_
 replace lu:=lu.nf;refine aE<|aQ<|aj 1<|bq (ak b1 4) _ (ae (lu.get 0 rfl) rfl)<|aj 1 ?_;intro aC fr;refine I9 27 37 (.tmp 26) (.tmp 26) 37 fr (e:=3) (bytes:=8) (z:=(vI 0)) (n:=bs.length) (i:=(bs.length:Int)) oM (by simp only[maxLen];omega) lu ?_;intro gG Vj Qac _ oJ _ aC ea fr;clear ea;replace oJ:=oJ.nf;revert aC;refine mZ oJ 37 [aq] fun ua NX Qew kr=> ?_
 replace kr:=kr.nf;refine dX [1,4,5,6,27]<|wq kr 5 0 (vS (sM gG) bs.length bs.length) rfl fun bd xW=> ?_
 replace xW:=xW.nf;refine aE<|bx<|aQ<|bq (aZ fO) _ (ae (xW.get 3 rfl) rfl)<|aj 2<|aE<|cK 0 ?_;intro aC fr;refine gT (fun n_ a_ w_=>∃(i:Nat) (m1:ar) (m2:ar),n_=bs.length-i∧Fr a_ 112 [(1,pT b1 0),(4,vS A4 ((aF bs).length) c5),(5,pT fO 0),(6,pT ua 0),(29,(vI (bs.length:Int))),(30,nV i)]∧Mem ba w w_ [.au b1 24 [nm,wk,pa,va,vS A bs.length c],.row 3 1 A4 ((aF bs).length) c5 (ints (aF bs)),.row 3 1 (sM b8) bs.length bs.length (ints m1),.au fO 37 [vS (sM b8) bs.length bs.length],.row 3 1 (sM gG) bs.length bs.length (ints m2),.au ua 37 [vS (sM gG) bs.length bs.length]]∧(i≤bs.length)∧(bQ bs.length m1 (pM i))∧(bQ bs.length m2 (pM i))) (n:=_) ⟨0,List.replicate bs.length 0,List.replicate bs.length 0,rfl,fr.kp [1,4,5,6,29,30],(xW.cast (by simp[ints])),oM,uZ _,uZ _⟩ ?_;clear fr aC xW;rintro n aC N3 ⟨i,m1,m2,rfl,fr,ll,hi,h1,h2⟩;revert aC;refine aQ<|gC (decide ((i:Int)<(bs.length:Int))) fun Bi Vi=> ?_
 refine aE<|bx ?_;cases Bi;have ci:¬((i:Int)<(bs.length:Int)):=Qe7 Vi.symm;refine fT<|gq 0<|gr<|bx<|bC<|cK 2 ?_;have Vb:=iP bs;intro aC fr;refine gT (fun n_ a_ w_=>∃(k:Nat) (m3:ar),n_=(aF bs).length-k∧Fr a_ 112 [(1,pT b1 0),(4,vS A4 ((aF bs).length) c5),(5,pT fO 0),(6,pT ua 0),(40,vS A4 ((aF bs).length) c5),(41,(vI ((aF bs).length:Int))),(42,nV k)]∧Mem ba w w_ [.au b1 24 [nm,wk,pa,va,vS A bs.length c],.row 3 1 A4 ((aF bs).length) c5 (ints (aF bs)),.row 3 1 (sM b8) bs.length bs.length (ints m3),.au fO 37 [vS (sM b8) bs.length bs.length],.row 3 1 (sM gG) bs.length bs.length (ints m2),.au ua 37 [vS (sM gG) bs.length bs.length]]∧(k≤(aF bs).length)∧(bQ bs.length m3 (NF ((aF bs).take k)))) (n:=_) ⟨0,m1,rfl,fr.kp [1,4,5,6,40,41,42],ll,oM,yZ bs (AL h1 oM)⟩ ?_;clear fr aC ll;rintro n aC mM ⟨k,m3,rfl,fr,v7,hk,h3⟩;revert aC;refine aQ<|gC (decide ((k:Int)<((aF bs).length:Int))) fun Bk JL=> ?_
 refine aE<|bx ?_;cases Bk;have ck:¬((k:Int)<((aF bs).length:Int)):=Qe7 JL.symm;refine fT<|gq 2<|gr<|aQ ?_;have LM:=C8 h3 oM;have Qad:=AL h2 oM;refine gu (aZ b1) [nm,wk,pa,va,vS A bs.length c] (aK (v7.get 0 rfl))<|ej (vs:=#[(.agg #[nm,wk,pa,va,vS A bs.length c])]) (JN _ _ _ _ A c bs mM hm (hA.at_ v7)) ?_;rintro _ Vf ⟨PO,LZ,sE,rfl,JR,Qae⟩;have ER:=v7.cl Qae;refine aj 1<|aE<|bC<|bx<|bC<|cK 4 ?_;intro aC fr;refine gT (fun n_ a_ w_=>∃(k:Nat) (ab:ar) (up:Int→Int) (Bt:Bool),n_=bs.length+3-k∧Fr a_ 112 [(4,vS A4 ((aF bs).length) c5),(5,pT fO 0),(6,pT ua 0),(10,vS PO bs.length LZ),(11,(.func (.func 131) #[] #[pT fO 0,pT ua 0])),(12,vB Bt)]∧Mem ba w w_ [.au b1 24 [nm,wk,pa,va,vS A bs.length c],.row 3 1 A4 ((aF bs).length) c5 (ints (aF bs)),.row 3 1 (sM b8) bs.length bs.length (ints m3),.au fO 37 [vS (sM b8) bs.length bs.length],.row 3 1 (sM gG) bs.length bs.length (ints ab),.au ua 37 [vS (sM gG) bs.length bs.length],.fK 3 sE,.row 37 1 PO bs.length LZ (fq sE)]∧(bQ bs.length ab up)∧(0<bs.length→yU (tg bs) (iq bs) up k 0)∧(Bt=false→1≤k∧∃j,FK (tg bs) (iq bs) up j∧∀x,iq bs x≤j)∧(Bt=true→k≤bs.length+2)) (n:=_) ⟨0,m2,fun _=> -1,true,rfl,fr.kp [4,5,6,10,11,12],ER,Qad,fun h=>yU.start (ir h),fun h=>Bool.noConfusion h,fun _=>oM⟩ ?_;clear fr aC ER;rintro n aC lF ⟨k,ab,up,Bt,rfl,fr,DC,RH,PQ,Qaf,Qag⟩;revert aC;refine bx<|bC ?_;cases Bt;refine fT<|gq 4<|gr<|bx ?_;obtain⟨mN,jj,mT,N9⟩:=Qaf rfl;have wy:=Q3 PQ mN mT N9 RH;obtain rfl:=IQ PQ mN mT N9 RH;obtain rfl:=LM.ext (IJ bs);refine dX [4,5,6,10,11,55] ?_;intro aC fr;refine qy (bL [eS (sM gG) bs.length bs.length,eS (sM b8) bs.length bs.length,eS (sM gG) bs.length bs.length,eS (sM b8) bs.length bs.length]) fr (la (pw lz (dL (aZ ua) _ fun w_ hK=>(ae ((DC.aD hK).get 5 rfl) rfl)) (dL (aZ fO) _ fun w_ hK=>(ae ((DC.aD hK).get 3 rfl) rfl)) dP) dP) ?_;intro aC Yv vs hK hv fr;revert aC;refine cH [(2,vS (sM gG) bs.length bs.length),(3,vS (sM b8) bs.length bs.length)] ?_;have BR:=DC.aD hK;clear hK hv fr aC DC;clear vs;refine an<|su (vS (sM gG) bs.length bs.length) (vS (sM b8) bs.length bs.length) ?_;have TG:=BR.od [2,4] 2;exact⟨_,_,_,_,rfl,wy,TG⟩;refine fN<|cg<|cK 5<|bC<|aQ<|aj 3 ?_;intro aC fr;obtain⟨m0,Zf⟩:∃m0:Nat,m0=min 1 (aF bs).length:=⟨_,rfl⟩;refine Ai (kR:ao _ 3=some (some 59,(.call {callee:=(.builtin .min),args:=#[.const (vI 1),.tmp 58],argTypes:=#[3,3]}),3,none)) fr kR kR (k':=4) rfl (kd:= .i64) (i:=1) (j:=((aF bs).length:Int)) kR kR (m0:Int) (by split<;>omega) ?_;intro aC ea fr;clear ea;refine ky (kR:ao _ 4=some (some 60,.slice 37 (.tmp 56) (some (.tmp 59)) none none,37,none)) fr kR kR (k':=5) rfl (A:=A4) (n:=(aF bs).length) (cap:=c5) (e:=3) (size:=1) (kd:= .i64) (i:=(m0:Int)) m0 kR kR rfl kR kR oM ?_;intro aC ea fr;clear ea;obtain⟨YD,Vp⟩:∃YD,YD=(if c5=m0 then A4 else A4.map (fun y=>y.add (m0*1))):=⟨_,rfl⟩;revert aC;refine dX [4,5,6,10,11,12,60] ?_;intro aC fr;rw[←Vp]at fr;revert aC;refine aj 2<|aE<|cK 6 ?_;intro aC fr;refine gT (fun n_ a_ w_=>∃(j:Nat) (L3:ar) (vw:Int→Int) (RI:Bool),n_=(aF bs).length-m0-j∧Fr a_ 112 [(4,vS A4 ((aF bs).length) c5),(5,pT fO 0),(6,pT ua 0),(10,vS PO bs.length LZ),(11,(.func (.func 131) #[] #[pT fO 0,pT ua 0])),(12,vB RI),(60,vS YD ((aF bs).length-m0) (c5-m0)),(61,(vI ((((aF bs).length-m0):Nat):Int))),(62,nV j)]∧Mem ba w w_ [.au b1 24 [nm,wk,pa,va,vS A bs.length c],.row 3 1 A4 ((aF bs).length) c5 (ints (aF bs)),.row 3 1 (sM b8) bs.length bs.length (ints m3),.au fO 37 [vS (sM b8) bs.length bs.length],.row 3 1 (sM gG) bs.length bs.length (ints L3),.au ua 37 [vS (sM gG) bs.length bs.length],.fK 3 sE,.row 37 1 PO bs.length LZ (fq sE)]∧(j≤(aF bs).length-m0)∧(bQ bs.length L3 vw)∧(0<bs.length→yU (tg bs) (iq bs) vw k (j:Int))∧(RI=false→FK (tg bs) (iq bs) vw (j:Int))∧(bs.length+2≤k→RI=false)) (n:=_) ⟨0,ab,up,false,rfl,fr.kp [4,5,6,10,11,12,60,61,62],DC,oM,RH,PQ,fun _=>FK.start,fun _=>rfl⟩ ?_;clear fr aC DC;rintro n aC Z2 ⟨j,L3,vw,RI,rfl,fr,Cw,hj,xX,vi,qZ,YE⟩;revert aC;refine aQ<|gC (decide ((j:Int)<((((aF bs).length-m0):Nat):Int))) fun Bj mU=> ?_
 refine aE<|bx ?_;cases Bj;have cj:¬((j:Int)<((((aF bs).length-m0):Nat):Int)):=Qe7 mU.symm;refine fT<|gq 6<|gr ?_;intro aC fr;exact⟨bs.length+3-(k+1),by have:=Qag rfl;omega,k+1,L3,vw,RI,rfl,fr.kp [4,5,6,10,11,12],Cw,xX,fun h=>(vi h).Zx (ir h) (fun x=>by have:=IP bs x;omega),fun h=>⟨oM,_,qZ h,fun x=>by have:=IP bs x;omega⟩,fun h=>IT YE h⟩;have cj:(j:Int)<((((aF bs).length-m0):Nat):Int):=Qe4 mU.symm;refine fN<|cg<|bx<|cK 7<|aQ ?_;obtain⟨go,rfl⟩:=cW (Cw.get 1 rfl) oM;have hco:=p7 (Cw.get 1 rfl);obtain rfl:YD=some ((aZ go).add (1*1)):=by rw[Vp,QeW oM,show m0=1 by omega];rfl
 obtain⟨bi,hbj,Gs,Vq⟩:=IM (bs:=bs) (j:=j) oM;have Pz:0<bs.length:=oM;have hP:=ir Pz;have Gt:=vi Pz;have vX:(bi:Int)≠0:=by intro e;rw[e,hP.zero]at Vq;omega
 have bh:∀x,0≤iq bs x→0≤x:=fun x hx=>(jX Pz hx).1
 obtain⟨Ab,cb,Ex⟩:=JR.get (ru Gs);have Tx:(bS bs (bi:Int)).length≤bs.length:=fZ bs _ _;have k9:Nb (tg bs) (iq bs) vw bs.length m3 L3:=⟨hP,Gt.ok,fun x hx=>jX Pz hx,LM,xX⟩;refine eZ ((aZ go).add (1*1)) ((aF bs).length-m0) 1 (j:Int)<|bq ((((aZ go).add (1*1)):Addr).add (((j:Int)).toNat*1)) _ (fR (Nc (aB (Cw.get 1 rfl))) rfl hbj)<|aj 1<|aE<|bC<|bx<|aQ<|aj 2 ?_;obtain⟨YF,rfl⟩:=cW (Cw.get 7 rfl) oM;refine eZ (aZ YF) bs.length 1 (bi:Int)<|bq (aN (aZ YF) (bi:Int) 1) _ (bB (aB (Cw.get 7 rfl)) rfl (ia Ex))<|aj 2<|aE<|cK 8 ?_;intro aC fr;refine gT (fun n_ a_ w_=>∃(q:Nat) (to:Int),n_=(bS bs (bi:Int)).length-q∧Fr a_ 112 [(4,vS (sM go) ((aF bs).length) c5),(5,pT fO 0),(6,pT ua 0),(10,vS (sM YF) bs.length LZ),(11,(.func (.func 131) #[] #[pT fO 0,pT ua 0])),(12,vB RI),(14,nV bi),(15,vI to),(60,vS (some ((aZ go).add (1*1))) ((aF bs).length-m0) (c5-m0)),(61,(vI ((((aF bs).length-m0):Nat):Int))),(62,nV j),(69,(vS Ab ((bS bs (bi:Int)).length) cb)),(70,(vI ((bS bs (bi:Int)).length:Int))),(71,nV q)]∧Mem ba w w_ [.au b1 24 [nm,wk,pa,va,vS A bs.length c],.row 3 1 (sM go) ((aF bs).length) c5 (ints (aF bs)),.row 3 1 (sM b8) bs.length bs.length (ints m3),.au fO 37 [vS (sM b8) bs.length bs.length],.row 3 1 (sM gG) bs.length bs.length (ints L3),.au ua 37 [vS (sM gG) bs.length bs.length],.fK 3 sE,.row 37 1 (sM YF) bs.length LZ (fq sE)]∧(q≤(bS bs (bi:Int)).length)∧(Fold (tg bs) (iq bs) vw ((bS bs (bi:Int)).take q) to)) (n:=_) ⟨0,-1,rfl,fr.kp [4,5,6,10,11,12,14,15,60,61,62,69,70,71],Cw,oM,Fold.start⟩ ?_;clear fr aC Cw;rintro n aC YG ⟨q,to,rfl,fr,nx,hq,zl⟩;revert aC;refine aQ<|gC (decide ((q:Int)<((bS bs (bi:Int)).length:Int))) fun Bq mV=> ?_
 refine aE<|bx ?_;cases Bq;have cq:¬((q:Int)<((bS bs (bi:Int)).length:Int)):=Qe7 mV.symm;refine fT<|gq 8<|gr<|aQ ?_;rw[Qfg oM]at zl;obtain⟨k1,k2,k3,k4,k5,k6⟩:=Gt.step hP bh oM Vq (Nd Pz) zl;refine bq (aZ ua) _ (ae (nx.get 5 rfl) rfl)<|aj 1<|eZ (aZ gG) bs.length 1 (bi:Int)<|bq (aN (aZ gG) (bi:Int) 1) _ (bB (aB (nx.get 4 rfl)) rfl (xX.at_ oM oM))<|aj 1<|gC ((vw (bi:Int)) !=to) fun Bch Vr=> ?_
 refine aE ?_;cases Bch;have mY:¬((vw (bi:Int))≠to):=Q9 Vr;have k7:yU (tg bs) (iq bs) vw k ((j+1:Nat):Int):=by have:=k6;rw[show to=vw (bi:Int)by omega,IE]at this;exact this
 refine fT<|cg<|dh<|ep ((j:Int)+1)<|aj 1<|aE ?_;intro aC fr;exact⟨(aF bs).length-m0-(j+1),oM,j+1,L3,vw,RI,rfl,fr.kp [4,5,6,10,11,12,60,61,62],nx,oM,xX,fun _=>k7,fun h=>(qZ h).next hP Vq (Gt.keep Vq k1 oM k4),YE⟩;have mY:(vw (bi:Int))≠to:=QeY.1 Vr.symm;refine fN<|aQ<|bq (aZ ua) _ (ae (nx.get 5 rfl) rfl)<|aj 2<|eZ (aZ gG) bs.length 1 (bi:Int)<|zJ nx 4 (aN (aZ gG) (bi:Int) 1) (((bi:Int)).toNat*1) (vI to) rfl rfl oM fun I8 RJ=> ?_
 replace RJ:=RJ.nf;refine aE<|Ez<|dh<|ep ((j:Int)+1)<|aj 1<|aE ?_;intro aC fr;exact⟨(aF bs).length-m0-(j+1),oM,j+1,L3.set bi to,qn vw (bi:Int) to,true,rfl,fr.kp [4,5,6,10,11,12,60,61,62],(RJ.cast (by rw[ints_set];simp only[Qfd,Qfp])),oM,xX.set Gs sf (fun q _ cU=>lZ oM),fun _=>k6,fun h=>Bool.noConfusion h,fun h=>absurd (Gt.full hP (fun x hx=>mu Pz hx) h oM vX k2 k3 k4 k5) mY⟩;have cq:(q:Int)<((bS bs (bi:Int)).length:Int):=Qe4 mV.symm;refine fN<|cg<|bx<|cK 9<|aQ ?_;obtain⟨si,vW,na⟩:=tQ (bs:=bs) (b:=(bi:Int)) (q:=q) oM;obtain⟨Vs,rfl⟩:=rd_some (mX (nx.get 6 rfl) Ex) (by simp;omega);refine eZ Vs ((bS bs (bi:Int)).length) 1 (q:Int)<|bq (aN Vs (q:Int) 1) _ (fR (mX (nx.get 6 rfl) Ex) rfl vW)<|aj 1<|aE<|bx<|aQ<|bq (aZ fO) _ (ae (nx.get 3 rfl) rfl)<|aj 1<|eZ (aZ b8) bs.length 1 (si:Int)<|bq (aN (aZ b8) (si:Int) 1) _ (bB (aB (nx.get 2 rfl)) rfl (LM.at_ oM oM))<|gC (decide ((iq bs (si:Int))<0)) fun Bpl Vt=> ?_
 refine aj 1 ?_;cases Bpl;have cpl:¬((iq bs (si:Int))<0):=Qe7 Vt.symm;refine aj 1<|gC ((si:Int) !=0) fun Bs0 Vu=> ?_
 refine aj 1 ?_;cases Bs0;have nq:¬((si:Int)≠0):=Q9 Vu;have Hu:jz (iq bs) vw (si:Int):=⟨oM,.inl oM⟩;refine aj 7<|aE<|fT<|cg<|aQ<|aj 1<|gC (decide (to<0)) fun bG JS=> ?_
 refine dX [4,5,6,10,11,12,14,15,17,60,61,62,69,70,71,92]<|aE ?_;cases bG;have Vv:¬(to<0):=Qe7 JS.symm;refine fT<|dh<|aj 3<|ej (JP fO ua (aZ b8) (aZ gG) bs.length bs.length bs.length m3 L3 (tg bs) (iq bs) vw to (si:Int) YG hm (nx.dT 3 rfl) (nx.dT 5 rfl) (RO.aB (nx.dT 2 rfl)) (RO.aB (nx.dT 4 rfl)) k9 (zl.C4 oM) Hu) ?_;rintro _ YH ⟨cm,rfl,CD,Qah⟩;have JT:=nx.cl Qah;refine aj 1<|aE<|dh<|ep ((q:Int)+1)<|aj 1<|aE ?_;intro aC fr;exact⟨(bS bs (bi:Int)).length-(q+1),oM,q+1,cm,rfl,fr.kp [4,5,6,10,11,12,14,15,60,61,62,69,70,71],JT,oM,by rw[iu vW];exact zl.meet hP Gt.ok oM Hu CD⟩;have Vv:to<0:=Qe4 JS.symm;refine fN<|Ez<|dh<|ep ((q:Int)+1)<|aj 1<|aE ?_;intro aC fr;exact⟨(bS bs (bi:Int)).length-(q+1),oM,q+1,(si:Int),rfl,fr.kp [4,5,6,10,11,12,14,15,60,61,62,69,70,71],nx,oM,by rw[iu vW];exact zl.first Vv bh Hu⟩;have nq:(si:Int)≠0:=QeY.1 Vu.symm;refine bq (aZ ua) _ (ae (nx.get 5 rfl) rfl)<|aj 1<|eZ (aZ gG) bs.length 1 (si:Int)<|bq (aN (aZ gG) (si:Int) 1) _ (bB (aB (nx.get 4 rfl)) rfl (xX.at_ oM oM))<|dX [4,5,6,10,11,12,14,15,17,60,61,62,69,70,71,80,83,87]<|gC (decide ((vw (si:Int))<0)) fun Bup Vw=> ?_
 refine aj 2<|aE ?_;cases Bup;have cup:¬((vw (si:Int))<0):=Qe7 Vw.symm;have Hu:jz (iq bs) vw (si:Int):=⟨oM,.inr oM⟩;refine fT<|cg<|aQ<|aj 1<|gC (decide (to<0)) fun bG JS=> ?_
 refine aE ?_;cases bG;have Vv:¬(to<0):=Qe7 JS.symm;refine fT<|dh<|aj 3<|ej (JP fO ua (aZ b8) (aZ gG) bs.length bs.length bs.length m3 L3 (tg bs) (iq bs) vw to (si:Int) YG hm (nx.dT 3 rfl) (nx.dT 5 rfl) (RO.aB (nx.dT 2 rfl)) (RO.aB (nx.dT 4 rfl)) k9 (zl.C4 oM) Hu) ?_;rintro _ w99 ⟨cm,rfl,CD,Vx⟩;have JU:=nx.cl Vx;refine aj 1<|aE<|dh<|ep ((q:Int)+1)<|aj 1<|aE ?_;intro aC fr;exact⟨(bS bs (bi:Int)).length-(q+1),oM,q+1,cm,rfl,fr.kp [4,5,6,10,11,12,14,15,60,61,62,69,70,71],JU,oM,by rw[iu vW];exact zl.meet hP Gt.ok oM Hu CD⟩;have Vv:to<0:=Qe4 JS.symm;refine fN<|Ez<|dh<|ep ((q:Int)+1)<|aj 1<|aE ?_;intro aC fr;exact⟨(bS bs (bi:Int)).length-(q+1),oM,q+1,(si:Int),rfl,fr.kp [4,5,6,10,11,12,14,15,60,61,62,69,70,71],nx,oM,by rw[iu vW];exact zl.first Vv bh Hu⟩;have cup:(vw (si:Int))<0:=Qe4 Vw.symm;have bH:¬jz (iq bs) vw (si:Int):=fun h=>h.2.elim nq (fun h=>oM)
 refine fN<|gq 9<|gr<|dh<|ep ((q:Int)+1)<|aj 1<|aE ?_;intro aC fr;exact⟨(bS bs (bi:Int)).length-(q+1),oM,q+1,to,rfl,fr.kp [4,5,6,10,11,12,14,15,60,61,62,69,70,71],nx,oM,by rw[iu vW];exact zl.skip bH⟩;have cpl:(iq bs (si:Int))<0:=Qe4 Vt.symm;have bH:¬jz (iq bs) vw (si:Int):=fun h=>by have:=h.1;omega
 refine aj 10<|aE<|fN<|gq 9<|gr<|dh<|ep ((q:Int)+1)<|aj 1<|aE ?_;intro aC fr;exact⟨(bS bs (bi:Int)).length-(q+1),oM,q+1,to,rfl,fr.kp [4,5,6,10,11,12,14,15,60,61,62,69,70,71],nx,oM,by rw[iu vW];exact zl.skip bH⟩;have ck:(k:Int)<((aF bs).length:Int):=Qe4 JL.symm;refine fN<|cg<|bx<|cK 3<|aQ ?_;obtain⟨bi,TH,Gs,Vq⟩:=yY (bs:=bs) (k:=k) oM;refine aj 1 ?_;obtain⟨Vy,rfl⟩:=cW (v7.get 1 rfl) oM;refine eZ (aZ Vy) ((aF bs).length) 1 (k:Int)<|bq (aN (aZ Vy) (k:Int) 1) _ (fR (aB (v7.get 1 rfl)) rfl TH)<|aj 2<|aE<|dh<|bq (aZ fO) _ (ae (v7.get 3 rfl) rfl)<|aj 2<|eZ (aZ b8) bs.length 1 (bi:Int)<|zJ v7 2 (aN (aZ b8) (bi:Int) 1) (((bi:Int)).toNat*1) (nV k) rfl rfl oM fun Qai JV=> ?_
 replace JV:=JV.nf;refine aE<|dh<|ep ((k:Int)+1)<|aj 1<|aE ?_;intro aC fr;exact⟨(aF bs).length-(k+1),oM,k+1,m3.set bi (k:Int),rfl,fr.kp [1,4,5,6,40,41,42],(JV.cast (by rw[ints_set];simp only[Qfd,Qfp])),oM,AO h3 TH Gs⟩;have ci:(i:Int)<(bs.length:Int):=Qe4 Vi.symm;refine fN<|cg<|bx<|cK 1<|bC<|dX [1,4,5,6,7,29,30] ?_;intro aC fr;refine zK (bL [eS (sM b8) bs.length bs.length,.bg (nV i),eS (sM gG) bs.length bs.length,.bg (nV i),eA (aZ b8) (i:Int) 1,.bg undef,eA (aZ gG) (i:Int) 1,.bg undef]) (fun ls vs w_=>match ls 7 with|true=>(Mem ba w w_ [.au b1 24 [nm,wk,pa,va,vS A bs.length c],.row 3 1 A4 ((aF bs).length) c5 (ints (aF bs)),.row 3 1 (sM b8) bs.length bs.length ((ints m1).set (((i:Int)).toNat*1) (vI (-1))),.au fO 37 [vS (sM b8) bs.length bs.length],.row 3 1 (sM gG) bs.length bs.length ((ints m2).set (((i:Int)).toNat*1) (vI (-1))),.au ua 37 [vS (sM gG) bs.length bs.length]])|false=>(match ls 5 with|true=>(Mem ba w w_ [.au b1 24 [nm,wk,pa,va,vS A bs.length c],.row 3 1 A4 ((aF bs).length) c5 (ints (aF bs)),.row 3 1 (sM b8) bs.length bs.length ((ints m1).set (((i:Int)).toNat*1) (vI (-1))),.au fO 37 [vS (sM b8) bs.length bs.length],.row 3 1 (sM gG) bs.length bs.length (ints m2),.au ua 37 [vS (sM gG) bs.length bs.length]])|false=>(Mem ba w w_ [.au b1 24 [nm,wk,pa,va,vS A bs.length c],.row 3 1 A4 ((aF bs).length) c5 (ints (aF bs)),.row 3 1 (sM b8) bs.length bs.length (ints m1),.au fO 37 [vS (sM b8) bs.length bs.length],.row 3 1 (sM gG) bs.length bs.length (ints m2),.au ua 37 [vS (sM gG) bs.length bs.length]]))) fr (en (.bg (.bg (.bg (.bg (.bg (.bg (.bg (.bg .nil))))))))) (ll.aD (Mem.drew _)) (tZ lz (lL (aZ fO) (vS (sM b8) bs.length bs.length) (fun _ _ _ _ h=>h) ?_) (fi fun _ _ _ _ h=>h) (lL (aZ ua) (vS (sM gG) bs.length bs.length) (fun _ _ _ _ h=>h) ?_) (fi fun _ _ _ _ h=>h) (K6 (aZ b8) bs.length 1 (i:Int) fun _ _ _ _ h=>h) ?_ (K6 (aZ gG) bs.length 1 (i:Int) fun _ _ _ _ h=>h) ?_) ?_;intro w_ ls vs hJ bp bj hp;have f5:ls 5=false:=az bj bp (n:=8) kR;have f7:ls 7=false:=az bj bp (n:=8) kR;have aI:=hJ;simp only[f5,f7]at aI;exact(ae (aI.get 3 rfl) rfl);intro w_ ls vs hJ bp bj hp;have f7:ls 7=false:=az bj bp (n:=8) kR;have aI:=hJ;simp only[f7]at aI;cases fu:ls 5;simp only[fu]at aI;exact(ae (aI.get 5 rfl) rfl);simp only[fu]at aI;exact(ae (aI.get 5 rfl) rfl);intro dM w_ ls vs bZ hJ bp bj hp hF;refine iW (g0:=none) ?_;replace hF:Fr dM 112 [(37,(vP (aN (aZ b8) (i:Int) 1)))]:=hF.kp [37];have f5:ls 5=false:=bp;have f7:ls 7=false:=az bj bp (n:=8) kR;have aI:=hJ;simp only[f5,f7]at aI;refine dZ (kR:ao _ 0=some (none,.store 3 (.tmp 37) (.const (vI (-1))),0,none)) hF kR kR (k':=1) rfl (ad:=(aZ b8)) (j:=(((i:Int)).toNat*1)) (e:=3) (size:=1) (n:=bs.length) (cap:=bs.length) (v:=(vI (-1))) (xs:=(ints m1)) (ad':=(aN (aZ b8) (i:Int) 1)) kR rfl kR kR rfl aI 2 rfl oM ?_;intro w2 dY _ a2 ea _;refine aJ kR ?_;refine aY (d:=none) kR ea rfl ?_;show match ls 7 with|true=>_|false=>(_)
 rw[f7];exact dY;intro dM w_ ls vs bZ hJ bp bj hp hF;refine iW (g0:=none) ?_;replace hF:Fr dM 112 [(38,(vP (aN (aZ gG) (i:Int) 1)))]:=hF.kp [38];have f5:ls 5=true:=aG bj (fun k hk=>(hp k hk).1) (n:=8) kR;have f7:ls 7=false:=bp;have aI:=hJ;simp only[f5,f7]at aI;refine dZ (kR:ao _ 0=some (none,.store 3 (.tmp 38) (.const (vI (-1))),0,none)) hF kR kR (k':=1) rfl (ad:=(aZ gG)) (j:=(((i:Int)).toNat*1)) (e:=3) (size:=1) (n:=bs.length) (cap:=bs.length) (v:=(vI (-1))) (xs:=(ints m2)) (ad':=(aN (aZ gG) (i:Int) 1)) kR rfl kR kR rfl aI 4 rfl oM ?_;intro w2 dY _ a2 ea _;refine aJ kR ?_;refine aY (d:=none) kR ea rfl ?_;show _;exact dY;intro aC Vz ls vs cA BU hv fr;simp only[show ls 7=true from cA 7 dQ]at BU;revert aC;refine cH [(1,pT b1 0),(4,vS A4 ((aF bs).length) c5),(5,pT fO 0),(6,pT ua 0),(29,(vI (bs.length:Int))),(30,nV i)] ?_;clear cA hv fr aC ll;clear vs ls;refine dh<|ep ((i:Int)+1)<|aj 1<|aE ?_;intro aC fr;exact⟨bs.length-(i+1),oM,i+1,m1.set i (-1),m2.set i (-1),rfl,fr.kp [1,4,5,6,29,30],(BU.cast (by rw[ints_set,ints_set];simp only[Qfd,Qfp])),oM,xn h1 oM,xn h2 oM⟩
end Go.Proofs.Ytejbeeaomokjpaa
namespace Go.Proofs.Ytejbeeaomokjpaa
open Go.Mor
theorem RK(nm:cV)(wk:Bool)(pa va:Int)(A:aX)(c:Nat)(fs:List ay)(w:World)(hN:fs.length≤1000)(gx:pL fs)(hA:RO ba w (.fn A fs)):Calls Try.prog 77 #[fA nm wk pa va A c fs] w (fE fun v w'=>v=vI ((hY fs:Nat):Int)∧Mem ba w w' []):=by
 have wA:=bE fs;have hm:(af fs).length≤1000000:=oM;have hB:=hA.bs;refine hZ 27 [fA nm wk pa va A c fs] Try.func77 ?_;have hM:=Mem.init w;refine aQ<|nJ hM 24 (fA nm wk pa va A c fs) (fV nm wk pa va A c fs) fun b1 w2 kH M3=> ?_
 replace M3:=M3.nf;clear hM;refine aj 1<|aE<|aQ<|aj 1<|bq (ak b1 4) _ (ae (M3.get 0 rfl) rfl)<|aj 2<|aE<|bx<|aQ<|aj 1 ?_;refine bq (ak b1 4) _ (ae (M3.get 0 rfl) rfl)<|aj 2<|aE<|cK 0 ?_;intro aC fr;refine gT (fun n_ a_ w_=>∃(k:Nat) (q:Nat),n_=fs.length-k∧Fr a_ 27 [(3,nV q),(10,vS A ((af fs).length) c),(11,(vI ((af fs).length:Int))),(12,nV k)]∧Mem ba w w_ [.au b1 24 (fV nm wk pa va A c fs)]∧(k≤fs.length)∧(q=fs.length+jl fs k)) (n:=_) ⟨0,(af fs).length,rfl,fr.kp [3,10,11,12],M3,oM,by rw[wA,om];rfl⟩ ?_;clear fr aC M3;rintro n aC w6 ⟨k,q,rfl,fr,M7,hk,hq⟩;revert aC;refine bC<|bx<|jg ((k:Int)<((af fs).length:Int)) (fun Hq=> ?_) (fun Hq=> ?_);refine cg<|bx<|cK 1<|aQ ?_;obtain⟨x,hx⟩:=bu (l:=fs) (i:=k) oM;have nR:x.ah.length≤281474976710656:=(gx.get hx).lp;have xo:x.insts.length≤281474976710656:=(gx.get hx).li;have Tx:=sa gx k hk;obtain⟨sF,rfl⟩:=dN (M7.ro hB) (gv hx);refine eZ sF ((af fs).length) 6 (k:Int)<|gu (aN sF (k:Int) 6) (xV x) (cZ (M7.ro hB) rfl hx)<|mZ M7 36 [aq,aq,vI 0,vI 0,vI 0,vI 0] fun ET NU VA rO=> ?_
 replace rO:=rO.nf;refine po rO 1 (xV x) rfl fun Ty lQ=> ?_
 replace lQ:=lQ.nf;refine aE<|dh<|aj 2<|bq (aZ ET) _ (ae (lQ.get 1 rfl) rfl)<|aj 2<|bq (ak ET 1) _ (ae (lQ.get 1 rfl) rfl)<|aj 1<|ep ((x.ah.length:Int)+(x.insts.length:Int))<|ep ((q:Int)+((x.ah.length:Int)+(x.insts.length:Int)))<|dX [10,11,12,24] ?_;refine aj 1<|aE<|dh<|ep ((k:Int)+1)<|aj 1<|aE ?_;intro aC fr;exact⟨fs.length-(k+1),oM,k+1,q+(x.ah.length+x.insts.length),rfl,fr.kp [3,10,11,12],(lQ.tk 1),oM,by rw[hq,ly hx];omega⟩;refine gq 0<|gr<|bC<|an<|cQ (nV q) ?_;obtain rfl:k=fs.length:=oM;have lu:=M7.od [] 0;exact⟨by rw[hq];rfl,lu⟩
theorem zm(nm:cV)(wk:Bool)(pa va:Int)(A:aX)(c:Nat)(fs:List ay)(w:World)(hN:fs.length≤1000)(gx:pL fs)(hA:RO ba w (.fn A fs)):Calls Try.prog 19 #[fA nm wk pa va A c fs] w (fE fun v w'=>v=vI ((hY fs:Nat):Int)∧Mem ba w w' []):=by
 have wA:=bE fs;have hm:(af fs).length≤1000000:=oM;have hB:=hA.bs;refine hZ 33 [fA nm wk pa va A c fs] Try.func19 ?_;have hM:=Mem.init w;refine aQ<|nJ hM 24 (fA nm wk pa va A c fs) (fV nm wk pa va A c fs) fun b1 w2 kH M3=> ?_
 replace M3:=M3.nf;clear hM;refine aj 1<|aE<|aQ<|aj 1<|bq (ak b1 4) _ (ae (M3.get 0 rfl) rfl)<|aj 2<|aE<|bx<|bC<|cK 0 ?_;intro aC fr;refine gT (fun n_ a_ w_=>∃(k:Nat) (q:Nat),n_=fs.length-k∧Fr a_ 33 [(1,pT b1 0),(3,nV q),(4,nV k)]∧Mem ba w w_ [.au b1 24 (fV nm wk pa va A c fs)]∧(k≤fs.length)∧(q=fs.length+jl fs k)) (n:=_) ⟨0,(af fs).length,rfl,fr.kp [1,3,4],M3,oM,by rw[wA,om];rfl⟩ ?_;clear fr aC M3;rintro n aC w6 ⟨k,q,rfl,fr,M7,hk,hq⟩;revert aC;refine bx<|aQ<|aj 2<|bq (ak b1 4) _ (ae (M7.get 0 rfl) rfl)<|aj 2<|aE<|jg ((k:Int)<((af fs).length:Int)) (fun Hq=> ?_) (fun Hq=> ?_);refine cg<|bx<|cK 1 ?_;obtain⟨x,hx⟩:=bu (l:=fs) (i:=k) oM;have nR:x.ah.length≤281474976710656:=(gx.get hx).lp;have xo:x.insts.length≤281474976710656:=(gx.get hx).li;have Tx:=sa gx k hk;obtain⟨sF,rfl⟩:=dN (M7.ro hB) (gv hx);obtain⟨x,hx⟩:=bu (l:=fs) (i:=k) oM;have nR:x.ah.length≤281474976710656:=(gx.get hx).lp;have xo:x.insts.length≤281474976710656:=(gx.get hx).li;have Tx:=sa gx k hk;refine dX [1,3,4] ?_;intro aC fr;refine qy (bL [.bg (nV q),eR b1 4,eS (some sF) ((af fs).length) c,.bg (nV k),eA sF (k:Int) 6,eA sF (k:Int) 6,eS x.pA x.ah.length x.pc,eI (x.ah.length:Int),eI ((q:Int)+(x.ah.length:Int)),eR b1 4,eS (some sF) ((af fs).length) c,.bg (nV k),eA sF (k:Int) 6,eP ((aN sF (k:Int) 6).add 1),eS x.iA x.insts.length x.ic,eI (x.insts.length:Int),eI ((((q+(x.ah.length+x.insts.length):Nat)):Int)),eI ((((q+(x.ah.length+x.insts.length):Nat)):Int))]) fr (la (Cu (gE lz dP dP (dL (ak b1 4) _ fun w_ hK=>(ae ((M7.aD hK).get 0 rfl) rfl)) dP (dI sF ((af fs).length) 6 (k:Int)) dP (dL (aN sF (k:Int) 6) _ fun w_ hK=>(cZ ((M7.aD hK).ro hB) rfl hx 0 _ rfl)) dP (dA ((q:Int)+(x.ah.length:Int))) dP (dL (ak b1 4) _ fun w_ hK=>(ae ((M7.aD hK).get 0 rfl) rfl)) dP) (dI sF ((af fs).length) 6 (k:Int)) dP (dL ((aN sF (k:Int) 6).add 1) _ fun w_ hK=>(cZ ((M7.aD hK).ro hB) rfl hx 1 _ rfl)) dP ?_) dP) ?_;intro dM w_ vs bZ hK hp hF;refine iW (g0:=none) ?_;replace hF:Fr dM 33 [(23,(vI ((q:Int)+(x.ah.length:Int)))),(30,(vI (x.insts.length:Int)))]:=hF.kp [23,30];refine fU (kR:ao _ 0=some (some 31,.binOp .add 3 (.tmp 23) (.tmp 30) 3,3,none)) hF kR kR (k':=1) rfl (i:=((q:Int)+(x.ah.length:Int))) (j:=(x.insts.length:Int)) (z:=((((q+(x.ah.length+x.insts.length):Nat)):Int))) kR kR (QeZ some oM) oM oM ?_;intro a2 ea _;refine aJ kR ?_;exact tC (d:=some 31) kR ea (Kp.refl _) rfl;intro aC Dx vs hK hv fr;revert aC;refine cH [(1,pT b1 0),(3,(vI ((((q+(x.ah.length+x.insts.length):Nat)):Int)))),(4,nV k)] ?_;have kI:=M7.aD hK;clear hK hv fr aC M7;clear vs;refine dh<|aj 1<|ep ((k:Int)+1)<|aj 1<|aE ?_;intro aC fr;exact⟨fs.length-(k+1),oM,k+1,q+(x.ah.length+x.insts.length),rfl,fr.kp [1,3,4],kI,oM,by rw[hq,ly hx];omega⟩;refine gq 0<|gr<|bC<|an<|cQ (nV q) ?_;obtain rfl:k=fs.length:=oM;have Gu:=M7.od [] 0;exact⟨by rw[hq];rfl,Gu⟩
end Go.Proofs.Ytejbeeaomokjpaa
namespace Go.Proofs.Ytejbeeaomokjpaa
open Go.Mor
theorem jW(l:ar)(A A2:aX)(c c2:Nat)(w:World)(_hl:gY l.length)(hl:RO ba w (.rd A (ints l)))(hm:RO ba w (.rd A2 (ints l))):Calls Try.prog 101 #[vS A l.length c,vS A2 l.length c2] w (fE fun v w'=>v=vB true∧Mem ba w w' []):=by
 unfold gY at _hl;refine hZ 26 [vS A l.length c,vS A2 l.length c2] Try.func101 ?_;have hM:=Mem.init w;refine bC<|bx<|aQ<|aj 4<|gC ((l.length:Int) !=(l.length:Int)) fun B1 ju=> ?_
 obtain rfl:B1=false:=by have bW:¬((l.length:Int)≠(l.length:Int)):=oM;first|exact ju.trans (Qfh bW)|exact ju.trans (Qfi bW)|exact ju.trans (Qc3.2 bW)|exact ju.trans (QeY.2 bW)|exact ju.trans (Qe2.2 (fun e=>bW (Qc3.1 e)))|exact ju.trans (Qe2.2 (fun e=>bW (QeY.1 e)))
 clear ju;refine aE<|fT<|cg<|bx<|bC<|cK 0 ?_;intro aC fr;refine gT (fun n_ a_ w_=>∃(i:Nat),n_=l.length-i∧Fr a_ 26 [(0,vS A l.length c),(1,vS A2 l.length c2),(5,nV i)]∧Mem ba w w_ []∧(i≤l.length)) (n:=_) ⟨0,rfl,fr.kp [0,1,5],hM,oM⟩ ?_;clear fr aC hM;rintro n aC w4 ⟨i,rfl,fr,M5,hi⟩;revert aC;refine bx<|bC<|jg ((i:Int)<(l.length:Int)) (fun c8=> ?_) (fun c8=> ?_);refine cg<|bx<|cK 1<|bx ?_;obtain⟨x,hx⟩:=bu (l:=l) (i:=i) oM;obtain⟨Ph,rfl⟩:=rd_some (M5.ro hl) (by simp[ints];omega);obtain⟨sx,rfl⟩:=rd_some (M5.ro hm) (by simp[ints];omega);obtain⟨Xp,jT⟩:∃B:Bool,B=(x !=x):=⟨_,rfl⟩;obtain rfl:Xp=false:=by have bW:¬((x:Int)≠x):=oM;first|exact jT.trans (Qfh bW)|exact jT.trans (Qfi bW)|exact jT.trans (Qc3.2 bW)|exact jT.trans (QeY.2 bW)|exact jT.trans (Qe2.2 (fun e=>bW (Qc3.1 e)))|exact jT.trans (Qe2.2 (fun e=>bW (QeY.1 e)))
 refine dX [0,1,5] ?_;intro aC fr;refine qy (bL [eS (some Ph) l.length c,.bg (nV i),eA Ph (i:Int) 1,eI x,eS (some sx) l.length c2,.bg (nV i),eA sx (i:Int) 1,eI x,eB false]) fr (la (tZ lz dP dP (dI Ph l.length 1 (i:Int)) (dL (aN Ph (i:Int) 1) _ fun w_ hK=>(fR ((M5.aD hK).ro hl) rfl hx)) dP dP (dI sx l.length 1 (i:Int)) (dL (aN sx (i:Int) 1) _ fun w_ hK=>(fR ((M5.aD hK).ro hm) rfl hx))) (dC (x !=x) jT)) ?_;intro aC Dx vs hK hv fr;revert aC;refine cH [(0,vS (some Ph) l.length c),(1,vS (some sx) l.length c2),(5,nV i),(25,vB false)] ?_;have kI:=M5.aD hK;clear hK hv fr aC M5;clear vs;refine fT<|cg<|dh<|aj 1<|ep ((i:Int)+1)<|aj 1<|aE ?_;intro aC fr;exact⟨l.length-(i+1),oM,i+1,rfl,fr.kp [0,1,5],kI,oM⟩;refine gq 0<|gr<|bC<|an<|cQ (vB true) ?_;exact⟨rfl,M5⟩
theorem lK(fs gs:List ay)(A A2:aX)(k:Nat)(pA:aX)(pc:Nat)(qs:List bI)(iA:aX)(ic:Nat)(us:List aO)(xe xw xa xb:Int)(A1:aX)(c1:Nat)(ps:List bI)(A3:aX)(c3:Nat)(is:List aO)(w:World)(gx:ay.Ok ⟨pA,pc,qs,iA,ic,us,xe,xw,xa,xb⟩)(hA:RO ba w (.fn A fs))(hx:fs[k]?=some ⟨pA,pc,qs,iA,ic,us,xe,xw,xa,xb⟩)(sP:RO ba w (.fn A2 gs))(hy:gs[k]?=some ⟨A1,c1,ps,A3,c3,is,xe,xw,xa,xb⟩)(UN:ps.map bI.e0=qs.map bI.e0)(UO:is.map aO.e0=us.map aO.e0):Calls Try.prog 58 #[(.agg #[vS pA qs.length pc,vS iA us.length ic,vI xe,vI xw,vI xa,vI xb]),(.agg #[vS A1 ps.length c1,vS A3 is.length c3,vI xe,vI xw,vI xa,vI xb])] w (fE fun v w'=>v=vB true∧Mem ba w w' []):=by
 have kT:=eM UN;have q8:=eM UO;have nR:qs.length≤281474976710656:=gx.lp;have xo:us.length≤281474976710656:=gx.li;refine hZ 140 [(.agg #[vS pA qs.length pc,vS iA us.length ic,vI xe,vI xw,vI xa,vI xb]),(.agg #[vS A1 ps.length c1,vS A3 is.length c3,vI xe,vI xw,vI xa,vI xb])] Try.func58 ?_;have hM:=Mem.init w;refine aQ<|nJ hM 36 (.agg #[vS pA qs.length pc,vS iA us.length ic,vI xe,vI xw,vI xa,vI xb]) [vS pA qs.length pc,vS iA us.length ic,vI xe,vI xw,vI xa,vI xb] fun b1 w2 kH M3=> ?_
 replace M3:=M3.nf;clear hM;refine nJ M3 36 (.agg #[vS A1 ps.length c1,vS A3 is.length c3,vI xe,vI xw,vI xa,vI xb]) [vS A1 ps.length c1,vS A3 is.length c3,vI xe,vI xw,vI xa,vI xb] fun b4 w5 LW M6=> ?_
 replace M6:=M6.nf;refine aj 1<|aE<|bx<|aQ<|aj 1<|bq (ak b1 2) _ (ae (M6.get 0 rfl) rfl)<|aj 1<|bq (ak b4 2) _ (ae (M6.get 1 rfl) rfl)<|gC (xe !=xe) fun B7 wv=> ?_
 obtain rfl:B7=false:=by have bW:¬((xe:Int)≠xe):=oM;first|exact wv.trans (Qfh bW)|exact wv.trans (Qfi bW)|exact wv.trans (Qc3.2 bW)|exact wv.trans (QeY.2 bW)|exact wv.trans (Qe2.2 (fun e=>bW (Qc3.1 e)))|exact wv.trans (Qe2.2 (fun e=>bW (QeY.1 e)))
 clear wv;refine aj 2<|bq (ak b1 3) _ (ae (M6.get 0 rfl) rfl)<|aj 1<|bq (ak b4 3) _ (ae (M6.get 1 rfl) rfl)<|dX [2,3,14,16,18]<|gC (xw !=xw) fun B8 Gv=> ?_
 obtain rfl:B8=false:=by have bW:¬((xw:Int)≠xw):=oM;first|exact Gv.trans (Qfh bW)|exact Gv.trans (Qfi bW)|exact Gv.trans (Qc3.2 bW)|exact Gv.trans (QeY.2 bW)|exact Gv.trans (Qe2.2 (fun e=>bW (Qc3.1 e)))|exact Gv.trans (Qe2.2 (fun e=>bW (QeY.1 e)))
 clear Gv;refine aj 3<|bq (ak b1 4) _ (ae (M6.get 0 rfl) rfl)<|aj 1<|bq (ak b4 4) _ (ae (M6.get 1 rfl) rfl)<|gC (xa !=xa) fun B9 xT=> ?_
 obtain rfl:B9=false:=by have bW:¬((xa:Int)≠xa):=oM;first|exact xT.trans (Qfh bW)|exact xT.trans (Qfi bW)|exact xT.trans (Qc3.2 bW)|exact xT.trans (QeY.2 bW)|exact xT.trans (Qe2.2 (fun e=>bW (Qc3.1 e)))|exact xT.trans (Qe2.2 (fun e=>bW (QeY.1 e)))
 clear xT;refine aj 3<|bq (ak b1 5) _ (ae (M6.get 0 rfl) rfl)<|aj 1<|bq (ak b4 5) _ (ae (M6.get 1 rfl) rfl)<|gC (xb !=xb) fun kf nN=> ?_
 obtain rfl:kf=false:=by have bW:¬((xb:Int)≠xb):=oM;first|exact nN.trans (Qfh bW)|exact nN.trans (Qfi bW)|exact nN.trans (Qc3.2 bW)|exact nN.trans (QeY.2 bW)|exact nN.trans (Qe2.2 (fun e=>bW (Qc3.1 e)))|exact nN.trans (Qe2.2 (fun e=>bW (QeY.1 e)))
 clear nN;refine aj 3<|bq (aZ b1) _ (ae (M6.get 0 rfl) rfl)<|dX [2,3,35,37]<|aj 2<|bq (aZ b4) _ (ae (M6.get 1 rfl) rfl)<|aj 1<|gC ((qs.length:Int) !=(ps.length:Int)) fun Xp jT=> ?_
 obtain rfl:Xp=false:=by have bW:¬((qs.length:Int)≠(ps.length:Int)):=oM;first|exact jT.trans (Qfh bW)|exact jT.trans (Qfi bW)|exact jT.trans (Qc3.2 bW)|exact jT.trans (QeY.2 bW)|exact jT.trans (Qe2.2 (fun e=>bW (Qc3.1 e)))|exact jT.trans (Qe2.2 (fun e=>bW (QeY.1 e)))
 clear jT;refine aj 3<|bq (ak b1 1) _ (ae (M6.get 0 rfl) rfl)<|aj 2<|bq (ak b4 1) _ (ae (M6.get 1 rfl) rfl)<|aj 1<|gC ((us.length:Int) !=(is.length:Int)) fun vx qO=> ?_
 obtain rfl:vx=false:=by have bW:¬((us.length:Int)≠(is.length:Int)):=oM;first|exact qO.trans (Qfh bW)|exact qO.trans (Qfi bW)|exact qO.trans (Qc3.2 bW)|exact qO.trans (QeY.2 bW)|exact qO.trans (Qe2.2 (fun e=>bW (Qc3.1 e)))|exact qO.trans (Qe2.2 (fun e=>bW (QeY.1 e)))
 clear qO;refine aj 1<|aE<|fT<|cg<|bx<|bC<|cK 0 ?_;intro aC fr;refine gT (fun n_ a_ w_=>∃(j:Nat),n_=qs.length-j∧Fr a_ 140 [(2,pT b1 0),(3,pT b4 0),(5,nV j)]∧Mem ba w w_ [.au b1 36 [vS pA qs.length pc,vS iA us.length ic,vI xe,vI xw,vI xa,vI xb],.au b4 36 [vS A1 ps.length c1,vS A3 is.length c3,vI xe,vI xw,vI xa,vI xb]]∧(j≤qs.length)) (n:=_) ⟨0,rfl,fr.kp [2,3,5],M6,oM⟩ ?_;clear fr aC M6;rintro n aC Ty ⟨j,rfl,fr,lQ,hj⟩;revert aC;refine bx<|aQ<|aj 2<|bq (aZ b1) _ (ae (lQ.get 0 rfl) rfl)<|aj 2<|aE<|jg ((j:Int)<(qs.length:Int)) (fun wa=> ?_) (fun wa=> ?_);refine cg<|bx<|cK 1<|bx ?_;obtain⟨p,ub⟩:=bu (l:=qs) (i:=j) oM;obtain⟨qA,qc,UP⟩:=zM UN ub;have JY:=gx.ah p (QeV ub);obtain⟨wB,rfl⟩:=qw (lQ.ro (hA.ah hx)) (i:=j) (by show(qs.map bI.cells)[j]?=_;rw[List.getElem?_map,ub];rfl);obtain⟨sG,rfl⟩:=qw (lQ.ro (sP.ah hy)) (i:=j) (by show(ps.map bI.cells)[j]?=_;rw[List.getElem?_map,UP];rfl);obtain⟨zQ,lf⟩:∃B:Bool,B=(p.dst !=p.dst):=⟨_,rfl⟩;obtain rfl:zQ=false:=by have bW:¬((p.dst:Int)≠p.dst):=oM;first|exact lf.trans (Qfh bW)|exact lf.trans (Qfi bW)|exact lf.trans (Qc3.2 bW)|exact lf.trans (QeY.2 bW)|exact lf.trans (Qe2.2 (fun e=>bW (Qc3.1 e)))|exact lf.trans (Qe2.2 (fun e=>bW (QeY.1 e)))
 refine dX [2,3,5] ?_;intro aC fr;refine Yg 26 (bL [eR b1 0,eS (some wB) qs.length pc,.bg (nV j),eA wB (j:Int) 2,eA wB (j:Int) 2,eI p.dst,eR b4 0,eS (some sG) ps.length c1,.bg (nV j),eA sG (j:Int) 2,eA sG (j:Int) 2,eI p.dst,eB false,eB false,eR b1 0,eS (some wB) qs.length pc,.bg (nV j),eA wB (j:Int) 2,eP ((aN wB (j:Int) 2).add 1),eS p.A p.args.length p.c,eR b4 0,eS (some sG) ps.length c1,.bg (nV j),eA sG (j:Int) 2,eP ((aN sG (j:Int) 2).add 1),eS qA p.args.length qc]) fr (rY (gE (gE lz dP (dL (aZ b1) _ fun w_ hK=>(ae ((lQ.aD hK).get 0 rfl) rfl)) dP (dI wB qs.length 2 (j:Int)) dP (dL (aN wB (j:Int) 2) _ fun w_ hK=>(e8 (cs:=p.cells) ((lQ.aD hK).ro (hA.ah hx)) rfl (by show(qs.map bI.cells)[j]?=_;rw[List.getElem?_map,ub];rfl) 0 _ rfl)) dP (dL (aZ b4) _ fun w_ hK=>(ae ((lQ.aD hK).get 1 rfl) rfl)) dP (dI sG ps.length 2 (j:Int)) dP (dL (aN sG (j:Int) 2) _ fun w_ hK=>(e8 (cs:=bI.cells ⟨p.dst,qA,qc,p.args⟩) ((lQ.aD hK).ro (sP.ah hy)) rfl (by show(ps.map bI.cells)[j]?=_;rw[List.getElem?_map,UP];rfl) 0 _ rfl))) (dC (p.dst !=p.dst) lf) dP dP (dL (aZ b1) _ fun w_ hK=>(ae ((lQ.aD hK).get 0 rfl) rfl)) dP (dI wB qs.length 2 (j:Int)) dP (dL ((aN wB (j:Int) 2).add 1) _ fun w_ hK=>(e8 (cs:=p.cells) ((lQ.aD hK).ro (hA.ah hx)) rfl (by show(qs.map bI.cells)[j]?=_;rw[List.getElem?_map,ub];rfl) 1 _ rfl)) dP (dL (aZ b4) _ fun w_ hK=>(ae ((lQ.aD hK).get 1 rfl) rfl)) dP (dI sG ps.length 2 (j:Int))) dP (dL ((aN sG (j:Int) 2).add 1) _ fun w_ hK=>(e8 (cs:=bI.cells ⟨p.dst,qA,qc,p.args⟩) ((lQ.aD hK).ro (sP.ah hy)) rfl (by show(ps.map bI.cells)[j]?=_;rw[List.getElem?_map,UP];rfl) 1 _ rfl))) ?_;intro aC VC vs hK hv fr;revert aC;refine cH [(2,pT b1 0),(3,pT b4 0),(5,nV j),(73,vB false),(79,vS p.A p.args.length p.c),(85,vS qA p.args.length qc)] ?_;have wb:=lQ.aD hK;clear hK hv fr aC lQ;clear vs;refine ej (jW p.args p.A qA p.c qc VC JY.len ((hA.pK hx ub).at_ wb) ((sP.pK hy UP).at_ wb)) ?_;rintro _ UM ⟨rfl,Xs⟩;have zN:=wb.cl Xs;refine aj 2<|aE<|fT<|cg<|dh<|aj 1<|ep ((j:Int)+1)<|aj 1<|aE ?_;intro aC fr;exact⟨qs.length-(j+1),oM,j+1,rfl,fr.kp [2,3,5],zN,oM⟩;refine gq 0<|gr<|bx<|bC<|cK 2 ?_;intro aC fr;refine gT (fun n_ a_ w_=>∃(m:Nat),n_=us.length-m∧Fr a_ 140 [(2,pT b1 0),(3,pT b4 0),(6,nV m)]∧Mem ba w w_ [.au b1 36 [vS pA qs.length pc,vS iA us.length ic,vI xe,vI xw,vI xa,vI xb],.au b4 36 [vS A1 ps.length c1,vS A3 is.length c3,vI xe,vI xw,vI xa,vI xb]]∧(m≤us.length)) (n:=_) ⟨0,rfl,fr.kp [2,3,6],lQ,oM⟩ ?_;clear fr aC lQ;rintro n aC YA ⟨m,rfl,fr,pU,hm⟩;revert aC;refine bx<|aQ<|aj 2<|bq (ak b1 1) _ (ae (pU.get 0 rfl) rfl)<|aj 2<|aE<|jg ((m:Int)<(us.length:Int)) (fun VD=> ?_) (fun VD=> ?_);refine cg<|bx<|cK 3<|bx ?_;obtain⟨i,VE⟩:=bu (l:=us) (i:=m) oM;obtain⟨rA,rc,PR⟩:=BC UO VE;have hio:=gx.insts i (QeV VE);obtain⟨nj,rfl⟩:=qw (pU.ro (hA.insts hx)) (i:=m) (by show(us.map aO.cells)[m]?=_;rw[List.getElem?_map,VE];rfl);obtain⟨yt,rfl⟩:=qw (pU.ro (sP.insts hy)) (i:=m) (by show(is.map aO.cells)[m]?=_;rw[List.getElem?_map,PR];rfl);refine dX [2,3,6] ?_;intro aC fr;refine zK (bL [eR b1 1,eS (some nj) us.length ic,.bg (nV m),eA nj (m:Int) 5,.bg (iG i),eR b4 1,eS (some yt) is.length c3,.bg (nV m),eA yt (m:Int) 5,.bg (.agg #[vI i.op,vI i.dst,vI i.n,vT i.name,vS rA i.args.length rc]),Spec.free,Spec.free,.bg undef,.bg undef]) (fun ls vs w_=>match ls 13 with|true=>(∃(gH:Nat) (gS:Nat),vs 10=(pT gH 0)∧vs 11=(pT gS 0)∧Mem ba w w_ [.au b1 36 [vS pA qs.length pc,vS (some nj) us.length ic,vI xe,vI xw,vI xa,vI xb],.au b4 36 [vS A1 ps.length c1,vS (some yt) is.length c3,vI xe,vI xw,vI xa,vI xb],.au gH 39 (iV i),.au gS 39 [vI i.op,vI i.dst,vI i.n,vT i.name,vS rA i.args.length rc]])|false=>(match ls 12 with|true=>(∃(gH:Nat) (gS:Nat),vs 10=(pT gH 0)∧vs 11=(pT gS 0)∧Mem ba w w_ [.au b1 36 [vS pA qs.length pc,vS (some nj) us.length ic,vI xe,vI xw,vI xa,vI xb],.au b4 36 [vS A1 ps.length c1,vS (some yt) is.length c3,vI xe,vI xw,vI xa,vI xb],.au gH 39 (iV i),.au gS 39 [vI 0,vI 0,vI 0,vT ⟨#[]⟩,aq]])|false=>(∃(gH:Nat) (gS:Nat),(ls 10=true→vs 10=(pT gH 0))∧(ls 11=true→vs 11=(pT gS 0))∧Mem ba w w_ ([.au b1 36 [vS pA qs.length pc,vS (some nj) us.length ic,vI xe,vI xw,vI xa,vI xb],.au b4 36 [vS A1 ps.length c1,vS (some yt) is.length c3,vI xe,vI xw,vI xa,vI xb]]++gN [(ls 10,.au gH 39 [vI 0,vI 0,vI 0,vT ⟨#[]⟩,aq]),(ls 11,.au gS 39 [vI 0,vI 0,vI 0,vT ⟨#[]⟩,aq])])))) fr (en (.bg (.bg (.bg (.bg (.bg (.bg (.bg (.bg (.bg (.bg (.free (.free (.bg (.bg .nil))))))))))))))) ⟨0,0,fun h=>Bool.noConfusion h,fun h=>Bool.noConfusion h,pU.aD (Mem.drew _)⟩ (rY (gE lz (fi fun _ _ _ _ h=>h) (lL (ak b1 1) (vS (some nj) us.length ic) (fun _ _ _ _ h=>h) ?_) (fi fun _ _ _ _ h=>h) (K6 nj us.length 5 (m:Int) fun _ _ _ _ h=>h) ?_ (fi fun _ _ _ _ h=>h) (lL (ak b4 1) (vS (some yt) is.length c3) (fun _ _ _ _ h=>h) ?_) (fi fun _ _ _ _ h=>h) (K6 yt is.length 5 (m:Int) fun _ _ _ _ h=>h) ?_ ?_ ?_) ?_ ?_) ?_;intro w_ ls vs hJ bp bj hp;have f12:ls 12=false:=az bj bp (n:=14) kR;have f13:ls 13=false:=az bj bp (n:=14) kR;have aI:=hJ;simp only[f12,f13]at aI;obtain⟨_,_,_,_,aI⟩:=aI;exact(ae (aI.get 0 rfl) rfl);intro dM w_ ls vs bZ hJ bp bj hp hF;refine iW (g0:=none) ?_;replace hF:Fr dM 140 [(99,(vP (aN nj (m:Int) 5)))]:=hF.kp [99];have f12:ls 12=false:=az bj bp (n:=14) kR;have f13:ls 13=false:=az bj bp (n:=14) kR;have aI:=hJ;simp only[f12,f13]at aI;obtain⟨_,_,_,_,aI⟩:=aI;refine eV (kR:ao _ 0=some (some 100,.load 39 (.tmp 99),39,none)) hF kR kR (k':=1) rfl (ad:=(aN nj (m:Int) 5)) (vs:=(iV i)) kR kR (e8 (cs:=i.cells) (aI.ro (hA.insts hx)) rfl (by show(us.map aO.cells)[m]?=_;rw[List.getElem?_map,VE];rfl)) ?_;intro a2 ea _;refine aJ kR ?_;exact aY (d:=some 100) kR ea rfl hJ;intro w_ ls vs hJ bp bj hp;have f13:ls 13=false:=az bj bp (n:=14) kR;have aI:=hJ;simp only[f13]at aI;cases fu:ls 12;simp only[fu]at aI;obtain⟨_,_,_,_,aI⟩:=aI;exact(ae (aI.get 1 rfl) rfl);simp only[fu]at aI;obtain⟨_,_,_,_,aI⟩:=aI;exact(ae (aI.get 1 rfl) rfl);intro dM w_ ls vs bZ hJ bp bj hp hF;refine iW (g0:=none) ?_;replace hF:Fr dM 140 [(104,(vP (aN yt (m:Int) 5)))]:=hF.kp [104];have f13:ls 13=false:=az bj bp (n:=14) kR;have aI:=hJ;simp only[f13]at aI;cases fu:ls 12;simp only[fu]at aI;obtain⟨_,_,_,_,aI⟩:=aI;refine eV (kR:ao _ 0=some (some 105,.load 39 (.tmp 104),39,none)) hF kR kR (k':=1) rfl (ad:=(aN yt (m:Int) 5)) (vs:=[vI i.op,vI i.dst,vI i.n,vT i.name,vS rA i.args.length rc]) kR kR (e8 (cs:=aO.cells ⟨i.op,i.dst,i.n,i.name,rA,rc,i.args⟩) (aI.ro (sP.insts hy)) rfl (by show(is.map aO.cells)[m]?=_;rw[List.getElem?_map,PR];rfl)) ?_;intro a2 ea _;refine aJ kR ?_;exact aY (d:=some 105) kR ea rfl hJ;simp only[fu]at aI;obtain⟨_,_,_,_,aI⟩:=aI;refine eV (kR:ao _ 0=some (some 105,.load 39 (.tmp 104),39,none)) hF kR kR (k':=1) rfl (ad:=(aN yt (m:Int) 5)) (vs:=[vI i.op,vI i.dst,vI i.n,vT i.name,vS rA i.args.length rc]) kR kR (e8 (cs:=aO.cells ⟨i.op,i.dst,i.n,i.name,rA,rc,i.args⟩) (aI.ro (sP.insts hy)) rfl (by show(is.map aO.cells)[m]?=_;rw[List.getElem?_map,PR];rfl)) ?_;intro a2 ea _;refine aJ kR ?_;exact aY (d:=some 105) kR ea rfl hJ;intro dM w_ ls vs bZ hJ bp bj hp hF;refine iW (g0:=none) ?_;replace hF:Fr dM 140 []:=hF.kp [];have f12:ls 12=false:=az bj bp (n:=14) kR;have f13:ls 13=false:=az bj bp (n:=14) kR;have f10:ls 10=false:=bp;have aI:=hJ;simp only[f12,f13]at aI;obtain⟨mi,mB,lv,jB,aI⟩:=aI;rw[f10]at aI;refine mL (kR:ao _ 0=some (some 7,.alloc 39,0,none)) hF kR kR (k':=1) rfl (cs:=[vI 0,vI 0,vI 0,vT ⟨#[]⟩,aq]) kR aI ?_;intro vo w2 _ _ dY _ a2 ea _;refine aJ kR ?_;refine aY (d:=some 7) kR ea trivial ?_;show match ls 13 with|true=>(∃(gH:Nat) (gS:Nat),((pT vo 0):Value)=(pT gH 0)∧vs 11=(pT gS 0)∧Mem ba w w2 [.au b1 36 [vS pA qs.length pc,vS (some nj) us.length ic,vI xe,vI xw,vI xa,vI xb],.au b4 36 [vS A1 ps.length c1,vS (some yt) is.length c3,vI xe,vI xw,vI xa,vI xb],.au gH 39 (iV i),.au gS 39 [vI i.op,vI i.dst,vI i.n,vT i.name,vS rA i.args.length rc]])|false=>(match ls 12 with|true=>(∃(gH:Nat) (gS:Nat),((pT vo 0):Value)=(pT gH 0)∧vs 11=(pT gS 0)∧Mem ba w w2 [.au b1 36 [vS pA qs.length pc,vS (some nj) us.length ic,vI xe,vI xw,vI xa,vI xb],.au b4 36 [vS A1 ps.length c1,vS (some yt) is.length c3,vI xe,vI xw,vI xa,vI xb],.au gH 39 (iV i),.au gS 39 [vI 0,vI 0,vI 0,vT ⟨#[]⟩,aq]])|false=>(∃(gH:Nat) (gS:Nat),(true=true→((pT vo 0):Value)=(pT gH 0))∧(ls 11=true→vs 11=(pT gS 0))∧Mem ba w w2 ([.au b1 36 [vS pA qs.length pc,vS (some nj) us.length ic,vI xe,vI xw,vI xa,vI xb],.au b4 36 [vS A1 ps.length c1,vS (some yt) is.length c3,vI xe,vI xw,vI xa,vI xb]]++gN [(true,.au gH 39 [vI 0,vI 0,vI 0,vT ⟨#[]⟩,aq]),(ls 11,.au gS 39 [vI 0,vI 0,vI 0,vT ⟨#[]⟩,aq])])))
 rw[f13,f12];exact⟨vo,mB,fun _=>rfl,jB,dY.group 0 rfl⟩;intro dM w_ ls vs bZ hJ bp bj hp hF;refine iW (g0:=none) ?_;replace hF:Fr dM 140 []:=hF.kp [];have f12:ls 12=false:=az bj bp (n:=14) kR;have f13:ls 13=false:=az bj bp (n:=14) kR;have f11:ls 11=false:=bp;have aI:=hJ;simp only[f12,f13]at aI;obtain⟨mi,mB,lv,jB,aI⟩:=aI;rw[f11]at aI;refine mL (kR:ao _ 0=some (some 8,.alloc 39,0,none)) hF kR kR (k':=1) rfl (cs:=[vI 0,vI 0,vI 0,vT ⟨#[]⟩,aq]) kR aI ?_;intro vA w2 _ _ dY _ a2 ea _;refine aJ kR ?_;refine aY (d:=some 8) kR ea trivial ?_;show match ls 13 with|true=>(∃(gH:Nat) (gS:Nat),vs 10=(pT gH 0)∧((pT vA 0):Value)=(pT gS 0)∧Mem ba w w2 [.au b1 36 [vS pA qs.length pc,vS (some nj) us.length ic,vI xe,vI xw,vI xa,vI xb],.au b4 36 [vS A1 ps.length c1,vS (some yt) is.length c3,vI xe,vI xw,vI xa,vI xb],.au gH 39 (iV i),.au gS 39 [vI i.op,vI i.dst,vI i.n,vT i.name,vS rA i.args.length rc]])|false=>(match ls 12 with|true=>(∃(gH:Nat) (gS:Nat),vs 10=(pT gH 0)∧((pT vA 0):Value)=(pT gS 0)∧Mem ba w w2 [.au b1 36 [vS pA qs.length pc,vS (some nj) us.length ic,vI xe,vI xw,vI xa,vI xb],.au b4 36 [vS A1 ps.length c1,vS (some yt) is.length c3,vI xe,vI xw,vI xa,vI xb],.au gH 39 (iV i),.au gS 39 [vI 0,vI 0,vI 0,vT ⟨#[]⟩,aq]])|false=>(∃(gH:Nat) (gS:Nat),(ls 10=true→vs 10=(pT gH 0))∧(true=true→((pT vA 0):Value)=(pT gS 0))∧Mem ba w w2 ([.au b1 36 [vS pA qs.length pc,vS (some nj) us.length ic,vI xe,vI xw,vI xa,vI xb],.au b4 36 [vS A1 ps.length c1,vS (some yt) is.length c3,vI xe,vI xw,vI xa,vI xb]]++gN [(ls 10,.au gH 39 [vI 0,vI 0,vI 0,vT ⟨#[]⟩,aq]),(true,.au gS 39 [vI 0,vI 0,vI 0,vT ⟨#[]⟩,aq])])))
 rw[f13,f12];exact⟨mi,vA,lv,fun _=>rfl,dY.group 1 rfl⟩;intro dM w_ ls vs bZ hJ bp bj hp hF;refine iW (g0:=none) ?_;replace hF:Fr dM 140 [(7,vs 10),(100,iG i)]:=hF.kp [7,100];have f12:ls 12=false:=bp;have f13:ls 13=false:=az bj bp (n:=14) kR;have f10:ls 10=true:=aG bj (fun k hk=>(hp k hk).1) (n:=14) kR;have f11:ls 11=true:=aG bj (fun k hk=>(hp k hk).1) (n:=14) kR;have aI:=hJ;simp only[f12,f13]at aI;obtain⟨mi,mB,lv,jB,aI⟩:=aI;replace lv:=lv f10;try rw[lv]at hF
 replace jB:=jB f11;try rw[jB]at hF
 rw[f10,f11]at aI;change Mem ba w w_ [.au b1 36 [vS pA qs.length pc,vS (some nj) us.length ic,vI xe,vI xw,vI xa,vI xb],.au b4 36 [vS A1 ps.length c1,vS (some yt) is.length c3,vI xe,vI xw,vI xa,vI xb],.au mi 39 [vI 0,vI 0,vI 0,vT ⟨#[]⟩,aq],.au mB 39 [vI 0,vI 0,vI 0,vT ⟨#[]⟩,aq]]at aI;refine fo (kR:ao _ 0=some (none,.store 39 (.tmp 7) (.tmp 100),0,none)) hF kR kR (k':=1) rfl (b:=mi) (t0:=39) (vs:=(iV i)) (cs:=[vI 0,vI 0,vI 0,vT ⟨#[]⟩,aq]) kR kR kR (by simp only[Qfb,Qf2,Qfz];intro v hv;rcases hv with rfl|rfl|rfl|rfl|rfl<;>first|rfl|assumption) aI 2 rfl rfl ?_;intro w2 dY _ a2 ea _;refine aJ kR ?_;refine aY (d:=none) kR ea rfl ?_;show match ls 13 with|true=>_|false=>(∃(gH:Nat) (gS:Nat),_)
 rw[f13];exact⟨mi,mB,lv,jB,dY⟩;intro dM w_ ls vs bZ hJ bp bj hp hF;refine iW (g0:=none) ?_;replace hF:Fr dM 140 [(8,vs 11),(105,(.agg #[vI i.op,vI i.dst,vI i.n,vT i.name,vS rA i.args.length rc]))]:=hF.kp [8,105];have f12:ls 12=true:=aG bj (fun k hk=>(hp k hk).1) (n:=14) kR;have f13:ls 13=false:=bp;have f10:ls 10=true:=aG bj (fun k hk=>(hp k hk).1) (n:=14) kR;have f11:ls 11=true:=aG bj (fun k hk=>(hp k hk).1) (n:=14) kR;have aI:=hJ;simp only[f12,f13]at aI;obtain⟨mi,mB,lv,jB,aI⟩:=aI;try rw[lv]at hF
 try rw[jB]at hF
 refine fo (kR:ao _ 0=some (none,.store 39 (.tmp 8) (.tmp 105),0,none)) hF kR kR (k':=1) rfl (b:=mB) (t0:=39) (vs:=[vI i.op,vI i.dst,vI i.n,vT i.name,vS rA i.args.length rc]) (cs:=[vI 0,vI 0,vI 0,vT ⟨#[]⟩,aq]) kR kR kR (by simp only[Qfb,Qf2,Qfz];intro v hv;rcases hv with rfl|rfl|rfl|rfl|rfl<;>first|rfl|assumption) aI 3 rfl rfl ?_;intro w2 dY _ a2 ea _;refine aJ kR ?_;refine aY (d:=none) kR ea rfl ?_;show∃(gH:Nat) (gS:Nat),_;exact⟨mi,mB,lv,jB,dY⟩;intro aC TF ls vs cA oI hv fr;simp only[show ls 13=true from cA 13 dQ]at oI;revert aC;refine cH [(2,pT b1 0),(3,pT b4 0),(6,nV m),(7,vs 10),(8,vs 11)] ?_;obtain⟨gH,gS,lv,jB,oI⟩:=oI;try rw[lv]
 try rw[jB]
 clear lv jB;clear cA hv fr aC pU;clear vs ls;refine aQ<|aj 1<|bq (aZ gH) _ (ae (oI.get 2 rfl) rfl)<|aj 1<|bq (aZ gS) _ (ae (oI.get 3 rfl) rfl)<|gC (i.op !=i.op) fun Gx vy=> ?_
 obtain rfl:Gx=false:=by have bW:¬((i.op:Int)≠i.op):=oM;first|exact vy.trans (Qfh bW)|exact vy.trans (Qfi bW)|exact vy.trans (Qc3.2 bW)|exact vy.trans (QeY.2 bW)|exact vy.trans (Qe2.2 (fun e=>bW (Qc3.1 e)))|exact vy.trans (Qe2.2 (fun e=>bW (QeY.1 e)))
 clear vy;refine aj 2<|bq (ak gH 1) _ (ae (oI.get 2 rfl) rfl)<|aj 1<|bq (ak gS 1) _ (ae (oI.get 3 rfl) rfl)<|gC (i.dst !=i.dst) fun B51 nE=> ?_
 obtain rfl:B51=false:=by have bW:¬((i.dst:Int)≠i.dst):=oM;first|exact nE.trans (Qfh bW)|exact nE.trans (Qfi bW)|exact nE.trans (Qc3.2 bW)|exact nE.trans (QeY.2 bW)|exact nE.trans (Qe2.2 (fun e=>bW (Qc3.1 e)))|exact nE.trans (Qe2.2 (fun e=>bW (QeY.1 e)))
 clear nE;refine aj 3<|bq (ak gH 2) _ (ae (oI.get 2 rfl) rfl)<|dX [2,3,6,7,8,118,120]<|aj 1<|bq (ak gS 2) _ (ae (oI.get 3 rfl) rfl)<|gC (i.n !=i.n) fun PS vz=> ?_
 obtain rfl:PS=false:=by have bW:¬((i.n:Int)≠i.n):=oM;first|exact vz.trans (Qfh bW)|exact vz.trans (Qfi bW)|exact vz.trans (Qc3.2 bW)|exact vz.trans (QeY.2 bW)|exact vz.trans (Qe2.2 (fun e=>bW (Qc3.1 e)))|exact vz.trans (Qe2.2 (fun e=>bW (QeY.1 e)))
 clear vz;refine aj 3<|bq (ak gH 3) _ (ae (oI.get 2 rfl) rfl)<|aj 1<|bq (ak gS 3) _ (ae (oI.get 3 rfl) rfl)<|aj 3 ?_;obtain⟨nU,ke⟩:∃B:Bool,B=(!((i.name:cV).toList==(i.name:cV).toList)):=⟨_,rfl⟩;refine cH [(2,pT b1 0),(3,pT b4 0),(6,nV m),(7,pT gH 0),(8,pT gS 0),(132,(vB (!((i.name:cV).toList==(i.name:cV).toList))))] ?_;rw[←ke];have wL:nU=true↔(¬((i.name).toList=(i.name).toList)):=by rw[ke];simp only[jy,Qc3]
 clear ke;intro aC fr;refine cE 1 28 [133] fr (news:=[(133,cond (!nU) (pT gH 4) undef)]) (by cases nU<;>kernel_rfl) ?_;intro aC fr;refine aw (B:=(!nU)) (d:=(some 134)) (vS i.A i.args.length i.c) fr (by cases nU<;>kernel_rfl) (fun hB hh=> ?_) ?_;cases nU<;>first|(exact absurd hB dQ)|skip
 have kK:¬(¬((i.name).toList=(i.name).toList)):=jb wL.2;exact bf (some 134) (ak gH 4) fr kR (vS i.A i.args.length i.c) (ae (oI.get 2 rfl) rfl) hh;intro aC fr;refine cE 1 30 [135] fr (news:=[(135,cond (!nU) (pT gS 4) undef)]) (by cases nU<;>kernel_rfl) ?_;intro aC fr;refine aw (B:=(!nU)) (d:=(some 136)) (vS rA i.args.length rc) fr (by cases nU<;>kernel_rfl) (fun hB hh=> ?_) ?_;cases nU<;>first|(exact absurd hB dQ)|skip
 have kK:¬(¬((i.name).toList=(i.name).toList)):=jb wL.2;exact bf (some 136) (ak gS 4) fr kR (vS rA i.args.length rc) (ae (oI.get 3 rfl) rfl) hh;intro aC fr;cases nU;have kK:¬(¬((i.name).toList=(i.name).toList)):=jb wL.2;revert aC;refine ej (jW i.args i.A rA i.c rc TF hio.len ((hA.inst hx VE).at_ oI) ((sP.inst hy PR).at_ oI)) ?_;rintro _ I7 ⟨rfl,Xv⟩;have Cv:=oI.cl Xv;refine aj 2<|aE<|fT<|cg<|dh<|aj 1<|ep ((m:Int)+1)<|aj 1<|aE ?_;intro aC fr;exact⟨us.length-(m+1),oM,m+1,rfl,fr.kp [2,3,6],(Cv.tk 2),oM⟩;have kK:(¬((i.name).toList=(i.name).toList)):=wL.1 rfl;exact absurd kK sI;refine gq 2<|gr<|bC<|an<|cQ (vB true) ?_;have DD:=pU.od [] 0;exact⟨rfl,DD⟩
theorem iO(nm:cV)(wk:Bool)(pa va:Int)(A:aX)(c:Nat)(fs:List ay)(gs:List ay)(A2:aX)(c2:Nat)(w:World)(hN:fs.length≤1000)(gx:pL fs)(Vh:ec fs gs)(hA:RO ba w (.fn A fs))(sP:RO ba w (.fn A2 gs)):Calls Try.prog 24 #[fA nm wk pa va A c fs,(.agg #[vT nm,vB wk,vI pa,vI va,vS A2 ((af gs).length) c2])] w (fE fun v w'=>v=vB true∧Mem ba w w' []):=by
 have wA:=bE fs;have hB:=hA.bs;have hbl2:=bE gs;have TI:=sP.bs;have MK:=Vh.len;refine hZ 60 [fA nm wk pa va A c fs,(.agg #[vT nm,vB wk,vI pa,vI va,vS A2 ((af gs).length) c2])] Try.func24 ?_;have hM:=Mem.init w;refine aQ<|nJ hM 24 (fA nm wk pa va A c fs) (fV nm wk pa va A c fs) fun b1 w2 kH M3=> ?_
 replace M3:=M3.nf;clear hM;refine nJ M3 24 (.agg #[vT nm,vB wk,vI pa,vI va,vS A2 ((af gs).length) c2]) [vT nm,vB wk,vI pa,vI va,vS A2 ((af gs).length) c2] fun b4 w5 LW M6=> ?_
 replace M6:=M6.nf;refine aj 1<|aE<|bx<|aQ<|aj 1<|bq (aZ b1) _ (ae (M6.get 0 rfl) rfl)<|aj 1<|bq (aZ b4) _ (ae (M6.get 1 rfl) rfl)<|aj 2 ?_;obtain⟨B7,wv⟩:∃B:Bool,B=(!((nm:cV).toList==(nm:cV).toList)):=⟨_,rfl⟩;refine cH [(2,pT b1 0),(3,pT b4 0),(11,(vB (!((nm:cV).toList==(nm:cV).toList))))] ?_;rw[←wv];have RL:B7=true↔(¬((nm).toList=(nm).toList)):=by rw[wv];simp only[jy,Qc3]
 clear wv;intro aC fr;refine cE 1 7 [12] fr (news:=[(12,cond (!B7) (pT b1 1) undef)]) (by cases B7<;>kernel_rfl) ?_;intro aC fr;refine aw (B:=(!B7)) (d:=(some 13)) (vB wk) fr (by cases B7<;>kernel_rfl) (fun hB hh=> ?_) ?_;cases B7<;>first|(exact absurd hB dQ)|skip
 have c7:¬(¬((nm).toList=(nm).toList)):=jb RL.2;exact bf (some 13) (ak b1 1) fr kR (vB wk) (ae (M6.get 0 rfl) rfl) hh;intro aC fr;refine cE 1 9 [14] fr (news:=[(14,cond (!B7) (pT b4 1) undef)]) (by cases B7<;>kernel_rfl) ?_;intro aC fr;refine aw (B:=(!B7)) (d:=(some 15)) (vB wk) fr (by cases B7<;>kernel_rfl) (fun hB hh=> ?_) ?_;cases B7<;>first|(exact absurd hB dQ)|skip
 have c7:¬(¬((nm).toList=(nm).toList)):=jb RL.2;exact bf (some 15) (ak b4 1) fr kR (vB wk) (ae (M6.get 1 rfl) rfl) hh;intro aC fr;refine cE 3 13 [17,18] fr (news:=[(17,(vB (B7||(!(wk==wk))))),(18,(vB (B7||(!(wk==wk)))))]) (by cases B7<;>kernel_rfl) ?_;intro aC fr;obtain⟨pq,BJ⟩:∃B:Bool,B=(B7||(!(wk==wk))):=⟨_,rfl⟩;revert aC;refine cH [(2,pT b1 0),(3,pT b4 0),(18,(vB (B7||(!(wk==wk)))))] ?_;rw[←BJ];have xf:pq=true↔((¬((nm).toList=(nm).toList))∨(¬(wk=wk))):=by rw[BJ];simp only[Qfo,jy,Qc3,RL]
 clear BJ;intro aC fr;refine cE 1 14 [19] fr (news:=[(19,cond (!pq) (pT b1 2) undef)]) (by cases pq<;>kernel_rfl) ?_;intro aC fr;refine aw (B:=(!pq)) (d:=(some 20)) (vI pa) fr (by cases pq<;>kernel_rfl) (fun hB hh=> ?_) ?_;cases pq<;>first|(exact absurd hB dQ)|skip
 have zO:¬((¬((nm).toList=(nm).toList))∨(¬(wk=wk))):=jb xf.2;exact bf (some 20) (ak b1 2) fr kR (vI pa) (ae (M6.get 0 rfl) rfl) hh;intro aC fr;refine cE 1 16 [21] fr (news:=[(21,cond (!pq) (pT b4 2) undef)]) (by cases pq<;>kernel_rfl) ?_;intro aC fr;refine aw (B:=(!pq)) (d:=(some 22)) (vI pa) fr (by cases pq<;>kernel_rfl) (fun hB hh=> ?_) ?_;cases pq<;>first|(exact absurd hB dQ)|skip
 have zO:¬((¬((nm).toList=(nm).toList))∨(¬(wk=wk))):=jb xf.2;exact bf (some 22) (ak b4 2) fr kR (vI pa) (ae (M6.get 1 rfl) rfl) hh;intro aC fr;cases pq;have zO:¬((¬((nm).toList=(nm).toList))∨(¬(wk=wk))):=jb xf.2;revert aC;refine gC (pa !=pa) fun vC qP=> ?_
 obtain rfl:vC=false:=by have bW:¬((pa:Int)≠pa):=oM;first|exact qP.trans (Qfh bW)|exact qP.trans (Qfi bW)|exact qP.trans (Qc3.2 bW)|exact qP.trans (QeY.2 bW)|exact qP.trans (Qe2.2 (fun e=>bW (Qc3.1 e)))|exact qP.trans (Qe2.2 (fun e=>bW (QeY.1 e)))
 clear qP;refine aj 3<|bq (ak b1 3) _ (ae (M6.get 0 rfl) rfl)<|aj 1<|bq (ak b4 3) _ (ae (M6.get 1 rfl) rfl)<|gC (va !=va) fun YL vD=> ?_
 obtain rfl:YL=false:=by have bW:¬((va:Int)≠va):=oM;first|exact vD.trans (Qfh bW)|exact vD.trans (Qfi bW)|exact vD.trans (Qc3.2 bW)|exact vD.trans (QeY.2 bW)|exact vD.trans (Qe2.2 (fun e=>bW (Qc3.1 e)))|exact vD.trans (Qe2.2 (fun e=>bW (QeY.1 e)))
 clear vD;refine aj 3<|bq (ak b1 4) _ (ae (M6.get 0 rfl) rfl)<|dX [2,3,32,34]<|aj 2<|bq (ak b4 4) _ (ae (M6.get 1 rfl) rfl)<|aj 1<|gC (((af fs).length:Int) !=((af gs).length:Int)) fun bN qQ=> ?_
 obtain rfl:bN=false:=by have bW:¬((((af fs).length:Int):Int)≠((af gs).length:Int)):=oM;first|exact qQ.trans (Qfh bW)|exact qQ.trans (Qfi bW)|exact qQ.trans (Qc3.2 bW)|exact qQ.trans (QeY.2 bW)|exact qQ.trans (Qe2.2 (fun e=>bW (Qc3.1 e)))|exact qQ.trans (Qe2.2 (fun e=>bW (QeY.1 e)))
 clear qQ;refine aj 1<|aE<|fT<|cg<|bx<|bC<|cK 0 ?_;intro aC fr;refine gT (fun n_ a_ w_=>∃(k:Nat),n_=fs.length-k∧Fr a_ 60 [(2,pT b1 0),(3,pT b4 0),(5,nV k)]∧Mem ba w w_ [.au b1 24 (fV nm wk pa va A c fs),.au b4 24 [vT nm,vB wk,vI pa,vI va,vS A2 ((af gs).length) c2]]∧(k≤fs.length)) (n:=_) ⟨0,rfl,fr.kp [2,3,5],M6,oM⟩ ?_;clear fr aC M6;rintro n aC LU ⟨k,rfl,fr,me,hk⟩;revert aC;refine bx<|aQ<|aj 2<|bq (ak b1 4) _ (ae (me.get 0 rfl) rfl)<|aj 2<|aE<|jg ((k:Int)<((af fs).length:Int)) (fun VF=> ?_) (fun VF=> ?_);refine cg<|bx<|cK 1<|bx ?_;obtain⟨x,hx⟩:=bu (l:=fs) (i:=k) oM;obtain⟨A1,c1,ps,A3,c3,is,hy,UN,UO⟩:=rN Vh hx;have UQ:=gx x (QeV hx);obtain⟨yt,rfl⟩:=dN (me.ro hB) (gv hx);obtain⟨xC,rfl⟩:=dN (me.ro TI) (gv hy);refine dX [2,3,5] ?_;intro aC fr;refine Yg 10 (bL [eR b1 4,eS (some yt) ((af fs).length) c,.bg (nV k),eA yt (k:Int) 6,.bg (xA x),eR b4 4,eS (some xC) ((af gs).length) c2,.bg (nV k),eA xC (k:Int) 6,.bg (.agg #[vS A1 ps.length c1,vS A3 is.length c3,vI x.e,vI x.v,vI x.a,vI x.b])]) fr (rY (tZ lz dP (dL (ak b1 4) _ fun w_ hK=>(ae ((me.aD hK).get 0 rfl) rfl)) dP (dI yt ((af fs).length) 6 (k:Int)) (dS (aN yt (k:Int) 6) (xV x) fun w_ hK=>(cZ ((me.aD hK).ro hB) rfl hx)) dP (dL (ak b4 4) _ fun w_ hK=>(ae ((me.aD hK).get 1 rfl) rfl)) dP) (dI xC ((af gs).length) 6 (k:Int)) (dS (aN xC (k:Int) 6) [vS A1 ps.length c1,vS A3 is.length c3,vI x.e,vI x.v,vI x.a,vI x.b] fun w_ hK=>(cZ ((me.aD hK).ro TI) rfl hy))) ?_;intro aC Vf vs hK hv fr;revert aC;refine cH [(2,pT b1 0),(3,pT b4 0),(5,nV k),(52,xA x),(57,(.agg #[vS A1 ps.length c1,vS A3 is.length c3,vI x.e,vI x.v,vI x.a,vI x.b]))] ?_;have ER:=me.aD hK;clear hK hv fr aC me;clear vs;refine ej (vs:=#[xA x,(.agg #[vS A1 ps.length c1,vS A3 is.length c3,vI x.e,vI x.v,vI x.a,vI x.b])]) (lK fs gs _ _ k x.pA x.pc x.ah x.iA x.ic x.insts x.e x.v x.a x.b A1 c1 ps A3 c3 is Vf UQ (hA.at_ ER) hx (sP.at_ ER) hy UN UO) ?_;rintro _ bO ⟨rfl,XR⟩;have ES:=ER.cl XR;refine aj 1<|aE<|fT<|cg<|dh<|aj 1<|ep ((k:Int)+1)<|aj 1<|aE ?_;intro aC fr;exact⟨fs.length-(k+1),oM,k+1,rfl,fr.kp [2,3,5],ES,oM⟩;refine gq 0<|gr<|bC<|an<|cQ (vB true) ?_;have L4:=me.od [] 0;exact⟨rfl,L4⟩;have zO:((¬((nm).toList=(nm).toList))∨(¬(wk=wk))):=xf.1 rfl;exact absurd zO sI
end Go.Proofs.Ytejbeeaomokjpaa
namespace Go.Mor
open Go.RowKit
section
variable {T : Int → List Int}
theorem EL{U:Int→ar}(h:∀x t,t∈U x→t∈T x){x:Int}(hr:Reach U x):Reach T x:=by
 induction hr with
 |zero=>exact .zero
 |step _ ht ih=>exact .step ih (h _ _ ht)
theorem Qc9{a b x:Int}(hb:b≠0)(h:Reach (Cq T a) x):Reach (Cq T b) x∨Reach (Cq T a) b:=by
 induction h with
 |zero=>exact .inl .zero
 | @step x t hx ht ih=>
  rcases ih with ih|ih
  ·by_cases e:t=b
   ·exact .inr (e▸ .step hx ht)
   ·exact .inl (.step ih (im.2 ⟨(im.1 ht).1,e⟩))
  ·exact .inr ih
theorem Dm.trans{a b c:Int}(h1:Dm T a b)(h2:Dm T b c):Dm T a c:=by
 rintro⟨ha,hr⟩;by_cases hb:b=0
 ·subst hb;exact ha (Dm.yT h1)
 ·rcases Qc9 hb hr with h|h
  ·exact h2 ⟨hb,h⟩
  ·exact h1 ⟨ha,h⟩
theorem Rm{b x:Int}(hb:b≠0)(h:Reach (Cq T b) x):x≠b:=by
 cases h with
 |zero=>exact fun e=>hb e.symm
 |step _ ht=>exact(im.1 ht).2
theorem Dm.Qes{a b:Int}(hr:Reach T b)(h1:Dm T a b)(h2:Dm T b a):a=b:=by
 by_cases ha:a=0
 ·subst ha;exact(Dm.yT h2).symm
 by_cases hb:b=0
 ·subst hb;exact Dm.yT h1
 by_cases e:a=b
 ·exact e
 exfalso;have key:∀x,Reach T x→Reach (Cq (Cq T a) b) x∨Reach (Cq T b) a∨Reach (Cq T a) b:=by
  intro x hx;induction hx with
  |zero=>exact .inl .zero
  | @step x t hx ht ih=>
   rcases ih with ih|ih
   ·by_cases ea:t=a
    ·subst ea;refine .inr (.inl (.step (EL (fun x s hs=> ?_) ih) (im.2 ⟨ht,e⟩)));obtain⟨q1,q2⟩:=im.1 hs;exact im.2 ⟨(im.1 q1).1,q2⟩
    ·by_cases eb:t=b
     ·subst eb;refine .inr (.inr (.step (EL (fun x s hs=>(im.1 hs).1) ih) (im.2 ⟨ht,fun e2=>e e2.symm⟩)))
     ·exact .inl (.step ih (im.2 ⟨im.2 ⟨ht,ea⟩,eb⟩))
   ·exact .inr ih
 rcases key b hr with h|h|h
 ·exact Rm hb h rfl
 ·exact h2 ⟨hb,h⟩
 ·exact h1 ⟨ha,h⟩
theorem NL{c x:Int}(hr:Reach T x)(hx:x=c)(hc:c≠0):∃s,Reach (Cq T c) s∧c∈T s:=by
 have key:∀x,Reach T x→Reach (Cq T c) x∨∃s,Reach (Cq T c) s∧c∈T s:=by
  intro x h;induction h with
  |zero=>exact .inl .zero
  | @step x t _ ht ih=>
   rcases ih with ih|ih
   ·by_cases e:t=c
    ·subst e;exact .inr ⟨x,ih,ht⟩
    ·exact .inl (.step ih (im.2 ⟨ht,e⟩))
   ·exact .inr ih
 rcases key x hr with h|h
 ·exact absurd hx (Rm hc h)
 ·exact h
theorem QcC{c e:Int}(hr:Reach T c)(hc:c≠0)(h:∀s,Reach (Cq T c) s→c∈T s→Dm T e s):Dm T e c∧e≠c:=by
 constructor
 ·rintro⟨he,Xm⟩;obtain⟨s,hs,ht⟩:=NL (T:=Cq T e) Xm rfl hc;have h1:Reach (Cq T c) s:=EL (fun x t ht=>by obtain⟨q1,q2⟩:=im.1 ht;exact im.2 ⟨(im.1 q1).1,q2⟩) hs
  exact h s h1 (im.1 ht).1 ⟨he,EL (fun x t ht=>(im.1 ht).1) hs⟩
 ·rintro rfl;obtain⟨s,hs,ht⟩:=NL hr rfl hc;exact h s hs ht ⟨hc,hs⟩
end
section
variable {fs : List ay} {nm : ByteArray} {pa va : Int}
abbrev Av(pa va:Int)(fs:List ay)(v b q:Int):Prop:=bX (Dm (tg (af fs))) pa va (bF fs) v b q
theorem xM(h:j9 nm pa va fs){v b q:Int}:Av pa va fs v b q↔0≤v∧v<va∧(v<pa∨∃c k,(v,c,k)∈bF fs∧((c=b∧k<q)∨(c≠b∧Dm (tg (af fs)) c b))):=u3 h.yc.2.2
theorem dj(h:j9 nm pa va fs){v:Int}{p q:Int×Int}(h1:(v,p)∈bF fs)(h2:(v,q)∈bF fs):p=q:=by
 have e1:=(xB h.yc.2.2).2 h1;have e2:=(xB h.yc.2.2).2 h2;rw[e1]at e2;injection e2
theorem zn(h:j9 nm pa va fs){v:Int}{p:Int×Int}(h1:(v,p)∈bF fs):pa≤v∧v<va:=h.yc.2.1 _ h1
theorem Rn(h:j9 nm pa va fs){b:Int}(h0:0≤b)(h1:b<fs.length):Reach (tg (af fs)) b:=by
 have h2:=mv (bs:=af fs);rw[bE]at h2;have:=jO.1 (h2.1 h.all b.toNat oM);rwa [Qf7 h0]at this
theorem QcD(h:j9 nm pa va fs){u v b q c k:Int}(vX:0≤b)(kH:b<fs.length)(hd:(v,c,k)∈bF fs)(hu:Av pa va fs u c k)(hv:Av pa va fs v b q):Av pa va fs u b q:=by
 have bh:=zn h hd;obtain⟨h1,h2,h3⟩:=(xM h).1 hv;obtain⟨g1,g2,g3⟩:=(xM h).1 hu;refine(xM h).2 ⟨g1,g2,?_⟩;rcases g3 with g3|⟨e,m,hm,g3⟩
 ·exact .inl g3
 right;rcases h3 with h3|⟨c',k',zI,h3⟩
 ·omega
 have e1:=dj h hd zI;injection e1 with e1 e2;subst e1;subst e2;refine⟨e,m,hm,?_⟩;rcases g3 with⟨rfl,g3⟩|⟨g3,g4⟩
 ·exact h3.imp (fun⟨q1,q2⟩=>⟨q1,oM⟩) id
 ·right;rcases h3 with⟨rfl,_⟩|⟨q1,q2⟩
  ·exact⟨g3,g4⟩
  ·refine⟨fun e2=> ?_,g4.trans q2⟩;subst e2;exact g3 (Dm.Qes (Dm.reach (Rn h vX kH) q2) g4 q2)
theorem QcE(h:j9 nm pa va fs){v c k:Int}(hd:(v,c,k)∈bF fs):¬Av pa va fs v c k:=by
 intro hv;have bh:=zn h hd;obtain⟨_,_,h3⟩:=(xM h).1 hv;rcases h3 with h3|⟨c',k',zI,h3⟩
 ·omega
 ·have e1:=dj h hd zI;injection e1 with e1 e2;subst e1;subst e2;rcases h3 with⟨_,h3⟩|⟨h3,_⟩
  ·omega
  ·exact h3 rfl
def link(σ:Int→Int)(d o:Int):Int→Int:=fun v=>if σ v=d then o else σ v
structure Sub(pa va:Int)(fs:List ay)(σ:Int→Int):Prop where
 av:∀v b q:Int,0≤b→b<fs.length→Av pa va fs v b q→Av pa va fs (σ v) b q
 idem:∀v,σ (σ v)=σ v
 par:∀v,v<pa→σ v=v
theorem Sub.id:Sub pa va fs (fun v=>v):=⟨fun _ _ _ _ _ h=>h,fun _=>rfl,fun _ _=>rfl⟩
theorem Sub.link(h:j9 nm pa va fs){σ:Int→Int}(hs:Sub pa va fs σ){d o c k:Int}(hd:(d,c,k)∈bF fs)(HU:σ d=d)(rM:σ o=o)(ho:Av pa va fs o c k):Sub pa va fs (link σ d o):=by
 have cU:o≠d:=by rintro rfl;exact QcE h hd ho
 have bh:=zn h hd;refine⟨fun v b q h0 h1 hv=> ?_,fun v=> ?_,fun v hv=> ?_⟩
 ·unfold Go.Mor.link;have:=hs.av v b q h0 h1 hv;split
  ·rename_i e;rw[e]at this;exact QcD h h0 h1 hd ho this
  ·exact this
 ·unfold Go.Mor.link;by_cases e:σ v=d
  ·rw[Qe3 e,rM,QeW cU]
  ·rw[QeW e,hs.idem,QeW e]
 ·unfold Go.Mor.link;rw[hs.par v hv,QeW oM]
theorem Qda{σ:Int→Int}{d o:Int}(HU:σ d=d):link σ d o d=o:=by unfold link;rw[Qe3 HU]
theorem BM{σ:Int→Int}{d o v:Int}(h:σ v≠d):link σ d o v=σ v:=by unfold link;rw[QeW h]
def oH(σ:Int→Int)(d:Int):ar→Int→Option Int
 |[],one=>if one<0 then none else some one
 |a::l,one=>if σ a=d∨σ a=one then oH σ d l one else if 0≤one then none else oH σ d l (σ a)
theorem NM{σ:Int→Int}{d:Int}:∀{l:ar} {one o:Int},oH σ d l one=some o→(∀a,a∈l→0≤σ a)→0≤o∧(0≤one→o=one)∧(∀a,a∈l→σ a=d∨σ a=o)∧(one=o∨∃a,a∈l∧σ a=o∧σ a≠d)
 |[],one,o,h,_=>by
  unfold oH at h;split at h
  ·cases h
  ·injection h with h;subst h;exact⟨oM,fun _=>rfl,sI,.inl rfl⟩
 |a::l,one,o,h,hl=>by
  unfold oH at h;have LG:∀b,b∈l→0≤σ b:=fun b hb=>hl b (Qfa _ hb)
  have ha:=hl a (Qfs ..);split at h
  ·rename_i e;obtain⟨q1,q2,q3,q4⟩:=NM h LG;refine⟨q1,q2,fun b hb=> ?_,q4.imp id fun⟨b,hb,h1⟩=>⟨b,Qfa _ hb,h1⟩⟩;rcases Qfb.1 hb with rfl|hb
   ·rcases e with e|e
    ·exact .inl e
    ·by_cases h0:0≤one
     ·exact .inr (by rw[e,q2 h0])
     ·omega
   ·exact q3 b hb
  ·split at h
   ·cases h
   ·rename_i e _;obtain⟨q1,q2,q3,q4⟩:=NM h LG;have eo:=q2 ha;refine⟨q1,fun h0=>oM,fun b hb=> ?_,.inr ⟨a,Qfs ..,eo.symm,fun e2=>e (.inl e2)⟩⟩;rcases Qfb.1 hb with rfl|hb
    ·exact .inr eo.symm
    ·exact q3 b hb
theorem Ym(h:j9 nm pa va fs){σ:Int→Int}(hs:Sub pa va fs σ){k:Nat}{x:ay}(hx:fs[k]?=some x){p:bI}(hp:p∈x.ah){o:Int}(ho:oH σ p.dst p.args (-1)=some o):(p.dst,(k:Int),-1)∈bF fs∧σ o=o∧Av pa va fs o (k:Int) (-1):=by
 have hd:(p.dst,(k:Int),-1)∈bF fs:=sq.2 ⟨k,x,hx,rfl,.inl ⟨rfl,p,hp,rfl⟩⟩;have Jm:=(List.getElem?_eq_some_iff.1 hx).1;have EI:(k:Int)≠0:=by intro e;have:k=0:=oM;subst this;have:=h.ah x hx;exact absurd (QgV hp) oM
 obtain⟨y,hy,hr⟩:=h.reads k Jm;rw[hx]at hy;injection hy with hy;subst hy;obtain⟨j,hj⟩:=Qfe.1 hp;obtain⟨hl,XT⟩:=hr.ah j p hj;have Fh:∀(i:Nat) (a s:Int),p.args[i]?=some a→(bS (af fs) (k:Int))[i]?=some s→Av pa va fs (σ a) s 20000:=by intro i a s ha QJ;have Uw:=(AN.1 (QeV QJ)).1;rw[bE]at Uw;exact hs.av a s 20000 Uw.1 Uw.2 (XT i a s ha QJ)
 have yl:∀a,a∈p.args→0≤σ a:=by intro a ha;obtain⟨i,hi⟩:=Qfe.1 ha;obtain⟨s,QJ⟩:=bu (l:=bS (af fs) (k:Int)) (i:=i) (by rw[←hl];exact(List.getElem?_eq_some_iff.1 hi).1);exact(Fh i a s hi QJ).1
 obtain⟨q1,_,q3,q4⟩:=NM ho yl;have bh:=zn h hd;obtain⟨a0,Ij,e0,en0⟩:∃a,a∈p.args∧σ a=o∧σ a≠p.dst:=by
  rcases q4 with q4|q4
  ·omega
  ·exact q4
 have rM:σ o=o:=by rw[←e0,hs.idem]
 refine⟨hd,rM,?_⟩;have cA:∀s,Reach (Cq (tg (af fs)) (k:Int)) s→(k:Int)∈tg (af fs) s→Av pa va fs o s 20000:=by
  intro s mT N9;have Gg:s∈bS (af fs) (k:Int):=AN.2 ⟨mu (by rw[bE];exact h.pos) (EL (fun x t ht=>(im.1 ht).1) mT),N9⟩;obtain⟨i,hi⟩:=Qfe.1 Gg;obtain⟨a,ha⟩:=bu (l:=p.args) (i:=i) (by rw[hl];exact(List.getElem?_eq_some_iff.1 hi).1);have hv:=Fh i a s ha hi;rcases q3 a (QeV ha)with e|e
  ·exfalso;rw[e]at hv;obtain⟨_,_,h3⟩:=(xM h).1 hv;rcases h3 with h3|⟨c,m,zI,h3⟩
   ·omega
   ·have e1:=dj h hd zI;injection e1 with e1 e2;subst e1;rcases h3 with⟨h3,_⟩|⟨_,h3⟩
    ·exact Rm EI mT h3.symm
    ·exact h3 ⟨EI,mT⟩
  ·rw[e]at hv;exact hv
 have Na:=Rn h (b:=(k:Int)) oM oM;obtain⟨s0,Mj,ht0⟩:=NL Na rfl EI;obtain⟨o0,o1,o2⟩:=(xM h).1 (cA s0 Mj ht0);refine(xM h).2 ⟨o0,o1,?_⟩;rcases o2 with o2|⟨e,m,hm,_⟩
 ·exact .inl o2
 ·right;have hdm:=QcC (e:=e) Na EI (fun s mT N9=>by
   obtain⟨_,_,g⟩:=(xM h).1 (cA s mT N9);rcases g with g|⟨e',m',HK,g⟩
   ·have:=zn h hm;omega
   ·have e1:=dj h hm HK;injection e1 with e1 e2;subst e1;rcases g with⟨g,_⟩|⟨_,g⟩
    ·subst g;exact Dm.self _
    ·exact g)
  exact⟨e,m,hm,.inr ⟨hdm.2,hdm.1⟩⟩
theorem Tf(h:j9 nm pa va fs){k j:Nat}{x:ay}{i:aO}(hx:fs[k]?=some x)(hi:x.insts[j]?=some i){a:Int}(ha:a∈i.args):Av pa va fs a (k:Int) (j:Int):=by
 obtain⟨y,hy,hr⟩:=h.reads k (List.getElem?_eq_some_iff.1 hx).1;rw[hx]at hy;injection hy with hy;subst hy;obtain⟨m,hm⟩:=Qfe.1 ha;exact hr.insts j i hi m a hm
end
end Go.Mor
namespace Go.Mor
open Go.RowKit
def bl(σ:Int→Int)(d:Int):Bool:=σ d==d
def YI(σ:Int→Int)(p:bI):bI:=⟨p.dst,none,0,p.args.map σ⟩
def s5(σ:Int→Int)(i:aO):aO:=⟨i.op,i.dst,i.n,i.name,none,0,i.args.map σ⟩
def Pb(x:ay):Prop:=x.e=1∨(x.e=2∧0≤x.v)
instance (x : ay) : Decidable (Pb x) := by unfold Pb; infer_instance
def uc(σ:Int→Int)(x:ay):ay:=⟨none,0,(x.ah.filter (fun p=>bl σ p.dst)).map (YI σ),none,0,(x.insts.filter (fun i=>bl σ i.dst)).map (s5 σ),x.e,if Pb x then σ x.v else x.v,x.a,x.b⟩
def xD(σ:Int→Int)(fs:List ay):List ay:=fs.map (uc σ)
section
variable {fs : List ay} {nm : ByteArray} {pa va : Int} {σ : Int → Int}
theorem EU{k:Nat}{y:ay}:(xD σ fs)[k]?=some y↔∃x,fs[k]?=some x∧y=uc σ x:=by
 unfold xD;rw[List.getElem?_map,QfY];exact⟨fun⟨x,h,e⟩=>⟨x,h,e.symm⟩,fun⟨x,h,e⟩=>⟨x,h,e.symm⟩⟩
theorem QbP:(xD σ fs).map Dh=fs.map Dh:=by
 unfold xD;rw[Qe6];rfl
theorem Lb:(xD σ fs).length=fs.length:=by unfold xD;rw[Qe1]
theorem Qdb(x:ay):(nu (uc σ x)).Sublist (nu x):=by
 unfold nu uc;simp only[Qe6];refine List.Sublist.append ?_ ?_
 ·have:((fun p:bI=>p.dst)∘YI σ)=fun p=>p.dst:=rfl
  rw[this];exact Qgg.map _
 ·rw[Qgl,Qe6];have:((fun i:aO=>i.dst)∘s5 σ)=fun i=>i.dst:=rfl
  rw[this];have e2:((fun i:aO=>decide (aU i.op))∘s5 σ)=fun i=>decide (aU i.op):=rfl
  rw[e2];exact(Qgg.filter _).map _
theorem YJ(h:ey pa va (bF fs)):ey pa va (bF (xD σ fs)):=by
 have hs:((bF (xD σ fs)).map (·.1)).Sublist ((bF fs).map (·.1)):=by rw[pf,pf];unfold xD;rw[QgH];exact Be fun x _=>Qdb x
 refine⟨fun d hd=> ?_,h.2.sublist hs⟩;have:=hs.subset (QeU.2 ⟨d,hd,rfl⟩);obtain⟨e,he,h1⟩:=QeU.1 this;rw[←h1];exact h.1 e he
theorem sub_def{v:Int}{b q:Int}(hv:σ v=v)(h:(v,b,q)∈bF fs):∃q',(v,b,q')∈bF (xD σ fs)∧q'≤q∧∀(k:Nat) (x:ay) (j:Nat),fs[k]?=some x→b=(k:Int)→q<(j:Int)→q'<(nI (fun i=>bl σ i.dst) x.insts j:Int):=by
 obtain⟨k,x,hx,rfl,h|⟨j,i,hi,hm,rfl,rfl⟩⟩:=sq.1 h
 ·obtain⟨rfl,p,hp,rfl⟩:=h;refine⟨-1,sq.2 ⟨k,uc σ x,EU.2 ⟨x,hx,rfl⟩,rfl,.inl ⟨rfl,YI σ p,QeU.2 ⟨p,Qfk.2 ⟨hp,?_⟩,rfl⟩,rfl⟩⟩,oM,fun k' x' j' _ _ _=>oM⟩;unfold bl;rw[hv];exact beq_self_eq_true _
 ·have hk:bl σ i.dst=true:=by unfold bl;rw[hv];exact beq_self_eq_true _
  refine⟨(nI (fun i=>bl σ i.dst) x.insts j:Nat),sq.2 ⟨k,uc σ x,EU.2 ⟨x,hx,rfl⟩,rfl,.inr ⟨_,s5 σ i,?_,hm,rfl,rfl⟩⟩,?_,fun k' x' j' yk e hj=> ?_⟩
  ·show((x.insts.filter (fun i=>bl σ i.dst)).map (s5 σ))[_]?=_;rw[List.getElem?_map,F2 (f:=fun i:aO=>bl σ i.dst) hi hk];rfl
  ·have:=Nn (f:=fun i:aO=>bl σ i.dst) (l:=x.insts) j;omega
  ·have:k'=k:=oM;subst this;rw[hx]at yk;injection yk with yk;subst yk;have:=Q8 (f:=fun i:aO=>bl σ i.dst) hi hk (j:=j') oM;omega
theorem NP(h:j9 nm pa va fs)(hs:Sub pa va fs σ){v b q q':Int}(h0:0≤b)(h1:b<fs.length)(hq:(∃(k:Nat) (x:ay) (j:Nat),fs[k]?=some x∧b=(k:Int)∧q=(j:Int)∧q'=(nI (fun i=>bl σ i.dst) x.insts j:Int))∨q≤q')(hv:Av pa va fs v b q):bX (Dm (tg (af fs))) pa va (bF (xD σ fs)) (σ v) b q':=by
 obtain⟨g1,g2,g3⟩:=(xM h).1 (hs.av v b q h0 h1 hv);refine(u3 (YJ h.yc.2).2).2 ⟨g1,g2,g3.imp id ?_⟩;rintro⟨c,k,hd,h4⟩;obtain⟨k',zI,hle,fm⟩:=sub_def (hs.idem v) hd;refine⟨c,k',zI,h4.imp (fun⟨e,hk⟩=>⟨e,?_⟩) id⟩;rcases hq with⟨kb,x,j,hx,rfl,rfl,rfl⟩|hq
 ·exact fm kb x j hx e hk
 ·omega
theorem QbQ{i:aO}(h:bJ i):bJ (s5 σ i):=by
 unfold bJ at h⊢;simpa only[s5,Qe1]using h
theorem QcF(h:j9 nm pa va fs)(hs:Sub pa va fs σ):j9 nm pa va (xD σ fs):=by
 have he:=QbP (σ:=σ) (fs:=fs);have hl:=Lb (σ:=σ) (fs:=fs);refine⟨h.name,h.par,by rw[hl];exact h.pos,fun y hy=> ?_,?_,(Ri he).2 h.all,fun y hy=> ?_,⟨fun y hy p hp=> ?_,YJ h.yc.2⟩,fun k hk=> ?_⟩
 ·obtain⟨x,hx,rfl⟩:=EU.1 hy;have:=h.ah x hx;show((x.ah.filter _).map (YI σ)).length=0;rw[Qe1];have h2:=Qfx (fun p:bI=>bl σ p.dst) x.ah;omega
 ·rw[mw he];exact h.src
 ·obtain⟨x,hx,rfl⟩:=QeU.1 hy;rw[hl];have:=h.ends x hx;unfold ix at this⊢;show(x.e=0∧(0≤x.a∧x.a<_)∧(if Pb x then σ x.v else x.v)=0∧x.b=0)∨(x.e=1∧(0≤x.a∧x.a<_)∧(0≤x.b∧x.b<_)∧x.a≠x.b)∨(x.e=2∧x.a=0∧x.b=0)∨(x.e=3∧cN x.a∧(if Pb x then σ x.v else x.v)=0∧x.b=0);rcases this with⟨e,h1,h2,h3⟩|h1|h1|⟨e,h1,h2,h3⟩
  ·exact .inl ⟨e,h1,by rw[QeW (by unfold Pb;omega)];exact h2,h3⟩
  ·exact .inr (.inl h1)
  ·exact .inr (.inr (.inl h1))
  ·exact .inr (.inr (.inr ⟨e,h1,by rw[QeW (by unfold Pb;omega)];exact h2,h3⟩))
 ·obtain⟨x,hx,rfl⟩:=QeU.1 hy;obtain⟨i,hi,rfl⟩:=QeU.1 hp;exact QbQ (h.yc.1 x hx i (Qfk.1 hi).1)
 ·obtain⟨x,hx,hr⟩:=h.reads k oM;have Jm:(k:Int)<fs.length:=oM;refine⟨uc σ x,EU.2 ⟨x,hx,rfl⟩,⟨fun j p hp=> ?_,fun m p hp i a ha=> ?_,fun hR=> ?_⟩⟩
  ·have zG:((x.ah.filter (fun p=>bl σ p.dst)).map (YI σ))[j]?=some p:=hp;rw[List.getElem?_map,QfY]at zG;obtain⟨p0,I6,rfl⟩:=zG;obtain⟨j',h1,h2,_⟩:=sW I6;obtain⟨h3,h4⟩:=hr.ah j' p0 h1;rw[mw he,lJ he];refine⟨by show(p0.args.map σ).length=_;rw[Qe1];exact h3,fun i a s ha QJ=> ?_⟩;have nQ:(p0.args.map σ)[i]?=some a:=ha;rw[List.getElem?_map,QfY]at nQ;obtain⟨a0,Ij,rfl⟩:=nQ;have Uw:=(AN.1 (QeV QJ)).1;rw[bE]at Uw;exact NP h hs Uw.1 Uw.2 (.inr (QfJ _)) (h4 i a0 s Ij QJ)
  ·have zG:((x.insts.filter (fun i=>bl σ i.dst)).map (s5 σ))[m]?=some p:=hp;rw[List.getElem?_map,QfY]at zG;obtain⟨p0,I6,rfl⟩:=zG;obtain⟨j',h1,h2,h3⟩:=sW I6;have nQ:(p0.args.map σ)[i]?=some a:=ha;rw[List.getElem?_map,QfY]at nQ;obtain⟨a0,Ij,rfl⟩:=nQ;rw[lJ he];exact NP h hs oM Jm (.inl ⟨k,x,j',hx,rfl,rfl,by rw[h3]⟩) (hr.insts j' p0 h1 i a0 Ij)
  ·have QeS:=h.ends x (QeV hx);have hR2:pE x:=by
    rcases hR with e|⟨e,cU⟩
    ·exact .inl e
    ·refine .inr ⟨e,fun e2=> ?_⟩;apply cU;show(if Pb x then σ x.v else x.v)= -1;have e':x.e=2:=e;rw[QeW (by unfold Pb;omega)];exact e2
   have ht:=hr.fin hR2;have xI:Pb x:=by
    rcases hR2 with e|⟨e,_⟩
    ·exact .inl e
    ·exact .inr ⟨e,ht.1⟩
   show bX (Dm (tg (af (xD σ fs)))) pa va (bF (xD σ fs)) (if Pb x then σ x.v else x.v) (k:Int) 20000;rw[Qe3 xI,lJ he];exact NP h hs oM Jm (.inr (QfJ _)) ht
theorem QcG:hY (xD σ fs)≤hY fs:=by
 unfold hY jl;rw[Qfg (Qe9 _),Qfg (Qe9 _)];unfold xD;rw[Qe1,Qe6];have:∀l:List ay,(l.map ((fun x=>x.ah.length+x.insts.length)∘uc σ)).sum≤(l.map (fun x=>x.ah.length+x.insts.length)).sum:=by
  intro l;induction l with
  |nil=>simp
  |cons a l ih=>
   have h1:=Qfx (fun p:bI=>bl σ p.dst) a.ah;have h2:=Qfx (fun i:aO=>bl σ i.dst) a.insts;have h3:(uc σ a).ah.length=(a.ah.filter (fun p=>bl σ p.dst)).length:=by unfold uc;simp
   have h4:(uc σ a).insts.length=(a.insts.filter (fun i=>bl σ i.dst)).length:=by unfold uc;simp
   simp only[QfU,List.sum_cons,QgP];omega
 have:=this fs;omega
theorem Qb8(h:bV nm pa va fs=0)(hs:Sub pa va fs σ):bV nm pa va (xD σ fs)=0:=by
 unfold bV at h⊢;split at h
 ·cases h
 ·rename_i h1;split at h
  ·rename_i h2;have:=QcG (fs:=fs) (σ:=σ);rw[QeW oM,Qe3 (QcF h2 hs)]
  ·cases h
end
end Go.Mor
namespace Go.Mor
open Go.RowKit
section
variable {P : Program} {t : TypeId} {f0 f1 f2 f3 f4 : Field}
structure Qdc(P:Program)(t:TypeId)(f0 f1 f2 f3 f4:Field):Prop where
 VB:P.underlying t=some (.struct #[f0,f1,f2,f3,f4])
 held:P.stoodInHeld t=false
 n0:f0.name≠ "_"
 n1:f1.name≠ "_"
 n2:f2.name≠ "_"
 n3:f3.name≠ "_"
 n4:f4.name≠ "_"
 t0:P.underlying f0.type=some (.int .i64)
 t1:P.underlying f1.type=some (.int .i64)
 t2:P.underlying f2.type=some .string
 t3:P.underlying f3.type=some (.int .i64)
 t4:P.underlying f4.type=some (.int .i64)
 o0:f0.offset=0
 o1:f1.offset=1
 o2:f2.offset=2
 o3:f3.offset=3
 o4:f4.offset=4
abbrev QcH(a b:Int)(s:cV)(c d:Int):Value:= .agg #[vI a,vI b,.string s,vI c,vI d]
theorem sy{e:TypeId}(he:P.underlying e=some (.int .i64)){xs:Array Value}{off:Nat}{v:Value}(hx:xs[off]?=some v)(w:World):(part e xs off).run P w= .ok v w:=by
 simp[part,isAgg,Qfv he,hx]
theorem Ro{e:TypeId}(he:P.underlying e=some .string){xs:Array Value}{off:Nat}{v:Value}(hx:xs[off]?=some v)(w:World):(part e xs off).run P w= .ok v w:=by
 simp[part,isAgg,Qfv he,hx]
theorem Qdd(h:Qdc P t f0 f1 f2 f3 f4)(a b:Int)(s:cV)(c d:Int)(a' b':Int)(s':cV)(c' d':Int)(w:World):(Op.equal t (QcH a b s c d) (QcH a' b' s' c' d')).run P w= .ok ((a,b,s,c,d)==(a',b',s',c',d')) w:=by
 have hf:P.fieldsOf t=#[f0,f1,f2,f3,f4]:=by unfold Program.fieldsOf;rw[h.VB]
 unfold Op.equal;rw[show Op.maxDepth=9999+1 from rfl,run_equalIn_struct w 9999 t _ _ (by rw[hf];exact h.VB) h.held,hf];have e:((a,b,s,c,d)==(a',b',s',c',d'))=(a==a'&&(b==b'&&(s.toList==s'.toList&&(c==c'&&d==d')))):=by rw[←beq_toListBytes];rfl
 simp only[e,Op.eqFields,h.n0,h.n1,h.n2,h.n3,h.n4,h.o0,h.o1,h.o2,h.o3,h.o4,QfE,QfI,Qgc,Qfc];rw[sy h.t0 (v:=vI a) rfl,Qe5,sy h.t0 (v:=vI a') rfl,Qe5,QgQ w 9998 f0.type .i64 .i64 a a' h.t0,Qe5];cases a==a' with
 |false=>simp
 |true=>
  simp only[QgI,Qgi,QfR,QgJ,Qfc];rw[sy h.t1 (v:=vI b) rfl,Qe5,sy h.t1 (v:=vI b') rfl,Qe5,QgQ w 9998 f1.type .i64 .i64 b b' h.t1,Qe5];cases b==b' with
  |false=>simp
  |true=>
   simp only[QgI,Qgi,QfR,QgJ,Qfc];rw[Ro h.t2 (v:=vT s) rfl,Qe5,Ro h.t2 (v:=vT s') rfl,Qe5,run_equalIn_string w 9998 f2.type s s' h.t2,Qe5];cases s.toList==s'.toList with
   |false=>simp
   |true=>
    simp only[QgI,Qgi,QfR,QgJ,Qfc];rw[sy h.t3 (v:=vI c) rfl,Qe5,sy h.t3 (v:=vI c') rfl,Qe5,QgQ w 9998 f3.type .i64 .i64 c c' h.t3,Qe5];cases c==c' with
    |false=>simp
    |true=>
     simp only[QgI,Qgi,QfR,QgJ,Qfc];rw[sy h.t4 (v:=vI d) rfl,Qe5,sy h.t4 (v:=vI d') rfl,Qe5,QgQ w 9998 f4.type .i64 .i64 d d' h.t4,Qe5];cases d==d'<;>simp
abbrev K5:=Int×Int×cV×Int×Int
def qB(k:K5):Value:=QcH k.1 k.2.1 k.2.2.1 k.2.2.2.1 k.2.2.2.2
theorem YK(h:Qdc P t f0 f1 f2 f3 f4)(s:K5)(w:World):∀(es:List MapEntry) (l:List (K5×Value)) (i:Nat),es.map (fun e=>(e.key,e.val))=vU qB l→(Instr.findAsking t (qB s) es i).run P w= .ok ((XS l s).map (fun p=>(i+p.1,p.2))) w
 |[],l,i,hl=>by
  cases l with
  |nil=>rfl
  |cons x r=>simp[vU]at hl
 |x::es,l,i,hl=>by
  cases l with
  |nil=>simp[vU]at hl
  |cons y r=>
   obtain⟨k0,v0⟩:=y;simp only[vU,QfU,QgC,Qfl]at hl;obtain⟨⟨h1,h2⟩,h3⟩:=hl;unfold Instr.findAsking XS;rw[Qfc,h1];have he:=Qdd h s.1 s.2.1 s.2.2.1 s.2.2.2.1 s.2.2.2.2 k0.1 k0.2.1 k0.2.2.1 k0.2.2.2.1 k0.2.2.2.2 w;rw[show(Op.equal t (qB s) (qB k0)).run P w= .ok (s==k0) w from he,Qe5];cases s==k0 with
   |true=>simp[h2]
   |false=>
    simp only[Qgi,QfR];rw[YK h s w es r (i+1) h3];cases XS r s with
    |none=>rfl
    |some p=>simp only[Qfm];congr 2;rw[Nat.add_right_comm,Qgx]
theorem QbC(h:Qdc P t f0 f1 f2 f3 f4):Xr P t (.struct #[f0,f1,f2,f3,f4]) qB where
 SN em a w:=by
  have c:∀{e:TypeId} {d:TypeDesc} {v:Value},P.underlying e=some d→MapKept.IsKey d v→(Instr.checkKey em 9999 e v).run P w= .ok () w:=fun h1 h2=>MapKept.run_checkKey h1 h2 em 9998
  have ki:∀n:Int,MapKept.IsKey (.int .i64) (vI n):=fun _=>rfl
  have ks:∀n:cV,MapKept.IsKey .string (vT n):=fun _=>trivial
  show(Instr.checkKey em (9999+1) t (qB a)).run P w=_;unfold Instr.checkKey;simp only[qB,QcH,Qfc,Qfv h.VB,Qe5];rw[←Array.forIn_toList];simp only[List.forIn_cons,List.forIn_nil,h.n0,h.n1,h.n2,h.n3,h.n4,h.o0,h.o1,h.o2,h.o3,h.o4,QfE,QfI,Qgc,Qfc,QfV,Qe5];rw[sy h.t0 (v:=vI a.1) rfl,Qe5,c h.t0 (ki _),Qe5];simp only[QfV,Qfc,Qe5];rw[sy h.t1 (v:=vI a.2.1) rfl,Qe5,c h.t1 (ki _),Qe5];simp only[QfV,Qfc,Qe5];rw[Ro h.t2 (v:=vT a.2.2.1) rfl,Qe5,c h.t2 (ks _),Qe5];simp only[QfV,Qfc,Qe5];rw[sy h.t3 (v:=vI a.2.2.2.1) rfl,Qe5,c h.t3 (ki _),Qe5];simp only[QfV,Qfc,Qe5];rw[sy h.t4 (v:=vI a.2.2.2.2) rfl,Qe5,c h.t4 (ki _),Qe5];rfl
 fnd s es l w hl:=by
  unfold Instr.findKey;rw[Qfc,Qfv h.VB];simp only[Qe5];have ha:=YK h s w es l 0 hl;have e0:(XS l s).map (fun p=>(0+p.1,p.2))=XS l s:=by cases XS l s<;>simp
  rw[e0]at ha;cases es with
  |nil=>
   cases l with
   |nil=>rfl
   |cons x r=>simp[vU]at hl
  |cons x es=>
   have hn:Instr.findNow (.struct #[f0,f1,f2,f3,f4]) (qB s) (x::es) 0=none:=by unfold Instr.findNow Instr.sameNow;rfl
   rw[hn];exact ha
 stays a w:=by
  have:Instr.sameBits 10000 (qB a) (qB a)=true:=by unfold qB QcH;simp[Instr.sameBits,MapKept.bytes_beq]
  simp[Instr.keyThatStays,this]
 eqv a b e:=by
  obtain⟨a1,a2,a3,a4,a5⟩:=a;obtain⟨b1,b2,b3,b4,b5⟩:=b;have e2:(a1==b1&&(a2==b2&&(a3.toList==b3.toList&&(a4==b4&&a5==b5))))=true:=by rw[←beq_toListBytes];exact e
  rw[←beq_toListBytes]at e2;simp only[Qe0,Qc3]at e2;obtain⟨rfl,rfl,h3,rfl,rfl⟩:=e2;have:a3=b3:=by simpa[MapKept.bytes_beq]using h3
  rw[this]
end
end Go.Mor
namespace Go.Mor
open Go.RowKit
abbrev yu:=K5
def Ar(op n:Int)(name:cV)(l:ar):yu:=(op,n,name,l.getD 0 (-1),l.getD 1 (-1))
def Ds(σ:Int→Int)(p:bI):Int→Int:=match oH σ p.dst p.args (-1)with
 |some o=>link σ p.dst o
 |none=>σ
abbrev StI:=(Int→Int)×List (yu×Int)
def Fa(s:StI)(i:aO):StI:=if i.op=12 then(link s.1 i.dst (s.1 ((i.args.map s.1).getD 0 0)),s.2)else if cP i.op then match DF s.2 (Ar i.op i.n i.name (i.args.map s.1))with
  |some v=>(link s.1 i.dst v,s.2)
  |none=>(s.1,Xq s.2 (Ar i.op i.n i.name (i.args.map s.1)) i.dst)
 else s
def Fb(σ:Int→Int)(x:ay):Int→Int:=(x.insts.foldl Fa (x.ah.foldl Ds σ,[])).1
def YM(fs:List ay)(k:Nat):Int→Int:=(fs.take k).foldl Fb (fun v=>v)
def BV(fs:List ay):Int→Int:=fs.foldl Fb (fun v=>v)
def sz(fs:List ay):List ay:=xD (BV fs) fs
def qC:Nat→List ay→List ay
 |0,fs=>fs
 |n+1,fs=>if hY (sz fs)<hY fs then qC n (sz fs)else fs
def pt(fs:List ay):List ay:=qC (hY fs) fs
theorem Y4{α β:Type}[BEq α]{l:List (α×β)}{s:α}{v:β}{e:α×β}(h:e∈Xq l s v):e=(s,v)∨e∈l:=by
 induction l with
 |nil=>simp[Xq]at h;exact .inl h
 |cons a l ih=>
  obtain⟨k,u⟩:=a;unfold Xq at h;cases hs:s==k with
  |true=>
   rw[hs]at h;rcases Qfb.1 h with h|h
   ·exact .inl h
   ·exact .inr (Qfa _ h)
  |false=>
   rw[hs]at h;rcases Qfb.1 h with h|h
   ·exact .inr (h▸Qfs ..)
   ·exact(ih h).imp id (Qfa _)
theorem QbD{α β:Type}[BEq α]{l:List (α×β)}{s:α}{v:β}(h:DF l s=some v):∃k,(k,v)∈l∧(s==k)=true:=by
 induction l with
 |nil=>simp[DF]at h
 |cons a l ih=>
  obtain⟨k,u⟩:=a;unfold DF at h;cases hs:s==k with
  |true=>rw[hs]at h;injection h with h;subst h;exact⟨k,Qfs ..,hs⟩
  |false=>rw[hs]at h;obtain⟨k',h1,h2⟩:=ih h;exact⟨k',Qfa _ h1,h2⟩
section
variable {fs : List ay} {nm : ByteArray} {pa va : Int} {σ : Int → Int} {k j : Nat} {x : ay} {had : List (yu × Int)}
structure sX(va:Int)(σ:Int→Int)(d o:Int):Prop where
 dd:σ d=d
 oo:σ o=o
 ne:o≠d
 d0:0≤d
 d1:d<va
 o0:0≤o
 o1:o<va
theorem Xt(h:j9 nm pa va fs){d o c m:Int}(hd:(d,c,m)∈bF fs)(HU:σ d=d)(rM:σ o=o)(ho:Av pa va fs o c m):sX va σ d o:=by
 have bh:=zn h hd;have ZJ:=h.par;exact⟨HU,rM,by rintro rfl;exact QcE h hd ho,oM,bh.2,ho.1,ho.2.1⟩
structure oK(pa va:Int)(fs:List ay)(k:Nat)(σ:Int→Int):Prop where
 sub:Sub pa va fs σ
 F3:∀v c m:Int,(v,c,m)∈bF fs→(k:Int)≤c→σ v=v
structure pr(pa va:Int)(fs:List ay)(k:Nat)(x:ay)(j:Nat)(σ:Int→Int):Prop where
 sub:Sub pa va fs σ
 F3:∀v c m:Int,(v,c,m)∈bF fs→(k:Int)<c→σ v=v
 ah:∀(i:Nat) (p:bI),j≤i→x.ah[i]?=some p→σ p.dst=p.dst
 insts:∀v m:Int,(v,(k:Int),m)∈bF fs→0≤m→σ v=v
structure Xu(pa va:Int)(fs:List ay)(k:Nat)(x:ay)(j:Nat)(σ:Int→Int)(had:List (yu×Int)):Prop where
 sub:Sub pa va fs σ
 F3:∀v c m:Int,(v,c,m)∈bF fs→(k:Int)<c→σ v=v
 insts:∀v m:Int,(v,(k:Int),m)∈bF fs→(j:Int)≤m→σ v=v
 had:∀e,e∈had→σ e.2=e.2∧∃m:Int,0≤m∧m<j∧(e.2,(k:Int),m)∈bF fs
theorem oK.start:oK pa va fs 0 (fun v=>v):=⟨Sub.id,fun _ _ _ _ _=>rfl⟩
theorem oK.toP(h:oK pa va fs k σ)(hx:fs[k]?=some x):pr pa va fs k x 0 σ:=⟨h.sub,fun v c m hd hc=>h.F3 v c m hd oM,fun i p _ hp=>h.F3 p.dst k (-1) (sq.2 ⟨k,x,hx,rfl,.inl ⟨rfl,p,QeV hp,rfl⟩⟩) (QfJ _),fun v m hd _=>h.F3 v k m hd (QfJ _)⟩
theorem Qb9(h:j9 nm pa va fs)(hx:fs[k]?=some x):(nu x).Nodup:=by
 have:=h.yc.2.2;rw[pf]at this;exact this.sublist (rL (QeV hx))
theorem RM(h:j9 nm pa va fs)(hx:fs[k]?=some x){i:Nat}{p q:bI}(hp:x.ah[j]?=some p)(hq:x.ah[i]?=some q)(cU:i≠j):q.dst≠p.dst:=by
 have hn:=(QfO.1 (Qb9 h hx)).1;have zG:=QgO.1 hn;exact kQ (R:=fun a b:bI=>a.dst≠b.dst) (fun _ _ h e=>h e.symm) zG hq hp cU
theorem pr.step(h:j9 nm pa va fs)(hx:fs[k]?=some x)(hs:pr pa va fs k x j σ){p:bI}(hp:x.ah[j]?=some p):pr pa va fs k x (j+1) (Ds σ p)∧∀o,oH σ p.dst p.args (-1)=some o→sX va σ p.dst o:=by
 unfold Ds;cases ho:oH σ p.dst p.args (-1)with
 |none=>exact⟨⟨hs.sub,hs.F3,fun i q hi hq=>hs.ah i q oM hq,hs.insts⟩,fun o h=>by cases h⟩
 |some o=>
  obtain⟨hd,rM,XT⟩:=Ym h hs.sub hx (QeV hp) ho;have HU:=hs.ah j p (Qe9 _) hp;have cU:∀{v c m:Int},(v,c,m)∈bF fs→(c,m)≠((k:Int),(-1:Int))→σ v=v→link σ p.dst o v=v:=by intro v c m hv T6 e;rw[BM (by rw[e];rintro rfl;exact T6 (dj h hv hd)),e]
  refine⟨⟨hs.sub.link h hd HU rM XT,fun v c m hv hc=>cU hv (by intro e;injection e with e1;omega) (hs.F3 v c m hv hc),fun i q hi hq=> ?_,fun v m hv hm=>cU hv (by intro e;injection e with _ e1;omega) (hs.insts v m hv hm)⟩,fun o' e=>by injection e with e;subst e;exact Xt h hd HU rM XT⟩;have e:=hs.ah i q oM hq;show link σ p.dst o q.dst=q.dst;rw[BM (by rw[e];exact RM h hx hp hq oM),e]
theorem pr.toI(hs:pr pa va fs k x j σ):Xu pa va fs k x 0 σ []:=⟨hs.sub,hs.F3,fun v m hd hm=>hs.insts v m hd oM,sI⟩
theorem Xu.step(h:j9 nm pa va fs)(hx:fs[k]?=some x)(hs:Xu pa va fs k x j σ had){i:aO}(hi:x.insts[j]?=some i):Xu pa va fs k x (j+1) (Fa (σ,had) i).1 (Fa (σ,had) i).2∧(i.op=12→sX va σ i.dst (σ ((i.args.map σ).getD 0 0)))∧(i.op≠12→cP i.op→∀v,DF had (Ar i.op i.n i.name (i.args.map σ))=some v→sX va σ i.dst v):=by
 have uA:aU i.op→(i.dst,(k:Int),(j:Int))∈bF fs:=fun hm=>sq.2 ⟨k,x,hx,rfl,.inr ⟨j,i,hi,hm,rfl,rfl⟩⟩
 have cU:∀{o:Int},aU i.op→∀{v c m:Int},(v,c,m)∈bF fs→(c,m)≠((k:Int),(j:Int))→σ v=v→link σ i.dst o v=v:=by intro o hm v c m hv T6 e;rw[BM (by rw[e];rintro rfl;exact T6 (dj h hv (uA hm))),e]
 have keep:∀{o:Int},aU i.op→σ o=o→Av pa va fs o (k:Int) (j:Int)→Xu pa va fs k x (j+1) (link σ i.dst o) had:=by intro o hm rM XT;have HU:=hs.insts i.dst j (uA hm) (QfJ _);refine⟨hs.sub.link h (uA hm) HU rM XT,fun v c m hv hc=>cU hm hv (by intro e;injection e with e1;omega) (hs.F3 v c m hv hc),fun v m hv hl=>cU hm hv (by intro e;injection e with _ e1;omega) (hs.insts v m hv oM),fun e he=> ?_⟩;obtain⟨e1,m,Zf,dg,dY⟩:=hs.had e he;exact⟨cU hm dY (by intro e;injection e with _ e1;omega) e1,m,Zf,oM,dY⟩
 have stay:∀QdE,(∀e,e∈QdE→σ e.2=e.2∧∃m:Int,0≤m∧m<((j+1:Nat):Int)∧(e.2,(k:Int),m)∈bF fs)→Xu pa va fs k x (j+1) σ QdE:=fun QdE hh=>⟨hs.sub,hs.F3,fun v m hv hl=>hs.insts v m hv oM,hh⟩
 unfold Fa;by_cases yB:i.op=12
 ·rw[Qe3 yB];have hm:aU i.op:=iQ (.inr (.inl yB));have hlen:i.args.length=1:=by have:=h.yc.1 x (QeV hx) i (QeV hi);unfold bJ at this;omega
  obtain⟨a,ha⟩:∃a,i.args=[a]:=Qhl.1 hlen;have e:(i.args.map σ).getD 0 0=σ a:=by rw[ha];rfl
  have XT:=hs.sub.av a k j oM (by have:=(List.getElem?_eq_some_iff.1 hx).1;omega) (Tf h hx hi (a:=a) (by rw[ha];simp));simp only[e,hs.sub.idem];exact⟨keep hm (hs.sub.idem a) XT,fun _=>Xt h (uA hm) (hs.insts i.dst j (uA hm) (QfJ _)) (hs.sub.idem a) XT,fun hn=>absurd yB hn⟩
 ·rw[QeW yB];by_cases hp:cP i.op
  ·rw[Qe3 hp];have hm:=iQ hp;cases hl:DF had (Ar i.op i.n i.name (i.args.map σ))with
   |some v=>
    obtain⟨kk,nG,_⟩:=QbD hl;obtain⟨e1,m,Zf,dg,dY⟩:=hs.had _ nG;have bh:=zn h dY;have ZJ:=h.par;have XT:Av pa va fs v (k:Int) (j:Int):=(xM h).2 ⟨oM,bh.2,.inr ⟨k,m,dY,.inl ⟨rfl,dg⟩⟩⟩;refine⟨keep hm e1 XT,fun e=>absurd e yB,fun _ _ v' e=> ?_⟩;injection e with e;subst e;exact Xt h (uA hm) (hs.insts i.dst j (uA hm) (QfJ _)) e1 XT
   |none=>
    refine⟨stay _ fun e he=> ?_,fun e=>absurd e yB,fun _ _ v' e=>by cases e⟩;rcases Y4 he with rfl|he
    ·exact⟨hs.insts i.dst j (uA hm) (QfJ _),j,oM,oM,uA hm⟩
    ·obtain⟨e1,m,Zf,dg,dY⟩:=hs.had e he;exact⟨e1,m,Zf,oM,dY⟩
  ·rw[QeW hp];refine⟨stay _ fun e he=> ?_,fun e=>absurd e yB,fun _ h=>absurd h hp⟩;obtain⟨e1,m,Zf,dg,dY⟩:=hs.had e he;exact⟨e1,m,Zf,oM,dY⟩
theorem Xu.toA(hs:Xu pa va fs k x j σ had):oK pa va fs (k+1) σ:=⟨hs.sub,fun v c m hd hc=>hs.F3 v c m hd oM⟩
theorem uh{α β:Type}(f:β→α→β)(a:β){l:List α}{j:Nat}{y:α}(hy:l[j]?=some y):(l.take (j+1)).foldl f a=f ((l.take j).foldl f a) y:=by
 obtain⟨hj,he⟩:=List.getElem?_eq_some_iff.1 hy;rw[Qfj hj,List.foldl_append,he];rfl
theorem Tg{α β:Type}(f:β→α→β)(a:β){l:List α}{j:Nat}(hj:l.length≤j):(l.take j).foldl f a=l.foldl f a:=by rw[Qfg hj]
theorem Qbk(h:j9 nm pa va fs)(hx:fs[k]?=some x)(hs:oK pa va fs k σ):∀j,j≤x.ah.length→pr pa va fs k x j ((x.ah.take j).foldl Ds σ)
 |0,_=>hs.toP hx
 |j+1,hj=>by obtain⟨p,hp⟩:=bu (l:=x.ah) (i:=j) oM;rw[uh _ _ hp];exact((Qbk h hx hs j oM).step h hx hp).1
theorem Qbm(h:j9 nm pa va fs)(hx:fs[k]?=some x)(hs:oK pa va fs k σ):∀j,j≤x.insts.length→Xu pa va fs k x j ((x.insts.take j).foldl Fa (x.ah.foldl Ds σ,[])).1 ((x.insts.take j).foldl Fa (x.ah.foldl Ds σ,[])).2
 |0,_=>by have:=(Qbk h hx hs x.ah.length (Qe9 _)).toI;rw[Qf1]at this;exact this
 |j+1,hj=>by obtain⟨i,hi⟩:=bu (l:=x.insts) (i:=j) oM;rw[uh _ _ hi];exact((Qbm h hx hs j oM).step h hx hi).1
theorem QcI(h:j9 nm pa va fs)(hx:fs[k]?=some x)(hs:oK pa va fs k σ):oK pa va fs (k+1) (Fb σ x):=by
 have:=(Qbm h hx hs x.insts.length (Qe9 _)).toA;rw[Qf1]at this;exact this
theorem Xw(h:j9 nm pa va fs):∀k,k≤fs.length→oK pa va fs k (YM fs k)
 |0,_=>oK.start
 |k+1,hk=>by obtain⟨x,hx⟩:=bu (l:=fs) (i:=k) oM;unfold YM;rw[uh _ _ hx];exact QcI h hx (Xw h k oM)
theorem SL(h:j9 nm pa va fs):Sub pa va fs (BV fs):=by
 have:=(Xw h fs.length (Qe9 _)).sub;unfold YM at this;rwa [Qf1]at this
theorem Au(h:bV nm pa va fs=0):bV nm pa va (sz fs)=0:=Qb8 h (SL (qI h).1)
theorem Le:∀(n:Nat) {fs:List ay},bV nm pa va fs=0→bV nm pa va (qC n fs)=0
 |0,_,h=>h
 |n+1,fs,h=>by
  unfold qC;split
  ·exact Le n (Au h)
  ·exact h
theorem F4(h:bV nm pa va fs=0):bV nm pa va (pt fs)=0:=Le _ h
theorem SM:∀(n:Nat) (fs:List ay),(qC n fs).length=fs.length
 |0,_=>rfl
 |n+1,fs=>by
  unfold qC;split
  ·rw[SM n,sz,Lb]
  ·rfl
theorem NQ:(pt fs).length=fs.length:=SM _ _
theorem zE{n:Nat}(h:¬hY (sz fs)<hY fs):qC n fs=fs:=by
 cases n with
 |zero=>rfl
 |succ n=>unfold qC;rw[QeW h]
theorem Y7{n:Nat}:hY fs≤n→qC n fs=pt fs:=by
 intro h;have key:∀(m:Nat) (fs:List ay),hY fs≤m→∀n,hY fs≤n→qC n fs=qC m fs:=by
  intro m;induction m with
  |zero=>
   intro fs h0 n hn;rw[zE oM];rfl
  |succ m ih=>
   intro fs hm n hn;cases n with
   |zero=>
    rw[zE (n:=m+1) oM];rfl
   |succ n=>
    unfold qC;split
    ·exact ih _ oM _ oM
    ·rfl
 exact key _ _ (Qe9 _) _ h
end
end Go.Mor
namespace Go.Mor
open Go.RowKit
inductive Ch(to:ar):Int→Int→Nat→Prop
 |zero {v:Int}:0≤v→to[v.toNat]?=some v→Ch to v v 0
 |step {v u r:Int} {k:Nat}:0≤v→to[v.toNat]?=some u→u≠v→Ch to u r k→Ch to v r (k+1)
section
variable {to : List Int} {u v r s d o : Int} {k m : Nat}
theorem Ch.get(h:Ch to v r k):0≤v∧∃u,to[v.toNat]?=some u∧((u=v∧r=v∧k=0)∨(u≠v∧∃j,k=j+1∧Ch to u r j)):=by
 cases h with
 |zero h0 hv=>exact⟨h0,v,hv,.inl ⟨rfl,rfl,rfl⟩⟩
 | @step _ u _ j h0 hv cU hc=>exact⟨h0,u,hv,.inr ⟨cU,j,rfl,hc⟩⟩
theorem Ch.lt(h:Ch to v r k):0≤v∧v<to.length:=by
 obtain⟨h0,u,hu,_⟩:=h.get;have:=(List.getElem?_eq_some_iff.1 hu).1;exact⟨h0,oM⟩
theorem Ch.last(h:Ch to v r k):Ch to r r 0:=by
 induction h with
 |zero h0 hv=>exact .zero h0 hv
 |step _ _ _ _ ih=>exact ih
theorem Ch.set(hd:Ch to d d 0)(ho:Ch to o o 0)(cU:o≠d)(h:Ch to v r k):∃m,Ch (to.set d.toNat o) v (if r=d then o else r) m:=by
 have Uy:=hd.lt;have Vb:=ho.lt;have oo:Ch (to.set d.toNat o) o o 0:=by
  obtain⟨h0,u,hu,h2⟩:=ho.get;rcases h2 with⟨e,_,_⟩|⟨_,j,e,_⟩
  ·subst e;exact .zero h0 (by rw[List.getElem?_set_ne oM];exact hu)
  ·cases e
 induction h with
 | @zero v h0 hv=>
  by_cases e:v=d
  ·subst e;rw[Qe3 rfl];exact⟨1,.step h0 (by rw[List.getElem?_set_self oM]) cU oo⟩
  ·rw[QeW e];exact⟨0,.zero h0 (by rw[List.getElem?_set_ne oM];exact hv)⟩
 | @step v u r k h0 hv Qd0 hc ih=>
  obtain⟨m,hm⟩:=ih;have hvd:v≠d:=by
   rintro rfl;obtain⟨_,u',hu,h2⟩:=hd.get;rw[hv]at hu;injection hu with hu;subst hu;rcases h2 with⟨e,_,_⟩|⟨_,j,e,_⟩
   ·exact Qd0 e
   ·cases e
  exact⟨m+1,.step h0 (by rw[List.getElem?_set_ne oM];exact hv) Qd0 hm⟩
structure pH(va:Int)(D:Int→Prop)(to:ar)(σ:Int→Int):Prop where
 len:(to.length:Int)=va
 ch:∀v,D v→∃k,Ch to v (σ v) k
 cl:∀v,D v→D (σ v)
variable {va : Int} {D : Int → Prop} {σ : Int → Int}
theorem pH.root(h:pH va D to σ)(hv:D v)(e:σ v=v):Ch to v v 0:=by
 obtain⟨k,hk⟩:=h.ch v hv;rw[e]at hk;exact hk.last
theorem pH.set(h:pH va D to σ)(hd:D d)(ho:D o)(hl:sX va σ d o):pH va D (to.set d.toNat o) (link σ d o):=by
 have h1:=h.root hd hl.dd;have h2:=h.root ho hl.oo;refine⟨by rw[Qgs];exact h.len,fun v hv=> ?_,fun v hv=> ?_⟩
 ·obtain⟨k,hk⟩:=h.ch v hv;exact h1.set h2 hl.ne hk
 ·unfold link;split
  ·exact ho
  ·exact h.cl v hv
theorem pH.imp{E:Int→Prop}{τ:Int→Int}(h:pH va D to σ)(hE:∀v,E v→D v∧σ v=τ v)(hc:∀v,E v→E (τ v)):pH va E to τ:=⟨h.len,fun v hv=>by
  obtain⟨k,hk⟩:=h.ch v (hE v hv).1;rw[(hE v hv).2]at hk;exact⟨k,hk⟩,hc⟩
theorem Ch.next(h:Ch to v r k)(hu:to[v.toNat]?=some u)(cU:u≠v):∃j,k=j+1∧Ch to u r j:=by
 obtain⟨_,u',pQ,h2⟩:=h.get;rw[hu]at pQ;injection pQ with pQ;subst pQ;rcases h2 with⟨e,_,_⟩|⟨_,j,e,hc⟩
 ·exact absurd e cU
 ·exact⟨j,e,hc⟩
theorem Ch.stay(h:Ch to v r k)(hu:to[v.toNat]?=some v):r=v:=by
 obtain⟨_,u',pQ,h2⟩:=h.get;rw[hu]at pQ;injection pQ with pQ;subst pQ;rcases h2 with⟨_,e,_⟩|⟨cU,_⟩
 ·exact e
 ·exact absurd rfl cU
end
def vR(l:List (yu×Int)):List (yu×Value):=l.map (fun p=>(p.1,vI p.2))
theorem QdF(l:List (yu×Int))(s:yu):DF (vR l) s=(DF l s).map vI:=by
 induction l with
 |nil=>rfl
 |cons x r ih=>
  obtain⟨k,v⟩:=x;show DF ((k,vI v)::vR r) s=_;unfold DF;cases s==k with
  |true=>rfl
  |false=>exact ih
theorem QdG(l:List (yu×Int))(s:yu)(v:Int):Xq (vR l) s (vI v)=vR (Xq l s v):=by
 induction l with
 |nil=>rfl
 |cons x r ih=>
  obtain⟨k,u⟩:=x;show Xq ((k,vI u)::vR r) s _=_;unfold Xq;cases s==k with
  |true=>rfl
  |false=>show _::Xq (vR r) s _=_;rw[ih];rfl
theorem Qet(l:List (yu×Int))(s:yu):vj true (DF (vR l) s) (vI 0)= .tuple #[vI ((DF l s).getD 0),.bool (DF l s).isSome]:=by
 rw[QdF];unfold vj;cases DF l s<;>rfl
theorem BW{α:Type}{l:List α}{j:Nat}{x:α}(h:l[j]?=some x):l.drop j=x::l.drop (j+1):=by
 obtain⟨hk,he⟩:=List.getElem?_eq_some_iff.1 h;rw[QgT hk,he]
theorem Qcc{σ:Int→Int}{d a one:Int}{l:ar}(h:σ a=d∨σ a=one):oH σ d (a::l) one=oH σ d l one:=by rw[oH,Qe3 h]
theorem Qce{σ:Int→Int}{d a one:Int}{l:ar}(h:¬(σ a=d∨σ a=one))(h0:0≤one):oH σ d (a::l) one=none:=by rw[oH,QeW h,Qe3 h0]
theorem Qcg{σ:Int→Int}{d a one:Int}{l:ar}(h:¬(σ a=d∨σ a=one))(h0:¬0≤one):oH σ d (a::l) one=oH σ d l (σ a):=by rw[oH,QeW h,QeW h0]
def xH(to:ar)(d:Int):Option Int→ar
 |some o=>to.set d.toNat o
 |none=>to
def nv(σ:Int→Int)(d:Int):Option Int→Int→Int
 |some o=>link σ d o
 |none=>σ
theorem SO(σ:Int→Int)(p:bI):Ds σ p=nv σ p.dst (oH σ p.dst p.args (-1)):=by
 unfold Ds;cases oH σ p.dst p.args (-1)<;>rfl
def ld(σ:Int→Int)(had:List (yu×Int))(op n:Int)(name:cV)(l:ar):Option Int:=if op=12 then some (σ (l.getD 0 0))else if cP op then DF had (Ar op n name l)else none
def Jx(had:List (yu×Int))(op dst n:Int)(name:cV)(l:ar):List (yu×Int):=if op=12 then had else if cP op then match DF had (Ar op n name l)with
  |some _=>had
  |none=>Xq had (Ar op n name l) dst
 else had
theorem SP(σ:Int→Int)(had:List (yu×Int))(i:aO):Fa (σ,had) i=(nv σ i.dst (ld σ had i.op i.n i.name (i.args.map σ)),Jx had i.op i.dst i.n i.name (i.args.map σ)):=by
 unfold Fa ld Jx;by_cases h:i.op=12
 ·simp only[Qe3 h,nv]
 ·by_cases hp:cP i.op
  ·simp only[QeW h,Qe3 hp];cases DF had (Ar i.op i.n i.name (i.args.map σ))<;>rfl
  ·simp only[QeW h,QeW hp,nv]
theorem Oe{va:Int}{D:Int→Prop}{to:ar}{σ:Int→Int}{d:Int}(h:pH va D to σ)(hd:D d):∀(o:Option Int),(∀o',o=some o'→D o'∧sX va σ d o')→pH va D (xH to d o) (nv σ d o)
 |none,_=>h
 |some o,ho=>h.set hd (ho o rfl).1 (ho o rfl).2
end Go.Mor
namespace Go.Mor
open Go.RowKit
section
variable {α : Type} {f : α → α} {l : List α} {j : Nat} {x : α}
def mix(f:α→α)(l:List α)(j:Nat):List α:=(l.take j).map f++l.drop j
theorem F5:mix f l 0=l:=by simp[mix]
theorem Lf(h:l.length≤j):mix f l j=l.map f:=by unfold mix;rw[Qfg h,Qhm h,Qga]
theorem QbE:(mix f l j).length=l.length:=by unfold mix;simp;omega
theorem Lg(hx:l[j]?=some x):(mix f l j)[j]?=some x:=by
 obtain⟨hj,he⟩:=List.getElem?_eq_some_iff.1 hx;unfold mix;rw[List.getElem?_append_right (by simp;omega),List.getElem?_drop,Qe1,Qf4,Nat.min_eq_left oM,Qgf,Nat.add_zero,hx]
theorem Lh(hx:l[j]?=some x):(mix f l j).set j (f x)=mix f l (j+1):=by
 obtain⟨hj,he⟩:=List.getElem?_eq_some_iff.1 hx;unfold mix;rw[QgG _ _ (by simp;omega),Qe1,Qf4,Nat.min_eq_left oM,Qgf,QgT hj,List.set_cons_zero,Qfj hj,Qfq,he];simp
end
def D2(σ:Int→Int)(p:cI):cI:={p with args:=p.args.map σ}
def wu(σ:Int→Int)(i:aO):aO:={i with args:=i.args.map σ}
def Li(x:bz):Prop:=x.e=1∨(x.e=2∧0≤x.v)
instance (x : bz) : Decidable (Li x) := by unfold Li; infer_instance
def ph(σ:Int→Int)(x:bz):bz:={x with ah:=x.ah.map (D2 σ),insts:=x.insts.map (wu σ),v:=if Li x then σ x.v else x.v}
theorem Qcj(σ:Int→Int)(p:cI):(D2 σ p).cells=p.cells:=by unfold D2 cI.cells;simp
theorem Tw(σ:Int→Int)(i:aO):(wu σ i).cells=i.cells:=by unfold wu aO.cells;simp
theorem Qde(σ:Int→Int)(A:aX)(c:Nat)(l:List cI):s3 A c (l.map (D2 σ))=s3 A c l:=by
 unfold s3 zc;rw[Qe1,QgH];congr 1;exact QeZ (fun f=>l.flatMap f) (funext fun p=>Qcj σ p)
theorem Qdf(σ:Int→Int)(A:aX)(c:Nat)(l:List aO):dJ A c (l.map (wu σ))=dJ A c l:=by
 unfold dJ zL;rw[Qe1,QgH];congr 1;exact QeZ (fun f=>l.flatMap f) (funext fun p=>Tw σ p)
theorem Qdg(σ:Int→Int)(l:List cI):(l.map (D2 σ)).map fz=l.map fz:=by rw[Qe6];rfl
theorem QcJ(σ:Int→Int)(x:bz):gL (ph σ x)=[.au x.g 65 [.slice x.pA x.ah.length x.pc,.slice x.iA x.insts.length x.ic,vI x.e,vI (if Li x then σ x.v else x.v),vI x.a,vI x.b,.bool x.gone],s3 x.pA x.pc x.ah,dJ x.iA x.ic x.insts,.pk (x.ah.map fz),.pk ((x.ah.map (D2 σ)).map fj),.pk ((x.insts.map (wu σ)).map de)]:=by
 have e1:=Qde σ x.pA x.pc x.ah;have e2:=Qdf σ x.iA x.ic x.insts;have e3:=Qdg σ x.ah;show[bo.au x.g _ [.slice x.pA (x.ah.map (D2 σ)).length x.pc,.slice x.iA (x.insts.map (wu σ)).length x.ic,_,_,_,_,_],s3 x.pA x.pc (x.ah.map (D2 σ)),dJ x.iA x.ic (x.insts.map (wu σ)),.pk ((x.ah.map (D2 σ)).map fz),_,_]=_;rw[e1,e2,e3,Qe1,Qe1];rfl
theorem QdH(σ:Int→Int)(q:Nat)(nm:cV)(wk:Bool)(pa va:Int)(bA:aX)(bn bc:Nat)(A:aX)(c:Nat)(gs:List bz):gF q nm wk pa va bA bn bc A c (gs.map (ph σ))=[.au q 61 [.string nm,.bool wk,vI pa,vI va,.slice bA bn bc,.slice A gs.length c],jh A c gs,.pk ((gs.map (ph σ)).map gB)]:=by
 have e:jh A c (gs.map (ph σ))=jh A c gs:=by unfold jh jA;rw[Qe1,Qe6];rfl
 show[bo.au q _ [_,_,_,_,_,.slice A (gs.map (ph σ)).length c],jh A c (gs.map (ph σ)),_]=_;rw[e,Qe1]
abbrev Jf(ws:Nat)(TA:aX)(tc nt:Nat)(to:ar)(q:Nat)(nm:cV)(wk:Bool)(pa va:Int)(bA:aX)(bn bc:Nat)(A:aX)(c:Nat)(gs:List bz):List bo:= .au ws 75 [.pointer (some (aZ q)),.slice TA nt tc]:: .row 3 1 TA nt tc (ints to)::gF q nm wk pa va bA bn bc A c gs
structure QcK(D:Int→Prop)(x:bz):Prop where
 lp:x.ah.length≤20000
 li:x.insts.length≤20000
 ah:∀p,p∈x.ah→p.args.length≤20000∧∀a,a∈p.args→D a
 insts:∀i,i∈x.insts→i.args.length≤20000∧∀a,a∈i.args→D a
 fin:Li x→D x.v
theorem Al{α β:Type}{f:α→β}{l:List α}{k:Nat}{x:α}(hx:l[k]?=some x):(l.take (k+1)).map f=(l.take k).map f++[f x]:=by
 obtain⟨hk,he⟩:=List.getElem?_eq_some_iff.1 hx;rw[Qfj hk,Qfq,he];rfl
end Go.Mor
namespace Go.Mor
open Go.RowKit
section
variable {fs : List ay} {nm : ByteArray} {pa va : Int} {σ τ : Int → Int} {k j : Nat} {x : ay} {had : List (yu × Int)} {d o : Int}
theorem ZC(h:sX va σ d o)(v:Int):link σ d o v=v↔σ v=v∧v≠d:=by
 by_cases e:σ v=d
 ·unfold link;rw[Qe3 e];constructor
  ·rintro rfl;exact absurd (h.oo.symm.trans e) h.ne
  ·rintro⟨e1,e2⟩;exact absurd (e1.symm.trans e) e2
 ·rw[BM e];constructor
  ·intro e1;exact⟨e1,fun e2=>e (by rw[e1,e2])⟩
  ·exact fun e1=>e1.1
theorem Qck(hi:∀v,σ (σ v)=σ v)(v:Int):link σ d o (σ v)=link σ d o v:=by unfold link;rw[hi]
def uK(fs:List ay)(σ:Int→Int)(t:Bool):Prop:=(t=false→σ=fun v=>v)∧(t=true→∃v c m:Int,(v,c,m)∈bF fs∧σ v≠v)
theorem uK.start:uK fs (fun v=>v) false:=⟨fun _=>rfl,fun h=>(by cases h)⟩
theorem uK.on{c m:Int}(hl:sX va σ d o)(hd:(d,c,m)∈bF fs):uK fs (link σ d o) true:=⟨fun h=>(by cases h),fun _=>⟨d,c,m,hd,by rw[Qda hl.dd];exact hl.ne⟩⟩
theorem QdI:hY (xD (fun v=>v) fs)=hY fs:=by
 unfold hY jl;rw[Qfg (Qe9 _),Qfg (Qe9 _),Lb];unfold xD;rw[Qe6];have:((fun x:ay=>x.ah.length+x.insts.length)∘uc (fun v=>v))=fun x=>x.ah.length+x.insts.length:=by
  funext x;simp only[QgP,uc,Qe1];have e1:x.ah.filter (fun p=>bl (fun v=>v) p.dst)=x.ah:=Qgq.2 fun p _=>by unfold bl;simp
  have e2:x.insts.filter (fun p=>bl (fun v=>v) p.dst)=x.insts:=Qgq.2 fun p _=>by unfold bl;simp
  rw[e1,e2]
 rw[this]
theorem Gh{α:Type}{p:α→Bool}:∀{l:List α} {x:α},x∈l→p x=false→(l.filter p).length<l.length
 |a::l,x,h,hp=>by
  rw[Qgn];rcases Qfb.1 h with rfl|h
  ·rw[QeW (by simp[hp])];have:=Qfx p l;simp only[Qfw];omega
  ·have:=Gh h hp;split<;>simp only[Qfw]<;>omega
theorem QcL{v c m:Int}(hd:(v,c,m)∈bF fs)(hv:σ v≠v):hY (xD σ fs)<hY fs:=by
 obtain⟨k,x,hx,_,hh⟩:=sq.1 hd;have hk:bl σ v=false:=by unfold bl;simpa using hv
 have hb:(uc σ x).ah.length+(uc σ x).insts.length<x.ah.length+x.insts.length:=by
  unfold uc;simp only[Qe1];have h1:=Qfx (fun p:bI=>bl σ p.dst) x.ah;have h2:=Qfx (fun i:aO=>bl σ i.dst) x.insts;rcases hh with⟨_,p,hp,rfl⟩|⟨j,i,hi,_,rfl,_⟩
  ·have:=Gh (p:=fun p:bI=>bl σ p.dst) hp hk;omega
  ·have:=Gh (p:=fun i:aO=>bl σ i.dst) (QeV hi) hk;omega
 have key:∀(l:List ay),x∈l→(l.map ((fun x=>x.ah.length+x.insts.length)∘uc σ)).sum<(l.map (fun x=>x.ah.length+x.insts.length)).sum:=by
  have le:∀(l:List ay),(l.map ((fun x=>x.ah.length+x.insts.length)∘uc σ)).sum≤(l.map (fun x=>x.ah.length+x.insts.length)).sum:=by
   intro l;induction l with
   |nil=>simp
   |cons a l ih=>
    have h1:=Qfx (fun p:bI=>bl σ p.dst) a.ah;have h2:=Qfx (fun i:aO=>bl σ i.dst) a.insts;have h3:(uc σ a).ah.length=(a.ah.filter (fun p=>bl σ p.dst)).length:=by unfold uc;simp
    have h4:(uc σ a).insts.length=(a.insts.filter (fun i=>bl σ i.dst)).length:=by unfold uc;simp
    simp only[QfU,List.sum_cons,QgP];omega
  intro l hl;induction l with
  |nil=>cases hl
  |cons a l ih=>
   simp only[QfU,List.sum_cons,QgP];rcases Qfb.1 hl with rfl|hl
   ·have:=le l;omega
   ·have:=ih hl;have h1:=Qfx (fun p:bI=>bl σ p.dst) a.ah;have h2:=Qfx (fun i:aO=>bl σ i.dst) a.insts;have h3:(uc σ a).ah.length=(a.ah.filter (fun p=>bl σ p.dst)).length:=by unfold uc;simp
    have h4:(uc σ a).insts.length=(a.insts.filter (fun i=>bl σ i.dst)).length:=by unfold uc;simp
    omega
 unfold hY jl;rw[Qfg (Qe9 _),Qfg (Qe9 _),Lb];unfold xD;rw[Qe6];have:=key fs (QeV hx);omega
theorem NR{t:Bool}(h:uK fs (BV fs) t):t=decide (hY (sz fs)<hY fs):=by
 unfold sz;cases t with
 |false=>rw[h.1 rfl,QdI];simp
 |true=>
  obtain⟨v,c,m,hd,hv⟩:=h.2 rfl;rw[Qfh (QcL hd hv)]
theorem QcM{v c m:Int}(hd:(v,c,m)∈bF (xD σ fs)):σ v=v∧∃m',(v,c,m')∈bF fs:=by
 obtain⟨k,y,hy,rfl,hh⟩:=sq.1 hd;obtain⟨x,hx,rfl⟩:=EU.1 hy;rcases hh with⟨rfl,p,hp,rfl⟩|⟨j,i,hi,hm,rfl,rfl⟩
 ·obtain⟨q,hq,rfl⟩:=QeU.1 hp;obtain⟨XV,Xe⟩:=Qfk.1 hq;exact⟨(by simpa[bl]using Xe:σ q.dst=q.dst),-1,sq.2 ⟨k,x,hx,rfl,.inl ⟨rfl,q,XV,rfl⟩⟩⟩
 ·obtain⟨q,hq,rfl⟩:=QeU.1 (QeV hi);obtain⟨XV,Xe⟩:=Qfk.1 hq;obtain⟨j',Fk⟩:=Qfe.1 XV;exact⟨(by simpa[bl]using Xe:σ q.dst=q.dst),j',sq.2 ⟨k,x,hx,rfl,.inr ⟨j',q,Fk,hm,rfl,rfl⟩⟩⟩
def Dv(pa va:Int)(fs:List ay)(v:Int):Prop:=0≤v∧v<va∧(v<pa∨∃c m,(v,c,m)∈bF fs)
theorem T1(h:j9 nm pa va fs){v b q:Int}(hv:Av pa va fs v b q):Dv pa va fs v:=by
 obtain⟨h1,h2,h3⟩:=(xM h).1 hv;exact⟨h1,h2,h3.imp id fun⟨c,m,hd,_⟩=>⟨c,m,hd⟩⟩
theorem XM(h:j9 nm pa va fs){v c m:Int}(hd:(v,c,m)∈bF fs):Dv pa va fs v:=by
 have hr:=zn h hd;have:=h.par;exact⟨oM,hr.2,.inr ⟨c,m,hd⟩⟩
theorem Qdh{v:Int}(h:Dv pa va (xD σ fs) v)(hp:∀v,v<pa→σ v=v):Dv pa va fs v∧σ v=v:=by
 obtain⟨h1,h2,h3⟩:=h;rcases h3 with h3|⟨c,m,hd⟩
 ·exact⟨⟨h1,h2,.inl h3⟩,hp v h3⟩
 ·obtain⟨e,m',zI⟩:=QcM hd;exact⟨⟨h1,h2,.inr ⟨c,m',zI⟩⟩,e⟩
structure Ext(d:Int)(σ τ:Int→Int):Prop where
 comp:∀v,τ (σ v)=τ v
 fix:∀v,v≠d→(τ v=v↔σ v=v)
theorem Ext.refl(d:Int)(hi:∀v,σ (σ v)=σ v):Ext d σ σ:=⟨hi,fun _ _=>QfQ⟩
theorem Ext.Pp(hi:∀v,σ (σ v)=σ v)(hl:sX va σ d o):Ext d σ (link σ d o):=⟨Qck hi,fun v hv=>(ZC hl v).trans ⟨fun h=>h.1,fun h=>⟨h,hv⟩⟩⟩
theorem Js(hi:∀v,σ (σ v)=σ v):∀(r:Option Int),(∀o,r=some o→sX va σ d o)→Ext d σ (nv σ d r)
 |none,_=>Ext.refl d hi
 |some o,h=>Ext.Pp hi (h o rfl)
theorem Qcl(hi:σ d=d):∀(r:Option Int),(∀o,r=some o→sX va σ d o)→(nv σ d r d=d↔r=none)
 |none,_=>⟨fun _=>rfl,fun _=>hi⟩
 |some o,h=>⟨fun e=>by have:=(ZC (h o rfl) d).1 e;exact absurd rfl this.2,fun e=>by cases e⟩
theorem Oa(h:Ext d σ τ){v:Int}(hv:v≠d):bl τ v=bl σ v:=by
 unfold bl;rw[Qgz,Qc3,Qc3];exact h.fix v hv
theorem O9(hi:σ d=d)(r:Option Int)(h:∀o,r=some o→sX va σ d o):bl (nv σ d r) d=r.isNone:=by
 unfold bl;rw[Qgz,Qc3,Qcl hi r h];cases r<;>simp
theorem uK.next{t:Bool}{c m:Int}(ht:uK fs σ t)(hd:(d,c,m)∈bF fs∨∀o:Int,¬sX va σ d o):∀(r:Option Int),(∀o,r=some o→sX va σ d o)→uK fs (nv σ d r) (t||r.isSome)
 |none,_=>by rw[show(none:Option Int).isSome=false from rfl,QgR];exact ht
 |some o,h=>by
  rw[show(some o:Option Int).isSome=true from rfl,Bool.or_true];rcases hd with hd|hd
  ·exact uK.on (h o rfl) hd
  ·exact absurd (h o rfl) (hd o)
end
end Go.Mor
namespace Go.Mor
open Go.RowKit
theorem Jw(to:ar)(d:Int):∀r:Option Int,(xH to d r).length=to.length
 |none=>rfl
 |some _=>Qgs
section
variable {fs : List ay} {nm : ByteArray} {pa va : Int} {σ τ : Int → Int} {k j : Nat} {x : ay} {had : List (yu × Int)} {d o : Int}
structure BX(fs:List ay)(k:Nat)(σ τ:Int→Int):Prop where
 comp:∀v,τ (σ v)=τ v
 fix:∀v c m:Int,(v,c,m)∈bF fs→c<(k:Int)→(τ v=v↔σ v=v)
theorem BX.start(hi:∀v,σ (σ v)=σ v):BX fs k σ σ:=⟨hi,fun _ _ _ _ _=>QfQ⟩
theorem BX.step{ρ:Int→Int}(h:j9 nm pa va fs)(hb:BX fs k σ τ)(he:Ext d τ ρ){m:Int}(hd:(d,(k:Int),m)∈bF fs):BX fs k σ ρ:=⟨fun v=>by rw[←he.comp (σ v),hb.comp,he.comp],fun v c m' hv hc=>by
  refine Iff.trans (he.fix v ?_) (hb.fix v c m' hv hc);rintro rfl;have:=dj h hv hd;injection this with e;omega⟩
theorem Qbn(h:j9 nm pa va fs)(hx:fs[k]?=some x){p:bI}(hp:p∈x.ah):∀a,a∈p.args→Dv pa va fs a:=by
 intro a ha;obtain⟨y,hy,hr⟩:=h.reads k (List.getElem?_eq_some_iff.1 hx).1;rw[hx]at hy;injection hy with hy;subst hy;obtain⟨j,hj⟩:=Qfe.1 hp;obtain⟨hl,XT⟩:=hr.ah j p hj;obtain⟨i,hi⟩:=Qfe.1 ha;obtain⟨s,hs⟩:=bu (l:=bS (af fs) (k:Int)) (i:=i) (by rw[←hl];exact(List.getElem?_eq_some_iff.1 hi).1);exact T1 h (XT i a s hi hs)
theorem Qbo(h:j9 nm pa va fs)(hx:fs[k]?=some x){i:aO}(hi:i∈x.insts):∀a,a∈i.args→Dv pa va fs a:=by
 intro a ha;obtain⟨j,hj⟩:=Qfe.1 hi;exact T1 h (Tf h hx hj ha)
theorem Ob(h:j9 nm pa va fs)(hs:Sub pa va fs σ){v:Int}(hv:Dv pa va fs v):Dv pa va fs (σ v):=by
 obtain⟨h1,h2,h3⟩:=hv;rcases h3 with h3|⟨c,m,hd⟩
 ·rw[hs.par v h3];exact⟨h1,h2,.inl h3⟩
 ·obtain⟨kk,y,hy,rfl,_⟩:=sq.1 hd;have XT:Av pa va fs v (kk:Int) (m+1):=(xM h).2 ⟨h1,h2,.inr ⟨kk,m,hd,.inl ⟨rfl,oM⟩⟩⟩;exact T1 h (hs.av v kk (m+1) oM (by have:=(List.getElem?_eq_some_iff.1 hy).1;omega) XT)
theorem Qbp(h:j9 nm pa va fs)(hx:fs[k]?=some x)(hs:pr pa va fs k x j σ){p:bI}(hp:x.ah[j]?=some p):∀o,oH σ p.dst p.args (-1)=some o→Dv pa va fs o∧sX va σ p.dst o:=by
 intro o ho;obtain⟨_,_,XT⟩:=Ym h hs.sub hx (QeV hp) ho;exact⟨T1 h XT,(hs.step h hx hp).2 o ho⟩
theorem K3(h:j9 nm pa va fs)(hx:fs[k]?=some x)(hs:Xu pa va fs k x j σ had){i:aO}(hi:x.insts[j]?=some i):∀o,ld σ had i.op i.n i.name (i.args.map σ)=some o→Dv pa va fs o∧sX va σ i.dst o:=by
 intro o ho;obtain⟨_,yB,ND⟩:=hs.step h hx hi;unfold ld at ho;by_cases e:i.op=12
 ·rw[Qe3 e]at ho;injection ho with ho;subst ho;have hlen:i.args.length=1:=by have:=h.yc.1 x (QeV hx) i (QeV hi);unfold bJ at this;omega
  obtain⟨a,ha⟩:∃a,i.args=[a]:=Qhl.1 hlen;have hda:=Qbo h hx (QeV hi) a (by rw[ha];simp);refine⟨?_,yB e⟩;rw[ha];exact Ob h hs.sub (Ob h hs.sub hda)
 ·rw[QeW e]at ho;by_cases hp:cP i.op
  ·rw[Qe3 hp]at ho;refine⟨?_,ND e hp o ho⟩;obtain⟨kk,nG,_⟩:=QbD ho;obtain⟨_,m,_,_,hd⟩:=hs.had _ nG;exact XM h hd
  ·rw[QeW hp]at ho;cases ho
theorem Qdi(h:j9 nm pa va fs)(hx:fs[k]?=some x){i:aO}(hi:i∈x.insts)(yB:i.op=12):∃a,i.args=[a]:=by
 have:=h.yc.1 x (QeV hx) i hi;unfold bJ at this;exact Qhl.1 oM
theorem Gi(h:j9 nm pa va fs)(hx:fs[k]?=some x){i:aO}(hi:x.insts[j]?=some i){l:ar}(hr:ld σ had i.op i.n i.name l≠none):(i.dst,(k:Int),(j:Int))∈bF fs:=by
 refine sq.2 ⟨k,x,hx,rfl,.inr ⟨j,i,hi,?_,rfl,rfl⟩⟩;unfold ld at hr;by_cases e:i.op=12
 ·unfold aU;omega
 ·rw[QeW e]at hr;by_cases hp:cP i.op
  ·exact iQ hp
  ·rw[QeW hp]at hr;exact absurd rfl hr
end
structure p5(D:Int→Prop)(σ:Int→Int)(x y:bz):Prop where
 g:y.g=x.g
 e:y.e=x.e
 v:y.v=x.v
 a:y.a=x.a
 b:y.b=x.b
 gone:y.gone=x.gone
 ah:y.ah=x.ah.filter (fun p=>bl σ p.dst)
 insts:y.insts.map (s5 σ)=(x.insts.filter (fun i=>bl σ i.dst)).map (s5 σ)
 args:∀i,i∈y.insts→i.args.length≤20000∧∀a,a∈i.args→D a
theorem Qcm{σ τ:Int→Int}(hc:∀v,τ (σ v)=τ v)(i:aO):s5 τ (s5 σ i)=s5 τ i:=by
 unfold s5;simp only[Qe6,aO.mk.injEq,QfB];exact Qf3 fun a _=>hc a
theorem QbF{σ τ:Int→Int}(hc:∀v,τ (σ v)=τ v){l m:List aO}(h:l.map (s5 σ)=m.map (s5 σ)):l.map (s5 τ)=m.map (s5 τ):=by
 have h1:=QeZ (List.map (s5 τ)) h;rw[Qe6,Qe6]at h1;have e:(s5 τ∘s5 σ)=s5 τ:=funext fun i=>Qcm hc i
 rwa [e]at h1
theorem p5.next{fs:List ay}{pa va:Int}{k i:Nat}{σ τ:Int→Int}{x y:bz}(hb:BX fs k σ τ)(hx:fs[i]?=some x.f)(hi:i<k)(Qeu:∀v,v<0→τ v=v∧σ v=v)(hd:∀j∈x.insts,aU j.op∨j.dst<0)(h:p5 (Dv pa va fs) σ x y):p5 (Dv pa va fs) τ x y:=by
 refine⟨h.g,h.e,h.v,h.a,h.b,h.gone,?_,?_,h.args⟩
 ·rw[h.ah];refine Qgj fun p hp=> ?_
  unfold bl;rw[Qgz,Qc3,Qc3];exact(hb.fix p.dst i (-1) (sq.2 ⟨i,x.f,hx,rfl,.inl ⟨rfl,p.f,QeU.2 ⟨p,hp,rfl⟩,rfl⟩⟩) oM).symm
 ·have h1:=QbF hb.comp h.insts;rw[h1];congr 1;refine Qgj fun j hj=> ?_
  unfold bl;rw[Qgz,Qc3,Qc3];rcases hd j hj with hm|hm
  ·obtain⟨n,hn⟩:=Qfe.1 hj;exact(hb.fix j.dst i n (sq.2 ⟨i,x.f,hx,rfl,.inr ⟨n,j.e0,by show(x.insts.map aO.e0)[n]?=_;rw[List.getElem?_map,hn];rfl,hm,rfl,rfl⟩⟩) oM).symm
  ·have:=Qeu _ hm;exact⟨fun _=>this.1,fun _=>this.2⟩
end Go.Mor
namespace Go.Mor
open Go.RowKit
theorem Lj{α:Type}{σ τ:Int→Int}{g:α→Int}{l:List α}{y:α}{j:Nat}(hy:l[j]?=some y)(hk:∀(i:Nat) (z:α),i<j→l[i]?=some z→bl τ (g z)=bl σ (g z)):(l.take (j+1)).filter (fun z=>bl τ (g z))=(l.take j).filter (fun z=>bl σ (g z))++(if bl τ (g y)then[y]else[]):=by
 obtain⟨hj,he⟩:=List.getElem?_eq_some_iff.1 hy;rw[Qfj hj,QfL,he];have e1:List.filter (fun z=>bl τ (g z)) [y]=if bl τ (g y)then[y]else[]:=by rw[Qgn,List.filter_nil]
 rw[e1];congr 1;refine Qgj fun z hz=> ?_
 obtain⟨i,hi,rfl⟩:=QgL.1 hz;exact hk i _ oM (List.getElem?_eq_getElem oM)
structure nB(D:Int→Prop)(σ:Int→Int)(is us:List aO)(m:Nat):Prop where
 z:us.map aO.z=is.map aO.z
 drop:us.drop m=is.drop m
 sub:(us.take m).map (s5 σ)=(is.take m).map (s5 σ)
 args:∀i,i∈us→i.args.length≤20000∧∀a,a∈i.args→D a
section
variable {D : Int → Prop} {σ τ : Int → Int} {is us : List aO} {m : Nat} {i : aO}
theorem nB.start(h:∀i,i∈is→i.args.length≤20000∧∀a,a∈i.args→D a):nB D σ is is 0:=⟨rfl,rfl,rfl,h⟩
theorem nB.len(h:nB D σ is us m):us.length=is.length:=eM h.z
theorem nB.at(h:nB D σ is us m)(hi:is[m]?=some i):us[m]?=some i:=by
 have:(us.drop m)[0]?=some i:=by rw[h.drop];simpa using hi
 simpa using this
theorem Qd1(σ:Int→Int)(i:aO):(wu σ i).z=i.z:=by unfold wu aO.z;simp
theorem nB.put(h:nB D σ is us m)(hi:is[m]?=some i)(hc:∀v,τ (σ v)=τ v)(hD:∀v,D v→D (σ v)):nB D τ is (us.set m (wu σ i)) (m+1):=by
 have hu:=h.at hi;have Pt:=(List.getElem?_eq_some_iff.1 hu).1;refine⟨?_,?_,?_,fun j hj=> ?_⟩
 ·rw[Qgb,Qd1,h.z,←Qgb];congr 1;exact vp hi
 ·have e1:(us.set m (wu σ i)).drop (m+1)=us.drop (m+1):=by rw[Qg3,Qe3 oM]
  rw[e1];have:=QeZ (List.drop 1) h.drop;simpa[Qg0]using this
 ·have e1:(us.set m (wu σ i)).take (m+1)=us.take m++[wu σ i]:=by rw[Qfj (by simpa using Pt),QgU (Qe9 _)];simp
  rw[e1,Qfq,QbF hc h.sub,Al hi];congr 1;have:s5 τ (wu σ i)=s5 τ i:=by unfold s5 wu;simp only[Qe6,aO.mk.injEq,QfB];exact Qf3 fun a _=>hc a
  rw[QfU,Qgy,this]
 ·rcases Qhp hj with hj|rfl
  ·exact h.args j hj
  ·have hh:=h.args i (QeV hu);refine⟨by show(i.args.map σ).length≤_;rw[Qe1];exact hh.1,fun a ha=> ?_⟩;obtain⟨b,hb,rfl⟩:=QeU.1 (show a∈i.args.map σ from ha);exact hD _ (hh.2 b hb)
theorem nB.dst(h:nB D σ is us m){n:Nat}{u:aO}(hu:us[n]?=some u):∃y,is[n]?=some y∧y.dst=u.dst∧y.op=u.op:=by
 have h1:=QeZ (fun l:List aO=>l[n]?) h.z;simp only[List.getElem?_map,hu,Qfm]at h1;cases hy:is[n]? with
 |none=>rw[hy]at h1;cases h1
 |some y=>
  rw[hy,Qfm]at h1;injection h1 with h1;exact⟨y,rfl,(QeZ aO.dst h1).symm,(QeZ aO.op h1).symm⟩
theorem nB.kept(h:nB D σ is us m)(hm:is.length≤m):(us.filter (fun i=>bl τ i.dst)).map (s5 σ)=(is.filter (fun i=>bl τ i.dst)).map (s5 σ):=by
 have e:∀l:List aO,(l.filter (fun i=>bl τ i.dst)).map (s5 σ)=(l.map (s5 σ)).filter (fun i=>bl τ i.dst):=by intro l;rw[Qgl];rfl
 have hs:=h.sub;rw[Qfg hm,Qfg (by rw[h.len];exact hm)]at hs;rw[e,e,hs]
end
section
variable {fs : List ay} {nm : ByteArray} {pa va : Int} {σ : Int → Int} {k m : Nat} {x : ay} {had : List (yu × Int)}
theorem QcN(h:j9 nm pa va fs)(hx:fs[k]?=some x)(hs:Xu pa va fs k x m σ had){i:aO}(hi:x.insts[m]?=some i){n:Nat}(hn:n<m){y:aO}(hy:x.insts[n]?=some y):bl (nv σ i.dst (ld σ had i.op i.n i.name (i.args.map σ))) y.dst=bl σ y.dst:=by
 cases hr:ld σ had i.op i.n i.name (i.args.map σ)with
 |none=>rfl
 |some o=>
  have hl:=(K3 h hx hs hi o hr).2;have hd:=Gi h hx hi (l:=i.args.map σ) (σ:=σ) (had:=had) (by rw[hr];simp);refine Oa (Ext.Pp hs.sub.idem hl) (fun e=> ?_);have Ss:=h.yc.1 x (QeV hx) y (QeV hy);have h0:=hl.d0;have k9:aU y.op:=by
   rcases Ss.1 with hm|hm
   ·exact hm
   ·omega
  have hdy:(y.dst,(k:Int),(n:Int))∈bF fs:=sq.2 ⟨k,x,hx,rfl,.inr ⟨n,y,hy,k9,rfl,rfl⟩⟩;rw[e]at hdy;have:=dj h hdy hd;injection this with _ e2;omega
theorem QcO(h:j9 nm pa va fs)(hx:fs[k]?=some x)(hs:Xu pa va fs k x m σ had){i:aO}(hi:x.insts[m]?=some i){p:bI}(hp:p∈x.ah):bl (nv σ i.dst (ld σ had i.op i.n i.name (i.args.map σ))) p.dst=bl σ p.dst:=by
 cases hr:ld σ had i.op i.n i.name (i.args.map σ)with
 |none=>rfl
 |some o=>
  have hl:=(K3 h hx hs hi o hr).2;have hd:=Gi h hx hi (l:=i.args.map σ) (σ:=σ) (had:=had) (by rw[hr];simp);refine Oa (Ext.Pp hs.sub.idem hl) (fun e=> ?_);have hdp:(p.dst,(k:Int),(-1:Int))∈bF fs:=sq.2 ⟨k,x,hx,rfl,.inl ⟨rfl,p,hp,rfl⟩⟩;rw[e]at hdp;have:=dj h hdp hd;injection this with _ e2;omega
theorem Qdj(h:j9 nm pa va fs)(hx:fs[k]?=some x)(hs:Xu pa va fs k x m σ had){i:aO}(hi:x.insts[m]?=some i):bl (nv σ i.dst (ld σ had i.op i.n i.name (i.args.map σ))) i.dst=(ld σ had i.op i.n i.name (i.args.map σ)).isNone:=by
 refine O9 ?_ _ (fun o ho=>(K3 h hx hs hi o ho).2);have Ss:=h.yc.1 x (QeV hx) i (QeV hi);rcases Ss.1 with hm|hm
 ·exact hs.insts i.dst m (sq.2 ⟨k,x,hx,rfl,.inr ⟨m,i,hi,hm,rfl,rfl⟩⟩) (QfJ _)
 ·have hp:=h.par;exact hs.sub.par _ oM
theorem Qdk(h:j9 nm pa va fs)(hx:fs[k]?=some x)(hs:pr pa va fs k x m σ){p:bI}(hp:x.ah[m]?=some p):bl (nv σ p.dst (oH σ p.dst p.args (-1))) p.dst=(oH σ p.dst p.args (-1)).isNone:=O9 (hs.ah m p (Qe9 _) hp) _ (fun o ho=>(Qbp h hx hs hp o ho).2)
theorem Qcn(h:j9 nm pa va fs)(hx:fs[k]?=some x)(hs:pr pa va fs k x m σ){p:bI}(hp:x.ah[m]?=some p){n:Nat}(hn:n<m){q:bI}(hq:x.ah[n]?=some q):bl (nv σ p.dst (oH σ p.dst p.args (-1))) q.dst=bl σ q.dst:=Oa (Js hs.sub.idem _ (fun o ho=>(Qbp h hx hs hp o ho).2)) (RM h hx hp hq oM)
end
def Pc(σ:Int→Int)(x:gO):gO:=⟨(x.ah.filter (fun p=>bl σ p.dst)).map (fun p=>{p with args:=p.args.map σ}),(x.insts.filter (fun i=>bl σ i.dst)).map (s5 σ),x.e,if x.e=1∨(x.e=2∧0≤x.v)then σ x.v else x.v,x.a,x.b,x.gone⟩
theorem QdJ(σ:Int→Int)(x:gO):(Pc σ x).f=uc σ x.f:=by
 unfold Pc gO.f uc;simp only[ay.mk.injEq,QfB,QfH];refine⟨?_,rfl⟩;rw[Qe6,Qgl,Qe6];rfl
theorem QdK{D:Int→Prop}{σ:Int→Int}{x y:bz}(h:p5 D σ x y):(ph σ y).k=Pc σ x.k:=by
 unfold bz.k Pc ph;simp only[gO.mk.injEq];refine⟨?_,?_,h.e,?_,h.a,h.b,h.gone⟩
 ·rw[h.ah,Qe6,Qgl,Qe6];rfl
 ·rw[Qe6];have e1:(aO.e0∘wu σ)=s5 σ:=rfl;rw[e1,h.insts,Qgl,Qe6];rfl
 ·have e1:=h.e;have e2:=h.v;by_cases hG:Li y
  ·rw[Qe3 hG,Qe3 (by unfold Li at hG;rw[e1,e2]at hG;exact hG)];exact QeZ σ e2
  ·rw[QeW hG,QeW (fun hh=>hG (by unfold Li;rw[e1,e2];exact hh))];exact e2
theorem Qd2{D:Int→Prop}{σ:Int→Int}{x y:bz}(h:p5 D σ x y)(hl:x.ah.length≤20000)(hi:x.insts.length≤20000)(hp:∀p,p∈x.ah→p.args.length≤20000∧∀a,a∈p.args→D a)(hv:Li x→D x.v):QcK D y:=by
 refine⟨by rw[h.ah];exact QfD (Qfx _ _) hl,?_,fun p zG=> ?_,h.args,fun hh=> ?_⟩
 ·have:=QeZ List.length h.insts;rw[Qe1,Qe1]at this;rw[this];exact QfD (Qfx _ _) hi
 ·rw[h.ah]at zG;exact hp p (Qfk.1 zG).1
 ·rw[h.v];exact hv (by unfold Li at hh⊢;rw[h.e,h.v]at hh;exact hh)
section
variable {gs : List bz} {nm : ByteArray} {pa va : Int} {σ τ : Int → Int} {k m j : Nat} {x : bz} {had : List (yu × Int)} {us : List aO} {D : Int → Prop}
theorem Jy(hx:gs[k]?=some x):(gs.map bz.f)[k]?=some x.f:=by rw[List.getElem?_map,hx];rfl
theorem LB{p:cI}(hp:x.ah[j]?=some p):x.f.ah[j]?=some p.f:=by show(x.ah.map cI.f)[j]?=_;rw[List.getElem?_map,hp];rfl
theorem zF{i:aO}(hi:x.insts[m]?=some i):x.f.insts[m]?=some i.e0:=by show(x.insts.map aO.e0)[m]?=_;rw[List.getElem?_map,hi];rfl
theorem Qdl(h:j9 nm pa va (gs.map bz.f))(hx:gs[k]?=some x)(hs:pr pa va (gs.map bz.f) k x.f j σ){p:cI}(hp:x.ah[j]?=some p):(x.ah.take (j+1)).filter (fun q=>bl (nv σ p.dst (oH σ p.dst p.args (-1))) q.dst)=(x.ah.take j).filter (fun q=>bl σ q.dst)++(if(oH σ p.dst p.args (-1)).isNone then[p]else[]):=by
 have h1:=Lj (σ:=σ) (τ:=nv σ p.dst (oH σ p.dst p.args (-1))) (g:=cI.dst) hp (fun n z hn hz=>Qcn (p:=p.f) (q:=z.f) h (Jy hx) hs (LB hp) hn (LB hz));rw[h1,show bl (nv σ p.dst (oH σ p.dst p.args (-1))) p.dst=_ from Qdk (p:=p.f) h (Jy hx) hs (LB hp)];rfl
theorem Qdm(h:j9 nm pa va (gs.map bz.f))(hx:gs[k]?=some x)(hs:Xu pa va (gs.map bz.f) k x.f m σ had)(hu:nB D σ x.insts us m){i:aO}(hi:x.insts[m]?=some i):((us.set m (wu σ i)).take (m+1)).filter (fun z=>bl (nv σ i.dst (ld σ had i.op i.n i.name (i.args.map σ))) z.dst)=(us.take m).filter (fun z=>bl σ z.dst)++(if(ld σ had i.op i.n i.name (i.args.map σ)).isNone then[wu σ i]else[]):=by
 have Pt:=(List.getElem?_eq_some_iff.1 (hu.at hi)).1;have h1:=Lj (σ:=σ) (τ:=nv σ i.dst (ld σ had i.op i.n i.name (i.args.map σ))) (g:=aO.dst) (l:=us.set m (wu σ i)) (j:=m) (y:=wu σ i) (by rw[List.getElem?_set_self Pt]) (fun n z hn hz=>by rw[List.getElem?_set_ne oM]at hz;obtain⟨y,hy,e1,_⟩:=hu.dst hz;rw[←e1];exact QcN (i:=i.e0) (y:=y.e0) h (Jy hx) hs (zF hi) hn (zF hy))
 rw[h1,QgU (Qe9 _),show bl (nv σ i.dst (ld σ had i.op i.n i.name (i.args.map σ))) (wu σ i).dst=_ from Qdj (i:=i.e0) h (Jy hx) hs (zF hi)];rfl
theorem QbG(h:j9 nm pa va (gs.map bz.f))(hx:gs[k]?=some x)(hs:Xu pa va (gs.map bz.f) k x.f m σ had){i:aO}(hi:x.insts[m]?=some i):x.ah.filter (fun q=>bl (nv σ i.dst (ld σ had i.op i.n i.name (i.args.map σ))) q.dst)=x.ah.filter (fun q=>bl σ q.dst):=Qgj fun p hp=>QcO (i:=i.e0) (p:=p.f) h (Jy hx) hs (zF hi) (show p.f∈x.f.ah from QeU.2 ⟨p,hp,rfl⟩)
theorem QbH(h:j9 nm pa va (gs.map bz.f))(hx:gs[k]?=some x)(hs:Xu pa va (gs.map bz.f) k x.f m σ had){ρ:Int→Int}{i:aO}(hi:x.insts[m]?=some i)(hb:BX (gs.map bz.f) k ρ σ):BX (gs.map bz.f) k ρ (nv σ i.dst (ld σ had i.op i.n i.name (i.args.map σ))):=by
 cases hr:ld σ had i.op i.n i.name (i.args.map σ)with
 |none=>exact hb
 |some o=>
  have hl:=(K3 (i:=i.e0) h (Jy hx) hs (zF hi) o hr).2;have hd:=Gi (i:=i.e0) h (Jy hx) (zF hi) (l:=i.args.map σ) (σ:=σ) (had:=had) (by show ld σ had i.op i.n i.name (i.args.map σ)≠none;rw[hr];simp);exact hb.step h (Ext.Pp hs.sub.idem hl) hd
theorem QcP(h:j9 nm pa va (gs.map bz.f))(hx:gs[k]?=some x)(hs:Xu pa va (gs.map bz.f) k x.f m σ had){t:Bool}{i:aO}(hi:x.insts[m]?=some i)(ht:uK (gs.map bz.f) σ t):uK (gs.map bz.f) (nv σ i.dst (ld σ had i.op i.n i.name (i.args.map σ))) (t||(ld σ had i.op i.n i.name (i.args.map σ)).isSome):=by
 cases hr:ld σ had i.op i.n i.name (i.args.map σ)with
 |none=>rw[show(none:Option Int).isSome=false from rfl,QgR];exact ht
 |some o=>
  rw[show(some o:Option Int).isSome=true from rfl,Bool.or_true];have hl:=(K3 (i:=i.e0) h (Jy hx) hs (zF hi) o hr).2;exact uK.on hl (Gi (i:=i.e0) h (Jy hx) (zF hi) (l:=i.args.map σ) (σ:=σ) (had:=had) (by show ld σ had i.op i.n i.name (i.args.map σ)≠none;rw[hr];simp))
theorem Qdn(h:j9 nm pa va (gs.map bz.f)){hd:List bz}(hb:BX (gs.map bz.f) k σ τ)(mT:Sub pa va (gs.map bz.f) σ)(N9:Sub pa va (gs.map bz.f) τ)(ha:qF (p5 (Dv pa va (gs.map bz.f)) σ) (gs.take k) hd):qF (p5 (Dv pa va (gs.map bz.f)) τ) (gs.take k) hd:=by
 refine⟨ha.1,fun i y z hy hz=> ?_⟩;have hp:=ha.2 i y z hy hz;have ft:i<k:=by have:=(List.getElem?_eq_some_iff.1 hy).1;rw[Qf4]at this;omega
 have hyg:gs[i]?=some y:=by rw[List.getElem?_take,Qe3 ft]at hy;exact hy
 have ZJ:=h.par;refine hp.next hb (Jy hyg) ft (fun v hv=>⟨N9.par v oM,mT.par v oM⟩) (fun q hq=> ?_);have:=(h.yc.1 y.f (QeV (Jy hyg)) q.e0 (QeU.2 ⟨q,hq,rfl⟩)).1;exact this.imp id (fun e=>by have e2:q.dst= -1:=e;omega)
theorem LC{fs:List ay}{x:ay}{to:ar}{i:aO}(hr:pH va (Dv pa va fs) to σ)(h:j9 nm pa va fs)(hx:fs[k]?=some x)(hs:Xu pa va fs k x m σ had)(hi:x.insts[m]?=some i):pH va (Dv pa va fs) (xH to i.dst (ld σ had i.op i.n i.name (i.args.map σ))) (nv σ i.dst (ld σ had i.op i.n i.name (i.args.map σ))):=by
 cases hq:ld σ had i.op i.n i.name (i.args.map σ)with
 |none=>exact hr
 |some o=>
  have hd:=Gi h hx hi (l:=i.args.map σ) (σ:=σ) (had:=had) (by rw[hq];simp);obtain⟨h1,h2⟩:=K3 h hx hs hi o hq;exact hr.set (XM h hd) h1 h2
theorem QdL{hd:List bz}(h:qF (p5 D σ) gs hd):hd.length=gs.length:=h.1.symm
theorem QbI{hd:List bz}(h:qF (p5 D σ) gs hd):hd.map (fun x=>x.g)=gs.map (fun x=>x.g):=by
 have hl:=h.1;refine QfF fun i=> ?_
 rw[List.getElem?_map,List.getElem?_map];by_cases hi:i<gs.length
 ·obtain⟨y,hy⟩:=bu (l:=gs) hi;obtain⟨z,hz⟩:=bu (l:=hd) (i:=i) (by have:=h.1;omega);rw[hy,hz,Qfm,Qfm,(h.2 i y z hy hz).g]
 ·rw[List.getElem?_eq_none oM,List.getElem?_eq_none oM]
theorem QdM{hd:List bz}(h:qF (p5 D σ) gs hd):(hd.map (ph σ)).map bz.k=(gs.map bz.k).map (Pc σ):=by
 have hl:=h.1;refine QfF fun i=> ?_
 rw[Qe6,Qe6,List.getElem?_map,List.getElem?_map];by_cases hi:i<gs.length
 ·obtain⟨y,hy⟩:=bu (l:=gs) hi;obtain⟨z,hz⟩:=bu (l:=hd) (i:=i) (by have:=h.1;omega);rw[hy,hz,Qfm,Qfm];exact QeZ some (QdK (h.2 i y z hy hz))
 ·rw[List.getElem?_eq_none oM,List.getElem?_eq_none oM];rfl
theorem QdN(h:j9 nm pa va (gs.map bz.f))(hf:Re (gs.map bz.f)){hd:List bz}(ha:qF (p5 (Dv pa va (gs.map bz.f)) σ) gs hd):∀y,y∈hd→QcK (Dv pa va (gs.map bz.f)) y:=by
 intro y hy;obtain⟨i,hi⟩:=Qfe.1 hy;obtain⟨x,hx⟩:=bu (l:=gs) (i:=i) (by have:=(List.getElem?_eq_some_iff.1 hi).1;have:=ha.1;omega);have pj:=QeV (Jy hx);refine Qd2 (ha.2 i x y hx hi) ?_ ?_ (fun p hp=>⟨hf.ap x.f pj p.f (QeU.2 ⟨p,hp,rfl⟩),Qbn (p:=p.f) h (Jy hx) (QeU.2 ⟨p,hp,rfl⟩)⟩) (fun hg=> ?_)
 ·have:=hf.lp x.f pj;rwa [show x.f.ah.length=x.ah.length from Qe1 ..]at this
 ·have:=hf.li x.f pj;rwa [show x.f.insts.length=x.insts.length from Qe1 ..]at this
 ·obtain⟨z,hz,hr⟩:=h.reads i (List.getElem?_eq_some_iff.1 (Jy hx)).1;rw[Jy hx]at hz;injection hz with hz;subst hz;have hR:pE x.f:=by
   rcases hg with e|⟨e,e2⟩
   ·exact .inl e
   ·refine .inr ⟨e,fun e3=> ?_⟩;have:x.v= -1:=e3;omega
  exact T1 h (hr.fin hR)
theorem Qdo{to:ar}(h:j9 nm pa va (gs.map bz.f))(hr:pH va (Dv pa va (gs.map bz.f)) to (BV (gs.map bz.f))):pH va (Dv pa va (sz (gs.map bz.f))) to (fun v=>v):=hr.imp (fun v hv=>Qdh hv (SL h).par) (fun _ hv=>hv)
end
end Go.Mor
namespace Go.Mor
open Go.RowKit
section
variable {fs gs : List ay} {σ : Int → Int}
theorem ZF{β:Type}(f:β→bI→β)(hf:∀b p,f b p.e0=f b p):∀(l:List bI) (b:β),(l.map bI.e0).foldl f b=l.foldl f b
 |[],_=>rfl
 |p::l,b=>by rw[QfU,QgS,QgS,hf,ZF f hf l]
theorem ZL{β:Type}(f:β→aO→β)(hf:∀b p,f b p.e0=f b p):∀(l:List aO) (b:β),(l.map aO.e0).foldl f b=l.foldl f b
 |[],_=>rfl
 |p::l,b=>by rw[QfU,QgS,QgS,hf,ZL f hf l]
theorem Qcs(σ:Int→Int)(x:ay):Fb σ x.e0=Fb σ x:=by
 unfold Fb;show((x.insts.map aO.e0).foldl Fa ((x.ah.map bI.e0).foldl Ds σ,[])).1=_;rw[ZF Ds (fun _ _=>rfl),ZL Fa (fun _ _=>rfl)]
theorem Qdp(fs:List ay):BV (fs.map ay.e0)=BV fs:=by
 unfold BV;rw[List.foldl_map];congr 1;funext σ x;exact Qcs σ x
theorem Qdq(σ:Int→Int)(x:ay):uc σ x.e0=uc σ x:=by
 unfold uc ay.e0;simp only[ay.mk.injEq,QfB,QfH];refine⟨?_,?_,rfl⟩
 ·rw[Qgl,Qe6];rfl
 ·rw[Qgl,Qe6];rfl
theorem ZM(fs:List ay):sz (fs.map ay.e0)=sz fs:=by
 unfold sz xD;rw[Qdp,Qe6];exact Qf3 fun x _=>Qdq _ x
theorem Qbq(h:ec fs gs):sz fs=sz gs:=by rw[←ZM fs,←ZM gs,show fs.map ay.e0=gs.map ay.e0 from h]
theorem Pa(h:ec fs gs):ec (pt fs) (pt gs):=by
 unfold pt;rw[←jS h];cases hn:hY fs with
 |zero=>exact h
 |succ n=>
  unfold qC;rw[←Qbq h,←jS h];split
  ·exact rfl
  ·exact h
theorem Qbr(h:hY (sz fs)<hY fs):pt (sz fs)=pt fs:=by
 obtain⟨n,hn⟩:∃n,hY fs=n+1:=⟨hY fs-1,oM⟩;have e:pt fs=qC (n+1) fs:=by unfold pt;rw[hn]
 rw[e];show _=(if hY (sz fs)<hY fs then qC n (sz fs)else fs);rw[Qe3 h,Y7 oM]
theorem Qbs(h:¬hY (sz fs)<hY fs):pt fs=fs:=zE h
theorem Oc{nm:cV}{pa va:Int}(hv:bV nm pa va fs=0)(ho:pL fs):pL (pt fs):=by
 have key:∀(n:Nat) (fs:List ay),bV nm pa va fs=0→pL fs→pL (qC n fs):=by
  intro n;induction n with
  |zero=>intro fs _ h;exact h
  |succ n ih=>
   intro fs hv ho;unfold qC;split
   ·refine ih _ (Au hv) ?_;obtain⟨hg,kx,_⟩:=qI hv;have hs:=SL hg;have QdO:∀v,Dv pa va fs v→In64 (BV fs v):=by intro v h;have:=Ob hg hs h;have h1:=this.1;have h2:=this.2.1;unfold In64;omega
    intro y hy;obtain⟨x,hx,rfl⟩:=QeU.1 hy;obtain⟨k,hk⟩:=Qfe.1 hx;have h:=ho x hx;refine⟨?_,fun p hp=> ?_,?_,fun i hi=> ?_,h.e,?_,h.a,h.b⟩
    ·show gY ((x.ah.filter _).map (YI _)).length;rw[Qe1];exact QfD (Qfx _ _) h.lp
    ·obtain⟨p0,I6,rfl⟩:=QeU.1 (show p∈(x.ah.filter _).map (YI _)from hp);have Zq:=(Qfk.1 I6).1;have h0:=h.ah p0 Zq;refine⟨h0.dst,by show gY (p0.args.map _).length;rw[Qe1];exact h0.len,fun a ha=> ?_⟩;obtain⟨b,hb,rfl⟩:=QeU.1 (show a∈p0.args.map _ from ha);exact QdO b (Qbn hg hk Zq b hb)
    ·show gY ((x.insts.filter _).map (s5 _)).length;rw[Qe1];exact QfD (Qfx _ _) h.li
    ·obtain⟨i0,Rq,rfl⟩:=QeU.1 (show i∈(x.insts.filter _).map (s5 _)from hi);have CO:=(Qfk.1 Rq).1;have h0:=h.insts i0 CO;refine⟨h0.op,h0.dst,h0.n,h0.name,by show gY (i0.args.map _).length;rw[Qe1];exact h0.len,fun a ha=> ?_⟩;obtain⟨b,hb,rfl⟩:=QeU.1 (show a∈i0.args.map _ from ha);exact QdO b (Qbo hg hk CO b hb)
    ·show In64 (if Pb x then BV fs x.v else x.v);split
     ·rename_i hvx;obtain⟨z,hz,hr⟩:=hg.reads k (List.getElem?_eq_some_iff.1 hk).1;rw[hk]at hz;injection hz with hz;subst hz;refine QdO _ (T1 hg (hr.fin ?_));rcases hvx with e|⟨e,e2⟩
      ·exact .inl e
      ·exact .inr ⟨e,oM⟩
     ·exact h.v
   ·exact ho
 exact key _ _ hv ho
end
def XU(n:Nat):ar:=(List.range n).map (fun i:Nat=>(i:Int))
theorem XN(n:Nat):(XU n).length=n:=by simp[XU]
theorem QcQ(n:Nat):XU (n+1)=XU n++[(n:Int)]:=by simp[XU,QgZ]
theorem QcR{va:Int}{n:Nat}(hn:va=(n:Int)){D:Int→Prop}(hD:∀v,D v→0≤v∧v<va):pH va D (XU n) (fun v=>v):=⟨by rw[XN,hn],fun v hv=>⟨0,.zero (hD v hv).1 (by
  have:=hD v hv;unfold XU;rw[List.getElem?_map,List.getElem?_range oM];simp;omega)⟩,fun _ h=>h⟩
structure sQ(N:Int)(x:gO):Prop where
 gone:x.gone=false
 ah:∀p,p∈x.ah→PG N p∧0<p.from_.length∧p.from_.length≤20000
theorem sQ.next{N:Int}{x:gO}(h:sQ N x)(σ:Int→Int):sQ N (Pc σ x):=by
 refine⟨h.gone,fun p hp=> ?_⟩;obtain⟨q,hq,rfl⟩:=QeU.1 (show p∈(x.ah.filter _).map _ from hp);obtain⟨h1,h2,h3⟩:=h.ah q (Qfk.1 hq).1;exact⟨⟨h1.up,h1.yW,by show(q.args.map σ).length=q.from_.length;rw[Qe1];exact h1.len⟩,h2,h3⟩
theorem Qbt(gs:List bz):(gs.map bz.k).map gO.f=gs.map bz.f:=by
 rw[Qe6];refine Qf3 fun x _=> ?_
 show gO.f x.k=x.f;unfold gO.f bz.k bz.f;simp only[Qe6];rfl
theorem Od{gs nC:List bz}(h:nC.map bz.k=(gs.map bz.k).map (Pc (BV (gs.map bz.f)))):nC.map bz.f=sz (gs.map bz.f):=by
 have e:(gO.f∘Pc (BV (gs.map bz.f)))=(uc (BV (gs.map bz.f))∘gO.f):=funext fun x=>QdJ _ x
 rw[←Qbt nC,h,Qe6,e,←Qe6,Qbt];rfl
theorem XO{gs nC:List bz}{σ:Int→Int}{N:Int}(h:nC.map bz.k=(gs.map bz.k).map (Pc σ))(hu:∀x,x∈gs→sQ N x.k):∀x,x∈nC→sQ N x.k:=by
 intro x hx;have:x.k∈(gs.map bz.k).map (Pc σ):=by rw[←h];exact QeU.2 ⟨x,hx,rfl⟩
 obtain⟨y,hy,e⟩:=QeU.1 this;obtain⟨z,hz,rfl⟩:=QeU.1 hy;rw[←e];exact(hu z hz).next σ
theorem QdP{gs:List bz}{n:Nat}(h:∀x,x∈gs→UK n gs.length x):∀x,x∈gs→sQ (gs.length:Int) x.k:=fun x hx=>⟨(h x hx).gone,fun p hp=>by
 obtain⟨q,hq,rfl⟩:=QeU.1 (show p∈x.ah.map cI.k from hp);obtain⟨_,_,_,h4,h5,h6⟩:=(h x hx).ah q hq;exact⟨h6,h4,h5⟩⟩
theorem SQ{nm:cV}{pa va:Int}{gs:List bz}(h:j9 nm pa va (gs.map bz.f)):∀x,x∈gs.map bz.k→Jn (gs.length:Int) x:=by
 intro y hy;obtain⟨x,hx,rfl⟩:=QeU.1 hy;have:=h.ends x.f (QeU.2 ⟨x,hx,rfl⟩);rw[Qe1]at this;exact this
theorem Qd3{nm:cV}{pa va:Int}{gs:List bz}(h:j9 nm pa va (gs.map bz.f))(hf:Re (gs.map bz.f))(hu:∀x,x∈gs→sQ (gs.length:Int) x.k):∀x,x∈gs.map bz.k→Rh (gs.length:Int) x:=by
 intro y hy;have he:=SQ h y hy;obtain⟨x,hx,rfl⟩:=QeU.1 hy;have hl:=hf.lp x.f (QeU.2 ⟨x,hx,rfl⟩);refine⟨?_,fun p hp=> ?_,fun e0=> ?_,fun e1=> ?_⟩
 ·show(x.ah.map cI.k).length≤20000;rw[Qe1];rwa [show x.f.ah.length=x.ah.length from Qe1 ..]at hl
 ·obtain⟨h1,h2,h3⟩:=(hu x hx).ah p hp;exact⟨h2,h3,h1.len,h1.yW⟩
 ·rcases he with h|h|h|h
  ·exact h.2.1
  ·have:=h.1;omega
  ·have:=h.1;omega
  ·have:=h.1;omega
 ·rcases he with h|h|h|h
  ·have:=h.1;omega
  ·exact⟨h.2.1,h.2.2.1⟩
  ·have:=h.1;omega
  ·have:=h.1;omega
theorem Qdr{nm:cV}{pa va:Int}{gs:List bz}(h:j9 nm pa va (gs.map bz.f))(hu:∀x,x∈gs→sQ (gs.length:Int) x.k){fd:List ay}(ht:Yi (gs.map bz.k) fd):fd.map ay.e0=gs.map bz.f:=by
 rw[←Qbt gs];refine NI (fun x hx=> ?_) (fun x hx=> ?_) (fun x hx p hp=> ?_) ht
 ·obtain⟨y,hy,rfl⟩:=QeU.1 hx;exact(hu y hy).gone
 ·rw[Qe1];exact SQ h x hx
 ·obtain⟨y,hy,rfl⟩:=QeU.1 hx;rw[Qe1];exact((hu y hy).ah p hp).1
theorem Qct{fs:List ay}{gs0 gs nC:List bz}{nm:cV}{pa va:Int}(h0:gs0.map bz.k=lN fs)(hs:pt (gs.map bz.f)=pt (gs0.map bz.f))(hk:nC.map bz.k=(gs.map bz.k).map (Pc (BV (gs.map bz.f))))(ht:uK (gs.map bz.f) (BV (gs.map bz.f)) false)(hv:bV nm pa va (gs.map bz.f)=0)(hu:∀x,x∈gs→sQ (gs.length:Int) x.k){fd:List ay}(Ut:Yi (nC.map bz.k) fd):ec fd (pt fs):=by
 have hl:nC.length=gs.length:=by have:=QeZ List.length hk;simpa using this
 have pQ:=XO hk hu;rw[←hl]at pQ;have hf:=Od hk;have Yb:bV nm pa va (nC.map bz.f)=0:=by rw[hf];exact Au hv
 have h1:=Qdr (qI Yb).1 pQ Ut;have Qd4:¬hY (sz (gs.map bz.f))<hY (gs.map bz.f):=by have:=NR ht;simpa using this.symm
 have e1:ec (sz (gs.map bz.f)) (gs.map bz.f):=by
  unfold ec sz xD;rw[ht.1 rfl,Qe6];refine Qf3 fun x _=> ?_
  show(uc (fun v=>v) x).e0=x.e0;unfold uc ay.e0;have e1:x.ah.filter (fun p=>bl (fun v=>v) p.dst)=x.ah:=Qgq.2 fun p _=>by unfold bl;simp
  have e2:x.insts.filter (fun p=>bl (fun v=>v) p.dst)=x.insts:=Qgq.2 fun p _=>by unfold bl;simp
  rw[e1,e2];simp only[Qe6,ite_self,ay.mk.injEq,QfB,QfH];refine⟨?_,?_⟩
  ·exact Qf3 fun p _=>by simp[bI.e0,YI]
  ·exact Qf3 fun p _=>by simp[aO.e0,s5]
 have h2:ec fd (nC.map bz.f):=by
  unfold ec;rw[h1];have:∀l:List bz,(l.map bz.f).map ay.e0=l.map bz.f:=fun l=>by
   rw[Qe6];refine Qf3 fun x _=> ?_
   show x.f.e0=x.f;unfold bz.f ay.e0;simp only[Qe6];rfl
  rw[this]
 rw[hf]at h2;refine h2.trans (e1.trans ?_);rw[←Qbs Qd4,hs];exact Pa (BI h0).symm
end Go.Mor
namespace Go.Mor
open Go.RowKit
def nF(A5 A6 A7:aX):ay:=⟨none,0,[],A7,3,[⟨9,0,0,⟨#[]⟩,none,0,[]⟩,⟨12,1,0,⟨#[]⟩,A5,1,[0]⟩,⟨10,-1,0,⟨#[]⟩,A6,1,[1]⟩],2,-1,0,0⟩
theorem Qdz{A5 A6 A7:aX}:pL [nF A5 A6 A7]:=by
 intro x hx;rw[Qff]at hx;subst hx;refine⟨by simp[nF,gY],fun p hp=>by simp[nF]at hp,by simp[nF,gY],fun p hp=> ?_,by simp[nF,In64],by simp[nF,In64],by simp[nF,In64],by simp[nF,In64]⟩;simp only[nF,Qfb,Qf2,Qfz]at hp;rcases hp with rfl|rfl|rfl
 ·exact⟨by simp[In64],by simp[In64],by simp[In64],by show(0:Nat)≤_;omega,by simp[gY],fun x hx=>by simp at hx⟩
 ·exact⟨by simp[In64],by simp[In64],by simp[In64],by show(0:Nat)≤_;omega,by simp[gY],fun x hx=>by simp at hx;subst hx;simp[In64]⟩
 ·exact⟨by simp[In64],by simp[In64],by simp[In64],by show(0:Nat)≤_;omega,by simp[gY],fun x hx=>by simp at hx;subst hx;simp[In64]⟩
theorem SR{A5 A6 A7:aX}:bV PH 0 2 [nF A5 A6 A7]=0:=Jv ⟨by simp[hY,jl,nF],by rfl⟩
theorem Qds{A5 A6 A7:aX}:hY (pt [nF A5 A6 A7])=3:=kR
end Go.Mor
