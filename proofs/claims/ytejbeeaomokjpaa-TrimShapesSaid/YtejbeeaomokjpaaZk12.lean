/-
  Texts of the proof, part 12.
-/
import Derived.Test.YtejbeeaomokjpaaZk11
import Derived.Test.YtejbeeaomokjpaaRows
set_option maxRecDepth 10000
namespace Go.Proofs.Ytejbeeaomokjpaa
open Go.Mor
theorem UR(l:ar)(k:Int)(A:aX)(c:Nat)(w:World)(hm:l.length≤1000000)(hA:RO bK w (.rd A (ints l))):Calls Try.prog 75 #[vS A l.length c,vI k] w (fE fun v w'=>v=vB (l.contains k)∧Mem bK w w' []):=by
 refine hZ 18 [vS A l.length c,vI k] Try.func75 ?_;have hM:=Mem.init w;refine bC<|bx<|bC<|cK 0 ?_;intro aC fr;refine gT (fun n_ a_ w_=>∃(j:Nat),n_=l.length-j∧Fr a_ 18 [(0,vS A l.length c),(1,vI k),(5,nV j)]∧Mem bK w w_ []∧(j≤l.length)∧((l.take j).contains k=false)) (n:=_) ⟨0,rfl,fr.kp [0,1,5],hM,oM,sI⟩ ?_;clear fr aC hM;rintro n aC w3 ⟨j,rfl,fr,M4,hj,hn⟩;revert aC;refine bx<|aQ<|aj 3<|gC (decide ((j:Int)<(l.length:Int))) fun B7 wv=> ?_
 refine aE ?_;cases B7;have c7:¬((j:Int)<(l.length:Int)):=iZ wv.symm;refine fT<|gq 0<|gr<|bC<|an<|cQ (vB false) ?_;exact⟨by rw[QM hn oM],M4⟩;have c7:(j:Int)<(l.length:Int):=nF wv.symm;refine fN<|cg<|bx<|cK 1<|aQ<|aj 2 ?_;obtain⟨zi,rfl⟩:=QbP (M4.ro hA) oM;refine eZ zi l.length 1 (j:Int)<|bq (aN zi (j:Int) 1) _ (kS (M4.ro hA) rfl oM oM)<|aj 1<|gC ((l.getD (j:Int).toNat 0)==k) fun JA pR=> ?_
 refine aE ?_;cases JA;have vq:¬((l.getD (j:Int).toNat 0)=k):=F6 pR;refine fT<|cg<|dh<|aj 1<|cy ((j:Int)+1)<|aj 1<|aE ?_;intro aC fr;exact⟨l.length-(j+1),oM,j+1,rfl,fr.kp [0,1,5],M4,oM,H2 hn vq oM⟩;have vq:(l.getD (j:Int).toNat 0)=k:=Js.1 pR.symm;refine fN<|bC<|an<|eu<|eu<|cQ (vB true) ?_;exact⟨by rw[Mw vq oM],M4⟩
theorem vr(nm wk pa va:Value)(A:aX)(c:Nat)(bs:List SB)(b:Int)(w:World)(jH:bs.length≤1000000)(hA:RO bK w (.blocks A bs)):Calls Try.prog 74 #[(.agg #[nm,wk,pa,va,vS A bs.length c]),vI b] w (fE fun v w'=>∃A' c',v=vS A' (tg bs b).length c'∧Mem bK w w' [.row 3 1 A' (tg bs b).length c' (ints (tg bs b))]):=by
 refine hZ 74 [(.agg #[nm,wk,pa,va,vS A bs.length c]),vI b] Try.func74 ?_;have hM:=Mem.init w;refine aQ<|nJ hM 24 (.agg #[nm,wk,pa,va,vS A bs.length c]) [nm,wk,pa,va,vS A bs.length c] fun b1 w2 kH M3=> ?_
 replace M3:=M3.nf;clear hM;refine aj 1<|aE<|bx<|aQ<|aj 1<|gC (decide (b<0)) fun US BN=> ?_
 refine aj 1 ?_;cases US;have UT:¬(b<0):=iZ BN.symm;refine aj 2<|bq (ak b1 4) _ (ae (M3.get 0 rfl) rfl)<|aj 1<|gC (decide (b≥(bs.length:Int))) fun UU Dw=> ?_
 refine aj 1<|aE ?_;cases UU;have ZP:¬(b≥(bs.length:Int)):=iZ Dw.symm;refine fT<|cg<|aQ ?_;obtain⟨x,hx⟩:=H0 (l:=bs) (i:=b) oM oM;refine aj 1<|bq (ak b1 4) _ (ae (M3.get 0 rfl) rfl)<|aj 1 ?_;obtain⟨vt,rfl⟩:=dN (M3.ro hA) hx;refine eZ vt bs.length 6 b<|gu (aN vt (b) 6) [vS x.pA x.pn x.pc,vS x.iA x.ik x.ic,vI x.e,vI x.v,vI x.a,vI x.b] (qj (M3.ro hA) rfl hx)<|mZ M3 36 [aq,aq,vI 0,vI 0,vI 0,vI 0] fun b5 w6 ZQ M7=> ?_
 replace M7:=M7.nf;refine po M7 1 [vS x.pA x.pn x.pc,vS x.iA x.ik x.ic,vI x.e,vI x.v,vI x.a,vI x.b] rfl fun w8 M9=> ?_
 replace M9:=M9.nf;refine dX [2,5]<|aE<|bC<|bx ?_;intro aC fr;refine wS (fun a_ w_=>Fr a_ 74 [(2,pT b1 0),(5,pT b5 0),(6,aq)]∧Mem bK w w_ [.au b1 24 [nm,wk,pa,va,vS (some vt) bs.length c],.au b5 36 [vS x.pA x.pn x.pc,vS x.iA x.ik x.ic,vI x.e,vI x.v,vI x.a,vI x.b]]∧(x.e=0∨x.e=1)) ?_ ?_;clear fr aC M9;rintro aC UW ⟨fr,qJ,he⟩;revert aC;refine bx ?_;intro aC fr;refine wS (fun a_ w_=>∃(A1:aX) (n1:Nat) (c1:Nat) (l1:ar),Fr a_ 74 [(2,pT b1 0),(5,pT b5 0),(6,vS A1 n1 c1)]∧Mem bK w w_ [.au b1 24 [nm,wk,pa,va,vS (some vt) bs.length c],.au b5 36 [vS x.pA x.pn x.pc,vS x.iA x.ik x.ic,vI x.e,vI x.v,vI x.a,vI x.b],.row 3 1 A1 n1 c1 (ints l1)]∧(l1=LH bs.length x)∧(n1=l1.length)) ?_ ?_;clear fr aC qJ;rintro aC NS ⟨A1,n1,c1,l1,fr,lu,nR,Cs⟩;revert aC;refine bx ?_;intro aC fr;refine wS (fun a_ w_=>∃(A2:aX) (n2:Nat) (c2:Nat) (l2:ar),Fr a_ 74 [(6,vS A2 n2 c2)]∧Mem bK w w_ [.au b1 24 [nm,wk,pa,va,vS (some vt) bs.length c],.au b5 36 [vS x.pA x.pn x.pc,vS x.iA x.ik x.ic,vI x.e,vI x.v,vI x.a,vI x.b],.row 3 1 A2 n2 c2 (ints l2)]∧(l2=LH bs.length x++QP bs.length x)∧(n2=l2.length)) ?_ ?_;clear fr aC lu;rintro aC Yn ⟨A2,n2,c2,l2,fr,JB,xo,Ho⟩;revert aC;refine bC<|an<|cQ (vS A2 n2 c2) ?_;exact mO (JB.pick [false,false,true] rfl) (by rw[xo,rt_eq he,wW oM hx]) Ho;revert aC;refine aQ<|aj 1<|bq (ak b5 2) _ (ae (lu.get 1 rfl) rfl)<|gC (x.e==1) fun Bf1 UX=> ?_
 refine aj 1 ?_;cases Bf1;have cf1:¬(x.e=1):=F6 UX;refine aj 19<|aE<|fT<|cg ?_;intro aC fr;exact⟨A1,n1,c1,l1,fr.kp [6],lu,by rw[yD oM,QiY];exact nR,Cs⟩;have cf1:x.e=1:=Js.1 UX.symm;refine aj 1<|bq (ak b5 5) _ (ae (lu.get 1 rfl) rfl)<|aj 1<|bq (ak b5 4) _ (ae (lu.get 1 rfl) rfl)<|gC (x.b !=x.a) fun UY zj=> ?_
 refine aj 2 ?_;cases UY;have Rp:¬(x.b≠x.a):=Q9 zj;refine aj 12<|aE<|fT<|cg ?_;intro aC fr;exact⟨A1,n1,c1,l1,fr.kp [6],lu,by rw[yD oM,QiY];exact nR,Cs⟩;have Rp:x.b≠x.a:=dj.1 zj.symm;refine aj 1<|bq (ak b5 5) _ (ae (lu.get 1 rfl) rfl)<|gC (decide (x.b≥0)) fun Bb0 UZ=> ?_
 refine aj 2 ?_;cases Bb0;have cb0:¬(x.b≥0):=iZ UZ.symm;refine aj 7<|aE<|fT<|cg ?_;intro aC fr;exact⟨A1,n1,c1,l1,fr.kp [6],lu,by rw[yD oM,QiY];exact nR,Cs⟩;have cb0:x.b≥0:=nF UZ.symm;refine aj 1<|bq (ak b5 5) _ (ae (lu.get 1 rfl) rfl)<|aj 1<|bq (ak b1 4) _ (ae (lu.get 0 rfl) rfl)<|aj 1<|gC (decide (x.b<(bs.length:Int))) fun Bb1 U0=> ?_
 refine aj 1<|aE ?_;cases Bb1;have cb1:¬(x.b<(bs.length:Int)):=iZ U0.symm;refine fT<|cg ?_;intro aC fr;exact⟨A1,n1,c1,l1,fr.kp [6],lu,by rw[yD oM,QiY];exact nR,Cs⟩;have cb1:x.b<(bs.length:Int):=nF U0.symm;refine fN<|dh<|aj 2<|bq (ak b5 5) _ (ae (lu.get 1 rfl) rfl)<|dX [68,70] ?_;intro aC fr;refine rG 71 37 1 #[(0,.tmp 70)] 37 fr (e:=3) (size:=1) (zs:=[vI 0]) (vs:=[(0,vI x.b)]) (cs:=[vI x.b]) lu ?_;intro b36 ZR hb36 _ tX _ aC ea fr;clear ea;replace tX:=tX.nf;refine tT 72 (.tmp 68) (.tmp 71) 37 37 fr (e:=3) (size:=1) (bytes:=8) (z:=(vI 0)) (A:=A1) (B:=(sM b36)) (n:=n1) (cap:=c1) (m:=1) (cap':=1) (xs:=(ints l1)) (news:=[vI x.b]) tX 2 rfl (aB (tX.get 3 rfl)) rfl (by simp[Value.oneCell']) (by have:=Ei bs.length x;rw[nR]at Cs;omega) (by have:=Ei bs.length x;rw[nR]at Cs;simp only[maxLen];omega) ?_;intro A43 LR Yo sB _ aC ea fr;clear ea;replace sB:=sB.nf;have oI:=sB.od [2,2,2] 3;revert aC;refine aj 1<|aE ?_;intro aC fr;exact⟨A43,(n1+1),LR,l1++[x.b],fr.kp [6],oI.cast (by rw[iU];rfl),by rw[MB oM oM oM oM,nR],by simp[Cs]⟩;revert aC;refine aQ<|aj 1<|bq (ak b5 4) _ (ae (qJ.get 1 rfl) rfl)<|gC (decide (x.a≥0)) fun Ba0 U1=> ?_
 refine aj 1 ?_;cases Ba0;have ca0:¬(x.a≥0):=iZ U1.symm;refine aj 7<|aE<|fT<|cg ?_;intro aC fr;exact⟨none,0,0,[],fr.kp [2,5,6],qJ.call (Mem.gK _ 3 1),(H4 oM).symm,rfl⟩;have ca0:x.a≥0:=nF U1.symm;refine aj 1<|bq (ak b5 4) _ (ae (qJ.get 1 rfl) rfl)<|aj 1<|bq (ak b1 4) _ (ae (qJ.get 0 rfl) rfl)<|aj 1<|gC (decide (x.a<(bs.length:Int))) fun Ba1 U2=> ?_
 refine aj 1<|aE ?_;cases Ba1;have ca1:¬(x.a<(bs.length:Int)):=iZ U2.symm;refine fT<|cg ?_;intro aC fr;exact⟨none,0,0,[],fr.kp [2,5,6],qJ.call (Mem.gK _ 3 1),(H4 oM).symm,rfl⟩;have ca1:x.a<(bs.length:Int):=nF U2.symm;refine fN<|dh<|aj 2<|bq (ak b5 4) _ (ae (qJ.get 1 rfl) rfl) ?_;intro aC fr;refine rG 43 37 1 #[(0,.tmp 42)] 37 fr (e:=3) (size:=1) (zs:=[vI 0]) (vs:=[(0,vI x.a)]) (cs:=[vI x.a]) qJ ?_;intro b56 Yp hb56 _ sC _ aC ea fr;clear ea;replace sC:=sC.nf;have wx:=sC.cl (Mem.gK _ 3 1);refine tT 44 (.tmp 40) (.tmp 43) 37 37 fr (e:=3) (size:=1) (bytes:=8) (z:=(vI 0)) (A:=none) (B:=(sM b56)) (n:=0) (cap:=0) (m:=1) (cap':=1) (xs:=[]) (news:=[vI x.a]) wx 3 rfl (aB (wx.get 2 rfl)) rfl (by simp[Value.oneCell']) oM (by simp only[maxLen];omega) ?_;intro A64 c65 jI tY _ aC ea fr;clear ea;replace tY:=tY.nf;have Ct:=tY.od [3,2,2] 3;revert aC;refine aj 1<|aE ?_;intro aC fr;exact⟨A64,(0+1),c65,[x.a],fr.kp [2,5,6],Ct,(MA oM oM).symm,rfl⟩;revert aC;refine aQ<|aj 1<|bq (ak b5 2) _ (ae (M9.get 1 rfl) rfl)<|gC (x.e !=0) fun ZS JC=> ?_
 refine aj 1 ?_;cases ZS;have Yq:¬(x.e≠0):=Q9 JC;refine aj 4<|aE<|fT<|cg ?_;intro aC fr;exact⟨fr.kp [2,5,6],M9,oM⟩;have Yq:x.e≠0:=dj.1 JC.symm;refine aj 1<|bq (ak b5 2) _ (ae (M9.get 1 rfl) rfl)<|gC (x.e !=1) fun ZT JD=> ?_
 refine aj 1<|aE ?_;cases ZT;have Yr:¬(x.e≠1):=Q9 JD;refine fT<|cg ?_;intro aC fr;exact⟨fr.kp [2,5,6],M9,oM⟩;have Yr:x.e≠1:=dj.1 JD.symm;refine fN<|bC<|an<|cQ aq ?_;exact Ha (M9.pick [false,false] rfl) (by rw[wW oM hx];exact Mz oM oM);have ZP:b≥(bs.length:Int):=nF Dw.symm;refine fN<|bC<|an<|cQ aq ?_;exact Ha (M3.pick [false] rfl) (uI oM);have UT:b<0:=nF BN.symm;refine aj 6<|aE<|fN<|bC<|an<|cQ aq ?_;exact Ha (M3.pick [false] rfl) (uI oM)
theorem Qgp(l:ar)(k:Int)(A:aX)(c:Nat)(w:World)(hm:l.length≤1000000)(hA:RO bK w (.rd A (ints l))):Calls Try.prog 91 #[vS A l.length c,vI k] w (fE fun v w'=>v=vI (nH (fun x=>x==k) l)∧Mem bK w w' []):=by
 refine hZ 19 [vS A l.length c,vI k] Try.func91 ?_;have hM:=Mem.init w;refine bC<|bx<|bC<|cK 0 ?_;intro aC fr;refine gT (fun n_ a_ w_=>∃(j:Nat),n_=l.length-j∧Fr a_ 19 [(0,vS A l.length c),(1,vI k),(7,(vI (l.length:Int))),(8,nV j)]∧Mem bK w w_ []∧(j≤l.length)∧((l.take j).any (fun x=>x==k)=false)) (n:=_) ⟨0,rfl,fr.kp [0,1,7,8],hM,oM,sI⟩ ?_;clear fr aC hM;rintro n aC w3 ⟨j,rfl,fr,M4,hj,hn⟩;revert aC;refine aQ<|gC (decide ((j:Int)<(l.length:Int))) fun B7 wv=> ?_
 refine aE<|bx ?_;cases B7;have c7:¬((j:Int)<(l.length:Int)):=iZ wv.symm;refine fT<|gq 0<|gr<|bC<|an<|cQ (vI (-1)) ?_;exact⟨by rw[wX hn oM],M4⟩;have c7:(j:Int)<(l.length:Int):=nF wv.symm;refine fN<|cg<|bx<|cK 1<|bC<|aQ<|aj 3 ?_;obtain⟨zi,rfl⟩:=QbP (M4.ro hA) oM;refine eZ zi l.length 1 (j:Int)<|bq (aN zi (j:Int) 1) _ (kS (M4.ro hA) rfl oM oM)<|gC (k==(l.getD (j:Int).toNat 0)) fun JA pR=> ?_
 refine aE ?_;cases JA;have vq:¬(k=(l.getD (j:Int).toNat 0)):=F6 pR;refine fT<|cg<|dh<|cy ((j:Int)+1)<|aj 1<|aE ?_;intro aC fr;exact⟨l.length-(j+1),oM,j+1,rfl,fr.kp [0,1,7,8],M4,oM,H5 hn (by simpa using fun h:_=k=>vq h.symm) oM⟩;have vq:k=(l.getD (j:Int).toNat 0):=Js.1 pR.symm;refine fN<|bC<|an<|eu<|eu<|cQ (nV j) ?_;exact⟨by rw[Aj hn (by simpa using vq.symm) oM],M4⟩
theorem QdP(l:ar)(k:Int)(A:aX)(c:Nat)(w:World)(hm:l.length≤1000000)(hA:RO bK w (.rd A (ints l))):Calls Try.prog 120 #[vS A l.length c,vI k] w (fE fun v w'=>v=vB (l.contains k)∧Mem bK w w' []):=by
 refine hZ 9 [vS A l.length c,vI k] Try.func120 ?_;have hM:=Mem.init w;refine bC<|aQ<|aj 2<|eY (Qgp l k A c w hm (hA.at_ hM)) ?_;rintro _ w1 ⟨rfl,PK⟩;have M2:=hM.cl PK;clear PK hM;refine gC (decide ((nH (fun x=>x==k) l)≥0)) fun Bc hBc=> ?_
 refine aj 1<|aE<|an<|cQ (vB Bc) ?_;exact⟨by rw[hBc,QbA],M2⟩
theorem Ql1(q:Nat)(nm wk pa va:Value)(A:aX)(c:Nat)(bs:List SB)(t:Int)(w:World)(jH:bs.length≤1000000)(hq:RO bK w (.au q 24 [nm,wk,pa,va,.slice A bs.length c])):Calls Try.prog 129 #[vI t,pT q 0] w (fE fun v w'=>v=vB (!(gU bs.length t))∧Mem bK w w' []):=by
 refine hZ 13 [vI t,pT q 0] Try.func129 ?_;have hM:=Mem.init w;refine bC<|aQ<|aj 1<|gC (decide (t<0)) fun US BN=> ?_
 refine aj 1 ?_;cases US;have UT:¬(t<0):=iZ BN.symm;refine aj 2<|bq (ak q 4) _ (ae (hM.ro hq) rfl)<|aj 1<|gC (decide (t≥(bs.length:Int))) fun UU Dw=> ?_
 refine aj 2<|aE<|an<|cQ (vB UU) ?_;exact⟨by rw[Dw,QO oM],hM⟩;have UT:t<0:=nF BN.symm;refine aj 7<|aE<|an<|cQ (vB true) ?_;exact⟨by rw[QN oM];rfl,hM⟩
theorem JF(l:ar)(B:aX)(d:Nat)(q:Nat)(nm wk pa va:Value)(A:aX)(c:Nat)(bs:List SB)(w:World)(LS:l.length≤1000000)(hl:RO bK w (.rd B (ints l)))(hm:bs.length≤1000000)(hq:RO bK w (.au q 24 [nm,wk,pa,va,.slice A bs.length c])):Calls Try.prog 121 #[vS B l.length d,(.func (.func 129) #[] #[pT q 0])] w (fE fun v w'=>v=vI (nH (fun x=> !(gU bs.length x)) l)∧Mem bK w w' []):=by
 refine hZ 19 [vS B l.length d,(.func (.func 129) #[] #[pT q 0])] Try.func121 ?_;have hM:=Mem.init w;refine bC<|bx<|bC<|cK 0 ?_;intro aC fr;refine gT (fun n_ a_ w_=>∃(j:Nat),n_=l.length-j∧Fr a_ 19 [(0,vS B l.length d),(1,(.func (.func 129) #[] #[pT q 0])),(7,(vI (l.length:Int))),(8,nV j)]∧Mem bK w w_ []∧(j≤l.length)∧((l.take j).any (fun x=> !(gU bs.length x))=false)) (n:=_) ⟨0,rfl,fr.kp [0,1,7,8],hM,oM,sI⟩ ?_;clear fr aC hM;rintro n aC w3 ⟨j,rfl,fr,M4,hj,hn⟩;revert aC;refine aQ<|gC (decide ((j:Int)<(l.length:Int))) fun B7 wv=> ?_
 refine aE<|bx ?_;cases B7;have c7:¬((j:Int)<(l.length:Int)):=iZ wv.symm;refine fT<|gq 0<|gr<|bC<|an<|cQ (vI (-1)) ?_;exact⟨by rw[wX hn oM],M4⟩;have c7:(j:Int)<(l.length:Int):=nF wv.symm;refine fN<|cg<|bx<|cK 1<|bC<|aQ<|aj 3 ?_;obtain⟨zi,rfl⟩:=QbP (M4.ro hl) oM;refine eZ zi l.length 1 (j:Int)<|bq (aN zi (j:Int) 1) _ (kS (M4.ro hl) rfl oM oM)<|eY (Ql1 q nm wk pa va A c bs (l.getD (j:Int).toNat 0) w3 hm (hq.at_ M4)) ?_;rintro _ w9 ⟨rfl,JG⟩;have mc:=M4.cl JG;obtain⟨JA,pR⟩:∃B,B=!(gU bs.length (l.getD (j:Int).toNat 0)):=⟨_,rfl⟩;refine cH [(0,vS (some zi) l.length d),(1,(.func (.func 129) #[] #[pT q 0])),(5,nV j),(7,(vI (l.length:Int))),(8,nV j),(11,(.func (.func 129) #[] #[pT q 0])),(15,(vI (l.getD (j:Int).toNat 0))),(16,(vB (!(gU bs.length (l.getD (j:Int).toNat 0)))))] ?_;rw[←pR];refine aE ?_;cases JA;have vq:(!(gU bs.length (l.getD (j:Int).toNat 0)))=false:=pR.symm;refine fT<|cg<|dh<|cy ((j:Int)+1)<|aj 1<|aE ?_;intro aC fr;exact⟨l.length-(j+1),oM,j+1,rfl,fr.kp [0,1,7,8],mc,oM,H5 hn vq oM⟩;have vq:(!(gU bs.length (l.getD (j:Int).toNat 0)))=true:=pR.symm;refine fN<|bC<|an<|eu<|eu<|cQ (nV j) ?_;exact⟨by rw[Aj hn vq oM],mc⟩
theorem pv(l:ar)(B:aX)(d:Nat)(q:Nat)(nm wk pa va:Value)(A:aX)(c:Nat)(bs:List SB)(w:World)(LS:l.length≤1000000)(hl:(bo.row 3 1 B l.length d (ints l)).holds w)(hm:bs.length≤1000000)(hq:RO (bo.row 3 1 B l.length d (ints l)).fp w (.au q 24 [nm,wk,pa,va,.slice A bs.length c])):Calls Try.prog 128 #[vS B l.length d,(.func (.func 129) #[] #[pT q 0])] w (fE fun v w'=>∃B' d',v=vS B' (l.filter (fun x=> !((fun x=> !(gU bs.length x)) x))).length d'∧Mem (bo.row 3 1 B l.length d (ints l)).fp w w' [.row 3 1 B' (l.filter (fun x=> !((fun x=> !(gU bs.length x)) x))).length d' (ints (l.filter (fun x=> !((fun x=> !(gU bs.length x)) x))))]):=by
 refine hZ 42 [vS B l.length d,(.func (.func 129) #[] #[pT q 0])] Try.func128 ?_;have hM:=Mem.nr hl;refine bC<|aQ<|aj 2<|eY (JF l B d q nm wk pa va A c bs w LS (RO.aB (hM.dT 0 rfl)) hm (hq.at_ hM)) ?_;rintro _ w1 ⟨rfl,PK⟩;have M2:=hM.cl PK;clear PK hM;refine aj 1<|aE<|bx<|aQ<|aj 1<|gC ((nH (fun x=> !(gU bs.length x)) l)==(-1)) fun U3 JH=> ?_
 refine aE ?_;cases U3;have EM:¬((nH (fun x=> !(gU bs.length x)) l)=(-1)):=F6 JH;refine fT<|cg<|bx<|aQ<|aj 1<|cy (h1:=(by have:=yH (fun x=> !(gU bs.length x)) l;omega)) (h2:=(by have:=yH (fun x=> !(gU bs.length x)) l;omega)) ((nH (fun x=> !(gU bs.length x)) l)+1) ?_;refine aj 1<|aE<|cK 0 ?_;obtain⟨i0,Rq,q8,EI⟩:=CQ EM;refine dX [0,1,5,6] ?_;intro aC fr;rw[Rq]at fr;obtain⟨g0,NT⟩:=cW (M2.get 0 rfl) (show 0<l.length by omega);subst NT;have hle:=p7 (M2.get 0 rfl);have BO:(kept (fun x=> !(gU bs.length x)) l (i0+1)).length=i0:=by rw[EI];simp;omega
 have QT:((i0+1:Nat):Int)=(i0:Int)+1:=oM;replace fr:Fr aC 42 [(0,.slice (sM g0) l.length d),(1,((.func (.func 129) #[] #[pT q 0]))),(5,(vI ((kept (fun x=> !(gU bs.length x)) l (i0+1)).length:Int))),(6,(vI ((i0+1:Nat):Int)))]:=by rw[BO];exact fr.keep (keep:=[0,1,5,6]) kR
 refine gT (fun n_ a_ w_=>∃(j:Nat) (m:ar),n_=l.length-j∧Fr a_ 42 [(0,vS (sM g0) l.length d),(1,(.func (.func 129) #[] #[pT q 0])),(5,(vI ((kept (fun x=> !(gU bs.length x)) l j).length:Int))),(6,nV j)]∧Mem ((bo.row 3 1 (sM g0) l.length d (ints l)).fp) w w_ [.row 3 1 (sM g0) l.length d (ints m)]∧(j≤l.length)∧(CR l m (kept (fun x=> !(gU bs.length x)) l j) j)) (n:=_) ⟨i0+1,l,rfl,fr.kp [0,1,5,6],M2,oM,by rw[EI];exact halfL_start q8⟩ ?_;clear fr aC M2;rintro n aC w5 ⟨j,m,rfl,fr,M6,hj,hh⟩;revert aC;refine bx<|aQ<|aj 3<|gC (decide ((j:Int)<(l.length:Int))) fun B9 xT=> ?_
 refine aE ?_;cases B9;have c9:¬((j:Int)<(l.length:Int)):=iZ xT.symm;refine fT<|gq 0<|gr<|aQ<|aj 2 ?_;intro aC fr;have Fl:j=l.length:=oM;have Jm:=hh.2.2.2;refine ky (kR:ao _ 2=some (some 38,.slice 37 (.tmp 36) (some (.tmp 37)) none none,37,none)) fr kR kR (k':=3) rfl (A:=(sM g0)) (n:=l.length) (cap:=d) (e:=3) (size:=1) (kd:= .i64) (i:=((kept (fun x=> !(gU bs.length x)) l j).length:Int)) (kept (fun x=> !(gU bs.length x)) l j).length kR kR rfl kR kR oM ?_;intro aC ea fr;clear ea;rw[QcA (show¬(d=(kept (fun x=> !(gU bs.length x)) l j).length)by omega)]at fr;refine CG (kR:ao _ 3=some (none,(.call {callee:=(.builtin .clear),args:=#[.tmp 38],argTypes:=#[37]}),0,none)) fr kR kR (k':=4) rfl (e:=3) (z:=vI 0) kR kR rfl (ad:=aZ g0) (off:=(kept (fun x=> !(gU bs.length x)) l j).length*1) (m:=l.length-(kept (fun x=> !(gU bs.length x)) l j).length) (cap':=d-(kept (fun x=> !(gU bs.length x)) l j).length) (n:=l.length) (cap:=d) (xs:=ints m) kR M6 0 rfl oM ?_;intro Ys Lh _ aC ea fr;clear ea;replace Lh:=Lh.nf;revert aC;refine aE<|aQ<|aj 2 ?_;intro aC fr;refine fW (kR:ao _ 2=some (some 41,.slice 37 (.tmp 39) none (some (.tmp 40)) none,37,none)) fr kR kR (k':=3) rfl (A:=(sM g0)) (n:=l.length) (cap:=d) (e:=3) (size:=1) (kd:= .i64) (i:=((kept (fun x=> !(gU bs.length x)) l j).length:Int)) (kept (fun x=> !(gU bs.length x)) l j).length kR kR rfl kR kR oM ?_;intro aC ea fr;clear ea;revert aC;refine aj 1<|aE<|an<|cQ (vS (sM g0) ((kept (fun x=> !(gU bs.length x)) l j).length) d) ?_;have dY:=Lh.kW 0 rfl (kept (fun x=> !(gU bs.length x)) l j).length oM;refine⟨some (aZ g0),d,by rw[←An (p:=(fun x=> !(gU bs.length x))) (show l.length≤j by omega)],dY.cast ?_⟩;rw[←An (p:=(fun x=> !(gU bs.length x))) (show l.length≤j by omega)];show[_]=_;rw[ME hh.2.1];have c9:(j:Int)<(l.length:Int):=nF xT.symm;refine fN<|cg<|bx<|cK 1<|aQ<|aj 2<|eZ (aZ g0) l.length 1 (j:Int)<|bq (aN (aZ g0) (j:Int) 1) (vI (l.getD (j:Int).toNat 0)) (by rw[←H7 hh];exact kS (aB (M6.get 0 rfl)) rfl oM (by have:=hh.1;omega))<|aj 1<|aE ?_;refine aQ<|aj 2<|eY (Ql1 q nm wk pa va A c bs (l.getD (j:Int).toNat 0) w5 hm (hq.at_ M6)) ?_;rintro _ U4 ⟨rfl,Rr⟩;have qK:=M6.cl Rr;obtain⟨ZU,Ql2⟩:∃B,B=!(gU bs.length (l.getD (j:Int).toNat 0)):=⟨_,rfl⟩;refine cH [(0,vS (sM g0) l.length d),(1,(.func (.func 129) #[] #[pT q 0])),(5,(vI ((kept (fun x=> !(gU bs.length x)) l j).length:Int))),(6,nV j),(7,(vI (l.getD (j:Int).toNat 0))),(26,(.func (.func 129) #[] #[pT q 0])),(27,(vI (l.getD (j:Int).toNat 0))),(28,(vB (!(gU bs.length (l.getD (j:Int).toNat 0)))))] ?_;rw[←Ql2];refine aj 1<|aE ?_;cases ZU;have Rs:(!(gU bs.length (l.getD (j:Int).toNat 0)))=false:=Ql2.symm;refine fN<|aQ<|aj 3<|eZ (h0:=oM) (h1:=(by have:=hh.2.2.2;omega)) (aZ g0) l.length 1 ((kept (fun x=> !(gU bs.length x)) l j).length:Int) ?_;refine zJ qK 0 (aN (aZ g0) ((kept (fun x=> !(gU bs.length x)) l j).length:Int) 1) ((((kept (fun x=> !(gU bs.length x)) l j).length:Int)).toNat*1) (vI (l.getD (j:Int).toNat 0)) rfl rfl (by have:=hh.2.2.2;omega) fun Yn JB=> ?_
 replace JB:=JB.nf;refine aE<|dh<|aj 1<|cy (h2:=(by have:=hh.2.2.2;omega)) (((kept (fun x=> !(gU bs.length x)) l j).length:Int)+1) ?_;refine aj 1<|aE<|dh<|aj 1<|cy ((j:Int)+1)<|aj 1<|aE ?_;intro aC fr;have xG:=H6 (p:=(fun x=> !(gU bs.length x))) (show j<l.length by omega) Rs;replace fr:Fr aC 42 [(0,.slice (sM g0) l.length d),(1,((.func (.func 129) #[] #[pT q 0]))),(5,(vI ((kept (fun x=> !(gU bs.length x)) l (j+1)).length:Int))),(6,(vI ((j:Int)+1)))]:=by rw[xG,rV];exact fr.keep (keep:=[0,1,5,6]) kR
 exact⟨l.length-(j+1),oM,j+1,m.set (kept (fun x=> !(gU bs.length x)) l j).length (l.getD (j:Int).toNat 0),rfl,fr.kp [0,1,5,6],(JB.cast (by rw[ints_set,ld,QiX])),oM,by rw[xG];exact H8 hh oM _⟩;have Rs:(!(gU bs.length (l.getD (j:Int).toNat 0)))=true:=Ql2.symm;refine fT<|cg<|dh<|aj 1<|cy ((j:Int)+1)<|aj 1<|aE ?_;intro aC fr;have xG:=MC (p:=(fun x=> !(gU bs.length x))) (show j<l.length by omega) Rs;replace fr:Fr aC 42 [(0,.slice (sM g0) l.length d),(1,((.func (.func 129) #[] #[pT q 0]))),(5,(vI ((kept (fun x=> !(gU bs.length x)) l (j+1)).length:Int))),(6,(vI ((j:Int)+1)))]:=by rw[xG];exact fr.keep (keep:=[0,1,5,6]) kR
 exact⟨l.length-(j+1),oM,j+1,m,rfl,fr.kp [0,1,5,6],qK,oM,by rw[xG];exact MD hh⟩;have EM:(nH (fun x=> !(gU bs.length x)) l)=(-1):=Js.1 JH.symm;refine fN<|bC<|an<|cQ (vS B l.length d) ?_;exact⟨B,d,by rw[any_filter EM],M2.cast (by rw[any_filter EM])⟩
theorem xU(nm wk pa va:Value)(A:aX)(c:Nat)(bs:List SB)(b:Int)(w:World)(hm:bs.length≤1000000)(hA:RO bK w (.blocks A bs)):Calls Try.prog 108 #[(.agg #[nm,wk,pa,va,vS A bs.length c]),vI b] w (fE fun v w'=>∃A' c',v=vS A' (tg bs b).length c'∧Mem bK w w' [.row 3 1 A' (tg bs b).length c' (ints (tg bs b))]):=by
 refine hZ 45 [(.agg #[nm,wk,pa,va,vS A bs.length c]),vI b] Try.func108 ?_;have hM:=Mem.init w;refine aQ<|nJ hM 24 (.agg #[nm,wk,pa,va,vS A bs.length c]) [nm,wk,pa,va,vS A bs.length c] fun b1 w2 kH M3=> ?_
 replace M3:=M3.nf;clear hM;refine aj 1<|aE<|bx<|aQ<|aj 1<|gC (decide (b<0)) fun US BN=> ?_
 refine aj 1 ?_;cases US;have UT:¬(b<0):=iZ BN.symm;refine aj 2<|bq (ak b1 4) _ (ae (M3.get 0 rfl) rfl)<|aj 1<|gC (decide (b≥(bs.length:Int))) fun UU Dw=> ?_
 refine aj 1<|aE ?_;cases UU;have ZP:¬(b≥(bs.length:Int)):=iZ Dw.symm;refine fT<|cg<|aQ ?_;obtain⟨x,hx⟩:=H0 (l:=bs) (i:=b) oM oM;refine aj 1<|bq (ak b1 4) _ (ae (M3.get 0 rfl) rfl)<|aj 1 ?_;obtain⟨vt,rfl⟩:=dN (M3.ro hA) hx;refine eZ vt bs.length 6 b<|gu (aN vt (b) 6) [vS x.pA x.pn x.pc,vS x.iA x.ik x.ic,vI x.e,vI x.v,vI x.a,vI x.b] (qj (M3.ro hA) rfl hx)<|mZ M3 36 [aq,aq,vI 0,vI 0,vI 0,vI 0] fun b5 w6 ZQ M7=> ?_
 replace M7:=M7.nf;refine po M7 1 [vS x.pA x.pn x.pc,vS x.iA x.ik x.ic,vI x.e,vI x.v,vI x.a,vI x.b] rfl fun w8 M9=> ?_
 replace M9:=M9.nf;refine dX [2,5]<|aE<|bC<|bx<|aQ<|aj 1<|bq (ak b5 2) _ (ae (M9.get 1 rfl) rfl)<|aE<|cK 0<|aQ<|gC (x.e==0) fun ZS JC=> ?_
 refine aj 1<|aE ?_;cases ZS;have Yq:¬(x.e=0):=F6 JC;refine fT<|aQ<|gC (x.e==1) fun ZT JD=> ?_
 refine aj 1<|aE ?_;cases ZT;have Yr:¬(x.e=1):=F6 JD;refine fT<|cg<|aQ<|aj 2 ?_;have mc:=Qp4 [.au b1 24 [nm,wk,pa,va,vS (some vt) bs.length c],.au b5 36 [vS x.pA x.pn x.pc,vS x.iA x.ik x.ic,vI x.e,vI x.v,vI x.a,vI x.b],.row 3 1 none 0 0 []] (M9.call (Mem.gK _ 3 1));refine eY (vs:=#[aq,(.func (.func 129) #[] #[pT b1 0])]) (pv [] none 0 b1 nm wk pa va _ c bs w8 sI (mc.get 2 rfl) hm (mc.iJ 0 2 rfl rfl dQ)) ?_;rintro _ NU ⟨U5,NV,rfl,JJ⟩;have rO:=mc.md 2 rfl JJ;refine aj 1<|aE<|an<|cQ (vS U5 (([].filter (fun x=> !((fun x=> !(gU bs.length x)) x))).length) NV) ?_;exact mO (rO.pick [false,false,true] rfl) (by rw[wW oM hx];exact H3 Yq Yr) rfl;have Yr:x.e=1:=Js.1 JD.symm;refine fN<|aQ<|aj 1<|bq (ak b5 4) _ (ae (M9.get 1 rfl) rfl)<|aj 1<|bq (ak b5 5) _ (ae (M9.get 1 rfl) rfl) ?_;intro aC fr;refine rG 34 37 2 #[(0,.tmp 31),(1,.tmp 33)] 37 fr (e:=3) (size:=1) (zs:=[vI 0]) (vs:=[(0,vI x.a),(1,vI x.b)]) (cs:=[vI x.a,vI x.b]) M9 ?_;intro fO Dx Rt _ kI _ aC ea fr;clear ea;replace kI:=kI.nf;revert aC;refine aj 1<|aE<|aQ<|aj 1<|bq (ak b5 4) _ (ae (kI.get 1 rfl) rfl)<|aj 1<|bq (ak b5 5) _ (ae (kI.get 1 rfl) rfl)<|dX [2,6,36,38]<|gC (x.a==x.b) fun UY zj=> ?_
 refine aE ?_;cases UY;have Rp:¬(x.a=x.b):=F6 zj;refine fT<|cg<|aQ<|aj 2<|eY (vs:=#[vS (sM fO) 2 2,(.func (.func 129) #[] #[pT b1 0])]) (pv [x.a,x.b] (sM fO) 2 b1 nm wk pa va _ c bs Dx sI (kI.get 2 rfl) hm (kI.iJ 0 2 rfl rfl dQ)) ?_;rintro _ Yn ⟨A22,Qg,rfl,ZV⟩;have JB:=kI.md 2 rfl ZV;refine aj 1<|aE<|an<|cQ (vS A22 (([x.a,x.b].filter (fun x=> !((fun x=> !(gU bs.length x)) x))).length) Qg) ?_;exact mO (JB.pick [false,false,true] rfl) (by rw[wW oM hx];exact My oM oM) rfl;have Rp:x.a=x.b:=Js.1 zj.symm;refine fN<|dh<|aj 1 ?_;intro aC fr;refine fW (kR:ao _ 1=some (some 41,.slice 37 (.tmp 40) none (some (.const (vI 1))) none,37,none)) fr kR kR (k':=2) rfl (A:=(sM fO)) (n:=2) (cap:=2) (e:=3) (size:=1) (kd:= .i64) (i:=1) 1 kR kR rfl kR kR dQ ?_;intro aC ea fr;clear ea;have zN:=Qp4 [.au b1 24 [nm,wk,pa,va,vS (some vt) bs.length c],.au b5 36 [vS x.pA x.pn x.pc,vS x.iA x.ik x.ic,vI x.e,vI x.v,vI x.a,vI x.b],.row 3 1 (sM fO) 1 2 [vI x.a]] (kI.kW 2 rfl 1 dQ);revert aC;refine aj 1<|aE<|aQ<|aj 2<|eY (vs:=#[vS (sM fO) 1 2,(.func (.func 129) #[] #[pT b1 0])]) (pv [x.a] (sM fO) 2 b1 nm wk pa va _ c bs Dx sI (zN.get 2 rfl) hm (zN.iJ 0 2 rfl rfl dQ)) ?_;rintro _ kh ⟨A31,Yt,rfl,ZW⟩;have Dy:=zN.md 2 rfl ZW;refine aj 1<|aE<|an<|cQ (vS A31 (([x.a].filter (fun x=> !((fun x=> !(gU bs.length x)) x))).length) Yt) ?_;exact mO (Dy.pick [false,false,true] rfl) (by rw[wW oM hx];exact Eh oM) rfl;have Yq:x.e=0:=Js.1 JC.symm;refine fN<|dh<|aj 1<|bq (ak b5 4) _ (ae (M9.get 1 rfl) rfl) ?_;intro aC fr;refine rG 27 37 1 #[(0,.tmp 26)] 37 fr (e:=3) (size:=1) (zs:=[vI 0]) (vs:=[(0,vI x.a)]) (cs:=[vI x.a]) M9 ?_;intro b35 LU Qh8 _ me _ aC ea fr;clear ea;replace me:=me.nf;revert aC;refine aj 1<|aE<|aQ<|aj 2<|eY (vs:=#[vS (sM b35) 1 1,(.func (.func 129) #[] #[pT b1 0])]) (pv [x.a] (sM b35) 1 b1 nm wk pa va _ c bs LU sI (me.get 2 rfl) hm (me.iJ 0 2 rfl rfl dQ)) ?_;rintro _ Xi ⟨zM,ZX,rfl,ZY⟩;have NW:=me.md 2 rfl ZY;refine aj 1<|aE<|an<|cQ (vS zM (([x.a].filter (fun x=> !((fun x=> !(gU bs.length x)) x))).length) ZX) ?_;exact mO (NW.pick [false,false,true] rfl) (by rw[wW oM hx];exact Eh oM) rfl;have ZP:b≥(bs.length:Int):=nF Dw.symm;refine fN<|bC<|an<|cQ aq ?_;exact Ha (M3.pick [false] rfl) (uI oM);have UT:b<0:=nF BN.symm;refine aj 6<|aE<|fN<|bC<|an<|cQ aq ?_;exact Ha (M3.pick [false] rfl) (uI oM)
theorem vu(nm wk pa va:Value)(A:aX)(c:Nat)(bs:List SB)(b:Int)(w:World)(hm:bs.length≤1000000)(hA:RO bK w (.blocks A bs)):Calls Try.prog 42 #[(.agg #[nm,wk,pa,va,vS A bs.length c]),vI b] w (fE fun v w'=>∃A' c',v=vS A' (bS bs b).length c'∧Mem bK w w' [.row 3 1 A' (bS bs b).length c' (ints (bS bs b))]):=by
 refine hZ 24 [(.agg #[nm,wk,pa,va,vS A bs.length c]),vI b] Try.func42 ?_;have hM:=Mem.init w;refine aQ<|nJ hM 24 (.agg #[nm,wk,pa,va,vS A bs.length c]) [nm,wk,pa,va,vS A bs.length c] fun b1 w2 kH M3=> ?_
 replace M3:=M3.nf;clear hM;refine aj 1<|aE<|bC<|bx<|bC<|cK 0 ?_;intro aC fr;refine gT (fun n_ a_ w_=>∃(k:Nat) (A1:aX) (n1:Nat) (c1:Nat) (l1:ar),n_=bs.length-k∧Fr a_ 24 [(1,vI b),(2,pT b1 0),(5,vS A1 n1 c1),(6,nV k)]∧Mem bK w w_ [.au b1 24 [nm,wk,pa,va,vS A bs.length c],.row 3 1 A1 n1 c1 (ints l1)]∧(k≤bs.length)∧(l1=dW bs b k)∧(n1=l1.length)) (n:=_) ⟨0,none,0,0,[],rfl,fr.kp [1,2,5,6],M3.call (Mem.gK _ 3 1),oM,rfl,rfl⟩ ?_;clear fr aC M3;rintro n aC w6 ⟨k,A1,n1,c1,l1,rfl,fr,M7,hk,nR,Cs⟩;revert aC;refine bx<|aQ<|aj 2<|bq (ak b1 4) _ (ae (M7.get 0 rfl) rfl)<|aj 1<|gC (decide ((k:Int)<(bs.length:Int))) fun kf nN=> ?_
 refine aE ?_;cases kf;have Hq:¬((k:Int)<(bs.length:Int)):=iZ nN.symm;refine fT<|gq 0<|gr<|bC<|an<|cQ (vS A1 n1 c1) ?_;obtain rfl:k=bs.length:=oM;exact mO (M7.pick [false,true] rfl) nR Cs;have Hq:(k:Int)<(bs.length:Int):=nF nN.symm;refine fN<|cg<|bx<|cK 1<|aQ<|gu (aZ b1) [nm,wk,pa,va,vS A bs.length c] (aK (M7.get 0 rfl))<|aj 1<|eY (vs:=#[(.agg #[nm,wk,pa,va,vS A bs.length c]),nV k]) (vr _ _ _ _ A c bs (k:Int) w6 hm (hA.at_ M7)) ?_;rintro _ NU ⟨U5,NV,rfl,JJ⟩;have rO:=M7.cl JJ;refine aj 1<|eY (vs:=#[(vS U5 ((tg bs (k:Int)).length) NV),vI b]) (UR (tg bs (k:Int)) b U5 NV NU (pX (oe _ _) dQ) (RO.aB (rO.dT 2 rfl))) ?_;rintro _ Ty ⟨rfl,ZZ⟩;have lQ:=rO.cl ZZ;obtain⟨JA,pR⟩:∃B,B=(tg bs (k:Int)).contains b:=⟨_,rfl⟩;refine cH [(1,vI b),(2,pT b1 0),(5,vS A1 n1 c1),(6,nV k),(16,(vS U5 ((tg bs (k:Int)).length) NV)),(17,vI b),(18,(vB ((tg bs (k:Int)).contains b)))] ?_;rw[←pR];refine aE ?_;cases JA;have vq:((tg bs (k:Int)).contains b)=false:=pR.symm;refine fT<|cg<|dh<|aj 1<|cy ((k:Int)+1)<|aj 1<|aE ?_;intro aC fr;exact⟨bs.length-(k+1),oM,k+1,A1,n1,c1,l1,rfl,fr.kp [1,2,5,6],(lQ.pick [true,true,false] rfl),oM,by rw[oh,QcA (by rw[vq];simp),QiY];exact nR,Cs⟩;have vq:((tg bs (k:Int)).contains b)=true:=pR.symm;refine fN<|dh<|aj 2 ?_;intro aC fr;refine rG 21 37 1 #[(0,.tmp 20)] 37 fr (e:=3) (size:=1) (zs:=[vI 0]) (vs:=[(0,nV k)]) (cs:=[nV k]) lQ ?_;intro kJ Gm U6 _ ni _ aC ea fr;clear ea;replace ni:=ni.nf;refine tT 22 (.tmp 19) (.tmp 21) 37 37 fr (e:=3) (size:=1) (bytes:=8) (z:=(vI 0)) (A:=A1) (B:=(sM kJ)) (n:=n1) (cap:=c1) (m:=1) (cap':=1) (xs:=(ints l1)) (news:=[nV k]) ni 1 rfl (aB (ni.get 3 rfl)) rfl (by simp[Value.oneCell']) (by have:=fZ bs b k;rw[nR]at Cs;omega) (by have:=fZ bs b k;rw[nR]at Cs;simp only[maxLen];omega) ?_;intro A26 BP NX kr _ aC ea fr;clear ea;replace kr:=kr.nf;have qL:=kr.od [2,2,2] 3;revert aC;refine aj 1<|aE<|dh<|aj 1<|cy ((k:Int)+1)<|aj 1<|aE ?_;intro aC fr;exact⟨bs.length-(k+1),oM,k+1,A26,(n1+1),BP,l1++[(k:Int)],rfl,fr.kp [1,2,5,6],((qL.pick [true,true,false] rfl).cast (by rw[iU];rfl)),oM,by rw[oh,dd vq,nR],by rw[rV,Cs];rfl⟩
end Go.Proofs.Ytejbeeaomokjpaa
namespace Go.Proofs.Ytejbeeaomokjpaa
open Go.Mor
theorem Gn(n:Nat)(w:World)(hn:n≤1000000):Calls Try.prog 109 #[nV n] w (fE fun v w'=>∃g,v=vS (sM g) ((n+63) / 64) ((n+63) / 64)∧Mem bK w w' [.row 160 1 (sM g) ((n+63) / 64) ((n+63) / 64) (kz (List.replicate ((n+63) / 64) 0))]):=by
 refine hZ 8 [nV n] Try.func109 ?_;have hM:=Mem.init w;refine bC<|aQ<|aj 1<|cy ((n:Int)+64)<|cy (((n:Int)+64)-1) ?_;intro aC fr;refine dq (kR:ao _ 3=some (some 6,.binOp .quo 3 (.tmp 5) (.const (vI 64)) 3,3,none)) fr kR kR (k':=4) rfl (kd:= .i64) (kd':= .i64) (i:=(n:Int)+64-1) (j:=64) (z:=vI ((((n+63) / 64):Nat):Int)) kR kR (fun w=>by have h:=uF (P:=Try.prog) (t:=3) (i:=n+63) 64 oM dQ w;rw[show((n+63:Nat):Int)=(n:Int)+64-1 by omega]at h;exact h) ?_;intro aC ea fr;clear ea;refine I9 7 132 (.tmp 6) (.tmp 6) 132 fr (e:=160) (bytes:=8) (z:=(.int .u64 0)) (n:=((n+63) / 64)) (i:=((((n+63) / 64):Nat):Int)) oM (by simp only[maxLen];omega) hM ?_;intro b5 w6 ZQ _ M7 _ aC ea fr;clear ea;replace M7:=M7.nf;clear hM;revert aC;refine aj 1<|aE<|an<|cQ (vS (sM b5) ((n+63) / 64) ((n+63) / 64)) ?_;exact⟨b5,rfl,M7.cast (by simp[kz])⟩
theorem PL(ws:List Nat)(n i:Nat)(A:aX)(c:Nat)(w:World)(Ru:Fit ws)(Rq:i≤1000000)(hn:n=ws.length)(hi:i / 64<ws.length)(j0:(bo.row 160 1 A n c (kz ws)).holds w):Calls Try.prog 110 #[vS A n c,nV i] w (fE fun v w'=>v= .tuple #[]∧Mem (bo.row 160 1 A n c (kz ws)).fp w w' [.row 160 1 A n c (kz (uG ws i))]):=by
 subst hn;refine hZ 14 [vS A ws.length c,nV i] Try.func110 ?_;have hM:=Mem.nr j0;obtain⟨g0,NT⟩:=cW (hM.get 0 rfl) (show 0<ws.length by omega);subst NT;refine dX [0,1] ?_;intro aC fr;refine zK (bL [eS (sM g0) ws.length c,.bG (nV i),eI ((i / 64:Nat):Int),eA (aZ g0) ((i / 64:Nat):Int) 1,.bG (.int .u64 ((ws.getD (i / 64) 0:Nat):Int)),.bG (nV i),eI ((i % 64:Nat):Int),.bG (.int .u64 ((2^(i % 64):Nat):Int)),.bG (.int .u64 ((ws.getD (i / 64) 0|||2^(i % 64):Nat):Int)),eA (aZ g0) ((i / 64:Nat):Int) 1,.bG undef]) (fun ls vs w_=>match ls 10 with|true=>(Mem (bo.row 160 1 (sM g0) ws.length c (kz ws)).fp w w_ [.row 160 1 (sM g0) ws.length c (kz (uG ws i))])|false=>(Mem (bo.row 160 1 (sM g0) ws.length c (kz ws)).fp w w_ [.row 160 1 (sM g0) ws.length c (kz ws)])) fr (oK (.bG (.bG (.bG (.bG (.bG (.bG (.bG (.bG (.bG (.bG (.bG .nil)))))))))))) (hM.aD (Mem.drew _)) (pw (tZ lz Qp5 Qp5 ?_ (K6 (aZ g0) ws.length 1 ((i / 64:Nat):Int) fun _ _ _ _ h=>h) (lL (aN (aZ g0) ((i / 64:Nat):Int) 1) (.int .u64 ((ws.getD (i / 64) 0:Nat):Int)) (fun _ _ _ _ h=>h) ?_) Qp5 ?_ ?_) ?_ (K6 (aZ g0) ws.length 1 ((i / 64:Nat):Int) fun _ _ _ _ h=>h) ?_) ?_;intro dM w_ ls vs bZ hJ bp bj hp hF;refine iW (g0:=none) ?_;replace hF:Fr dM 14 [(5,nV i)]:=hF.kp [5];refine dq (kR:ao _ 0=some (some 6,.binOp .quo 3 (.tmp 5) (.const (vI 64)) 3,3,none)) hF kR kR (k':=1) rfl (kd:= .i64) (kd':= .i64) (i:=(i:Int)) (j:=64) (z:=vI ((i / 64:Nat):Int)) kR kR (fun w=>uF 64 oM dQ w) ?_;intro a2 ea _;refine aJ kR ?_;exact aY (d:=some 6) kR ea rfl hJ;intro w_ ls vs hJ bp bj hp;have f10:=Qp3 10 11 bj bp;have aI:=hJ;simp only[f10]at aI;exact(bB (aB (aI.get 0 rfl)) rfl (Ah oM));intro dM w_ ls vs bZ hJ bp bj hp hF;refine iW (g0:=none) ?_;replace hF:Fr dM 14 [(9,nV i)]:=hF.kp [9];refine dq (kR:ao _ 0=some (some 10,.binOp .rem 3 (.tmp 9) (.const (vI 64)) 3,3,none)) hF kR kR (k':=1) rfl (kd:= .i64) (kd':= .i64) (i:=(i:Int)) (j:=64) (z:=vI ((i % 64:Nat):Int)) kR kR (fun w=>Ag 64 dQ w) ?_;intro a2 ea _;refine aJ kR ?_;exact aY (d:=some 10) kR ea rfl hJ;intro dM w_ ls vs bZ hJ bp bj hp hF;refine iW (g0:=none) ?_;replace hF:Fr dM 14 [(10,(vI ((i % 64:Nat):Int)))]:=hF.kp [10];refine dq (kR:ao _ 0=some (some 11,.binOp .shl 160 (.const (.int .u64 1)) (.tmp 10) 3,160,none)) hF kR kR (k':=1) rfl (kd:= .u64) (kd':= .i64) (i:=1) (j:=((i % 64:Nat):Int)) (z:= .int .u64 ((2^(i % 64):Nat):Int)) kR kR (fun w=>Mo (Nat.mod_lt _ dQ) w) ?_;intro a2 ea _;refine aJ kR ?_;exact aY (d:=some 11) kR ea rfl hJ;intro dM w_ ls vs bZ hJ bp bj hp hF;refine iW (g0:=none) ?_;replace hF:Fr dM 14 [(8,(.int .u64 ((ws.getD (i / 64) 0:Nat):Int))),(11,(.int .u64 ((2^(i % 64):Nat):Int)))]:=hF.kp [8,11];refine dq (kR:ao _ 0=some (some 12,.binOp .or 160 (.tmp 8) (.tmp 11) 160,160,none)) hF kR kR (k':=1) rfl (kd:= .u64) (kd':= .u64) (i:=((ws.getD (i / 64) 0:Nat):Int)) (j:=((2^(i % 64):Nat):Int)) (z:= .int .u64 ((ws.getD (i / 64) 0|||2^(i % 64):Nat):Int)) kR kR (fun w=>QG (Ru.get _) (qi (Nat.mod_lt _ dQ)) w) ?_;intro a2 ea _;refine aJ kR ?_;exact aY (d:=some 12) kR ea rfl hJ;intro dM w_ ls vs bZ hJ bp bj hp hF;refine iW (g0:=none) ?_;replace hF:Fr dM 14 [(12,(.int .u64 ((ws.getD (i / 64) 0|||2^(i % 64):Nat):Int))),(13,(vP (aN (aZ g0) ((i / 64:Nat):Int) 1)))]:=hF.kp [12,13];have f10:ls 10=false:=bp;have aI:=hJ;simp only[f10]at aI;refine dZ (kR:ao _ 0=some (none,.store 160 (.tmp 13) (.tmp 12),0,none)) hF kR kR (k':=1) rfl (ad:=(aZ g0)) (j:=((((i / 64:Nat):Int)).toNat*1)) (e:=160) (size:=1) (n:=ws.length) (cap:=c) (v:=(.int .u64 ((ws.getD (i / 64) 0|||2^(i % 64):Nat):Int))) (xs:=(kz ws)) (ad':=(aN (aZ g0) ((i / 64:Nat):Int) 1)) kR rfl kR kR rfl aI 0 rfl oM ?_;intro w2 dY _ a2 ea _;refine aJ kR ?_;refine aY (d:=none) kR ea rfl ?_;show _;exact dY.cast (by show[bo.row _ _ _ _ _ _]=_;rw[uG,HY,ld,QiX]);intro aC w5 ls vs cA M6 hv fr;simp only[show ls 10=true from cA 10 dQ]at M6;revert aC;refine cH [] ?_;clear cA hv fr aC hM;clear vs ls;refine ZD ?_;exact⟨rfl,M6⟩
theorem Rv(ws:List Nat)(n i:Nat)(A:aX)(c:Nat)(w:World)(Ru:Fit ws)(Rq:i≤1000000)(hn:n=ws.length)(hi:i / 64<ws.length)(hA:RO bK w (.rd A (kz ws))):Calls Try.prog 111 #[vS A n c,nV i] w (fE fun v w'=>v=vB (tb ws i)∧Mem bK w w' []):=by
 subst hn;refine hZ 15 [vS A ws.length c,nV i] Try.func111 ?_;have hM:=Mem.init w;refine bC<|aQ<|aj 2 ?_;intro aC fr;refine dq (kR:ao _ 2=some (some 7,.binOp .quo 3 (.tmp 6) (.const (vI 64)) 3,3,none)) fr kR kR (k':=3) rfl (kd:= .i64) (kd':= .i64) (i:=(i:Int)) (j:=64) (z:=vI ((i / 64:Nat):Int)) kR kR (fun w=>uF 64 oM dQ w) ?_;intro aC ea fr;clear ea;obtain⟨kB,rfl⟩:=rd_some (hM.ro hA) (by rw[HZ];omega);revert aC;refine eZ kB ws.length 1 ((i / 64:Nat):Int)<|bq (aN kB ((i / 64:Nat):Int) 1) _ (bB (hM.ro hA) rfl (Ah oM))<|aj 1 ?_;intro aC fr;refine dq (kR:ao _ 6=some (some 11,.binOp .rem 3 (.tmp 10) (.const (vI 64)) 3,3,none)) fr kR kR (k':=7) rfl (kd:= .i64) (kd':= .i64) (i:=(i:Int)) (j:=64) (z:=vI ((i % 64:Nat):Int)) kR kR (fun w=>Ag 64 dQ w) ?_;intro aC ea fr;clear ea;refine dq (kR:ao _ 7=some (some 12,.binOp .shr 160 (.tmp 9) (.tmp 11) 3,160,none)) fr kR kR (k':=8) rfl (kd:= .u64) (kd':= .i64) (i:=((ws.getD (i / 64) 0:Nat):Int)) (j:=((i % 64:Nat):Int)) (z:= .int .u64 ((ws.getD (i / 64) 0 / 2^(i % 64):Nat):Int)) kR kR (fun w=>Mq (Nat.mod_lt _ dQ) w) ?_;intro aC ea fr;clear ea;refine dq (kR:ao _ 8=some (some 13,.binOp .and 160 (.tmp 12) (.const (.int .u64 1)) 160,160,none)) fr kR kR (k':=9) rfl (kd:= .u64) (kd':= .u64) (i:=((ws.getD (i / 64) 0 / 2^(i % 64):Nat):Int)) (j:=1) (z:= .int .u64 ((ws.getD (i / 64) 0 / 2^(i % 64)&&&1:Nat):Int)) kR kR (fun w=>HX (Nat.lt_of_le_of_lt (Nat.div_le_self _ _) (Ru.get _)) w) ?_;intro aC ea fr;clear ea;revert aC;refine gC (((ws.getD (i / 64) 0 / 2^(i % 64)&&&1:Nat):Int)==1) fun Bh hBh=> ?_
 refine aj 1<|aE<|an<|cQ (vB Bh) ?_;exact⟨by rw[hBh,QI];rfl,hM⟩
theorem Gp(l:ar)(A:aX)(c:Nat)(w:World)(hm:l.length≤1000000)(j0:(bo.row 3 1 A l.length c (ints l)).holds w):Calls Try.prog 112 #[vS A l.length c] w (fE fun v w'=>v= .tuple #[]∧Mem (bo.row 3 1 A l.length c (ints l)).fp w w' [.row 3 1 A l.length c (ints l.reverse)]):=by
 refine hZ 28 [vS A l.length c] Try.func112 ?_;have hM:=Mem.nr j0;refine aQ<|aj 2<|cy ((l.length:Int)-1)<|aj 2<|aE<|cK 0 ?_;intro aC fr;replace fr:Fr aC 28 [(0,.slice A l.length c),(2,vI (0:Int)),(3,vI ((l.length:Int)-1-(0:Int)))]:=by rw[show((l.length:Int)-1-(0:Int))=(l.length:Int)-1 by omega];exact fr.keep (keep:=[0,2,3]) kR
 refine gT (fun n_ a_ w_=>∃(k:Nat) (m:ar),n_=l.length-k∧Fr a_ 28 [(0,vS A l.length c),(2,nV k),(3,(vI ((l.length:Int)-1-(k:Int))))]∧Mem (bo.row 3 1 A l.length c (ints l)).fp w w_ [.row 3 1 A l.length c (ints m)]∧(2*k≤l.length)∧(rr l m k)) (n:=_) ⟨0,l,rfl,fr.kp [0,2,3],hM,oM,wi l⟩ ?_;clear fr aC hM;rintro n aC w3 ⟨k,m,rfl,fr,M4,hk,hs⟩;revert aC;refine bx<|aQ<|aj 2<|gC (decide ((k:Int)<((l.length:Int)-1-(k:Int)))) fun Blt U7=> ?_
 refine aE ?_;cases Blt;have kC:¬((k:Int)<((l.length:Int)-1-(k:Int))):=iZ U7.symm;refine fT<|gq 0<|gr<|ZD ?_;exact⟨rfl,M4.cast (by rw[AH hs oM])⟩;have kC:(k:Int)<((l.length:Int)-1-(k:Int)):=nF U7.symm;refine fN<|cg<|bx<|cK 1 ?_;obtain⟨q,hq⟩:∃q:Nat,((l.length:Int)-1-(k:Int))=(q:Int):=⟨l.length-1-k,oM⟩;refine dX [0,2,3,9] ?_;intro aC fr;rw[hq]at fr kC;have Pt:m.length=l.length:=hs.1;obtain⟨g0,NT⟩:=cW (M4.get 0 rfl) (show 0<l.length by omega);subst NT;revert aC;refine dX [0,2,3,9] ?_;intro aC fr;refine zK (bL [eS (sM g0) l.length c,.bG (nV k),eS (sM g0) l.length c,.bG (nV q),eS (sM g0) l.length c,.bG (nV q),eA (aZ g0) (q:Int) 1,eI (m.getD (q:Int).toNat 0),eS (sM g0) l.length c,.bG (nV k),eA (aZ g0) (k:Int) 1,eI (m.getD (k:Int).toNat 0),eA (aZ g0) (k:Int) 1,.bG undef,eA (aZ g0) (q:Int) 1,.bG undef]) (fun ls vs w_=>match ls 15 with|true=>(Mem (bo.row 3 1 (sM g0) l.length c (ints l)).fp w w_ [.row 3 1 (sM g0) l.length c (((ints m).set (((k:Int)).toNat*1) (vI (m.getD (q:Int).toNat 0))).set (((q:Int)).toNat*1) (vI (m.getD (k:Int).toNat 0)))])|false=>(match ls 13 with|true=>(Mem (bo.row 3 1 (sM g0) l.length c (ints l)).fp w w_ [.row 3 1 (sM g0) l.length c ((ints m).set (((k:Int)).toNat*1) (vI (m.getD (q:Int).toNat 0)))])|false=>(Mem (bo.row 3 1 (sM g0) l.length c (ints l)).fp w w_ [.row 3 1 (sM g0) l.length c (ints m)]))) fr (oK (.bG (.bG (.bG (.bG (.bG (.bG (.bG (.bG (.bG (.bG (.bG (.bG (.bG (.bG (.bG (.bG .nil))))))))))))))))) (M4.aD (Mem.drew _)) (la (pw (gE lz Qp5 Qp5 Qp5 Qp5 Qp5 Qp5 (K6 (aZ g0) l.length 1 (q:Int) fun _ _ _ _ h=>h) (lL (aN (aZ g0) (q:Int) 1) (vI (m.getD (q:Int).toNat 0)) (fun _ _ _ _ h=>h) ?_) Qp5 Qp5 (K6 (aZ g0) l.length 1 (k:Int) fun _ _ _ _ h=>h) (lL (aN (aZ g0) (k:Int) 1) (vI (m.getD (k:Int).toNat 0)) (fun _ _ _ _ h=>h) ?_)) (K6 (aZ g0) l.length 1 (k:Int) fun _ _ _ _ h=>h) ?_ (K6 (aZ g0) l.length 1 (q:Int) fun _ _ _ _ h=>h)) ?_) ?_;intro w_ ls vs hJ bp bj hp;have f13:=Qp3 13 16 bj bp;have f15:=Qp3 15 16 bj bp;have aI:=hJ;simp only[f13,f15]at aI;exact(kS (aB (aI.get 0 rfl)) rfl oM oM);intro w_ ls vs hJ bp bj hp;have f13:=Qp3 13 16 bj bp;have f15:=Qp3 15 16 bj bp;have aI:=hJ;simp only[f13,f15]at aI;exact(kS (aB (aI.get 0 rfl)) rfl oM oM);intro dM w_ ls vs bZ hJ bp bj hp hF;refine iW (g0:=none) ?_;replace hF:Fr dM 28 [(21,(vI (m.getD (q:Int).toNat 0))),(26,(vP (aN (aZ g0) (k:Int) 1)))]:=hF.kp [21,26];have f13:ls 13=false:=bp;have f15:=Qp3 15 16 bj bp;have aI:=hJ;simp only[f13,f15]at aI;refine dZ (kR:ao _ 0=some (none,.store 3 (.tmp 26) (.tmp 21),0,none)) hF kR kR (k':=1) rfl (ad:=(aZ g0)) (j:=(((k:Int)).toNat*1)) (e:=3) (size:=1) (n:=l.length) (cap:=c) (v:=(vI (m.getD (q:Int).toNat 0))) (xs:=(ints m)) (ad':=(aN (aZ g0) (k:Int) 1)) kR rfl kR kR rfl aI 0 rfl oM ?_;intro w2 dY _ a2 ea _;refine aJ kR ?_;refine aY (d:=none) kR ea rfl ?_;show match ls 15 with|true=>_|false=>(_)
 rw[f15];exact dY;intro dM w_ ls vs bZ hJ bp bj hp hF;refine iW (g0:=none) ?_;replace hF:Fr dM 28 [(25,(vI (m.getD (k:Int).toNat 0))),(27,(vP (aN (aZ g0) (q:Int) 1)))]:=hF.kp [25,27];have f13:=Qp8 13 16 bj hp;have f15:ls 15=false:=bp;have aI:=hJ;simp only[f13,f15]at aI;refine dZ (kR:ao _ 0=some (none,.store 3 (.tmp 27) (.tmp 25),0,none)) hF kR kR (k':=1) rfl (ad:=(aZ g0)) (j:=(((q:Int)).toNat*1)) (e:=3) (size:=1) (n:=l.length) (cap:=c) (v:=(vI (m.getD (k:Int).toNat 0))) (xs:=((ints m).set (((k:Int)).toNat*1) (vI (m.getD (q:Int).toNat 0)))) (ad':=(aN (aZ g0) (q:Int) 1)) kR rfl kR kR rfl aI 0 rfl oM ?_;intro w2 dY _ a2 ea _;refine aJ kR ?_;refine aY (d:=none) kR ea rfl ?_;show _;exact dY;intro aC NU ls vs cA rO hv fr;simp only[show ls 15=true from cA 15 dQ]at rO;revert aC;refine cH [(0,vS (sM g0) l.length c),(2,nV k),(3,nV q)] ?_;clear cA hv fr aC M4;clear vs ls;refine dh<|aj 1<|cy ((k:Int)+1)<|aj 1<|cy ((q:Int)-1)<|aj 2<|aE ?_;intro aC fr;replace fr:Fr aC 28 [(0,.slice (sM g0) l.length c),(2,vI ((k+1:Nat):Int)),(3,vI ((l.length:Int)-1-((k+1:Nat):Int)))]:=by rw[show((l.length:Int)-1-((k+1:Nat):Int))=(q:Int)-1 by omega];exact fr.keep (keep:=[0,2,3]) kR
 exact⟨l.length-(k+1),oM,k+1,(m.set k (m.getD q 0)).set q (m.getD k 0),rfl,fr.kp [0,2,3],(rO.cast (by rw[ints_set,ints_set];simp only[ld,QiX])),oM,yR hs oM⟩
end Go.Proofs.Ytejbeeaomokjpaa
namespace Go.Proofs.Ytejbeeaomokjpaa
open Go.Mor
theorem zk(nm wk pa va:Value)(A:aX)(c:Nat)(bs:List SB)(w:World)(hm:bs.length≤1000000)(hA:RO bK w (.blocks A bs)):Calls Try.prog 80 #[(.agg #[nm,wk,pa,va,(.slice A bs.length c)])] w (fE fun v w'=>∃A' c',v=vS A' (aF bs).length c'∧Mem bK w w' [.row 3 1 A' (aF bs).length c' (ints (aF bs))]):=by
 refine hZ 83 [(.agg #[nm,wk,pa,va,(.slice A bs.length c)])] Try.func80 ?_;have hM:=Mem.init w;refine aQ<|nJ hM 24 (.agg #[nm,wk,pa,va,(.slice A bs.length c)]) [nm,wk,pa,va,(.slice A bs.length c)] fun b1 w2 kH M3=> ?_
 replace M3:=M3.nf;clear hM;refine aj 1<|aE<|bx<|aQ<|aj 1<|bq (ak b1 4) (.slice A bs.length c) (ae (M3.get 0 rfl) rfl)<|aj 1<|gC (((bs.length:Nat):Int)==0) fun Bz U8=> ?_
 refine aE ?_;cases Bz;have cz:¬(((bs.length:Nat):Int)=0):=F6 U8;refine fT<|cg<|aQ<|aj 1<|bq (ak b1 4) (.slice A bs.length c) (ae (M3.get 0 rfl) rfl)<|aj 1<|eY (Gn bs.length w2 oM) ?_;rintro _ w5 ⟨g4,rfl,M6x⟩;have M6:=M3.cl M6x;refine aj 1<|aE<|aQ<|aj 1<|eY (vs:=#[(.slice (sM g4) ((bs.length+63) / 64) ((bs.length+63) / 64)),(.int .i64 0)]) (PL (List.replicate ((bs.length+63) / 64) 0) ((bs.length+63) / 64) 0 (sM g4) ((bs.length+63) / 64) w5 (Fit.zero _) oM sI (by simp;omega) (M6.get 1 rfl)) ?_;rintro _ w7 ⟨rfl,LV⟩;have M8:=M6.md 1 rfl LV;refine aE<|bC<|aQ<|aj 1 ?_;intro aC fr;refine rG 20 137 1 #[(0,(.tmp 19))] 137 fr (e:=136) (size:=2) (zs:=[(.int .i64 0),(.int .i64 0)]) (vs:=[(0,(.agg #[(.int .i64 0),(.int .i64 0)]))]) (cs:=[(.int .i64 0),(.int .i64 0)]) M8 ?_;intro b9 U9 hb9 _ rP _ aC ea fr;clear ea;replace rP:=rP.nf;revert aC;refine aj 1<|aE<|bx<|cK 0 ?_;obtain⟨s0,EI,Va⟩:=sd bs;intro aC fr;refine gT (fun n_ a_ w_=>∃(ws:List Nat) (S:Int→Bool) (o9:List (Int×Nat)) (A3:aX) (c3:Nat) (A2:aX) (n2:Nat) (c2:Nat) (o:ar),n_=4*Hv bs.length S+AF (tg bs) o9∧Fr a_ 83 [(1,(pT b1 0)),(3,(.slice (sM g4) ((bs.length+63) / 64) ((bs.length+63) / 64))),(4,(.slice A2 n2 c2)),(5,(.slice A3 o9.length c3))]∧Mem bK w w_ [.au b1 24 [nm,wk,pa,va,(.slice A bs.length c)],.row 160 1 (sM g4) ((bs.length+63) / 64) ((bs.length+63) / 64) (kz ws),.row 136 2 A3 o9.length c3 (ou o9),.row 3 1 A2 n2 c2 (ints o)]∧(MetL bs.length ws S)∧(AE (tg bs) o9 (S,o) (AD bs))∧(xh (tg bs) o9)∧(o.length+o9.length+Hv bs.length S≤bs.length)∧(n2=o.length)) (n:=_) ⟨uG (List.replicate ((bs.length+63) / 64) 0) 0,fw (fun _=>false) 0,[(0,0)],(sM b9),1,none,0,0,[],rfl,fr.kp [1,3,4,5],(rP.call (Mem.gK _ 3 1)),(MetL.start bs.length).put oM,⟨s0,EI,Va⟩,MS _ _,by have:=fL (n:=bs.length) (S:=fun _=>false) (t:=0) oM oM rfl;have:=j8 bs.length (fun _=>false);simp only[je,QdW];omega,rfl⟩ ?_;clear fr aC rP;rintro n aC NS ⟨ws,S,o9,A3,c3,A2,n2,c2,o,rfl,fr,lu,SS,QbG,NY,vh,Ho⟩;revert aC;refine bx<|aQ<|aj 2<|gC (decide (((o9.length:Nat):Int)>0)) fun Bw PM=> ?_
 refine aE ?_;cases Bw;have cw:¬(((o9.length:Nat):Int)>0):=iZ PM.symm;refine fT<|gq 0<|gr<|aQ ?_;obtain rfl:o9=[]:=by cases o9 with|nil=>rfl|cons p r=>simp at cw
 have Vb:o=AD bs:=QbG;simp only[QdW]at vh;subst Ho;refine aj 1<|eY (Gp o A2 c2 NS oM (lu.get 3 rfl)) ?_;rintro _ U4 ⟨rfl,Rr⟩;have qK:=lu.md 3 rfl Rr;refine aE<|bC<|an<|cQ (.slice A2 o.length c2) ?_;exact mO (qK.pick [false,false,false,true] rfl) (by unfold aF;rw[QcA oM,Vb]) sI;have cw:((o9.length:Nat):Int)>0:=nF PM.symm;refine fN<|cg<|cK 1<|aQ ?_;obtain⟨b,k,rest,rfl⟩:∃b k rest,o9=(b,k)::rest:=by
   cases o9 with
   |nil=>simp at cw
   |cons p rest=>exact⟨p.1,p.2,rest,rfl⟩
 have Jm:=NY _ (en ..);simp only at Jm;have Hr:((b,k)::rest).length=rest.length+1:=rfl;have BQ:=vh;simp only[je]at BQ;have jv:=p7 (lu.get 2 rfl);obtain⟨g3,rfl⟩:=cW (lu.get 2 rfl) (Nat.succ_pos _);refine aj 3 ?_;intro aC fr;refine fU (kR:ao _ 3=some (some 27,(.binOp .sub 3 (.tmp 26) (.const (.int .i64 1)) 3),3,none)) fr kR kR (k':=4) rfl (i:=((((b,k)::rest).length:Nat):Int)) (j:=1) (z:=((rest.length:Nat):Int)) kR kR (Qi9 some (by rw[Hr];omega)) oM oM ?_;intro aC ea fr;clear ea;revert aC;refine eZ (aZ g3) (((b,k)::rest).length) 2 ((rest.length:Nat):Int)<|aj 1<|aE<|bx<|cH [(1,(pT b1 0)),(3,(.slice (sM g4) ((bs.length+63) / 64) ((bs.length+63) / 64))),(4,(.slice A2 n2 c2)),(5,(.slice (sM g3) (((b,k)::rest).length) c3)),(6,(.pointer (some (((aZ g3):Addr).add ((((rest.length:Nat):Int)).toNat*2)))))] ?_;intro aC fr;refine zK (N:=83) (env0:=[(1,(pT b1 0)),(3,(.slice (sM g4) ((bs.length+63) / 64) ((bs.length+63) / 64))),(4,(.slice A2 n2 c2)),(5,(.slice (sM g3) (((b,k)::rest).length) c3)),(6,(.pointer (some (((aZ g3):Addr).add ((((rest.length:Nat):Int)).toNat*2)))))]) (bL [.bG (.agg #[nm,wk,pa,va,(.slice A bs.length c)]),.bG (.pointer (some (((aZ g3):Addr).add ((((rest.length:Nat):Int)).toNat*2)))),.bG (.pointer (some (((aZ g3):Addr).add ((((rest.length:Nat):Int)).toNat*2)))),.bG (.pointer (some (((aZ g3):Addr).add ((((rest.length:Nat):Int)).toNat*2)))),.bG (.int .i64 b),Spec.free,Spec.free]) (fun ls vs w_=>match ls 6 with|true=>(∃(NZ:aX) (Hs:Nat),vs 6=(.slice NZ ((tg bs b).length) Hs)∧Mem bK w w_ [.au b1 24 [nm,wk,pa,va,(.slice A bs.length c)],.row 160 1 (sM g4) ((bs.length+63) / 64) ((bs.length+63) / 64) (kz ws),.row 136 2 (sM g3) (((b,k)::rest).length) c3 (ou ((b,k)::rest)),.row 3 1 A2 n2 c2 (ints o),.row 3 1 NZ ((tg bs b).length) Hs (ints (tg bs b))])|false=>(match ls 5 with|true=>(∃(NZ:aX) (Hs:Nat),vs 5=(.slice NZ ((tg bs b).length) Hs)∧Mem bK w w_ [.au b1 24 [nm,wk,pa,va,(.slice A bs.length c)],.row 160 1 (sM g4) ((bs.length+63) / 64) ((bs.length+63) / 64) (kz ws),.row 136 2 (sM g3) (((b,k)::rest).length) c3 (ou ((b,k)::rest)),.row 3 1 A2 n2 c2 (ints o),.row 3 1 NZ ((tg bs b).length) Hs (ints (tg bs b))])|false=>(Mem bK w w_ [.au b1 24 [nm,wk,pa,va,(.slice A bs.length c)],.row 160 1 (sM g4) ((bs.length+63) / 64) ((bs.length+63) / 64) (kz ws),.row 136 2 (sM g3) (((b,k)::rest).length) c3 (ou ((b,k)::rest)),.row 3 1 A2 n2 c2 (ints o)]))) fr (oK (.bG (.bG (.bG (.bG (.bG (.free (.free .nil)))))))) (lu.aD (Mem.drew _)) (rY (Cu lz ?_ Qp5 Qp5 Qp5 (lL (((aZ g3):Addr).add ((((rest.length:Nat):Int)).toNat*2)) (.int .i64 b) (fun _ _ _ _ h=>h) ?_)) ?_ ?_) ?_;intro dM w_ ls vs bZ hJ bp bj hp hF;refine iW (g0:=none) ?_;replace hF:Fr dM 83 [(1,(pT b1 0))]:=hF.kp [1];have f5:=Qp3 5 7 bj bp;have f6:=Qp3 6 7 bj bp;have aI:=hJ;simp only[f5,f6]at aI;refine eV (kR:ao _ 0=some (some 29,(.load 24 (.tmp 1)),24,none)) hF kR kR (k':=1) rfl (ad:=aZ b1) (vs:=[nm,wk,pa,va,(.slice A bs.length c)]) kR kR (aK (aI.get 0 rfl)) ?_;intro a2 ea _;refine aJ kR ?_;exact aY (d:=some 29) kR ea rfl hJ;intro w_ ls vs hJ bp bj hp;have f5:=Qp3 5 7 bj bp;have f6:=Qp3 6 7 bj bp;have aI:=hJ;simp only[f5,f6]at aI;exact(by rw[ld];exact D6 (aB (aI.get 2 rfl)) rfl rq.1);intro dM w_ ls vs bZ hJ bp bj hp hF;refine iW (g0:=none) ?_;replace hF:Fr dM 83 [(29,(.agg #[nm,wk,pa,va,(.slice A bs.length c)])),(33,(.int .i64 b))]:=hF.kp [29,33];have f5:ls 5=false:=bp;have f6:=Qp3 6 7 bj bp;have aI:=hJ;simp only[f5,f6]at aI;refine iT (kR:ao _ 0=some (some 34,(.call {callee:=(.value (.func 108)),args:=#[(.tmp 29),(.tmp 33)],argTypes:=#[24,3]}),37,none)) hF kR kR (k':=1) rfl (f:=108) (vs:=[(.agg #[nm,wk,pa,va,(.slice A bs.length c)]),(.int .i64 b)]) (cap:=[]) kR kR kR (xU _ _ _ _ A c bs b w_ hm (hA.at_ aI)) ?_;rintro _ w2 ⟨N0,N1,rfl,dY⟩ a2 ea _;have N2:=aI.call dY;refine aJ kR ?_;refine aY (d:=some 34) kR ea trivial ?_;show match ls 6 with|true=>_|false=>(∃(NZ:aX) (Hs:Nat),_)
 rw[f6];exact⟨N0,N1,rfl,N2⟩;intro dM w_ ls vs bZ hJ bp bj hp hF;refine iW (g0:=none) ?_;replace hF:Fr dM 83 [(34,vs 5)]:=hF.kp [34];have f5:=Qp8 5 7 bj hp;have f6:ls 6=false:=bp;have aI:=hJ;simp only[f5,f6]at aI;obtain⟨N0,N1,e_,dY⟩:=aI;rw[e_]at hF;refine eU (kR:ao _ 0=some (some 7,(.assign (.tmp 34)),37,none)) hF kR kR (k':=1) rfl (v:=(.slice N0 ((tg bs b).length) N1)) kR ?_;intro a2 ea _;refine aJ kR ?_;refine aY (d:=some 7) kR ea trivial ?_;show∃(NZ:aX) (Hs:Nat),_;exact⟨N0,N1,rfl,dY⟩;intro aC N3 ls vs cA ll hv fr;simp only[show ls 6=true from cA 6 dQ]at ll;revert aC;refine cH [(1,(pT b1 0)),(3,(.slice (sM g4) ((bs.length+63) / 64) ((bs.length+63) / 64))),(4,(.slice A2 n2 c2)),(5,(.slice (sM g3) (((b,k)::rest).length) c3)),(6,(.pointer (some (((aZ g3):Addr).add ((((rest.length:Nat):Int)).toNat*2))))),(7,vs 6)] ?_;obtain⟨NZ,Hs,e_,ll⟩:=ll;rw[e_];clear e_;clear cA hv fr aC lu;clear vs ls;refine bx<|aQ<|aj 3<|bq ((((aZ g3):Addr).add ((((rest.length:Nat):Int)).toNat*2)).add 1) (nV k) (by rw[ld,add_add];exact D6 (aB (ll.get 2 rfl)) rfl rq.2)<|aj 2<|gC ((k:Int)==(((tg bs b).length:Nat):Int)) fun Bl Tz=> ?_
 refine aE ?_;cases Bl;have cl:¬((k:Int)=(((tg bs b).length:Nat):Int)):=F6 Tz;refine fT<|cg<|aQ ?_;obtain⟨ti,Dz,Gq⟩:=Ir (bs:=bs) (b:=b) (k:=k) oM;refine aj 4<|bq ((((aZ g3):Addr).add ((((rest.length:Nat):Int)).toNat*2)).add 1) (nV k) (by rw[ld,add_add];exact D6 (aB (ll.get 2 rfl)) rfl rq.2) ?_;obtain⟨Z0,rfl⟩:=cW (ll.get 4 rfl) oM;refine eZ (h1:=oM) (aZ Z0) ((tg bs b).length) 1 (k:Int)<|bq (((aZ Z0):Addr).add (((k:Int)).toNat*1)) (nV ti) (fR (aB (ll.get 4 rfl)) rfl Dz)<|aj 1<|aE<|aQ<|aj 3<|bq ((((aZ g3):Addr).add ((((rest.length:Nat):Int)).toNat*2)).add 1) (nV k) (by rw[ld,add_add];exact D6 (aB (ll.get 2 rfl)) rfl rq.2)<|cy (h2:=(by have:=oe bs b;omega)) ((k:Int)+1)<|aj 2<|zJ ll 2 ((((aZ g3):Addr).add ((((rest.length:Nat):Int)).toNat*2)).add 1) (rest.length*2+1) (.int .i64 ((k:Int)+1)) rfl (by rw[ld,add_add]) (by rw[Hr];omega) fun kD Vc=> ?_
 replace Vc:=Vc.nf;refine aE<|aQ ?_;have s8:=Qp4 [.au b1 24 [nm,wk,pa,va,(.slice A bs.length c)],.row 160 1 (sM g4) ((bs.length+63) / 64) ((bs.length+63) / 64) (kz ws),.row 136 2 (sM g3) (((b,k+1)::rest).length) c3 (ou ((b,k+1)::rest)),.row 3 1 A2 n2 c2 (ints o),.row 3 1 (sM Z0) ((tg bs b).length) Hs (ints (tg bs b))] (Vc.cast (by rw[MR];rfl));refine aj 2<|eY (Rv ws ((bs.length+63) / 64) ti (sM g4) ((bs.length+63) / 64) kD SS.fit oM SS.len.symm (SS.idx Gq) (RO.aB (s8.dT 1 rfl))) ?_;rintro _ kE ⟨rfl,Rw⟩;have EN:=s8.cl Rw;obtain⟨Bm,Z1⟩:∃B,B=tb ws ti:=⟨_,rfl⟩;refine cH [(1,(pT b1 0)),(3,(.slice (sM g4) ((bs.length+63) / 64) ((bs.length+63) / 64))),(4,(.slice A2 n2 c2)),(5,(.slice (sM g3) (((b,k+1)::rest).length) c3)),(8,(nV ti)),(68,(.slice (sM g4) ((bs.length+63) / 64) ((bs.length+63) / 64))),(69,(nV ti)),(70,(.bool (tb ws ti)))] ?_;rw[←Z1];refine aj 1<|aE ?_;cases Bm;have cm:(tb ws ti)=false:=Z1.symm;have N4:S (ti:Int)=false:=by rw[←SS.bits ti Gq];exact cm
 refine fN<|aQ<|aj 2<|eY (PL ws ((bs.length+63) / 64) ti (sM g4) ((bs.length+63) / 64) kE SS.fit oM SS.len.symm (SS.idx Gq) (EN.get 1 rfl)) ?_;rintro _ kF ⟨rfl,Rx⟩;have JK:=EN.md 1 rfl Rx;refine aE<|dh<|aj 3 ?_;intro aC fr;refine rG 78 137 1 #[(0,(.tmp 77))] 137 fr (e:=136) (size:=2) (zs:=[(.int .i64 0),(.int .i64 0)]) (vs:=[(0,(.agg #[(nV ti),(.int .i64 0)]))]) (cs:=[(nV ti),(.int .i64 0)]) JK ?_;intro b45 kP hb45 _ EO _ aC ea fr;clear ea;replace EO:=EO.nf;refine tT 79 (.tmp 75) (.tmp 78) 137 137 fr (e:=136) (size:=2) (bytes:=16) (z:=(.agg #[(.int .i64 0),(.int .i64 0)])) (A:=(sM g3)) (B:=(sM b45)) (n:=(((b,k+1)::rest).length)) (cap:=c3) (m:=1) (cap':=1) (xs:=(ou ((b,k+1)::rest))) (news:=[(nV ti),(.int .i64 0)]) EO 2 rfl (aB (EO.get 5 rfl)) rfl (by simp[Value.oneCell']) (by simp only[je];omega) (by simp only[maxLen,je];omega) ?_;intro mH kK Vd qM _ aC ea fr;clear ea;replace qM:=qM.nf;have sC:=qM.od [4,4,4,4,4] 5;revert aC;refine aj 1<|aE ?_;intro aC fr;exact⟨4*Hv bs.length (fw S (ti:Int))+AF (tg bs) (((ti:Int),0)::(b,k+1)::rest),by have:=oe bs (ti:Int);have:=fL (n:=bs.length) (S:=S) (t:=(ti:Int)) oM oM N4;simp only[AF];omega,uG ws ti,fw S (ti:Int),((ti:Int),0)::(b,k+1)::rest,mH,kK,A2,n2,c2,o,rfl,fr.kp [1,3,4,5],((sC.pick [true,true,true,true,false] rfl).cast (by rw[kN ((ti:Int),0)];rfl)),SS.put Gq,Ip QbG Dz N4,Iq NY oM,by have:=fL (n:=bs.length) (S:=S) (t:=(ti:Int)) oM oM N4;simp only[je]at vh⊢;omega,Ho⟩;have cm:(tb ws ti)=true:=Z1.symm;have N4:S (ti:Int)=true:=by rw[←SS.bits ti Gq];exact cm
 refine fT<|cg ?_;intro aC fr;exact⟨4*Hv bs.length S+AF (tg bs) ((b,k+1)::rest),by simp only[AF];omega,ws,S,(b,k+1)::rest,(sM g3),c3,A2,n2,c2,o,rfl,fr.kp [1,3,4,5],(EN.pick [true,true,true,true,false] rfl),SS,Io QbG Dz N4,MT NY oM,by simp only[je]at vh⊢;omega,Ho⟩;have cl:(k:Int)=(((tg bs b).length:Nat):Int):=Js.1 Tz.symm;refine fN<|aQ<|aj 4<|bq (((aZ g3):Addr).add ((((rest.length:Nat):Int)).toNat*2)) (.int .i64 b) (by rw[ld];exact D6 (aB (ll.get 2 rfl)) rfl rq.1) ?_;intro aC fr;refine rG 47 37 1 #[(0,(.tmp 46))] 37 fr (e:=3) (size:=1) (zs:=[(.int .i64 0)]) (vs:=[(0,(.int .i64 b))]) (cs:=[(.int .i64 b)]) ll ?_;intro b63 I7 hb63 _ Cv _ aC ea fr;clear ea;replace Cv:=Cv.nf;refine tT 48 (.tmp 42) (.tmp 47) 37 37 fr (e:=3) (size:=1) (bytes:=8) (z:=(.int .i64 0)) (A:=A2) (B:=(sM b63)) (n:=n2) (cap:=c2) (m:=1) (cap':=1) (xs:=(ints o)) (news:=[(.int .i64 b)]) Cv 3 rfl (aB (Cv.get 5 rfl)) rfl (by simp[Value.oneCell']) oM (by simp only[maxLen];omega) ?_;intro kU Ry Z2 Cw _ aC ea fr;clear ea;replace Cw:=Cw.nf;have EP:=Cw.od [4,4,4,4,4] 5;revert aC;refine aj 1<|aE<|aQ<|aj 3 ?_;intro aC fr;refine fU (kR:ao _ 3=some (some 52,(.binOp .sub 3 (.tmp 51) (.const (.int .i64 1)) 3),3,none)) fr kR kR (k':=4) rfl (i:=((((b,k)::rest).length:Nat):Int)) (j:=1) (z:=((rest.length:Nat):Int)) kR kR (Qi9 some (by rw[Hr];omega)) oM oM ?_;intro aC ea fr;clear ea;refine fW (kR:ao _ 4=some (some 53,(.slice 137 (.tmp 49) none (some (.tmp 52)) none),137,none)) fr kR kR (k':=5) rfl (A:=(sM g3)) (n:=((b,k)::rest).length) (cap:=c3) (e:=136) (size:=2) (kd:= .i64) (i:=((rest.length:Nat):Int)) rest.length kR kR rfl kR kR oM ?_;intro aC ea fr;clear ea;have nx:=Qp4 [.au b1 24 [nm,wk,pa,va,(.slice A bs.length c)],.row 160 1 (sM g4) ((bs.length+63) / 64) ((bs.length+63) / 64) (kz ws),.row 136 2 (sM g3) rest.length c3 (ou rest),.row 3 1 kU (n2+1) Ry ((ints o)++[(.int .i64 b)]),.row 3 1 NZ ((tg bs b).length) Hs (ints (tg bs b))] ((EP.kW 2 rfl rest.length oM).cast (by rw[MQ];rfl));revert aC;refine aj 1<|aE<|gq 1<|gr ?_;intro aC fr;exact⟨4*Hv bs.length S+AF (tg bs) rest,by simp only[AF];omega,ws,S,rest,(sM g3),c3,kU,(n2+1),Ry,o++[b],rfl,fr.kp [1,3,4,5],((nx.pick [true,true,true,true,false] rfl).cast (by rw[iU];rfl)),SS,MP QbG oM,fun p hp=>NY p (QiV _ hp),by simp only[rV,je,QdW]at vh⊢;omega,by simp only[rV,je,QdW];omega⟩;have cz:((bs.length:Nat):Int)=0:=Js.1 U8.symm;refine fN<|bC<|an<|cQ aq ?_;exact Ha (M3.pick [false] rfl) (by unfold aF;rw[dd oM])
end Go.Proofs.Ytejbeeaomokjpaa
namespace Go.Proofs.Ytejbeeaomokjpaa
open Go.Mor
theorem DA(nm wk pa va:Value)(A:aX)(c:Nat)(bs:List SB)(bar:Int)(w:World)(hm:bs.length≤1000000)(hA:RO bK w (.blocks A bs)):Calls Try.prog 41 #[(.agg #[nm,wk,pa,va,vS A bs.length c]),vI bar] w (fE fun v w'=>∃A' c',v=vS A' bs.length c'∧Mem bK w w' [.row 4 1 A' bs.length c' (bD (fM bs bar))]):=by
 refine hZ 74 [(.agg #[nm,wk,pa,va,vS A bs.length c]),vI bar] Try.func41 ?_;have hM:=Mem.init w;refine aQ<|nJ hM 24 (.agg #[nm,wk,pa,va,vS A bs.length c]) [nm,wk,pa,va,vS A bs.length c] fun b1 w2 kH M3=> ?_
 replace M3:=M3.nf;clear hM;refine aj 1<|aE<|aQ<|aj 1<|bq (ak b1 4) _ (ae (M3.get 0 rfl) rfl)<|aj 1 ?_;intro aC fr;refine I9 13 46 (.tmp 12) (.tmp 12) 46 fr (e:=4) (bytes:=1) (z:=(vB false)) (n:=bs.length) (i:=(bs.length:Int)) oM (by simp only[maxLen];omega) M3 ?_;intro b4 w5 LW _ M6 _ aC ea fr;clear ea;replace M6:=M6.nf;revert aC;refine aj 1<|aE<|bx<|aQ<|aj 1<|bq (ak b1 4) _ (ae (M6.get 0 rfl) rfl)<|aj 1<|gC ((bs.length:Int)==0) fun Bz U8=> ?_
 refine aj 1 ?_;cases Bz;have cz:¬((bs.length:Int)=0):=F6 U8;refine aj 1<|gC (bar==0) fun Bb Ve=> ?_
 refine aj 1<|aE ?_;cases Bb;have cb:¬(bar=0):=F6 Ve;refine fT<|cg<|aQ<|aj 1<|eZ (aZ b4) bs.length 1 0<|zJ M6 1 (aN (aZ b4) (0:Int) 1) ((0:Int).toNat*1) (vB true) rfl rfl oM fun DB jV=> ?_
 replace jV:=jV.nf;refine dX [1,2,5]<|aE<|aQ ?_;intro aC fr;refine rG 25 37 1 #[(0,.const (vI 0))] 37 fr (e:=3) (size:=1) (zs:=[vI 0]) (vs:=[(0,vI 0)]) (cs:=[vI 0]) jV ?_;intro Z3 Ys Qo1 _ Lh _ aC ea fr;clear ea;replace Lh:=Lh.nf;revert aC;refine aj 1<|aE<|bx<|bC<|cK 0 ?_;intro aC fr;refine gT (fun n_ a_ w_=>∃(i:Nat) (S:Int→Bool) (inl:List Bool) (todo:ar) (A2:aX) (n2:Nat) (c2:Nat),n_=bs.length-i∧Fr a_ 74 [(1,vI bar),(2,pT b1 0),(5,vS (sM b4) bs.length bs.length),(6,vS A2 n2 c2),(7,nV i)]∧Mem bK w w_ [.au b1 24 [nm,wk,pa,va,vS A bs.length c],.row 4 1 (sM b4) bs.length bs.length (bD inl),.row 3 1 A2 n2 c2 (ints todo)]∧(dR bs.length inl S)∧(AJ (tg bs) bar S todo i 0)∧(todo.length+Hv bs.length S≤bs.length)∧(n2=todo.length)∧(i≤todo.length)) (n:=_) ⟨0,fw (fun _=>false) 0,(List.replicate bs.length false).set 0 true,[0],(sM Z3),1,1,rfl,fr.kp [1,2,5,6,7],(Lh.cast (by simp[bD,ints,qB])),(dR.start bs.length).put oM,AJ.start _ _,by have:=fL (n:=bs.length) (S:=fun _=>false) (t:=0) oM oM rfl;have:=j8 bs.length (fun _=>false);simp only[je,QdW];omega,rfl,oM⟩ ?_;clear fr aC Lh;rintro n aC U4 ⟨i,S,inl,todo,A2,n2,c2,rfl,fr,qK,o8,lD,vh,Ho,hi⟩;revert aC;refine bx<|aQ<|aj 3<|gC (decide ((i:Int)<(n2:Int))) fun Bw PM=> ?_
 refine aE ?_;cases Bw;have cw:¬((i:Int)<(n2:Int)):=iZ PM.symm;refine fT<|gq 0<|gr<|bC<|an<|cQ (vS (sM b4) bs.length bs.length) ?_;have fk:=qK.od [1] 1;exact⟨_,_,rfl,(fk).cast (by rw[Iw o8 lD oM oM])⟩;have cw:(i:Int)<(n2:Int):=nF PM.symm;refine fN<|cg<|bx<|cK 1<|bx ?_;obtain⟨b,hb⟩:∃b,todo[i]?=some b:=⟨_,List.getElem?_eq_getElem oM⟩;obtain⟨g3,rfl⟩:=cW (qK.get 2 rfl) oM;have x9:=oe bs b;refine dX [1,2,5,6,7,29] ?_;intro aC fr;refine zK (bL [.bG (.agg #[nm,wk,pa,va,vS A bs.length c]),eS (sM g3) n2 c2,.bG (nV i),eA (aZ g3) (i:Int) 1,eI b,Spec.free,Spec.free]) (fun ls vs w_=>match ls 6 with|true=>(∃(LX:aX) (Gr:Nat),vs 6=(vS LX ((tg bs b).length) Gr)∧Mem bK w w_ [.au b1 24 [nm,wk,pa,va,vS A bs.length c],.row 4 1 (sM b4) bs.length bs.length (bD inl),.row 3 1 (sM g3) n2 c2 (ints todo),.row 3 1 LX ((tg bs b).length) Gr (ints (tg bs b))])|false=>(match ls 5 with|true=>(∃(LX:aX) (Gr:Nat),vs 5=(vS LX ((tg bs b).length) Gr)∧Mem bK w w_ [.au b1 24 [nm,wk,pa,va,vS A bs.length c],.row 4 1 (sM b4) bs.length bs.length (bD inl),.row 3 1 (sM g3) n2 c2 (ints todo),.row 3 1 LX ((tg bs b).length) Gr (ints (tg bs b))])|false=>(Mem bK w w_ [.au b1 24 [nm,wk,pa,va,vS A bs.length c],.row 4 1 (sM b4) bs.length bs.length (bD inl),.row 3 1 (sM g3) n2 c2 (ints todo)]))) fr (oK (.bG (.bG (.bG (.bG (.bG (.free (.free .nil)))))))) (qK.aD (Mem.drew _)) (rY (Cu lz ?_ Qp5 Qp5 (K6 (aZ g3) n2 1 (i:Int) fun _ _ _ _ h=>h) (lL (aN (aZ g3) (i:Int) 1) (vI b) (fun _ _ _ _ h=>h) ?_)) ?_ ?_) ?_;intro dM w_ ls vs bZ hJ bp bj hp hF;refine iW (g0:=none) ?_;replace hF:Fr dM 74 [(2,pT b1 0)]:=hF.kp [2];have f5:=Qp3 5 7 bj bp;have f6:=Qp3 6 7 bj bp;have aI:=hJ;simp only[f5,f6]at aI;refine eV (kR:ao _ 0=some (some 32,.load 24 (.tmp 2),24,none)) hF kR kR (k':=1) rfl (ad:=aZ b1) (vs:=[nm,wk,pa,va,vS A bs.length c]) kR kR (aK (aI.get 0 rfl)) ?_;intro a2 ea _;refine aJ kR ?_;exact aY (d:=some 32) kR ea rfl hJ;intro w_ ls vs hJ bp bj hp;have f5:=Qp3 5 7 bj bp;have f6:=Qp3 6 7 bj bp;have aI:=hJ;simp only[f5,f6]at aI;exact(fR (aB (aI.get 2 rfl)) rfl hb);intro dM w_ ls vs bZ hJ bp bj hp hF;refine iW (g0:=none) ?_;replace hF:Fr dM 74 [(32,(.agg #[nm,wk,pa,va,vS A bs.length c])),(36,vI b)]:=hF.kp [32,36];have f5:ls 5=false:=bp;have f6:=Qp3 6 7 bj bp;have aI:=hJ;simp only[f5,f6]at aI;refine iT (kR:ao _ 0=some (some 37,(.call {callee:=(.value (.func 74)),args:=#[.tmp 32,.tmp 36],argTypes:=#[24,3]}),37,none)) hF kR kR (k':=1) rfl (f:=74) (vs:=[(.agg #[nm,wk,pa,va,vS A bs.length c]),vI b]) (cap:=[]) kR kR kR (vr _ _ _ _ A c bs b w_ hm (hA.at_ aI)) ?_;rintro _ w2 ⟨N5,N6,rfl,dY⟩ a2 ea _;have N2:=aI.call dY;refine aJ kR ?_;refine aY (d:=some 37) kR ea trivial ?_;show match ls 6 with|true=>_|false=>(∃(LX:aX) (Gr:Nat),_)
 rw[f6];exact⟨N5,N6,rfl,N2⟩;intro dM w_ ls vs bZ hJ bp bj hp hF;refine iW (g0:=none) ?_;replace hF:Fr dM 74 [(37,vs 5)]:=hF.kp [37];have f5:=Qp8 5 7 bj hp;have f6:ls 6=false:=bp;have aI:=hJ;simp only[f5,f6]at aI;obtain⟨N5,N6,e_,dY⟩:=aI;rw[e_]at hF;refine eU (kR:ao _ 0=some (some 8,.assign (.tmp 37),37,none)) hF kR kR (k':=1) rfl (v:=(vS N5 ((tg bs b).length) N6)) kR ?_;intro a2 ea _;refine aJ kR ?_;refine aY (d:=some 8) kR ea trivial ?_;show∃(LX:aX) (Gr:Nat),_;exact⟨N5,N6,rfl,dY⟩;intro aC kh ls vs cA Dy hv fr;simp only[show ls 6=true from cA 6 dQ]at Dy;revert aC;refine cH [(1,vI bar),(2,pT b1 0),(5,vS (sM b4) bs.length bs.length),(6,vS (sM g3) n2 c2),(7,nV i),(8,vs 6)] ?_;obtain⟨LX,Gr,e_,Dy⟩:=Dy;rw[e_];clear e_;clear cA hv fr aC qK;clear vs ls;refine bC<|cK 2 ?_;intro aC fr;refine gT (fun n_ a_ w_=>∃(k:Nat) (S2:Int→Bool) (tq:List Bool) (ny:ar) (A4:aX) (n4:Nat) (c4:Nat),n_=(tg bs b).length-k∧Fr a_ 74 [(1,vI bar),(2,pT b1 0),(5,vS (sM b4) bs.length bs.length),(6,vS A4 n4 c4),(7,nV i),(8,vS LX ((tg bs b).length) Gr),(9,nV k)]∧Mem bK w w_ [.au b1 24 [nm,wk,pa,va,vS A bs.length c],.row 4 1 (sM b4) bs.length bs.length (bD tq),.row 3 1 A4 n4 c4 (ints ny),.row 3 1 LX ((tg bs b).length) Gr (ints (tg bs b))]∧(k≤(tg bs b).length)∧(dR bs.length tq S2)∧(AJ (tg bs) bar S2 ny i k)∧(ny[i]?=some b)∧(ny.length+Hv bs.length S2≤bs.length)∧(n4=ny.length)) (n:=_) ⟨0,S,inl,todo,(sM g3),n2,c2,rfl,fr.kp [1,2,5,6,7,8,9],Dy,oM,o8,lD,hb,vh,Ho⟩ ?_;clear fr aC Dy;rintro n aC ZR ⟨k,S2,tq,ny,A4,n4,c4,rfl,fr,tX,hk,wz,N7,tP,BQ,Yu⟩;revert aC;refine bx<|aQ<|aj 3<|gC (decide ((k:Int)<((tg bs b).length:Int))) fun Bk JL=> ?_
 refine aE ?_;cases Bk;have ck:¬((k:Int)<((tg bs b).length:Int)):=iZ JL.symm;refine fT<|gq 2<|gr<|dh<|aj 1<|cy ((i:Int)+1)<|aj 1<|aE ?_;intro aC fr;exact⟨bs.length-(i+1),by have:=(List.getElem?_eq_some_iff.1 tP).1;omega,i+1,S2,tq,ny,A4,n4,c4,rfl,fr.kp [1,2,5,6,7],(tX.pick [true,true,true,false] rfl),wz,N7.next tP oM,BQ,Yu,by have:=(List.getElem?_eq_some_iff.1 tP).1;omega⟩;have ck:(k:Int)<((tg bs b).length:Int):=nF JL.symm;refine fN<|cg<|bx<|cK 3<|aQ ?_;obtain⟨ti,Dz,Gq⟩:=Ir (bs:=bs) (b:=b) (k:=k) oM;refine aj 3 ?_;obtain⟨LY,rfl⟩:=cW (tX.get 3 rfl) oM;refine eZ (aZ LY) ((tg bs b).length) 1 (k:Int)<|bq (aN (aZ LY) (k:Int) 1) _ (fR (aB (tX.get 3 rfl)) rfl Dz)<|eZ (aZ b4) bs.length 1 (ti:Int)<|bq (aN (aZ b4) (ti:Int) 1) _ (bB (aB (tX.get 1 rfl)) rfl (jM (by rw[wz.1];exact Gq))) ?_;obtain⟨Bin,Rz⟩:∃B,B=tq.getD ti false:=⟨_,rfl⟩;refine cH [(1,vI bar),(2,pT b1 0),(5,vS (sM b4) bs.length bs.length),(6,vS A4 n4 c4),(7,nV i),(8,vS (sM LY) ((tg bs b).length) Gr),(9,nV k),(50,vB (tq.getD ti false))] ?_;rw[←Rz];refine aj 2 ?_;cases Bin;have cin:(tq.getD ti false)=false:=Rz.symm;have N4:S2 (ti:Int)=false:=by rw[←wz.2 ti Gq];exact cin
 refine aj 2<|eZ (aZ LY) ((tg bs b).length) 1 (k:Int)<|bq (aN (aZ LY) (k:Int) 1) _ (fR (aB (tX.get 3 rfl)) rfl Dz)<|aj 1<|gC ((ti:Int) !=bar) fun Z4 PN=> ?_
 refine aj 1<|aE ?_;cases Z4;have Z5:¬((ti:Int)≠bar):=Q9 PN;refine fT<|cg<|dh<|aj 1<|cy ((k:Int)+1)<|aj 1<|aE ?_;intro aC fr;exact⟨(tg bs b).length-(k+1),oM,k+1,S2,tq,ny,A4,n4,c4,rfl,fr.kp [1,2,5,6,7,8,9],tX,oM,wz,N7.skip tP Dz (.inr oM),tP,BQ,Yu⟩;have Z5:(ti:Int)≠bar:=dj.1 PN.symm;refine fN<|aQ<|aj 3<|eZ (aZ LY) ((tg bs b).length) 1 (k:Int)<|bq (aN (aZ LY) (k:Int) 1) _ (fR (aB (tX.get 3 rfl)) rfl Dz)<|eZ (aZ b4) bs.length 1 (ti:Int)<|zJ tX 1 (aN (aZ b4) (ti:Int) 1) (((ti:Int)).toNat*1) (vB true) rfl rfl oM fun Vf ER=> ?_
 replace ER:=ER.nf;refine aE<|dh ?_;have oI:=Qp4 [.au b1 24 [nm,wk,pa,va,vS A bs.length c],.row 4 1 (sM b4) bs.length bs.length (bD (tq.set ti true)),.row 3 1 A4 n4 c4 (ints ny),.row 3 1 (sM LY) ((tg bs b).length) Gr (ints (tg bs b))] (ER.cast (by rw[o7];simp only[ld,QiX]));refine aj 3<|eZ (aZ LY) ((tg bs b).length) 1 (k:Int)<|dX [1,2,5,7,8,9,66,69]<|bq (aN (aZ LY) (k:Int) 1) _ (fR (aB (oI.get 3 rfl)) rfl Dz) ?_;intro aC fr;refine rG 71 37 1 #[(0,.tmp 70)] 37 fr (e:=3) (size:=1) (zs:=[vI 0]) (vs:=[(0,nV ti)]) (cs:=[nV ti]) oI ?_;intro b50 lF hb50 _ DC _ aC ea fr;clear ea;replace DC:=DC.nf;refine tT 72 (.tmp 66) (.tmp 71) 37 37 fr (e:=3) (size:=1) (bytes:=8) (z:=(vI 0)) (A:=A4) (B:=(sM b50)) (n:=n4) (cap:=c4) (m:=1) (cap':=1) (xs:=(ints ny)) (news:=[nV ti]) DC 2 rfl (aB (DC.get 4 rfl)) rfl (by simp[Value.oneCell']) oM (by simp only[maxLen];omega) ?_;intro A57 N8 Yv BR _ aC ea fr;clear ea;replace BR:=BR.nf;have wx:=BR.od [3,3,3,3] 4;revert aC;refine aj 1<|aE<|dh<|aj 1<|cy ((k:Int)+1)<|aj 1<|aE ?_;intro aC fr;exact⟨(tg bs b).length-(k+1),oM,k+1,fw S2 (ti:Int),tq.set ti true,ny++[(ti:Int)],A57,(n4+1),N8,rfl,fr.kp [1,2,5,6,7,8,9],(wx.cast (by rw[iU];rfl)),oM,wz.put Gq,N7.push tP Dz oM,by rw[List.getElem?_append_left (List.getElem?_eq_some_iff.1 tP).1];exact tP,by have:=fL (n:=bs.length) (S:=S2) (t:=(ti:Int)) oM oM N4;simp only[rV,je,QdW];omega,by simp[Yu]⟩;have cin:(tq.getD ti false)=true:=Rz.symm;have N4:S2 (ti:Int)=true:=by rw[←wz.2 ti Gq];exact cin
 refine aj 7<|aE<|fT<|cg<|dh<|aj 1<|cy ((k:Int)+1)<|aj 1<|aE ?_;intro aC fr;exact⟨(tg bs b).length-(k+1),oM,k+1,S2,tq,ny,A4,n4,c4,rfl,fr.kp [1,2,5,6,7,8,9],tX,oM,wz,N7.skip tP Dz (.inl N4),tP,BQ,Yu⟩;have cb:bar=0:=Js.1 Ve.symm;refine fN<|bC<|an<|cQ (vS (sM b4) bs.length bs.length) ?_;have DD:=M6.od [1] 1;exact⟨_,_,rfl,(DD).cast (by rw[←xj (bar:=bar) oM];simp[bD])⟩;have cz:(bs.length:Int)=0:=Js.1 U8.symm;refine aj 3<|aE<|fN<|bC<|an<|cQ (vS (sM b4) bs.length bs.length) ?_;have vY:=M6.od [1] 1;exact⟨_,_,rfl,(vY).cast (by rw[←xj (bar:=bar) oM];simp[bD])⟩
end Go.Proofs.Ytejbeeaomokjpaa
namespace Go.Proofs.Ytejbeeaomokjpaa
open Go.Mor
theorem RB(nm wk pa va:Value)(A:aX)(c:Nat)(bs:List SB)(w:World)(hm:bs.length≤1000000)(hA:RO bK w (.blocks A bs)):Calls Try.prog 43 #[(.agg #[nm,wk,pa,va,vS A bs.length c])] w (fE fun v w'=>∃A' c' rows,v=vS A' bs.length c'∧et Value.bool rows (fS bs)∧Mem bK w w' [.lO 4 rows,.row 46 1 A' bs.length c' (fq rows)]):=by
 refine hZ 54 [(.agg #[nm,wk,pa,va,vS A bs.length c])] Try.func43 ?_;have hM:=Mem.init w;refine aQ<|nJ hM 24 (.agg #[nm,wk,pa,va,vS A bs.length c]) [nm,wk,pa,va,vS A bs.length c] fun b1 w2 kH M3=> ?_
 replace M3:=M3.nf;clear hM;refine aj 1<|aE<|aQ<|gu (aZ b1) [nm,wk,pa,va,vS A bs.length c] (aK (M3.get 0 rfl))<|eY (vs:=#[(.agg #[nm,wk,pa,va,vS A bs.length c]),vI (-1)]) (DA _ _ _ _ A c bs (-1) w2 hm (hA.at_ M3)) ?_;rintro _ w6 ⟨A4,c5,rfl,Z6⟩;have M7:=M3.cl Z6;refine aj 1<|aE<|bC<|bx<|bC<|cK 0 ?_;have Xn:=jN bs;intro aC fr;refine gT (fun n_ a_ w_=>∃(d:Nat) (rows:List fJ) (A2:aX) (c2:Nat),n_=bs.length-d∧Fr a_ 54 [(1,pT b1 0),(3,vS A4 bs.length c5),(4,vS A2 d c2),(5,nV d)]∧Mem bK w w_ [.lO 4 rows,.au b1 24 [nm,wk,pa,va,vS A bs.length c],.row 4 1 A4 bs.length c5 (bD (fM bs (-1))),.row 46 1 A2 d c2 (fq rows)]∧(d≤bs.length)∧(et Value.bool rows ((fS bs).take d))) (n:=_) ⟨0,[],none,0,rfl,fr.kp [1,3,4,5],(((((M7.pick [true,true] rfl).call (Mem.CM _ 4 0)).call (Mem.gK _ 46 1)).front 2 rfl).cast rfl),oM,rfl⟩ ?_;clear fr aC M7;rintro n aC U9 ⟨d,rows,A2,c2,rfl,fr,rP,hd,hf⟩;revert aC;refine bx<|aQ<|aj 2<|bq (ak b1 4) _ (ae (rP.get 1 rfl) rfl)<|aj 1<|gC (decide ((d:Int)<(bs.length:Int))) fun Bd lI=> ?_
 refine aE ?_;cases Bd;have cd:¬((d:Int)<(bs.length:Int)):=iZ lI.symm;refine fT<|gq 0<|gr<|bC<|an<|cQ (vS A2 d c2) ?_;obtain rfl:d=bs.length:=oM;have rO:=rP.od [3,1] 2;exact⟨_,_,rows,rfl,hf.all oM,rO⟩;have cd:(d:Int)<(bs.length:Int):=nF lI.symm;refine fN<|cg<|bx<|cK 1<|aQ ?_;have pD:d<bs.length:=oM;refine aj 1<|bq (ak b1 4) _ (ae (rP.get 1 rfl) rfl)<|aj 1 ?_;intro aC fr;refine I9 21 46 (.tmp 20) (.tmp 20) 46 fr (e:=4) (bytes:=1) (z:=(vB false)) (n:=bs.length) (i:=(bs.length:Int)) oM (by simp only[maxLen];omega) rP ?_;intro fO Dx Rt _ kI _ aC ea fr;clear ea;replace kI:=kI.nf;revert aC;refine aj 1<|aE<|bx<|aQ ?_;have oJ:=Qp4 [.lO 4 rows,.au b1 24 [nm,wk,pa,va,vS A bs.length c],.row 4 1 A4 bs.length c5 (bD (fM bs (-1))),.row 46 1 A2 d c2 (fq rows),.row 4 1 (sM fO) bs.length bs.length (bD (List.replicate bs.length false))] (kI.cast (by simp[bD]));refine aj 2 ?_;obtain⟨g24,rfl⟩:=cW (oJ.get 2 rfl) oM;refine eZ (aZ g24) bs.length 1 (d:Int)<|bq (aN (aZ g24) (d:Int) 1) _ (bB (aB (oJ.get 2 rfl)) rfl (jM (by rw[kO];omega))) ?_;obtain⟨Z7,JM⟩:∃B,B=(fM bs (-1)).getD d false:=⟨_,rfl⟩;refine cH [(1,pT b1 0),(3,vS (sM g24) bs.length c5),(4,vS A2 d c2),(5,nV d),(6,vS (sM fO) bs.length bs.length),(25,vB ((fM bs (-1)).getD d false))] ?_;rw[←JM];refine aE ?_;cases Z7;have call:((fM bs (-1)).getD d false)=false:=JM.symm;refine fT<|cg<|dh<|aj 2 ?_;intro aC fr;refine rG 51 49 1 #[(0,.tmp 50)] 49 fr (e:=46) (size:=1) (zs:=[aq]) (vs:=[(0,vS (sM fO) bs.length bs.length)]) (cs:=[vS (sM fO) bs.length bs.length]) oJ ?_;intro vZ Vg Z8 _ pS _ aC ea fr;clear ea;replace pS:=pS.nf;refine tT 52 (.tmp 49) (.tmp 51) 49 49 fr (e:=46) (size:=1) (bytes:=24) (z:=aq) (A:=A2) (B:=(sM vZ)) (n:=d) (cap:=c2) (m:=1) (cap':=1) (xs:=(fq rows)) (news:=[vS (sM fO) bs.length bs.length]) pS 3 rfl (aB (pS.get 5 rfl)) rfl (by simp[Value.oneCell']) oM (by simp only[maxLen];omega) ?_;intro Z9 TB N3 ll _ aC ea fr;clear ea;replace ll:=ll.nf;have tX:=ll.od [4,4,4,4,4] 5;revert aC;refine aj 1<|aE<|dh<|aj 1<|cy ((d:Int)+1)<|aj 1<|aE ?_;have Vc:=tX.od [3,3,3,4,4] 5;have s8:=Qp4 [.lO 4 (rows++[⟨(sM fO),bs.length,bs.length,bD (List.replicate bs.length false)⟩]),.au b1 24 [nm,wk,pa,va,vS A bs.length c],.row 4 1 (sM g24) bs.length c5 (bD (fM bs (-1))),.row 46 1 Z9 (d+1) TB ((fq rows)++[vS (sM fO) bs.length bs.length])] (Vc.push);have v7:=Qp4 [.lO 4 (rows++[⟨(sM fO),bs.length,bs.length,bD (List.replicate bs.length false)⟩]),.au b1 24 [nm,wk,pa,va,vS A bs.length c],.row 4 1 (sM g24) bs.length c5 (bD (fM bs (-1))),.row 46 1 Z9 (d+1) TB (fq (rows++[⟨(sM fO),bs.length,bs.length,bD (List.replicate bs.length false)⟩]))] (s8.cast (by rw[uH]));intro aC fr;exact⟨bs.length-(d+1),oM,d+1,(rows++[⟨(sM fO),bs.length,bs.length,bD (List.replicate bs.length false)⟩]),Z9,TB,rfl,fr.kp [1,3,4,5],v7,oM,hf.next (xk pD (FF (by rw[←iY pD];exact call))) sI rfl⟩;have call:((fM bs (-1)).getD d false)=true:=JM.symm;refine fN<|aQ<|gu (aZ b1) [nm,wk,pa,va,vS A bs.length c] (aK (oJ.get 1 rfl))<|aj 1<|eY (vs:=#[(.agg #[nm,wk,pa,va,vS A bs.length c]),nV d]) (DA _ _ _ _ A c bs (d:Int) Dx hm (hA.at_ oJ)) ?_;rintro _ kP ⟨PO,LZ,rfl,RC⟩;have EO:=oJ.cl RC;refine aj 1<|aE<|bC<|cK 2 ?_;have hwd:fy bs (-1) (d:Int)=true:=by rw[←iY pD];exact call
 intro aC fr;refine gT (fun n_ a_ w_=>∃(b:Nat) (m:List Bool),n_=bs.length-b∧Fr a_ 54 [(1,pT b1 0),(3,vS (sM g24) bs.length c5),(4,vS A2 d c2),(5,nV d),(6,vS (sM fO) bs.length bs.length),(7,vS PO bs.length LZ),(8,nV b)]∧Mem bK w w_ [.lO 4 rows,.au b1 24 [nm,wk,pa,va,vS A bs.length c],.row 4 1 (sM g24) bs.length c5 (bD (fM bs (-1))),.row 46 1 A2 d c2 (fq rows),.row 4 1 (sM fO) bs.length bs.length (bD m),.row 4 1 PO bs.length LZ (bD (fM bs (d:Int)))]∧(b≤bs.length)∧(dR bs.length m (lY bs (d:Int) b))) (n:=_) ⟨0,List.replicate bs.length false,rfl,fr.kp [1,3,4,5,6,7,8],EO,oM,C3 bs _⟩ ?_;clear fr aC EO;rintro n aC Yw ⟨b,m,rfl,fr,sD,hb,dY⟩;revert aC;refine bx<|aQ<|aj 3<|gC (decide ((b:Int)<(bs.length:Int))) fun Bb Ve=> ?_
 refine aE ?_;cases Bb;have cb:¬((b:Int)<(bs.length:Int)):=iZ Ve.symm;refine fT<|gq 2<|gr<|dh<|aj 2 ?_;intro aC fr;refine rG 51 49 1 #[(0,.tmp 50)] 49 fr (e:=46) (size:=1) (zs:=[aq]) (vs:=[(0,vS (sM fO) bs.length bs.length)]) (cs:=[vS (sM fO) bs.length bs.length]) sD ?_;intro aH Xo Qaa _ L0 _ aC ea fr;clear ea;replace L0:=L0.nf;refine tT 52 (.tmp 49) (.tmp 51) 49 49 fr (e:=46) (size:=1) (bytes:=24) (z:=aq) (A:=A2) (B:=(sM aH)) (n:=d) (cap:=c2) (m:=1) (cap':=1) (xs:=(fq rows)) (news:=[vS (sM fO) bs.length bs.length]) L0 3 rfl (aB (L0.get 6 rfl)) rfl (by simp[Value.oneCell']) oM (by simp only[maxLen];omega) ?_;intro aL Yx Yy DE _ aC ea fr;clear ea;replace DE:=DE.nf;have tY:=DE.od [5,5,5,5,5,5] 6;revert aC;refine aj 1<|aE<|dh<|aj 1<|cy ((d:Int)+1)<|aj 1<|aE ?_;have DD:=tY.od [3,3,3,4,4] 5;have vY:=Qp4 [.lO 4 (rows++[⟨(sM fO),bs.length,bs.length,bD m⟩]),.au b1 24 [nm,wk,pa,va,vS A bs.length c],.row 4 1 (sM g24) bs.length c5 (bD (fM bs (-1))),.row 46 1 aL (d+1) Yx ((fq rows)++[vS (sM fO) bs.length bs.length])] (DD.push);have Ct:=Qp4 [.lO 4 (rows++[⟨(sM fO),bs.length,bs.length,bD m⟩]),.au b1 24 [nm,wk,pa,va,vS A bs.length c],.row 4 1 (sM g24) bs.length c5 (bD (fM bs (-1))),.row 46 1 aL (d+1) Yx (fq (rows++[⟨(sM fO),bs.length,bs.length,bD m⟩]))] (vY.cast (by rw[uH]));intro aC fr;exact⟨bs.length-(d+1),oM,d+1,(rows++[⟨(sM fO),bs.length,bs.length,bD m⟩]),aL,Yx,rfl,fr.kp [1,3,4,5],Ct,oM,hf.next (xk pD (FG dY oM)) (by simp[dY.1]) rfl⟩;have cb:(b:Int)<(bs.length:Int):=nF Ve.symm;refine fN<|cg<|bx<|cK 3<|dh ?_;have Gs:b<bs.length:=oM;refine aj 4<|eZ (aZ g24) bs.length 1 (b:Int)<|bq (aN (aZ g24) (b:Int) 1) _ (bB (aB (sD.get 2 rfl)) rfl (jM (by rw[kO];omega))) ?_;obtain⟨UY,zj⟩:∃B,B=(fM bs (-1)).getD b false:=⟨_,rfl⟩;refine cH [(1,pT b1 0),(3,vS (sM g24) bs.length c5),(4,vS A2 d c2),(5,nV d),(6,vS (sM fO) bs.length bs.length),(7,vS PO bs.length LZ),(8,nV b),(35,vS (sM fO) bs.length bs.length),(36,nV b),(40,vB ((fM bs (-1)).getD b false))] ?_;rw[←zj];refine aj 1 ?_;cases UY;have Rp:((fM bs (-1)).getD b false)=false:=zj.symm;have Yz:fy bs (-1) (b:Int)=false:=by rw[←iY Gs];exact Rp
 refine aj 6<|eZ (aZ fO) bs.length 1 (b:Int)<|zJ sD 4 (aN (aZ fO) (b:Int) 1) (((b:Int)).toNat*1) (vB false) rfl rfl oM fun w73 L1=> ?_
 replace L1:=L1.nf;refine aE<|dh<|aj 1<|cy ((b:Int)+1)<|aj 1<|aE ?_;intro aC fr;exact⟨bs.length-(b+1),oM,b+1,m.set b false,rfl,fr.kp [1,3,4,5,6,7,8],(L1.cast (by rw[o7];simp only[ld,QiX])),oM,xl dY Gs (Iy Yz)⟩;have Rp:((fM bs (-1)).getD b false)=true:=zj.symm;have Yz:fy bs (-1) (b:Int)=true:=by rw[←iY Gs];exact Rp
 refine aj 2 ?_;obtain⟨lT,rfl⟩:=cW (sD.get 5 rfl) oM;refine eZ (aZ lT) bs.length 1 (b:Int)<|bq (aN (aZ lT) (b:Int) 1) _ (bB (aB (sD.get 5 rfl)) rfl (jM (by rw[kO];omega)))<|aj 2<|eZ (aZ fO) bs.length 1 (b:Int)<|zJ sD 4 (aN (aZ fO) (b:Int) 1) (((b:Int)).toNat*1) (vB (!(fM bs (d:Int)).getD b false)) rfl rfl oM fun w79 RD=> ?_
 replace RD:=RD.nf;refine aE<|dh<|aj 1<|cy ((b:Int)+1)<|aj 1<|aE ?_;intro aC fr;exact⟨bs.length-(b+1),oM,b+1,m.set b (!((fM bs (d:Int)).getD b false)),rfl,fr.kp [1,3,4,5,6,7,8],(RD.cast (by rw[o7];simp only[ld,QiX])),oM,xl dY Gs ((Qi9 _ (iY Gs)).trans (Ix hwd Yz))⟩
end Go.Proofs.Ytejbeeaomokjpaa
namespace Go.Proofs.Ytejbeeaomokjpaa
open Go.Mor
theorem JN(nm wk pa va:Value)(A:aX)(c:Nat)(bs:List SB)(w:World)(hm:bs.length≤1000000)(hA:RO bK w (.blocks A bs)):Calls Try.prog 78 #[(.agg #[nm,wk,pa,va,vS A bs.length c])] w (fE fun v w'=>∃A' c' rows,v=vS A' bs.length c'∧et vI rows (uY bs)∧Mem bK w w' [.lO 3 rows,.row 37 1 A' bs.length c' (fq rows)]):=by
 refine hZ 38 [(.agg #[nm,wk,pa,va,vS A bs.length c])] Try.func78 ?_;have hM:=Mem.init w;refine aQ<|nJ hM 24 (.agg #[nm,wk,pa,va,vS A bs.length c]) [nm,wk,pa,va,vS A bs.length c] fun b1 w2 kH M3=> ?_
 replace M3:=M3.nf;clear hM;refine aj 1<|aE<|aQ<|aj 1<|bq (ak b1 4) _ (ae (M3.get 0 rfl) rfl)<|aj 1 ?_;intro aC fr;refine I9 10 57 (.tmp 9) (.tmp 9) 57 fr (e:=37) (bytes:=24) (z:=aq) (n:=bs.length) (i:=(bs.length:Int)) oM (by simp only[maxLen];omega) M3 ?_;intro b4 w5 LW _ M6 _ aC ea fr;clear ea;replace M6:=M6.nf;revert aC;refine aj 1<|aE<|bx<|aQ<|aj 1<|bq (ak b1 4) _ (ae (M6.get 0 rfl) rfl)<|aj 2<|aE<|cK 0 ?_;have rP:=M6.od [1,1] 2;have Vh:=IB bs;intro aC fr;refine gT (fun n_ a_ w_=>∃(i:Nat) (rows:List fJ),n_=bs.length-i∧Fr a_ 38 [(1,pT b1 0),(3,vS (sM b4) bs.length bs.length),(13,(vI (bs.length:Int))),(14,nV i)]∧Mem bK w w_ [.lO 3 rows,.au b1 24 [nm,wk,pa,va,vS A bs.length c],.row 37 1 (sM b4) bs.length bs.length (fq rows)]∧(i≤bs.length)∧(et vI rows (sS bs i))) (n:=_) ⟨0,List.replicate bs.length jx,rfl,fr.kp [1,3,13,14],(((rP.call (Mem.CM _ 3 bs.length)).front 2 rfl).cast (by simp[fq,jx])),oM,by rw[FI];exact et.Us _⟩ ?_;clear fr aC rP;rintro n aC Ys ⟨i,rows,rfl,fr,Lh,hi,hf⟩;revert aC;refine aQ<|gC (decide ((i:Int)<(bs.length:Int))) fun Bi Vi=> ?_
 refine aE<|bx ?_;cases Bi;have ci:¬((i:Int)<(bs.length:Int)):=iZ Vi.symm;refine fT<|gq 0<|gr<|bC<|an<|cQ (vS (sM b4) bs.length bs.length) ?_;obtain rfl:i=bs.length:=oM;rw[MX]at hf;have nz:=Lh.od [2,1] 2;exact⟨_,_,rows,rfl,hf,nz⟩;have ci:(i:Int)<(bs.length:Int):=nF Vi.symm;refine fN<|cg<|bx<|cK 1<|bC<|aQ<|gu (aZ b1) [nm,wk,pa,va,vS A bs.length c] (aK (Lh.get 1 rfl))<|aj 1<|eY (vs:=#[(.agg #[nm,wk,pa,va,vS A bs.length c]),nV i]) (xU _ _ _ _ A c bs (i:Int) Ys hm (hA.at_ Lh)) ?_;rintro _ Vj ⟨lU,zO,rfl,Qab⟩;have oJ:=Lh.cl Qab;refine aj 2<|aE<|cK 2 ?_;have x9:=oe bs (i:Int);intro aC fr;refine gT (fun n_ a_ w_=>∃(k:Nat) (mC:List fJ),n_=(tg bs (i:Int)).length-k∧Fr a_ 38 [(1,pT b1 0),(3,vS (sM b4) bs.length bs.length),(4,nV i),(13,(vI (bs.length:Int))),(14,nV i),(19,(vS lU ((tg bs (i:Int)).length) zO)),(20,(vI ((tg bs (i:Int)).length:Int))),(21,nV k)]∧Mem bK w w_ [.lO 3 mC,.au b1 24 [nm,wk,pa,va,vS A bs.length c],.row 37 1 (sM b4) bs.length bs.length (fq mC),.row 3 1 lU ((tg bs (i:Int)).length) zO (ints (tg bs (i:Int)))]∧(k≤(tg bs (i:Int)).length)∧(et vI mC (km bs i k))) (n:=_) ⟨0,rows,rfl,fr.kp [1,3,4,13,14,19,20,21],oJ,oM,by rw[MW];exact hf⟩ ?_;clear fr aC oJ;rintro n aC TC ⟨k,mC,rfl,fr,fk,hk,aM⟩;revert aC;refine aQ<|gC (decide ((k:Int)<((tg bs (i:Int)).length:Int))) fun Bk JL=> ?_
 refine aE<|bx ?_;cases Bk;have ck:¬((k:Int)<((tg bs (i:Int)).length:Int)):=iZ JL.symm;refine fT<|gq 2<|gr<|dh<|cy ((i:Int)+1)<|aj 1<|aE ?_;intro aC fr;exact⟨bs.length-(i+1),oM,i+1,mC,rfl,fr.kp [1,3,13,14],(fk.pick [true,true,true,false] rfl),oM,by rw[←IA (k:=k) oM];exact aM⟩;have ck:(k:Int)<((tg bs (i:Int)).length:Int):=nF JL.symm;refine fN<|cg<|bx<|cK 3<|aQ ?_;obtain⟨ti,Dz,Gq⟩:=Ir (bs:=bs) (b:=(i:Int)) (k:=k) oM;obtain⟨At,ct,TD⟩:=aM.get (MY Dz Gq);have Tx:=fZ bs (ti:Int) i;obtain⟨Vk,rfl⟩:=cW (fk.get 3 rfl) oM;refine eZ (aZ Vk) ((tg bs (i:Int)).length) 1 (k:Int)<|bq (aN (aZ Vk) (k:Int) 1) _ (fR (aB (fk.get 3 rfl)) rfl Dz)<|aj 1<|aE<|dh<|aj 4<|eZ (aZ b4) bs.length 1 (ti:Int)<|bq (aN (aZ b4) (ti:Int) 1) _ (bB (aB (fk.get 2 rfl)) rfl (ia TD)) ?_;have v8:=Qp4 [.lO 3 (mC.set ti jx),.row 3 1 At ((dW bs (ti:Int) i).length) ct (ints (dW bs (ti:Int) i)),.au b1 24 [nm,wk,pa,va,vS A bs.length c],.row 37 1 (sM b4) bs.length bs.length (fq mC),.row 3 1 (sM Vk) ((tg bs (i:Int)).length) zO (ints (tg bs (i:Int)))] (fk.focus ti TD);refine aj 1 ?_;intro aC fr;refine rG 32 37 1 #[(0,.tmp 31)] 37 fr (e:=3) (size:=1) (zs:=[vI 0]) (vs:=[(0,nV i)]) (cs:=[nV i]) v8 ?_;intro UL YA Qev _ pU _ aC ea fr;clear ea;replace pU:=pU.nf;refine tT 33 (.tmp 30) (.tmp 32) 37 37 fr (e:=3) (size:=1) (bytes:=8) (z:=(vI 0)) (A:=At) (B:=(sM UL)) (n:=((dW bs (ti:Int) i).length)) (cap:=ct) (m:=1) (cap':=1) (xs:=(ints (dW bs (ti:Int) i))) (news:=[nV i]) pU 1 rfl (aB (pU.get 5 rfl)) rfl (by simp[Value.oneCell']) oM (by simp only[maxLen];omega) ?_;intro TE JO kF JK _ aC ea fr;clear ea;replace JK:=JK.nf;have EO:=JK.od [4,4,4,4,4] 5;revert aC;refine eZ (aZ b4) bs.length 1 (ti:Int)<|zJ EO 3 (aN (aZ b4) (ti:Int) 1) (((ti:Int)).toNat*1) (vS TE (((dW bs (ti:Int) i).length)+1) JO) rfl rfl oM fun TF oI=> ?_
 replace oI:=oI.nf;refine aE<|dh ?_;have ES:=oI.od [4,4,4,4,4] 5;have BS:ti<mC.length:=(List.getElem?_eq_some_iff.1 TD).1;have sD:=Qp4 [.lO 3 ((mC.set ti jx).set ti ⟨TE,((dW bs (ti:Int) i).length)+1,JO,(ints (dW bs (ti:Int) i))++[nV i]⟩),.au b1 24 [nm,wk,pa,va,vS A bs.length c],.row 37 1 (sM b4) bs.length bs.length ((fq mC).set (((ti:Int)).toNat*1) (vS TE (((dW bs (ti:Int) i).length)+1) JO)),.row 3 1 (sM Vk) ((tg bs (i:Int)).length) zO (ints (tg bs (i:Int)))] (ES.Eg ti (List.getElem?_set_self BS));have DC:=Qp4 [.lO 3 (mC.set ti ⟨TE,((dW bs (ti:Int) i).length)+1,JO,(ints (dW bs (ti:Int) i))++[nV i]⟩),.au b1 24 [nm,wk,pa,va,vS A bs.length c],.row 37 1 (sM b4) bs.length bs.length (fq (mC.set ti ⟨TE,((dW bs (ti:Int) i).length)+1,JO,(ints (dW bs (ti:Int) i))++[nV i]⟩)),.row 3 1 (sM Vk) ((tg bs (i:Int)).length) zO (ints (tg bs (i:Int)))] (sD.cast (by rw[xm,Ef];simp only[ld,QiX]));refine cy ((k:Int)+1)<|aj 1<|aE ?_;intro aC fr;exact⟨(tg bs (i:Int)).length-(k+1),oM,k+1,(mC.set ti ⟨TE,((dW bs (ti:Int) i).length)+1,JO,(ints (dW bs (ti:Int) i))++[nV i]⟩),rfl,fr.kp [1,3,4,13,14,19,20,21],DC,oM,by rw[←MZ Dz Gq];exact aM.set sI (by rw[Qjy];rfl)⟩
end Go.Proofs.Ytejbeeaomokjpaa
namespace Go.Proofs.Ytejbeeaomokjpaa
open Go.Mor
theorem JP(g5 g6:Nat)(zP adb:Addr)(n ca cb:Nat)(LN ab:ar)(T:Int→ar)(pl up:Int→Int)(xa xb:Int)(w:World)(jH:n≤1000000)(h5:RO bK w (.au g5 37 [.slice (some zP) n ca]))(h6:RO bK w (.au g6 37 [.slice (some adb) n cb]))(hA:RO bK w (.rd (some zP) (ints LN)))(hB:RO bK w (.rd (some adb) (ints ab)))(k9:Nb T pl up n LN ab)(hxa:jz pl up xa)(Ux:jz pl up xb):Calls Try.prog 131 #[vI xa,vI xb,pT g5 0,pT g6 0] w (fE fun v w'=>∃c:Int,v=vI c∧dw pl up xa xb c∧Mem bK w w' []):=by
 refine hZ 37 [vI xa,vI xb,pT g5 0,pT g6 0] Try.func131 ?_;have hM:=Mem.init w;refine bC<|bx<|cK 0 ?_;intro aC fr;refine gT (fun n_ a_ w_=>∃(a1:Int) (b1:Int),n_=(pl a1+pl b1).toNat∧Fr a_ 37 [(0,vI a1),(1,vI b1),(2,pT g5 0),(3,pT g6 0)]∧Mem bK w w_ []∧(jz pl up a1)∧(jz pl up b1)∧(∀c,dw pl up a1 b1 c→dw pl up xa xb c)) (n:=_) ⟨xa,xb,rfl,fr.kp [0,1,2,3],hM,hxa,Ux,fun _ h=>h⟩ ?_;clear fr aC hM;rintro n aC w3 ⟨a1,b1,rfl,fr,M4,L2,kH,QT⟩;revert aC;refine bx<|aQ<|aj 2<|gC (a1 !=b1) fun Bne Vl=> ?_
 refine aE ?_;cases Bne;have lV:¬(a1≠b1):=Q9 Vl;refine fT<|gq 0<|gr<|bC<|an<|cQ (vI a1) ?_;obtain rfl:a1=b1:=oM;exact⟨_,rfl,QT _ (.done _),M4⟩;have lV:a1≠b1:=dj.1 Vl.symm;refine fN<|cg<|cK 1<|bx<|cK 2 ?_;intro aC fr;refine gT (fun n_ a_ w_=>∃(a2:Int),n_=(pl a2).toNat∧Fr a_ 37 [(0,vI a2),(1,vI b1),(2,pT g5 0),(3,pT g6 0)]∧Mem bK w w_ []∧(jz pl up a2)∧(∀c,dw pl up a2 b1 c→dw pl up a1 b1 c)∧(a2=a1∨pl a2<pl a1)) (n:=_) ⟨a1,rfl,fr.kp [0,1,2,3],M4,L2,fun _ h=>h,.inl rfl⟩ ?_;clear fr aC M4;rintro n aC w9 ⟨a2,rfl,fr,mc,yX,lW,Vm⟩;revert aC;refine bx<|bx ?_;obtain⟨aP,RE⟩:∃B:Bool,B=decide ((pl a2)>(pl b1)):=⟨_,rfl⟩;refine dX [0,1,2,3] ?_;intro aC fr;refine qy (bL [eS (some zP) n ca,eI a2,eA zP (a2) 1,eI (pl a2),eS (some zP) n ca,eI b1,eA zP (b1) 1,eI (pl b1),eB aP]) fr (la (tZ lz (dL (aZ g5) _ fun w_ hK=>(ae ((mc.aD hK).ro h5) rfl)) dP (dI (h0:=(k9.yW a2 yX.1).1) (h1:=(k9.yW a2 yX.1).2) zP n 1 a2) (dL (aN zP (a2) 1) _ fun w_ hK=>(bB ((mc.aD hK).ro hA) rfl (k9.Ya yX))) (dL (aZ g5) _ fun w_ hK=>(ae ((mc.aD hK).ro h5) rfl)) dP (dI (h0:=(k9.yW b1 kH.1).1) (h1:=(k9.yW b1 kH.1).2) zP n 1 b1) (dL (aN zP (b1) 1) _ fun w_ hK=>(bB ((mc.aD hK).ro hA) rfl (k9.Ya kH)))) (dC (decide ((pl a2)>(pl b1))) RE)) ?_;intro aC Vn vs hK hv fr;revert aC;refine cH [(0,vI a2),(1,vI b1),(2,pT g5 0),(3,pT g6 0),(18,vB aP)] ?_;have nz:=mc.aD hK;clear hK hv fr aC mc;clear vs;cases aP;have YB:¬((pl a2)>(pl b1)):=iZ RE.symm;refine fT<|gq 2<|gr<|cK 4 ?_;intro aC fr;refine gT (fun n_ a_ w_=>∃(b2:Int),n_=(pl b2).toNat∧Fr a_ 37 [(0,vI a2),(1,vI b2),(2,pT g5 0),(3,pT g6 0)]∧Mem bK w w_ []∧(jz pl up b2)∧(∀c,dw pl up a2 b2 c→dw pl up a2 b1 c)∧(b2=b1∨pl b2<pl b1)) (n:=_) ⟨b1,rfl,fr.kp [0,1,2,3],nz,kH,fun _ h=>h,.inl rfl⟩ ?_;clear fr aC nz;rintro n aC Vj ⟨b2,rfl,fr,oJ,tP,mJ,Vo⟩;revert aC;refine bx<|bx ?_;obtain⟨aV,RF⟩:∃B:Bool,B=decide ((pl b2)>(pl a2)):=⟨_,rfl⟩;refine dX [0,1,2,3] ?_;intro aC fr;refine qy (bL [eS (some zP) n ca,eI b2,eA zP (b2) 1,eI (pl b2),eS (some zP) n ca,eI a2,eA zP (a2) 1,eI (pl a2),eB aV]) fr (la (tZ lz (dL (aZ g5) _ fun w_ hK=>(ae ((oJ.aD hK).ro h5) rfl)) dP (dI (h0:=(k9.yW b2 tP.1).1) (h1:=(k9.yW b2 tP.1).2) zP n 1 b2) (dL (aN zP (b2) 1) _ fun w_ hK=>(bB ((oJ.aD hK).ro hA) rfl (k9.Ya tP))) (dL (aZ g5) _ fun w_ hK=>(ae ((oJ.aD hK).ro h5) rfl)) dP (dI (h0:=(k9.yW a2 yX.1).1) (h1:=(k9.yW a2 yX.1).2) zP n 1 a2) (dL (aN zP (a2) 1) _ fun w_ hK=>(bB ((oJ.aD hK).ro hA) rfl (k9.Ya yX)))) (dC (decide ((pl b2)>(pl a2))) RF)) ?_;intro aC UM vs hK hv fr;revert aC;refine cH [(0,vI a2),(1,vI b2),(2,pT g5 0),(3,pT g6 0),(31,vB aV)] ?_;have zN:=oJ.aD hK;clear hK hv fr aC oJ;clear vs;cases aV;have YC:¬((pl b2)>(pl a2)):=iZ RF.symm;refine fT<|gq 4<|gr ?_;intro aC fr;exact⟨(pl a2+pl b2).toNat,IL k9 L2 yX tP lV Vm Vo YB YC,a2,b2,rfl,fr.kp [0,1,2,3],zN,yX,tP,fun c h=>QT c (lW c (mJ c h))⟩;have YC:(pl b2)>(pl a2):=nF RF.symm;refine fN<|cg<|cK 5<|dh<|bq (aZ g6) _ (ae (zN.ro h6) rfl)<|aj 1<|eZ (h0:=(k9.yW b2 tP.1).1) (h1:=(k9.yW b2 tP.1).2) adb n 1 b2<|bq (aN adb (b2) 1) _ (bB (zN.ro hB) rfl (k9.fX tP))<|aj 1<|aE ?_;have cU:=k9.fY yX YC;obtain⟨nR,xo⟩:=k9.ok.low b2 tP cU;have Va:=nR.1;intro aC fr;exact⟨(pl (up b2)).toNat,oM,up b2,rfl,fr.kp [0,1,2,3],zN,nR,fun c h=>mJ c (.right YC h),.inr (by rcases Vo with Vo|Vo<;>(try subst Vo)<;>omega)⟩;have YB:(pl a2)>(pl b1):=nF RE.symm;refine fN<|cg<|cK 3<|dh<|bq (aZ g6) _ (ae (nz.ro h6) rfl)<|aj 1<|eZ (h0:=(k9.yW a2 yX.1).1) (h1:=(k9.yW a2 yX.1).2) adb n 1 a2<|bq (aN adb (a2) 1) _ (bB (nz.ro hB) rfl (k9.fX yX))<|aj 1<|aE ?_;have cU:=k9.fY kH YB;obtain⟨nR,xo⟩:=k9.ok.low a2 yX cU;have Va:=nR.1;intro aC fr;exact⟨(pl (up a2)).toNat,oM,up a2,rfl,fr.kp [0,1,2,3],nz,nR,fun c h=>lW c (.left YB h),.inr (by rcases Vm with Vm|Vm<;>(try subst Vm)<;>omega)⟩
end Go.Proofs.Ytejbeeaomokjpaa
namespace Go.Proofs.Ytejbeeaomokjpaa
open Go.Mor
theorem RG(nm wk pa va:Value)(A:aX)(c:Nat)(bs:List SB)(w:World)(hm:bs.length≤1000000)(hA:RO bK w (.blocks A bs)):Calls Try.prog 118 #[(.agg #[nm,wk,pa,va,vS A bs.length c])] w (fE fun v w'=>∃A1 c1 A2 c2,v= .tuple #[.slice A1 bs.length c1,.slice A2 bs.length c2]∧PB bs∧Mem bK w w' [.row 3 1 A1 bs.length c1 (ints (eK bs)),.row 3 1 A2 bs.length c2 (ints (Tw bs))]):=by
 refine hZ 112 [(.agg #[nm,wk,pa,va,vS A bs.length c])] Try.func118 ?_;have hM:=Mem.init w;refine aQ<|nJ hM 24 (.agg #[nm,wk,pa,va,vS A bs.length c]) [nm,wk,pa,va,vS A bs.length c] fun b1 w2 kH M3=> ?_
 replace M3:=M3.nf;clear hM;refine aj 2<|aE<|aQ<|gu (aZ b1) [nm,wk,pa,va,vS A bs.length c] (aK (M3.get 0 rfl))<|eY (vs:=#[(.agg #[nm,wk,pa,va,vS A bs.length c])]) (zk _ _ _ _ A c bs w2 hm (hA.at_ M3)) ?_;rintro _ w6 ⟨A4,c5,rfl,Z6⟩;have M7:=M3.cl Z6;refine aj 1<|aE<|aQ<|aj 1<|bq (ak b1 4) _ (ae (M7.get 0 rfl) rfl)<|aj 1 ?_;intro aC fr;refine I9 23 37 (.tmp 22) (.tmp 22) 37 fr (e:=3) (bytes:=8) (z:=(vI 0)) (n:=bs.length) (i:=(bs.length:Int)) oM (by simp only[maxLen];omega) M7 ?_;intro b8 w9 hb8 _ mc _ aC ea fr;clear ea;replace mc:=mc.nf;revert aC;refine mZ mc 37 [aq] fun fO Dx Rt kI=> ?_
 replace kI:=kI.nf;refine wq kI 3 0 (vS (sM b8) bs.length bs.length) rfl fun NS lu=> ?_
 replace lu:=lu.nf;refine aE<|aQ<|aj 1<|bq (ak b1 4) _ (ae (lu.get 0 rfl) rfl)<|aj 1 ?_;intro aC fr;refine I9 27 37 (.tmp 26) (.tmp 26) 37 fr (e:=3) (bytes:=8) (z:=(vI 0)) (n:=bs.length) (i:=(bs.length:Int)) oM (by simp only[maxLen];omega) lu ?_;intro gG Vj Qac _ oJ _ aC ea fr;clear ea;replace oJ:=oJ.nf;revert aC;refine mZ oJ 37 [aq] fun ua NX Qew kr=> ?_
 replace kr:=kr.nf;refine dX [1,4,5,6,27]<|wq kr 5 0 (vS (sM gG) bs.length bs.length) rfl fun bd xW=> ?_
 replace xW:=xW.nf;refine aE<|bx<|aQ<|bq (aZ fO) _ (ae (xW.get 3 rfl) rfl)<|aj 2<|aE<|cK 0 ?_;intro aC fr;refine gT (fun n_ a_ w_=>∃(i:Nat) (m1:ar) (m2:ar),n_=bs.length-i∧Fr a_ 112 [(1,pT b1 0),(4,vS A4 ((aF bs).length) c5),(5,pT fO 0),(6,pT ua 0),(29,(vI (bs.length:Int))),(30,nV i)]∧Mem bK w w_ [.au b1 24 [nm,wk,pa,va,vS A bs.length c],.row 3 1 A4 ((aF bs).length) c5 (ints (aF bs)),.row 3 1 (sM b8) bs.length bs.length (ints m1),.au fO 37 [vS (sM b8) bs.length bs.length],.row 3 1 (sM gG) bs.length bs.length (ints m2),.au ua 37 [vS (sM gG) bs.length bs.length]]∧(i≤bs.length)∧(bQ bs.length m1 (pM i))∧(bQ bs.length m2 (pM i))) (n:=_) ⟨0,List.replicate bs.length 0,List.replicate bs.length 0,rfl,fr.kp [1,4,5,6,29,30],(xW.cast (by simp[ints])),oM,uZ _,uZ _⟩ ?_;clear fr aC xW;rintro n aC N3 ⟨i,m1,m2,rfl,fr,ll,hi,h1,h2⟩;revert aC;refine aQ<|gC (decide ((i:Int)<(bs.length:Int))) fun Bi Vi=> ?_
 refine aE<|bx ?_;cases Bi;have ci:¬((i:Int)<(bs.length:Int)):=iZ Vi.symm;refine fT<|gq 0<|gr<|bx<|bC<|cK 2 ?_;have Vb:=iP bs;intro aC fr;refine gT (fun n_ a_ w_=>∃(k:Nat) (m3:ar),n_=(aF bs).length-k∧Fr a_ 112 [(1,pT b1 0),(4,vS A4 ((aF bs).length) c5),(5,pT fO 0),(6,pT ua 0),(40,vS A4 ((aF bs).length) c5),(41,(vI ((aF bs).length:Int))),(42,nV k)]∧Mem bK w w_ [.au b1 24 [nm,wk,pa,va,vS A bs.length c],.row 3 1 A4 ((aF bs).length) c5 (ints (aF bs)),.row 3 1 (sM b8) bs.length bs.length (ints m3),.au fO 37 [vS (sM b8) bs.length bs.length],.row 3 1 (sM gG) bs.length bs.length (ints m2),.au ua 37 [vS (sM gG) bs.length bs.length]]∧(k≤(aF bs).length)∧(bQ bs.length m3 (NF ((aF bs).take k)))) (n:=_) ⟨0,m1,rfl,fr.kp [1,4,5,6,40,41,42],ll,oM,yZ bs (AL h1 oM)⟩ ?_;clear fr aC ll;rintro n aC mM ⟨k,m3,rfl,fr,v7,hk,h3⟩;revert aC;refine aQ<|gC (decide ((k:Int)<((aF bs).length:Int))) fun Bk JL=> ?_
 refine aE<|bx ?_;cases Bk;have ck:¬((k:Int)<((aF bs).length:Int)):=iZ JL.symm;refine fT<|gq 2<|gr<|aQ ?_;have LM:=C8 h3 oM;have Qad:=AL h2 oM;refine gu (aZ b1) [nm,wk,pa,va,vS A bs.length c] (aK (v7.get 0 rfl))<|eY (vs:=#[(.agg #[nm,wk,pa,va,vS A bs.length c])]) (JN _ _ _ _ A c bs mM hm (hA.at_ v7)) ?_;rintro _ Vf ⟨PO,LZ,sE,rfl,JR,Qae⟩;have ER:=v7.cl Qae;refine aj 1<|aE<|bC<|bx<|bC<|cK 4 ?_;intro aC fr;refine gT (fun n_ a_ w_=>∃(k:Nat) (ab:ar) (up:Int→Int) (Bt:Bool),n_=bs.length+3-k∧Fr a_ 112 [(4,vS A4 ((aF bs).length) c5),(5,pT fO 0),(6,pT ua 0),(10,vS PO bs.length LZ),(11,(.func (.func 131) #[] #[pT fO 0,pT ua 0])),(12,vB Bt)]∧Mem bK w w_ [.au b1 24 [nm,wk,pa,va,vS A bs.length c],.row 3 1 A4 ((aF bs).length) c5 (ints (aF bs)),.row 3 1 (sM b8) bs.length bs.length (ints m3),.au fO 37 [vS (sM b8) bs.length bs.length],.row 3 1 (sM gG) bs.length bs.length (ints ab),.au ua 37 [vS (sM gG) bs.length bs.length],.lO 3 sE,.row 37 1 PO bs.length LZ (fq sE)]∧(bQ bs.length ab up)∧(0<bs.length→yU (tg bs) (iq bs) up k 0)∧(Bt=false→1≤k∧∃j,FK (tg bs) (iq bs) up j∧∀x,iq bs x≤j)∧(Bt=true→k≤bs.length+2)) (n:=_) ⟨0,m2,fun _=> -1,true,rfl,fr.kp [4,5,6,10,11,12],ER,Qad,fun h=>yU.start (Be h),fun h=>Bool.noConfusion h,fun _=>oM⟩ ?_;clear fr aC ER;rintro n aC lF ⟨k,ab,up,Bt,rfl,fr,DC,RH,PQ,Qaf,Qag⟩;revert aC;refine bx<|bC ?_;cases Bt;refine fT<|gq 4<|gr<|bx ?_;obtain⟨mN,jj,mT,N9⟩:=Qaf rfl;have QbG:=Q3 PQ mN mT N9 RH;obtain rfl:=IQ PQ mN mT N9 RH;obtain rfl:=LM.ext (IJ bs);refine dX [4,5,6,10,11,55] ?_;intro aC fr;refine qy (bL [eS (sM gG) bs.length bs.length,eS (sM b8) bs.length bs.length,eS (sM gG) bs.length bs.length,eS (sM b8) bs.length bs.length]) fr (la (pw lz (dL (aZ ua) _ fun w_ hK=>(ae ((DC.aD hK).get 5 rfl) rfl)) (dL (aZ fO) _ fun w_ hK=>(ae ((DC.aD hK).get 3 rfl) rfl)) dP) dP) ?_;intro aC Yv vs hK hv fr;revert aC;refine cH [(2,vS (sM gG) bs.length bs.length),(3,vS (sM b8) bs.length bs.length)] ?_;have BR:=DC.aD hK;clear hK hv fr aC DC;clear vs;refine an<|su (vS (sM gG) bs.length bs.length) (vS (sM b8) bs.length bs.length) ?_;have TG:=BR.od [2,4] 2;exact⟨_,_,_,_,rfl,QbG,TG⟩;refine fN<|cg<|cK 5<|bC<|aQ<|aj 3 ?_;intro aC fr;obtain⟨m0,Zf⟩:∃m0:Nat,m0=min 1 (aF bs).length:=⟨_,rfl⟩;refine Ai (kR:ao _ 3=some (some 59,(.call {callee:=(.builtin .min),args:=#[.const (vI 1),.tmp 58],argTypes:=#[3,3]}),3,none)) fr kR kR (k':=4) rfl (kd:= .i64) (i:=1) (j:=((aF bs).length:Int)) kR kR (m0:Int) (by split<;>omega) ?_;intro aC ea fr;clear ea;refine ky (kR:ao _ 4=some (some 60,.slice 37 (.tmp 56) (some (.tmp 59)) none none,37,none)) fr kR kR (k':=5) rfl (A:=A4) (n:=(aF bs).length) (cap:=c5) (e:=3) (size:=1) (kd:= .i64) (i:=(m0:Int)) m0 kR kR rfl kR kR oM ?_;intro aC ea fr;clear ea;obtain⟨YD,Vp⟩:∃YD,YD=(if c5=m0 then A4 else A4.map (fun y=>y.add (m0*1))):=⟨_,rfl⟩;revert aC;refine dX [4,5,6,10,11,12,60] ?_;intro aC fr;rw[←Vp]at fr;revert aC;refine aj 2<|aE<|cK 6 ?_;intro aC fr;refine gT (fun n_ a_ w_=>∃(j:Nat) (L3:ar) (vw:Int→Int) (RI:Bool),n_=(aF bs).length-m0-j∧Fr a_ 112 [(4,vS A4 ((aF bs).length) c5),(5,pT fO 0),(6,pT ua 0),(10,vS PO bs.length LZ),(11,(.func (.func 131) #[] #[pT fO 0,pT ua 0])),(12,vB RI),(60,vS YD ((aF bs).length-m0) (c5-m0)),(61,(vI ((((aF bs).length-m0):Nat):Int))),(62,nV j)]∧Mem bK w w_ [.au b1 24 [nm,wk,pa,va,vS A bs.length c],.row 3 1 A4 ((aF bs).length) c5 (ints (aF bs)),.row 3 1 (sM b8) bs.length bs.length (ints m3),.au fO 37 [vS (sM b8) bs.length bs.length],.row 3 1 (sM gG) bs.length bs.length (ints L3),.au ua 37 [vS (sM gG) bs.length bs.length],.lO 3 sE,.row 37 1 PO bs.length LZ (fq sE)]∧(j≤(aF bs).length-m0)∧(bQ bs.length L3 vw)∧(0<bs.length→yU (tg bs) (iq bs) vw k (j:Int))∧(RI=false→FK (tg bs) (iq bs) vw (j:Int))∧(bs.length+2≤k→RI=false)) (n:=_) ⟨0,ab,up,false,rfl,fr.kp [4,5,6,10,11,12,60,61,62],DC,oM,RH,PQ,fun _=>FK.start,fun _=>rfl⟩ ?_;clear fr aC DC;rintro n aC Z2 ⟨j,L3,vw,RI,rfl,fr,Cw,hj,xX,vi,qZ,YE⟩;revert aC;refine aQ<|gC (decide ((j:Int)<((((aF bs).length-m0):Nat):Int))) fun Bj mU=> ?_
 refine aE<|bx ?_;cases Bj;have cj:¬((j:Int)<((((aF bs).length-m0):Nat):Int)):=iZ mU.symm;refine fT<|gq 6<|gr ?_;intro aC fr;exact⟨bs.length+3-(k+1),by have:=Qag rfl;omega,k+1,L3,vw,RI,rfl,fr.kp [4,5,6,10,11,12],Cw,xX,fun h=>(vi h).Zx (Be h) (fun x=>by have:=IP bs x;omega),fun h=>⟨oM,_,qZ h,fun x=>by have:=IP bs x;omega⟩,fun h=>IT YE h⟩;have cj:(j:Int)<((((aF bs).length-m0):Nat):Int):=nF mU.symm;refine fN<|cg<|bx<|cK 7<|aQ ?_;obtain⟨go,rfl⟩:=cW (Cw.get 1 rfl) oM;have hco:=p7 (Cw.get 1 rfl);obtain rfl:YD=some ((aZ go).add (1*1)):=by rw[Vp,QcA oM,show m0=1 by omega];rfl
 obtain⟨bi,hbj,Gs,Vq⟩:=IM (bs:=bs) (j:=j) oM;have Pz:0<bs.length:=oM;have hP:=Be Pz;have Gt:=vi Pz;have vX:(bi:Int)≠0:=by intro e;rw[e,hP.zero]at Vq;omega
 have bh:∀x,0≤iq bs x→0≤x:=fun x hx=>(jX Pz hx).1
 obtain⟨Ab,cb,Ex⟩:=JR.get (ru Gs);have Tx:(bS bs (bi:Int)).length≤bs.length:=fZ bs _ _;have k9:Nb (tg bs) (iq bs) vw bs.length m3 L3:=⟨hP,Gt.ok,fun x hx=>jX Pz hx,LM,xX⟩;refine eZ ((aZ go).add (1*1)) ((aF bs).length-m0) 1 (j:Int)<|bq ((((aZ go).add (1*1)):Addr).add (((j:Int)).toNat*1)) _ (fR (Nc (aB (Cw.get 1 rfl))) rfl hbj)<|aj 1<|aE<|bC<|bx<|aQ<|aj 2 ?_;obtain⟨YF,rfl⟩:=cW (Cw.get 7 rfl) oM;refine eZ (aZ YF) bs.length 1 (bi:Int)<|bq (aN (aZ YF) (bi:Int) 1) _ (bB (aB (Cw.get 7 rfl)) rfl (ia Ex))<|aj 2<|aE<|cK 8 ?_;intro aC fr;refine gT (fun n_ a_ w_=>∃(q:Nat) (to:Int),n_=(bS bs (bi:Int)).length-q∧Fr a_ 112 [(4,vS (sM go) ((aF bs).length) c5),(5,pT fO 0),(6,pT ua 0),(10,vS (sM YF) bs.length LZ),(11,(.func (.func 131) #[] #[pT fO 0,pT ua 0])),(12,vB RI),(14,nV bi),(15,vI to),(60,vS (some ((aZ go).add (1*1))) ((aF bs).length-m0) (c5-m0)),(61,(vI ((((aF bs).length-m0):Nat):Int))),(62,nV j),(69,(vS Ab ((bS bs (bi:Int)).length) cb)),(70,(vI ((bS bs (bi:Int)).length:Int))),(71,nV q)]∧Mem bK w w_ [.au b1 24 [nm,wk,pa,va,vS A bs.length c],.row 3 1 (sM go) ((aF bs).length) c5 (ints (aF bs)),.row 3 1 (sM b8) bs.length bs.length (ints m3),.au fO 37 [vS (sM b8) bs.length bs.length],.row 3 1 (sM gG) bs.length bs.length (ints L3),.au ua 37 [vS (sM gG) bs.length bs.length],.lO 3 sE,.row 37 1 (sM YF) bs.length LZ (fq sE)]∧(q≤(bS bs (bi:Int)).length)∧(Fold (tg bs) (iq bs) vw ((bS bs (bi:Int)).take q) to)) (n:=_) ⟨0,-1,rfl,fr.kp [4,5,6,10,11,12,14,15,60,61,62,69,70,71],Cw,oM,Fold.start⟩ ?_;clear fr aC Cw;rintro n aC YG ⟨q,to,rfl,fr,nx,hq,zl⟩;revert aC;refine aQ<|gC (decide ((q:Int)<((bS bs (bi:Int)).length:Int))) fun Bq mV=> ?_
 refine aE<|bx ?_;cases Bq;have cq:¬((q:Int)<((bS bs (bi:Int)).length:Int)):=iZ mV.symm;refine fT<|gq 8<|gr<|aQ ?_;rw[uK oM]at zl;obtain⟨k1,k2,k3,k4,k5,k6⟩:=Gt.step hP bh oM Vq (Nd Pz) zl;refine bq (aZ ua) _ (ae (nx.get 5 rfl) rfl)<|aj 1<|eZ (aZ gG) bs.length 1 (bi:Int)<|bq (aN (aZ gG) (bi:Int) 1) _ (bB (aB (nx.get 4 rfl)) rfl (xX.at_ oM oM))<|aj 1<|gC ((vw (bi:Int)) !=to) fun Bch Vr=> ?_
 refine aE ?_;cases Bch;have mY:¬((vw (bi:Int))≠to):=Q9 Vr;have k7:yU (tg bs) (iq bs) vw k ((j+1:Nat):Int):=by have:=k6;rw[show to=vw (bi:Int)by omega,IE]at this;exact this
 refine fT<|cg<|dh<|cy ((j:Int)+1)<|aj 1<|aE ?_;intro aC fr;exact⟨(aF bs).length-m0-(j+1),oM,j+1,L3,vw,RI,rfl,fr.kp [4,5,6,10,11,12,60,61,62],nx,oM,xX,fun _=>k7,fun h=>(qZ h).next hP Vq (Gt.keep Vq k1 oM k4),YE⟩;have mY:(vw (bi:Int))≠to:=dj.1 Vr.symm;refine fN<|aQ<|bq (aZ ua) _ (ae (nx.get 5 rfl) rfl)<|aj 2<|eZ (aZ gG) bs.length 1 (bi:Int)<|zJ nx 4 (aN (aZ gG) (bi:Int) 1) (((bi:Int)).toNat*1) (vI to) rfl rfl oM fun I8 RJ=> ?_
 replace RJ:=RJ.nf;refine aE<|Ez<|dh<|cy ((j:Int)+1)<|aj 1<|aE ?_;intro aC fr;exact⟨(aF bs).length-m0-(j+1),oM,j+1,L3.set bi to,qn vw (bi:Int) to,true,rfl,fr.kp [4,5,6,10,11,12,60,61,62],(RJ.cast (by rw[ints_set];simp only[ld,QiX])),oM,xX.set Gs sf (fun q _ cU=>lZ oM),fun _=>k6,fun h=>Bool.noConfusion h,fun h=>absurd (Gt.full hP (fun x hx=>mu Pz hx) h oM vX k2 k3 k4 k5) mY⟩;have cq:(q:Int)<((bS bs (bi:Int)).length:Int):=nF mV.symm;refine fN<|cg<|bx<|cK 9<|aQ ?_;obtain⟨si,vW,na⟩:=tQ (bs:=bs) (b:=(bi:Int)) (q:=q) oM;obtain⟨Vs,rfl⟩:=rd_some (mX (nx.get 6 rfl) Ex) (by simp;omega);refine eZ Vs ((bS bs (bi:Int)).length) 1 (q:Int)<|bq (aN Vs (q:Int) 1) _ (fR (mX (nx.get 6 rfl) Ex) rfl vW)<|aj 1<|aE<|bx<|aQ<|bq (aZ fO) _ (ae (nx.get 3 rfl) rfl)<|aj 1<|eZ (aZ b8) bs.length 1 (si:Int)<|bq (aN (aZ b8) (si:Int) 1) _ (bB (aB (nx.get 2 rfl)) rfl (LM.at_ oM oM))<|gC (decide ((iq bs (si:Int))<0)) fun Bpl Vt=> ?_
 refine aj 1 ?_;cases Bpl;have cpl:¬((iq bs (si:Int))<0):=iZ Vt.symm;refine aj 1<|gC ((si:Int) !=0) fun Bs0 Vu=> ?_
 refine aj 1 ?_;cases Bs0;have nq:¬((si:Int)≠0):=Q9 Vu;have Hu:jz (iq bs) vw (si:Int):=⟨oM,.inl oM⟩;refine aj 7<|aE<|fT<|cg<|aQ<|aj 1<|gC (decide (to<0)) fun Bto Ql3=> ?_
 refine dX [4,5,6,10,11,12,14,15,17,60,61,62,69,70,71,92]<|aE ?_;cases Bto;have Vv:¬(to<0):=iZ Ql3.symm;refine fT<|dh<|aj 3<|eY (JP fO ua (aZ b8) (aZ gG) bs.length bs.length bs.length m3 L3 (tg bs) (iq bs) vw to (si:Int) YG hm (nx.dT 3 rfl) (nx.dT 5 rfl) (RO.aB (nx.dT 2 rfl)) (RO.aB (nx.dT 4 rfl)) k9 (zl.C4 oM) Hu) ?_;rintro _ YH ⟨cm,rfl,CD,Qah⟩;have JT:=nx.cl Qah;refine aj 1<|aE<|dh<|cy ((q:Int)+1)<|aj 1<|aE ?_;intro aC fr;exact⟨(bS bs (bi:Int)).length-(q+1),oM,q+1,cm,rfl,fr.kp [4,5,6,10,11,12,14,15,60,61,62,69,70,71],JT,oM,by rw[iu vW];exact zl.meet hP Gt.ok oM Hu CD⟩;have Vv:to<0:=nF Ql3.symm;refine fN<|Ez<|dh<|cy ((q:Int)+1)<|aj 1<|aE ?_;intro aC fr;exact⟨(bS bs (bi:Int)).length-(q+1),oM,q+1,(si:Int),rfl,fr.kp [4,5,6,10,11,12,14,15,60,61,62,69,70,71],nx,oM,by rw[iu vW];exact zl.first Vv bh Hu⟩;have nq:(si:Int)≠0:=dj.1 Vu.symm;refine bq (aZ ua) _ (ae (nx.get 5 rfl) rfl)<|aj 1<|eZ (aZ gG) bs.length 1 (si:Int)<|bq (aN (aZ gG) (si:Int) 1) _ (bB (aB (nx.get 4 rfl)) rfl (xX.at_ oM oM))<|dX [4,5,6,10,11,12,14,15,17,60,61,62,69,70,71,80,83,87]<|gC (decide ((vw (si:Int))<0)) fun Bup Vw=> ?_
 refine aj 2<|aE ?_;cases Bup;have cup:¬((vw (si:Int))<0):=iZ Vw.symm;have Hu:jz (iq bs) vw (si:Int):=⟨oM,.inr oM⟩;refine fT<|cg<|aQ<|aj 1<|gC (decide (to<0)) fun Bto Ql3=> ?_
 refine aE ?_;cases Bto;have Vv:¬(to<0):=iZ Ql3.symm;refine fT<|dh<|aj 3<|eY (JP fO ua (aZ b8) (aZ gG) bs.length bs.length bs.length m3 L3 (tg bs) (iq bs) vw to (si:Int) YG hm (nx.dT 3 rfl) (nx.dT 5 rfl) (RO.aB (nx.dT 2 rfl)) (RO.aB (nx.dT 4 rfl)) k9 (zl.C4 oM) Hu) ?_;rintro _ w99 ⟨cm,rfl,CD,Vx⟩;have JU:=nx.cl Vx;refine aj 1<|aE<|dh<|cy ((q:Int)+1)<|aj 1<|aE ?_;intro aC fr;exact⟨(bS bs (bi:Int)).length-(q+1),oM,q+1,cm,rfl,fr.kp [4,5,6,10,11,12,14,15,60,61,62,69,70,71],JU,oM,by rw[iu vW];exact zl.meet hP Gt.ok oM Hu CD⟩;have Vv:to<0:=nF Ql3.symm;refine fN<|Ez<|dh<|cy ((q:Int)+1)<|aj 1<|aE ?_;intro aC fr;exact⟨(bS bs (bi:Int)).length-(q+1),oM,q+1,(si:Int),rfl,fr.kp [4,5,6,10,11,12,14,15,60,61,62,69,70,71],nx,oM,by rw[iu vW];exact zl.first Vv bh Hu⟩;have cup:(vw (si:Int))<0:=nF Vw.symm;have bH:¬jz (iq bs) vw (si:Int):=fun h=>h.2.elim nq (fun h=>oM)
 refine fN<|gq 9<|gr<|dh<|cy ((q:Int)+1)<|aj 1<|aE ?_;intro aC fr;exact⟨(bS bs (bi:Int)).length-(q+1),oM,q+1,to,rfl,fr.kp [4,5,6,10,11,12,14,15,60,61,62,69,70,71],nx,oM,by rw[iu vW];exact zl.skip bH⟩;have cpl:(iq bs (si:Int))<0:=nF Vt.symm;have bH:¬jz (iq bs) vw (si:Int):=fun h=>by have:=h.1;omega
 refine aj 10<|aE<|fN<|gq 9<|gr<|dh<|cy ((q:Int)+1)<|aj 1<|aE ?_;intro aC fr;exact⟨(bS bs (bi:Int)).length-(q+1),oM,q+1,to,rfl,fr.kp [4,5,6,10,11,12,14,15,60,61,62,69,70,71],nx,oM,by rw[iu vW];exact zl.skip bH⟩;have ck:(k:Int)<((aF bs).length:Int):=nF JL.symm;refine fN<|cg<|bx<|cK 3<|aQ ?_;obtain⟨bi,TH,Gs,Vq⟩:=yY (bs:=bs) (k:=k) oM;refine aj 1 ?_;obtain⟨Vy,rfl⟩:=cW (v7.get 1 rfl) oM;refine eZ (aZ Vy) ((aF bs).length) 1 (k:Int)<|bq (aN (aZ Vy) (k:Int) 1) _ (fR (aB (v7.get 1 rfl)) rfl TH)<|aj 2<|aE<|dh<|bq (aZ fO) _ (ae (v7.get 3 rfl) rfl)<|aj 2<|eZ (aZ b8) bs.length 1 (bi:Int)<|zJ v7 2 (aN (aZ b8) (bi:Int) 1) (((bi:Int)).toNat*1) (nV k) rfl rfl oM fun Qai JV=> ?_
 replace JV:=JV.nf;refine aE<|dh<|cy ((k:Int)+1)<|aj 1<|aE ?_;intro aC fr;exact⟨(aF bs).length-(k+1),oM,k+1,m3.set bi (k:Int),rfl,fr.kp [1,4,5,6,40,41,42],(JV.cast (by rw[ints_set];simp only[ld,QiX])),oM,AO h3 TH Gs⟩;have ci:(i:Int)<(bs.length:Int):=nF Vi.symm;refine fN<|cg<|bx<|cK 1<|bC<|dX [1,4,5,6,7,29,30] ?_;intro aC fr;refine zK (bL [eS (sM b8) bs.length bs.length,.bG (nV i),eS (sM gG) bs.length bs.length,.bG (nV i),eA (aZ b8) (i:Int) 1,.bG undef,eA (aZ gG) (i:Int) 1,.bG undef]) (fun ls vs w_=>match ls 7 with|true=>(Mem bK w w_ [.au b1 24 [nm,wk,pa,va,vS A bs.length c],.row 3 1 A4 ((aF bs).length) c5 (ints (aF bs)),.row 3 1 (sM b8) bs.length bs.length ((ints m1).set (((i:Int)).toNat*1) (vI (-1))),.au fO 37 [vS (sM b8) bs.length bs.length],.row 3 1 (sM gG) bs.length bs.length ((ints m2).set (((i:Int)).toNat*1) (vI (-1))),.au ua 37 [vS (sM gG) bs.length bs.length]])|false=>(match ls 5 with|true=>(Mem bK w w_ [.au b1 24 [nm,wk,pa,va,vS A bs.length c],.row 3 1 A4 ((aF bs).length) c5 (ints (aF bs)),.row 3 1 (sM b8) bs.length bs.length ((ints m1).set (((i:Int)).toNat*1) (vI (-1))),.au fO 37 [vS (sM b8) bs.length bs.length],.row 3 1 (sM gG) bs.length bs.length (ints m2),.au ua 37 [vS (sM gG) bs.length bs.length]])|false=>(Mem bK w w_ [.au b1 24 [nm,wk,pa,va,vS A bs.length c],.row 3 1 A4 ((aF bs).length) c5 (ints (aF bs)),.row 3 1 (sM b8) bs.length bs.length (ints m1),.au fO 37 [vS (sM b8) bs.length bs.length],.row 3 1 (sM gG) bs.length bs.length (ints m2),.au ua 37 [vS (sM gG) bs.length bs.length]]))) fr (oK (.bG (.bG (.bG (.bG (.bG (.bG (.bG (.bG .nil))))))))) (ll.aD (Mem.drew _)) (tZ lz (lL (aZ fO) (vS (sM b8) bs.length bs.length) (fun _ _ _ _ h=>h) ?_) Qp5 (lL (aZ ua) (vS (sM gG) bs.length bs.length) (fun _ _ _ _ h=>h) ?_) Qp5 (K6 (aZ b8) bs.length 1 (i:Int) fun _ _ _ _ h=>h) ?_ (K6 (aZ gG) bs.length 1 (i:Int) fun _ _ _ _ h=>h) ?_) ?_;intro w_ ls vs hJ bp bj hp;have f5:=Qp3 5 8 bj bp;have f7:=Qp3 7 8 bj bp;have aI:=hJ;simp only[f5,f7]at aI;exact(ae (aI.get 3 rfl) rfl);intro w_ ls vs hJ bp bj hp;have f7:=Qp3 7 8 bj bp;have aI:=hJ;simp only[f7]at aI;cases fu:ls 5;simp only[fu]at aI;exact(ae (aI.get 5 rfl) rfl);simp only[fu]at aI;exact(ae (aI.get 5 rfl) rfl);intro dM w_ ls vs bZ hJ bp bj hp hF;refine iW (g0:=none) ?_;replace hF:Fr dM 112 [(37,(vP (aN (aZ b8) (i:Int) 1)))]:=hF.kp [37];have f5:ls 5=false:=bp;have f7:=Qp3 7 8 bj bp;have aI:=hJ;simp only[f5,f7]at aI;refine dZ (kR:ao _ 0=some (none,.store 3 (.tmp 37) (.const (vI (-1))),0,none)) hF kR kR (k':=1) rfl (ad:=(aZ b8)) (j:=(((i:Int)).toNat*1)) (e:=3) (size:=1) (n:=bs.length) (cap:=bs.length) (v:=(vI (-1))) (xs:=(ints m1)) (ad':=(aN (aZ b8) (i:Int) 1)) kR rfl kR kR rfl aI 2 rfl oM ?_;intro w2 dY _ a2 ea _;refine aJ kR ?_;refine aY (d:=none) kR ea rfl ?_;show match ls 7 with|true=>_|false=>(_)
 rw[f7];exact dY;intro dM w_ ls vs bZ hJ bp bj hp hF;refine iW (g0:=none) ?_;replace hF:Fr dM 112 [(38,(vP (aN (aZ gG) (i:Int) 1)))]:=hF.kp [38];have f5:=Qp8 5 8 bj hp;have f7:ls 7=false:=bp;have aI:=hJ;simp only[f5,f7]at aI;refine dZ (kR:ao _ 0=some (none,.store 3 (.tmp 38) (.const (vI (-1))),0,none)) hF kR kR (k':=1) rfl (ad:=(aZ gG)) (j:=(((i:Int)).toNat*1)) (e:=3) (size:=1) (n:=bs.length) (cap:=bs.length) (v:=(vI (-1))) (xs:=(ints m2)) (ad':=(aN (aZ gG) (i:Int) 1)) kR rfl kR kR rfl aI 4 rfl oM ?_;intro w2 dY _ a2 ea _;refine aJ kR ?_;refine aY (d:=none) kR ea rfl ?_;show _;exact dY;intro aC Vz ls vs cA BU hv fr;simp only[show ls 7=true from cA 7 dQ]at BU;revert aC;refine cH [(1,pT b1 0),(4,vS A4 ((aF bs).length) c5),(5,pT fO 0),(6,pT ua 0),(29,(vI (bs.length:Int))),(30,nV i)] ?_;clear cA hv fr aC ll;clear vs ls;refine dh<|cy ((i:Int)+1)<|aj 1<|aE ?_;intro aC fr;exact⟨bs.length-(i+1),oM,i+1,m1.set i (-1),m2.set i (-1),rfl,fr.kp [1,4,5,6,29,30],(BU.cast (by rw[ints_set,ints_set];simp only[ld,QiX])),oM,xn h1 oM,xn h2 oM⟩
end Go.Proofs.Ytejbeeaomokjpaa
namespace Go.Proofs.Ytejbeeaomokjpaa
open Go.Mor
theorem RK(nm:cV)(wk:Bool)(pa va:Int)(A:aX)(c:Nat)(fs:List ay)(w:World)(hN:fs.length≤1000)(gx:pL fs)(hA:RO bK w (.fn A fs)):Calls Try.prog 77 #[fA nm wk pa va A c fs] w (fE fun v w'=>v=vI ((hY fs:Nat):Int)∧Mem bK w w' []):=by
 have wA:=bE fs;have hm:(af fs).length≤1000000:=oM;have hB:=hA.bs;refine hZ 27 [fA nm wk pa va A c fs] Try.func77 ?_;have hM:=Mem.init w;refine aQ<|nJ hM 24 (fA nm wk pa va A c fs) (fV nm wk pa va A c fs) fun b1 w2 kH M3=> ?_
 replace M3:=M3.nf;clear hM;refine aj 1<|aE<|aQ<|aj 1<|bq (ak b1 4) _ (ae (M3.get 0 rfl) rfl)<|aj 2<|aE<|bx<|aQ<|aj 1 ?_;refine bq (ak b1 4) _ (ae (M3.get 0 rfl) rfl)<|aj 2<|aE<|cK 0 ?_;intro aC fr;refine gT (fun n_ a_ w_=>∃(k:Nat) (q:Nat),n_=fs.length-k∧Fr a_ 27 [(3,nV q),(10,vS A ((af fs).length) c),(11,(vI ((af fs).length:Int))),(12,nV k)]∧Mem bK w w_ [.au b1 24 (fV nm wk pa va A c fs)]∧(k≤fs.length)∧(q=fs.length+jl fs k)) (n:=_) ⟨0,(af fs).length,rfl,fr.kp [3,10,11,12],M3,oM,by rw[wA,om];rfl⟩ ?_;clear fr aC M3;rintro n aC w6 ⟨k,q,rfl,fr,M7,hk,hq⟩;revert aC;refine bC<|bx<|jg ((k:Int)<((af fs).length:Int)) (fun Hq=> ?_) (fun Hq=> ?_);refine cg<|bx<|cK 1<|aQ ?_;obtain⟨x,hx⟩:=bu (l:=fs) (i:=k) oM;have nR:x.ah.length≤281474976710656:=(gx.get hx).lp;have xo:x.insts.length≤281474976710656:=(gx.get hx).li;have Tx:=sa gx k hk;obtain⟨sF,rfl⟩:=dN (M7.ro hB) (gv hx);refine eZ sF ((af fs).length) 6 (k:Int)<|gu (aN sF (k:Int) 6) (xV x) (cZ (M7.ro hB) rfl hx)<|mZ M7 36 [aq,aq,vI 0,vI 0,vI 0,vI 0] fun ET NU VA rO=> ?_
 replace rO:=rO.nf;refine po rO 1 (xV x) rfl fun Ty lQ=> ?_
 replace lQ:=lQ.nf;refine aE<|dh<|aj 2<|bq (aZ ET) _ (ae (lQ.get 1 rfl) rfl)<|aj 2<|bq (ak ET 1) _ (ae (lQ.get 1 rfl) rfl)<|aj 1<|cy ((x.ah.length:Int)+(x.insts.length:Int))<|cy ((q:Int)+((x.ah.length:Int)+(x.insts.length:Int)))<|dX [10,11,12,24] ?_;refine aj 1<|aE<|dh<|cy ((k:Int)+1)<|aj 1<|aE ?_;intro aC fr;exact⟨fs.length-(k+1),oM,k+1,q+(x.ah.length+x.insts.length),rfl,fr.kp [3,10,11,12],(lQ.tk 1),oM,by rw[hq,ly hx];omega⟩;refine gq 0<|gr<|bC<|an<|cQ (nV q) ?_;obtain rfl:k=fs.length:=oM;have lu:=M7.od [] 0;exact⟨by rw[hq];rfl,lu⟩
theorem zm(nm:cV)(wk:Bool)(pa va:Int)(A:aX)(c:Nat)(fs:List ay)(w:World)(hN:fs.length≤1000)(gx:pL fs)(hA:RO bK w (.fn A fs)):Calls Try.prog 19 #[fA nm wk pa va A c fs] w (fE fun v w'=>v=vI ((hY fs:Nat):Int)∧Mem bK w w' []):=by
 have wA:=bE fs;have hm:(af fs).length≤1000000:=oM;have hB:=hA.bs;refine hZ 33 [fA nm wk pa va A c fs] Try.func19 ?_;have hM:=Mem.init w;refine aQ<|nJ hM 24 (fA nm wk pa va A c fs) (fV nm wk pa va A c fs) fun b1 w2 kH M3=> ?_
 replace M3:=M3.nf;clear hM;refine aj 1<|aE<|aQ<|aj 1<|bq (ak b1 4) _ (ae (M3.get 0 rfl) rfl)<|aj 2<|aE<|bx<|bC<|cK 0 ?_;intro aC fr;refine gT (fun n_ a_ w_=>∃(k:Nat) (q:Nat),n_=fs.length-k∧Fr a_ 33 [(1,pT b1 0),(3,nV q),(4,nV k)]∧Mem bK w w_ [.au b1 24 (fV nm wk pa va A c fs)]∧(k≤fs.length)∧(q=fs.length+jl fs k)) (n:=_) ⟨0,(af fs).length,rfl,fr.kp [1,3,4],M3,oM,by rw[wA,om];rfl⟩ ?_;clear fr aC M3;rintro n aC w6 ⟨k,q,rfl,fr,M7,hk,hq⟩;revert aC;refine bx<|aQ<|aj 2<|bq (ak b1 4) _ (ae (M7.get 0 rfl) rfl)<|aj 2<|aE<|jg ((k:Int)<((af fs).length:Int)) (fun Hq=> ?_) (fun Hq=> ?_);refine cg<|bx<|cK 1 ?_;obtain⟨x,hx⟩:=bu (l:=fs) (i:=k) oM;have nR:x.ah.length≤281474976710656:=(gx.get hx).lp;have xo:x.insts.length≤281474976710656:=(gx.get hx).li;have Tx:=sa gx k hk;obtain⟨sF,rfl⟩:=dN (M7.ro hB) (gv hx);obtain⟨x,hx⟩:=bu (l:=fs) (i:=k) oM;have nR:x.ah.length≤281474976710656:=(gx.get hx).lp;have xo:x.insts.length≤281474976710656:=(gx.get hx).li;have Tx:=sa gx k hk;refine dX [1,3,4] ?_;intro aC fr;refine qy (bL [.bG (nV q),eR b1 4,eS (some sF) ((af fs).length) c,.bG (nV k),eA sF (k:Int) 6,eA sF (k:Int) 6,eS x.pA x.ah.length x.pc,eI (x.ah.length:Int),eI ((q:Int)+(x.ah.length:Int)),eR b1 4,eS (some sF) ((af fs).length) c,.bG (nV k),eA sF (k:Int) 6,eP ((aN sF (k:Int) 6).add 1),eS x.iA x.insts.length x.ic,eI (x.insts.length:Int),eI ((((q+(x.ah.length+x.insts.length):Nat)):Int)),eI ((((q+(x.ah.length+x.insts.length):Nat)):Int))]) fr (la (Cu (gE lz dP dP (dL (ak b1 4) _ fun w_ hK=>(ae ((M7.aD hK).get 0 rfl) rfl)) dP (dI sF ((af fs).length) 6 (k:Int)) dP (dL (aN sF (k:Int) 6) _ fun w_ hK=>(cZ ((M7.aD hK).ro hB) rfl hx 0 _ rfl)) dP (dA ((q:Int)+(x.ah.length:Int))) dP (dL (ak b1 4) _ fun w_ hK=>(ae ((M7.aD hK).get 0 rfl) rfl)) dP) (dI sF ((af fs).length) 6 (k:Int)) dP (dL ((aN sF (k:Int) 6).add 1) _ fun w_ hK=>(cZ ((M7.aD hK).ro hB) rfl hx 1 _ rfl)) dP ?_) dP) ?_;intro dM w_ vs bZ hK hp hF;refine iW (g0:=none) ?_;replace hF:Fr dM 33 [(23,(vI ((q:Int)+(x.ah.length:Int)))),(30,(vI (x.insts.length:Int)))]:=hF.kp [23,30];refine fU (kR:ao _ 0=some (some 31,.binOp .add 3 (.tmp 23) (.tmp 30) 3,3,none)) hF kR kR (k':=1) rfl (i:=((q:Int)+(x.ah.length:Int))) (j:=(x.insts.length:Int)) (z:=((((q+(x.ah.length+x.insts.length):Nat)):Int))) kR kR (Qi9 some oM) oM oM ?_;intro a2 ea _;refine aJ kR ?_;exact tC (d:=some 31) kR ea (Kp.refl _) rfl;intro aC Dx vs hK hv fr;revert aC;refine cH [(1,pT b1 0),(3,(vI ((((q+(x.ah.length+x.insts.length):Nat)):Int)))),(4,nV k)] ?_;have kI:=M7.aD hK;clear hK hv fr aC M7;clear vs;refine dh<|aj 1<|cy ((k:Int)+1)<|aj 1<|aE ?_;intro aC fr;exact⟨fs.length-(k+1),oM,k+1,q+(x.ah.length+x.insts.length),rfl,fr.kp [1,3,4],kI,oM,by rw[hq,ly hx];omega⟩;refine gq 0<|gr<|bC<|an<|cQ (nV q) ?_;obtain rfl:k=fs.length:=oM;have Gu:=M7.od [] 0;exact⟨by rw[hq];rfl,Gu⟩
end Go.Proofs.Ytejbeeaomokjpaa
namespace Go.Proofs.Ytejbeeaomokjpaa
open Go.Mor
theorem QfT(l:ar)(A A2:aX)(c c2:Nat)(w:World)(Qf:gY l.length)(hl:RO bK w (.rd A (ints l)))(hm:RO bK w (.rd A2 (ints l))):Calls Try.prog 101 #[vS A l.length c,vS A2 l.length c2] w (fE fun v w'=>v=vB true∧Mem bK w w' []):=by
 unfold gY at Qf;refine hZ 26 [vS A l.length c,vS A2 l.length c2] Try.func101 ?_;have hM:=Mem.init w;refine bC<|bx<|aQ<|aj 4<|gC ((l.length:Int) !=(l.length:Int)) fun B1 ju=> ?_
 obtain rfl:B1=false:=by have bW:¬((l.length:Int)≠(l.length:Int)):=oM;first|exact ju.trans (B2 bW)|exact ju.trans (Cm bW)|exact ju.trans (Js.2 bW)|exact ju.trans (dj.2 bW)|exact ju.trans (lS.2 (fun e=>bW (Js.1 e)))|exact ju.trans (lS.2 (fun e=>bW (dj.1 e)))
 clear ju;refine aE<|fT<|cg<|bx<|bC<|cK 0 ?_;intro aC fr;refine gT (fun n_ a_ w_=>∃(i:Nat),n_=l.length-i∧Fr a_ 26 [(0,vS A l.length c),(1,vS A2 l.length c2),(5,nV i)]∧Mem bK w w_ []∧(i≤l.length)) (n:=_) ⟨0,rfl,fr.kp [0,1,5],hM,oM⟩ ?_;clear fr aC hM;rintro n aC w4 ⟨i,rfl,fr,M5,hi⟩;revert aC;refine bx<|bC<|jg ((i:Int)<(l.length:Int)) (fun c8=> ?_) (fun c8=> ?_);refine cg<|bx<|cK 1<|bx ?_;obtain⟨x,hx⟩:=bu (l:=l) (i:=i) oM;obtain⟨ad9,rfl⟩:=rd_some (M5.ro hl) (by simp[ints];omega);obtain⟨Qqc,rfl⟩:=rd_some (M5.ro hm) (by simp[ints];omega);obtain⟨B11,Qbe⟩:∃B:Bool,B=(x !=x):=⟨_,rfl⟩;obtain rfl:B11=false:=by have bW:¬((x:Int)≠x):=oM;first|exact Qbe.trans (B2 bW)|exact Qbe.trans (Cm bW)|exact Qbe.trans (Js.2 bW)|exact Qbe.trans (dj.2 bW)|exact Qbe.trans (lS.2 (fun e=>bW (Js.1 e)))|exact Qbe.trans (lS.2 (fun e=>bW (dj.1 e)))
 refine dX [0,1,5] ?_;intro aC fr;refine qy (bL [eS (some ad9) l.length c,.bG (nV i),eA ad9 (i:Int) 1,eI x,eS (some Qqc) l.length c2,.bG (nV i),eA Qqc (i:Int) 1,eI x,eB false]) fr (la (tZ lz dP dP (dI ad9 l.length 1 (i:Int)) (dL (aN ad9 (i:Int) 1) _ fun w_ hK=>(fR ((M5.aD hK).ro hl) rfl hx)) dP dP (dI Qqc l.length 1 (i:Int)) (dL (aN Qqc (i:Int) 1) _ fun w_ hK=>(fR ((M5.aD hK).ro hm) rfl hx))) (dC (x !=x) Qbe)) ?_;intro aC Dx vs hK hv fr;revert aC;refine cH [(0,vS (some ad9) l.length c),(1,vS (some Qqc) l.length c2),(5,nV i),(25,vB false)] ?_;have kI:=M5.aD hK;clear hK hv fr aC M5;clear vs;refine fT<|cg<|dh<|aj 1<|cy ((i:Int)+1)<|aj 1<|aE ?_;intro aC fr;exact⟨l.length-(i+1),oM,i+1,rfl,fr.kp [0,1,5],kI,oM⟩;refine gq 0<|gr<|bC<|an<|cQ (vB true) ?_;exact⟨rfl,M5⟩
theorem Qj4(fs gs:List ay)(A A2:aX)(k:Nat)(pA:aX)(pc:Nat)(qs:List bI)(iA:aX)(ic:Nat)(us:List aO)(xe xw xa xb:Int)(A1:aX)(c1:Nat)(ps:List bI)(A3:aX)(c3:Nat)(is:List aO)(w:World)(gx:ay.Ok ⟨pA,pc,qs,iA,ic,us,xe,xw,xa,xb⟩)(hA:RO bK w (.fn A fs))(hx:fs[k]?=some ⟨pA,pc,qs,iA,ic,us,xe,xw,xa,xb⟩)(hA2:RO bK w (.fn A2 gs))(hy:gs[k]?=some ⟨A1,c1,ps,A3,c3,is,xe,xw,xa,xb⟩)(UN:ps.map bI.e0=qs.map bI.e0)(his:is.map aO.e0=us.map aO.e0):Calls Try.prog 58 #[(.agg #[vS pA qs.length pc,vS iA us.length ic,vI xe,vI xw,vI xa,vI xb]),(.agg #[vS A1 ps.length c1,vS A3 is.length c3,vI xe,vI xw,vI xa,vI xb])] w (fE fun v w'=>v=vB true∧Mem bK w w' []):=by
 have kT:=eM UN;have q8:=eM his;have nR:qs.length≤281474976710656:=gx.lp;have xo:us.length≤281474976710656:=gx.li;refine hZ 140 [(.agg #[vS pA qs.length pc,vS iA us.length ic,vI xe,vI xw,vI xa,vI xb]),(.agg #[vS A1 ps.length c1,vS A3 is.length c3,vI xe,vI xw,vI xa,vI xb])] Try.func58 ?_;have hM:=Mem.init w;refine aQ<|nJ hM 36 (.agg #[vS pA qs.length pc,vS iA us.length ic,vI xe,vI xw,vI xa,vI xb]) [vS pA qs.length pc,vS iA us.length ic,vI xe,vI xw,vI xa,vI xb] fun b1 w2 kH M3=> ?_
 replace M3:=M3.nf;clear hM;refine nJ M3 36 (.agg #[vS A1 ps.length c1,vS A3 is.length c3,vI xe,vI xw,vI xa,vI xb]) [vS A1 ps.length c1,vS A3 is.length c3,vI xe,vI xw,vI xa,vI xb] fun b4 w5 LW M6=> ?_
 replace M6:=M6.nf;refine aj 1<|aE<|bx<|aQ<|aj 1<|bq (ak b1 2) _ (ae (M6.get 0 rfl) rfl)<|aj 1<|bq (ak b4 2) _ (ae (M6.get 1 rfl) rfl)<|gC (xe !=xe) fun B7 wv=> ?_
 obtain rfl:B7=false:=by have bW:¬((xe:Int)≠xe):=oM;first|exact wv.trans (B2 bW)|exact wv.trans (Cm bW)|exact wv.trans (Js.2 bW)|exact wv.trans (dj.2 bW)|exact wv.trans (lS.2 (fun e=>bW (Js.1 e)))|exact wv.trans (lS.2 (fun e=>bW (dj.1 e)))
 clear wv;refine aj 2<|bq (ak b1 3) _ (ae (M6.get 0 rfl) rfl)<|aj 1<|bq (ak b4 3) _ (ae (M6.get 1 rfl) rfl)<|dX [2,3,14,16,18]<|gC (xw !=xw) fun B8 Gv=> ?_
 obtain rfl:B8=false:=by have bW:¬((xw:Int)≠xw):=oM;first|exact Gv.trans (B2 bW)|exact Gv.trans (Cm bW)|exact Gv.trans (Js.2 bW)|exact Gv.trans (dj.2 bW)|exact Gv.trans (lS.2 (fun e=>bW (Js.1 e)))|exact Gv.trans (lS.2 (fun e=>bW (dj.1 e)))
 clear Gv;refine aj 3<|bq (ak b1 4) _ (ae (M6.get 0 rfl) rfl)<|aj 1<|bq (ak b4 4) _ (ae (M6.get 1 rfl) rfl)<|gC (xa !=xa) fun B9 xT=> ?_
 obtain rfl:B9=false:=by have bW:¬((xa:Int)≠xa):=oM;first|exact xT.trans (B2 bW)|exact xT.trans (Cm bW)|exact xT.trans (Js.2 bW)|exact xT.trans (dj.2 bW)|exact xT.trans (lS.2 (fun e=>bW (Js.1 e)))|exact xT.trans (lS.2 (fun e=>bW (dj.1 e)))
 clear xT;refine aj 3<|bq (ak b1 5) _ (ae (M6.get 0 rfl) rfl)<|aj 1<|bq (ak b4 5) _ (ae (M6.get 1 rfl) rfl)<|gC (xb !=xb) fun kf nN=> ?_
 obtain rfl:kf=false:=by have bW:¬((xb:Int)≠xb):=oM;first|exact nN.trans (B2 bW)|exact nN.trans (Cm bW)|exact nN.trans (Js.2 bW)|exact nN.trans (dj.2 bW)|exact nN.trans (lS.2 (fun e=>bW (Js.1 e)))|exact nN.trans (lS.2 (fun e=>bW (dj.1 e)))
 clear nN;refine aj 3<|bq (aZ b1) _ (ae (M6.get 0 rfl) rfl)<|dX [2,3,35,37]<|aj 2<|bq (aZ b4) _ (ae (M6.get 1 rfl) rfl)<|aj 1<|gC ((qs.length:Int) !=(ps.length:Int)) fun B11 Qbe=> ?_
 obtain rfl:B11=false:=by have bW:¬((qs.length:Int)≠(ps.length:Int)):=oM;first|exact Qbe.trans (B2 bW)|exact Qbe.trans (Cm bW)|exact Qbe.trans (Js.2 bW)|exact Qbe.trans (dj.2 bW)|exact Qbe.trans (lS.2 (fun e=>bW (Js.1 e)))|exact Qbe.trans (lS.2 (fun e=>bW (dj.1 e)))
 clear Qbe;refine aj 3<|bq (ak b1 1) _ (ae (M6.get 0 rfl) rfl)<|aj 2<|bq (ak b4 1) _ (ae (M6.get 1 rfl) rfl)<|aj 1<|gC ((us.length:Int) !=(is.length:Int)) fun vx qO=> ?_
 obtain rfl:vx=false:=by have bW:¬((us.length:Int)≠(is.length:Int)):=oM;first|exact qO.trans (B2 bW)|exact qO.trans (Cm bW)|exact qO.trans (Js.2 bW)|exact qO.trans (dj.2 bW)|exact qO.trans (lS.2 (fun e=>bW (Js.1 e)))|exact qO.trans (lS.2 (fun e=>bW (dj.1 e)))
 clear qO;refine aj 1<|aE<|fT<|cg<|bx<|bC<|cK 0 ?_;intro aC fr;refine gT (fun n_ a_ w_=>∃(j:Nat),n_=qs.length-j∧Fr a_ 140 [(2,pT b1 0),(3,pT b4 0),(5,nV j)]∧Mem bK w w_ [.au b1 36 [vS pA qs.length pc,vS iA us.length ic,vI xe,vI xw,vI xa,vI xb],.au b4 36 [vS A1 ps.length c1,vS A3 is.length c3,vI xe,vI xw,vI xa,vI xb]]∧(j≤qs.length)) (n:=_) ⟨0,rfl,fr.kp [2,3,5],M6,oM⟩ ?_;clear fr aC M6;rintro n aC Ty ⟨j,rfl,fr,lQ,hj⟩;revert aC;refine bx<|aQ<|aj 2<|bq (aZ b1) _ (ae (lQ.get 0 rfl) rfl)<|aj 2<|aE<|jg ((j:Int)<(qs.length:Int)) (fun wa=> ?_) (fun wa=> ?_);refine cg<|bx<|cK 1<|bx ?_;obtain⟨p,ub⟩:=bu (l:=qs) (i:=j) oM;obtain⟨qA,qc,hqx⟩:=Qqt UN ub;have JY:=gx.ah p (Qcs ub);obtain⟨QeB,rfl⟩:=qw (lQ.ro (hA.ah hx)) (i:=j) (by show(qs.map bI.cells)[j]?=_;rw[List.getElem?_map,ub];rfl);obtain⟨sG,rfl⟩:=qw (lQ.ro (hA2.ah hy)) (i:=j) (by show(ps.map bI.cells)[j]?=_;rw[List.getElem?_map,hqx];rfl);obtain⟨zQ,lf⟩:∃B:Bool,B=(p.dst !=p.dst):=⟨_,rfl⟩;obtain rfl:zQ=false:=by have bW:¬((p.dst:Int)≠p.dst):=oM;first|exact lf.trans (B2 bW)|exact lf.trans (Cm bW)|exact lf.trans (Js.2 bW)|exact lf.trans (dj.2 bW)|exact lf.trans (lS.2 (fun e=>bW (Js.1 e)))|exact lf.trans (lS.2 (fun e=>bW (dj.1 e)))
 refine dX [2,3,5] ?_;intro aC fr;refine Yg 26 (bL [eR b1 0,eS (some QeB) qs.length pc,.bG (nV j),eA QeB (j:Int) 2,eA QeB (j:Int) 2,eI p.dst,eR b4 0,eS (some sG) ps.length c1,.bG (nV j),eA sG (j:Int) 2,eA sG (j:Int) 2,eI p.dst,eB false,eB false,eR b1 0,eS (some QeB) qs.length pc,.bG (nV j),eA QeB (j:Int) 2,eP ((aN QeB (j:Int) 2).add 1),eS p.A p.args.length p.c,eR b4 0,eS (some sG) ps.length c1,.bG (nV j),eA sG (j:Int) 2,eP ((aN sG (j:Int) 2).add 1),eS qA p.args.length qc]) fr (rY (gE (gE lz dP (dL (aZ b1) _ fun w_ hK=>(ae ((lQ.aD hK).get 0 rfl) rfl)) dP (dI QeB qs.length 2 (j:Int)) dP (dL (aN QeB (j:Int) 2) _ fun w_ hK=>(e8 (cs:=p.cells) ((lQ.aD hK).ro (hA.ah hx)) rfl (by show(qs.map bI.cells)[j]?=_;rw[List.getElem?_map,ub];rfl) 0 _ rfl)) dP (dL (aZ b4) _ fun w_ hK=>(ae ((lQ.aD hK).get 1 rfl) rfl)) dP (dI sG ps.length 2 (j:Int)) dP (dL (aN sG (j:Int) 2) _ fun w_ hK=>(e8 (cs:=bI.cells ⟨p.dst,qA,qc,p.args⟩) ((lQ.aD hK).ro (hA2.ah hy)) rfl (by show(ps.map bI.cells)[j]?=_;rw[List.getElem?_map,hqx];rfl) 0 _ rfl))) (dC (p.dst !=p.dst) lf) dP dP (dL (aZ b1) _ fun w_ hK=>(ae ((lQ.aD hK).get 0 rfl) rfl)) dP (dI QeB qs.length 2 (j:Int)) dP (dL ((aN QeB (j:Int) 2).add 1) _ fun w_ hK=>(e8 (cs:=p.cells) ((lQ.aD hK).ro (hA.ah hx)) rfl (by show(qs.map bI.cells)[j]?=_;rw[List.getElem?_map,ub];rfl) 1 _ rfl)) dP (dL (aZ b4) _ fun w_ hK=>(ae ((lQ.aD hK).get 1 rfl) rfl)) dP (dI sG ps.length 2 (j:Int))) dP (dL ((aN sG (j:Int) 2).add 1) _ fun w_ hK=>(e8 (cs:=bI.cells ⟨p.dst,qA,qc,p.args⟩) ((lQ.aD hK).ro (hA2.ah hy)) rfl (by show(ps.map bI.cells)[j]?=_;rw[List.getElem?_map,hqx];rfl) 1 _ rfl))) ?_;intro aC VC vs hK hv fr;revert aC;refine cH [(2,pT b1 0),(3,pT b4 0),(5,nV j),(73,vB false),(79,vS p.A p.args.length p.c),(85,vS qA p.args.length qc)] ?_;have wb:=lQ.aD hK;clear hK hv fr aC lQ;clear vs;refine eY (QfT p.args p.A qA p.c qc VC JY.len ((hA.pK hx ub).at_ wb) ((hA2.pK hy hqx).at_ wb)) ?_;rintro _ UM ⟨rfl,QqP⟩;have zN:=wb.cl QqP;refine aj 2<|aE<|fT<|cg<|dh<|aj 1<|cy ((j:Int)+1)<|aj 1<|aE ?_;intro aC fr;exact⟨qs.length-(j+1),oM,j+1,rfl,fr.kp [2,3,5],zN,oM⟩;refine gq 0<|gr<|bx<|bC<|cK 2 ?_;intro aC fr;refine gT (fun n_ a_ w_=>∃(m:Nat),n_=us.length-m∧Fr a_ 140 [(2,pT b1 0),(3,pT b4 0),(6,nV m)]∧Mem bK w w_ [.au b1 36 [vS pA qs.length pc,vS iA us.length ic,vI xe,vI xw,vI xa,vI xb],.au b4 36 [vS A1 ps.length c1,vS A3 is.length c3,vI xe,vI xw,vI xa,vI xb]]∧(m≤us.length)) (n:=_) ⟨0,rfl,fr.kp [2,3,6],lQ,oM⟩ ?_;clear fr aC lQ;rintro n aC YA ⟨m,rfl,fr,pU,hm⟩;revert aC;refine bx<|aQ<|aj 2<|bq (ak b1 1) _ (ae (pU.get 0 rfl) rfl)<|aj 2<|aE<|jg ((m:Int)<(us.length:Int)) (fun VD=> ?_) (fun VD=> ?_);refine cg<|bx<|cK 3<|bx ?_;obtain⟨i,VE⟩:=bu (l:=us) (i:=m) oM;obtain⟨rA,rc,PR⟩:=Qqu his VE;have hio:=gx.insts i (Qcs VE);obtain⟨nj,rfl⟩:=qw (pU.ro (hA.insts hx)) (i:=m) (by show(us.map aO.cells)[m]?=_;rw[List.getElem?_map,VE];rfl);obtain⟨yt,rfl⟩:=qw (pU.ro (hA2.insts hy)) (i:=m) (by show(is.map aO.cells)[m]?=_;rw[List.getElem?_map,PR];rfl);refine dX [2,3,6] ?_;intro aC fr;refine zK (bL [eR b1 1,eS (some nj) us.length ic,.bG (nV m),eA nj (m:Int) 5,.bG (iG i),eR b4 1,eS (some yt) is.length c3,.bG (nV m),eA yt (m:Int) 5,.bG (.agg #[vI i.op,vI i.dst,vI i.n,vT i.name,vS rA i.args.length rc]),Spec.free,Spec.free,.bG undef,.bG undef]) (fun ls vs w_=>match ls 13 with|true=>(∃(O6:Nat) (O8:Nat),vs 10=(pT O6 0)∧vs 11=(pT O8 0)∧Mem bK w w_ [.au b1 36 [vS pA qs.length pc,vS (some nj) us.length ic,vI xe,vI xw,vI xa,vI xb],.au b4 36 [vS A1 ps.length c1,vS (some yt) is.length c3,vI xe,vI xw,vI xa,vI xb],.au O6 39 (iV i),.au O8 39 [vI i.op,vI i.dst,vI i.n,vT i.name,vS rA i.args.length rc]])|false=>(match ls 12 with|true=>(∃(O6:Nat) (O8:Nat),vs 10=(pT O6 0)∧vs 11=(pT O8 0)∧Mem bK w w_ [.au b1 36 [vS pA qs.length pc,vS (some nj) us.length ic,vI xe,vI xw,vI xa,vI xb],.au b4 36 [vS A1 ps.length c1,vS (some yt) is.length c3,vI xe,vI xw,vI xa,vI xb],.au O6 39 (iV i),.au O8 39 [vI 0,vI 0,vI 0,vT ⟨#[]⟩,aq]])|false=>(∃(O6:Nat) (O8:Nat),(ls 10=true→vs 10=(pT O6 0))∧(ls 11=true→vs 11=(pT O8 0))∧Mem bK w w_ ([.au b1 36 [vS pA qs.length pc,vS (some nj) us.length ic,vI xe,vI xw,vI xa,vI xb],.au b4 36 [vS A1 ps.length c1,vS (some yt) is.length c3,vI xe,vI xw,vI xa,vI xb]]++gN [(ls 10,.au O6 39 [vI 0,vI 0,vI 0,vT ⟨#[]⟩,aq]),(ls 11,.au O8 39 [vI 0,vI 0,vI 0,vT ⟨#[]⟩,aq])])))) fr (oK (.bG (.bG (.bG (.bG (.bG (.bG (.bG (.bG (.bG (.bG (.free (.free (.bG (.bG .nil))))))))))))))) ⟨0,0,fun h=>Bool.noConfusion h,fun h=>Bool.noConfusion h,pU.aD (Mem.drew _)⟩ (rY (gE lz Qp5 (lL (ak b1 1) (vS (some nj) us.length ic) (fun _ _ _ _ h=>h) ?_) Qp5 (K6 nj us.length 5 (m:Int) fun _ _ _ _ h=>h) ?_ Qp5 (lL (ak b4 1) (vS (some yt) is.length c3) (fun _ _ _ _ h=>h) ?_) Qp5 (K6 yt is.length 5 (m:Int) fun _ _ _ _ h=>h) ?_ ?_ ?_) ?_ ?_) ?_;intro w_ ls vs hJ bp bj hp;have f12:=Qp3 12 14 bj bp;have f13:=Qp3 13 14 bj bp;have aI:=hJ;simp only[f12,f13]at aI;obtain⟨_,_,_,_,aI⟩:=aI;exact(ae (aI.get 0 rfl) rfl);intro dM w_ ls vs bZ hJ bp bj hp hF;refine iW (g0:=none) ?_;replace hF:Fr dM 140 [(99,(vP (aN nj (m:Int) 5)))]:=hF.kp [99];have f12:=Qp3 12 14 bj bp;have f13:=Qp3 13 14 bj bp;have aI:=hJ;simp only[f12,f13]at aI;obtain⟨_,_,_,_,aI⟩:=aI;refine eV (kR:ao _ 0=some (some 100,.load 39 (.tmp 99),39,none)) hF kR kR (k':=1) rfl (ad:=(aN nj (m:Int) 5)) (vs:=(iV i)) kR kR (e8 (cs:=i.cells) (aI.ro (hA.insts hx)) rfl (by show(us.map aO.cells)[m]?=_;rw[List.getElem?_map,VE];rfl)) ?_;intro a2 ea _;refine aJ kR ?_;exact aY (d:=some 100) kR ea rfl hJ;intro w_ ls vs hJ bp bj hp;have f13:=Qp3 13 14 bj bp;have aI:=hJ;simp only[f13]at aI;cases fu:ls 12;simp only[fu]at aI;obtain⟨_,_,_,_,aI⟩:=aI;exact(ae (aI.get 1 rfl) rfl);simp only[fu]at aI;obtain⟨_,_,_,_,aI⟩:=aI;exact(ae (aI.get 1 rfl) rfl);intro dM w_ ls vs bZ hJ bp bj hp hF;refine iW (g0:=none) ?_;replace hF:Fr dM 140 [(104,(vP (aN yt (m:Int) 5)))]:=hF.kp [104];have f13:=Qp3 13 14 bj bp;have aI:=hJ;simp only[f13]at aI;cases fu:ls 12;simp only[fu]at aI;obtain⟨_,_,_,_,aI⟩:=aI;refine eV (kR:ao _ 0=some (some 105,.load 39 (.tmp 104),39,none)) hF kR kR (k':=1) rfl (ad:=(aN yt (m:Int) 5)) (vs:=[vI i.op,vI i.dst,vI i.n,vT i.name,vS rA i.args.length rc]) kR kR (e8 (cs:=aO.cells ⟨i.op,i.dst,i.n,i.name,rA,rc,i.args⟩) (aI.ro (hA2.insts hy)) rfl (by show(is.map aO.cells)[m]?=_;rw[List.getElem?_map,PR];rfl)) ?_;intro a2 ea _;refine aJ kR ?_;exact aY (d:=some 105) kR ea rfl hJ;simp only[fu]at aI;obtain⟨_,_,_,_,aI⟩:=aI;refine eV (kR:ao _ 0=some (some 105,.load 39 (.tmp 104),39,none)) hF kR kR (k':=1) rfl (ad:=(aN yt (m:Int) 5)) (vs:=[vI i.op,vI i.dst,vI i.n,vT i.name,vS rA i.args.length rc]) kR kR (e8 (cs:=aO.cells ⟨i.op,i.dst,i.n,i.name,rA,rc,i.args⟩) (aI.ro (hA2.insts hy)) rfl (by show(is.map aO.cells)[m]?=_;rw[List.getElem?_map,PR];rfl)) ?_;intro a2 ea _;refine aJ kR ?_;exact aY (d:=some 105) kR ea rfl hJ;intro dM w_ ls vs bZ hJ bp bj hp hF;refine iW (g0:=none) ?_;replace hF:Fr dM 140 []:=hF.kp [];have f12:=Qp3 12 14 bj bp;have f13:=Qp3 13 14 bj bp;have f10:ls 10=false:=bp;have aI:=hJ;simp only[f12,f13]at aI;obtain⟨QkQ,Qk3,Qhk,jB,aI⟩:=aI;rw[f10]at aI;refine mL (kR:ao _ 0=some (some 7,.alloc 39,0,none)) hF kR kR (k':=1) rfl (cs:=[vI 0,vI 0,vI 0,vT ⟨#[]⟩,aq]) kR aI ?_;intro Qqh w2 _ _ dY _ a2 ea _;refine aJ kR ?_;refine aY (d:=some 7) kR ea trivial ?_;show match ls 13 with|true=>(∃(O6:Nat) (O8:Nat),((pT Qqh 0):Value)=(pT O6 0)∧vs 11=(pT O8 0)∧Mem bK w w2 [.au b1 36 [vS pA qs.length pc,vS (some nj) us.length ic,vI xe,vI xw,vI xa,vI xb],.au b4 36 [vS A1 ps.length c1,vS (some yt) is.length c3,vI xe,vI xw,vI xa,vI xb],.au O6 39 (iV i),.au O8 39 [vI i.op,vI i.dst,vI i.n,vT i.name,vS rA i.args.length rc]])|false=>(match ls 12 with|true=>(∃(O6:Nat) (O8:Nat),((pT Qqh 0):Value)=(pT O6 0)∧vs 11=(pT O8 0)∧Mem bK w w2 [.au b1 36 [vS pA qs.length pc,vS (some nj) us.length ic,vI xe,vI xw,vI xa,vI xb],.au b4 36 [vS A1 ps.length c1,vS (some yt) is.length c3,vI xe,vI xw,vI xa,vI xb],.au O6 39 (iV i),.au O8 39 [vI 0,vI 0,vI 0,vT ⟨#[]⟩,aq]])|false=>(∃(O6:Nat) (O8:Nat),(true=true→((pT Qqh 0):Value)=(pT O6 0))∧(ls 11=true→vs 11=(pT O8 0))∧Mem bK w w2 ([.au b1 36 [vS pA qs.length pc,vS (some nj) us.length ic,vI xe,vI xw,vI xa,vI xb],.au b4 36 [vS A1 ps.length c1,vS (some yt) is.length c3,vI xe,vI xw,vI xa,vI xb]]++gN [(true,.au O6 39 [vI 0,vI 0,vI 0,vT ⟨#[]⟩,aq]),(ls 11,.au O8 39 [vI 0,vI 0,vI 0,vT ⟨#[]⟩,aq])])))
 rw[f13,f12];exact⟨Qqh,Qk3,fun _=>rfl,jB,dY.group 0 rfl⟩;intro dM w_ ls vs bZ hJ bp bj hp hF;refine iW (g0:=none) ?_;replace hF:Fr dM 140 []:=hF.kp [];have f12:=Qp3 12 14 bj bp;have f13:=Qp3 13 14 bj bp;have f11:ls 11=false:=bp;have aI:=hJ;simp only[f12,f13]at aI;obtain⟨QkQ,Qk3,Qhk,jB,aI⟩:=aI;rw[f11]at aI;refine mL (kR:ao _ 0=some (some 8,.alloc 39,0,none)) hF kR kR (k':=1) rfl (cs:=[vI 0,vI 0,vI 0,vT ⟨#[]⟩,aq]) kR aI ?_;intro Qqi w2 _ _ dY _ a2 ea _;refine aJ kR ?_;refine aY (d:=some 8) kR ea trivial ?_;show match ls 13 with|true=>(∃(O6:Nat) (O8:Nat),vs 10=(pT O6 0)∧((pT Qqi 0):Value)=(pT O8 0)∧Mem bK w w2 [.au b1 36 [vS pA qs.length pc,vS (some nj) us.length ic,vI xe,vI xw,vI xa,vI xb],.au b4 36 [vS A1 ps.length c1,vS (some yt) is.length c3,vI xe,vI xw,vI xa,vI xb],.au O6 39 (iV i),.au O8 39 [vI i.op,vI i.dst,vI i.n,vT i.name,vS rA i.args.length rc]])|false=>(match ls 12 with|true=>(∃(O6:Nat) (O8:Nat),vs 10=(pT O6 0)∧((pT Qqi 0):Value)=(pT O8 0)∧Mem bK w w2 [.au b1 36 [vS pA qs.length pc,vS (some nj) us.length ic,vI xe,vI xw,vI xa,vI xb],.au b4 36 [vS A1 ps.length c1,vS (some yt) is.length c3,vI xe,vI xw,vI xa,vI xb],.au O6 39 (iV i),.au O8 39 [vI 0,vI 0,vI 0,vT ⟨#[]⟩,aq]])|false=>(∃(O6:Nat) (O8:Nat),(ls 10=true→vs 10=(pT O6 0))∧(true=true→((pT Qqi 0):Value)=(pT O8 0))∧Mem bK w w2 ([.au b1 36 [vS pA qs.length pc,vS (some nj) us.length ic,vI xe,vI xw,vI xa,vI xb],.au b4 36 [vS A1 ps.length c1,vS (some yt) is.length c3,vI xe,vI xw,vI xa,vI xb]]++gN [(ls 10,.au O6 39 [vI 0,vI 0,vI 0,vT ⟨#[]⟩,aq]),(true,.au O8 39 [vI 0,vI 0,vI 0,vT ⟨#[]⟩,aq])])))
 rw[f13,f12];exact⟨QkQ,Qqi,Qhk,fun _=>rfl,dY.group 1 rfl⟩;intro dM w_ ls vs bZ hJ bp bj hp hF;refine iW (g0:=none) ?_;replace hF:Fr dM 140 [(7,vs 10),(100,iG i)]:=hF.kp [7,100];have f12:ls 12=false:=bp;have f13:=Qp3 13 14 bj bp;have f10:=Qp8 10 14 bj hp;have f11:=Qp8 11 14 bj hp;have aI:=hJ;simp only[f12,f13]at aI;obtain⟨QkQ,Qk3,Qhk,jB,aI⟩:=aI;replace Qhk:=Qhk f10;try rw[Qhk]at hF
 replace jB:=jB f11;try rw[jB]at hF
 rw[f10,f11]at aI;change Mem bK w w_ [.au b1 36 [vS pA qs.length pc,vS (some nj) us.length ic,vI xe,vI xw,vI xa,vI xb],.au b4 36 [vS A1 ps.length c1,vS (some yt) is.length c3,vI xe,vI xw,vI xa,vI xb],.au QkQ 39 [vI 0,vI 0,vI 0,vT ⟨#[]⟩,aq],.au Qk3 39 [vI 0,vI 0,vI 0,vT ⟨#[]⟩,aq]]at aI;refine fo (kR:ao _ 0=some (none,.store 39 (.tmp 7) (.tmp 100),0,none)) hF kR kR (k':=1) rfl (b:=QkQ) (t0:=39) (vs:=(iV i)) (cs:=[vI 0,vI 0,vI 0,vT ⟨#[]⟩,aq]) kR kR kR (by simp only[Qcx,QjD,Qck];intro v hv;rcases hv with rfl|rfl|rfl|rfl|rfl<;>first|rfl|assumption) aI 2 rfl rfl ?_;intro w2 dY _ a2 ea _;refine aJ kR ?_;refine aY (d:=none) kR ea rfl ?_;show match ls 13 with|true=>_|false=>(∃(O6:Nat) (O8:Nat),_)
 rw[f13];exact⟨QkQ,Qk3,Qhk,jB,dY⟩;intro dM w_ ls vs bZ hJ bp bj hp hF;refine iW (g0:=none) ?_;replace hF:Fr dM 140 [(8,vs 11),(105,(.agg #[vI i.op,vI i.dst,vI i.n,vT i.name,vS rA i.args.length rc]))]:=hF.kp [8,105];have f12:=Qp8 12 14 bj hp;have f13:ls 13=false:=bp;have f10:=Qp8 10 14 bj hp;have f11:=Qp8 11 14 bj hp;have aI:=hJ;simp only[f12,f13]at aI;obtain⟨QkQ,Qk3,Qhk,jB,aI⟩:=aI;try rw[Qhk]at hF
 try rw[jB]at hF
 refine fo (kR:ao _ 0=some (none,.store 39 (.tmp 8) (.tmp 105),0,none)) hF kR kR (k':=1) rfl (b:=Qk3) (t0:=39) (vs:=[vI i.op,vI i.dst,vI i.n,vT i.name,vS rA i.args.length rc]) (cs:=[vI 0,vI 0,vI 0,vT ⟨#[]⟩,aq]) kR kR kR (by simp only[Qcx,QjD,Qck];intro v hv;rcases hv with rfl|rfl|rfl|rfl|rfl<;>first|rfl|assumption) aI 3 rfl rfl ?_;intro w2 dY _ a2 ea _;refine aJ kR ?_;refine aY (d:=none) kR ea rfl ?_;show∃(O6:Nat) (O8:Nat),_;exact⟨QkQ,Qk3,Qhk,jB,dY⟩;intro aC TF ls vs cA oI hv fr;simp only[show ls 13=true from cA 13 dQ]at oI;revert aC;refine cH [(2,pT b1 0),(3,pT b4 0),(6,nV m),(7,vs 10),(8,vs 11)] ?_;obtain⟨O6,O8,Qhk,jB,oI⟩:=oI;try rw[Qhk]
 try rw[jB]
 clear Qhk jB;clear cA hv fr aC pU;clear vs ls;refine aQ<|aj 1<|bq (aZ O6) _ (ae (oI.get 2 rfl) rfl)<|aj 1<|bq (aZ O8) _ (ae (oI.get 3 rfl) rfl)<|gC (i.op !=i.op) fun Gx vy=> ?_
 obtain rfl:Gx=false:=by have bW:¬((i.op:Int)≠i.op):=oM;first|exact vy.trans (B2 bW)|exact vy.trans (Cm bW)|exact vy.trans (Js.2 bW)|exact vy.trans (dj.2 bW)|exact vy.trans (lS.2 (fun e=>bW (Js.1 e)))|exact vy.trans (lS.2 (fun e=>bW (dj.1 e)))
 clear vy;refine aj 2<|bq (ak O6 1) _ (ae (oI.get 2 rfl) rfl)<|aj 1<|bq (ak O8 1) _ (ae (oI.get 3 rfl) rfl)<|gC (i.dst !=i.dst) fun B51 Qmf=> ?_
 obtain rfl:B51=false:=by have bW:¬((i.dst:Int)≠i.dst):=oM;first|exact Qmf.trans (B2 bW)|exact Qmf.trans (Cm bW)|exact Qmf.trans (Js.2 bW)|exact Qmf.trans (dj.2 bW)|exact Qmf.trans (lS.2 (fun e=>bW (Js.1 e)))|exact Qmf.trans (lS.2 (fun e=>bW (dj.1 e)))
 clear Qmf;refine aj 3<|bq (ak O6 2) _ (ae (oI.get 2 rfl) rfl)<|dX [2,3,6,7,8,118,120]<|aj 1<|bq (ak O8 2) _ (ae (oI.get 3 rfl) rfl)<|gC (i.n !=i.n) fun PS vz=> ?_
 obtain rfl:PS=false:=by have bW:¬((i.n:Int)≠i.n):=oM;first|exact vz.trans (B2 bW)|exact vz.trans (Cm bW)|exact vz.trans (Js.2 bW)|exact vz.trans (dj.2 bW)|exact vz.trans (lS.2 (fun e=>bW (Js.1 e)))|exact vz.trans (lS.2 (fun e=>bW (dj.1 e)))
 clear vz;refine aj 3<|bq (ak O6 3) _ (ae (oI.get 2 rfl) rfl)<|aj 1<|bq (ak O8 3) _ (ae (oI.get 3 rfl) rfl)<|aj 3 ?_;obtain⟨B53,QjY⟩:∃B:Bool,B=(!((i.name:cV).toList==(i.name:cV).toList)):=⟨_,rfl⟩;refine cH [(2,pT b1 0),(3,pT b4 0),(6,nV m),(7,pT O6 0),(8,pT O8 0),(132,(vB (!((i.name:cV).toList==(i.name:cV).toList))))] ?_;rw[←QjY];have Qqj:B53=true↔(¬((i.name).toList=(i.name).toList)):=by rw[QjY];simp only[jy,Js]
 clear QjY;intro aC fr;refine cE 1 28 [133] fr (news:=[(133,cond (!B53) (pT O6 4) undef)]) (by cases B53<;>kernel_rfl) ?_;intro aC fr;refine aw (B:=(!B53)) (d:=(some 134)) (vS i.A i.args.length i.c) fr (by cases B53<;>kernel_rfl) (fun hB hh=> ?_) ?_;cases B53<;>first|(exact absurd hB dQ)|skip
 have kK:¬(¬((i.name).toList=(i.name).toList)):=jb Qqj.2;exact bf (some 134) (ak O6 4) fr kR (vS i.A i.args.length i.c) (ae (oI.get 2 rfl) rfl) hh;intro aC fr;refine cE 1 30 [135] fr (news:=[(135,cond (!B53) (pT O8 4) undef)]) (by cases B53<;>kernel_rfl) ?_;intro aC fr;refine aw (B:=(!B53)) (d:=(some 136)) (vS rA i.args.length rc) fr (by cases B53<;>kernel_rfl) (fun hB hh=> ?_) ?_;cases B53<;>first|(exact absurd hB dQ)|skip
 have kK:¬(¬((i.name).toList=(i.name).toList)):=jb Qqj.2;exact bf (some 136) (ak O8 4) fr kR (vS rA i.args.length rc) (ae (oI.get 3 rfl) rfl) hh;intro aC fr;cases B53;have kK:¬(¬((i.name).toList=(i.name).toList)):=jb Qqj.2;revert aC;refine eY (QfT i.args i.A rA i.c rc TF hio.len ((hA.inst hx VE).at_ oI) ((hA2.inst hy PR).at_ oI)) ?_;rintro _ I7 ⟨rfl,QqQ⟩;have Cv:=oI.cl QqQ;refine aj 2<|aE<|fT<|cg<|dh<|aj 1<|cy ((m:Int)+1)<|aj 1<|aE ?_;intro aC fr;exact⟨us.length-(m+1),oM,m+1,rfl,fr.kp [2,3,6],(Cv.tk 2),oM⟩;have kK:(¬((i.name).toList=(i.name).toList)):=Qqj.1 rfl;exact absurd kK sI;refine gq 2<|gr<|bC<|an<|cQ (vB true) ?_;have DD:=pU.od [] 0;exact⟨rfl,DD⟩
theorem SI(nm:cV)(wk:Bool)(pa va:Int)(A:aX)(c:Nat)(fs:List ay)(gs:List ay)(A2:aX)(c2:Nat)(w:World)(hN:fs.length≤1000)(gx:pL fs)(Vh:ec fs gs)(hA:RO bK w (.fn A fs))(hA2:RO bK w (.fn A2 gs)):Calls Try.prog 24 #[fA nm wk pa va A c fs,(.agg #[vT nm,vB wk,vI pa,vI va,vS A2 ((af gs).length) c2])] w (fE fun v w'=>v=vB true∧Mem bK w w' []):=by
 have wA:=bE fs;have hB:=hA.bs;have QqR:=bE gs;have hB2:=hA2.bs;have MK:=Vh.len;refine hZ 60 [fA nm wk pa va A c fs,(.agg #[vT nm,vB wk,vI pa,vI va,vS A2 ((af gs).length) c2])] Try.func24 ?_;have hM:=Mem.init w;refine aQ<|nJ hM 24 (fA nm wk pa va A c fs) (fV nm wk pa va A c fs) fun b1 w2 kH M3=> ?_
 replace M3:=M3.nf;clear hM;refine nJ M3 24 (.agg #[vT nm,vB wk,vI pa,vI va,vS A2 ((af gs).length) c2]) (Qp6 nm wk pa va A2 ((af gs).length) c2) fun b4 w5 LW M6=> ?_
 replace M6:=M6.nf;refine aj 1<|aE<|bx<|aQ<|aj 1<|bq (aZ b1) _ (ae (M6.get 0 rfl) rfl)<|aj 1<|bq (aZ b4) _ (ae (M6.get 1 rfl) rfl)<|aj 2 ?_;obtain⟨B7,wv⟩:∃B:Bool,B=(!((nm:cV).toList==(nm:cV).toList)):=⟨_,rfl⟩;refine cH [(2,pT b1 0),(3,pT b4 0),(11,(vB (!((nm:cV).toList==(nm:cV).toList))))] ?_;rw[←wv];have RL:B7=true↔(¬((nm).toList=(nm).toList)):=by rw[wv];simp only[jy,Js]
 clear wv;intro aC fr;refine cE 1 7 [12] fr (news:=[(12,cond (!B7) (pT b1 1) undef)]) (by cases B7<;>kernel_rfl) ?_;intro aC fr;refine aw (B:=(!B7)) (d:=(some 13)) (vB wk) fr (by cases B7<;>kernel_rfl) (fun hB hh=> ?_) ?_;cases B7<;>first|(exact absurd hB dQ)|skip
 have c7:¬(¬((nm).toList=(nm).toList)):=jb RL.2;exact bf (some 13) (ak b1 1) fr kR (vB wk) (ae (M6.get 0 rfl) rfl) hh;intro aC fr;refine cE 1 9 [14] fr (news:=[(14,cond (!B7) (pT b4 1) undef)]) (by cases B7<;>kernel_rfl) ?_;intro aC fr;refine aw (B:=(!B7)) (d:=(some 15)) (vB wk) fr (by cases B7<;>kernel_rfl) (fun hB hh=> ?_) ?_;cases B7<;>first|(exact absurd hB dQ)|skip
 have c7:¬(¬((nm).toList=(nm).toList)):=jb RL.2;exact bf (some 15) (ak b4 1) fr kR (vB wk) (ae (M6.get 1 rfl) rfl) hh;intro aC fr;refine cE 3 13 [17,18] fr (news:=[(17,(vB (B7||(!(wk==wk))))),(18,(vB (B7||(!(wk==wk)))))]) (by cases B7<;>kernel_rfl) ?_;intro aC fr;obtain⟨B20,QnS⟩:∃B:Bool,B=(B7||(!(wk==wk))):=⟨_,rfl⟩;revert aC;refine cH [(2,pT b1 0),(3,pT b4 0),(18,(vB (B7||(!(wk==wk)))))] ?_;rw[←QnS];have Qo5:B20=true↔((¬((nm).toList=(nm).toList))∨(¬(wk=wk))):=by rw[QnS];simp only[QiZ,jy,Js,RL]
 clear QnS;intro aC fr;refine cE 1 14 [19] fr (news:=[(19,cond (!B20) (pT b1 2) undef)]) (by cases B20<;>kernel_rfl) ?_;intro aC fr;refine aw (B:=(!B20)) (d:=(some 20)) (vI pa) fr (by cases B20<;>kernel_rfl) (fun hB hh=> ?_) ?_;cases B20<;>first|(exact absurd hB dQ)|skip
 have zO:¬((¬((nm).toList=(nm).toList))∨(¬(wk=wk))):=jb Qo5.2;exact bf (some 20) (ak b1 2) fr kR (vI pa) (ae (M6.get 0 rfl) rfl) hh;intro aC fr;refine cE 1 16 [21] fr (news:=[(21,cond (!B20) (pT b4 2) undef)]) (by cases B20<;>kernel_rfl) ?_;intro aC fr;refine aw (B:=(!B20)) (d:=(some 22)) (vI pa) fr (by cases B20<;>kernel_rfl) (fun hB hh=> ?_) ?_;cases B20<;>first|(exact absurd hB dQ)|skip
 have zO:¬((¬((nm).toList=(nm).toList))∨(¬(wk=wk))):=jb Qo5.2;exact bf (some 22) (ak b4 2) fr kR (vI pa) (ae (M6.get 1 rfl) rfl) hh;intro aC fr;cases B20;have zO:¬((¬((nm).toList=(nm).toList))∨(¬(wk=wk))):=jb Qo5.2;revert aC;refine gC (pa !=pa) fun vC qP=> ?_
 obtain rfl:vC=false:=by have bW:¬((pa:Int)≠pa):=oM;first|exact qP.trans (B2 bW)|exact qP.trans (Cm bW)|exact qP.trans (Js.2 bW)|exact qP.trans (dj.2 bW)|exact qP.trans (lS.2 (fun e=>bW (Js.1 e)))|exact qP.trans (lS.2 (fun e=>bW (dj.1 e)))
 clear qP;refine aj 3<|bq (ak b1 3) _ (ae (M6.get 0 rfl) rfl)<|aj 1<|bq (ak b4 3) _ (ae (M6.get 1 rfl) rfl)<|gC (va !=va) fun YL vD=> ?_
 obtain rfl:YL=false:=by have bW:¬((va:Int)≠va):=oM;first|exact vD.trans (B2 bW)|exact vD.trans (Cm bW)|exact vD.trans (Js.2 bW)|exact vD.trans (dj.2 bW)|exact vD.trans (lS.2 (fun e=>bW (Js.1 e)))|exact vD.trans (lS.2 (fun e=>bW (dj.1 e)))
 clear vD;refine aj 3<|bq (ak b1 4) _ (ae (M6.get 0 rfl) rfl)<|dX [2,3,32,34]<|aj 2<|bq (ak b4 4) _ (ae (M6.get 1 rfl) rfl)<|aj 1<|gC (((af fs).length:Int) !=((af gs).length:Int)) fun bN qQ=> ?_
 obtain rfl:bN=false:=by have bW:¬((((af fs).length:Int):Int)≠((af gs).length:Int)):=oM;first|exact qQ.trans (B2 bW)|exact qQ.trans (Cm bW)|exact qQ.trans (Js.2 bW)|exact qQ.trans (dj.2 bW)|exact qQ.trans (lS.2 (fun e=>bW (Js.1 e)))|exact qQ.trans (lS.2 (fun e=>bW (dj.1 e)))
 clear qQ;refine aj 1<|aE<|fT<|cg<|bx<|bC<|cK 0 ?_;intro aC fr;refine gT (fun n_ a_ w_=>∃(k:Nat),n_=fs.length-k∧Fr a_ 60 [(2,pT b1 0),(3,pT b4 0),(5,nV k)]∧Mem bK w w_ [.au b1 24 (fV nm wk pa va A c fs),.au b4 24 (Qp6 nm wk pa va A2 ((af gs).length) c2)]∧(k≤fs.length)) (n:=_) ⟨0,rfl,fr.kp [2,3,5],M6,oM⟩ ?_;clear fr aC M6;rintro n aC LU ⟨k,rfl,fr,me,hk⟩;revert aC;refine bx<|aQ<|aj 2<|bq (ak b1 4) _ (ae (me.get 0 rfl) rfl)<|aj 2<|aE<|jg ((k:Int)<((af fs).length:Int)) (fun VF=> ?_) (fun VF=> ?_);refine cg<|bx<|cK 1<|bx ?_;obtain⟨x,hx⟩:=bu (l:=fs) (i:=k) oM;obtain⟨A1,c1,ps,A3,c3,is,hy,UN,his⟩:=QoW Vh hx;have hxo:=gx x (Qcs hx);obtain⟨yt,rfl⟩:=dN (me.ro hB) (gv hx);obtain⟨Qqk,rfl⟩:=dN (me.ro hB2) (gv hy);refine dX [2,3,5] ?_;intro aC fr;refine Yg 10 (bL [eR b1 4,eS (some yt) ((af fs).length) c,.bG (nV k),eA yt (k:Int) 6,.bG (xA x),eR b4 4,eS (some Qqk) ((af gs).length) c2,.bG (nV k),eA Qqk (k:Int) 6,.bG (.agg #[vS A1 ps.length c1,vS A3 is.length c3,vI x.e,vI x.v,vI x.a,vI x.b])]) fr (rY (tZ lz dP (dL (ak b1 4) _ fun w_ hK=>(ae ((me.aD hK).get 0 rfl) rfl)) dP (dI yt ((af fs).length) 6 (k:Int)) (dS (aN yt (k:Int) 6) (xV x) fun w_ hK=>(cZ ((me.aD hK).ro hB) rfl hx)) dP (dL (ak b4 4) _ fun w_ hK=>(ae ((me.aD hK).get 1 rfl) rfl)) dP) (dI Qqk ((af gs).length) 6 (k:Int)) (dS (aN Qqk (k:Int) 6) [vS A1 ps.length c1,vS A3 is.length c3,vI x.e,vI x.v,vI x.a,vI x.b] fun w_ hK=>(cZ ((me.aD hK).ro hB2) rfl hy))) ?_;intro aC Vf vs hK hv fr;revert aC;refine cH [(2,pT b1 0),(3,pT b4 0),(5,nV k),(52,xA x),(57,(.agg #[vS A1 ps.length c1,vS A3 is.length c3,vI x.e,vI x.v,vI x.a,vI x.b]))] ?_;have ER:=me.aD hK;clear hK hv fr aC me;clear vs;refine eY (vs:=#[xA x,(.agg #[vS A1 ps.length c1,vS A3 is.length c3,vI x.e,vI x.v,vI x.a,vI x.b])]) (Qj4 fs gs _ _ k x.pA x.pc x.ah x.iA x.ic x.insts x.e x.v x.a x.b A1 c1 ps A3 c3 is Vf hxo (hA.at_ ER) hx (hA2.at_ ER) hy UN his) ?_;rintro _ bO ⟨rfl,QqS⟩;have ES:=ER.cl QqS;refine aj 1<|aE<|fT<|cg<|dh<|aj 1<|cy ((k:Int)+1)<|aj 1<|aE ?_;intro aC fr;exact⟨fs.length-(k+1),oM,k+1,rfl,fr.kp [2,3,5],ES,oM⟩;refine gq 0<|gr<|bC<|an<|cQ (vB true) ?_;have L4:=me.od [] 0;exact⟨rfl,L4⟩;have zO:((¬((nm).toList=(nm).toList))∨(¬(wk=wk))):=Qo5.1 rfl;exact absurd zO sI
end Go.Proofs.Ytejbeeaomokjpaa
namespace Go.Mor
open Go.RowKit
section
variable {T : Int → List Int}
theorem EL{U:Int→ar}(h:∀x t,t∈U x→t∈T x){x:Int}(hr:Reach U x):Reach T x:=by
 induction hr with
 |zero=>exact .zero
 |step _ ht ih=>exact .step ih (h _ _ ht)
theorem Qmi{a b x:Int}(hb:b≠0)(h:Reach (Cq T a) x):Reach (Cq T b) x∨Reach (Cq T a) b:=by
 induction h with
 |zero=>exact .inl .zero
 | @step x t hx ht ih=>
  rcases ih with ih|ih
  ·by_cases e:t=b
   ·exact .inr (e▸ .step hx ht)
   ·exact .inl (.step ih (im.2 ⟨(im.1 ht).1,e⟩))
  ·exact .inr ih
theorem Dm.trans{a b c:Int}(h1:Dm T a b)(h2:Dm T b c):Dm T a c:=by
 rintro⟨ha,hr⟩;by_cases hb:b=0
 ·subst hb;exact ha (Dm.yT h1)
 ·rcases Qmi hb hr with h|h
  ·exact h2 ⟨hb,h⟩
  ·exact h1 ⟨ha,h⟩
theorem QjI{b x:Int}(hb:b≠0)(h:Reach (Cq T b) x):x≠b:=by
 cases h with
 |zero=>exact fun e=>hb e.symm
 |step _ ht=>exact(im.1 ht).2
theorem Dm.Qns{a b:Int}(hr:Reach T b)(h1:Dm T a b)(h2:Dm T b a):a=b:=by
 by_cases ha:a=0
 ·subst ha;exact(Dm.yT h2).symm
 by_cases hb:b=0
 ·subst hb;exact Dm.yT h1
 by_cases e:a=b
 ·exact e
 exfalso;have key:∀x,Reach T x→Reach (Cq (Cq T a) b) x∨Reach (Cq T b) a∨Reach (Cq T a) b:=by
  intro x hx;induction hx with
  |zero=>exact .inl .zero
  | @step x t hx ht ih=>
   rcases ih with ih|ih
   ·by_cases ea:t=a
    ·subst ea;refine .inr (.inl (.step (EL (fun x s hs=> ?_) ih) (im.2 ⟨ht,e⟩)));obtain⟨q1,q2⟩:=im.1 hs;exact im.2 ⟨(im.1 q1).1,q2⟩
    ·by_cases eb:t=b
     ·subst eb;refine .inr (.inr (.step (EL (fun x s hs=>(im.1 hs).1) ih) (im.2 ⟨ht,fun e2=>e e2.symm⟩)))
     ·exact .inl (.step ih (im.2 ⟨im.2 ⟨ht,ea⟩,eb⟩))
   ·exact .inr ih
 rcases key b hr with h|h|h
 ·exact QjI hb h rfl
 ·exact h2 ⟨hb,h⟩
 ·exact h1 ⟨ha,h⟩
end
section
variable {fs : List ay} {nm : ByteArray} {pa va : Int}
abbrev Av(pa va:Int)(fs:List ay)(v b q:Int):Prop:=bX (Dm (tg (af fs))) pa va (bF fs) v b q
theorem Rn(h:j9 nm pa va fs){b:Int}(h0:0≤b)(h1:b<fs.length):Reach (tg (af fs)) b:=by
 have h2:=mv (bs:=af fs);rw[bE]at h2;have:=jO.1 (h2.1 h.all b.toNat oM);rwa [QiT h0]at this
def link(σ:Int→Int)(d o:Int):Int→Int:=fun v=>if σ v=d then o else σ v
end
end Go.Mor
namespace Go.Mor
open Go.RowKit
def Pb(x:ay):Prop:=x.e=1∨(x.e=2∧0≤x.v)
instance (x : ay) : Decidable (Pb x) := by unfold Pb; infer_instance
end Go.Mor
namespace Go.Mor
open Go.RowKit
section
variable {P : Program} {t : TypeId} {f0 f1 f2 f3 f4 : Field}
abbrev K5:=Int×Int×cV×Int×Int
end
end Go.Mor
namespace Go.Mor
open Go.RowKit
abbrev yu:=K5
section
variable {fs : List ay} {nm : ByteArray} {pa va : Int} {σ : Int → Int} {k j : Nat} {x : ay} {vg : List (yu × Int)}
theorem uh{α β:Type}(f:β→α→β)(a:β){l:List α}{j:Nat}{y:α}(hy:l[j]?=some y):(l.take (j+1)).foldl f a=f ((l.take j).foldl f a) y:=by
 obtain⟨hj,he⟩:=List.getElem?_eq_some_iff.1 hy;rw[QjK hj,Qf3,he];rfl
end
end Go.Mor
namespace Go.Mor
open Go.RowKit
inductive Ch(to:ar):Int→Int→Nat→Prop
 |zero {v:Int}:0≤v→to[v.toNat]?=some v→Ch to v v 0
 |step {v u r:Int} {k:Nat}:0≤v→to[v.toNat]?=some u→u≠v→Ch to u r k→Ch to v r (k+1)
section
variable {to : List Int} {u v r s d o : Int} {k m : Nat}
theorem Ch.get(h:Ch to v r k):0≤v∧∃u,to[v.toNat]?=some u∧((u=v∧r=v∧k=0)∨(u≠v∧∃j,k=j+1∧Ch to u r j)):=by
 cases h with
 |zero h0 hv=>exact⟨h0,v,hv,.inl ⟨rfl,rfl,rfl⟩⟩
 | @step _ u _ j h0 hv cU hc=>exact⟨h0,u,hv,.inr ⟨cU,j,rfl,hc⟩⟩
theorem Ch.lt(h:Ch to v r k):0≤v∧v<to.length:=by
 obtain⟨h0,u,hu,_⟩:=h.get;have:=(List.getElem?_eq_some_iff.1 hu).1;exact⟨h0,oM⟩
theorem Ch.last(h:Ch to v r k):Ch to r r 0:=by
 induction h with
 |zero h0 hv=>exact .zero h0 hv
 |step _ _ _ _ ih=>exact ih
structure Le(va:Int)(D:Int→Prop)(to:ar)(σ:Int→Int):Prop where
 len:(to.length:Int)=va
 ch:∀v,D v→∃k,Ch to v (σ v) k
 cl:∀v,D v→D (σ v)
variable {va : Int} {D : Int → Prop} {σ : Int → Int}
theorem Le.root(h:Le va D to σ)(hv:D v)(e:σ v=v):Ch to v v 0:=by
 obtain⟨k,hk⟩:=h.ch v hv;rw[e]at hk;exact hk.last
theorem Ch.next(h:Ch to v r k)(hu:to[v.toNat]?=some u)(cU:u≠v):∃j,k=j+1∧Ch to u r j:=by
 obtain⟨_,u',hu',h2⟩:=h.get;rw[hu]at hu';injection hu' with hu';subst hu';rcases h2 with⟨e,_,_⟩|⟨_,j,e,hc⟩
 ·exact absurd e cU
 ·exact⟨j,e,hc⟩
theorem Ch.stay(h:Ch to v r k)(hu:to[v.toNat]?=some v):r=v:=by
 obtain⟨_,u',hu',h2⟩:=h.get;rw[hu]at hu';injection hu' with hu';subst hu';rcases h2 with⟨_,e,_⟩|⟨cU,_⟩
 ·exact e
 ·exact absurd rfl cU
end
theorem BW{α:Type}{l:List α}{j:Nat}{x:α}(h:l[j]?=some x):l.drop j=x::l.drop (j+1):=by
 obtain⟨hk,he⟩:=List.getElem?_eq_some_iff.1 h;rw[tl hk,he]
end Go.Mor
namespace Go.Mor
open Go.RowKit
section
variable {α : Type} {f : α → α} {l : List α} {j : Nat} {x : α}
def mix(f:α→α)(l:List α)(j:Nat):List α:=(l.take j).map f++l.drop j
theorem Qbq:mix f l 0=l:=by simp[mix]
theorem Qb8(h:l.length≤j):mix f l j=l.map f:=by unfold mix;rw[uK h,QjH h,QiY]
theorem Qf4:(mix f l j).length=l.length:=by unfold mix;simp;omega
theorem Qcc(hx:l[j]?=some x):(mix f l j)[j]?=some x:=by
 obtain⟨hj,he⟩:=List.getElem?_eq_some_iff.1 hx;unfold mix;rw[List.getElem?_append_right (by simp;omega),List.getElem?_drop,QjN,QjL,Qds oM,QiN,Nat.add_zero,hx]
theorem QcB(hx:l[j]?=some x):(mix f l j).set j (f x)=mix f l (j+1):=by
 obtain⟨hj,he⟩:=List.getElem?_eq_some_iff.1 hx;unfold mix;rw[Qjc _ _ (by simp;omega),QjN,QjL,Qds oM,QiN,tl hj,List.set_cons_zero,QjK hj,Qjy,he];simp
end
def Qc(σ:Int→Int)(p:cI):cI:={p with args:=p.args.map σ}
def upI(σ:Int→Int)(i:aO):aO:={i with args:=i.args.map σ}
def Li(x:bz):Prop:=x.e=1∨(x.e=2∧0≤x.v)
instance (x : bz) : Decidable (Li x) := by unfold Li; infer_instance
def r2(σ:Int→Int)(x:bz):bz:={x with ah:=x.ah.map (Qc σ),insts:=x.insts.map (upI σ),v:=if Li x then σ x.v else x.v}
theorem QkZ(σ:Int→Int)(p:cI):(Qc σ p).cells=p.cells:=by unfold Qc cI.cells;simp
theorem Qk0(σ:Int→Int)(i:aO):(upI σ i).cells=i.cells:=by unfold upI aO.cells;simp
theorem Qmj(σ:Int→Int)(A:aX)(c:Nat)(l:List cI):s3 A c (l.map (Qc σ))=s3 A c l:=by
 unfold s3 zc;rw[QjN,Oc];congr 1;exact Qi9 (fun f=>l.flatMap f) (funext fun p=>QkZ σ p)
theorem Qmk(σ:Int→Int)(A:aX)(c:Nat)(l:List aO):dJ A c (l.map (upI σ))=dJ A c l:=by
 unfold dJ zL;rw[QjN,Oc];congr 1;exact Qi9 (fun f=>l.flatMap f) (funext fun p=>Qk0 σ p)
theorem Qml(σ:Int→Int)(l:List cI):(l.map (Qc σ)).map fz=l.map fz:=by rw[Qcn];rfl
theorem Qlt(σ:Int→Int)(x:bz):gL (r2 σ x)=[.au x.g 65 [.slice x.pA x.ah.length x.pc,.slice x.iA x.insts.length x.ic,vI x.e,vI (if Li x then σ x.v else x.v),vI x.a,vI x.b,.bool x.gone],s3 x.pA x.pc x.ah,dJ x.iA x.ic x.insts,.pk (x.ah.map fz),.pk ((x.ah.map (Qc σ)).map fj),.pk ((x.insts.map (upI σ)).map de)]:=by
 have e1:=Qmj σ x.pA x.pc x.ah;have e2:=Qmk σ x.iA x.ic x.insts;have e3:=Qml σ x.ah;show[bo.au x.g _ [.slice x.pA (x.ah.map (Qc σ)).length x.pc,.slice x.iA (x.insts.map (upI σ)).length x.ic,_,_,_,_,_],s3 x.pA x.pc (x.ah.map (Qc σ)),dJ x.iA x.ic (x.insts.map (upI σ)),.pk ((x.ah.map (Qc σ)).map fz),_,_]=_;rw[e1,e2,e3,QjN,QjN];rfl
theorem Qnt(σ:Int→Int)(q:Nat)(nm:cV)(wk:Bool)(pa va:Int)(bA:aX)(bn bc:Nat)(A:aX)(c:Nat)(gs:List bz):gF q nm wk pa va bA bn bc A c (gs.map (r2 σ))=[.au q 61 (Qp2 nm wk pa va bA bn bc A gs.length c),jh A c gs,.pk ((gs.map (r2 σ)).map gB)]:=by
 have e:jh A c (gs.map (r2 σ))=jh A c gs:=by unfold jh jA;rw[QjN,Qcn];rfl
 show[bo.au q _ [_,_,_,_,_,.slice A (gs.map (r2 σ)).length c],jh A c (gs.map (r2 σ)),_]=_;rw[e,QjN]
structure Qnf(D:Int→Prop)(x:bz):Prop where
 lp:x.ah.length≤20000
 li:x.insts.length≤20000
 ah:∀p,p∈x.ah→p.args.length≤20000∧∀a,a∈p.args→D a
 insts:∀i,i∈x.insts→i.args.length≤20000∧∀a,a∈i.args→D a
 fin:Li x→D x.v
theorem Nn{α β:Type}{f:α→β}{l:List α}{k:Nat}{x:α}(hx:l[k]?=some x):(l.take (k+1)).map f=(l.take k).map f++[f x]:=by
 obtain⟨hk,he⟩:=List.getElem?_eq_some_iff.1 hx;rw[QjK hk,Qjy,he];rfl
end Go.Mor
namespace Go.Mor
open Go.RowKit
end Go.Mor
namespace Go.Mor
open Go.RowKit
end Go.Mor
namespace Go.Mor
open Go.RowKit
end Go.Mor
namespace Go.Mor
open Go.RowKit
def idL(n:Nat):ar:=(List.range n).map (fun i:Nat=>(i:Int))
theorem Qmm(n:Nat):(idL n).length=n:=by simp[idL]
theorem Qlu{va:Int}{n:Nat}(hn:va=(n:Int)){D:Int→Prop}(hD:∀v,D v→0≤v∧v<va):Le va D (idL n) (fun v=>v):=⟨by rw[Qmm,hn],fun v hv=>⟨0,.zero (hD v hv).1 (by
  have:=hD v hv;unfold idL;rw[List.getElem?_map,List.getElem?_range oM];simp;omega)⟩,fun _ h=>h⟩
end Go.Mor
namespace Go.Mor
open Go.RowKit
theorem Qeg(gl:List Bool){a b:Nat}(h:a≤b):rK gl a≤rK gl b:=by
 unfold rK;have e:gl.take a=(gl.take b).take a:=by rw[List.take_take,Qds h]
 rw[e];exact((D3 a (gl.take b)).filter _).length_le
theorem QbK(b:Bool)(gl:List Bool)(i:Nat):rK (b::gl) (i+1)=(if b then 0 else 1)+rK gl i:=by
 unfold rK;cases b<;>simp<;>omega
abbrev fK(ks:List gO):List ay:=ks.map gO.f
abbrev tK(ks:List gO):Int→ar:=tg (af (fK ks))
def F2(ks:List gO)(t:Int):Int:=(ve (nh ks)).getD t.toNat 0
def mB(ks:List gO)(t:Int):Prop:=∃(i:Nat) (x:gO),t=(i:Int)∧ks[i]?=some x∧x.gone=false
section
variable {ks : List gO} {i j : Nat} {x y : gO}
theorem QcY(ks:List gO)(n:Nat):(pP (ks.take n)).length=rK (nh ks) n:=by
 unfold rK pP nh;rw[←bl,NI,QjN];rfl
theorem QfN(hx:ks[i]?=some x)(hg:x.gone=false):(pP ks)[rK (nh ks) i]?=some x:=by
 have e:pP ks=pP (ks.take i)++(x::pP (ks.drop (i+1))):=by
  conv=>lhs;rw[←xK i ks,BW hx]
  unfold pP;rw[xH,Qjz,hg];rfl
 rw[e,List.getElem?_append_right (by rw[QcY];exact Qjn _),QcY,QiN];rfl
theorem Qfu:∀{ks:List gO} {j:Nat},(pP ks)[j]?=some x→∃i,ks[i]?=some x∧x.gone=false∧rK (nh ks) i=j
 |[],j,h=>by simp[pP]at h
 |y::ks,j,h=>by
  cases hg:y.gone with
  |true=>
   have e:pP (y::ks)=pP ks:=by unfold pP;rw[Qjz,hg];rfl
   rw[e]at h;obtain⟨i,h1,h2,h3⟩:=Qfu h;refine⟨i+1,h1,h2,?_⟩;show rK (y.gone::nh ks) (i+1)=j;rw[QbK,hg,h3];simp
  |false=>
   have e:pP (y::ks)=y::pP ks:=by unfold pP;rw[Qjz,hg];rfl
   rw[e]at h;cases j with
   |zero=>
    injection h with h;subst h;exact⟨0,rfl,hg,rfl⟩
   |succ j=>
    obtain⟨i,h1,h2,h3⟩:=Qfu (ks:=ks) (j:=j) h;refine⟨i+1,h1,h2,?_⟩;show rK (y.gone::nh ks) (i+1)=j+1;rw[QbK,hg,h3];simp;omega
theorem QcZ(hx:ks[i]?=some x):(nh ks)[i]?=some x.gone:=by
 unfold nh;rw[List.getElem?_map,hx];rfl
theorem QdY(hx:ks[i]?=some x)(hg:x.gone=false)(h:i<j):rK (nh ks) i<rK (nh ks) j:=by
 have h1:=Jh (by rw[QcZ hx,hg]:(nh ks)[i]?=some false);have h2:=Qeg (nh ks) (show i+1≤j by omega);omega
theorem K2(hx:ks[i]?=some x)(hg:x.gone=false):F2 ks (i:Int)=(rK (nh ks) i:Int):=by
 have hl:i<(nh ks).length:=by rw[xP];exact(List.getElem?_eq_some_iff.1 hx).1
 unfold F2 ve;rw[ld,BG hl,dd ⟨hl,by rw[List.getD_eq_getElem?_getD,QcZ hx,hg];rfl⟩]
theorem mB.mk'(hx:ks[i]?=some x)(hg:x.gone=false):mB ks (i:Int):=⟨i,x,rfl,hx,hg⟩
theorem D9{a b:Int}(ha:mB ks a)(hb:mB ks b)(h:F2 ks a=F2 ks b):a=b:=by
 obtain⟨i,x,rfl,hx,uC⟩:=ha;obtain⟨j,y,rfl,hy,hgy⟩:=hb;rw[K2 hx uC,K2 hy hgy]at h;rcases iR i j with h1|h1|h1
 ·have:=QdY hx uC h1;omega
 ·rw[h1]
 ·have:=QdY hy hgy h1;omega
theorem XP(h:mB ks 0):F2 ks 0=0:=by
 obtain⟨i,x,h0,hx,hg⟩:=h;have:i=0:=oM;subst this;have:=K2 hx hg;rw[show((0:Nat):Int)=0 from rfl]at this;rw[this];simp[rK]
end
structure Pf(ks:List gO):Prop where
 zero:mB ks 0
 ends:∀x,x∈ks→x.gone=false→O9 (ks.length:Int) x
 gone:∀x,x∈ks→x.gone=true→x.ah=[]∧x.insts=[]∧x.e=2∧x.v= -1
 vj:∀s t:Int,t∈tK ks s→mB ks t
theorem QeC(ks:List gO):(af (fK ks)).length=ks.length:=by rw[bE,QjN]
theorem K3{ks:List gO}{i:Nat}{x:gO}(hx:ks[i]?=some x):(fK ks)[i]?=some x.f:=by rw[List.getElem?_map,hx];rfl
theorem NL{ks:List gO}{i:Nat}{y:ay}(hx:(fK ks)[i]?=some y):∃x,ks[i]?=some x∧y=x.f:=by
 rw[List.getElem?_map,Jo]at hx;obtain⟨x,hx,rfl⟩:=hx;exact⟨x,hx,rfl⟩
theorem Xj{ks:List gO}{i:Nat}{x:gO}(hx:ks[i]?=some x):tK ks (i:Int)=zH ks.length x.f.sb:=by
 show tg (af (fK ks)) (i:Int)=_;rw[wW oM (by rw[ld];exact gv (K3 hx)),QeC]
theorem ZC{ks:List gO}{s t:Int}(h:t∈tK ks s):∃(i:Nat) (x:gO),s=(i:Int)∧ks[i]?=some x:=by
 have hr:0≤s∧s<(ks.length:Int):=by apply Classical.byContradiction;intro hc;have:tK ks s=[]:=uI (by rw[QeC];omega);rw[this]at h;cases h
 obtain⟨x,hx⟩:=bu (l:=ks) (i:=s.toNat) oM;exact⟨s.toNat,x,oM,hx⟩
theorem NM{n:Nat}{t:Int}(h0:0≤t)(h1:t<(n:Int)):gU n t=true:=by unfold gU;simp[h0,h1]
def wL(x:gO):ar:=if x.e=0 then[x.a]else if x.e=1 then[x.a,x.b]else[]
theorem Qc0{n:Nat}{x:gO}(h:O9 (n:Int) x):zH n x.f.sb=wL x:=by
 show(if x.e=0 then[x.a]else if x.e=1 then(if x.a=x.b then[x.a]else[x.a,x.b])else[]).filter (gU n)=_;unfold wL;rcases h with⟨e,⟨h1,h2⟩,_⟩|⟨e,⟨h1,h2⟩,⟨h3,h4⟩,h5⟩|⟨e,_⟩|⟨e,_⟩
 ·rw[dd e,dd e];simp[NM h1 h2]
 ·rw[QcA oM,dd e,QcA h5,QcA oM,dd e];simp[NM h1 h2,NM h3 h4]
 ·rw[QcA oM,QcA oM,QcA oM,QcA oM];rfl
 ·rw[QcA oM,QcA oM,QcA oM,QcA oM];rfl
theorem Qd{n:Nat}{x:gO}(h:x.e=2):zH n x.f.sb=[]:=by
 show(if x.e=0 then[x.a]else if x.e=1 then(if x.a=x.b then[x.a]else[x.a,x.b])else[]).filter (gU n)=_;rw[QcA oM,QcA oM];rfl
theorem Pf.at_{ks:List gO}(hc:Pf ks){i:Nat}{x:gO}(hx:ks[i]?=some x):tK ks (i:Int)=wL x:=by
 rw[Xj hx];cases hg:x.gone with
 |true=>
  have h:=(hc.gone x (Qcs hx) hg).2.2.1;rw[Qd h];unfold wL;rw[QcA oM,QcA oM]
 |false=>exact Qc0 (hc.ends x (Qcs hx) hg)
theorem Pf.src{ks:List gO}(hc:Pf ks){s t:Int}(h:t∈tK ks s):mB ks s:=by
 obtain⟨i,x,rfl,hx⟩:=ZC h;cases hg:x.gone with
 |false=>exact .mk' hx hg
 |true=>
  have h2:=(hc.gone x (Qcs hx) hg).2.2.1;rw[Xj hx,Qd h2]at h;cases h
section
variable {ks : List gO} {fs : List ay} {x : gO} {y : ay}
theorem Qc1(ht:Yi ks fs){i:Nat}{x:gO}(hx:ks[i]?=some x)(hg:x.gone=false):∃y,fs[rK (nh ks) i]?=some y∧iM (ve (nh ks)) x y:=by
 have h1:=QfN hx hg;obtain⟨y,hy⟩:=bu (l:=fs) (i:=rK (nh ks) i) (by rw[←ht.1];exact(List.getElem?_eq_some_iff.1 h1).1);exact⟨y,hy,ht.2 _ _ _ h1 hy⟩
theorem BJ(ht:Yi ks fs){j:Nat}{y:ay}(hy:fs[j]?=some y):∃i x,ks[i]?=some x∧x.gone=false∧rK (nh ks) i=j∧iM (ve (nh ks)) x y:=by
 obtain⟨x,hx⟩:=bu (l:=pP ks) (i:=j) (by rw[ht.1];exact(List.getElem?_eq_some_iff.1 hy).1);obtain⟨i,h1,h2,h3⟩:=Qfu hx;exact⟨i,x,h1,h2,h3,ht.2 _ _ _ hx hy⟩
theorem Pg(ht:Yi ks fs){t:Int}(h:mB ks t):0≤F2 ks t∧F2 ks t<(fs.length:Int):=by
 obtain⟨i,x,rfl,hx,hg⟩:=h;obtain⟨y,hy,_⟩:=Qc1 ht hx hg;have:=(List.getElem?_eq_some_iff.1 hy).1;rw[K2 hx hg];omega
theorem Qc3(hc:Pf ks)(ht:Yi ks fs){i:Int}(hi:mB ks i):tg (af fs) (F2 ks i)=(tK ks i).map (F2 ks):=by
 obtain⟨i,x,rfl,hx,hg⟩:=hi;obtain⟨y,hy,hb⟩:=Qc1 ht hx hg;have hL:∀t,t∈tK ks (i:Int)→mB ks t:=fun t h=>hc.vj _ _ h
 rw[hc.at_ hx]at hL⊢;rw[K2 hx hg,wW oM (by rw[ld];exact gv hy),bE];show(if y.e=0 then[y.a]else if y.e=1 then(if y.a=y.b then[y.a]else[y.a,y.b])else[]).filter (gU fs.length)=_;rw[hb.e,hb.a,hb.b];unfold wL at hL⊢;rcases hc.ends x (Qcs hx) hg with⟨e,⟨h1,h2⟩,_⟩|⟨e,⟨h1,h2⟩,⟨h3,h4⟩,h5⟩|⟨e,_⟩|⟨e,_⟩
 ·rw[dd e]at hL;have ha:=Pg ht (hL x.a sI);have ea:toA (ve (nh ks)) x.e x.a=F2 ks x.a:=by unfold toA;rw[dd (Or.inl e)];rfl
  rw[dd e,dd e,ea];have i1:gU fs.length (F2 ks x.a)=true:=NM ha.1 ha.2;rw[Qjz,i1];rfl
 ·rw[QcA oM,dd e]at hL;have ea:toA (ve (nh ks)) x.e x.a=F2 ks x.a:=by unfold toA;rw[dd (Or.inr e)];rfl
  have eb:toBb (ve (nh ks)) x.e x.b=F2 ks x.b:=by unfold toBb;rw[dd e];rfl
  have la:=hL x.a sI;have lb:=hL x.b sI;have ha:=Pg ht la;have X2:=Pg ht lb;have i1:gU fs.length (F2 ks x.a)=true:=NM ha.1 ha.2;have i2:gU fs.length (F2 ks x.b)=true:=NM X2.1 X2.2;have cU:F2 ks x.a≠F2 ks x.b:=fun e=>h5 (D9 la lb e)
  have e0:¬x.e=0:=oM;rw[ea,eb,QcA e0,dd e,QcA cU,QcA e0,dd e,Qjz,i1,dd rfl,Qjz,i2];rfl
 ·have e0:¬x.e=0:=oM;have e1:¬x.e=1:=oM;rw[QcA e0,QcA e1,QcA e0,QcA e1];rfl
 ·have e0:¬x.e=0:=oM;have e1:¬x.e=1:=oM;rw[QcA e0,QcA e1,QcA e0,QcA e1];rfl
theorem Qc5{U U':Int→ar}(h0:mB ks 0)(hU:∀i,mB ks i→U' (F2 ks i)=(U i).map (F2 ks))(hL:∀i t,t∈U i→mB ks t){i:Int}(h:Reach U i):Reach U' (F2 ks i)∧mB ks i:=by
 induction h with
 |zero=>exact⟨by rw[XP h0];exact .zero,h0⟩
 |step _ ht ih=>exact⟨.step ih.1 (by rw[hU _ ih.2];exact jd.2 ⟨_,ht,rfl⟩),hL _ _ ht⟩
theorem QeD{U U':Int→ar}(h0:mB ks 0)(hU:∀i,mB ks i→U' (F2 ks i)=(U i).map (F2 ks))(hL:∀i t,t∈U i→mB ks t){j:Int}(h:Reach U' j):∃i,mB ks i∧Reach U i∧F2 ks i=j:=by
 induction h with
 |zero=>exact⟨0,h0,.zero,XP h0⟩
 |step _ ht ih=>
  obtain⟨i,h1,h2,rfl⟩:=ih;rw[hU _ h1]at ht;obtain⟨t,h3,rfl⟩:=jd.1 ht;exact⟨t,hL _ _ h3,.step h2 h3,rfl⟩
theorem QeE(hc:Pf ks)(ht:Yi ks fs){a:Int}(ha:mB ks a){i:Int}(hi:mB ks i):Cq (tg (af fs)) (F2 ks a) (F2 ks i)=(Cq (tK ks) a i).map (F2 ks):=by
 unfold Cq;rw[Qc3 hc ht hi,NI];congr 1;refine I4 fun t h=> ?_
 have hl:=hc.vj _ _ h;show(!(F2 ks t==F2 ks a))=!(t==a);by_cases e:t=a
 ·rw[e,beq_self_eq_true,beq_self_eq_true]
 ·have:F2 ks t≠F2 ks a:=fun h=>e (D9 hl ha h)
  rw[beq_false_of_ne this,beq_false_of_ne e]
theorem Qhn(hc:Pf ks)(ht:Yi ks fs){a b:Int}(ha:mB ks a)(hb:mB ks b):Dm (tg (af fs)) (F2 ks a) (F2 ks b)↔Dm (tK ks) a b:=by
 have hL:∀i t:Int,t∈Cq (tK ks) a i→mB ks t:=fun i t h=>hc.vj _ _ (im.1 h).1
 have hz:=XP hc.zero;have e0:F2 ks a≠0↔a≠0:=by refine not_congr ⟨fun h=>D9 ha hc.zero (h.trans hz.symm),fun h=>by rw[h];exact hz⟩
 unfold Dm;refine not_congr (and_congr e0 ⟨fun h=> ?_,fun h=>(Qc5 hc.zero (fun i hi=>QeE hc ht ha hi) hL h).1⟩);obtain⟨i,h1,h2,h3⟩:=QeD hc.zero (fun i hi=>QeE hc ht ha hi) hL h;rwa [D9 h1 hb h3]at h2
theorem QeF(hb:iM (ve (nh ks)) x y){v:Int}:(∃p,p∈y.ah∧p.dst=v)↔∃p,p∈x.ah∧p.dst=v:=by
 obtain⟨hl,hp⟩:=hb.ah;constructor
 ·rintro⟨q,hq,rfl⟩;obtain⟨j,hj⟩:=jF.1 hq;obtain⟨p,ZI⟩:=bu (l:=x.ah) (i:=j) (by rw[hl];exact(List.getElem?_eq_some_iff.1 hj).1);exact⟨p,Qcs ZI,(hp j p q ZI hj).1.symm⟩
 ·rintro⟨p,jL,rfl⟩;obtain⟨j,hj⟩:=jF.1 jL;obtain⟨q,jo⟩:=bu (l:=y.ah) (i:=j) (by rw[←hl];exact(List.getElem?_eq_some_iff.1 hj).1);exact⟨q,Qcs jo,(hp j p q hj jo).1⟩
theorem QeI(hb:iM (ve (nh ks)) x y){j:Nat}{i:aO}(hi:y.insts[j]?=some i):x.insts[j]?=some i.e0:=by
 rw[←hb.insts,List.getElem?_map,hi];rfl
theorem QfO(hb:iM (ve (nh ks)) x y){j:Nat}{i:aO}(hi:x.insts[j]?=some i):∃i',y.insts[j]?=some i'∧i'.e0=i:=by
 rw[←hb.insts,List.getElem?_map,Jo]at hi;exact hi
theorem QdZ(ht:Yi ks fs){v c m:Int}:(v,c,m)∈bF fs↔∃b,mB ks b∧F2 ks b=c∧(v,b,m)∈bF (fK ks):=by
 rw[sq];constructor
 ·rintro⟨k,y,hy,rfl,h⟩;obtain⟨i,x,hx,hg,YO,hb⟩:=BJ ht hy;refine⟨i,.mk' hx hg,by rw[K2 hx hg,YO],sq.2 ⟨i,x.f,K3 hx,rfl,?_⟩⟩;rcases h with⟨h1,h2⟩|⟨j,a,h1,h2,h3,h4⟩
  ·obtain⟨p,hp,hd⟩:=(QeF hb).1 h2;exact .inl ⟨h1,_,jd.2 ⟨p,hp,rfl⟩,hd⟩
  ·exact .inr ⟨j,a.e0,QeI hb h1,h2,h3,h4⟩
 ·rintro⟨b,⟨i,x,rfl,hx,hg⟩,rfl,h⟩;obtain⟨k,z,hz,hk,h⟩:=sq.1 h;obtain⟨x',yk,rfl⟩:=NL hz;have:k=i:=oM;subst this;rw[hx]at yk;injection yk with yk;subst yk;obtain⟨y,hy,hb⟩:=Qc1 ht hx hg;refine⟨_,y,hy,K2 hx hg,?_⟩;rcases h with⟨h1,p,hp,h2⟩|⟨j,a,h1,h2,h3,h4⟩
  ·obtain⟨q,hq,rfl⟩:=jd.1 hp;exact .inl ⟨h1,(QeF hb).2 ⟨q,hq,h2⟩⟩
  ·obtain⟨a',nQ,e⟩:=QfO hb h1;subst e;exact .inr ⟨j,a',nQ,h2,h3,h4⟩
theorem QgK(hb:iM (ve (nh ks)) x y):nu y=nu x.f:=by
 obtain⟨hl,hp⟩:=hb.ah;unfold nu;congr 1
 ·show _=(x.ah.map _).map _;rw[Qcn];refine QdX fun j=> ?_
  rw[List.getElem?_map,List.getElem?_map];by_cases hj:j<x.ah.length
  ·obtain⟨p,ZI⟩:=bu (l:=x.ah) hj;obtain⟨q,jo⟩:=bu (l:=y.ah) (i:=j) oM;rw[ZI,jo];exact Qi9 some (hp j p q ZI jo).1
  ·rw[List.getElem?_eq_none oM,List.getElem?_eq_none oM];rfl
 ·show _=(x.insts.filter _).map _;rw[←hb.insts,NI,Qcn];rfl
theorem QeK(ks:List gO):((pP ks).flatMap (fun x=>nu x.f)).Sublist (ks.flatMap (fun x=>nu x.f)):=by
 induction ks with
 |nil=>exact .slnil
 |cons x ks ih=>
  cases hg:x.gone with
  |true=>
   have e:pP (x::ks)=pP ks:=by unfold pP;rw[Qjz,hg];rfl
   rw[e,iC];exact ih.trans (Qh3 _ _)
  |false=>
   have e:pP (x::ks)=x::pP ks:=by unfold pP;rw[Qjz,hg];rfl
   rw[e,iC,iC];exact(Qdr _).append ih
theorem QgL(ht:Yi ks fs):fs.flatMap nu=(pP ks).flatMap (fun x=>nu x.f):=by
 rw[Qdz,Qdz];congr 1;refine QdX fun j=> ?_
 rw[List.getElem?_map,List.getElem?_map];by_cases hj:j<fs.length
 ·obtain⟨y,hy⟩:=bu (l:=fs) hj;obtain⟨x,hx⟩:=bu (l:=pP ks) (i:=j) (by rw[ht.1];exact hj);rw[hx,hy];exact Qi9 some (QgK (ht.2 _ _ _ hx hy))
 ·rw[List.getElem?_eq_none oM,List.getElem?_eq_none (by rw[ht.1];omega)];rfl
theorem Qd0{pa va:Int}(ht:Yi ks fs)(h:ey pa va (bF (fK ks))):ey pa va (bF fs):=by
 refine⟨fun d hd=> ?_,?_⟩
 ·obtain⟨v,c,m⟩:=d;obtain⟨b,_,_,h1⟩:=(QdZ ht).1 hd;exact h.1 (v,b,m) h1
 ·have h2:=h.2;rw[pf]at h2⊢;rw[QgL ht];refine h2.sublist ?_;rw[show fK ks=ks.map gO.f from rfl,Oc];exact QeK ks
theorem QeN(g:gO→Nat)(ks:List gO):((pP ks).map g).sum≤(ks.map g).sum:=by
 induction ks with
 |nil=>exact Qjn _
 |cons x ks ih=>
  cases hg:x.gone with
  |true=>
   have e:pP (x::ks)=pP ks:=by unfold pP;rw[Qjz,hg];rfl
   rw[e,lR,B5];omega
  |false=>
   have e:pP (x::ks)=x::pP ks:=by unfold pP;rw[Qjz,hg];rfl
   rw[e,lR,B5,lR,B5];omega
theorem QbL(fs:List ay):hY fs=fs.length+(fs.map (fun x=>x.ah.length+x.insts.length)).sum:=by
 unfold hY jl;rw[uK (Qjn _)]
theorem QeO(ht:Yi ks fs):hY fs=(pP ks).length+((pP ks).map (fun x=>x.ah.length+x.insts.length)).sum:=by
 rw[QbL,ht.1];congr 2;refine QdX fun j=> ?_
 rw[List.getElem?_map,List.getElem?_map];by_cases hj:j<fs.length
 ·obtain⟨y,hy⟩:=bu (l:=fs) hj;obtain⟨x,hx⟩:=bu (l:=pP ks) (i:=j) (by rw[ht.1];exact hj);have hb:=ht.2 _ _ _ hx hy;rw[hx,hy,s9,s9,←hb.ah.1,←hb.insts,QjN]
 ·rw[List.getElem?_eq_none oM,List.getElem?_eq_none (by rw[ht.1];omega)];rfl
theorem vR(ks:List gO):hY (fK ks)=ks.length+(ks.map (fun x=>x.ah.length+x.insts.length)).sum:=by
 rw[QbL,QjN,Qcn];congr 2;refine Qch fun x _=> ?_
 show(x.ah.map _).length+_=_;rw[QjN];rfl
theorem QfP(ht:Yi ks fs):hY fs≤hY (fK ks):=by
 rw[QeO ht,vR];have h1:(pP ks).length≤ks.length:=Qjt _ _;have h2:=QeN (fun x=>x.ah.length+x.insts.length) ks;omega
end
end Go.Mor
namespace Go.Mor
open Go.RowKit
theorem Qdy:∀{l m:ar},l.Pairwise (·<·)→m.Pairwise (·<·)→(∀a,a∈l↔a∈m)→l=m
 |[],[],_,_,_=>rfl
 |[],b::m,_,_,h=>absurd ((h b).2 (en ..)) QjD
 |a::l,[],_,_,h=>absurd ((h a).1 (en ..)) QjD
 |a::l,b::m,hl,hm,h=>by
  obtain⟨h1,h2⟩:=zE.1 hl;obtain⟨h3,h4⟩:=zE.1 hm;have e:a=b:=by
   rcases Qcx.1 ((h a).1 (en ..))with e|ha
   ·exact e
   rcases Qcx.1 ((h b).2 (en ..))with e|hb
   ·exact e.symm
   have:=h1 b hb;have:=h3 a ha;omega
  subst e;rw[Qdy h2 h4 fun c=> ?_];constructor
  ·intro hc;rcases Qcx.1 ((h c).1 (QiV _ hc))with e|h5
   ·subst e;have:=h1 c hc;omega
   ·exact h5
  ·intro hc;rcases Qcx.1 ((h c).2 (QiV _ hc))with e|h5
   ·subst e;have:=h3 c hc;omega
   ·exact h5
abbrev rX(pa va:Int)(ks:List gO)(v b q:Int):Prop:=bX (Dm (tK ks)) pa va (bF (fK ks)) v b q
structure QhX(pa va:Int)(ks:List gO)(k:Nat)(p:vb):Prop where
 len:p.args.length=p.from_.length
 nd:p.from_.Nodup
 yW:∀s,s∈p.from_→0≤s∧s<(ks.length:Int)
 all:∀s:Int,(k:Int)∈tK ks s→s∈p.from_
 QbQ:∀a,a∈p.args→0≤a∧a<va
 av:∀(i:Nat) (s a:Int),p.from_[i]?=some s→p.args[i]?=some a→Reach (tK ks) s→(k:Int)∈tK ks s→rX pa va ks a s 20000
structure vU(nm:cV)(pa va:Int)(ks:List gO):Prop where
 UT:Pf ks
 name:bt nm
 par:0≤pa∧pa≤16∧pa≤va
 uJ:∀x,ks[0]?=some x→x.ah=[]
 QgM:∀s:Int,¬(0:Int)∈tK ks s
 Xv:∀x,x∈ks→∀i,i∈x.insts→bJ i
 once:ey pa va (bF (fK ks))
 iv:∀x,x∈ks→∀i,i∈x.insts→∀a,a∈i.args→0≤a∧a<va
 fv:∀x,x∈ks→(x.e=1∨(x.e=2∧x.v≠-1))→0≤x.v∧x.v<va
 ins:∀(k:Nat) (x:gO),ks[k]?=some x→Reach (tK ks) (k:Int)→∀(j:Nat) (i:aO),x.insts[j]?=some i→∀a,a∈i.args→rX pa va ks a (k:Int) (j:Int)
 fin:∀(k:Nat) (x:gO),ks[k]?=some x→Reach (tK ks) (k:Int)→(x.e=1∨(x.e=2∧x.v≠-1))→rX pa va ks x.v (k:Int) 20000
 pK:∀(k:Nat) (x:gO),ks[k]?=some x→∀p,p∈x.ah→QhX pa va ks k p
structure EJ(ks:List gO):Prop where
 reach:∀t:Int,mB ks t→Reach (tK ks) t
 bS:∀(k:Nat) (x:gO),ks[k]?=some x→∀p,p∈x.ah→∀s,s∈p.from_→(k:Int)∈tK ks s
section
variable {ks : List gO} {fs : List ay} {nm : ByteArray} {pa va : Int}
theorem QeP(hc:Pf ks){v c m:Int}(h:(v,c,m)∈bF (fK ks)):mB ks c:=by
 obtain⟨k,z,hz,rfl,h⟩:=sq.1 h;obtain⟨x,hx,rfl⟩:=NL hz;cases hg:x.gone with
 |false=>exact .mk' hx hg
 |true=>
  obtain⟨h1,h2,_⟩:=hc.gone x (Qcs hx) hg;rcases h with⟨_,p,hp,_⟩|⟨j,i,hi,_⟩
  ·have:p∈x.ah.map _:=hp;rw[h1]at this;cases this
  ·have:x.insts[j]?=some i:=hi;rw[h2]at this;cases this
theorem QeQ(hc:Pf ks)(ht:Yi ks fs)(ho:ey pa va (bF (fK ks))){v b q:Int}(hb:mB ks b)(h:rX pa va ks v b q):Av pa va fs v (F2 ks b) q:=by
 obtain⟨h1,h2,h3⟩:=(u3 ho.2).1 h;refine(u3 (Qd0 ht ho).2).2 ⟨h1,h2,?_⟩;rcases h3 with h3|⟨c,k,hd,h3⟩
 ·exact .inl h3
 have hl:=QeP hc hd;refine .inr ⟨F2 ks c,k,(QdZ ht).2 ⟨c,hl,rfl,hd⟩,?_⟩;rcases h3 with⟨e,h4⟩|⟨cU,h4⟩
 ·exact .inl ⟨by rw[e],h4⟩
 ·exact .inr ⟨fun e=>cU (D9 hl hb e),(Qhn hc ht hl hb).2 h4⟩
theorem QfQ(hc:Pf ks)(ht:Yi ks fs){k:Nat}{x:gO}(hx:ks[k]?=some x)(hg:x.gone=false){fl:ar}(C7:fl.Nodup)(cA:∀s:Int,(k:Int)∈tK ks s↔s∈fl){il:List Nat}(hs:jY fl.length (rJ (ve (nh ks)) fl) il):bS (af fs) (F2 ks (k:Int))=il.map (rJ (ve (nh ks)) fl):=by
 obtain⟨hp,hw⟩:=hs;have nG:∀i,i∈il↔i<fl.length:=fun i=>by rw[hp.mem_iff,Qi4]
 have LM:∀i,i<fl.length→fl[i]?=some (fl.getD i 0):=fun i hi=>by rw[List.getD_eq_getElem?_getD,List.getElem?_eq_getElem hi];rfl
 have QeR:∀i,i<fl.length→mB ks (fl.getD i 0):=fun i hi=>hc.src ((cA _).2 (Qcs (LM i hi)))
 have QhY:il.Nodup:=hp.nodup_iff.2 Qhq;refine Qdy (NK _ _) ?_ fun s=> ?_
 ·rw[gS];have h3:il.Pairwise (fun i j=>rJ (ve (nh ks)) fl i≤rJ (ve (nh ks)) fl j∧i≠j):=hw.and QhY;refine h3.imp_of_mem fun {a b} ha hb h=> ?_
  obtain⟨h4,h5⟩:=h;have nQ:=(nG a).1 ha;have Co:=(nG b).1 hb;have cU:rJ (ve (nh ks)) fl a≠rJ (ve (nh ks)) fl b:=by intro e;have e1:fl.getD a 0=fl.getD b 0:=D9 (QeR a nQ) (QeR b Co) e;have h6:=LM a nQ;rw[e1,←LM b Co]at h6;exact h5 ((List.getElem?_inj nQ C7).1 h6)
  omega
 ·rw[AN,jd,bE];constructor
  ·rintro⟨⟨h1,h2⟩,h3⟩;obtain⟨y,hy⟩:=bu (l:=fs) (i:=s.toNat) oM;obtain⟨i,z,hz,BB,YO,_⟩:=BJ ht hy;have yi:mB ks (i:Int):= .mk' hz BB;have e:s=F2 ks (i:Int):=by rw[K2 hz BB,YO];omega
   rw[e,Qc3 hc ht yi]at h3;obtain⟨t,BD,oQ⟩:=jd.1 h3;have:t=(k:Int):=D9 (hc.vj _ _ BD) (.mk' hx hg) oQ;subst this;obtain⟨m,hm⟩:=jF.1 ((cA _).1 BD);have Pt:=(List.getElem?_eq_some_iff.1 hm).1;refine⟨m,(nG m).2 Pt,?_⟩;rw[LM m Pt]at hm;injection hm with hm;rw[e,←hm];rfl
  ·rintro⟨m,hm,rfl⟩;have Pt:=(nG m).1 hm;have hl:=QeR m Pt;show(0≤F2 ks (fl.getD m 0)∧_)∧_∈tg _ (F2 ks (fl.getD m 0));refine⟨Pg ht hl,?_⟩;rw[Qc3 hc ht hl];exact jd.2 ⟨_,(cA _).2 (Qcs (LM m Pt)),rfl⟩
theorem QfR(h:vU nm pa va ks)(Dz:EJ ks)(ht:Yi ks fs):j9 nm pa va fs:=by
 have hc:=h.UT;have hz:=XP hc.zero;have h0:∃x,ks[0]?=some x∧x.gone=false:=by obtain⟨i,x,e,hx,hg⟩:=hc.zero;have:i=0:=oM;subst this;exact⟨x,hx,hg⟩
 obtain⟨x0,Hz,NT⟩:=h0;have Py:rK (nh ks) 0=0:=by simp[rK]
 obtain⟨y0,hy0,vX⟩:=Qc1 ht Hz NT;rw[Py]at hy0;have F8:=(List.getElem?_eq_some_iff.1 hy0).1;refine⟨h.name,h.par,F8,fun y hy=> ?_,?_,?_,fun y hy=> ?_,⟨fun y hy i hi=> ?_,Qd0 ht h.once⟩,fun k hk=> ?_⟩
 ·rw[hy0]at hy;injection hy with hy;subst hy;rw[←vX.ah.1,h.uJ x0 Hz];rfl
 ·have:bS (af fs) 0=[]:=List.eq_nil_iff_forall_not_mem.2 fun s hs=>by
   obtain⟨⟨h1,h2⟩,h3⟩:=AN.1 hs;rw[bE]at h2;obtain⟨y,hy⟩:=bu (l:=fs) (i:=s.toNat) oM;obtain⟨i,z,Xw,BB,YO,_⟩:=BJ ht hy;have e:s=F2 ks (i:Int):=by rw[K2 Xw BB,YO];omega
   rw[e,Qc3 hc ht (.mk' Xw BB)]at h3;obtain⟨t,BD,oQ⟩:=jd.1 h3;have:t=0:=D9 (hc.vj _ _ BD) hc.zero (oQ.trans hz.symm);subst this;exact h.QgM _ BD
  rw[this];rfl
 ·have h2:=mv (bs:=af fs);rw[bE]at h2;refine h2.2 fun i hi=>jO.2 ?_
  obtain⟨y,hy⟩:=bu (l:=fs) hi;obtain⟨j,z,Xw,BB,YO,_⟩:=BJ ht hy;have h3:=(Qc5 hc.zero (fun i hi=>Qc3 hc ht hi) hc.vj (Dz.reach _ (.mk' Xw BB))).1;rwa [K2 Xw BB,YO]at h3
 ·obtain⟨j,hj⟩:=jF.1 hy;obtain⟨i,x,hx,hg,YO,hb⟩:=BJ ht hj;have hL:∀t,t∈wL x→mB ks t:=fun t h=>hc.vj (i:Int) t (by rw[hc.at_ hx];exact h)
  unfold ix;rw[hb.e,hb.a,hb.b,hb.v];unfold wL at hL;unfold toA toBb;rcases hc.ends x (Qcs hx) hg with⟨e,_,h3,h4⟩|⟨e,_,_,h5⟩|⟨e,h1,h2⟩|⟨e,h1,h2,h3⟩
  ·rw[dd e]at hL;rw[dd (.inl e),QcA oM];exact .inl ⟨e,Pg ht (hL x.a sI),h3,rfl⟩
  ·rw[QcA oM,dd e]at hL;rw[dd (.inr e),dd e];exact .inr (.inl ⟨e,Pg ht (hL x.a sI),Pg ht (hL x.b sI),fun e2=>h5 (D9 (hL x.a sI) (hL x.b sI) e2)⟩)
  ·rw[QcA oM,QcA oM,QcA oM];exact .inr (.inr (.inl ⟨e,rfl,rfl⟩))
  ·rw[QcA oM,dd e,QcA oM];exact .inr (.inr (.inr ⟨e,h1,h2,rfl⟩))
 ·obtain⟨j,hj⟩:=jF.1 hy;obtain⟨k,x,hx,hg,YO,hb⟩:=BJ ht hj;have:i.e0∈x.insts:=by rw[←hb.insts];exact jd.2 ⟨i,hi,rfl⟩
  have h9:bJ i.e0:=h.Xv x (Qcs hx) _ this;exact h9
 ·obtain⟨y,hy⟩:=bu (l:=fs) hk;obtain⟨i,x,hx,hg,YO,hb⟩:=BJ ht hy;have yi:mB ks (i:Int):= .mk' hx hg;have hr:=Dz.reach _ yi;have e:(k:Int)=F2 ks (i:Int):=by rw[K2 hx hg,YO]
  refine⟨y,hy,⟨fun j q hq=> ?_,fun j a ha m v hv=> ?_,fun hf=> ?_⟩⟩
  ·obtain⟨p,hp⟩:=bu (l:=x.ah) (i:=j) (by rw[hb.ah.1];exact(List.getElem?_eq_some_iff.1 hq).1);have jL:=Qcs hp;have hP:=h.pK i x hx p jL;obtain⟨_,il,hs,Uc⟩:=hb.ah.2 j p q hp hq;have Uw:=QfQ hc ht hx hg hP.nd (fun s=>⟨hP.all s,Dz.bS i x hx p jL s⟩) hs;rw[e,Uw,Uc,QjN,QjN];refine⟨rfl,fun m a s h1 h2=> ?_⟩;rw[List.getElem?_map,Jo]at h1 h2;obtain⟨t,BD,rfl⟩:=h1;obtain⟨t',oQ,rfl⟩:=h2;rw[BD]at oQ;injection oQ with oQ;subst oQ;have x9:t<p.from_.length:=by have h3:=(hs.1.mem_iff).1 (Qcs BD);exact Qi4.1 h3
   have h3:p.from_[t]?=some (p.from_.getD t 0):=by rw[List.getD_eq_getElem?_getD,List.getElem?_eq_getElem x9];rfl
   have h4:p.args[t]?=some (p.args.getD t 0):=by rw[List.getD_eq_getElem?_getD,List.getElem?_eq_getElem (by rw[hP.len];exact x9)];rfl
   have h5:=Dz.bS i x hx p jL _ (Qcs h3);have h6:=hc.src h5;exact QeQ hc ht h.once h6 (hP.av t _ _ h3 h4 (Dz.reach _ h6) h5)
  ·have h1:=QeI hb ha;rw[e];exact QeQ hc ht h.once yi (h.ins i x hx hr j _ h1 v (Qcs hv))
  ·rw[e,hb.v];refine QeQ hc ht h.once yi (h.fin i x hx hr ?_);unfold pE at hf;rwa [hb.e,hb.v]at hf
theorem QeT(h:vU nm pa va ks)(Dz:EJ ks)(ht:Yi ks fs)(kx:va≤20000)(jv:(hY (fK ks):Int)≤20000):bV nm pa va fs=0:=by
 have h1:=QfP ht;exact(y6 oM (QfR h Dz ht)).symm
end
end Go.Mor
namespace Go.Mor
open Go.RowKit
section
variable {fs gs : List ay} {nm : ByteArray} {pa va : Int} {k : Nat}
theorem XS(fs:List ay):fK (lN fs)=fs.map ay.e0:=by
 refine QdX fun i=> ?_
 rw[List.getElem?_map,List.getElem?_map];by_cases hi:i<fs.length
 ·obtain⟨x,hx⟩:=bu (l:=fs) hi;rw[mA hx,hx];show some (gO.f (Bx fs i x))=some x.e0;unfold Bx gO.f ay.e0 oG;simp only[Qcn];rfl
 ·rw[List.getElem?_eq_none (by rw[jR];omega),List.getElem?_eq_none oM];rfl
theorem Q8(fs:List ay):ec fs (fs.map ay.e0):=by
 unfold ec;rw[Qcn];refine Qch fun x _=> ?_
 show x.e0=x.e0.e0;unfold ay.e0;simp only[Qcn];rfl
theorem F4{ks:List gO}(he:ks=lN fs){x:gO}(hx:ks[k]?=some x):∃y,fs[k]?=some y∧x=Bx fs k y:=by
 subst he;obtain⟨y,hy⟩:=bu (l:=fs) (i:=k) (by have:=(List.getElem?_eq_some_iff.1 hx).1;rwa [jR]at this);rw[mA hy]at hx;injection hx with hx;exact⟨y,hy,hx.symm⟩
theorem NP(h:j9 nm pa va fs):vU nm pa va (lN fs)∧EJ (lN fs):=by
 obtain⟨gs,Ma⟩:∃gs,gs=fs.map ay.e0:=⟨_,rfl⟩;have Vh:ec fs gs:=Ma▸Q8 fs;have hG:j9 nm pa va gs:=qu Vh h;have hF:fK (lN fs)=gs:=(XS fs).trans Ma.symm;have hK:lN gs=lN fs:=BA Vh.symm;have hlen:gs.length=fs.length:=by rw[Ma,QjN]
 obtain⟨ks,xG⟩:∃ks,ks=lN fs:=⟨_,rfl⟩;rw[←xG]at hF hK⊢;have Jm:ks.length=gs.length:=by rw[xG,jR,hlen]
 have at_:∀{k:Nat} {x:gO},ks[k]?=some x→∃y,gs[k]?=some y∧x=Bx gs k y∧y=x.f:=by intro k x hx;obtain⟨y,hy,e⟩:=F4 hK.symm hx;have h1:=K3 hx;rw[hF,hy]at h1;injection h1 with h1;exact⟨y,hy,e,h1⟩
 have hT:tK ks=tg (af gs):=by show tg (af (fK ks))=_;rw[hF]
 have hng:∀x,x∈ks→x.gone=false:=fun x hx=>by obtain⟨k,hk⟩:=jF.1 hx;obtain⟨y,_,e,_⟩:=at_ hk;rw[e];rfl
 have hz:∃x0,ks[0]?=some x0:=bu (by have:=hG.pos;omega);obtain⟨x0,Hz⟩:=hz;have XT:∀{v b q:Int},rX pa va ks v b q=Av pa va gs v b q:=fun {v b q}=>by unfold rX Av;rw[hT,hF]
 have vi:∀{k:Nat} {x:gO} {y:ay},ks[k]?=some x→gs[k]?=some y→Qgq (Dm (tg (af gs))) (fun _=>20000) pE pa va gs k y:=by intro k x y hx hy;obtain⟨z,hz,hr⟩:=hG.reads k (List.getElem?_eq_some_iff.1 hy).1;rw[hy]at hz;injection hz with hz;subst hz;exact hr
 have hiv:∀{k:Nat} {x:gO},ks[k]?=some x→∀(j:Nat) (i:aO),x.insts[j]?=some i→∀a,a∈i.args→rX pa va ks a (k:Int) (j:Int):=by intro k x hx j i hi a ha;obtain⟨y,hy,_,e⟩:=at_ hx;rw[XT];obtain⟨m,hm⟩:=jF.1 ha;exact(vi hx hy).insts j i (by rw[e];exact hi) m a hm
 have hfv:∀{k:Nat} {x:gO},ks[k]?=some x→(x.e=1∨(x.e=2∧x.v≠-1))→rX pa va ks x.v (k:Int) 20000:=by intro k x hx hf;obtain⟨y,hy,_,e⟩:=at_ hx;rw[XT];have:=(vi hx hy).fin (by rw[e];exact hf);rwa [e]at this
 have Uw:∀(k:Nat) (s:Int),(k:Int)∈tK ks s↔s∈bS (af gs) (k:Int):=by
  intro k s;rw[AN,hT];constructor
  ·intro h1;rw[←hT]at h1;obtain⟨i,x,rfl,hx⟩:=ZC h1;have:=(List.getElem?_eq_some_iff.1 hx).1;rw[hT]at h1;exact⟨⟨oM,by rw[bE];omega⟩,h1⟩
  ·exact fun h1=>h1.2
 refine⟨⟨⟨?_,?_,?_,?_⟩,hG.name,hG.par,?_,?_,?_,?_,?_,?_,?_,?_,?_⟩,⟨?_,?_⟩⟩
 ·exact⟨0,x0,rfl,Hz,hng x0 (Qcs Hz)⟩
 ·intro x hx _;obtain⟨k,hk⟩:=jF.1 hx;obtain⟨y,hy,_,e⟩:=at_ hk;have:=hG.ends y (Qcs hy);rw[e,←Jm]at this;exact this
 ·intro x hx hg;rw[hng x hx]at hg;cases hg
 ·intro s t ht;rw[hT]at ht;have h1:=og ht;rw[bE]at h1;obtain⟨x,hx⟩:=bu (l:=ks) (i:=t.toNat) oM;exact⟨t.toNat,x,oM,hx,hng x (Qcs hx)⟩
 ·intro x hx;obtain⟨y,hy,_,e⟩:=at_ hx;have:=hG.ah y hy;rw[e]at this;have h2:(x.ah.map (fun p=>(⟨p.dst,none,0,p.args⟩:bI))).length=0:=this;rw[QjN]at h2;exact Qf5.1 h2
 ·intro s hs;have h1:s∈bS (af gs) 0:=(Uw 0 s).1 hs;have h2:=hG.src;rw[Qf5.1 h2]at h1;cases h1
 ·intro x hx i hi;obtain⟨k,hk⟩:=jF.1 hx;obtain⟨y,hy,_,e⟩:=at_ hk;exact hG.QbQ.1 y (Qcs hy) i (by rw[e];exact hi)
 ·rw[hF];exact hG.QbQ.2
 ·intro x hx i hi a ha;obtain⟨k,hk⟩:=jF.1 hx;obtain⟨j,hj⟩:=jF.1 hi;have:=hiv hk j i hj a ha;exact⟨this.1,this.2.1⟩
 ·intro x hx hf;obtain⟨k,hk⟩:=jF.1 hx;have:=hfv hk hf;exact⟨this.1,this.2.1⟩
 ·intro k x hx _ j i hi a ha;exact hiv hx j i hi a ha
 ·intro k x hx _ hf;exact hfv hx hf
 ·intro k x hx p hp;obtain⟨y,hy,e1,e⟩:=at_ hx;have hr:=vi hx hy;rw[e1]at hp;obtain⟨q,hq,rfl⟩:=jd.1 (show p∈y.ah.map (oG (bS (af gs) (k:Int)))from hp);obtain⟨j,hj⟩:=jF.1 hq;obtain⟨h1,h2⟩:=hr.ah j q hj;have Tu:=NK (af gs) (k:Int);refine⟨h1,Tu.imp (fun h=>oM),fun s hs=> ?_,fun s hs=>(Uw k s).1 hs,fun a ha=> ?_,fun i s a hs ha _ _=> ?_⟩
  ·have:=(AN.1 (show s∈bS (af gs) (k:Int)from hs)).1;rw[bE]at this;omega
  ·obtain⟨i,hi⟩:=jF.1 (show a∈q.args from ha);obtain⟨s,hs⟩:=bu (l:=bS (af gs) (k:Int)) (i:=i) (by rw[←h1];exact(List.getElem?_eq_some_iff.1 hi).1);have:=h2 i a s hi hs;exact⟨this.1,this.2.1⟩
  ·rw[XT];exact h2 i a s ha hs
 ·rintro t ⟨i,x,rfl,hx,_⟩;rw[hT];have:=(List.getElem?_eq_some_iff.1 hx).1;exact Rn hG oM oM
 ·intro k x hx p hp s hs;obtain⟨y,hy,e1,e⟩:=at_ hx;rw[e1]at hp;obtain⟨q,hq,rfl⟩:=jd.1 (show p∈y.ah.map (oG (bS (af gs) (k:Int)))from hp);exact(Uw k s).2 hs
end
theorem qF.map_eq{α β γ:Type}{R:α→β→Prop}{f:α→γ}{g:β→γ}{l:List α}{m:List β}(h:qF R l m)(hf:∀a b,a∈l→b∈m→R a b→f a=g b):l.map f=m.map g:=by
 refine QdX fun i=> ?_
 rw[List.getElem?_map,List.getElem?_map];by_cases hi:i<l.length
 ·obtain⟨a,ha⟩:=bu (l:=l) hi;obtain⟨b,hb⟩:=bu (l:=m) (i:=i) (by rw[←h.1];exact hi);rw[ha,hb];exact Qi9 some (hf a b (Qcs ha) (Qcs hb) (h.2 i a b ha hb))
 ·rw[List.getElem?_eq_none oM,List.getElem?_eq_none (by rw[←h.1];omega)];rfl
theorem qF.fwd{α β:Type}{R:α→β→Prop}{l:List α}{m:List β}(h:qF R l m){i:Nat}{a:α}(ha:l[i]?=some a):∃b,m[i]?=some b∧R a b:=by
 obtain⟨b,hb⟩:=bu (l:=m) (i:=i) (by rw[←h.1];exact(List.getElem?_eq_some_iff.1 ha).1);exact⟨b,hb,h.2 i a b ha hb⟩
theorem qF.bwd{α β:Type}{R:α→β→Prop}{l:List α}{m:List β}(h:qF R l m){i:Nat}{b:β}(hb:m[i]?=some b):∃a,l[i]?=some a∧R a b:=by
 obtain⟨a,ha⟩:=bu (l:=l) (i:=i) (by rw[h.1];exact(List.getElem?_eq_some_iff.1 hb).1);exact⟨a,ha,h.2 i a b ha hb⟩
section
variable {ks ms : List gO} {nm : ByteArray} {pa va : Int}
theorem Qd1{T U:Int→ar}(h:∀x t,t∈U x→t∈T x){a b:Int}(hd:Dm T a b):Dm U a b:=fun⟨h1,h2⟩=>hd ⟨h1,EL (fun x t ht=>by
  obtain⟨q1,q2⟩:=im.1 ht;exact im.2 ⟨h x t q1,q2⟩) h2⟩
end
end Go.Mor
namespace Go.Mor
open Go.RowKit
def EU(ks:List gO)(k:Int):ar:=((List.range ks.length).filter (fun s=>match ks[s]? with
 |some x=> !x.gone&&(wL x).contains k
 |none=>false)).map (fun s:Nat=>(s:Int))
def ke(S:ar)(p:vb):vb:=⟨p.dst,((p.from_.zip p.args).filter (fun q=>S.contains q.1)).map (·.1),((p.from_.zip p.args).filter (fun q=>S.contains q.1)).map (·.2)⟩
def QgN(x:gO):gO:={x with gone:=true,ah:=[],insts:=[],e:=2,v:= -1}
noncomputable def sj(ks:List gO)(k:Nat)(x:gO):gO:=open Classical in if¬Reach (tK ks) (k:Int)∧x.gone=false then QgN x else x
noncomputable def o1(ks:List gO):List gO:=ks.zipIdx.map (fun p=>sj ks p.2 p.1)
def K8(S:ar)(x:gO):gO:={x with ah:=x.ah.map (ke S)}
noncomputable def kg(ks:List gO):List gO:=(o1 ks).zipIdx.map (fun p=>K8 (EU (o1 ks) (p.2:Int)) p.1)
noncomputable def sW(ks:List gO):Bool:=open Classical in decide (∃(k:Nat) (x:gO),ks[k]?=some x∧x.gone=false∧¬Reach (tK ks) (k:Int))
section
variable {ks ms : List gO} {k : Nat} {x y : gO} {nm : ByteArray} {pa va : Int}
theorem BM(hx:ks[k]?=some x):(o1 ks)[k]?=some (sj ks k x):=by
 unfold o1;rw[List.getElem?_map,List.getElem?_zipIdx,hx];simp
theorem BV(ks:List gO):(o1 ks).length=ks.length:=by simp[o1]
theorem tn(hx:ks[k]?=some x):(kg ks)[k]?=some (K8 (EU (o1 ks) (k:Int)) (sj ks k x)):=by
 unfold kg;rw[List.getElem?_map,List.getElem?_zipIdx,BM hx];simp
theorem o2(ks:List gO):(kg ks).length=ks.length:=by simp[kg,o1]
theorem QeW{s t:Int}:s∈EU ks t↔∃(i:Nat) (x:gO),s=(i:Int)∧ks[i]?=some x∧x.gone=false∧t∈wL x:=by
 unfold EU;rw[jd];constructor
 ·rintro⟨i,hi,rfl⟩;obtain⟨h1,h2⟩:=Qjr.1 hi;obtain⟨x,hx⟩:=bu (l:=ks) (i:=i) (Qi4.1 h1);rw[hx]at h2;simp only[Qjo,dB,QdI,QcD]at h2;exact⟨i,x,rfl,hx,h2.1,h2.2⟩
 ·rintro⟨i,x,rfl,hx,hg,ht⟩;refine⟨i,Qjr.2 ⟨Qi4.2 (List.getElem?_eq_some_iff.1 hx).1,?_⟩,rfl⟩;rw[hx];simp[hg,ht]
theorem Jw(hc:Pf ks){t:Int}(h:Reach (tK ks) t):mB ks t:=by
 cases h with
 |zero=>exact hc.zero
 |step _ ht=>exact hc.vj _ _ ht
theorem QfU{ks:List gO}{k:Nat}{x:gO}(hx:ks[k]?=some x)(h:mB ks (k:Int)):x.gone=false:=by
 obtain⟨i,y,e,hy,hg⟩:=h;have:i=k:=oM;subst this;rw[hx]at hy;injection hy with hy;rwa [hy]
theorem uc(hc:Pf ks)(hx:ks[k]?=some x)(hr:Reach (tK ks) (k:Int)):(kg ks)[k]?=some (K8 (EU (o1 ks) (k:Int)) x)∧x.gone=false:=by
 refine⟨?_,QfU hx (Jw hc hr)⟩;rw[tn hx];unfold sj;rw[QcA (fun h=>h.1 hr)]
theorem F5(hc:Pf ks)(hx:ks[k]?=some x)(hr:¬Reach (tK ks) (k:Int)):∃y,(kg ks)[k]?=some y∧y.gone=true∧y.ah=[]∧y.insts=[]∧y.e=2∧y.v= -1:=by
 refine⟨_,tn hx,?_⟩;unfold sj;cases hg:x.gone with
 |false=>
  rw[dd ⟨hr,rfl⟩];exact⟨rfl,rfl,rfl,rfl,rfl⟩
 |true=>
  obtain⟨h1,h2,h3,h4⟩:=hc.gone x (Qcs hx) hg;rw[QcA (fun h=>by have:=h.2;cases this)];exact⟨hg,by show x.ah.map _=[];rw[h1];rfl,h2,h3,h4⟩
theorem qH(hy:(kg ks)[k]?=some y):∃x,ks[k]?=some x:=bu (by rw[←o2 ks];exact(List.getElem?_eq_some_iff.1 hy).1)
theorem ZF(hc:Pf ks)(hy:(kg ks)[k]?=some y)(hg:y.gone=false):∃x,ks[k]?=some x∧x.gone=false∧Reach (tK ks) (k:Int)∧y=K8 (EU (o1 ks) (k:Int)) x:=by
 obtain⟨x,hx⟩:=qH hy;by_cases hr:Reach (tK ks) (k:Int)
 ·obtain⟨h1,h2⟩:=uc hc hx hr;rw[hy]at h1;injection h1 with h1;exact⟨x,hx,h2,hr,h1⟩
 ·obtain⟨z,hz,h1,_⟩:=F5 hc hx hr;rw[hy]at hz;injection hz with hz;rw[←hz,hg]at h1;cases h1
theorem Gf(hc:Pf ks){s t:Int}:t∈tK (kg ks) s↔Reach (tK ks) s∧t∈tK ks s:=by
 constructor
 ·intro h;obtain⟨i,y,rfl,hy⟩:=ZC h;obtain⟨x,hx⟩:=qH hy;by_cases hr:Reach (tK ks) (i:Int)
  ·refine⟨hr,?_⟩;obtain⟨h1,h2⟩:=uc hc hx hr;rw[hy]at h1;injection h1 with h1;rw[Xj hy,h1,o2]at h;rw[Xj hx];exact h
  ·obtain⟨z,hz,_,_,_,h1,_⟩:=F5 hc hx hr;rw[hy]at hz;injection hz with hz;subst hz;rw[Xj hy,Qd h1]at h;cases h
 ·rintro⟨hr,h⟩;obtain⟨i,x,rfl,hx⟩:=ZC h;obtain⟨h1,h2⟩:=uc hc hx hr;rw[Xj h1,o2];rw[Xj hx]at h;exact h
theorem Lb(hc:Pf ks){t:Int}:Reach (tK (kg ks)) t↔Reach (tK ks) t:=by
 constructor
 ·exact fun h=>EL (fun x t ht=>((Gf hc).1 ht).2) h
 ·intro h;induction h with
  |zero=>exact .zero
  |step h1 ht ih=>exact .step ih ((Gf hc).2 ⟨h1,ht⟩)
theorem Pk(hc:Pf ks){t:Int}:mB (kg ks) t↔Reach (tK ks) t:=by
 constructor
 ·rintro⟨i,y,rfl,hy,hg⟩;obtain⟨_,_,_,hr,_⟩:=ZF hc hy hg;exact hr
 ·intro h;obtain⟨i,x,rfl,hx,hg⟩:=Jw hc h;exact .mk' (uc hc hx h).1 hg
theorem Qeh(hc:Pf ks):Pf (kg ks):=by
 refine⟨(Pk hc).2 .zero,fun y hy hg=> ?_,fun y hy hg=> ?_,fun s t ht=> ?_⟩
 ·obtain⟨i,hi⟩:=jF.1 hy;obtain⟨x,hx,uC,_,rfl⟩:=ZF hc hi hg;rw[o2];exact hc.ends x (Qcs hx) uC
 ·obtain⟨i,hi⟩:=jF.1 hy;obtain⟨x,hx⟩:=qH hi;by_cases hr:Reach (tK ks) (i:Int)
  ·obtain⟨h1,h2⟩:=uc hc hx hr;rw[hi]at h1;injection h1 with h1;rw[h1]at hg;rw[show(K8 (EU (o1 ks) (i:Int)) x).gone=x.gone from rfl,h2]at hg;cases hg
  ·obtain⟨z,hz,_,h1,h2,h3,h4⟩:=F5 hc hx hr;rw[hi]at hz;injection hz with hz;subst hz;exact⟨h1,h2,h3,h4⟩
 ·obtain⟨h1,h2⟩:=(Gf hc).1 ht;exact(Pk hc).2 (.step h1 h2)
theorem Pl(hc:Pf ks){s:Int}:s∈EU (o1 ks) (k:Int)↔Reach (tK ks) s∧(k:Int)∈tK ks s:=by
 rw[QeW];constructor
 ·rintro⟨i,y,rfl,hy,hg,ht⟩;obtain⟨x,hx⟩:=bu (l:=ks) (i:=i) (by rw[←BV ks];exact(List.getElem?_eq_some_iff.1 hy).1);rw[BM hx]at hy;injection hy with hy;unfold sj at hy;split at hy
  ·rw[←hy]at hg;cases hg
  ·rename_i hn;rw[hy]at hn;have hr:Reach (tK ks) (i:Int):=Classical.byContradiction fun h=>hn ⟨h,hg⟩
   refine⟨hr,?_⟩;rw[hc.at_ hx,hy];exact ht
 ·rintro⟨hr,ht⟩;obtain⟨i,x,rfl,hx,hg⟩:=Jw hc hr;refine⟨i,x,rfl,?_,hg,by rwa [hc.at_ hx]at ht⟩;rw[BM hx];unfold sj;rw[QcA (fun h=>h.1 hr)]
theorem ZH(hc:Pf ks){v c m:Int}:(v,c,m)∈bF (fK (kg ks))↔Reach (tK ks) c∧(v,c,m)∈bF (fK ks):=by
 rw[sq,sq];constructor
 ·rintro⟨i,z,hz,rfl,h⟩;obtain⟨y,hy,rfl⟩:=NL hz;obtain⟨x,hx⟩:=qH hy;by_cases hr:Reach (tK ks) (i:Int)
  ·obtain⟨h1,h2⟩:=uc hc hx hr;rw[hy]at h1;injection h1 with h1;subst h1;refine⟨hr,i,x.f,K3 hx,rfl,h.imp (fun⟨h3,p,hp,hd⟩=>⟨h3,?_⟩) id⟩;obtain⟨q,hq,rfl⟩:=jd.1 hp;obtain⟨r,hr,rfl⟩:=jd.1 hq;exact⟨_,jd.2 ⟨r,hr,rfl⟩,hd⟩
  ·obtain⟨w,hw,_,h1,h2,_⟩:=F5 hc hx hr;rw[hy]at hw;injection hw with hw;subst hw;rcases h with⟨_,p,hp,_⟩|⟨j,a,ha,_⟩
   ·have:p∈y.ah.map _:=hp;rw[h1]at this;cases this
   ·have:y.insts[j]?=some a:=ha;rw[h2]at this;cases this
 ·rintro⟨hr,i,z,hz,rfl,h⟩;obtain⟨x,hx,rfl⟩:=NL hz;obtain⟨h1,h2⟩:=uc hc hx hr;refine⟨i,_,K3 h1,rfl,h.imp (fun⟨h3,p,hp,hd⟩=>⟨h3,?_⟩) id⟩;obtain⟨q,hq,rfl⟩:=jd.1 hp;exact⟨_,jd.2 ⟨ke (EU (o1 ks) (i:Int)) q,jd.2 ⟨q,hq,rfl⟩,rfl⟩,hd⟩
theorem ZL{α β γ:Type}{f:α→List γ}{g:β→List γ}:∀{l:List α} {m:List β},qF (fun a b=>(g b).Sublist (f a)) l m→(m.flatMap g).Sublist (l.flatMap f)
 |[],[],_=> .slnil
 |[],b::m,h=>by have:=h.1;simp at this
 |a::l,[],h=>by have:=h.1;simp at this
 |a::l,b::m,h=>by rw[iC,iC];exact(h.2 0 a b rfl rfl).append (ZL ⟨by have:=h.1;simpa using this,fun i x y hx hy=>h.2 (i+1) x y hx hy⟩)
theorem ZM(hc:Pf ks)(h:ey pa va (bF (fK ks))):ey pa va (bF (fK (kg ks))):=by
 refine⟨fun d hd=> ?_,?_⟩
 ·obtain⟨v,c,m⟩:=d;exact h.1 _ ((ZH hc).1 hd).2
 ·have h2:=h.2;rw[pf]at h2⊢;refine h2.sublist (ZL ⟨by rw[QjN,QjN,o2],fun i a b ha hb=> ?_⟩);obtain⟨x,hx,rfl⟩:=NL ha;obtain⟨y,hy,rfl⟩:=NL hb;by_cases hr:Reach (tK ks) (i:Int)
  ·obtain⟨h1,_⟩:=uc hc hx hr;rw[hy]at h1;injection h1 with h1;subst h1;have:nu (K8 (EU (o1 ks) (i:Int)) x).f=nu x.f:=by unfold nu;congr 1;show((x.ah.map _).map _).map _=(x.ah.map _).map _;rw[Qcn,Qcn,Qcn];rfl
   rw[this];exact Qdr _
  ·obtain⟨w,hw,_,h1,h2,_⟩:=F5 hc hx hr;rw[hy]at hw;injection hw with hw;subst hw;have:nu y.f=[]:=by unfold nu;show(y.ah.map _).map _++(y.insts.filter _).map _=[];rw[h1,h2];rfl
   rw[this];exact List.nil_sublist _
theorem Qal{S:ar}{p:vb}{i:Nat}{s a:Int}(hs:(ke S p).from_[i]?=some s)(ha:(ke S p).args[i]?=some a):s∈S∧∃j:Nat,p.from_[j]?=some s∧p.args[j]?=some a:=by
 unfold ke at hs ha;simp only[List.getElem?_map,Jo]at hs ha;obtain⟨q,hq,rfl⟩:=hs;obtain⟨r,hr,rfl⟩:=ha;rw[hq]at hr;injection hr with hr;subst hr;obtain⟨h1,h2⟩:=Qjr.1 (Qcs hq);obtain⟨j,hj⟩:=jF.1 h1;rw[List.getElem?_zip_eq_some]at hj;exact⟨by simpa using h2,j,hj.1,hj.2⟩
theorem Qei{S:ar}{p:vb}(hl:p.args.length=p.from_.length):(ke S p).from_=p.from_.filter (fun s=>S.contains s):=by
 unfold ke;show((p.from_.zip p.args).filter ((fun s=>S.contains s)∘Prod.fst)).map Prod.fst=_;rw[←NI,List.map_fst_zip oM]
theorem Qbg(S:ar)(p:vb):(ke S p).args.length=(ke S p).from_.length:=by
 unfold ke;rw[QjN,QjN]
theorem yn(h:vU nm pa va ks):vU nm pa va (kg ks)∧EJ (kg ks):=by
 have hc:=h.UT;have j5:∀x t:Int,t∈tK (kg ks) x→t∈tK ks x:=fun x t ht=>((Gf hc).1 ht).2
 have XT:∀{v b q:Int},Reach (tK ks) b→rX pa va ks v b q→rX pa va (kg ks) v b q:=by
  intro v b q hr ha;obtain⟨h1,h2,h3⟩:=(u3 h.once.2).1 ha;refine(u3 (ZM hc h.once).2).2 ⟨h1,h2,h3.imp id fun⟨c,m,hd,h4⟩=>⟨c,m,?_,?_⟩⟩
  ·refine(ZH hc).2 ⟨?_,hd⟩;rcases h4 with⟨rfl,_⟩|⟨_,h5⟩
   ·exact hr
   ·exact Dm.reach hr h5
  ·exact h4.imp id fun⟨h5,h6⟩=>⟨h5,Qd1 j5 h6⟩
 have yes:∀{k:Nat} {y:gO},(kg ks)[k]?=some y→Reach (tK ks) (k:Int)→∃x,ks[k]?=some x∧y=K8 (EU (o1 ks) (k:Int)) x:=by intro k y hy hr;obtain⟨x,hx⟩:=qH hy;obtain⟨h1,_⟩:=uc hc hx hr;rw[hy]at h1;injection h1 with h1;exact⟨x,hx,h1⟩
 have no:∀{k:Nat} {y:gO},(kg ks)[k]?=some y→¬Reach (tK ks) (k:Int)→y.ah=[]∧y.insts=[]∧y.e=2∧y.v= -1:=by intro k y hy hr;obtain⟨x,hx⟩:=qH hy;obtain⟨w,hw,_,h1,h2,h3,h4⟩:=F5 hc hx hr;rw[hy]at hw;injection hw with hw;subst hw;exact⟨h1,h2,h3,h4⟩
 refine⟨⟨Qeh hc,h.name,h.par,fun y hy=> ?_,fun s hs=>h.QgM s (j5 _ _ hs),fun y hy i hi=> ?_,ZM hc h.once,fun y hy i hi a ha=> ?_,fun y hy hf=> ?_,fun k y hy hk j i hi a ha=> ?_,fun k y hy hk hf=> ?_,fun k y hy p hp=> ?_⟩,⟨fun t ht=>(Lb hc).2 ((Pk hc).1 ht),fun k y hy p hp s hs=> ?_⟩⟩
 ·obtain⟨x,hx,rfl⟩:=yes hy .zero;show x.ah.map _=[];rw[h.uJ x hx];rfl
 ·obtain⟨k,hk⟩:=jF.1 hy;by_cases hr:Reach (tK ks) (k:Int)
  ·obtain⟨x,hx,rfl⟩:=yes hk hr;exact h.Xv x (Qcs hx) i hi
  ·rw[(no hk hr).2.1]at hi;cases hi
 ·obtain⟨k,hk⟩:=jF.1 hy;by_cases hr:Reach (tK ks) (k:Int)
  ·obtain⟨x,hx,rfl⟩:=yes hk hr;exact h.iv x (Qcs hx) i hi a ha
  ·rw[(no hk hr).2.1]at hi;cases hi
 ·obtain⟨k,hk⟩:=jF.1 hy;by_cases hr:Reach (tK ks) (k:Int)
  ·obtain⟨x,hx,rfl⟩:=yes hk hr;exact h.fv x (Qcs hx) hf
  ·have h1:=(no hk hr).2.2;rcases hf with hf|⟨_,hf⟩
   ·omega
   ·exact absurd h1.2 hf
 ·have hr:=(Lb hc).1 hk;obtain⟨x,hx,rfl⟩:=yes hy hr;exact XT hr (h.ins k x hx hr j i hi a ha)
 ·have hr:=(Lb hc).1 hk;obtain⟨x,hx,rfl⟩:=yes hy hr;exact XT hr (h.fin k x hx hr hf)
 ·by_cases hr:Reach (tK ks) (k:Int)
  ·obtain⟨x,hx,rfl⟩:=yes hy hr;obtain⟨q,hq,rfl⟩:=jd.1 (show p∈x.ah.map _ from hp);have hP:=h.pK k x hx q hq;have Oe:=Qei (S:=EU (o1 ks) (k:Int)) hP.len;refine⟨Qbg _ _,by rw[Oe];exact hP.nd.sublist QjC,fun s hs=> ?_,fun s hs=> ?_,fun a ha=> ?_,fun i s a hs ha hrs xG=> ?_⟩
   ·rw[Oe]at hs;rw[o2];exact hP.yW s (Qjr.1 hs).1
   ·rw[Oe];have h1:=(Gf hc).1 hs;exact Qjr.2 ⟨hP.all s h1.2,by simpa using(Pl hc).2 h1⟩
   ·obtain⟨i,hi⟩:=jF.1 ha;obtain⟨s,hs⟩:=bu (l:=(ke (EU (o1 ks) (k:Int)) q).from_) (i:=i) (by rw[←Qbg];exact(List.getElem?_eq_some_iff.1 hi).1);obtain⟨_,j,_,hj⟩:=Qal hs hi;exact hP.QbQ a (Qcs hj)
   ·obtain⟨h1,j,hj,hja⟩:=Qal hs ha;have h2:=(Pl hc).1 h1;exact XT h2.1 (hP.av j s a hj hja h2.1 h2.2)
  ·rw[(no hy hr).1]at hp;cases hp
 ·by_cases hr:Reach (tK ks) (k:Int)
  ·obtain⟨x,hx,rfl⟩:=yes hy hr;obtain⟨q,hq,rfl⟩:=jd.1 (show p∈x.ah.map _ from hp);obtain⟨i,hi⟩:=jF.1 hs;obtain⟨a,ha⟩:=bu (l:=(ke (EU (o1 ks) (k:Int)) q).args) (i:=i) (by rw[Qbg];exact(List.getElem?_eq_some_iff.1 hi).1);obtain⟨h1,_⟩:=Qal hi ha;exact(Gf hc).2 ((Pl hc).1 h1)
  ·rw[(no hy hr).1]at hp;cases hp
end
end Go.Mor
namespace Go.Mor
def QeX(a b:Int):Int:=IntKind.i64.wrap ((BitVec.ofInt 64 a&&&BitVec.ofInt 64 b).toNat:Int)
def XM(a b:Int):Int:=IntKind.i64.wrap ((BitVec.ofInt 64 a|||BitVec.ofInt 64 b).toNat:Int)
def QbB(a b:Int):Int:=IntKind.i64.wrap ((BitVec.ofInt 64 a^^^BitVec.ofInt 64 b).toNat:Int)
def nW(b:Int):Int:=IntKind.u64.wrap ((BitVec.ofInt 64 (IntKind.u64.wrap b)&&&BitVec.ofInt 64 63).toNat:Int)
def QeY(a n:Int):Int:=IntKind.i64.wrap (a*2^min n.toNat 64)
def Qej(a n:Int):Int:=a.fdiv (2^min n.toNat 64)
def xN(op a b:Int):Int×Int:=if b=0 then(0,3)else if b= -1∧op=4 then(IntKind.i64.wrap (0-a),0)else if b= -1 then(0,0)else if op=4 then(IntKind.i64.wrap (a.tdiv b),0)else(a.tmod b,0)
def nI(op a b:Int):Int×Int:=if op=1 then(IntKind.i64.wrap (a+b),0)else if op=2 then(IntKind.i64.wrap (a-b),0)else if op=3 then(IntKind.i64.wrap (a*b),0)else if op=4∨op=5 then xN op a b else if op=6 then(QeX a b,0)else if op=7 then(XM a b,0)else if op=8 then(QbB a b,0)else if op=9 then(QeY a (nW b),0)else if op=10 then(Qej a (nW b),0)else if op=11 then(EK (decide (a=b)),0)else if op=12 then(EK (a !=b),0)else if op=13 then(EK (decide (a<b)),0)else if op=14 then(EK (decide (a≤b)),0)else if op=15 then(EK (decide (a>b)),0)else if op=16 then(EK (decide (a≥b)),0)else(0,-1)
def Gh(op a:Int):Int×Int:=if op=1 then(IntKind.i64.wrap (0-a),0)else if op=2 then(QbB (-1) a,0)else if op=3 then(EK (decide (a=0)),0)else(0,-1)
structure PSt where
 mem:ar
 next:Int
 pos:Nat
 out:ar
 steps:Int
 opened:Int
inductive Got(α:Type)where
 |ok(a:α)(s:PSt)
 |stop(k c:Int)(s:PSt)
structure RFn where
 nm:cV
 wk:Bool
 pa:Int
 va:Int
 A:aX
 c:Nat
 blks:List ay
 qA:aX
 qc:Nat
 bS:List (aX×Nat×ar)
structure Env0 where
 fns:List RFn
 names:List (cV×Int)
 data:List (cV×Int)
 inp:ar
 qd:Nat
 fuel:Int
def atS(n:Int)(s:PSt):Got Nat:=if n<1∨n≥s.next then .stop 5 0 s else .ok n.toNat s
def a0(l:ar):Int:=l.getD 0 0
def a1(l:ar):Int:=l.getD 1 0
theorem PA{n:Int}{s:PSt}(h:n<1∨n≥s.next):atS n s= .stop 5 0 s:=by unfold atS;rw[dd h]
end Go.Mor
namespace Go.Mor
open Go.RowKit
abbrev KN:=List (Bool×Int)
def XU(kn:KN)(v:Int):Bool:=(kn.getD v.toNat (false,0)).1
def qv(kn:KN)(v:Int):Int:=(kn.getD v.toNat (false,0)).2
def wu(kn:KN)(l:ar):Bool:=l.all (XU kn)
def mi(kn:KN)(i:aO):Int×Int:=if 40≤i.op then Gh (i.op-40) (qv kn (i.args.getD 0 0))else nI (i.op-16) (qv kn (i.args.getD 0 0)) (qv kn (i.args.getD 1 0))
def q0(kn:KN)(i:aO):Prop:=16<i.op∧wu kn i.args=true∧(mi kn i).2=0
instance (kn : KN) (i : aO) : Decidable (q0 kn i) := by unfold q0; infer_instance
def Ar(kn:KN)(e v:Int):Prop:=e=1∧XU kn v=true
instance (kn : KN) (e v : Int) : Decidable (Ar kn e v) := by unfold Ar; infer_instance
def wB(x:gO):Nat:=(x.insts.filter (fun i=>decide (16<i.op))).length+(if x.e=1 then 1 else 0)
end Go.Mor
namespace Go.Mor
open Go.RowKit
theorem Fa:In64 0:=⟨dQ,dQ⟩
def sX(ks:List gO):List aO:=ks.flatMap (fun x=>x.insts)
theorem NQ:aU 1:=by unfold aU;omega
def oo(l:List aO)(z:KN):KN:=l.foldl (fun kn i=>if i.op=1 then kn.set i.dst.toNat (true,i.n)else kn) z
def qN(ks:List gO)(n:Nat):KN:=oo (sX ks) (List.replicate n (false,0))
theorem BX(l:List aO)(z:KN):(oo l z).length=z.length:=by
 unfold oo;induction l generalizing z with
 |nil=>rfl
 |cons i l ih=>rw[List.foldl_cons,ih];split<;>simp
theorem Xl(l:List aO)(i:aO)(z:KN):oo (l++[i]) z=if i.op=1 then(oo l z).set i.dst.toNat (true,i.n)else oo l z:=by unfold oo;rw[Qf3];rfl
end Go.Mor
namespace Go.Mor
open Go.RowKit
theorem XV{α β:Type}{f:α→Nat}{g:β→Nat}:∀{l:List α} {m:List β},qF (fun a b=>g b≤f a) l m→(m.map g).sum≤(l.map f).sum
 |[],[],_=>Qjn _
 |[],b::m,h=>by have:=h.1;simp at this
 |a::l,[],h=>by have:=h.1;simp at this
 |a::l,b::m,h=>by have h1:=h.2 0 a b rfl rfl;have h2:=XV (l:=l) (m:=m) ⟨by have:=h.1;simpa using this,fun i x y hx hy=>h.2 (i+1) x y hx hy⟩;rw[lR,lR,B5,B5];omega
theorem Qd5{α β:Type}{f:α→Nat}{g:β→Nat}:∀{l:List α} {m:List β},qF (fun a b=>g b≤f a) l m→∀{k:Nat} {a:α} {b:β},l[k]?=some a→m[k]?=some b→g b<f a→(m.map g).sum<(l.map f).sum
 |[],m,_,k,a,b,hl,_,_=>by simp at hl
 |a::l,[],h,_,_,_,_,_,_=>by have:=h.1;simp at this
 |a::l,b::m,h,k,x,y,hx,hy,fm=>by
  have h1:=h.2 0 a b rfl rfl;have h3:qF (fun a b=>g b≤f a) l m:=⟨by have:=h.1;simpa using this,fun i x y hx hy=>h.2 (i+1) x y hx hy⟩;rw[lR,lR,B5,B5];cases k with
  |zero=>
   injection hx with hx;injection hy with hy;subst hx;subst hy;have h2:=XV h3;omega
  |succ k=>
   have h2:=Qd5 h3 hx hy fm;omega
def KW(x:gO):Nat:=if x.gone then 0 else 1
theorem Rk(ks:List gO):(pP ks).length=(ks.map KW).sum:=by
 induction ks with
 |nil=>rfl
 |cons x ks ih=>
  rw[lR,B5,←ih];unfold pP KW;rw[Qjz];cases x.gone<;>simp<;>omega
section
variable {ks ms : List gO} {kn : KN} {nm : ByteArray} {pa va : Int}
theorem T1(ks:List gO):qF (fun x y=>y.insts.length≤x.insts.length∧y.ah.length≤x.ah.length∧wB y≤wB x∧KW y≤KW x) ks (kg ks):=by
 refine⟨(o2 ks).symm,fun k x y hx hy=> ?_⟩;rw[tn hx]at hy;injection hy with hy;subst hy;unfold sj;split
 ·refine⟨Qdv _,Qdv _,?_,Qdv _⟩;show(([]:List aO).filter _).length+(if(2:Int)=1 then 1 else 0)≤_;simp
 ·exact⟨Qjn _,by show(x.ah.map _).length≤_;rw[QjN];exact Qjn _,Qjn _,Qjn _⟩
theorem qF.imp{α β:Type}{R S:α→β→Prop}{l:List α}{m:List β}(h:qF R l m)(hi:∀a b,R a b→S a b):qF S l m:=⟨h.1,fun i a b ha hb=>hi a b (h.2 i a b ha hb)⟩
theorem Po(ks:List gO):hY (fK (kg ks))≤hY (fK ks):=by
 rw[vR,vR,o2];have:=XV (f:=fun x:gO=>x.ah.length+x.insts.length) (g:=fun x:gO=>x.ah.length+x.insts.length) ((T1 ks).imp fun _ _ h=>by have:=h.1;have:=h.2.1;omega);omega
def sP(ks:List gO):Prop:=∀x,x∈ks→x.insts.map aO.e0=x.insts
def Xq(ks:List gO):Prop:=∀x,x∈ks→(∀i,i∈x.insts→i.Ok)∧In64 x.e∧In64 x.v∧In64 x.a∧In64 x.b∧(∀p,p∈x.ah→In64 p.dst)
theorem Qbo(h:sP ks):sP (kg ks):=by
 intro y hy;obtain⟨k,hk⟩:=jF.1 hy;obtain⟨x,hx⟩:=qH hk;rw[tn hx]at hk;injection hk with hk;subst hk;unfold sj;split
 ·rfl
 ·exact h x (Qcs hx)
theorem Qdd(h:Xq ks):Xq (kg ks):=by
 intro y hy;obtain⟨k,hk⟩:=jF.1 hy;obtain⟨x,hx⟩:=qH hk;rw[tn hx]at hk;injection hk with hk;subst hk;obtain⟨h0,h1,h2,h3,h4,h5⟩:=h x (Qcs hx);unfold sj;split
 ·exact⟨(by intro i hi;cases hi),⟨by show(-9223372036854775808:Int)≤2;omega,by show(2:Int)≤9223372036854775807;omega⟩,⟨by show(-9223372036854775808:Int)≤-1;omega,by show(-1:Int)≤9223372036854775807;omega⟩,h3,h4,(by intro p hp;cases hp)⟩
 ·refine⟨h0,h1,h2,h3,h4,fun p hp=> ?_⟩;obtain⟨q,hq,rfl⟩:=jd.1 (show p∈x.ah.map _ from hp);exact h5 q hq
end
end Go.Mor
namespace Go.Mor
open Go.RowKit
inductive Dr:List aO→List aO→Prop
 |nil:Dr [] []
 |keep {i:aO} {l m:List aO}:Dr l m→Dr (i::l) (i::m)
 |drop {i:aO} {l m:List aO}:i.op=11→Dr l m→Dr (i::l) m
theorem Dr.sub{l m:List aO}(h:Dr l m):m.Sublist l:=by
 induction h with
 |nil=>exact .slnil
 |keep _ ih=>exact ih.cons_cons _
 |drop _ _ ih=>exact ih.cons _
theorem Dr.app{l m l' m':List aO}(h:Dr l m)(h':Dr l' m'):Dr (l++l') (m++m'):=by
 induction h with
 |nil=>exact h'
 |keep _ ih=>exact .keep ih
 |drop e _ ih=>exact .drop e ih
structure Qnu(l m:List aO)(f:Nat→Nat):Prop where
 up:∀i j,i<j→f i<f j
 get:∀(j:Nat) (i:aO),m[j]?=some i→l[f j]?=some i
 kept:∀(k:Nat) (i:aO),l[k]?=some i→i.op≠11→∃j,f j=k∧m[j]?=some i
theorem Dr.pos{l m:List aO}(h:Dr l m):∃f,Qnu l m f:=by
 induction h with
 |nil=>exact⟨id,fun _ _ h=>h,fun j i h=>by simp at h,fun k i h=>by simp at h⟩
 | @keep i l m _ ih=>
  obtain⟨f,hf⟩:=ih;refine⟨fun j=>match j with|0=>0|j+1=>f j+1,fun a b Hl=> ?_,fun j a ha=> ?_,fun k a ha ho=> ?_⟩
  ·cases b with
   |zero=>omega
   |succ b=>cases a with
    |zero=>show 0<f b+1;omega
    |succ a=>show f a+1<f b+1;have:=hf.up a b oM;omega
  ·cases j with
   |zero=>exact ha
   |succ j=>exact hf.get j a ha
  ·cases k with
   |zero=>exact⟨0,rfl,ha⟩
   |succ k=>
    obtain⟨j,h1,h2⟩:=hf.kept k a ha ho;exact⟨j+1,by show f j+1=k+1;omega,h2⟩
 | @drop i l m he _ ih=>
  obtain⟨f,hf⟩:=ih;refine⟨fun j=>f j+1,fun a b Hl=>by have:=hf.up a b Hl;show f a+1<f b+1;omega,fun j a ha=>hf.get j a ha,fun k a ha ho=> ?_⟩;cases k with
  |zero=>injection ha with ha;subst ha;exact absurd he ho
  |succ k=>
   obtain⟨j,h1,h2⟩:=hf.kept k a ha ho;exact⟨j,by show f j+1=k+1;omega,h2⟩
theorem Qnu.le{l m:List aO}{f:Nat→Nat}(h:Qnu l m f)(j:Nat):j≤f j:=by
 induction j with
 |zero=>omega
 |succ j ih=>have:=h.up j (j+1) oM;omega
structure Tb(x y:gO):Prop where
 gone:y.gone=x.gone
 ah:y.ah=x.ah
 insts:(Dr x.insts y.insts∧y.e=x.e∧y.v=x.v∧y.a=x.a∧y.b=x.b)∨(x.gone=false∧(∃p s,x.insts=p++s∧Dr p y.insts)∧y.e=3∧cN y.a∧y.v=0∧y.b=0)
theorem Tb.pos{x y:gO}(h:Tb x y):∃f:Nat→Nat,(∀i j,i<j→f i<f j)∧(∀(j:Nat) (i:aO),y.insts[j]?=some i→x.insts[f j]?=some i)∧(∀j,j≤f j)∧∀(k:Nat) (i:aO),x.insts[k]?=some i→i.op≠11→(∃j,f j=k∧y.insts[j]?=some i)∨(y.e=3∧∀(j:Nat) (i:aO),y.insts[j]?=some i→f j<k):=by
 rcases h.insts with⟨hd,_⟩|⟨_,⟨p,s,e,hd⟩,he,_⟩
 ·obtain⟨f,hf⟩:=hd.pos;exact⟨f,hf.up,hf.get,hf.le,fun k i hk ho=> .inl (hf.kept k i hk ho)⟩
 ·obtain⟨f,hf⟩:=hd.pos;have fm:∀(j:Nat) (i:aO),y.insts[j]?=some i→f j<p.length:=fun j i hj=>(List.getElem?_eq_some_iff.1 (hf.get j i hj)).1
  refine⟨f,hf.up,fun j i hj=> ?_,hf.le,fun k i hk ho=> ?_⟩
  ·rw[e,List.getElem?_append_left (fm j i hj)];exact hf.get j i hj
  ·by_cases Ti:k<p.length
   ·rw[e,List.getElem?_append_left Ti]at hk;exact .inl (hf.kept k i hk ho)
   ·exact .inr ⟨he,fun j a hj=>by have:=fm j a hj;omega⟩
theorem Tb.sub{x y:gO}(h:Tb x y):y.insts.Sublist x.insts:=by
 rcases h.insts with⟨hd,_⟩|⟨_,⟨p,s,e,hd⟩,_⟩
 ·exact hd.sub
 ·rw[e];exact hd.sub.trans (List.sublist_append_left p s)
theorem Tb.tg{x y:gO}(h:Tb x y):wL y=wL x∨wL y=[]:=by
 rcases h.insts with⟨_,e1,_,e3,e4⟩|⟨_,_,e,_⟩
 ·left;unfold wL;rw[e1,e3,e4]
 ·right;unfold wL;rw[QcA oM,QcA oM]
theorem Tb.O9{N:Int}{x y:gO}(h:Tb x y)(he:O9 N x):O9 N y:=by
 unfold Go.Mor.O9 at he⊢;rcases h.insts with⟨_,e1,e2,e3,e4⟩|⟨_,_,e1,e2,e3,e4⟩
 ·rwa [e1,e2,e3,e4]
 ·exact .inr (.inr (.inr ⟨e1,e2,e3,e4⟩))
section
variable {ks ms : List gO} {nm : ByteArray} {pa va : Int}
theorem QjJ(hl:qF Tb ks ms){t:Int}:mB ks t→mB ms t:=by
 rintro⟨i,x,rfl,hx,hg⟩;obtain⟨y,hy,hb⟩:=hl.fwd hx;exact .mk' hy (by rw[hb.gone,hg])
theorem Qkh(hc:Pf ks)(hl:qF Tb ks ms){i:Nat}{x y:gO}(hx:ks[i]?=some x)(hy:ms[i]?=some y):tK ms (i:Int)=wL y:=by
 have hb:=hl.2 i x y hx hy;rw[Xj hy];cases hg:x.gone with
 |true=>
  obtain⟨_,_,h3,_⟩:=hc.gone x (Qcs hx) hg;rcases hb.insts with⟨_,e,_⟩|⟨hg2,_⟩
  ·rw[Qd (by rw[e,h3])];unfold wL;rw[QcA oM,QcA oM]
  ·rw[hg]at hg2;cases hg2
 |false=>
  have:=hb.O9 (hc.ends x (Qcs hx) hg);rw[hl.1]at this;exact Qc0 this
theorem Qh4(hc:Pf ks)(hl:qF Tb ks ms){s t:Int}(h:t∈tK ms s):t∈tK ks s:=by
 obtain⟨i,y,rfl,hy⟩:=ZC h;obtain⟨x,hx,hb⟩:=hl.bwd hy;rw[Qkh hc hl hx hy]at h;rw[hc.at_ hx];rcases hb.tg with e|e
 ·rwa [e]at h
 ·rw[e]at h;cases h
theorem Qmn(hc:Pf ks)(hl:qF Tb ks ms):Pf ms:=by
 refine⟨QjJ hl hc.zero,fun y hy hg=> ?_,fun y hy hg=> ?_,fun s t ht=>QjJ hl (hc.vj s t (Qh4 hc hl ht))⟩
 ·obtain⟨i,hi⟩:=jF.1 hy;obtain⟨x,hx,hb⟩:=hl.bwd hi;rw[←hl.1];exact hb.O9 (hc.ends x (Qcs hx) (by rw[←hb.gone,hg]))
 ·obtain⟨i,hi⟩:=jF.1 hy;obtain⟨x,hx,hb⟩:=hl.bwd hi;have uC:x.gone=true:=by rw[←hb.gone,hg]
  obtain⟨h1,h2,h3,h4⟩:=hc.gone x (Qcs hx) uC;have hs:=hb.sub;rw[h2]at hs;refine⟨by rw[hb.ah,h1],List.eq_nil_of_sublist_nil hs,?_⟩;rcases hb.insts with⟨_,e1,e2,_⟩|⟨hg2,_⟩
  ·exact⟨by rw[e1,h3],by rw[e2,h4]⟩
  ·rw[uC]at hg2;cases hg2
theorem Qmo{T:Int→ar}{c b:Int}(hr:Reach T b)(hd:Dm T c b)(cU:c≠b):T c≠[]:=by
 intro e;have key:∀x,Reach T x→x=c∨(x≠c∧(c≠0→Reach (Cq T c) x)∧(c=0→x=0)):=by
  intro x hx;induction hx with
  |zero=>
   by_cases h:(0:Int)=c
   ·exact .inl h
   ·exact .inr ⟨h,fun _=> .zero,fun h2=>absurd h2.symm h⟩
  | @step y t hy ht ih=>
   by_cases h:t=c
   ·exact .inl h
   rcases ih with ih|⟨h1,h2,h3⟩
   ·rw[ih,e]at ht;cases ht
   ·refine .inr ⟨h,fun Py=> .step (h2 Py) (im.2 ⟨ht,h⟩),fun Py=> ?_⟩;have:=h3 Py;exact absurd (this.trans Py.symm) h1
 rcases key b hr with h|⟨h1,h2,h3⟩
 ·exact cU h.symm
 ·by_cases Py:c=0
  ·exact h1 ((h3 Py).trans Py.symm)
  ·exact hd ⟨Py,h2 Py⟩
theorem QjP(hl:qF Tb ks ms)(h:ey pa va (bF (fK ks))):ey pa va (bF (fK ms)):=by
 refine⟨fun d hd=> ?_,?_⟩
 ·obtain⟨v,c,m⟩:=d;obtain⟨i,z,hz,rfl,hq⟩:=sq.1 hd;obtain⟨y,hy,rfl⟩:=NL hz;obtain⟨x,hx,hb⟩:=hl.bwd hy;obtain⟨f,_,rh,_⟩:=hb.pos;rcases hq with⟨rfl,p,hp,hdp⟩|⟨j,a,ha,hm,hda,rfl⟩
  ·have hp:p∈y.ah.map (fun p=>(⟨p.dst,none,0,p.args⟩:bI)):=hp;rw[hb.ah]at hp;exact h.1 (v,(i:Int),-1) (sq.2 ⟨i,x.f,K3 hx,rfl,.inl ⟨rfl,p,hp,hdp⟩⟩)
  ·exact h.1 (v,(i:Int),(f j:Int)) (sq.2 ⟨i,x.f,K3 hx,rfl,.inr ⟨f j,a,rh j a ha,hm,hda,rfl⟩⟩)
 ·have h2:=h.2;rw[pf]at h2⊢;refine h2.sublist (ZL ⟨by rw[QjN,QjN,hl.1],fun i a b ha hb=> ?_⟩);obtain⟨x,hx,rfl⟩:=NL ha;obtain⟨y,hy,rfl⟩:=NL hb;have hxy:=hl.2 i x y hx hy;unfold nu;show((y.ah.map _).map _++(y.insts.filter _).map _).Sublist ((x.ah.map _).map _++(x.insts.filter _).map _);rw[hxy.ah];exact(Qdr _).append ((hxy.sub.filter _).map _)
theorem Qlv(h:vU nm pa va ks)(hl:qF Tb ks ms){b:Nat}{x y:gO}(hx:ks[b]?=some x)(hy:ms[b]?=some y)(hr:Reach (tK ms) (b:Int)){v q q':Int}(hq:∀(k:Nat) (i:aO),x.insts[k]?=some i→aU i.op→(k:Int)<q→∃j:Nat,y.insts[j]?=some i∧(j:Int)<q')(hq0:(-1:Int)<q→(-1:Int)<q')(ha:rX pa va ks v (b:Int) q):rX pa va ms v (b:Int) q':=by
 have hc:=h.UT;have j5:∀x t:Int,t∈tK ms x→t∈tK ks x:=fun x t ht=>Qh4 hc hl ht
 obtain⟨h1,h2,h3⟩:=(u3 h.once.2).1 ha;refine(u3 (QjP hl h.once).2).2 ⟨h1,h2,?_⟩;rcases h3 with h3|⟨c,m,hd,h3⟩
 ·exact .inl h3
 obtain⟨ci,z,hz,rfl,hdq⟩:=sq.1 hd;obtain⟨xc,hxc,rfl⟩:=NL hz;obtain⟨yc,hyc,hbc⟩:=hl.fwd hxc;right;rcases h3 with⟨e,h4⟩|⟨cU,h4⟩
 ·have:ci=b:=oM;subst this;rw[hx]at hxc;injection hxc with hxc;subst hxc;rw[hy]at hyc;injection hyc with hyc;subst hyc;rcases hdq with⟨rfl,p,hp,hdp⟩|⟨k,i,hi,hm,HO,rfl⟩
  ·refine⟨(ci:Int),-1,sq.2 ⟨ci,y.f,K3 hy,rfl,.inl ⟨rfl,p,?_,hdp⟩⟩,.inl ⟨rfl,hq0 h4⟩⟩;show p∈y.ah.map (fun p=>(⟨p.dst,none,0,p.args⟩:bI));rw[hbc.ah];exact hp
  ·obtain⟨j,hj,hjq⟩:=hq k i hi hm h4;exact⟨(ci:Int),(j:Int),sq.2 ⟨ci,y.f,K3 hy,rfl,.inr ⟨j,i,hj,hm,HO,rfl⟩⟩,.inl ⟨rfl,hjq⟩⟩
 ·have hdm:=Qd1 j5 h4;have Hx:=Qmo hr hdm cU;rw[Qkh hc hl hxc hyc]at Hx;have Ps:¬yc.e=3:=fun e=>Hx (by unfold wL;rw[QcA oM,QcA oM])
  rcases hdq with⟨rfl,p,hp,hdp⟩|⟨k,i,hi,hm,HO,rfl⟩
  ·refine⟨(ci:Int),-1,sq.2 ⟨ci,yc.f,K3 hyc,rfl,.inl ⟨rfl,p,?_,hdp⟩⟩,.inr ⟨cU,hdm⟩⟩;show p∈yc.ah.map (fun p=>(⟨p.dst,none,0,p.args⟩:bI));rw[hbc.ah];exact hp
  ·obtain⟨g,_,_,_,hk⟩:=hbc.pos;rcases hk k i hi (fun e=>by rw[e]at hm;unfold aU at hm;omega)with⟨j,_,hj⟩|⟨e3,_⟩
   ·exact⟨(ci:Int),(j:Int),sq.2 ⟨ci,yc.f,K3 hyc,rfl,.inr ⟨j,i,hj,hm,HO,rfl⟩⟩,.inr ⟨cU,hdm⟩⟩
   ·exact absurd e3 Ps
theorem QjR(h:vU nm pa va ks)(hl:qF Tb ks ms):vU nm pa va ms:=by
 have hc:=h.UT;have j5:∀x t:Int,t∈tK ms x→t∈tK ks x:=fun x t ht=>Qh4 hc hl ht
 have hr:∀{t:Int},Reach (tK ms) t→Reach (tK ks) t:=fun ht=>EL j5 ht
 have bk:∀{y:gO},y∈ms→∃(i:Nat) (x:gO),ks[i]?=some x∧x∈ks∧Tb x y:=fun {y} hy=>by obtain⟨i,hi⟩:=jF.1 hy;obtain⟨x,hx,hb⟩:=hl.bwd hi;exact⟨i,x,hx,Qcs hx,hb⟩
 have CF:∀{k:Nat} {x y:gO} {v:Int},ks[k]?=some x→ms[k]?=some y→Reach (tK ms) (k:Int)→y.e≠3→rX pa va ks v (k:Int) 20000→rX pa va ms v (k:Int) 20000:=by
  intro k x y v hx hy YQ he ha;obtain⟨f,_,_,hle,hk⟩:=(hl.2 k x y hx hy).pos;refine Qlv h hl hx hy YQ (fun m i hi hm fm=> ?_) (fun _=>oM) ha;rcases hk m i hi (fun e=>by rw[e]at hm;unfold aU at hm;omega)with⟨j,h1,h2⟩|⟨e3,_⟩
  ·have:=hle j;exact⟨j,h2,oM⟩
  ·exact absurd e3 he
 refine⟨Qmn hc hl,h.name,h.par,fun y hy=> ?_,fun s hs=>h.QgM s (j5 _ _ hs),fun y hy i hi=> ?_,QjP hl h.once,fun y hy i hi a ha=> ?_,fun y hy hf=> ?_,fun k y hy hk j i hi a ha=> ?_,fun k y hy hk hf=> ?_,fun k y hy p hp=> ?_⟩
 ·obtain⟨x,hx,hb⟩:=hl.bwd hy;rw[hb.ah];exact h.uJ x hx
 ·obtain⟨_,x,_,pj,hb⟩:=bk hy;exact h.Xv x pj i (hb.sub.mem hi)
 ·obtain⟨_,x,_,pj,hb⟩:=bk hy;exact h.iv x pj i (hb.sub.mem hi) a ha
 ·obtain⟨_,x,_,pj,hb⟩:=bk hy;rcases hb.insts with⟨_,e1,e2,_⟩|⟨_,_,e1,_⟩
  ·rw[e1,e2]at hf;rw[e2];exact h.fv x pj hf
  ·omega
 ·obtain⟨x,hx,hb⟩:=hl.bwd hy;obtain⟨f,Tu,rh,_,Qoc⟩:=hb.pos;have yX:=h.ins k x hx (hr hk) (f j) i (rh j i hi) a ha;refine Qlv h hl hx hy hk (fun m i' ln hm fm=> ?_) (fun _=>oM) yX;rcases Qoc m i' ln (fun e=>by rw[e]at hm;unfold aU at hm;omega)with⟨j',h1,h2⟩|⟨_,h3⟩
  ·refine⟨j',h2,?_⟩;rcases iO j' j with h4|h4
   ·omega
   ·exfalso;rcases Nat.lt_or_eq_of_le h4 with h5|h5
    ·have:=Tu j j' h5;omega
    ·subst h5;omega
  ·have:=h3 j i hi;omega
 ·obtain⟨x,hx,hb⟩:=hl.bwd hy;rcases hb.insts with⟨_,e1,e2,_⟩|⟨_,_,e1,_⟩
  ·have h9:=CF hx hy hk oM (h.fin k x hx (hr hk) (by rw[e1,e2]at hf;exact hf));rw[e2];exact h9
  ·omega
 ·obtain⟨x,hx,hb⟩:=hl.bwd hy;rw[hb.ah]at hp;have hP:=h.pK k x hx p hp;refine⟨hP.len,hP.nd,by rw[←hl.1];exact hP.yW,fun s hs=>hP.all s (j5 _ _ hs),hP.QbQ,fun i s a hs ha hrs xG=> ?_⟩;obtain⟨si,ys,rfl,hys⟩:=ZC xG;obtain⟨xs,hxs,Ig⟩:=hl.bwd hys;refine CF hxs hys hrs ?_ (hP.av i _ a hs ha (hr hrs) (j5 _ _ xG));intro e;rw[Qkh hc hl hxs hys]at xG;unfold wL at xG;rw[QcA oM,QcA oM]at xG;cases xG
end
end Go.Mor
namespace Go.Mor
open Go.RowKit
theorem Qkz{T:Int→ar}{k at_:Int}(h:∀s,at_∈T s→s=k)(h0:at_≠0):Dm T k at_:=by
 rintro⟨hk,hr⟩;have key:∀t,Reach (Cq T k) t→t=at_→False:=by
  intro t ht e;cases ht with
  |zero=>exact h0 e.symm
  | @step s _ hs qZ=>
   have:=h s (e▸(im.1 qZ).1);exact QjI hk hs this
 exact key _ hr rfl
def Qbm(d o v:Int):Int:=if v=d then o else v
def xL(e v:Int):Prop:=e=1∨(e=2∧0≤v)
instance (e v : Int) : Decidable (xL e v) := by unfold xL; infer_instance
def QhD(d o:Int)(p:vb):vb:={p with args:=p.args.map (Qbm d o)}
def QdM(d o:Int)(i:aO):aO:={i with args:=i.args.map (Qbm d o)}
def Qez(d o:Int)(x:gO):gO:={x with ah:=(x.ah.filter (fun p=>p.dst !=d)).map (QhD d o),insts:=x.insts.map (QdM d o),v:=if xL x.e x.v then Qbm d o x.v else x.v}
def Lc(d o:Int)(ks:List gO):List gO:=ks.map (Qez d o)
section
variable {ks : List gO} {nm : ByteArray} {pa va : Int} {k at_ : Nat} {x : gO} {d o : Int}
theorem Qh5(hx:ks[k]?=some x):(Lc d o ks)[k]?=some (Qez d o x):=by unfold Lc;rw[List.getElem?_map,hx];rfl
theorem Lf{y:gO}(hy:(Lc d o ks)[k]?=some y):∃x,ks[k]?=some x∧y=Qez d o x:=by
 unfold Lc at hy;rw[List.getElem?_map,Jo]at hy;obtain⟨x,hx,rfl⟩:=hy;exact⟨x,hx,rfl⟩
theorem QkA(ks:List gO)(d o:Int):tK (Lc d o ks)=tK ks:=by
 refine lJ ?_;unfold Lc;rw[Qcn,Qcn,Qcn];rfl
theorem Qmp(h:vU nm pa va ks)(hs:∀s,(at_:Int)∈tK ks s→s=(k:Int))(h0:at_≠0)(cU:k≠at_)(hr:Reach (tK ks) (at_:Int))(ha:rX pa va ks o (k:Int) 20000):rX pa va ks o (at_:Int) (-1):=by
 obtain⟨h1,h2,h3⟩:=(u3 h.once.2).1 ha;have hd:=Qkz hs oM;refine(u3 h.once.2).2 ⟨h1,h2,h3.imp id fun⟨c,m,hdf,h4⟩=>⟨c,m,hdf,.inr ?_⟩⟩;rcases h4 with⟨rfl,_⟩|⟨hck,h4⟩
 ·exact⟨oM,hd⟩
 ·refine⟨fun e=> ?_,h4.trans hd⟩;subst e;have:=Dm.Qns (Dm.reach hr hd) h4 hd;omega
theorem Qfv(h:vU nm pa va ks)(hd:(d,(at_:Int),(-1:Int))∈bF (fK ks)){v c m:Int}:(v,c,m)∈bF (fK (Lc d o ks))↔(v,c,m)∈bF (fK ks)∧v≠d:=by
 have one:∀{p q:Int×Int},(d,p)∈bF (fK ks)→(d,q)∈bF (fK ks)→p=q:=fun {p q} h1 h2=>by have e1:=(xB h.once.2).2 h1;have e2:=(xB h.once.2).2 h2;rw[e1]at e2;injection e2
 rw[sq,sq];constructor
 ·rintro⟨i,z,hz,rfl,hq⟩;obtain⟨y,hy,rfl⟩:=NL hz;obtain⟨x,hx,rfl⟩:=Lf hy;rcases hq with⟨rfl,p,hp,hdp⟩|⟨j,a,ha,hm,hda,rfl⟩
  ·obtain⟨q,hq,rfl⟩:=jd.1 (show p∈((x.ah.filter (fun p=>p.dst !=d)).map (QhD d o)).map (fun p=>(⟨p.dst,none,0,p.args⟩:bI))from hp);obtain⟨r,hr,rfl⟩:=jd.1 hq;obtain⟨Zd,ZN⟩:=Qjr.1 hr;have hdp:r.dst=v:=hdp;exact⟨⟨i,x.f,K3 hx,rfl,.inl ⟨rfl,_,jd.2 ⟨r,Zd,rfl⟩,hdp⟩⟩,by rw[←hdp];simpa using ZN⟩
  ·have ha:(x.insts.map (QdM d o))[j]?=some a:=ha;rw[List.getElem?_map,Jo]at ha;obtain⟨b,hb,rfl⟩:=ha;refine⟨⟨i,x.f,K3 hx,rfl,.inr ⟨j,b,hb,hm,hda,rfl⟩⟩,fun e=> ?_⟩;have h2:(d,(i:Int),(j:Int))∈bF (fK ks):=sq.2 ⟨i,x.f,K3 hx,rfl,.inr ⟨j,b,hb,hm,by rw[←e];exact hda,rfl⟩⟩;have:=one hd h2;injection this with _ h3;omega
 ·rintro⟨⟨i,z,hz,rfl,hq⟩,cU⟩;obtain⟨x,hx,rfl⟩:=NL hz;refine⟨i,_,K3 (Qh5 hx),rfl,?_⟩;rcases hq with⟨rfl,p,hp,hdp⟩|⟨j,a,ha,hm,hda,rfl⟩
  ·obtain⟨q,hq,rfl⟩:=jd.1 (show p∈x.ah.map (fun p=>(⟨p.dst,none,0,p.args⟩:bI))from hp);have hdp:q.dst=v:=hdp;refine .inl ⟨rfl,⟨q.dst,none,0,q.args.map (Qbm d o)⟩,?_,hdp⟩;exact jd.2 ⟨QhD d o q,jd.2 ⟨q,Qjr.2 ⟨hq,by rw[hdp];simpa using cU⟩,rfl⟩,rfl⟩
  ·refine .inr ⟨j,QdM d o a,?_,hm,hda,rfl⟩;show(x.insts.map (QdM d o))[j]?=_;rw[List.getElem?_map,show x.insts[j]?=some a from ha];rfl
theorem Qfw(h:vU nm pa va ks)(hd:(d,(at_:Int),(-1:Int))∈bF (fK ks)):ey pa va (bF (fK (Lc d o ks))):=by
 refine⟨fun e he=>h.once.1 e ((Qfv h hd).1 he).1,?_⟩;have h2:=h.once.2;rw[pf]at h2⊢;refine h2.sublist (ZL ⟨by unfold Lc;rw[QjN,QjN,QjN],fun i a b ha hb=> ?_⟩);obtain⟨x,hx,rfl⟩:=NL ha;obtain⟨y,hy,rfl⟩:=NL hb;rw[Qh5 hx]at hy;injection hy with hy;subst hy;unfold nu;show((((x.ah.filter _).map _).map _).map _++((x.insts.map (QdM d o)).filter _).map _).Sublist ((x.ah.map _).map _++(x.insts.filter _).map _);refine List.Sublist.append ?_ ?_
 ·rw[Qcn,Qcn,Qcn];exact(QjC (l:=x.ah)).map _
 ·rw[NI,Qcn];exact Qdr _
theorem Qmq(h:vU nm pa va ks)(hd:(d,(at_:Int),(-1:Int))∈bF (fK ks))(ho:rX pa va ks o (at_:Int) (-1)):o≠d:=by
 obtain⟨g1,g2,g3⟩:=(u3 h.once.2).1 ho;have hpd:pa≤d:=(h.once.1 _ hd).1;rintro rfl;rcases g3 with g3|⟨c,m,hc,g3⟩
 ·omega
 ·have e1:=(xB h.once.2).2 hc;have e2:=(xB h.once.2).2 hd;rw[e1]at e2;injection e2 with e;injection e with e1 e2;rcases g3 with⟨_,g3⟩|⟨g3,_⟩
  ·omega
  ·exact g3 e1
theorem Qh6(h:vU nm pa va ks)(hd:(d,(at_:Int),(-1:Int))∈bF (fK ks))(ho:rX pa va ks o (at_:Int) (-1)){v b q:Int}(hr:Reach (tK ks) b)(ha:rX pa va ks v b q):rX pa va (Lc d o ks) (Qbm d o v) b q:=by
 have one:∀{w:Int} {p q:Int×Int},(w,p)∈bF (fK ks)→(w,q)∈bF (fK ks)→p=q:=fun {w p q} h1 h2=>by have e1:=(xB h.once.2).2 h1;have e2:=(xB h.once.2).2 h2;rw[e1]at e2;injection e2
 obtain⟨h1,h2,h3⟩:=(u3 h.once.2).1 ha;obtain⟨g1,g2,g3⟩:=(u3 h.once.2).1 ho;have hpd:=(h.once.1 _ hd).1;have hpd:pa≤d:=hpd;have yy:o≠d:=by
  rintro rfl;rcases g3 with g3|⟨c,m,hc,g3⟩
  ·omega
  ·have e:=one hc hd;injection e with e1 e2;rcases g3 with⟨_,g3⟩|⟨g3,_⟩
   ·omega
   ·exact g3 e1
 unfold rX;rw[QkA];by_cases e:v=d
 ·subst e;unfold Qbm;rw[dd rfl];refine(u3 (Qfw h hd).2).2 ⟨g1,g2,g3.imp id fun⟨c,m,hc,g4⟩=>⟨c,m,(Qfv h hd).2 ⟨hc,yy⟩,?_⟩⟩;rcases g4 with⟨_,g4⟩|⟨hca,g4⟩
  ·obtain⟨i,z,hz,rfl,hq⟩:=sq.1 hc;rcases hq with⟨rfl,_⟩|⟨j,_,_,_,_,rfl⟩<;>omega
  right;rcases h3 with h3|⟨c',m',K4,h3⟩
  ·omega
  have e1:=one K4 hd;injection e1 with e1 e2;subst e1;rcases h3 with⟨rfl,_⟩|⟨cU,h3⟩
  ·exact⟨hca,g4⟩
  ·refine⟨fun e3=> ?_,g4.trans h3⟩;subst e3;exact hca (Dm.Qns (Dm.reach hr h3) g4 h3)
 ·unfold Qbm;rw[QcA e];exact(u3 (Qfw h hd).2).2 ⟨h1,h2,h3.imp id fun⟨c,m,hc,h4⟩=>⟨c,m,(Qfv h hd).2 ⟨hc,e⟩,h4⟩⟩
theorem Qk1(h:vU nm pa va ks)(ht:EJ ks)(hd:(d,(at_:Int),(-1:Int))∈bF (fK ks))(ho:rX pa va ks o (at_:Int) (-1)):vU nm pa va (Lc d o ks)∧EJ (Lc d o ks):=by
 have hT:=QkA ks d o;have hlen:(Lc d o ks).length=ks.length:=by unfold Lc;rw[QjN]
 have Qnv:∀v:Int,0≤v∧v<va→0≤Qbm d o v∧Qbm d o v<va:=fun v hv=>by
  unfold Qbm;split
  ·exact⟨ho.1,ho.2.1⟩
  ·exact hv
 have hlv:∀{t:Int},mB (Lc d o ks) t↔mB ks t:=fun {t}=>by
  constructor
  ·rintro⟨i,y,rfl,hy,hg⟩;obtain⟨x,hx,rfl⟩:=Lf hy;exact .mk' hx hg
  ·rintro⟨i,x,rfl,hx,hg⟩;exact .mk' (Qh5 hx) hg
 have bk:∀{y:gO},y∈Lc d o ks→∃x,x∈ks∧y=Qez d o x:=fun {y} hy=>by obtain⟨x,hx,rfl⟩:=jd.1 (show y∈ks.map (Qez d o)from hy);exact⟨x,hx,rfl⟩
 refine⟨⟨⟨hlv.2 h.UT.zero,fun y hy hg=> ?_,fun y hy hg=> ?_,fun s t qZ=>hlv.2 (h.UT.vj s t (by rw[←hT];exact qZ))⟩,h.name,h.par,fun y hy=> ?_,fun s=>by rw[hT];exact h.QgM s,fun y hy i hi=> ?_,Qfw h hd,fun y hy i hi a ha=> ?_,fun y hy hf=> ?_,fun k y hy hk j i hi a ha=> ?_,fun k y hy hk hf=> ?_,fun k y hy p hp=> ?_⟩,⟨fun t hl=>by rw[hT];exact ht.reach t (hlv.1 hl),fun k y hy p hp s hs=> ?_⟩⟩
 ·obtain⟨x,hx,rfl⟩:=bk hy;rw[hlen];have he:=h.UT.ends x hx hg;unfold O9 at he⊢;show(x.e=0∧_∧(if xL x.e x.v then Qbm d o x.v else x.v)=0∧_)∨_∨_∨(x.e=3∧_∧(if xL x.e x.v then Qbm d o x.v else x.v)=0∧_);rcases he with⟨e,h1,h2,h3⟩|he|he|⟨e,h1,h2,h3⟩
  ·exact .inl ⟨e,h1,by rw[QcA (by unfold xL;omega)];exact h2,h3⟩
  ·exact .inr (.inl he)
  ·exact .inr (.inr (.inl he))
  ·exact .inr (.inr (.inr ⟨e,h1,by rw[QcA (by unfold xL;omega)];exact h2,h3⟩))
 ·obtain⟨x,hx,rfl⟩:=bk hy;obtain⟨h1,h2,h3,h4⟩:=h.UT.gone x hx hg;refine⟨by show(x.ah.filter _).map _=[];rw[h1];rfl,by show x.insts.map _=[];rw[h2];rfl,h3,?_⟩;show(if xL x.e x.v then Qbm d o x.v else x.v)= -1;rw[QcA (by unfold xL;omega)];exact h4
 ·obtain⟨x,hx,rfl⟩:=Lf hy;show(x.ah.filter _).map _=[];rw[h.uJ x hx];rfl
 ·obtain⟨x,hx,rfl⟩:=bk hy;obtain⟨a,ha,rfl⟩:=jd.1 (show i∈x.insts.map _ from hi);have:=h.Xv x hx a ha;unfold bJ at this⊢;show(aU a.op∨a.dst= -1)∧_;have Vh:(QdM d o a).args.length=a.args.length:=by show(a.args.map _).length=_;rw[QjN]
  simp only[Vh];exact this
 ·obtain⟨x,hx,rfl⟩:=bk hy;obtain⟨b,hb,rfl⟩:=jd.1 (show i∈x.insts.map _ from hi);obtain⟨c,hc,rfl⟩:=jd.1 (show a∈b.args.map _ from ha);exact Qnv c (h.iv x hx b hb c hc)
 ·obtain⟨x,hx,rfl⟩:=bk hy;have hf:x.e=1∨(x.e=2∧(if xL x.e x.v then Qbm d o x.v else x.v)≠-1):=hf;show 0≤(if xL x.e x.v then Qbm d o x.v else x.v)∧_;by_cases vi:xL x.e x.v
  ·have hv:0≤x.v∧x.v<va:=h.fv x hx (by unfold xL at vi;omega);show 0≤(if xL x.e x.v then Qbm d o x.v else x.v)∧(if xL x.e x.v then Qbm d o x.v else x.v)<va;rw[dd vi];exact Qnv _ hv
  ·rw[QcA vi]at hf;have hv:0≤x.v∧x.v<va:=h.fv x hx hf;exfalso;unfold xL at vi;omega
 ·obtain⟨x,hx,rfl⟩:=Lf hy;rw[hT]at hk;have hi:(x.insts.map (QdM d o))[j]?=some i:=hi;rw[List.getElem?_map,Jo]at hi;obtain⟨b,hb,rfl⟩:=hi;obtain⟨c,hc,rfl⟩:=jd.1 (show a∈b.args.map _ from ha);exact Qh6 h hd ho hk (h.ins k x hx hk j b hb c hc)
 ·obtain⟨x,hx,rfl⟩:=Lf hy;rw[hT]at hk;have hf:x.e=1∨(x.e=2∧(if xL x.e x.v then Qbm d o x.v else x.v)≠-1):=hf;show rX pa va _ (if xL x.e x.v then Qbm d o x.v else x.v) (k:Int) 20000;by_cases vi:xL x.e x.v
  ·rw[dd vi];exact Qh6 h hd ho hk (h.fin k x hx hk (by unfold xL at vi;omega))
  ·rw[QcA vi]at hf;have hv:0≤x.v∧x.v<va:=h.fv x (Qcs hx) hf;exfalso;unfold xL at vi;omega
 ·obtain⟨x,hx,rfl⟩:=Lf hy;obtain⟨q,hq,rfl⟩:=jd.1 (show p∈(x.ah.filter _).map _ from hp);have hP:=h.pK k x hx q (Qjr.1 hq).1;refine⟨by show(q.args.map _).length=_;rw[QjN];exact hP.len,hP.nd,by rw[hlen];exact hP.yW,fun s hs=>hP.all s (by rw[←hT];exact hs),fun a ha=> ?_,fun i s a hs ha hrs xG=> ?_⟩
  ·obtain⟨c,hc,rfl⟩:=jd.1 (show a∈q.args.map _ from ha);exact Qnv c (hP.QbQ c hc)
  ·have ha:(q.args.map (Qbm d o))[i]?=some a:=ha;rw[List.getElem?_map,Jo]at ha;obtain⟨c,hc,rfl⟩:=ha;rw[hT]at hrs xG;exact Qh6 h hd ho hrs (hP.av i s c hs hc hrs xG)
 ·obtain⟨x,hx,rfl⟩:=Lf hy;obtain⟨q,hq,rfl⟩:=jd.1 (show p∈(x.ah.filter _).map _ from hp);rw[hT];exact ht.bS k x hx q (Qjr.1 hq).1 s hs
end
end Go.Mor
namespace Go.Mor
open Go.RowKit
structure Ctr(U U':Int→ar)(k a:Int):Prop where
 same:∀s,s≠k→s≠a→U' s=U s
 out:U' k=U a
 one:∀t,t∈U k↔t=a
 src:∀s,a∈U s→s=k
 a0:a≠0
 ne:k≠a
theorem Ctr.fwd{U U':Int→ar}{k a:Int}(h:Ctr U U' k a){t:Int}(hr:Reach U' t):Reach U t∧t≠a:=by
 induction hr with
 |zero=>exact⟨.zero,fun e=>h.a0 e.symm⟩
 | @step s t _ ht ih=>
  obtain⟨h1,h2⟩:=ih;by_cases e:s=k
  ·subst e;rw[h.out]at ht;have ha:Reach U a:= .step h1 ((h.one a).2 rfl);exact⟨.step ha ht,fun e=>h.ne ((h.src a (e▸ht)).symm)⟩
  ·rw[h.same s e h2]at ht;exact⟨.step h1 ht,fun e2=>e (h.src s (e2▸ht))⟩
theorem Ctr.bwd{U U':Int→ar}{k a:Int}(h:Ctr U U' k a){t:Int}(hr:Reach U t):(t≠a→Reach U' t)∧(t=a→Reach U' k):=by
 induction hr with
 |zero=>exact⟨fun _=> .zero,fun e=>absurd e.symm h.a0⟩
 | @step s t _ ht ih=>
  by_cases ea:s=a
  ·subst ea;have hk:=ih.2 rfl;exact⟨fun _=> .step hk (by rw[h.out];exact ht),fun _=>hk⟩
  ·by_cases ek:s=k
   ·subst ek;have:=(h.one t).1 ht;exact⟨fun e=>absurd this e,fun _=>ih.1 ea⟩
   ·exact⟨fun _=> .step (ih.1 ea) (by rw[h.same s ek ea];exact ht),fun e=>absurd (h.src s (e▸ht)) ek⟩
theorem Ctr.Cq{U U':Int→ar}{k a:Int}(h:Ctr U U' k a){c:Int}(hc:c≠a):Ctr (Cq U c) (Cq U' c) k a:=⟨fun s h1 h2=>by unfold Go.Mor.Cq;rw[h.same s h1 h2],by unfold Go.Mor.Cq;rw[h.out],fun t=>by rw[im,h.one];exact⟨fun h=>h.1,fun e=>⟨e,fun e2=>hc (e2.symm.trans e)⟩⟩,fun s hs=>h.src s (im.1 hs).1,h.a0,h.ne⟩
theorem Ctr.dm{U U':Int→ar}{k a:Int}(h:Ctr U U' k a){c b:Int}(hc:c≠a)(hb:b≠a):Dm U' c b↔Dm U c b:=by
 unfold Dm;exact not_congr (and_congr Qi1 ⟨fun hr=>((h.Cq hc).fwd hr).1,fun hr=>((h.Cq hc).bwd hr).1 hb⟩)
def oH(a k s:Int):Int:=if s=a then k else s
def QeA(a k:Int)(p:vb):vb:={p with from_:=p.from_.map (oH a k)}
def Qd6(a k:Int)(x:gO):gO:={x with ah:=x.ah.map (QeA a k)}
def QeU(b x:gO):gO:={b with insts:=b.insts++x.insts,e:=x.e,v:=x.v,a:=x.a,b:=x.b}
def vn(k a:Nat)(x:gO)(i:Nat)(y:gO):gO:=if i=k then QeU (Qd6 a k y) x else if i=a then QgN y else Qd6 a k y
def rN(ks:List gO)(k a:Nat)(x:gO):List gO:=ks.zipIdx.map (fun q=>vn k a x q.2 q.1)
theorem rL{ks:List gO}{k a i:Nat}{x y:gO}(hy:ks[i]?=some y):(rN ks k a x)[i]?=some (vn k a x i y):=by
 unfold rN;rw[List.getElem?_map,List.getElem?_zipIdx,hy];simp
theorem sh(ks:List gO)(k a:Nat)(x:gO):(rN ks k a x).length=ks.length:=by simp[rN]
theorem Qeb{ks:List gO}{k a i:Nat}{x z:gO}(hz:(rN ks k a x)[i]?=some z):∃y,ks[i]?=some y∧z=vn k a x i y:=by
 obtain⟨y,hy⟩:=bu (l:=ks) (i:=i) (by rw[←sh ks k a x];exact(List.getElem?_eq_some_iff.1 hz).1);rw[rL hy]at hz;injection hz with hz;exact⟨y,hy,hz.symm⟩
theorem Qdb:∀(l:List Nat) (i:Nat) (v:Nat) {u:Nat},l[i]?=some u→(l.set i v).sum+u=l.sum+v
 |[],i,v,u,h=>by simp at h
 |a::l,0,v,u,h=>by injection h with h;subst h;simp;omega
 |a::l,i+1,v,u,h=>by have:=Qdb l i v (u:=u) h;simp only[QdT,B5];omega
theorem Qh9{l m:List Nat}{k a u v:Nat}(cU:k≠a)(Qf:m.length=l.length)(hk:l[k]?=some u)(ha:l[a]?=some v)(ja:m[k]?=some (u+v))(nQ:m[a]?=some 0)(ho:∀i,i≠k→i≠a→m[i]?=l[i]?):m.sum=l.sum:=by
 have e:m=(l.set k (u+v)).set a 0:=by
  refine QdX fun i=> ?_
  have Vh:=(List.getElem?_eq_some_iff.1 ha).1;have Jm:=(List.getElem?_eq_some_iff.1 hk).1;rw[List.getElem?_set,List.getElem?_set];by_cases e1:a=i
  ·subst e1;rw[dd rfl,u6,dd Vh,nQ]
  ·rw[QcA e1];by_cases e2:k=i
   ·subst e2;rw[dd rfl,dd Jm,ja]
   ·rw[QcA e2];exact ho i (fun h=>e2 h.symm) (fun h=>e1 h.symm)
 have h1:=Qdb l k (u+v) hk;have h2:=Qdb (l.set k (u+v)) a 0 (u:=v) (by rw[List.getElem?_set_ne cU];exact ha);rw[e];omega
structure Jn(nm:cV)(pa va:Int)(ks:List gO)(k a:Nat)(b x:gO):Prop where
 UH:vU nm pa va ks
 tight:EJ ks
 hb:ks[k]?=some b
 hx:ks[a]?=some x
 bg:b.gone=false
 be:b.e=0
 ba:b.a=(a:Int)
 ne:k≠a
 xp:x.ah=[]
 src:∀s,(a:Int)∈tK ks s→s=(k:Int)
 len:b.insts.length+x.insts.length≤20000
section
variable {nm : ByteArray} {pa va : Int} {ks : List gO} {k a : Nat} {b x : gO}
theorem Jn.tk(h:Jn nm pa va ks k a b x):tK ks (k:Int)=[(a:Int)]:=by
 rw[h.UH.UT.at_ h.hb,Qnw h.be,h.ba]
where Qnw {x : gO} (e : x.e = 0) : wL x = [x.a] := by unfold wL; rw [if_pos e]
theorem Jn.a0(h:Jn nm pa va ks k a b x):(a:Int)≠0:=by
 intro e;refine h.UH.QgM (k:Int) ?_;rw[h.tk,e];simp
theorem Jn.xg(h:Jn nm pa va ks k a b x):x.gone=false:=QfU h.hx (h.UH.UT.vj (k:Int) (a:Int) (by rw[h.tk];simp))
theorem QjT(h:Jn nm pa va ks k a b x):tK (rN ks k a x) (k:Int)=tK ks (a:Int)∧tK (rN ks k a x) (a:Int)=[]∧∀s:Int,s≠(k:Int)→s≠(a:Int)→tK (rN ks k a x) s=tK ks s:=by
 refine⟨?_,?_,fun s h1 h2=> ?_⟩
 ·rw[Xj (rL h.hb),Xj h.hx,sh];unfold vn;rw[dd rfl];rfl
 ·rw[Xj (rL h.hx)];unfold vn;rw[QcA (fun e=>h.ne e.symm),dd rfl];exact Qd rfl
 ·by_cases hr:0≤s∧s<(ks.length:Int)
  ·obtain⟨y,hy⟩:=bu (l:=ks) (i:=s.toNat) oM;have e:s=(s.toNat:Int):=oM;rw[e,Xj (rL hy),Xj hy,sh];unfold vn;rw[QcA oM,QcA oM];rfl
  ·have h3:tK ks s=[]:=uI (by rw[QeC];omega);have h4:tK (rN ks k a x) s=[]:=uI (by rw[QeC,sh];omega);rw[h3,h4]
theorem Jn.ctr(h:Jn nm pa va ks k a b x):Ctr (tK ks) (tK (rN ks k a x)) (k:Int) (a:Int):=by
 obtain⟨h1,_,h3⟩:=QjT h;exact⟨fun s e1 e2=>h3 s e1 e2,h1,fun t=>by rw[h.tk];simp,h.src,h.a0,by have:=h.ne;omega⟩
theorem Qbr(h:Jn nm pa va ks k a b x){v c m:Int}:(v,c,m)∈bF (fK (rN ks k a x))↔(c≠(a:Int)∧(v,c,m)∈bF (fK ks))∨(c=(k:Int)∧∃m0:Int,0≤m0∧m0<(x.insts.length:Int)∧m=(b.insts.length:Int)+m0∧(v,(a:Int),m0)∈bF (fK ks)):=by
 rw[sq];constructor
 ·rintro⟨i,z,hz,rfl,hq⟩;obtain⟨w,hw,rfl⟩:=NL hz;obtain⟨y,hy,rfl⟩:=Qeb hw;unfold vn at hq;by_cases ek:i=k
  ·subst ek;rw[dd rfl]at hq;rw[h.hb]at hy;injection hy with hy;subst hy;rcases hq with⟨rfl,p,hp,hd⟩|⟨j,i',hi,hm,hd,rfl⟩
   ·obtain⟨q,hq,rfl⟩:=jd.1 (show p∈((b.ah.map (QeA a i)).map (fun p=>(⟨p.dst,none,0,p.args⟩:bI)))from hp);obtain⟨r,hr,rfl⟩:=jd.1 hq;exact .inl ⟨by have:=h.ne;omega,sq.2 ⟨i,b.f,K3 h.hb,rfl,.inl ⟨rfl,_,jd.2 ⟨r,hr,rfl⟩,hd⟩⟩⟩
   ·have hi:(b.insts++x.insts)[j]?=some i':=hi;by_cases hj:j<b.insts.length
    ·rw[List.getElem?_append_left hj]at hi;exact .inl ⟨by have:=h.ne;omega,sq.2 ⟨i,b.f,K3 h.hb,rfl,.inr ⟨j,i',hi,hm,hd,rfl⟩⟩⟩
    ·rw[List.getElem?_append_right oM]at hi;have hl:=(List.getElem?_eq_some_iff.1 hi).1;exact .inr ⟨rfl,((j-b.insts.length:Nat):Int),oM,oM,oM,sq.2 ⟨a,x.f,K3 h.hx,rfl,.inr ⟨j-b.insts.length,i',hi,hm,hd,rfl⟩⟩⟩
  ·rw[QcA ek]at hq;by_cases ea:i=a
   ·rw[dd ea]at hq;rcases hq with⟨_,p,hp,_⟩|⟨j,i',hi,_⟩
    ·cases(show p∈([]:List bI)from hp)
    ·have:([]:List aO)[j]?=some i':=hi;simp at this
   ·rw[QcA ea]at hq;refine .inl ⟨oM,sq.2 ⟨i,y.f,K3 hy,rfl,?_⟩⟩;rcases hq with⟨rfl,p,hp,hd⟩|hq
    ·obtain⟨q,hq,rfl⟩:=jd.1 (show p∈((y.ah.map (QeA a k)).map (fun p=>(⟨p.dst,none,0,p.args⟩:bI)))from hp);obtain⟨r,hr,rfl⟩:=jd.1 hq;exact .inl ⟨rfl,_,jd.2 ⟨r,hr,rfl⟩,hd⟩
    ·exact .inr hq
 ·rintro(⟨hca,hd⟩|⟨rfl,m0,h0,h1,rfl,hd⟩)
  ·obtain⟨i,z,hz,rfl,hq⟩:=sq.1 hd;obtain⟨y,hy,rfl⟩:=NL hz;refine⟨i,_,K3 (rL hy),rfl,?_⟩;unfold vn;by_cases ek:i=k
   ·subst ek;rw[dd rfl];rcases hq with⟨rfl,p,hp,hdp⟩|⟨j,i',hi,hm,HO,rfl⟩
    ·obtain⟨r,hr,rfl⟩:=jd.1 (show p∈y.ah.map (fun p=>(⟨p.dst,none,0,p.args⟩:bI))from hp);exact .inl ⟨rfl,⟨r.dst,none,0,r.args⟩,jd.2 ⟨QeA a i r,jd.2 ⟨r,hr,rfl⟩,rfl⟩,hdp⟩
    ·refine .inr ⟨j,i',?_,hm,HO,rfl⟩;have hi:y.insts[j]?=some i':=hi;show(y.insts++x.insts)[j]?=_;rw[List.getElem?_append_left (List.getElem?_eq_some_iff.1 hi).1];exact hi
   ·rw[QcA ek,QcA (fun e=>hca (by rw[e]))];rcases hq with⟨rfl,p,hp,hdp⟩|hq
    ·obtain⟨r,hr,rfl⟩:=jd.1 (show p∈y.ah.map (fun p=>(⟨p.dst,none,0,p.args⟩:bI))from hp);exact .inl ⟨rfl,⟨r.dst,none,0,r.args⟩,jd.2 ⟨QeA a k r,jd.2 ⟨r,hr,rfl⟩,rfl⟩,hdp⟩
    ·exact .inr hq
  ·obtain⟨i,z,hz,hi,hq⟩:=sq.1 hd;have:i=a:=oM;subst this;obtain⟨y,hy,rfl⟩:=NL hz;rw[h.hx]at hy;injection hy with hy;subst hy;rcases hq with⟨rfl,_⟩|⟨j,i',ln,hm,HO,rfl⟩
   ·omega
   ·refine⟨k,_,K3 (rL h.hb),rfl,.inr ⟨b.insts.length+j,i',?_,hm,HO,oM⟩⟩;unfold vn;rw[dd rfl];show(b.insts++x.insts)[b.insts.length+j]?=_;rw[List.getElem?_append_right oM,Nat.add_sub_cancel_left];exact ln
theorem Qlw(h:Jn nm pa va ks k a b x){v m:Int}(hd:(v,(a:Int),m)∈bF (fK ks)):0≤m∧m<(x.insts.length:Int):=by
 obtain⟨i,z,hz,hi,hq⟩:=sq.1 hd;have:i=a:=oM;subst this;obtain⟨y,hy,rfl⟩:=NL hz;rw[h.hx]at hy;injection hy with hy;subst hy;rcases hq with⟨_,p,hp,_⟩|⟨j,i',ln,_,_,rfl⟩
 ·have hp:p∈x.ah.map (fun p=>(⟨p.dst,none,0,p.args⟩:bI)):=hp;rw[h.xp]at hp;cases hp
 ·have:=(List.getElem?_eq_some_iff.1 ln).1;have:j<x.insts.length:=this;omega
theorem Qod(h:Jn nm pa va ks k a b x){v m:Int}(hd:(v,(k:Int),m)∈bF (fK ks)):m<(b.insts.length:Int):=by
 obtain⟨i,z,hz,hi,hq⟩:=sq.1 hd;have:i=k:=oM;subst this;obtain⟨y,hy,rfl⟩:=NL hz;rw[h.hb]at hy;injection hy with hy;subst hy;rcases hq with⟨rfl,_⟩|⟨j,i',ln,_,_,rfl⟩
 ·omega
 ·have:=(List.getElem?_eq_some_iff.1 ln).1;have:j<b.insts.length:=this;omega
theorem Qlx(b x:gO)(hp:x.ah=[])(a k:Int):(QeU (Qd6 a k b) x).f.ah.map (fun p=>p.dst)=b.f.ah.map (fun p=>p.dst)∧nu (QeU (Qd6 a k b) x).f=nu b.f++nu x.f:=by
 have e1:(QeU (Qd6 a k b) x).f.ah.map (fun p=>p.dst)=b.f.ah.map (fun p=>p.dst):=by show((b.ah.map (QeA a k)).map _).map _=(b.ah.map _).map _;rw[Qcn,Qcn,Qcn];rfl
 refine⟨e1,?_⟩;unfold nu;rw[e1];show _++((b.insts++x.insts).filter _).map _=(_++(b.insts.filter _).map _)++((x.ah.map _).map _++(x.insts.filter _).map _);rw[xH,Qjy,hp];simp
theorem Qed(h:Jn nm pa va ks k a b x):ey pa va (bF (fK (rN ks k a x))):=by
 refine⟨fun d hd=> ?_,?_⟩
 ·obtain⟨v,c,m⟩:=d;rcases(Qbr h).1 hd with⟨_,h1⟩|⟨_,m0,_,_,_,h1⟩
  ·exact h.UH.once.1 _ h1
  ·exact h.UH.once.1 (v,(a:Int),m0) h1
 ·have h2:=h.UH.once.2;rw[pf]at h2⊢;rw[List.nodup_iff_count]at h2⊢;intro u;rw[List.count_flatMap];have h3:=h2 u;rw[List.count_flatMap]at h3;refine pX (Nat.le_of_eq ?_) h3;have at_:∀{l:List gO} {i:Nat} {y:gO},l[i]?=some y→((fK l).map (List.count u∘nu))[i]?=some (List.count u (nu y.f)):=fun {l i y} hy=>by rw[List.getElem?_map,K3 hy];rfl
  refine Qh9 h.ne (by rw[QjN,QjN,QjN,QjN,sh]) (at_ h.hb) (at_ h.hx) ?_ ?_ fun i CO ff=> ?_
  ·rw[at_ (rL h.hb)];unfold vn;rw[dd rfl,(Qlx b x h.xp a k).2,List.count_append]
  ·rw[at_ (rL h.hx)];unfold vn;rw[QcA (fun e=>h.ne e.symm),dd rfl];rfl
  ·cases hy:ks[i]? with
   |none=>
    have hl:=List.getElem?_eq_none_iff.1 hy;rw[List.getElem?_eq_none (by rw[QjN,QjN,sh];exact hl),List.getElem?_eq_none (by rw[QjN,QjN];exact hl)]
   |some y=>
    rw[at_ (rL hy),at_ hy];unfold vn;rw[QcA CO,QcA ff];congr 2;unfold nu;congr 1;show((y.ah.map (QeA a k)).map _).map _=(y.ah.map _).map _;rw[Qcn,Qcn,Qcn];rfl
end
end Go.Mor
