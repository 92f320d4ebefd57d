/-
  Texts of the proof, part 11.
-/
import Derived.Test.YtjekgaabcigphaaGreatZc10
import Derived.Test.YtjekgaabcigphaaGreatRows
set_option maxRecDepth 10000
namespace Go.Proofs.YtjekgaabcigphaaGreat
open Go.Mor
theorem Qe3(l:af)(k:Int)(A:ao)(c:Nat)(w:World)(hm:l.length≤1000000)(hA:RO aX w (.rd A (ints l))):Calls Tryz.prog 64 #[vS A l.length c,vI k] w (ff fun v w'=>v=vB (l.contains k)∧Mem aX w w' []):=by
 refine gF 18 [vS A l.length c,vI k] Tryz.func64 ?_;have hM:=Mem.init w;refine aW<|aU<|aW<|cC 0 ?_;intro aC fr;refine fX (fun n_ a_ w_=>∃(j:Nat),n_=l.length-j∧Fr a_ 18 [(0,vS A l.length c),(1,vI k),(5,nV j)]∧Mem aX w w_ []∧(j≤l.length)∧((l.take j).contains k=false)) (n:=_) ⟨0,rfl,fr.kp [0,1,5],hM,oM,sI⟩ ?_;clear fr aC hM;rintro n aC w3 ⟨j,rfl,fr,M4,hj,hn⟩;revert aC;refine aU<|aG<|ae 3<|k9 (decide ((j:Int)<(l.length:Int))) fun B7 yg=> ?_
 refine au ?_;cases B7;have c7:¬((j:Int)<(l.length:Int)):=bP yg.symm;refine gE<|fP 0<|fQ<|aW<|bG<|cK (vB false) ?_;exact⟨by rw[Qbx hn oM],M4⟩;have c7:(j:Int)<(l.length:Int):=bK yg.symm;refine fY<|bN<|aU<|cC 1<|aG<|ae 2 ?_;obtain⟨wI,rfl⟩:=ek (M4.ro hA) oM;refine eM wI l.length 1 (j:Int)<|bB (aN wI (j:Int) 1) _ (cY (M4.ro hA) rfl oM oM)<|ae 1<|k9 ((l.getD (j:Int).toNat 0)==k) fun I2 oW=> ?_
 refine au ?_;cases I2;have s4:¬((l.getD (j:Int).toNat 0)=k):=K2 oW;refine gE<|bN<|cN<|ae 1<|dw ((j:Int)+1)<|ae 1<|au ?_;intro aC fr;exact⟨l.length-(j+1),oM,j+1,rfl,fr.kp [0,1,5],M4,oM,Qm hn s4 oM⟩;have s4:(l.getD (j:Int).toNat 0)=k:=ax.1 oW.symm;refine fY<|aW<|bG<|da<|da<|cK (vB true) ?_;exact⟨by rw[V5 s4 oM],M4⟩
theorem zu(nm wk pa va:Value)(A:ao)(c:Nat)(bs:List SB)(b:Int)(w:World)(_hm:bs.length≤1000000)(hA:RO aX w (.blocks A bs)):Calls Tryz.prog 65 #[(.agg #[nm,wk,pa,va,vS A bs.length c]),vI b] w (ff fun v w'=>∃A' c',v=vS A' (tg bs b).length c'∧Mem aX w w' [.row 3 1 A' (tg bs b).length c' (ints (tg bs b))]):=by
 refine gF 74 [(.agg #[nm,wk,pa,va,vS A bs.length c]),vI b] Tryz.func65 ?_;have hM:=Mem.init w;refine aG<|lO hM 35 (.agg #[nm,wk,pa,va,vS A bs.length c]) [nm,wk,pa,va,vS A bs.length c] fun b1 w2 iW M3=> ?_
 replace M3:=M3.nf;clear hM;refine ae 1<|au<|aU<|aG<|ae 1<|k9 (decide (b<0)) fun Blo Gb=> ?_
 refine ae 1 ?_;cases Blo;have clo:¬(b<0):=bP Gb.symm;refine ae 2<|bB (ah b1 4) _ (aa (M3.get 0 rfl) rfl)<|ae 1<|k9 (decide (b≥(bs.length:Int))) fun Bhi I3=> ?_
 refine ae 1<|au ?_;cases Bhi;have chi:¬(b≥(bs.length:Int)):=bP I3.symm;refine gE<|bN<|aG ?_;obtain⟨x,hx⟩:=Ql (l:=bs) (i:=b) oM oM;refine ae 1<|bB (ah b1 4) _ (aa (M3.get 0 rfl) rfl)<|ae 1 ?_;obtain⟨jK,rfl⟩:=eV (M3.ro hA) hx;refine eM jK bs.length 6 b<|gS (aN jK (b) 6) [vS x.pA x.pn x.pc,vS x.iA x.ik x.ic,vI x.e,vI x.v,vI x.a,vI x.b] (sR (M3.ro hA) rfl hx)<|m8 M3 46 [ag,ag,vI 0,vI 0,vI 0,vI 0] fun b5 w6 hb5 M7=> ?_
 replace M7:=M7.nf;refine nG M7 1 [vS x.pA x.pn x.pc,vS x.iA x.ik x.ic,vI x.e,vI x.v,vI x.a,vI x.b] rfl fun w8 M9=> ?_
 replace M9:=M9.nf;refine cU [2,5]<|au<|aW<|aU ?_;intro aC fr;refine B0 (fun a_ w_=>Fr a_ 74 [(2,pT b1 0),(5,pT b5 0),(6,ag)]∧Mem aX w w_ [.aL b1 35 [nm,wk,pa,va,vS (some jK) bs.length c],.aL b5 46 [vS x.pA x.pn x.pc,vS x.iA x.ik x.ic,vI x.e,vI x.v,vI x.a,vI x.b]]∧(x.e=0∨x.e=1)) ?_ ?_;clear fr aC M9;rintro aC I4 ⟨fr,mQ,he⟩;revert aC;refine aU ?_;intro aC fr;refine B0 (fun a_ w_=>∃(A1:ao) (n1:Nat) (c1:Nat) (l1:af),Fr a_ 74 [(2,pT b1 0),(5,pT b5 0),(6,vS A1 n1 c1)]∧Mem aX w w_ [.aL b1 35 [nm,wk,pa,va,vS (some jK) bs.length c],.aL b5 46 [vS x.pA x.pn x.pc,vS x.iA x.ik x.ic,vI x.e,vI x.v,vI x.a,vI x.b],.row 3 1 A1 n1 c1 (ints l1)]∧(l1=Vi bs.length x)∧(n1=l1.length)) ?_ ?_;clear fr aC mQ;rintro aC I5 ⟨A1,n1,c1,l1,fr,kA,s5,vE⟩;revert aC;refine aU ?_;intro aC fr;refine B0 (fun a_ w_=>∃(A2:ao) (n2:Nat) (c2:Nat) (l2:af),Fr a_ 74 [(6,vS A2 n2 c2)]∧Mem aX w w_ [.aL b1 35 [nm,wk,pa,va,vS (some jK) bs.length c],.aL b5 46 [vS x.pA x.pn x.pc,vS x.iA x.ik x.ic,vI x.e,vI x.v,vI x.a,vI x.b],.row 3 1 A2 n2 c2 (ints l2)]∧(l2=Vi bs.length x++rt2 bs.length x)∧(n2=l2.length)) ?_ ?_;clear fr aC kA;rintro aC w24 ⟨A2,n2,c2,l2,fr,AV,Fj,D9⟩;revert aC;refine aW<|bG<|cK (vS A2 n2 c2) ?_;exact pq (AV.pick [false,false,true] rfl) (by rw[Fj,rt_eq he,y3 oM hx]) D9;revert aC;refine aG<|ae 1<|bB (ah b5 2) _ (aa (kA.get 1 rfl) rfl)<|k9 (x.e==1) fun Bf1 Qe4=> ?_
 refine ae 1 ?_;cases Bf1;have cf1:¬(x.e=1):=K2 Qe4;refine ae 19<|au<|gE<|bN ?_;intro aC fr;exact⟨A1,n1,c1,l1,fr.kp [6],kA,by rw[DE oM,mm];exact s5,vE⟩;have cf1:x.e=1:=ax.1 Qe4.symm;refine ae 1<|bB (ah b5 5) _ (aa (kA.get 1 rfl) rfl)<|ae 1<|bB (ah b5 4) _ (aa (kA.get 1 rfl) rfl)<|k9 (x.b !=x.a) fun Bab Ea=> ?_
 refine ae 2 ?_;cases Bab;have cab:¬(x.b≠x.a):=znn Ea;refine ae 12<|au<|gE<|bN ?_;intro aC fr;exact⟨A1,n1,c1,l1,fr.kp [6],kA,by rw[DE oM,mm];exact s5,vE⟩;have cab:x.b≠x.a:=de.1 Ea.symm;refine ae 1<|bB (ah b5 5) _ (aa (kA.get 1 rfl) rfl)<|k9 (decide (x.b≥0)) fun Bb0 Qe5=> ?_
 refine ae 2 ?_;cases Bb0;have cb0:¬(x.b≥0):=bP Qe5.symm;refine ae 7<|au<|gE<|bN ?_;intro aC fr;exact⟨A1,n1,c1,l1,fr.kp [6],kA,by rw[DE oM,mm];exact s5,vE⟩;have cb0:x.b≥0:=bK Qe5.symm;refine ae 1<|bB (ah b5 5) _ (aa (kA.get 1 rfl) rfl)<|ae 1<|bB (ah b1 4) _ (aa (kA.get 0 rfl) rfl)<|ae 1<|k9 (decide (x.b<(bs.length:Int))) fun Bb1 Qe6=> ?_
 refine ae 1<|au ?_;cases Bb1;have cb1:¬(x.b<(bs.length:Int)):=bP Qe6.symm;refine gE<|bN ?_;intro aC fr;exact⟨A1,n1,c1,l1,fr.kp [6],kA,by rw[DE oM,mm];exact s5,vE⟩;have cb1:x.b<(bs.length:Int):=bK Qe6.symm;refine fY<|cN<|ae 2<|bB (ah b5 5) _ (aa (kA.get 1 rfl) rfl)<|cU [68,70] ?_;intro aC fr;refine p6 71 40 1 #[(0,.tmp 70)] 40 fr (e:=3) (size:=1) (zs:=[vI 0]) (vs:=[(0,vI x.b)]) (cs:=[vI x.b]) kA ?_;intro b36 w37 hb36 _ Eb _ aC ea fr;clear ea;replace Eb:=Eb.nf;refine F0 72 (.tmp 68) (.tmp 71) 40 40 fr (e:=3) (size:=1) (bytes:=8) (z:=(vI 0)) (A:=A1) (B:=(sM b36)) (n:=n1) (cap:=c1) (m:=1) (cap':=1) (xs:=(ints l1)) (news:=[vI x.b]) Eb 2 rfl (aF (Eb.get 3 rfl)) rfl (by simp[Value.oneCell']) (by have:=KP bs.length x;rw[s5]at vE;omega) (by have:=KP bs.length x;rw[s5]at vE;simp only[maxLen];omega) ?_;intro A43 WI w45 Pq _ aC ea fr;clear ea;replace Pq:=Pq.nf;have p7:=Pq.od [2,2,2] 3;revert aC;refine ae 1<|au ?_;intro aC fr;exact⟨A43,(n1+1),WI,l1++[x.b],fr.kp [6],p7.cast (by rw[gl];rfl),by rw[Wa oM oM oM oM,s5],by simp[vE]⟩;revert aC;refine aG<|ae 1<|bB (ah b5 4) _ (aa (mQ.get 1 rfl) rfl)<|k9 (decide (x.a≥0)) fun Ba0 Qe7=> ?_
 refine ae 1 ?_;cases Ba0;have ca0:¬(x.a≥0):=bP Qe7.symm;refine ae 7<|au<|gE<|bN ?_;intro aC fr;exact⟨none,0,0,[],fr.kp [2,5,6],mQ.call (Mem.gb _ 3 1),(Qo oM).symm,rfl⟩;have ca0:x.a≥0:=bK Qe7.symm;refine ae 1<|bB (ah b5 4) _ (aa (mQ.get 1 rfl) rfl)<|ae 1<|bB (ah b1 4) _ (aa (mQ.get 0 rfl) rfl)<|ae 1<|k9 (decide (x.a<(bs.length:Int))) fun Ba1 Qe8=> ?_
 refine ae 1<|au ?_;cases Ba1;have ca1:¬(x.a<(bs.length:Int)):=bP Qe8.symm;refine gE<|bN ?_;intro aC fr;exact⟨none,0,0,[],fr.kp [2,5,6],mQ.call (Mem.gb _ 3 1),(Qo oM).symm,rfl⟩;have ca1:x.a<(bs.length:Int):=bK Qe8.symm;refine fY<|cN<|ae 2<|bB (ah b5 4) _ (aa (mQ.get 1 rfl) rfl) ?_;intro aC fr;refine p6 43 40 1 #[(0,.tmp 42)] 40 fr (e:=3) (size:=1) (zs:=[vI 0]) (vs:=[(0,vI x.a)]) (cs:=[vI x.a]) mQ ?_;intro ub w57 Qh5 _ Fk _ aC ea fr;clear ea;replace Fk:=Fk.nf;have r9:=Fk.cl (Mem.gb _ 3 1);refine F0 44 (.tmp 40) (.tmp 43) 40 40 fr (e:=3) (size:=1) (bytes:=8) (z:=(vI 0)) (A:=none) (B:=(sM ub)) (n:=0) (cap:=0) (m:=1) (cap':=1) (xs:=[]) (news:=[vI x.a]) r9 3 rfl (aF (r9.get 2 rfl)) rfl (by simp[Value.oneCell']) oM (by simp only[maxLen];omega) ?_;intro WJ MR Vn qq _ aC ea fr;clear ea;replace qq:=qq.nf;have I6:=qq.od [3,2,2] 3;revert aC;refine ae 1<|au ?_;intro aC fr;exact⟨WJ,(0+1),MR,[x.a],fr.kp [2,5,6],I6,(V9 oM oM).symm,rfl⟩;revert aC;refine aG<|ae 1<|bB (ah b5 2) _ (aa (M9.get 1 rfl) rfl)<|k9 (x.e !=0) fun Be0 QW=> ?_
 refine ae 1 ?_;cases Be0;have ce0:¬(x.e≠0):=znn QW;refine ae 4<|au<|gE<|bN ?_;intro aC fr;exact⟨fr.kp [2,5,6],M9,oM⟩;have ce0:x.e≠0:=de.1 QW.symm;refine ae 1<|bB (ah b5 2) _ (aa (M9.get 1 rfl) rfl)<|k9 (x.e !=1) fun Be1 QX=> ?_
 refine ae 1<|au ?_;cases Be1;have ce1:¬(x.e≠1):=znn QX;refine gE<|bN ?_;intro aC fr;exact⟨fr.kp [2,5,6],M9,oM⟩;have ce1:x.e≠1:=de.1 QX.symm;refine fY<|aW<|bG<|cK ag ?_;exact rE (M9.pick [false,false] rfl) (by rw[y3 oM hx];exact V8 oM oM);have chi:b≥(bs.length:Int):=bK I3.symm;refine fY<|aW<|bG<|cK ag ?_;exact rE (M3.pick [false] rfl) (y2 oM);have clo:b<0:=bK Gb.symm;refine ae 6<|au<|fY<|aW<|bG<|cK ag ?_;exact rE (M3.pick [false] rfl) (y2 oM)
theorem WK(l:af)(k:Int)(A:ao)(c:Nat)(w:World)(hm:l.length≤1000000)(hA:RO aX w (.rd A (ints l))):Calls Tryz.prog 102 #[vS A l.length c,vI k] w (ff fun v w'=>v=vI (ow (fun x=>x==k) l)∧Mem aX w w' []):=by
 refine gF 19 [vS A l.length c,vI k] Tryz.func102 ?_;have hM:=Mem.init w;refine aW<|aU<|aW<|cC 0 ?_;intro aC fr;refine fX (fun n_ a_ w_=>∃(j:Nat),n_=l.length-j∧Fr a_ 19 [(0,vS A l.length c),(1,vI k),(7,(vI (l.length:Int))),(8,nV j)]∧Mem aX w w_ []∧(j≤l.length)∧((l.take j).any (fun x=>x==k)=false)) (n:=_) ⟨0,rfl,fr.kp [0,1,7,8],hM,oM,sI⟩ ?_;clear fr aC hM;rintro n aC w3 ⟨j,rfl,fr,M4,hj,hn⟩;revert aC;refine aG<|k9 (decide ((j:Int)<(l.length:Int))) fun B7 yg=> ?_
 refine au<|aU ?_;cases B7;have c7:¬((j:Int)<(l.length:Int)):=bP yg.symm;refine gE<|fP 0<|fQ<|aW<|bG<|cK (vI (-1)) ?_;exact⟨by rw[vk hn oM],M4⟩;have c7:(j:Int)<(l.length:Int):=bK yg.symm;refine fY<|bN<|aU<|cC 1<|aW<|aG<|ae 3 ?_;obtain⟨wI,rfl⟩:=ek (M4.ro hA) oM;refine eM wI l.length 1 (j:Int)<|bB (aN wI (j:Int) 1) _ (cY (M4.ro hA) rfl oM oM)<|k9 (k==(l.getD (j:Int).toNat 0)) fun I2 oW=> ?_
 refine au ?_;cases I2;have s4:¬(k=(l.getD (j:Int).toNat 0)):=K2 oW;refine gE<|bN<|cN<|dw ((j:Int)+1)<|ae 1<|au ?_;intro aC fr;exact⟨l.length-(j+1),oM,j+1,rfl,fr.kp [0,1,7,8],M4,oM,FO hn (by simpa using fun h:_=k=>s4 h.symm) oM⟩;have s4:k=(l.getD (j:Int).toNat 0):=ax.1 oW.symm;refine fY<|aW<|bG<|da<|da<|cK (nV j) ?_;exact⟨by rw[y5 hn (by simpa using s4.symm) oM],M4⟩
theorem QY(q:Nat)(nm wk pa va:Value)(A:ao)(c:Nat)(bs:List SB)(t:Int)(w:World)(_hm:bs.length≤1000000)(hq:RO aX w (.aL q 35 [nm,wk,pa,va,.slice A bs.length c])):Calls Tryz.prog 86 #[vI t,pT q 0] w (ff fun v w'=>v=vB (!(iX bs.length t))∧Mem aX w w' []):=by
 refine gF 13 [vI t,pT q 0] Tryz.func86 ?_;have hM:=Mem.init w;refine aW<|aG<|ae 1<|k9 (decide (t<0)) fun Blo Gb=> ?_
 refine ae 1 ?_;cases Blo;have clo:¬(t<0):=bP Gb.symm;refine ae 2<|bB (ah q 4) _ (aa (hM.ro hq) rfl)<|ae 1<|k9 (decide (t≥(bs.length:Int))) fun Bhi I3=> ?_
 refine ae 2<|au<|bG<|cK (vB Bhi) ?_;exact⟨by rw[I3,Qbz oM],hM⟩;have clo:t<0:=bK Gb.symm;refine ae 7<|au<|bG<|cK (vB true) ?_;exact⟨by rw[Qby oM];rfl,hM⟩
theorem QZ(l:af)(B:ao)(d:Nat)(q:Nat)(nm wk pa va:Value)(A:ao)(c:Nat)(bs:List SB)(w:World)(hll:l.length≤1000000)(hl:RO aX w (.rd B (ints l)))(hm:bs.length≤1000000)(hq:RO aX w (.aL q 35 [nm,wk,pa,va,.slice A bs.length c])):Calls Tryz.prog 105 #[vS B l.length d,(.func (.func 86) #[] #[pT q 0])] w (ff fun v w'=>v=vI (ow (fun x=> !(iX bs.length x)) l)∧Mem aX w w' []):=by
 refine gF 19 [vS B l.length d,(.func (.func 86) #[] #[pT q 0])] Tryz.func105 ?_;have hM:=Mem.init w;refine aW<|aU<|aW<|cC 0 ?_;intro aC fr;refine fX (fun n_ a_ w_=>∃(j:Nat),n_=l.length-j∧Fr a_ 19 [(0,vS B l.length d),(1,(.func (.func 86) #[] #[pT q 0])),(7,(vI (l.length:Int))),(8,nV j)]∧Mem aX w w_ []∧(j≤l.length)∧((l.take j).any (fun x=> !(iX bs.length x))=false)) (n:=_) ⟨0,rfl,fr.kp [0,1,7,8],hM,oM,sI⟩ ?_;clear fr aC hM;rintro n aC w3 ⟨j,rfl,fr,M4,hj,hn⟩;revert aC;refine aG<|k9 (decide ((j:Int)<(l.length:Int))) fun B7 yg=> ?_
 refine au<|aU ?_;cases B7;have c7:¬((j:Int)<(l.length:Int)):=bP yg.symm;refine gE<|fP 0<|fQ<|aW<|bG<|cK (vI (-1)) ?_;exact⟨by rw[vk hn oM],M4⟩;have c7:(j:Int)<(l.length:Int):=bK yg.symm;refine fY<|bN<|aU<|cC 1<|aW<|aG<|ae 3 ?_;obtain⟨wI,rfl⟩:=ek (M4.ro hl) oM;refine eM wI l.length 1 (j:Int)<|bB (aN wI (j:Int) 1) _ (cY (M4.ro hl) rfl oM oM)<|eb (QY q nm wk pa va A c bs (l.getD (j:Int).toNat 0) w3 hm (hq.at_ M4)) ?_;rintro _ w9 ⟨rfl,QbH⟩;have ia:=M4.cl QbH;obtain⟨I2,oW⟩:∃B,B=!(iX bs.length (l.getD (j:Int).toNat 0)):=⟨_,rfl⟩;refine bQ [(0,vS (some wI) l.length d),(1,(.func (.func 86) #[] #[pT q 0])),(5,nV j),(7,(vI (l.length:Int))),(8,nV j),(11,(.func (.func 86) #[] #[pT q 0])),(15,(vI (l.getD (j:Int).toNat 0))),(16,(vB (!(iX bs.length (l.getD (j:Int).toNat 0)))))] ?_;rw[←oW];refine au ?_;cases I2;have s4:(!(iX bs.length (l.getD (j:Int).toNat 0)))=false:=oW.symm;refine gE<|bN<|cN<|dw ((j:Int)+1)<|ae 1<|au ?_;intro aC fr;exact⟨l.length-(j+1),oM,j+1,rfl,fr.kp [0,1,7,8],ia,oM,FO hn s4 oM⟩;have s4:(!(iX bs.length (l.getD (j:Int).toNat 0)))=true:=oW.symm;refine fY<|aW<|bG<|da<|da<|cK (nV j) ?_;exact⟨by rw[y5 hn s4 oM],ia⟩
theorem rL(l:af)(B:ao)(d:Nat)(q:Nat)(nm wk pa va:Value)(A:ao)(c:Nat)(bs:List SB)(w:World)(hll:l.length≤1000000)(hl:(bx.row 3 1 B l.length d (ints l)).holds w)(hm:bs.length≤1000000)(hq:RO (bx.row 3 1 B l.length d (ints l)).fp w (.aL q 35 [nm,wk,pa,va,.slice A bs.length c])):Calls Tryz.prog 85 #[vS B l.length d,(.func (.func 86) #[] #[pT q 0])] w (ff fun v w'=>∃B' d',v=vS B' (l.filter (fun x=> !((fun x=> !(iX bs.length x)) x))).length d'∧Mem (bx.row 3 1 B l.length d (ints l)).fp w w' [.row 3 1 B' (l.filter (fun x=> !((fun x=> !(iX bs.length x)) x))).length d' (ints (l.filter (fun x=> !((fun x=> !(iX bs.length x)) x))))]):=by
 refine gF 42 [vS B l.length d,(.func (.func 86) #[] #[pT q 0])] Tryz.func85 ?_;have hM:=Mem.qv hl;refine aW<|aG<|ae 2<|eb (QZ l B d q nm wk pa va A c bs w hll (RO.aF (hM.df 0 rfl)) hm (hq.at_ hM)) ?_;rintro _ w1 ⟨rfl,M2x⟩;have M2:=hM.cl M2x;clear M2x hM;refine ae 1<|au<|aU<|aG<|ae 1<|k9 ((ow (fun x=> !(iX bs.length x)) l)==(-1)) fun Qe9 Q0=> ?_
 refine au ?_;cases Qe9;have Ld:¬((ow (fun x=> !(iX bs.length x)) l)=(-1)):=K2 Q0;refine gE<|bN<|aU<|aG<|ae 1<|dw (h1:=(by have:=DG (fun x=> !(iX bs.length x)) l;omega)) (h2:=(by have:=DG (fun x=> !(iX bs.length x)) l;omega)) ((ow (fun x=> !(iX bs.length x)) l)+1) ?_;refine ae 1<|au<|cC 0 ?_;obtain⟨i0,hi0,wx,MS⟩:=Iz Ld;refine cU [0,1,5,6] ?_;intro aC fr;rw[hi0]at fr;obtain⟨g0,hg0⟩:=dJ (M2.get 0 rfl) (show 0<l.length by omega);subst hg0;have hle:=yG (M2.get 0 rfl);have Qfa:(kept (fun x=> !(iX bs.length x)) l (i0+1)).length=i0:=by rw[MS];simp;omega
 have FT:((i0+1:Nat):Int)=(i0:Int)+1:=oM;replace fr:Fr aC 42 [(0,.slice (sM g0) l.length d),(1,((.func (.func 86) #[] #[pT q 0]))),(5,(vI ((kept (fun x=> !(iX bs.length x)) l (i0+1)).length:Int))),(6,(vI ((i0+1:Nat):Int)))]:=by rw[Qfa];exact fr.keep (keep:=[0,1,5,6]) kR
 refine fX (fun n_ a_ w_=>∃(j:Nat) (m:af),n_=l.length-j∧Fr a_ 42 [(0,vS (sM g0) l.length d),(1,(.func (.func 86) #[] #[pT q 0])),(5,(vI ((kept (fun x=> !(iX bs.length x)) l j).length:Int))),(6,nV j)]∧Mem ((bx.row 3 1 (sM g0) l.length d (ints l)).fp) w w_ [.row 3 1 (sM g0) l.length d (ints m)]∧(j≤l.length)∧(IA l m (kept (fun x=> !(iX bs.length x)) l j) j)) (n:=_) ⟨i0+1,l,rfl,fr.kp [0,1,5,6],M2,oM,by rw[MS];exact IB wx⟩ ?_;clear fr aC M2;rintro n aC w5 ⟨j,m,rfl,fr,M6,hj,hh⟩;revert aC;refine aU<|aG<|ae 3<|k9 (decide ((j:Int)<(l.length:Int))) fun B9 Fl=> ?_
 refine au ?_;cases B9;have c9:¬((j:Int)<(l.length:Int)):=bP Fl.symm;refine gE<|fP 0<|fQ<|aG<|ae 2 ?_;intro aC fr;have FG:j=l.length:=oM;have hkl:=hh.2.2.2;refine mH (kR:ay _ 2=some (some 38,.slice 40 (.tmp 36) (some (.tmp 37)) none none,40,none)) fr kR kR (k':=3) rfl (A:=(sM g0)) (n:=l.length) (cap:=d) (e:=3) (size:=1) (kd:= .i64) (i:=((kept (fun x=> !(iX bs.length x)) l j).length:Int)) (kept (fun x=> !(iX bs.length x)) l j).length kR kR rfl kR kR oM ?_;intro aC ea fr;clear ea;rw[aB (show¬(d=(kept (fun x=> !(iX bs.length x)) l j).length)by omega)]at fr;refine Ip (kR:ay _ 3=some (none,(.call {callee:=(.builtin .clear),args:=#[.tmp 38],argTypes:=#[40]}),0,none)) fr kR kR (k':=4) rfl (e:=3) (z:=vI 0) kR kR rfl (ad:=aZ g0) (off:=(kept (fun x=> !(iX bs.length x)) l j).length*1) (m:=l.length-(kept (fun x=> !(iX bs.length x)) l j).length) (cap':=d-(kept (fun x=> !(iX bs.length x)) l j).length) (n:=l.length) (cap:=d) (xs:=ints m) kR M6 0 rfl oM ?_;intro Vo lQ _ aC ea fr;clear ea;replace lQ:=lQ.nf;revert aC;refine au<|aG<|ae 2 ?_;intro aC fr;refine kI (kR:ay _ 2=some (some 41,.slice 40 (.tmp 39) none (some (.tmp 40)) none,40,none)) fr kR kR (k':=3) rfl (A:=(sM g0)) (n:=l.length) (cap:=d) (e:=3) (size:=1) (kd:= .i64) (i:=((kept (fun x=> !(iX bs.length x)) l j).length:Int)) (kept (fun x=> !(iX bs.length x)) l j).length kR kR rfl kR kR oM ?_;intro aC ea fr;clear ea;revert aC;refine ae 1<|au<|bG<|cK (vS (sM g0) ((kept (fun x=> !(iX bs.length x)) l j).length) d) ?_;have fv:=lQ.tM 0 rfl (kept (fun x=> !(iX bs.length x)) l j).length oM;refine⟨some (aZ g0),d,by rw[←FP (p:=(fun x=> !(iX bs.length x))) (show l.length≤j by omega)],fv.cast ?_⟩;rw[←FP (p:=(fun x=> !(iX bs.length x))) (show l.length≤j by omega)];show[_]=_;rw[Wd hh.2.1];have c9:(j:Int)<(l.length:Int):=bK Fl.symm;refine fY<|bN<|aU<|cC 1<|aG<|ae 2<|eM (aZ g0) l.length 1 (j:Int)<|bB (aN (aZ g0) (j:Int) 1) (vI (l.getD (j:Int).toNat 0)) (by rw[←Qq hh];exact cY (aF (M6.get 0 rfl)) rfl oM (by have:=hh.1;omega))<|ae 1<|au ?_;refine aG<|ae 2<|eb (QY q nm wk pa va A c bs (l.getD (j:Int).toNat 0) w5 hm (hq.at_ M6)) ?_;rintro _ Q1 ⟨rfl,MT⟩;have ob:=M6.cl MT;obtain⟨Qh6,Q2⟩:∃B,B=!(iX bs.length (l.getD (j:Int).toNat 0)):=⟨_,rfl⟩;refine bQ [(0,vS (sM g0) l.length d),(1,(.func (.func 86) #[] #[pT q 0])),(5,(vI ((kept (fun x=> !(iX bs.length x)) l j).length:Int))),(6,nV j),(7,(vI (l.getD (j:Int).toNat 0))),(26,(.func (.func 86) #[] #[pT q 0])),(27,(vI (l.getD (j:Int).toNat 0))),(28,(vB (!(iX bs.length (l.getD (j:Int).toNat 0)))))] ?_;rw[←Q2];refine ae 1<|au ?_;cases Qh6;have QbI:(!(iX bs.length (l.getD (j:Int).toNat 0)))=false:=Q2.symm;refine fY<|aG<|ae 3<|eM (h0:=oM) (h1:=(by have:=hh.2.2.2;omega)) (aZ g0) l.length 1 ((kept (fun x=> !(iX bs.length x)) l j).length:Int) ?_;refine wC ob 0 (aN (aZ g0) ((kept (fun x=> !(iX bs.length x)) l j).length:Int) 1) ((((kept (fun x=> !(iX bs.length x)) l j).length:Int)).toNat*1) (vI (l.getD (j:Int).toNat 0)) rfl rfl (by have:=hh.2.2.2;omega) fun w24 AV=> ?_
 replace AV:=AV.nf;refine au<|cN<|ae 1<|dw (h2:=(by have:=hh.2.2.2;omega)) (((kept (fun x=> !(iX bs.length x)) l j).length:Int)+1) ?_;refine ae 1<|au<|cN<|ae 1<|dw ((j:Int)+1)<|ae 1<|au ?_;intro aC fr;have K7:=Qp (p:=(fun x=> !(iX bs.length x))) (show j<l.length by omega) QbI;replace fr:Fr aC 42 [(0,.slice (sM g0) l.length d),(1,((.func (.func 86) #[] #[pT q 0]))),(5,(vI ((kept (fun x=> !(iX bs.length x)) l (j+1)).length:Int))),(6,(vI ((j:Int)+1)))]:=by rw[K7,fz];exact fr.keep (keep:=[0,1,5,6]) kR
 exact⟨l.length-(j+1),oM,j+1,m.set (kept (fun x=> !(iX bs.length x)) l j).length (l.getD (j:Int).toNat 0),rfl,fr.kp [0,1,5,6],(AV.cast (by rw[ints_set,cZ,eE])),oM,by rw[K7];exact Qr hh oM _⟩;have QbI:(!(iX bs.length (l.getD (j:Int).toNat 0)))=true:=Q2.symm;refine gE<|bN<|cN<|ae 1<|dw ((j:Int)+1)<|ae 1<|au ?_;intro aC fr;have K7:=Wb (p:=(fun x=> !(iX bs.length x))) (show j<l.length by omega) QbI;replace fr:Fr aC 42 [(0,.slice (sM g0) l.length d),(1,((.func (.func 86) #[] #[pT q 0]))),(5,(vI ((kept (fun x=> !(iX bs.length x)) l (j+1)).length:Int))),(6,(vI ((j:Int)+1)))]:=by rw[K7];exact fr.keep (keep:=[0,1,5,6]) kR
 exact⟨l.length-(j+1),oM,j+1,m,rfl,fr.kp [0,1,5,6],ob,oM,by rw[K7];exact Wc hh⟩;have Ld:(ow (fun x=> !(iX bs.length x)) l)=(-1):=ax.1 Q0.symm;refine fY<|aW<|bG<|cK (vS B l.length d) ?_;exact⟨B,d,by rw[any_filter Ld],M2.cast (by rw[any_filter Ld])⟩
theorem Cu(nm wk pa va:Value)(A:ao)(c:Nat)(bs:List SB)(b:Int)(w:World)(hm:bs.length≤1000000)(hA:RO aX w (.blocks A bs)):Calls Tryz.prog 52 #[(.agg #[nm,wk,pa,va,vS A bs.length c]),vI b] w (ff fun v w'=>∃A' c',v=vS A' (tg bs b).length c'∧Mem aX w w' [.row 3 1 A' (tg bs b).length c' (ints (tg bs b))]):=by
 refine gF 45 [(.agg #[nm,wk,pa,va,vS A bs.length c]),vI b] Tryz.func52 ?_;have hM:=Mem.init w;refine aG<|lO hM 35 (.agg #[nm,wk,pa,va,vS A bs.length c]) [nm,wk,pa,va,vS A bs.length c] fun b1 w2 iW M3=> ?_
 replace M3:=M3.nf;clear hM;refine ae 1<|au<|aU<|aG<|ae 1<|k9 (decide (b<0)) fun Blo Gb=> ?_
 refine ae 1 ?_;cases Blo;have clo:¬(b<0):=bP Gb.symm;refine ae 2<|bB (ah b1 4) _ (aa (M3.get 0 rfl) rfl)<|ae 1<|k9 (decide (b≥(bs.length:Int))) fun Bhi I3=> ?_
 refine ae 1<|au ?_;cases Bhi;have chi:¬(b≥(bs.length:Int)):=bP I3.symm;refine gE<|bN<|aG ?_;obtain⟨x,hx⟩:=Ql (l:=bs) (i:=b) oM oM;refine ae 1<|bB (ah b1 4) _ (aa (M3.get 0 rfl) rfl)<|ae 1 ?_;obtain⟨jK,rfl⟩:=eV (M3.ro hA) hx;refine eM jK bs.length 6 b<|gS (aN jK (b) 6) [vS x.pA x.pn x.pc,vS x.iA x.ik x.ic,vI x.e,vI x.v,vI x.a,vI x.b] (sR (M3.ro hA) rfl hx)<|m8 M3 46 [ag,ag,vI 0,vI 0,vI 0,vI 0] fun b5 w6 hb5 M7=> ?_
 replace M7:=M7.nf;refine nG M7 1 [vS x.pA x.pn x.pc,vS x.iA x.ik x.ic,vI x.e,vI x.v,vI x.a,vI x.b] rfl fun w8 M9=> ?_
 replace M9:=M9.nf;refine cU [2,5]<|au<|aW<|aU<|aG<|ae 1<|bB (ah b5 2) _ (aa (M9.get 1 rfl) rfl)<|au<|cC 0<|aG<|k9 (x.e==0) fun Be0 QW=> ?_
 refine ae 1<|au ?_;cases Be0;have ce0:¬(x.e=0):=K2 QW;refine gE<|aG<|k9 (x.e==1) fun Be1 QX=> ?_
 refine ae 1<|au ?_;cases Be1;have ce1:¬(x.e=1):=K2 QX;refine gE<|bN<|aG<|ae 2 ?_;have ia:Mem aX w w8 [.aL b1 35 [nm,wk,pa,va,vS (some jK) bs.length c],.aL b5 46 [vS x.pA x.pn x.pc,vS x.iA x.ik x.ic,vI x.e,vI x.v,vI x.a,vI x.b],.row 3 1 none 0 0 []]:=M9.call (Mem.gb _ 3 1);refine eb (vs:=#[ag,(.func (.func 86) #[] #[pT b1 0])]) (rL [] none 0 b1 nm wk pa va _ c bs w8 sI (ia.get 2 rfl) hm (ia.rr 0 2 rfl rfl dQ)) ?_;rintro _ MU ⟨A11,uc,rfl,QbJ⟩;have mK:=ia.md 2 rfl QbJ;refine ae 1<|au<|bG<|cK (vS A11 (([].filter (fun x=> !((fun x=> !(iX bs.length x)) x))).length) uc) ?_;exact pq (mK.pick [false,false,true] rfl) (by rw[y3 oM hx];exact Qn ce0 ce1) rfl;have ce1:x.e=1:=ax.1 QX.symm;refine fY<|aG<|ae 1<|bB (ah b5 4) _ (aa (M9.get 1 rfl) rfl)<|ae 1<|bB (ah b5 5) _ (aa (M9.get 1 rfl) rfl) ?_;intro aC fr;refine p6 34 40 2 #[(0,.tmp 31),(1,.tmp 33)] 40 fr (e:=3) (size:=1) (zs:=[vI 0]) (vs:=[(0,vI x.a),(1,vI x.b)]) (cs:=[vI x.a,vI x.b]) M9 ?_;intro jg vF QbK _ kn _ aC ea fr;clear ea;replace kn:=kn.nf;revert aC;refine ae 1<|au<|aG<|ae 1<|bB (ah b5 4) _ (aa (kn.get 1 rfl) rfl)<|ae 1<|bB (ah b5 5) _ (aa (kn.get 1 rfl) rfl)<|cU [2,6,36,38]<|k9 (x.a==x.b) fun Bab Ea=> ?_
 refine au ?_;cases Bab;have cab:¬(x.a=x.b):=K2 Ea;refine gE<|bN<|aG<|ae 2<|eb (vs:=#[vS (sM jg) 2 2,(.func (.func 86) #[] #[pT b1 0])]) (rL [x.a,x.b] (sM jg) 2 b1 nm wk pa va _ c bs vF sI (kn.get 2 rfl) hm (kn.rr 0 2 rfl rfl dQ)) ?_;rintro _ w24 ⟨A22,c23,rfl,WL⟩;have AV:=kn.md 2 rfl WL;refine ae 1<|au<|bG<|cK (vS A22 (([x.a,x.b].filter (fun x=> !((fun x=> !(iX bs.length x)) x))).length) c23) ?_;exact pq (AV.pick [false,false,true] rfl) (by rw[y3 oM hx];exact V7 oM oM) rfl;have cab:x.a=x.b:=ax.1 Ea.symm;refine fY<|cN<|ae 1 ?_;intro aC fr;refine kI (kR:ay _ 1=some (some 41,.slice 40 (.tmp 40) none (some (.const (vI 1))) none,40,none)) fr kR kR (k':=2) rfl (A:=(sM jg)) (n:=2) (cap:=2) (e:=3) (size:=1) (kd:= .i64) (i:=1) 1 kR kR rfl kR kR dQ ?_;intro aC ea fr;clear ea;have tx:Mem aX w vF [.aL b1 35 [nm,wk,pa,va,vS (some jK) bs.length c],.aL b5 46 [vS x.pA x.pn x.pc,vS x.iA x.ik x.ic,vI x.e,vI x.v,vI x.a,vI x.b],.row 3 1 (sM jg) 1 2 [vI x.a]]:=kn.tM 2 rfl 1 dQ;revert aC;refine ae 1<|au<|aG<|ae 2<|eb (vs:=#[vS (sM jg) 1 2,(.func (.func 86) #[] #[pT b1 0])]) (rL [x.a] (sM jg) 2 b1 nm wk pa va _ c bs vF sI (tx.get 2 rfl) hm (tx.rr 0 2 rfl rfl dQ)) ?_;rintro _ WM ⟨A31,wJ,rfl,Ec⟩;have AW:=tx.md 2 rfl Ec;refine ae 1<|au<|bG<|cK (vS A31 (([x.a].filter (fun x=> !((fun x=> !(iX bs.length x)) x))).length) wJ) ?_;exact pq (AW.pick [false,false,true] rfl) (by rw[y3 oM hx];exact KO oM) rfl;have ce0:x.e=0:=ax.1 QW.symm;refine fY<|cN<|ae 1<|bB (ah b5 4) _ (aa (M9.get 1 rfl) rfl) ?_;intro aC fr;refine p6 27 40 1 #[(0,.tmp 26)] 40 fr (e:=3) (size:=1) (zs:=[vI 0]) (vs:=[(0,vI x.a)]) (cs:=[vI x.a]) M9 ?_;intro b35 w36 hb35 _ ud _ aC ea fr;clear ea;replace ud:=ud.nf;revert aC;refine ae 1<|au<|aG<|ae 2<|eb (vs:=#[vS (sM b35) 1 1,(.func (.func 86) #[] #[pT b1 0])]) (rL [x.a] (sM b35) 1 b1 nm wk pa va _ c bs w36 sI (ud.get 2 rfl) hm (ud.rr 0 2 rfl rfl dQ)) ?_;rintro _ w44 ⟨A42,c43,rfl,Qh7⟩;have MV:=ud.md 2 rfl Qh7;refine ae 1<|au<|bG<|cK (vS A42 (([x.a].filter (fun x=> !((fun x=> !(iX bs.length x)) x))).length) c43) ?_;exact pq (MV.pick [false,false,true] rfl) (by rw[y3 oM hx];exact KO oM) rfl;have chi:b≥(bs.length:Int):=bK I3.symm;refine fY<|aW<|bG<|cK ag ?_;exact rE (M3.pick [false] rfl) (y2 oM);have clo:b<0:=bK Gb.symm;refine ae 6<|au<|fY<|aW<|bG<|cK ag ?_;exact rE (M3.pick [false] rfl) (y2 oM)
theorem s6(nm wk pa va:Value)(A:ao)(c:Nat)(bs:List SB)(b:Int)(w:World)(hm:bs.length≤1000000)(hA:RO aX w (.blocks A bs)):Calls Tryz.prog 33 #[(.agg #[nm,wk,pa,va,vS A bs.length c]),vI b] w (ff fun v w'=>∃A' c',v=vS A' (bO bs b).length c'∧Mem aX w w' [.row 3 1 A' (bO bs b).length c' (ints (bO bs b))]):=by
 refine gF 24 [(.agg #[nm,wk,pa,va,vS A bs.length c]),vI b] Tryz.func33 ?_;have hM:=Mem.init w;refine aG<|lO hM 35 (.agg #[nm,wk,pa,va,vS A bs.length c]) [nm,wk,pa,va,vS A bs.length c] fun b1 w2 iW M3=> ?_
 replace M3:=M3.nf;clear hM;refine ae 1<|au<|aW<|aU<|aW<|cC 0 ?_;intro aC fr;refine fX (fun n_ a_ w_=>∃(k:Nat) (A1:ao) (n1:Nat) (c1:Nat) (l1:af),n_=bs.length-k∧Fr a_ 24 [(1,vI b),(2,pT b1 0),(5,vS A1 n1 c1),(6,nV k)]∧Mem aX w w_ [.aL b1 35 [nm,wk,pa,va,vS A bs.length c],.row 3 1 A1 n1 c1 (ints l1)]∧(k≤bs.length)∧(l1=fh bs b k)∧(n1=l1.length)) (n:=_) ⟨0,none,0,0,[],rfl,fr.kp [1,2,5,6],M3.call (Mem.gb _ 3 1),oM,rfl,rfl⟩ ?_;clear fr aC M3;rintro n aC w6 ⟨k,A1,n1,c1,l1,rfl,fr,M7,hk,s5,vE⟩;revert aC;refine aU<|aG<|ae 2<|bB (ah b1 4) _ (aa (M7.get 0 rfl) rfl)<|ae 1<|k9 (decide ((k:Int)<(bs.length:Int))) fun o8 qf=> ?_
 refine au ?_;cases o8;have yh:¬((k:Int)<(bs.length:Int)):=bP qf.symm;refine gE<|fP 0<|fQ<|aW<|bG<|cK (vS A1 n1 c1) ?_;obtain rfl:k=bs.length:=oM;exact pq (M7.pick [false,true] rfl) s5 vE;have yh:(k:Int)<(bs.length:Int):=bK qf.symm;refine fY<|bN<|aU<|cC 1<|aG<|gS (aZ b1) [nm,wk,pa,va,vS A bs.length c] (bp (M7.get 0 rfl))<|ae 1<|eb (vs:=#[(.agg #[nm,wk,pa,va,vS A bs.length c]),nV k]) (zu _ _ _ _ A c bs (k:Int) w6 hm (hA.at_ M7)) ?_;rintro _ MU ⟨A11,uc,rfl,QbJ⟩;have mK:=M7.cl QbJ;refine ae 1<|eb (vs:=#[(vS A11 ((tg bs (k:Int)).length) uc),vI b]) (Qe3 (tg bs (k:Int)) b A11 uc MU (iv (qI _ _) dQ) (RO.aF (mK.df 2 rfl))) ?_;rintro _ Vp ⟨rfl,WN⟩;have nh:=mK.cl WN;obtain⟨I2,oW⟩:∃B,B=(tg bs (k:Int)).contains b:=⟨_,rfl⟩;refine bQ [(1,vI b),(2,pT b1 0),(5,vS A1 n1 c1),(6,nV k),(16,(vS A11 ((tg bs (k:Int)).length) uc)),(17,vI b),(18,(vB ((tg bs (k:Int)).contains b)))] ?_;rw[←oW];refine au ?_;cases I2;have s4:((tg bs (k:Int)).contains b)=false:=oW.symm;refine gE<|bN<|cN<|ae 1<|dw ((k:Int)+1)<|ae 1<|au ?_;intro aC fr;exact⟨bs.length-(k+1),oM,k+1,A1,n1,c1,l1,rfl,fr.kp [1,2,5,6],(nh.pick [true,true,false] rfl),oM,by rw[qK,aB (by rw[s4];simp),mm];exact s5,vE⟩;have s4:((tg bs (k:Int)).contains b)=true:=oW.symm;refine fY<|cN<|ae 2 ?_;intro aC fr;refine p6 21 40 1 #[(0,.tmp 20)] 40 fr (e:=3) (size:=1) (zs:=[vI 0]) (vs:=[(0,nV k)]) (cs:=[nV k]) nh ?_;intro b19 w20 Qh8 _ I7 _ aC ea fr;clear ea;replace I7:=I7.nf;refine F0 22 (.tmp 19) (.tmp 21) 40 40 fr (e:=3) (size:=1) (bytes:=8) (z:=(vI 0)) (A:=A1) (B:=(sM b19)) (n:=n1) (cap:=c1) (m:=1) (cap':=1) (xs:=(ints l1)) (news:=[nV k]) I7 1 rfl (aF (I7.get 3 rfl)) rfl (by simp[Value.oneCell']) (by have:=ki bs b k;rw[s5]at vE;omega) (by have:=ki bs b k;rw[s5]at vE;simp only[maxLen];omega) ?_;intro A26 Ed w28 ue _ aC ea fr;clear ea;replace ue:=ue.nf;have vG:=ue.od [2,2,2] 3;revert aC;refine ae 1<|au<|cN<|ae 1<|dw ((k:Int)+1)<|ae 1<|au ?_;intro aC fr;exact⟨bs.length-(k+1),oM,k+1,A26,(n1+1),Ed,l1++[(k:Int)],rfl,fr.kp [1,2,5,6],((vG.pick [true,true,false] rfl).cast (by rw[gl];rfl)),oM,by rw[qK,bC s4,s5],by rw[fz,vE];rfl⟩
end Go.Proofs.YtjekgaabcigphaaGreat
namespace Go.Mor
open Go.RowKit
abbrev MW:=(Int→Bool)×af
def gN(S:Int→Bool)(t:Int):Int→Bool:=fun x=>(x==t)||S x
inductive Kids(T:Int→af):af→MW→MW→Prop where
 |nil {s}:Kids T [] s s
 |skip {t ts S o s'}:S t=true→Kids T ts (S,o) s'→Kids T (t::ts) (S,o) s'
 |go {t ts S o s1 s'}:S t=false→Kids T (T t) (gN S t,o) s1→Kids T ts (s1.1,s1.2++[t]) s'→Kids T (t::ts) (S,o) s'
theorem Kids.mono{T:Int→af}{ts:af}{s s':MW}(h:Kids T ts s s'):∀x,s.1 x=true→s'.1 x=true:=by
 induction h with
 |nil=>exact fun _ h=>h
 |skip _ _ ih=>exact ih
 |go _ _ _ Vq Vr=>exact fun x hx=>Vr x (Vq x (by have u6:=hx;simp only at u6;simp[gN,u6]))
def ni(T:Int→af):Nat→af→MW→MW
 |0,_,s=>s
 |_+1,[],s=>s
 |f+1,t::ts,s=>match s.1 t with
  |true=>ni T f ts s
  |false=>ni T f ts ((ni T f (T t) (gN s.1 t,s.2)).1,(ni T f (T t) (gN s.1 t,s.2)).2++[t])
def kP(n:Nat)(S:Int→Bool):Nat:=((List.range n).filter (fun i:Nat=> !S (i:Int))).length
theorem zv{n:Nat}{S S':Int→Bool}(h:∀x,S x=true→S' x=true):kP n S'≤kP n S:=by
 unfold kP;refine List.Sublist.length_le ?_;have:(List.range n).filter (fun i:Nat=> !S' (i:Int))=((List.range n).filter (fun i:Nat=> !S (i:Int))).filter (fun i:Nat=> !S' (i:Int)):=by rw[vc];apply qF;intro i _;cases h1:S (i:Int)<;>cases h2:S' (i:Int)<;>simp;rw[h _ h1]at h2;cases h2
 rw[this];exact yi
theorem ib{n:Nat}{S:Int→Bool}{t:Int}(h0:0≤t)(h1:t<n)(hS:S t=false):kP n (gN S t)+1≤kP n S:=by
 unfold kP
 have kz:(List.range n).filter (fun i:Nat=> !gN S t (i:Int))=((List.range n).filter (fun i:Nat=> !S (i:Int))).filter (fun i:Nat=> !((i:Int)==t)):=by
  rw[vc]
  apply qF
  intro i _
  simp[gN]
 rw[kz]
 obtain⟨k,rfl⟩:=oe h0
 have kH:k∈(List.range n).filter (fun i:Nat=> !S (i:Int)):=e8.2 ⟨ew.2 oM,by rw[hS];rfl⟩
 have:=yS (p:=fun i:Nat=> !((i:Int)==(k:Int)))|>.2 ⟨k,kH,sI⟩
 omega
theorem l8(n:Nat)(S:Int→Bool):kP n S≤n:=by
 unfold kP;exact iv (m5 _ _) sI
theorem zw{T:Int→af}{n:Nat}(hT:∀t,(T t).length≤2)(hR:∀t x,x∈T t→0≤x∧x<n):∀(f:Nat) (ts:af) (s:MW),(∀x,x∈ts→0≤x∧x<n)→3*kP n s.1+ts.length+1≤f→Kids T ts s (ni T f ts s):=by
 intro f;induction f with
 |zero=>intro ts s _ h;omega
 |succ f ih=>
  intro ts s Vs hf;obtain⟨S,o⟩:=s;cases ts with
  |nil=>exact .nil
  |cons t ts=>
   have ht:=Vs t (cJ ..);have Qfb:∀x,x∈ts→0≤x∧x<(n:Int):=fun x hx=>Vs x (bT _ hx)
   simp only[eZ]at hf;cases hS:S t with
   |true=>
    have:ni T (f+1) (t::ts) (S,o)=ni T f ts (S,o):=by simp only[ni,hS]
    rw[this];exact .skip hS (ih ts (S,o) Qfb (by simp only at hf⊢;omega))
   |false=>
    have e:ni T (f+1) (t::ts) (S,o)=ni T f ts ((ni T f (T t) (gN S t,o)).1,(ni T f (T t) (gN S t,o)).2++[t]):=by simp only[ni,hS]
    rw[e];have hu:=ib (S:=S) ht.1 ht.2 hS;have h1:=ih (T t) (gN S t,o) (hR t) (by have:=hT t;simp only at hf⊢;omega);refine .go hS h1 (ih ts _ Qfb ?_);have hm:=zv (n:=n) (Kids.mono h1);simp only at hf hm⊢;omega
theorem Kids.count{T:Int→af}{n:Nat}(hR:∀t x,x∈T t→0≤x∧x<n){ts:af}{s s':MW}(h:Kids T ts s s')(Vs:∀x,x∈ts→0≤x∧x<(n:Int)):s'.2.length+kP n s'.1≤s.2.length+kP n s.1:=by
 induction h with
 |nil=>exact cB _
 |skip _ _ ih=>exact ih (fun x hx=>Vs x (bT _ hx))
 | @go t ts S o s1 s' hS _ _ Vq Vr=>
  have ht:=Vs t (cJ ..);have h1:=Vq (hR t);have h2:=Vr (fun x hx=>Vs x (bT _ hx));have h3:=ib (S:=S) ht.1 ht.2 hS;simp only[fz,eZ,gX]at h1 h2⊢;omega
def Gc(bs:List SB):af:=(ni (tg bs) (3*bs.length+3) (tg bs 0) (gN (fun _=>false) 0,[])).2++[0]
def aI(bs:List SB):af:=if bs.length=0 then[]else(Gc bs).reverse
theorem vH(bs:List SB):∃s,Kids (tg bs) (tg bs 0) (gN (fun _=>false) 0,[]) s∧s.2++[0]=Gc bs:=by
 refine⟨_,zw (n:=bs.length) (fun t=>qI bs t) (fun t x h=>qJ h) (3*bs.length+3) _ _ (fun x h=>qJ h) ?_,rfl⟩;have h1:=qI bs 0;have h2:=l8 bs.length (gN (fun _=>false) 0);simp only;by_cases h:bs.length=0
 ·have:tg bs 0=[]:=y2 oM;rw[this];simp;omega
 ·have:=ib (n:=bs.length) (S:=fun _=>false) (t:=0) oM oM rfl;have h3:=l8 bs.length (fun _=>false);omega
theorem MX{bs:List SB}(h:0<bs.length):(Gc bs).length≤bs.length:=by
 obtain⟨s,h1,h2⟩:=vH bs;have h3:=Kids.count (n:=bs.length) (fun t x h=>qJ h) h1 (fun x h=>qJ h);have h4:=ib (n:=bs.length) (S:=fun _=>false) (t:=0) oM oM rfl;have h5:=l8 bs.length (fun _=>false);rw[←h2,fz];simp only[gX,eZ]at h3⊢;omega
def Gd(T:Int→af):List (Int×Nat)→MW→af→Prop
 |[],s,R=>s.2=R
 |(b,k)::rest,s,R=>∃s',Kids T ((T b).drop k) s s'∧Gd T rest (s'.1,s'.2++[b]) R
theorem WO{T:Int→af}{b:Int}{k:Nat}{rest:List (Int×Nat)}{s:MW}{R:af}(h:Gd T ((b,k)::rest) s R)(hk:(T b).length≤k):Gd T rest (s.1,s.2++[b]) R:=by
 obtain⟨s',h1,h2⟩:=h;rw[List.drop_of_length_le hk]at h1;cases h1;exact h2
theorem Q3{T:Int→af}{b t:Int}{k:Nat}{rest:List (Int×Nat)}{S:Int→Bool}{o:af}{R:af}(h:Gd T ((b,k)::rest) (S,o) R)(hk:(T b)[k]?=some t)(ht:S t=true):Gd T ((b,k+1)::rest) (S,o) R:=by
 obtain⟨s',h1,h2⟩:=h;obtain⟨fM,he⟩:=List.getElem?_eq_some_iff.1 hk;rw[sm fM,he]at h1;cases h1 with
 |skip _ h1=>exact⟨s',h1,h2⟩
 |go h' _ _=>rw[ht]at h';cases h'
theorem Q4{T:Int→af}{b t:Int}{k:Nat}{rest:List (Int×Nat)}{S:Int→Bool}{o:af}{R:af}(h:Gd T ((b,k)::rest) (S,o) R)(hk:(T b)[k]?=some t)(ht:S t=false):Gd T ((t,0)::(b,k+1)::rest) (gN S t,o) R:=by
 obtain⟨s',h1,h2⟩:=h;obtain⟨fM,he⟩:=List.getElem?_eq_some_iff.1 hk;rw[sm fM,he]at h1;cases h1 with
 |skip h' _=>rw[ht]at h';cases h'
 |go _ ha hb=>exact⟨_,by simpa using ha,⟨s',hb,h2⟩⟩
def fL(l:List Bool):aO:=l.map Value.bool
theorem mR{l:List Bool}{i:Nat}(h:i<l.length):(fL l)[i]?=some (vB (l.getD i false)):=by simp[fL,List.getD,h]
theorem vJ(l:List Bool)(i:Nat)(v:Bool):fL (l.set i v)=(fL l).set i (vB v):=by simp[fL,po]
def eW(n:Nat)(l:List Bool)(S:Int→Bool):Prop:=l.length=n∧∀i:Nat,i<n→l.getD i false=S (i:Int)
theorem eW.start(n:Nat):eW n (List.replicate n false) (fun _=>false):=⟨sI,fun i hi=>by simp[List.getD,hi]⟩
theorem eW.put{n:Nat}{l:List Bool}{S:Int→Bool}(h:eW n l S){i:Nat}(_hi:i<n):eW n (l.set i true) (gN S (i:Int)):=by
 refine⟨by simp[h.1],fun j hj=> ?_⟩;unfold gN;by_cases e:i=j
 ·subst e;have:i<l.length:=by rw[h.1];exact hj
  simp[List.getD,this]
 ·have e2:¬((j:Int)=(i:Int)):=oM;rw[←h.2 j hj];simp[List.getD,List.getElem?_set_ne e,e2]
def Cv(p:Int×Nat):aO:=[vI p.1,vI (p.2:Int)]
def qX(st:List (Int×Nat)):aO:=st.reverse.flatMap Cv
theorem mS(p:Int×Nat)(st:List (Int×Nat)):qX (p::st)=qX st++Cv p:=by simp[qX]
theorem zx(st:List (Int×Nat)):(qX st).length=st.length*2:=by
 induction st with
 |nil=>rfl
 |cons p st ih=>rw[mS,fz,ih];simp[Cv];omega
theorem uf{b:Int}{k:Nat}{st:List (Int×Nat)}:(qX ((b,k)::st))[st.length*2]?=some (vI b)∧(qX ((b,k)::st))[st.length*2+1]?=some (vI (k:Int)):=by
 rw[mS,←zx];constructor
 ·rw[List.getElem?_append_right (cB _)];simp[Cv]
 ·rw[List.getElem?_append_right oM];simp[Cv]
theorem WQ{b:Int}{k:Nat}{st:List (Int×Nat)}:(qX ((b,k)::st)).take (st.length*2)=qX st:=by
 rw[mS,←zx,List.take_left]
theorem WR{b:Int}{k:Nat}{st:List (Int×Nat)}:(qX ((b,k)::st)).set (st.length*2+1) (vI ((k:Int)+1))=qX ((b,k+1)::st):=by
 rw[mS,mS,←zx,og _ _ oM];simp[Cv]
structure WS(n:Nat)(ws:List Nat)(S:Int→Bool):Prop where
 len:ws.length=(n+63) / 64
 fit:Fit ws
 bits:∀i:Nat,i<n→tb ws i=S (i:Int)
theorem WS.start(n:Nat):WS n (List.replicate ((n+63) / 64) 0) (fun _=>false):=⟨sI,Fit.zero _,fun i _=>V0 _ i⟩
theorem WS.put{n:Nat}{ws:List Nat}{S:Int→Bool}(h:WS n ws S){i:Nat}(hi:i<n):WS n (yX ws i) (gN S (i:Int)):=by
 refine⟨by simp[yX,h.len],h.fit.put i,fun j hj=> ?_⟩;rw[Qbv (by rw[h.len];omega),h.bits j hj];unfold gN;congr 1;by_cases e:i=j
 ·subst e;simp
 ·have:¬((j:Int)=(i:Int)):=oM;simp[e,this]
theorem WS.idx{n:Nat}{ws:List Nat}{S:Int→Bool}(h:WS n ws S){i:Nat}(hi:i<n):i / 64<ws.length:=by rw[h.len];omega
def Ge(T:Int→af):List (Int×Nat)→Nat
 |[]=>0
 |(b,k)::r=>((T b).length-k+1)+Ge T r
def Cw(T:Int→af)(st:List (Int×Nat)):Prop:=∀p,p∈st→p.2≤(T p.1).length
theorem WT(T:Int→af)(b:Int):Cw T [(b,0)]:=by
 intro p hp;simp only[cI]at hp;subst hp;exact cf _
theorem Q5{T:Int→af}{b t:Int}{k:Nat}{r:List (Int×Nat)}(h:Cw T ((b,k)::r))(hk:k+1≤(T b).length):Cw T ((t,0)::(b,k+1)::r):=by
 intro p hp;rcases db.1 hp with rfl|hp
 ·exact cf _
 ·rcases db.1 hp with rfl|hp
  ·exact hk
  ·exact h p (bT _ hp)
theorem WU{T:Int→af}{b:Int}{k:Nat}{r:List (Int×Nat)}(h:Cw T ((b,k)::r))(hk:k+1≤(T b).length):Cw T ((b,k+1)::r):=by
 intro p hp;rcases db.1 hp with rfl|hp
 ·exact hk
 ·exact h p (bT _ hp)
theorem Q6{bs:List SB}{b:Int}{k:Nat}(h:k<(tg bs b).length):∃ti:Nat,(tg bs b)[k]?=some (ti:Int)∧ti<bs.length:=by
 have h1:=qJ (qH h);obtain⟨ti,he⟩:=oe h1.1;exact⟨ti,by rw[List.getElem?_eq_getElem h,he],oM⟩
def ug(l m:af)(k:Nat):Prop:=m.length=l.length∧∀p,p<l.length→m.getD p 0=if p<k∨l.length≤p+k then l.getD (l.length-1-p) 0 else l.getD p 0
theorem Bs(l:af):ug l l 0:=⟨rfl,fun p hp=>by rw[aB oM]⟩
theorem Gf{m:af}{i p:Nat}{v:Int}(hi:i<m.length):(m.set i v).getD p 0=if i=p then v else m.getD p 0:=by
 by_cases h:i=p
 ·subst h;simp[List.getD,hi]
 ·simp[List.getD,List.getElem?_set_ne h,h]
theorem Ee{l m:af}{k q:Nat}(h:ug l m k)(hq:k<q∧q+k+1=l.length):ug l ((m.set k (m.getD q 0)).set q (m.getD k 0)) (k+1):=by
 obtain⟨h1,h2⟩:=h;refine⟨by simp[h1],fun p hp=> ?_⟩;rw[Gf (by simp;omega),Gf oM];by_cases e1:q=p
 ·subst e1;rw[bC rfl,bC oM,h2 k oM,aB oM,show l.length-1-q=k by omega]
 ·rw[aB e1];by_cases e2:k=p
  ·subst e2;rw[bC rfl,bC oM,h2 q oM,aB oM,show l.length-1-k=q by omega]
  ·rw[aB e2,h2 p hp];by_cases e3:p<k∨l.length≤p+k
   ·rw[bC e3,bC oM]
   ·rw[aB e3,aB oM]
theorem Gg{l m:af}{k:Nat}(h:ug l m k)(hk:2*k≤l.length∧l.length≤2*k+1):m=l.reverse:=by
 obtain⟨h1,h2⟩:=h;apply kg;intro p;by_cases hp:p<l.length
 ·have h3:=h2 p hp;have e:∀x:af,p<x.length→x[p]?=some (x.getD p 0):=by intro x hx;simp[List.getD,hx]
  rw[e m oM,e l.reverse (by simpa using hp),h3];have e4:l.reverse.getD p 0=l.getD (l.length-1-p) 0:=by simp[List.getD,List.getElem?_reverse hp]
  rw[e4];split
  ·rfl
  ·rw[show l.length-1-p=p by omega]
 ·rw[List.getElem?_eq_none oM,List.getElem?_eq_none (by simp;omega)]
end Go.Mor
namespace Go.Proofs.YtjekgaabcigphaaGreat
open Go.Mor
theorem MY(n:Nat)(w:World)(hn:n≤1000000):Calls Tryz.prog 70 #[nV n] w (ff fun v w'=>∃g,v=vS (sM g) ((n+63) / 64) ((n+63) / 64)∧Mem aX w w' [.row 163 1 (sM g) ((n+63) / 64) ((n+63) / 64) (mI (List.replicate ((n+63) / 64) 0))]):=by
 refine gF 8 [nV n] Tryz.func70 ?_;have hM:=Mem.init w;refine aW<|aG<|ae 1<|dw ((n:Int)+64)<|dw (((n:Int)+64)-1) ?_;intro aC fr;refine iK (kR:ay _ 3=some (some 6,.binOp .quo 3 (.tmp 5) (.const (vI 64)) 3,3,none)) fr kR kR (k':=4) rfl (kd:= .i64) (kd':= .i64) (i:=(n:Int)+64-1) (j:=64) (z:=vI ((((n+63) / 64):Nat):Int)) kR kR (fun w=>by have h:=yU (P:=Tryz.prog) (t:=3) (i:=n+63) 64 oM dQ w;rw[show((n+63:Nat):Int)=(n:Int)+64-1 by omega]at h;exact h) ?_;intro aC ea fr;clear ea;refine Vj 7 128 (.tmp 6) (.tmp 6) 128 fr (e:=163) (bytes:=8) (z:=(.int .u64 0)) (n:=((n+63) / 64)) (i:=((((n+63) / 64):Nat):Int)) oM (by simp only[maxLen];omega) hM ?_;intro b5 w6 hb5 _ M7 _ aC ea fr;clear ea;replace M7:=M7.nf;clear hM;revert aC;refine ae 1<|au<|bG<|cK (vS (sM b5) ((n+63) / 64) ((n+63) / 64)) ?_;exact⟨b5,rfl,M7.cast (by simp[mI])⟩
theorem Qag(ws:List Nat)(n i:Nat)(A:ao)(c:Nat)(w:World)(qg:Fit ws)(hi0:i≤1000000)(hn:n=ws.length)(hi:i / 64<ws.length)(qe:(bx.row 163 1 A n c (mI ws)).holds w):Calls Tryz.prog 71 #[vS A n c,nV i] w (ff fun v w'=>v= .tuple #[]∧Mem (bx.row 163 1 A n c (mI ws)).fp w w' [.row 163 1 A n c (mI (yX ws i))]):=by
 subst hn;refine gF 14 [vS A ws.length c,nV i] Tryz.func71 ?_;have hM:=Mem.qv qe;obtain⟨g0,hg0⟩:=dJ (hM.get 0 rfl) (show 0<ws.length by omega);subst hg0;refine cU [0,1] ?_;intro aC fr;refine K3 (aP [eS (sM g0) ws.length c,.bb (nV i),eI ((i / 64:Nat):Int),eA (aZ g0) ((i / 64:Nat):Int) 1,.bb (.int .u64 ((ws.getD (i / 64) 0:Nat):Int)),.bb (nV i),eI ((i % 64:Nat):Int),.bb (.int .u64 ((2^(i % 64):Nat):Int)),.bb (.int .u64 ((ws.getD (i / 64) 0|||2^(i % 64):Nat):Int)),eA (aZ g0) ((i / 64:Nat):Int) 1,.bb undef]) (fun ls vs w_=>match ls 10 with|true=>(Mem (bx.row 163 1 (sM g0) ws.length c (mI ws)).fp w w_ [.row 163 1 (sM g0) ws.length c (mI (yX ws i))])|false=>(Mem (bx.row 163 1 (sM g0) ws.length c (mI ws)).fp w w_ [.row 163 1 (sM g0) ws.length c (mI ws)])) fr (gH (.bb (.bb (.bb (.bb (.bb (.bb (.bb (.bb (.bb (.bb (.bb .nil)))))))))))) (hM.an (Mem.drew _)) (kB (lk lz (j9 fun _ _ _ _ h=>h) (j9 fun _ _ _ _ h=>h) ?_ (HU (aZ g0) ws.length 1 ((i / 64:Nat):Int) fun _ _ _ _ h=>h) (AQ (aN (aZ g0) ((i / 64:Nat):Int) 1) (.int .u64 ((ws.getD (i / 64) 0:Nat):Int)) (fun _ _ _ _ h=>h) ?_) (j9 fun _ _ _ _ h=>h) ?_ ?_) ?_ (HU (aZ g0) ws.length 1 ((i / 64:Nat):Int) fun _ _ _ _ h=>h) ?_) ?_;intro gd w_ ls vs eg hJ cR cS hp hF;refine mO (g0:=none) ?_;replace hF:Fr gd 14 [(5,nV i)]:=hF.kp [5];refine iK (kR:ay _ 0=some (some 6,.binOp .quo 3 (.tmp 5) (.const (vI 64)) 3,3,none)) hF kR kR (k':=1) rfl (kd:= .i64) (kd':= .i64) (i:=(i:Int)) (j:=64) (z:=vI ((i / 64:Nat):Int)) kR kR (fun w=>yU 64 oM dQ w) ?_;intro a2 ea _;refine bl kR ?_;exact bL (d:=some 6) kR ea rfl hJ;intro w_ ls vs hJ cR cS hp;have f10:ls 10=false:=bw cS cR (n:=11) kR;have bJ:=hJ;simp only[f10]at bJ;exact(bH (aF (bJ.get 0 rfl)) rfl (FK oM));intro gd w_ ls vs eg hJ cR cS hp hF;refine mO (g0:=none) ?_;replace hF:Fr gd 14 [(9,nV i)]:=hF.kp [9];refine iK (kR:ay _ 0=some (some 10,.binOp .rem 3 (.tmp 9) (.const (vI 64)) 3,3,none)) hF kR kR (k':=1) rfl (kd:= .i64) (kd':= .i64) (i:=(i:Int)) (j:=64) (z:=vI ((i % 64:Nat):Int)) kR kR (fun w=>FJ 64 dQ w) ?_;intro a2 ea _;refine bl kR ?_;exact bL (d:=some 10) kR ea rfl hJ;intro gd w_ ls vs eg hJ cR cS hp hF;refine mO (g0:=none) ?_;replace hF:Fr gd 14 [(10,(vI ((i % 64:Nat):Int)))]:=hF.kp [10];refine iK (kR:ay _ 0=some (some 11,.binOp .shl 163 (.const (.int .u64 1)) (.tmp 10) 3,163,none)) hF kR kR (k':=1) rfl (kd:= .u64) (kd':= .i64) (i:=1) (j:=((i % 64:Nat):Int)) (z:= .int .u64 ((2^(i % 64):Nat):Int)) kR kR (fun w=>VX (vh _ dQ) w) ?_;intro a2 ea _;refine bl kR ?_;exact bL (d:=some 11) kR ea rfl hJ;intro gd w_ ls vs eg hJ cR cS hp hF;refine mO (g0:=none) ?_;replace hF:Fr gd 14 [(8,(.int .u64 ((ws.getD (i / 64) 0:Nat):Int))),(11,(.int .u64 ((2^(i % 64):Nat):Int)))]:=hF.kp [8,11];refine iK (kR:ay _ 0=some (some 12,.binOp .or 163 (.tmp 8) (.tmp 11) 163,163,none)) hF kR kR (k':=1) rfl (kd:= .u64) (kd':= .u64) (i:=((ws.getD (i / 64) 0:Nat):Int)) (j:=((2^(i % 64):Nat):Int)) (z:= .int .u64 ((ws.getD (i / 64) 0|||2^(i % 64):Nat):Int)) kR kR (fun w=>Qbu (qg.get _) (sQ (vh _ dQ)) w) ?_;intro a2 ea _;refine bl kR ?_;exact bL (d:=some 12) kR ea rfl hJ;intro gd w_ ls vs eg hJ cR cS hp hF;refine mO (g0:=none) ?_;replace hF:Fr gd 14 [(12,(.int .u64 ((ws.getD (i / 64) 0|||2^(i % 64):Nat):Int))),(13,(vP (aN (aZ g0) ((i / 64:Nat):Int) 1)))]:=hF.kp [12,13];have f10:ls 10=false:=cR;have bJ:=hJ;simp only[f10]at bJ;refine fg (kR:ay _ 0=some (none,.store 163 (.tmp 13) (.tmp 12),0,none)) hF kR kR (k':=1) rfl (ad:=(aZ g0)) (j:=((((i / 64:Nat):Int)).toNat*1)) (e:=163) (size:=1) (n:=ws.length) (cap:=c) (v:=(.int .u64 ((ws.getD (i / 64) 0|||2^(i % 64):Nat):Int))) (xs:=(mI ws)) (ad':=(aN (aZ g0) ((i / 64:Nat):Int) 1)) kR rfl kR kR rfl bJ 0 rfl oM ?_;intro w2 fv _ a2 ea _;refine bl kR ?_;refine bL (d:=none) kR ea rfl ?_;show _;exact fv.cast (by show[bx.row _ _ _ _ _ _]=_;rw[yX,Qh,cZ,eE]);intro aC w5 ls vs dT M6 hv fr;simp only[show ls 10=true from dT 10 dQ]at M6;revert aC;refine bQ [] ?_;clear dT hv fr aC hM;clear vs ls;refine Wm ?_;exact⟨rfl,M6⟩
theorem QbL(ws:List Nat)(n i:Nat)(A:ao)(c:Nat)(w:World)(qg:Fit ws)(hi0:i≤1000000)(hn:n=ws.length)(hi:i / 64<ws.length)(hA:RO aX w (.rd A (mI ws))):Calls Tryz.prog 72 #[vS A n c,nV i] w (ff fun v w'=>v=vB (tb ws i)∧Mem aX w w' []):=by
 subst hn;refine gF 15 [vS A ws.length c,nV i] Tryz.func72 ?_;have hM:=Mem.init w;refine aW<|aG<|ae 2 ?_;intro aC fr;refine iK (kR:ay _ 2=some (some 7,.binOp .quo 3 (.tmp 6) (.const (vI 64)) 3,3,none)) fr kR kR (k':=3) rfl (kd:= .i64) (kd':= .i64) (i:=(i:Int)) (j:=64) (z:=vI ((i / 64:Nat):Int)) kR kR (fun w=>yU 64 oM dQ w) ?_;intro aC ea fr;clear ea;obtain⟨Vt,rfl⟩:=rd_some (hM.ro hA) (by rw[Qi];omega);revert aC;refine eM Vt ws.length 1 ((i / 64:Nat):Int)<|bB (aN Vt ((i / 64:Nat):Int) 1) _ (bH (hM.ro hA) rfl (FK oM))<|ae 1 ?_;intro aC fr;refine iK (kR:ay _ 6=some (some 11,.binOp .rem 3 (.tmp 10) (.const (vI 64)) 3,3,none)) fr kR kR (k':=7) rfl (kd:= .i64) (kd':= .i64) (i:=(i:Int)) (j:=64) (z:=vI ((i % 64:Nat):Int)) kR kR (fun w=>FJ 64 dQ w) ?_;intro aC ea fr;clear ea;refine iK (kR:ay _ 7=some (some 12,.binOp .shr 163 (.tmp 9) (.tmp 11) 3,163,none)) fr kR kR (k':=8) rfl (kd:= .u64) (kd':= .i64) (i:=((ws.getD (i / 64) 0:Nat):Int)) (j:=((i % 64:Nat):Int)) (z:= .int .u64 ((ws.getD (i / 64) 0 / 2^(i % 64):Nat):Int)) kR kR (fun w=>VZ (vh _ dQ) w) ?_;intro aC ea fr;clear ea;refine iK (kR:ay _ 8=some (some 13,.binOp .and 163 (.tmp 12) (.const (.int .u64 1)) 163,163,none)) fr kR kR (k':=9) rfl (kd:= .u64) (kd':= .u64) (i:=((ws.getD (i / 64) 0 / 2^(i % 64):Nat):Int)) (j:=1) (z:= .int .u64 ((ws.getD (i / 64) 0 / 2^(i % 64)&&&1:Nat):Int)) kR kR (fun w=>Qg (Nat.lt_of_le_of_lt (Nat.div_le_self _ _) (qg.get _)) w) ?_;intro aC ea fr;clear ea;revert aC;refine k9 (((ws.getD (i / 64) 0 / 2^(i % 64)&&&1:Nat):Int)==1) fun Bh hBh=> ?_
 refine ae 1<|au<|bG<|cK (vB Bh) ?_;exact⟨by rw[hBh,Qbw];rfl,hM⟩
theorem MZ(l:af)(A:ao)(c:Nat)(w:World)(hm:l.length≤1000000)(qe:(bx.row 3 1 A l.length c (ints l)).holds w):Calls Tryz.prog 73 #[vS A l.length c] w (ff fun v w'=>v= .tuple #[]∧Mem (bx.row 3 1 A l.length c (ints l)).fp w w' [.row 3 1 A l.length c (ints l.reverse)]):=by
 refine gF 28 [vS A l.length c] Tryz.func73 ?_;have hM:=Mem.qv qe;refine aG<|ae 2<|dw ((l.length:Int)-1)<|ae 2<|au<|cC 0 ?_;intro aC fr;replace fr:Fr aC 28 [(0,.slice A l.length c),(2,vI (0:Int)),(3,vI ((l.length:Int)-1-(0:Int)))]:=by rw[show((l.length:Int)-1-(0:Int))=(l.length:Int)-1 by omega];exact fr.keep (keep:=[0,2,3]) kR
 refine fX (fun n_ a_ w_=>∃(k:Nat) (m:af),n_=l.length-k∧Fr a_ 28 [(0,vS A l.length c),(2,nV k),(3,(vI ((l.length:Int)-1-(k:Int))))]∧Mem (bx.row 3 1 A l.length c (ints l)).fp w w_ [.row 3 1 A l.length c (ints m)]∧(2*k≤l.length)∧(ug l m k)) (n:=_) ⟨0,l,rfl,fr.kp [0,2,3],hM,oM,Bs l⟩ ?_;clear fr aC hM;rintro n aC w3 ⟨k,m,rfl,fr,M4,hk,hs⟩;revert aC;refine aU<|aG<|ae 2<|k9 (decide ((k:Int)<((l.length:Int)-1-(k:Int)))) fun Blt Qfc=> ?_
 refine au ?_;cases Blt;have clt:¬((k:Int)<((l.length:Int)-1-(k:Int))):=bP Qfc.symm;refine gE<|fP 0<|fQ<|Wm ?_;exact⟨rfl,M4.cast (by rw[Gg hs oM])⟩;have clt:(k:Int)<((l.length:Int)-1-(k:Int)):=bK Qfc.symm;refine fY<|bN<|aU<|cC 1 ?_;obtain⟨q,hq⟩:∃q:Nat,((l.length:Int)-1-(k:Int))=(q:Int):=⟨l.length-1-k,oM⟩;refine cU [0,2,3,9] ?_;intro aC fr;rw[hq]at fr clt;have Mv:m.length=l.length:=hs.1;obtain⟨g0,hg0⟩:=dJ (M4.get 0 rfl) (show 0<l.length by omega);subst hg0;revert aC;refine cU [0,2,3,9] ?_;intro aC fr;refine K3 (aP [eS (sM g0) l.length c,.bb (nV k),eS (sM g0) l.length c,.bb (nV q),eS (sM g0) l.length c,.bb (nV q),eA (aZ g0) (q:Int) 1,eI (m.getD (q:Int).toNat 0),eS (sM g0) l.length c,.bb (nV k),eA (aZ g0) (k:Int) 1,eI (m.getD (k:Int).toNat 0),eA (aZ g0) (k:Int) 1,.bb undef,eA (aZ g0) (q:Int) 1,.bb undef]) (fun ls vs w_=>match ls 15 with|true=>(Mem (bx.row 3 1 (sM g0) l.length c (ints l)).fp w w_ [.row 3 1 (sM g0) l.length c (((ints m).set (((k:Int)).toNat*1) (vI (m.getD (q:Int).toNat 0))).set (((q:Int)).toNat*1) (vI (m.getD (k:Int).toNat 0)))])|false=>(match ls 13 with|true=>(Mem (bx.row 3 1 (sM g0) l.length c (ints l)).fp w w_ [.row 3 1 (sM g0) l.length c ((ints m).set (((k:Int)).toNat*1) (vI (m.getD (q:Int).toNat 0)))])|false=>(Mem (bx.row 3 1 (sM g0) l.length c (ints l)).fp w w_ [.row 3 1 (sM g0) l.length c (ints m)]))) fr (gH (.bb (.bb (.bb (.bb (.bb (.bb (.bb (.bb (.bb (.bb (.bb (.bb (.bb (.bb (.bb (.bb .nil))))))))))))))))) (M4.an (Mem.drew _)) (la (kB (eL lz (j9 fun _ _ _ _ h=>h) (j9 fun _ _ _ _ h=>h) (j9 fun _ _ _ _ h=>h) (j9 fun _ _ _ _ h=>h) (j9 fun _ _ _ _ h=>h) (j9 fun _ _ _ _ h=>h) (HU (aZ g0) l.length 1 (q:Int) fun _ _ _ _ h=>h) (AQ (aN (aZ g0) (q:Int) 1) (vI (m.getD (q:Int).toNat 0)) (fun _ _ _ _ h=>h) ?_) (j9 fun _ _ _ _ h=>h) (j9 fun _ _ _ _ h=>h) (HU (aZ g0) l.length 1 (k:Int) fun _ _ _ _ h=>h) (AQ (aN (aZ g0) (k:Int) 1) (vI (m.getD (k:Int).toNat 0)) (fun _ _ _ _ h=>h) ?_)) (HU (aZ g0) l.length 1 (k:Int) fun _ _ _ _ h=>h) ?_ (HU (aZ g0) l.length 1 (q:Int) fun _ _ _ _ h=>h)) ?_) ?_;intro w_ ls vs hJ cR cS hp;have f13:ls 13=false:=bw cS cR (n:=16) kR;have f15:ls 15=false:=bw cS cR (n:=16) kR;have bJ:=hJ;simp only[f13,f15]at bJ;exact(cY (aF (bJ.get 0 rfl)) rfl oM oM);intro w_ ls vs hJ cR cS hp;have f13:ls 13=false:=bw cS cR (n:=16) kR;have f15:ls 15=false:=bw cS cR (n:=16) kR;have bJ:=hJ;simp only[f13,f15]at bJ;exact(cY (aF (bJ.get 0 rfl)) rfl oM oM);intro gd w_ ls vs eg hJ cR cS hp hF;refine mO (g0:=none) ?_;replace hF:Fr gd 28 [(21,(vI (m.getD (q:Int).toNat 0))),(26,(vP (aN (aZ g0) (k:Int) 1)))]:=hF.kp [21,26];have f13:ls 13=false:=cR;have f15:ls 15=false:=bw cS cR (n:=16) kR;have bJ:=hJ;simp only[f13,f15]at bJ;refine fg (kR:ay _ 0=some (none,.store 3 (.tmp 26) (.tmp 21),0,none)) hF kR kR (k':=1) rfl (ad:=(aZ g0)) (j:=(((k:Int)).toNat*1)) (e:=3) (size:=1) (n:=l.length) (cap:=c) (v:=(vI (m.getD (q:Int).toNat 0))) (xs:=(ints m)) (ad':=(aN (aZ g0) (k:Int) 1)) kR rfl kR kR rfl bJ 0 rfl oM ?_;intro w2 fv _ a2 ea _;refine bl kR ?_;refine bL (d:=none) kR ea rfl ?_;show match ls 15 with|true=>_|false=>(_)
 rw[f15];exact fv;intro gd w_ ls vs eg hJ cR cS hp hF;refine mO (g0:=none) ?_;replace hF:Fr gd 28 [(25,(vI (m.getD (k:Int).toNat 0))),(27,(vP (aN (aZ g0) (q:Int) 1)))]:=hF.kp [25,27];have f13:ls 13=true:=bI cS (fun k hk=>(hp k hk).1) (n:=16) kR;have f15:ls 15=false:=cR;have bJ:=hJ;simp only[f13,f15]at bJ;refine fg (kR:ay _ 0=some (none,.store 3 (.tmp 27) (.tmp 25),0,none)) hF kR kR (k':=1) rfl (ad:=(aZ g0)) (j:=(((q:Int)).toNat*1)) (e:=3) (size:=1) (n:=l.length) (cap:=c) (v:=(vI (m.getD (k:Int).toNat 0))) (xs:=((ints m).set (((k:Int)).toNat*1) (vI (m.getD (q:Int).toNat 0)))) (ad':=(aN (aZ g0) (q:Int) 1)) kR rfl kR kR rfl bJ 0 rfl oM ?_;intro w2 fv _ a2 ea _;refine bl kR ?_;refine bL (d:=none) kR ea rfl ?_;show _;exact fv;intro aC MU ls vs dT mK hv fr;simp only[show ls 15=true from dT 15 dQ]at mK;revert aC;refine bQ [(0,vS (sM g0) l.length c),(2,nV k),(3,nV q)] ?_;clear dT hv fr aC M4;clear vs ls;refine cN<|ae 1<|dw ((k:Int)+1)<|ae 1<|dw ((q:Int)-1)<|ae 2<|au ?_;intro aC fr;replace fr:Fr aC 28 [(0,.slice (sM g0) l.length c),(2,vI ((k+1:Nat):Int)),(3,vI ((l.length:Int)-1-((k+1:Nat):Int)))]:=by rw[show((l.length:Int)-1-((k+1:Nat):Int))=(q:Int)-1 by omega];exact fr.keep (keep:=[0,2,3]) kR
 exact⟨l.length-(k+1),oM,k+1,(m.set k (m.getD q 0)).set q (m.getD k 0),rfl,fr.kp [0,2,3],(mK.cast (by rw[ints_set,ints_set];simp only[cZ,eE])),oM,Ee hs oM⟩
end Go.Proofs.YtjekgaabcigphaaGreat
namespace Go.Proofs.YtjekgaabcigphaaGreat
open Go.Mor
theorem Ef(nm wk pa va:Value)(A:ao)(c:Nat)(bs:List SB)(w:World)(hm:bs.length≤1000000)(hA:RO aX w (.blocks A bs)):Calls Tryz.prog 40 #[(.agg #[nm,wk,pa,va,(.slice A bs.length c)])] w (ff fun v w'=>∃A' c',v=vS A' (aI bs).length c'∧Mem aX w w' [.row 3 1 A' (aI bs).length c' (ints (aI bs))]):=by
 refine gF 83 [(.agg #[nm,wk,pa,va,(.slice A bs.length c)])] Tryz.func40 ?_;have hM:=Mem.init w;refine aG<|lO hM 35 (.agg #[nm,wk,pa,va,(.slice A bs.length c)]) [nm,wk,pa,va,(.slice A bs.length c)] fun b1 w2 iW M3=> ?_
 replace M3:=M3.nf;clear hM;refine ae 1<|au<|aU<|aG<|ae 1<|bB (ah b1 4) (.slice A bs.length c) (aa (M3.get 0 rfl) rfl)<|ae 1<|k9 (((bs.length:Nat):Int)==0) fun Bz hBz=> ?_
 refine au ?_;cases Bz;have cz:¬(((bs.length:Nat):Int)=0):=K2 hBz;refine gE<|bN<|aG<|ae 1<|bB (ah b1 4) (.slice A bs.length c) (aa (M3.get 0 rfl) rfl)<|ae 1<|eb (MY bs.length w2 oM) ?_;rintro _ w5 ⟨g4,rfl,M6x⟩;have M6:=M3.cl M6x;refine ae 1<|au<|aG<|ae 1<|eb (vs:=#[(.slice (sM g4) ((bs.length+63) / 64) ((bs.length+63) / 64)),(.int .i64 0)]) (Qag (List.replicate ((bs.length+63) / 64) 0) ((bs.length+63) / 64) 0 (sM g4) ((bs.length+63) / 64) w5 (Fit.zero _) oM sI (by simp;omega) (M6.get 1 rfl)) ?_;rintro _ w7 ⟨rfl,M8x⟩;have M8:=M6.md 1 rfl M8x;refine au<|aW<|aG<|ae 1 ?_;intro aC fr;refine p6 20 133 1 #[(0,(.tmp 19))] 133 fr (e:=132) (size:=2) (zs:=[(.int .i64 0),(.int .i64 0)]) (vs:=[(0,(.agg #[(.int .i64 0),(.int .i64 0)]))]) (cs:=[(.int .i64 0),(.int .i64 0)]) M8 ?_;intro b9 Pr hb9 _ p8 _ aC ea fr;clear ea;replace p8:=p8.nf;revert aC;refine ae 1<|au<|aU<|cC 0 ?_;obtain⟨s0,MS,WV⟩:=vH bs;intro aC fr;refine fX (fun n_ a_ w_=>∃(ws:List Nat) (S:Int→Bool) (rM:List (Int×Nat)) (A3:ao) (c3:Nat) (A2:ao) (n2:Nat) (c2:Nat) (o:af),n_=4*kP bs.length S+Ge (tg bs) rM∧Fr a_ 83 [(1,(pT b1 0)),(3,(.slice (sM g4) ((bs.length+63) / 64) ((bs.length+63) / 64))),(4,(.slice A2 n2 c2)),(5,(.slice A3 rM.length c3))]∧Mem aX w w_ [.aL b1 35 [nm,wk,pa,va,(.slice A bs.length c)],.row 163 1 (sM g4) ((bs.length+63) / 64) ((bs.length+63) / 64) (mI ws),.row 132 2 A3 rM.length c3 (qX rM),.row 3 1 A2 n2 c2 (ints o)]∧(WS bs.length ws S)∧(Gd (tg bs) rM (S,o) (Gc bs))∧(Cw (tg bs) rM)∧(o.length+rM.length+kP bs.length S≤bs.length)∧(n2=o.length)) (n:=_) ⟨yX (List.replicate ((bs.length+63) / 64) 0) 0,gN (fun _=>false) 0,[(0,0)],(sM b9),1,none,0,0,[],rfl,fr.kp [1,3,4,5],(p8.call (Mem.gb _ 3 1)),(WS.start bs.length).put oM,⟨s0,MS,WV⟩,WT _ _,by have:=ib (n:=bs.length) (S:=fun _=>false) (t:=0) oM oM rfl;have:=l8 bs.length (fun _=>false);simp only[eZ,gX];omega,rfl⟩ ?_;clear fr aC p8;rintro n aC I5 ⟨ws,S,rM,A3,c3,A2,n2,c2,o,rfl,fr,kA,zy,pJ,WW,I8,D9⟩;revert aC;refine aU<|aG<|ae 2<|k9 (decide (((rM.length:Nat):Int)>0)) fun Bw hBw=> ?_
 refine au ?_;cases Bw;have cw:¬(((rM.length:Nat):Int)>0):=bP hBw.symm;refine gE<|fP 0<|fQ<|aG ?_;obtain rfl:rM=[]:=by cases rM with|nil=>rfl|cons p r=>simp at cw
 have hol:o=Gc bs:=pJ;simp only[gX]at I8;subst D9;refine ae 1<|eb (MZ o A2 c2 I5 oM (kA.get 3 rfl)) ?_;rintro _ Q1 ⟨rfl,MT⟩;have ob:=kA.md 3 rfl MT;refine au<|aW<|bG<|cK (.slice A2 o.length c2) ?_;exact pq (ob.pick [false,false,false,true] rfl) (by unfold aI;rw[aB oM,hol]) sI;have cw:((rM.length:Nat):Int)>0:=bK hBw.symm;refine fY<|bN<|cC 1<|aG ?_;obtain⟨b,k,rest,rfl⟩:∃b k rest,rM=(b,k)::rest:=by
   cases rM with
   |nil=>simp at cw
   |cons p rest=>exact⟨p.1,p.2,rest,rfl⟩
 have hkl:=WW _ (cJ ..);simp only at hkl;have Ps:((b,k)::rest).length=rest.length+1:=rfl;have Gh:=I8;simp only[eZ]at Gh;have kZ:=yG (kA.get 2 rfl);obtain⟨g3,rfl⟩:=dJ (kA.get 2 rfl) (Nat.succ_pos _);refine ae 3 ?_;intro aC fr;refine jk (kR:ay _ 3=some (some 27,(.binOp .sub 3 (.tmp 26) (.const (.int .i64 1)) 3),3,none)) fr kR kR (k':=4) rfl (i:=((((b,k)::rest).length:Nat):Int)) (j:=1) (z:=((rest.length:Nat):Int)) kR kR (bE some (by rw[Ps];omega)) oM oM ?_;intro aC ea fr;clear ea;revert aC;refine eM (aZ g3) (((b,k)::rest).length) 2 ((rest.length:Nat):Int)<|ae 1<|au<|aU<|bQ [(1,(pT b1 0)),(3,(.slice (sM g4) ((bs.length+63) / 64) ((bs.length+63) / 64))),(4,(.slice A2 n2 c2)),(5,(.slice (sM g3) (((b,k)::rest).length) c3)),(6,(.pointer (some (((aZ g3):Addr).add ((((rest.length:Nat):Int)).toNat*2)))))] ?_;intro aC fr;refine K3 (N:=83) (env0:=[(1,(pT b1 0)),(3,(.slice (sM g4) ((bs.length+63) / 64) ((bs.length+63) / 64))),(4,(.slice A2 n2 c2)),(5,(.slice (sM g3) (((b,k)::rest).length) c3)),(6,(.pointer (some (((aZ g3):Addr).add ((((rest.length:Nat):Int)).toNat*2)))))]) (aP [.bb (.agg #[nm,wk,pa,va,(.slice A bs.length c)]),.bb (.pointer (some (((aZ g3):Addr).add ((((rest.length:Nat):Int)).toNat*2)))),.bb (.pointer (some (((aZ g3):Addr).add ((((rest.length:Nat):Int)).toNat*2)))),.bb (.pointer (some (((aZ g3):Addr).add ((((rest.length:Nat):Int)).toNat*2)))),.bb (.int .i64 b),Spec.free,Spec.free]) (fun ls vs w_=>match ls 6 with|true=>(∃(WX:ao) (Fm:Nat),vs 6=(.slice WX ((tg bs b).length) Fm)∧Mem aX w w_ [.aL b1 35 [nm,wk,pa,va,(.slice A bs.length c)],.row 163 1 (sM g4) ((bs.length+63) / 64) ((bs.length+63) / 64) (mI ws),.row 132 2 (sM g3) (((b,k)::rest).length) c3 (qX ((b,k)::rest)),.row 3 1 A2 n2 c2 (ints o),.row 3 1 WX ((tg bs b).length) Fm (ints (tg bs b))])|false=>(match ls 5 with|true=>(∃(WX:ao) (Fm:Nat),vs 5=(.slice WX ((tg bs b).length) Fm)∧Mem aX w w_ [.aL b1 35 [nm,wk,pa,va,(.slice A bs.length c)],.row 163 1 (sM g4) ((bs.length+63) / 64) ((bs.length+63) / 64) (mI ws),.row 132 2 (sM g3) (((b,k)::rest).length) c3 (qX ((b,k)::rest)),.row 3 1 A2 n2 c2 (ints o),.row 3 1 WX ((tg bs b).length) Fm (ints (tg bs b))])|false=>(Mem aX w w_ [.aL b1 35 [nm,wk,pa,va,(.slice A bs.length c)],.row 163 1 (sM g4) ((bs.length+63) / 64) ((bs.length+63) / 64) (mI ws),.row 132 2 (sM g3) (((b,k)::rest).length) c3 (qX ((b,k)::rest)),.row 3 1 A2 n2 c2 (ints o)]))) fr (gH (.bb (.bb (.bb (.bb (.bb (.free (.free .nil)))))))) (kA.an (Mem.drew _)) (oh (qh lz ?_ (j9 fun _ _ _ _ h=>h) (j9 fun _ _ _ _ h=>h) (j9 fun _ _ _ _ h=>h) (AQ (((aZ g3):Addr).add ((((rest.length:Nat):Int)).toNat*2)) (.int .i64 b) (fun _ _ _ _ h=>h) ?_)) ?_ ?_) ?_;intro gd w_ ls vs eg hJ cR cS hp hF;refine mO (g0:=none) ?_;replace hF:Fr gd 83 [(1,(pT b1 0))]:=hF.kp [1];have f5:ls 5=false:=bw cS cR (n:=7) kR;have f6:ls 6=false:=bw cS cR (n:=7) kR;have bJ:=hJ;simp only[f5,f6]at bJ;refine ix (kR:ay _ 0=some (some 29,(.load 35 (.tmp 1)),35,none)) hF kR kR (k':=1) rfl (ad:=aZ b1) (vs:=[nm,wk,pa,va,(.slice A bs.length c)]) kR kR (bp (bJ.get 0 rfl)) ?_;intro a2 ea _;refine bl kR ?_;exact bL (d:=some 29) kR ea rfl hJ;intro w_ ls vs hJ cR cS hp;have f5:ls 5=false:=bw cS cR (n:=7) kR;have f6:ls 6=false:=bw cS cR (n:=7) kR;have bJ:=hJ;simp only[f5,f6]at bJ;exact(by rw[cZ];exact kf (aF (bJ.get 2 rfl)) rfl uf.1);intro gd w_ ls vs eg hJ cR cS hp hF;refine mO (g0:=none) ?_;replace hF:Fr gd 83 [(29,(.agg #[nm,wk,pa,va,(.slice A bs.length c)])),(33,(.int .i64 b))]:=hF.kp [29,33];have f5:ls 5=false:=cR;have f6:ls 6=false:=bw cS cR (n:=7) kR;have bJ:=hJ;simp only[f5,f6]at bJ;refine lv (kR:ay _ 0=some (some 34,(.call {callee:=(.value (.func 52)),args:=#[(.tmp 29),(.tmp 33)],argTypes:=#[35,3]}),40,none)) hF kR kR (k':=1) rfl (f:=52) (vs:=[(.agg #[nm,wk,pa,va,(.slice A bs.length c)]),(.int .i64 b)]) (cap:=[]) kR kR kR (Cu _ _ _ _ A c bs b w_ hm (hA.at_ bJ)) ?_;rintro _ w2 ⟨WY,WZ,rfl,fv⟩ a2 ea _;have hm3:=bJ.call fv;refine bl kR ?_;refine bL (d:=some 34) kR ea trivial ?_;show match ls 6 with|true=>_|false=>(∃(WX:ao) (Fm:Nat),_)
 rw[f6];exact⟨WY,WZ,rfl,hm3⟩;intro gd w_ ls vs eg hJ cR cS hp hF;refine mO (g0:=none) ?_;replace hF:Fr gd 83 [(34,vs 5)]:=hF.kp [34];have f5:ls 5=true:=bI cS (fun k hk=>(hp k hk).1) (n:=7) kR;have f6:ls 6=false:=cR;have bJ:=hJ;simp only[f5,f6]at bJ;obtain⟨WY,WZ,e_,fv⟩:=bJ;rw[e_]at hF;refine iw (kR:ay _ 0=some (some 7,(.assign (.tmp 34)),40,none)) hF kR kR (k':=1) rfl (v:=(.slice WY ((tg bs b).length) WZ)) kR ?_;intro a2 ea _;refine bl kR ?_;refine bL (d:=some 7) kR ea trivial ?_;show∃(WX:ao) (Fm:Nat),_;exact⟨WY,WZ,rfl,fv⟩;intro aC w34 ls vs dT mT hv fr;simp only[show ls 6=true from dT 6 dQ]at mT;revert aC;refine bQ [(1,(pT b1 0)),(3,(.slice (sM g4) ((bs.length+63) / 64) ((bs.length+63) / 64))),(4,(.slice A2 n2 c2)),(5,(.slice (sM g3) (((b,k)::rest).length) c3)),(6,(.pointer (some (((aZ g3):Addr).add ((((rest.length:Nat):Int)).toNat*2))))),(7,vs 6)] ?_;obtain⟨WX,Fm,e_,mT⟩:=mT;rw[e_];clear e_;clear dT hv fr aC kA;clear vs ls;refine aU<|aG<|ae 3<|bB ((((aZ g3):Addr).add ((((rest.length:Nat):Int)).toNat*2)).add 1) (nV k) (by rw[cZ,add_add];exact kf (aF (mT.get 2 rfl)) rfl uf.2)<|ae 2<|k9 ((k:Int)==(((tg bs b).length:Nat):Int)) fun Bl hBl=> ?_
 refine au ?_;cases Bl;have cl:¬((k:Int)=(((tg bs b).length:Nat):Int)):=K2 hBl;refine gE<|bN<|aG ?_;obtain⟨ti,I9,M0⟩:=Q6 (bs:=bs) (b:=b) (k:=k) oM;refine ae 4<|bB ((((aZ g3):Addr).add ((((rest.length:Nat):Int)).toNat*2)).add 1) (nV k) (by rw[cZ,add_add];exact kf (aF (mT.get 2 rfl)) rfl uf.2) ?_;obtain⟨g37,rfl⟩:=dJ (mT.get 4 rfl) oM;refine eM (h1:=oM) (aZ g37) ((tg bs b).length) 1 (k:Int)<|bB (((aZ g37):Addr).add (((k:Int)).toNat*1)) (nV ti) (g9 (aF (mT.get 4 rfl)) rfl I9)<|ae 1<|au<|aG<|ae 3<|bB ((((aZ g3):Addr).add ((((rest.length:Nat):Int)).toNat*2)).add 1) (nV k) (by rw[cZ,add_add];exact kf (aF (mT.get 2 rfl)) rfl uf.2)<|dw (h2:=(by have:=qI bs b;omega)) ((k:Int)+1)<|ae 2<|wC mT 2 ((((aZ g3):Addr).add ((((rest.length:Nat):Int)).toNat*2)).add 1) (rest.length*2+1) (.int .i64 ((k:Int)+1)) rfl (by rw[cZ,add_add]) (by rw[Ps];omega) fun w38 Na=> ?_
 replace Na:=Na.nf;refine au<|aG ?_;have uh:Mem aX w w38 [.aL b1 35 [nm,wk,pa,va,(.slice A bs.length c)],.row 163 1 (sM g4) ((bs.length+63) / 64) ((bs.length+63) / 64) (mI ws),.row 132 2 (sM g3) (((b,k+1)::rest).length) c3 (qX ((b,k+1)::rest)),.row 3 1 A2 n2 c2 (ints o),.row 3 1 (sM g37) ((tg bs b).length) Fm (ints (tg bs b))]:=Na.cast (by rw[WR];rfl);refine ae 2<|eb (QbL ws ((bs.length+63) / 64) ti (sM g4) ((bs.length+63) / 64) w38 zy.fit oM zy.len.symm (zy.idx M0) (RO.aF (uh.df 1 rfl))) ?_;rintro _ W0 ⟨rfl,QbM⟩;have tz:=uh.cl QbM;obtain⟨Bm,hBm⟩:∃B,B=tb ws ti:=⟨_,rfl⟩;refine bQ [(1,(pT b1 0)),(3,(.slice (sM g4) ((bs.length+63) / 64) ((bs.length+63) / 64))),(4,(.slice A2 n2 c2)),(5,(.slice (sM g3) (((b,k+1)::rest).length) c3)),(8,(nV ti)),(68,(.slice (sM g4) ((bs.length+63) / 64) ((bs.length+63) / 64))),(69,(nV ti)),(70,(.bool (tb ws ti)))] ?_;rw[←hBm];refine ae 1<|au ?_;cases Bm;have cm:(tb ws ti)=false:=hBm.symm;have W1:S (ti:Int)=false:=by rw[←zy.bits ti M0];exact cm
 refine fY<|aG<|ae 2<|eb (Qag ws ((bs.length+63) / 64) ti (sM g4) ((bs.length+63) / 64) W0 zy.fit oM zy.len.symm (zy.idx M0) (tz.get 1 rfl)) ?_;rintro _ w43 ⟨rfl,Q7⟩;have rN:=tz.md 1 rfl Q7;refine au<|cN<|ae 3 ?_;intro aC fr;refine p6 78 133 1 #[(0,(.tmp 77))] 133 fr (e:=132) (size:=2) (zs:=[(.int .i64 0),(.int .i64 0)]) (vs:=[(0,(.agg #[(nV ti),(.int .i64 0)]))]) (cs:=[(nV ti),(.int .i64 0)]) rN ?_;intro uW w46 Qfd _ AX _ aC ea fr;clear ea;replace AX:=AX.nf;refine F0 79 (.tmp 75) (.tmp 78) 133 133 fr (e:=132) (size:=2) (bytes:=16) (z:=(.agg #[(.int .i64 0),(.int .i64 0)])) (A:=(sM g3)) (B:=(sM uW)) (n:=(((b,k+1)::rest).length)) (cap:=c3) (m:=1) (cap':=1) (xs:=(qX ((b,k+1)::rest))) (news:=[(nV ti),(.int .i64 0)]) AX 2 rfl (aF (AX.get 5 rfl)) rfl (by simp[Value.oneCell']) (by simp only[eZ];omega) (by simp only[maxLen,eZ];omega) ?_;intro uX o9 w54 oi _ aC ea fr;clear ea;replace oi:=oi.nf;have Fk:=oi.od [4,4,4,4,4] 5;revert aC;refine ae 1<|au ?_;intro aC fr;exact⟨4*kP bs.length (gN S (ti:Int))+Ge (tg bs) (((ti:Int),0)::(b,k+1)::rest),by have:=qI bs (ti:Int);have:=ib (n:=bs.length) (S:=S) (t:=(ti:Int)) oM oM W1;simp only[Ge];omega,yX ws ti,gN S (ti:Int),((ti:Int),0)::(b,k+1)::rest,uX,o9,A2,n2,c2,o,rfl,fr.kp [1,3,4,5],((Fk.pick [true,true,true,true,false] rfl).cast (by rw[mS ((ti:Int),0)];rfl)),zy.put M0,Q4 pJ I9 W1,Q5 WW oM,by have:=ib (n:=bs.length) (S:=S) (t:=(ti:Int)) oM oM W1;simp only[eZ]at I8⊢;omega,D9⟩;have cm:(tb ws ti)=true:=hBm.symm;have W1:S (ti:Int)=true:=by rw[←zy.bits ti M0];exact cm
 refine gE<|bN ?_;intro aC fr;exact⟨4*kP bs.length S+Ge (tg bs) ((b,k+1)::rest),by simp only[Ge];omega,ws,S,(b,k+1)::rest,(sM g3),c3,A2,n2,c2,o,rfl,fr.kp [1,3,4,5],(tz.pick [true,true,true,true,false] rfl),zy,Q3 pJ I9 W1,WU WW oM,by simp only[eZ]at I8⊢;omega,D9⟩;have cl:(k:Int)=(((tg bs b).length:Nat):Int):=ax.1 hBl.symm;refine fY<|aG<|ae 4<|bB (((aZ g3):Addr).add ((((rest.length:Nat):Int)).toNat*2)) (.int .i64 b) (by rw[cZ];exact kf (aF (mT.get 2 rfl)) rfl uf.1) ?_;intro aC fr;refine p6 47 40 1 #[(0,(.tmp 46))] 40 fr (e:=3) (size:=1) (zs:=[(.int .i64 0)]) (vs:=[(0,(.int .i64 b))]) (cs:=[(.int .i64 b)]) mT ?_;intro b63 w64 hb63 _ Eg _ aC ea fr;clear ea;replace Eg:=Eg.nf;refine F0 48 (.tmp 42) (.tmp 47) 40 40 fr (e:=3) (size:=1) (bytes:=8) (z:=(.int .i64 0)) (A:=A2) (B:=(sM b63)) (n:=n2) (cap:=c2) (m:=1) (cap':=1) (xs:=(ints o)) (news:=[(.int .i64 b)]) Eg 3 rfl (aF (Eg.get 5 rfl)) rfl (by simp[Value.oneCell']) oM (by simp only[maxLen];omega) ?_;intro A70 Pt w72 zz _ aC ea fr;clear ea;replace zz:=zz.nf;have vL:=zz.od [4,4,4,4,4] 5;revert aC;refine ae 1<|au<|aG<|ae 3 ?_;intro aC fr;refine jk (kR:ay _ 3=some (some 52,(.binOp .sub 3 (.tmp 51) (.const (.int .i64 1)) 3),3,none)) fr kR kR (k':=4) rfl (i:=((((b,k)::rest).length:Nat):Int)) (j:=1) (z:=((rest.length:Nat):Int)) kR kR (bE some (by rw[Ps];omega)) oM oM ?_;intro aC ea fr;clear ea;refine kI (kR:ay _ 4=some (some 53,(.slice 133 (.tmp 49) none (some (.tmp 52)) none),133,none)) fr kR kR (k':=5) rfl (A:=(sM g3)) (n:=((b,k)::rest).length) (cap:=c3) (e:=132) (size:=2) (kd:= .i64) (i:=((rest.length:Nat):Int)) rest.length kR kR rfl kR kR oM ?_;intro aC ea fr;clear ea;have qY:Mem aX w w72 [.aL b1 35 [nm,wk,pa,va,(.slice A bs.length c)],.row 163 1 (sM g4) ((bs.length+63) / 64) ((bs.length+63) / 64) (mI ws),.row 132 2 (sM g3) rest.length c3 (qX rest),.row 3 1 A70 (n2+1) Pt ((ints o)++[(.int .i64 b)]),.row 3 1 WX ((tg bs b).length) Fm (ints (tg bs b))]:=(vL.tM 2 rfl rest.length oM).cast (by rw[WQ];rfl);revert aC;refine ae 1<|au<|fP 1<|fQ ?_;intro aC fr;exact⟨4*kP bs.length S+Ge (tg bs) rest,by simp only[Ge];omega,ws,S,rest,(sM g3),c3,A70,(n2+1),Pt,o++[b],rfl,fr.kp [1,3,4,5],((qY.pick [true,true,true,true,false] rfl).cast (by rw[gl];rfl)),zy,WO pJ oM,fun p hp=>WW p (bT _ hp),by simp only[fz,eZ,gX]at I8⊢;omega,by simp only[fz,eZ,gX];omega⟩;have cz:((bs.length:Nat):Int)=0:=ax.1 hBz.symm;refine fY<|aW<|bG<|cK ag ?_;exact rE (M3.pick [false] rfl) (by unfold aI;rw[bC oM])
end Go.Proofs.YtjekgaabcigphaaGreat
namespace Go.Mor
open Go.RowKit
inductive Reach(T:Int→af):Int→Prop
 |zero:Reach T 0
 |step {x t:Int}:Reach T x→t∈T x→Reach T t
def HY(T:Int→af)(bar:Int)(x:Int):af:=(T x).filter (fun t=> !(t==bar))
theorem jE{T:Int→af}{bar x t:Int}:t∈HY T bar x↔t∈T x∧t≠bar:=by simp[HY]
theorem W2{T:Int→af}(hT:∀t,(T t).length≤2)(bar:Int)(t:Int):(HY T bar t).length≤2:=iv (m5 _ _) (hT t)
theorem Gi{T:Int→af}{ts:af}{s s':MW}(h:Go.Mor.Kids T ts s s'):(∀x,x∈ts→s'.1 x=true)∧(∀x,s'.1 x=true→s.1 x=true∨∀t,t∈T x→s'.1 t=true):=by
 induction h with
 |nil=>exact⟨fun x hx=>(ka hx).elim,fun x hx=> .inl hx⟩
 | @skip t ts S o s' hS h ih=>
  refine⟨fun x hx=> ?_,ih.2⟩;rcases db.1 hx with rfl|hx
  ·exact Kids.mono h _ hS
  ·exact ih.1 x hx
 | @go t ts S o s1 s' hS h1 h2 Vq Vr=>
  have m1:=Kids.mono h1;have m2:=Kids.mono h2;have ht:s1.1 t=true:=m1 t (by simp[gN]);refine⟨fun x hx=> ?_,fun x hx=> ?_⟩
  ·rcases db.1 hx with rfl|hx
   ·exact m2 _ ht
   ·exact Vr.1 x hx
  ·rcases Vr.2 x hx with hx|hx
   ·rcases Vq.2 x hx with hx|hx
    ·by_cases e:x=t
     ·subst e;exact .inr fun y hy=>m2 y (Vq.1 y hy)
     ·left;have:(x==t||S x)=true:=hx;simpa[e]using this
    ·exact .inr fun y hy=>m2 y (hx y hy)
   ·exact .inr hx
theorem Ja{T:Int→af}{ts:af}{s s':MW}(h:Go.Mor.Kids T ts s s')(Vs:∀x,x∈ts→Reach T x)(hs:∀x,s.1 x=true→Reach T x):∀x,s'.1 x=true→Reach T x:=by
 induction h with
 |nil=>exact hs
 |skip _ _ ih=>exact ih (fun x hx=>Vs x (bT _ hx)) hs
 | @go t ts S o s1 s' hS h1 h2 Vq Vr=>
  have ht:=Vs t (cJ ..);refine Vr (fun x hx=>Vs x (bT _ hx)) (Vq (fun x hx=> .step ht hx) (fun x hx=> ?_));have hx:(x==t||S x)=true:=hx;by_cases e:x=t
  ·exact e▸ht
  ·exact hs x (by simpa[e]using hx)
theorem Q8{T:Int→af}{ts:af}{s s':MW}(h:Go.Mor.Kids T ts s s'):∃nw,s'.2=s.2++nw∧(∀x,s'.1 x=true↔s.1 x=true∨x∈nw)∧nw.Nodup∧(∀x,x∈nw→s.1 x=false)∧
  (∀l1 x l2,nw=l1++x::l2→x∈ts∨∃y,y∈l2∧x∈T y):=by
 induction h with
 |nil=>exact⟨[],sI,sI,sI,sI,sI⟩
 | @skip t ts S o s' hS h ih=>
  obtain⟨nw,h1,h2,h3,h4,h5⟩:=ih
  exact⟨nw,h1,h2,h3,h4,fun l1 x l2 e=>(h5 l1 x l2 e).imp (fun h=>bT _ h) id⟩
 | @go t ts S o s1 s' hS h1 h2 Vq Vr=>
  obtain⟨n1,a1,a2,a3,a4,a5⟩:=Vq
  obtain⟨n2,b1,b2,b3,b4,b5⟩:=Vr
  have a2':∀x,s1.1 x=true↔(S x=true∨x=t)∨x∈n1:=by
   intro x
   rw[a2 x]
   have:(gN S t x=true)↔(S x=true∨x=t):=by simp[gN,or_comm]
   exact or_congr this mL
  have b4':∀x,x∈n2→S x=false∧x≠t∧x∉n1:=by
   intro x hx
   have h0:s1.1 x=false:=b4 x hx
   have:¬s1.1 x=true:=by rw[h0];simp
   rw[a2' x]at this
   refine⟨by simpa using fun h=>this (.inl (.inl h)),fun h=>this (.inl (.inr h)),fun h=>this (.inr h)⟩
  have a4':∀x,x∈n1→S x=false∧x≠t:=by
   intro x hx
   have h0:=a4 x hx
   have:¬(gN S t x=true):=by
    have h0:gN S t x=false:=h0
    rw[h0];simp
   have h3:¬(x=t∨S x=true):=by simpa[gN]using this
   exact⟨by simpa using fun h=>h3 (.inr h),fun h=>h3 (.inl h)⟩
  refine⟨n1++t::n2,?_,?_,?_,?_,?_⟩
  ·rw[b1]
   simp only[a1]
   simp
  ·intro x
   rw[b2 x]
   have:=a2' x
   simp only[this,bX,db]
   constructor
   ·rintro(((h|h)|h)|h)
    ·exact .inl h
    ·exact .inr (.inr (.inl h))
    ·exact .inr (.inl h)
    ·exact .inr (.inr (.inr h))
   ·rintro(h|h|h|h)
    ·exact .inl (.inl (.inl h))
    ·exact .inl (.inr h)
    ·exact .inl (.inl (.inr h))
    ·exact .inr h
  ·rw[gJ]
   refine⟨a3,ui.2 ⟨fun h=>(b4' t h).2.1 rfl,b3⟩,fun x hx y hy=> ?_⟩
   rcases db.1 hy with rfl|hy
   ·exact(a4' x hx).2
   ·rintro rfl
    exact(b4' x hy).2.2 hx
  ·intro x hx
   rcases bX.1 hx with hx|hx
   ·exact(a4' x hx).1
   ·rcases db.1 hx with rfl|hx
    ·exact hS
    ·exact(b4' x hx).1
  ·intro l1 x l2 e
   rcases List.append_eq_append_iff.1 e with⟨p,e1,e2⟩|⟨p,e1,e2⟩
   ·
    cases p with
    |nil=>
     simp only[rF,rH]at e2
     exact .inl (by rw[←e2.1];exact cJ ..)
    |cons q p=>
     simp only[yO,rH]at e2
     rcases b5 p x l2 e2.2 with h|⟨y,hy,h⟩
     ·exact .inl (bT _ h)
     ·exact .inr ⟨y,hy,h⟩
   ·cases p with
    |nil=>
     simp only[rF,rH]at e2
     exact .inl (by rw[e2.1];exact cJ ..)
    |cons q p=>
     simp only[yO,rH]at e2
     obtain⟨rfl,e2⟩:=e2
     right
     rcases a5 l1 x p e1 with h|⟨y,hy,h⟩
     ·exact⟨t,by rw[e2];simp,h⟩
     ·exact⟨y,by rw[e2];simp[hy],h⟩
def QbN(T:Int→af)(n:Nat):Int→Bool:=(ni T (3*n+3) (T 0) (gN (fun _=>false) 0,[])).1
theorem Q9{T:Int→af}{n:Nat}(hT:∀t,(T t).length≤2)(hR:∀t x,x∈T t→0≤x∧x<n):∃s,Go.Mor.Kids T (T 0) (gN (fun _=>false) 0,[]) s∧s.1=QbN T n:=by
 refine⟨_,zw (n:=n) hT hR (3*n+3) _ _ (fun x h=>hR 0 x h) ?_,rfl⟩;have h1:=hT 0;have h2:=l8 n (gN (fun _=>false) 0);simp only;by_cases h:n=0
 ·have:T 0=[]:=by
   cases h3:T 0 with
   |nil=>rfl
   |cons x l=>have:=hR 0 x (by rw[h3];exact cJ ..);omega
  rw[this];simp;omega
 ·have:=ib (n:=n) (S:=fun _=>false) (t:=0) oM oM rfl;have h3:=l8 n (fun _=>false);omega
theorem Cx{T:Int→af}{s:MW}(h:Go.Mor.Kids T (T 0) (gN (fun _=>false) 0,[]) s)(x:Int):s.1 x=true↔Reach T x:=by
 constructor
 ·refine Ja h (fun x hx=> .step .zero hx) (fun x hx=> ?_) x;have:x=0:=by simpa[gN]using hx
  exact this▸ .zero
 ·obtain⟨c1,c2⟩:=Gi h;have h0:s.1 0=true:=Kids.mono h 0 (by simp[gN]);intro hr;induction hr with
  |zero=>exact h0
  | @step x t _ ht ih=>
   rcases c2 x ih with hx|hx
   ·have:x=0:=by simpa[gN]using hx
    exact c1 t (this▸ht)
   ·exact hx t ht
theorem Nb{T:Int→af}{n:Nat}(hT:∀t,(T t).length≤2)(hR:∀t x,x∈T t→0≤x∧x<n)(x:Int):QbN T n x=true↔Reach T x:=by
 obtain⟨s,h,e⟩:=Q9 hT hR;rw[←e];exact Cx h x
theorem Ra{T:Int→af}{n:Nat}(hn:0<n)(hR:∀t x,x∈T t→0≤x∧x<(n:Int)){x:Int}(h:Reach T x):0≤x∧x<n:=by
 cases h with
 |zero=>omega
 |step _ ht=>exact hR _ _ ht
def gR(bs:List SB)(bar:Int)(x:Int):Bool:=!(bar==0)&&QbN (HY (tg bs) bar) bs.length x
def ie(bs:List SB)(bar:Int):List Bool:=(List.range bs.length).map (fun i:Nat=>gR bs bar (i:Int))
theorem mU(bs:List SB)(bar:Int):(ie bs bar).length=bs.length:=by simp[ie]
theorem ku{bs:List SB}{bar:Int}{i:Nat}(h:i<bs.length):(ie bs bar).getD i false=gR bs bar (i:Int):=by
 simp[ie,List.getD,h]
theorem qZ(bs:List SB)(bar:Int)(x:Int):gR bs bar x=true↔bar≠0∧Reach (HY (tg bs) bar) x:=by
 unfold gR;rw[bo,Nb (fun t=>W2 (fun t=>qI bs t) bar t) (fun t x h=>qJ (jE.1 h).1) x];simp
theorem vM{n:Nat}{l:List Bool}{S:Int→Bool}(h:eW n l S){m:List Bool}(hm:m.length=n)(hg:∀i:Nat,i<n→m.getD i false=S (i:Int)):l=m:=by
 apply kg;intro i;by_cases hi:i<n
 ·have h1:=h.2 i hi;have h2:=hg i hi;have e1:i<l.length:=by rw[h.1];exact hi
  have e2:i<m.length:=by rw[hm];exact hi
  simp only[List.getD,List.getElem?_eq_getElem e1,List.getElem?_eq_getElem e2,kK]at h1 h2⊢;rw[h1,h2]
 ·rw[List.getElem?_eq_none (by rw[h.1];omega),List.getElem?_eq_none (by rw[hm];omega)]
structure Gj(T:Int→af)(bar:Int)(S:Int→Bool)(todo:af)(i k:Nat):Prop where
 mem:∀x,S x=true↔x∈todo
 reach:∀x,x∈todo→Reach (HY T bar) x
 zero:(0:Int)∈todo
 done:∀j x,j<i→todo[j]?=some x→∀t,t∈T x→t≠bar→t∈todo
 part:∀x,todo[i]?=some x→∀t,t∈(T x).take k→t≠bar→t∈todo
theorem Gj.start(T:Int→af)(bar:Int):Gj T bar (gN (fun _=>false) 0) [0] 0 0:=by
 refine⟨fun x=>by simp[gN],fun x hx=> ?_,sI,fun j x h=>oM,fun x _ t h=>by simp at h⟩;have:x=0:=by simpa using hx
 exact this▸ .zero
theorem Gj.skip{T:Int→af}{bar:Int}{S:Int→Bool}{todo:af}{i k:Nat}{b t:Int}(h:Gj T bar S todo i k)(hi:todo[i]?=some b)(hk:(T b)[k]?=some t)(ht:S t=true∨t=bar):Gj T bar S todo i (k+1):=by
 refine⟨h.mem,h.reach,h.zero,h.done,fun x hx y hy dN=> ?_⟩;rw[hi]at hx;injection hx with hx;subst hx;obtain⟨fM,he⟩:=List.getElem?_eq_some_iff.1 hk;rw[fO fM,he]at hy;rcases bX.1 hy with hy|hy
 ·exact h.part b hi y hy dN
 ·have:y=t:=by simpa using hy
  subst this;rcases ht with ht|ht
  ·exact(h.mem y).1 ht
  ·exact(dN ht).elim
theorem Gj.push{T:Int→af}{bar:Int}{S:Int→Bool}{todo:af}{i k:Nat}{b t:Int}(h:Gj T bar S todo i k)(hi:todo[i]?=some b)(hk:(T b)[k]?=some t)(ht:t≠bar):Gj T bar (gN S t) (todo++[t]) i (k+1):=by
 have fM:i<todo.length:=(List.getElem?_eq_some_iff.1 hi).1;obtain⟨hlk,he⟩:=List.getElem?_eq_some_iff.1 hk;refine⟨fun x=> ?_,fun x hx=> ?_,dG _ h.zero,fun j x hj hx y hy dN=> ?_,fun x hx y hy dN=> ?_⟩
 ·have:=h.mem x;simp[gN,this,or_comm]
 ·rcases bX.1 hx with hx|hx
  ·exact h.reach x hx
  ·have:x=t:=by simpa using hx
   subst this;exact .step (h.reach b (bu hi)) (jE.2 ⟨bu hk,ht⟩)
 ·rw[List.getElem?_append_left oM]at hx;exact dG _ (h.done j x hj hx y hy dN)
 ·rw[List.getElem?_append_left fM,hi]at hx;injection hx with hx;subst hx;rw[fO hlk,he]at hy;rcases bX.1 hy with hy|hy
  ·exact dG _ (h.part b hi y hy dN)
  ·exact iR _ hy
theorem Gj.next{T:Int→af}{bar:Int}{S:Int→Bool}{todo:af}{i k:Nat}{b:Int}(h:Gj T bar S todo i k)(hi:todo[i]?=some b)(hk:(T b).length≤k):Gj T bar S todo (i+1) 0:=by
 refine⟨h.mem,h.reach,h.zero,fun j x hj hx y hy dN=> ?_,fun x _ y hy=>by simp at hy⟩;by_cases e:j=i
 ·subst e;rw[hi]at hx;injection hx with hx;subst hx;exact h.part b hi y (by rw[kh hk];exact hy) dN
 ·exact h.done j x oM hx y hy dN
theorem Gj.fin{T:Int→af}{bar:Int}{S:Int→Bool}{todo:af}{i k:Nat}(h:Gj T bar S todo i k)(hi:todo.length≤i)(x:Int):S x=true↔Reach (HY T bar) x:=by
 rw[h.mem x];refine⟨h.reach x,fun hr=> ?_⟩;induction hr with
 |zero=>exact h.zero
 | @step x t _ ht ih=>
  obtain⟨ht,dN⟩:=jE.1 ht;obtain⟨j,hj,e⟩:=DF.1 ih;exact h.done j x oM (by rw[List.getElem?_eq_getElem hj,e]) t ht dN
theorem Rb{bs:List SB}{bar:Int}{S:Int→Bool}{inl:List Bool}{todo:af}{i k:Nat}(mj:eW bs.length inl S)(h:Gj (tg bs) bar S todo i k)(hi:todo.length≤i)(hb:bar≠0):inl=ie bs bar:=by
 refine vM mj (mU _ _) (fun j hj=> ?_);rw[ku hj,Bool.eq_iff_iff,qZ,h.fin hi];exact⟨fun h=>h.2,fun h=>⟨hb,h⟩⟩
theorem Cy{bs:List SB}{bar:Int}(h:bs.length=0∨bar=0):List.replicate bs.length false=ie bs bar:=by
 refine vM (eW.start bs.length) (mU _ _) (fun j hj=> ?_);rw[ku hj];have:bar=0:=oM;simp[gR,this]
end Go.Mor
namespace Go.Proofs.YtjekgaabcigphaaGreat
open Go.Mor
theorem Jb(nm wk pa va:Value)(A:ao)(c:Nat)(bs:List SB)(bar:Int)(w:World)(hm:bs.length≤1000000)(hA:RO aX w (.blocks A bs)):Calls Tryz.prog 60 #[(.agg #[nm,wk,pa,va,vS A bs.length c]),vI bar] w (ff fun v w'=>∃A' c',v=vS A' bs.length c'∧Mem aX w w' [.row 4 1 A' bs.length c' (fL (ie bs bar))]):=by
 refine gF 74 [(.agg #[nm,wk,pa,va,vS A bs.length c]),vI bar] Tryz.func60 ?_;have hM:=Mem.init w;refine aG<|lO hM 35 (.agg #[nm,wk,pa,va,vS A bs.length c]) [nm,wk,pa,va,vS A bs.length c] fun b1 w2 iW M3=> ?_
 replace M3:=M3.nf;clear hM;refine ae 1<|au<|aG<|ae 1<|bB (ah b1 4) _ (aa (M3.get 0 rfl) rfl)<|ae 1 ?_;intro aC fr;refine Vj 13 113 (.tmp 12) (.tmp 12) 113 fr (e:=4) (bytes:=1) (z:=(vB false)) (n:=bs.length) (i:=(bs.length:Int)) oM (by simp only[maxLen];omega) M3 ?_;intro b4 w5 Pu _ M6 _ aC ea fr;clear ea;replace M6:=M6.nf;revert aC;refine ae 1<|au<|aU<|aG<|ae 1<|bB (ah b1 4) _ (aa (M6.get 0 rfl) rfl)<|ae 1<|k9 ((bs.length:Int)==0) fun Bz hBz=> ?_
 refine ae 1 ?_;cases Bz;have cz:¬((bs.length:Int)=0):=K2 hBz;refine ae 1<|k9 (bar==0) fun Bb hBb=> ?_
 refine ae 1<|au ?_;cases Bb;have cb:¬(bar=0):=K2 hBb;refine gE<|bN<|aG<|ae 1<|eM (aZ b4) bs.length 1 0<|wC M6 1 (aN (aZ b4) (0:Int) 1) ((0:Int).toNat*1) (vB true) rfl rfl oM fun zA eh=> ?_
 replace eh:=eh.nf;refine cU [1,2,5]<|au<|aG ?_;intro aC fr;refine p6 25 40 1 #[(0,.const (vI 0))] 40 fr (e:=3) (size:=1) (zs:=[vI 0]) (vs:=[(0,vI 0)]) (cs:=[vI 0]) eh ?_;intro b13 Vo hb13 _ lQ _ aC ea fr;clear ea;replace lQ:=lQ.nf;revert aC;refine ae 1<|au<|aU<|aW<|cC 0 ?_;intro aC fr;refine fX (fun n_ a_ w_=>∃(i:Nat) (S:Int→Bool) (inl:List Bool) (todo:af) (A2:ao) (n2:Nat) (c2:Nat),n_=bs.length-i∧Fr a_ 74 [(1,vI bar),(2,pT b1 0),(5,vS (sM b4) bs.length bs.length),(6,vS A2 n2 c2),(7,nV i)]∧Mem aX w w_ [.aL b1 35 [nm,wk,pa,va,vS A bs.length c],.row 4 1 (sM b4) bs.length bs.length (fL inl),.row 3 1 A2 n2 c2 (ints todo)]∧(eW bs.length inl S)∧(Gj (tg bs) bar S todo i 0)∧(todo.length+kP bs.length S≤bs.length)∧(n2=todo.length)∧(i≤todo.length)) (n:=_) ⟨0,gN (fun _=>false) 0,(List.replicate bs.length false).set 0 true,[0],(sM b13),1,1,rfl,fr.kp [1,2,5,6,7],(lQ.cast (by simp[fL,ints,po])),(eW.start bs.length).put oM,Gj.start _ _,by have:=ib (n:=bs.length) (S:=fun _=>false) (t:=0) oM oM rfl;have:=l8 bs.length (fun _=>false);simp only[eZ,gX];omega,rfl,oM⟩ ?_;clear fr aC lQ;rintro n aC Q1 ⟨i,S,inl,todo,A2,n2,c2,rfl,fr,ob,mj,hbf,I8,D9,hi⟩;revert aC;refine aU<|aG<|ae 3<|k9 (decide ((i:Int)<(n2:Int))) fun Bw hBw=> ?_
 refine au ?_;cases Bw;have cw:¬((i:Int)<(n2:Int)):=bP hBw.symm;refine gE<|fP 0<|fQ<|aW<|bG<|cK (vS (sM b4) bs.length bs.length) ?_;have eJ:=ob.od [1] 1;exact⟨_,_,rfl,(eJ).cast (by rw[Rb mj hbf oM oM])⟩;have cw:(i:Int)<(n2:Int):=bK hBw.symm;refine fY<|bN<|aU<|cC 1<|aU ?_;obtain⟨b,hb⟩:∃b,todo[i]?=some b:=⟨_,List.getElem?_eq_getElem oM⟩;obtain⟨g3,rfl⟩:=dJ (ob.get 2 rfl) oM;have htl:=qI bs b;refine cU [1,2,5,6,7,29] ?_;intro aC fr;refine K3 (aP [.bb (.agg #[nm,wk,pa,va,vS A bs.length c]),eS (sM g3) n2 c2,.bb (nV i),eA (aZ g3) (i:Int) 1,eI b,Spec.free,Spec.free]) (fun ls vs w_=>match ls 6 with|true=>(∃(Vu:ao) (Gk:Nat),vs 6=(vS Vu ((tg bs b).length) Gk)∧Mem aX w w_ [.aL b1 35 [nm,wk,pa,va,vS A bs.length c],.row 4 1 (sM b4) bs.length bs.length (fL inl),.row 3 1 (sM g3) n2 c2 (ints todo),.row 3 1 Vu ((tg bs b).length) Gk (ints (tg bs b))])|false=>(match ls 5 with|true=>(∃(Vu:ao) (Gk:Nat),vs 5=(vS Vu ((tg bs b).length) Gk)∧Mem aX w w_ [.aL b1 35 [nm,wk,pa,va,vS A bs.length c],.row 4 1 (sM b4) bs.length bs.length (fL inl),.row 3 1 (sM g3) n2 c2 (ints todo),.row 3 1 Vu ((tg bs b).length) Gk (ints (tg bs b))])|false=>(Mem aX w w_ [.aL b1 35 [nm,wk,pa,va,vS A bs.length c],.row 4 1 (sM b4) bs.length bs.length (fL inl),.row 3 1 (sM g3) n2 c2 (ints todo)]))) fr (gH (.bb (.bb (.bb (.bb (.bb (.free (.free .nil)))))))) (ob.an (Mem.drew _)) (oh (qh lz ?_ (j9 fun _ _ _ _ h=>h) (j9 fun _ _ _ _ h=>h) (HU (aZ g3) n2 1 (i:Int) fun _ _ _ _ h=>h) (AQ (aN (aZ g3) (i:Int) 1) (vI b) (fun _ _ _ _ h=>h) ?_)) ?_ ?_) ?_;intro gd w_ ls vs eg hJ cR cS hp hF;refine mO (g0:=none) ?_;replace hF:Fr gd 74 [(2,pT b1 0)]:=hF.kp [2];have f5:ls 5=false:=bw cS cR (n:=7) kR;have f6:ls 6=false:=bw cS cR (n:=7) kR;have bJ:=hJ;simp only[f5,f6]at bJ;refine ix (kR:ay _ 0=some (some 32,.load 35 (.tmp 2),35,none)) hF kR kR (k':=1) rfl (ad:=aZ b1) (vs:=[nm,wk,pa,va,vS A bs.length c]) kR kR (bp (bJ.get 0 rfl)) ?_;intro a2 ea _;refine bl kR ?_;exact bL (d:=some 32) kR ea rfl hJ;intro w_ ls vs hJ cR cS hp;have f5:ls 5=false:=bw cS cR (n:=7) kR;have f6:ls 6=false:=bw cS cR (n:=7) kR;have bJ:=hJ;simp only[f5,f6]at bJ;exact(g9 (aF (bJ.get 2 rfl)) rfl hb);intro gd w_ ls vs eg hJ cR cS hp hF;refine mO (g0:=none) ?_;replace hF:Fr gd 74 [(32,(.agg #[nm,wk,pa,va,vS A bs.length c])),(36,vI b)]:=hF.kp [32,36];have f5:ls 5=false:=cR;have f6:ls 6=false:=bw cS cR (n:=7) kR;have bJ:=hJ;simp only[f5,f6]at bJ;refine lv (kR:ay _ 0=some (some 37,(.call {callee:=(.value (.func 65)),args:=#[.tmp 32,.tmp 36],argTypes:=#[35,3]}),40,none)) hF kR kR (k':=1) rfl (f:=65) (vs:=[(.agg #[nm,wk,pa,va,vS A bs.length c]),vI b]) (cap:=[]) kR kR kR (zu _ _ _ _ A c bs b w_ hm (hA.at_ bJ)) ?_;rintro _ w2 ⟨W3,W4,rfl,fv⟩ a2 ea _;have hm3:=bJ.call fv;refine bl kR ?_;refine bL (d:=some 37) kR ea trivial ?_;show match ls 6 with|true=>_|false=>(∃(Vu:ao) (Gk:Nat),_)
 rw[f6];exact⟨W3,W4,rfl,hm3⟩;intro gd w_ ls vs eg hJ cR cS hp hF;refine mO (g0:=none) ?_;replace hF:Fr gd 74 [(37,vs 5)]:=hF.kp [37];have f5:ls 5=true:=bI cS (fun k hk=>(hp k hk).1) (n:=7) kR;have f6:ls 6=false:=cR;have bJ:=hJ;simp only[f5,f6]at bJ;obtain⟨W3,W4,e_,fv⟩:=bJ;rw[e_]at hF;refine iw (kR:ay _ 0=some (some 8,.assign (.tmp 37),40,none)) hF kR kR (k':=1) rfl (v:=(vS W3 ((tg bs b).length) W4)) kR ?_;intro a2 ea _;refine bl kR ?_;refine bL (d:=some 8) kR ea trivial ?_;show∃(Vu:ao) (Gk:Nat),_;exact⟨W3,W4,rfl,fv⟩;intro aC WM ls vs dT AW hv fr;simp only[show ls 6=true from dT 6 dQ]at AW;revert aC;refine bQ [(1,vI bar),(2,pT b1 0),(5,vS (sM b4) bs.length bs.length),(6,vS (sM g3) n2 c2),(7,nV i),(8,vs 6)] ?_;obtain⟨Vu,Gk,e_,AW⟩:=AW;rw[e_];clear e_;clear dT hv fr aC ob;clear vs ls;refine aW<|cC 2 ?_;intro aC fr;refine fX (fun n_ a_ w_=>∃(k:Nat) (S2:Int→Bool) (xB:List Bool) (p9:af) (A4:ao) (n4:Nat) (c4:Nat),n_=(tg bs b).length-k∧Fr a_ 74 [(1,vI bar),(2,pT b1 0),(5,vS (sM b4) bs.length bs.length),(6,vS A4 n4 c4),(7,nV i),(8,vS Vu ((tg bs b).length) Gk),(9,nV k)]∧Mem aX w w_ [.aL b1 35 [nm,wk,pa,va,vS A bs.length c],.row 4 1 (sM b4) bs.length bs.length (fL xB),.row 3 1 A4 n4 c4 (ints p9),.row 3 1 Vu ((tg bs b).length) Gk (ints (tg bs b))]∧(k≤(tg bs b).length)∧(eW bs.length xB S2)∧(Gj (tg bs) bar S2 p9 i k)∧(p9[i]?=some b)∧(p9.length+kP bs.length S2≤bs.length)∧(n4=p9.length)) (n:=_) ⟨0,S,inl,todo,(sM g3),n2,c2,rfl,fr.kp [1,2,5,6,7,8,9],AW,oM,mj,hbf,hb,I8,D9⟩ ?_;clear fr aC AW;rintro n aC w37 ⟨k,S2,xB,p9,A4,n4,c4,rfl,fr,Eb,hk,Bx,W5,ua,Gh,hn4⟩;revert aC;refine aU<|aG<|ae 3<|k9 (decide ((k:Int)<((tg bs b).length:Int))) fun Bk Rc=> ?_
 refine au ?_;cases Bk;have ck:¬((k:Int)<((tg bs b).length:Int)):=bP Rc.symm;refine gE<|fP 2<|fQ<|cN<|ae 1<|dw ((i:Int)+1)<|ae 1<|au ?_;intro aC fr;exact⟨bs.length-(i+1),by have:=(List.getElem?_eq_some_iff.1 ua).1;omega,i+1,S2,xB,p9,A4,n4,c4,rfl,fr.kp [1,2,5,6,7],(Eb.pick [true,true,true,false] rfl),Bx,W5.next ua oM,Gh,hn4,by have:=(List.getElem?_eq_some_iff.1 ua).1;omega⟩;have ck:(k:Int)<((tg bs b).length:Int):=bK Rc.symm;refine fY<|bN<|aU<|cC 3<|aG ?_;obtain⟨ti,I9,M0⟩:=Q6 (bs:=bs) (b:=b) (k:=k) oM;refine ae 3 ?_;obtain⟨Vv,rfl⟩:=dJ (Eb.get 3 rfl) oM;refine eM (aZ Vv) ((tg bs b).length) 1 (k:Int)<|bB (aN (aZ Vv) (k:Int) 1) _ (g9 (aF (Eb.get 3 rfl)) rfl I9)<|eM (aZ b4) bs.length 1 (ti:Int)<|bB (aN (aZ b4) (ti:Int) 1) _ (bH (aF (Eb.get 1 rfl)) rfl (mR (by rw[Bx.1];exact M0))) ?_;obtain⟨Bin,QbO⟩:∃B,B=xB.getD ti false:=⟨_,rfl⟩;refine bQ [(1,vI bar),(2,pT b1 0),(5,vS (sM b4) bs.length bs.length),(6,vS A4 n4 c4),(7,nV i),(8,vS (sM Vv) ((tg bs b).length) Gk),(9,nV k),(50,vB (xB.getD ti false))] ?_;rw[←QbO];refine ae 2 ?_;cases Bin;have cin:(xB.getD ti false)=false:=QbO.symm;have W1:S2 (ti:Int)=false:=by rw[←Bx.2 ti M0];exact cin
 refine ae 2<|eM (aZ Vv) ((tg bs b).length) 1 (k:Int)<|bB (aN (aZ Vv) (k:Int) 1) _ (g9 (aF (Eb.get 3 rfl)) rfl I9)<|ae 1<|k9 ((ti:Int) !=bar) fun Qh9 Qah=> ?_
 refine ae 1<|au ?_;cases Qh9;have Qia:¬((ti:Int)≠bar):=znn Qah;refine gE<|bN<|cN<|ae 1<|dw ((k:Int)+1)<|ae 1<|au ?_;intro aC fr;exact⟨(tg bs b).length-(k+1),oM,k+1,S2,xB,p9,A4,n4,c4,rfl,fr.kp [1,2,5,6,7,8,9],Eb,oM,Bx,W5.skip ua I9 (.inr oM),ua,Gh,hn4⟩;have Qia:(ti:Int)≠bar:=de.1 Qah.symm;refine fY<|aG<|ae 3<|eM (aZ Vv) ((tg bs b).length) 1 (k:Int)<|bB (aN (aZ Vv) (k:Int) 1) _ (g9 (aF (Eb.get 3 rfl)) rfl I9)<|eM (aZ b4) bs.length 1 (ti:Int)<|wC Eb 1 (aN (aZ b4) (ti:Int) 1) (((ti:Int)).toNat*1) (vB true) rfl rfl oM fun w47 xC=> ?_
 replace xC:=xC.nf;refine au<|cN ?_;have p7:Mem aX w w47 [.aL b1 35 [nm,wk,pa,va,vS A bs.length c],.row 4 1 (sM b4) bs.length bs.length (fL (xB.set ti true)),.row 3 1 A4 n4 c4 (ints p9),.row 3 1 (sM Vv) ((tg bs b).length) Gk (ints (tg bs b))]:=xC.cast (by rw[vJ];simp only[cZ,eE]);refine ae 3<|eM (aZ Vv) ((tg bs b).length) 1 (k:Int)<|cU [1,2,5,7,8,9,66,69]<|bB (aN (aZ Vv) (k:Int) 1) _ (g9 (aF (p7.get 3 rfl)) rfl I9) ?_;intro aC fr;refine p6 71 40 1 #[(0,.tmp 70)] 40 fr (e:=3) (size:=1) (zs:=[vI 0]) (vs:=[(0,nV ti)]) (cs:=[nV ti]) p7 ?_;intro b50 w51 Qib _ xD _ aC ea fr;clear ea;replace xD:=xD.nf;refine F0 72 (.tmp 66) (.tmp 71) 40 40 fr (e:=3) (size:=1) (bytes:=8) (z:=(vI 0)) (A:=A4) (B:=(sM b50)) (n:=n4) (cap:=c4) (m:=1) (cap':=1) (xs:=(ints p9)) (news:=[nV ti]) xD 2 rfl (aF (xD.get 4 rfl)) rfl (by simp[Value.oneCell']) oM (by simp only[maxLen];omega) ?_;intro A57 Rd w59 yj _ aC ea fr;clear ea;replace yj:=yj.nf;have r9:=yj.od [3,3,3,3] 4;revert aC;refine ae 1<|au<|cN<|ae 1<|dw ((k:Int)+1)<|ae 1<|au ?_;intro aC fr;exact⟨(tg bs b).length-(k+1),oM,k+1,gN S2 (ti:Int),xB.set ti true,p9++[(ti:Int)],A57,(n4+1),Rd,rfl,fr.kp [1,2,5,6,7,8,9],(r9.cast (by rw[gl];rfl)),oM,Bx.put M0,W5.push ua I9 oM,by rw[List.getElem?_append_left (List.getElem?_eq_some_iff.1 ua).1];exact ua,by have:=ib (n:=bs.length) (S:=S2) (t:=(ti:Int)) oM oM W1;simp only[fz,eZ,gX];omega,by simp[hn4]⟩;have cin:(xB.getD ti false)=true:=QbO.symm;have W1:S2 (ti:Int)=true:=by rw[←Bx.2 ti M0];exact cin
 refine ae 7<|au<|gE<|bN<|cN<|ae 1<|dw ((k:Int)+1)<|ae 1<|au ?_;intro aC fr;exact⟨(tg bs b).length-(k+1),oM,k+1,S2,xB,p9,A4,n4,c4,rfl,fr.kp [1,2,5,6,7,8,9],Eb,oM,Bx,W5.skip ua I9 (.inl W1),ua,Gh,hn4⟩;have cb:bar=0:=ax.1 hBb.symm;refine fY<|aW<|bG<|cK (vS (sM b4) bs.length bs.length) ?_;have Fo:=M6.od [1] 1;exact⟨_,_,rfl,(Fo).cast (by rw[←Cy (bar:=bar) oM];simp[fL])⟩;have cz:(bs.length:Int)=0:=ax.1 hBz.symm;refine ae 3<|au<|fY<|aW<|bG<|cK (vS (sM b4) bs.length bs.length) ?_;have M69:=M6.od [1] 1;exact⟨_,_,rfl,(M69).cast (by rw[←Cy (bar:=bar) oM];simp[fL])⟩
end Go.Proofs.YtjekgaabcigphaaGreat
namespace Go.Mor
open Go.RowKit
def ej{α:Type}(enc:α→Value)(rows:List fy)(l:List (List α)):Prop:=rows.map (fun r=>(r.n,r.xs))=l.map (fun x=>(x.length,x.map enc))
section
variable {α : Type} {enc : α → Value} {rows : List fy} {l : List (List α)}
theorem ej.len(h:ej enc rows l):rows.length=l.length:=by
 have:=bE List.length h;simpa using this
theorem ej.get(h:ej enc rows l){i:Nat}{x:List α}(hi:l[i]?=some x):∃A c,rows[i]?=some ⟨A,x.length,c,x.map enc⟩:=by
 have h1:(rows.map (fun r=>(r.n,r.xs)))[i]?=(l.map (fun x=>(x.length,x.map enc)))[i]?:=by rw[h]
 simp only[List.getElem?_map,hi,gC]at h1;cases h2:rows[i]? with
 |none=>rw[h2]at h1;simp at h1
 |some r=>
  rw[h2]at h1;simp only[gC,cP,cF]at h1;obtain⟨A,n,c,xs⟩:=r;simp only at h1;obtain⟨rfl,rfl⟩:=h1;exact⟨A,c,rfl⟩
theorem ej.push(h:ej enc rows l){A:ao}{n c:Nat}{xs:aO}{x:List α}(hn:n=x.length)(hx:xs=x.map enc):ej enc (rows++[⟨A,n,c,xs⟩]) (l++[x]):=by
 subst hn;subst hx;unfold ej at h⊢;rw[di,di,h];rfl
theorem ej.next{d:Nat}(h:ej enc rows (l.take d)){A:ao}{n c:Nat}{xs:aO}{x:List α}(hd:l[d]?=some x)(hn:n=x.length)(hx:xs=x.map enc):ej enc (rows++[⟨A,n,c,xs⟩]) (l.take (d+1)):=by
 obtain⟨fM,he⟩:=List.getElem?_eq_some_iff.1 hd;rw[fO fM,he];exact h.push hn hx
theorem ej.set(h:ej enc rows l){A:ao}{n c i:Nat}{xs:aO}{x:List α}(hn:n=x.length)(hx:xs=x.map enc):ej enc (rows.set i ⟨A,n,c,xs⟩) (l.set i x):=by
 subst hn;subst hx;unfold ej at h⊢;rw[po,po,h]
theorem ej.all{d:Nat}(h:ej enc rows (l.take d))(hd:l.length≤d):ej enc rows l:=by rwa [kh hd]at h
theorem ej.Qfe(n:Nat):ej enc (List.replicate n k8) (List.replicate n ([]:List α)):=by
 unfold ej;simp[k8]
end
theorem q6{w:World}{e:Nat}{rows:List fy}{A:ao}{n c i:Nat}{xs:aO}(h:(bx.iQ e rows).holds w)(hi:rows[i]?=some ⟨A,n,c,xs⟩):(bx.rd A xs).holds w:=aF (V1 h hi)
def oj(bs:List SB)(d b:Int):Bool:=gR bs (-1) d&&(gR bs (-1) b&& !(gR bs d b))
def iu(bs:List SB):List (List Bool):=(List.range bs.length).map (fun d:Nat=>(List.range bs.length).map (fun b:Nat=>oj bs (d:Int) (b:Int)))
theorem lG(bs:List SB):(iu bs).length=bs.length:=by simp[iu]
theorem Cz{bs:List SB}{d:Nat}{m:List Bool}(hd:d<bs.length)(h:eW bs.length m (oj bs (d:Int))):(iu bs)[d]?=some m:=by
 have:m=(List.range bs.length).map (fun b:Nat=>oj bs (d:Int) (b:Int)):=vM h sI (fun j hj=>by simp[List.getD,hj]);rw[this];simp[iu,hd]
theorem eW.congr{n:Nat}{l:List Bool}{S S':Int→Bool}(h:eW n l S)(e:∀i:Nat,i<n→S (i:Int)=S' (i:Int)):eW n l S':=⟨h.1,fun i hi=>(h.2 i hi).trans (e i hi)⟩
theorem Nc{bs:List SB}{d:Nat}(h:gR bs (-1) (d:Int)=false):eW bs.length (List.replicate bs.length false) (oj bs (d:Int)):=(eW.start bs.length).congr (fun i _=>by simp[oj,h])
def oz(bs:List SB)(d:Int)(k:Nat)(b:Int):Bool:=decide (b<(k:Int))&&oj bs d b
theorem Jc(bs:List SB)(d:Int):eW bs.length (List.replicate bs.length false) (oz bs d 0):=(eW.start bs.length).congr (fun i _=>by
  have:decide ((i:Int)<((0:Nat):Int))=false:=sI;rw[oz,this];rfl)
theorem CA{bs:List SB}{d:Int}{k:Nat}{m:List Bool}{v:Bool}(h:eW bs.length m (oz bs d k))(hk:k<bs.length)(hv:v=oj bs d (k:Int)):eW bs.length (m.set k v) (oz bs d (k+1)):=by
 refine⟨by simp[h.1],fun j hj=> ?_⟩;by_cases e:k=j
 ·subst e;have:k<m.length:=by rw[h.1];exact hk
  have h2:decide ((k:Int)<((k+1:Nat):Int))=true:=by simp;omega
  simp only[oz,h2,y4];simp[List.getD,this,hv]
 ·have h1:=h.2 j hj;have h2:decide ((j:Int)<((k+1:Nat):Int))=decide ((j:Int)<(k:Int)):=by rw[decide_eq_decide];omega
  rw[oz,h2];rw[oz]at h1;rw[←h1];simp[List.getD,List.getElem?_set_ne e]
theorem Nd{bs:List SB}{d:Int}{k:Nat}{m:List Bool}(h:eW bs.length m (oz bs d k))(hk:bs.length≤k):eW bs.length m (oj bs d):=h.congr (fun i hi=>by
  have:decide ((i:Int)<(k:Int))=true:=by simp;omega
  rw[oz,this];rfl)
theorem Re{bs:List SB}{d:Nat}{b:Nat}(hd:gR bs (-1) (d:Int)=true)(hb:gR bs (-1) (b:Int)=true):(!(gR bs (d:Int) (b:Int)))=oj bs (d:Int) (b:Int):=by simp[oj,hd,hb]
theorem Rf{bs:List SB}{d b:Int}(hb:gR bs (-1) b=false):false=oj bs d b:=by simp[oj,hb]
def HZ(l:List (List Bool))(i j:Nat):Bool:=(l.getD i []).getD j false
def kQ(l:List (List Bool))(b:Nat):Nat→Int
 |0=> -1
 |k+1=>if k≠b∧HZ l k b=true∧(kQ l b k<0∨HZ l (kQ l b k).toNat k=true)then(k:Int)else kQ l b k
def q7(l:List (List Bool)):af:=(List.range l.length).map (fun b=>kQ l b l.length)
def QbP(l:List (List Bool)):Prop:=∀(i:Nat) (x:List Bool),l[i]?=some x→x.length=l.length
theorem Eh(bs:List SB):QbP (iu bs):=by
 intro i x h;rw[lG];have:=bu h;simp only[iu,bD]at this;obtain⟨d,_,rfl⟩:=this;simp
theorem QbQ{l:List (List Bool)}(i:Nat)(hi:i<l.length):∃x,l[i]?=some x:=⟨_,List.getElem?_eq_getElem hi⟩
theorem QbR{l:List (List Bool)}{i j:Nat}{x:List Bool}(h:l[i]?=some x):HZ l i j=x.getD j false:=by simp[HZ,List.getD,h]
def gf(bs:List SB):af:=q7 (iu bs)
theorem Rg{bs:List SB}{y x:Int}(h:x∈bO bs y):0≤x∧x<bs.length:=by
 simp only[bO,fh,bD,e8,ew]at h;obtain⟨i,⟨h1,_⟩,rfl⟩:=h;omega
end Go.Mor
namespace Go.Proofs.YtjekgaabcigphaaGreat
open Go.Mor
theorem QbS(nm wk pa va:Value)(A:ao)(c:Nat)(bs:List SB)(w:World)(hm:bs.length≤1000000)(hA:RO aX w (.blocks A bs)):Calls Tryz.prog 61 #[(.agg #[nm,wk,pa,va,vS A bs.length c])] w (ff fun v w'=>∃A' c' rows,v=vS A' bs.length c'∧ej Value.bool rows (iu bs)∧Mem aX w w' [.iQ 4 rows,.row 113 1 A' bs.length c' (hH rows)]):=by
 refine gF 54 [(.agg #[nm,wk,pa,va,vS A bs.length c])] Tryz.func61 ?_;have hM:=Mem.init w;refine aG<|lO hM 35 (.agg #[nm,wk,pa,va,vS A bs.length c]) [nm,wk,pa,va,vS A bs.length c] fun b1 w2 iW M3=> ?_
 replace M3:=M3.nf;clear hM;refine ae 1<|au<|aG<|gS (aZ b1) [nm,wk,pa,va,vS A bs.length c] (bp (M3.get 0 rfl))<|eb (vs:=#[(.agg #[nm,wk,pa,va,vS A bs.length c]),vI (-1)]) (Jb _ _ _ _ A c bs (-1) w2 hm (hA.at_ M3)) ?_;rintro _ w6 ⟨A4,c5,rfl,M7x⟩;have M7:=M3.cl M7x;refine ae 1<|au<|aW<|aU<|aW<|cC 0 ?_;have hlo:=lG bs;intro aC fr;refine fX (fun n_ a_ w_=>∃(d:Nat) (rows:List fy) (A2:ao) (c2:Nat),n_=bs.length-d∧Fr a_ 54 [(1,pT b1 0),(3,vS A4 bs.length c5),(4,vS A2 d c2),(5,nV d)]∧Mem aX w w_ [.iQ 4 rows,.aL b1 35 [nm,wk,pa,va,vS A bs.length c],.row 4 1 A4 bs.length c5 (fL (ie bs (-1))),.row 113 1 A2 d c2 (hH rows)]∧(d≤bs.length)∧(ej Value.bool rows ((iu bs).take d))) (n:=_) ⟨0,[],none,0,rfl,fr.kp [1,3,4,5],(((((M7.pick [true,true] rfl).call (Mem.Iw _ 4 0)).call (Mem.gb _ 113 1)).front 2 rfl).cast rfl),oM,rfl⟩ ?_;clear fr aC M7;rintro n aC Pr ⟨d,rows,A2,c2,rfl,fr,p8,hd,hf⟩;revert aC;refine aU<|aG<|ae 2<|bB (ah b1 4) _ (aa (p8.get 1 rfl) rfl)<|ae 1<|k9 (decide ((d:Int)<(bs.length:Int))) fun Bd hBd=> ?_
 refine au ?_;cases Bd;have cd:¬((d:Int)<(bs.length:Int)):=bP hBd.symm;refine gE<|fP 0<|fQ<|aW<|bG<|cK (vS A2 d c2) ?_;obtain rfl:d=bs.length:=oM;have mK:=p8.od [3,1] 2;exact⟨_,_,rows,rfl,hf.all oM,mK⟩;have cd:(d:Int)<(bs.length:Int):=bK hBd.symm;refine fY<|bN<|aU<|cC 1<|aG ?_;have tv:d<bs.length:=oM;refine ae 1<|bB (ah b1 4) _ (aa (p8.get 1 rfl) rfl)<|ae 1 ?_;intro aC fr;refine Vj 21 113 (.tmp 20) (.tmp 20) 113 fr (e:=4) (bytes:=1) (z:=(vB false)) (n:=bs.length) (i:=(bs.length:Int)) oM (by simp only[maxLen];omega) p8 ?_;intro jg vF QbK _ kn _ aC ea fr;clear ea;replace kn:=kn.nf;revert aC;refine ae 1<|au<|aU<|aG ?_;have lR:Mem aX w vF [.iQ 4 rows,.aL b1 35 [nm,wk,pa,va,vS A bs.length c],.row 4 1 A4 bs.length c5 (fL (ie bs (-1))),.row 113 1 A2 d c2 (hH rows),.row 4 1 (sM jg) bs.length bs.length (fL (List.replicate bs.length false))]:=kn.cast (by simp[fL]);refine ae 2 ?_;obtain⟨Pv,rfl⟩:=dJ (lR.get 2 rfl) oM;refine eM (aZ Pv) bs.length 1 (d:Int)<|bB (aN (aZ Pv) (d:Int) 1) _ (bH (aF (lR.get 2 rfl)) rfl (mR (by rw[mU];omega))) ?_;obtain⟨Qic,Rh⟩:∃B,B=(ie bs (-1)).getD d false:=⟨_,rfl⟩;refine bQ [(1,pT b1 0),(3,vS (sM Pv) bs.length c5),(4,vS A2 d c2),(5,nV d),(6,vS (sM jg) bs.length bs.length),(25,vB ((ie bs (-1)).getD d false))] ?_;rw[←Rh];refine au ?_;cases Qic;have call:((ie bs (-1)).getD d false)=false:=Rh.symm;refine gE<|bN<|cN<|ae 2 ?_;intro aC fr;refine p6 51 115 1 #[(0,.tmp 50)] 115 fr (e:=113) (size:=1) (zs:=[ag]) (vs:=[(0,vS (sM jg) bs.length bs.length)]) (cs:=[vS (sM jg) bs.length bs.length]) lR ?_;intro b25 w26 hb25 _ AY _ aC ea fr;clear ea;replace AY:=AY.nf;refine F0 52 (.tmp 49) (.tmp 51) 115 115 fr (e:=113) (size:=1) (bytes:=24) (z:=ag) (A:=A2) (B:=(sM b25)) (n:=d) (cap:=c2) (m:=1) (cap':=1) (xs:=(hH rows)) (news:=[vS (sM jg) bs.length bs.length]) AY 3 rfl (aF (AY.get 5 rfl)) rfl (by simp[Value.oneCell']) oM (by simp only[maxLen];omega) ?_;intro A32 Vw w34 mT _ aC ea fr;clear ea;replace mT:=mT.nf;have Eb:=mT.od [4,4,4,4,4] 5;revert aC;refine ae 1<|au<|cN<|ae 1<|dw ((d:Int)+1)<|ae 1<|au ?_;have Na:=Eb.od [3,3,3,4,4] 5;have uh:Mem aX w w34 [.iQ 4 (rows++[⟨(sM jg),bs.length,bs.length,fL (List.replicate bs.length false)⟩]),.aL b1 35 [nm,wk,pa,va,vS A bs.length c],.row 4 1 (sM Pv) bs.length c5 (fL (ie bs (-1))),.row 113 1 A32 (d+1) Vw ((hH rows)++[vS (sM jg) bs.length bs.length])]:=Na.push;have H0:Mem aX w w34 [.iQ 4 (rows++[⟨(sM jg),bs.length,bs.length,fL (List.replicate bs.length false)⟩]),.aL b1 35 [nm,wk,pa,va,vS A bs.length c],.row 4 1 (sM Pv) bs.length c5 (fL (ie bs (-1))),.row 113 1 A32 (d+1) Vw (hH (rows++[⟨(sM jg),bs.length,bs.length,fL (List.replicate bs.length false)⟩]))]:=uh.cast (by rw[yY]);intro aC fr;exact⟨bs.length-(d+1),oM,d+1,(rows++[⟨(sM jg),bs.length,bs.length,fL (List.replicate bs.length false)⟩]),A32,Vw,rfl,fr.kp [1,3,4,5],H0,oM,hf.next (Cz tv (Nc (by rw[←ku tv];exact call))) sI rfl⟩;have call:((ie bs (-1)).getD d false)=true:=Rh.symm;refine fY<|aG<|gS (aZ b1) [nm,wk,pa,va,vS A bs.length c] (bp (lR.get 1 rfl))<|ae 1<|eb (vs:=#[(.agg #[nm,wk,pa,va,vS A bs.length c]),nV d]) (Jb _ _ _ _ A c bs (d:Int) vF hm (hA.at_ lR)) ?_;rintro _ w46 ⟨A44,Ri,rfl,QbT⟩;have AX:=lR.cl QbT;refine ae 1<|au<|aW<|cC 2 ?_;have hwd:gR bs (-1) (d:Int)=true:=by rw[←ku tv];exact call
 intro aC fr;refine fX (fun n_ a_ w_=>∃(b:Nat) (m:List Bool),n_=bs.length-b∧Fr a_ 54 [(1,pT b1 0),(3,vS (sM Pv) bs.length c5),(4,vS A2 d c2),(5,nV d),(6,vS (sM jg) bs.length bs.length),(7,vS A44 bs.length Ri),(8,nV b)]∧Mem aX w w_ [.iQ 4 rows,.aL b1 35 [nm,wk,pa,va,vS A bs.length c],.row 4 1 (sM Pv) bs.length c5 (fL (ie bs (-1))),.row 113 1 A2 d c2 (hH rows),.row 4 1 (sM jg) bs.length bs.length (fL m),.row 4 1 A44 bs.length Ri (fL (ie bs (d:Int)))]∧(b≤bs.length)∧(eW bs.length m (oz bs (d:Int) b))) (n:=_) ⟨0,List.replicate bs.length false,rfl,fr.kp [1,3,4,5,6,7,8],AX,oM,Jc bs _⟩ ?_;clear fr aC AX;rintro n aC w50 ⟨b,m,rfl,fr,pK,hb,fv⟩;revert aC;refine aU<|aG<|ae 3<|k9 (decide ((b:Int)<(bs.length:Int))) fun Bb hBb=> ?_
 refine au ?_;cases Bb;have cb:¬((b:Int)<(bs.length:Int)):=bP hBb.symm;refine gE<|fP 2<|fQ<|cN<|ae 2 ?_;intro aC fr;refine p6 51 115 1 #[(0,.tmp 50)] 115 fr (e:=113) (size:=1) (zs:=[ag]) (vs:=[(0,vS (sM jg) bs.length bs.length)]) (cs:=[vS (sM jg) bs.length bs.length]) pK ?_;intro nK w55 Qff _ Fp _ aC ea fr;clear ea;replace Fp:=Fp.nf;refine F0 52 (.tmp 49) (.tmp 51) 115 115 fr (e:=113) (size:=1) (bytes:=24) (z:=ag) (A:=A2) (B:=(sM nK)) (n:=d) (cap:=c2) (m:=1) (cap':=1) (xs:=(hH rows)) (news:=[vS (sM jg) bs.length bs.length]) Fp 3 rfl (aF (Fp.get 6 rfl)) rfl (by simp[Value.oneCell']) oM (by simp only[maxLen];omega) ?_;intro A61 Jd w63 BA _ aC ea fr;clear ea;replace BA:=BA.nf;have qq:=BA.od [5,5,5,5,5,5] 6;revert aC;refine ae 1<|au<|cN<|ae 1<|dw ((d:Int)+1)<|ae 1<|au ?_;have Fo:=qq.od [3,3,3,4,4] 5;have M69:Mem aX w w63 [.iQ 4 (rows++[⟨(sM jg),bs.length,bs.length,fL m⟩]),.aL b1 35 [nm,wk,pa,va,vS A bs.length c],.row 4 1 (sM Pv) bs.length c5 (fL (ie bs (-1))),.row 113 1 A61 (d+1) Jd ((hH rows)++[vS (sM jg) bs.length bs.length])]:=Fo.push;have I6:Mem aX w w63 [.iQ 4 (rows++[⟨(sM jg),bs.length,bs.length,fL m⟩]),.aL b1 35 [nm,wk,pa,va,vS A bs.length c],.row 4 1 (sM Pv) bs.length c5 (fL (ie bs (-1))),.row 113 1 A61 (d+1) Jd (hH (rows++[⟨(sM jg),bs.length,bs.length,fL m⟩]))]:=M69.cast (by rw[yY]);intro aC fr;exact⟨bs.length-(d+1),oM,d+1,(rows++[⟨(sM jg),bs.length,bs.length,fL m⟩]),A61,Jd,rfl,fr.kp [1,3,4,5],I6,oM,hf.next (Cz tv (Nd fv oM)) (by simp[fv.1]) rfl⟩;have cb:(b:Int)<(bs.length:Int):=bK hBb.symm;refine fY<|bN<|aU<|cC 3<|cN ?_;have Nf:b<bs.length:=oM;refine ae 4<|eM (aZ Pv) bs.length 1 (b:Int)<|bB (aN (aZ Pv) (b:Int) 1) _ (bH (aF (pK.get 2 rfl)) rfl (mR (by rw[mU];omega))) ?_;obtain⟨Bab,Ea⟩:∃B,B=(ie bs (-1)).getD b false:=⟨_,rfl⟩;refine bQ [(1,pT b1 0),(3,vS (sM Pv) bs.length c5),(4,vS A2 d c2),(5,nV d),(6,vS (sM jg) bs.length bs.length),(7,vS A44 bs.length Ri),(8,nV b),(35,vS (sM jg) bs.length bs.length),(36,nV b),(40,vB ((ie bs (-1)).getD b false))] ?_;rw[←Ea];refine ae 1 ?_;cases Bab;have cab:((ie bs (-1)).getD b false)=false:=Ea.symm;have hwb:gR bs (-1) (b:Int)=false:=by rw[←ku Nf];exact cab
 refine ae 6<|eM (aZ jg) bs.length 1 (b:Int)<|wC pK 4 (aN (aZ jg) (b:Int) 1) (((b:Int)).toNat*1) (vB false) rfl rfl oM fun w73 Pw=> ?_
 replace Pw:=Pw.nf;refine au<|cN<|ae 1<|dw ((b:Int)+1)<|ae 1<|au ?_;intro aC fr;exact⟨bs.length-(b+1),oM,b+1,m.set b false,rfl,fr.kp [1,3,4,5,6,7,8],(Pw.cast (by rw[vJ];simp only[cZ,eE])),oM,CA fv Nf (Rf hwb)⟩;have cab:((ie bs (-1)).getD b false)=true:=Ea.symm;have hwb:gR bs (-1) (b:Int)=true:=by rw[←ku Nf];exact cab
 refine ae 2 ?_;obtain⟨g78,rfl⟩:=dJ (pK.get 5 rfl) oM;refine eM (aZ g78) bs.length 1 (b:Int)<|bB (aN (aZ g78) (b:Int) 1) _ (bH (aF (pK.get 5 rfl)) rfl (mR (by rw[mU];omega)))<|ae 2<|eM (aZ jg) bs.length 1 (b:Int)<|wC pK 4 (aN (aZ jg) (b:Int) 1) (((b:Int)).toNat*1) (vB (!(ie bs (d:Int)).getD b false)) rfl rfl oM fun w79 M80=> ?_
 replace M80:=M80.nf;refine au<|cN<|ae 1<|dw ((b:Int)+1)<|ae 1<|au ?_;intro aC fr;exact⟨bs.length-(b+1),oM,b+1,m.set b (!((ie bs (d:Int)).getD b false)),rfl,fr.kp [1,3,4,5,6,7,8],(M80.cast (by rw[vJ];simp only[cZ,eE])),oM,CA fv Nf ((bE _ (ku Nf)).trans (Re hwd hwb))⟩
end Go.Proofs.YtjekgaabcigphaaGreat
namespace Go.Mor
open Go.RowKit
theorem Ng(n:Nat)(x:SB):(Fh n x).Nodup:=by
 unfold Fh;refine List.Pairwise.filter _ ?_;split
 ·simp
 ·split
  ·split
   ·simp
   ·rename_i h;simp[h]
  ·simp
theorem Rj(bs:List SB)(b:Int):(tg bs b).Nodup:=by
 unfold tg;split
 ·split
  ·exact Ng _ _
  ·simp
 ·simp
def wK(bs:List SB)(i:Nat):List af:=(List.range bs.length).map (fun t:Nat=>fh bs (t:Int) i)
def lb(bs:List SB):List af:=(List.range bs.length).map (fun t:Nat=>bO bs (t:Int))
def mv(bs:List SB)(i k:Nat):List af:=(List.range bs.length).map (fun t:Nat=>fh bs (t:Int) i++(if((tg bs (i:Int)).take k).contains (t:Int)=true then[(i:Int)]else[]))
theorem Nh(bs:List SB):wK bs 0=List.replicate bs.length []:=by
 unfold wK;apply kg;intro t;by_cases h:t<bs.length
 ·simp[h,fh]
 ·rw[List.getElem?_eq_none (by simpa using h),List.getElem?_eq_none (by simpa using h)]
theorem W6(bs:List SB)(i:Nat):mv bs i 0=wK bs i:=by
 unfold mv wK;simp
theorem Rk{bs:List SB}{i k:Nat}(hk:(tg bs (i:Int)).length≤k):mv bs i k=wK bs (i+1):=by
 unfold mv wK;apply List.map_congr_left;intro t _;rw[qK,kh hk]
theorem W7(bs:List SB):wK bs bs.length=lb bs:=rfl
theorem W8{bs:List SB}{i k ti:Nat}(hk:(tg bs (i:Int))[k]?=some (ti:Int))(ht:ti<bs.length):(mv bs i k)[ti]?=some (fh bs (ti:Int) i):=by
 have hn:=Rj bs (i:Int);have Cq:¬(ti:Int)∈(tg bs (i:Int)).take k:=by intro h;obtain⟨fM,he⟩:=List.getElem?_eq_some_iff.1 hk;obtain⟨j,hj,Rl⟩:=Ei.1 h;exact qx.1 hn j k oM fM oM (Rl.trans he.symm)
 unfold mv;rw[List.getElem?_map,List.getElem?_range ht];simp[Cq]
theorem W9{bs:List SB}{i k ti:Nat}(hk:(tg bs (i:Int))[k]?=some (ti:Int))(ht:ti<bs.length):(mv bs i k).set ti (fh bs (ti:Int) i++[(i:Int)])=mv bs i (k+1):=by
 obtain⟨fM,he⟩:=List.getElem?_eq_some_iff.1 hk;apply kg;intro t;by_cases h:ti=t
 ·subst h;rw[List.getElem?_set_self (by simpa[mv]using ht)];unfold mv;rw[List.getElem?_map,List.getElem?_range ht,fO fM,he];simp
 ·rw[List.getElem?_set_ne h];unfold mv;rw[List.getElem?_map,List.getElem?_map];by_cases h2:t<bs.length
  ·rw[List.getElem?_range h2,fO fM,he];have h3:¬((t:Int)=(ti:Int)):=oM;simp[h3]
  ·rw[List.getElem?_eq_none (by simpa using h2)];rfl
theorem q8{bs:List SB}{t:Nat}(h:t<bs.length):(lb bs)[t]?=some (bO bs (t:Int)):=by simp[lb,h]
theorem q9(bs:List SB):(lb bs).length=bs.length:=by simp[lb]
theorem CB{rows:List fy}{i:Nat}{r:fy}:(rows.set i k8).set i r=rows.set i r:=List.set_set ..
end Go.Mor
namespace Go.Proofs.YtjekgaabcigphaaGreat
open Go.Mor
theorem Rm(nm wk pa va:Value)(A:ao)(c:Nat)(bs:List SB)(w:World)(hm:bs.length≤1000000)(hA:RO aX w (.blocks A bs)):Calls Tryz.prog 28 #[(.agg #[nm,wk,pa,va,vS A bs.length c])] w (ff fun v w'=>∃A' c' rows,v=vS A' bs.length c'∧ej vI rows (lb bs)∧Mem aX w w' [.iQ 3 rows,.row 40 1 A' bs.length c' (hH rows)]):=by
 refine gF 38 [(.agg #[nm,wk,pa,va,vS A bs.length c])] Tryz.func28 ?_;have hM:=Mem.init w;refine aG<|lO hM 35 (.agg #[nm,wk,pa,va,vS A bs.length c]) [nm,wk,pa,va,vS A bs.length c] fun b1 w2 iW M3=> ?_
 replace M3:=M3.nf;clear hM;refine ae 1<|au<|aG<|ae 1<|bB (ah b1 4) _ (aa (M3.get 0 rfl) rfl)<|ae 1 ?_;intro aC fr;refine Vj 10 65 (.tmp 9) (.tmp 9) 65 fr (e:=40) (bytes:=24) (z:=ag) (n:=bs.length) (i:=(bs.length:Int)) oM (by simp only[maxLen];omega) M3 ?_;intro b4 w5 Pu _ M6 _ aC ea fr;clear ea;replace M6:=M6.nf;revert aC;refine ae 1<|au<|aU<|aG<|ae 1<|bB (ah b1 4) _ (aa (M6.get 0 rfl) rfl)<|ae 2<|au<|cC 0 ?_;have p8:=M6.od [1,1] 2;have hal:=q9 bs;intro aC fr;refine fX (fun n_ a_ w_=>∃(i:Nat) (rows:List fy),n_=bs.length-i∧Fr a_ 38 [(1,pT b1 0),(3,vS (sM b4) bs.length bs.length),(13,(vI (bs.length:Int))),(14,nV i)]∧Mem aX w w_ [.iQ 3 rows,.aL b1 35 [nm,wk,pa,va,vS A bs.length c],.row 40 1 (sM b4) bs.length bs.length (hH rows)]∧(i≤bs.length)∧(ej vI rows (wK bs i))) (n:=_) ⟨0,List.replicate bs.length k8,rfl,fr.kp [1,3,13,14],(((p8.call (Mem.Iw _ 3 bs.length)).front 2 rfl).cast (by simp[hH,k8])),oM,by rw[Nh];exact ej.Qfe _⟩ ?_;clear fr aC p8;rintro n aC Vo ⟨i,rows,rfl,fr,lQ,hi,hf⟩;revert aC;refine aG<|k9 (decide ((i:Int)<(bs.length:Int))) fun Bi hBi=> ?_
 refine au<|aU ?_;cases Bi;have ci:¬((i:Int)<(bs.length:Int)):=bP hBi.symm;refine gE<|fP 0<|fQ<|aW<|bG<|cK (vS (sM b4) bs.length bs.length) ?_;obtain rfl:i=bs.length:=oM;rw[W7]at hf;have mF:=lQ.od [2,1] 2;exact⟨_,_,rows,rfl,hf,mF⟩;have ci:(i:Int)<(bs.length:Int):=bK hBi.symm;refine fY<|bN<|aU<|cC 1<|aW<|aG<|gS (aZ b1) [nm,wk,pa,va,vS A bs.length c] (bp (lQ.get 1 rfl))<|ae 1<|eb (vs:=#[(.agg #[nm,wk,pa,va,vS A bs.length c]),nV i]) (Cu _ _ _ _ A c bs (i:Int) Vo hm (hA.at_ lQ)) ?_;rintro _ Vx ⟨A19,Fq,rfl,Xa⟩;have lR:=lQ.cl Xa;refine ae 2<|au<|cC 2 ?_;have htl:=qI bs (i:Int);intro aC fr;refine fX (fun n_ a_ w_=>∃(k:Nat) (oX:List fy),n_=(tg bs (i:Int)).length-k∧Fr a_ 38 [(1,pT b1 0),(3,vS (sM b4) bs.length bs.length),(4,nV i),(13,(vI (bs.length:Int))),(14,nV i),(19,(vS A19 ((tg bs (i:Int)).length) Fq)),(20,(vI ((tg bs (i:Int)).length:Int))),(21,nV k)]∧Mem aX w w_ [.iQ 3 oX,.aL b1 35 [nm,wk,pa,va,vS A bs.length c],.row 40 1 (sM b4) bs.length bs.length (hH oX),.row 3 1 A19 ((tg bs (i:Int)).length) Fq (ints (tg bs (i:Int)))]∧(k≤(tg bs (i:Int)).length)∧(ej vI oX (mv bs i k))) (n:=_) ⟨0,rows,rfl,fr.kp [1,3,4,13,14,19,20,21],lR,oM,by rw[W6];exact hf⟩ ?_;clear fr aC lR;rintro n aC Je ⟨k,oX,rfl,fr,eJ,hk,hf3⟩;revert aC;refine aG<|k9 (decide ((k:Int)<((tg bs (i:Int)).length:Int))) fun Bk Rc=> ?_
 refine au<|aU ?_;cases Bk;have ck:¬((k:Int)<((tg bs (i:Int)).length:Int)):=bP Rc.symm;refine gE<|fP 2<|fQ<|cN<|dw ((i:Int)+1)<|ae 1<|au ?_;intro aC fr;exact⟨bs.length-(i+1),oM,i+1,oX,rfl,fr.kp [1,3,13,14],(eJ.pick [true,true,true,false] rfl),oM,by rw[←Rk (k:=k) oM];exact hf3⟩;have ck:(k:Int)<((tg bs (i:Int)).length:Int):=bK Rc.symm;refine fY<|bN<|aU<|cC 3<|aG ?_;obtain⟨ti,I9,M0⟩:=Q6 (bs:=bs) (b:=(i:Int)) (k:=k) oM;obtain⟨At,ct,hrt⟩:=hf3.get (W8 I9 M0);have Xb:=ki bs (ti:Int) i;obtain⟨g32,rfl⟩:=dJ (eJ.get 3 rfl) oM;refine eM (aZ g32) ((tg bs (i:Int)).length) 1 (k:Int)<|bB (aN (aZ g32) (k:Int) 1) _ (g9 (aF (eJ.get 3 rfl)) rfl I9)<|ae 1<|au<|cN<|ae 4<|eM (aZ b4) bs.length 1 (ti:Int)<|bB (aN (aZ b4) (ti:Int) 1) _ (bH (aF (eJ.get 2 rfl)) rfl (j5 hrt)) ?_;have sa:Mem aX w Je [.iQ 3 (oX.set ti k8),.row 3 1 At ((fh bs (ti:Int) i).length) ct (ints (fh bs (ti:Int) i)),.aL b1 35 [nm,wk,pa,va,vS A bs.length c],.row 40 1 (sM b4) bs.length bs.length (hH oX),.row 3 1 (sM g32) ((tg bs (i:Int)).length) Fq (ints (tg bs (i:Int)))]:=eJ.focus ti hrt;refine ae 1 ?_;intro aC fr;refine p6 32 40 1 #[(0,.tmp 31)] 40 fr (e:=3) (size:=1) (zs:=[vI 0]) (vs:=[(0,nV i)]) (cs:=[nV i]) sa ?_;intro Le w35 Qfg _ rO _ aC ea fr;clear ea;replace rO:=rO.nf;refine F0 33 (.tmp 30) (.tmp 32) 40 40 fr (e:=3) (size:=1) (bytes:=8) (z:=(vI 0)) (A:=At) (B:=(sM Le)) (n:=((fh bs (ti:Int) i).length)) (cap:=ct) (m:=1) (cap':=1) (xs:=(ints (fh bs (ti:Int) i))) (news:=[nV i]) rO 1 rfl (aF (rO.get 5 rfl)) rfl (by simp[Value.oneCell']) oM (by simp only[maxLen];omega) ?_;intro A41 c42 w43 rN _ aC ea fr;clear ea;replace rN:=rN.nf;have AX:=rN.od [4,4,4,4,4] 5;revert aC;refine eM (aZ b4) bs.length 1 (ti:Int)<|wC AX 3 (aN (aZ b4) (ti:Int) 1) (((ti:Int)).toNat*1) (vS A41 (((fh bs (ti:Int) i).length)+1) c42) rfl rfl oM fun Ni p7=> ?_
 replace p7:=p7.nf;refine au<|cN ?_;have Gl:=p7.od [4,4,4,4,4] 5;have hrl:ti<oX.length:=(List.getElem?_eq_some_iff.1 hrt).1;have pK:Mem aX w Ni [.iQ 3 ((oX.set ti k8).set ti ⟨A41,((fh bs (ti:Int) i).length)+1,c42,(ints (fh bs (ti:Int) i))++[nV i]⟩),.aL b1 35 [nm,wk,pa,va,vS A bs.length c],.row 40 1 (sM b4) bs.length bs.length ((hH oX).set (((ti:Int)).toNat*1) (vS A41 (((fh bs (ti:Int) i).length)+1) c42)),.row 3 1 (sM g32) ((tg bs (i:Int)).length) Fq (ints (tg bs (i:Int)))]:=Gl.KN ti (List.getElem?_set_self hrl);have xD:Mem aX w Ni [.iQ 3 (oX.set ti ⟨A41,((fh bs (ti:Int) i).length)+1,c42,(ints (fh bs (ti:Int) i))++[nV i]⟩),.aL b1 35 [nm,wk,pa,va,vS A bs.length c],.row 40 1 (sM b4) bs.length bs.length (hH (oX.set ti ⟨A41,((fh bs (ti:Int) i).length)+1,c42,(ints (fh bs (ti:Int) i))++[nV i]⟩)),.row 3 1 (sM g32) ((tg bs (i:Int)).length) Fq (ints (tg bs (i:Int)))]:=pK.cast (by rw[CB,KM];simp only[cZ,eE]);refine dw ((k:Int)+1)<|ae 1<|au ?_;intro aC fr;exact⟨(tg bs (i:Int)).length-(k+1),oM,k+1,(oX.set ti ⟨A41,((fh bs (ti:Int) i).length)+1,c42,(ints (fh bs (ti:Int) i))++[nV i]⟩),rfl,fr.kp [1,3,4,13,14,19,20,21],xD,oM,by rw[←W9 I9 M0];exact hf3.set sI (by rw[di];rfl)⟩
end Go.Proofs.YtjekgaabcigphaaGreat
namespace Go.Mor
open Go.RowKit
section
variable (T : Int → List Int)
def Dm(d x:Int):Prop:=¬(d≠0∧Reach (HY T d) x)
inductive RA(pl:Int→Int)(d:Int):Nat→Int→Prop
 |zero (k:Nat):d≠0→RA pl d k 0
 |Vy {k:Nat} {x t:Int}:RA pl d k x→t∈T x→t≠d→pl x<pl t→RA pl d k t
 |ret {k:Nat} {x t:Int}:RA pl d k x→t∈T x→t≠d→RA pl d (k+1) t
structure Px(pl:Int→Int):Prop where
 reach:∀x,0≤pl x↔Reach T x
 zero:pl 0=0
 inj:∀x y,0≤pl x→pl x=pl y→x=y
 src:∀x,0≤pl x→x≠0→∃s,0≤pl s∧pl s<pl x∧x∈T s
end
section
variable {T : Int → List Int} {pl : Int → Int}
theorem RA.self{d:Int}{k:Nat}:¬RA T pl d k d:=by
 intro h;cases h with
 |zero _ h=>exact h rfl
 |Vy _ _ h _=>exact h rfl
 |ret _ _ h=>exact h rfl
theorem RA.mono{d x:Int}{k:Nat}(h:RA T pl d k x):RA T pl d (k+1) x:=by
 induction h with
 |zero k h=>exact .zero _ h
 |Vy _ ht dN hl ih=>exact .Vy ih ht dN hl
 |ret _ ht dN ih=>exact .ret ih ht dN
theorem RA.le{d x:Int}{k m:Nat}(h:RA T pl d k x)(hk:k≤m):RA T pl d m x:=by
 induction hk with
 |refl=>exact h
 |step _ ih=>exact ih.mono
theorem RA.reach{d x:Int}{k:Nat}(h:RA T pl d k x):Reach T x:=by
 induction h with
 |zero=>exact .zero
 |Vy _ ht _ _ ih=>exact .step ih ht
 |ret _ ht _ ih=>exact .step ih ht
theorem RA.ex{d x:Int}(hd:d≠0)(h:Reach (HY T d) x):∃k,RA T pl d k x:=by
 induction h with
 |zero=>exact⟨0,.zero 0 hd⟩
 |step _ ht ih=>
  obtain⟨k,hk⟩:=ih;exact⟨k+1,.ret hk (jE.1 ht).1 (jE.1 ht).2⟩
theorem RA.cut{d b x:Int}{k:Nat}(h:RA T pl d k x):RA T pl b k x∨RA T pl d k b:=by
 induction h with
 |zero k h=>
  by_cases e:b=0
  ·subst e;exact .inr (.zero k h)
  ·exact .inl (.zero k e)
 | @Vy k x t hx ht dN hl ih=>
  rcases ih with ih|ih
  ·by_cases e:t=b
   ·subst e;exact .inr (.Vy hx ht dN hl)
   ·exact .inl (.Vy ih ht e hl)
  ·exact .inr ih
 | @ret k x t hx ht dN ih=>
  rcases ih with ih|ih
  ·by_cases e:t=b
   ·subst e;exact .inr (.ret hx ht dN)
   ·exact .inl (.ret ih ht e)
  ·exact .inr ih.mono
theorem RA.gZ{d:Int}{k:Nat}(hs:∀x,RA T pl d (k+1) x→RA T pl d k x):∀m x,RA T pl d m x→RA T pl d k x:=by
 intro m x h;induction h with
 |zero _ h=>exact .zero k h
 |Vy _ ht dN hl ih=>exact .Vy ih ht dN hl
 |ret _ ht dN ih=>exact hs _ (.ret ih ht dN)
open Classical in
theorem RA.grow{n:Nat}(hR:∀x,Reach T x→0≤x∧x<(n:Int))(d:Int)(k:Nat):(∃j,j≤k∧∀x,RA T pl d (j+1) x→RA T pl d j x)∨kP n (fun x=>decide (RA T pl d k x))+k≤n:=by
 induction k with
 |zero=>exact .inr (by have:=l8 n (fun x=>decide (RA T pl d 0 x));omega)
 |succ k ih=>
  rcases ih with⟨j,hj,h⟩|ih
  ·exact .inl ⟨j,oM,h⟩
  ·by_cases hs:∀x,RA T pl d (k+1) x→RA T pl d k x
   ·exact .inl ⟨k,oM,hs⟩
   ·right;have⟨x,hx⟩:=Classical.not_forall.1 hs;have⟨h1,h2⟩:=Classical.not_imp.1 hx;obtain⟨r0,r1⟩:=hR x h1.reach;have hu:=ib (n:=n) (S:=fun x=>decide (RA T pl d k x)) (t:=x) r0 r1 (by simpa using h2);have hm:=zv (n:=n) (S:=gN (fun x=>decide (RA T pl d k x)) x) (S':=fun x=>decide (RA T pl d (k+1) x)) (fun y hy=>by
     simp only[gN,cg,ax,aE]at hy⊢;rcases hy with rfl|hy
     ·exact h1
     ·exact hy.mono)
    omega
theorem RA.all{n:Nat}(hR:∀x,Reach T x→0≤x∧x<(n:Int)){d x:Int}(h:¬RA T pl d (n+1) x):Dm T d x:=by
 rintro⟨hd,hr⟩;obtain⟨m,hm⟩:=RA.ex (pl:=pl) hd hr;rcases RA.grow (pl:=pl) hR d (n+1)with⟨j,hj,hs⟩|hu
 ·exact h ((RA.gZ hs m x hm).le hj)
 ·omega
theorem Dm.self(x:Int):Dm T x x:=by
 rintro⟨h0,h⟩;cases h with
 |zero=>exact h0 rfl
 |step _ ht=>exact(jE.1 ht).2 rfl
theorem Dm.Ej{d:Int}(h:Dm T d 0):d=0:=by
 by_cases e:d=0
 ·exact e
 ·exact absurd ⟨e,Reach.zero⟩ h
theorem Dm.src{d x s:Int}(h:Dm T d x)(dN:d≠x)(hx:x∈T s):Dm T d s:=by
 rintro⟨hd,hr⟩;exact h ⟨hd,.step hr (jE.2 ⟨hx,fun e=>dN e.symm⟩)⟩
theorem Dm.le(hp:Px T pl){d x:Int}(hx:0≤pl x)(h:Dm T d x):pl d≤pl x:=by
 by_cases fM:pl d≤pl x
 ·exact fM
 ·exfalso;have hd:d≠0:=by rintro rfl;rw[hp.zero]at fM;omega
  refine h ⟨hd,?_⟩;clear h;have key:∀(m:Nat) (x:Int),0≤pl x→pl x<pl d→(pl x).toNat≤m→Reach (HY T d) x:=by
   intro m;induction m with
   |zero=>
    intro x h0 _ hm;have:x=0:=hp.inj x 0 h0 (by rw[hp.zero];omega);exact this▸ .zero
   |succ m ih=>
    intro x h0 h1 hm;by_cases e:x=0
    ·exact e▸ .zero
    ·obtain⟨s,s0,s1,hs⟩:=hp.src x h0 e;exact .step (ih s s0 oM oM) (jE.2 ⟨hs,fun e=>by subst e;omega⟩)
  exact key _ x hx oM (cB _)
theorem Dm.reach{d x:Int}(hx:Reach T x)(h:Dm T d x):Reach T d:=by
 by_cases hd:Reach T d
 ·exact hd
 ·exfalso;refine h ⟨fun e=>hd (e▸ .zero),?_⟩;induction hx with
  |zero=>exact .zero
  | @step y t hy ht ih=>
   have hih:Reach (HY T d) y:=by
    by_cases h2:Dm T d y
    ·exact ih h2
    ·exact(ep.1 h2).2
   exact .step hih (jE.2 ⟨ht,fun e=>hd (e▸ .step hy ht)⟩)
inductive jh(up:Int→Int):Int→Int→Prop
 |refl (x:Int):jh up x x
 |step {x d:Int}:x≠0→jh up (up x) d→jh up x d
theorem jh.trans{up:Int→Int}{x y z:Int}(h:jh up x y)(h':jh up y z):jh up x z:=by
 induction h with
 |refl=>exact h'
 |step dN _ ih=>exact .step dN (ih h')
def ld(pl up:Int→Int)(x:Int):Prop:=0≤pl x∧(x=0∨0≤up x)
structure Up(T:Int→af)(pl up:Int→Int):Prop where
 low:∀x,ld pl up x→x≠0→ld pl up (up x)∧pl (up x)<pl x
 Rn:∀x d,ld pl up x→x≠0→Dm T d x→d≠x→Dm T d (up x)
theorem jh.zero{up:Int→Int}{d:Int}(h:jh up 0 d):d=0:=by
 cases h with
 |refl=>rfl
 |step h _=>exact absurd rfl h
theorem jh.Jf{up:Int→Int}(hu:Up T pl up){x d:Int}(h:jh up x d)(hx:ld pl up x):ld pl up d∧pl d≤pl x∧(d≠x→pl d<pl x):=by
 induction h with
 |refl=>exact⟨hx,dX _,fun h=>absurd rfl h⟩
 | @step x d dN _ ih=>
  obtain⟨h1,h2⟩:=hu.low x hx dN;obtain⟨a,b,c⟩:=ih h1;exact⟨a,oM,fun _=>oM⟩
theorem Up.Jg{up:Int→Int}(hu:Up T pl up){x d:Int}(hx:ld pl up x)(h:Dm T d x):jh up x d:=by
 have key:∀(m:Nat) (x:Int),ld pl up x→(pl x).toNat≤m→Dm T d x→jh up x d:=by
  intro m;induction m with
  |zero=>
   intro x hx hm h;by_cases e:d=x
   ·exact e▸ .refl _
   ·by_cases e0:x=0
    ·subst e0;exact absurd h.Ej e
    ·have h2:=hu.low x hx e0;have:=h2.1.1;omega
  |succ m ih=>
   intro x hx hm h;by_cases e:d=x
   ·exact e▸ .refl _
   ·by_cases e0:x=0
    ·subst e0;exact absurd h.Ej e
    ·have h2:=hu.low x hx e0;have:=h2.1.1;exact .step e0 (ih _ h2.1 oM (hu.Rn x d hx e0 h e))
 exact key _ x hx (cB _) h
inductive np(pl up:Int→Int):Int→Int→Int→Prop
 |done (x:Int):np pl up x x x
 |left {a b c:Int}:pl b<pl a→np pl up (up a) b c→np pl up a b c
 |right {a b c:Int}:pl a<pl b→np pl up a (up b) c→np pl up a b c
theorem np.Qid{up:Int→Int}(hp:Px T pl)(hu:Up T pl up){a b c:Int}(h:np pl up a b c)(ha:ld pl up a)(hb:ld pl up b):ld pl up c∧jh up a c∧jh up b c∧∀d,Dm T d a→Dm T d b→Dm T d c:=by
 induction h with
 |done x=>exact⟨ha,.refl _,.refl _,fun d h _=>h⟩
 | @left a b c fM _ ih=>
  have dN:a≠0:=by rintro rfl;rw[hp.zero]at fM;have:=hb.1;omega
  obtain⟨h1,_⟩:=hu.low a ha dN;obtain⟨q1,q2,q3,q4⟩:=ih h1 hb;refine⟨q1,.step dN q2,q3,fun d hd H2=>q4 d (hu.Rn a d ha dN hd ?_) H2⟩;rintro rfl;have:=Dm.le hp hb.1 H2;omega
 | @right a b c fM _ ih=>
  have dN:b≠0:=by rintro rfl;rw[hp.zero]at fM;have:=ha.1;omega
  obtain⟨h1,_⟩:=hu.low b hb dN;obtain⟨q1,q2,q3,q4⟩:=ih ha h1;refine⟨q1,q2,.step dN q3,fun d hd H2=>q4 d hd (hu.Rn b d hb dN H2 ?_)⟩;rintro rfl;have:=Dm.le hp ha.1 hd;omega
end
end Go.Mor
namespace Go.Mor
open Go.RowKit
section
variable {T : Int → List Int} {pl : Int → Int}
structure Ek(T:Int→af)(pl up:Int→Int)(k:Nat)(j:Int):Prop where
 ok:Up T pl up
 some:∀x,0≤pl x→x≠0→(pl x≤j∨1≤k)→0≤up x
 off:∀x,(pl x<0∨x=0)→up x= -1
 non:k=0→∀x,j<pl x→up x= -1
 lo:∀x d,ld pl up x→pl x≤j→jh up x d→¬RA T pl d k x
 hi:1≤k→∀x d,ld pl up x→jh up x d→¬RA T pl d (k-1) x
def Fold(T:Int→af)(pl up:Int→Int)(ss:af)(to:Int):Prop:=(to= -1∧∀s,s∈ss→¬ld pl up s)∨(ld pl up to∧(∃s,s∈ss∧ld pl up s)∧(∀s,s∈ss→ld pl up s→jh up s to)∧∀d,(∀s,s∈ss→ld pl up s→Dm T d s)→Dm T d to)
variable {up : Int → Int}
theorem Fold.start:Fold T pl up [] (-1):= .inl ⟨rfl,fun _ h=>(ka h).elim⟩
theorem Fold.skip{ss:af}{to s:Int}(h:Fold T pl up ss to)(hs:¬ld pl up s):Fold T pl up (ss++[s]) to:=by
 have hm:∀x,x∈ss++[s]→ld pl up x→x∈ss:=by
  intro x hx hp;rcases bX.1 hx with hx|hx
  ·exact hx
  ·simp only[cI]at hx;exact absurd (hx▸hp) hs
 rcases h with⟨h1,h2⟩|⟨h1,⟨q,hq,hqp⟩,h2,h3⟩
 ·exact .inl ⟨h1,fun x hx hp=>h2 x (hm x hx hp) hp⟩
 ·exact .inr ⟨h1,⟨q,dG _ hq,hqp⟩,fun x hx hp=>h2 x (hm x hx hp) hp,fun d hd=>h3 d (fun x hx hp=>hd x (dG _ hx) hp)⟩
theorem Fold.first{ss:af}{to s:Int}(h:Fold T pl up ss to)(hto:to<0)(hr:∀x,0≤pl x→0≤x)(hs:ld pl up s):Fold T pl up (ss++[s]) s:=by
 rcases h with⟨h1,h2⟩|⟨h1,_⟩
 ·refine .inr ⟨hs,⟨s,sI,hs⟩,fun x hx hp=> ?_,fun d hd=>hd s sI hs⟩;rcases bX.1 hx with hx|hx
  ·exact absurd hp (h2 x hx)
  ·simp only[cI]at hx;exact hx▸ .refl _
 ·have:=hr to h1.1;omega
theorem Fold.meet{ss:af}{to s c:Int}(hp:Px T pl)(hu:Up T pl up)(h:Fold T pl up ss to)(hto:0≤to)(hs:ld pl up s)(hc:np pl up to s c):Fold T pl up (ss++[s]) c:=by
 rcases h with⟨h1,h2⟩|⟨h1,h0,h2,h3⟩
 ·omega
 ·obtain⟨q1,q2,q3,q4⟩:=hc.Qid hp hu h1 hs;refine .inr ⟨q1,⟨s,sI,hs⟩,fun x hx hp=> ?_,fun d hd=>q4 d (h3 d (fun x hx hp=>hd x (dG _ hx) hp)) (hd s sI hs)⟩;rcases bX.1 hx with hx|hx
  ·exact(h2 x hx hp).trans q2
  ·simp only[cI]at hx;exact hx▸q3
theorem Fold.Jf{ss:af}{to:Int}(h:Fold T pl up ss to)(hto:0≤to):ld pl up to:=by
 rcases h with⟨h1,_⟩|⟨h1,_⟩
 ·omega
 ·exact h1
def s7(up:Int→Int)(b c:Int):Int→Int:=fun x=>if x=b then c else up x
theorem Ro{b:Int}:s7 up b (up b)=up:=by
 funext x;unfold s7;split
 ·subst_vars;rfl
 ·rfl
theorem vO{b c:Int}:s7 up b c b=c:=by simp[s7]
theorem oB{b c x:Int}(h:x≠b):s7 up b c x=up x:=by simp[s7,h]
section
variable {b c : Int}
theorem Lf(hc:0≤c){x:Int}(h:ld pl up x):ld pl (s7 up b c) x:=by
 refine⟨h.1,h.2.imp id fun h=> ?_⟩;by_cases e:x=b
 ·subst e;rw[vO];exact hc
 ·rw[oB e];exact h
theorem yk{x:Int}(h:ld pl (s7 up b c) x)(e:x≠b):ld pl up x:=by
 refine⟨h.1,h.2.imp id fun h=> ?_⟩;rwa [oB e]at h
theorem Lg{x d:Int}(h:jh (s7 up b c) x d):jh up x d∨(jh up x b∧jh (s7 up b c) b d):=by
 induction h with
 |refl x=>exact .inl (.refl x)
 | @step x d dN h ih=>
  by_cases e:x=b
  ·subst e;exact .inr ⟨.refl _,.step dN h⟩
  ·rw[oB e]at ih;rcases ih with ih|⟨ih,h2⟩
   ·exact .inl (.step dN ih)
   ·exact .inr ⟨.step dN ih,h2⟩
theorem Nj(hu:Up T pl up){x d:Int}(h:jh (s7 up b c) x d)(hx:ld pl up x)(fM:pl x<pl b):jh up x d:=by
 induction h with
 |refl x=>exact .refl x
 | @step x d dN h ih=>
  have e:x≠b:=by rintro rfl;omega
  rw[oB e]at h ih;obtain⟨h1,h2⟩:=hu.low x hx dN;exact .step dN (ih h1 oM)
theorem Ek.step{k:Nat}{j:Int}{ss:af}(hp:Px T pl)(hr:∀x,0≤pl x→0≤x)(h:Ek T pl up k j)(hj:0≤j)(hb:pl b=j+1)(hss:∀s,0≤pl s→(s∈ss↔b∈T s))(hc:Fold T pl up ss c):0≤c∧ld pl up c∧pl c<pl b∧(∀s,ld pl up s→b∈T s→jh up s c)∧(∀d,d≠b→Dm T d b→Dm T d c)∧Ek T pl (s7 up b c) k (j+1):=by
 have uj:b≠0:=by rintro rfl;rw[hp.zero]at hb;omega
 have Py:0≤pl b:=oM;obtain⟨s0,p0,p1,ps⟩:=hp.src b Py uj;have Jh:∀x,0≤pl x→pl x≤j∨1≤k→ld pl up x:=by
  intro x h0 h1;refine⟨h0,?_⟩;by_cases e:x=0
  ·exact .inl e
  ·exact .inr (h.some x h0 e h1)
 have hs0:ld pl up s0:=Jh s0 p0 (.inl oM);rcases hc with⟨_,h2⟩|⟨Rp,_,h2,h3⟩
 ·exact absurd hs0 (h2 s0 ((hss s0 p0).2 ps))
 ·have a2:∀s,ld pl up s→b∈T s→jh up s c:=fun s hs FU=>h2 s ((hss s hs.1).2 FU) hs
  have a0:=(a2 s0 hs0 ps).Jf h.ok hs0;have hcb:pl c<pl b:=oM;have hc0:0≤c:=hr c Rp.1;have a3:∀d,d≠b→Dm T d b→Dm T d c:=fun d dN hd=>h3 d (fun s hs Pn=>hd.src dN ((hss s Pn.1).1 hs))
  have Qfh:c≠b:=by rintro rfl;omega
  have ab:∀d,jh (s7 up b c) b d→d=b∨jh up c d:=by
   intro d hd;cases hd with
   |refl=>exact .inl rfl
   |step _ hd=>
    rw[vO]at hd;exact .inr (Nj h.ok hd Rp hcb)
  have nb:∀d,jh (s7 up b c) b d→¬RA T pl d k b:=by
   intro d hd;rcases ab d hd with rfl|hd
   ·exact RA.self
   ·intro Lh;cases Lh with
    |zero=>exact uj rfl
    | @Vy _ s _ hs FU dN hl=>
     have hsr:=(hp.reach s).2 hs.reach;have Pn:=Jh s hsr (.inl oM);exact h.lo s d Pn oM ((a2 s Pn FU).trans hd) hs
    | @ret k' s _ hs FU dN=>
     have hsr:=(hp.reach s).2 hs.reach;have Pn:=Jh s hsr (.inr oM);exact h.hi oM s d Pn ((a2 s Pn FU).trans hd) (by simpa using hs)
  refine⟨hc0,Rp,hcb,a2,a3,⟨⟨fun x hx dN=> ?_,fun x d hx dN hd hdx=> ?_⟩,fun x hx dN FF=> ?_,fun x hx=> ?_,fun hk x hx=> ?_,fun x d hx FF hd Lh=> ?_,fun hk x d hx hd Lh=> ?_⟩⟩
  ·by_cases e:x=b
   ·subst e;rw[vO];exact⟨Lf hc0 Rp,hcb⟩
   ·rw[oB e];obtain⟨h1,h2⟩:=h.ok.low x (yk hx e) dN;exact⟨Lf hc0 h1,h2⟩
  ·by_cases e:x=b
   ·subst e;rw[vO];exact a3 d hdx hd
   ·rw[oB e];exact h.ok.Rn x d (yk hx e) dN hd hdx
  ·by_cases e:x=b
   ·subst e;rw[vO];exact hc0
   ·rw[oB e];refine h.some x hx dN (FF.imp (fun h1=> ?_) id);by_cases e2:pl x=j+1
    ·exact absurd (hp.inj x b hx oM) e
    ·omega
  ·have e:x≠b:=by rintro rfl;omega
   rw[oB e];exact h.off x hx
  ·have e:x≠b:=by rintro rfl;omega
   rw[oB e];exact h.non hk x oM
  ·by_cases e:x=b
   ·subst e;exact nb d hd Lh
   ·have u6:=yk hx e;have hxj:pl x≤j:=by
     by_cases e2:pl x=j+1
     ·exact absurd (hp.inj x b hx.1 oM) e
     ·omega
    rcases Lg hd with hd|⟨Xc,hd⟩
    ·exact h.lo x d u6 hxj hd Lh
    ·rcases RA.cut (b:=b) Lh with h1|h1
     ·exact h.lo x b u6 hxj Xc h1
     ·exact nb d hd h1
  ·by_cases e:x=b
   ·subst e;exact nb d hd (Lh.le oM)
   ·have u6:=yk hx e;rcases Lg hd with hd|⟨Xc,hd⟩
    ·exact h.hi hk x d u6 hd Lh
    ·rcases RA.cut (b:=b) Lh with h1|h1
     ·exact h.hi hk x b u6 Xc h1
     ·exact nb d hd (h1.le oM)
end
theorem Ek.start(hp:Px T pl):Ek T pl (fun _=> -1) 0 0:=by
 have hz:∀x,ld pl (fun _=> -1) x→x=0:=by
  rintro x ⟨_,h|h⟩
  ·exact h
  ·have h:(0:Int)≤-1:=h;omega
 refine⟨⟨fun x hx dN=>absurd (hz x hx) dN,fun x d hx dN=>absurd (hz x hx) dN⟩,fun x hx dN h=> ?_,fun _ _=>rfl,fun _ _ _=>rfl,fun x d hx _ hd=> ?_,fun h=>absurd h dQ⟩
 ·exfalso;rcases h with h|h
  ·exact dN (hp.inj x 0 hx (by rw[hp.zero];omega))
  ·omega
 ·have:=hz x hx;subst this;rw[hd.zero];exact RA.self
theorem Ek.WC{k:Nat}{j:Int}(hp:Px T pl)(h:Ek T pl up k j)(hj:∀x,pl x≤j):Ek T pl up (k+1) 0:=by
 refine⟨h.ok,fun x hx dN _=>h.some x hx dN (.inl (hj x)),h.off,fun h=>absurd h oM,fun x d hx h0 hd=> ?_,fun _ x d hx hd=>by simpa using h.lo x d hx (hj x) hd⟩;have:x=0:=hp.inj x 0 hx.1 (by have:=hx.1;rw[hp.zero];omega);subst this;rw[hd.zero];exact RA.self
theorem Ek.full{k n:Nat}{j:Int}{b c:Int}(hp:Px T pl)(hR:∀x,Reach T x→0≤x∧x<(n:Int))(h:Ek T pl up k j)(hk:n+2≤k)(hb:0≤pl b)(uj:b≠0)(Rp:ld pl up c)(hcb:pl c<pl b)(a2:∀s,ld pl up s→b∈T s→jh up s c)(a3:∀d,d≠b→Dm T d b→Dm T d c):up b=c:=by
 have Jf:∀x,0≤pl x→ld pl up x:=fun x h0=>⟨h0,by
  by_cases e:x=0
  ·exact .inl e
  ·exact .inr (h.some x h0 e (.inr oM))⟩
 have dm:∀x d,ld pl up x→jh up x d→Dm T d x:=fun x d hx hd=>RA.all (pl:=pl) hR (n:=n) (fun Lh=>h.hi oM x d hx hd (Lh.le oM))
 have hbp:=Jf b hb;obtain⟨h1,h2⟩:=h.ok.low b hbp uj;have hub:up b≠b:=by intro e;rw[e]at h2;omega
 have e1:jh up c (up b):=h.ok.Jg Rp (a3 _ hub (dm b _ hbp (.step uj (.refl _))));have Qfh:c≠b:=by rintro rfl;omega
 have dcb:Dm T c b:=by
  rintro⟨hc0,hr⟩;cases hr with
  |zero=>exact uj rfl
  | @step s _ hs FU=>
   have Qie:=(jE.1 FU).1;have hsr:Reach T s:=by
    have key:∀x,Reach (HY T c) x→Reach T x:=by
     intro x hx;induction hx with
     |zero=>exact .zero
     |step _ ht ih=>exact .step ih (jE.1 ht).1
    exact key s hs
   have Pn:=Jf s ((hp.reach s).2 hsr);exact dm s c Pn (a2 s Pn Qie) ⟨hc0,hs⟩
 have e2:jh up (up b) c:=h.ok.Jg h1 (h.ok.Rn b c hbp uj dcb Qfh);have q1:=(e1.Jf h.ok Rp).2.1;have q2:=(e2.Jf h.ok h1).2.1;exact hp.inj _ _ h1.1 oM
def Nk(T:Int→af)(pl up:Int→Int)(j:Int):Prop:=∀b s,1≤pl b→pl b≤j→0≤pl s→b∈T s→jh up s (up b)
theorem Nk.start:Nk T pl up 0:=fun b s h h'=>oM
theorem Nk.next{j b:Int}(hp:Px T pl)(h:Nk T pl up j)(hb:pl b=j+1)(ha:∀s,0≤pl s→b∈T s→jh up s (up b)):Nk T pl up (j+1):=by
 intro x s h1 h2 hs hx;by_cases e:pl x=j+1
 ·have:x=b:=hp.inj x b oM oM;exact this▸ha s hs (this▸hx)
 ·exact h x s h1 oM hs hx
theorem Nk.dm{j:Int}(hp:Px T pl)(h:Nk T pl up j)(hj:∀x,pl x≤j){x d:Int}(ha:jh up x d):Dm T d x:=by
 rintro⟨hd,hr⟩;have toR:∀x,Reach (HY T d) x→Reach T x:=by
  intro x hx;induction hx with
  |zero=>exact .zero
  |step _ ht ih=>exact .step ih (jE.1 ht).1
 induction hr with
 |zero=>exact hd ha.zero
 | @step y t hy ht ih=>
  obtain⟨ht',dN⟩:=jE.1 ht;cases ha with
  |refl=>exact dN rfl
  |step h0 ha=>
   have hyr:=(hp.reach y).2 (toR y hy);have Qx:=(hp.reach t).2 (.step (toR y hy) ht');have:1≤pl t:=by
    by_cases e:pl t=0
    ·exact absurd (hp.inj t 0 Qx (by rw[hp.zero];exact e)) h0
    ·omega
   exact ih ((h t y this (hj t) hyr ht').trans ha)
theorem jh.total{x y z:Int}(h:jh up x y)(h':jh up x z):jh up y z∨jh up z y:=by
 induction h with
 |refl=>exact .inl h'
 | @step x d dN h ih=>
  cases h' with
  |refl=>exact .inr (.step dN h)
  |step _ h'=>exact ih h'
end
end Go.Mor
namespace Go.Mor
open Go.RowKit
def cG(n:Nat)(l:af)(f:Int→Int):Prop:=l.length=n∧∀i:Nat,i<n→l.getD i 0=f (i:Int)
theorem cG.ext{n:Nat}{l m:af}{f:Int→Int}(h:cG n l f)(h':cG n m f):l=m:=by
 apply kg;intro i;by_cases hi:i<n
 ·have h1:=h.2 i hi;have h2:=h'.2 i hi;have e1:i<l.length:=by rw[h.1];exact hi
  have e2:i<m.length:=by rw[h'.1];exact hi
  simp only[List.getD,List.getElem?_eq_getElem e1,List.getElem?_eq_getElem e2,kK]at h1 h2⊢;rw[h1,h2]
 ·rw[List.getElem?_eq_none (by rw[h.1];omega),List.getElem?_eq_none (by rw[h'.1];omega)]
theorem cG.set{n:Nat}{l:af}{f g:Int→Int}(h:cG n l f){i:Nat}{v:Int}(_hi:i<n)(hg:g (i:Int)=v)(dN:∀j:Nat,j<n→j≠i→g (j:Int)=f (j:Int)):cG n (l.set i v) g:=by
 refine⟨by simp[h.1],fun j hj=> ?_⟩;by_cases e:i=j
 ·subst e;have:i<l.length:=by rw[h.1];exact hj
  simp[List.getD,this,hg]
 ·rw[dN j hj (fun h=>e h.symm),←h.2 j hj];simp[List.getD,List.getElem?_set_ne e]
theorem cG.get{n:Nat}{l:af}{f:Int→Int}(h:cG n l f){i:Nat}(hi:i<n):l[i]?=some (f (i:Int)):=by
 have h1:=h.2 i hi;have e1:i<l.length:=by rw[h.1];exact hi
 simp only[List.getD,List.getElem?_eq_getElem e1,kK]at h1;rw[List.getElem?_eq_getElem e1,h1]
theorem cG.congr{n:Nat}{l:af}{f g:Int→Int}(h:cG n l f)(e:∀i:Nat,i<n→f (i:Int)=g (i:Int)):cG n l g:=⟨h.1,fun i hi=>(h.2 i hi).trans (e i hi)⟩
def sB(k:Nat)(x:Int):Int:=if x<(k:Int)then-1 else 0
theorem zB(n:Nat):cG n (List.replicate n 0) (sB 0):=⟨sI,fun i hi=>by
 have:¬((i:Int)<((0:Nat):Int)):=oM;rw[sB,aB this];simp[List.getD,hi]⟩
theorem CC{n k:Nat}{l:af}(h:cG n l (sB k))(hk:k<n):cG n (l.set k (-1)) (sB (k+1)):=by
 refine h.set hk ?_ fun j _ dN=> ?_
 ·rw[sB,bC oM]
 ·unfold sB;by_cases e:(j:Int)<(k:Int)
  ·rw[bC e,bC oM]
  ·rw[aB e,aB oM]
theorem Gm{n k:Nat}{l:af}(h:cG n l (sB k))(hk:n≤k):cG n l (fun _=> -1):=h.congr (fun i hi=>by rw[sB,bC oM])
def vQ(l:af)(x:Int):Int:=ow (fun y=>y==x) l
theorem oC{l:af}(hn:l.Nodup){i:Nat}{x:Int}(h:l[i]?=some x):vQ l x=(i:Int):=by
 obtain⟨fM,he⟩:=List.getElem?_eq_some_iff.1 h;refine y5 (j:=i) ?_ (by simp[List.getD,fM,he]) fM;rw[List.any_eq_false];intro y hy;obtain⟨j,hj,Rl⟩:=Ei.1 hy;simp only[ax];intro e;exact qx.1 hn j i oM fM oM (by rw[Rl,he,e])
theorem El{l:af}{x:Int}(h:x∉l):vQ l x= -1:=by
 refine vk (j:=l.length) ?_ (cB _);rw[List.any_eq_false];intro y hy;simp only[ax];rintro rfl;exact h (yl hy)
theorem ym{l:af}(hn:l.Nodup){x:Int}:0≤vQ l x↔x∈l:=by
 constructor
 ·intro h;by_cases e:x∈l
  ·exact e
  ·rw[El e]at h;omega
 ·intro h;obtain⟨i,hi⟩:=dv.1 h;rw[oC hn hi];omega
theorem Xd{l:af}(hn:l.Nodup){x:Int}{i:Nat}(h:vQ l x=(i:Int)):l[i]?=some x:=by
 have hm:=(ym hn (x:=x)).1 oM;obtain⟨j,hj⟩:=dv.1 hm;have:=oC hn hj;rw[this]at h;have:j=i:=oM;exact this▸hj
theorem QbU{l:af}{x:Int}:vQ l x<l.length:=(DG _ l).2
theorem Gn{l:af}(hn:l.Nodup){k:Nat}{b:Int}(hk:l[k]?=some b)(x:Int):vQ (l.take (k+1)) x=if x=b then(k:Int)else vQ (l.take k) x:=by
 obtain⟨fM,he⟩:=List.getElem?_eq_some_iff.1 hk;have vE:(l.take (k+1)).Nodup:=hn.sublist (yo _ _);have Vz:(l.take k).Nodup:=hn.sublist (yo _ _);by_cases e:x=b
 ·subst e;rw[bC rfl];exact oC vE (by rw[List.getElem?_take_of_lt oM];exact hk)
 ·rw[aB e];by_cases hm:x∈l.take k
  ·obtain⟨j,hj⟩:=dv.1 hm;rw[oC Vz hj];have hjk:j<k:=by have:=(List.getElem?_eq_some_iff.1 hj).1;simp at this;omega
   rw[List.getElem?_take_of_lt hjk]at hj;exact oC vE (by rw[List.getElem?_take_of_lt oM];exact hj)
  ·rw[El hm,El];rw[fO fM,he];simp only[bX,cI,not_or];exact⟨hm,e⟩
structure Rq(T:Int→af)(l:af):Prop where
 head:l[0]?=some 0
 nodup:l.Nodup
 mem:∀x,x∈l↔Reach T x
 src:∀x,x∈l→x≠0→∃s,vQ l s<vQ l x∧0≤vQ l s∧x∈T s
theorem oY{bs:List SB}(h:0<bs.length):Rq (tg bs) (aI bs):=by
 obtain⟨s,hk,he⟩:=vH bs;have hz:=Cx hk;obtain⟨nw,h1,h2,h3,h4,h5⟩:=Q8 hk;simp only[rF]at h1;have hl:aI bs=0::nw.reverse:=by unfold aI;rw[aB oM,←he,h1];simp
 have h0:(0:Int)∉nw:=by intro hm;have:=h4 0 hm;simp[gN]at this
 have qp:(aI bs).Nodup:=by rw[hl,ui];exact⟨by simpa using h0,List.pairwise_reverse.2 (h3.imp (fun h=>fun e=>h e.symm))⟩
 refine⟨by rw[hl];rfl,qp,fun x=> ?_,fun x hx dN=> ?_⟩
 ·rw[←hz x,h2 x,hl];simp[gN]
 ·have u6:x∈nw:=by rw[hl]at hx;simpa[dN]using hx
  obtain⟨l1,l2,e⟩:=List.append_of_mem u6;have Fj:aI bs=(0::l2.reverse)++x::l1.reverse:=by rw[hl,e];simp
  have px:vQ (aI bs) x=((0::l2.reverse).length:Int):=by refine oC qp ?_;rw[Fj,List.getElem?_append_right (cB _)];simp
  have py:∀y,y∈(0:Int)::l2.reverse→vQ (aI bs) y<vQ (aI bs) x∧0≤vQ (aI bs) y:=by
   intro y hy;obtain⟨j,hj,hje⟩:=DF.1 hy;have:vQ (aI bs) y=(j:Int):=by refine oC qp ?_;rw[Fj,List.getElem?_append_left hj,List.getElem?_eq_getElem hj,hje]
   omega
  rcases h5 l1 x l2 e with h|⟨y,hy,h⟩
  ·exact⟨0,(py 0 sI).1,(py 0 sI).2,h⟩
  ·have:=py y (by simp[hy]);exact⟨y,this.1,this.2,h⟩
theorem Rq.vQ{T:Int→af}{l:af}(h:Rq T l):Px T (vQ l)where
 reach:=fun x=>(ym h.nodup).trans (h.mem x)
 zero:=oC h.nodup h.head;inj:=fun x y hx e=>by obtain⟨i,hi⟩:=dv.1 ((ym h.nodup).1 hx);have e1:=oC h.nodup hi;have e2:=Xd h.nodup (x:=y) (i:=i) oM;rw[hi]at e2;injection e2
 src:=fun x hx dN=>by obtain⟨s,h1,h2,h3⟩:=h.src x ((ym h.nodup).1 hx) dN;exact⟨s,h2,h1,h3⟩
def jF(bs:List SB)(x:Int):Int:=vQ (aI bs) x
theorem jG{bs:List SB}(h:0<bs.length):Px (tg bs) (jF bs):=(oY h).vQ
theorem rP{bs:List SB}(h:0<bs.length){x:Int}(hx:Reach (tg bs) x):0≤x∧x<(bs.length:Int):=Ra h (fun _ _ h=>qJ h) hx
theorem lS{bs:List SB}(h:0<bs.length){x:Int}(hx:0≤jF bs x):0≤x∧x<(bs.length:Int):=rP h (((jG h).reach x).1 hx)
def vR(bs:List SB):af:=(List.range bs.length).map (fun i:Nat=>jF bs (i:Int))
theorem Rr(bs:List SB):cG bs.length (vR bs) (jF bs):=⟨by simp[vR],fun i hi=>by simp[vR,List.getD,hi]⟩
theorem Gp{bs:List SB}{b s:Int}:s∈bO bs b↔(0≤s∧s<bs.length)∧b∈tg bs s:=by
 simp only[bO,fh,bD,e8,ew,Ix,aE];constructor
 ·rintro⟨i,⟨h1,h2⟩,rfl⟩;exact⟨oM,h2⟩
 ·rintro⟨h1,h2⟩;obtain⟨k,rfl⟩:=oe h1.1;exact⟨k,⟨oM,h2⟩,rfl⟩
theorem nq{bs:List SB}{x:Int}:gR bs (-1) x=true↔Reach (tg bs) x:=by
 rw[qZ];have e:∀y,HY (tg bs) (-1) y=tg bs y:=by intro y;unfold HY;rw[Iy];intro t ht;have:=qJ ht;simp only[jP,mJ,gW];omega
 have e2:HY (tg bs) (-1)=tg bs:=funext e;rw[e2];exact⟨fun h=>h.2,fun h=>⟨dQ,h⟩⟩
theorem Xe{bs:List SB}{d x:Int}:gR bs d x=false↔Dm (tg bs) d x:=by
 unfold Dm;rw[←qZ];simp
theorem uk{bs:List SB}{d b:Nat}(hd:d<bs.length)(hb:b<bs.length):HZ (iu bs) d b=true↔Reach (tg bs) (b:Int)∧Dm (tg bs) (d:Int) (b:Int):=by
 have:HZ (iu bs) d b=oj bs (d:Int) (b:Int):=by simp[HZ,iu,List.getD,hd,hb]
 rw[this];simp only[oj,bo,jP];rw[nq,nq,Xe];exact⟨fun h=>h.2,fun h=>⟨Dm.reach h.1 h.2,h⟩⟩
theorem CD{l:List (List Bool)}{b k:Nat}(h:∀d:Nat,d<k→d≠b→HZ l d b=false):kQ l b k= -1:=by
 induction k with
 |zero=>rfl
 |succ k ih=>
  unfold kQ;rw[ih (fun d hd=>h d oM)];refine aB fun hh=> ?_
  rw[h k oM hh.1]at hh;exact Bool.noConfusion hh.2.1
theorem Rs{bs:List SB}{up:Int→Int}(h0:0<bs.length)(hu:Up (tg bs) (jF bs) up)(hp:∀x,0≤jF bs x→ld (jF bs) up x)(hd:∀x d,0≤jF bs x→jh up x d→Dm (tg bs) d x){b:Nat}(hb:b<bs.length)(hr:0≤jF bs (b:Int)):∀k,k≤bs.length→(kQ (iu bs) b k= -1∧∀d:Nat,d<k→d≠b→¬Dm (tg bs) (d:Int) (b:Int))∨(∃d:Nat,kQ (iu bs) b k=(d:Int)∧d<k∧d≠b∧Dm (tg bs) (d:Int) (b:Int)∧∀e:Nat,e<k→e≠b→Dm (tg bs) (e:Int) (b:Int)→Dm (tg bs) (e:Int) (d:Int)):=by
 have hP:=jG h0;have Py:=(hP.reach _).1 hr;have rd:∀d x,0≤jF bs x→Dm (tg bs) d x→0≤jF bs d:=fun d x hx h=>(hP.reach d).2 (Dm.reach ((hP.reach x).1 hx) h)
 intro k;induction k with
 |zero=>exact fun _=> .inl ⟨rfl,fun d h=>oM⟩
 |succ k ih=>
  intro hk;have CE:HZ (iu bs) k b=true↔Dm (tg bs) (k:Int) (b:Int):=by rw[uk oM hb];exact⟨fun h=>h.2,fun h=>⟨Py,h⟩⟩
  rcases ih oM with⟨h1,h2⟩|⟨d,h1,h2,h3,h4,h5⟩
  ·by_cases c:k≠b∧HZ (iu bs) k b=true
   ·right;refine⟨k,?_,oM,c.1,CE.1 c.2,fun e he dN H2=> ?_⟩
    ·unfold kQ;exact bC ⟨c.1,c.2,.inl oM⟩
    ·by_cases e2:e=k
     ·subst e2;exact Dm.self _
     ·exact absurd H2 (h2 e oM dN)
   ·left;refine⟨?_,fun e he dN H2=> ?_⟩
    ·unfold kQ;rw[aB (fun hh=>c ⟨hh.1,hh.2.1⟩)];exact h1
    ·by_cases e2:e=k
     ·subst e2;exact c ⟨dN,CE.2 H2⟩
     ·exact h2 e oM dN H2
  ·have KG:HZ (iu bs) d k=true↔Reach (tg bs) (k:Int)∧Dm (tg bs) (d:Int) (k:Int):=uk oM oM;by_cases c:k≠b∧HZ (iu bs) k b=true
   ·have hkb:=CE.1 c.2;have hkr:=rd _ _ hr hkb;by_cases c2:HZ (iu bs) d k=true
    ·right;refine⟨k,?_,oM,c.1,hkb,fun e he dN H2=> ?_⟩
     ·unfold kQ;exact bC ⟨c.1,c.2,.inr (by rw[h1];exact c2)⟩
     ·by_cases e2:e=k
      ·subst e2;exact Dm.self _
      ·have a1:=hu.Jg (hp _ hkr) (KG.1 c2).2;have a2:=hu.Jg (hp _ (rd _ _ hkr (KG.1 c2).2)) (h5 e oM dN H2);exact hd _ _ hkr (a1.trans a2)
    ·right;refine⟨d,?_,oM,h3,h4,fun e he dN H2=> ?_⟩
     ·unfold kQ;rw[aB]
      ·exact h1
      ·rintro⟨_,_,hh⟩;rw[h1]at hh;rcases hh with hh|hh
       ·omega
       ·exact c2 hh
     ·by_cases e2:e=k
      ·subst e2;have hdr:=rd _ _ hr h4;rcases jh.total (hu.Jg (hp _ hr) hkb) (hu.Jg (hp _ hr) h4)with t|t
       ·exact absurd (KG.2 ⟨(hP.reach _).1 hkr,hd _ _ hkr t⟩) c2
       ·exact hd _ _ hdr t
      ·exact h5 e oM dN H2
   ·right;refine⟨d,?_,oM,h3,h4,fun e he dN H2=> ?_⟩
    ·unfold kQ;rw[aB (fun hh=>c ⟨hh.1,hh.2.1⟩)];exact h1
    ·by_cases e2:e=k
     ·subst e2;exact absurd ⟨dN,CE.2 H2⟩ c
     ·exact h5 e oM dN H2
theorem Nl{bs:List SB}{up:Int→Int}{ab:af}{k:Nat}{i j:Int}(h0:0<bs.length)(hr:Ek (tg bs) (jF bs) up k i)(hk:1≤k)(hs:Nk (tg bs) (jF bs) up j)(hj:∀x,jF bs x≤j)(VA:cG bs.length ab up):ab=gf bs:=by
 have hP:=jG h0;have hp:∀x,0≤jF bs x→ld (jF bs) up x:=fun x h=>⟨h,by
  by_cases e:x=0
  ·exact .inl e
  ·exact .inr (hr.some x h e (.inr hk))⟩
 have hd:∀x d,0≤jF bs x→jh up x d→Dm (tg bs) d x:=fun x d _ h=>hs.dm hP hj h
 refine VA.ext ⟨by simp[gf,q7,lG],fun b hb=> ?_⟩;have e1:(gf bs).getD b 0=kQ (iu bs) b bs.length:=by simp[gf,q7,lG,List.getD,hb]
 rw[e1];have F3:∀d:Nat,d<bs.length→¬Dm (tg bs) (d:Int) (b:Int)∨¬Reach (tg bs) (b:Int)→HZ (iu bs) d b=false:=by
  intro d AZ hh;rw[←qL];intro ht;have:=(uk AZ hb).1 ht;rcases hh with hh|hh
  ·exact hh this.2
  ·exact hh this.1
 by_cases Py:0≤jF bs (b:Int)
 ·by_cases uj:b=0
  ·subst uj;rw[show up ((0:Nat):Int)= -1 from hr.off _ (.inr rfl)];refine CD fun d AZ dN=>F3 d AZ (.inl fun h=> ?_)
   have:=h.Ej;omega
  ·have QbV:(b:Int)≠0:=oM;obtain⟨l1,l2⟩:=hr.ok.low _ (hp _ Py) QbV;have lne:up (b:Int)≠(b:Int):=by intro e;rw[e]at l2;omega
   have lr:=lS h0 l1.1;obtain⟨u,hu⟩:=oe lr.1;have du:Dm (tg bs) (up (b:Int)) (b:Int):=hd _ _ Py (.step QbV (.refl _));rcases Rs h0 hr.ok hp hd hb Py bs.length (cB _)with⟨_,h2⟩|⟨d,h1,h2,h3,h4,h5⟩
   ·exact absurd (hu▸du) (h2 u oM (fun e=>lne (by rw[hu,e])))
   ·rw[h1];have dN:(d:Int)≠(b:Int):=oM;have d1:Dm (tg bs) (up (b:Int)) (d:Int):=by rw[hu];exact h5 u oM (fun e=>lne (by rw[hu,e])) (hu▸du)
    have hdr:0≤jF bs (d:Int):=(hP.reach _).2 (Dm.reach ((hP.reach _).1 Py) h4);have d2:Dm (tg bs) (d:Int) (up (b:Int)):=hr.ok.Rn _ _ (hp _ Py) QbV h4 dN;have q1:=Dm.le hP hdr d1;have q2:=Dm.le hP l1.1 d2;exact hP.inj _ _ hdr oM
 ·rw[hr.off _ (.inl oM)];exact CD fun d AZ _=>F3 d AZ (.inr fun h=>Py ((hP.reach _).2 h))
end Go.Mor
namespace Go.Mor
open Go.RowKit
theorem cG.at_{n:Nat}{l:af}{f:Int→Int}(h:cG n l f){x:Int}(h0:0≤x)(h1:x<n):(ints l)[x.toNat]?=some (vI (f x)):=by
 obtain⟨i,rfl⟩:=oe h0;have:=h.get (i:=i) oM;simp[ints,this]
structure Xf(T:Int→af)(pl up:Int→Int)(n:Nat)(VB ab:af):Prop where
 vQ:Px T pl
 ok:Up T pl up
 m9:∀x,0≤pl x→0≤x∧x<(n:Int)
 CE:cG n VB pl
 VA:cG n ab up
section
variable {T : Int → List Int} {pl up : Int → Int} {n : Nat} {VB ab : List Int}
theorem Xf.at0(h:Xf T pl up n VB ab){x:Int}(hx:ld pl up x):(ints VB)[x.toNat]?=some (vI (pl x)):=h.CE.at_ (h.m9 x hx.1).1 (h.m9 x hx.1).2
theorem Xf.up0(h:Xf T pl up n VB ab){x:Int}(hx:ld pl up x):(ints ab)[x.toNat]?=some (vI (up x)):=h.VA.at_ (h.m9 x hx.1).1 (h.m9 x hx.1).2
theorem Xf.ne0(h:Xf T pl up n VB ab){a b:Int}(hb:ld pl up b)(fM:pl a>pl b):a≠0:=by
 rintro rfl;rw[h.vQ.zero]at fM;have:=hb.1;omega
theorem Rt(h:Xf T pl up n VB ab){a b a2 b2:Int}(ha:ld pl up a)(Gq:ld pl up a2)(ua:ld pl up b2)(dN:a≠b)(h1:a2=a∨pl a2<pl a)(h2:b2=b∨pl b2<pl b)(g1:¬pl a2>pl b)(g2:¬pl b2>pl a2):(pl a2+pl b2).toNat<(pl a+pl b).toNat:=by
 have p1:=Gq.1;have p2:=ua.1;rcases h1 with rfl|h1
 ·rcases h2 with rfl|h2
  ·exact absurd (h.vQ.inj _ _ ha.1 oM) dN
  ·omega
 ·rcases h2 with rfl|h2<;>omega
end
end Go.Mor
namespace Go.Proofs.YtjekgaabcigphaaGreat
open Go.Mor
theorem Ru(g5 g6:Nat)(Fs Pz:Addr)(n ca cb:Nat)(VB ab:af)(T:Int→af)(pl up:Int→Int)(xa xb:Int)(w:World)(_hm:n≤1000000)(h5:RO aX w (.aL g5 40 [.slice (some Fs) n ca]))(h6:RO aX w (.aL g6 40 [.slice (some Pz) n cb]))(hA:RO aX w (.rd (some Fs) (ints VB)))(hB:RO aX w (.rd (some Pz) (ints ab)))(nJ:Xf T pl up n VB ab)(hxa:ld pl up xa)(Xc:ld pl up xb):Calls Tryz.prog 97 #[vI xa,vI xb,pT g5 0,pT g6 0] w (ff fun v w'=>∃c:Int,v=vI c∧np pl up xa xb c∧Mem aX w w' []):=by
 refine gF 37 [vI xa,vI xb,pT g5 0,pT g6 0] Tryz.func97 ?_;have hM:=Mem.init w;refine aW<|aU<|cC 0 ?_;intro aC fr;refine fX (fun n_ a_ w_=>∃(a1:Int) (b1:Int),n_=(pl a1+pl b1).toNat∧Fr a_ 37 [(0,vI a1),(1,vI b1),(2,pT g5 0),(3,pT g6 0)]∧Mem aX w w_ []∧(ld pl up a1)∧(ld pl up b1)∧(∀c,np pl up a1 b1 c→np pl up xa xb c)) (n:=_) ⟨xa,xb,rfl,fr.kp [0,1,2,3],hM,hxa,Xc,fun _ h=>h⟩ ?_;clear fr aC hM;rintro n aC w3 ⟨a1,b1,rfl,fr,M4,Li,iW,FT⟩;revert aC;refine aU<|aG<|ae 2<|k9 (a1 !=b1) fun Bne Qfi=> ?_
 refine au ?_;cases Bne;have cne:¬(a1≠b1):=znn Qfi;refine gE<|fP 0<|fQ<|aW<|bG<|cK (vI a1) ?_;obtain rfl:a1=b1:=oM;exact⟨_,rfl,FT _ (.done _),M4⟩;have cne:a1≠b1:=de.1 Qfi.symm;refine fY<|bN<|cC 1<|aU<|cC 2 ?_;intro aC fr;refine fX (fun n_ a_ w_=>∃(a2:Int),n_=(pl a2).toNat∧Fr a_ 37 [(0,vI a2),(1,vI b1),(2,pT g5 0),(3,pT g6 0)]∧Mem aX w w_ []∧(ld pl up a2)∧(∀c,np pl up a2 b1 c→np pl up a1 b1 c)∧(a2=a1∨pl a2<pl a1)) (n:=_) ⟨a1,rfl,fr.kp [0,1,2,3],M4,Li,fun _ h=>h,.inl rfl⟩ ?_;clear fr aC M4;rintro n aC w9 ⟨a2,rfl,fr,ia,Gq,hc2,Vm⟩;revert aC;refine aU<|aU ?_;obtain⟨Bgt,QbW⟩:∃B:Bool,B=decide ((pl a2)>(pl b1)):=⟨_,rfl⟩;refine cU [0,1,2,3] ?_;intro aC fr;refine mi (aP [eS (some Fs) n ca,eI a2,eA Fs (a2) 1,eI (pl a2),eS (some Fs) n ca,eI b1,eA Fs (b1) 1,eI (pl b1),eB Bgt]) fr (la (lk lz (dL (aZ g5) _ fun w_ hK=>(aa ((ia.an hK).ro h5) rfl)) dP (dI (h0:=(nJ.m9 a2 Gq.1).1) (h1:=(nJ.m9 a2 Gq.1).2) Fs n 1 a2) (dL (aN Fs (a2) 1) _ fun w_ hK=>(bH ((ia.an hK).ro hA) rfl (nJ.at0 Gq))) (dL (aZ g5) _ fun w_ hK=>(aa ((ia.an hK).ro h5) rfl)) dP (dI (h0:=(nJ.m9 b1 iW.1).1) (h1:=(nJ.m9 b1 iW.1).2) Fs n 1 b1) (dL (aN Fs (b1) 1) _ fun w_ hK=>(bH ((ia.an hK).ro hA) rfl (nJ.at0 iW)))) (dC (decide ((pl a2)>(pl b1))) QbW)) ?_;intro aC PA vs hK hv fr;revert aC;refine bQ [(0,vI a2),(1,vI b1),(2,pT g5 0),(3,pT g6 0),(18,vB Bgt)] ?_;have mF:=ia.an hK;clear hK hv fr aC ia;clear vs;cases Bgt;have cgt:¬((pl a2)>(pl b1)):=bP QbW.symm;refine gE<|fP 2<|fQ<|cC 4 ?_;intro aC fr;refine fX (fun n_ a_ w_=>∃(b2:Int),n_=(pl b2).toNat∧Fr a_ 37 [(0,vI a2),(1,vI b2),(2,pT g5 0),(3,pT g6 0)]∧Mem aX w w_ []∧(ld pl up b2)∧(∀c,np pl up a2 b2 c→np pl up a2 b1 c)∧(b2=b1∨pl b2<pl b1)) (n:=_) ⟨b1,rfl,fr.kp [0,1,2,3],mF,iW,fun _ h=>h,.inl rfl⟩ ?_;clear fr aC mF;rintro n aC Vx ⟨b2,rfl,fr,lR,ua,hc3,hd3⟩;revert aC;refine aU<|aU ?_;obtain⟨Bgu,QbX⟩:∃B:Bool,B=decide ((pl b2)>(pl a2)):=⟨_,rfl⟩;refine cU [0,1,2,3] ?_;intro aC fr;refine mi (aP [eS (some Fs) n ca,eI b2,eA Fs (b2) 1,eI (pl b2),eS (some Fs) n ca,eI a2,eA Fs (a2) 1,eI (pl a2),eB Bgu]) fr (la (lk lz (dL (aZ g5) _ fun w_ hK=>(aa ((lR.an hK).ro h5) rfl)) dP (dI (h0:=(nJ.m9 b2 ua.1).1) (h1:=(nJ.m9 b2 ua.1).2) Fs n 1 b2) (dL (aN Fs (b2) 1) _ fun w_ hK=>(bH ((lR.an hK).ro hA) rfl (nJ.at0 ua))) (dL (aZ g5) _ fun w_ hK=>(aa ((lR.an hK).ro h5) rfl)) dP (dI (h0:=(nJ.m9 a2 Gq.1).1) (h1:=(nJ.m9 a2 Gq.1).2) Fs n 1 a2) (dL (aN Fs (a2) 1) _ fun w_ hK=>(bH ((lR.an hK).ro hA) rfl (nJ.at0 Gq)))) (dC (decide ((pl b2)>(pl a2))) QbX)) ?_;intro aC w29 vs hK hv fr;revert aC;refine bQ [(0,vI a2),(1,vI b2),(2,pT g5 0),(3,pT g6 0),(31,vB Bgu)] ?_;have tx:=lR.an hK;clear hK hv fr aC lR;clear vs;cases Bgu;have cgu:¬((pl b2)>(pl a2)):=bP QbX.symm;refine gE<|fP 4<|fQ ?_;intro aC fr;exact⟨(pl a2+pl b2).toNat,Rt nJ Li Gq ua cne Vm hd3 cgt cgu,a2,b2,rfl,fr.kp [0,1,2,3],tx,Gq,ua,fun c h=>FT c (hc2 c (hc3 c h))⟩;have cgu:(pl b2)>(pl a2):=bK QbX.symm;refine fY<|bN<|cC 5<|cN<|bB (aZ g6) _ (aa (tx.ro h6) rfl)<|ae 1<|eM (h0:=(nJ.m9 b2 ua.1).1) (h1:=(nJ.m9 b2 ua.1).2) Pz n 1 b2<|bB (aN Pz (b2) 1) _ (bH (tx.ro hB) rfl (nJ.up0 ua))<|ae 1<|au ?_;have dN:=nJ.ne0 Gq cgu;obtain⟨s5,Fj⟩:=nJ.ok.low b2 ua dN;have WV:=s5.1;intro aC fr;exact⟨(pl (up b2)).toNat,oM,up b2,rfl,fr.kp [0,1,2,3],tx,s5,fun c h=>hc3 c (.right cgu h),.inr (by rcases hd3 with hd3|hd3<;>(try subst hd3)<;>omega)⟩;have cgt:(pl a2)>(pl b1):=bK QbW.symm;refine fY<|bN<|cC 3<|cN<|bB (aZ g6) _ (aa (mF.ro h6) rfl)<|ae 1<|eM (h0:=(nJ.m9 a2 Gq.1).1) (h1:=(nJ.m9 a2 Gq.1).2) Pz n 1 a2<|bB (aN Pz (a2) 1) _ (bH (mF.ro hB) rfl (nJ.up0 Gq))<|ae 1<|au ?_;have dN:=nJ.ne0 iW cgt;obtain⟨s5,Fj⟩:=nJ.ok.low a2 Gq dN;have WV:=s5.1;intro aC fr;exact⟨(pl (up a2)).toNat,oM,up a2,rfl,fr.kp [0,1,2,3],mF,s5,fun c h=>hc2 c (.left cgt h),.inr (by rcases Vm with Vm|Vm<;>(try subst Vm)<;>omega)⟩
end Go.Proofs.YtjekgaabcigphaaGreat
namespace Go.Mor
open Go.RowKit
theorem ko(bs:List SB):(aI bs).length≤bs.length:=by
 unfold aI;split
 ·simp
 ·rw[List.length_reverse];exact MX oM
theorem Em{bs:List SB}{k:Nat}(hk:k<(aI bs).length):∃bi:Nat,(aI bs)[k]?=some (bi:Int)∧bi<bs.length∧jF bs (bi:Int)=(k:Int):=by
 have hl:=ko bs;have ho:=oY (bs:=bs) oM;have hg:(aI bs)[k]?=some (aI bs)[k]:=List.getElem?_eq_getElem hk;have hr:=rP oM ((ho.mem _).1 (bu hg));obtain⟨q,hq⟩:=oe hr.1;rw[hq]at hg;exact⟨q,hg,oM,oC ho.nodup hg⟩
theorem Rv{bs:List SB}{j:Nat}(hk:j+1<(aI bs).length):∃bi:Nat,((aI bs).drop 1)[j]?=some (bi:Int)∧bi<bs.length∧jF bs (bi:Int)=(j:Int)+1:=by
 obtain⟨bi,h1,h2,h3⟩:=Em hk;exact⟨bi,by rw[List.getElem?_drop,Nat.add_comm];exact h1,h2,oM⟩
theorem Xg{w:World}{ad:Addr}{l:af}(h:(bx.rd (some ad) (ints l)).holds w):(bx.rd (some (ad.add (1*1))) (ints (l.drop 1))).holds w:=by
 have:=V4 h 1;simpa[ints]using this
theorem En(bs:List SB){l:af}(h:cG bs.length l (fun _=> -1)):cG bs.length l (vQ ((aI bs).take 0)):=h.congr (fun i _=>(El sI).symm)
theorem Gr{bs:List SB}{l:af}{k bi:Nat}(h:cG bs.length l (vQ ((aI bs).take k)))(hk:(aI bs)[k]?=some (bi:Int))(hb:bi<bs.length):cG bs.length (l.set bi (k:Int)) (vQ ((aI bs).take (k+1))):=by
 have fM:=(List.getElem?_eq_some_iff.1 hk).1;have hl:=ko bs;have ho:=oY (bs:=bs) oM;refine h.set hb ?_ fun j _ dN=> ?_
 ·rw[Gn ho.nodup hk,bC rfl]
 ·rw[Gn ho.nodup hk,aB oM]
theorem Ji{bs:List SB}{l:af}{k:Nat}(h:cG bs.length l (vQ ((aI bs).take k)))(hk:(aI bs).length≤k):cG bs.length l (jF bs):=by
 rw[kh hk]at h;exact h
theorem jH{l:af}{q:Nat}{x:Int}(h:l[q]?=some x):l.take (q+1)=l.take q++[x]:=by
 obtain⟨fM,he⟩:=List.getElem?_eq_some_iff.1 h;rw[fO fM,he]
theorem yp{bs:List SB}{b:Int}{q:Nat}(h:q<(bO bs b).length):∃si:Nat,(bO bs b)[q]?=some (si:Int)∧si<bs.length:=by
 have h1:=Rg (qH h);obtain⟨k,he⟩:=oe h1.1;exact⟨k,by rw[List.getElem?_eq_getElem h,he],oM⟩
theorem Xh{bs:List SB}(h:0<bs.length){b:Int}:∀s,0≤jF bs s→(s∈bO bs b↔b∈tg bs s):=fun s hs=>by
 rw[Gp];exact⟨fun h=>h.2,fun hb=>⟨lS h hs,hb⟩⟩
theorem Rw(bs:List SB)(x:Int):jF bs x<(aI bs).length:=QbU
theorem Rx{bs:List SB}{up:Int→Int}{ab:af}{k:Nat}{j:Int}(hr:0<bs.length→Ek (tg bs) (jF bs) up k 0)(hk:1≤k)(hs:Nk (tg bs) (jF bs) up j)(hj:∀x,jF bs x≤j)(VA:cG bs.length ab up):ab=gf bs:=by
 rcases Dq bs.length with h0|h0
 ·have e1:ab=[]:=qy (by rw[VA.1,h0]);have e2:gf bs=[]:=qy (by simp[gf,q7,lG,h0]);rw[e1,e2]
 ·exact Nl h0 (hr h0) hk hs hj VA
theorem Ry{n k:Nat}{b:Bool}(hf:n+2≤k→b=false)(h:b=true):k+1≤n+2:=by
 by_cases h8:n+2≤k
 ·rw[hf h8]at h;cases h
 ·omega
theorem Gs(bs:List SB):(gf bs).length=bs.length:=by simp[gf,q7,lG]
theorem Xi(bs:List SB):(vR bs).length=bs.length:=by simp[vR]
theorem Ek.keep{bs:List SB}{up:Int→Int}{k:Nat}{j b to:Int}(h:Ek (tg bs) (jF bs) up k j)(hb:jF bs b=j+1)(hto:0≤to)(he:up b=to)(ha:∀s,ld (jF bs) up s→b∈tg bs s→jh up s to):∀s,0≤jF bs s→b∈tg bs s→jh up s (up b):=by
 intro s hs hx;rw[he];refine ha s ⟨hs,?_⟩ hx;by_cases e:s=0
 ·exact .inl e
 ·refine .inr (h.some s hs e (.inr ?_));by_cases hk:k=0
  ·have:=h.non hk b oM;omega
  ·omega
end Go.Mor
namespace Go.Mor
open Go.RowKit
structure Eo(bs:List SB)(up:Int→Int):Prop where
 of:cG bs.length (gf bs) up
 ok:Up (tg bs) (jF bs) up
 Jf:∀x,0≤jF bs x→ld (jF bs) up x
 off:∀x,(jF bs x<0∨x=0)→up x= -1
 dm:∀x d,jh up x d→Dm (tg bs) d x
def Qai(bs:List SB):Prop:=0<bs.length→∃up,Eo bs up
theorem QbY{bs:List SB}{up:Int→Int}{ab:af}{k:Nat}{j:Int}(hr:0<bs.length→Ek (tg bs) (jF bs) up k 0)(hk:1≤k)(hs:Nk (tg bs) (jF bs) up j)(hj:∀x,jF bs x≤j)(VA:cG bs.length ab up):Qai bs:=by
 intro h0;have Ii:=hr h0;refine⟨up,Rx hr hk hs hj VA▸VA,Ii.ok,fun x h=>⟨h,?_⟩,Ii.off,fun x d h=>hs.dm (jG h0) hj h⟩;by_cases e:x=0
 ·exact .inl e
 ·exact .inr (Ii.some x h e (.inr hk))
end Go.Mor
namespace Go.Proofs.YtjekgaabcigphaaGreat
open Go.Mor
theorem QbZ(nm wk pa va:Value)(A:ao)(c:Nat)(bs:List SB)(w:World)(hm:bs.length≤1000000)(hA:RO aX w (.blocks A bs)):Calls Tryz.prog 79 #[(.agg #[nm,wk,pa,va,vS A bs.length c])] w (ff fun v w'=>∃A1 c1 A2 c2,v= .tuple #[.slice A1 bs.length c1,.slice A2 bs.length c2]∧Qai bs∧Mem aX w w' [.row 3 1 A1 bs.length c1 (ints (gf bs)),.row 3 1 A2 bs.length c2 (ints (vR bs))]):=by
 refine gF 112 [(.agg #[nm,wk,pa,va,vS A bs.length c])] Tryz.func79 ?_;have hM:=Mem.init w;refine aG<|lO hM 35 (.agg #[nm,wk,pa,va,vS A bs.length c]) [nm,wk,pa,va,vS A bs.length c] fun b1 w2 iW M3=> ?_
 replace M3:=M3.nf;clear hM;refine ae 2<|au<|aG<|gS (aZ b1) [nm,wk,pa,va,vS A bs.length c] (bp (M3.get 0 rfl))<|eb (vs:=#[(.agg #[nm,wk,pa,va,vS A bs.length c])]) (Ef _ _ _ _ A c bs w2 hm (hA.at_ M3)) ?_;rintro _ w6 ⟨A4,c5,rfl,M7x⟩;have M7:=M3.cl M7x;refine ae 1<|au<|aG<|ae 1<|bB (ah b1 4) _ (aa (M7.get 0 rfl) rfl)<|ae 1 ?_;intro aC fr;refine Vj 23 40 (.tmp 22) (.tmp 22) 40 fr (e:=3) (bytes:=8) (z:=(vI 0)) (n:=bs.length) (i:=(bs.length:Int)) oM (by simp only[maxLen];omega) M7 ?_;intro b8 w9 hb8 _ ia _ aC ea fr;clear ea;replace ia:=ia.nf;revert aC;refine m8 ia 40 [ag] fun jg vF QbK kn=> ?_
 replace kn:=kn.nf;refine sV kn 3 0 (vS (sM b8) bs.length bs.length) rfl fun I5 kA=> ?_
 replace kA:=kA.nf;refine au<|aG<|ae 1<|bB (ah b1 4) _ (aa (kA.get 0 rfl) rfl)<|ae 1 ?_;intro aC fr;refine Vj 27 40 (.tmp 26) (.tmp 26) 40 fr (e:=3) (bytes:=8) (z:=(vI 0)) (n:=bs.length) (i:=(bs.length:Int)) oM (by simp only[maxLen];omega) kA ?_;intro gY Vx Qif _ lR _ aC ea fr;clear ea;replace lR:=lR.nf;revert aC;refine m8 lR 40 [ag] fun wL w28 Qig ue=> ?_
 replace ue:=ue.nf;refine cU [1,4,5,6,27]<|sV ue 5 0 (vS (sM gY) bs.length bs.length) rfl fun VC nL=> ?_
 replace nL:=nL.nf;refine au<|aU<|aG<|bB (aZ jg) _ (aa (nL.get 3 rfl) rfl)<|ae 2<|au<|cC 0 ?_;intro aC fr;refine fX (fun n_ a_ w_=>∃(i:Nat) (m1:af) (m2:af),n_=bs.length-i∧Fr a_ 112 [(1,pT b1 0),(4,vS A4 ((aI bs).length) c5),(5,pT jg 0),(6,pT wL 0),(29,(vI (bs.length:Int))),(30,nV i)]∧Mem aX w w_ [.aL b1 35 [nm,wk,pa,va,vS A bs.length c],.row 3 1 A4 ((aI bs).length) c5 (ints (aI bs)),.row 3 1 (sM b8) bs.length bs.length (ints m1),.aL jg 40 [vS (sM b8) bs.length bs.length],.row 3 1 (sM gY) bs.length bs.length (ints m2),.aL wL 40 [vS (sM gY) bs.length bs.length]]∧(i≤bs.length)∧(cG bs.length m1 (sB i))∧(cG bs.length m2 (sB i))) (n:=_) ⟨0,List.replicate bs.length 0,List.replicate bs.length 0,rfl,fr.kp [1,4,5,6,29,30],(nL.cast (by simp[ints])),oM,zB _,zB _⟩ ?_;clear fr aC nL;rintro n aC w34 ⟨i,m1,m2,rfl,fr,mT,hi,h1,h2⟩;revert aC;refine aG<|k9 (decide ((i:Int)<(bs.length:Int))) fun Bi hBi=> ?_
 refine au<|aU ?_;cases Bi;have ci:¬((i:Int)<(bs.length:Int)):=bP hBi.symm;refine gE<|fP 0<|fQ<|aU<|aW<|cC 2 ?_;have hol:=ko bs;intro aC fr;refine fX (fun n_ a_ w_=>∃(k:Nat) (m3:af),n_=(aI bs).length-k∧Fr a_ 112 [(1,pT b1 0),(4,vS A4 ((aI bs).length) c5),(5,pT jg 0),(6,pT wL 0),(40,vS A4 ((aI bs).length) c5),(41,(vI ((aI bs).length:Int))),(42,nV k)]∧Mem aX w w_ [.aL b1 35 [nm,wk,pa,va,vS A bs.length c],.row 3 1 A4 ((aI bs).length) c5 (ints (aI bs)),.row 3 1 (sM b8) bs.length bs.length (ints m3),.aL jg 40 [vS (sM b8) bs.length bs.length],.row 3 1 (sM gY) bs.length bs.length (ints m2),.aL wL 40 [vS (sM gY) bs.length bs.length]]∧(k≤(aI bs).length)∧(cG bs.length m3 (vQ ((aI bs).take k)))) (n:=_) ⟨0,m1,rfl,fr.kp [1,4,5,6,40,41,42],mT,oM,En bs (Gm h1 oM)⟩ ?_;clear fr aC mT;rintro n aC w40 ⟨k,m3,rfl,fr,H0,hk,h3⟩;revert aC;refine aG<|k9 (decide ((k:Int)<((aI bs).length:Int))) fun Bk Rc=> ?_
 refine au<|aU ?_;cases Bk;have ck:¬((k:Int)<((aI bs).length:Int)):=bP Rc.symm;refine gE<|fP 2<|fQ<|aG ?_;have CE:=Ji h3 oM;have Qih:=Gm h2 oM;refine gS (aZ b1) [nm,wk,pa,va,vS A bs.length c] (bp (H0.get 0 rfl))<|eb (vs:=#[(.agg #[nm,wk,pa,va,vS A bs.length c])]) (Rm _ _ _ _ A c bs w40 hm (hA.at_ H0)) ?_;rintro _ w47 ⟨A44,Ri,vU,rfl,Rz,Qb0⟩;have xC:=H0.cl Qb0;refine ae 1<|au<|aW<|aU<|aW<|cC 4 ?_;intro aC fr;refine fX (fun n_ a_ w_=>∃(k:Nat) (ab:af) (up:Int→Int) (Bt:Bool),n_=bs.length+3-k∧Fr a_ 112 [(4,vS A4 ((aI bs).length) c5),(5,pT jg 0),(6,pT wL 0),(10,vS A44 bs.length Ri),(11,(.func (.func 97) #[] #[pT jg 0,pT wL 0])),(12,vB Bt)]∧Mem aX w w_ [.aL b1 35 [nm,wk,pa,va,vS A bs.length c],.row 3 1 A4 ((aI bs).length) c5 (ints (aI bs)),.row 3 1 (sM b8) bs.length bs.length (ints m3),.aL jg 40 [vS (sM b8) bs.length bs.length],.row 3 1 (sM gY) bs.length bs.length (ints ab),.aL wL 40 [vS (sM gY) bs.length bs.length],.iQ 3 vU,.row 40 1 A44 bs.length Ri (hH vU)]∧(cG bs.length ab up)∧(0<bs.length→Ek (tg bs) (jF bs) up k 0)∧(Bt=false→1≤k∧∃j,Nk (tg bs) (jF bs) up j∧∀x,jF bs x≤j)∧(Bt=true→k≤bs.length+2)) (n:=_) ⟨0,m2,fun _=> -1,true,rfl,fr.kp [4,5,6,10,11,12],xC,Qih,fun h=>Ek.start (jG h),fun h=>Bool.noConfusion h,fun _=>oM⟩ ?_;clear fr aC xC;rintro n aC w51 ⟨k,ab,up,Bt,rfl,fr,xD,Qb1,hhd,Qii,Qij⟩;revert aC;refine aU<|aW ?_;cases Bt;refine gE<|fP 4<|fQ<|aU ?_;obtain⟨hk1,jj,hs1,IY⟩:=Qii rfl;have pJ:=QbY hhd hk1 hs1 IY Qb1;obtain rfl:=Rx hhd hk1 hs1 IY Qb1;obtain rfl:=CE.ext (Rr bs);refine cU [4,5,6,10,11,55] ?_;intro aC fr;refine mi (aP [eS (sM gY) bs.length bs.length,eS (sM b8) bs.length bs.length,eS (sM gY) bs.length bs.length,eS (sM b8) bs.length bs.length]) fr (la (kB lz (dL (aZ wL) _ fun w_ hK=>(aa ((xD.an hK).get 5 rfl) rfl)) (dL (aZ jg) _ fun w_ hK=>(aa ((xD.an hK).get 3 rfl) rfl)) dP) dP) ?_;intro aC w59 vs hK hv fr;revert aC;refine bQ [(2,vS (sM gY) bs.length bs.length),(3,vS (sM b8) bs.length bs.length)] ?_;have yj:=xD.an hK;clear hK hv fr aC xD;clear vs;refine bG<|jt (vS (sM gY) bs.length bs.length) (vS (sM b8) bs.length bs.length) ?_;have M61:=yj.od [2,4] 2;exact⟨_,_,_,_,rfl,pJ,M61⟩;refine fY<|bN<|cC 5<|aW<|aG<|ae 3 ?_;intro aC fr;obtain⟨m0,hm0⟩:∃m0:Nat,m0=min 1 (aI bs).length:=⟨_,rfl⟩;refine y0 (kR:ay _ 3=some (some 59,(.call {callee:=(.builtin .min),args:=#[.const (vI 1),.tmp 58],argTypes:=#[3,3]}),3,none)) fr kR kR (k':=4) rfl (kd:= .i64) (i:=1) (j:=((aI bs).length:Int)) kR kR (m0:Int) (by split<;>omega) ?_;intro aC ea fr;clear ea;refine mH (kR:ay _ 4=some (some 60,.slice 40 (.tmp 56) (some (.tmp 59)) none none,40,none)) fr kR kR (k':=5) rfl (A:=A4) (n:=(aI bs).length) (cap:=c5) (e:=3) (size:=1) (kd:= .i64) (i:=(m0:Int)) m0 kR kR rfl kR kR oM ?_;intro aC ea fr;clear ea;obtain⟨A60,Qfj⟩:∃A60,A60=(if c5=m0 then A4 else A4.map (fun y=>y.add (m0*1))):=⟨_,rfl⟩;revert aC;refine cU [4,5,6,10,11,12,60] ?_;intro aC fr;rw[←Qfj]at fr;revert aC;refine ae 2<|au<|cC 6 ?_;intro aC fr;refine fX (fun n_ a_ w_=>∃(j:Nat) (VD:af) (zC:Int→Int) (Bt2:Bool),n_=(aI bs).length-m0-j∧Fr a_ 112 [(4,vS A4 ((aI bs).length) c5),(5,pT jg 0),(6,pT wL 0),(10,vS A44 bs.length Ri),(11,(.func (.func 97) #[] #[pT jg 0,pT wL 0])),(12,vB Bt2),(60,vS A60 ((aI bs).length-m0) (c5-m0)),(61,(vI ((((aI bs).length-m0):Nat):Int))),(62,nV j)]∧Mem aX w w_ [.aL b1 35 [nm,wk,pa,va,vS A bs.length c],.row 3 1 A4 ((aI bs).length) c5 (ints (aI bs)),.row 3 1 (sM b8) bs.length bs.length (ints m3),.aL jg 40 [vS (sM b8) bs.length bs.length],.row 3 1 (sM gY) bs.length bs.length (ints VD),.aL wL 40 [vS (sM gY) bs.length bs.length],.iQ 3 vU,.row 40 1 A44 bs.length Ri (hH vU)]∧(j≤(aI bs).length-m0)∧(cG bs.length VD zC)∧(0<bs.length→Ek (tg bs) (jF bs) zC k (j:Int))∧(Bt2=false→Nk (tg bs) (jF bs) zC (j:Int))∧(bs.length+2≤k→Bt2=false)) (n:=_) ⟨0,ab,up,false,rfl,fr.kp [4,5,6,10,11,12,60,61,62],xD,oM,Qb1,hhd,fun _=>Nk.start,fun _=>rfl⟩ ?_;clear fr aC xD;rintro n aC w72 ⟨j,VD,zC,Bt2,rfl,fr,zz,hj,CF,Nm,ry,hfu⟩;revert aC;refine aG<|k9 (decide ((j:Int)<((((aI bs).length-m0):Nat):Int))) fun Bj hBj=> ?_
 refine au<|aU ?_;cases Bj;have cj:¬((j:Int)<((((aI bs).length-m0):Nat):Int)):=bP hBj.symm;refine gE<|fP 6<|fQ ?_;intro aC fr;exact⟨bs.length+3-(k+1),by have:=Qij rfl;omega,k+1,VD,zC,Bt2,rfl,fr.kp [4,5,6,10,11,12],zz,CF,fun h=>(Nm h).WC (jG h) (fun x=>by have:=Rw bs x;omega),fun h=>⟨oM,_,ry h,fun x=>by have:=Rw bs x;omega⟩,fun h=>Ry hfu h⟩;have cj:(j:Int)<((((aI bs).length-m0):Nat):Int):=bK hBj.symm;refine fY<|bN<|aU<|cC 7<|aG ?_;obtain⟨go,rfl⟩:=dJ (zz.get 1 rfl) oM;have hco:=yG (zz.get 1 rfl);obtain rfl:A60=some ((aZ go).add (1*1)):=by rw[Qfj,aB oM,show m0=1 by omega];rfl
 obtain⟨bi,hbj,Nf,hpb⟩:=Rv (bs:=bs) (j:=j) oM;have Vz:0<bs.length:=oM;have hP:=jG Vz;have Nn:=Nm Vz;have uj:(bi:Int)≠0:=by intro e;rw[e,hP.zero]at hpb;omega
 have hrg:∀x,0≤jF bs x→0≤x:=fun x hx=>(lS Vz hx).1
 obtain⟨Ab,cb,Lj⟩:=Rz.get (q8 Nf);have Xb:(bO bs (bi:Int)).length≤bs.length:=ki bs _ _;have nJ:Xf (tg bs) (jF bs) zC bs.length m3 VD:=⟨hP,Nn.ok,fun x hx=>lS Vz hx,CE,CF⟩;refine eM ((aZ go).add (1*1)) ((aI bs).length-m0) 1 (j:Int)<|bB ((((aZ go).add (1*1)):Addr).add (((j:Int)).toNat*1)) _ (g9 (Xg (aF (zz.get 1 rfl))) rfl hbj)<|ae 1<|au<|aW<|aU<|aG<|ae 2 ?_;obtain⟨g79,rfl⟩:=dJ (zz.get 7 rfl) oM;refine eM (aZ g79) bs.length 1 (bi:Int)<|bB (aN (aZ g79) (bi:Int) 1) _ (bH (aF (zz.get 7 rfl)) rfl (j5 Lj))<|ae 2<|au<|cC 8 ?_;intro aC fr;refine fX (fun n_ a_ w_=>∃(q:Nat) (to:Int),n_=(bO bs (bi:Int)).length-q∧Fr a_ 112 [(4,vS (sM go) ((aI bs).length) c5),(5,pT jg 0),(6,pT wL 0),(10,vS (sM g79) bs.length Ri),(11,(.func (.func 97) #[] #[pT jg 0,pT wL 0])),(12,vB Bt2),(14,nV bi),(15,vI to),(60,vS (some ((aZ go).add (1*1))) ((aI bs).length-m0) (c5-m0)),(61,(vI ((((aI bs).length-m0):Nat):Int))),(62,nV j),(69,(vS Ab ((bO bs (bi:Int)).length) cb)),(70,(vI ((bO bs (bi:Int)).length:Int))),(71,nV q)]∧Mem aX w w_ [.aL b1 35 [nm,wk,pa,va,vS A bs.length c],.row 3 1 (sM go) ((aI bs).length) c5 (ints (aI bs)),.row 3 1 (sM b8) bs.length bs.length (ints m3),.aL jg 40 [vS (sM b8) bs.length bs.length],.row 3 1 (sM gY) bs.length bs.length (ints VD),.aL wL 40 [vS (sM gY) bs.length bs.length],.iQ 3 vU,.row 40 1 (sM g79) bs.length Ri (hH vU)]∧(q≤(bO bs (bi:Int)).length)∧(Fold (tg bs) (jF bs) zC ((bO bs (bi:Int)).take q) to)) (n:=_) ⟨0,-1,rfl,fr.kp [4,5,6,10,11,12,14,15,60,61,62,69,70,71],zz,oM,Fold.start⟩ ?_;clear fr aC zz;rintro n aC w82 ⟨q,to,rfl,fr,qY,hq,VE⟩;revert aC;refine aG<|k9 (decide ((q:Int)<((bO bs (bi:Int)).length:Int))) fun Bq hBq=> ?_
 refine au<|aU ?_;cases Bq;have cq:¬((q:Int)<((bO bs (bi:Int)).length:Int)):=bP hBq.symm;refine gE<|fP 8<|fQ<|aG ?_;rw[kh oM]at VE;obtain⟨k1,k2,k3,k4,k5,k6⟩:=Nn.step hP hrg oM hpb (Xh Vz) VE;refine bB (aZ wL) _ (aa (qY.get 5 rfl) rfl)<|ae 1<|eM (aZ gY) bs.length 1 (bi:Int)<|bB (aN (aZ gY) (bi:Int) 1) _ (bH (aF (qY.get 4 rfl)) rfl (CF.at_ oM oM))<|ae 1<|k9 ((zC (bi:Int)) !=to) fun Bch Qfk=> ?_
 refine au ?_;cases Bch;have cch:¬((zC (bi:Int))≠to):=znn Qfk;have k7:Ek (tg bs) (jF bs) zC k ((j+1:Nat):Int):=by have:=k6;rw[show to=zC (bi:Int)by omega,Ro]at this;exact this
 refine gE<|bN<|cN<|dw ((j:Int)+1)<|ae 1<|au ?_;intro aC fr;exact⟨(aI bs).length-m0-(j+1),oM,j+1,VD,zC,Bt2,rfl,fr.kp [4,5,6,10,11,12,60,61,62],qY,oM,CF,fun _=>k7,fun h=>(ry h).next hP hpb (Nn.keep hpb k1 oM k4),hfu⟩;have cch:(zC (bi:Int))≠to:=de.1 Qfk.symm;refine fY<|aG<|bB (aZ wL) _ (aa (qY.get 5 rfl) rfl)<|ae 2<|eM (aZ gY) bs.length 1 (bi:Int)<|wC qY 4 (aN (aZ gY) (bi:Int) 1) (((bi:Int)).toNat*1) (vI to) rfl rfl oM fun w88 M89=> ?_
 replace M89:=M89.nf;refine au<|x8<|cN<|dw ((j:Int)+1)<|ae 1<|au ?_;intro aC fr;exact⟨(aI bs).length-m0-(j+1),oM,j+1,VD.set bi to,s7 zC (bi:Int) to,true,rfl,fr.kp [4,5,6,10,11,12,60,61,62],(M89.cast (by rw[ints_set];simp only[cZ,eE])),oM,CF.set Nf vO (fun q _ dN=>oB oM),fun _=>k6,fun h=>Bool.noConfusion h,fun h=>absurd (Nn.full hP (fun x hx=>rP Vz hx) h oM uj k2 k3 k4 k5) cch⟩;have cq:(q:Int)<((bO bs (bi:Int)).length:Int):=bK hBq.symm;refine fY<|bN<|aU<|cC 9<|aG ?_;obtain⟨si,AO,hsn⟩:=yp (bs:=bs) (b:=(bi:Int)) (q:=q) oM;obtain⟨Qfl,rfl⟩:=rd_some (q6 (qY.get 6 rfl) Lj) (by simp;omega);refine eM Qfl ((bO bs (bi:Int)).length) 1 (q:Int)<|bB (aN Qfl (q:Int) 1) _ (g9 (q6 (qY.get 6 rfl) Lj) rfl AO)<|ae 1<|au<|aU<|aG<|bB (aZ jg) _ (aa (qY.get 3 rfl) rfl)<|ae 1<|eM (aZ b8) bs.length 1 (si:Int)<|bB (aN (aZ b8) (si:Int) 1) _ (bH (aF (qY.get 2 rfl)) rfl (CE.at_ oM oM))<|k9 (decide ((jF bs (si:Int))<0)) fun Bpl Qfm=> ?_
 refine ae 1 ?_;cases Bpl;have cpl:¬((jF bs (si:Int))<0):=bP Qfm.symm;refine ae 1<|k9 ((si:Int) !=0) fun Bs0 Qfn=> ?_
 refine ae 1 ?_;cases Bs0;have cs0:¬((si:Int)≠0):=znn Qfn;have Ft:ld (jF bs) zC (si:Int):=⟨oM,.inl oM⟩;refine ae 7<|au<|gE<|bN<|aG<|ae 1<|k9 (decide (to<0)) fun Bto RB=> ?_
 refine cU [4,5,6,10,11,12,14,15,17,60,61,62,69,70,71,92]<|au ?_;cases Bto;have cto:¬(to<0):=bP RB.symm;refine gE<|cN<|ae 3<|eb (Ru jg wL (aZ b8) (aZ gY) bs.length bs.length bs.length m3 VD (tg bs) (jF bs) zC to (si:Int) w82 hm (qY.df 3 rfl) (qY.df 5 rfl) (RO.aF (qY.df 2 rfl)) (RO.aF (qY.df 4 rfl)) nJ (VE.Jf oM) Ft) ?_;rintro _ w93 ⟨cm,rfl,u9,Qik⟩;have RD:=qY.cl Qik;refine ae 1<|au<|cN<|dw ((q:Int)+1)<|ae 1<|au ?_;intro aC fr;exact⟨(bO bs (bi:Int)).length-(q+1),oM,q+1,cm,rfl,fr.kp [4,5,6,10,11,12,14,15,60,61,62,69,70,71],RD,oM,by rw[jH AO];exact VE.meet hP Nn.ok oM Ft u9⟩;have cto:to<0:=bK RB.symm;refine fY<|x8<|cN<|dw ((q:Int)+1)<|ae 1<|au ?_;intro aC fr;exact⟨(bO bs (bi:Int)).length-(q+1),oM,q+1,(si:Int),rfl,fr.kp [4,5,6,10,11,12,14,15,60,61,62,69,70,71],qY,oM,by rw[jH AO];exact VE.first cto hrg Ft⟩;have cs0:(si:Int)≠0:=de.1 Qfn.symm;refine bB (aZ wL) _ (aa (qY.get 5 rfl) rfl)<|ae 1<|eM (aZ gY) bs.length 1 (si:Int)<|bB (aN (aZ gY) (si:Int) 1) _ (bH (aF (qY.get 4 rfl)) rfl (CF.at_ oM oM))<|cU [4,5,6,10,11,12,14,15,17,60,61,62,69,70,71,80,83,87]<|k9 (decide ((zC (si:Int))<0)) fun Bup Qfo=> ?_
 refine ae 2<|au ?_;cases Bup;have cup:¬((zC (si:Int))<0):=bP Qfo.symm;have Ft:ld (jF bs) zC (si:Int):=⟨oM,.inr oM⟩;refine gE<|bN<|aG<|ae 1<|k9 (decide (to<0)) fun Bto RB=> ?_
 refine au ?_;cases Bto;have cto:¬(to<0):=bP RB.symm;refine gE<|cN<|ae 3<|eb (Ru jg wL (aZ b8) (aZ gY) bs.length bs.length bs.length m3 VD (tg bs) (jF bs) zC to (si:Int) w82 hm (qY.df 3 rfl) (qY.df 5 rfl) (RO.aF (qY.df 2 rfl)) (RO.aF (qY.df 4 rfl)) nJ (VE.Jf oM) Ft) ?_;rintro _ w99 ⟨cm,rfl,u9,Qfp⟩;have Ep:=qY.cl Qfp;refine ae 1<|au<|cN<|dw ((q:Int)+1)<|ae 1<|au ?_;intro aC fr;exact⟨(bO bs (bi:Int)).length-(q+1),oM,q+1,cm,rfl,fr.kp [4,5,6,10,11,12,14,15,60,61,62,69,70,71],Ep,oM,by rw[jH AO];exact VE.meet hP Nn.ok oM Ft u9⟩;have cto:to<0:=bK RB.symm;refine fY<|x8<|cN<|dw ((q:Int)+1)<|ae 1<|au ?_;intro aC fr;exact⟨(bO bs (bi:Int)).length-(q+1),oM,q+1,(si:Int),rfl,fr.kp [4,5,6,10,11,12,14,15,60,61,62,69,70,71],qY,oM,by rw[jH AO];exact VE.first cto hrg Ft⟩;have cup:(zC (si:Int))<0:=bK Qfo.symm;have hnp:¬ld (jF bs) zC (si:Int):=fun h=>h.2.elim cs0 (fun h=>oM)
 refine fY<|fP 9<|fQ<|cN<|dw ((q:Int)+1)<|ae 1<|au ?_;intro aC fr;exact⟨(bO bs (bi:Int)).length-(q+1),oM,q+1,to,rfl,fr.kp [4,5,6,10,11,12,14,15,60,61,62,69,70,71],qY,oM,by rw[jH AO];exact VE.skip hnp⟩;have cpl:(jF bs (si:Int))<0:=bK Qfm.symm;have hnp:¬ld (jF bs) zC (si:Int):=fun h=>by have:=h.1;omega
 refine ae 10<|au<|fY<|fP 9<|fQ<|cN<|dw ((q:Int)+1)<|ae 1<|au ?_;intro aC fr;exact⟨(bO bs (bi:Int)).length-(q+1),oM,q+1,to,rfl,fr.kp [4,5,6,10,11,12,14,15,60,61,62,69,70,71],qY,oM,by rw[jH AO];exact VE.skip hnp⟩;have ck:(k:Int)<((aI bs).length:Int):=bK Rc.symm;refine fY<|bN<|aU<|cC 3<|aG ?_;obtain⟨bi,Fi,Nf,hpb⟩:=Em (bs:=bs) (k:=k) oM;refine ae 1 ?_;obtain⟨Qfq,rfl⟩:=dJ (H0.get 1 rfl) oM;refine eM (aZ Qfq) ((aI bs).length) 1 (k:Int)<|bB (aN (aZ Qfq) (k:Int) 1) _ (g9 (aF (H0.get 1 rfl)) rfl Fi)<|ae 2<|au<|cN<|bB (aZ jg) _ (aa (H0.get 3 rfl) rfl)<|ae 2<|eM (aZ b8) bs.length 1 (bi:Int)<|wC H0 2 (aN (aZ b8) (bi:Int) 1) (((bi:Int)).toNat*1) (nV k) rfl rfl oM fun Qb2 vV=> ?_
 replace vV:=vV.nf;refine au<|cN<|dw ((k:Int)+1)<|ae 1<|au ?_;intro aC fr;exact⟨(aI bs).length-(k+1),oM,k+1,m3.set bi (k:Int),rfl,fr.kp [1,4,5,6,40,41,42],(vV.cast (by rw[ints_set];simp only[cZ,eE])),oM,Gr h3 Fi Nf⟩;have ci:(i:Int)<(bs.length:Int):=bK hBi.symm;refine fY<|bN<|aU<|cC 1<|aW<|cU [1,4,5,6,7,29,30] ?_;intro aC fr;refine K3 (aP [eS (sM b8) bs.length bs.length,.bb (nV i),eS (sM gY) bs.length bs.length,.bb (nV i),eA (aZ b8) (i:Int) 1,.bb undef,eA (aZ gY) (i:Int) 1,.bb undef]) (fun ls vs w_=>match ls 7 with|true=>(Mem aX w w_ [.aL b1 35 [nm,wk,pa,va,vS A bs.length c],.row 3 1 A4 ((aI bs).length) c5 (ints (aI bs)),.row 3 1 (sM b8) bs.length bs.length ((ints m1).set (((i:Int)).toNat*1) (vI (-1))),.aL jg 40 [vS (sM b8) bs.length bs.length],.row 3 1 (sM gY) bs.length bs.length ((ints m2).set (((i:Int)).toNat*1) (vI (-1))),.aL wL 40 [vS (sM gY) bs.length bs.length]])|false=>(match ls 5 with|true=>(Mem aX w w_ [.aL b1 35 [nm,wk,pa,va,vS A bs.length c],.row 3 1 A4 ((aI bs).length) c5 (ints (aI bs)),.row 3 1 (sM b8) bs.length bs.length ((ints m1).set (((i:Int)).toNat*1) (vI (-1))),.aL jg 40 [vS (sM b8) bs.length bs.length],.row 3 1 (sM gY) bs.length bs.length (ints m2),.aL wL 40 [vS (sM gY) bs.length bs.length]])|false=>(Mem aX w w_ [.aL b1 35 [nm,wk,pa,va,vS A bs.length c],.row 3 1 A4 ((aI bs).length) c5 (ints (aI bs)),.row 3 1 (sM b8) bs.length bs.length (ints m1),.aL jg 40 [vS (sM b8) bs.length bs.length],.row 3 1 (sM gY) bs.length bs.length (ints m2),.aL wL 40 [vS (sM gY) bs.length bs.length]]))) fr (gH (.bb (.bb (.bb (.bb (.bb (.bb (.bb (.bb .nil))))))))) (mT.an (Mem.drew _)) (lk lz (AQ (aZ jg) (vS (sM b8) bs.length bs.length) (fun _ _ _ _ h=>h) ?_) (j9 fun _ _ _ _ h=>h) (AQ (aZ wL) (vS (sM gY) bs.length bs.length) (fun _ _ _ _ h=>h) ?_) (j9 fun _ _ _ _ h=>h) (HU (aZ b8) bs.length 1 (i:Int) fun _ _ _ _ h=>h) ?_ (HU (aZ gY) bs.length 1 (i:Int) fun _ _ _ _ h=>h) ?_) ?_;intro w_ ls vs hJ cR cS hp;have f5:ls 5=false:=bw cS cR (n:=8) kR;have f7:ls 7=false:=bw cS cR (n:=8) kR;have bJ:=hJ;simp only[f5,f7]at bJ;exact(aa (bJ.get 3 rfl) rfl);intro w_ ls vs hJ cR cS hp;have f7:ls 7=false:=bw cS cR (n:=8) kR;have bJ:=hJ;simp only[f7]at bJ;cases fu:ls 5;simp only[fu]at bJ;exact(aa (bJ.get 5 rfl) rfl);simp only[fu]at bJ;exact(aa (bJ.get 5 rfl) rfl);intro gd w_ ls vs eg hJ cR cS hp hF;refine mO (g0:=none) ?_;replace hF:Fr gd 112 [(37,(vP (aN (aZ b8) (i:Int) 1)))]:=hF.kp [37];have f5:ls 5=false:=cR;have f7:ls 7=false:=bw cS cR (n:=8) kR;have bJ:=hJ;simp only[f5,f7]at bJ;refine fg (kR:ay _ 0=some (none,.store 3 (.tmp 37) (.const (vI (-1))),0,none)) hF kR kR (k':=1) rfl (ad:=(aZ b8)) (j:=(((i:Int)).toNat*1)) (e:=3) (size:=1) (n:=bs.length) (cap:=bs.length) (v:=(vI (-1))) (xs:=(ints m1)) (ad':=(aN (aZ b8) (i:Int) 1)) kR rfl kR kR rfl bJ 2 rfl oM ?_;intro w2 fv _ a2 ea _;refine bl kR ?_;refine bL (d:=none) kR ea rfl ?_;show match ls 7 with|true=>_|false=>(_)
 rw[f7];exact fv;intro gd w_ ls vs eg hJ cR cS hp hF;refine mO (g0:=none) ?_;replace hF:Fr gd 112 [(38,(vP (aN (aZ gY) (i:Int) 1)))]:=hF.kp [38];have f5:ls 5=true:=bI cS (fun k hk=>(hp k hk).1) (n:=8) kR;have f7:ls 7=false:=cR;have bJ:=hJ;simp only[f5,f7]at bJ;refine fg (kR:ay _ 0=some (none,.store 3 (.tmp 38) (.const (vI (-1))),0,none)) hF kR kR (k':=1) rfl (ad:=(aZ gY)) (j:=(((i:Int)).toNat*1)) (e:=3) (size:=1) (n:=bs.length) (cap:=bs.length) (v:=(vI (-1))) (xs:=(ints m2)) (ad':=(aN (aZ gY) (i:Int) 1)) kR rfl kR kR rfl bJ 4 rfl oM ?_;intro w2 fv _ a2 ea _;refine bl kR ?_;refine bL (d:=none) kR ea rfl ?_;show _;exact fv;intro aC Qfr ls vs dT Gt hv fr;simp only[show ls 7=true from dT 7 dQ]at Gt;revert aC;refine bQ [(1,pT b1 0),(4,vS A4 ((aI bs).length) c5),(5,pT jg 0),(6,pT wL 0),(29,(vI (bs.length:Int))),(30,nV i)] ?_;clear dT hv fr aC mT;clear vs ls;refine cN<|dw ((i:Int)+1)<|ae 1<|au ?_;intro aC fr;exact⟨bs.length-(i+1),oM,i+1,m1.set i (-1),m2.set i (-1),rfl,fr.kp [1,4,5,6,29,30],(Gt.cast (by rw[ints_set,ints_set];simp only[cZ,eE])),oM,CC h1 oM,CC h2 oM⟩
end Go.Proofs.YtjekgaabcigphaaGreat
namespace Go.Proofs.YtjekgaabcigphaaGreat
open Go.Mor
theorem Xj(w:World):Calls Tryz.prog 114 #[vB true] w (ff fun v w'=>v=vI 1∧Mem aX w w' []):=by
 refine gF 4 [vB true] Tryz.func114 ?_;have hM:=Mem.init w;refine aW<|aU<|aW<|fY<|aW<|bG<|cK (vI 1) ?_;exact⟨rfl,hM⟩
theorem Xk(w:World):Calls Tryz.prog 114 #[vB false] w (ff fun v w'=>v=vI 0∧Mem aX w w' []):=by
 refine gF 4 [vB false] Tryz.func114 ?_;have hM:=Mem.init w;refine aW<|aU<|aW<|gE<|bN<|aW<|bG<|cK (vI 0) ?_;exact⟨rfl,hM⟩
theorem nr(b:Bool)(w:World):Calls Tryz.prog 114 #[.bool b] w (ff fun v w'=>v=vI (dg b)∧Mem aX w w' []):=by
 cases b
 ·exact Xk w
 ·exact Xj w
theorem Lk(b:Int)(w:World):Calls Tryz.prog 113 #[vI b] w (ff fun v w'=>v= .int .u64 (tW b)∧Mem aX w w' []):=by
 refine gF 6 [vI b] Tryz.func113 ?_;have hM:=Mem.init w;refine aW<|aG<|ae 1<|zcv (hz:=rfl) b .u64 (IntKind.u64.wrap b)<|HW .u64 (tW b) 63<|ae 1<|au<|bG<|cK (.int .u64 (tW b)) ?_;exact⟨rfl,hM⟩
theorem Er(b:Int):0≤tW b:=by
 unfold tW;have h:∀i:Int,0≤IntKind.u64.wrap i:=fun i=>by unfold IntKind.wrap;simp[IntKind.signed,IntKind.bits];omega
 exact h _
theorem zD(op a b:Int)(w:World):Calls Tryz.prog 112 #[vI op,vI a,vI b] w (ff fun v w'=>v= .tuple #[vI (kL op a b).1,vI (kL op a b).2]∧Mem aX w w' []):=by
 refine gF 32 [vI op,vI a,vI b] Tryz.func112 ?_;have hM:=Mem.init w;refine aW<|aU<|cC 0<|aW<|eF ((b:Int)==0) ((b:Int)=0) (by simp only[ax]) (fun c1=> ?_) (fun c1=> ?_);refine aW<|bG<|da<|jt (vI 0) (vI 3) ?_;refine⟨?_,hM⟩;have e_:kL op a b=(0,3):=by first|exact Ci oM|exact Cj oM oM|exact Ck oM oM|exact Cl oM oM oM|exact Cm oM oM oM
 rw[e_];refine aG<|ae 3 ?_;obtain⟨B2,hB2⟩:∃B:Bool,B=((b:Int)==(-1)):=⟨_,rfl⟩;refine bQ [(0,vI op),(1,vI a),(2,vI b),(14,(vB ((b:Int)==(-1))))] ?_;rw[←hB2];have iB2:B2=true↔((b:Int)=(-1)):=by rw[hB2];simp only[ax]
 clear hB2;intro aC fr;refine cE 4 7 [11,17] fr (news:=[(11,(vB (B2&&((op:Int)==4)))),(17,(vB (B2&&((op:Int)==4))))]) (by cases B2<;>kernel_rfl) ?_;intro aC fr;revert aC;refine au<|eF (B2&&((op:Int)==4)) (((b:Int)=(-1))∧((op:Int)=4)) (by simp only[bo,ax,iB2]) (fun c7=> ?_) (fun c7=> ?_);refine aG<|ae 1<|zui .neg a .i64 (IntKind.i64.wrap (0-a))<|ae 2<|au<|bG<|da<|jt (vI (IntKind.i64.wrap (0-a))) (vI 0) ?_;refine⟨?_,hM⟩;have e_:kL op a b=(IntKind.i64.wrap (0-a),0):=by first|exact Ci oM|exact Cj oM oM|exact Ck oM oM|exact Cl oM oM oM|exact Cm oM oM oM
 rw[e_];refine aW<|eF ((b:Int)==(-1)) ((b:Int)=(-1)) (by simp only[ax]) (fun c8=> ?_) (fun c8=> ?_);refine aW<|bG<|da<|jt (vI 0) (vI 0) ?_;refine⟨?_,hM⟩;have e_:kL op a b=(0,0):=by first|exact Ci oM|exact Cj oM oM|exact Ck oM oM|exact Cl oM oM oM|exact Cm oM oM oM
 rw[e_];refine aW<|eF ((op:Int)==4) ((op:Int)=4) (by simp only[ax]) (fun c9=> ?_) (fun c9=> ?_);refine aG<|ae 2<|zbd .i64 (IntKind.i64.wrap (a.tdiv b)) b (by assumption)<|ae 2<|au<|bG<|da<|jt (vI (IntKind.i64.wrap (a.tdiv b))) (vI 0) ?_;refine⟨?_,hM⟩;have e_:kL op a b=(IntKind.i64.wrap (a.tdiv b),0):=by first|exact Ci oM|exact Cj oM oM|exact Ck oM oM|exact Cl oM oM oM|exact Cm oM oM oM
 rw[e_];refine bN<|aG<|ae 2<|zbd .i64 (a.tmod b) b (by assumption)<|ae 2<|au<|bG<|jt (vI (a.tmod b)) (vI 0) ?_;refine⟨?_,hM⟩;have e_:kL op a b=(a.tmod b,0):=by first|exact Ci oM|exact Cj oM oM|exact Ck oM oM|exact Cl oM oM oM|exact Cm oM oM oM
 rw[e_]
set_option maxHeartbeats 2000000 in
theorem Qaj(op a b:Int)(w:World):Calls Tryz.prog 95 #[vI op,vI a,vI b] w (ff fun v w'=>v= .tuple #[vI (cA op a b).1,vI (cA op a b).2]∧Mem aX w w' []):=by
 refine gF 96 [vI op,vI a,vI b] Tryz.func95 ?_;have hM:=Mem.init w;refine aW<|aU<|aW<|cC 0<|aW<|eF ((op:Int)==1) ((op:Int)=1) (by simp only[ax]) (fun c1=> ?_) (fun c1=> ?_);refine aG<|ae 2<|HW .i64 (IntKind.i64.wrap (a+b)) b<|ae 2<|au<|bG<|da<|jt (vI (IntKind.i64.wrap (a+b))) (vI 0) ?_;refine⟨?_,hM⟩;have e_:cA op a b=(IntKind.i64.wrap (a+b),0):=by exact bo1
 rw[e_];refine aW<|eF ((op:Int)==2) ((op:Int)=2) (by simp only[ax]) (fun c2=> ?_) (fun c2=> ?_);refine aG<|ae 2<|HW .i64 (IntKind.i64.wrap (a-b)) b<|ae 2<|au<|bG<|da<|jt (vI (IntKind.i64.wrap (a-b))) (vI 0) ?_;refine⟨?_,hM⟩;have e_:cA op a b=(IntKind.i64.wrap (a-b),0):=by exact bo2
 rw[e_];refine aW<|eF ((op:Int)==3) ((op:Int)=3) (by simp only[ax]) (fun c3=> ?_) (fun c3=> ?_);refine aG<|ae 2<|HW .i64 (IntKind.i64.wrap (a*b)) b<|ae 2<|au<|bG<|da<|jt (vI (IntKind.i64.wrap (a*b))) (vI 0) ?_;refine⟨?_,hM⟩;have e_:cA op a b=(IntKind.i64.wrap (a*b),0):=by exact bo3
 rw[e_];refine aU<|aW ?_;obtain⟨B4,pL⟩:∃B:Bool,B=((op:Int)==4):=⟨_,rfl⟩;refine bQ [(0,vI op),(1,vI a),(2,vI b),(8,vI op),(24,(vB ((op:Int)==4)))] ?_;rw[←pL];have qi:B4=true↔((op:Int)=4):=by rw[pL];simp only[ax]
 clear pL;cases B4;have c4:¬((op:Int)=4):=jv qi.2;refine gE<|x8<|eF ((op:Int)==5) ((op:Int)=5) (by simp only[ax]) (fun c5=> ?_) (fun c5=> ?_);refine aG<|ae 3<|eb (zD op a b w) ?_;rintro _ w6 ⟨rfl,M7x⟩;have M7:=hM.cl M7x;clear M7x hM;refine ae 4<|au<|bG<|da<|jt (vI ((kL op a b).1)) (vI ((kL op a b).2)) ?_;refine⟨?_,M7⟩;have e_:cA op a b=((kL op a b).1,(kL op a b).2):=by first|exact qO oM|exact iB oM
 rw[e_];refine aW<|eF ((op:Int)==6) ((op:Int)=6) (by simp only[ax]) (fun c8=> ?_) (fun c8=> ?_);refine aG<|ae 2<|HW .i64 (tV a b) b<|ae 2<|au<|bG<|da<|jt (vI (tV a b)) (vI 0) ?_;refine⟨?_,hM⟩;have e_:cA op a b=(tV a b,0):=by exact bo6
 rw[e_];refine aW<|eF ((op:Int)==7) ((op:Int)=7) (by simp only[ax]) (fun c9=> ?_) (fun c9=> ?_);refine aG<|ae 2<|HW .i64 (bOr a b) b<|ae 2<|au<|bG<|da<|jt (vI (bOr a b)) (vI 0) ?_;refine⟨?_,hM⟩;have e_:cA op a b=(bOr a b,0):=by exact bo7
 rw[e_];refine aW<|eF ((op:Int)==8) ((op:Int)=8) (by simp only[ax]) (fun yh=> ?_) (fun yh=> ?_);refine aG<|ae 2<|HW .i64 (r7 a b) b<|ae 2<|au<|bG<|da<|jt (vI (r7 a b)) (vI 0) ?_;refine⟨?_,hM⟩;have e_:cA op a b=(r7 a b,0):=by exact bo8
 rw[e_];refine aW<|eF ((op:Int)==9) ((op:Int)=9) (by simp only[ax]) (fun wM=> ?_) (fun wM=> ?_);refine aG<|ae 2<|eb (Lk b w) ?_;rintro _ I4 ⟨rfl,qj⟩;have mQ:=hM.cl qj;clear qj hM;refine zbs .i64 .u64 (F2 a (tW b)) (tW b) (Er b)<|ae 2<|au<|bG<|da<|jt (vI (F2 a (tW b))) (vI 0) ?_;refine⟨?_,mQ⟩;have e_:cA op a b=(F2 a (tW b),0):=by exact bo9
 rw[e_];refine aW<|eF ((op:Int)==10) ((op:Int)=10) (by simp only[ax]) (fun H3=> ?_) (fun H3=> ?_);refine aG<|ae 2<|eb (Lk b w) ?_;rintro _ Vp ⟨rfl,WN⟩;have nh:=hM.cl WN;clear WN hM;refine zbs .i64 .u64 (DV a (tW b)) (tW b) (Er b)<|ae 2<|au<|bG<|da<|jt (vI (DV a (tW b))) (vI 0) ?_;refine⟨?_,nh⟩;have e_:cA op a b=(DV a (tW b),0):=by exact QeH
 rw[e_];refine aW<|eF ((op:Int)==11) ((op:Int)=11) (by simp only[ax]) (fun Ll=> ?_) (fun Ll=> ?_);refine aG<|ae 3<|eb (nr ((a:Int)==b) w) ?_;rintro _ I5 ⟨rfl,Gu⟩;have kA:=hM.cl Gu;clear Gu hM;refine ae 2<|au<|bG<|da<|jt (vI (dg ((a:Int)==b))) (vI 0) ?_;refine⟨?_,kA⟩;have e_:cA op a b=(dg ((a:Int)==b),0):=by exact QeI
 rw[e_];refine aW<|eF ((op:Int)==12) ((op:Int)=12) (by simp only[ax]) (fun Fq=> ?_) (fun Fq=> ?_);refine aG<|ae 3<|eb (nr ((a:Int) !=b) w) ?_;rintro _ Vx ⟨rfl,Xa⟩;have lR:=hM.cl Xa;clear Xa hM;refine ae 2<|au<|bG<|da<|jt (vI (dg ((a:Int) !=b))) (vI 0) ?_;refine⟨?_,lR⟩;have e_:cA op a b=(dg ((a:Int) !=b),0):=by exact QeJ
 rw[e_];refine aW<|eF ((op:Int)==13) ((op:Int)=13) (by simp only[ax]) (fun c23=> ?_) (fun c23=> ?_);refine aG<|ae 3<|eb (nr (decide ((a:Int)<b)) w) ?_;rintro _ w24 ⟨rfl,WL⟩;have AV:=hM.cl WL;clear WL hM;refine ae 2<|au<|bG<|da<|jt (vI (dg (decide ((a:Int)<b)))) (vI 0) ?_;refine⟨?_,AV⟩;have e_:cA op a b=(dg (decide ((a:Int)<b)),0):=by exact QeK
 rw[e_];refine aW<|eF ((op:Int)==14) ((op:Int)=14) (by simp only[ax]) (fun Jj=> ?_) (fun Jj=> ?_);refine aG<|ae 3<|eb (nr (decide ((a:Int)≤b)) w) ?_;rintro _ Lm ⟨rfl,Jk⟩;have pd:=hM.cl Jk;clear Jk hM;refine cU [83]<|ae 2<|au<|bG<|da<|jt (vI (dg (decide ((a:Int)≤b)))) (vI 0) ?_;refine⟨?_,pd⟩;have e_:cA op a b=(dg (decide ((a:Int)≤b)),0):=by exact QeL
 rw[e_];refine aW<|eF ((op:Int)==15) ((op:Int)=15) (by simp only[ax]) (fun Fm=> ?_) (fun Fm=> ?_);refine aG<|ae 3<|eb (nr (decide ((a:Int)>b)) w) ?_;rintro _ VC ⟨rfl,Es⟩;have nL:=hM.cl Es;clear Es hM;refine cU [89]<|ae 2<|au<|bG<|da<|jt (vI (dg (decide ((a:Int)>b)))) (vI 0) ?_;refine⟨?_,nL⟩;have e_:cA op a b=(dg (decide ((a:Int)>b)),0):=by exact QeM
 rw[e_];refine aW<|eF ((op:Int)==16) ((op:Int)=16) (by simp only[ax]) (fun wJ=> ?_) (fun wJ=> ?_);refine aG<|ae 3<|eb (nr (decide ((a:Int)≥b)) w) ?_;rintro _ WM ⟨rfl,Ec⟩;have AW:=hM.cl Ec;clear Ec hM;refine cU [95]<|ae 2<|au<|bG<|da<|jt (vI (dg (decide ((a:Int)≥b)))) (vI 0) ?_;refine⟨?_,AW⟩;have e_:cA op a b=(dg (decide ((a:Int)≥b)),0):=by exact QeN
 rw[e_];refine bN<|aW<|bG<|jt (vI 0) (vI (-1)) ?_;refine⟨?_,hM⟩;have e_:cA op a b=(0,-1):=by first|exact qO oM|exact iB oM
 rw[e_];have c4:((op:Int)=4):=qi.1 rfl;refine fY<|bN<|fY<|aG<|ae 3<|eb (zD op a b w) ?_;rintro _ w35 ⟨rfl,Qfs⟩;have rO:=hM.cl Qfs;clear Qfs hM;refine ae 4<|au<|bG<|da<|jt (vI ((kL op a b).1)) (vI ((kL op a b).2)) ?_;refine⟨?_,rO⟩;have e_:cA op a b=((kL op a b).1,(kL op a b).2):=by first|exact qO oM|exact iB oM
 rw[e_]
theorem Qft(op a:Int)(w:World):Calls Tryz.prog 96 #[vI op,vI a] w (ff fun v w'=>v= .tuple #[vI (oL op a).1,vI (oL op a).2]∧Mem aX w w' []):=by
 refine gF 20 [vI op,vI a] Tryz.func96 ?_;have hM:=Mem.init w;refine aW<|aU<|aW<|cC 0<|aW<|eF ((op:Int)==1) ((op:Int)=1) (by simp only[ax]) (fun c1=> ?_) (fun c1=> ?_);refine aG<|ae 1<|zui .neg a .i64 (IntKind.i64.wrap (0-a))<|ae 2<|au<|bG<|da<|jt (vI (IntKind.i64.wrap (0-a))) (vI 0) ?_;refine⟨?_,hM⟩;have e_:oL op a=(IntKind.i64.wrap (0-a),0):=by first|exact uo1|exact uo2|exact uo3|exact tX (by assumption) (by assumption) (by assumption)
 rw[e_];refine aW<|eF ((op:Int)==2) ((op:Int)=2) (by simp only[ax]) (fun c2=> ?_) (fun c2=> ?_);refine aG<|ae 1<|zui .xor a .i64 (r7 (-1) a)<|ae 2<|au<|bG<|da<|jt (vI (r7 (-1) a)) (vI 0) ?_;refine⟨?_,hM⟩;have e_:oL op a=(r7 (-1) a,0):=by first|exact uo1|exact uo2|exact uo3|exact tX (by assumption) (by assumption) (by assumption)
 rw[e_];refine aW<|eF ((op:Int)==3) ((op:Int)=3) (by simp only[ax]) (fun c3=> ?_) (fun c3=> ?_);refine aG<|ae 2<|eb (nr ((a:Int)==0) w) ?_;rintro _ w4 ⟨rfl,Gv⟩;have M5:=hM.cl Gv;clear Gv hM;refine ae 2<|au<|bG<|da<|jt (vI (dg ((a:Int)==0))) (vI 0) ?_;refine⟨?_,M5⟩;have e_:oL op a=(dg ((a:Int)==0),0):=by first|exact uo1|exact uo2|exact uo3|exact tX (by assumption) (by assumption) (by assumption)
 rw[e_];refine bN<|aW<|bG<|jt (vI 0) (vI (-1)) ?_;refine⟨?_,hM⟩;have e_:oL op a=(0,-1):=by first|exact uo1|exact uo2|exact uo3|exact tX (by assumption) (by assumption) (by assumption)
 rw[e_]
end Go.Proofs.YtjekgaabcigphaaGreat
namespace Go.Mor
open Go.RowKit
section
variable {P : Program} {C : TC} {s s2 : cV} {oA : Option Addr} {oc : Nat} {w : World} {fn : FuncId} {args : List Value} {g : ed Int} {x k c : Int}
theorem Gw{E:Env0}{s s':cV}{u:Unit}(h:eN E s= .ok u s'):s'.steps=s.steps+1∧s'.opened=s.opened:=by
 unfold eN at h;split at h
 ·cases h
 ·injection h with _ h;rw[←h];exact⟨rfl,rfl⟩
end
end Go.Mor
