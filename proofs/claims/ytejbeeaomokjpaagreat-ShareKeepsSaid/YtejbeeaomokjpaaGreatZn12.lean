/-
  Texts of the proof, part 12.
-/
import Derived.Test.YtejbeeaomokjpaaGreatZn11
import Derived.Test.YtejbeeaomokjpaaGreatRows
set_option maxRecDepth 10000
namespace Go.Proofs.YtejbeeaomokjpaaGreat
open Go.Mor
theorem QeL(l:af)(k:Int)(A:ar)(c:Nat)(w:World)(hm:l.length≤1000000)(hA:RO bq w (.rd A (ints l))):Calls Tryz.prog 61 #[vS A l.length c,vI k] w (ez fun v w'=>v=vB (l.contains k)∧Mem bq w w' []):=by
 refine fv 18 [vS A l.length c,vI k] Tryz.func61 ?_;have hM:=Mem.init w;refine aX<|ba<|aX<|cr 0 ?_;intro aC fr;refine fk (fun n_ a_ w_=>∃(j:Nat),n_=l.length-j∧Fr a_ 18 [(0,vS A l.length c),(1,vI k),(5,nV j)]∧Mem bq w w_ []∧(j≤l.length)∧((l.take j).contains k=false)) (n:=_) ⟨0,rfl,fr.kp [0,1,5],hM,oM,sI⟩ ?_;clear fr aC hM;rintro n aC w3 ⟨j,rfl,fr,M4,hj,hn⟩;revert aC;refine ba<|aI<|ah 3<|jP (decide ((j:Int)<(l.length:Int))) fun B7 Fj=> ?_
 refine ay ?_;cases B7;have c7:¬((j:Int)<(l.length:Int)):=QnR Fj.symm;refine fT<|eW 0<|eX<|aX<|bL<|cv (vB false) ?_;exact⟨by rw[Qbx hn oM],M4⟩;have c7:(j:Int)<(l.length:Int):=QlT Fj.symm;refine fm<|bP<|ba<|cr 1<|aI<|ah 2 ?_;obtain⟨pN,rfl⟩:=GB (M4.ro hA) oM;refine ej pN l.length 1 (j:Int)<|bt (aN pN (j:Int) 1) _ (dZ (M4.ro hA) rfl oM oM)<|ah 1<|jP ((l.getD (j:Int).toNat 0)==k) fun Qd rK=> ?_
 refine ay ?_;cases Qd;have yk:¬((l.getD (j:Int).toNat 0)=k):=L3 rK;refine fT<|bP<|cG<|ah 1<|cZ ((j:Int)+1)<|ah 1<|ay ?_;intro aC fr;exact⟨l.length-(j+1),oM,j+1,rfl,fr.kp [0,1,5],M4,oM,PS hn yk oM⟩;have yk:(l.getD (j:Int).toNat 0)=k:=Qco.1 rK.symm;refine fm<|aX<|bL<|cJ<|cJ<|cv (vB true) ?_;exact⟨by rw[VJ yk oM],M4⟩
theorem yl(nm wk pa va:Value)(A:ar)(c:Nat)(bs:List SB)(b:Int)(w:World)(_hm:bs.length≤1000000)(hA:RO bq w (.blocks A bs)):Calls Tryz.prog 60 #[(.agg #[nm,wk,pa,va,vS A bs.length c]),vI b] w (ez fun v w'=>∃A' c',v=vS A' (tg bs b).length c'∧Mem bq w w' [.row 3 1 A' (tg bs b).length c' (ints (tg bs b))]):=by
 refine fv 74 [(.agg #[nm,wk,pa,va,vS A bs.length c]),vI b] Tryz.func60 ?_;have hM:=Mem.init w;refine aI<|ou hM 30 (.agg #[nm,wk,pa,va,vS A bs.length c]) [nm,wk,pa,va,vS A bs.length c] fun b1 w2 jU M3=> ?_
 replace M3:=M3.nf;clear hM;refine ah 1<|ay<|ba<|aI<|ah 1<|jP (decide (b<0)) fun Blo Fk=> ?_
 refine ah 1 ?_;cases Blo;have clo:¬(b<0):=QnR Fk.symm;refine ah 2<|bt (ao b1 4) _ (ae (M3.get 0 rfl) rfl)<|ah 1<|jP (decide (b≥(bs.length:Int))) fun Bhi Il=> ?_
 refine ah 1<|ay ?_;cases Bhi;have chi:¬(b≥(bs.length:Int)):=QnR Il.symm;refine fT<|bP<|aI ?_;obtain⟨x,hx⟩:=PR (l:=bs) (i:=b) oM oM;refine ah 1<|bt (ao b1 4) _ (ae (M3.get 0 rfl) rfl)<|ah 1 ?_;obtain⟨ym,rfl⟩:=ek (M3.ro hA) hx;refine ej ym bs.length 6 b<|ga (aN ym (b) 6) [vS x.pA x.pn x.pc,vS x.iA x.ik x.ic,vI x.e,vI x.v,vI x.a,vI x.b] (sd (M3.ro hA) rfl hx)<|na M3 49 [an,an,vI 0,vI 0,vI 0,vI 0] fun b5 w6 hb5 M7=> ?_
 replace M7:=M7.nf;refine ng M7 1 [vS x.pA x.pn x.pc,vS x.iA x.ik x.ic,vI x.e,vI x.v,vI x.a,vI x.b] rfl fun w8 M9=> ?_
 replace M9:=M9.nf;refine da [2,5]<|ay<|aX<|ba ?_;intro aC fr;refine AZ (fun a_ w_=>Fr a_ 74 [(2,pT b1 0),(5,pT b5 0),(6,an)]∧Mem bq w w_ [.aB b1 30 [nm,wk,pa,va,vS (some ym) bs.length c],.aB b5 49 [vS x.pA x.pn x.pc,vS x.iA x.ik x.ic,vI x.e,vI x.v,vI x.a,vI x.b]]∧(x.e=0∨x.e=1)) ?_ ?_;clear fr aC M9;rintro aC V6 ⟨fr,oB,he⟩;revert aC;refine ba ?_;intro aC fr;refine AZ (fun a_ w_=>∃(A1:ar) (n1:Nat) (c1:Nat) (l1:af),Fr a_ 74 [(2,pT b1 0),(5,pT b5 0),(6,vS A1 n1 c1)]∧Mem bq w w_ [.aB b1 30 [nm,wk,pa,va,vS (some ym) bs.length c],.aB b5 49 [vS x.pA x.pn x.pc,vS x.iA x.ik x.ic,vI x.e,vI x.v,vI x.a,vI x.b],.row 3 1 A1 n1 c1 (ints l1)]∧(l1=UW bs.length x)∧(n1=l1.length)) ?_ ?_;clear fr aC oB;rintro aC UA ⟨A1,n1,c1,l1,fr,mR,qe,Di⟩;revert aC;refine ba ?_;intro aC fr;refine AZ (fun a_ w_=>∃(A2:ar) (n2:Nat) (c2:Nat) (l2:af),Fr a_ 74 [(6,vS A2 n2 c2)]∧Mem bq w w_ [.aB b1 30 [nm,wk,pa,va,vS (some ym) bs.length c],.aB b5 49 [vS x.pA x.pn x.pc,vS x.iA x.ik x.ic,vI x.e,vI x.v,vI x.a,vI x.b],.row 3 1 A2 n2 c2 (ints l2)]∧(l2=UW bs.length x++Lv bs.length x)∧(n2=l2.length)) ?_ ?_;clear fr aC mR;rintro aC w24 ⟨A2,n2,c2,l2,fr,L8,BA,KD⟩;revert aC;refine aX<|bL<|cv (vS A2 n2 c2) ?_;exact oi (L8.pick [false,false,true] rfl) (by rw[BA,rt_eq he,x8 oM hx]) KD;revert aC;refine aI<|ah 1<|bt (ao b5 2) _ (ae (mR.get 1 rfl) rfl)<|jP (x.e==1) fun Bf1 QeM=> ?_
 refine ah 1 ?_;cases Bf1;have cf1:¬(x.e=1):=L3 QeM;refine ah 19<|ay<|fT<|bP ?_;intro aC fr;exact⟨A1,n1,c1,l1,fr.kp [6],mR,by rw[C4 oM,QoZ];exact qe,Di⟩;have cf1:x.e=1:=Qco.1 QeM.symm;refine ah 1<|bt (ao b5 5) _ (ae (mR.get 1 rfl) rfl)<|ah 1<|bt (ao b5 4) _ (ae (mR.get 1 rfl) rfl)<|jP (x.b !=x.a) fun Bab Dj=> ?_
 refine ah 2 ?_;cases Bab;have N3:¬(x.b≠x.a):=LZ Dj;refine ah 12<|ay<|fT<|bP ?_;intro aC fr;exact⟨A1,n1,c1,l1,fr.kp [6],mR,by rw[C4 oM,QoZ];exact qe,Di⟩;have N3:x.b≠x.a:=Qoo.1 Dj.symm;refine ah 1<|bt (ao b5 5) _ (ae (mR.get 1 rfl) rfl)<|jP (decide (x.b≥0)) fun Bb0 QeN=> ?_
 refine ah 2 ?_;cases Bb0;have cb0:¬(x.b≥0):=QnR QeN.symm;refine ah 7<|ay<|fT<|bP ?_;intro aC fr;exact⟨A1,n1,c1,l1,fr.kp [6],mR,by rw[C4 oM,QoZ];exact qe,Di⟩;have cb0:x.b≥0:=QlT QeN.symm;refine ah 1<|bt (ao b5 5) _ (ae (mR.get 1 rfl) rfl)<|ah 1<|bt (ao b1 4) _ (ae (mR.get 0 rfl) rfl)<|ah 1<|jP (decide (x.b<(bs.length:Int))) fun Bb1 QeO=> ?_
 refine ah 1<|ay ?_;cases Bb1;have cb1:¬(x.b<(bs.length:Int)):=QnR QeO.symm;refine fT<|bP ?_;intro aC fr;exact⟨A1,n1,c1,l1,fr.kp [6],mR,by rw[C4 oM,QoZ];exact qe,Di⟩;have cb1:x.b<(bs.length:Int):=QlT QeO.symm;refine fm<|cG<|ah 2<|bt (ao b5 5) _ (ae (mR.get 1 rfl) rfl)<|da [68,70] ?_;intro aC fr;refine nX 71 43 1 #[(0,.tmp 70)] 43 fr (e:=3) (size:=1) (zs:=[vI 0]) (vs:=[(0,vI x.b)]) (cs:=[vI x.b]) mR ?_;intro b36 w37 hb36 _ vw _ aC ea fr;clear ea;replace vw:=vw.nf;refine wz 72 (.tmp 68) (.tmp 71) 43 43 fr (e:=3) (size:=1) (bytes:=8) (z:=(vI 0)) (A:=A1) (B:=(sM b36)) (n:=n1) (cap:=c1) (m:=1) (cap':=1) (xs:=(ints l1)) (news:=[vI x.b]) vw 2 rfl (aD (vw.get 3 rfl)) rfl (by simp[Value.oneCell']) (by have:=Kj bs.length x;rw[qe]at Di;omega) (by have:=Kj bs.length x;rw[qe]at Di;simp only[maxLen];omega) ?_;intro A43 Qe w45 wC _ aC ea fr;clear ea;replace wC:=wC.nf;have s6:=wC.od [2,2,2] 3;revert aC;refine ah 1<|ay ?_;intro aC fr;exact⟨A43,(n1+1),Qe,l1++[x.b],fr.kp [6],s6.cast (by rw[fG];rfl),by rw[VO oM oM oM oM,qe],by simp[Di]⟩;revert aC;refine aI<|ah 1<|bt (ao b5 4) _ (ae (oB.get 1 rfl) rfl)<|jP (decide (x.a≥0)) fun Ba0 QeP=> ?_
 refine ah 1 ?_;cases Ba0;have ca0:¬(x.a≥0):=QnR QeP.symm;refine ah 7<|ay<|fT<|bP ?_;intro aC fr;exact⟨none,0,0,[],fr.kp [2,5,6],oB.call (Mem.dY _ 3 1),(PU oM).symm,rfl⟩;have ca0:x.a≥0:=QlT QeP.symm;refine ah 1<|bt (ao b5 4) _ (ae (oB.get 1 rfl) rfl)<|ah 1<|bt (ao b1 4) _ (ae (oB.get 0 rfl) rfl)<|ah 1<|jP (decide (x.a<(bs.length:Int))) fun Ba1 QeQ=> ?_
 refine ah 1<|ay ?_;cases Ba1;have ca1:¬(x.a<(bs.length:Int)):=QnR QeQ.symm;refine fT<|bP ?_;intro aC fr;exact⟨none,0,0,[],fr.kp [2,5,6],oB.call (Mem.dY _ 3 1),(PU oM).symm,rfl⟩;have ca1:x.a<(bs.length:Int):=QlT QeQ.symm;refine fm<|cG<|ah 2<|bt (ao b5 4) _ (ae (oB.get 1 rfl) rfl) ?_;intro aC fr;refine nX 43 43 1 #[(0,.tmp 42)] 43 fr (e:=3) (size:=1) (zs:=[vI 0]) (vs:=[(0,vI x.a)]) (cs:=[vI x.a]) oB ?_;intro tE w57 QhV _ rL _ aC ea fr;clear ea;replace rL:=rL.nf;have s7:=rL.cl (Mem.dY _ 3 1);refine wz 44 (.tmp 40) (.tmp 43) 43 43 fr (e:=3) (size:=1) (bytes:=8) (z:=(vI 0)) (A:=none) (B:=(sM tE)) (n:=0) (cap:=0) (m:=1) (cap':=1) (xs:=[]) (news:=[vI x.a]) s7 3 rfl (aD (s7.get 2 rfl)) rfl (by simp[Value.oneCell']) oM (by simp only[maxLen];omega) ?_;intro A64 c65 w66 qR _ aC ea fr;clear ea;replace qR:=qR.nf;have V7:=qR.od [3,2,2] 3;revert aC;refine ah 1<|ay ?_;intro aC fr;exact⟨A64,(0+1),c65,[x.a],fr.kp [2,5,6],V7,(VN oM oM).symm,rfl⟩;revert aC;refine aI<|ah 1<|bt (ao b5 2) _ (ae (M9.get 1 rfl) rfl)<|jP (x.e !=0) fun Be0 Qf=> ?_
 refine ah 1 ?_;cases Be0;have ce0:¬(x.e≠0):=LZ Qf;refine ah 4<|ay<|fT<|bP ?_;intro aC fr;exact⟨fr.kp [2,5,6],M9,oM⟩;have ce0:x.e≠0:=Qoo.1 Qf.symm;refine ah 1<|bt (ao b5 2) _ (ae (M9.get 1 rfl) rfl)<|jP (x.e !=1) fun Be1 Qg=> ?_
 refine ah 1<|ay ?_;cases Be1;have ce1:¬(x.e≠1):=LZ Qg;refine fT<|bP ?_;intro aC fr;exact⟨fr.kp [2,5,6],M9,oM⟩;have ce1:x.e≠1:=Qoo.1 Qg.symm;refine fm<|aX<|bL<|cv an ?_;exact qP (M9.pick [false,false] rfl) (by rw[x8 oM hx];exact VM oM oM);have chi:b≥(bs.length:Int):=QlT Il.symm;refine fm<|aX<|bL<|cv an ?_;exact qP (M3.pick [false] rfl) (x7 oM);have clo:b<0:=QlT Fk.symm;refine ah 6<|ay<|fm<|aX<|bL<|cv an ?_;exact qP (M3.pick [false] rfl) (x7 oM)
theorem Qh(q:Nat)(nm wk pa va:Value)(A:ar)(c:Nat)(bs:List SB)(t:Int)(w:World)(_hm:bs.length≤1000000)(hq:RO bq w (.aB q 30 [nm,wk,pa,va,.slice A bs.length c])):Calls Tryz.prog 126 #[vI t,pT q 0] w (ez fun v w'=>v=vB (!(gP bs.length t))∧Mem bq w w' []):=by
 refine fv 13 [vI t,pT q 0] Tryz.func126 ?_;have hM:=Mem.init w;refine aX<|aI<|ah 1<|jP (decide (t<0)) fun Blo Fk=> ?_
 refine ah 1 ?_;cases Blo;have clo:¬(t<0):=QnR Fk.symm;refine ah 2<|bt (ao q 4) _ (ae (hM.ro hq) rfl)<|ah 1<|jP (decide (t≥(bs.length:Int))) fun Bhi Il=> ?_
 refine ah 2<|ay<|bL<|cv (vB Bhi) ?_;exact⟨by rw[Il,Qbz oM],hM⟩;have clo:t<0:=QlT Fk.symm;refine ah 7<|ay<|bL<|cv (vB true) ?_;exact⟨by rw[Qby oM];rfl,hM⟩
theorem Qi(l:af)(B:ar)(d:Nat)(q:Nat)(nm wk pa va:Value)(A:ar)(c:Nat)(bs:List SB)(w:World)(UZ:l.length≤1000000)(hl:RO bq w (.rd B (ints l)))(hm:bs.length≤1000000)(hq:RO bq w (.aB q 30 [nm,wk,pa,va,.slice A bs.length c])):Calls Tryz.prog 113 #[vS B l.length d,(.func (.func 126) #[] #[pT q 0])] w (ez fun v w'=>v=vI (pw (fun x=> !(gP bs.length x)) l)∧Mem bq w w' []):=by
 refine fv 19 [vS B l.length d,(.func (.func 126) #[] #[pT q 0])] Tryz.func113 ?_;have hM:=Mem.init w;refine aX<|ba<|aX<|cr 0 ?_;intro aC fr;refine fk (fun n_ a_ w_=>∃(j:Nat),n_=l.length-j∧Fr a_ 19 [(0,vS B l.length d),(1,(.func (.func 126) #[] #[pT q 0])),(7,(vI (l.length:Int))),(8,nV j)]∧Mem bq w w_ []∧(j≤l.length)∧((l.take j).any (fun x=> !(gP bs.length x))=false)) (n:=_) ⟨0,rfl,fr.kp [0,1,7,8],hM,oM,sI⟩ ?_;clear fr aC hM;rintro n aC w3 ⟨j,rfl,fr,M4,hj,hn⟩;revert aC;refine aI<|jP (decide ((j:Int)<(l.length:Int))) fun B7 Fj=> ?_
 refine ay<|ba ?_;cases B7;have c7:¬((j:Int)<(l.length:Int)):=QnR Fj.symm;refine fT<|eW 0<|eX<|aX<|bL<|cv (vI (-1)) ?_;exact⟨by rw[Bc hn oM],M4⟩;have c7:(j:Int)<(l.length:Int):=QlT Fj.symm;refine fm<|bP<|ba<|cr 1<|aX<|aI<|ah 3 ?_;obtain⟨pN,rfl⟩:=GB (M4.ro hl) oM;refine ej pN l.length 1 (j:Int)<|bt (aN pN (j:Int) 1) _ (dZ (M4.ro hl) rfl oM oM)<|di (Qh q nm wk pa va A c bs (l.getD (j:Int).toNat 0) w3 hm (hq.at_ M4)) ?_;rintro _ w9 ⟨rfl,Im⟩;have jw:=M4.cl Im;obtain⟨Qd,rK⟩:∃B,B=!(gP bs.length (l.getD (j:Int).toNat 0)):=⟨_,rfl⟩;refine bX [(0,vS (some pN) l.length d),(1,(.func (.func 126) #[] #[pT q 0])),(5,nV j),(7,(vI (l.length:Int))),(8,nV j),(11,(.func (.func 126) #[] #[pT q 0])),(15,(vI (l.getD (j:Int).toNat 0))),(16,(vB (!(gP bs.length (l.getD (j:Int).toNat 0)))))] ?_;rw[←rK];refine ay ?_;cases Qd;have yk:(!(gP bs.length (l.getD (j:Int).toNat 0)))=false:=rK.symm;refine fT<|bP<|cG<|cZ ((j:Int)+1)<|ah 1<|ay ?_;intro aC fr;exact⟨l.length-(j+1),oM,j+1,rfl,fr.kp [0,1,7,8],jw,oM,Qlu hn yk oM⟩;have yk:(!(gP bs.length (l.getD (j:Int).toNat 0)))=true:=rK.symm;refine fm<|aX<|bL<|cJ<|cJ<|cv (nV j) ?_;exact⟨by rw[E7 hn yk oM],jw⟩
theorem qS(l:af)(B:ar)(d:Nat)(q:Nat)(nm wk pa va:Value)(A:ar)(c:Nat)(bs:List SB)(w:World)(UZ:l.length≤1000000)(hl:(bx.row 3 1 B l.length d (ints l)).holds w)(hm:bs.length≤1000000)(hq:RO (bx.row 3 1 B l.length d (ints l)).fp w (.aB q 30 [nm,wk,pa,va,.slice A bs.length c])):Calls Tryz.prog 125 #[vS B l.length d,(.func (.func 126) #[] #[pT q 0])] w (ez fun v w'=>∃B' d',v=vS B' (l.filter (fun x=> !((fun x=> !(gP bs.length x)) x))).length d'∧Mem (bx.row 3 1 B l.length d (ints l)).fp w w' [.row 3 1 B' (l.filter (fun x=> !((fun x=> !(gP bs.length x)) x))).length d' (ints (l.filter (fun x=> !((fun x=> !(gP bs.length x)) x))))]):=by
 refine fv 42 [vS B l.length d,(.func (.func 126) #[] #[pT q 0])] Tryz.func125 ?_;have hM:=Mem.oY hl;refine aX<|aI<|ah 2<|di (Qi l B d q nm wk pa va A c bs w UZ (RO.aD (hM.cK 0 rfl)) hm (hq.at_ hM)) ?_;rintro _ w1 ⟨rfl,KE⟩;have M2:=hM.cl KE;clear KE hM;refine ah 1<|ay<|ba<|aI<|ah 1<|jP ((pw (fun x=> !(gP bs.length x)) l)==(-1)) fun QeR Qj=> ?_
 refine ay ?_;cases QeR;have KF:¬((pw (fun x=> !(gP bs.length x)) l)=(-1)):=L3 Qj;refine fT<|bP<|ba<|aI<|ah 1<|cZ (h1:=(by have:=C5 (fun x=> !(gP bs.length x)) l;omega)) (h2:=(by have:=C5 (fun x=> !(gP bs.length x)) l;omega)) ((pw (fun x=> !(gP bs.length x)) l)+1) ?_;refine ah 1<|ay<|cr 0 ?_;obtain⟨i0,UE,pQ,Fl⟩:=H8 KF;refine da [0,1,5,6] ?_;intro aC fr;rw[UE]at fr;obtain⟨g0,V8⟩:=df (M2.get 0 rfl) (show 0<l.length by omega);subst V8;have hle:=pR (M2.get 0 rfl);have Fm:(kept (fun x=> !(gP bs.length x)) l (i0+1)).length=i0:=by rw[Fl];simp;omega
 have hc1:((i0+1:Nat):Int)=(i0:Int)+1:=oM;replace fr:Fr aC 42 [(0,.slice (sM g0) l.length d),(1,((.func (.func 126) #[] #[pT q 0]))),(5,(vI ((kept (fun x=> !(gP bs.length x)) l (i0+1)).length:Int))),(6,(vI ((i0+1:Nat):Int)))]:=by rw[Fm];exact fr.keep (keep:=[0,1,5,6]) kR
 refine fk (fun n_ a_ w_=>∃(j:Nat) (m:af),n_=l.length-j∧Fr a_ 42 [(0,vS (sM g0) l.length d),(1,(.func (.func 126) #[] #[pT q 0])),(5,(vI ((kept (fun x=> !(gP bs.length x)) l j).length:Int))),(6,nV j)]∧Mem ((bx.row 3 1 (sM g0) l.length d (ints l)).fp) w w_ [.row 3 1 (sM g0) l.length d (ints m)]∧(j≤l.length)∧(H9 l m (kept (fun x=> !(gP bs.length x)) l j) j)) (n:=_) ⟨i0+1,l,rfl,fr.kp [0,1,5,6],M2,oM,by rw[Fl];exact halfL_start pQ⟩ ?_;clear fr aC M2;rintro n aC w5 ⟨j,m,rfl,fr,M6,hj,hh⟩;revert aC;refine ba<|aI<|ah 3<|jP (decide ((j:Int)<(l.length:Int))) fun B9 Hz=> ?_
 refine ay ?_;cases B9;have c9:¬((j:Int)<(l.length:Int)):=QnR Hz.symm;refine fT<|eW 0<|eX<|aI<|ah 2 ?_;intro aC fr;have Kf:j=l.length:=oM;have Qk:=hh.2.2.2;refine jA (kR:ax _ 2=some (some 38,.slice 43 (.tmp 36) (some (.tmp 37)) none none,43,none)) fr kR kR (k':=3) rfl (A:=(sM g0)) (n:=l.length) (cap:=d) (e:=3) (size:=1) (kd:= .i64) (i:=((kept (fun x=> !(gP bs.length x)) l j).length:Int)) (kept (fun x=> !(gP bs.length x)) l j).length kR kR rfl kR kR oM ?_;intro aC ea fr;clear ea;rw[Ds (show¬(d=(kept (fun x=> !(gP bs.length x)) l j).length)by omega)]at fr;refine H0 (kR:ax _ 3=some (none,(.call {callee:=(.builtin .clear),args:=#[.tmp 38],argTypes:=#[43]}),0,none)) fr kR kR (k':=4) rfl (e:=3) (z:=vI 0) kR kR rfl (ad:=aZ g0) (off:=(kept (fun x=> !(gP bs.length x)) l j).length*1) (m:=l.length-(kept (fun x=> !(gP bs.length x)) l j).length) (cap':=d-(kept (fun x=> !(gP bs.length x)) l j).length) (n:=l.length) (cap:=d) (xs:=ints m) kR M6 0 rfl oM ?_;intro N6 mS _ aC ea fr;clear ea;replace mS:=mS.nf;revert aC;refine ay<|aI<|ah 2 ?_;intro aC fr;refine gx (kR:ax _ 2=some (some 41,.slice 43 (.tmp 39) none (some (.tmp 40)) none,43,none)) fr kR kR (k':=3) rfl (A:=(sM g0)) (n:=l.length) (cap:=d) (e:=3) (size:=1) (kd:= .i64) (i:=((kept (fun x=> !(gP bs.length x)) l j).length:Int)) (kept (fun x=> !(gP bs.length x)) l j).length kR kR rfl kR kR oM ?_;intro aC ea fr;clear ea;revert aC;refine ah 1<|ay<|bL<|cv (vS (sM g0) ((kept (fun x=> !(gP bs.length x)) l j).length) d) ?_;have dH:=mS.lD 0 rfl (kept (fun x=> !(gP bs.length x)) l j).length oM;refine⟨some (aZ g0),d,by rw[←E8 (p:=(fun x=> !(gP bs.length x))) (show l.length≤j by omega)],dH.cast ?_⟩;rw[←E8 (p:=(fun x=> !(gP bs.length x))) (show l.length≤j by omega)];show[_]=_;rw[VT hh.2.1];have c9:(j:Int)<(l.length:Int):=QlT Hz.symm;refine fm<|bP<|ba<|cr 1<|aI<|ah 2<|ej (aZ g0) l.length 1 (j:Int)<|bt (aN (aZ g0) (j:Int) 1) (vI (l.getD (j:Int).toNat 0)) (by rw[←PX hh];exact dZ (aD (M6.get 0 rfl)) rfl oM (by have:=hh.1;omega))<|ah 1<|ay ?_;refine aI<|ah 2<|di (Qh q nm wk pa va A c bs (l.getD (j:Int).toNat 0) w5 hm (hq.at_ M6)) ?_;rintro _ Wz ⟨rfl,L9⟩;have qf:=M6.cl L9;obtain⟨QhW,Ql⟩:∃B,B=!(gP bs.length (l.getD (j:Int).toNat 0)):=⟨_,rfl⟩;refine bX [(0,vS (sM g0) l.length d),(1,(.func (.func 126) #[] #[pT q 0])),(5,(vI ((kept (fun x=> !(gP bs.length x)) l j).length:Int))),(6,nV j),(7,(vI (l.getD (j:Int).toNat 0))),(26,(.func (.func 126) #[] #[pT q 0])),(27,(vI (l.getD (j:Int).toNat 0))),(28,(vB (!(gP bs.length (l.getD (j:Int).toNat 0)))))] ?_;rw[←Ql];refine ah 1<|ay ?_;cases QhW;have QbD:(!(gP bs.length (l.getD (j:Int).toNat 0)))=false:=Ql.symm;refine fm<|aI<|ah 3<|ej (h0:=oM) (h1:=(by have:=hh.2.2.2;omega)) (aZ g0) l.length 1 ((kept (fun x=> !(gP bs.length x)) l j).length:Int) ?_;refine yc qf 0 (aN (aZ g0) ((kept (fun x=> !(gP bs.length x)) l j).length:Int) 1) ((((kept (fun x=> !(gP bs.length x)) l j).length:Int)).toNat*1) (vI (l.getD (j:Int).toNat 0)) rfl rfl (by have:=hh.2.2.2;omega) fun w24 L8=> ?_
 replace L8:=L8.nf;refine ay<|cG<|ah 1<|cZ (h2:=(by have:=hh.2.2.2;omega)) (((kept (fun x=> !(gP bs.length x)) l j).length:Int)+1) ?_;refine ah 1<|ay<|cG<|ah 1<|cZ ((j:Int)+1)<|ah 1<|ay ?_;intro aC fr;have Bg:=PW (p:=(fun x=> !(gP bs.length x))) (show j<l.length by omega) QbD;replace fr:Fr aC 42 [(0,.slice (sM g0) l.length d),(1,((.func (.func 126) #[] #[pT q 0]))),(5,(vI ((kept (fun x=> !(gP bs.length x)) l (j+1)).length:Int))),(6,(vI ((j:Int)+1)))]:=by rw[Bg,QoG];exact fr.keep (keep:=[0,1,5,6]) kR
 exact⟨l.length-(j+1),oM,j+1,m.set (kept (fun x=> !(gP bs.length x)) l j).length (l.getD (j:Int).toNat 0),rfl,fr.kp [0,1,5,6],(L8.cast (by rw[ints_set,Qoq,Qoz])),oM,by rw[Bg];exact PY hh oM _⟩;have QbD:(!(gP bs.length (l.getD (j:Int).toNat 0)))=true:=Ql.symm;refine fT<|bP<|cG<|ah 1<|cZ ((j:Int)+1)<|ah 1<|ay ?_;intro aC fr;have Bg:=VP (p:=(fun x=> !(gP bs.length x))) (show j<l.length by omega) QbD;replace fr:Fr aC 42 [(0,.slice (sM g0) l.length d),(1,((.func (.func 126) #[] #[pT q 0]))),(5,(vI ((kept (fun x=> !(gP bs.length x)) l (j+1)).length:Int))),(6,(vI ((j:Int)+1)))]:=by rw[Bg];exact fr.keep (keep:=[0,1,5,6]) kR
 exact⟨l.length-(j+1),oM,j+1,m,rfl,fr.kp [0,1,5,6],qf,oM,by rw[Bg];exact VS hh⟩;have KF:(pw (fun x=> !(gP bs.length x)) l)=(-1):=Qco.1 Qj.symm;refine fm<|aX<|bL<|cv (vS B l.length d) ?_;exact⟨B,d,by rw[any_filter KF],M2.cast (by rw[any_filter KF])⟩
theorem BB(nm wk pa va:Value)(A:ar)(c:Nat)(bs:List SB)(b:Int)(w:World)(hm:bs.length≤1000000)(hA:RO bq w (.blocks A bs)):Calls Tryz.prog 100 #[(.agg #[nm,wk,pa,va,vS A bs.length c]),vI b] w (ez fun v w'=>∃A' c',v=vS A' (tg bs b).length c'∧Mem bq w w' [.row 3 1 A' (tg bs b).length c' (ints (tg bs b))]):=by
 refine fv 45 [(.agg #[nm,wk,pa,va,vS A bs.length c]),vI b] Tryz.func100 ?_;have hM:=Mem.init w;refine aI<|ou hM 30 (.agg #[nm,wk,pa,va,vS A bs.length c]) [nm,wk,pa,va,vS A bs.length c] fun b1 w2 jU M3=> ?_
 replace M3:=M3.nf;clear hM;refine ah 1<|ay<|ba<|aI<|ah 1<|jP (decide (b<0)) fun Blo Fk=> ?_
 refine ah 1 ?_;cases Blo;have clo:¬(b<0):=QnR Fk.symm;refine ah 2<|bt (ao b1 4) _ (ae (M3.get 0 rfl) rfl)<|ah 1<|jP (decide (b≥(bs.length:Int))) fun Bhi Il=> ?_
 refine ah 1<|ay ?_;cases Bhi;have chi:¬(b≥(bs.length:Int)):=QnR Il.symm;refine fT<|bP<|aI ?_;obtain⟨x,hx⟩:=PR (l:=bs) (i:=b) oM oM;refine ah 1<|bt (ao b1 4) _ (ae (M3.get 0 rfl) rfl)<|ah 1 ?_;obtain⟨ym,rfl⟩:=ek (M3.ro hA) hx;refine ej ym bs.length 6 b<|ga (aN ym (b) 6) [vS x.pA x.pn x.pc,vS x.iA x.ik x.ic,vI x.e,vI x.v,vI x.a,vI x.b] (sd (M3.ro hA) rfl hx)<|na M3 49 [an,an,vI 0,vI 0,vI 0,vI 0] fun b5 w6 hb5 M7=> ?_
 replace M7:=M7.nf;refine ng M7 1 [vS x.pA x.pn x.pc,vS x.iA x.ik x.ic,vI x.e,vI x.v,vI x.a,vI x.b] rfl fun w8 M9=> ?_
 replace M9:=M9.nf;refine da [2,5]<|ay<|aX<|ba<|aI<|ah 1<|bt (ao b5 2) _ (ae (M9.get 1 rfl) rfl)<|ay<|cr 0<|aI<|jP (x.e==0) fun Be0 Qf=> ?_
 refine ah 1<|ay ?_;cases Be0;have ce0:¬(x.e=0):=L3 Qf;refine fT<|aI<|jP (x.e==1) fun Be1 Qg=> ?_
 refine ah 1<|ay ?_;cases Be1;have ce1:¬(x.e=1):=L3 Qg;refine fT<|bP<|aI<|ah 2 ?_;have jw:=bd [.aB b1 30 [nm,wk,pa,va,vS (some ym) bs.length c],.aB b5 49 [vS x.pA x.pn x.pc,vS x.iA x.ik x.ic,vI x.e,vI x.v,vI x.a,vI x.b],.row 3 1 none 0 0 []] (M9.call (Mem.dY _ 3 1));refine di (vs:=#[an,(.func (.func 126) #[] #[pT b1 0])]) (qS [] none 0 b1 nm wk pa va _ c bs w8 sI (jw.get 2 rfl) hm (jw.ja 0 2 rfl rfl dQ)) ?_;rintro _ KG ⟨A11,Dk,rfl,QbE⟩;have lH:=jw.md 2 rfl QbE;refine ah 1<|ay<|bL<|cv (vS A11 (([].filter (fun x=> !((fun x=> !(gP bs.length x)) x))).length) Dk) ?_;exact oi (lH.pick [false,false,true] rfl) (by rw[x8 oM hx];exact PT ce0 ce1) rfl;have ce1:x.e=1:=Qco.1 Qg.symm;refine fm<|aI<|ah 1<|bt (ao b5 4) _ (ae (M9.get 1 rfl) rfl)<|ah 1<|bt (ao b5 5) _ (ae (M9.get 1 rfl) rfl) ?_;intro aC fr;refine nX 34 43 2 #[(0,.tmp 31),(1,.tmp 33)] 43 fr (e:=3) (size:=1) (zs:=[vI 0]) (vs:=[(0,vI x.a),(1,vI x.b)]) (cs:=[vI x.a,vI x.b]) M9 ?_;intro jx OT QeS _ kK _ aC ea fr;clear ea;replace kK:=kK.nf;revert aC;refine ah 1<|ay<|aI<|ah 1<|bt (ao b5 4) _ (ae (kK.get 1 rfl) rfl)<|ah 1<|bt (ao b5 5) _ (ae (kK.get 1 rfl) rfl)<|da [2,6,36,38]<|jP (x.a==x.b) fun Bab Dj=> ?_
 refine ay ?_;cases Bab;have N3:¬(x.a=x.b):=L3 Dj;refine fT<|bP<|aI<|ah 2<|di (vs:=#[vS (sM jx) 2 2,(.func (.func 126) #[] #[pT b1 0])]) (qS [x.a,x.b] (sM jx) 2 b1 nm wk pa va _ c bs OT sI (kK.get 2 rfl) hm (kK.ja 0 2 rfl rfl dQ)) ?_;rintro _ w24 ⟨A22,c23,rfl,V9⟩;have L8:=kK.md 2 rfl V9;refine ah 1<|ay<|bL<|cv (vS A22 (([x.a,x.b].filter (fun x=> !((fun x=> !(gP bs.length x)) x))).length) c23) ?_;exact oi (L8.pick [false,false,true] rfl) (by rw[x8 oM hx];exact VL oM oM) rfl;have N3:x.a=x.b:=Qco.1 Dj.symm;refine fm<|cG<|ah 1 ?_;intro aC fr;refine gx (kR:ax _ 1=some (some 41,.slice 43 (.tmp 40) none (some (.const (vI 1))) none,43,none)) fr kR kR (k':=2) rfl (A:=(sM jx)) (n:=2) (cap:=2) (e:=3) (size:=1) (kd:= .i64) (i:=1) 1 kR kR rfl kR kR dQ ?_;intro aC ea fr;clear ea;have xn:=bd [.aB b1 30 [nm,wk,pa,va,vS (some ym) bs.length c],.aB b5 49 [vS x.pA x.pn x.pc,vS x.iA x.ik x.ic,vI x.e,vI x.v,vI x.a,vI x.b],.row 3 1 (sM jx) 1 2 [vI x.a]] (kK.lD 2 rfl 1 dQ);revert aC;refine ah 1<|ay<|aI<|ah 2<|di (vs:=#[vS (sM jx) 1 2,(.func (.func 126) #[] #[pT b1 0])]) (qS [x.a] (sM jx) 2 b1 nm wk pa va _ c bs OT sI (xn.get 2 rfl) hm (xn.ja 0 2 rfl rfl dQ)) ?_;rintro _ Gs ⟨A31,Fo,rfl,Dl⟩;have xo:=xn.md 2 rfl Dl;refine ah 1<|ay<|bL<|cv (vS A31 (([x.a].filter (fun x=> !((fun x=> !(gP bs.length x)) x))).length) Fo) ?_;exact oi (xo.pick [false,false,true] rfl) (by rw[x8 oM hx];exact Ki oM) rfl;have ce0:x.e=0:=Qco.1 Qf.symm;refine fm<|cG<|ah 1<|bt (ao b5 4) _ (ae (M9.get 1 rfl) rfl) ?_;intro aC fr;refine nX 27 43 1 #[(0,.tmp 26)] 43 fr (e:=3) (size:=1) (zs:=[vI 0]) (vs:=[(0,vI x.a)]) (cs:=[vI x.a]) M9 ?_;intro b35 OD hb35 _ rq _ aC ea fr;clear ea;replace rq:=rq.nf;revert aC;refine ah 1<|ay<|aI<|ah 2<|di (vs:=#[vS (sM b35) 1 1,(.func (.func 126) #[] #[pT b1 0])]) (qS [x.a] (sM b35) 1 b1 nm wk pa va _ c bs OD sI (rq.get 2 rfl) hm (rq.ja 0 2 rfl rfl dQ)) ?_;rintro _ w44 ⟨A42,c43,rfl,QbF⟩;have HA:=rq.md 2 rfl QbF;refine ah 1<|ay<|bL<|cv (vS A42 (([x.a].filter (fun x=> !((fun x=> !(gP bs.length x)) x))).length) c43) ?_;exact oi (HA.pick [false,false,true] rfl) (by rw[x8 oM hx];exact Ki oM) rfl;have chi:b≥(bs.length:Int):=QlT Il.symm;refine fm<|aX<|bL<|cv an ?_;exact qP (M3.pick [false] rfl) (x7 oM);have clo:b<0:=QlT Fk.symm;refine ah 6<|ay<|fm<|aX<|bL<|cv an ?_;exact qP (M3.pick [false] rfl) (x7 oM)
theorem su(nm wk pa va:Value)(A:ar)(c:Nat)(bs:List SB)(b:Int)(w:World)(hm:bs.length≤1000000)(hA:RO bq w (.blocks A bs)):Calls Tryz.prog 36 #[(.agg #[nm,wk,pa,va,vS A bs.length c]),vI b] w (ez fun v w'=>∃A' c',v=vS A' (bG bs b).length c'∧Mem bq w w' [.row 3 1 A' (bG bs b).length c' (ints (bG bs b))]):=by
 refine fv 24 [(.agg #[nm,wk,pa,va,vS A bs.length c]),vI b] Tryz.func36 ?_;have hM:=Mem.init w;refine aI<|ou hM 30 (.agg #[nm,wk,pa,va,vS A bs.length c]) [nm,wk,pa,va,vS A bs.length c] fun b1 w2 jU M3=> ?_
 replace M3:=M3.nf;clear hM;refine ah 1<|ay<|aX<|ba<|aX<|cr 0 ?_;intro aC fr;refine fk (fun n_ a_ w_=>∃(k:Nat) (A1:ar) (n1:Nat) (c1:Nat) (l1:af),n_=bs.length-k∧Fr a_ 24 [(1,vI b),(2,pT b1 0),(5,vS A1 n1 c1),(6,nV k)]∧Mem bq w w_ [.aB b1 30 [nm,wk,pa,va,vS A bs.length c],.row 3 1 A1 n1 c1 (ints l1)]∧(k≤bs.length)∧(l1=ef bs b k)∧(n1=l1.length)) (n:=_) ⟨0,none,0,0,[],rfl,fr.kp [1,2,5,6],M3.call (Mem.dY _ 3 1),oM,rfl,rfl⟩ ?_;clear fr aC M3;rintro n aC w6 ⟨k,A1,n1,c1,l1,rfl,fr,M7,hk,qe,Di⟩;revert aC;refine ba<|aI<|ah 2<|bt (ao b1 4) _ (ae (M7.get 0 rfl) rfl)<|ah 1<|jP (decide ((k:Int)<(bs.length:Int))) fun kO pD=> ?_
 refine ay ?_;cases kO;have uR:¬((k:Int)<(bs.length:Int)):=QnR pD.symm;refine fT<|eW 0<|eX<|aX<|bL<|cv (vS A1 n1 c1) ?_;obtain rfl:k=bs.length:=oM;exact oi (M7.pick [false,true] rfl) qe Di;have uR:(k:Int)<(bs.length:Int):=QlT pD.symm;refine fm<|bP<|ba<|cr 1<|aI<|ga (aZ b1) [nm,wk,pa,va,vS A bs.length c] (aW (M7.get 0 rfl))<|ah 1<|di (vs:=#[(.agg #[nm,wk,pa,va,vS A bs.length c]),nV k]) (yl _ _ _ _ A c bs (k:Int) w6 hm (hA.at_ M7)) ?_;rintro _ KG ⟨A11,Dk,rfl,QbE⟩;have lH:=M7.cl QbE;refine ah 1<|di (vs:=#[(vS A11 ((tg bs (k:Int)).length) Dk),vI b]) (QeL (tg bs (k:Int)) b A11 Dk KG (QoJ (pY _ _) dQ) (RO.aD (lH.cK 2 rfl))) ?_;rintro _ Z7 ⟨rfl,Wa⟩;have oC:=lH.cl Wa;obtain⟨Qd,rK⟩:∃B,B=(tg bs (k:Int)).contains b:=⟨_,rfl⟩;refine bX [(1,vI b),(2,pT b1 0),(5,vS A1 n1 c1),(6,nV k),(16,(vS A11 ((tg bs (k:Int)).length) Dk)),(17,vI b),(18,(vB ((tg bs (k:Int)).contains b)))] ?_;rw[←rK];refine ay ?_;cases Qd;have yk:((tg bs (k:Int)).contains b)=false:=rK.symm;refine fT<|bP<|cG<|ah 1<|cZ ((k:Int)+1)<|ah 1<|ay ?_;intro aC fr;exact⟨bs.length-(k+1),oM,k+1,A1,n1,c1,l1,rfl,fr.kp [1,2,5,6],(oC.pick [true,true,false] rfl),oM,by rw[p5,Ds (by rw[yk];simp),QoZ];exact qe,Di⟩;have yk:((tg bs (k:Int)).contains b)=true:=rK.symm;refine fm<|cG<|ah 2 ?_;intro aC fr;refine nX 21 43 1 #[(0,.tmp 20)] 43 fr (e:=3) (size:=1) (zs:=[vI 0]) (vs:=[(0,nV k)]) (cs:=[nV k]) oC ?_;intro k8 Wb QeT _ nZ _ aC ea fr;clear ea;replace nZ:=nZ.nf;refine wz 22 (.tmp 19) (.tmp 21) 43 43 fr (e:=3) (size:=1) (bytes:=8) (z:=(vI 0)) (A:=A1) (B:=(sM k8)) (n:=n1) (cap:=c1) (m:=1) (cap':=1) (xs:=(ints l1)) (news:=[nV k]) nZ 1 rfl (aD (nZ.get 3 rfl)) rfl (by simp[Value.oneCell']) (by have:=fR bs b k;rw[qe]at Di;omega) (by have:=fR bs b k;rw[qe]at Di;simp only[maxLen];omega) ?_;intro A26 uS OU jy _ aC ea fr;clear ea;replace jy:=jy.nf;have pE:=jy.od [2,2,2] 3;revert aC;refine ah 1<|ay<|cG<|ah 1<|cZ ((k:Int)+1)<|ah 1<|ay ?_;intro aC fr;exact⟨bs.length-(k+1),oM,k+1,A26,(n1+1),uS,l1++[(k:Int)],rfl,fr.kp [1,2,5,6],((pE.pick [true,true,false] rfl).cast (by rw[fG];rfl)),oM,by rw[p5,Kt yk,qe],by rw[QoG,Di];rfl⟩
end Go.Proofs.YtejbeeaomokjpaaGreat
namespace Go.Proofs.YtejbeeaomokjpaaGreat
open Go.Mor
theorem Mc(n:Nat)(w:World)(hn:n≤1000000):Calls Tryz.prog 101 #[nV n] w (ez fun v w'=>∃g,v=vS (sM g) ((n+63) / 64) ((n+63) / 64)∧Mem bq w w' [.row 191 1 (sM g) ((n+63) / 64) ((n+63) / 64) (kZ (List.replicate ((n+63) / 64) 0))]):=by
 refine fv 8 [nV n] Tryz.func101 ?_;have hM:=Mem.init w;refine aX<|aI<|ah 1<|cZ ((n:Int)+64)<|cZ (((n:Int)+64)-1) ?_;intro aC fr;refine gM (kR:ax _ 3=some (some 6,.binOp .quo 3 (.tmp 5) (.const (vI 64)) 3,3,none)) fr kR kR (k':=4) rfl (kd:= .i64) (kd':= .i64) (i:=(n:Int)+64-1) (j:=64) (z:=vI ((((n+63) / 64):Nat):Int)) kR kR (fun w=>by have h:=xX (P:=Tryz.prog) (t:=3) (i:=n+63) 64 oM dQ w;rw[show((n+63:Nat):Int)=(n:Int)+64-1 by omega]at h;exact h) ?_;intro aC ea fr;clear ea;refine P6 7 153 (.tmp 6) (.tmp 6) 153 fr (e:=191) (bytes:=8) (z:=(.int .u64 0)) (n:=((n+63) / 64)) (i:=((((n+63) / 64):Nat):Int)) oM (by simp only[maxLen];omega) hM ?_;intro b5 w6 hb5 _ M7 _ aC ea fr;clear ea;replace M7:=M7.nf;clear hM;revert aC;refine ah 1<|ay<|bL<|cv (vS (sM b5) ((n+63) / 64) ((n+63) / 64)) ?_;exact⟨b5,rfl,M7.cast (by simp[kZ])⟩
theorem Z8(ws:List Nat)(n i:Nat)(A:ar)(c:Nat)(w:World)(wD:Fit ws)(UE:i≤1000000)(hn:n=ws.length)(hi:i / 64<ws.length)(rX:(bx.row 191 1 A n c (kZ ws)).holds w):Calls Tryz.prog 102 #[vS A n c,nV i] w (ez fun v w'=>v= .tuple #[]∧Mem (bx.row 191 1 A n c (kZ ws)).fp w w' [.row 191 1 A n c (kZ (xY ws i))]):=by
 subst hn;refine fv 14 [vS A ws.length c,nV i] Tryz.func102 ?_;have hM:=Mem.oY rX;obtain⟨g0,V8⟩:=df (hM.get 0 rfl) (show 0<ws.length by omega);subst V8;refine da [0,1] ?_;intro aC fr;refine ED (bo [eS (sM g0) ws.length c,.aU (nV i),eI ((i / 64:Nat):Int),eA (aZ g0) ((i / 64:Nat):Int) 1,.aU (.int .u64 ((ws.getD (i / 64) 0:Nat):Int)),.aU (nV i),eI ((i % 64:Nat):Int),.aU (.int .u64 ((2^(i % 64):Nat):Int)),.aU (.int .u64 ((ws.getD (i / 64) 0|||2^(i % 64):Nat):Int)),eA (aZ g0) ((i / 64:Nat):Int) 1,.aU undef]) (fun ls vs w_=>match ls 10 with|true=>(Mem (bx.row 191 1 (sM g0) ws.length c (kZ ws)).fp w w_ [.row 191 1 (sM g0) ws.length c (kZ (xY ws i))])|false=>(Mem (bx.row 191 1 (sM g0) ws.length c (kZ ws)).fp w w_ [.row 191 1 (sM g0) ws.length c (kZ ws)])) fr (eL (.aU (.aU (.aU (.aU (.aU (.aU (.aU (.aU (.aU (.aU (.aU .nil)))))))))))) (hM.aw (Mem.drew _)) (kV (pF lz bM bM ?_ (yd (aZ g0) ws.length 1 ((i / 64:Nat):Int) fun _ _ _ _ h=>h) (mP (aN (aZ g0) ((i / 64:Nat):Int) 1) (.int .u64 ((ws.getD (i / 64) 0:Nat):Int)) (fun _ _ _ _ h=>h) ?_) bM ?_ ?_) ?_ (yd (aZ g0) ws.length 1 ((i / 64:Nat):Int) fun _ _ _ _ h=>h) ?_) ?_;intro ep w_ ls vs cL hJ bI bH hp hF;refine jv (g0:=none) ?_;replace hF:Fr ep 14 [(5,nV i)]:=hF.kp [5];refine gM (kR:ax _ 0=some (some 6,.binOp .quo 3 (.tmp 5) (.const (vI 64)) 3,3,none)) hF kR kR (k':=1) rfl (kd:= .i64) (kd':= .i64) (i:=(i:Int)) (j:=64) (z:=vI ((i / 64:Nat):Int)) kR kR (fun w=>xX 64 oM dQ w) ?_;intro a2 ea _;refine aL kR ?_;exact bu (d:=some 6) kR ea rfl hJ;intro w_ ls vs hJ bI bH hp;have f10:=aR 10 11 bH bI;have aO:=hJ;simp only[f10]at aO;exact(bJ (aD (aO.get 0 rfl)) rfl (E5 oM));intro ep w_ ls vs cL hJ bI bH hp hF;refine jv (g0:=none) ?_;replace hF:Fr ep 14 [(9,nV i)]:=hF.kp [9];refine gM (kR:ax _ 0=some (some 10,.binOp .rem 3 (.tmp 9) (.const (vI 64)) 3,3,none)) hF kR kR (k':=1) rfl (kd:= .i64) (kd':= .i64) (i:=(i:Int)) (j:=64) (z:=vI ((i % 64:Nat):Int)) kR kR (fun w=>E4 64 dQ w) ?_;intro a2 ea _;refine aL kR ?_;exact bu (d:=some 10) kR ea rfl hJ;intro ep w_ ls vs cL hJ bI bH hp hF;refine jv (g0:=none) ?_;replace hF:Fr ep 14 [(10,(vI ((i % 64:Nat):Int)))]:=hF.kp [10];refine gM (kR:ax _ 0=some (some 11,.binOp .shl 191 (.const (.int .u64 1)) (.tmp 10) 3,191,none)) hF kR kR (k':=1) rfl (kd:= .u64) (kd':= .i64) (i:=1) (j:=((i % 64:Nat):Int)) (z:= .int .u64 ((2^(i % 64):Nat):Int)) kR kR (fun w=>VB (Nat.mod_lt _ dQ) w) ?_;intro a2 ea _;refine aL kR ?_;exact bu (d:=some 11) kR ea rfl hJ;intro ep w_ ls vs cL hJ bI bH hp hF;refine jv (g0:=none) ?_;replace hF:Fr ep 14 [(8,(.int .u64 ((ws.getD (i / 64) 0:Nat):Int))),(11,(.int .u64 ((2^(i % 64):Nat):Int)))]:=hF.kp [8,11];refine gM (kR:ax _ 0=some (some 12,.binOp .or 191 (.tmp 8) (.tmp 11) 191,191,none)) hF kR kR (k':=1) rfl (kd:= .u64) (kd':= .u64) (i:=((ws.getD (i / 64) 0:Nat):Int)) (j:=((2^(i % 64):Nat):Int)) (z:= .int .u64 ((ws.getD (i / 64) 0|||2^(i % 64):Nat):Int)) kR kR (fun w=>Qbu (wD.get _) (sa (Nat.mod_lt _ dQ)) w) ?_;intro a2 ea _;refine aL kR ?_;exact bu (d:=some 12) kR ea rfl hJ;intro ep w_ ls vs cL hJ bI bH hp hF;refine jv (g0:=none) ?_;replace hF:Fr ep 14 [(12,(.int .u64 ((ws.getD (i / 64) 0|||2^(i % 64):Nat):Int))),(13,(vP (aN (aZ g0) ((i / 64:Nat):Int) 1)))]:=hF.kp [12,13];have f10:ls 10=false:=bI;have aO:=hJ;simp only[f10]at aO;refine ew (kR:ax _ 0=some (none,.store 191 (.tmp 13) (.tmp 12),0,none)) hF kR kR (k':=1) rfl (ad:=(aZ g0)) (j:=((((i / 64:Nat):Int)).toNat*1)) (e:=191) (size:=1) (n:=ws.length) (cap:=c) (v:=(.int .u64 ((ws.getD (i / 64) 0|||2^(i % 64):Nat):Int))) (xs:=(kZ ws)) (ad':=(aN (aZ g0) ((i / 64:Nat):Int) 1)) kR rfl kR kR rfl aO 0 rfl oM ?_;intro w2 dH _ a2 ea _;refine aL kR ?_;refine bu (d:=none) kR ea rfl ?_;show _;exact dH.cast (by show[bx.row _ _ _ _ _ _]=_;rw[xY,PK,Qoq,Qoz]);intro aC w5 ls vs cV M6 hv fr;simp only[show ls 10=true from cV 10 dQ]at M6;revert aC;refine bX [] ?_;clear cV hv fr aC hM;clear vs ls;refine UY ?_;exact⟨rfl,M6⟩
theorem QbG(ws:List Nat)(n i:Nat)(A:ar)(c:Nat)(w:World)(wD:Fit ws)(UE:i≤1000000)(hn:n=ws.length)(hi:i / 64<ws.length)(hA:RO bq w (.rd A (kZ ws))):Calls Tryz.prog 103 #[vS A n c,nV i] w (ez fun v w'=>v=vB (tb ws i)∧Mem bq w w' []):=by
 subst hn;refine fv 15 [vS A ws.length c,nV i] Tryz.func103 ?_;have hM:=Mem.init w;refine aX<|aI<|ah 2 ?_;intro aC fr;refine gM (kR:ax _ 2=some (some 7,.binOp .quo 3 (.tmp 6) (.const (vI 64)) 3,3,none)) fr kR kR (k':=3) rfl (kd:= .i64) (kd':= .i64) (i:=(i:Int)) (j:=64) (z:=vI ((i / 64:Nat):Int)) kR kR (fun w=>xX 64 oM dQ w) ?_;intro aC ea fr;clear ea;obtain⟨OG,rfl⟩:=rd_some (hM.ro hA) (by rw[PL];omega);revert aC;refine ej OG ws.length 1 ((i / 64:Nat):Int)<|bt (aN OG ((i / 64:Nat):Int) 1) _ (bJ (hM.ro hA) rfl (E5 oM))<|ah 1 ?_;intro aC fr;refine gM (kR:ax _ 6=some (some 11,.binOp .rem 3 (.tmp 10) (.const (vI 64)) 3,3,none)) fr kR kR (k':=7) rfl (kd:= .i64) (kd':= .i64) (i:=(i:Int)) (j:=64) (z:=vI ((i % 64:Nat):Int)) kR kR (fun w=>E4 64 dQ w) ?_;intro aC ea fr;clear ea;refine gM (kR:ax _ 7=some (some 12,.binOp .shr 191 (.tmp 9) (.tmp 11) 3,191,none)) fr kR kR (k':=8) rfl (kd:= .u64) (kd':= .i64) (i:=((ws.getD (i / 64) 0:Nat):Int)) (j:=((i % 64:Nat):Int)) (z:= .int .u64 ((ws.getD (i / 64) 0 / 2^(i % 64):Nat):Int)) kR kR (fun w=>VD (Nat.mod_lt _ dQ) w) ?_;intro aC ea fr;clear ea;refine gM (kR:ax _ 8=some (some 13,.binOp .and 191 (.tmp 12) (.const (.int .u64 1)) 191,191,none)) fr kR kR (k':=9) rfl (kd:= .u64) (kd':= .u64) (i:=((ws.getD (i / 64) 0 / 2^(i % 64):Nat):Int)) (j:=1) (z:= .int .u64 ((ws.getD (i / 64) 0 / 2^(i % 64)&&&1:Nat):Int)) kR kR (fun w=>PJ (Nat.lt_of_le_of_lt (Nat.div_le_self _ _) (wD.get _)) w) ?_;intro aC ea fr;clear ea;revert aC;refine jP (((ws.getD (i / 64) 0 / 2^(i % 64)&&&1:Nat):Int)==1) fun Bh hBh=> ?_
 refine ah 1<|ay<|bL<|cv (vB Bh) ?_;exact⟨by rw[hBh,Qbw];rfl,hM⟩
theorem Md(l:af)(A:ar)(c:Nat)(w:World)(hm:l.length≤1000000)(rX:(bx.row 3 1 A l.length c (ints l)).holds w):Calls Tryz.prog 104 #[vS A l.length c] w (ez fun v w'=>v= .tuple #[]∧Mem (bx.row 3 1 A l.length c (ints l)).fp w w' [.row 3 1 A l.length c (ints l.reverse)]):=by
 refine fv 28 [vS A l.length c] Tryz.func104 ?_;have hM:=Mem.oY rX;refine aI<|ah 2<|cZ ((l.length:Int)-1)<|ah 2<|ay<|cr 0 ?_;intro aC fr;replace fr:Fr aC 28 [(0,.slice A l.length c),(2,vI (0:Int)),(3,vI ((l.length:Int)-1-(0:Int)))]:=by rw[show((l.length:Int)-1-(0:Int))=(l.length:Int)-1 by omega];exact fr.keep (keep:=[0,2,3]) kR
 refine fk (fun n_ a_ w_=>∃(k:Nat) (m:af),n_=l.length-k∧Fr a_ 28 [(0,vS A l.length c),(2,nV k),(3,(vI ((l.length:Int)-1-(k:Int))))]∧Mem (bx.row 3 1 A l.length c (ints l)).fp w w_ [.row 3 1 A l.length c (ints m)]∧(2*k≤l.length)∧(tG l m k)) (n:=_) ⟨0,l,rfl,fr.kp [0,2,3],hM,oM,Ah l⟩ ?_;clear fr aC hM;rintro n aC w3 ⟨k,m,rfl,fr,M4,hk,hs⟩;revert aC;refine ba<|aI<|ah 2<|jP (decide ((k:Int)<((l.length:Int)-1-(k:Int)))) fun Blt QeV=> ?_
 refine ay ?_;cases Blt;have clt:¬((k:Int)<((l.length:Int)-1-(k:Int))):=QnR QeV.symm;refine fT<|eW 0<|eX<|UY ?_;exact⟨rfl,M4.cast (by rw[Fu hs oM])⟩;have clt:(k:Int)<((l.length:Int)-1-(k:Int)):=QlT QeV.symm;refine fm<|bP<|ba<|cr 1 ?_;obtain⟨q,hq⟩:∃q:Nat,((l.length:Int)-1-(k:Int))=(q:Int):=⟨l.length-1-k,oM⟩;refine da [0,2,3,9] ?_;intro aC fr;rw[hq]at fr clt;have HY:m.length=l.length:=hs.1;obtain⟨g0,V8⟩:=df (M4.get 0 rfl) (show 0<l.length by omega);subst V8;revert aC;refine da [0,2,3,9] ?_;intro aC fr;refine ED (bo [eS (sM g0) l.length c,.aU (nV k),eS (sM g0) l.length c,.aU (nV q),eS (sM g0) l.length c,.aU (nV q),eA (aZ g0) (q:Int) 1,eI (m.getD (q:Int).toNat 0),eS (sM g0) l.length c,.aU (nV k),eA (aZ g0) (k:Int) 1,eI (m.getD (k:Int).toNat 0),eA (aZ g0) (k:Int) 1,.aU undef,eA (aZ g0) (q:Int) 1,.aU undef]) (fun ls vs w_=>match ls 15 with|true=>(Mem (bx.row 3 1 (sM g0) l.length c (ints l)).fp w w_ [.row 3 1 (sM g0) l.length c (((ints m).set (((k:Int)).toNat*1) (vI (m.getD (q:Int).toNat 0))).set (((q:Int)).toNat*1) (vI (m.getD (k:Int).toNat 0)))])|false=>(match ls 13 with|true=>(Mem (bx.row 3 1 (sM g0) l.length c (ints l)).fp w w_ [.row 3 1 (sM g0) l.length c ((ints m).set (((k:Int)).toNat*1) (vI (m.getD (q:Int).toNat 0)))])|false=>(Mem (bx.row 3 1 (sM g0) l.length c (ints l)).fp w w_ [.row 3 1 (sM g0) l.length c (ints m)]))) fr (eL (.aU (.aU (.aU (.aU (.aU (.aU (.aU (.aU (.aU (.aU (.aU (.aU (.aU (.aU (.aU (.aU .nil))))))))))))))))) (M4.aw (Mem.drew _)) (la (kV (dT lz bM bM bM bM bM bM (yd (aZ g0) l.length 1 (q:Int) fun _ _ _ _ h=>h) (mP (aN (aZ g0) (q:Int) 1) (vI (m.getD (q:Int).toNat 0)) (fun _ _ _ _ h=>h) ?_) bM bM (yd (aZ g0) l.length 1 (k:Int) fun _ _ _ _ h=>h) (mP (aN (aZ g0) (k:Int) 1) (vI (m.getD (k:Int).toNat 0)) (fun _ _ _ _ h=>h) ?_)) (yd (aZ g0) l.length 1 (k:Int) fun _ _ _ _ h=>h) ?_ (yd (aZ g0) l.length 1 (q:Int) fun _ _ _ _ h=>h)) ?_) ?_;intro w_ ls vs hJ bI bH hp;have f13:=aR 13 16 bH bI;have f15:=aR 15 16 bH bI;have aO:=hJ;simp only[f13,f15]at aO;exact(dZ (aD (aO.get 0 rfl)) rfl oM oM);intro w_ ls vs hJ bI bH hp;have f13:=aR 13 16 bH bI;have f15:=aR 15 16 bH bI;have aO:=hJ;simp only[f13,f15]at aO;exact(dZ (aD (aO.get 0 rfl)) rfl oM oM);intro ep w_ ls vs cL hJ bI bH hp hF;refine jv (g0:=none) ?_;replace hF:Fr ep 28 [(21,(vI (m.getD (q:Int).toNat 0))),(26,(vP (aN (aZ g0) (k:Int) 1)))]:=hF.kp [21,26];have f13:ls 13=false:=bI;have f15:=aR 15 16 bH bI;have aO:=hJ;simp only[f13,f15]at aO;refine ew (kR:ax _ 0=some (none,.store 3 (.tmp 26) (.tmp 21),0,none)) hF kR kR (k':=1) rfl (ad:=(aZ g0)) (j:=(((k:Int)).toNat*1)) (e:=3) (size:=1) (n:=l.length) (cap:=c) (v:=(vI (m.getD (q:Int).toNat 0))) (xs:=(ints m)) (ad':=(aN (aZ g0) (k:Int) 1)) kR rfl kR kR rfl aO 0 rfl oM ?_;intro w2 dH _ a2 ea _;refine aL kR ?_;refine bu (d:=none) kR ea rfl ?_;show match ls 15 with|true=>_|false=>(_)
 rw[f15];exact dH;intro ep w_ ls vs cL hJ bI bH hp hF;refine jv (g0:=none) ?_;replace hF:Fr ep 28 [(25,(vI (m.getD (k:Int).toNat 0))),(27,(vP (aN (aZ g0) (q:Int) 1)))]:=hF.kp [25,27];have f13:=cN 13 16 bH hp;have f15:ls 15=false:=bI;have aO:=hJ;simp only[f13,f15]at aO;refine ew (kR:ax _ 0=some (none,.store 3 (.tmp 27) (.tmp 25),0,none)) hF kR kR (k':=1) rfl (ad:=(aZ g0)) (j:=(((q:Int)).toNat*1)) (e:=3) (size:=1) (n:=l.length) (cap:=c) (v:=(vI (m.getD (k:Int).toNat 0))) (xs:=((ints m).set (((k:Int)).toNat*1) (vI (m.getD (q:Int).toNat 0)))) (ad':=(aN (aZ g0) (q:Int) 1)) kR rfl kR kR rfl aO 0 rfl oM ?_;intro w2 dH _ a2 ea _;refine aL kR ?_;refine bu (d:=none) kR ea rfl ?_;show _;exact dH;intro aC KG ls vs cV lH hv fr;simp only[show ls 15=true from cV 15 dQ]at lH;revert aC;refine bX [(0,vS (sM g0) l.length c),(2,nV k),(3,nV q)] ?_;clear cV hv fr aC M4;clear vs ls;refine cG<|ah 1<|cZ ((k:Int)+1)<|ah 1<|cZ ((q:Int)-1)<|ah 2<|ay ?_;intro aC fr;replace fr:Fr aC 28 [(0,.slice (sM g0) l.length c),(2,vI ((k+1:Nat):Int)),(3,vI ((l.length:Int)-1-((k+1:Nat):Int)))]:=by rw[show((l.length:Int)-1-((k+1:Nat):Int))=(q:Int)-1 by omega];exact fr.keep (keep:=[0,2,3]) kR
 exact⟨l.length-(k+1),oM,k+1,(m.set k (m.getD q 0)).set q (m.getD k 0),rfl,fr.kp [0,2,3],(lH.cast (by rw[ints_set,ints_set];simp only[Qoq,Qoz])),oM,Dn hs oM⟩
end Go.Proofs.YtejbeeaomokjpaaGreat
namespace Go.Proofs.YtejbeeaomokjpaaGreat
open Go.Mor
theorem Dp(nm wk pa va:Value)(A:ar)(c:Nat)(bs:List SB)(w:World)(hm:bs.length≤1000000)(hA:RO bq w (.blocks A bs)):Calls Tryz.prog 66 #[(.agg #[nm,wk,pa,va,(.slice A bs.length c)])] w (ez fun v w'=>∃A' c',v=vS A' (aH bs).length c'∧Mem bq w w' [.row 3 1 A' (aH bs).length c' (ints (aH bs))]):=by
 refine fv 83 [(.agg #[nm,wk,pa,va,(.slice A bs.length c)])] Tryz.func66 ?_;have hM:=Mem.init w;refine aI<|ou hM 30 (.agg #[nm,wk,pa,va,(.slice A bs.length c)]) [nm,wk,pa,va,(.slice A bs.length c)] fun b1 w2 jU M3=> ?_
 replace M3:=M3.nf;clear hM;refine ah 1<|ay<|ba<|aI<|ah 1<|bt (ao b1 4) (.slice A bs.length c) (ae (M3.get 0 rfl) rfl)<|ah 1<|jP (((bs.length:Nat):Int)==0) fun Bz hBz=> ?_
 refine ay ?_;cases Bz;have cz:¬(((bs.length:Nat):Int)=0):=L3 hBz;refine fT<|bP<|aI<|ah 1<|bt (ao b1 4) (.slice A bs.length c) (ae (M3.get 0 rfl) rfl)<|ah 1<|di (Mc bs.length w2 oM) ?_;rintro _ w5 ⟨g4,rfl,M6x⟩;have M6:=M3.cl M6x;refine ah 1<|ay<|aI<|ah 1<|di (vs:=#[(.slice (sM g4) ((bs.length+63) / 64) ((bs.length+63) / 64)),(.int .i64 0)]) (Z8 (List.replicate ((bs.length+63) / 64) 0) ((bs.length+63) / 64) 0 (sM g4) ((bs.length+63) / 64) w5 (Fit.zero _) oM sI (by simp;omega) (M6.get 1 rfl)) ?_;rintro _ w7 ⟨rfl,M8x⟩;have M8:=M6.md 1 rfl M8x;refine ay<|aX<|aI<|ah 1 ?_;intro aC fr;refine nX 20 158 1 #[(0,(.tmp 19))] 158 fr (e:=157) (size:=2) (zs:=[(.int .i64 0),(.int .i64 0)]) (vs:=[(0,(.agg #[(.int .i64 0),(.int .i64 0)]))]) (cs:=[(.int .i64 0),(.int .i64 0)]) M8 ?_;intro b9 GP hb9 _ n5 _ aC ea fr;clear ea;replace n5:=n5.nf;revert aC;refine ah 1<|ay<|ba<|cr 0 ?_;obtain⟨s0,Fl,lO⟩:=uT bs;intro aC fr;refine fk (fun n_ a_ w_=>∃(ws:List Nat) (S:Int→Bool) (qU:List (Int×Nat)) (A3:ar) (c3:Nat) (A2:ar) (n2:Nat) (c2:Nat) (o:af),n_=4*jG bs.length S+Fs (tg bs) qU∧Fr a_ 83 [(1,(pT b1 0)),(3,(.slice (sM g4) ((bs.length+63) / 64) ((bs.length+63) / 64))),(4,(.slice A2 n2 c2)),(5,(.slice A3 qU.length c3))]∧Mem bq w w_ [.aB b1 30 [nm,wk,pa,va,(.slice A bs.length c)],.row 191 1 (sM g4) ((bs.length+63) / 64) ((bs.length+63) / 64) (kZ ws),.row 157 2 A3 qU.length c3 (qg qU),.row 3 1 A2 n2 c2 (ints o)]∧(MetL bs.length ws S)∧(Fq (tg bs) qU (S,o) (Fp bs))∧(BE (tg bs) qU)∧(o.length+qU.length+jG bs.length S≤bs.length)∧(n2=o.length)) (n:=_) ⟨xY (List.replicate ((bs.length+63) / 64) 0) 0,fI (fun _=>false) 0,[(0,0)],(sM b9),1,none,0,0,[],rfl,fr.kp [1,3,4,5],(n5.call (Mem.dY _ 3 1)),(MetL.start bs.length).put oM,⟨s0,Fl,lO⟩,Wf _ _,by have:=gg (n:=bs.length) (S:=fun _=>false) (t:=0) oM oM rfl;have:=kC bs.length (fun _=>false);simp only[QoE,Qo3];omega,rfl⟩ ?_;clear fr aC n5;rintro n aC UA ⟨ws,S,qU,A3,c3,A2,n2,c2,o,rfl,fr,mR,yq,Ai,Wh,yr,KD⟩;revert aC;refine ba<|aI<|ah 2<|jP (decide (((qU.length:Nat):Int)>0)) fun Bw Z9=> ?_
 refine ay ?_;cases Bw;have cw:¬(((qU.length:Nat):Int)>0):=QnR Z9.symm;refine fT<|eW 0<|eX<|aI ?_;obtain rfl:qU=[]:=by cases qU with|nil=>rfl|cons p r=>simp at cw
 have hol:o=Fp bs:=Ai;simp only[Qo3]at yr;subst KD;refine ah 1<|di (Md o A2 c2 UA oM (mR.get 3 rfl)) ?_;rintro _ Wz ⟨rfl,L9⟩;have qf:=mR.md 3 rfl L9;refine ay<|aX<|bL<|cv (.slice A2 o.length c2) ?_;exact oi (qf.pick [false,false,false,true] rfl) (by unfold aH;rw[Ds oM,hol]) sI;have cw:((qU.length:Nat):Int)>0:=QlT Z9.symm;refine fm<|bP<|cr 1<|aI ?_;obtain⟨b,k,rest,rfl⟩:∃b k rest,qU=(b,k)::rest:=by
   cases qU with
   |nil=>simp at cw
   |cons p rest=>exact⟨p.1,p.2,rest,rfl⟩
 have Qk:=Wh _ (Qop ..);simp only at Qk;have OV:((b,k)::rest).length=rest.length+1:=rfl;have Fv:=yr;simp only[QoE]at Fv;have jB:=pR (mR.get 2 rfl);obtain⟨g3,rfl⟩:=df (mR.get 2 rfl) (Nat.succ_pos _);refine ah 3 ?_;intro aC fr;refine gv (kR:ax _ 3=some (some 27,(.binOp .sub 3 (.tmp 26) (.const (.int .i64 1)) 3),3,none)) fr kR kR (k':=4) rfl (i:=((((b,k)::rest).length:Nat):Int)) (j:=1) (z:=((rest.length:Nat):Int)) kR kR (Qlh some (by rw[OV];omega)) oM oM ?_;intro aC ea fr;clear ea;revert aC;refine ej (aZ g3) (((b,k)::rest).length) 2 ((rest.length:Nat):Int)<|ah 1<|ay<|ba<|bX [(1,(pT b1 0)),(3,(.slice (sM g4) ((bs.length+63) / 64) ((bs.length+63) / 64))),(4,(.slice A2 n2 c2)),(5,(.slice (sM g3) (((b,k)::rest).length) c3)),(6,(.pointer (some (((aZ g3):Addr).add ((((rest.length:Nat):Int)).toNat*2)))))] ?_;intro aC fr;refine ED (N:=83) (env0:=[(1,(pT b1 0)),(3,(.slice (sM g4) ((bs.length+63) / 64) ((bs.length+63) / 64))),(4,(.slice A2 n2 c2)),(5,(.slice (sM g3) (((b,k)::rest).length) c3)),(6,(.pointer (some (((aZ g3):Addr).add ((((rest.length:Nat):Int)).toNat*2)))))]) (bo [.aU (.agg #[nm,wk,pa,va,(.slice A bs.length c)]),.aU (.pointer (some (((aZ g3):Addr).add ((((rest.length:Nat):Int)).toNat*2)))),.aU (.pointer (some (((aZ g3):Addr).add ((((rest.length:Nat):Int)).toNat*2)))),.aU (.pointer (some (((aZ g3):Addr).add ((((rest.length:Nat):Int)).toNat*2)))),.aU (.int .i64 b),Spec.free,Spec.free]) (fun ls vs w_=>match ls 6 with|true=>(∃(Wi:ar) (HB:Nat),vs 6=(.slice Wi ((tg bs b).length) HB)∧Mem bq w w_ [.aB b1 30 [nm,wk,pa,va,(.slice A bs.length c)],.row 191 1 (sM g4) ((bs.length+63) / 64) ((bs.length+63) / 64) (kZ ws),.row 157 2 (sM g3) (((b,k)::rest).length) c3 (qg ((b,k)::rest)),.row 3 1 A2 n2 c2 (ints o),.row 3 1 Wi ((tg bs b).length) HB (ints (tg bs b))])|false=>(match ls 5 with|true=>(∃(Wi:ar) (HB:Nat),vs 5=(.slice Wi ((tg bs b).length) HB)∧Mem bq w w_ [.aB b1 30 [nm,wk,pa,va,(.slice A bs.length c)],.row 191 1 (sM g4) ((bs.length+63) / 64) ((bs.length+63) / 64) (kZ ws),.row 157 2 (sM g3) (((b,k)::rest).length) c3 (qg ((b,k)::rest)),.row 3 1 A2 n2 c2 (ints o),.row 3 1 Wi ((tg bs b).length) HB (ints (tg bs b))])|false=>(Mem bq w w_ [.aB b1 30 [nm,wk,pa,va,(.slice A bs.length c)],.row 191 1 (sM g4) ((bs.length+63) / 64) ((bs.length+63) / 64) (kZ ws),.row 157 2 (sM g3) (((b,k)::rest).length) c3 (qg ((b,k)::rest)),.row 3 1 A2 n2 c2 (ints o)]))) fr (eL (.aU (.aU (.aU (.aU (.aU (.free (.free .nil)))))))) (mR.aw (Mem.drew _)) (rM (sv lz ?_ bM bM bM (mP (((aZ g3):Addr).add ((((rest.length:Nat):Int)).toNat*2)) (.int .i64 b) (fun _ _ _ _ h=>h) ?_)) ?_ ?_) ?_;intro ep w_ ls vs cL hJ bI bH hp hF;refine jv (g0:=none) ?_;replace hF:Fr ep 83 [(1,(pT b1 0))]:=hF.kp [1];have f5:=aR 5 7 bH bI;have f6:=aR 6 7 bH bI;have aO:=hJ;simp only[f5,f6]at aO;refine fQ (kR:ax _ 0=some (some 29,(.load 30 (.tmp 1)),30,none)) hF kR kR (k':=1) rfl (ad:=aZ b1) (vs:=[nm,wk,pa,va,(.slice A bs.length c)]) kR kR (aW (aO.get 0 rfl)) ?_;intro a2 ea _;refine aL kR ?_;exact bu (d:=some 29) kR ea rfl hJ;intro w_ ls vs hJ bI bH hp;have f5:=aR 5 7 bH bI;have f6:=aR 6 7 bH bI;have aO:=hJ;simp only[f5,f6]at aO;exact(by rw[Qoq];exact jC (aD (aO.get 2 rfl)) rfl tF.1);intro ep w_ ls vs cL hJ bI bH hp hF;refine jv (g0:=none) ?_;replace hF:Fr ep 83 [(29,(.agg #[nm,wk,pa,va,(.slice A bs.length c)])),(33,(.int .i64 b))]:=hF.kp [29,33];have f5:ls 5=false:=bI;have f6:=aR 6 7 bH bI;have aO:=hJ;simp only[f5,f6]at aO;refine gK (kR:ax _ 0=some (some 34,(.call {callee:=(.value (.func 100)),args:=#[(.tmp 29),(.tmp 33)],argTypes:=#[30,3]}),43,none)) hF kR kR (k':=1) rfl (f:=100) (vs:=[(.agg #[nm,wk,pa,va,(.slice A bs.length c)]),(.int .i64 b)]) (cap:=[]) kR kR kR (BB _ _ _ _ A c bs b w_ hm (hA.at_ aO)) ?_;rintro _ w2 ⟨Wj,Wl,rfl,dH⟩ a2 ea _;have Me:=aO.call dH;refine aL kR ?_;refine bu (d:=some 34) kR ea trivial ?_;show match ls 6 with|true=>_|false=>(∃(Wi:ar) (HB:Nat),_)
 rw[f6];exact⟨Wj,Wl,rfl,Me⟩;intro ep w_ ls vs cL hJ bI bH hp hF;refine jv (g0:=none) ?_;replace hF:Fr ep 83 [(34,vs 5)]:=hF.kp [34];have f5:=cN 5 7 bH hp;have f6:ls 6=false:=bI;have aO:=hJ;simp only[f5,f6]at aO;obtain⟨Wj,Wl,e_,dH⟩:=aO;rw[e_]at hF;refine fg (kR:ax _ 0=some (some 7,(.assign (.tmp 34)),43,none)) hF kR kR (k':=1) rfl (v:=(.slice Wj ((tg bs b).length) Wl)) kR ?_;intro a2 ea _;refine aL kR ?_;refine bu (d:=some 7) kR ea trivial ?_;show∃(Wi:ar) (HB:Nat),_;exact⟨Wj,Wl,rfl,dH⟩;intro aC w34 ls vs cV ma hv fr;simp only[show ls 6=true from cV 6 dQ]at ma;revert aC;refine bX [(1,(pT b1 0)),(3,(.slice (sM g4) ((bs.length+63) / 64) ((bs.length+63) / 64))),(4,(.slice A2 n2 c2)),(5,(.slice (sM g3) (((b,k)::rest).length) c3)),(6,(.pointer (some (((aZ g3):Addr).add ((((rest.length:Nat):Int)).toNat*2))))),(7,vs 6)] ?_;obtain⟨Wi,HB,e_,ma⟩:=ma;rw[e_];clear e_;clear cV hv fr aC mR;clear vs ls;refine ba<|aI<|ah 3<|bt ((((aZ g3):Addr).add ((((rest.length:Nat):Int)).toNat*2)).add 1) (nV k) (by rw[Qoq,add_add];exact jC (aD (ma.get 2 rfl)) rfl tF.2)<|ah 2<|jP ((k:Int)==(((tg bs b).length:Nat):Int)) fun Bl Xg=> ?_
 refine ay ?_;cases Bl;have cl:¬((k:Int)=(((tg bs b).length:Nat):Int)):=L3 Xg;refine fT<|bP<|aI ?_;obtain⟨ti,Io,Mf⟩:=Qp (bs:=bs) (b:=b) (k:=k) oM;refine ah 4<|bt ((((aZ g3):Addr).add ((((rest.length:Nat):Int)).toNat*2)).add 1) (nV k) (by rw[Qoq,add_add];exact jC (aD (ma.get 2 rfl)) rfl tF.2) ?_;obtain⟨g37,rfl⟩:=df (ma.get 4 rfl) oM;refine ej (h1:=oM) (aZ g37) ((tg bs b).length) 1 (k:Int)<|bt (((aZ g37):Addr).add (((k:Int)).toNat*1)) (nV ti) (fx (aD (ma.get 4 rfl)) rfl Io)<|ah 1<|ay<|aI<|ah 3<|bt ((((aZ g3):Addr).add ((((rest.length:Nat):Int)).toNat*2)).add 1) (nV k) (by rw[Qoq,add_add];exact jC (aD (ma.get 2 rfl)) rfl tF.2)<|cZ (h2:=(by have:=pY bs b;omega)) ((k:Int)+1)<|ah 2<|yc ma 2 ((((aZ g3):Addr).add ((((rest.length:Nat):Int)).toNat*2)).add 1) (rest.length*2+1) (.int .i64 ((k:Int)+1)) rfl (by rw[Qoq,add_add]) (by rw[OV];omega) fun w38 zC=> ?_
 replace zC:=zC.nf;refine ay<|aI ?_;have uz:=bd [.aB b1 30 [nm,wk,pa,va,(.slice A bs.length c)],.row 191 1 (sM g4) ((bs.length+63) / 64) ((bs.length+63) / 64) (kZ ws),.row 157 2 (sM g3) (((b,k+1)::rest).length) c3 (qg ((b,k+1)::rest)),.row 3 1 A2 n2 c2 (ints o),.row 3 1 (sM g37) ((tg bs b).length) HB (ints (tg bs b))] (zC.cast (by rw[We];rfl));refine ah 2<|di (QbG ws ((bs.length+63) / 64) ti (sM g4) ((bs.length+63) / 64) w38 yq.fit oM yq.len.symm (yq.idx Mf) (RO.aD (uz.cK 1 rfl))) ?_;rintro _ w41 ⟨rfl,QbH⟩;have zT:=uz.cl QbH;obtain⟨Bm,hBm⟩:∃B,B=tb ws ti:=⟨_,rfl⟩;refine bX [(1,(pT b1 0)),(3,(.slice (sM g4) ((bs.length+63) / 64) ((bs.length+63) / 64))),(4,(.slice A2 n2 c2)),(5,(.slice (sM g3) (((b,k+1)::rest).length) c3)),(8,(nV ti)),(68,(.slice (sM g4) ((bs.length+63) / 64) ((bs.length+63) / 64))),(69,(nV ti)),(70,(.bool (tb ws ti)))] ?_;rw[←hBm];refine ah 1<|ay ?_;cases Bm;have cm:(tb ws ti)=false:=hBm.symm;have Wm:S (ti:Int)=false:=by rw[←yq.bits ti Mf];exact cm
 refine fm<|aI<|ah 2<|di (Z8 ws ((bs.length+63) / 64) ti (sM g4) ((bs.length+63) / 64) w41 yq.fit oM yq.len.symm (yq.idx Mf) (zT.get 1 rfl)) ?_;rintro _ w43 ⟨rfl,QbI⟩;have Ap:=zT.md 1 rfl QbI;refine ay<|cG<|ah 3 ?_;intro aC fr;refine nX 78 158 1 #[(0,(.tmp 77))] 158 fr (e:=157) (size:=2) (zs:=[(.int .i64 0),(.int .i64 0)]) (vs:=[(0,(.agg #[(nV ti),(.int .i64 0)]))]) (cs:=[(nV ti),(.int .i64 0)]) Ap ?_;intro zU w46 QhX _ EG _ aC ea fr;clear ea;replace EG:=EG.nf;refine wz 79 (.tmp 75) (.tmp 78) 158 158 fr (e:=157) (size:=2) (bytes:=16) (z:=(.agg #[(.int .i64 0),(.int .i64 0)])) (A:=(sM g3)) (B:=(sM zU)) (n:=(((b,k+1)::rest).length)) (cap:=c3) (m:=1) (cap':=1) (xs:=(qg ((b,k+1)::rest))) (news:=[(nV ti),(.int .i64 0)]) EG 2 rfl (aD (EG.get 5 rfl)) rfl (by simp[Value.oneCell']) (by simp only[QoE];omega) (by simp only[maxLen,QoE];omega) ?_;intro iP gC w54 pG _ aC ea fr;clear ea;replace pG:=pG.nf;have rL:=pG.od [4,4,4,4,4] 5;revert aC;refine ah 1<|ay ?_;intro aC fr;exact⟨4*jG bs.length (fI S (ti:Int))+Fs (tg bs) (((ti:Int),0)::(b,k+1)::rest),by have:=pY bs (ti:Int);have:=gg (n:=bs.length) (S:=S) (t:=(ti:Int)) oM oM Wm;simp only[Fs];omega,xY ws ti,fI S (ti:Int),((ti:Int),0)::(b,k+1)::rest,iP,gC,A2,n2,c2,o,rfl,fr.kp [1,3,4,5],((rL.pick [true,true,true,true,false] rfl).cast (by rw[lh ((ti:Int),0)];rfl)),yq.put Mf,Qn Ai Io Wm,Qo Wh oM,by have:=gg (n:=bs.length) (S:=S) (t:=(ti:Int)) oM oM Wm;simp only[QoE]at yr⊢;omega,KD⟩;have cm:(tb ws ti)=true:=hBm.symm;have Wm:S (ti:Int)=true:=by rw[←yq.bits ti Mf];exact cm
 refine fT<|bP ?_;intro aC fr;exact⟨4*jG bs.length S+Fs (tg bs) ((b,k+1)::rest),by simp only[Fs];omega,ws,S,(b,k+1)::rest,(sM g3),c3,A2,n2,c2,o,rfl,fr.kp [1,3,4,5],(zT.pick [true,true,true,true,false] rfl),yq,Qm Ai Io Wm,Wg Wh oM,by simp only[QoE]at yr⊢;omega,KD⟩;have cl:(k:Int)=(((tg bs b).length:Nat):Int):=Qco.1 Xg.symm;refine fm<|aI<|ah 4<|bt (((aZ g3):Addr).add ((((rest.length:Nat):Int)).toNat*2)) (.int .i64 b) (by rw[Qoq];exact jC (aD (ma.get 2 rfl)) rfl tF.1) ?_;intro aC fr;refine nX 47 43 1 #[(0,(.tmp 46))] 43 fr (e:=3) (size:=1) (zs:=[(.int .i64 0)]) (vs:=[(0,(.int .i64 b))]) (cs:=[(.int .i64 b)]) ma ?_;intro b63 w64 hb63 _ HC _ aC ea fr;clear ea;replace HC:=HC.nf;refine wz 48 (.tmp 42) (.tmp 47) 43 43 fr (e:=3) (size:=1) (bytes:=8) (z:=(.int .i64 0)) (A:=A2) (B:=(sM b63)) (n:=n2) (cap:=c2) (m:=1) (cap':=1) (xs:=(ints o)) (news:=[(.int .i64 b)]) HC 3 rfl (aD (HC.get 5 rfl)) rfl (by simp[Value.oneCell']) oM (by simp only[maxLen];omega) ?_;intro A70 OW w72 Dq _ aC ea fr;clear ea;replace Dq:=Dq.nf;have sw:=Dq.od [4,4,4,4,4] 5;revert aC;refine ah 1<|ay<|aI<|ah 3 ?_;intro aC fr;refine gv (kR:ax _ 3=some (some 52,(.binOp .sub 3 (.tmp 51) (.const (.int .i64 1)) 3),3,none)) fr kR kR (k':=4) rfl (i:=((((b,k)::rest).length:Nat):Int)) (j:=1) (z:=((rest.length:Nat):Int)) kR kR (Qlh some (by rw[OV];omega)) oM oM ?_;intro aC ea fr;clear ea;refine gx (kR:ax _ 4=some (some 53,(.slice 158 (.tmp 49) none (some (.tmp 52)) none),158,none)) fr kR kR (k':=5) rfl (A:=(sM g3)) (n:=((b,k)::rest).length) (cap:=c3) (e:=157) (size:=2) (kd:= .i64) (i:=((rest.length:Nat):Int)) rest.length kR kR rfl kR kR oM ?_;intro aC ea fr;clear ea;have n8:=bd [.aB b1 30 [nm,wk,pa,va,(.slice A bs.length c)],.row 191 1 (sM g4) ((bs.length+63) / 64) ((bs.length+63) / 64) (kZ ws),.row 157 2 (sM g3) rest.length c3 (qg rest),.row 3 1 A70 (n2+1) OW ((ints o)++[(.int .i64 b)]),.row 3 1 Wi ((tg bs b).length) HB (ints (tg bs b))] ((sw.lD 2 rfl rest.length oM).cast (by rw[Wd];rfl));revert aC;refine ah 1<|ay<|eW 1<|eX ?_;intro aC fr;exact⟨4*jG bs.length S+Fs (tg bs) rest,by simp only[Fs];omega,ws,S,rest,(sM g3),c3,A70,(n2+1),OW,o++[b],rfl,fr.kp [1,3,4,5],((n8.pick [true,true,true,true,false] rfl).cast (by rw[fG];rfl)),yq,Wc Ai oM,fun p hp=>Wh p (Qmq _ hp),by simp only[QoG,QoE,Qo3]at yr⊢;omega,by simp only[QoG,QoE,Qo3];omega⟩;have cz:((bs.length:Nat):Int)=0:=Qco.1 hBz.symm;refine fm<|aX<|bL<|cv an ?_;exact qP (M3.pick [false] rfl) (by unfold aH;rw[Kt oM])
end Go.Proofs.YtejbeeaomokjpaaGreat
namespace Go.Proofs.YtejbeeaomokjpaaGreat
open Go.Mor
theorem Iq(nm wk pa va:Value)(A:ar)(c:Nat)(bs:List SB)(bar:Int)(w:World)(hm:bs.length≤1000000)(hA:RO bq w (.blocks A bs)):Calls Tryz.prog 35 #[(.agg #[nm,wk,pa,va,vS A bs.length c]),vI bar] w (ez fun v w'=>∃A' c',v=vS A' bs.length c'∧Mem bq w w' [.row 4 1 A' bs.length c' (bS (gh bs bar))]):=by
 refine fv 74 [(.agg #[nm,wk,pa,va,vS A bs.length c]),vI bar] Tryz.func35 ?_;have hM:=Mem.init w;refine aI<|ou hM 30 (.agg #[nm,wk,pa,va,vS A bs.length c]) [nm,wk,pa,va,vS A bs.length c] fun b1 w2 jU M3=> ?_
 replace M3:=M3.nf;clear hM;refine ah 1<|ay<|aI<|ah 1<|bt (ao b1 4) _ (ae (M3.get 0 rfl) rfl)<|ah 1 ?_;intro aC fr;refine P6 13 56 (.tmp 12) (.tmp 12) 56 fr (e:=4) (bytes:=1) (z:=(vB false)) (n:=bs.length) (i:=(bs.length:Int)) oM (by simp only[maxLen];omega) M3 ?_;intro b4 w5 U3 _ M6 _ aC ea fr;clear ea;replace M6:=M6.nf;revert aC;refine ah 1<|ay<|ba<|aI<|ah 1<|bt (ao b1 4) _ (ae (M6.get 0 rfl) rfl)<|ah 1<|jP ((bs.length:Int)==0) fun Bz hBz=> ?_
 refine ah 1 ?_;cases Bz;have cz:¬((bs.length:Int)=0):=L3 hBz;refine ah 1<|jP (bar==0) fun Bb hBb=> ?_
 refine ah 1<|ay ?_;cases Bb;have cb:¬(bar=0):=L3 hBb;refine fT<|bP<|aI<|ah 1<|ej (aZ b4) bs.length 1 0<|yc M6 1 (aN (aZ b4) (0:Int) 1) ((0:Int).toNat*1) (vB true) rfl rfl oM fun Dr dE=> ?_
 replace dE:=dE.nf;refine da [1,2,5]<|ay<|aI ?_;intro aC fr;refine nX 25 43 1 #[(0,.const (vI 0))] 43 fr (e:=3) (size:=1) (zs:=[vI 0]) (vs:=[(0,vI 0)]) (cs:=[vI 0]) dE ?_;intro b13 N6 hb13 _ mS _ aC ea fr;clear ea;replace mS:=mS.nf;revert aC;refine ah 1<|ay<|ba<|aX<|cr 0 ?_;intro aC fr;refine fk (fun n_ a_ w_=>∃(i:Nat) (S:Int→Bool) (inl:List Bool) (todo:af) (A2:ar) (n2:Nat) (c2:Nat),n_=bs.length-i∧Fr a_ 74 [(1,vI bar),(2,pT b1 0),(5,vS (sM b4) bs.length bs.length),(6,vS A2 n2 c2),(7,nV i)]∧Mem bq w w_ [.aB b1 30 [nm,wk,pa,va,vS A bs.length c],.row 4 1 (sM b4) bs.length bs.length (bS inl),.row 3 1 A2 n2 c2 (ints todo)]∧(j9 bs.length inl S)∧(Fx (tg bs) bar S todo i 0)∧(todo.length+jG bs.length S≤bs.length)∧(n2=todo.length)∧(i≤todo.length)) (n:=_) ⟨0,fI (fun _=>false) 0,(List.replicate bs.length false).set 0 true,[0],(sM b13),1,1,rfl,fr.kp [1,2,5,6,7],(mS.cast (by simp[bS,ints,Qpk])),(j9.start bs.length).put oM,Fx.start _ _,by have:=gg (n:=bs.length) (S:=fun _=>false) (t:=0) oM oM rfl;have:=kC bs.length (fun _=>false);simp only[QoE,Qo3];omega,rfl,oM⟩ ?_;clear fr aC mS;rintro n aC Wz ⟨i,S,inl,todo,A2,n2,c2,rfl,fr,qf,nY,hbf,yr,KD,hi⟩;revert aC;refine ba<|aI<|ah 3<|jP (decide ((i:Int)<(n2:Int))) fun Bw Z9=> ?_
 refine ay ?_;cases Bw;have cw:¬((i:Int)<(n2:Int)):=QnR Z9.symm;refine fT<|eW 0<|eX<|aX<|bL<|cv (vS (sM b4) bs.length bs.length) ?_;have eu:=qf.od [1] 1;exact⟨_,_,rfl,(eu).cast (by rw[Qt nY hbf oM oM])⟩;have cw:(i:Int)<(n2:Int):=QlT Z9.symm;refine fm<|bP<|ba<|cr 1<|ba ?_;obtain⟨b,hb⟩:∃b,todo[i]?=some b:=⟨_,List.getElem?_eq_getElem oM⟩;obtain⟨g3,rfl⟩:=df (qf.get 2 rfl) oM;have GS:=pY bs b;refine da [1,2,5,6,7,29] ?_;intro aC fr;refine ED (bo [.aU (.agg #[nm,wk,pa,va,vS A bs.length c]),eS (sM g3) n2 c2,.aU (nV i),eA (aZ g3) (i:Int) 1,eI b,Spec.free,Spec.free]) (fun ls vs w_=>match ls 6 with|true=>(∃(U4:ar) (Mh:Nat),vs 6=(vS U4 ((tg bs b).length) Mh)∧Mem bq w w_ [.aB b1 30 [nm,wk,pa,va,vS A bs.length c],.row 4 1 (sM b4) bs.length bs.length (bS inl),.row 3 1 (sM g3) n2 c2 (ints todo),.row 3 1 U4 ((tg bs b).length) Mh (ints (tg bs b))])|false=>(match ls 5 with|true=>(∃(U4:ar) (Mh:Nat),vs 5=(vS U4 ((tg bs b).length) Mh)∧Mem bq w w_ [.aB b1 30 [nm,wk,pa,va,vS A bs.length c],.row 4 1 (sM b4) bs.length bs.length (bS inl),.row 3 1 (sM g3) n2 c2 (ints todo),.row 3 1 U4 ((tg bs b).length) Mh (ints (tg bs b))])|false=>(Mem bq w w_ [.aB b1 30 [nm,wk,pa,va,vS A bs.length c],.row 4 1 (sM b4) bs.length bs.length (bS inl),.row 3 1 (sM g3) n2 c2 (ints todo)]))) fr (eL (.aU (.aU (.aU (.aU (.aU (.free (.free .nil)))))))) (qf.aw (Mem.drew _)) (rM (sv lz ?_ bM bM (yd (aZ g3) n2 1 (i:Int) fun _ _ _ _ h=>h) (mP (aN (aZ g3) (i:Int) 1) (vI b) (fun _ _ _ _ h=>h) ?_)) ?_ ?_) ?_;intro ep w_ ls vs cL hJ bI bH hp hF;refine jv (g0:=none) ?_;replace hF:Fr ep 74 [(2,pT b1 0)]:=hF.kp [2];have f5:=aR 5 7 bH bI;have f6:=aR 6 7 bH bI;have aO:=hJ;simp only[f5,f6]at aO;refine fQ (kR:ax _ 0=some (some 32,.load 30 (.tmp 2),30,none)) hF kR kR (k':=1) rfl (ad:=aZ b1) (vs:=[nm,wk,pa,va,vS A bs.length c]) kR kR (aW (aO.get 0 rfl)) ?_;intro a2 ea _;refine aL kR ?_;exact bu (d:=some 32) kR ea rfl hJ;intro w_ ls vs hJ bI bH hp;have f5:=aR 5 7 bH bI;have f6:=aR 6 7 bH bI;have aO:=hJ;simp only[f5,f6]at aO;exact(fx (aD (aO.get 2 rfl)) rfl hb);intro ep w_ ls vs cL hJ bI bH hp hF;refine jv (g0:=none) ?_;replace hF:Fr ep 74 [(32,(.agg #[nm,wk,pa,va,vS A bs.length c])),(36,vI b)]:=hF.kp [32,36];have f5:ls 5=false:=bI;have f6:=aR 6 7 bH bI;have aO:=hJ;simp only[f5,f6]at aO;refine gK (kR:ax _ 0=some (some 37,(.call {callee:=(.value (.func 60)),args:=#[.tmp 32,.tmp 36],argTypes:=#[30,3]}),43,none)) hF kR kR (k':=1) rfl (f:=60) (vs:=[(.agg #[nm,wk,pa,va,vS A bs.length c]),vI b]) (cap:=[]) kR kR kR (yl _ _ _ _ A c bs b w_ hm (hA.at_ aO)) ?_;rintro _ w2 ⟨Wo,Wp,rfl,dH⟩ a2 ea _;have Me:=aO.call dH;refine aL kR ?_;refine bu (d:=some 37) kR ea trivial ?_;show match ls 6 with|true=>_|false=>(∃(U4:ar) (Mh:Nat),_)
 rw[f6];exact⟨Wo,Wp,rfl,Me⟩;intro ep w_ ls vs cL hJ bI bH hp hF;refine jv (g0:=none) ?_;replace hF:Fr ep 74 [(37,vs 5)]:=hF.kp [37];have f5:=cN 5 7 bH hp;have f6:ls 6=false:=bI;have aO:=hJ;simp only[f5,f6]at aO;obtain⟨Wo,Wp,e_,dH⟩:=aO;rw[e_]at hF;refine fg (kR:ax _ 0=some (some 8,.assign (.tmp 37),43,none)) hF kR kR (k':=1) rfl (v:=(vS Wo ((tg bs b).length) Wp)) kR ?_;intro a2 ea _;refine aL kR ?_;refine bu (d:=some 8) kR ea trivial ?_;show∃(U4:ar) (Mh:Nat),_;exact⟨Wo,Wp,rfl,dH⟩;intro aC Gs ls vs cV xo hv fr;simp only[show ls 6=true from cV 6 dQ]at xo;revert aC;refine bX [(1,vI bar),(2,pT b1 0),(5,vS (sM b4) bs.length bs.length),(6,vS (sM g3) n2 c2),(7,nV i),(8,vs 6)] ?_;obtain⟨U4,Mh,e_,xo⟩:=xo;rw[e_];clear e_;clear cV hv fr aC qf;clear vs ls;refine aX<|cr 2 ?_;intro aC fr;refine fk (fun n_ a_ w_=>∃(k:Nat) (S2:Int→Bool) (wE:List Bool) (y2:af) (A4:ar) (n4:Nat) (c4:Nat),n_=(tg bs b).length-k∧Fr a_ 74 [(1,vI bar),(2,pT b1 0),(5,vS (sM b4) bs.length bs.length),(6,vS A4 n4 c4),(7,nV i),(8,vS U4 ((tg bs b).length) Mh),(9,nV k)]∧Mem bq w w_ [.aB b1 30 [nm,wk,pa,va,vS A bs.length c],.row 4 1 (sM b4) bs.length bs.length (bS wE),.row 3 1 A4 n4 c4 (ints y2),.row 3 1 U4 ((tg bs b).length) Mh (ints (tg bs b))]∧(k≤(tg bs b).length)∧(j9 bs.length wE S2)∧(Fx (tg bs) bar S2 y2 i k)∧(y2[i]?=some b)∧(y2.length+jG bs.length S2≤bs.length)∧(n4=y2.length)) (n:=_) ⟨0,S,inl,todo,(sM g3),n2,c2,rfl,fr.kp [1,2,5,6,7,8,9],xo,oM,nY,hbf,hb,yr,KD⟩ ?_;clear fr aC xo;rintro n aC w37 ⟨k,S2,wE,y2,A4,n4,c4,rfl,fr,vw,hk,Aq,Wq,uV,Fv,hn4⟩;revert aC;refine ba<|aI<|ah 3<|jP (decide ((k:Int)<((tg bs b).length:Int))) fun Bk Qu=> ?_
 refine ay ?_;cases Bk;have ck:¬((k:Int)<((tg bs b).length:Int)):=QnR Qu.symm;refine fT<|eW 2<|eX<|cG<|ah 1<|cZ ((i:Int)+1)<|ah 1<|ay ?_;intro aC fr;exact⟨bs.length-(i+1),by have:=(List.getElem?_eq_some_iff.1 uV).1;omega,i+1,S2,wE,y2,A4,n4,c4,rfl,fr.kp [1,2,5,6,7],(vw.pick [true,true,true,false] rfl),Aq,Wq.next uV oM,Fv,hn4,by have:=(List.getElem?_eq_some_iff.1 uV).1;omega⟩;have ck:(k:Int)<((tg bs b).length:Int):=QlT Qu.symm;refine fm<|bP<|ba<|cr 3<|aI ?_;obtain⟨ti,Io,Mf⟩:=Qp (bs:=bs) (b:=b) (k:=k) oM;refine ah 3 ?_;obtain⟨U5,rfl⟩:=df (vw.get 3 rfl) oM;refine ej (aZ U5) ((tg bs b).length) 1 (k:Int)<|bt (aN (aZ U5) (k:Int) 1) _ (fx (aD (vw.get 3 rfl)) rfl Io)<|ej (aZ b4) bs.length 1 (ti:Int)<|bt (aN (aZ b4) (ti:Int) 1) _ (bJ (aD (vw.get 1 rfl)) rfl (j0 (by rw[Aq.1];exact Mf))) ?_;obtain⟨Bin,QbK⟩:∃B,B=wE.getD ti false:=⟨_,rfl⟩;refine bX [(1,vI bar),(2,pT b1 0),(5,vS (sM b4) bs.length bs.length),(6,vS A4 n4 c4),(7,nV i),(8,vS (sM U5) ((tg bs b).length) Mh),(9,nV k),(50,vB (wE.getD ti false))] ?_;rw[←QbK];refine ah 2 ?_;cases Bin;have cin:(wE.getD ti false)=false:=QbK.symm;have Wm:S2 (ti:Int)=false:=by rw[←Aq.2 ti Mf];exact cin
 refine ah 2<|ej (aZ U5) ((tg bs b).length) 1 (k:Int)<|bt (aN (aZ U5) (k:Int) 1) _ (fx (aD (vw.get 3 rfl)) rfl Io)<|ah 1<|jP ((ti:Int) !=bar) fun QhY Qaa=> ?_
 refine ah 1<|ay ?_;cases QhY;have QhZ:¬((ti:Int)≠bar):=LZ Qaa;refine fT<|bP<|cG<|ah 1<|cZ ((k:Int)+1)<|ah 1<|ay ?_;intro aC fr;exact⟨(tg bs b).length-(k+1),oM,k+1,S2,wE,y2,A4,n4,c4,rfl,fr.kp [1,2,5,6,7,8,9],vw,oM,Aq,Wq.skip uV Io (.inr oM),uV,Fv,hn4⟩;have QhZ:(ti:Int)≠bar:=Qoo.1 Qaa.symm;refine fm<|aI<|ah 3<|ej (aZ U5) ((tg bs b).length) 1 (k:Int)<|bt (aN (aZ U5) (k:Int) 1) _ (fx (aD (vw.get 3 rfl)) rfl Io)<|ej (aZ b4) bs.length 1 (ti:Int)<|yc vw 1 (aN (aZ b4) (ti:Int) 1) (((ti:Int)).toNat*1) (vB true) rfl rfl oM fun w47 yt=> ?_
 replace yt:=yt.nf;refine ay<|cG ?_;have s6:=bd [.aB b1 30 [nm,wk,pa,va,vS A bs.length c],.row 4 1 (sM b4) bs.length bs.length (bS (wE.set ti true)),.row 3 1 A4 n4 c4 (ints y2),.row 3 1 (sM U5) ((tg bs b).length) Mh (ints (tg bs b))] (yt.cast (by rw[qT];simp only[Qoq,Qoz]));refine ah 3<|ej (aZ U5) ((tg bs b).length) 1 (k:Int)<|da [1,2,5,7,8,9,66,69]<|bt (aN (aZ U5) (k:Int) 1) _ (fx (aD (s6.get 3 rfl)) rfl Io) ?_;intro aC fr;refine nX 71 43 1 #[(0,.tmp 70)] 43 fr (e:=3) (size:=1) (zs:=[vI 0]) (vs:=[(0,nV ti)]) (cs:=[nV ti]) s6 ?_;intro b50 w51 hb50 _ MU _ aC ea fr;clear ea;replace MU:=MU.nf;refine wz 72 (.tmp 66) (.tmp 71) 43 43 fr (e:=3) (size:=1) (bytes:=8) (z:=(vI 0)) (A:=A4) (B:=(sM b50)) (n:=n4) (cap:=c4) (m:=1) (cap':=1) (xs:=(ints y2)) (news:=[nV ti]) MU 2 rfl (aD (MU.get 4 rfl)) rfl (by simp[Value.oneCell']) oM (by simp only[maxLen];omega) ?_;intro A57 Qv He uW _ aC ea fr;clear ea;replace uW:=uW.nf;have s7:=uW.od [3,3,3,3] 4;revert aC;refine ah 1<|ay<|cG<|ah 1<|cZ ((k:Int)+1)<|ah 1<|ay ?_;intro aC fr;exact⟨(tg bs b).length-(k+1),oM,k+1,fI S2 (ti:Int),wE.set ti true,y2++[(ti:Int)],A57,(n4+1),Qv,rfl,fr.kp [1,2,5,6,7,8,9],(s7.cast (by rw[fG];rfl)),oM,Aq.put Mf,Wq.push uV Io oM,by rw[List.getElem?_append_left (List.getElem?_eq_some_iff.1 uV).1];exact uV,by have:=gg (n:=bs.length) (S:=S2) (t:=(ti:Int)) oM oM Wm;simp only[QoG,QoE,Qo3];omega,by simp[hn4]⟩;have cin:(wE.getD ti false)=true:=QbK.symm;have Wm:S2 (ti:Int)=true:=by rw[←Aq.2 ti Mf];exact cin
 refine ah 7<|ay<|fT<|bP<|cG<|ah 1<|cZ ((k:Int)+1)<|ah 1<|ay ?_;intro aC fr;exact⟨(tg bs b).length-(k+1),oM,k+1,S2,wE,y2,A4,n4,c4,rfl,fr.kp [1,2,5,6,7,8,9],vw,oM,Aq,Wq.skip uV Io (.inl Wm),uV,Fv,hn4⟩;have cb:bar=0:=Qco.1 hBb.symm;refine fm<|aX<|bL<|cv (vS (sM b4) bs.length bs.length) ?_;have Mi:=M6.od [1] 1;exact⟨_,_,rfl,(Mi).cast (by rw[←BG (bar:=bar) oM];simp[bS])⟩;have cz:(bs.length:Int)=0:=Qco.1 hBz.symm;refine ah 3<|ay<|fm<|aX<|bL<|cv (vS (sM b4) bs.length bs.length) ?_;have zV:=M6.od [1] 1;exact⟨_,_,rfl,(zV).cast (by rw[←BG (bar:=bar) oM];simp[bS])⟩
end Go.Proofs.YtejbeeaomokjpaaGreat
namespace Go.Proofs.YtejbeeaomokjpaaGreat
open Go.Mor
theorem QbO(nm wk pa va:Value)(A:ar)(c:Nat)(bs:List SB)(w:World)(hm:bs.length≤1000000)(hA:RO bq w (.blocks A bs)):Calls Tryz.prog 37 #[(.agg #[nm,wk,pa,va,vS A bs.length c])] w (ez fun v w'=>∃A' c' rows,v=vS A' bs.length c'∧eM Value.bool rows (gu bs)∧Mem bq w w' [.gU 4 rows,.row 56 1 A' bs.length c' (gq rows)]):=by
 refine fv 54 [(.agg #[nm,wk,pa,va,vS A bs.length c])] Tryz.func37 ?_;have hM:=Mem.init w;refine aI<|ou hM 30 (.agg #[nm,wk,pa,va,vS A bs.length c]) [nm,wk,pa,va,vS A bs.length c] fun b1 w2 jU M3=> ?_
 replace M3:=M3.nf;clear hM;refine ah 1<|ay<|aI<|ga (aZ b1) [nm,wk,pa,va,vS A bs.length c] (aW (M3.get 0 rfl))<|di (vs:=#[(.agg #[nm,wk,pa,va,vS A bs.length c]),vI (-1)]) (Iq _ _ _ _ A c bs (-1) w2 hm (hA.at_ M3)) ?_;rintro _ w6 ⟨A4,c5,rfl,XF⟩;have M7:=M3.cl XF;refine ah 1<|ay<|aX<|ba<|aX<|cr 0 ?_;have hlo:=j4 bs;intro aC fr;refine fk (fun n_ a_ w_=>∃(d:Nat) (rows:List gb) (A2:ar) (c2:Nat),n_=bs.length-d∧Fr a_ 54 [(1,pT b1 0),(3,vS A4 bs.length c5),(4,vS A2 d c2),(5,nV d)]∧Mem bq w w_ [.gU 4 rows,.aB b1 30 [nm,wk,pa,va,vS A bs.length c],.row 4 1 A4 bs.length c5 (bS (gh bs (-1))),.row 56 1 A2 d c2 (gq rows)]∧(d≤bs.length)∧(eM Value.bool rows ((gu bs).take d))) (n:=_) ⟨0,[],none,0,rfl,fr.kp [1,3,4,5],(((((M7.pick [true,true] rfl).call (Mem.H6 _ 4 0)).call (Mem.dY _ 56 1)).front 2 rfl).cast rfl),oM,rfl⟩ ?_;clear fr aC M7;rintro n aC GP ⟨d,rows,A2,c2,rfl,fr,n5,hd,hf⟩;revert aC;refine ba<|aI<|ah 2<|bt (ao b1 4) _ (ae (n5.get 1 rfl) rfl)<|ah 1<|jP (decide ((d:Int)<(bs.length:Int))) fun Bd hBd=> ?_
 refine ay ?_;cases Bd;have cd:¬((d:Int)<(bs.length:Int)):=QnR hBd.symm;refine fT<|eW 0<|eX<|aX<|bL<|cv (vS A2 d c2) ?_;obtain rfl:d=bs.length:=oM;have lH:=n5.od [3,1] 2;exact⟨_,_,rows,rfl,hf.all oM,lH⟩;have cd:(d:Int)<(bs.length:Int):=QlT hBd.symm;refine fm<|bP<|ba<|cr 1<|aI ?_;have rn:d<bs.length:=oM;refine ah 1<|bt (ao b1 4) _ (ae (n5.get 1 rfl) rfl)<|ah 1 ?_;intro aC fr;refine P6 21 56 (.tmp 20) (.tmp 20) 56 fr (e:=4) (bytes:=1) (z:=(vB false)) (n:=bs.length) (i:=(bs.length:Int)) oM (by simp only[maxLen];omega) n5 ?_;intro jx OT QeS _ kK _ aC ea fr;clear ea;replace kK:=kK.nf;revert aC;refine ah 1<|ay<|ba<|aI ?_;have lJ:=bd [.gU 4 rows,.aB b1 30 [nm,wk,pa,va,vS A bs.length c],.row 4 1 A4 bs.length c5 (bS (gh bs (-1))),.row 56 1 A2 d c2 (gq rows),.row 4 1 (sM jx) bs.length bs.length (bS (List.replicate bs.length false))] (kK.cast (by simp[bS]));refine ah 2 ?_;obtain⟨g24,rfl⟩:=df (lJ.get 2 rfl) oM;refine ej (aZ g24) bs.length 1 (d:Int)<|bt (aN (aZ g24) (d:Int) 1) _ (bJ (aD (lJ.get 2 rfl)) rfl (j0 (by rw[lj];omega))) ?_;obtain⟨Qh0,Qy⟩:∃B,B=(gh bs (-1)).getD d false:=⟨_,rfl⟩;refine bX [(1,pT b1 0),(3,vS (sM g24) bs.length c5),(4,vS A2 d c2),(5,nV d),(6,vS (sM jx) bs.length bs.length),(25,vB ((gh bs (-1)).getD d false))] ?_;rw[←Qy];refine ay ?_;cases Qh0;have call:((gh bs (-1)).getD d false)=false:=Qy.symm;refine fT<|bP<|cG<|ah 2 ?_;intro aC fr;refine nX 51 59 1 #[(0,.tmp 50)] 59 fr (e:=56) (size:=1) (zs:=[an]) (vs:=[(0,vS (sM jx) bs.length bs.length)]) (cs:=[vS (sM jx) bs.length bs.length]) lJ ?_;intro zW w26 Qh1 _ zX _ aC ea fr;clear ea;replace zX:=zX.nf;refine wz 52 (.tmp 49) (.tmp 51) 59 59 fr (e:=56) (size:=1) (bytes:=24) (z:=an) (A:=A2) (B:=(sM zW)) (n:=d) (cap:=c2) (m:=1) (cap':=1) (xs:=(gq rows)) (news:=[vS (sM jx) bs.length bs.length]) zX 3 rfl (aD (zX.get 5 rfl)) rfl (by simp[Value.oneCell']) oM (by simp only[maxLen];omega) ?_;intro A32 U6 w34 ma _ aC ea fr;clear ea;replace ma:=ma.nf;have vw:=ma.od [4,4,4,4,4] 5;revert aC;refine ah 1<|ay<|cG<|ah 1<|cZ ((d:Int)+1)<|ah 1<|ay ?_;have zC:=vw.od [3,3,3,4,4] 5;have uz:=bd [.gU 4 (rows++[⟨(sM jx),bs.length,bs.length,bS (List.replicate bs.length false)⟩]),.aB b1 30 [nm,wk,pa,va,vS A bs.length c],.row 4 1 (sM g24) bs.length c5 (bS (gh bs (-1))),.row 56 1 A32 (d+1) U6 ((gq rows)++[vS (sM jx) bs.length bs.length])] (zC.push);have rr:=bd [.gU 4 (rows++[⟨(sM jx),bs.length,bs.length,bS (List.replicate bs.length false)⟩]),.aB b1 30 [nm,wk,pa,va,vS A bs.length c],.row 4 1 (sM g24) bs.length c5 (bS (gh bs (-1))),.row 56 1 A32 (d+1) U6 (gq (rows++[⟨(sM jx),bs.length,bs.length,bS (List.replicate bs.length false)⟩]))] (uz.cast (by rw[xZ]));intro aC fr;exact⟨bs.length-(d+1),oM,d+1,(rows++[⟨(sM jx),bs.length,bs.length,bS (List.replicate bs.length false)⟩]),A32,U6,rfl,fr.kp [1,3,4,5],rr,oM,hf.next (BH rn (Mj (by rw[←jh rn];exact call))) sI rfl⟩;have call:((gh bs (-1)).getD d false)=true:=Qy.symm;refine fm<|aI<|ga (aZ b1) [nm,wk,pa,va,vS A bs.length c] (aW (lJ.get 1 rfl))<|ah 1<|di (vs:=#[(.agg #[nm,wk,pa,va,vS A bs.length c]),nV d]) (Iq _ _ _ _ A c bs (d:Int) OT hm (hA.at_ lJ)) ?_;rintro _ w46 ⟨vK,Qz,rfl,QbP⟩;have EG:=lJ.cl QbP;refine ah 1<|ay<|aX<|cr 2 ?_;have hwd:fJ bs (-1) (d:Int)=true:=by rw[←jh rn];exact call
 intro aC fr;refine fk (fun n_ a_ w_=>∃(b:Nat) (m:List Bool),n_=bs.length-b∧Fr a_ 54 [(1,pT b1 0),(3,vS (sM g24) bs.length c5),(4,vS A2 d c2),(5,nV d),(6,vS (sM jx) bs.length bs.length),(7,vS vK bs.length Qz),(8,nV b)]∧Mem bq w w_ [.gU 4 rows,.aB b1 30 [nm,wk,pa,va,vS A bs.length c],.row 4 1 (sM g24) bs.length c5 (bS (gh bs (-1))),.row 56 1 A2 d c2 (gq rows),.row 4 1 (sM jx) bs.length bs.length (bS m),.row 4 1 vK bs.length Qz (bS (gh bs (d:Int)))]∧(b≤bs.length)∧(j9 bs.length m (mT bs (d:Int) b))) (n:=_) ⟨0,List.replicate bs.length false,rfl,fr.kp [1,3,4,5,6,7,8],EG,oM,Ir bs _⟩ ?_;clear fr aC EG;rintro n aC w50 ⟨b,m,rfl,fr,tH,hb,dH⟩;revert aC;refine ba<|aI<|ah 3<|jP (decide ((b:Int)<(bs.length:Int))) fun Bb hBb=> ?_
 refine ay ?_;cases Bb;have cb:¬((b:Int)<(bs.length:Int)):=QnR hBb.symm;refine fT<|eW 2<|eX<|cG<|ah 2 ?_;intro aC fr;refine nX 51 59 1 #[(0,.tmp 50)] 59 fr (e:=56) (size:=1) (zs:=[an]) (vs:=[(0,vS (sM jx) bs.length bs.length)]) (cs:=[vS (sM jx) bs.length bs.length]) tH ?_;intro me w55 QeX _ BJ _ aC ea fr;clear ea;replace BJ:=BJ.nf;refine wz 52 (.tmp 49) (.tmp 51) 59 59 fr (e:=56) (size:=1) (bytes:=24) (z:=an) (A:=A2) (B:=(sM me)) (n:=d) (cap:=c2) (m:=1) (cap':=1) (xs:=(gq rows)) (news:=[vS (sM jx) bs.length bs.length]) BJ 3 rfl (aD (BJ.get 6 rfl)) rfl (by simp[Value.oneCell']) oM (by simp only[maxLen];omega) ?_;intro A61 XI w63 BK _ aC ea fr;clear ea;replace BK:=BK.nf;have qR:=BK.od [5,5,5,5,5,5] 6;revert aC;refine ah 1<|ay<|cG<|ah 1<|cZ ((d:Int)+1)<|ah 1<|ay ?_;have Mi:=qR.od [3,3,3,4,4] 5;have zV:=bd [.gU 4 (rows++[⟨(sM jx),bs.length,bs.length,bS m⟩]),.aB b1 30 [nm,wk,pa,va,vS A bs.length c],.row 4 1 (sM g24) bs.length c5 (bS (gh bs (-1))),.row 56 1 A61 (d+1) XI ((gq rows)++[vS (sM jx) bs.length bs.length])] (Mi.push);have V7:=bd [.gU 4 (rows++[⟨(sM jx),bs.length,bs.length,bS m⟩]),.aB b1 30 [nm,wk,pa,va,vS A bs.length c],.row 4 1 (sM g24) bs.length c5 (bS (gh bs (-1))),.row 56 1 A61 (d+1) XI (gq (rows++[⟨(sM jx),bs.length,bs.length,bS m⟩]))] (zV.cast (by rw[xZ]));intro aC fr;exact⟨bs.length-(d+1),oM,d+1,(rows++[⟨(sM jx),bs.length,bs.length,bS m⟩]),A61,XI,rfl,fr.kp [1,3,4,5],V7,oM,hf.next (BH rn (Mk dH oM)) (by simp[dH.1]) rfl⟩;have cb:(b:Int)<(bs.length:Int):=QlT hBb.symm;refine fm<|bP<|ba<|cr 3<|cG ?_;have Ml:b<bs.length:=oM;refine ah 4<|ej (aZ g24) bs.length 1 (b:Int)<|bt (aN (aZ g24) (b:Int) 1) _ (bJ (aD (tH.get 2 rfl)) rfl (j0 (by rw[lj];omega))) ?_;obtain⟨Bab,Dj⟩:∃B,B=(gh bs (-1)).getD b false:=⟨_,rfl⟩;refine bX [(1,pT b1 0),(3,vS (sM g24) bs.length c5),(4,vS A2 d c2),(5,nV d),(6,vS (sM jx) bs.length bs.length),(7,vS vK bs.length Qz),(8,nV b),(35,vS (sM jx) bs.length bs.length),(36,nV b),(40,vB ((gh bs (-1)).getD b false))] ?_;rw[←Dj];refine ah 1 ?_;cases Bab;have N3:((gh bs (-1)).getD b false)=false:=Dj.symm;have hwb:fJ bs (-1) (b:Int)=false:=by rw[←jh Ml];exact N3
 refine ah 6<|ej (aZ jx) bs.length 1 (b:Int)<|yc tH 4 (aN (aZ jx) (b:Int) 1) (((b:Int)).toNat*1) (vB false) rfl rfl oM fun w73 KH=> ?_
 replace KH:=KH.nf;refine ay<|cG<|ah 1<|cZ ((b:Int)+1)<|ah 1<|ay ?_;intro aC fr;exact⟨bs.length-(b+1),oM,b+1,m.set b false,rfl,fr.kp [1,3,4,5,6,7,8],(KH.cast (by rw[qT];simp only[Qoq,Qoz])),oM,BI dH Ml (Qx hwb)⟩;have N3:((gh bs (-1)).getD b false)=true:=Dj.symm;have hwb:fJ bs (-1) (b:Int)=true:=by rw[←jh Ml];exact N3
 refine ah 2 ?_;obtain⟨g78,rfl⟩:=df (tH.get 5 rfl) oM;refine ej (aZ g78) bs.length 1 (b:Int)<|bt (aN (aZ g78) (b:Int) 1) _ (bJ (aD (tH.get 5 rfl)) rfl (j0 (by rw[lj];omega)))<|ah 2<|ej (aZ jx) bs.length 1 (b:Int)<|yc tH 4 (aN (aZ jx) (b:Int) 1) (((b:Int)).toNat*1) (vB (!(gh bs (d:Int)).getD b false)) rfl rfl oM fun w79 xr=> ?_
 replace xr:=xr.nf;refine ay<|cG<|ah 1<|cZ ((b:Int)+1)<|ah 1<|ay ?_;intro aC fr;exact⟨bs.length-(b+1),oM,b+1,m.set b (!((gh bs (d:Int)).getD b false)),rfl,fr.kp [1,3,4,5,6,7,8],(xr.cast (by rw[qT];simp only[Qoq,Qoz])),oM,BI dH Ml ((Qlh _ (jh Ml)).trans (Qw hwd hwb))⟩
end Go.Proofs.YtejbeeaomokjpaaGreat
namespace Go.Proofs.YtejbeeaomokjpaaGreat
open Go.Mor
theorem QC(nm wk pa va:Value)(A:ar)(c:Nat)(bs:List SB)(w:World)(hm:bs.length≤1000000)(hA:RO bq w (.blocks A bs)):Calls Tryz.prog 64 #[(.agg #[nm,wk,pa,va,vS A bs.length c])] w (ez fun v w'=>∃A' c' rows,v=vS A' bs.length c'∧eM vI rows (tI bs)∧Mem bq w w' [.gU 3 rows,.row 43 1 A' bs.length c' (gq rows)]):=by
 refine fv 38 [(.agg #[nm,wk,pa,va,vS A bs.length c])] Tryz.func64 ?_;have hM:=Mem.init w;refine aI<|ou hM 30 (.agg #[nm,wk,pa,va,vS A bs.length c]) [nm,wk,pa,va,vS A bs.length c] fun b1 w2 jU M3=> ?_
 replace M3:=M3.nf;clear hM;refine ah 1<|ay<|aI<|ah 1<|bt (ao b1 4) _ (ae (M3.get 0 rfl) rfl)<|ah 1 ?_;intro aC fr;refine P6 10 71 (.tmp 9) (.tmp 9) 71 fr (e:=43) (bytes:=24) (z:=an) (n:=bs.length) (i:=(bs.length:Int)) oM (by simp only[maxLen];omega) M3 ?_;intro b4 w5 U3 _ M6 _ aC ea fr;clear ea;replace M6:=M6.nf;revert aC;refine ah 1<|ay<|ba<|aI<|ah 1<|bt (ao b1 4) _ (ae (M6.get 0 rfl) rfl)<|ah 2<|ay<|cr 0 ?_;have n5:=M6.od [1,1] 2;have XJ:=yu bs;intro aC fr;refine fk (fun n_ a_ w_=>∃(i:Nat) (rows:List gb),n_=bs.length-i∧Fr a_ 38 [(1,pT b1 0),(3,vS (sM b4) bs.length bs.length),(13,(vI (bs.length:Int))),(14,nV i)]∧Mem bq w w_ [.gU 3 rows,.aB b1 30 [nm,wk,pa,va,vS A bs.length c],.row 43 1 (sM b4) bs.length bs.length (gq rows)]∧(i≤bs.length)∧(eM vI rows (vx bs i))) (n:=_) ⟨0,List.replicate bs.length jT,rfl,fr.kp [1,3,13,14],(((n5.call (Mem.H6 _ 3 bs.length)).front 2 rfl).cast (by simp[gq,jT])),oM,by rw[Mn];exact eM.QeW _⟩ ?_;clear fr aC n5;rintro n aC N6 ⟨i,rows,rfl,fr,mS,hi,hf⟩;revert aC;refine aI<|jP (decide ((i:Int)<(bs.length:Int))) fun Bi hBi=> ?_
 refine ay<|ba ?_;cases Bi;have ci:¬((i:Int)<(bs.length:Int)):=QnR hBi.symm;refine fT<|eW 0<|eX<|aX<|bL<|cv (vS (sM b4) bs.length bs.length) ?_;obtain rfl:i=bs.length:=oM;rw[Wt]at hf;have uc:=mS.od [2,1] 2;exact⟨_,_,rows,rfl,hf,uc⟩;have ci:(i:Int)<(bs.length:Int):=QlT hBi.symm;refine fm<|bP<|ba<|cr 1<|aX<|aI<|ga (aZ b1) [nm,wk,pa,va,vS A bs.length c] (aW (mS.get 1 rfl))<|ah 1<|di (vs:=#[(.agg #[nm,wk,pa,va,vS A bs.length c]),nV i]) (BB _ _ _ _ A c bs (i:Int) N6 hm (hA.at_ mS)) ?_;rintro _ w21 ⟨A19,EH,rfl,Wx⟩;have lJ:=mS.cl Wx;refine ah 2<|ay<|cr 2 ?_;have GS:=pY bs (i:Int);intro aC fr;refine fk (fun n_ a_ w_=>∃(k:Nat) (nu:List gb),n_=(tg bs (i:Int)).length-k∧Fr a_ 38 [(1,pT b1 0),(3,vS (sM b4) bs.length bs.length),(4,nV i),(13,(vI (bs.length:Int))),(14,nV i),(19,(vS A19 ((tg bs (i:Int)).length) EH)),(20,(vI ((tg bs (i:Int)).length:Int))),(21,nV k)]∧Mem bq w w_ [.gU 3 nu,.aB b1 30 [nm,wk,pa,va,vS A bs.length c],.row 43 1 (sM b4) bs.length bs.length (gq nu),.row 3 1 A19 ((tg bs (i:Int)).length) EH (ints (tg bs (i:Int)))]∧(k≤(tg bs (i:Int)).length)∧(eM vI nu (kP bs i k))) (n:=_) ⟨0,rows,rfl,fr.kp [1,3,4,13,14,19,20,21],lJ,oM,by rw[Ws];exact hf⟩ ?_;clear fr aC lJ;rintro n aC w25 ⟨k,nu,rfl,fr,eu,hk,hf3⟩;revert aC;refine aI<|jP (decide ((k:Int)<((tg bs (i:Int)).length:Int))) fun Bk Qu=> ?_
 refine ay<|ba ?_;cases Bk;have ck:¬((k:Int)<((tg bs (i:Int)).length:Int)):=QnR Qu.symm;refine fT<|eW 2<|eX<|cG<|cZ ((i:Int)+1)<|ah 1<|ay ?_;intro aC fr;exact⟨bs.length-(i+1),oM,i+1,nu,rfl,fr.kp [1,3,13,14],(eu.pick [true,true,true,false] rfl),oM,by rw[←QB (k:=k) oM];exact hf3⟩;have ck:(k:Int)<((tg bs (i:Int)).length:Int):=QlT Qu.symm;refine fm<|bP<|ba<|cr 3<|aI ?_;obtain⟨ti,Io,Mf⟩:=Qp (bs:=bs) (b:=(i:Int)) (k:=k) oM;obtain⟨At,ct,OO⟩:=hf3.get (Wu Io Mf);have U7:=fR bs (ti:Int) i;obtain⟨g32,rfl⟩:=df (eu.get 3 rfl) oM;refine ej (aZ g32) ((tg bs (i:Int)).length) 1 (k:Int)<|bt (aN (aZ g32) (k:Int) 1) _ (fx (aD (eu.get 3 rfl)) rfl Io)<|ah 1<|ay<|cG<|ah 4<|ej (aZ b4) bs.length 1 (ti:Int)<|bt (aN (aZ b4) (ti:Int) 1) _ (bJ (aD (eu.get 2 rfl)) rfl (ir OO)) ?_;have pH:=bd [.gU 3 (nu.set ti jT),.row 3 1 At ((ef bs (ti:Int) i).length) ct (ints (ef bs (ti:Int) i)),.aB b1 30 [nm,wk,pa,va,vS A bs.length c],.row 43 1 (sM b4) bs.length bs.length (gq nu),.row 3 1 (sM g32) ((tg bs (i:Int)).length) EH (ints (tg bs (i:Int)))] (eu.focus ti OO);refine ah 1 ?_;intro aC fr;refine nX 32 43 1 #[(0,.tmp 31)] 43 fr (e:=3) (size:=1) (zs:=[vI 0]) (vs:=[(0,nV i)]) (cs:=[nV i]) pH ?_;intro b34 w35 QnT _ uX _ aC ea fr;clear ea;replace uX:=uX.nf;refine wz 33 (.tmp 30) (.tmp 32) 43 43 fr (e:=3) (size:=1) (bytes:=8) (z:=(vI 0)) (A:=At) (B:=(sM b34)) (n:=((ef bs (ti:Int) i).length)) (cap:=ct) (m:=1) (cap':=1) (xs:=(ints (ef bs (ti:Int) i))) (news:=[nV i]) uX 1 rfl (aD (uX.get 5 rfl)) rfl (by simp[Value.oneCell']) oM (by simp only[maxLen];omega) ?_;intro X2 Hg w43 Ap _ aC ea fr;clear ea;replace Ap:=Ap.nf;have EG:=Ap.od [4,4,4,4,4] 5;revert aC;refine ej (aZ b4) bs.length 1 (ti:Int)<|yc EG 3 (aN (aZ b4) (ti:Int) 1) (((ti:Int)).toNat*1) (vS X2 (((ef bs (ti:Int) i).length)+1) Hg) rfl rfl oM fun w48 s6=> ?_
 replace s6:=s6.nf;refine ay<|cG ?_;have Du:=s6.od [4,4,4,4,4] 5;have Fz:ti<nu.length:=(List.getElem?_eq_some_iff.1 OO).1;have tH:=bd [.gU 3 ((nu.set ti jT).set ti ⟨X2,((ef bs (ti:Int) i).length)+1,Hg,(ints (ef bs (ti:Int) i))++[nV i]⟩),.aB b1 30 [nm,wk,pa,va,vS A bs.length c],.row 43 1 (sM b4) bs.length bs.length ((gq nu).set (((ti:Int)).toNat*1) (vS X2 (((ef bs (ti:Int) i).length)+1) Hg)),.row 3 1 (sM g32) ((tg bs (i:Int)).length) EH (ints (tg bs (i:Int)))] (Du.Kh ti (List.getElem?_set_self Fz));have MU:=bd [.gU 3 (nu.set ti ⟨X2,((ef bs (ti:Int) i).length)+1,Hg,(ints (ef bs (ti:Int) i))++[nV i]⟩),.aB b1 30 [nm,wk,pa,va,vS A bs.length c],.row 43 1 (sM b4) bs.length bs.length (gq (nu.set ti ⟨X2,((ef bs (ti:Int) i).length)+1,Hg,(ints (ef bs (ti:Int) i))++[nV i]⟩)),.row 3 1 (sM g32) ((tg bs (i:Int)).length) EH (ints (tg bs (i:Int)))] (tH.cast (by rw[BL,Kg];simp only[Qoq,Qoz]));refine cZ ((k:Int)+1)<|ah 1<|ay ?_;intro aC fr;exact⟨(tg bs (i:Int)).length-(k+1),oM,k+1,(nu.set ti ⟨X2,((ef bs (ti:Int) i).length)+1,Hg,(ints (ef bs (ti:Int) i))++[nV i]⟩),rfl,fr.kp [1,3,4,13,14,19,20,21],MU,oM,by rw[←Ww Io Mf];exact hf3.set sI (by rw[Qou];rfl)⟩
end Go.Proofs.YtejbeeaomokjpaaGreat
namespace Go.Proofs.YtejbeeaomokjpaaGreat
open Go.Mor
theorem QK(g5 g6:Nat)(EK O1:Addr)(n ca cb:Nat)(Vb ab:af)(T:Int→af)(pl up:Int→Int)(xa xb:Int)(w:World)(_hm:n≤1000000)(h5:RO bq w (.aB g5 43 [.slice (some EK) n ca]))(h6:RO bq w (.aB g6 43 [.slice (some O1) n cb]))(hA:RO bq w (.rd (some EK) (ints Vb)))(hB:RO bq w (.rd (some O1) (ints ab)))(pJ:WB T pl up n Vb ab)(hxa:jV pl up xa)(Wy:jV pl up xb):Calls Tryz.prog 128 #[vI xa,vI xb,pT g5 0,pT g6 0] w (ez fun v w'=>∃c:Int,v=vI c∧lL pl up xa xb c∧Mem bq w w' []):=by
 refine fv 37 [vI xa,vI xb,pT g5 0,pT g6 0] Tryz.func128 ?_;have hM:=Mem.init w;refine aX<|ba<|cr 0 ?_;intro aC fr;refine fk (fun n_ a_ w_=>∃(a1:Int) (b1:Int),n_=(pl a1+pl b1).toNat∧Fr a_ 37 [(0,vI a1),(1,vI b1),(2,pT g5 0),(3,pT g6 0)]∧Mem bq w w_ []∧(jV pl up a1)∧(jV pl up b1)∧(∀c,lL pl up a1 b1 c→lL pl up xa xb c)) (n:=_) ⟨xa,xb,rfl,fr.kp [0,1,2,3],hM,hxa,Wy,fun _ h=>h⟩ ?_;clear fr aC hM;rintro n aC w3 ⟨a1,b1,rfl,fr,M4,Mr,jU,hc1⟩;revert aC;refine ba<|aI<|ah 2<|jP (a1 !=b1) fun Bne QeZ=> ?_
 refine ay ?_;cases Bne;have cne:¬(a1≠b1):=LZ QeZ;refine fT<|eW 0<|eX<|aX<|bL<|cv (vI a1) ?_;obtain rfl:a1=b1:=oM;exact⟨_,rfl,hc1 _ (.done _),M4⟩;have cne:a1≠b1:=Qoo.1 QeZ.symm;refine fm<|bP<|cr 1<|ba<|cr 2 ?_;intro aC fr;refine fk (fun n_ a_ w_=>∃(a2:Int),n_=(pl a2).toNat∧Fr a_ 37 [(0,vI a2),(1,vI b1),(2,pT g5 0),(3,pT g6 0)]∧Mem bq w w_ []∧(jV pl up a2)∧(∀c,lL pl up a2 b1 c→lL pl up a1 b1 c)∧(a2=a1∨pl a2<pl a1)) (n:=_) ⟨a1,rfl,fr.kp [0,1,2,3],M4,Mr,fun _ h=>h,.inl rfl⟩ ?_;clear fr aC M4;rintro n aC w9 ⟨a2,rfl,fr,jw,Aw,Yc,hd2⟩;revert aC;refine ba<|ba ?_;obtain⟨Bgt,QbS⟩:∃B:Bool,B=decide ((pl a2)>(pl b1)):=⟨_,rfl⟩;refine da [0,1,2,3] ?_;intro aC fr;refine l9 (bo [eS (some EK) n ca,eI a2,eA EK (a2) 1,eI (pl a2),eS (some EK) n ca,eI b1,eA EK (b1) 1,eI (pl b1),eB Bgt]) fr (la (pF lz (dL (aZ g5) _ fun w_ hK=>(ae ((jw.aw hK).ro h5) rfl)) dP (dI (h0:=(pJ.Dy a2 Aw.1).1) (h1:=(pJ.Dy a2 Aw.1).2) EK n 1 a2) (dL (aN EK (a2) 1) _ fun w_ hK=>(bJ ((jw.aw hK).ro hA) rfl (pJ.at0 Aw))) (dL (aZ g5) _ fun w_ hK=>(ae ((jw.aw hK).ro h5) rfl)) dP (dI (h0:=(pJ.Dy b1 jU.1).1) (h1:=(pJ.Dy b1 jU.1).2) EK n 1 b1) (dL (aN EK (b1) 1) _ fun w_ hK=>(bJ ((jw.aw hK).ro hA) rfl (pJ.at0 jU)))) (dC (decide ((pl a2)>(pl b1))) QbS)) ?_;intro aC Ye vs hK hv fr;revert aC;refine bX [(0,vI a2),(1,vI b1),(2,pT g5 0),(3,pT g6 0),(18,vB Bgt)] ?_;have uc:=jw.aw hK;clear hK hv fr aC jw;clear vs;cases Bgt;have cgt:¬((pl a2)>(pl b1)):=QnR QbS.symm;refine fT<|eW 2<|eX<|cr 4 ?_;intro aC fr;refine fk (fun n_ a_ w_=>∃(b2:Int),n_=(pl b2).toNat∧Fr a_ 37 [(0,vI a2),(1,vI b2),(2,pT g5 0),(3,pT g6 0)]∧Mem bq w w_ []∧(jV pl up b2)∧(∀c,lL pl up a2 b2 c→lL pl up a2 b1 c)∧(b2=b1∨pl b2<pl b1)) (n:=_) ⟨b1,rfl,fr.kp [0,1,2,3],uc,jU,fun _ h=>h,.inl rfl⟩ ?_;clear fr aC uc;rintro n aC w21 ⟨b2,rfl,fr,lJ,uV,hc3,hd3⟩;revert aC;refine ba<|ba ?_;obtain⟨Bgu,QbT⟩:∃B:Bool,B=decide ((pl b2)>(pl a2)):=⟨_,rfl⟩;refine da [0,1,2,3] ?_;intro aC fr;refine l9 (bo [eS (some EK) n ca,eI b2,eA EK (b2) 1,eI (pl b2),eS (some EK) n ca,eI a2,eA EK (a2) 1,eI (pl a2),eB Bgu]) fr (la (pF lz (dL (aZ g5) _ fun w_ hK=>(ae ((lJ.aw hK).ro h5) rfl)) dP (dI (h0:=(pJ.Dy b2 uV.1).1) (h1:=(pJ.Dy b2 uV.1).2) EK n 1 b2) (dL (aN EK (b2) 1) _ fun w_ hK=>(bJ ((lJ.aw hK).ro hA) rfl (pJ.at0 uV))) (dL (aZ g5) _ fun w_ hK=>(ae ((lJ.aw hK).ro h5) rfl)) dP (dI (h0:=(pJ.Dy a2 Aw.1).1) (h1:=(pJ.Dy a2 Aw.1).2) EK n 1 a2) (dL (aN EK (a2) 1) _ fun w_ hK=>(bJ ((lJ.aw hK).ro hA) rfl (pJ.at0 Aw)))) (dC (decide ((pl b2)>(pl a2))) QbT)) ?_;intro aC w29 vs hK hv fr;revert aC;refine bX [(0,vI a2),(1,vI b2),(2,pT g5 0),(3,pT g6 0),(31,vB Bgu)] ?_;have xn:=lJ.aw hK;clear hK hv fr aC lJ;clear vs;cases Bgu;have cgu:¬((pl b2)>(pl a2)):=QnR QbT.symm;refine fT<|eW 4<|eX ?_;intro aC fr;exact⟨(pl a2+pl b2).toNat,QJ pJ Mr Aw uV cne hd2 hd3 cgt cgu,a2,b2,rfl,fr.kp [0,1,2,3],xn,Aw,uV,fun c h=>hc1 c (Yc c (hc3 c h))⟩;have cgu:(pl b2)>(pl a2):=QlT QbT.symm;refine fm<|bP<|cr 5<|cG<|bt (aZ g6) _ (ae (xn.ro h6) rfl)<|ah 1<|ej (h0:=(pJ.Dy b2 uV.1).1) (h1:=(pJ.Dy b2 uV.1).2) O1 n 1 b2<|bt (aN O1 (b2) 1) _ (bJ (xn.ro hB) rfl (pJ.up0 uV))<|ah 1<|ay ?_;have dt:=pJ.ne0 Aw cgu;obtain⟨qe,BA⟩:=pJ.ok.low b2 uV dt;have lO:=qe.1;intro aC fr;exact⟨(pl (up b2)).toNat,oM,up b2,rfl,fr.kp [0,1,2,3],xn,qe,fun c h=>hc3 c (.right cgu h),.inr (by rcases hd3 with hd3|hd3<;>(try subst hd3)<;>omega)⟩;have cgt:(pl a2)>(pl b1):=QlT QbS.symm;refine fm<|bP<|cr 3<|cG<|bt (aZ g6) _ (ae (uc.ro h6) rfl)<|ah 1<|ej (h0:=(pJ.Dy a2 Aw.1).1) (h1:=(pJ.Dy a2 Aw.1).2) O1 n 1 a2<|bt (aN O1 (a2) 1) _ (bJ (uc.ro hB) rfl (pJ.up0 Aw))<|ah 1<|ay ?_;have dt:=pJ.ne0 jU cgt;obtain⟨qe,BA⟩:=pJ.ok.low a2 Aw dt;have lO:=qe.1;intro aC fr;exact⟨(pl (up a2)).toNat,oM,up a2,rfl,fr.kp [0,1,2,3],uc,qe,fun c h=>Yc c (.left cgt h),.inr (by rcases hd2 with hd2|hd2<;>(try subst hd2)<;>omega)⟩
end Go.Proofs.YtejbeeaomokjpaaGreat
namespace Go.Proofs.YtejbeeaomokjpaaGreat
open Go.Mor
theorem QbV(nm wk pa va:Value)(A:ar)(c:Nat)(bs:List SB)(w:World)(hm:bs.length≤1000000)(hA:RO bq w (.blocks A bs)):Calls Tryz.prog 110 #[(.agg #[nm,wk,pa,va,vS A bs.length c])] w (ez fun v w'=>∃A1 c1 A2 c2,v= .tuple #[.slice A1 bs.length c1,.slice A2 bs.length c2]∧Qab bs∧Mem bq w w' [.row 3 1 A1 bs.length c1 (ints (fo bs)),.row 3 1 A2 bs.length c2 (ints (EJ bs))]):=by
 refine fv 112 [(.agg #[nm,wk,pa,va,vS A bs.length c])] Tryz.func110 ?_;have hM:=Mem.init w;refine aI<|ou hM 30 (.agg #[nm,wk,pa,va,vS A bs.length c]) [nm,wk,pa,va,vS A bs.length c] fun b1 w2 jU M3=> ?_
 replace M3:=M3.nf;clear hM;refine ah 2<|ay<|aI<|ga (aZ b1) [nm,wk,pa,va,vS A bs.length c] (aW (M3.get 0 rfl))<|di (vs:=#[(.agg #[nm,wk,pa,va,vS A bs.length c])]) (Dp _ _ _ _ A c bs w2 hm (hA.at_ M3)) ?_;rintro _ w6 ⟨A4,c5,rfl,XF⟩;have M7:=M3.cl XF;refine ah 1<|ay<|aI<|ah 1<|bt (ao b1 4) _ (ae (M7.get 0 rfl) rfl)<|ah 1 ?_;intro aC fr;refine P6 23 43 (.tmp 22) (.tmp 22) 43 fr (e:=3) (bytes:=8) (z:=(vI 0)) (n:=bs.length) (i:=(bs.length:Int)) oM (by simp only[maxLen];omega) M7 ?_;intro b8 w9 hb8 _ jw _ aC ea fr;clear ea;replace jw:=jw.nf;revert aC;refine na jw 43 [an] fun jx OT QeS kK=> ?_
 replace kK:=kK.nf;refine pC kK 3 0 (vS (sM b8) bs.length bs.length) rfl fun UA mR=> ?_
 replace mR:=mR.nf;refine ay<|aI<|ah 1<|bt (ao b1 4) _ (ae (mR.get 0 rfl) rfl)<|ah 1 ?_;intro aC fr;refine P6 27 43 (.tmp 26) (.tmp 26) 43 fr (e:=3) (bytes:=8) (z:=(vI 0)) (n:=bs.length) (i:=(bs.length:Int)) oM (by simp only[maxLen];omega) mR ?_;intro gG w21 Qh5 _ lJ _ aC ea fr;clear ea;replace lJ:=lJ.nf;revert aC;refine na lJ 43 [an] fun xu OU QnU jy=> ?_
 replace jy:=jy.nf;refine da [1,4,5,6,27]<|pC jy 5 0 (vS (sM gG) bs.length bs.length) rfl fun O7 s8=> ?_
 replace s8:=s8.nf;refine ay<|ba<|aI<|bt (aZ jx) _ (ae (s8.get 3 rfl) rfl)<|ah 2<|ay<|cr 0 ?_;intro aC fr;refine fk (fun n_ a_ w_=>∃(i:Nat) (m1:af) (m2:af),n_=bs.length-i∧Fr a_ 112 [(1,pT b1 0),(4,vS A4 ((aH bs).length) c5),(5,pT jx 0),(6,pT xu 0),(29,(vI (bs.length:Int))),(30,nV i)]∧Mem bq w w_ [.aB b1 30 [nm,wk,pa,va,vS A bs.length c],.row 3 1 A4 ((aH bs).length) c5 (ints (aH bs)),.row 3 1 (sM b8) bs.length bs.length (ints m1),.aB jx 43 [vS (sM b8) bs.length bs.length],.row 3 1 (sM gG) bs.length bs.length (ints m2),.aB xu 43 [vS (sM gG) bs.length bs.length]]∧(i≤bs.length)∧(cy bs.length m1 (rN i))∧(cy bs.length m2 (rN i))) (n:=_) ⟨0,List.replicate bs.length 0,List.replicate bs.length 0,rfl,fr.kp [1,4,5,6,29,30],(s8.cast (by simp[ints])),oM,yv _,yv _⟩ ?_;clear fr aC s8;rintro n aC w34 ⟨i,m1,m2,rfl,fr,ma,hi,h1,h2⟩;revert aC;refine aI<|jP (decide ((i:Int)<(bs.length:Int))) fun Bi hBi=> ?_
 refine ay<|ba ?_;cases Bi;have ci:¬((i:Int)<(bs.length:Int)):=QnR hBi.symm;refine fT<|eW 0<|eX<|ba<|aX<|cr 2 ?_;have hol:=je bs;intro aC fr;refine fk (fun n_ a_ w_=>∃(k:Nat) (m3:af),n_=(aH bs).length-k∧Fr a_ 112 [(1,pT b1 0),(4,vS A4 ((aH bs).length) c5),(5,pT jx 0),(6,pT xu 0),(40,vS A4 ((aH bs).length) c5),(41,(vI ((aH bs).length:Int))),(42,nV k)]∧Mem bq w w_ [.aB b1 30 [nm,wk,pa,va,vS A bs.length c],.row 3 1 A4 ((aH bs).length) c5 (ints (aH bs)),.row 3 1 (sM b8) bs.length bs.length (ints m3),.aB jx 43 [vS (sM b8) bs.length bs.length],.row 3 1 (sM gG) bs.length bs.length (ints m2),.aB xu 43 [vS (sM gG) bs.length bs.length]]∧(k≤(aH bs).length)∧(cy bs.length m3 (uZ ((aH bs).take k)))) (n:=_) ⟨0,m1,rfl,fr.kp [1,4,5,6,40,41,42],ma,oM,DA bs (FA h1 oM)⟩ ?_;clear fr aC ma;rintro n aC Pk ⟨k,m3,rfl,fr,rr,hk,h3⟩;revert aC;refine aI<|jP (decide ((k:Int)<((aH bs).length:Int))) fun Bk Qu=> ?_
 refine ay<|ba ?_;cases Bk;have ck:¬((k:Int)<((aH bs).length:Int)):=QnR Qu.symm;refine fT<|eW 2<|eX<|aI ?_;have HG:=Ix h3 oM;have Qh6:=FA h2 oM;refine ga (aZ b1) [nm,wk,pa,va,vS A bs.length c] (aW (rr.get 0 rfl))<|di (vs:=#[(.agg #[nm,wk,pa,va,vS A bs.length c])]) (QC _ _ _ _ A c bs Pk hm (hA.at_ rr)) ?_;rintro _ w47 ⟨vK,Qz,u3,rfl,QP,QbW⟩;have yt:=rr.cl QbW;refine ah 1<|ay<|aX<|ba<|aX<|cr 4 ?_;intro aC fr;refine fk (fun n_ a_ w_=>∃(k:Nat) (ab:af) (up:Int→Int) (Bt:Bool),n_=bs.length+3-k∧Fr a_ 112 [(4,vS A4 ((aH bs).length) c5),(5,pT jx 0),(6,pT xu 0),(10,vS vK bs.length Qz),(11,(.func (.func 128) #[] #[pT jx 0,pT xu 0])),(12,vB Bt)]∧Mem bq w w_ [.aB b1 30 [nm,wk,pa,va,vS A bs.length c],.row 3 1 A4 ((aH bs).length) c5 (ints (aH bs)),.row 3 1 (sM b8) bs.length bs.length (ints m3),.aB jx 43 [vS (sM b8) bs.length bs.length],.row 3 1 (sM gG) bs.length bs.length (ints ab),.aB xu 43 [vS (sM gG) bs.length bs.length],.gU 3 u3,.row 43 1 vK bs.length Qz (gq u3)]∧(cy bs.length ab up)∧(0<bs.length→Dw (tg bs) (iz bs) up k 0)∧(Bt=false→1≤k∧∃j,Mp (tg bs) (iz bs) up j∧∀x,iz bs x≤j)∧(Bt=true→k≤bs.length+2)) (n:=_) ⟨0,m2,fun _=> -1,true,rfl,fr.kp [4,5,6,10,11,12],yt,Qh6,fun h=>Dw.start (iC h),fun h=>Bool.noConfusion h,fun _=>oM⟩ ?_;clear fr aC yt;rintro n aC w51 ⟨k,ab,up,Bt,rfl,fr,MU,QbX,ya,Qh7,Qh8⟩;revert aC;refine ba<|aX ?_;cases Bt;refine fT<|eW 4<|eX<|ba ?_;obtain⟨hk1,jj,ak,WG⟩:=Qh7 rfl;have Ai:=QbU ya hk1 ak WG QbX;obtain rfl:=QN ya hk1 ak WG QbX;obtain rfl:=HG.ext (QH bs);refine da [4,5,6,10,11,55] ?_;intro aC fr;refine l9 (bo [eS (sM gG) bs.length bs.length,eS (sM b8) bs.length bs.length,eS (sM gG) bs.length bs.length,eS (sM b8) bs.length bs.length]) fr (la (kV lz (dL (aZ xu) _ fun w_ hK=>(ae ((MU.aw hK).get 5 rfl) rfl)) (dL (aZ jx) _ fun w_ hK=>(ae ((MU.aw hK).get 3 rfl) rfl)) dP) dP) ?_;intro aC He vs hK hv fr;revert aC;refine bX [(2,vS (sM gG) bs.length bs.length),(3,vS (sM b8) bs.length bs.length)] ?_;have uW:=MU.aw hK;clear hK hv fr aC MU;clear vs;refine bL<|iv (vS (sM gG) bs.length bs.length) (vS (sM b8) bs.length bs.length) ?_;have rk:=uW.od [2,4] 2;exact⟨_,_,_,_,rfl,Ai,rk⟩;refine fm<|bP<|cr 5<|aX<|aI<|ah 3 ?_;intro aC fr;obtain⟨m0,hm0⟩:∃m0:Nat,m0=min 1 (aH bs).length:=⟨_,rfl⟩;refine x6 (kR:ax _ 3=some (some 59,(.call {callee:=(.builtin .min),args:=#[.const (vI 1),.tmp 58],argTypes:=#[3,3]}),3,none)) fr kR kR (k':=4) rfl (kd:= .i64) (i:=1) (j:=((aH bs).length:Int)) kR kR (m0:Int) (by split<;>omega) ?_;intro aC ea fr;clear ea;refine jA (kR:ax _ 4=some (some 60,.slice 43 (.tmp 56) (some (.tmp 59)) none none,43,none)) fr kR kR (k':=5) rfl (A:=A4) (n:=(aH bs).length) (cap:=c5) (e:=3) (size:=1) (kd:= .i64) (i:=(m0:Int)) m0 kR kR rfl kR kR oM ?_;intro aC ea fr;clear ea;obtain⟨A60,Qe0⟩:∃A60,A60=(if c5=m0 then A4 else A4.map (fun y=>y.add (m0*1))):=⟨_,rfl⟩;revert aC;refine da [4,5,6,10,11,12,60] ?_;intro aC fr;rw[←Qe0]at fr;revert aC;refine ah 2<|ay<|cr 6 ?_;intro aC fr;refine fk (fun n_ a_ w_=>∃(j:Nat) (Vc:af) (yw:Int→Int) (QZ:Bool),n_=(aH bs).length-m0-j∧Fr a_ 112 [(4,vS A4 ((aH bs).length) c5),(5,pT jx 0),(6,pT xu 0),(10,vS vK bs.length Qz),(11,(.func (.func 128) #[] #[pT jx 0,pT xu 0])),(12,vB QZ),(60,vS A60 ((aH bs).length-m0) (c5-m0)),(61,(vI ((((aH bs).length-m0):Nat):Int))),(62,nV j)]∧Mem bq w w_ [.aB b1 30 [nm,wk,pa,va,vS A bs.length c],.row 3 1 A4 ((aH bs).length) c5 (ints (aH bs)),.row 3 1 (sM b8) bs.length bs.length (ints m3),.aB jx 43 [vS (sM b8) bs.length bs.length],.row 3 1 (sM gG) bs.length bs.length (ints Vc),.aB xu 43 [vS (sM gG) bs.length bs.length],.gU 3 u3,.row 43 1 vK bs.length Qz (gq u3)]∧(j≤(aH bs).length-m0)∧(cy bs.length Vc yw)∧(0<bs.length→Dw (tg bs) (iz bs) yw k (j:Int))∧(QZ=false→Mp (tg bs) (iz bs) yw (j:Int))∧(bs.length+2≤k→QZ=false)) (n:=_) ⟨0,ab,up,false,rfl,fr.kp [4,5,6,10,11,12,60,61,62],MU,oM,QbX,ya,fun _=>Mp.start,fun _=>rfl⟩ ?_;clear fr aC MU;rintro n aC w72 ⟨j,Vc,yw,QZ,rfl,fr,Dq,hj,BO,yx,rZ,hfu⟩;revert aC;refine aI<|jP (decide ((j:Int)<((((aH bs).length-m0):Nat):Int))) fun Bj hBj=> ?_
 refine ay<|ba ?_;cases Bj;have cj:¬((j:Int)<((((aH bs).length-m0):Nat):Int)):=QnR hBj.symm;refine fT<|eW 6<|eX ?_;intro aC fr;exact⟨bs.length+3-(k+1),by have:=Qh8 rfl;omega,k+1,Vc,yw,QZ,rfl,fr.kp [4,5,6,10,11,12],Dq,BO,fun h=>(yx h).Qh3 (iC h) (fun x=>by have:=QM bs x;omega),fun h=>⟨oM,_,rZ h,fun x=>by have:=QM bs x;omega⟩,fun h=>QO hfu h⟩;have cj:(j:Int)<((((aH bs).length-m0):Nat):Int):=QlT hBj.symm;refine fm<|bP<|ba<|cr 7<|aI ?_;obtain⟨go,rfl⟩:=df (Dq.get 1 rfl) oM;have hco:=pR (Dq.get 1 rfl);obtain rfl:A60=some ((aZ go).add (1*1)):=by rw[Qe0,Ds oM,show m0=1 by omega];rfl
 obtain⟨bi,hbj,Ml,hpb⟩:=QL (bs:=bs) (j:=j) oM;have U9:0<bs.length:=oM;have hP:=iC U9;have Ms:=yx U9;have wF:(bi:Int)≠0:=by intro e;rw[e,hP.zero]at hpb;omega
 have Nv:∀x,0≤iz bs x→0≤x:=fun x hx=>(qz U9 hx).1
 obtain⟨Ab,cb,FE⟩:=QP.get (lK Ml);have U7:(bG bs (bi:Int)).length≤bs.length:=fR bs _ _;have pJ:WB (tg bs) (iz bs) yw bs.length m3 Vc:=⟨hP,Ms.ok,fun x hx=>qz U9 hx,HG,BO⟩;refine ej ((aZ go).add (1*1)) ((aH bs).length-m0) 1 (j:Int)<|bt ((((aZ go).add (1*1)):Addr).add (((j:Int)).toNat*1)) _ (fx (WC (aD (Dq.get 1 rfl))) rfl hbj)<|ah 1<|ay<|aX<|ba<|aI<|ah 2 ?_;obtain⟨g79,rfl⟩:=df (Dq.get 7 rfl) oM;refine ej (aZ g79) bs.length 1 (bi:Int)<|bt (aN (aZ g79) (bi:Int) 1) _ (bJ (aD (Dq.get 7 rfl)) rfl (ir FE))<|ah 2<|ay<|cr 8 ?_;intro aC fr;refine fk (fun n_ a_ w_=>∃(q:Nat) (to:Int),n_=(bG bs (bi:Int)).length-q∧Fr a_ 112 [(4,vS (sM go) ((aH bs).length) c5),(5,pT jx 0),(6,pT xu 0),(10,vS (sM g79) bs.length Qz),(11,(.func (.func 128) #[] #[pT jx 0,pT xu 0])),(12,vB QZ),(14,nV bi),(15,vI to),(60,vS (some ((aZ go).add (1*1))) ((aH bs).length-m0) (c5-m0)),(61,(vI ((((aH bs).length-m0):Nat):Int))),(62,nV j),(69,(vS Ab ((bG bs (bi:Int)).length) cb)),(70,(vI ((bG bs (bi:Int)).length:Int))),(71,nV q)]∧Mem bq w w_ [.aB b1 30 [nm,wk,pa,va,vS A bs.length c],.row 3 1 (sM go) ((aH bs).length) c5 (ints (aH bs)),.row 3 1 (sM b8) bs.length bs.length (ints m3),.aB jx 43 [vS (sM b8) bs.length bs.length],.row 3 1 (sM gG) bs.length bs.length (ints Vc),.aB xu 43 [vS (sM gG) bs.length bs.length],.gU 3 u3,.row 43 1 (sM g79) bs.length Qz (gq u3)]∧(q≤(bG bs (bi:Int)).length)∧(Fold (tg bs) (iz bs) yw ((bG bs (bi:Int)).take q) to)) (n:=_) ⟨0,-1,rfl,fr.kp [4,5,6,10,11,12,14,15,60,61,62,69,70,71],Dq,oM,Fold.start⟩ ?_;clear fr aC Dq;rintro n aC w82 ⟨q,to,rfl,fr,n8,hq,DD⟩;revert aC;refine aI<|jP (decide ((q:Int)<((bG bs (bi:Int)).length:Int))) fun Bq hBq=> ?_
 refine ay<|ba ?_;cases Bq;have cq:¬((q:Int)<((bG bs (bi:Int)).length:Int)):=QnR hBq.symm;refine fT<|eW 8<|eX<|aI ?_;rw[Qot oM]at DD;obtain⟨k1,k2,k3,k4,k5,k6⟩:=Ms.step hP Nv oM hpb (WD U9) DD;refine bt (aZ xu) _ (ae (n8.get 5 rfl) rfl)<|ah 1<|ej (aZ gG) bs.length 1 (bi:Int)<|bt (aN (aZ gG) (bi:Int) 1) _ (bJ (aD (n8.get 4 rfl)) rfl (BO.at_ oM oM))<|ah 1<|jP ((yw (bi:Int)) !=to) fun Bch Qe1=> ?_
 refine ay ?_;cases Bch;have cch:¬((yw (bi:Int))≠to):=LZ Qe1;have k7:Dw (tg bs) (iz bs) yw k ((j+1:Nat):Int):=by have:=k6;rw[show to=yw (bi:Int)by omega,QE]at this;exact this
 refine fT<|bP<|cG<|cZ ((j:Int)+1)<|ah 1<|ay ?_;intro aC fr;exact⟨(aH bs).length-m0-(j+1),oM,j+1,Vc,yw,QZ,rfl,fr.kp [4,5,6,10,11,12,60,61,62],n8,oM,BO,fun _=>k7,fun h=>(rZ h).next hP hpb (Ms.keep hpb k1 oM k4),hfu⟩;have cch:(yw (bi:Int))≠to:=Qoo.1 Qe1.symm;refine fm<|aI<|bt (aZ xu) _ (ae (n8.get 5 rfl) rfl)<|ah 2<|ej (aZ gG) bs.length 1 (bi:Int)<|yc n8 4 (aN (aZ gG) (bi:Int) 1) (((bi:Int)).toNat*1) (vI to) rfl rfl oM fun w88 WH=> ?_
 replace WH:=WH.nf;refine ay<|xh<|cG<|cZ ((j:Int)+1)<|ah 1<|ay ?_;intro aC fr;exact⟨(aH bs).length-m0-(j+1),oM,j+1,Vc.set bi to,sx yw (bi:Int) to,true,rfl,fr.kp [4,5,6,10,11,12,60,61,62],(WH.cast (by rw[ints_set];simp only[Qoq,Qoz])),oM,BO.set Ml uY (fun q _ dt=>mU oM),fun _=>k6,fun h=>Bool.noConfusion h,fun h=>absurd (Ms.full hP (fun x hx=>ny U9 hx) h oM wF k2 k3 k4 k5) cch⟩;have cq:(q:Int)<((bG bs (bi:Int)).length:Int):=QlT hBq.symm;refine fm<|bP<|ba<|cr 9<|aI ?_;obtain⟨si,zS,hsn⟩:=xt (bs:=bs) (b:=(bi:Int)) (q:=q) oM;obtain⟨Qe2,rfl⟩:=rd_some (oD (n8.get 6 rfl) FE) (by simp;omega);refine ej Qe2 ((bG bs (bi:Int)).length) 1 (q:Int)<|bt (aN Qe2 (q:Int) 1) _ (fx (oD (n8.get 6 rfl) FE) rfl zS)<|ah 1<|ay<|ba<|aI<|bt (aZ jx) _ (ae (n8.get 3 rfl) rfl)<|ah 1<|ej (aZ b8) bs.length 1 (si:Int)<|bt (aN (aZ b8) (si:Int) 1) _ (bJ (aD (n8.get 2 rfl)) rfl (HG.at_ oM oM))<|jP (decide ((iz bs (si:Int))<0)) fun Bpl Qe3=> ?_
 refine ah 1 ?_;cases Bpl;have cpl:¬((iz bs (si:Int))<0):=QnR Qe3.symm;refine ah 1<|jP ((si:Int) !=0) fun Bs0 Qe4=> ?_
 refine ah 1 ?_;cases Bs0;have cs0:¬((si:Int)≠0):=LZ Qe4;have DE:jV (iz bs) yw (si:Int):=⟨oM,.inl oM⟩;refine ah 7<|ay<|fT<|bP<|aI<|ah 1<|jP (decide (to<0)) fun Bto QQ=> ?_
 refine da [4,5,6,10,11,12,14,15,17,60,61,62,69,70,71,92]<|ay ?_;cases Bto;have cto:¬(to<0):=QnR QQ.symm;refine fT<|cG<|ah 3<|di (QK jx xu (aZ b8) (aZ gG) bs.length bs.length bs.length m3 Vc (tg bs) (iz bs) yw to (si:Int) w82 hm (n8.cK 3 rfl) (n8.cK 5 rfl) (RO.aD (n8.cK 2 rfl)) (RO.aD (n8.cK 4 rfl)) pJ (DD.It oM) DE) ?_;rintro _ w93 ⟨cm,rfl,zR,Qh9⟩;have Iy:=n8.cl Qh9;refine ah 1<|ay<|cG<|cZ ((q:Int)+1)<|ah 1<|ay ?_;intro aC fr;exact⟨(bG bs (bi:Int)).length-(q+1),oM,q+1,cm,rfl,fr.kp [4,5,6,10,11,12,14,15,60,61,62,69,70,71],Iy,oM,by rw[iE zS];exact DD.meet hP Ms.ok oM DE zR⟩;have cto:to<0:=QlT QQ.symm;refine fm<|xh<|cG<|cZ ((q:Int)+1)<|ah 1<|ay ?_;intro aC fr;exact⟨(bG bs (bi:Int)).length-(q+1),oM,q+1,(si:Int),rfl,fr.kp [4,5,6,10,11,12,14,15,60,61,62,69,70,71],n8,oM,by rw[iE zS];exact DD.first cto Nv DE⟩;have cs0:(si:Int)≠0:=Qoo.1 Qe4.symm;refine bt (aZ xu) _ (ae (n8.get 5 rfl) rfl)<|ah 1<|ej (aZ gG) bs.length 1 (si:Int)<|bt (aN (aZ gG) (si:Int) 1) _ (bJ (aD (n8.get 4 rfl)) rfl (BO.at_ oM oM))<|da [4,5,6,10,11,12,14,15,17,60,61,62,69,70,71,80,83,87]<|jP (decide ((yw (si:Int))<0)) fun Bup Qe5=> ?_
 refine ah 2<|ay ?_;cases Bup;have cup:¬((yw (si:Int))<0):=QnR Qe5.symm;have DE:jV (iz bs) yw (si:Int):=⟨oM,.inr oM⟩;refine fT<|bP<|aI<|ah 1<|jP (decide (to<0)) fun Bto QQ=> ?_
 refine ay ?_;cases Bto;have cto:¬(to<0):=QnR QQ.symm;refine fT<|cG<|ah 3<|di (QK jx xu (aZ b8) (aZ gG) bs.length bs.length bs.length m3 Vc (tg bs) (iz bs) yw to (si:Int) w82 hm (n8.cK 3 rfl) (n8.cK 5 rfl) (RO.aD (n8.cK 2 rfl)) (RO.aD (n8.cK 4 rfl)) pJ (DD.It oM) DE) ?_;rintro _ w99 ⟨cm,rfl,zR,Qe6⟩;have Iz:=n8.cl Qe6;refine ah 1<|ay<|cG<|cZ ((q:Int)+1)<|ah 1<|ay ?_;intro aC fr;exact⟨(bG bs (bi:Int)).length-(q+1),oM,q+1,cm,rfl,fr.kp [4,5,6,10,11,12,14,15,60,61,62,69,70,71],Iz,oM,by rw[iE zS];exact DD.meet hP Ms.ok oM DE zR⟩;have cto:to<0:=QlT QQ.symm;refine fm<|xh<|cG<|cZ ((q:Int)+1)<|ah 1<|ay ?_;intro aC fr;exact⟨(bG bs (bi:Int)).length-(q+1),oM,q+1,(si:Int),rfl,fr.kp [4,5,6,10,11,12,14,15,60,61,62,69,70,71],n8,oM,by rw[iE zS];exact DD.first cto Nv DE⟩;have cup:(yw (si:Int))<0:=QlT Qe5.symm;have hnp:¬jV (iz bs) yw (si:Int):=fun h=>h.2.elim cs0 (fun h=>oM)
 refine fm<|eW 9<|eX<|cG<|cZ ((q:Int)+1)<|ah 1<|ay ?_;intro aC fr;exact⟨(bG bs (bi:Int)).length-(q+1),oM,q+1,to,rfl,fr.kp [4,5,6,10,11,12,14,15,60,61,62,69,70,71],n8,oM,by rw[iE zS];exact DD.skip hnp⟩;have cpl:(iz bs (si:Int))<0:=QlT Qe3.symm;have hnp:¬jV (iz bs) yw (si:Int):=fun h=>by have:=h.1;omega
 refine ah 10<|ay<|fm<|eW 9<|eX<|cG<|cZ ((q:Int)+1)<|ah 1<|ay ?_;intro aC fr;exact⟨(bG bs (bi:Int)).length-(q+1),oM,q+1,to,rfl,fr.kp [4,5,6,10,11,12,14,15,60,61,62,69,70,71],n8,oM,by rw[iE zS];exact DD.skip hnp⟩;have ck:(k:Int)<((aH bs).length:Int):=QlT Qu.symm;refine fm<|bP<|ba<|cr 3<|aI ?_;obtain⟨bi,Yg,Ml,hpb⟩:=Dz (bs:=bs) (k:=k) oM;refine ah 1 ?_;obtain⟨Qe7,rfl⟩:=df (rr.get 1 rfl) oM;refine ej (aZ Qe7) ((aH bs).length) 1 (k:Int)<|bt (aN (aZ Qe7) (k:Int) 1) _ (fx (aD (rr.get 1 rfl)) rfl Yg)<|ah 2<|ay<|cG<|bt (aZ jx) _ (ae (rr.get 3 rfl) rfl)<|ah 2<|ej (aZ b8) bs.length 1 (bi:Int)<|yc rr 2 (aN (aZ b8) (bi:Int) 1) (((bi:Int)).toNat*1) (nV k) rfl rfl oM fun Qe8 DF=> ?_
 replace DF:=DF.nf;refine ay<|cG<|cZ ((k:Int)+1)<|ah 1<|ay ?_;intro aC fr;exact⟨(aH bs).length-(k+1),oM,k+1,m3.set bi (k:Int),rfl,fr.kp [1,4,5,6,40,41,42],(DF.cast (by rw[ints_set];simp only[Qoq,Qoz])),oM,FC h3 Yg Ml⟩;have ci:(i:Int)<(bs.length:Int):=QlT hBi.symm;refine fm<|bP<|ba<|cr 1<|aX<|da [1,4,5,6,7,29,30] ?_;intro aC fr;refine ED (bo [eS (sM b8) bs.length bs.length,.aU (nV i),eS (sM gG) bs.length bs.length,.aU (nV i),eA (aZ b8) (i:Int) 1,.aU undef,eA (aZ gG) (i:Int) 1,.aU undef]) (fun ls vs w_=>match ls 7 with|true=>(Mem bq w w_ [.aB b1 30 [nm,wk,pa,va,vS A bs.length c],.row 3 1 A4 ((aH bs).length) c5 (ints (aH bs)),.row 3 1 (sM b8) bs.length bs.length ((ints m1).set (((i:Int)).toNat*1) (vI (-1))),.aB jx 43 [vS (sM b8) bs.length bs.length],.row 3 1 (sM gG) bs.length bs.length ((ints m2).set (((i:Int)).toNat*1) (vI (-1))),.aB xu 43 [vS (sM gG) bs.length bs.length]])|false=>(match ls 5 with|true=>(Mem bq w w_ [.aB b1 30 [nm,wk,pa,va,vS A bs.length c],.row 3 1 A4 ((aH bs).length) c5 (ints (aH bs)),.row 3 1 (sM b8) bs.length bs.length ((ints m1).set (((i:Int)).toNat*1) (vI (-1))),.aB jx 43 [vS (sM b8) bs.length bs.length],.row 3 1 (sM gG) bs.length bs.length (ints m2),.aB xu 43 [vS (sM gG) bs.length bs.length]])|false=>(Mem bq w w_ [.aB b1 30 [nm,wk,pa,va,vS A bs.length c],.row 3 1 A4 ((aH bs).length) c5 (ints (aH bs)),.row 3 1 (sM b8) bs.length bs.length (ints m1),.aB jx 43 [vS (sM b8) bs.length bs.length],.row 3 1 (sM gG) bs.length bs.length (ints m2),.aB xu 43 [vS (sM gG) bs.length bs.length]]))) fr (eL (.aU (.aU (.aU (.aU (.aU (.aU (.aU (.aU .nil))))))))) (ma.aw (Mem.drew _)) (pF lz (mP (aZ jx) (vS (sM b8) bs.length bs.length) (fun _ _ _ _ h=>h) ?_) bM (mP (aZ xu) (vS (sM gG) bs.length bs.length) (fun _ _ _ _ h=>h) ?_) bM (yd (aZ b8) bs.length 1 (i:Int) fun _ _ _ _ h=>h) ?_ (yd (aZ gG) bs.length 1 (i:Int) fun _ _ _ _ h=>h) ?_) ?_;intro w_ ls vs hJ bI bH hp;have f5:=aR 5 8 bH bI;have f7:=aR 7 8 bH bI;have aO:=hJ;simp only[f5,f7]at aO;exact(ae (aO.get 3 rfl) rfl);intro w_ ls vs hJ bI bH hp;have f7:=aR 7 8 bH bI;have aO:=hJ;simp only[f7]at aO;cases fu:ls 5;simp only[fu]at aO;exact(ae (aO.get 5 rfl) rfl);simp only[fu]at aO;exact(ae (aO.get 5 rfl) rfl);intro ep w_ ls vs cL hJ bI bH hp hF;refine jv (g0:=none) ?_;replace hF:Fr ep 112 [(37,(vP (aN (aZ b8) (i:Int) 1)))]:=hF.kp [37];have f5:ls 5=false:=bI;have f7:=aR 7 8 bH bI;have aO:=hJ;simp only[f5,f7]at aO;refine ew (kR:ax _ 0=some (none,.store 3 (.tmp 37) (.const (vI (-1))),0,none)) hF kR kR (k':=1) rfl (ad:=(aZ b8)) (j:=(((i:Int)).toNat*1)) (e:=3) (size:=1) (n:=bs.length) (cap:=bs.length) (v:=(vI (-1))) (xs:=(ints m1)) (ad':=(aN (aZ b8) (i:Int) 1)) kR rfl kR kR rfl aO 2 rfl oM ?_;intro w2 dH _ a2 ea _;refine aL kR ?_;refine bu (d:=none) kR ea rfl ?_;show match ls 7 with|true=>_|false=>(_)
 rw[f7];exact dH;intro ep w_ ls vs cL hJ bI bH hp hF;refine jv (g0:=none) ?_;replace hF:Fr ep 112 [(38,(vP (aN (aZ gG) (i:Int) 1)))]:=hF.kp [38];have f5:=cN 5 8 bH hp;have f7:ls 7=false:=bI;have aO:=hJ;simp only[f5,f7]at aO;refine ew (kR:ax _ 0=some (none,.store 3 (.tmp 38) (.const (vI (-1))),0,none)) hF kR kR (k':=1) rfl (ad:=(aZ gG)) (j:=(((i:Int)).toNat*1)) (e:=3) (size:=1) (n:=bs.length) (cap:=bs.length) (v:=(vI (-1))) (xs:=(ints m2)) (ad':=(aN (aZ gG) (i:Int) 1)) kR rfl kR kR rfl aO 4 rfl oM ?_;intro w2 dH _ a2 ea _;refine aL kR ?_;refine bu (d:=none) kR ea rfl ?_;show _;exact dH;intro aC Qia ls vs cV Mt hv fr;simp only[show ls 7=true from cV 7 dQ]at Mt;revert aC;refine bX [(1,pT b1 0),(4,vS A4 ((aH bs).length) c5),(5,pT jx 0),(6,pT xu 0),(29,(vI (bs.length:Int))),(30,nV i)] ?_;clear cV hv fr aC ma;clear vs ls;refine cG<|cZ ((i:Int)+1)<|ah 1<|ay ?_;intro aC fr;exact⟨bs.length-(i+1),oM,i+1,m1.set i (-1),m2.set i (-1),rfl,fr.kp [1,4,5,6,29,30],(Mt.cast (by rw[ints_set,ints_set];simp only[Qoq,Qoz])),oM,BM h1 oM,BM h2 oM⟩
end Go.Proofs.YtejbeeaomokjpaaGreat
namespace Go.Proofs.YtejbeeaomokjpaaGreat
open Go.Mor
theorem WI(w:World):Calls Tryz.prog 135 #[vB true] w (ez fun v w'=>v=vI 1∧Mem bq w w' []):=by
 refine fv 4 [vB true] Tryz.func135 ?_;have hM:=Mem.init w;refine aX<|ba<|aX<|fm<|aX<|bL<|cv (vI 1) ?_;exact⟨rfl,hM⟩
theorem WJ(w:World):Calls Tryz.prog 135 #[vB false] w (ez fun v w'=>v=vI 0∧Mem bq w w' []):=by
 refine fv 4 [vB false] Tryz.func135 ?_;have hM:=Mem.init w;refine aX<|ba<|aX<|fT<|bP<|aX<|bL<|cv (vI 0) ?_;exact⟨rfl,hM⟩
theorem lM(b:Bool)(w:World):Calls Tryz.prog 135 #[.bool b] w (ez fun v w'=>v=vI (cO b)∧Mem bq w w' []):=by
 cases b
 ·exact WJ w
 ·exact WI w
theorem QkI(b:Int)(w:World):Calls Tryz.prog 134 #[vI b] w (ez fun v w'=>v= .int .u64 (tC b)∧Mem bq w w' []):=by
 refine fv 6 [vI b] Tryz.func134 ?_;have hM:=Mem.init w;refine aX<|aI<|ah 1<|zcv (hz:=rfl) b .u64 (IntKind.u64.wrap b)<|Hx .u64 (tC b) 63<|ah 1<|ay<|bL<|cv (.int .u64 (tC b)) ?_;exact⟨rfl,hM⟩
theorem DG(b:Int):0≤tC b:=by
 unfold tC;have h:∀i:Int,0≤IntKind.u64.wrap i:=fun i=>by unfold IntKind.wrap;simp[IntKind.signed,IntKind.bits];omega
 exact h _
theorem yy(op a b:Int)(w:World):Calls Tryz.prog 133 #[vI op,vI a,vI b] w (ez fun v w'=>v= .tuple #[vI (jE op a b).1,vI (jE op a b).2]∧Mem bq w w' []):=by
 refine fv 32 [vI op,vI a,vI b] Tryz.func133 ?_;have hM:=Mem.init w;refine aX<|ba<|cr 0<|aX<|dX ((b:Int)==0) ((b:Int)=0) (by simp only[Qco]) (fun c1=> ?_) (fun c1=> ?_);refine aX<|bL<|cJ<|iv (vI 0) (vI 3) ?_;refine⟨?_,hM⟩;have e_:jE op a b=(0,3):=by first|exact Bo oM|exact Bp oM oM|exact Br oM oM|exact Bs oM oM oM|exact Bx oM oM oM
 rw[e_];refine aI<|ah 3 ?_;obtain⟨B2,QR⟩:∃B:Bool,B=((b:Int)==(-1)):=⟨_,rfl⟩;refine bX [(0,vI op),(1,vI a),(2,vI b),(14,(vB ((b:Int)==(-1))))] ?_;rw[←QR];have Q0:B2=true↔((b:Int)=(-1)):=by rw[QR];simp only[Qco]
 clear QR;intro aC fr;refine cE 4 7 [11,17] fr (news:=[(11,(vB (B2&&((op:Int)==4)))),(17,(vB (B2&&((op:Int)==4))))]) (by cases B2<;>kernel_rfl)<|ay<|dX (B2&&((op:Int)==4)) (((b:Int)=(-1))∧((op:Int)=4)) (by simp only[QlP,Qco,Q0]) (fun c7=> ?_) (fun c7=> ?_);refine aI<|ah 1<|Mo .neg a .i64 (IntKind.i64.wrap (0-a))<|ah 2<|ay<|bL<|cJ<|iv (vI (IntKind.i64.wrap (0-a))) (vI 0) ?_;refine⟨?_,hM⟩;have e_:jE op a b=(IntKind.i64.wrap (0-a),0):=by first|exact Bo oM|exact Bp oM oM|exact Br oM oM|exact Bs oM oM oM|exact Bx oM oM oM
 rw[e_];refine aX<|dX ((b:Int)==(-1)) ((b:Int)=(-1)) (by simp only[Qco]) (fun c8=> ?_) (fun c8=> ?_);refine aX<|bL<|cJ<|iv (vI 0) (vI 0) ?_;refine⟨?_,hM⟩;have e_:jE op a b=(0,0):=by first|exact Bo oM|exact Bp oM oM|exact Br oM oM|exact Bs oM oM oM|exact Bx oM oM oM
 rw[e_];refine aX<|dX ((op:Int)==4) ((op:Int)=4) (by simp only[Qco]) (fun c9=> ?_) (fun c9=> ?_);refine aI<|ah 2<|Ur .i64 (IntKind.i64.wrap (a.tdiv b)) b (by assumption)<|ah 2<|ay<|bL<|cJ<|iv (vI (IntKind.i64.wrap (a.tdiv b))) (vI 0) ?_;refine⟨?_,hM⟩;have e_:jE op a b=(IntKind.i64.wrap (a.tdiv b),0):=by first|exact Bo oM|exact Bp oM oM|exact Br oM oM|exact Bs oM oM oM|exact Bx oM oM oM
 rw[e_];refine bP<|aI<|ah 2<|Ur .i64 (a.tmod b) b (by assumption)<|ah 2<|ay<|bL<|iv (vI (a.tmod b)) (vI 0) ?_;refine⟨?_,hM⟩;have e_:jE op a b=(a.tmod b,0):=by first|exact Bo oM|exact Bp oM oM|exact Br oM oM|exact Bs oM oM oM|exact Bx oM oM oM
 rw[e_]
set_option maxHeartbeats 2000000 in
theorem Qe9(op a b:Int)(w:World):Calls Tryz.prog 122 #[vI op,vI a,vI b] w (ez fun v w'=>v= .tuple #[vI (cA op a b).1,vI (cA op a b).2]∧Mem bq w w' []):=by
 refine fv 96 [vI op,vI a,vI b] Tryz.func122 ?_;have hM:=Mem.init w;refine aX<|ba<|aX<|cr 0<|aX<|dX ((op:Int)==1) ((op:Int)=1) (by simp only[Qco]) (fun c1=> ?_) (fun c1=> ?_);refine aI<|ah 2<|Hx .i64 (IntKind.i64.wrap (a+b)) b<|ah 2<|ay<|bL<|cJ<|iv (vI (IntKind.i64.wrap (a+b))) (vI 0) ?_;refine⟨?_,hM⟩;have e_:cA op a b=(IntKind.i64.wrap (a+b),0):=by exact bo1
 rw[e_];refine aX<|dX ((op:Int)==2) ((op:Int)=2) (by simp only[Qco]) (fun c2=> ?_) (fun c2=> ?_);refine aI<|ah 2<|Hx .i64 (IntKind.i64.wrap (a-b)) b<|ah 2<|ay<|bL<|cJ<|iv (vI (IntKind.i64.wrap (a-b))) (vI 0) ?_;refine⟨?_,hM⟩;have e_:cA op a b=(IntKind.i64.wrap (a-b),0):=by exact bo2
 rw[e_];refine aX<|dX ((op:Int)==3) ((op:Int)=3) (by simp only[Qco]) (fun c3=> ?_) (fun c3=> ?_);refine aI<|ah 2<|Hx .i64 (IntKind.i64.wrap (a*b)) b<|ah 2<|ay<|bL<|cJ<|iv (vI (IntKind.i64.wrap (a*b))) (vI 0) ?_;refine⟨?_,hM⟩;have e_:cA op a b=(IntKind.i64.wrap (a*b),0):=by exact bo3
 rw[e_];refine ba<|aX ?_;obtain⟨B4,yz⟩:∃B:Bool,B=((op:Int)==4):=⟨_,rfl⟩;refine bX [(0,vI op),(1,vI a),(2,vI b),(8,vI op),(24,(vB ((op:Int)==4)))] ?_;rw[←yz];have tL:B4=true↔((op:Int)=4):=by rw[yz];simp only[Qco]
 clear yz;cases B4;have c4:¬((op:Int)=4):=iL tL.2;refine fT<|xh<|dX ((op:Int)==5) ((op:Int)=5) (by simp only[Qco]) (fun c5=> ?_) (fun c5=> ?_);refine aI<|ah 3<|di (yy op a b w) ?_;rintro _ w6 ⟨rfl,XF⟩;have M7:=hM.cl XF;clear XF hM;refine ah 4<|ay<|bL<|cJ<|iv (vI ((jE op a b).1)) (vI ((jE op a b).2)) ?_;refine⟨?_,M7⟩;have e_:cA op a b=((jE op a b).1,(jE op a b).2):=by first|exact p9 oM|exact gz oM
 rw[e_];refine aX<|dX ((op:Int)==6) ((op:Int)=6) (by simp only[Qco]) (fun c8=> ?_) (fun c8=> ?_);refine aI<|ah 2<|Hx .i64 (tB a b) b<|ah 2<|ay<|bL<|cJ<|iv (vI (tB a b)) (vI 0) ?_;refine⟨?_,hM⟩;have e_:cA op a b=(tB a b,0):=by exact bo6
 rw[e_];refine aX<|dX ((op:Int)==7) ((op:Int)=7) (by simp only[Qco]) (fun c9=> ?_) (fun c9=> ?_);refine aI<|ah 2<|Hx .i64 (Z3 a b) b<|ah 2<|ay<|bL<|cJ<|iv (vI (Z3 a b)) (vI 0) ?_;refine⟨?_,hM⟩;have e_:cA op a b=(Z3 a b,0):=by exact bo7
 rw[e_];refine aX<|dX ((op:Int)==8) ((op:Int)=8) (by simp only[Qco]) (fun uR=> ?_) (fun uR=> ?_);refine aI<|ah 2<|Hx .i64 (rp a b) b<|ah 2<|ay<|bL<|cJ<|iv (vI (rp a b)) (vI 0) ?_;refine⟨?_,hM⟩;have e_:cA op a b=(rp a b,0):=by exact bo8
 rw[e_];refine aX<|dX ((op:Int)==9) ((op:Int)=9) (by simp only[Qco]) (fun qV=> ?_) (fun qV=> ?_);refine aI<|ah 2<|di (QkI b w) ?_;rintro _ V6 ⟨rfl,FF⟩;have oB:=hM.cl FF;clear FF hM;refine zbs .i64 .u64 (Fi a (tC b)) (tC b) (DG b)<|ah 2<|ay<|bL<|cJ<|iv (vI (Fi a (tC b))) (vI 0) ?_;refine⟨?_,oB⟩;have e_:cA op a b=(Fi a (tC b),0):=by exact bo9
 rw[e_];refine aX<|dX ((op:Int)==10) ((op:Int)=10) (by simp only[Qco]) (fun HH=> ?_) (fun HH=> ?_);refine aI<|ah 2<|di (QkI b w) ?_;rintro _ Z7 ⟨rfl,Wa⟩;have oC:=hM.cl Wa;clear Wa hM;refine zbs .i64 .u64 (Dh a (tC b)) (tC b) (DG b)<|ah 2<|ay<|bL<|cJ<|iv (vI (Dh a (tC b))) (vI 0) ?_;refine⟨?_,oC⟩;have e_:cA op a b=(Dh a (tC b),0):=by exact QeE
 rw[e_];refine aX<|dX ((op:Int)==11) ((op:Int)=11) (by simp only[Qco]) (fun HI=> ?_) (fun HI=> ?_);refine aI<|ah 3<|di (lM ((a:Int)==b) w) ?_;rintro _ UA ⟨rfl,WK⟩;have mR:=hM.cl WK;clear WK hM;refine ah 2<|ay<|bL<|cJ<|iv (vI (cO ((a:Int)==b))) (vI 0) ?_;refine⟨?_,mR⟩;have e_:cA op a b=(cO ((a:Int)==b),0):=by exact QeF
 rw[e_];refine aX<|dX ((op:Int)==12) ((op:Int)=12) (by simp only[Qco]) (fun EH=> ?_) (fun EH=> ?_);refine aI<|ah 3<|di (lM ((a:Int) !=b) w) ?_;rintro _ w21 ⟨rfl,Wx⟩;have lJ:=hM.cl Wx;clear Wx hM;refine ah 2<|ay<|bL<|cJ<|iv (vI (cO ((a:Int) !=b))) (vI 0) ?_;refine⟨?_,lJ⟩;have e_:cA op a b=(cO ((a:Int) !=b),0):=by exact QeG
 rw[e_];refine aX<|dX ((op:Int)==13) ((op:Int)=13) (by simp only[Qco]) (fun c23=> ?_) (fun c23=> ?_);refine aI<|ah 3<|di (lM (decide ((a:Int)<b)) w) ?_;rintro _ w24 ⟨rfl,V9⟩;have L8:=hM.cl V9;clear V9 hM;refine ah 2<|ay<|bL<|cJ<|iv (vI (cO (decide ((a:Int)<b)))) (vI 0) ?_;refine⟨?_,L8⟩;have e_:cA op a b=(cO (decide ((a:Int)<b)),0):=by exact QeH
 rw[e_];refine aX<|dX ((op:Int)==14) ((op:Int)=14) (by simp only[Qco]) (fun HJ=> ?_) (fun HJ=> ?_);refine aI<|ah 3<|di (lM (decide ((a:Int)≤b)) w) ?_;rintro _ Yh ⟨rfl,QS⟩;have qj:=hM.cl QS;clear QS hM;refine da [83]<|ah 2<|ay<|bL<|cJ<|iv (vI (cO (decide ((a:Int)≤b)))) (vI 0) ?_;refine⟨?_,qj⟩;have e_:cA op a b=(cO (decide ((a:Int)≤b)),0):=by exact QeI
 rw[e_];refine aX<|dX ((op:Int)==15) ((op:Int)=15) (by simp only[Qco]) (fun HB=> ?_) (fun HB=> ?_);refine aI<|ah 3<|di (lM (decide ((a:Int)>b)) w) ?_;rintro _ O7 ⟨rfl,IA⟩;have s8:=hM.cl IA;clear IA hM;refine da [89]<|ah 2<|ay<|bL<|cJ<|iv (vI (cO (decide ((a:Int)>b)))) (vI 0) ?_;refine⟨?_,s8⟩;have e_:cA op a b=(cO (decide ((a:Int)>b)),0):=by exact QeJ
 rw[e_];refine aX<|dX ((op:Int)==16) ((op:Int)=16) (by simp only[Qco]) (fun Fo=> ?_) (fun Fo=> ?_);refine aI<|ah 3<|di (lM (decide ((a:Int)≥b)) w) ?_;rintro _ Gs ⟨rfl,Dl⟩;have xo:=hM.cl Dl;clear Dl hM;refine da [95]<|ah 2<|ay<|bL<|cJ<|iv (vI (cO (decide ((a:Int)≥b)))) (vI 0) ?_;refine⟨?_,xo⟩;have e_:cA op a b=(cO (decide ((a:Int)≥b)),0):=by exact QeK
 rw[e_];refine bP<|aX<|bL<|iv (vI 0) (vI (-1)) ?_;refine⟨?_,hM⟩;have e_:cA op a b=(0,-1):=by first|exact p9 oM|exact gz oM
 rw[e_];have c4:((op:Int)=4):=tL.1 rfl;refine fm<|bP<|fm<|aI<|ah 3<|di (yy op a b w) ?_;rintro _ w35 ⟨rfl,Qfa⟩;have uX:=hM.cl Qfa;clear Qfa hM;refine ah 4<|ay<|bL<|cJ<|iv (vI ((jE op a b).1)) (vI ((jE op a b).2)) ?_;refine⟨?_,uX⟩;have e_:cA op a b=((jE op a b).1,(jE op a b).2):=by first|exact p9 oM|exact gz oM
 rw[e_]
theorem Qib(op a:Int)(w:World):Calls Tryz.prog 124 #[vI op,vI a] w (ez fun v w'=>v= .tuple #[vI (rJ op a).1,vI (rJ op a).2]∧Mem bq w w' []):=by
 refine fv 20 [vI op,vI a] Tryz.func124 ?_;have hM:=Mem.init w;refine aX<|ba<|aX<|cr 0<|aX<|dX ((op:Int)==1) ((op:Int)=1) (by simp only[Qco]) (fun c1=> ?_) (fun c1=> ?_);refine aI<|ah 1<|Mo .neg a .i64 (IntKind.i64.wrap (0-a))<|ah 2<|ay<|bL<|cJ<|iv (vI (IntKind.i64.wrap (0-a))) (vI 0) ?_;refine⟨?_,hM⟩;have e_:rJ op a=(IntKind.i64.wrap (0-a),0):=by first|exact Z4|exact Z5|exact Z6|exact tD (by assumption) (by assumption) (by assumption)
 rw[e_];refine aX<|dX ((op:Int)==2) ((op:Int)=2) (by simp only[Qco]) (fun c2=> ?_) (fun c2=> ?_);refine aI<|ah 1<|Mo .xor a .i64 (rp (-1) a)<|ah 2<|ay<|bL<|cJ<|iv (vI (rp (-1) a)) (vI 0) ?_;refine⟨?_,hM⟩;have e_:rJ op a=(rp (-1) a,0):=by first|exact Z4|exact Z5|exact Z6|exact tD (by assumption) (by assumption) (by assumption)
 rw[e_];refine aX<|dX ((op:Int)==3) ((op:Int)=3) (by simp only[Qco]) (fun c3=> ?_) (fun c3=> ?_);refine aI<|ah 2<|di (lM ((a:Int)==0) w) ?_;rintro _ w4 ⟨rfl,DH⟩;have M5:=hM.cl DH;clear DH hM;refine ah 2<|ay<|bL<|cJ<|iv (vI (cO ((a:Int)==0))) (vI 0) ?_;refine⟨?_,M5⟩;have e_:rJ op a=(cO ((a:Int)==0),0):=by first|exact Z4|exact Z5|exact Z6|exact tD (by assumption) (by assumption) (by assumption)
 rw[e_];refine bP<|aX<|bL<|iv (vI 0) (vI (-1)) ?_;refine⟨?_,hM⟩;have e_:rJ op a=(0,-1):=by first|exact Z4|exact Z5|exact Z6|exact tD (by assumption) (by assumption) (by assumption)
 rw[e_]
end Go.Proofs.YtejbeeaomokjpaaGreat
namespace Go.Mor
open Go.RowKit
def qW(l:af):aP:=l.map (Value.int .u8)
theorem WL(l:af):(qW l).length=l.length:=by simp[qW]
theorem IB(l m:af):qW (l++m)=qW l++qW m:=by simp[qW]
structure RC where
 E:Env0
 r:Nat
 fA:ar
 fc:Nat
 sA:ar
 sc:Nat
 mB:Nat
 dB:Nat
 mG:Nat
 iA:ar
 ic:Nat
 oP:Addr
def QT(f:et):aP:=f.bG.map (fun q=> .slice q.1 q.2.2.length q.2.1)
structure Qac(f:et)(k:Nat)(x:aE):Prop where
 lp:x.au.length≤20000
 li:x.insts.length≤20000
 ends:fU f.bh.length x
 vIf:x.e=1→0≤x.v∧x.v<f.va
 Qic:x.e=2→-1≤x.v∧x.v<f.va
 shape:∀i,i∈x.insts→bQ i
 args:∀i,i∈x.insts→∀v,v∈i.args→0≤v∧v<f.va
 dst:∀i,i∈x.insts→aK i.op→0≤i.dst∧i.dst<f.va
 Qid:∀p,p∈x.au→0≤p.dst∧p.dst<f.va
 Qie:∀p,p∈x.au→p.args.length=(f.src k).length
 Qfb:∀p,p∈x.au→∀v,v∈p.args→0≤v∧v<f.va
structure et.WF(f:et):Prop where
 ok:pz f.bh
 pos:0<f.bh.length
 len:f.bh.length≤1000
 pa0:0≤f.pa
 pav:f.pa≤f.va
 va:f.va≤20000
 first:∀x,f.bh[0]?=some x→x.au=[]
 aB:∀k x,f.bh[k]?=some x→Qac f k x
 Qfc:f.bG.length=f.bh.length
 Qif:∀(k:Nat) (x:aE) (t:Int),f.bh[k]?=some x→(x.e=0∧t=x.a∨x.e=1∧(t=x.a∨t=x.b))→(k:Int)∈f.src t.toNat
 Qig:∀k,(f.src k).length≤1000
end Go.Mor
namespace Go.Mor
open Go.RowKit
theorem et.QU{f:et}{k:Nat}{q:ar×Nat×af}(h:f.bG[k]?=some q):f.src k=q.2.2:=by simp[et.src,List.getD,h]
def tM(at_:Nat)(bC:af)(p:bZ):Int:=bC.getD (p.args.getD at_ 0).toNat 0
theorem yA:∀(l:List (Int×Int)) (bC:af),(jF bC l).length=bC.length
 |[],_=>rfl
 |(d,v)::r,bC=>by unfold jF;rw[yA r];simp
theorem vy:∀(l:List (Int×Int)) (bC:af) (d v:Int),jF bC (l++[(d,v)])=(jF bC l).set d.toNat v
 |[],_,_,_=>rfl
 |(d0,v0)::r,bC,d,v=>by show jF (bC.set d0.toNat v0) (r++[(d,v)])=_;rw[vy r];rfl
def qk(ps:List bZ)(at_:Nat)(bC:af)(j:Nat):af:=jF bC ((ps.take j).map (fun p=>(p.dst,tM at_ bC p)))
theorem IE{ps:List bZ}{at_:Nat}{bC:af}{j:Nat}{p:bZ}(h:ps[j]?=some p):(qk ps at_ bC j).set p.dst.toNat (tM at_ bC p)=qk ps at_ bC (j+1):=by
 obtain⟨hj,he⟩:=List.getElem?_eq_some_iff.1 h;unfold qk;rw[Qow hj,he,Qou];exact(vy _ _ _ _).symm
theorem IG(ps:List bZ)(at_:Nat)(bC:af):qk ps at_ bC 0=bC:=by simp[qk,jF]
theorem Mu(ps:List bZ)(at_:Nat)(bC:af):qk ps at_ bC ps.length=gr ps at_ bC:=by simp[qk,gr,tM]
theorem WN{l:af}{i:Nat}(h:i<l.length):l.getD i 0∈l:=by simp[List.getD,h]
theorem sy(bC args:af):(fe bC args).length=args.length:=by simp[fe]
theorem k9{α β:Type}{g:dp α}{a:α}{s:cQ}{f:α→cQ→dp β}(h:g= .ok a s):g.bind f=f a s:=by rw[h];rfl
theorem iH{α β:Type}{g:dp α}{k c:Int}{s:cQ}{f:α→cQ→dp β}(h:g= .stop k c s):g.bind f= .stop k c s:=by rw[h];rfl
def Qih(i:bl)(bC:af)(v:Int):af:=if 0≤i.dst∧aK i.op then bC.set i.dst.toNat v else bC
def QV(E:Env0)(x:aE)(bC:af)(s:cQ):dp (Int×Int×af):=(cT E s).bind fun _ s=>
  if x.e=0 then .ok (x.a,0,bC) s
  else if x.e=1 then .ok (if bC.getD x.v.toNat 0≠0 then x.a else x.b,0,bC) s
  else if x.e=3 then .stop 2 x.a s
  else .ok (-1,if x.v≥0 then bC.getD x.v.toNat 0 else 0,bC) s
section
variable {E : Env0} {call : Int → List Int → cQ → dp Int}
theorem QW{f:et}{k from_:Int}{bC:af}{s:cQ}{x:aE}(h:f.bh[k.toNat]?=some x):fi E call f k from_ bC s=(cS E call x.insts (gr x.au (eG (f.src k.toNat) from_) bC) s).bind (QV E x):=by
 unfold fi;rw[h];rfl
theorem yB{s s':cQ}{x:Unit}(h:cT E s= .ok x s'):s'.steps=s.steps+1:=by
 unfold cT at h;split at h
 ·cases h
 ·injection h with h1 h2;subst h2;rfl
def Mv(call:Int→af→cQ→dp Int):Prop:=∀n l s x s',call n l s= .ok x s'→s.steps≤s'.steps
theorem tN{n:Int}{s s':cQ}{k:Nat}(h:uy n s= .ok k s'):s'=s:=by
 unfold uy at h;split at h
 ·cases h
 ·injection h with h1 h2;exact h2.symm
theorem yC(hm:Mv call){i:bl}{l:af}{s s':cQ}{x:Int}(h:bV E call i l s= .ok x s'):s.steps≤s'.steps:=by
 have fin:∀(y:Int) (s2:cQ),s.steps≤s2.steps→dp.ok y s2=dp.ok x s'→s.steps≤s'.steps:=by intro y s2 h1 h2;injection h2 with _ h2;rw[←h2];exact h1
 by_cases h1:i.op=1
 ·rw[qa h1]at h;exact fin _ _ (Qol _) h
 by_cases h2:i.op=2
 ·rw[qb h2]at h;cases hq:uy (IntKind.i64.wrap (a0 l+i.n)) s with
  |ok k s2=>rw[k9 hq]at h;exact fin _ _ (by rw[tN hq];exact Qol _) h
  |stop k c s2=>rw[iH hq]at h;cases h
 by_cases h3:i.op=3
 ·rw[qd h3]at h;cases hq:uy (IntKind.i64.wrap (a0 l+i.n)) s with
  |ok k s2=>rw[k9 hq]at h;exact fin _ _ (by rw[tN hq];exact Qol _) h
  |stop k c s2=>rw[iH hq]at h;cases h
 by_cases h4:i.op=4
 ·rw[vF h4]at h;split at h
  ·exact hm _ _ _ _ _ h
  ·cases h
 by_cases h5:i.op=5
 ·rw[sn h5]at h;exact hm _ _ _ _ _ h
 by_cases h6:i.op=6
 ·rw[ox h6]at h;split at h
  ·exact fin _ _ (Qol _) h
  ·cases h
 by_cases h7:i.op=7
 ·rw[oy h7]at h;split at h
  ·exact fin _ _ (Qol _) h
  ·cases h
 by_cases h8:i.op=8
 ·rw[sq h8]at h;split at h
  ·cases h
  ·split at h
   ·cases h
   ·exact fin _ {s with next:=s.next+a0 l} (Qol _) h
 by_cases h9:i.op=9
 ·rw[sr h9]at h;split at h
  ·exact fin _ {s with pos:=s.pos+1} (Qol _) h
  ·exact fin _ _ (Qol _) h
 by_cases xm:i.op=10
 ·rw[oz xm]at h;exact fin _ _ (by split<;>exact Qol _) h
 by_cases Hy:i.op=11
 ·rw[mr Hy]at h;split at h
  ·cases h
  ·exact fin _ _ (Qol _) h
 by_cases Ky:i.op=12
 ·rw[mu Ky]at h;exact fin _ _ (Qol _) h
 by_cases O2:i.op≥40
 ·rw[mv O2]at h;exact fin _ _ (Qol _) h
 rw[kB oM oM]at h;split at h
 ·exact fin _ _ (Qol _) h
 ·cases h
theorem QX{x:aE}{bC:af}{s s2:cQ}{u:Unit}(h:cT E s= .ok u s2):QV E x bC s=if x.e=0 then .ok (x.a,0,bC) s2 else if x.e=1 then .ok (if bC.getD x.v.toNat 0≠0 then x.a else x.b,0,bC) s2 else if x.e=3 then .stop 2 x.a s2 else .ok (-1,if x.v≥0 then bC.getD x.v.toNat 0 else 0,bC) s2:=k9 h
end
end Go.Mor
namespace Go.Mor
theorem IH{i:bl}(h:bQ i):i.args.length≤17:=by
 rcases h.2 with h|h|h|h|h|h|h|h|h|h|h<;>omega
theorem Mw{N:Int}{x:aE}(h:fU N x):x.e=0∨x.e=1∨x.e=2∨x.e=3:=by
 rcases h with h|h|h|h
 ·exact .inl h.1
 ·exact .inr (.inl h.1)
 ·exact .inr (.inr (.inl h.1))
 ·exact .inr (.inr (.inr h.1))
end Go.Mor
namespace Go.Proofs.YtejbeeaomokjpaaGreat
open Go.Mor
theorem QbZ(nm:aV)(wk:Bool)(pa va:Int)(A:ar)(c:Nat)(fs:List aE)(w:World)(hN:fs.length≤1000)(iq:pz fs)(hA:RO bq w (.fn A fs)):Calls Tryz.prog 63 #[fA nm wk pa va A c fs] w (ez fun v w'=>v=vI ((dw fs:Nat):Int)∧Mem bq w w' []):=by
 have Ay:=bK fs;have hm:(aq fs).length≤1000000:=oM;have hB:=hA.bs;refine fv 27 [fA nm wk pa va A c fs] Tryz.func63 ?_;have hM:=Mem.init w;refine aI<|ou hM 30 (fA nm wk pa va A c fs) (fV nm wk pa va A c fs) fun b1 w2 jU M3=> ?_
 replace M3:=M3.nf;clear hM;refine ah 1<|ay<|aI<|ah 1<|bt (ao b1 4) _ (ae (M3.get 0 rfl) rfl)<|ah 2<|ay<|ba<|aI<|ah 1<|bt (ao b1 4) _ (ae (M3.get 0 rfl) rfl)<|ah 2<|ay<|cr 0 ?_;intro aC fr;refine fk (fun n_ a_ w_=>∃(k:Nat) (q:Nat),n_=fs.length-k∧Fr a_ 27 [(3,nV q),(10,vS A ((aq fs).length) c),(11,(vI ((aq fs).length:Int))),(12,nV k)]∧Mem bq w w_ [.aB b1 30 (fV nm wk pa va A c fs)]∧(k≤fs.length)∧(q=fs.length+jd fs k)) (n:=_) ⟨0,(aq fs).length,rfl,fr.kp [3,10,11,12],M3,oM,by rw[Ay,p7];rfl⟩ ?_;clear fr aC M3;rintro n aC w6 ⟨k,q,rfl,fr,M7,hk,hq⟩;revert aC;refine aX<|ba<|fE ((k:Int)<((aq fs).length:Int)) (fun uR=> ?_) (fun uR=> ?_);refine bP<|ba<|cr 1<|aI ?_;obtain⟨x,hx⟩:=aM (l:=fs) (i:=k) oM;have qe:x.au.length≤281474976710656:=(iq.get hx).lp;have BA:x.insts.length≤281474976710656:=(iq.get hx).li;have U7:=uQ iq k hk;obtain⟨oE,rfl⟩:=ek (M7.ro hB) (fH hx);refine ej oE ((aq fs).length) 6 (k:Int)<|ga (aN oE (k:Int) 6) (xV x) (dy (M7.ro hB) rfl hx)<|na M7 49 [an,an,vI 0,vI 0,vI 0,vI 0] fun KM KG Qfe lH=> ?_
 replace lH:=lH.nf;refine ng lH 1 (xV x) rfl fun Z7 oC=> ?_
 replace oC:=oC.nf;exact ay<|cG<|ah 2<|bt (aZ KM) _ (ae (oC.get 1 rfl) rfl)<|ah 2<|bt (ao KM 1) _ (ae (oC.get 1 rfl) rfl)<|ah 1<|cZ ((x.au.length:Int)+(x.insts.length:Int))<|cZ ((q:Int)+((x.au.length:Int)+(x.insts.length:Int)))<|da [10,11,12,24]<|ah 1<|ay<|cG<|cZ ((k:Int)+1)<|ah 1<|ay fun aC fr=>⟨fs.length-(k+1),oM,k+1,q+(x.au.length+x.insts.length),rfl,fr.kp [3,10,11,12],(oC.tk 1),oM,by rw[hq,ky hx];omega⟩
 refine eW 0<|eX<|aX<|bL<|cv (nV q) ?_;obtain rfl:k=fs.length:=oM;have mR:=M7.od [] 0;exact⟨by rw[hq];rfl,mR⟩
theorem DI(nm:aV)(wk:Bool)(pa va:Int)(A:ar)(c:Nat)(fs:List aE)(w:World)(hN:fs.length≤1000)(iq:pz fs)(hA:RO bq w (.fn A fs)):Calls Tryz.prog 30 #[fA nm wk pa va A c fs] w (ez fun v w'=>v=vI ((dw fs:Nat):Int)∧Mem bq w w' []):=by
 have Ay:=bK fs;have hm:(aq fs).length≤1000000:=oM;have hB:=hA.bs;refine fv 33 [fA nm wk pa va A c fs] Tryz.func30 ?_;have hM:=Mem.init w;refine aI<|ou hM 30 (fA nm wk pa va A c fs) (fV nm wk pa va A c fs) fun b1 w2 jU M3=> ?_
 replace M3:=M3.nf;clear hM;refine ah 1<|ay<|aI<|ah 1<|bt (ao b1 4) _ (ae (M3.get 0 rfl) rfl)<|ah 2<|ay<|ba<|aX<|cr 0 ?_;intro aC fr;refine fk (fun n_ a_ w_=>∃(k:Nat) (q:Nat),n_=fs.length-k∧Fr a_ 33 [(1,pT b1 0),(3,nV q),(4,nV k)]∧Mem bq w w_ [.aB b1 30 (fV nm wk pa va A c fs)]∧(k≤fs.length)∧(q=fs.length+jd fs k)) (n:=_) ⟨0,(aq fs).length,rfl,fr.kp [1,3,4],M3,oM,by rw[Ay,p7];rfl⟩ ?_;clear fr aC M3;rintro n aC w6 ⟨k,q,rfl,fr,M7,hk,hq⟩;revert aC;refine ba<|aI<|ah 2<|bt (ao b1 4) _ (ae (M7.get 0 rfl) rfl)<|ah 2<|ay<|fE ((k:Int)<((aq fs).length:Int)) (fun uR=> ?_) (fun uR=> ?_);refine bP<|ba<|cr 1 ?_;obtain⟨x,hx⟩:=aM (l:=fs) (i:=k) oM;have qe:x.au.length≤281474976710656:=(iq.get hx).lp;have BA:x.insts.length≤281474976710656:=(iq.get hx).li;have U7:=uQ iq k hk;obtain⟨oE,rfl⟩:=ek (M7.ro hB) (fH hx);obtain⟨x,hx⟩:=aM (l:=fs) (i:=k) oM;have qe:x.au.length≤281474976710656:=(iq.get hx).lp;have BA:x.insts.length≤281474976710656:=(iq.get hx).li;have U7:=uQ iq k hk;refine da [1,3,4] ?_;intro aC fr;refine l9 (bo [.aU (nV q),eR b1 4,eS (some oE) ((aq fs).length) c,.aU (nV k),eA oE (k:Int) 6,eA oE (k:Int) 6,eS x.pA x.au.length x.pc,eI (x.au.length:Int),eI ((q:Int)+(x.au.length:Int)),eR b1 4,eS (some oE) ((aq fs).length) c,.aU (nV k),eA oE (k:Int) 6,eP ((aN oE (k:Int) 6).add 1),eS x.iA x.insts.length x.ic,eI (x.insts.length:Int),eI ((((q+(x.au.length+x.insts.length):Nat)):Int)),eI ((((q+(x.au.length+x.insts.length):Nat)):Int))]) fr (la (sv (dT lz dP dP (dL (ao b1 4) _ fun w_ hK=>(ae ((M7.aw hK).get 0 rfl) rfl)) dP (dI oE ((aq fs).length) 6 (k:Int)) dP (dL (aN oE (k:Int) 6) _ fun w_ hK=>(dy ((M7.aw hK).ro hB) rfl hx 0 _ rfl)) dP (dA ((q:Int)+(x.au.length:Int))) dP (dL (ao b1 4) _ fun w_ hK=>(ae ((M7.aw hK).get 0 rfl) rfl)) dP) (dI oE ((aq fs).length) 6 (k:Int)) dP (dL ((aN oE (k:Int) 6).add 1) _ fun w_ hK=>(dy ((M7.aw hK).ro hB) rfl hx 1 _ rfl)) dP ?_) dP) ?_;intro ep w_ vs cL hK hp hF;refine jv (g0:=none) ?_;replace hF:Fr ep 33 [(23,(vI ((q:Int)+(x.au.length:Int)))),(30,(vI (x.insts.length:Int)))]:=hF.kp [23,30];refine gv (kR:ax _ 0=some (some 31,.binOp .add 3 (.tmp 23) (.tmp 30) 3,3,none)) hF kR kR (k':=1) rfl (i:=((q:Int)+(x.au.length:Int))) (j:=(x.insts.length:Int)) (z:=((((q+(x.au.length+x.insts.length):Nat)):Int))) kR kR (Qlh some oM) oM oM ?_;intro a2 ea _;refine aL kR ?_;exact xg (d:=some 31) kR ea (Kp.refl _) rfl;intro aC OT vs hK hv fr;revert aC;refine bX [(1,pT b1 0),(3,(vI ((((q+(x.au.length+x.insts.length):Nat)):Int)))),(4,nV k)] ?_;have kK:=M7.aw hK;clear hK hv fr aC M7;clear vs;exact cG<|ah 1<|cZ ((k:Int)+1)<|ah 1<|ay fun aC fr=>⟨fs.length-(k+1),oM,k+1,q+(x.au.length+x.insts.length),rfl,fr.kp [1,3,4],kK,oM,by rw[hq,ky hx];omega⟩
 refine eW 0<|eX<|aX<|bL<|cv (nV q) ?_;obtain rfl:k=fs.length:=oM;have oG:=M7.od [] 0;exact⟨by rw[hq];rfl,oG⟩
end Go.Proofs.YtejbeeaomokjpaaGreat
namespace Go.Proofs.YtejbeeaomokjpaaGreat
open Go.Mor
theorem lN(nm:aV)(w:World):Calls Tryz.prog 65 #[vT nm] w (ez fun v w'=>v=vB (decide (bB nm))∧Mem bq w w' []):=by
 refine fv 11 [vT nm] Tryz.func65 ?_;have hM:=Mem.init w;refine aX<|aI<|ah 4 ?_;obtain⟨B1,jQ⟩:∃B:Bool,B=decide ((((nm).size:Int):Int)≥1):=⟨_,rfl⟩;refine bX [(0,vT nm),(6,(vB (decide ((((nm).size:Int):Int)≥1))))] ?_;rw[←jQ];have s9:B1=true↔((((nm).size:Int):Int)≥1):=by rw[jQ];simp only[QhA]
 clear jQ;intro aC fr;refine cE 5 9 [2,10] fr (news:=[(2,(vB (B1&&decide ((((nm).size:Int):Int)≤60)))),(10,(vB (B1&&decide ((((nm).size:Int):Int)≤60))))]) (by cases B1<;>kernel_rfl)<|ay<|bL<|cv (vB (B1&&decide ((((nm).size:Int):Int)≤60))) ?_;have hR:(B1&&decide ((((nm).size:Int):Int)≤60))=true↔(((((nm).size:Int):Int)≥1)∧((((nm).size:Int):Int)≤60)):=by simp only[QlP,QhA,s9]
 exact⟨aY hR (by unfold bB;omega),hM⟩
theorem xv(nm:aV)(w:World):Calls Tryz.prog 31 #[vT nm] w (ez fun v w'=>v=vB (decide (bB nm))∧Mem bq w w' []):=by
 refine fv 11 [vT nm] Tryz.func31 ?_;have hM:=Mem.init w;refine aX<|aI<|ah 4 ?_;obtain⟨B1,jQ⟩:∃B:Bool,B=decide ((((nm).size:Int):Int)≥1):=⟨_,rfl⟩;refine bX [(0,vT nm),(6,(vB (decide ((((nm).size:Int):Int)≥1))))] ?_;rw[←jQ];have s9:B1=true↔((((nm).size:Int):Int)≥1):=by rw[jQ];simp only[QhA]
 clear jQ;intro aC fr;refine cE 5 9 [2,10] fr (news:=[(2,(vB (B1&&decide ((((nm).size:Int):Int)≤60)))),(10,(vB (B1&&decide ((((nm).size:Int):Int)≤60))))]) (by cases B1<;>kernel_rfl)<|ay<|bL<|cv (vB (B1&&decide ((((nm).size:Int):Int)≤60))) ?_;have hR:(B1&&decide ((((nm).size:Int):Int)≤60))=true↔(((((nm).size:Int):Int)≥1)∧((((nm).size:Int):Int)≤60)):=by simp only[QlP,QhA,s9]
 exact⟨aY hR (by unfold bB;omega),hM⟩
theorem KN(op:Int)(w:World):Calls Tryz.prog 109 #[vI op] w (ez fun v w'=>v=vB (decide (aK op))∧Mem bq w w' []):=by
 refine fv 13 [vI op] Tryz.func109 ?_;have hM:=Mem.init w;refine aX<|aI<|ah 3 ?_;obtain⟨B1,jQ⟩:∃B:Bool,B=((op:Int) !=3):=⟨_,rfl⟩;refine bX [(0,vI op),(5,(vB ((op:Int) !=3)))] ?_;rw[←jQ];have s9:B1=true↔((op:Int)≠3):=by rw[jQ];simp only[Qoo]
 clear jQ;intro aC fr;refine cE 4 7 [8,9] fr (news:=[(8,(vB (B1&&((op:Int) !=10)))),(9,(vB (B1&&((op:Int) !=10))))]) (by cases B1<;>kernel_rfl) ?_;intro aC fr;obtain⟨B6,sB⟩:∃B:Bool,B=(B1&&((op:Int) !=10)):=⟨_,rfl⟩;revert aC;refine bX [(0,vI op),(9,(vB (B1&&((op:Int) !=10))))] ?_;rw[←sB];have yD:B6=true↔(((op:Int)≠3)∧((op:Int)≠10)):=by rw[sB];simp only[QlP,Qoo,s9]
 clear sB;intro aC fr;refine cE 4 11 [2,12] fr (news:=[(2,(vB (B6&&((op:Int) !=11)))),(12,(vB (B6&&((op:Int) !=11))))]) (by cases B6<;>kernel_rfl)<|ay<|bL<|cv (vB (B6&&((op:Int) !=11))) ?_;have hR:(B6&&((op:Int) !=11))=true↔((((op:Int)≠3)∧((op:Int)≠10))∧((op:Int)≠11)):=by simp only[QlP,Qoo,yD]
 exact⟨aY hR (by unfold aK;omega),hM⟩
theorem FG(op:Int)(w:World):Calls Tryz.prog 58 #[vI op] w (ez fun v w'=>v=vB (decide (aK op))∧Mem bq w w' []):=by
 refine fv 13 [vI op] Tryz.func58 ?_;have hM:=Mem.init w;refine aX<|aI<|ah 3 ?_;obtain⟨B1,jQ⟩:∃B:Bool,B=((op:Int) !=3):=⟨_,rfl⟩;refine bX [(0,vI op),(5,(vB ((op:Int) !=3)))] ?_;rw[←jQ];have s9:B1=true↔((op:Int)≠3):=by rw[jQ];simp only[Qoo]
 clear jQ;intro aC fr;refine cE 4 7 [8,9] fr (news:=[(8,(vB (B1&&((op:Int) !=10)))),(9,(vB (B1&&((op:Int) !=10))))]) (by cases B1<;>kernel_rfl) ?_;intro aC fr;obtain⟨B6,sB⟩:∃B:Bool,B=(B1&&((op:Int) !=10)):=⟨_,rfl⟩;revert aC;refine bX [(0,vI op),(9,(vB (B1&&((op:Int) !=10))))] ?_;rw[←sB];have yD:B6=true↔(((op:Int)≠3)∧((op:Int)≠10)):=by rw[sB];simp only[QlP,Qoo,s9]
 clear sB;intro aC fr;refine cE 4 11 [2,12] fr (news:=[(2,(vB (B6&&((op:Int) !=11)))),(12,(vB (B6&&((op:Int) !=11))))]) (by cases B6<;>kernel_rfl)<|ay<|bL<|cv (vB (B6&&((op:Int) !=11))) ?_;have hR:(B6&&((op:Int) !=11))=true↔((((op:Int)≠3)∧((op:Int)≠10))∧((op:Int)≠11)):=by simp only[QlP,Qoo,yD]
 exact⟨aY hR (by unfold aK;omega),hM⟩
theorem QY(n:Int)(w:World):Calls Tryz.prog 106 #[vI n] w (ez fun v w'=>v=vB (decide (dj n))∧Mem bq w w' []):=by
 refine fv 9 [vI n] Tryz.func106 ?_;have hM:=Mem.init w;refine aX<|aI<|ah 3 ?_;obtain⟨B1,jQ⟩:∃B:Bool,B=decide ((n:Int)≥1):=⟨_,rfl⟩;refine bX [(0,vI n),(5,(vB (decide ((n:Int)≥1))))] ?_;rw[←jQ];have s9:B1=true↔((n:Int)≥1):=by rw[jQ];simp only[QhA]
 clear jQ;intro aC fr;refine cE 4 7 [2,8] fr (news:=[(2,(vB (B1&&decide ((n:Int)≤999)))),(8,(vB (B1&&decide ((n:Int)≤999))))]) (by cases B1<;>kernel_rfl)<|ay<|bL<|cv (vB (B1&&decide ((n:Int)≤999))) ?_;have hR:(B1&&decide ((n:Int)≤999))=true↔(((n:Int)≥1)∧((n:Int)≤999)):=by simp only[QlP,QhA,s9]
 exact⟨aY hR (by unfold dj;omega),hM⟩
theorem KO(n:Int)(w:World):Calls Tryz.prog 127 #[vI n] w (ez fun v w'=>v=vB (decide (de n))∧Mem bq w w' []):=by
 refine fv 9 [vI n] Tryz.func127 ?_;have hM:=Mem.init w;refine aX<|aI<|ah 3 ?_;obtain⟨B1,jQ⟩:∃B:Bool,B=decide ((n:Int)≥0):=⟨_,rfl⟩;refine bX [(0,vI n),(5,(vB (decide ((n:Int)≥0))))] ?_;rw[←jQ];have s9:B1=true↔((n:Int)≥0):=by rw[jQ];simp only[QhA]
 clear jQ;intro aC fr;refine cE 4 7 [2,8] fr (news:=[(2,(vB (B1&&decide ((n:Int)≤2147483647)))),(8,(vB (B1&&decide ((n:Int)≤2147483647))))]) (by cases B1<;>kernel_rfl)<|ay<|bL<|cv (vB (B1&&decide ((n:Int)≤2147483647))) ?_;have hR:(B1&&decide ((n:Int)≤2147483647))=true↔(((n:Int)≥0)∧((n:Int)≤2147483647)):=by simp only[QlP,QhA,s9]
 exact⟨aY hR (by unfold de;omega),hM⟩
end Go.Proofs.YtejbeeaomokjpaaGreat
namespace Go.Mor
open Go.RowKit
section
variable {E : Env0} {body : et → Int → Int → List Int → cQ → dp Int} {n : Int} {l : List Int} {s s' : cQ} {f : et} {x : Int}
theorem lk(h:n<1∨n≥(E.fns.length:Int)+1):fF E body n l s= .stop 5 0 s:=by unfold fF;rw[Kt h]
theorem ql(h:¬(n<1∨n≥(E.fns.length:Int)+1))(hf:E.fns[(n-1).toNat]?=some f):fF E body n l s=if(l.length:Int)≠f.pa then .stop 5 0 s else if s.opened=1200 then .stop 4 0 s else body f 0 (-1) (l++List.replicate (f.va.toNat-l.length) 0) {s with opened:=s.opened+1}:=by unfold fF;rw[Ds h,hf]
end
def BP(call:Int→af→cQ→dp Int):Prop:=∀n l s x s',call n l s= .ok x s'→s'.opened=s.opened
section
variable {E : Env0} {call : Int → List Int → cQ → dp Int}
theorem yF{s s':cQ}{x:Unit}(h:cT E s= .ok x s'):s'.opened=s.opened:=by
 unfold cT at h;split at h
 ·cases h
 ·injection h with h1 h2;subst h2;rfl
theorem yG(hm:BP call){i:bl}{l:af}{s s':cQ}{x:Int}(h:bV E call i l s= .ok x s'):s'.opened=s.opened:=by
 have fin:∀(y:Int) (s2:cQ),s2.opened=s.opened→dp.ok y s2=dp.ok x s'→s'.opened=s.opened:=by intro y s2 h1 h2;injection h2 with _ h2;rw[←h2];exact h1
 by_cases h1:i.op=1
 ·rw[qa h1]at h;exact fin _ _ rfl h
 by_cases h2:i.op=2
 ·rw[qb h2]at h;cases hq:uy (IntKind.i64.wrap (a0 l+i.n)) s with
  |ok k s2=>rw[k9 hq]at h;exact fin _ _ (by rw[tN hq]) h
  |stop k c s2=>rw[iH hq]at h;cases h
 by_cases h3:i.op=3
 ·rw[qd h3]at h;cases hq:uy (IntKind.i64.wrap (a0 l+i.n)) s with
  |ok k s2=>rw[k9 hq]at h;exact fin _ _ (by rw[tN hq]) h
  |stop k c s2=>rw[iH hq]at h;cases h
 by_cases h4:i.op=4
 ·rw[vF h4]at h;split at h
  ·exact hm _ _ _ _ _ h
  ·cases h
 by_cases h5:i.op=5
 ·rw[sn h5]at h;exact hm _ _ _ _ _ h
 by_cases h6:i.op=6
 ·rw[ox h6]at h;split at h
  ·exact fin _ _ rfl h
  ·cases h
 by_cases h7:i.op=7
 ·rw[oy h7]at h;split at h
  ·exact fin _ _ rfl h
  ·cases h
 by_cases h8:i.op=8
 ·rw[sq h8]at h;split at h
  ·cases h
  ·split at h
   ·cases h
   ·exact fin _ {s with next:=s.next+a0 l} rfl h
 by_cases h9:i.op=9
 ·rw[sr h9]at h;split at h
  ·exact fin _ {s with pos:=s.pos+1} rfl h
  ·exact fin _ _ rfl h
 by_cases xm:i.op=10
 ·rw[oz xm]at h;exact fin _ _ (by split<;>rfl) h
 by_cases Hy:i.op=11
 ·rw[mr Hy]at h;split at h
  ·cases h
  ·exact fin _ _ rfl h
 by_cases Ky:i.op=12
 ·rw[mu Ky]at h;exact fin _ _ rfl h
 by_cases O2:i.op≥40
 ·rw[mv O2]at h;exact fin _ _ rfl h
 rw[kB oM oM]at h;split at h
 ·exact fin _ _ rfl h
 ·cases h
theorem yH(hm:Mv call)(hk:BP call):∀(is:List bl) (v:af) (s:cQ) {v':af} {s':cQ},cS E call is v s= .ok v' s'→s.steps≤s'.steps∧s'.opened=s.opened
 |[],v,s,v',s',h=>by injection h with h1 h2;subst h2;exact⟨Qol _,rfl⟩
 |i::r,v,s,v',s',h=>by
  have e:cS E call (i::r) v s=(cT E s).bind fun _ s=>(bV E call i (fe v i.args) s).bind fun x s=>cS E call r (Qih i v x) s:=rfl
  rw[e]at h;cases h1:cT E s with
  |stop k c s1=>rw[iH h1]at h;cases h
  |ok u s1=>
   rw[k9 h1]at h;cases h2:bV E call i (fe v i.args) s1 with
   |stop k c s2=>rw[iH h2]at h;cases h
   |ok x s2=>
    rw[k9 h2]at h;obtain⟨h3,h4⟩:=yH hm hk r _ _ h;have h5:=yB h1;have h6:=yF h1;have h7:=yC hm h2;have h8:=yG hk h2;exact⟨oM,oM⟩
theorem II(hm:Mv call)(hk:BP call){f:et}{k from_:Int}{bC:af}{s s':cQ}{nx bk:Int}{v':af}(h:fi E call f k from_ bC s= .ok (nx,bk,v') s'):s.steps+1≤s'.steps∧s'.opened=s.opened:=by
 cases hx:f.bh[k.toNat]? with
 |none=>unfold fi at h;rw[hx]at h;cases h
 |some x=>
  rw[QW hx]at h;cases h1:cS E call x.insts (gr x.au (eG (f.src k.toNat) from_) bC) s with
  |stop a b s1=>rw[iH h1]at h;cases h
  |ok v s1=>
   rw[k9 h1]at h;obtain⟨h3,h4⟩:=yH hm hk _ _ _ h1;cases h2:cT E s1 with
   |stop a b s2=>unfold QV at h;rw[iH h2]at h;cases h
   |ok u s2=>
    rw[QX h2]at h;have h5:=yB h2;have h6:=yF h2;have:s'=s2:=by
     split at h
     ·injection h with _ h;exact h.symm
     ·split at h
      ·injection h with _ h;exact h.symm
      ·split at h
       ·cases h
       ·injection h with _ h;exact h.symm
    subst this;exact⟨oM,oM⟩
theorem lb(g:Nat)(f:et)(k from_:Int)(bC:af)(s:cQ):iW E (g+1) f k from_ bC s=(fi E (dN E g) f k from_ bC s).bind fun r s=>
  if r.1<0 then .ok r.2.1 {s with opened:=s.opened-1}else iW E g f r.1 k r.2.2 s:=rfl
theorem sC{body:et→Int→Int→af→cQ→dp Int}(hb:∀f k from_ v s x s',body f k from_ v s= .ok x s'→s.steps≤s'.steps∧s'.opened=s.opened-1):Mv (fF E body)∧BP (fF E body):=by
 have key:∀n l s x s',fF E body n l s= .ok x s'→s.steps≤s'.steps∧s'.opened=s.opened:=by
  intro n l s x s' h;unfold fF at h;split at h
  ·cases h
  ·split at h
   ·cases h
   ·split at h
    ·cases h
    ·split at h
     ·cases h
     ·obtain⟨h1,h2⟩:=hb _ _ _ _ _ _ _ h;exact⟨h1,by rw[h2];show s.opened+1-1=_;omega⟩
 exact⟨fun n l s x s' h=>(key n l s x s' h).1,fun n l s x s' h=>(key n l s x s' h).2⟩
theorem qX:∀(g:Nat) f k from_ v s x s',iW E g f k from_ v s= .ok x s'→s.steps≤s'.steps∧s'.opened=s.opened-1
 |0,_,_,_,_,_,_,_,h=>by cases h
 |g+1,f,k,from_,v,s,x,s',h=>by
  obtain⟨hm,hk⟩:=sC (E:=E) (qX g);rw[lb]at h;cases h1:fi E (dN E g) f k from_ v s with
  |stop a b s1=>rw[iH h1]at h;cases h
  |ok r s1=>
   rw[k9 h1]at h;obtain⟨nx,bk,v'⟩:=r;obtain⟨h3,h4⟩:=II hm hk h1;split at h
   ·injection h with _ h;subst h;exact⟨by show s.steps≤s1.steps;omega,by show s1.opened-1=_;omega⟩
   ·obtain⟨h5,h6⟩:=qX g _ _ _ _ _ _ _ h;exact⟨oM,oM⟩
theorem BQ(g:Nat):Mv (dN E g):=(sC (qX g)).1
theorem yI(g:Nat):BP (dN E g):=(sC (qX g)).2
end
end Go.Mor
namespace Go.Mor
open Go.RowKit
end Go.Mor
namespace Go.Mor
open Go.RowKit
structure cX where
 nm:aV
 wk:Bool
 pa:Int
 va:Int
 A:ar
 c:Nat
 bh:List aE
def cX.cells(f:cX):aP:=fV f.nm f.wk f.pa f.va f.A f.c f.bh
structure bE where
 nm:aV
 wk:Bool
 wA:ar
 wc:Nat
 words:af
 rA:ar
 rc:Nat
 refs:List (Int×aV)
def bE.cells(d:bE):aP:=[.string d.nm,.bool d.wk,.slice d.wA d.words.length d.wc,.slice d.rA d.refs.length d.rc]
def cR(r:Int×aV):aP:=[vI r.1,.string r.2]
instance : LawfulBEq ByteArray where
  eq_of_beq {a b} h := by simpa [MapKept.bytes_beq] using h
  rfl {a} := by simp [MapKept.bytes_beq]
section
variable {α β : Type} [BEq α] [LawfulBEq α]
theorem Qhj(s:α)(v:β)(t:α):∀l:List (α×β),fh (V3 l s v) t=if t==s then some v else fh l t
 |[]=>by show(match t==s with|true=>some v|false=>none)=_;cases t==s<;>rfl
 |(k,u)::r=>by
  have ih:=Qhj s v t r;unfold V3;cases h:s==k with
  |true=>
   have e:=eq_of_beq h;subst e;show(match t==s with|true=>some v|false=>fh r t)=if t==s then some v else(match t==s with|true=>some u|false=>fh r t);cases t==s<;>rfl
  |false=>
   show(match t==k with|true=>some u|false=>fh (V3 r s v) t)=if t==s then some v else(match t==k with|true=>some u|false=>fh r t);cases hk:t==k with
   |true=>
    have e:=eq_of_beq hk;subst e;have:(t==s)=false:=by
     cases hq:t==s
     ·rfl
     ·have e2:=eq_of_beq hq;subst e2;rw[BEq.rfl]at h;cases h
    rw[this];rfl
   |false=>rw[ih]
theorem KQ{l:List (α×β)}{s:α}{v:β}(h:fh l s=some v):(s,v)∈l:=by
 induction l with
 |nil=>cases h
 |cons p r ih=>
  obtain⟨k,u⟩:=p;unfold fh at h;split at h
  ·rename_i hq;have e:=eq_of_beq hq;subst e;injection h with h;subst h;exact Qop ..
  ·exact Qmq _ (ih h)
theorem FH{l:List (α×β)}{s:α}(h:s∉l.map (·.1)):fh l s=none:=by
 induction l with
 |nil=>rfl
 |cons p r ih=>
  obtain⟨k,u⟩:=p;simp only[QoK,Qon,not_or]at h;unfold fh;rw[beq_eq_false_iff_ne.2 h.1];exact ih h.2
theorem Qh2{s:α}(v:β):∀{l:List (α×β)},s∉l.map (·.1)→V3 l s v=l++[(s,v)]
 |[],_=>rfl
 |(k,u)::r,h=>by simp only[QoK,Qon,not_or]at h;unfold V3;rw[beq_eq_false_iff_ne.2 h.1];show(k,u)::V3 r s v=_;rw[Qh2 v h.2];rfl
theorem Qj9{l:List (α×β)}{s:α}{v:β}(h:s∉l.map (·.1))(t:α):fh (l++[(s,v)]) t=if t==s then some v else fh l t:=by
 rw[←Qh2 v h,Qhj]
end
abbrev NW:=List (aV×Bool)
def fq(nw:NW)(k i:Nat):Bool:=match nw[k]?,nw[i]? with
 |some x,some y=>x.1==y.1&&((!x.2&&y.2)||(x.2==y.2&&decide (k<i)))
 |_,_=>false
def yJ(nw:NW)(i:Nat):Bool:=(List.range nw.length).all fun k=> !fq nw k i
def Qd3(nw:NW):Nat→List (aV×Int)
 |0=>[]
 |k+1=>match nw[k]? with
  |none=>Qd3 nw k
  |some x=>match fh (Qd3 nw k) x.1 with
   |none=>V3 (Qd3 nw k) x.1 (k:Int)
   |some a=>match nw[a.toNat]? with
    |none=>Qd3 nw k
    |some y=>if(!y.2||x.2)=true then Qd3 nw k else V3 (Qd3 nw k) x.1 (k:Int)
section
variable {nw : NW} {k i j : Nat} {x y : ByteArray × Bool}
theorem Qka(hk:nw[k]?=some x)(hi:nw[i]?=some y):fq nw k i=(x.1==y.1&&((!x.2&&y.2)||(x.2==y.2&&decide (k<i)))):=by unfold fq;rw[hk,hi]
theorem Qd4:yJ nw i=true↔∀k,k<nw.length→fq nw k i=false:=by
 unfold yJ;simp[QoP]
end
def bF{α:Type}(nw:NW)(l:List α)(i:Nat):List α:=((List.range i).filter (yJ nw)).filterMap (fun k=>l[k]?)
section
variable {α : Type} {nw : NW} {l : List α} {i : Nat} {x : α}
theorem tP(hx:l[i]?=some x)(h:yJ nw i=true):bF nw l (i+1)=bF nw l i++[x]:=by
 unfold bF;rw[QpH,QoW,List.filterMap_append];simp[h,hx]
theorem vz(h:yJ nw i=false):bF nw l (i+1)=bF nw l i:=by
 unfold bF;rw[QpH,QoW,List.filterMap_append];simp[h]
theorem fK:(bF nw l i).length≤i:=by
 unfold bF;refine QoJ (List.length_filterMap_le _ _) (QoJ (QoI _ _) ?_);simp
theorem fL(h:x∈bF nw l i):x∈l:=by
 unfold bF at h;obtain⟨k,_,hk⟩:=List.mem_filterMap.1 h;exact D7 hk
end
def fB(fs:List cX):List cX:=bF (fs.map fun f=>(f.nm,f.wk)) fs fs.length
def aF(ds:List bE):List bE:=bF (ds.map fun d=>(d.nm,d.wk)) ds ds.length
def aJ(ds:List bE)(j:Nat):Nat:=1+((ds.take j).map (fun d=>d.words.length)).sum
def cP(ds:List bE)(j:Nat):List (aV×Int):=(ds.take j).zipIdx.map (fun p=>(p.1.nm,(aJ ds p.2:Int)))
theorem FI(ds:List bE):aJ ds 0=1:=rfl
section
variable {ds : List bE} {j : Nat} {d : bE}
theorem fM(h:ds[j]?=some d):aJ ds (j+1)=aJ ds j+d.words.length:=by
 have h1:=(List.getElem?_eq_some_iff.1 h);unfold aJ;rw[List.take_add_one,h];simp;omega
theorem ji:∀{i:Nat},j≤i→aJ ds j≤aJ ds i:=by
 intro i h;induction h with
 |refl=>exact kQ _
 |step h ih=>
  rename_i m;refine QoJ ih ?_;cases hm:ds[m]? with
  |none=>
   unfold aJ;rw[List.take_add_one,hm];simp
  |some d=>rw[fM hm];omega
theorem sD:1≤aJ ds j:=by unfold aJ;omega
theorem Qfp:cP ds 0=[]:=by simp[cP]
theorem Qcm(h:ds[j]?=some d):cP ds (j+1)=cP ds j++[(d.nm,(aJ ds j:Int))]:=by
 unfold cP;rw[mn h,Qou];rfl
theorem Qcq:∀(j:Nat),j≤ds.length→(cP ds j).map (·.1)=(ds.take j).map (·.nm)
 |0,_=>by simp[Qfp]
 |j+1,hj=>by obtain⟨d,hd⟩:=aM (l:=ds) (i:=j) oM;rw[Qcm hd,Qou,Qcq j oM,List.take_add_one,hd];simp
theorem QdX(hn:(ds.map (·.nm)).Nodup)(h:ds[j]?=some d):d.nm∉(cP ds j).map (·.1):=by
 have hj:=(List.getElem?_eq_some_iff.1 h).1;rw[Qcq j oM];intro hm;have e:ds.map (·.nm)=(ds.take j).map (·.nm)++(ds.drop j).map (·.nm):=by rw[←Qou,Qpq]
 rw[e,QoS]at hn;refine hn.2.2 d.nm hm d.nm ?_ rfl;rw[Qhz];exact⟨d,by
  have:(ds.drop j)[0]?=some d:=by rw[List.getElem?_drop];simpa using h
  exact D7 this,rfl⟩
theorem Qgh(hn:(ds.map (·.nm)).Nodup)(h:ds[j]?=some d):∀(i:Nat),j<i→i≤ds.length→fh (cP ds i) d.nm=some (aJ ds j:Int)
 |0,hi,_=>oM
 |i+1,hi,hl=>by
  obtain⟨e,he⟩:=aM (l:=ds) (i:=i) oM;rw[Qcm he,Qj9 (QdX hn he)];by_cases hji:j=i
  ·subst hji;rw[h]at he;injection he with he;subst he;rw[BEq.rfl];rfl
  ·have ih:=Qgh hn h i oM oM;have dt:d.nm≠e.nm:=by intro heq;have:=QdX hn he;rw[←heq]at this;rw[FH this]at ih;cases ih
   rw[beq_eq_false_iff_ne.2 dt];exact ih
end
def dx(m:af)(p:Nat)(ws:af):af:=m.take p++ws++m.drop (p+ws.length)
def wG(names data:List (aV×Int))(s:aV):Int:=match fh data s with
 |some n=>n
 |none=>(fh names s).getD 0
def e8(names data:List (aV×Int))(p:Nat)(m:af)(rs:List (Int×aV)):af:=rs.foldl (fun m r=>m.set (p+r.1.toNat) (wG names data r.2)) m
def kW(names data:List (aV×Int))(ds:List bE)(bR:Nat):Nat→af
 |0=>List.replicate bR 0
 |j+1=>match ds[j]? with
  |none=>kW names data ds bR j
  |some d=>e8 names data (aJ ds j) (dx (kW names data ds bR j) (aJ ds j) d.words) d.refs
section
variable {names data : List (ByteArray × Int)} {ds : List bE} {bR j : Nat} {d : bE} {m : List Int} {p : Nat}
theorem vD{ws:af}(h:p+ws.length≤m.length):(dx m p ws).length=m.length:=by
 unfold dx;simp;omega
theorem qm:∀(rs:List (Int×aV)) (m:af),(e8 names data p m rs).length=m.length
 |[],_=>rfl
 |r::rs,m=>(qm rs (m.set (p+r.1.toNat) (wG names data r.2))).trans sI
theorem yL(h:ds[j]?=some d):kW names data ds bR (j+1)=e8 names data (aJ ds j) (dx (kW names data ds bR j) (aJ ds j) d.words) d.refs:=by
 show(match ds[j]? with
  |none=>kW names data ds bR j
  |some d=>e8 names data (aJ ds j) (dx (kW names data ds bR j) (aJ ds j) d.words) d.refs)=_
 rw[h]
theorem BS:∀(j:Nat),j≤ds.length→aJ ds ds.length≤bR→(kW names data ds bR j).length=bR
 |0,_,_=>by simp[kW]
 |j+1,hj,hm=>by obtain⟨d,hd⟩:=aM (l:=ds) (i:=j) oM;have ih:=BS j oM hm;rw[yL hd,qm,vD,ih];have:=ji (ds:=ds) (j:=j+1) (i:=ds.length) oM;rw[fM hd]at this;omega
end
end Go.Mor
namespace Go.Mor
open Go.RowKit
def bE.parts(d:bE):List bx:=[.rd d.wA (ints d.words),.l7 d.rA 2 (d.refs.map cR)]
def bx.cf(A:ar)(ds:List bE):bx:= .all (.l7 A 4 (ds.map bE.cells)::ds.flatMap bE.parts)
section
variable {S : Nat → Prop} {w : World} {A : Option Addr} {ds : List bE} {d : bE}
theorem RO.sF(h:RO S w (.cf A ds)):RO S w (.l7 A 4 (ds.map bE.cells)):=h.sub (Qop ..)
theorem RO.Qb0(h:RO S w (.cf A ds))(hd:d∈ds):RO S w (.rd d.wA (ints d.words)):=h.sub (Qmq _ (Qo8.2 ⟨d,hd,by simp[bE.parts]⟩))
theorem RO.Qad(h:RO S w (.cf A ds))(hd:d∈ds):RO S w (.l7 d.rA 2 (d.refs.map cR)):=h.sub (Qmq _ (Qo8.2 ⟨d,hd,by simp[bE.parts]⟩))
end
structure bE.WF(d:bE):Prop where
 name:bB d.nm
 len:d.words.length≤16384
 rlen:d.refs.length≤16384
 refs:∀r,r∈d.refs→0≤r.1∧r.1<d.words.length
abbrev H5(mem:af)(n:Int):cQ:=⟨mem,n,0,[],0,0⟩
theorem jI{α:Type}{f:α→aP}{w:World}{e size n c:Nat}{A:ar}{l:List α}(hf:∀x,(f x).length=size)(h0:0<size)(h:(bx.row e size A n c (l.flatMap f)).holds w):(bx.l7 A size (l.map f)).holds w:=by
 have hr:=aD h;intro i cs hi;rw[List.getElem?_map]at hi;cases hx:l[i]? with
 |none=>rw[hx]at hi;cases hi
 |some x=>
  rw[hx]at hi;injection hi with hi;subst hi;have dt:0<(f x).length:=by rw[hf];exact h0
  obtain⟨a,hA,_⟩:=hr (i*size+0) (f x)[0] (sE hf l i x hx 0 _ (by rw[List.getElem?_eq_getElem dt]));refine⟨a,hA,fun j v hv=> ?_⟩;obtain⟨a',WO,hc⟩:=hr (i*size+j) v (sE hf l i x hx j v hv);rw[hA]at WO;injection WO with WO;subst WO;rw[add_add];exact hc
end Go.Mor
namespace Go.Proofs.YtejbeeaomokjpaaGreat
open Go.Mor
end Go.Proofs.YtejbeeaomokjpaaGreat
namespace Go.Mor
open Go.RowKit
theorem RO.all{S:Nat→Prop}{w:World}{l:List bx}(h:∀r,r∈l→RO S w r):RO S w (.all l):=⟨fun r hr=>(h r hr).1,fun g ⟨r,hr,hg⟩=>(h r hr).2 g hg⟩
def Q1:dp Unit→Int×Int×cQ
 | .ok _ s=>(1,0,s)
 | .stop k c s=>(k,c,s)
theorem RO.mono{S:Nat→Prop}{w:World}{r r':bx}(h:RO S w r)(hh:r.holds w→r'.holds w)(hf:∀g,r'.fp g→r.fp g):RO S w r':=⟨hh h.1,fun g hg=>h.2 g (hf g hg)⟩
theorem Q2(n:Nat):List.replicate n (vI 0)=ints (List.replicate n 0):=by simp[ints]
theorem Mem.pk2{S:Nat→Prop}{w0 w:World}{X l L:List bx}(h:Mem S w0 w (.pk X::(l++L))):Mem S w0 w (.pk (X++l)::L):=by
 have h1:=h.unpack;rw[←QoC]at h1;exact h1.pack
theorem Mem.pk0{S:Nat→Prop}{w0 w:World}{L:List bx}(h:Mem S w0 w L):Mem S w0 w (.pk []::L):=Mem.pack (l:=[]) h
abbrev Out:=Int×Int×af×Int
def kD(g:dp Unit):Out:=((Q1 g).1,(Q1 g).2.1,(Q1 g).2.2.out,(Q1 g).2.2.steps)
abbrev Qii(o:Out)(oA:ar)(oc:Nat):Value:= .agg #[vI o.1,vI o.2.1,.slice oA o.2.2.1.length oc,vI o.2.2.2]
end Go.Mor
namespace Go.Mor
open Go.RowKit
def lyM(E:Env0)(cs:List bE):af:=if aJ cs cs.length≤E.bR then kW E.names (cP cs cs.length) cs E.bR cs.length else List.replicate E.bR 0
def ld(E:Env0)(cs:List bE)(begin:List aV):dp Unit:=if aJ cs cs.length≤E.bR then gW E (E.fuel.toNat+1) begin (H5 (kW E.names E.data cs E.bR cs.length) (aJ cs cs.length))else .stop 3 0 (H5 (List.replicate E.bR 0) (aJ cs cs.length))
theorem WQ{E:Env0}{g:Nat}{l:List aV}{j:Nat}{b:aV}{s:cQ}(h:l[j]?=some b):gW E g (l.drop j) s=match fh E.names b with
  |none=> .stop 5 0 s
  |some n=>(dN E g n [] s).bind fun _ s=>gW E g (l.drop (j+1)) s:=by
 have:l.drop j=b::l.drop (j+1):=by obtain⟨eV,he⟩:=List.getElem?_eq_some_iff.1 h;rw[Fb eV,he]
 rw[this];rfl
theorem Q3{E:Env0}{g:Nat}{l:List aV}{j:Nat}{s:cQ}(h:l.length≤j):gW E g (l.drop j) s= .ok () s:=by
 rw[E6 h];rfl
theorem WR{E:Env0}{cs:List bE}{l:List aV}(hd:E.data=cP cs cs.length)(h:aJ cs cs.length≤E.bR):ld E cs l=gW E (E.fuel.toNat+1) l (H5 (lyM E cs) (aJ cs cs.length)):=by
 unfold ld lyM;rw[Kt h,Kt h,hd]
end Go.Mor
namespace Go.Mor
open Go.RowKit
def qZ{α:Type}:dp α→cQ
 | .ok _ s=>s
 | .stop _ _ s=>s
def cH(s s':cQ):Prop:=s.steps≤s'.steps∧∃t,s'.out=s.out++t
theorem cH.refl(s:cQ):cH s s:=⟨Qol _,[],(QoZ _).symm⟩
theorem cH.trans{a b c:cQ}(h:cH a b)(h2:cH b c):cH a c:=by
 obtain⟨h1,t,ht⟩:=h;obtain⟨h3,u,hu⟩:=h2;exact⟨Int.le_trans h1 h3,t++u,by rw[hu,ht,QoC]⟩
section
variable {α β : Type} {F : Int}
theorem im{r:dp α}{f:α→cQ→dp β}(hf:∀a s,cH s (qZ (f a s))):cH (qZ r) (qZ (r.bind f)):=by
 cases r with
 |ok a s=>exact hf a s
 |stop k c s=>exact cH.refl s
end
section
variable {E : Env0}
theorem sG{E:Env0}{s:cQ}:cH s (qZ (cT E s)):=by
 unfold cT;split
 ·exact cH.refl s
 ·exact⟨by show s.steps≤s.steps+1;omega,[],(QoZ _).symm⟩
theorem FM{α:Type}{n:Int}{s:cQ}{f:Nat→cQ→dp α}(hf:∀a,cH s (qZ (f a s))):cH s (qZ ((uy n s).bind f)):=by
 unfold uy;split
 ·exact cH.refl s
 ·exact hf _
theorem FO{α:Type}{s s':cQ}{r:dp α}{v:α}(h:cH s (qZ r))(e:r= .ok v s'):s.steps≤s'.steps:=by
 subst e;exact h.1
theorem BU{s s':cQ}{u:Unit}(h:cT E s= .ok u s'):s.steps<s'.steps:=by
 unfold cT at h;split at h
 ·cases h
 ·injection h with _ h;rw[←h];show s.steps<s.steps+1;omega
end
end Go.Mor
namespace Go.Mor
open Go.RowKit
section
variable {E : Env0} {m : Int} {call kE : Int → List Int → cQ → dp Int}
theorem sH(hc:∀n l s,cH s (qZ (call n l s)))(i:bl)(l:af)(s:cQ):cH s (qZ (bV E call i l s)):=by
 by_cases h1:i.op=1
 ·rw[qa h1];exact cH.refl s
 by_cases h2:i.op=2
 ·rw[qb h2];exact FM (fun _=>cH.refl s)
 by_cases h3:i.op=3
 ·rw[qd h3];exact FM (fun _=>⟨Qol _,[],(QoZ _).symm⟩)
 by_cases h4:i.op=4
 ·rw[vF h4];cases fh E.names i.name with
  |none=>exact cH.refl s
  |some n=>exact hc _ _ _
 by_cases h5:i.op=5
 ·rw[sn h5];exact hc _ _ _
 by_cases h6:i.op=6
 ·rw[ox h6];cases fh E.data i.name<;>exact cH.refl s
 by_cases h7:i.op=7
 ·rw[oy h7];cases fh E.names i.name<;>exact cH.refl s
 by_cases h8:i.op=8
 ·rw[sq h8];by_cases c1:a0 l<0
  ·rw[Kt c1];exact cH.refl s
  rw[Ds c1];by_cases c2:a0 l>(E.bR:Int)-s.next
  ·rw[Kt c2];exact cH.refl s
  ·rw[Ds c2];exact⟨Qol _,[],(QoZ _).symm⟩
 by_cases h9:i.op=9
 ·rw[sr h9];by_cases c1:s.pos<E.inp.length
  ·rw[Kt c1];exact⟨Qol _,[],(QoZ _).symm⟩
  ·rw[Ds c1];exact cH.refl s
 by_cases xm:i.op=10
 ·rw[oz xm];by_cases c1:s.out.length<4096
  ·rw[Kt c1];exact⟨Qol _,_,rfl⟩
  ·rw[Ds c1];exact cH.refl s
 by_cases Hy:i.op=11
 ·rw[mr Hy];by_cases c1:a0 l=0
  ·rw[Kt c1];exact cH.refl s
  ·rw[Ds c1];exact cH.refl s
 by_cases Ky:i.op=12
 ·rw[mu Ky];exact cH.refl s
 by_cases O2:i.op≥40
 ·rw[mv O2];exact cH.refl s
 rw[kB oM oM];by_cases c1:(cA (i.op-16) (a0 l) (a1 l)).2=0
 ·rw[Kt c1];exact cH.refl s
 ·rw[Ds c1];exact cH.refl s
theorem mC(hc:∀n l s,cH s (qZ (call n l s))):∀(is:List bl) (bC:af) (s:cQ),cH s (qZ (cS E call is bC s))
 |[],bC,s=>cH.refl s
 |i::r,bC,s=>by refine sG.trans (im fun _ s=> ?_);refine(sH hc i _ s).trans (im fun v s=> ?_);exact mC hc r _ s
theorem FP(hc:∀n l s,cH s (qZ (call n l s)))(f:et)(k from_:Int)(bC:af)(s:cQ):cH s (qZ (fi E call f k from_ bC s)):=by
 unfold fi;split
 ·exact cH.refl s
 ·refine(mC hc _ _ s).trans (im fun v s=>sG.trans (im fun _ s=> ?_));split
  ·exact cH.refl s
  split
  ·exact cH.refl s
  split
  ·exact cH.refl s
  ·exact cH.refl s
theorem vG{body:et→Int→Int→af→cQ→dp Int}(hb:∀f k from_ v s,cH s (qZ (body f k from_ v s)))(n:Int)(l:af)(s:cQ):cH s (qZ (fF E body n l s)):=by
 unfold fF;split
 ·exact cH.refl s
 split
 ·exact cH.refl s
 split
 ·exact cH.refl s
 split
 ·exact cH.refl s
 ·exact hb _ _ _ _ {s with opened:=s.opened+1}
theorem lP:∀(g:Nat) (f:et) (k from_:Int) (v:af) (s:cQ),cH s (qZ (iW E g f k from_ v s))
 |0,f,k,from_,v,s=>cH.refl s
 |g+1,f,k,from_,v,s=>by
  rw[lb];refine(FP (fun n l s=>vG (lP g) n l s) f k from_ v s).trans (im fun r s=> ?_);split
  ·exact⟨Qol _,[],(QoZ _).symm⟩
  ·exact lP g _ _ _ _ _
theorem lQ(g:Nat)(n:Int)(l:af)(s:cQ):cH s (qZ (dN E g n l s)):=vG (lP g) n l s
theorem IL{f:et}{k from_:Int}{bC:af}{s s':cQ}{r:Int×Int×af}(hc:∀n l s,cH s (qZ (call n l s)))(h:fi E call f k from_ bC s= .ok r s'):s.steps<s'.steps:=by
 unfold fi at h;split at h
 ·cases h
 rename_i x hx;have hi:=mC (E:=E) hc x.insts (gr x.au (eG (f.src k.toNat) from_) bC) s;cases h1:cS E call x.insts (gr x.au (eG (f.src k.toNat) from_) bC) s with
 |stop _ _ _=>rw[h1]at h;cases h
 |ok v s1=>
  rw[h1]at h hi;have l6:s.steps≤s1.steps:=hi.1;have h':((cT E s1).bind fun _ s=>if x.e=0 then .ok (x.a,0,v) s else if x.e=1 then .ok (if v.getD x.v.toNat 0≠0 then x.a else x.b,0,v) s else if x.e=3 then .stop 2 x.a s else .ok (-1,if x.v≥0 then v.getD x.v.toNat 0 else 0,v) s:dp (Int×Int×af))= .ok r s':=h;cases h2:cT E s1 with
  |stop _ _ _=>rw[h2]at h';cases h'
  |ok u s2=>
   rw[h2]at h';have:=BU h2;have e:s2=s':=by
    simp only[dp.bind]at h';split at h'
    ·injection h'
    split at h'
    ·injection h'
    split at h'
    ·cases h'
    ·injection h'
   rw[←e];omega
theorem sJ(g:Nat):∀(l:List aV) (s:cQ),cH s (qZ (gW E g l s))
 |[],s=>cH.refl s
 |b::r,s=>by
  unfold gW;split
  ·exact cH.refl s
  ·exact(lQ g _ _ s).trans (im fun _ s=>sJ g r s)
end
end Go.Mor
namespace Go.Mor
open Go.RowKit
structure xx(s s':cQ):Prop where
 mem:s'.mem=s.mem
 next:s'.next=s.next
 pos:s'.pos=s.pos
 out:s'.out=s.out
 Yi:s'.opened=s.opened
 st:s'.steps≤s.steps
def nz{α β:Type}(F:Int)(R:α→β→Prop)(r:dp α)(r':dp β):Prop:=match r with
 | .ok a t=>t.steps≤F→∃a' t',r'= .ok a' t'∧xx t t'∧R a a'
 | .stop k c t=>(k=1∨k=2)→t.steps≤F→∃t',r'= .stop k c t'∧xx t t'
section
variable {α β γ δ : Type} {F : Int} {R : α → β → Prop} {Q : γ → δ → Prop} {s s' : cQ}
theorem xx.refl(s:cQ):xx s s:=⟨rfl,rfl,rfl,rfl,rfl,Qol _⟩
theorem nz.ok{a:α}{b:β}(h:xx s s')(hr:R a b):nz F R (.ok a s) (.ok b s'):=fun _=>⟨b,s',rfl,h,hr⟩
theorem nz.stop{k c:Int}(h:xx s s'):nz F R (.stop k c s) (.stop k c s'):=fun _ _=>⟨s',rfl,h⟩
theorem nz.off{k c:Int}{r':dp β}(h:¬(k=1∨k=2)):nz F R (.stop k c s) r':=fun e _=>absurd e h
theorem nz.UT{r:dp α}{r':dp β}(h:¬(qZ r).steps≤F):nz F R r r':=by
 cases r with
 |ok a t=>exact fun e=>absurd e h
 |stop k c t=>exact fun _ e=>absurd e h
theorem nz.Qfi{r:dp α}{r':dp β}(h:(qZ r).steps≤F→nz F R r r'):nz F R r r':=by
 by_cases e:(qZ r).steps≤F
 ·exact h e
 ·exact .UT e
theorem nz.bind{r:dp α}{r':dp β}{f:α→cQ→dp γ}{f':β→cQ→dp δ}(h:nz F R r r')(hl:∀a s,cH s (qZ (f a s)))(hf:∀a t a' t',r= .ok a t→r'= .ok a' t'→xx t t'→R a a'→t.steps≤F→nz F Q (f a t) (f' a' t')):nz F Q (r.bind f) (r'.bind f'):=by
 cases r with
 |ok a t=>
  refine .Qfi fun hn=> ?_
  have ht:t.steps≤F:=Int.le_trans (hl a t).1 hn;obtain⟨a',t',rfl,h2,h3⟩:=h ht;exact hf a t a' t' rfl rfl h2 h3 ht
 |stop k c t=>
  intro e hn;obtain⟨t',rfl,h2⟩:=h e hn;exact⟨t',rfl,h2⟩
end
section
variable {E E' : Env0} {F : Int} {s s' : cQ} {call kE : Int → List Int → cQ → dp Int}
theorem xx.up(h:xx s s'):xx {s with steps:=s.steps+1} {s' with steps:=s'.steps+1}:=⟨h.mem,h.next,h.pos,h.out,h.Yi,by show s'.steps+1≤s.steps+1;have:=h.st;omega⟩
theorem xx.one(h:xx s s'):xx {s with steps:=s.steps+1} s':=⟨h.mem,h.next,h.pos,h.out,h.Yi,by show s'.steps≤s.steps+1;have:=h.st;omega⟩
theorem KS(h:xx s s'):nz E'.fuel (fun _ _=>True) (cT E s) (cT E' s'):=by
 by_cases h1:s.steps=E.fuel
 ·rw[KC h1];exact .off dQ
 ·rw[yj h1];intro hn;have hn:s.steps+1≤E'.fuel:=hn;have:=h.st;rw[yj oM];exact⟨(),_,rfl,h.up,trivial⟩
theorem WS{α β:Type}{Q:α→β→Prop}{f:Unit→cQ→dp α}{r':dp β}(hf:nz F Q (f () {s with steps:=s.steps+1}) r'):nz F Q ((cT E s).bind f) r':=by
 by_cases h1:s.steps=E.fuel
 ·rw[KC h1];exact .off dQ
 ·rw[yj h1];exact hf
structure rP(E E':Env0):Prop where
 names:E'.names=E.names
 data:E'.data=E.data
 inp:E'.inp=E.inp
 bR:E'.bR=E.bR
 len:E'.fns.length=E.fns.length
theorem Qae{α β:Type}{Q:α→β→Prop}{n:Int}(h:xx s s'){f:Nat→cQ→dp α}{f':Nat→cQ→dp β}(hf:∀k,nz F Q (f k s) (f' k s')):nz F Q ((uy n s).bind f) ((uy n s').bind f'):=by
 by_cases h1:n<1∨n≥s.next
 ·rw[KB h1];exact .off dQ
 ·rw[Qc h1,Qc (by rw[h.next];exact h1)];exact hf _
theorem WT(hE:rP E E')(h:xx s s'){i:bl}{l:af}(hc:∀n l,nz F Eq (call n l s) (kE n l s')):nz F Eq (bV E call i l s) (bV E' kE i l s'):=by
 by_cases h1:i.op=1
 ·rw[qa h1,qa h1];exact .ok h rfl
 by_cases h2:i.op=2
 ·rw[qb h2,qb h2];exact Qae h fun k=> .ok h (by rw[h.mem])
 by_cases h3:i.op=3
 ·rw[qd h3,qd h3];exact Qae h fun k=> .ok ⟨by show s'.mem.set _ _=s.mem.set _ _;rw[h.mem],h.next,h.pos,h.out,h.Yi,h.st⟩ rfl
 by_cases h4:i.op=4
 ·rw[vF h4,vF h4,hE.names];cases fh E.names i.name with
  |none=>exact .off dQ
  |some n=>exact hc _ _
 by_cases h5:i.op=5
 ·rw[sn h5,sn h5];exact hc _ _
 by_cases h6:i.op=6
 ·rw[ox h6,ox h6,hE.data];cases fh E.data i.name with
  |none=>exact .off dQ
  |some n=>exact .ok h rfl
 by_cases h7:i.op=7
 ·rw[oy h7,oy h7,hE.names];cases fh E.names i.name with
  |none=>exact .off dQ
  |some n=>exact .ok h rfl
 by_cases h8:i.op=8
 ·rw[sq h8,sq h8,hE.bR,h.next];by_cases c1:a0 l<0
  ·rw[Kt c1];exact .off dQ
  rw[Ds c1,Ds c1];by_cases c2:a0 l>(E.bR:Int)-s.next
  ·rw[Kt c2];exact .off dQ
  ·rw[Ds c2,Ds c2];exact .ok ⟨h.mem,rfl,h.pos,h.out,h.Yi,h.st⟩ rfl
 by_cases h9:i.op=9
 ·rw[sr h9,sr h9,hE.inp,h.pos];by_cases c1:s.pos<E.inp.length
  ·rw[Kt c1,Kt c1];exact .ok ⟨h.mem,h.next,rfl,h.out,h.Yi,h.st⟩ rfl
  ·rw[Ds c1,Ds c1];exact .ok h rfl
 by_cases xm:i.op=10
 ·rw[oz xm,oz xm,h.out];by_cases c1:s.out.length<4096
  ·rw[Kt c1,Kt c1];exact .ok ⟨h.mem,h.next,h.pos,rfl,h.Yi,h.st⟩ rfl
  ·rw[Ds c1,Ds c1];exact .ok h rfl
 by_cases Hy:i.op=11
 ·rw[mr Hy,mr Hy];by_cases c1:a0 l=0
  ·rw[Kt c1,Kt c1];exact .stop h
  ·rw[Ds c1,Ds c1];exact .ok h rfl
 by_cases Ky:i.op=12
 ·rw[mu Ky,mu Ky];exact .ok h rfl
 by_cases O2:i.op≥40
 ·rw[mv O2,mv O2];exact .ok h rfl
 rw[kB oM oM,kB oM oM];by_cases c1:(cA (i.op-16) (a0 l) (a1 l)).2=0
 ·rw[Kt c1,Kt c1];exact .ok h rfl
 ·rw[Ds c1,Ds c1];exact .stop h
def Qaf(E E':Env0)(f f':et)(Inv:Int→Int→Int→Int→af→af→Prop):Prop:=∀(call kE:Int→af→cQ→dp Int) (k k' fr Ve:Int) (v v':af) (s s':cQ),Inv k k' fr Ve v v'→xx s s'→(∀n l s,cH s (qZ (call n l s)))→(∀n l s,cH s (qZ (kE n l s)))→(∀n l t t',s'.steps<t'.steps→xx t t'→t.steps≤E'.fuel→nz E'.fuel Eq (call n l t) (kE n l t'))→nz E'.fuel (fun r r'=>(r.1<0↔r'.1<0)∧(r.1<0→r.2.1=r'.2.1)∧(¬r.1<0→Inv r.1 r'.1 k k' r.2.2 r'.2.2)) (fi E call f k fr v s) (fi E' kE f' k' Ve v' s')
structure FQ(E E':Env0)(f f':et)(Inv:Int→Int→Int→Int→af→af→Prop):Prop where
 pa:f'.pa=f.pa
 va:f'.va=f.va
 start:∀l:af,(l.length:Int)=f.pa→Inv 0 0 (-1) (-1) (l++List.replicate (f.va.toNat-l.length) 0) (l++List.replicate (f.va.toNat-l.length) 0)
 step:Qaf E E' f f' Inv
def yO(E E':Env0):Prop:=∀(i:Nat) (f f':et),E.fns[i]?=some f→E'.fns[i]?=some f'→∃Inv,FQ E E' f f' Inv
theorem FR(hE:rP E E')(hS:yO E E'){body Qag:et→Int→Int→af→cQ→dp Int}{n:Int}{l:af}(h:xx s s')(hb:∀f f' Inv v v' t t',FQ E E' f f' Inv→Inv 0 0 (-1) (-1) v v'→xx t t'→t'.steps=s'.steps→nz F Eq (body f 0 (-1) v t) (Qag f' 0 (-1) v' t')):nz F Eq (fF E body n l s) (fF E' Qag n l s'):=by
 by_cases h1:n<1∨n≥(E.fns.length:Int)+1
 ·rw[lk h1];exact .off dQ
 obtain⟨f,hf⟩:=aM (l:=E.fns) (i:=(n-1).toNat) oM;obtain⟨f',hf'⟩:=aM (l:=E'.fns) (i:=(n-1).toNat) (by rw[hE.len];omega);rw[ql h1 hf,ql (by rw[hE.len];exact h1) hf'];obtain⟨Inv,hI⟩:=hS _ _ _ hf hf';by_cases h2:(l.length:Int)≠f.pa
 ·rw[Kt h2];exact .off dQ
 rw[Ds h2,hI.pa,Ds h2];by_cases h3:s.opened=1200
 ·rw[Kt h3];exact .off dQ
 rw[Ds h3,h.Yi,Ds h3,hI.va];exact hb f f' Inv _ _ _ _ hI (hI.start l (QoD.1 h2)) ⟨h.mem,h.next,h.pos,h.out,rfl,h.st⟩ rfl
theorem DK(hE:rP E E')(hS:yO E E'):∀(g g':Nat) (f f':et) (Inv:Int→Int→Int→Int→af→af→Prop) (k k' fr Ve:Int) (v v':af) (s s':cQ),FQ E E' f f' Inv→Inv k k' fr Ve v v'→xx s s'→E'.fuel-s'.steps<(g':Int)→nz E'.fuel Eq (iW E g f k fr v s) (iW E' g' f' k' Ve v' s')
 |0,_,_,_,_,_,_,_,_,_,_,_,_,_,_,_,_=> .off dQ
 |g+1,0,f,f',Inv,k,k',fr,Ve,v,v',s,s',_,_,ha,hg=> .Qfi fun hn=>by have h1:=(lP (E:=E) (g+1) f k fr v s).1;have h2:=ha.st;omega
 |g+1,g'+1,f,f',Inv,k,k',fr,Ve,v,v',s,s',hf,hi,ha,hg=>by
  rw[lb,lb];have Qfj:∀(r:Int×Int×af) (s:cQ),cH s (qZ (if r.1<0 then .ok r.2.1 {s with opened:=s.opened-1}else iW E g f r.1 k r.2.2 s)):=fun r s=>by
   split
   ·exact⟨Qol _,[],(QoZ _).symm⟩
   ·exact lP g _ _ _ _ _
  refine nz.bind (hf.step _ _ k k' fr Ve v v' s s' hi ha (lQ g) (lQ g') fun n l t t' h1 h2 _=> ?_) Qfj fun r t r' t' _ h2 h3 h4 _=> ?_
  ·exact FR hE hS h2 fun f f' Inv v v' u u' hf hi hu e=>DK hE hS g g' f f' Inv 0 0 (-1) (-1) v v' u u' hf hi hu oM
  ·obtain⟨h5,h6,h7⟩:=h4;have h8:=IL (lQ g') h2;by_cases h9:r.1<0
   ·rw[Kt h9,Kt (h5.1 h9)];exact .ok ⟨h3.mem,h3.next,h3.pos,h3.out,by show t'.opened-1=t.opened-1;rw[h3.Yi],h3.st⟩ (h6 h9)
   ·rw[Ds h9,Ds (fun e=>h9 (h5.2 e))];exact DK hE hS g g' f f' Inv _ _ _ _ _ _ t t' hf (h7 h9) h3 oM
theorem KT(hE:rP E E')(hS:yO E E')(g g':Nat):∀(l:List aV) (s s':cQ),xx s s'→0≤s'.steps→E'.fuel<(g':Int)→nz E'.fuel (fun _ _=>True) (gW E g l s) (gW E' g' l s')
 |[],s,s',h,_,_=> .ok h trivial
 |b::r,s,s',h,h0,hg=>by
  show nz E'.fuel _ (match fh E.names b with|none=> .stop 5 0 s|some n=>(dN E g n [] s).bind fun _ s=>gW E g r s) (match fh E'.names b with|none=> .stop 5 0 s'|some n=>(dN E' g' n [] s').bind fun _ s=>gW E' g' r s);rw[hE.names];cases fh E.names b with
  |none=>exact .off dQ
  |some n=>
   refine nz.bind (R:=Eq) (FR hE hS h fun f f' Inv v v' t t' hf hi ht e=>DK hE hS g g' f f' Inv 0 0 (-1) (-1) v v' t t' hf hi ht oM) (fun _ s=>sJ g r s) fun a t a' t' _ h2 h3 _ _=> ?_
   have:=FO (lQ g' n [] s') h2;exact KT hE hS g g' r t t' h3 oM hg
theorem Q4(hE:rP E E')(hS:yO E E')(h0:0≤E'.fuel)(cs:List bE)(l:List aV):nz E'.fuel (fun _ _=>True) (ld E cs l) (ld E' cs l):=by
 unfold ld;rw[hE.bR,hE.names,hE.data];split
 ·exact KT hE hS _ _ l _ _ (.refl _) (Qol _) oM
 ·exact .off dQ
end
section
variable {E : Env0} {call : Int → List Int → cQ → dp Int}
def FT{α:Type}(F:Int)(r:dp α):Prop:=(qZ r).steps≤F
theorem FT.bind{α β:Type}{F:Int}{r:dp α}{f:α→cQ→dp β}(h:FT F r)(hf:∀a s,s.steps≤F→FT F (f a s)):FT F (r.bind f):=by
 cases r with
 |ok a s=>exact hf a s h
 |stop k c s=>exact h
theorem le_step{s:cQ}(h:s.steps≤E.fuel):FT E.fuel (cT E s):=by
 unfold cT;split
 ·exact h
 ·show s.steps+1≤E.fuel;omega
theorem Qah{α:Type}{F n:Int}{s:cQ}(h:s.steps≤F){f:Nat→cQ→dp α}(hf:∀k,FT F (f k s)):FT F ((uy n s).bind f):=by
 unfold uy;split
 ·exact h
 ·exact hf _
theorem WU{F:Int}(hc:∀n l s,s.steps≤F→FT F (call n l s))(i:bl)(l:af){s:cQ}(h:s.steps≤F):FT F (bV E call i l s):=by
 by_cases h1:i.op=1
 ·rw[qa h1];exact h
 by_cases h2:i.op=2
 ·rw[qb h2];exact Qah h fun _=>h
 by_cases h3:i.op=3
 ·rw[qd h3];exact Qah h fun _=>h
 by_cases h4:i.op=4
 ·rw[vF h4];cases fh E.names i.name with
  |none=>exact h
  |some n=>exact hc _ _ _ h
 by_cases h5:i.op=5
 ·rw[sn h5];exact hc _ _ _ h
 by_cases h6:i.op=6
 ·rw[ox h6];cases fh E.data i.name<;>exact h
 by_cases h7:i.op=7
 ·rw[oy h7];cases fh E.names i.name<;>exact h
 by_cases h8:i.op=8
 ·rw[sq h8];by_cases c1:a0 l<0
  ·rw[Kt c1];exact h
  rw[Ds c1];by_cases c2:a0 l>(E.bR:Int)-s.next
  ·rw[Kt c2];exact h
  ·rw[Ds c2];exact h
 by_cases h9:i.op=9
 ·rw[sr h9];by_cases c1:s.pos<E.inp.length
  ·rw[Kt c1];exact h
  ·rw[Ds c1];exact h
 by_cases xm:i.op=10
 ·rw[oz xm];by_cases c1:s.out.length<4096
  ·rw[Kt c1];exact h
  ·rw[Ds c1];exact h
 by_cases Hy:i.op=11
 ·rw[mr Hy];by_cases c1:a0 l=0
  ·rw[Kt c1];exact h
  ·rw[Ds c1];exact h
 by_cases Ky:i.op=12
 ·rw[mu Ky];exact h
 by_cases O2:i.op≥40
 ·rw[mv O2];exact h
 rw[kB oM oM];by_cases c1:(cA (i.op-16) (a0 l) (a1 l)).2=0
 ·rw[Kt c1];exact h
 ·rw[Ds c1];exact h
theorem FU(hc:∀n l s,s.steps≤E.fuel→FT E.fuel (call n l s)):∀(is:List bl) (v:af) (s:cQ),s.steps≤E.fuel→FT E.fuel (cS E call is v s)
 |[],_,_,h=>h
 |i::r,v,s,h=>(le_step h).bind fun _ _ h1=>(WU hc i _ h1).bind fun _ _ h2=>FU hc r _ _ h2
theorem Q5(hc:∀n l s,s.steps≤E.fuel→FT E.fuel (call n l s))(f:et)(k fr:Int)(v:af){s:cQ}(h:s.steps≤E.fuel):FT E.fuel (fi E call f k fr v s):=by
 unfold fi;split
 ·exact h
 ·refine(FU hc _ _ s h).bind fun v s h=>(le_step h).bind fun _ s h=> ?_
  repeat' split
  all_goals exact h
theorem FV{body:et→Int→Int→af→cQ→dp Int}(hb:∀f k fr v s,s.steps≤E.fuel→FT E.fuel (body f k fr v s))(n:Int)(l:af)(s:cQ)(h:s.steps≤E.fuel):FT E.fuel (fF E body n l s):=by
 unfold fF;split
 ·exact h
 split
 ·exact h
 split
 ·exact h
 split
 ·exact h
 ·exact hb _ _ _ _ _ h
theorem DL:∀(g:Nat) (f:et) (k fr:Int) (v:af) (s:cQ),s.steps≤E.fuel→FT E.fuel (iW E g f k fr v s)
 |0,_,_,_,_,_,h=>h
 |g+1,f,k,fr,v,s,h=>by
  rw[lb];refine(Q5 (fun n l s h=>FV (DL g) n l s h) f k fr v h).bind fun r s h=> ?_
  split
  ·exact h
  ·exact DL g _ _ _ _ _ h
theorem KU(g:Nat):∀(l:List aV) (s:cQ),s.steps≤E.fuel→FT E.fuel (gW E g l s)
 |[],_,h=>h
 |b::r,s,h=>by
  unfold gW;split
  ·exact h
  ·exact(FV (DL g) _ _ _ h).bind fun _ s h=>KU g r s h
theorem Qb4(h0:0≤E.fuel)(cs:List bE)(l:List aV):0≤(qZ (ld E cs l)).steps∧(qZ (ld E cs l)).steps≤E.fuel:=by
 unfold ld;split
 ·exact⟨(sJ _ l _).1,KU _ l _ h0⟩
 ·exact⟨Qol _,h0⟩
end
end Go.Mor
namespace Go.Mor
open Go.RowKit
theorem DS{l:af}{i j:Nat}{a:Int}:(l.set i a).getD j 0=if i=j∧i<l.length then a else l.getD j 0:=by
 rw[List.getD_eq_getElem?_getD,List.getD_eq_getElem?_getD,List.getElem?_set];by_cases e:i=j
 ·subst e;by_cases h:i<l.length
  ·rw[Kt rfl,Kt h,Kt ⟨rfl,h⟩];rfl
  ·rw[Kt rfl,Ds h,Ds (fun c=>h c.2),List.getElem?_eq_none oM]
 ·rw[Ds e,Ds (fun c=>e c.1)]
section
variable {E E' : Env0} {call kE : Int → List Int → cQ → dp Int}
theorem y0:∀(l:List bl) (v:af) (s:cQ),cS E call (l.map bl.e0) v s=cS E call l v s
 |[],_,_=>rfl
 |i::r,v,s=>by show((cT E s).bind fun _ s=>(bV E call i (fe v i.args) s).bind fun u s=>cS E call (r.map bl.e0) (if 0≤i.dst∧aK i.op then v.set i.dst.toNat u else v) s)=((cT E s).bind fun _ s=>(bV E call i (fe v i.args) s).bind fun u s=>cS E call r (if 0≤i.dst∧aK i.op then v.set i.dst.toNat u else v) s);congr 1;funext _ s;congr 1;funext u s;exact y0 r _ s
theorem KY(l:List bZ)(n:Nat)(v:af):gr (l.map bZ.e0) n v=gr l n v:=by
 unfold gr;rw[QlQ];rfl
def W5(x:aE)(v:af)(s:cQ):dp (Int×Int×af):=if x.e=0 then .ok (x.a,0,v) s else if x.e=1 then .ok (if v.getD x.v.toNat 0≠0 then x.a else x.b,0,v) s else if x.e=3 then .stop 2 x.a s else .ok (-1,if x.v≥0 then v.getD x.v.toNat 0 else 0,v) s
theorem Rm{f:et}{x:aE}{k fr:Int}{v:af}{s:cQ}(hx:f.bh[k.toNat]?=some x):fi E call f k fr v s=(cS E call x.insts (gr x.au (eG (f.src k.toNat) fr) v) s).bind fun v s=>(cT E s).bind fun _ s=>W5 x v s:=by
 unfold fi;rw[hx];rfl
theorem Ci{x:aE}{v:af}{s:cQ}:cH s (qZ (W5 x v s)):=by
 unfold W5;repeat' split
 all_goals exact cH.refl s
end
theorem Qcb{fs:List aE}{k:Nat}{x:aE}(hx:fs[k]?=some x)(he:fU (fs.length:Int) x){t:Int}(h:(x.e=0∧t=x.a)∨(x.e=1∧(t=x.a∨t=x.b))):0≤t∧t∈tg (aq fs) (k:Int):=by
 unfold fU at he;have h0:0≤t∧t<(fs.length:Int):=oM;refine⟨h0.1,?_⟩;unfold tg;rw[Kt oM,Qoq,fH hx];show t∈Ag (aq fs).length x.sb;unfold Ag;rw[bK,Qov];refine⟨?_,?_⟩
 ·show t∈(if x.e=0 then[x.a]else if x.e=1 then(if x.a=x.b then[x.a]else[x.a,x.b])else[]);rcases h with⟨h1,h2⟩|⟨h1,h2⟩
  ·rw[Kt h1,h2];exact yX.2 rfl
  ·rw[Ds oM,Kt h1];split
   ·rename_i e;rw[yX];rcases h2 with h2|h2
    ·exact h2
    ·rw[h2,e]
   ·rcases h2 with h2|h2
    ·rw[h2];exact Qop ..
    ·rw[h2];exact Qmq _ (Qop ..)
 ·unfold gP;simp only[QlP,QhA];exact h0
theorem Qcc{l:af}{v:Int}(h:v∈l):l[eG l v]?=some v:=by
 induction l with
 |nil=>cases h
 |cons a l ih=>
  unfold eG;by_cases e:a=v
  ·rw[Kt e,e];rfl
  ·rw[Ds e];rcases Qon.1 h with h|h
   ·exact absurd h.symm e
   ·rw[List.getElem?_cons_succ];exact ih h
def Qai(fs:List aE)(k fr:Int):Prop:=(k=0∧fr= -1)∨(0≤k∧0≤fr∧fr<(fs.length:Int)∧k∈tg (aq fs) fr)
end Go.Mor
namespace Go.Mor
open Go.RowKit
def PV(E:Env0)(i:bl)(l:af)(u:Int):Prop:=∀(call:Int→af→cQ→dp Int) (s:cQ),bV E call i l s= .ok u s
theorem QhB{E:Env0}{i:bl}{l:af}(h:db i.op)(hs:bQ i):(∃u,PV E i l u)∨∀(call:Int→af→cQ→dp Int) (s:cQ),∃c,bV E call i l s= .stop 5 c s:=by
 have h2:=hs.2;unfold db at h;by_cases h1:i.op=1
 ·exact .inl ⟨_,fun call s=>qa h1⟩
 by_cases Ky:i.op=12
 ·exact .inl ⟨_,fun call s=>mu Ky⟩
 by_cases h6:i.op=6
 ·cases hl:fh E.data i.name with
  |none=>exact .inr fun call s=>⟨_,by rw[ox h6,hl]⟩
  |some n=>exact .inl ⟨n,fun call s=>by rw[ox h6,hl]⟩
 by_cases h7:i.op=7
 ·cases hl:fh E.names i.name with
  |none=>exact .inr fun call s=>⟨_,by rw[oy h7,hl]⟩
  |some n=>exact .inl ⟨n,fun call s=>by rw[oy h7,hl]⟩
 by_cases O2:i.op≥40
 ·exact .inl ⟨_,fun call s=>mv O2⟩
 have e:(cA (i.op-16) (a0 l) (a1 l)).2=0:=by have key:i.op-16=1∨i.op-16=2∨i.op-16=3∨i.op-16=6∨i.op-16=7∨i.op-16=8∨i.op-16=9∨i.op-16=10∨i.op-16=11∨i.op-16=12∨i.op-16=13∨i.op-16=14∨i.op-16=15∨i.op-16=16:=oM;rcases key with e|e|e|e|e|e|e|e|e|e|e|e|e|e<;>rw[e]<;>rfl
 exact .inl ⟨(cA (i.op-16) (a0 l) (a1 l)).1,fun call s=>by rw[kB oM oM,Kt e]⟩
theorem Rl{E:Env0}{call:Int→af→cQ→dp Int}{i i0:bl}{l:af}{s:cQ}(h1:i0.op=i.op)(h2:i0.n=i.n)(h3:i0.name=i.name):bV E call i l s=bV E call i0 l s:=by
 unfold bV;rw[h1,h2,h3]
theorem Qm0{E:Env0}{i i0:bl}{l:af}{u u':Int}(h1:i0.op=i.op)(h2:i0.n=i.n)(h3:i0.name=i.name)(h:PV E i0 l u)(h':PV E i l u'):u'=u:=by
 have e1:=h (fun _ _ s=> .ok 0 s) ⟨[],0,0,[],0,0⟩;have e2:=h' (fun _ _ s=> .ok 0 s) ⟨[],0,0,[],0,0⟩;rw[Rl h1 h2 h3,e1]at e2;injection e2 with e2;exact e2.symm
theorem Rn{u:Int}(h0:0≤u):∀(l:List (Int×Int)) (v:af),(∀e,e∈l→0≤e.1∧e.1≠u)→(jF v l).getD u.toNat 0=v.getD u.toNat 0
 |[],_,_=>rfl
 |(d,a)::l,v,h=>by show(jF (v.set d.toNat a) l).getD u.toNat 0=_;have h1:=h (d,a) (Qop ..);rw[Rn h0 l _ fun e he=>h e (Qmq _ he),DS,Ds];intro hc;have h2:0≤d:=h1.1;exact h1.2 (show d=u by omega)
theorem ZI{d a:Int}:∀(l:List (Int×Int)) (v:af),(l.map (·.1)).Nodup→(∀e,e∈l→0≤e.1)→(d,a)∈l→d.toNat<v.length→(jF v l).getD d.toNat 0=a
 |[],_,_,_,h,_=>by cases h
 |(d',a')::l,v,hn,h0,hm,hd=>by
  show(jF (v.set d'.toNat a') l).getD d.toNat 0=_;rw[QoK,QpL]at hn;have h0d:=h0 _ hm;rcases Qon.1 hm with e|hm
  ·injection e with e1 e2;subst e1 e2;rw[Rn h0d l _ fun e he=>⟨h0 e (Qmq _ he),fun ee=>hn.1 (Qhz.2 ⟨e,he,ee⟩)⟩,DS,Kt ⟨rfl,hd⟩]
  ·exact ZI l _ hn.2 (fun e he=>h0 e (Qmq _ he)) hm (by rw[Qpa];exact hd)
section
variable {fs : List aE} {nm : ByteArray} {pa va : Int} {k j : Nat} {x : aE} {u fr : Int} {σ : Int → Int}
theorem Qm1(hx:fs[k]?=some x){m:Int}(h:(u,(k:Int),m)∈bO fs):m<(x.insts.length:Int):=by
 obtain⟨y,hy,hm⟩:=IY h;rw[show((k:Int)).toNat=k from Qoq k,hx]at hy;injection hy with hy;subst hy;exact hm
theorem Qmr(h:iY nm pa va fs)(jB:(dw fs:Int)≤20000)(hf0:0≤fr)(hf1:fr<(fs.length:Int))(hk:(k:Int)∈tg (aq fs) fr)(hu:Av pa va fs u (k:Int) (-1)):Av pa va fs u fr 20000:=by
 obtain⟨h1,h2,h3⟩:=(kf h).1 hu;refine(kf h).2 ⟨h1,h2,h3.imp id ?_⟩;rintro⟨c,m,hd,h4⟩;refine⟨c,m,hd,?_⟩;have hm:=tA hd;rcases h4 with⟨_,h4⟩|⟨h4,h5⟩
 ·have: -1≤m:=hm.2.2;omega
 ·by_cases e:c=fr
  ·refine .inl ⟨e,?_⟩;obtain⟨y,hy,hl⟩:=IY hd;have:=F7 hy;have hl:m<(y.insts.length:Int):=hl;omega
  ·exact .inr ⟨e,fun⟨hc,hr⟩=>h5 ⟨hc,.step hr (iy.2 ⟨hk,fun ee=>h4 ee.symm⟩)⟩⟩
theorem Qm2(h:iY nm pa va fs)(hx:fs[k]?=some x)(hu:Av pa va fs u (k:Int) 20000):Av pa va fs u (k:Int) (x.insts.length:Int):=by
 obtain⟨h1,h2,h3⟩:=(kf h).1 hu;refine(kf h).2 ⟨h1,h2,h3.imp id ?_⟩;rintro⟨c,m,hd,h4⟩;refine⟨c,m,hd,h4.imp (fun⟨e,_⟩=>⟨e,?_⟩) id⟩;subst e;exact Qm1 hx hd
theorem Qms(h:iY nm pa va fs)(hx:fs[k]?=some x)(hu:Av pa va fs u (k:Int) 0):Av pa va fs u (k:Int) (-1)∨∃p,p∈x.au∧p.dst=u:=by
 obtain⟨h1,h2,h3⟩:=(kf h).1 hu;rcases h3 with h3|⟨c,m,hd,⟨e,h4⟩|h4⟩
 ·exact .inl ((kf h).2 ⟨h1,h2,.inl h3⟩)
 ·subst e;obtain⟨k',y,hy,e,h5⟩:=q7.1 hd;have:k'=k:=oM;subst this;rw[hx]at hy;injection hy with hy;subst hy;rcases h5 with⟨_,p,hp,e⟩|⟨j,i,_,_,_,e⟩
  ·exact .inr ⟨p,hp,e⟩
  ·omega
 ·exact .inl ((kf h).2 ⟨h1,h2,.inr ⟨c,m,hd,.inr h4⟩⟩)
theorem QkJ(h:iY nm pa va fs)(hx:fs[k]?=some x){i:bl}(hi:x.insts[j]?=some i)(hu:Av pa va fs u (k:Int) ((j+1:Nat):Int)):Av pa va fs u (k:Int) (j:Int)∨(aK i.op∧i.dst=u):=by
 obtain⟨h1,h2,h3⟩:=(kf h).1 hu;rcases h3 with h3|⟨c,m,hd,⟨e,h4⟩|h4⟩
 ·exact .inl ((kf h).2 ⟨h1,h2,.inl h3⟩)
 ·subst e;by_cases hm:m<(j:Int)
  ·exact .inl ((kf h).2 ⟨h1,h2,.inr ⟨_,m,hd,.inl ⟨rfl,hm⟩⟩⟩)
  ·obtain⟨k',y,hy,e,h5⟩:=q7.1 hd;have:k'=k:=oM;subst this;rw[hx]at hy;injection hy with hy;subst hy;rcases h5 with⟨e,_⟩|⟨j',i',l6,Px,e,e'⟩
   ·omega
   ·have:j'=j:=oM;subst this;rw[hi]at l6;injection l6 with l6;subst l6;exact .inr ⟨Px,e⟩
 ·exact .inl ((kf h).2 ⟨h1,h2,.inr ⟨c,m,hd,.inr h4⟩⟩)
theorem QmQ(h:iY nm pa va fs){q q':Int}(hq:q≤q')(hu:Av pa va fs u (k:Int) q):Av pa va fs u (k:Int) q':=by
 obtain⟨h1,h2,h3⟩:=(kf h).1 hu;exact(kf h).2 ⟨h1,h2,h3.imp id fun⟨c,m,hd,h4⟩=>⟨c,m,hd,h4.imp (fun⟨e,h5⟩=>⟨e,oM⟩) id⟩⟩
theorem QlR(h:iY nm pa va fs)(hx:fs[k]?=some x){p:bZ}(hp:p∈x.au)(hu:Av pa va fs u (k:Int) (-1)):p.dst≠u:=by
 rintro rfl;exact Qek h (q7.2 ⟨k,x,hx,rfl,.inl ⟨rfl,p,hp,rfl⟩⟩) hu
theorem Qks(h:iY nm pa va fs)(hx:fs[k]?=some x){i:bl}(hi:x.insts[j]?=some i)(hm:aK i.op)(hu:Av pa va fs u (k:Int) (j:Int)):i.dst≠u:=by
 rintro rfl;exact Qek h (q7.2 ⟨k,x,hx,rfl,.inr ⟨j,i,hi,hm,rfl,rfl⟩⟩) hu
def I1(pa va:Int)(fs:List aE)(σ:Int→Int)(k q:Int)(v v':af):Prop:=∀u,Av pa va fs u k q→v'.getD (σ u).toNat 0=v.getD u.toNat 0
def I2(E:Env0)(x:aE)(j:Nat)(v:af):Prop:=∀(m:Nat) (i0:bl),m<j→x.insts[m]?=some i0→db i0.op→PV E i0 (fe v i0.args) (v.getD i0.dst.toNat 0)
theorem Ck{v:af}{d u w:Int}(h0:0≤d)(h1:0≤u)(h:d≠u):(v.set d.toNat w).getD u.toNat 0=v.getD u.toNat 0:=by rw[DS,Ds oM]
theorem ZJ{v:af}{d w:Int}(h:d.toNat<v.length):(v.set d.toNat w).getD d.toNat 0=w:=by rw[DS,Kt ⟨rfl,h⟩]
theorem Qkt{v:af}{d w:Int}{l:af}(h0:0≤d)(hl:∀a,a∈l→0≤a∧d≠a):fe (v.set d.toNat w) l=fe v l:=QoV fun a ha=>Ck h0 (hl a ha).1 (hl a ha).2
theorem QhC{v v':af}{q:Int}{l:af}(hI:I1 pa va fs σ (k:Int) q v v')(hl:∀a,a∈l→Av pa va fs a (k:Int) q):fe v' (l.map σ)=fe v l:=by
 unfold fe;rw[QlQ];exact QoV fun a ha=>hI a (hl a ha)
theorem QkK{E:Env0}(h:iY nm pa va fs)(hq:CR pa va fs σ)(hx:fs[k]?=some x){i:bl}(hi:x.insts[j]?=some i)(hm:aK i.op){v v' w':af}{z:Int}(hl:v.length=va.toNat)(h1:I1 pa va fs σ (k:Int) (j:Int) v v')(h2:I2 E x j v)(hw:∀u,Av pa va fs u (k:Int) (j:Int)→w'.getD (σ u).toNat 0=v'.getD (σ u).toNat 0)(hz:w'.getD (σ i.dst).toNat 0=z)(hp:db i.op→PV E i (fe v i.args) z):I1 pa va fs σ (k:Int) ((j+1:Nat):Int) (v.set i.dst.toNat z) w'∧I2 E x (j+1) (v.set i.dst.toNat z):=by
 have hd:(i.dst,(k:Int),(j:Int))∈bO fs:=q7.2 ⟨k,x,hx,rfl,.inr ⟨j,i,hi,hm,rfl,rfl⟩⟩;have Nv:=pj h hd;have W9:=h.par;have O0:i.dst.toNat<v.length:=oM;have hd0:0≤i.dst:=oM;refine⟨fun u hu=> ?_,fun m i0 hm0 UE kr=> ?_⟩
 ·rcases QkJ h hx hi hu with hu|⟨_,e⟩
  ·rw[Ck hd0 hu.1 (Qks h hx hi hm hu),hw u hu];exact h1 u hu
  ·rw[←e,ZJ O0,hz]
 ·have PA:∀a,a∈i0.args→0≤a∧i.dst≠a:=fun a ha=>by have h9:=uu h hx UE ha;exact⟨h9.1,Qks h hx hi hm (QmQ h oM h9)⟩
  rw[Qkt hd0 PA];by_cases e:m=j
  ·subst e;rw[hi]at UE;injection UE with UE;subst UE;rw[ZJ O0];exact hp kr
  ·have hd9:(i0.dst,(k:Int),(m:Int))∈bO fs:=q7.2 ⟨k,x,hx,rfl,.inr ⟨m,i0,UE,jf kr,rfl,rfl⟩⟩;have hr9:=pj h hd9;rw[Ck hd0 oM (fun ee=>by have e1:=o8 h hd (ee▸hd9);injection e1 with _ e1;omega)]
   exact h2 m i0 oM UE kr
theorem rv{E E':Env0}(hE:rP E E')(h:iY nm pa va fs)(hq:CR pa va fs σ)(hx:fs[k]?=some x){call kE:Int→af→cQ→dp Int}(hL:∀n l s,cH s (qZ (call n l s)))(Rk:∀n l s,cH s (qZ (kE n l s))){b:Int}(hc:∀n l t t',b<t'.steps→xx t t'→t.steps≤E'.fuel→nz E'.fuel Eq (call n l t) (kE n l t')):∀(n j:Nat) (v v':af) (s s':cQ),j+n=x.insts.length→xx s s'→v.length=va.toNat→v'.length=va.toNat→I1 pa va fs σ (k:Int) (j:Int) v v'→I2 E x j v→b≤s'.steps→nz E'.fuel (fun w w'=>w.length=va.toNat∧w'.length=va.toNat∧I1 pa va fs σ (k:Int) (x.insts.length:Int) w w') (cS E call (x.insts.drop j) v s) (cS E' kE (((x.insts.drop j).filter (fun i=>bf σ i.dst)).map (lZ σ)) v' s')
 |0,j,v,v',s,s',hj,ha,hl,UU,h1,h2,_=>by have e:j=x.insts.length:=oM;subst e;rw[List.drop_length];exact .ok ha ⟨hl,UU,h1⟩
 |n+1,j,v,v',s,s',hj,ha,hl,UU,h1,h2,hb=>by
  obtain⟨i,hi⟩:=aM (l:=x.insts) (i:=j) oM;obtain⟨Kf,hje⟩:=List.getElem?_eq_some_iff.1 hi;rw[Fb Kf,hje,Qpv];have mI:=D7 hx;have W6:=h.bC.1 x mI i (D7 hi);have W9:=h.par;have yN:=fun a (ha:a∈i.args)=>uu h hx hi ha
  have PA:=QhC h1 yN;have hlr:∀(u:Int) (s:cQ),cH s (qZ (cS E call (x.insts.drop (j+1)) (if 0≤i.dst∧aK i.op then v.set i.dst.toNat u else v) s)):=fun u s=>mC hL _ _ s
  by_cases pJ:aK i.op
  ·have hd:(i.dst,(k:Int),(j:Int))∈bO fs:=q7.2 ⟨k,x,hx,rfl,.inr ⟨j,i,hi,pJ,rfl,rfl⟩⟩;have Nv:=pj h hd;have Qli:∀(v:af) (u:Int),(if 0≤i.dst∧aK i.op then v.set i.dst.toNat u else v)=v.set i.dst.toNat u:=fun v u=>Kt ⟨oM,pJ⟩
   by_cases hk:bf σ i.dst=true
   ·rw[Kt hk,QoK];have hsd:σ i.dst=i.dst:=by unfold bf at hk;exact eq_of_beq hk
    show nz E'.fuel _ ((cT E s).bind fun _ s=>(bV E call i (fe v i.args) s).bind fun u s=>cS E call (x.insts.drop (j+1)) (if 0≤i.dst∧aK i.op then v.set i.dst.toNat u else v) s) ((cT E' s').bind fun _ s=>(bV E' kE (lZ σ i) (fe v' (i.args.map σ)) s).bind fun u s=>cS E' kE (((x.insts.drop (j+1)).filter (fun i=>bf σ i.dst)).map (lZ σ)) (if 0≤i.dst∧aK i.op then v'.set i.dst.toNat u else v') s);refine nz.bind (KS ha) (fun _ s=>(sH hL i _ s).trans (im hlr)) fun _ t _ t' _ e2 h3 _ ht=> ?_
    have e3:=BU e2;rw[PA,←Rl (E:=E') (call:=kE) (i:=i) (i0:=lZ σ i) (l:=fe v i.args) (s:=t') rfl rfl rfl];refine nz.bind (WT hE h3 fun n l=>hc n l t t' oM h3 ht) hlr fun u t2 u' t2' e4 e5 h6 h7 _=> ?_
    subst h7;have e6:=FO (sH Rk i _ t') e5;rw[Qli,Qli];obtain⟨g1,g2⟩:=QkK h hq hx hi pJ (w':=v'.set i.dst.toNat u) (z:=u) hl h1 h2 (fun w hw=>by
      have hsw:=hq.sub.av w _ _ oM (by have:=(List.getElem?_eq_some_iff.1 hx).1;omega) hw;exact Ck oM hsw.1 (Qks h hx hi pJ hsw)) (by rw[hsd];exact ZJ oM) (fun hp=>by
      rcases QhB (E:=E) (l:=fe v i.args) hp W6 with⟨u0,hu0⟩|hu0
      ·rw[hu0 call t]at e4;injection e4 with e4;rw[←e4];exact hu0
      ·obtain⟨c,hc0⟩:=hu0 call t;rw[hc0]at e4;cases e4)
    exact rv hE h hq hx hL Rk hc n (j+1) _ _ t2 t2' oM h6 (by rw[Qpa];exact hl) (by rw[Qpa];exact UU) g1 g2 oM
   ·rw[Ds hk];have dt:σ i.dst≠i.dst:=fun e=>hk (by unfold bf;rw[e];exact QpN _)
    have hpi:=hq.ins k x j i hx hi pJ dt;have hp:db i.op:=by
     rcases hpi with⟨e,_⟩|⟨_,e,_⟩
     ·exact .inr (.inl e)
     ·exact e
    show nz E'.fuel _ ((cT E s).bind fun _ s=>(bV E call i (fe v i.args) s).bind fun u s=>cS E call (x.insts.drop (j+1)) (if 0≤i.dst∧aK i.op then v.set i.dst.toNat u else v) s) _;refine WS ?_;rcases QhB (E:=E) (l:=fe v i.args) hp W6 with⟨u,hu⟩|hu
    ·rw[hu];show nz E'.fuel _ (cS E call _ (if 0≤i.dst∧aK i.op then v.set i.dst.toNat u else v) _) _;rw[Qli];have hz:v'.getD (σ i.dst).toNat 0=u:=by
      rcases hpi with⟨Ky,e⟩|⟨_,_,m,i0,hmj,UE,q1,q2,q3,q4,q5⟩
      ·have hlen:i.args.length=1:=by have:=W6.2;omega
       obtain⟨a,hae⟩:∃a,i.args=[a]:=QpT.1 hlen;have e1:=hu call s;rw[mu Ky,hae]at e1;injection e1 with e1;rw[e,hae,←e1];exact h1 a (yN a (by rw[hae];exact yX.2 rfl))
      ·have kr:db i0.op:=by rw[q1];exact hp
       have hd9:(i0.dst,(k:Int),(m:Int))∈bO fs:=q7.2 ⟨k,x,hx,rfl,.inr ⟨m,i0,UE,jf kr,rfl,rfl⟩⟩;have hr9:=pj h hd9;have QnV:Av pa va fs i0.dst (k:Int) (j:Int):=(kf h).2 ⟨oM,hr9.2,.inr ⟨k,m,hd9,.inl ⟨rfl,oM⟩⟩⟩;have Qm3:=QhC h1 fun a ha=>QmQ h (q':=(j:Int)) oM (uu h hx UE ha)
       have e1:=h2 m i0 hmj UE kr;rw[←Qm3,q4,PA]at e1;rw[q5,h1 _ QnV];exact(Qm0 q1 q2 q3 e1 hu).symm
     obtain⟨g1,g2⟩:=QkK h hq hx hi pJ (w':=v') (z:=u) hl h1 h2 (fun _ _=>rfl) hz (fun _=>hu);exact rv hE h hq hx hL Rk hc n (j+1) _ _ _ s' oM ha.one (by rw[Qpa];exact hl) UU g1 g2 hb
    ·obtain⟨c,hu⟩:=hu call {s with steps:=s.steps+1};rw[hu];exact .off dQ
  ·have QnW:i.dst= -1:=W6.1.resolve_left pJ;have hk:bf σ i.dst=true:=by unfold bf;rw[QnW,hq.sub.par (-1) oM];rfl
   have Qli:∀(v:af) (u:Int),(if 0≤i.dst∧aK i.op then v.set i.dst.toNat u else v)=v:=fun v u=>Ds fun e=>pJ e.2
   rw[Kt hk,QoK];show nz E'.fuel _ ((cT E s).bind fun _ s=>(bV E call i (fe v i.args) s).bind fun u s=>cS E call (x.insts.drop (j+1)) (if 0≤i.dst∧aK i.op then v.set i.dst.toNat u else v) s) ((cT E' s').bind fun _ s=>(bV E' kE (lZ σ i) (fe v' (i.args.map σ)) s).bind fun u s=>cS E' kE (((x.insts.drop (j+1)).filter (fun i=>bf σ i.dst)).map (lZ σ)) (if 0≤i.dst∧aK i.op then v'.set i.dst.toNat u else v') s);refine nz.bind (KS ha) (fun _ s=>(sH hL i _ s).trans (im hlr)) fun _ t _ t' _ e2 h3 _ ht=> ?_
   have e3:=BU e2;rw[PA,←Rl (E:=E') (call:=kE) (i:=i) (i0:=lZ σ i) (l:=fe v i.args) (s:=t') rfl rfl rfl];refine nz.bind (WT hE h3 fun n l=>hc n l t t' oM h3 ht) hlr fun u t2 u' t2' _ e5 h6 h7 _=> ?_
   subst h7;have e6:=FO (sH Rk i _ t') e5;rw[Qli,Qli];refine rv hE h hq hx hL Rk hc n (j+1) _ _ t2 t2' oM h6 hl UU (fun w hw=> ?_) (fun m i0 hm0 UE kr=> ?_) oM
   ·rcases QkJ h hx hi hw with hw|⟨e,_⟩
    ·exact h1 w hw
    ·exact absurd e pJ
   ·by_cases e:m=j
    ·subst e;rw[hi]at UE;injection UE with UE;subst UE;exact absurd (jf kr) pJ
    ·exact h2 m i0 oM UE kr
end
end Go.Mor
namespace Go.Mor
open Go.RowKit
def AvE(pa va:Int)(fs:List aE)(fr u:Int):Prop:=(fr= -1∧Av pa va fs u 0 (-1))∨(0≤fr∧Av pa va fs u fr 20000)
def Qm4(pa va:Int)(fs:List aE)(σ:Int→Int)(k k' fr Ve:Int)(v v':af):Prop:=k=k'∧fr=Ve∧Qai fs k fr∧v.length=va.toNat∧v'.length=va.toNat∧∀u,AvE pa va fs fr u→v'.getD (σ u).toNat 0=v.getD u.toNat 0
section
variable {fs : List aE} {nm : ByteArray} {pa va : Int} {k j : Nat} {x : aE} {σ : Int → Int}
theorem UF:∀(l:List (Int×Int)) (v:af),(jF v l).length=v.length
 |[],_=>rfl
 |(d,a)::l,v=>by show(jF (v.set d.toNat a) l).length=_;rw[UF l,Qpa]
theorem QhD(ps:List bZ)(n:Nat)(v:af):(gr ps n v).length=v.length:=UF _ _
theorem QkX{ps:List bZ}{n:Nat}{v:af}{u:Int}(h0:0≤u)(h:∀p,p∈ps→0≤p.dst∧p.dst≠u):(gr ps n v).getD u.toNat 0=v.getD u.toNat 0:=by
 unfold gr;refine Rn h0 _ _ fun e he=> ?_
 obtain⟨p,hp,rfl⟩:=Qhz.1 he;exact h p hp
theorem QhE{ps:List bZ}{n:Nat}{v:af}{p:bZ}(hp:p∈ps)(hn:(ps.map (fun p=>p.dst)).Nodup)(h0:∀p,p∈ps→0≤p.dst)(hl:p.dst.toNat<v.length):(gr ps n v).getD p.dst.toNat 0=v.getD (p.args.getD n 0).toNat 0:=by
 unfold gr;refine ZI _ _ ?_ (fun e he=> ?_) (Qhz.2 ⟨p,hp,rfl⟩) hl
 ·rw[QlQ];exact hn
 ·obtain⟨q,hq,rfl⟩:=Qhz.1 he;exact h0 q hq
theorem Qmt(h:iY nm pa va fs)(jB:(dw fs:Int)≤20000){fr u:Int}(ZT:Qai fs (k:Int) fr)(hu:Av pa va fs u (k:Int) (-1)):AvE pa va fs fr u:=by
 rcases ZT with⟨h1,h2⟩|⟨_,h2,h3,h4⟩
 ·exact .inl ⟨h2,by rw[h1]at hu;exact hu⟩
 ·exact .inr ⟨h2,Qmr h jB h2 h3 h4 hu⟩
theorem QhF(h:iY nm pa va fs)(jB:(dw fs:Int)≤20000)(hq:CR pa va fs σ)(hx:fs[k]?=some x){fr:Int}(ZT:Qai fs (k:Int) fr){v v':af}(hl:v.length=va.toNat)(UU:v'.length=va.toNat)(hI:∀u,AvE pa va fs fr u→v'.getD (σ u).toNat 0=v.getD u.toNat 0):I1 pa va fs σ (k:Int) 0 (gr x.au (eG (bG (aq fs) (k:Int)) fr) v) (gr ((x.au.filter (fun p=>bf σ p.dst)).map (uv σ)) (eG (bG (aq fs) (k:Int)) fr) v'):=by
 have Qk:=(List.getElem?_eq_some_iff.1 hx).1;have W9:=h.par;have xU:∀p,p∈x.au→(p.dst,(k:Int),(-1:Int))∈bO fs:=fun p hp=>q7.2 ⟨k,x,hx,rfl,.inl ⟨rfl,p,hp,rfl⟩⟩
 have Qlj:∀p,p∈x.au→0≤p.dst∧p.dst<va:=fun p hp=>by have:=pj h (xU p hp);omega
 have kv:∀q,q∈(x.au.filter (fun p=>bf σ p.dst)).map (uv σ)→∃p,p∈x.au∧bf σ p.dst=true∧q=uv σ p:=fun q Gg=>by obtain⟨p,hp,rfl⟩:=Qhz.1 Gg;obtain⟨h1,h2⟩:=Qov.1 hp;exact⟨p,h1,h2,rfl⟩
 have old:∀u,Av pa va fs u (k:Int) (-1)→(gr x.au (eG (bG (aq fs) (k:Int)) fr) v).getD u.toNat 0=v.getD u.toNat 0:=fun u hu=>QkX hu.1 fun p hp=>⟨(Qlj p hp).1,QlR h hx hp hu⟩
 have new:∀u,Av pa va fs u (k:Int) (-1)→(gr ((x.au.filter (fun p=>bf σ p.dst)).map (uv σ)) (eG (bG (aq fs) (k:Int)) fr) v').getD u.toNat 0=v'.getD u.toNat 0:=fun u hu=>QkX hu.1 fun q Gg=>by obtain⟨p,hp,_,rfl⟩:=kv q Gg;have h9:p.dst≠u:=QlR h hx hp hu;exact⟨(Qlj p hp).1,h9⟩
 intro u hu;rcases Qms h hx hu with hu|⟨p,hp,rfl⟩
 ·rw[old u hu,new (σ u) (hq.sub.av u _ _ oM oM hu)];exact hI u (Qmt h jB ZT hu)
 ·have Fl:¬((k:Int)=0∧fr= -1):=fun⟨e,_⟩=>by have e9:k=0:=oM;subst e9;have:=h.au x hx;exact absurd (QpU hp) oM
  obtain⟨_,f0,f1,f2⟩:=ZT.resolve_left Fl;obtain⟨y,hy,hr⟩:=h.reads k Qk;rw[hx]at hy;injection hy with hy;subst hy;obtain⟨jj,hj⟩:=Qmp.1 hp;obtain⟨h5,h6⟩:=hr.au jj p hj;have h7:fr∈bG (aq fs) (k:Int):=tJ.2 ⟨⟨f0,by rw[bK];exact f1⟩,f2⟩;have h8:=Qcc h7;obtain⟨a,ha⟩:=aM (l:=p.args) (i:=eG (bG (aq fs) (k:Int)) fr) (by rw[h5];exact(List.getElem?_eq_some_iff.1 h8).1);have yN:Av pa va fs a fr 20000:=h6 _ a fr ha h8;have hIa:=hI a (.inr ⟨f0,yN⟩);have eo:(gr x.au (eG (bG (aq fs) (k:Int)) fr) v).getD p.dst.toNat 0=v.getD a.toNat 0:=by rw[QhE hp (QoS.1 (Nq h hx)).1 (fun p hp=>(Qlj p hp).1) (by have:=Qlj p hp;omega)];rw[show p.args.getD (eG (bG (aq fs) (k:Int)) fr) 0=a by rw[List.getD_eq_getElem?_getD,ha];rfl]
  rw[eo];by_cases e:σ p.dst=p.dst
  ·rw[e];have ZU:bf σ p.dst=true:=by unfold bf;rw[e];exact QpN _
   have hm:uv σ p∈(x.au.filter (fun p=>bf σ p.dst)).map (uv σ):=Qhz.2 ⟨p,Qov.2 ⟨hp,ZU⟩,rfl⟩;have HF:(((x.au.filter (fun p=>bf σ p.dst)).map (uv σ)).map (fun p=>p.dst)).Nodup:=by
    rw[QlQ];have:((fun p:bZ=>p.dst)∘uv σ)=fun p=>p.dst:=rfl
    rw[this];exact(QoS.1 (Nq h hx)).1.sublist (Qpm.map _)
   have en:=QhE (n:=eG (bG (aq fs) (k:Int)) fr) (v:=v') hm HF (fun q Gg=>by obtain⟨p',EC,_,rfl⟩:=kv q Gg;exact(Qlj p' EC).1) (by show p.dst.toNat<_;have:=Qlj p hp;omega)
   have en:(gr ((x.au.filter (fun p=>bf σ p.dst)).map (uv σ)) (eG (bG (aq fs) (k:Int)) fr) v').getD p.dst.toNat 0=v'.getD ((p.args.map σ).getD (eG (bG (aq fs) (k:Int)) fr) 0).toNat 0:=en;rw[en,show(p.args.map σ).getD (eG (bG (aq fs) (k:Int)) fr) 0=σ a by rw[List.getD_eq_getElem?_getD,List.getElem?_map,ha];rfl];exact hIa
  ·obtain⟨g1,g2⟩:=hq.sf k x p hx hp e;rw[new _ g1,←g2 a (D7 ha)];exact hIa
theorem QhG{E E':Env0}(hE:rP E E')(h:iY nm pa va fs)(jB:(dw fs:Int)≤20000)(hq:CR pa va fs σ){f f':et}(hb:f.bh=fs)(AX:eH f'.bh (pt σ fs))(hs:∀k:Nat,k<fs.length→f.src k=bG (aq fs) (k:Int))(PN:∀k:Nat,k<fs.length→f'.src k=bG (aq fs) (k:Int)):Qaf E E' f f' (Qm4 pa va fs σ):=by
 rintro call kE k _ fr _ v v' s s' ⟨rfl,rfl,ZT,hl,UU,hI⟩ ha hL Rk hc;have Fl:0≤k:=by rcases ZT with⟨h,_⟩|⟨h,_⟩<;>omega
 cases hx:fs[k.toNat]? with
 |none=>
  unfold fi;rw[hb,hx];exact .off dQ
 |some x=>
  have Z0:=(List.getElem?_eq_some_iff.1 hx).1;have mI:=D7 hx;have DC:(k.toNat:Int)=k:=oM;obtain⟨y,hy,Yj⟩:=qu AX.symm (uw.2 ⟨x,hx,rfl⟩);rw[Rm (by rw[hb];exact hx),Rm hy,hs _ Z0,PN _ Z0];have eI:cS E' kE y.insts=cS E' kE ((x.insts.filter (fun i=>bf σ i.dst)).map (lZ σ)):=by funext v s;rw[←y0 y.insts,←y0 ((x.insts.filter (fun i=>bf σ i.dst)).map (lZ σ)),←tT Yj];rfl
  have eP:gr y.au=gr ((x.au.filter (fun p=>bf σ p.dst)).map (uv σ)):=by funext n v;rw[←KY y.au,←KY ((x.au.filter (fun p=>bf σ p.dst)).map (uv σ)),←tS Yj];rfl
  rw[eI,eP];have h1:=QhF h jB hq hx (by rw[DC];exact ZT) hl UU hI;have h2:=rv hE h hq hx hL Rk (b:=s'.steps) hc x.insts.length 0 _ _ s s' oM ha (by rw[QhD];exact hl) (by rw[QhD];exact UU) h1 (fun m i0 hm=>absurd hm (QoB _)) (Qol _);rw[List.drop_zero]at h2;refine nz.bind h2 (fun v s=>sG.trans (im fun _ s=>Ci)) fun w t w' t' _ _ h3 h4 _=> ?_
  obtain⟨hwl,QnX,hw⟩:=h4;refine nz.bind (KS h3) (fun _ s=>Ci) fun _ t2 _ t2' _ _ h5 _ _=> ?_
  have ee:y.e=x.e:=(Rh Yj).symm;have ev:y.v=if tW x then σ x.v else x.v:=(MR Yj).symm;have ea:y.a=x.a:=(Qb8 Yj).symm;have eb:y.b=x.b:=(Qb9 Yj).symm;unfold W5;rw[ee,ev,ea,eb];obtain⟨z,hz,hr⟩:=h.reads k.toNat Z0;rw[hx]at hz;injection hz with hz;subst hz;have EL:=h.ends x mI;have C1:∀u,Av pa va fs u k 20000→w'.getD (σ u).toNat 0=w.getD u.toNat 0:=fun u hu=>hw u (Qm2 h hx (by rw[DC];exact hu))
  have QmR:∀t:Int,(x.e=0∧t=x.a)∨(x.e=1∧(t=x.a∨t=x.b))→Qm4 pa va fs σ t t k k w w':=fun t ht=>by
   have q1:=Qcb hx EL ht;rw[DC]at q1;refine⟨rfl,rfl,.inr ⟨q1.1,Fl,oM,q1.2⟩,hwl,QnX,fun u hu=> ?_⟩;rcases hu with⟨e,_⟩|⟨_,hu⟩
   ·omega
   ·exact C1 u hu
  by_cases e0:x.e=0
  ·rw[Kt e0,Kt e0];exact .ok h5 ⟨QoN,fun _=>rfl,fun _=>QmR _ (.inl ⟨e0,rfl⟩)⟩
  rw[Ds e0,Ds e0];by_cases e1:x.e=1
  ·rw[Kt e1,Kt e1];have yN:=hr.fin (.inl e1);rw[DC]at yN;rw[Kt (show tW x from .inl e1),C1 x.v yN];refine .ok h5 ⟨QoN,fun _=>rfl,fun _=>QmR _ (.inr ⟨e1,?_⟩)⟩;split
   ·exact .inl rfl
   ·exact .inr rfl
  rw[Ds e1,Ds e1];by_cases e3:x.e=3
  ·rw[Kt e3,Kt e3];exact .stop h5
  rw[Ds e3,Ds e3];refine .ok h5 ⟨QoN,fun _=> ?_,fun h=>absurd (show(-1:Int)<0 by omega) h⟩;have e2:x.e=2:=by unfold fU at EL;omega
  by_cases zY:0≤x.v
  ·have yN:=hr.fin (.inr ⟨e2,oM⟩);rw[DC]at yN;have hsv:=hq.sub.av x.v k 20000 Fl oM yN;show(if x.v≥0 then w.getD x.v.toNat 0 else 0)=if(if tW x then σ x.v else x.v)≥0 then w'.getD (if tW x then σ x.v else x.v).toNat 0 else 0;rw[Kt (show tW x from .inr ⟨e2,zY⟩),Kt zY,Kt hsv.1,C1 x.v yN]
  ·show(if x.v≥0 then w.getD x.v.toNat 0 else 0)=if(if tW x then σ x.v else x.v)≥0 then w'.getD (if tW x then σ x.v else x.v).toNat 0 else 0;rw[Ds (show¬tW x from fun hh=>by unfold tW at hh;omega),Ds zY,Ds zY]
theorem QlS(h:iY nm pa va fs){u:Int}(hu:Av pa va fs u 0 (-1)):u<pa:=by
 obtain⟨_,_,h3⟩:=(kf h).1 hu;rcases h3 with h3|⟨c,m,hd,⟨_,h4⟩|⟨h4,h5⟩⟩
 ·exact h3
 ·have: -1≤m:=(tA hd).2.2;omega
 ·exact absurd (Dm.vr h5) h4
theorem Qku{E E':Env0}(hE:rP E E')(h:iY nm pa va fs)(jB:(dw fs:Int)≤20000)(hq:CR pa va fs σ){f f':et}(hb:f.bh=fs)(AX:eH f'.bh (pt σ fs))(hs:∀k:Nat,k<fs.length→f.src k=bG (aq fs) (k:Int))(PN:∀k:Nat,k<fs.length→f'.src k=bG (aq fs) (k:Int))(hfp:f.pa=pa)(hfv:f.va=va)(hp:f'.pa=f.pa)(jR:f'.va=f.va):FQ E E' f f' (Qm4 pa va fs σ):=by
 refine⟨hp,jR,fun l hl=> ?_,QhG hE h jB hq hb AX hs PN⟩;have W9:=h.par;have UX:(l++List.replicate (f.va.toNat-l.length) 0).length=va.toNat:=by rw[QoG,Qp7,hfv];omega
 refine⟨rfl,rfl,.inl ⟨rfl,rfl⟩,UX,UX,fun u hu=> ?_⟩;rcases hu with⟨_,hu⟩|⟨e,_⟩
 ·rw[hq.sub.par u (QlS h hu)]
 ·omega
end
end Go.Mor
namespace Go.Mor
open Go.RowKit
theorem Qkv{fs:List aE}{k:Nat}{x:aE}(h:fs[k]?=some x):x.au.length≤dw fs:=by
 have hk:=(List.getElem?_eq_some_iff.1 h).1;have key:∀n,k<n→n≤fs.length→x.au.length≤jd fs n:=by
  intro n;induction n with
  |zero=>intro h1;omega
  |succ n ih=>
   intro h1 h2;obtain⟨y,hy⟩:=aM (l:=fs) (i:=n) oM;rw[ky hy];by_cases e:k=n
   ·subst e;rw[h]at hy;injection hy with hy;subst hy;omega
   ·have:=ih oM oM;omega
 have:=key fs.length hk (kQ _);unfold dw;omega
theorem Gd{fs:List aE}{k:Nat}{x:aE}(h:fs[k]?=some x){d:Int×Int×Int}(hd:d∈eZ (k:Int) x):d∈bO fs:=by
 unfold bO dz;rw[Qo8];refine⟨(x,k),?_,hd⟩;rw[QoF];exact Qpo.2 h
theorem MY{fs:List aE}{k:Nat}{x:aE}(h:fs[k]?=some x){p:bZ}(hp:p∈x.au):(p.dst,(k:Int),-1)∈bO fs:=Gd h (Qox _ (Qhz.2 ⟨p,hp,rfl⟩))
theorem MZ{fs:List aE}{k:Nat}{x:aE}(h:fs[k]?=some x){i:Nat}{p:bl}(hp:x.insts[i]?=some p)(hm:aK p.op):(p.dst,(k:Int),(i:Int))∈bO fs:=by
 refine Gd h (Qo5 _ ?_);unfold dv;rw[Qhz];exact⟨(p,i),Qov.2 ⟨Qpo.2 hp,by simpa using hm⟩,rfl⟩
structure Qak(f:et):Prop where
 len:f.bG.length=f.bh.length
 at_:∀k:Nat,k<f.bh.length→f.src k=bG (aq f.bh) (k:Int)
theorem W8{f:et}(h:Qak f){k:Nat}(hk:¬k<f.bh.length):f.src k=[]:=by
 unfold et.src;rw[List.getD_eq_getElem?_getD,List.getElem?_eq_none (by rw[h.len];omega)];rfl
theorem Qfm{f:et}(iq:pz f.bh)(hn:f.bh.length≤1000)(hv:cC f.nm f.pa f.va f.bh=0)(hs:Qak f):f.WF:=by
 unfold cC at hv;by_cases jL:(dw f.bh:Int)>20000∨f.va>20000
 ·rw[Kt jL]at hv;cases hv
 rw[Ds jL]at hv;have hg:iY f.nm f.pa f.va f.bh:=Classical.byContradiction fun hg=>by rw[Ds hg]at hv;cases hv
 have W9:=hg.par;have rd:∀(k:Nat) (x:aE),f.bh[k]?=some x→yT (Dm (tg (aq f.bh))) (fun _=>20000) qp f.pa f.va f.bh k x:=fun k x hx=>by have hk:=(List.getElem?_eq_some_iff.1 hx).1;exact nC hx (hg.reads k hk)
 refine⟨iq,hg.pos,hn,W9.1,W9.2.2,oM,fun x hx=>Qp3 (hg.au x hx),fun k x hx=> ?_,hs.len,fun k x t hx ht=> ?_,fun k=> ?_⟩
 ·have hk:=(List.getElem?_eq_some_iff.1 hx).1;have hm:=D7 hx;have hr:=rd k x hx;refine⟨by have:=Qkv hx;omega,by have:=F7 hx;omega,hg.ends x hm,fun he=> ?_,fun he=> ?_,hg.bC.1 x hm,fun i hi v hv=> ?_,fun i hi pJ=> ?_,fun p hp=> ?_,fun p hp=> ?_,fun p hp v hv=> ?_⟩
  ·have:=hr.fin (.inl he);exact⟨this.1,this.2.1⟩
  ·refine⟨(KX hg x hm).2 he,?_⟩;by_cases hv:x.v= -1
   ·omega
   ·exact(hr.fin (.inr ⟨he,hv⟩)).2.1
  ·obtain⟨j,hj⟩:=Qmp.1 hi;obtain⟨q,hq⟩:=Qmp.1 hv;have:=hr.insts j i hj q v hq;exact⟨this.1,this.2.1⟩
  ·obtain⟨j,hj⟩:=Qmp.1 hi;have:=hg.bC.2.1 _ (MZ hx hj pJ);simp only at this;omega
  ·have:=hg.bC.2.1 _ (MY hx hp);simp only at this;omega
  ·obtain⟨j,hj⟩:=Qmp.1 hp;rw[hs.at_ k hk];exact(hr.au j p hj).1
  ·obtain⟨j,hj⟩:=Qmp.1 hp;obtain⟨q,hq⟩:=Qmp.1 hv;have h1:=hr.au j p hj;obtain⟨s,YI⟩:=aM (l:=bG (aq f.bh) (k:Int)) (i:=q) (by rw[←h1.1];exact(List.getElem?_eq_some_iff.1 hq).1);have:=h1.2 q v s hq YI;exact⟨this.1,this.2.1⟩
 ·have hk:=(List.getElem?_eq_some_iff.1 hx).1;have he:=hg.ends x (D7 hx);have ht0:0≤t∧t<(f.bh.length:Int):=by rcases he with⟨h0,ha,_⟩|⟨h0,ha,hb,_⟩|⟨h0,_⟩|⟨h0,_⟩<;>rcases ht with⟨h1,h2⟩|⟨h1,h2⟩<;>first|omega|(rcases h2 with h2|h2<;>omega)
  rw[hs.at_ t.toNat oM,Qo7 ht0.1,tJ,bK];refine⟨⟨oM,oM⟩,?_⟩;rw[x8 oM (x:=x.sb) (by rw[Qoq];exact fH hx)];unfold Ag;rw[Qov,bK];refine⟨?_,by simp[gP,ht0]⟩;show t∈(if x.e=0 then[x.a]else if x.e=1 then(if x.a=x.b then[x.a]else[x.a,x.b])else[]);rcases ht with⟨h1,h2⟩|⟨h1,h2⟩
  ·rw[Kt h1,h2];simp
  ·rw[Ds oM,Kt h1];by_cases e:x.a=x.b
   ·rw[Kt e];rcases h2 with h2|h2<;>simp[h2,e]
   ·rw[Ds e];rcases h2 with h2|h2<;>simp[h2]
 ·by_cases hk:k<f.bh.length
  ·rw[hs.at_ k hk];have:=fR (aq f.bh) (k:Int) (aq f.bh).length;unfold bG;rw[bK]at this⊢;omega
  ·rw[W8 hs hk];simp
end Go.Mor
namespace Go.Mor
open Go.RowKit
structure O4 where
 op:Int
 n:Int
 nm:aV
 A:ar
 c:Nat
 kids:List O4
structure KZ where
 op:Int
 n:Int
 eA:ar
 ec:Nat
 exprs:List O4
 bA:ar
 bc:Nat
 body:List KZ
 lA:ar
 lc:Nat
 Xa:List KZ
structure uA where
 nm:aV
 wk:Bool
 pa:Int
 lo:Int
 A:ar
 c:Nat
 body:List KZ
structure Xb extends Env0 where
 sQ:List uA
structure Frm where
 loc:af
 deep:Int
 back:Int
def qw(E:Env0)(n:Int)(s:cQ):dp Int:=if n<0 then .stop 5 0 s else if n>(E.bR:Int)-s.next then .stop 3 0 s else .ok s.next {s with next:=s.next+n}
def Cj(E:Env0)(s:cQ):dp Int:=if s.pos<E.inp.length then .ok (E.inp.getD s.pos 0) {s with pos:=s.pos+1}else .ok (-1) s
def DT(v:Int)(s:cQ):cQ:=if s.out.length<4096 then {s with out:=s.out++[IntKind.u8.wrap v]}else s
end Go.Mor
namespace Go.Mor
open Go.RowKit
section
variable {α β : Type}
theorem Qkb{g:dp α}{f:α→cQ→dp β}{x:α}{s:cQ}(h:g= .ok x s):g.bind f=f x s:=by rw[h];rfl
theorem Qgi{g:dp α}{f:α→cQ→dp β}{k c:Int}{s:cQ}(h:g= .stop k c s):g.bind f= .stop k c s:=by rw[h];rfl
end
def Qik(s s':cQ):Prop:=s.steps≤s'.steps∧s'.opened=s.opened
def Rp{α:Type}(s:cQ)(g:dp α):Prop:=∀x s',g= .ok x s'→Qik s s'
end Go.Mor
namespace Go.Mor
open Go.RowKit
theorem gm{α β:Type}{f:α→β}{l:List α}{i:Nat}{x:α}(h:l[i]?=some x):(l.map f)[i]?=some (f x):=by rw[List.getElem?_map,h];rfl
section
variable {P : Program} {c : Code} {K : Act → World → Prop} {Q : Exit → Act → World → Prop} {w : World} {N : FN} {env : Env}
theorem ln(x y:Int)(ht:x=y→∀a,Fr a N env→W P (Code.l c) K Q a w)(hf:¬x=y→∀a,Fr a N env→W P (Code.r c) K Q a w)(hk:yb c env=some (vB (x==y)):=by kernel_rfl):∀a,Fr a N env→W P c K Q a w:=dX (x==y) (x=y) Qco ht hf hk
end
section
variable {P : Program} {c : Code} {K : Act → World → Prop} {Q : Exit → Act → World → Prop} {w w0 : World} {N : FN} {env : Env} {a : Act} {S : Nat → Prop} {L : List bx} {k : Nat}
theorem Xc(d:Nat)(x y:Operand)(t ty:TypeId)(hF:Fr a N env){e size bytes:Nat}{z:Value}{A B:ar}{n cap m cap':Nat}{xs news:aP}(hM:Mem S w0 w L)(i:Nat)(hL:L[i]?=some (.row e size A n cap xs))(r4:(bx.rd B news).holds w)(hl:news.length=m*size)(h1:∀u∈news,u.oneCell'=true)(hb:(n+m)*bytes≤140737488355328)(HY:n+m≤maxLen)(nn:Nat)(ys:aP)(hn:n+m=nn)(hys:xs++news=ys)(h:∀A' c' w',Mem S w0 w' (L.set i (.row e size A' nn c' ys))→Mem (bx.row e size A n cap xs).fp w w' [.row e size A' nn c' ys]→∀a',a'=a.put (some d) (vS A' nn c')→Fr a' N (dq env (some d) (vS A' nn c'))→bz P c K Q (k+1) a' w')(hk:ax c k=some (some d,.call {callee:= .builtin .append,args:=#[x,y],argTypes:=#[t,t]},ty,none):=by kernel_rfl)(hd:gp (some d) N=true:=by kernel_rfl)(ht:P.underlying t=some (.slice e):=by kernel_rfl)(hi:(P.info? e).map (fun i=>(i.size,i.bytes,i.zero))=some (size,bytes,some z):=by kernel_rfl)(HX:Nat.beq z.cells.size size=true:=by kernel_rfl)(jB:Nat.blt 0 size=true:=by kernel_rfl)(hx:ev env x=some (vS A n cap):=by kernel_rfl)(hy:ev env y=some (vS B m cap'):=by kernel_rfl):bz P c K Q k a w:=DU hk hF rfl hd rfl ht hi HX jB hx hy hM i hL r4 hl h1 hb HY nn ys hn hys h
end
end Go.Mor
namespace Go.Mor
open Go.RowKit
end Go.Mor
namespace Go.Mor
open Go.RowKit
def O4.cells(e:O4):aP:=[vI e.op,vI e.n,.string e.nm,.slice e.A e.kids.length e.c]
def KZ.cells(x:KZ):aP:=[vI x.op,vI x.n,.slice x.eA x.exprs.length x.ec,.slice x.bA x.body.length x.bc,.slice x.lA x.Xa.length x.lc]
def uA.cells(f:uA):aP:=[.string f.nm,.bool f.wk,vI f.pa,vI f.lo,.slice f.A f.body.length f.c]
mutual
def Qfn:O4→List bx
 |⟨_,_,_,A,_,kids⟩=> .l7 A 4 (kids.map O4.cells)::I4 kids
def I4:List O4→List bx
 |[]=>[]
 |e::r=>Qfn e++I4 r
end
mutual
def Qfo:KZ→List bx
 |⟨_,_,eA,_,exprs,bA,_,body,lA,_,Xa⟩=> .l7 eA 4 (exprs.map O4.cells):: .l7 bA 5 (body.map KZ.cells):: .l7 lA 5 (Xa.map KZ.cells)::(I4 exprs++(DW body++DW Xa))
def DW:List KZ→List bx
 |[]=>[]
 |x::r=>Qfo x++DW r
end
def uA.parts(f:uA):List bx:= .l7 f.A 5 (f.body.map KZ.cells)::DW f.body
structure TC where
 E:Xb
 r:Nat
 fA:ar
 fc:Nat
 mB:Nat
 dB:Nat
 mG:Nat
 iA:ar
 ic:Nat
end Go.Mor
namespace Go.Mor
open Go.RowKit
structure cF where
 pkg:aV
 fA:ar
 fc:Nat
 fns:List uA
 dA:ar
 dc:Nat
 cf:List bE
def cF.cells(m:cF):aP:=[.string m.pkg,.slice m.fA m.fns.length m.fc,.slice m.dA m.cf.length m.dc]
def flD(ms:List cF):List bE:=ms.flatMap (·.cf)
def nwD(ms:List cF):NW:=(flD ms).map fun d=>(d.nm,d.wk)
section
variable {α β : Type} {g : α → List β} {ms : List α} {j k : Nat} {m : α} {x : β}
def fD(g:α→List β)(ms:List α)(j:Nat):Nat:=((ms.take j).flatMap g).length
theorem lT(h:ms[j]?=some m):fD g ms (j+1)=fD g ms j+(g m).length:=by
 unfold fD;rw[List.take_add_one,h];simp
theorem K0(h:ms.length≤j):fD g ms j=(ms.flatMap g).length:=by unfold fD;rw[Qot h]
theorem gN(h:ms[j]?=some m)(hx:(g m)[k]?=some x):(ms.flatMap g)[fD g ms j+k]?=some x:=by
 obtain⟨eV,he⟩:=List.getElem?_eq_some_iff.1 h;have e:ms=ms.take j++m::ms.drop (j+1):=by rw[←he,←Fb eV,Qpq]
 have hk:=(List.getElem?_eq_some_iff.1 hx).1;unfold fD;generalize hp:(ms.take j).flatMap g=p;rw[e,QpQ,hp,Qpg,List.getElem?_append_right oM,show p.length+k-p.length=k by omega,List.getElem?_append_left hk];exact hx
theorem Rq(h:ms[j]?=some m):fD g ms j+(g m).length≤(ms.flatMap g).length:=by
 rcases Qqe (g m).length with h0|h0
 ·rw[h0];have:(ms.take j).flatMap g++(ms.drop j).flatMap g=ms.flatMap g:=by rw[←QpQ,Qpq]
  have h2:=Qlh List.length this;rw[QoG]at h2;unfold fD;omega
 ·obtain⟨x,hx⟩:=aM (l:=g m) (i:=(g m).length-1) oM;have:=(List.getElem?_eq_some_iff.1 (gN h hx)).1;omega
end
abbrev Ev:=aV×Bool
theorem Qlq{a b:aV}(h:a.data.toList=b.data.toList):a=b:=by
 cases a;cases b;simp only at h;congr 1;exact Qpe h
def csD(ms:List cF):List bE:=bF (nwD ms) (flD ms) (flD ms).length
def gY(cs:List uA)(j:Nat):List (aV×Int):=(cs.take j).zipIdx.map (fun p=>(p.1.nm,((p.2+1:Nat):Int)))
end Go.Mor
namespace Go.Mor
open Go.RowKit
def cF.parts(m:cF):List bx:= .l7 m.fA 5 (m.fns.map uA.cells):: .l7 m.dA 4 (m.cf.map bE.cells)::(m.fns.flatMap uA.parts++m.cf.flatMap bE.parts)
def bx.I5(A:ar)(ms:List cF):bx:= .all (.l7 A 3 (ms.map cF.cells)::ms.flatMap cF.parts)
section
variable {S : Nat → Prop} {w : World} {A : Option Addr} {ms : List cF} {m : cF} {f : uA} {d : bE}
theorem RO.qx(h:RO S w (.I5 A ms)):RO S w (.l7 A 3 (ms.map cF.cells)):=h.sub (Qop ..)
end
def Xd(names data:List (aV×Int))(bR:Nat)(cs:List bE):af:=if aJ cs cs.length≤bR then kW names data cs bR cs.length else List.replicate bR 0
end Go.Mor
namespace Go.Mor
open Go.RowKit
mutual
def exN:O4→Nat
 |⟨_,_,_,_,_,kids⟩=>1+Qce kids
def Qce:List O4→Nat
 |[]=>0
 |e::r=>exN e+Qce r
end
mutual
def stN:KZ→Nat
 |⟨_,_,_,_,exprs,_,_,body,_,_,Xa⟩=>1+Qce exprs+Xe body+Xe Xa
def Xe:List KZ→Nat
 |[]=>0
 |x::r=>stN x+Xe r
end
end Go.Mor
namespace Go.Mor
open Go.RowKit
def esQ(lo op n:Int)(sz k:Nat):Prop:=(op=1∧k=0∧sz=0)∨(op=2∧k=0∧sz=0∧0≤n∧n<lo)∨(op=3∧k=2∧sz=0∧1≤n∧n≤16)∨(op=4∧k=1∧sz=0∧1≤n∧n≤3)∨(op=5∧k=1∧sz=0∧0≤n∧n≤2147483647)∨(op=6∧k≤16∧1≤sz∧sz≤60∧n=0)∨(op=7∧1≤k∧k≤17∧sz=0∧n=0)∨(op=8∧k=0∧1≤sz∧sz≤60∧n=0)∨(op=9∧k=0∧1≤sz∧sz≤60∧n=0)∨(op=10∧k=1∧sz=0∧n=0)∨(op=11∧k=0∧sz=0∧n=0)∨(op=12∧k=3∧sz=0∧n=0)∨(op=13∧k=2∧sz=0∧1≤n∧n≤999)
instance (lo op n : Int) (sz k : Nat) : Decidable (esQ lo op n sz k) := by unfold esQ; infer_instance
def sfQ(lo lp op n:Int)(ke kb kl:Nat):Prop:=(op=1∧ke=1∧kb=0∧kl=0∧0≤n∧n<lo)∨(op=2∧ke=2∧kb=0∧kl=0∧0≤n∧n≤2147483647)∨(op=3∧ke=1∧kb=0∧kl=0∧n=0)∨(op=4∧ke=1∧kb=0∧kl=0∧n=0)∨(op=5∧ke=1∧n=0)∨(op=6∧ke=0∧kl=0∧n=0)∨(op=7∧ke=0∧kb=0∧kl=0∧0≤n∧n<lp)∨(op=8∧ke=0∧kb=0∧kl=0∧0≤n∧n<lp)∨(op=9∧(ke=0∨ke=1)∧kb=0∧kl=0∧n=0)∨(op=10∧ke=0∧kb=0∧kl=0∧1≤n∧n≤999)
instance (lo lp op n : Int) (ke kb kl : Nat) : Decidable (sfQ lo lp op n ke kb kl) := by unfold sfQ; infer_instance
mutual
def exV(lo:Int):Int→O4→Bool
 |d,⟨op,n,nm,_,_,kids⟩=>decide (d≤100∧esQ lo op n nm.size kids.length)&&Qcf lo (d+1) kids
def Qcf(lo:Int):Int→List O4→Bool
 |_,[]=>true
 |d,e::r=>exV lo d e&&Qcf lo d r
end
abbrev inner(op lp:Int):Int:=if op=6 then lp+1 else lp
mutual
def stV(lo:Int):Int→Int→KZ→Bool
 |lp,d,⟨op,n,_,_,exprs,_,_,body,_,_,Xa⟩=>decide (d≤100∧sfQ lo lp op n exprs.length body.length Xa.length)&&(Qcf lo (d+1) exprs&&(Xf lo (inner op lp) (d+1) body&&Xf lo (inner op lp) (d+1) Xa))
def Xf(lo:Int):Int→Int→List KZ→Bool
 |_,_,[]=>true
 |lp,d,x::r=>stV lo lp d x&&Xf lo lp d r
end
def fnQ(f:uA):Prop:=bB f.nm∧(0≤f.pa∧f.pa≤16)∧(f.pa≤f.lo∧f.lo≤2000)
instance (f : uA) : Decidable (fnQ f) := by unfold fnQ; infer_instance
def fnV(f:uA):Bool:=decide (fnQ f)&&Xf f.lo 0 0 f.body
def kT(d:bE):Prop:=(∀(j:Nat) (r:Int×aV),d.refs[j]?=some r→bB r.2∧(0≤r.1∧r.1<(d.words.length:Int))∧r.1∉(d.refs.take j).map (·.1))∧bB d.nm
noncomputable instance (d : bE) : Decidable (kT d) := Classical.propDecidable _
end Go.Mor
namespace Go.Mor
open Go.RowKit
section
variable {P : Program} {C : TC} {s s2 : cQ} {oA : Option Addr} {oc : Nat} {w : World} {fn : FuncId} {args : List Value} {g : dp Int} {x k c : Int}
theorem Ge{E:Env0}{s s':cQ}{u:Unit}(h:cT E s= .ok u s'):s'.steps=s.steps+1∧s'.opened=s.opened:=by
 unfold cT at h;split at h
 ·cases h
 ·injection h with _ h;rw[←h];exact⟨rfl,rfl⟩
end
end Go.Mor
