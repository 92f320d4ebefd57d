/-
  Texts of the proof, part 12.
-/
import Derived.Test.YtejbeeaomokjpaaGreatZm11
set_option maxRecDepth 10000
namespace Go.Mor
open Go.RowKit
def qZ{α:Type}:dp α→cQ
 | .ok _ s=>s
 | .stop _ _ s=>s
def cH(s s':cQ):Prop:=s.steps≤s'.steps∧∃t,s'.out=s.out++t
theorem cH.refl(s:cQ):cH s s:=⟨Int.le_refl _,[],(List.append_nil _).symm⟩
theorem cH.trans{a b c:cQ}(h:cH a b)(h2:cH b c):cH a c:=by
 obtain⟨h1,t,ht⟩:=h;obtain⟨h3,u,hu⟩:=h2;exact⟨Int.le_trans h1 h3,t++u,by rw[hu,ht,List.append_assoc]⟩
section
variable {α β : Type} {F : Int}
theorem im{r:dp α}{f:α→cQ→dp β}(hf:∀a s,cH s (qZ (f a s))):cH (qZ r) (qZ (r.bind f)):=by
 cases r with
 |ok a s=>exact hf a s
 |stop k c s=>exact cH.refl s
end
section
variable {E : Env0}
theorem sG{E:Env0}{s:cQ}:cH s (qZ (cT E s)):=by
 unfold cT;split
 ·exact cH.refl s
 ·exact⟨by show s.steps≤s.steps+1;omega,[],(List.append_nil _).symm⟩
theorem FM{α:Type}{n:Int}{s:cQ}{f:Nat→cQ→dp α}(hf:∀a,cH s (qZ (f a s))):cH s (qZ ((uy n s).bind f)):=by
 unfold uy;split
 ·exact cH.refl s
 ·exact hf _
theorem FO{α:Type}{s s':cQ}{r:dp α}{v:α}(h:cH s (qZ r))(e:r= .ok v s'):s.steps≤s'.steps:=by
 subst e;exact h.1
theorem BU{s s':cQ}{u:Unit}(h:cT E s= .ok u s'):s.steps<s'.steps:=by
 unfold cT at h;split at h
 ·cases h
 ·injection h with _ h;rw[←h];show s.steps<s.steps+1;omega
end
end Go.Mor
namespace Go.Mor
open Go.RowKit
section
variable {E : Env0} {m : Int} {call kE : Int → List Int → cQ → dp Int}
theorem sH(hc:∀n l s,cH s (qZ (call n l s)))(i:bl)(l:af)(s:cQ):cH s (qZ (bV E call i l s)):=by
 by_cases h1:i.op=1
 ·rw[qa h1];exact cH.refl s
 by_cases h2:i.op=2
 ·rw[qb h2];exact FM (fun _=>cH.refl s)
 by_cases h3:i.op=3
 ·rw[qd h3];exact FM (fun _=>⟨Int.le_refl _,[],(List.append_nil _).symm⟩)
 by_cases h4:i.op=4
 ·rw[sm h4];cases fh E.names i.name with
  |none=>exact cH.refl s
  |some n=>exact hc _ _ _
 by_cases h5:i.op=5
 ·rw[sn h5];exact hc _ _ _
 by_cases h6:i.op=6
 ·rw[ox h6];cases fh E.data i.name<;>exact cH.refl s
 by_cases h7:i.op=7
 ·rw[oy h7];cases fh E.names i.name<;>exact cH.refl s
 by_cases h8:i.op=8
 ·rw[sq h8];by_cases c1:a0 l<0
  ·rw[if_pos c1];exact cH.refl s
  rw[if_neg c1];by_cases c2:a0 l>(E.bR:Int)-s.next
  ·rw[if_pos c2];exact cH.refl s
  ·rw[if_neg c2];exact⟨Int.le_refl _,[],(List.append_nil _).symm⟩
 by_cases h9:i.op=9
 ·rw[sr h9];by_cases c1:s.pos<E.inp.length
  ·rw[if_pos c1];exact⟨Int.le_refl _,[],(List.append_nil _).symm⟩
  ·rw[if_neg c1];exact cH.refl s
 by_cases xm:i.op=10
 ·rw[oz xm];by_cases c1:s.out.length<4096
  ·rw[if_pos c1];exact⟨Int.le_refl _,_,rfl⟩
  ·rw[if_neg c1];exact cH.refl s
 by_cases Hy:i.op=11
 ·rw[mr Hy];by_cases c1:a0 l=0
  ·rw[if_pos c1];exact cH.refl s
  ·rw[if_neg c1];exact cH.refl s
 by_cases Ky:i.op=12
 ·rw[mu Ky];exact cH.refl s
 by_cases O2:i.op≥40
 ·rw[mv O2];exact cH.refl s
 rw[kB oM oM];by_cases c1:(cA (i.op-16) (a0 l) (a1 l)).2=0
 ·rw[if_pos c1];exact cH.refl s
 ·rw[if_neg c1];exact cH.refl s
theorem mC(hc:∀n l s,cH s (qZ (call n l s))):∀(is:List bl) (bC:af) (s:cQ),cH s (qZ (cS E call is bC s))
 |[],bC,s=>cH.refl s
 |i::r,bC,s=>by refine sG.trans (im fun _ s=> ?_);refine(sH hc i _ s).trans (im fun v s=> ?_);exact mC hc r _ s
theorem FP(hc:∀n l s,cH s (qZ (call n l s)))(f:et)(k from_:Int)(bC:af)(s:cQ):cH s (qZ (fi E call f k from_ bC s)):=by
 unfold fi;split
 ·exact cH.refl s
 ·refine(mC hc _ _ s).trans (im fun v s=>sG.trans (im fun _ s=> ?_));split
  ·exact cH.refl s
  split
  ·exact cH.refl s
  split
  ·exact cH.refl s
  ·exact cH.refl s
theorem vG{body:et→Int→Int→af→cQ→dp Int}(hb:∀f k from_ v s,cH s (qZ (body f k from_ v s)))(n:Int)(l:af)(s:cQ):cH s (qZ (fF E body n l s)):=by
 unfold fF;split
 ·exact cH.refl s
 split
 ·exact cH.refl s
 split
 ·exact cH.refl s
 split
 ·exact cH.refl s
 ·exact hb _ _ _ _ {s with opened:=s.opened+1}
theorem lP:∀(g:Nat) (f:et) (k from_:Int) (v:af) (s:cQ),cH s (qZ (iW E g f k from_ v s))
 |0,f,k,from_,v,s=>cH.refl s
 |g+1,f,k,from_,v,s=>by
  rw[lb];refine(FP (fun n l s=>vG (lP g) n l s) f k from_ v s).trans (im fun r s=> ?_);split
  ·exact⟨Int.le_refl _,[],(List.append_nil _).symm⟩
  ·exact lP g _ _ _ _ _
theorem lQ(g:Nat)(n:Int)(l:af)(s:cQ):cH s (qZ (cc E g n l s)):=vG (lP g) n l s
theorem IL{f:et}{k from_:Int}{bC:af}{s s':cQ}{r:Int×Int×af}(hc:∀n l s,cH s (qZ (call n l s)))(h:fi E call f k from_ bC s= .ok r s'):s.steps<s'.steps:=by
 unfold fi at h;split at h
 ·cases h
 rename_i x hx;have hi:=mC (E:=E) hc x.insts (gr x.au (eG (f.src k.toNat) from_) bC) s;cases h1:cS E call x.insts (gr x.au (eG (f.src k.toNat) from_) bC) s with
 |stop _ _ _=>rw[h1]at h;cases h
 |ok v s1=>
  rw[h1]at h hi;have l6:s.steps≤s1.steps:=hi.1;have h':((cT E s1).bind fun _ s=>if x.e=0 then .ok (x.a,0,v) s else if x.e=1 then .ok (if v.getD x.v.toNat 0≠0 then x.a else x.b,0,v) s else if x.e=3 then .stop 2 x.a s else .ok (-1,if x.v≥0 then v.getD x.v.toNat 0 else 0,v) s:dp (Int×Int×af))= .ok r s':=h;cases h2:cT E s1 with
  |stop _ _ _=>rw[h2]at h';cases h'
  |ok u s2=>
   rw[h2]at h';have:=BU h2;have e:s2=s':=by
    simp only[dp.bind]at h';split at h'
    ·injection h'
    split at h'
    ·injection h'
    split at h'
    ·cases h'
    ·injection h'
   rw[←e];omega
theorem sJ(g:Nat):∀(l:List aV) (s:cQ),cH s (qZ (gW E g l s))
 |[],s=>cH.refl s
 |b::r,s=>by
  unfold gW;split
  ·exact cH.refl s
  ·exact(lQ g _ _ s).trans (im fun _ s=>sJ g r s)
end
end Go.Mor
namespace Go.Mor
open Go.RowKit
structure xx(s s':cQ):Prop where
 mem:s'.mem=s.mem
 next:s'.next=s.next
 pos:s'.pos=s.pos
 out:s'.out=s.out
 opn:s'.opened=s.opened
 st:s'.steps≤s.steps
def nz{α β:Type}(F:Int)(R:α→β→Prop)(r:dp α)(r':dp β):Prop:=match r with
 | .ok a t=>t.steps≤F→∃a' t',r'= .ok a' t'∧xx t t'∧R a a'
 | .stop k c t=>(k=1∨k=2)→t.steps≤F→∃t',r'= .stop k c t'∧xx t t'
section
variable {α β γ δ : Type} {F : Int} {R : α → β → Prop} {Q : γ → δ → Prop} {s s' : cQ}
theorem xx.refl(s:cQ):xx s s:=⟨rfl,rfl,rfl,rfl,rfl,Int.le_refl _⟩
theorem nz.ok{a:α}{b:β}(h:xx s s')(hr:R a b):nz F R (.ok a s) (.ok b s'):=fun _=>⟨b,s',rfl,h,hr⟩
theorem nz.stop{k c:Int}(h:xx s s'):nz F R (.stop k c s) (.stop k c s'):=fun _ _=>⟨s',rfl,h⟩
theorem nz.off{k c:Int}{r':dp β}(h:¬(k=1∨k=2)):nz F R (.stop k c s) r':=fun e _=>absurd e h
theorem nz.UT{r:dp α}{r':dp β}(h:¬(qZ r).steps≤F):nz F R r r':=by
 cases r with
 |ok a t=>exact fun e=>absurd e h
 |stop k c t=>exact fun _ e=>absurd e h
theorem nz.Qfi{r:dp α}{r':dp β}(h:(qZ r).steps≤F→nz F R r r'):nz F R r r':=by
 by_cases e:(qZ r).steps≤F
 ·exact h e
 ·exact .UT e
theorem nz.bind{r:dp α}{r':dp β}{f:α→cQ→dp γ}{f':β→cQ→dp δ}(h:nz F R r r')(hl:∀a s,cH s (qZ (f a s)))(hf:∀a t a' t',r= .ok a t→r'= .ok a' t'→xx t t'→R a a'→t.steps≤F→nz F Q (f a t) (f' a' t')):nz F Q (r.bind f) (r'.bind f'):=by
 cases r with
 |ok a t=>
  refine .Qfi fun hn=> ?_
  have ht:t.steps≤F:=Int.le_trans (hl a t).1 hn;obtain⟨a',t',rfl,h2,h3⟩:=h ht;exact hf a t a' t' rfl rfl h2 h3 ht
 |stop k c t=>
  intro e hn;obtain⟨t',rfl,h2⟩:=h e hn;exact⟨t',rfl,h2⟩
end
section
variable {E E' : Env0} {F : Int} {s s' : cQ} {call kE : Int → List Int → cQ → dp Int}
theorem xx.up(h:xx s s'):xx {s with steps:=s.steps+1} {s' with steps:=s'.steps+1}:=⟨h.mem,h.next,h.pos,h.out,h.opn,by show s'.steps+1≤s.steps+1;have:=h.st;omega⟩
theorem xx.one(h:xx s s'):xx {s with steps:=s.steps+1} s':=⟨h.mem,h.next,h.pos,h.out,h.opn,by show s'.steps≤s.steps+1;have:=h.st;omega⟩
theorem KS(h:xx s s'):nz E'.fuel (fun _ _=>True) (cT E s) (cT E' s'):=by
 by_cases h1:s.steps=E.fuel
 ·rw[KC h1];exact .off dQ
 ·rw[yj h1];intro hn;have hn:s.steps+1≤E'.fuel:=hn;have:=h.st;rw[yj oM];exact⟨(),_,rfl,h.up,trivial⟩
theorem WS{α β:Type}{Q:α→β→Prop}{f:Unit→cQ→dp α}{r':dp β}(hf:nz F Q (f () {s with steps:=s.steps+1}) r'):nz F Q ((cT E s).bind f) r':=by
 by_cases h1:s.steps=E.fuel
 ·rw[KC h1];exact .off dQ
 ·rw[yj h1];exact hf
structure rP(E E':Env0):Prop where
 names:E'.names=E.names
 data:E'.data=E.data
 inp:E'.inp=E.inp
 bR:E'.bR=E.bR
 len:E'.fns.length=E.fns.length
theorem Qae{α β:Type}{Q:α→β→Prop}{n:Int}(h:xx s s'){f:Nat→cQ→dp α}{f':Nat→cQ→dp β}(hf:∀k,nz F Q (f k s) (f' k s')):nz F Q ((uy n s).bind f) ((uy n s').bind f'):=by
 by_cases h1:n<1∨n≥s.next
 ·rw[KB h1];exact .off dQ
 ·rw[Qc h1,Qc (by rw[h.next];exact h1)];exact hf _
theorem WT(hE:rP E E')(h:xx s s'){i:bl}{l:af}(hc:∀n l,nz F Eq (call n l s) (kE n l s')):nz F Eq (bV E call i l s) (bV E' kE i l s'):=by
 by_cases h1:i.op=1
 ·rw[qa h1,qa h1];exact .ok h rfl
 by_cases h2:i.op=2
 ·rw[qb h2,qb h2];exact Qae h fun k=> .ok h (by rw[h.mem])
 by_cases h3:i.op=3
 ·rw[qd h3,qd h3];exact Qae h fun k=> .ok ⟨by show s'.mem.set _ _=s.mem.set _ _;rw[h.mem],h.next,h.pos,h.out,h.opn,h.st⟩ rfl
 by_cases h4:i.op=4
 ·rw[sm h4,sm h4,hE.names];cases fh E.names i.name with
  |none=>exact .off dQ
  |some n=>exact hc _ _
 by_cases h5:i.op=5
 ·rw[sn h5,sn h5];exact hc _ _
 by_cases h6:i.op=6
 ·rw[ox h6,ox h6,hE.data];cases fh E.data i.name with
  |none=>exact .off dQ
  |some n=>exact .ok h rfl
 by_cases h7:i.op=7
 ·rw[oy h7,oy h7,hE.names];cases fh E.names i.name with
  |none=>exact .off dQ
  |some n=>exact .ok h rfl
 by_cases h8:i.op=8
 ·rw[sq h8,sq h8,hE.bR,h.next];by_cases c1:a0 l<0
  ·rw[if_pos c1];exact .off dQ
  rw[if_neg c1,if_neg c1];by_cases c2:a0 l>(E.bR:Int)-s.next
  ·rw[if_pos c2];exact .off dQ
  ·rw[if_neg c2,if_neg c2];exact .ok ⟨h.mem,rfl,h.pos,h.out,h.opn,h.st⟩ rfl
 by_cases h9:i.op=9
 ·rw[sr h9,sr h9,hE.inp,h.pos];by_cases c1:s.pos<E.inp.length
  ·rw[if_pos c1,if_pos c1];exact .ok ⟨h.mem,h.next,rfl,h.out,h.opn,h.st⟩ rfl
  ·rw[if_neg c1,if_neg c1];exact .ok h rfl
 by_cases xm:i.op=10
 ·rw[oz xm,oz xm,h.out];by_cases c1:s.out.length<4096
  ·rw[if_pos c1,if_pos c1];exact .ok ⟨h.mem,h.next,h.pos,rfl,h.opn,h.st⟩ rfl
  ·rw[if_neg c1,if_neg c1];exact .ok h rfl
 by_cases Hy:i.op=11
 ·rw[mr Hy,mr Hy];by_cases c1:a0 l=0
  ·rw[if_pos c1,if_pos c1];exact .stop h
  ·rw[if_neg c1,if_neg c1];exact .ok h rfl
 by_cases Ky:i.op=12
 ·rw[mu Ky,mu Ky];exact .ok h rfl
 by_cases O2:i.op≥40
 ·rw[mv O2,mv O2];exact .ok h rfl
 rw[kB oM oM,kB oM oM];by_cases c1:(cA (i.op-16) (a0 l) (a1 l)).2=0
 ·rw[if_pos c1,if_pos c1];exact .ok h rfl
 ·rw[if_neg c1,if_neg c1];exact .stop h
def Qaf(E E':Env0)(f f':et)(Inv:Int→Int→Int→Int→af→af→Prop):Prop:=∀(call kE:Int→af→cQ→dp Int) (k k' fr Ve:Int) (v v':af) (s s':cQ),Inv k k' fr Ve v v'→xx s s'→(∀n l s,cH s (qZ (call n l s)))→(∀n l s,cH s (qZ (kE n l s)))→(∀n l t t',s'.steps<t'.steps→xx t t'→t.steps≤E'.fuel→nz E'.fuel Eq (call n l t) (kE n l t'))→nz E'.fuel (fun r r'=>(r.1<0↔r'.1<0)∧(r.1<0→r.2.1=r'.2.1)∧(¬r.1<0→Inv r.1 r'.1 k k' r.2.2 r'.2.2)) (fi E call f k fr v s) (fi E' kE f' k' Ve v' s')
structure FQ(E E':Env0)(f f':et)(Inv:Int→Int→Int→Int→af→af→Prop):Prop where
 pa:f'.pa=f.pa
 va:f'.va=f.va
 start:∀l:af,(l.length:Int)=f.pa→Inv 0 0 (-1) (-1) (l++List.replicate (f.va.toNat-l.length) 0) (l++List.replicate (f.va.toNat-l.length) 0)
 step:Qaf E E' f f' Inv
def yO(E E':Env0):Prop:=∀(i:Nat) (f f':et),E.fns[i]?=some f→E'.fns[i]?=some f'→∃Inv,FQ E E' f f' Inv
theorem FR(hE:rP E E')(hS:yO E E'){body Qag:et→Int→Int→af→cQ→dp Int}{n:Int}{l:af}(h:xx s s')(hb:∀f f' Inv v v' t t',FQ E E' f f' Inv→Inv 0 0 (-1) (-1) v v'→xx t t'→t'.steps=s'.steps→nz F Eq (body f 0 (-1) v t) (Qag f' 0 (-1) v' t')):nz F Eq (fF E body n l s) (fF E' Qag n l s'):=by
 by_cases h1:n<1∨n≥(E.fns.length:Int)+1
 ·rw[lk h1];exact .off dQ
 obtain⟨f,hf⟩:=aM (l:=E.fns) (i:=(n-1).toNat) oM;obtain⟨f',hf'⟩:=aM (l:=E'.fns) (i:=(n-1).toNat) (by rw[hE.len];omega);rw[ql h1 hf,ql (by rw[hE.len];exact h1) hf'];obtain⟨Inv,hI⟩:=hS _ _ _ hf hf';by_cases h2:(l.length:Int)≠f.pa
 ·rw[if_pos h2];exact .off dQ
 rw[if_neg h2,hI.pa,if_neg h2];by_cases h3:s.opened=1200
 ·rw[if_pos h3];exact .off dQ
 rw[if_neg h3,h.opn,if_neg h3,hI.va];exact hb f f' Inv _ _ _ _ hI (hI.start l (Classical.not_not.1 h2)) ⟨h.mem,h.next,h.pos,h.out,rfl,h.st⟩ rfl
theorem DK(hE:rP E E')(hS:yO E E'):∀(g g':Nat) (f f':et) (Inv:Int→Int→Int→Int→af→af→Prop) (k k' fr Ve:Int) (v v':af) (s s':cQ),FQ E E' f f' Inv→Inv k k' fr Ve v v'→xx s s'→E'.fuel-s'.steps<(g':Int)→nz E'.fuel Eq (iW E g f k fr v s) (iW E' g' f' k' Ve v' s')
 |0,_,_,_,_,_,_,_,_,_,_,_,_,_,_,_,_=> .off dQ
 |g+1,0,f,f',Inv,k,k',fr,Ve,v,v',s,s',_,_,ha,hg=> .Qfi fun hn=>by have h1:=(lP (E:=E) (g+1) f k fr v s).1;have h2:=ha.st;omega
 |g+1,g'+1,f,f',Inv,k,k',fr,Ve,v,v',s,s',hf,hi,ha,hg=>by
  rw[lb,lb];have Qfj:∀(r:Int×Int×af) (s:cQ),cH s (qZ (if r.1<0 then .ok r.2.1 {s with opened:=s.opened-1}else iW E g f r.1 k r.2.2 s)):=fun r s=>by
   split
   ·exact⟨Int.le_refl _,[],(List.append_nil _).symm⟩
   ·exact lP g _ _ _ _ _
  refine nz.bind (hf.step _ _ k k' fr Ve v v' s s' hi ha (lQ g) (lQ g') fun n l t t' h1 h2 _=> ?_) Qfj fun r t r' t' _ h2 h3 h4 _=> ?_
  ·exact FR hE hS h2 fun f f' Inv v v' u u' hf hi hu e=>DK hE hS g g' f f' Inv 0 0 (-1) (-1) v v' u u' hf hi hu oM
  ·obtain⟨h5,h6,h7⟩:=h4;have h8:=IL (lQ g') h2;by_cases h9:r.1<0
   ·rw[if_pos h9,if_pos (h5.1 h9)];exact .ok ⟨h3.mem,h3.next,h3.pos,h3.out,by show t'.opened-1=t.opened-1;rw[h3.opn],h3.st⟩ (h6 h9)
   ·rw[if_neg h9,if_neg (fun e=>h9 (h5.2 e))];exact DK hE hS g g' f f' Inv _ _ _ _ _ _ t t' hf (h7 h9) h3 oM
theorem KT(hE:rP E E')(hS:yO E E')(g g':Nat):∀(l:List aV) (s s':cQ),xx s s'→0≤s'.steps→E'.fuel<(g':Int)→nz E'.fuel (fun _ _=>True) (gW E g l s) (gW E' g' l s')
 |[],s,s',h,_,_=> .ok h trivial
 |b::r,s,s',h,h0,hg=>by
  show nz E'.fuel _ (match fh E.names b with|none=> .stop 5 0 s|some n=>(cc E g n [] s).bind fun _ s=>gW E g r s) (match fh E'.names b with|none=> .stop 5 0 s'|some n=>(cc E' g' n [] s').bind fun _ s=>gW E' g' r s);rw[hE.names];cases fh E.names b with
  |none=>exact .off dQ
  |some n=>
   refine nz.bind (R:=Eq) (FR hE hS h fun f f' Inv v v' t t' hf hi ht e=>DK hE hS g g' f f' Inv 0 0 (-1) (-1) v v' t t' hf hi ht oM) (fun _ s=>sJ g r s) fun a t a' t' _ h2 h3 _ _=> ?_
   have:=FO (lQ g' n [] s') h2;exact KT hE hS g g' r t t' h3 oM hg
theorem Q4(hE:rP E E')(hS:yO E E')(h0:0≤E'.fuel)(cs:List bE)(l:List aV):nz E'.fuel (fun _ _=>True) (ld E cs l) (ld E' cs l):=by
 unfold ld;rw[hE.bR,hE.names,hE.data];split
 ·exact KT hE hS _ _ l _ _ (.refl _) (Int.le_refl _) oM
 ·exact .off dQ
end
section
variable {E : Env0} {call : Int → List Int → cQ → dp Int}
def FT{α:Type}(F:Int)(r:dp α):Prop:=(qZ r).steps≤F
theorem FT.bind{α β:Type}{F:Int}{r:dp α}{f:α→cQ→dp β}(h:FT F r)(hf:∀a s,s.steps≤F→FT F (f a s)):FT F (r.bind f):=by
 cases r with
 |ok a s=>exact hf a s h
 |stop k c s=>exact h
theorem le_step{s:cQ}(h:s.steps≤E.fuel):FT E.fuel (cT E s):=by
 unfold cT;split
 ·exact h
 ·show s.steps+1≤E.fuel;omega
theorem Qah{α:Type}{F n:Int}{s:cQ}(h:s.steps≤F){f:Nat→cQ→dp α}(hf:∀k,FT F (f k s)):FT F ((uy n s).bind f):=by
 unfold uy;split
 ·exact h
 ·exact hf _
theorem WU{F:Int}(hc:∀n l s,s.steps≤F→FT F (call n l s))(i:bl)(l:af){s:cQ}(h:s.steps≤F):FT F (bV E call i l s):=by
 by_cases h1:i.op=1
 ·rw[qa h1];exact h
 by_cases h2:i.op=2
 ·rw[qb h2];exact Qah h fun _=>h
 by_cases h3:i.op=3
 ·rw[qd h3];exact Qah h fun _=>h
 by_cases h4:i.op=4
 ·rw[sm h4];cases fh E.names i.name with
  |none=>exact h
  |some n=>exact hc _ _ _ h
 by_cases h5:i.op=5
 ·rw[sn h5];exact hc _ _ _ h
 by_cases h6:i.op=6
 ·rw[ox h6];cases fh E.data i.name<;>exact h
 by_cases h7:i.op=7
 ·rw[oy h7];cases fh E.names i.name<;>exact h
 by_cases h8:i.op=8
 ·rw[sq h8];by_cases c1:a0 l<0
  ·rw[if_pos c1];exact h
  rw[if_neg c1];by_cases c2:a0 l>(E.bR:Int)-s.next
  ·rw[if_pos c2];exact h
  ·rw[if_neg c2];exact h
 by_cases h9:i.op=9
 ·rw[sr h9];by_cases c1:s.pos<E.inp.length
  ·rw[if_pos c1];exact h
  ·rw[if_neg c1];exact h
 by_cases xm:i.op=10
 ·rw[oz xm];by_cases c1:s.out.length<4096
  ·rw[if_pos c1];exact h
  ·rw[if_neg c1];exact h
 by_cases Hy:i.op=11
 ·rw[mr Hy];by_cases c1:a0 l=0
  ·rw[if_pos c1];exact h
  ·rw[if_neg c1];exact h
 by_cases Ky:i.op=12
 ·rw[mu Ky];exact h
 by_cases O2:i.op≥40
 ·rw[mv O2];exact h
 rw[kB oM oM];by_cases c1:(cA (i.op-16) (a0 l) (a1 l)).2=0
 ·rw[if_pos c1];exact h
 ·rw[if_neg c1];exact h
theorem FU(hc:∀n l s,s.steps≤E.fuel→FT E.fuel (call n l s)):∀(is:List bl) (v:af) (s:cQ),s.steps≤E.fuel→FT E.fuel (cS E call is v s)
 |[],_,_,h=>h
 |i::r,v,s,h=>(le_step h).bind fun _ _ h1=>(WU hc i _ h1).bind fun _ _ h2=>FU hc r _ _ h2
theorem Q5(hc:∀n l s,s.steps≤E.fuel→FT E.fuel (call n l s))(f:et)(k fr:Int)(v:af){s:cQ}(h:s.steps≤E.fuel):FT E.fuel (fi E call f k fr v s):=by
 unfold fi;split
 ·exact h
 ·refine(FU hc _ _ s h).bind fun v s h=>(le_step h).bind fun _ s h=> ?_
  repeat' split
  all_goals exact h
theorem FV{body:et→Int→Int→af→cQ→dp Int}(hb:∀f k fr v s,s.steps≤E.fuel→FT E.fuel (body f k fr v s))(n:Int)(l:af)(s:cQ)(h:s.steps≤E.fuel):FT E.fuel (fF E body n l s):=by
 unfold fF;split
 ·exact h
 split
 ·exact h
 split
 ·exact h
 split
 ·exact h
 ·exact hb _ _ _ _ _ h
theorem DL:∀(g:Nat) (f:et) (k fr:Int) (v:af) (s:cQ),s.steps≤E.fuel→FT E.fuel (iW E g f k fr v s)
 |0,_,_,_,_,_,h=>h
 |g+1,f,k,fr,v,s,h=>by
  rw[lb];refine(Q5 (fun n l s h=>FV (DL g) n l s h) f k fr v h).bind fun r s h=> ?_
  split
  ·exact h
  ·exact DL g _ _ _ _ _ h
theorem KU(g:Nat):∀(l:List aV) (s:cQ),s.steps≤E.fuel→FT E.fuel (gW E g l s)
 |[],_,h=>h
 |b::r,s,h=>by
  unfold gW;split
  ·exact h
  ·exact(FV (DL g) _ _ _ h).bind fun _ s h=>KU g r s h
theorem Qb4(h0:0≤E.fuel)(cs:List bE)(l:List aV):0≤(qZ (ld E cs l)).steps∧(qZ (ld E cs l)).steps≤E.fuel:=by
 unfold ld;split
 ·exact⟨(sJ _ l _).1,KU _ l _ h0⟩
 ·exact⟨Int.le_refl _,h0⟩
end
end Go.Mor
namespace Go.Mor
open Go.RowKit
def VQ(pa va:Int)(fs:List aE):Prop:=(∀x,x∈fs→∀p,p∈x.insts→bQ p)∧eO pa va (bO fs)
def kF(fs:List aE)(k:Nat):Prop:=∀(i:Nat) (x:aE),i<k→fs[i]?=some x→∀p,p∈x.insts→bQ p
def nB(x:aE)(j:Nat):Prop:=∀(i:Nat) (p:bl),i<j→x.insts[i]?=some p→bQ p
theorem kF.next{fs:List aE}{k:Nat}{x:aE}(h:kF fs k)(hx:fs[k]?=some x)(hi:nB x x.insts.length):kF fs (k+1):=by
 intro i y hik hy p hp;rcases Nat.lt_or_ge i k with h1|h1
 ·exact h i y h1 hy p hp
 ·have:i=k:=oM;subst this;rw[hx]at hy;injection hy with hy;subst hy;obtain⟨j,hj⟩:=List.mem_iff_getElem?.1 hp;exact hi j p (List.getElem?_eq_some_iff.1 hj).1 hj
theorem nB.next{x:aE}{j:Nat}{p:bl}(h:nB x j)(hp:x.insts[j]?=some p)(hs:bQ p):nB x (j+1):=by
 intro i q LY hq;rcases Nat.lt_or_ge i j with h1|h1
 ·exact h i q h1 hq
 ·have:i=j:=oM;subst this;rw[hp]at hq;injection hq with hq;exact hq▸hs
theorem kF.all{fs:List aE}(h:kF fs fs.length):∀x,x∈fs→∀p,p∈x.insts→bQ p:=by
 intro x hx;obtain⟨i,hi⟩:=List.mem_iff_getElem?.1 hx;exact h i x (List.getElem?_eq_some_iff.1 hi).1 hi
theorem yP{fs:List aE}(k:Nat):∀n,k≤n→n≤fs.length→∃es,dz fs n=dz fs k++es:=by
 intro n;induction n with
 |zero=>intro h _;exact⟨[],by rw[Nat.le_zero.1 h];simp⟩
 |succ n ih=>
  intro h hn;rcases Nat.lt_or_ge n k with h1|h1
  ·have:k=n+1:=oM;subst this;exact⟨[],sI⟩
  ·obtain⟨es,he⟩:=ih h1 oM;obtain⟨x,hx⟩:=aM (l:=fs) (i:=n) oM;exact⟨es++eZ n x,by rw[ie hx,he,List.append_assoc]⟩
theorem WV(b:Int)(l:List bZ)(j:Nat):∃es,cW b l=cW b (l.take j)++es:=⟨cW b (l.drop j),by unfold cW;rw[←List.map_append,List.take_append_drop]⟩
theorem WW(b:Int)(l:List bl)(j:Nat):∃es,dv b l=dv b (l.take j)++es:=by
 have e:l.zipIdx=(l.take j).zipIdx++(l.drop j).zipIdx (0+(l.take j).length):=by rw[←List.zipIdx_append,List.take_append_drop]
 refine⟨(((l.drop j).zipIdx (0+(l.take j).length)).filter (fun x=>decide (aK x.1.op))).map (fun x=>(x.1.dst,b,(x.2:Int))),?_⟩;unfold dv;rw[e,List.filter_append,List.map_append]
theorem FW{fs:List aE}{pa va:Int}{k:Nat}{x:aE}(hx:fs[k]?=some x)(j:Nat)(h:eO pa va (bO fs)):eO pa va (dz fs k++cW k (x.au.take j)):=by
 have hk:=(List.getElem?_eq_some_iff.1 hx).1;obtain⟨es,he⟩:=yP (fs:=fs) (k+1) fs.length hk (Nat.le_refl _);obtain⟨e2,h2⟩:=WV k x.au j;have:bO fs=(dz fs k++cW k (x.au.take j))++(e2++dv k x.insts++es):=by unfold bO;rw[he,ie hx,eZ,h2];simp only[List.append_assoc]
 rw[this]at h;exact h.pre
theorem FX{fs:List aE}{pa va:Int}{k:Nat}{x:aE}(hx:fs[k]?=some x)(j:Nat)(h:eO pa va (bO fs)):eO pa va (dz fs k++cW k x.au++dv k (x.insts.take j)):=by
 have hk:=(List.getElem?_eq_some_iff.1 hx).1;obtain⟨es,he⟩:=yP (fs:=fs) (k+1) fs.length hk (Nat.le_refl _);obtain⟨e2,h2⟩:=WW k x.insts j;have:bO fs=(dz fs k++cW k x.au++dv k (x.insts.take j))++(e2++es):=by unfold bO;rw[he,ie hx,eZ,h2];simp only[List.append_assoc]
 rw[this]at h;exact h.pre
structure Enc(lo pa:Int)(n:Nat)(base:Nat→Int×Int)(enc:Int×Int→Int×Int):Prop where
 base:∀v:Nat,v<n→lo≤(v:Int)→((base v).1<0↔pa≤(v:Int))
 enc:∀p,0≤p.1→0≤(enc p).1
def NonNeg(ds:tz):Prop:=∀d,d∈ds→0≤d.2.1
theorem Q6{pa lo hi:Int}{n:Nat}{base:Nat→Int×Int}{enc:Int×Int→Int×Int}{ds:tz}{l:List (Int×Int)}(h:Bn n base enc ds l)(he:Enc lo pa n base enc)(hd:NonNeg ds)(h0:0≤lo)(h1:lo≤pa)(hn:hi=(n:Int))(v:Int):kz lo hi l v↔(pa≤v∧v<hi)∧v∉ds.map (·.1):=by
 unfold kz;constructor
 ·rintro⟨⟨a,b⟩,c⟩;have hv:l[v.toNat]?=some (match findD ds (v.toNat:Int)with|some p=>enc p|none=>base v.toNat):=h.at_ v.toNat oM;have ev:(v.toNat:Int)=v:=oM;rw[ev]at hv;have hg:l.getD v.toNat (0,0)=(match findD ds v with|some p=>enc p|none=>base v.toNat):=by simp[List.getD,hv]
  rw[hg]at c;by_cases hm:v∈ds.map (·.1)
  ·obtain⟨p,hp,pv⟩:=ig hm;rw[hp]at c;have:=he.enc p (hd _ pv);simp only at c;omega
  ·rw[gy hm]at c;have:=(he.base v.toNat oM oM).1 c;exact⟨⟨oM,b⟩,hm⟩
 ·rintro⟨⟨a,b⟩,hm⟩;have hv:l[v.toNat]?=some (match findD ds (v.toNat:Int)with|some p=>enc p|none=>base v.toNat):=h.at_ v.toNat oM;have ev:(v.toNat:Int)=v:=oM;rw[ev,gy hm]at hv;have hg:l.getD v.toNat (0,0)=base v.toNat:=by simp[List.getD,hv]
  rw[hg];exact⟨⟨oM,b⟩,(he.base v.toNat oM oM).2 oM⟩
theorem lR(fs:List aE)(k j:Nat)(l:List bZ):NonNeg (dz fs k++cW k (l.take j)):=by
 intro d hd;rcases List.mem_append.1 hd with hd|hd
 ·exact(tA hd).1
 ·unfold cW at hd;obtain⟨p,_,rfl⟩:=List.mem_map.1 hd;exact Int.natCast_nonneg _
theorem yQ(fs:List aE)(k j:Nat)(l:List bZ)(m:List bl):NonNeg (dz fs k++cW k l++dv k (m.take j)):=by
 intro d hd;rcases List.mem_append.1 hd with hd|hd
 ·have:=lR fs k l.length l d (by rw[List.take_length];exact hd);exact this
 ·unfold dv at hd;obtain⟨p,_,rfl⟩:=List.mem_map.1 hd;exact Int.natCast_nonneg _
theorem ll{pa lo hi:Int}{n:Nat}{base:Nat→Int×Int}{enc:Int×Int→Int×Int}{ds:tz}{l:List (Int×Int)}(h:Bn n base enc ds l)(he:Enc lo pa n base enc)(hd:NonNeg ds)(h0:0≤lo)(h1:lo≤pa)(hn:hi=(n:Int))(ho:eO pa hi ds)(v b k:Int):(kz lo hi l v→Bn n base enc (ds++[(v,b,k)]) (l.set v.toNat (enc (b,k)))∧eO pa hi (ds++[(v,b,k)]))∧(¬kz lo hi l v→¬eO pa hi (ds++[(v,b,k)])):=by
 have key:=Q6 h he hd h0 h1 hn v;constructor
 ·intro hp;obtain⟨h2,h3⟩:=key.1 hp;exact⟨h.put oM oM h3,eO.snoc.2 ⟨ho,h2,h3⟩⟩
 ·intro hp hq;obtain⟨_,h2,h3⟩:=eO.snoc.1 hq;exact hp (key.2 ⟨h2,h3⟩)
def mD(n k:Nat):List (Int×Int):=List.replicate k (-1,0)++List.replicate (n-k) (0,0)
theorem IM(n:Nat):mD n 0=List.replicate n (0,0):=by simp[mD]
theorem Qep{n k:Nat}(h:k≤n):(mD n k).length=n:=by simp[mD];omega
theorem My{n k:Nat}(h:k<n):(mD n k)[k]?=some (0,0):=by
 unfold mD;rw[List.getElem?_append_right sI,List.length_replicate,Nat.sub_self,show n-k=(n-(k+1))+1 by omega];rfl
theorem IP{n k:Nat}(h:k<n):(mD n k).set k (-1,0)=mD n (k+1):=by
 unfold mD;rw[List.set_append_right _ _ sI,List.replicate_succ',List.append_assoc];congr 1;rw[List.length_replicate,Nat.sub_self,show n-k=(n-(k+1))+1 by omega,List.replicate_succ];rfl
theorem Mz(n:Nat):Bn n (fun _=>(-1,0)) (fun p=>(p.1,p.2+1)) [] (mD n n)where
 len:=by simp[mD]
 at_:=fun v hv=>by have:findD [] (v:Int)=none:=rfl;rw[this];simp[mD,hv]
theorem WX(pa:Int)(n:Nat):Enc pa pa n (fun _=>(-1,0)) (fun p=>(p.1,p.2+1)):=⟨fun _ _ h=>⟨fun _=>h,fun _=>dQ⟩,fun p h=>h⟩
end Go.Mor
namespace Go.Mor
open Go.RowKit
def jK(pa:Int)(v:Nat):Int×Int:=if(v:Int)<pa then(0,-2)else(-1,0)
def iX(pa:Int)(n k:Nat):List (Int×Int):=(List.range k).map (jK pa)++List.replicate (n-k) (0,0)
theorem IQ(pa:Int)(n:Nat):iX pa n 0=List.replicate n (0,0):=by simp[iX]
theorem MA{pa:Int}{n k:Nat}(h:k≤n):(iX pa n k).length=n:=by simp[iX];omega
theorem MB{pa:Int}{n k:Nat}(h:k<n):(iX pa n k)[k]?=some (0,0):=by
 unfold iX;rw[List.getElem?_append_right sI,List.length_map,List.length_range,Nat.sub_self,show n-k=(n-(k+1))+1 by omega];rfl
theorem BV{pa:Int}{n k:Nat}{p:Int×Int}(h:k<n)(hp:jK pa k=p):(iX pa n k).set k p=iX pa n (k+1):=by
 unfold iX;rw[List.set_append_right _ _ sI,List.range_succ,List.map_append,List.append_assoc];congr 1;rw[List.length_map,List.length_range,Nat.sub_self,show n-k=(n-(k+1))+1 by omega,List.replicate_succ,←hp];rfl
theorem Q7{pa:Int}{n k:Nat}(h:k<n)(hp:¬(k:Int)<pa):(iX pa n k).set k (-1,0)=iX pa n (k+1):=BV h (by simp[jK,hp])
theorem MC{pa:Int}{n k:Nat}(h:k<n)(hp:(k:Int)<pa):((iX pa n k).set k (-1,0)).set k (0,-2)=iX pa n (k+1):=by
 rw[List.set_set];exact BV h (by simp[jK,hp])
theorem MD(pa:Int)(n:Nat):Bn n (jK pa) (fun p=>p) [] (iX pa n n)where
 len:=by simp[iX]
 at_:=fun v hv=>by have:findD [] (v:Int)=none:=rfl;rw[this];simp[iX,hv]
theorem WY(pa:Int)(n:Nat):Enc 0 pa n (jK pa) (fun p=>p):=⟨fun v _ _=>by unfold jK;split<;>simp<;>omega,fun p h=>h⟩
end Go.Mor
namespace Go.Mor
open Go.RowKit
abbrev mW:=List (Int×Nat×Nat)
mutual
inductive Az(K:Int→af):Int→Nat→Nat→mW→Prop
 |mk {b:Int} {n m:Nat} {r:mW}:gD K (K b) (n+1) m r→Az K b n (m+1) (r++[(b,n+1,m+1)])
inductive gD(K:Int→af):af→Nat→Nat→mW→Prop
 |nil {n:Nat}:gD K [] n n []
 |snoc {l:af} {c:Int} {n m p:Nat} {r s:mW}:gD K l n m r→Az K c m p s→gD K (l++[c]) n p (r++s)
end
structure TreeU(K:Int→af)(pl up:Int→Int):Prop where
 Q8:∀b c,c∈K b→up c=b∧c≠0∧pl b<pl c
 ME:∀b,(K b).Nodup
section
variable {K : Int → List Int} {pl up : Int → Int}
theorem TreeU.Iu(h:TreeU K pl up){b c:Int}(hc:c∈K b):hU up c b:= .step (h.Q8 b c hc).2.1 (by rw[(h.Q8 b c hc).1];exact .refl _)
mutual
theorem Az.facts(h:TreeU K pl up){b:Int}{n m:Nat}{r:mW}:Az K b n m r→(∀x i o,(x,i,o)∈r→hU up x b∧n<i∧i<o∧o≤m)∧n<m
 | .mk (m:=m) hl=>by
  have ih:=gD.facts h hl;constructor
  ·intro x i o hx;rcases List.mem_append.1 hx with hx|hx
   ·obtain⟨⟨c,hc,ha⟩,h1,h2,h3⟩:=ih.1 x i o hx;exact⟨ha.trans (h.Iu hc),oM,h2,oM⟩
   ·simp only[List.mem_singleton,Prod.mk.injEq]at hx;obtain⟨rfl,rfl,rfl⟩:=hx;have:=ih.2;exact⟨.refl _,oM,oM,oM⟩
  ·have:=ih.2;omega
theorem gD.facts(h:TreeU K pl up){l:af}{n m:Nat}{r:mW}:gD K l n m r→(∀x i o,(x,i,o)∈r→(∃c,c∈l∧hU up x c)∧n<i∧i<o∧o≤m)∧n≤m
 | .nil=>⟨fun x i o hx=>by simp at hx,Nat.le_refl _⟩
 | .snoc (l:=l) (c:=c) (m:=m0) hl hv=>by
  have i1:=gD.facts h hl;have i2:=Az.facts h hv;refine⟨fun x i o hx=> ?_,by have:=i1.2;have:=i2.2;omega⟩;rcases List.mem_append.1 hx with hx|hx
  ·obtain⟨⟨c',hc,ha⟩,h1,h2,h3⟩:=i1.1 x i o hx;have:=i2.2;exact⟨⟨c',List.mem_append_left _ hc,ha⟩,h1,h2,oM⟩
  ·obtain⟨ha,h1,h2,h3⟩:=i2.1 x i o hx;have:=i1.2;exact⟨⟨c,sI,ha⟩,oM,h2,h3⟩
end
theorem hU.chain{x a b:Int}(ha:hU up x a)(hb:hU up x b):hU up a b∨hU up b a:=by
 induction ha with
 |refl=>exact .inl hb
 | @step x d dt h ih=>
  cases hb with
  |refl=>exact .inr (.step dt h)
  |step _ hb=>exact ih hb
theorem TreeU.sub(h:TreeU K pl up){b c c' y:Int}(hc:c∈K b)(ta:c'∈K b)(hp:∀x d,hU up x d→0≤pl x→pl d≤pl x)(hb:0≤pl b)(h1:hU up y c)(h2:hU up y c'):c=c':=by
 have key:∀c c',c∈K b→c'∈K b→hU up c c'→c=c':=by
  intro c c' hc ta ha;cases ha with
  |refl=>rfl
  |step dt ha=>
   rw[(h.Q8 b c hc).1]at ha;have:=hp _ _ ha hb;have:=(h.Q8 b c' ta).2.2;omega
 rcases hU.chain h1 h2 with h3|h3
 ·exact key c c' hc ta h3
 ·exact(key c' c ta hc h3).symm
structure mE(K:Int→af)(pl up:Int→Int):Prop extends TreeU K pl up where
 le:∀x d,hU up x d→0≤pl x→pl d≤pl x
 pos:∀b,0≤pl b→∀c,c∈K b→0≤pl c
 neg:∀x d,pl x<0→0≤pl d→¬hU up x d
mutual
theorem Az.hold(h:mE K pl up){b:Int}(hb:0≤pl b){n m:Nat}{r:mW}:Az K b n m r→∀x i o y i' o',(x,i,o)∈r→(y,i',o')∈r→((i≤i'∧o'≤o)↔hU up y x)
 | .mk (m:=m) (r:=r) hl=>by
  intro x i o y i' o' hx hy;have f:=gD.facts h.toTreeU hl;rcases List.mem_append.1 hx with x1|x1<;>rcases List.mem_append.1 hy with y1|y1
  ·exact gD.hold h hb (fun c hc=>hc) (h.ME b) hl x i o y i' o' x1 y1
  ·simp only[List.mem_singleton,Prod.mk.injEq]at y1;obtain⟨e1,e2,e3⟩:=y1;obtain⟨⟨c,hc,ha⟩,h1,h2,h3⟩:=f.1 x i o x1;constructor
   ·intro hh;omega
   ·intro hh;rw[e1]at hh;have h4:=(h.Q8 _ _ hc).2.2;have h5:=h.le _ _ hh hb;have h6:=h.pos b hb c hc;have h7:=h.le _ _ (hh.trans ha) hb;omega
  ·simp only[List.mem_singleton,Prod.mk.injEq]at x1;obtain⟨e1,e2,e3⟩:=x1;obtain⟨⟨c,hc,ha⟩,h1,h2,h3⟩:=f.1 y i' o' y1;rw[e1];exact⟨fun _=>ha.trans (h.Iu hc),fun _=>⟨by omega,by omega⟩⟩
  ·simp only[List.mem_singleton,Prod.mk.injEq]at x1 y1;obtain⟨e1,e2,e3⟩:=x1;obtain⟨e4,e5,e6⟩:=y1;rw[e1,e4];exact⟨fun _=> .refl _,fun _=>⟨by omega,by omega⟩⟩
theorem gD.hold(h:mE K pl up){b:Int}(hb:0≤pl b){l:af}(kv:∀c,c∈l→c∈K b)(HF:l.Nodup){n m:Nat}{r:mW}:gD K l n m r→(∀x i o y i' o',(x,i,o)∈r→(y,i',o')∈r→((i≤i'∧o'≤o)↔hU up y x))
 | .nil=>fun x i o y i' o' hx _=>by simp at hx
 | .snoc (l:=l) (c:=c) hl hv=>by
  have f1:=gD.facts h.toTreeU hl;have f2:=Az.facts h.toTreeU hv;have O3:=kv c (by simp);have QF:=h.pos b hb c O3;rw[List.nodup_append]at HF;have apart:∀y,hU up y c→∀c',c'∈l→¬hU up y c':=by intro y h1 c' ta h2;have:=h.sub O3 (kv c' (List.mem_append_left _ ta)) h.le hb h1 h2;exact HF.2.2 c' ta c (by simp) this.symm
  intro x i o y i' o' hx hy;rcases List.mem_append.1 hx with x1|x1<;>rcases List.mem_append.1 hy with y1|y1
  ·exact gD.hold h hb (fun c hc=>kv c (List.mem_append_left _ hc)) HF.1 hl x i o y i' o' x1 y1
  ·obtain⟨⟨c',ta,ha⟩,h1,h2,h3⟩:=f1.1 x i o x1;obtain⟨AX,h4,h5,h6⟩:=f2.1 y i' o' y1;constructor
   ·intro hh;omega
   ·intro hh;exact absurd (hh.trans ha) (apart y AX c' ta)
  ·obtain⟨⟨c',ta,ha⟩,h1,h2,h3⟩:=f1.1 y i' o' y1;obtain⟨AX,h4,h5,h6⟩:=f2.1 x i o x1;constructor
   ·intro hh;omega
   ·intro hh;exact absurd ha (apart y (hh.trans AX) c' ta)
  ·exact Az.hold h QF hv x i o y i' o' x1 y1
end
end
end Go.Mor
namespace Go.Mor
open Go.RowKit
def Qb5(bs:List SB)(k:Nat):Nat:=((List.range k).filter (fun i:Nat=>fJ bs (-1) (i:Int))).length
theorem yR{l:List Nat}(h:l.Nodup):(l.map (fun i:Nat=>(i:Int))).Nodup:=by
 rw[List.Nodup,List.pairwise_map];exact h.imp (fun h e=>h oM)
theorem WZ(bs:List SB):Qb5 bs bs.length=(aH bs).length:=by
 by_cases h0:bs.length=0
 ·unfold Qb5 aH;rw[if_pos h0,h0];rfl
 ·have ho:=nv (bs:=bs) oM;have hn:(((List.range bs.length).filter (fun i:Nat=>fJ bs (-1) (i:Int))).map (fun i:Nat=>(i:Int))).Nodup:=yR (List.nodup_range.sublist List.filter_sublist);have hp:=(List.perm_ext_iff_of_nodup ho.nodup hn).2 (fun x=>by
   rw[ho.mem x];constructor
   ·intro hx;obtain⟨h1,h2⟩:=ny oM hx;exact List.mem_map.2 ⟨x.toNat,List.mem_filter.2 ⟨List.mem_range.2 oM,by rw[Int.toNat_of_nonneg h1];exact j5.2 hx⟩,Int.toNat_of_nonneg h1⟩
   ·intro hx;obtain⟨i,hi,rfl⟩:=List.mem_map.1 hx;exact j5.1 (List.mem_filter.1 hi).2)
  rw[hp.length_eq,List.length_map];rfl
theorem BW{n:Nat}{l:af}{f:Int→Int}(h:cy n l f){x v:Int}(h0:0≤x)(h1:x<n)(e:f x=v):(ints l)[x.toNat]?=some (vI v):=by rw[←e];exact h.at_ h0 h1
end Go.Mor
namespace Go.Mor
open Go.RowKit
inductive Q9(K:Int→af):List (Int×Int)→Int→Nat→List (Int×Nat)→mW→Prop
 |nil:Q9 K [] 0 0 [] []
 |snoc {ws:List (Int×Int)} {b c:Int} {n0 n1 j:Nat} {op:List (Int×Nat)} {rs r:mW}:Q9 K ws b n0 op rs→gD K ((K b).take j) (n0+1) n1 r→(K b)[j]?=some c→
   Q9 K (ws++[(b,(j:Int)+1)]) c n1 (op++[(b,n0+1)]) (rs++r)
def KV(f:Int→Int)(op:List (Int×Nat))(rs:mW):Prop:=∀x:Int,(∀i:Nat,(x,i)∈op→f x=i)∧(∀i o:Nat,(x,i,o)∈rs→f x=i)∧((∀i:Nat,(x,i)∉op)→(∀i o:Nat,(x,i,o)∉rs)→f x=0)
def DM(g:Int→Int)(rs:mW):Prop:=∀x:Int,(∀i o:Nat,(x,i,o)∈rs→g x=o)∧((∀i o:Nat,(x,i,o)∉rs)→g x=0)
def AA(f:Int→Int)(b v:Int):Int→Int:=fun x=>if x=b then v else f x
section
variable {K : Int → List Int} {pl up : Int → Int}
theorem gD.len{l:af}{n m:Nat}{r:mW}(h:gD K l n m r):m=n+2*r.length:=by
 refine gD.rec (motive_1:=fun _ n m r _=>m=n+2*r.length) (motive_2:=fun _ n m r _=>m=n+2*r.length) ?_ ?_ ?_ h
 ·intro b n m r _ ih;simp only[List.length_append,List.length_cons,List.length_nil];omega
 ·intro n;simp
 ·intro l c n m p r s _ _ i1 i2;simp only[List.length_append];omega
mutual
theorem Az.ME(h:mE K pl up){b:Int}(hb:0≤pl b){n m:Nat}{r:mW}:Az K b n m r→(r.map (·.1)).Nodup
 | .mk (m:=m) (r:=r) hl=>by have f:=gD.facts h.toTreeU hl;rw[List.map_append,List.nodup_append];refine⟨gD.ME h hb (fun c hc=>hc) (h.ME b) hl,sI,fun x hx y hy e=> ?_⟩;simp at hy;subst hy;subst e;obtain⟨⟨x,i,o⟩,mx,rfl⟩:=List.mem_map.1 hx;obtain⟨⟨c,hc,ha⟩,_⟩:=f.1 x i o mx;have h4:=(h.Q8 _ _ hc).2.2;have h5:=h.le _ _ ha hb;simp only at h4;omega
theorem gD.ME(h:mE K pl up){b:Int}(hb:0≤pl b){l:af}(kv:∀c,c∈l→c∈K b)(HF:l.Nodup){n m:Nat}{r:mW}:gD K l n m r→(r.map (·.1)).Nodup
 | .nil=>sI
 | .snoc (l:=l) (c:=c) hl hv=>by have f1:=gD.facts h.toTreeU hl;have f2:=Az.facts h.toTreeU hv;have O3:=kv c sI;rw[List.nodup_append]at HF;rw[List.map_append,List.nodup_append];refine⟨gD.ME h hb (fun c hc=>kv c (List.mem_append_left _ hc)) HF.1 hl,Az.ME h (h.pos b hb c O3) hv,fun x hx y hy e=> ?_⟩;obtain⟨⟨x,i,o⟩,mx,rfl⟩:=List.mem_map.1 hx;obtain⟨⟨y,i',o'⟩,my,rfl⟩:=List.mem_map.1 hy;simp only at e;subst e;obtain⟨⟨c',ta,ha⟩,_⟩:=f1.1 x i o mx;obtain⟨AX,_⟩:=f2.1 x i' o' my;have:=h.sub O3 (kv c' (List.mem_append_left _ ta)) h.le hb AX ha;exact HF.2.2 c' ta c sI this.symm
end
theorem Q9.facts(h:mE K pl up)(h0:0≤pl 0){ws:List (Int×Int)}{b:Int}{n0:Nat}{op:List (Int×Nat)}{rs:mW}(hl:Q9 K ws b n0 op rs):0≤pl b∧(∀x i,(x,i)∈op→hU up b x∧pl x<pl b∧0≤pl x∧1≤i)∧(∀x i o,(x,i,o)∈rs→¬hU up x b∧0≤pl x)∧(op.map (·.1)++rs.map (·.1)).Nodup∧n0=op.length+2*rs.length:=by
 induction hl with
 |nil=>exact⟨h0,sI,sI,sI,sI⟩
 | @snoc ws b c n0 n1 j op rs r hl hv hc ih=>
  obtain⟨hb,h1,h2,h3,h4⟩:=ih;have O3:c∈K b:=List.mem_of_getElem? hc;have QF:=h.pos b hb c O3;have hk:=h.Q8 b c O3;have kv:∀x,x∈(K b).take j→x∈K b:=fun x hx=>List.mem_of_mem_take hx
  have fr:=gD.facts h.toTreeU hv;have Qij:∀x,x∈(K b).take j→x≠c:=by
   rintro x hx rfl;obtain⟨i,hi,he⟩:=List.mem_take_iff_getElem.1 hx;have l6:(K b)[i]?=some x:=by rw[List.getElem?_eq_getElem oM,he]
   have hd:=h.ME b;obtain⟨hj,hje⟩:=List.getElem?_eq_some_iff.1 hc;have:=(List.nodup_iff_pairwise_ne.1 hd);rw[List.pairwise_iff_getElem]at this;exact this i j oM hj oM (by rw[he,hje])
  have hr:∀x i o,(x,i,o)∈r→¬hU up x c∧hU up x b∧0≤pl x∧x≠b:=by
   intro x i o hx;obtain⟨⟨c',ta,ha⟩,_⟩:=fr.1 x i o hx;have iO:=h.Q8 b c' (kv c' ta);refine⟨fun nW=>Qij c' ta (h.sub (kv c' ta) O3 h.le hb ha nW),ha.trans (h.Iu (kv c' ta)),?_,?_⟩
   ·rcases Int.lt_or_le (pl x) 0 with h7|h7
    ·exfalso;exact absurd ha (h.neg x c' h7 (h.pos b hb c' (kv c' ta)))
    ·exact h7
   ·rintro rfl;have:=h.le _ _ ha hb;omega
  refine⟨QF,fun x i hx=> ?_,fun x i o hx=> ?_,?_,?_⟩
  ·rcases List.mem_append.1 hx with hx|hx
   ·obtain⟨a1,a2,a3,a4⟩:=h1 x i hx;exact⟨(h.Iu O3).trans a1,oM,a3,a4⟩
   ·simp only[List.mem_singleton,Prod.mk.injEq]at hx;obtain⟨rfl,rfl⟩:=hx;exact⟨h.Iu O3,hk.2.2,hb,oM⟩
  ·rcases List.mem_append.1 hx with hx|hx
   ·obtain⟨a1,a2⟩:=h2 x i o hx;refine⟨fun ha=> ?_,a2⟩;exact a1 (ha.trans (h.Iu O3))
   ·exact⟨(hr x i o hx).1,(hr x i o hx).2.2.1⟩
  ·rw[List.nodup_append]at h3;rw[List.map_append,List.map_append,List.nodup_append,List.nodup_append,List.nodup_append];refine⟨⟨h3.1,sI,fun x hx y hy e=> ?_⟩,⟨h3.2.1,gD.ME h hb kv ((h.ME b).sublist (List.take_sublist _ _)) hv,fun x hx y hy e=> ?_⟩,fun x hx y hy e=> ?_⟩
   ·simp at hy;subst hy;subst e;obtain⟨⟨x,i⟩,mx,rfl⟩:=List.mem_map.1 hx;have:=(h1 x i mx).2.1;simp only at this;omega
   ·obtain⟨⟨x,i,o⟩,mx,rfl⟩:=List.mem_map.1 hx;obtain⟨⟨y,i',o'⟩,my,rfl⟩:=List.mem_map.1 hy;simp only at e;subst e;exact(h2 x i o mx).1 (hr x i' o' my).2.1
   ·rcases List.mem_append.1 hx with hx|hx<;>rcases List.mem_append.1 hy with hy|hy
    ·exact h3.2.2 x hx y hy e
    ·obtain⟨⟨x,i⟩,mx,rfl⟩:=List.mem_map.1 hx;obtain⟨⟨y,i',o'⟩,my,rfl⟩:=List.mem_map.1 hy;simp only at e;subst e;have a1:=(hr x i' o' my).2.1;have a2:=h.le _ _ a1 (hr x i' o' my).2.2.1;have:=(h1 x i mx).2.1;omega
    ·simp at hx;subst hx;subst e;obtain⟨⟨y,i',o'⟩,my,rfl⟩:=List.mem_map.1 hy;exact(h2 y i' o' my).1 (.refl _)
    ·simp at hx;subst hx;subst e;obtain⟨⟨y,i',o'⟩,my,rfl⟩:=List.mem_map.1 hy;exact(hr y i' o' my).2.2.2 rfl
  ·have:=gD.len hv;simp only[List.length_append,List.length_cons,List.length_nil];omega
end
end Go.Mor
namespace Go.Mor
open Go.RowKit
def Ra(K:Int→af)(ws:List (Int×Int))(b:Int)(n:Nat)(f g:Int→Int):Prop:=∃op rs,Q9 K ws b n op rs∧KV f op rs∧DM g rs
def KW(K:Int→af)(ws:List (Int×Int))(b:Int)(k n:Nat)(f g:Int→Int):Prop:=∃op rs n0 r,Q9 K ws b n0 op rs∧gD K ((K b).take k) (n0+1) n r∧k≤(K b).length∧KV f (op++[(b,n0+1)]) (rs++r)∧DM g (rs++r)
def FIN(K:Int→af)(n:Nat)(f g:Int→Int):Prop:=∃rs,Az K 0 0 n rs∧KV f [] rs∧DM g rs
def DN(K:Int→af)(qU:List (Int×Int))(n:Nat)(f g:Int→Int):Prop:=(qU=[]∧FIN K n f g)∨∃(ws:List (Int×Int)) (b:Int) (k:Nat),qU=ws++[(b,(k:Int))]∧((k=0∧Ra K ws b n f g)∨(1≤k∧KW K ws b k n f g))
section
variable {K : Int → List Int} {pl up : Int → Int} {ws : List (Int × Int)} {b : Int} {n k : Nat} {f g : Int → Int}
theorem Ra.start(h:mE K pl up)(h0:0≤pl 0)(hu:Ra K ws b n f g):KW K ws b 0 (n+1) (AA f b ((n:Int)+1)) g:=by
 obtain⟨op,rs,hl,hf,hg⟩:=hu;obtain⟨f1,f2,f3,f4,f5⟩:=hl.facts h h0;refine⟨op,rs,n,[],hl,by rw[List.take_zero];exact .nil,Nat.zero_le _,?_,by rw[List.append_nil];exact hg⟩;rw[List.append_nil];intro x;unfold AA;by_cases e:x=b
 ·subst e;rw[if_pos rfl];refine⟨fun i hi=> ?_,fun i o hi=> ?_,fun hi _=> ?_⟩
  ·rcases List.mem_append.1 hi with hi|hi
   ·have:=(f2 x i hi).2.1;omega
   ·simp only[List.mem_singleton,Prod.mk.injEq]at hi;obtain⟨_,rfl⟩:=hi;simp
  ·exact absurd (.refl _) (f3 x i o hi).1
  ·exact absurd (sI:(x,n+1)∈op++[(x,n+1)]) (hi (n+1))
 ·rw[if_neg e];refine⟨fun i hi=> ?_,(hf x).2.1,fun hi hj=>(hf x).2.2 (fun i hm=>hi i (List.mem_append_left _ hm)) hj⟩;rcases List.mem_append.1 hi with hi|hi
  ·exact(hf x).1 i hi
  ·simp only[List.mem_singleton,Prod.mk.injEq]at hi;exact absurd hi.1 e
theorem KW.pos(h:mE K pl up)(h0:0≤pl 0)(hs:KW K ws b k n f g):0≤pl b:=by
 obtain⟨op,rs,n0,r,hl,_⟩:=hs;exact(hl.facts h h0).1
theorem Ra.pos(h:mE K pl up)(h0:0≤pl 0)(hs:Ra K ws b n f g):0≤pl b:=by
 obtain⟨op,rs,hl,_⟩:=hs;exact(hl.facts h h0).1
theorem KW.push(hs:KW K ws b k n f g){c:Int}(hc:(K b)[k]?=some c):Ra K (ws++[(b,(k:Int)+1)]) c n f g:=by
 obtain⟨op,rs,n0,r,hl,hv,hk,hf,hg⟩:=hs;exact⟨_,_,.snoc hl hv hc,hf,hg⟩
theorem KW.finish(h:mE K pl up)(h0:0≤pl 0)(hs:KW K ws b (K b).length n f g):DN K ws (n+1) f (AA g b ((n:Int)+1)):=by
 obtain⟨op,rs,n0,r,hl,hv,hk,hf,hg⟩:=hs;obtain⟨f1,f2,f3,f4,f5⟩:=hl.facts h h0;rw[List.take_length]at hv;have fr:=gD.facts h.toTreeU hv;have Qfk:Az K b n0 (n+1) (r++[(b,n0+1,n+1)]):= .mk hv;have hnr:∀i o:Nat,(b,i,o)∉rs++r:=by
  intro i o hm;rcases List.mem_append.1 hm with hm|hm
  ·exact(f3 b i o hm).1 (.refl _)
  ·obtain⟨⟨c,hc,ha⟩,_⟩:=fr.1 b i o hm;have:=h.le _ _ ha f1;have:=(h.Q8 b c hc).2.2;omega
 have hf':KV f op (rs++(r++[(b,n0+1,n+1)])):=by
  intro x;refine⟨fun i hi=>(hf x).1 i (List.mem_append_left _ hi),fun i o hi=> ?_,fun hi hj=>(hf x).2.2 (fun i hm=> ?_) (fun i o hm=>hj i o ?_)⟩
  ·rw[←List.append_assoc]at hi;rcases List.mem_append.1 hi with hi|hi
   ·exact(hf x).2.1 i o hi
   ·simp only[List.mem_singleton,Prod.mk.injEq]at hi;obtain⟨rfl,rfl,rfl⟩:=hi;exact(hf x).1 (n0+1) sI
  ·rcases List.mem_append.1 hm with hm|hm
   ·exact hi i hm
   ·simp only[List.mem_singleton,Prod.mk.injEq]at hm;obtain⟨rfl,rfl⟩:=hm;exact hj (n0+1) (n+1) sI
  ·rw[←List.append_assoc];exact List.mem_append_left _ hm
 have nU:DM (AA g b ((n:Int)+1)) (rs++(r++[(b,n0+1,n+1)])):=by
  intro x;unfold AA;rw[←List.append_assoc];by_cases e:x=b
  ·subst e;rw[if_pos rfl];refine⟨fun i o hi=> ?_,fun hi=>absurd (sI:(x,n0+1,n+1)∈rs++r++[(x,n0+1,n+1)]) (hi _ _)⟩;rcases List.mem_append.1 hi with hi|hi
   ·exact absurd hi (hnr i o)
   ·simp only[List.mem_singleton,Prod.mk.injEq]at hi;obtain⟨_,_,rfl⟩:=hi;simp
  ·rw[if_neg e];refine⟨fun i o hi=> ?_,fun hi=>(hg x).2 (fun i o hm=>hi i o (List.mem_append_left _ hm))⟩;rcases List.mem_append.1 hi with hi|hi
   ·exact(hg x).1 i o hi
   ·simp only[List.mem_singleton,Prod.mk.injEq]at hi;exact absurd hi.1 e
 cases hl with
 |nil=>
  exact .inl ⟨rfl,_,by simpa using Qfk,by simpa using hf',by simpa using nU⟩
 | @snoc ws' b' _ m0 _ j op' rs' r' UU hv' ta=>
  refine .inr ⟨ws',b',j+1,sI,.inr ⟨oM,op',rs',m0,r'++(r++[(b,n0+1,n+1)]),UU,?_,?_,?_,?_⟩⟩
  ·obtain⟨hj,hje⟩:=List.getElem?_eq_some_iff.1 ta;rw[List.take_succ_eq_append_getElem hj,hje];exact .snoc hv' Qfk
  ·exact(List.getElem?_eq_some_iff.1 ta).1
  ·rw[List.append_assoc]at hf';exact hf'
  ·rw[List.append_assoc]at nU;exact nU
theorem FY{l:af}{N:Nat}(hn:l.Nodup)(hr:∀x,x∈l→0≤x∧x<(N:Int)):l.length≤N:=by
 have hp:=(List.perm_ext_iff_of_nodup hn (l₂:=((List.range N).filter (fun i:Nat=>decide ((i:Int)∈l))).map (fun i:Nat=>(i:Int))) (yR (List.nodup_range.sublist List.filter_sublist))).2 (fun x=>by
  constructor
  ·intro hx;obtain⟨h1,h2⟩:=hr x hx;have e:(x.toNat:Int)=x:=Int.toNat_of_nonneg h1;exact List.mem_map.2 ⟨x.toNat,List.mem_filter.2 ⟨List.mem_range.2 oM,by rw[e];simpa using hx⟩,e⟩
  ·intro hx;obtain⟨i,hi,rfl⟩:=List.mem_map.1 hx;simpa using(List.mem_filter.1 hi).2)
 rw[hp.length_eq,List.length_map];exact Nat.le_trans (List.length_filter_le _ _) sI
theorem Q9.bound(h:mE K pl up)(h0:0≤pl 0){N:Nat}(hN:∀x,0≤pl x→0≤x∧x<(N:Int)){op:List (Int×Nat)}{rs:mW}(hl:Q9 K ws b n op rs):n+2≤2*N:=by
 obtain⟨f1,f2,f3,f4,f5⟩:=hl.facts h h0;have HF:(b::(op.map (·.1)++rs.map (·.1))).Nodup:=by
  rw[List.nodup_cons];refine⟨fun hm=> ?_,f4⟩;rcases List.mem_append.1 hm with hm|hm
  ·obtain⟨⟨x,i⟩,mx,rfl⟩:=List.mem_map.1 hm;have:=(f2 x i mx).2.1;simp only at this;omega
  ·obtain⟨⟨x,i,o⟩,mx,rfl⟩:=List.mem_map.1 hm;exact(f3 x i o mx).1 (.refl _)
 have:=FY (N:=N) HF (fun x hx=>by
  rcases List.mem_cons.1 hx with rfl|hx
  ·exact hN _ f1
  ·rcases List.mem_append.1 hx with hm|hm
   ·obtain⟨⟨x,i⟩,mx,rfl⟩:=List.mem_map.1 hm;exact hN _ (f2 x i mx).2.2.1
   ·obtain⟨⟨x,i,o⟩,mx,rfl⟩:=List.mem_map.1 hm;exact hN _ (f3 x i o mx).2)
 simp only[List.length_cons,List.length_append,List.length_map]at this;omega
theorem Ra.bound(h:mE K pl up)(h0:0≤pl 0){N:Nat}(hN:∀x,0≤pl x→0≤x∧x<(N:Int))(hu:Ra K ws b n f g):n+2≤2*N:=by
 obtain⟨op,rs,hl,_⟩:=hu;exact hl.bound h h0 hN
theorem KW.bound(h:mE K pl up)(h0:0≤pl 0){N:Nat}(hN:∀x,0≤pl x→0≤x∧x<(N:Int))(hs:KW K ws b k n f g):n+1≤2*N:=by
 obtain⟨op,rs,n0,r,hl,hv,hk,_,_⟩:=hs;obtain⟨f1,f2,f3,f4,f5⟩:=hl.facts h h0;have fr:=gD.facts h.toTreeU hv;have kv:∀x,x∈(K b).take k→x∈K b:=fun x hx=>List.mem_of_mem_take hx
 have FE:∀x i o,(x,i,o)∈r→hU up x b∧0≤pl x∧x≠b:=by
  intro x i o hx;obtain⟨⟨c',ta,ha⟩,_⟩:=fr.1 x i o hx;have iO:=h.Q8 b c' (kv c' ta);refine⟨ha.trans (h.Iu (kv c' ta)),?_,?_⟩
  ·rcases Int.lt_or_le (pl x) 0 with h7|h7
   ·exact absurd ha (h.neg x c' h7 (h.pos b f1 c' (kv c' ta)))
   ·exact h7
  ·rintro rfl;have:=h.le _ _ ha f1;omega
 have HF:(b::((op.map (·.1)++rs.map (·.1))++r.map (·.1))).Nodup:=by
  rw[List.nodup_cons,List.nodup_append];refine⟨fun hm=> ?_,f4,gD.ME h f1 kv ((h.ME b).sublist (List.take_sublist _ _)) hv,fun x hx y hy e=> ?_⟩
  ·rcases List.mem_append.1 hm with hm|hm
   ·rcases List.mem_append.1 hm with hm|hm
    ·obtain⟨⟨x,i⟩,mx,rfl⟩:=List.mem_map.1 hm;have:=(f2 x i mx).2.1;simp only at this;omega
    ·obtain⟨⟨x,i,o⟩,mx,rfl⟩:=List.mem_map.1 hm;exact(f3 x i o mx).1 (.refl _)
   ·obtain⟨⟨x,i,o⟩,mx,rfl⟩:=List.mem_map.1 hm;exact(FE x i o mx).2.2 rfl
  ·obtain⟨⟨y,i',o'⟩,my,rfl⟩:=List.mem_map.1 hy;rcases List.mem_append.1 hx with hx|hx
   ·obtain⟨⟨x,i⟩,mx,rfl⟩:=List.mem_map.1 hx;simp only at e;subst e;have:=(f2 x i mx).2.1;have:=h.le _ _ (FE x i' o' my).1 (FE x i' o' my).2.1;omega
   ·obtain⟨⟨x,i,o⟩,mx,rfl⟩:=List.mem_map.1 hx;simp only at e;subst e;exact(f3 x i o mx).1 (FE x i' o' my).1
 have:=FY (N:=N) HF (fun x hx=>by
  rcases List.mem_cons.1 hx with rfl|hx
  ·exact hN _ f1
  ·rcases List.mem_append.1 hx with hx|hx
   ·rcases List.mem_append.1 hx with hm|hm
    ·obtain⟨⟨x,i⟩,mx,rfl⟩:=List.mem_map.1 hm;exact hN _ (f2 x i mx).2.2.1
    ·obtain⟨⟨x,i,o⟩,mx,rfl⟩:=List.mem_map.1 hm;exact hN _ (f3 x i o mx).2
   ·obtain⟨⟨x,i,o⟩,mx,rfl⟩:=List.mem_map.1 hx;exact hN _ (FE x i o mx).2.1)
 have hlen:=gD.len hv;simp only[List.length_cons,List.length_append,List.length_map]at this;omega
end
section
variable {K : Int → List Int} {pl up : Int → Int}
mutual
theorem Az.kids{b:Int}{n m:Nat}{r:mW}:Az K b n m r→(∃i o,(b,i,o)∈r)∧∀x i o,(x,i,o)∈r→∀c,c∈K x→∃i' o',(c,i',o')∈r
 | .mk (m:=m) (r:=r) hl=>by
  have ih:=gD.kids hl;refine⟨⟨n+1,m+1,sI⟩,fun x i o hx c hc=> ?_⟩;rcases List.mem_append.1 hx with hx|hx
  ·obtain⟨i',o',h'⟩:=ih.2 x i o hx c hc;exact⟨i',o',List.mem_append_left _ h'⟩
  ·simp only[List.mem_singleton,Prod.mk.injEq]at hx;obtain⟨rfl,_,_⟩:=hx;obtain⟨i',o',h'⟩:=ih.1 c hc;exact⟨i',o',List.mem_append_left _ h'⟩
theorem gD.kids{l:af}{n m:Nat}{r:mW}:gD K l n m r→(∀c,c∈l→∃i o,(c,i,o)∈r)∧∀x i o,(x,i,o)∈r→∀c,c∈K x→∃i' o',(c,i',o')∈r
 | .nil=>⟨fun c hc=>by simp at hc,fun x i o hx=>by simp at hx⟩
 | .snoc (l:=l) (c:=c0) hl hv=>by
  have i1:=gD.kids hl;have i2:=Az.kids hv;refine⟨fun c hc=> ?_,fun x i o hx c hc=> ?_⟩
  ·rcases List.mem_append.1 hc with hc|hc
   ·obtain⟨i',o',h'⟩:=i1.1 c hc;exact⟨i',o',List.mem_append_left _ h'⟩
   ·simp only[List.mem_singleton]at hc;subst hc;obtain⟨i',o',h'⟩:=i2.1;exact⟨i',o',List.mem_append_right _ h'⟩
  ·rcases List.mem_append.1 hx with hx|hx
   ·obtain⟨i',o',h'⟩:=i1.2 x i o hx c hc;exact⟨i',o',List.mem_append_left _ h'⟩
   ·obtain⟨i',o',h'⟩:=i2.2 x i o hx c hc;exact⟨i',o',List.mem_append_right _ h'⟩
end
theorem FIN.Qb6{n:Nat}{f g:Int→Int}(h:mE K pl up)(h0:0≤pl 0)(cV:∀x,0≤pl x→x≠0→x∈K (up x)∧0≤pl (up x)∧pl (up x)<pl x)(hf:FIN K n f g){x y:Int}(hx:0≤pl x)(hy:0≤pl y):(0<f x∧0<f y∧f x≤f y∧g y≤g x)↔hU up y x:=by
 obtain⟨rs,hv,nY,qn⟩:=hf;have hk:=Az.kids hv;have key:∀(m:Nat) (x:Int),0≤pl x→(pl x).toNat≤m→∃i o,(x,i,o)∈rs:=by
  intro m;induction m with
  |zero=>
   intro x hx hm;by_cases e:x=0
   ·subst e;exact hk.1
   ·have:=cV x hx e;omega
  |succ m ih=>
   intro x hx hm;by_cases e:x=0
   ·subst e;exact hk.1
   ·obtain⟨h1,h2,h3⟩:=cV x hx e;obtain⟨i,o,Px⟩:=ih (up x) h2 oM;exact hk.2 _ i o Px x h1
 obtain⟨i,o,mx⟩:=key _ x hx (Nat.le_refl _);obtain⟨i',o',my⟩:=key _ y hy (Nat.le_refl _);have fr:=Az.facts h.toTreeU hv;obtain⟨_,p1,p2,_⟩:=fr.1 x i o mx;obtain⟨_,p3,p4,_⟩:=fr.1 y i' o' my;rw[(nY x).2.1 i o mx,(nY y).2.1 i' o' my,(qn x).1 i o mx,(qn y).1 i' o' my,←Az.hold h h0 hv x i o y i' o' mx my];omega
end
end Go.Mor
namespace Go.Mor
open Go.RowKit
def eF(bs:List SB)(up:Int→Int)(k:Nat)(d:Int):af:=((aH bs).take k).filter (fun x=>up x==d)
def j6(bs:List SB)(up:Int→Int)(k:Nat):List af:=(List.range bs.length).map (fun d:Nat=>eF bs up k (d:Int))
def fa(bs:List SB)(up:Int→Int)(b:Int):af:=if 0≤b then(aH bs).filter (fun x=>up x==b)else[]
section
variable {bs : List SB} {up : Int → Int}
theorem MF(k:Nat)(d:Int):(eF bs up k d).length≤bs.length:=by
 have:=je bs;have h2:=List.length_filter_le (fun x=>up x==d) ((aH bs).take k);have:((aH bs).take k).length≤(aH bs).length:=by simp;omega
 unfold eF;omega
theorem FZ:j6 bs up 0=List.replicate bs.length []:=by
 unfold j6 eF;apply List.ext_getElem?;intro t;by_cases h:t<bs.length
 ·simp[h]
 ·rw[List.getElem?_eq_none (by simpa using h),List.getElem?_eq_none (by simpa using h)]
theorem sK(k:Nat):(j6 bs up k).length=bs.length:=by simp[j6]
theorem lS{k d:Nat}(hd:d<bs.length):(j6 bs up k)[d]?=some (eF bs up k (d:Int)):=by simp[j6,hd]
theorem F0{k d:Nat}{b:Int}(hk:(aH bs)[k]?=some b)(hu:up b=(d:Int))(hd:d<bs.length):(j6 bs up k).set d (eF bs up k (d:Int)++[b])=j6 bs up (k+1):=by
 apply List.ext_getElem?;intro t;by_cases e:d=t
 ·subst e;rw[List.getElem?_set_self (by rw[sK];exact hd),lS hd];congr 1;unfold eF;rw[iE hk,List.filter_append];simp[hu]
 ·rw[List.getElem?_set_ne e];by_cases h:t<bs.length
  ·rw[lS h,lS h];congr 1;unfold eF;rw[iE hk,List.filter_append];have:¬up b=(t:Int):=by rw[hu];omega
   simp[this]
  ·rw[List.getElem?_eq_none (by rw[sK];omega),List.getElem?_eq_none (by rw[sK];omega)]
theorem F1{k:Nat}{b:Int}(hk:(aH bs)[k]?=some b)(hu:up b<0):j6 bs up k=j6 bs up (k+1):=by
 unfold j6;apply List.map_congr_left;intro t _;unfold eF;rw[iE hk,List.filter_append];have:¬up b=(t:Int):=oM;simp[this]
theorem MG{k b:Nat}(hk:(aH bs).length≤k)(hb:b<bs.length):(j6 bs up k)[b]?=some (fa bs up (b:Int)):=by
 rw[lS hb];unfold eF fa;rw[List.take_of_length_le hk,if_pos oM]
theorem tQ{b c:Int}:c∈fa bs up b↔0≤b∧c∈aH bs∧up c=b:=by
 unfold fa;split
 ·rename_i h;simp[h]
 ·rename_i h;simp[h]
theorem MH(b:Int):(fa bs up b).length≤bs.length:=by
 unfold fa;have:=je bs;split
 ·have h2:=List.length_filter_le (fun x=>up x==b) (aH bs);omega
 ·simp
theorem DP(h0:0<bs.length){c:Int}:c∈aH bs↔0≤iz bs c:=by
 rw[(iC h0).reach,(nv h0).mem]
theorem DB.tree(h0:0<bs.length)(hf:DB bs up):mE (fa bs up) (iz bs) up where
 Q8 b c hc:=by
  obtain⟨h1,h2,h3⟩:=tQ.1 hc;have hp:=(DP h0).1 h2;have dt:c≠0:=by rintro rfl;have:=hf.off 0 (.inr rfl);omega
  have:=(hf.ok.low c (hf.It c hp) dt).2;rw[h3]at this;exact⟨h3,dt,this⟩
 ME b:=by
  unfold fa;split
  ·exact(nv h0).nodup.sublist List.filter_sublist
  ·exact List.nodup_nil
 le x d h hx:=(hU.It hf.ok h (hf.It x hx)).2.1;pos b hb c hc:=(DP h0).1 (tQ.1 hc).2.1;neg x d hx hd h:=by
  induction h with
  |refl=>omega
  | @step x d dt h ih=>
   refine ih ?_ hd;rw[hf.off x (.inl hx)];rcases Int.lt_or_le (iz bs (-1)) 0 with h1|h1
   ·exact h1
   ·have:=kk h0 h1;omega
theorem DB.cV(h0:0<bs.length)(hf:DB bs up):∀x,0≤iz bs x→x≠0→x∈fa bs up (up x)∧0≤iz bs (up x)∧iz bs (up x)<iz bs x:=by
 intro x hx dt;obtain⟨h1,h2⟩:=hf.ok.low x (hf.It x hx) dt;have:=kk h0 h1.1;exact⟨tQ.2 ⟨this.1,(DP h0).2 hx,rfl⟩,h1.1,h2⟩
theorem Qb7(h0:0<bs.length)(hf:DB bs up){b:Int}(hb:0≤iz bs b)(hu:0≤up b):∃d:Nat,up b=(d:Int)∧d<bs.length:=by
 have dt:b≠0:=by rintro rfl;have:=hf.off 0 (.inr rfl);omega
 have h:=kk h0 (hf.cV h0 b hb dt).2.1;exact⟨(up b).toNat,(Int.toNat_of_nonneg h.1).symm,oM⟩
theorem W0(h0:0<bs.length){b:Int}{k:Nat}(hk:k<(fa bs up b).length):∃ci:Nat,(fa bs up b)[k]?=some (ci:Int)∧ci<bs.length:=by
 have hm:(fa bs up b)[k]∈fa bs up b:=List.getElem_mem hk;have hp:=(DP h0).1 (tQ.1 hm).2.1;have:=kk h0 hp;exact⟨((fa bs up b)[k]).toNat,by rw[List.getElem?_eq_getElem hk,Int.toNat_of_nonneg this.1],oM⟩
end
theorem tR(ws:List (Int×Int))(b k:Int):ia ws++[vI b,vI k]=ia (ws++[(b,k)]):=by simp[ia]
theorem mF(ws:List (Int×Int))(b k:Int):(ia (ws++[(b,k)]))[ws.length*2]?=some (vI b)∧(ia (ws++[(b,k)]))[ws.length*2+1]?=some (vI k):=Qb (p:=(b,k)) sI
theorem W1(ws:List (Int×Int))(b k:Int):(ia (ws++[(b,k)])).take (ws.length*2)=ia ws:=by
 rw[←tR,List.take_left' (by rw[Dd])]
theorem W2(ws:List (Int×Int))(b k v:Int):(ia (ws++[(b,k)])).set (ws.length*2+1) (vI v)=ia (ws++[(b,v)]):=by
 rw[←tR,←tR,List.set_append_right _ _ (by rw[Dd];omega),Dd,show ws.length*2+1-ws.length*2=1 by omega];rfl
theorem cy.upd{n:Nat}{l:af}{f:Int→Int}(h:cy n l f){b v:Int}(h0:0≤b)(h1:b<(n:Int)):cy n (l.set b.toNat v) (AA f b v):=by
 refine h.set oM (by simp[AA,Int.toNat_of_nonneg h0]) (fun j _ dt=> ?_);unfold AA;rw[if_neg oM]
theorem BX(n:Nat):cy n (List.replicate n 0) (fun _=>0):=⟨sI,fun i hi=>by simp[List.getD,hi]⟩
section
variable {K : Int → List Int} {ws : List (Int × Int)} {b : Int} {n k : Nat} {f g : Int → Int}
theorem gD.le{l:af}{n m:Nat}{r:mW}(h:gD K l n m r):n≤m:=by have:=gD.len h;omega
theorem Q9.MJ{op:List (Int×Nat)}{rs:mW}(h:Q9 K ws b n op rs):ws.length≤n:=by
 induction h with
 |nil=>simp
 |snoc _ hv _ ih=>have:=hv.le;simp only[List.length_append,List.length_cons,List.length_nil];omega
theorem Ra.MJ(h:Ra K ws b n f g):ws.length≤n:=by
 obtain⟨op,rs,hl,_⟩:=h;exact hl.MJ
theorem KW.MJ(h:KW K ws b k n f g):ws.length+1≤n:=by
 obtain⟨op,rs,n0,r,hl,hv,_⟩:=h;have:=hl.MJ;have:=hv.le;omega
theorem DN.start:DN K [(0,0)] 0 (fun _=>0) (fun _=>0):= .inr ⟨[],0,0,sI,.inl ⟨rfl,[],[],.nil,fun x=>⟨sI,sI,fun _ _=>rfl⟩,fun x=>⟨sI,fun _=>rfl⟩⟩⟩
theorem DN.none(h:DN K [] n f g):FIN K n f g:=by
 rcases h with⟨_,h⟩|⟨ws,b,k,e,_⟩
 ·exact h
 ·simp at e
theorem DN.some{qU:List (Int×Int)}(h:DN K qU n f g)(hw:0<qU.length):∃(ws:List (Int×Int)) (b:Int) (k:Nat),qU=ws++[(b,(k:Int))]∧((k=0∧Ra K ws b n f g)∨(1≤k∧KW K ws b k n f g)):=by
 rcases h with⟨rfl,_⟩|h
 ·simp at hw
 ·exact h
def yS(qU:List (Int×Int)):Nat:=match qU.getLast? with
 |some (_,k)=>if k=0 then 0 else 1
 |none=>0
theorem Rb(qU:List (Int×Int)):yS qU≤1:=by
 unfold yS;split
 ·split<;>omega
 ·omega
theorem sL(ws:List (Int×Int))(b k:Int):yS (ws++[(b,k)])=if k=0 then 0 else 1:=by simp[yS]
end
end Go.Mor
namespace Go.Mor
open Go.RowKit
def eh(f g:Int→Int)(a b:Int):Prop:=0<f a∧0<f b∧f a≤f b∧g b≤g a
instance (f g : Int → Int) (a b : Int) : Decidable (eh f g a b) := by unfold eh; infer_instance
def cI(D:Int→Int→Prop)(pa va:Int)(ds:tz)(v b q:Int):Prop:=0≤v∧v<va∧(v<pa∨∃p,findD ds v=some p∧((p.1=b∧p.2<q)∨(p.1≠b∧D p.1 b)))
noncomputable instance (D : Int → Int → Prop) (pa va : Int) (ds : tz) (v b q : Int) : Decidable (cI D pa va ds v b q) := Classical.propDecidable _
section
variable {D : Int → Int → Prop} {pa va : Int} {n : Nat} {ds : tz} {l : List (Int × Int)} {v b q : Int} {pm : Int × Int}
theorem BZ(h:v<0∨va≤v):¬cI D pa va ds v b q:=fun⟨h1,h2,_⟩=>oM
theorem MK(h0:0≤v)(h1:v<va)(h2:v<pa):cI D pa va ds v b q:=⟨h0,h1,.inl h2⟩
theorem u4{base:Nat→Int×Int}{enc:Int×Int→Int×Int}(ht:Bn n base enc ds l)(jD:l[v.toNat]?=some pm)(h0:0≤v)(h1:v<(n:Int)):pm=(match findD ds v with|some p=>enc p|none=>base v.toNat):=by
 have:=ht.at_ v.toNat oM;rw[jD,Int.toNat_of_nonneg h0]at this;exact Option.some.inj this
theorem qo(hn:NonNeg ds){p:Int×Int}(h:findD ds v=some p):0≤p.1:=by
 by_cases hm:v∈ds.map (·.1)
 ·obtain⟨p',h1,h2⟩:=ig hm;rw[h]at h1;injection h1 with h1;subst h1;exact hn _ h2
 ·rw[gy hm]at h;cases h
abbrev IT(n:Nat)(ds:tz)(l:List (Int×Int)):Prop:=Bn n (fun _=>(-1,0)) (fun p=>(p.1,p.2+1)) ds l
theorem Rc(ht:IT n ds l)(hn:NonNeg ds)(jD:l[v.toNat]?=some pm)(h0:0≤v)(h1:v<(n:Int))(hv:¬v<pa)(h2:pm.1<0):¬cI D pa va ds v b q:=by
 rintro⟨_,_,h|⟨p,hp,_⟩⟩
 ·exact hv h
 ·have:=u4 ht jD h0 h1;rw[hp]at this;have h3:=qo hn hp;rw[this]at h2;simp only at h2;omega
theorem sN(ht:IT n ds l)(jD:l[v.toNat]?=some pm)(h0:0≤v)(h1:v<(n:Int))(h2:0≤pm.1):findD ds v=some (pm.1,pm.2-1):=by
 have:=u4 ht jD h0 h1;cases hf:findD ds v with
 |none=>
  rw[hf]at this;rw[this]at h2;simp only at h2;omega
 |some p=>
  rw[hf]at this;rw[this];simp only[Int.add_sub_cancel]
theorem IU(ht:IT n ds l)(jD:l[v.toNat]?=some pm)(h0:0≤v)(h1:v<(n:Int))(jR:va=(n:Int))(hv:¬v<pa)(h2:0≤pm.1)(h3:pm.1=b):pm.2≤q↔cI D pa va ds v b q:=by
 have hf:=sN ht jD h0 h1 h2;constructor
 ·intro h;exact⟨h0,oM,.inr ⟨_,hf,.inl ⟨h3,by show pm.2-1<q;omega⟩⟩⟩
 ·rintro⟨_,_,h|⟨p,hp,h⟩⟩
  ·exact absurd h hv
  ·rw[hf]at hp;injection hp with hp;subst hp;rcases h with⟨_,h⟩|⟨h,_⟩
   ·simp only at h;omega
   ·exact absurd h3 h
theorem Re(ht:IT n ds l)(jD:l[v.toNat]?=some pm)(h0:0≤v)(h1:v<(n:Int))(jR:va=(n:Int))(hv:¬v<pa)(h2:0≤pm.1)(h3:¬pm.1=b):D pm.1 b↔cI D pa va ds v b q:=by
 have hf:=sN ht jD h0 h1 h2;constructor
 ·intro h;exact⟨h0,oM,.inr ⟨_,hf,.inr ⟨h3,h⟩⟩⟩
 ·rintro⟨_,_,h|⟨p,hp,h⟩⟩
  ·exact absurd h hv
  ·rw[hf]at hp;injection hp with hp;subst hp;rcases h with⟨h,_⟩|⟨_,h⟩
   ·exact absurd h h3
   ·exact h
theorem ML{N:Nat}(ht:IT n ds l)(hd:∀d,d∈ds→0≤d.2.1∧d.2.1<(N:Int)∧-1≤d.2.2)(jD:l[v.toNat]?=some pm)(h0:0≤v)(h1:v<(n:Int))(h2:0≤pm.1):pm.1<(N:Int):=by
 have hf:=sN ht jD h0 h1 h2;by_cases hm:v∈ds.map (·.1)
 ·obtain⟨p,h3,h4⟩:=ig hm;rw[hf]at h3;injection h3 with h3;subst h3;exact(hd _ h4).2.1
 ·rw[gy hm]at hf;cases hf
theorem IV{N:Nat}(ht:Bn n (jK pa) (fun p=>p) ds l)(hd:∀d,d∈ds→0≤d.2.1∧d.2.1<(N:Int)∧-1≤d.2.2)(jD:l[v.toNat]?=some pm)(h0:0≤v)(h1:v<(n:Int))(hN:0<N):pm.1<(N:Int):=by
 have h4:=u4 ht jD h0 h1;by_cases hm:v∈ds.map (·.1)
 ·obtain⟨p,h5,h6⟩:=ig hm;rw[h5]at h4;rw[h4];exact(hd _ h6).2.1
 ·rw[gy hm]at h4;rw[h4];show(jK pa v.toNat).1<(N:Int);unfold jK;split<;>simp only<;>omega
abbrev F2(pa:Int)(n:Nat)(ds:tz)(l:List (Int×Int)):Prop:=Bn n (jK pa) (fun p=>p) ds l
theorem MM(ht:F2 pa n ds l)(hn:NonNeg ds)(jD:l[v.toNat]?=some pm)(h0:0≤v)(h1:v<(n:Int))(h2:pm.1<0):¬cI D pa va ds v b q:=by
 have h3:=u4 ht jD h0 h1;rintro⟨_,_,h|⟨p,hp,_⟩⟩
 ·cases hf:findD ds v with
  |none=>
   rw[hf]at h3;have:(v.toNat:Int)<pa:=oM;simp only[jK,this,if_true]at h3;rw[h3]at h2;exact absurd h2 dQ
  |some p=>
   rw[hf]at h3;have:=qo hn hf;have e:pm=p:=h3;rw[e]at h2;omega
 ·rw[hp]at h3;have:=qo hn hp;have e:pm=p:=h3;rw[e]at h2;omega
theorem IW(ht:F2 pa n ds l)(hk:∀d,d∈ds→-1≤d.2.2)(jD:l[v.toNat]?=some pm)(h0:0≤v)(h1:v<(n:Int))(jR:va=(n:Int))(h2:0≤pm.1)(h3:pm.2= -2):cI D pa va ds v b q:=by
 have h4:=u4 ht jD h0 h1;cases hf:findD ds v with
 |none=>
  rw[hf]at h4;by_cases h:(v.toNat:Int)<pa
  ·exact⟨h0,oM,.inl oM⟩
  ·simp only[jK,h,if_false]at h4;rw[h4]at h2;exact absurd h2 dQ
 |some p=>
  exfalso;rw[hf]at h4;by_cases hm:v∈ds.map (·.1)
  ·obtain⟨p',h5,h6⟩:=ig hm;rw[hf]at h5;injection h5 with h5;subst h5;have:=hk _ h6;simp only at this h4;rw[←h4]at this;omega
  ·rw[gy hm]at hf;cases hf
theorem vH(ht:F2 pa n ds l)(jD:l[v.toNat]?=some pm)(h0:0≤v)(h1:v<(n:Int))(h2:0≤pm.1)(h3:¬pm.2= -2):findD ds v=some pm:=by
 have h4:=u4 ht jD h0 h1;cases hf:findD ds v with
 |none=>
  rw[hf]at h4;by_cases h:(v.toNat:Int)<pa
  ·simp only[jK,h,if_true]at h4;rw[h4]at h3;exact absurd rfl h3
  ·simp only[jK,h,if_false]at h4;rw[h4]at h2;exact absurd h2 dQ
 |some p=>rw[hf]at h4;rw[h4]
theorem F3(ho:∀p,findD ds v=some p→¬v<pa)(ht:F2 pa n ds l)(jD:l[v.toNat]?=some pm)(h0:0≤v)(h1:v<(n:Int))(jR:va=(n:Int))(h2:0≤pm.1)(h3:¬pm.2= -2)(h4:pm.1=b):pm.2<q↔cI D pa va ds v b q:=by
 have hf:=vH ht jD h0 h1 h2 h3;have hv:=ho _ hf;constructor
 ·intro h;exact⟨h0,oM,.inr ⟨_,hf,.inl ⟨h4,h⟩⟩⟩
 ·rintro⟨_,_,h|⟨p,hp,h⟩⟩
  ·exact absurd h hv
  ·rw[hf]at hp;injection hp with hp;subst hp;rcases h with⟨_,h⟩|⟨h,_⟩
   ·exact h
   ·exact absurd h4 h
theorem MN(ho:∀p,findD ds v=some p→¬v<pa)(ht:F2 pa n ds l)(jD:l[v.toNat]?=some pm)(h0:0≤v)(h1:v<(n:Int))(jR:va=(n:Int))(h2:0≤pm.1)(h3:¬pm.2= -2)(h4:¬pm.1=b):D pm.1 b↔cI D pa va ds v b q:=by
 have hf:=vH ht jD h0 h1 h2 h3;have hv:=ho _ hf;constructor
 ·intro h;exact⟨h0,oM,.inr ⟨_,hf,.inr ⟨h4,h⟩⟩⟩
 ·rintro⟨_,_,h|⟨p,hp,h⟩⟩
  ·exact absurd h hv
  ·rw[hf]at hp;injection hp with hp;subst hp;rcases h with⟨h,_⟩|⟨_,h⟩
   ·exact absurd h h4
   ·exact h
theorem IX(ht:F2 pa n ds l)(hn:NonNeg ds)(jR:va=(n:Int))(h:¬(0≤v∧v<(n:Int)∧0≤(l.getD v.toNat (0,0)).1)):¬cI D pa va ds v b q:=by
 by_cases hv:0≤v∧v<(n:Int)
 ·have hl:=ht.len;exact MM ht hn (p8 (0,0) oM) hv.1 hv.2 oM
 ·exact BZ oM
theorem F4(ho:∀d,d∈ds→pa≤d.1):∀p,findD ds v=some p→¬v<pa:=by
 intro p hp;by_cases hm:v∈ds.map (·.1)
 ·obtain⟨d,hd,rfl⟩:=List.mem_map.1 hm;have:=ho d hd;omega
 ·rw[gy hm]at hp;cases hp
def gH(bs:List SB)(a b:Int):Prop:=HE (gu bs) a.toNat b.toNat=true
end
structure yT(D:Int→Int→Prop)(E:Int→Int)(R:aE→Prop)(pa va:Int)(fs:List aE)(k:Nat)(x:aE):Prop where
 au:∀(j:Nat) (p:bZ),x.au[j]?=some p→p.args.length=(bG (aq fs) (k:Int)).length∧
  ∀(i:Nat) (a s:Int),p.args[i]?=some a→(bG (aq fs) (k:Int))[i]?=some s→cI D pa va (bO fs) a s (E s)
 insts:∀(j:Nat) (p:bl),x.insts[j]?=some p→∀(i:Nat) (a:Int),p.args[i]?=some a→cI D pa va (bO fs) a (k:Int) (j:Int)
 fin:R x→cI D pa va (bO fs) x.v (k:Int) (E (k:Int))
def ft(D:Int→Int→Prop)(E:Int→Int)(R:aE→Prop)(pa va:Int)(fs:List aE)(k:Nat):Prop:=∃x,fs[k]?=some x∧yT D E R pa va fs k x
noncomputable instance (D : Int → Int → Prop) (E : Int → Int) (R : aE → Prop) (pa va : Int) (fs : List aE) (k : Nat) : Decidable (ft D E R pa va fs k) := Classical.propDecidable _
def wH(fs:List aE)(b:Int):Int:=match fs[b.toNat]? with
 |some x=>(x.insts.length:Int)
 |none=>0
theorem xy{fs:List aE}{k:Nat}{x:aE}(h:fs[k]?=some x):wH fs (k:Int)=(x.insts.length:Int):=by simp[wH,h]
def AB(x:aE):Prop:=x.e=1∨(x.e=2∧0≤x.v)
def qp(x:aE):Prop:=x.e=1∨(x.e=2∧x.v≠-1)
section
variable {D : Int → Int → Prop} {E : Int → Int} {R : aE → Prop} {pa va : Int} {fs : List aE} {k : Nat} {x : aE}
def vJ(D:Int→Int→Prop)(E:Int→Int)(pa va:Int)(fs:List aE)(k:Nat)(x:aE)(j:Nat):Prop:=∀(j':Nat) (p:bZ),j'<j→x.au[j']?=some p→p.args.length=(bG (aq fs) (k:Int)).length∧∀(i:Nat) (a s:Int),p.args[i]?=some a→(bG (aq fs) (k:Int))[i]?=some s→cI D pa va (bO fs) a s (E s)
def B0(D:Int→Int→Prop)(E:Int→Int)(pa va:Int)(fs:List aE)(k:Nat)(p:bZ)(i:Nat):Prop:=∀(i':Nat) (a s:Int),i'<i→p.args[i']?=some a→(bG (aq fs) (k:Int))[i']?=some s→cI D pa va (bO fs) a s (E s)
def vL(D:Int→Int→Prop)(pa va:Int)(fs:List aE)(k:Nat)(x:aE)(j:Nat):Prop:=∀(j':Nat) (p:bl),j'<j→x.insts[j']?=some p→∀(i:Nat) (a:Int),p.args[i]?=some a→cI D pa va (bO fs) a (k:Int) (j':Int)
def MO(D:Int→Int→Prop)(pa va:Int)(fs:List aE)(k j:Nat)(p:bl)(i:Nat):Prop:=∀(i':Nat) (a:Int),i'<i→p.args[i']?=some a→cI D pa va (bO fs) a (k:Int) (j:Int)
theorem mX{P:Nat→Prop}{n:Nat}(h:∀i,i<n→P i)(hn:P n):∀i,i<n+1→P i:=fun i hi=>by
 by_cases e:i=n
 ·subst e;exact hn
 ·exact h i oM
theorem vJ.next{j:Nat}{p:bZ}(h:vJ D E pa va fs k x j)(hp:x.au[j]?=some p)(hl:p.args.length=(bG (aq fs) (k:Int)).length)(ha:B0 D E pa va fs k p p.args.length):vJ D E pa va fs k x (j+1):=by
 intro j' p' hj EC;by_cases e:j'=j
 ·subst e;rw[hp]at EC;injection EC with EC;subst EC;exact⟨hl,fun i a s hi=>ha i a s (List.getElem?_eq_some_iff.1 hi).1 hi⟩
 ·exact h j' p' oM EC
theorem B0.next{i:Nat}{p:bZ}{a s:Int}(h:B0 D E pa va fs k p i)(hi:p.args[i]?=some a)(hs:(bG (aq fs) (k:Int))[i]?=some s)(ht:cI D pa va (bO fs) a s (E s)):B0 D E pa va fs k p (i+1):=by
 intro i' a' s' eV h1 h2;by_cases e:i'=i
 ·subst e;rw[hi]at h1;rw[hs]at h2;injection h1 with h1;injection h2 with h2;subst h1;subst h2;exact ht
 ·exact h i' a' s' oM h1 h2
theorem vL.next{j:Nat}{p:bl}(h:vL D pa va fs k x j)(hp:x.insts[j]?=some p)(ha:MO D pa va fs k j p p.args.length):vL D pa va fs k x (j+1):=by
 intro j' p' hj EC;by_cases e:j'=j
 ·subst e;rw[hp]at EC;injection EC with EC;subst EC;exact fun i a hi=>ha i a (List.getElem?_eq_some_iff.1 hi).1 hi
 ·exact h j' p' oM EC
theorem MO.next{j i:Nat}{p:bl}{a:Int}(h:MO D pa va fs k j p i)(hi:p.args[i]?=some a)(ht:cI D pa va (bO fs) a (k:Int) (j:Int)):MO D pa va fs k j p (i+1):=by
 intro i' a' eV h1;by_cases e:i'=i
 ·subst e;rw[hi]at h1;injection h1 with h1;subst h1;exact ht
 ·exact h i' a' oM h1
theorem q0(hx:fs[k]?=some x)(h1:vJ D E pa va fs k x x.au.length)(h2:vL D pa va fs k x x.insts.length)(h3:R x→cI D pa va (bO fs) x.v (k:Int) (E (k:Int))):ft D E R pa va fs k:=⟨x,hx,fun j p hp=>h1 j p (List.getElem?_eq_some_iff.1 hp).1 hp,fun j p hp=>h2 j p (List.getElem?_eq_some_iff.1 hp).1 hp,h3⟩
theorem nC(hx:fs[k]?=some x)(h:ft D E R pa va fs k):yT D E R pa va fs k x:=by
 obtain⟨y,hy,h⟩:=h;rw[hx]at hy;injection hy with hy;subst hy;exact h
theorem Ca(hx:fs[k]?=some x){j:Nat}{p:bZ}(hp:x.au[j]?=some p)(hl:¬p.args.length=(bG (aq fs) (k:Int)).length):¬ft D E R pa va fs k:=fun h=>hl ((nC hx h).au j p hp).1
theorem Cb(hx:fs[k]?=some x){j i:Nat}{p:bZ}{a s:Int}(hp:x.au[j]?=some p)(hi:p.args[i]?=some a)(hs:(bG (aq fs) (k:Int))[i]?=some s)(ht:¬cI D pa va (bO fs) a s (E s)):¬ft D E R pa va fs k:=fun h=>ht (((nC hx h).au j p hp).2 i a s hi hs)
theorem F5(hx:fs[k]?=some x){j i:Nat}{p:bl}{a:Int}(hp:x.insts[j]?=some p)(hi:p.args[i]?=some a)(ht:¬cI D pa va (bO fs) a (k:Int) (j:Int)):¬ft D E R pa va fs k:=fun h=>ht ((nC hx h).insts j p hp i a hi)
end
end Go.Mor
namespace Go.Mor
open Go.RowKit
structure iY(nm:aV)(pa va:Int)(fs:List aE):Prop where
 name:bB nm
 par:0≤pa∧pa≤16∧pa≤va
 pos:0<fs.length
 au:∀x,fs[0]?=some x→x.au.length=0
 src:(bG (aq fs) 0).length=0
 all:(aH (aq fs)).length=fs.length
 ends:∀x,x∈fs→fU (fs.length:Int) x
 bC:VQ pa va fs
 reads:∀k,k<fs.length→ft (Dm (tg (aq fs))) (fun _=>20000) qp pa va fs k
noncomputable instance (nm : ByteArray) (pa va : Int) (fs : List aE) : Decidable (iY nm pa va fs) := Classical.propDecidable _
noncomputable def cC(nm:aV)(pa va:Int)(fs:List aE):Int:=if(dw fs:Int)>20000∨va>20000 then 12 else if iY nm pa va fs then 0 else 4
section
variable {nm : ByteArray} {pa va : Int} {fs : List aE}
theorem F6(h:(dw fs:Int)>20000∨va>20000):(12:Int)=cC nm pa va fs:=by rw[cC,if_pos h]
theorem fC(h:¬((dw fs:Int)>20000∨va>20000))(hg:¬iY nm pa va fs):(4:Int)=cC nm pa va fs:=by rw[cC,if_neg h,if_neg hg]
theorem DQ(h:¬((dw fs:Int)>20000∨va>20000))(hg:iY nm pa va fs):(0:Int)=cC nm pa va fs:=by rw[cC,if_neg h,if_pos hg]
end
section
variable {bs : List SB}
theorem nD:(aH bs).length=bs.length↔∀i:Nat,i<bs.length→fJ bs (-1) (i:Int)=true:=by
 rw[←WZ];unfold Qb5;have h:=List.length_filter_eq_length_iff (p:=fun i:Nat=>fJ bs (-1) (i:Int)) (l:=List.range bs.length);rw[List.length_range]at h;rw[h];simp only[List.mem_range]
theorem u5(hl:(aH bs).length=bs.length){b:Int}(h0:0≤b)(h1:b<(bs.length:Int)):0≤iz bs b:=by
 have hp:0<bs.length:=oM;have:=nD.1 hl b.toNat oM;rw[Int.toNat_of_nonneg h0]at this;exact((iC hp).reach _).2 (j5.1 this)
theorem Rf{up:Int→Int}{n:Nat}{f g:Int→Int}(h0:0<bs.length)(hl:(aH bs).length=bs.length)(hf:DB bs up)(hn:FIN (fa bs up) n f g){a b:Int}(ha:0≤a∧a<(bs.length:Int))(hb:0≤b∧b<(bs.length:Int)):eh f g a b↔Dm (tg bs) a b:=by
 have pa:=u5 hl ha.1 ha.2;have pb:=u5 hl hb.1 hb.2;have h00:0≤iz bs 0:=by rw[(iC h0).zero];omega
 rw[eh,FIN.Qb6 (hf.tree h0) h00 (hf.cV h0) hn pa pb];exact⟨hf.dm b a,hf.ok.Iu (hf.It b pb)⟩
theorem W3(h0:0<bs.length)(hl:(aH bs).length=bs.length){a b:Int}(ha:0≤a∧a<(bs.length:Int))(hb:0≤b∧b<(bs.length:Int)):gH bs a b↔Dm (tg bs) a b:=by
 have pb:=((iC h0).reach _).1 (u5 hl hb.1 hb.2);unfold gH;rw[tK oM oM,Int.toNat_of_nonneg ha.1,Int.toNat_of_nonneg hb.1];exact⟨fun h=>h.2,fun h=>⟨pb,h⟩⟩
end
theorem IY{fs:List aE}{d:Int×Int×Int}(h:d∈bO fs):∃x,fs[d.2.1.toNat]?=some x∧d.2.2<(x.insts.length:Int):=by
 unfold bO dz at h;rw[List.mem_flatMap]at h;obtain⟨x,hx,hd⟩:=h;rw[List.take_length]at hx;have hx1:fs[x.2]?=some x.1:=List.mem_zipIdx_iff_getElem?.1 hx;unfold eZ at hd;rcases List.mem_append.1 hd with hd|hd
 ·unfold cW at hd;obtain⟨p,_,rfl⟩:=List.mem_map.1 hd;refine⟨x.1,by simpa using hx1,?_⟩;show(-1:Int)<_;omega
 ·unfold dv at hd;obtain⟨p,hp,rfl⟩:=List.mem_map.1 hd;have hp1:x.1.insts[p.2]?=some p.1:=List.mem_zipIdx_iff_getElem?.1 (List.mem_filter.1 hp).1;have:=(List.getElem?_eq_some_iff.1 hp1).1;refine⟨x.1,by simpa using hx1,?_⟩;show(p.2:Int)<_;omega
theorem F7{fs:List aE}{k:Nat}{x:aE}(h:fs[k]?=some x):x.insts.length≤dw fs:=by
 have hk:=(List.getElem?_eq_some_iff.1 h).1;have key:∀n,k<n→n≤fs.length→x.insts.length≤jd fs n:=by
  intro n;induction n with
  |zero=>intro h1;omega
  |succ n ih=>
   intro h1 h2;obtain⟨y,hy⟩:=aM (l:=fs) (i:=n) oM;rw[ky hy];by_cases e:k=n
   ·subst e;rw[h]at hy;injection hy with hy;subst hy;omega
   ·have:=ih oM oM;omega
 have:=key fs.length hk (Nat.le_refl _);unfold dw;omega
section
variable {D D' : Int → Int → Prop} {E E' : Int → Int} {R R' : aE → Prop} {pa va : Int} {fs : List aE}
structure qq(D D':Int→Int→Prop)(E E':Int→Int)(fs:List aE):Prop where
 QD:∀a b:Int,0≤a∧a<(fs.length:Int)→0≤b∧b<(fs.length:Int)→(D a b↔D' a b)
 fin:∀d,d∈bO fs→(d.2.2<E d.2.1↔d.2.2<E' d.2.1)
theorem qq.symm(h:qq D D' E E' fs):qq D' D E' E fs:=⟨fun a b ha hb=>(h.QD a b ha hb).symm,fun d hd=>(h.fin d hd).symm⟩
theorem qq.there(h:qq D D' E E' fs){v b q q':Int}(hb:0≤b∧b<(fs.length:Int))(hq:(q=E b∧q'=E' b)∨q=q')(ht:cI D pa va (bO fs) v b q):cI D' pa va (bO fs) v b q':=by
 obtain⟨h1,h2,h3|⟨p,hp,h3⟩⟩:=ht
 ·exact⟨h1,h2,.inl h3⟩
 ·refine⟨h1,h2,.inr ⟨p,hp,?_⟩⟩;have hm:(v,p)∈bO fs:=by
   by_cases hm:v∈(bO fs).map (·.1)
   ·obtain⟨p',h4,h5⟩:=ig hm;rw[hp]at h4;injection h4 with h4;subst h4;exact h5
   ·rw[gy hm]at hp;cases hp
  have hr:=tA hm;rcases h3 with⟨h3,h4⟩|⟨h3,h4⟩
  ·refine .inl ⟨h3,?_⟩;rcases hq with⟨rfl,rfl⟩|rfl
   ·have:=h.fin _ hm;simp only[h3]at this;exact this.1 h4
   ·exact h4
  ·exact .inr ⟨h3,(h.QD _ _ ⟨hr.1,hr.2.1⟩ hb).1 h4⟩
theorem qq.reads(h:qq D D' E E' fs){k:Nat}{x:aE}(hk:k<fs.length)(hR:R' x→R x)(hr:yT D E R pa va fs k x):yT D' E' R' pa va fs k x where
 au j p hp:=by obtain⟨h1,h2⟩:=hr.au j p hp;refine⟨h1,fun i a s ha hs=>h.there ?_ (.inl ⟨rfl,rfl⟩) (h2 i a s ha hs)⟩;have hi:=(List.getElem?_eq_some_iff.1 hs).1;obtain⟨si,h3,h4⟩:=xt hi;rw[hs]at h3;injection h3 with h3;subst h3;rw[bK]at h4;omega
 insts j p hp i a ha:=h.there oM (.inr rfl) (hr.insts j p hp i a ha);fin hx:=h.there oM (.inl ⟨rfl,rfl⟩) (hr.fin (hR hx))
theorem qq.ft(h:qq D D' E E' fs){k:Nat}(hR:∀x,fs[k]?=some x→R' x→R x)(hr:ft D E R pa va fs k):ft D' E' R' pa va fs k:=by
 obtain⟨x,hx,hr⟩:=hr;exact⟨x,hx,h.reads (List.getElem?_eq_some_iff.1 hx).1 (hR x hx) hr⟩
end
section
variable {pa va : Int} {fs : List aE}
theorem MP{up:Int→Int}{n:Nat}{f g:Int→Int}(h0:0<fs.length)(hl:(aH (aq fs)).length=fs.length)(hf:DB (aq fs) up)(hn:FIN (fa (aq fs) up) n f g)(hs:(dw fs:Int)≤20000):qq (eh f g) (Dm (tg (aq fs))) (wH fs) (fun _=>20000) fs where
 QD a b ha hb:=Rf (by rw[bK];exact h0) (by rw[bK];exact hl) hf hn (by rw[bK];exact ha) (by rw[bK];exact hb);fin d hd:=by
  obtain⟨x,hx,h1⟩:=IY hd;have:=F7 hx;have h2:wH fs d.2.1=(x.insts.length:Int):=by simp[wH,hx]
  rw[h2];constructor<;>intro<;>omega
theorem Cc(h0:0<fs.length)(hl:(aH (aq fs)).length=fs.length):qq (gH (aq fs)) (Dm (tg (aq fs))) (fun _=>20000) (fun _=>20000) fs where
 QD a b ha hb:=W3 (by rw[bK];exact h0) (by rw[bK];exact hl) (by rw[bK];exact ha) (by rw[bK];exact hb);fin d hd:=Iff.rfl
theorem Rg{N:Int}{x:aE}(h:nr N x):qp x↔AB x:=by
 unfold qp AB;have:=h.2;omega
theorem KX{nm:aV}(h:iY nm pa va fs):∀x,x∈fs→nr (fs.length:Int) x:=by
 intro x hx;refine⟨h.ends x hx,fun he=> ?_⟩;obtain⟨k,hk⟩:=List.mem_iff_getElem?.1 hx;obtain⟨y,hy,hr⟩:=h.reads k (List.getElem?_eq_some_iff.1 hk).1;rw[hk]at hy;injection hy with hy;subst hy;by_cases hv:x.v= -1
 ·omega
 ·have:=(hr.fin (.inr ⟨he,hv⟩)).1;omega
end
end Go.Mor
namespace Go.Mor
theorem Cd{fs:List aE}{Q:aE→Prop}{m:Nat}{x:aE}(h:∀(i:Nat) (x:aE),i<m→fs[i]?=some x→Q x)(hx:fs[m]?=some x)(hq:Q x):∀(i:Nat) (x:aE),i<m+1→fs[i]?=some x→Q x:=by
 intro i y hi hy;by_cases e:i=m
 ·subst e;rw[hx]at hy;injection hy with hy;exact hy▸hq
 ·exact h i y oM hy
end Go.Mor
namespace Go.Mor
theorem MQ{Bk Bv B:Bool}{Wk:Nat→Bool}{k:Nat}(h:Bk=true↔Bv=true∧∀i:Nat,i<k→Wk i=true)(hB:B=true↔Bk=true):(B&&Wk k)=true↔Bv=true∧∀i:Nat,i<k+1→Wk i=true:=by
 rw[Bool.and_eq_true,hB,h];constructor
 ·rintro⟨⟨h1,h2⟩,h3⟩;exact⟨h1,mX h2 h3⟩
 ·rintro⟨h1,h2⟩;exact⟨⟨h1,fun i hi=>h2 i oM⟩,h2 k oM⟩
end Go.Mor
namespace Go.Mor
open Go.RowKit
def bZ.e0(p:bZ):bZ:=⟨p.dst,none,0,p.args⟩
def bl.e0(p:bl):bl:=⟨p.op,p.dst,p.n,p.name,none,0,p.args⟩
def aE.e0(x:aE):aE:=⟨none,0,x.au.map bZ.e0,none,0,x.insts.map bl.e0,x.e,x.v,x.a,x.b⟩
def eH(fs gs:List aE):Prop:=fs.map aE.e0=gs.map aE.e0
def o5(x:aE):Int×Int×Int:=(x.e,x.a,x.b)
theorem mH{fs gs:List aE}(h:fs.map o5=gs.map o5):tg (aq fs)=tg (aq gs):=by
 have hl:fs.length=gs.length:=by simpa using congrArg List.length h
 funext b;unfold tg;split
 ·have hk:((aq fs)[b.toNat]?).map (fun x:SB=>(x.e,x.a,x.b))=((aq gs)[b.toNat]?).map (fun x:SB=>(x.e,x.a,x.b)):=by have h1:=congrArg (fun l:List (Int×Int×Int)=>l[b.toNat]?) h;simp only[List.getElem?_map]at h1;unfold aq;simp only[List.getElem?_map,Option.map_map];exact h1
  revert hk;cases h1:(aq fs)[b.toNat]?<;>cases h2:(aq gs)[b.toNat]?<;>simp;rename_i x y;intro e1 e2 e3;unfold Ag;rw[e1,e2,e3,bK,bK,hl]
 ·rfl
theorem j7{fs gs:List aE}(h:fs.map o5=gs.map o5):bG (aq fs)=bG (aq gs):=by
 have hl:fs.length=gs.length:=by simpa using congrArg List.length h
 funext b;unfold bG ef;rw[mH h,bK,bK,hl]
theorem yU{fs gs:List aE}(h:fs.map o5=gs.map o5):(aH (aq fs)).length=fs.length↔(aH (aq gs)).length=gs.length:=by
 have hl:fs.length=gs.length:=by simpa using congrArg List.length h
 have h1:=nD (bs:=aq fs);have h2:=nD (bs:=aq gs);rw[bK]at h1 h2;rw[h1,h2,hl];unfold fJ;rw[mH h,bK,bK,hl]
theorem DR{fs gs:List aE}(h:eH fs gs):fs.map o5=gs.map o5:=by
 have:o5=o5∘aE.e0:=rfl;rw[this,←List.map_map,←List.map_map,h]
theorem qu{fs gs:List aE}(h:eH fs gs){k:Nat}{x:aE}(hx:fs[k]?=some x):∃y,gs[k]?=some y∧x.e0=y.e0:=by
 have h1:=congrArg (fun l:List aE=>l[k]?) h;simp only[List.getElem?_map,hx,Option.map_some]at h1;cases hy:gs[k]? with
 |none=>rw[hy]at h1;simp at h1
 |some y=>rw[hy]at h1;simp at h1;exact⟨y,rfl,h1⟩
theorem eH.symm{fs gs:List aE}(h:eH fs gs):eH gs fs:=Eq.symm h
theorem eH.len{fs gs:List aE}(h:eH fs gs):fs.length=gs.length:=by simpa using congrArg List.length h
section
variable {x y : aE}
theorem Rh(h:x.e0=y.e0):x.e=y.e:=show x.e0.e=y.e0.e by rw[h]
theorem MR(h:x.e0=y.e0):x.v=y.v:=show x.e0.v=y.e0.v by rw[h]
theorem Qb8(h:x.e0=y.e0):x.a=y.a:=show x.e0.a=y.e0.a by rw[h]
theorem Qb9(h:x.e0=y.e0):x.b=y.b:=show x.e0.b=y.e0.b by rw[h]
theorem tS(h:x.e0=y.e0):x.au.map bZ.e0=y.au.map bZ.e0:=show x.e0.au=y.e0.au by rw[h]
theorem tT(h:x.e0=y.e0):x.insts.map bl.e0=y.insts.map bl.e0:=show x.e0.insts=y.e0.insts by rw[h]
theorem IZ(h:x.e0=y.e0){j:Nat}{p:bZ}(hp:x.au[j]?=some p):∃q,y.au[j]?=some q∧p.dst=q.dst∧p.args=q.args:=by
 have h1:=congrArg (fun l:List bZ=>l[j]?) (tS h);simp only[List.getElem?_map,hp,Option.map_some]at h1;cases hy:y.au[j]? with
 |none=>rw[hy]at h1;simp at h1
 |some q=>rw[hy]at h1;simp[bZ.e0]at h1;exact⟨q,rfl,h1⟩
theorem tU(h:x.e0=y.e0){j:Nat}{p:bl}(hp:x.insts[j]?=some p):∃q,y.insts[j]?=some q∧p.op=q.op∧p.dst=q.dst∧p.n=q.n∧p.name=q.name∧p.args=q.args:=by
 have h1:=congrArg (fun l:List bl=>l[j]?) (tT h);simp only[List.getElem?_map,hp,Option.map_some]at h1;cases hy:y.insts[j]? with
 |none=>rw[hy]at h1;simp at h1
 |some q=>rw[hy]at h1;simp[bl.e0]at h1;exact⟨q,rfl,h1⟩
theorem I0(b:Int)(x:aE):eZ b x.e0=eZ b x:=by
 unfold eZ cW dv;simp[aE.e0,bZ.e0,bl.e0,List.zipIdx_map,List.filter_map,Function.comp_def];rfl
theorem F8(fs:List aE):bO (fs.map aE.e0)=bO fs:=by
 unfold bO dz;rw[List.length_map,List.take_of_length_le sI,List.take_of_length_le sI];simp[List.zipIdx_map,List.flatMap_map,I0]
end
theorem MS{p q:bl}(h1:p.op=q.op)(h2:p.dst=q.dst)(h3:p.n=q.n)(h4:p.name=q.name)(h5:p.args.length=q.args.length)(h:bQ p):bQ q:=by
 unfold bQ at h⊢;rw[←h1,←h2,←h3,←h4,←h5];exact h
theorem tV(fs:List aE):dw (fs.map aE.e0)=dw fs:=by
 unfold dw jd;rw[List.length_map,List.take_of_length_le sI,List.take_of_length_le sI];simp[aE.e0,Function.comp_def]
theorem sO{nm:aV}{pa va:Int}{fs gs:List aE}(h:eH fs gs)(hg:iY nm pa va fs):iY nm pa va gs:=by
 have he:=DR h;have hd:bO fs=bO gs:=by rw[←F8 fs,←F8 gs,h]
 have hl:=h.len;refine⟨hg.name,hg.par,by have:=hg.pos;omega,fun x hx=> ?_,?_,(yU he).1 hg.all,fun x hx=> ?_,⟨fun x hx p hp=> ?_,hd▸hg.bC.2⟩,fun k hk=> ?_⟩
 ·obtain⟨y,hy,e⟩:=qu h.symm hx;have h1:=congrArg List.length (tS e);simp at h1;rw[h1];exact hg.au y hy
 ·rw[←j7 he];exact hg.src
 ·obtain⟨k,hk⟩:=List.mem_iff_getElem?.1 hx;obtain⟨y,hy,e⟩:=qu h.symm hk;have h1:=hg.ends y (List.mem_of_getElem? hy);unfold fU at h1⊢;have e1:x.e=y.e:=Rh e;have e2:x.v=y.v:=MR e;have e3:x.a=y.a:=Qb8 e;have e4:x.b=y.b:=Qb9 e;rw[e1,e2,e3,e4,←hl];exact h1
 ·obtain⟨k,hk⟩:=List.mem_iff_getElem?.1 hx;obtain⟨y,hy,e⟩:=qu h.symm hk;obtain⟨j,hj⟩:=List.mem_iff_getElem?.1 hp;obtain⟨q,hq,e1,e2,e3,e4,e5⟩:=tU e hj;exact MS e1.symm e2.symm e3.symm e4.symm (by rw[e5]) (hg.bC.1 y (List.mem_of_getElem? hy) q (List.mem_of_getElem? hq))
 ·obtain⟨x,hx,hr⟩:=hg.reads k oM;obtain⟨y,hy,e⟩:=qu h hx;have ee:x.e=y.e:=Rh e;have ev:x.v=y.v:=MR e;refine⟨y,hy,⟨fun j p hp=> ?_,fun j p hp i a ha=> ?_,fun hR=> ?_⟩⟩
  ·obtain⟨q,hq,e1,e2⟩:=IZ e.symm hp;have:=hr.au j q hq;rw[←j7 he,←mH he,←hd,e2];exact this
  ·obtain⟨q,hq,e1,e2,e3,e4,e5⟩:=tU e.symm hp;rw[e5]at ha;have:=hr.insts j q hq i a ha;rw[←mH he,←hd];exact this
  ·rw[←mH he,←hd,←ev];refine hr.fin ?_;unfold qp at hR⊢;rw[ee,ev];exact hR
theorem vM{nm:aV}{pa va:Int}{fs gs:List aE}(h:eH fs gs):cC nm pa va fs=cC nm pa va gs:=by
 unfold cC;have hs:dw fs=dw gs:=by rw[←tV fs,←tV gs,h]
 rw[hs];have:iY nm pa va fs↔iY nm pa va gs:=⟨sO h,sO h.symm⟩;simp only[this]
end Go.Mor
namespace Go.Mor
open Go.RowKit
theorem mem_zipIdx{α:Type}{l:List α}{x:α}{i:Nat}:(x,i)∈l.zipIdx↔l[i]?=some x:=by
 rw[List.mem_zipIdx_iff_getElem?]
def o6(x:aE):af:=x.au.map (fun p=>p.dst)++(x.insts.filter (fun i=>decide (aK i.op))).map (fun i=>i.dst)
theorem F9(b:Int)(x:aE):(eZ b x).map (·.1)=o6 x:=by
 unfold eZ cW dv o6;have h:∀(l:List bl) (n:Nat),((l.zipIdx n).filter (fun x=>decide (aK x.1.op))).map (fun x=>x.1.dst)=(l.filter (fun i=>decide (aK i.op))).map (fun i=>i.dst):=by
  intro l;induction l with
  |nil=>intro n;rfl
  |cons a l ih=>
   intro n;rw[List.zipIdx_cons,List.filter_cons,List.filter_cons];by_cases hm:aK a.op<;>simp[hm,ih (n+1)]
 have:=h x.insts 0;simp only[List.map_append,List.map_map];congr 1
theorem q6(fs:List aE):(bO fs).map (·.1)=fs.flatMap o6:=by
 unfold bO dz;rw[List.take_of_length_le (Nat.le_refl _),List.map_flatMap];have h:∀(l:List aE) (n:Nat),(l.zipIdx n).flatMap (fun x=>(eZ (x.2:Int) x.1).map (·.1))=l.flatMap o6:=by
  intro l;induction l with
  |nil=>intro n;rfl
  |cons a l ih=>intro n;rw[List.zipIdx_cons,List.flatMap_cons,List.flatMap_cons,ih (n+1),F9]
 exact h fs 0
theorem q7{fs:List aE}{v b q:Int}:(v,b,q)∈bO fs↔∃(k:Nat) (x:aE),fs[k]?=some x∧b=(k:Int)∧((q= -1∧∃p,p∈x.au∧p.dst=v)∨∃(j:Nat) (i:bl),x.insts[j]?=some i∧aK i.op∧i.dst=v∧q=(j:Int)):=by
 unfold bO dz;rw[List.take_of_length_le (Nat.le_refl _),List.mem_flatMap];constructor
 ·rintro⟨⟨x,k⟩,hx,hd⟩;have uI:=mem_zipIdx.1 hx;refine⟨k,x,uI,?_⟩;unfold eZ cW dv at hd;rcases List.mem_append.1 hd with hd|hd
  ·obtain⟨p,hp,he⟩:=List.mem_map.1 hd;simp at he;exact⟨he.2.1.symm,.inl ⟨he.2.2.symm,p,hp,he.1⟩⟩
  ·obtain⟨⟨i,j⟩,hp,he⟩:=List.mem_map.1 hd;obtain⟨h1,h2⟩:=List.mem_filter.1 hp;simp at he h2;exact⟨he.2.1.symm,.inr ⟨j,i,mem_zipIdx.1 h1,h2,he.1,he.2.2.symm⟩⟩
 ·rintro⟨k,x,hx,rfl,h⟩;refine⟨(x,k),mem_zipIdx.2 hx,?_⟩;unfold eZ cW dv;rcases h with⟨rfl,p,hp,rfl⟩|⟨j,i,hi,hm,rfl,rfl⟩
  ·exact List.mem_append_left _ (List.mem_map.2 ⟨p,hp,rfl⟩)
  ·exact List.mem_append_right _ (List.mem_map.2 ⟨(i,j),List.mem_filter.2 ⟨mem_zipIdx.2 hi,by simp[hm]⟩,rfl⟩)
theorem Ce{ds:tz}(hn:(ds.map (·.1)).Nodup){v:Int}{p:Int×Int}:findD ds v=some p↔(v,p)∈ds:=by
 constructor
 ·intro h;by_cases hm:v∈ds.map (·.1)
  ·obtain⟨q,h1,h2⟩:=ig hm;rw[h1]at h;injection h with h;subst h;exact h2
  ·rw[gy hm]at h;cases h
 ·intro h;obtain⟨q,h1,h2⟩:=ig (List.mem_map.2 ⟨(v,p),h,rfl⟩);have:q=p:=by
   have hp:=List.pairwise_map.1 hn;rcases Classical.em (((v,q):Int×Int×Int)=(v,p))with e|e
   ·injection e
   ·exfalso;obtain⟨i,hi⟩:=List.mem_iff_getElem?.1 h;obtain⟨j,hj⟩:=List.mem_iff_getElem?.1 h2;exact lv (R:=fun a b:Int×Int×Int=>a.1≠b.1) (fun _ _ h e=>h e.symm) hp hi hj (fun e2=>e (by subst e2;rw[hi]at hj;injection hj with hj;exact hj.symm)) rfl
  rw[h1,this]
theorem yV{D:Int→Int→Prop}{pa va:Int}{ds:tz}(hn:(ds.map (·.1)).Nodup){v b q:Int}:cI D pa va ds v b q↔0≤v∧v<va∧(v<pa∨∃c k,(v,c,k)∈ds∧((c=b∧k<q)∨(c≠b∧D c b))):=by
 unfold cI;constructor
 ·rintro⟨h1,h2,h3|⟨p,hp,h3⟩⟩
  ·exact⟨h1,h2,.inl h3⟩
  ·exact⟨h1,h2,.inr ⟨p.1,p.2,(Ce hn).1 hp,h3⟩⟩
 ·rintro⟨h1,h2,h3|⟨c,k,hp,h3⟩⟩
  ·exact⟨h1,h2,.inl h3⟩
  ·exact⟨h1,h2,.inr ⟨(c,k),(Ce hn).2 hp,h3⟩⟩
section
variable {α : Type} {f : α → Bool} {l : List α}
def pI(f:α→Bool)(l:List α)(j:Nat):Nat:=((l.take j).filter f).length
theorem MT{j:Nat}{x:α}(hx:l[j]?=some x)(hf:f x=true):(l.filter f)[pI f l j]?=some x:=by
 obtain⟨hj,he⟩:=List.getElem?_eq_some_iff.1 hx;have e:l.filter f=(l.take j).filter f++(x::(l.drop (j+1)).filter f):=by
  conv=>lhs;rw[←List.take_append_drop j l]
  rw[List.filter_append,List.drop_eq_getElem_cons hj,he,List.filter_cons,if_pos hf]
 unfold pI;rw[e,List.getElem?_append_right (Nat.le_refl _),Nat.sub_self];rfl
theorem W4(j:Nat):pI f l j≤j:=by
 unfold pI;exact Nat.le_trans (List.length_filter_le _ _) (by simp;omega)
theorem Ri{i j:Nat}(h:i≤j):pI f l i≤pI f l j:=by
 unfold pI;obtain⟨d,rfl⟩:=Nat.le.dest h;rw[List.take_add,List.filter_append,List.length_append];omega
theorem Rj{j:Nat}{x:α}(hx:l[j]?=some x)(hf:f x=true):pI f l (j+1)=pI f l j+1:=by
 obtain⟨hj,he⟩:=List.getElem?_eq_some_iff.1 hx;unfold pI;rw[List.take_succ_eq_append_getElem hj,List.filter_append,List.length_append,he];simp[hf]
theorem Qca{i j:Nat}{x:α}(hx:l[i]?=some x)(hf:f x=true)(h:i<j):pI f l i<pI f l j:=by
 have h1:=Rj hx hf;have h2:=Ri (f:=f) (l:=l) (i:=i+1) (j:=j) h;omega
theorem vN{m:Nat}{x:α}(hx:(l.filter f)[m]?=some x):∃j,l[j]?=some x∧f x=true∧pI f l j=m:=by
 induction l generalizing m with
 |nil=>simp at hx
 |cons a l ih=>
  rw[List.filter_cons]at hx;by_cases ha:f a=true
  ·rw[if_pos ha]at hx;cases m with
   |zero=>simp at hx;subst hx;exact⟨0,rfl,ha,rfl⟩
   |succ m=>
    simp at hx;obtain⟨j,h1,h2,h3⟩:=ih hx;refine⟨j+1,by simpa using h1,h2,?_⟩;unfold pI at h3⊢;rw[u6,List.filter_cons,if_pos ha,List.length_cons,h3]
  ·rw[if_neg ha]at hx;obtain⟨j,h1,h2,h3⟩:=ih hx;refine⟨j+1,by simpa using h1,h2,?_⟩;unfold pI at h3⊢;rw[u6,List.filter_cons,if_neg ha,h3]
end
def db(op:Int):Prop:=op=1∨op=12∨op=6∨op=7∨(16≤op∧op≠20∧op≠21)
instance (op : Int) : Decidable (db op) := by unfold db; infer_instance
theorem jf{op:Int}(h:db op):aK op:=by unfold db at h;unfold aK;omega
inductive Rd(fs:List aE):Int→Prop
 |inst {x:aE} {i:bl} {v:Int}:x∈fs→i∈x.insts→¬db i.op→v∈i.args→0≤v→Rd fs v
 |fin {x:aE}:x∈fs→(x.e=1∨x.e=2)→0≤x.v→Rd fs x.v
 |sf {x:aE} {p:bZ} {v:Int}:x∈fs→p∈x.au→Rd fs p.dst→v∈p.args→0≤v→Rd fs v
 |pure {x:aE} {i:bl} {v:Int}:x∈fs→i∈x.insts→db i.op→Rd fs i.dst→v∈i.args→0≤v→Rd fs v
noncomputable instance (fs : List aE) (v : Int) : Decidable (Rd fs v) := Classical.propDecidable _
noncomputable def o7(fs:List aE)(p:bZ):Bool:=decide (Rd fs p.dst)
noncomputable def jk(fs:List aE)(i:bl):Bool:=decide (¬(db i.op∧¬Rd fs i.dst))
noncomputable def gX(fs:List aE)(x:aE):aE:={x with au:=x.au.filter (o7 fs),insts:=x.insts.filter (jk fs)}
noncomputable def fe(fs:List aE):List aE:=fs.map (gX fs)
section
variable {fs : List aE} {nm : ByteArray} {pa va : Int}
theorem nE{k:Nat}{y:aE}:(fe fs)[k]?=some y↔∃x,fs[k]?=some x∧y=gX fs x:=by
 unfold fe;rw[List.getElem?_map,Option.map_eq_some_iff];exact⟨fun⟨x,h,e⟩=>⟨x,h,e.symm⟩,fun⟨x,h,e⟩=>⟨x,h,e.symm⟩⟩
theorem Cf{y:aE}:y∈fe fs↔∃x,x∈fs∧y=gX fs x:=by
 unfold fe;rw[List.mem_map];exact⟨fun⟨x,h,e⟩=>⟨x,h,e.symm⟩,fun⟨x,h,e⟩=>⟨x,h,e.symm⟩⟩
theorem yW:(fe fs).map o5=fs.map o5:=by
 unfold fe;rw[List.map_map];rfl
theorem Ga{i:bl}:jk fs i=true↔(db i.op→Rd fs i.dst):=by
 unfold jk;rw[decide_eq_true_eq];constructor
 ·intro h hp;exact yX fun hn=>h ⟨hp,hn⟩
 ·rintro h ⟨h1,h2⟩;exact h2 (h h1)
theorem Cg{x:aE}{i:bl}{v:Int}(hx:x∈fs)(hi:i∈x.insts)(hk:jk fs i=true)(hv:v∈i.args)(h0:0≤v):Rd fs v:=by
 by_cases hp:db i.op
 ·exact .pure hx hi hp (Ga.1 hk hp) hv h0
 ·exact .inst hx hi hp hv h0
theorem Gb{x:aE}{p:bZ}{v:Int}(hx:x∈fs)(hi:p∈x.au)(hk:o7 fs p=true)(hv:v∈p.args)(h0:0≤v):Rd fs v:= .sf hx hi (of_decide_eq_true hk) hv h0
theorem Gc{α β:Type}{f g:α→List β}:∀{l:List α},(∀x,x∈l→(f x).Sublist (g x))→(l.flatMap f).Sublist (l.flatMap g)
 |[],_=>List.Sublist.refl _
 |a::l,h=>by rw[List.flatMap_cons,List.flatMap_cons];exact(h a (List.mem_cons_self ..)).append (Gc fun x hx=>h x (List.mem_cons_of_mem _ hx))
theorem Rk(x:aE):(o6 (gX fs x)).Sublist (o6 x):=by
 unfold o6 gX;refine List.Sublist.append (List.filter_sublist.map _) ?_;exact(List.filter_sublist.filter _).map _
theorem Ch(h:eO pa va (bO fs)):eO pa va (bO (fe fs)):=by
 have hs:((bO (fe fs)).map (·.1)).Sublist ((bO fs).map (·.1)):=by rw[q6,q6];unfold fe;rw[List.flatMap_map];exact Gc fun x _=>Rk x
 refine⟨fun d hd=> ?_,h.2.sublist hs⟩;have:=hs.subset (List.mem_map.2 ⟨d,hd,rfl⟩);obtain⟨e,he,h1⟩:=List.mem_map.1 this;rw[←h1];exact h.1 e he
theorem Rl{v:Int}{b q:Int}(hv:Rd fs v)(h:(v,b,q)∈bO fs):∃q',(v,b,q')∈bO (fe fs)∧q'≤q∧∀(k:Nat) (x:aE) (j:Nat),fs[k]?=some x→b=(k:Int)→q<(j:Int)→q'<(pI (jk fs) x.insts j:Int):=by
 obtain⟨k,x,hx,rfl,h|⟨j,i,hi,hm,rfl,rfl⟩⟩:=q7.1 h
 ·obtain⟨rfl,p,hp,rfl⟩:=h;refine⟨-1,q7.2 ⟨k,gX fs x,nE.2 ⟨x,hx,rfl⟩,rfl,.inl ⟨rfl,p,List.mem_filter.2 ⟨hp,decide_eq_true hv⟩,rfl⟩⟩,oM,fun k' x' j' _ _ _=>oM⟩
 ·have hk:jk fs i=true:=Ga.2 fun _=>hv
  refine⟨(pI (jk fs) x.insts j:Nat),q7.2 ⟨k,gX fs x,nE.2 ⟨x,hx,rfl⟩,rfl,.inr ⟨_,i,MT hi hk,hm,rfl,rfl⟩⟩,?_,fun k' x' j' uI e hj=> ?_⟩
  ·have:=W4 (f:=jk fs) (l:=x.insts) j;omega
  ·have:k'=k:=oM;subst this;rw[hx]at uI;injection uI with uI;subst uI;have:=Qca hi hk (j:=j') oM;omega
theorem sP{D:Int→Int→Prop}(ho:eO pa va (bO fs)){v b q q':Int}(hv:Rd fs v)(hq:(∃(k:Nat) (x:aE) (j:Nat),fs[k]?=some x∧b=(k:Int)∧q=(j:Int)∧q'=(pI (jk fs) x.insts j:Int))∨q≤q')(h:cI D pa va (bO fs) v b q):cI D pa va (bO (fe fs)) v b q':=by
 obtain⟨h1,h2,h3⟩:=(yV ho.2).1 h;refine(yV (Ch ho).2).2 ⟨h1,h2,h3.imp id ?_⟩;rintro⟨c,k,hd,h4⟩;obtain⟨k',EI,hle,eV⟩:=Rl hv hd;refine⟨c,k',EI,h4.imp (fun⟨e,hk⟩=>⟨e,?_⟩) id⟩;rcases hq with⟨kb,x,j,hx,rfl,rfl,rfl⟩|hq
 ·exact eV kb x j hx e hk
 ·omega
theorem MU(h:iY nm pa va fs):iY nm pa va (fe fs):=by
 have he:=yW (fs:=fs);have hl:(fe fs).length=fs.length:=by unfold fe;simp
 have ho:=h.bC.2;refine⟨h.name,h.par,by rw[hl];exact h.pos,fun y hy=> ?_,?_,(yU he).2 h.all,fun y hy=> ?_,⟨fun y hy p hp=> ?_,Ch ho⟩,fun k hk=> ?_⟩
 ·obtain⟨x,hx,rfl⟩:=nE.1 hy;have:=h.au x hx;have h2:=List.length_filter_le (o7 fs) x.au;show(x.au.filter (o7 fs)).length=0;omega
 ·rw[j7 he];exact h.src
 ·obtain⟨x,hx,rfl⟩:=Cf.1 hy;rw[hl];exact h.ends x hx
 ·obtain⟨x,hx,rfl⟩:=Cf.1 hy;exact h.bC.1 x hx p (List.mem_filter.1 hp).1
 ·obtain⟨x,hx,hr⟩:=h.reads k oM;have mI:=List.mem_of_getElem? hx;refine⟨gX fs x,nE.2 ⟨x,hx,rfl⟩,⟨fun j p hp=> ?_,fun m p hp i a ha=> ?_,fun hR=> ?_⟩⟩
  ·have EC:(x.au.filter (o7 fs))[j]?=some p:=hp;obtain⟨j',h1,h2,_⟩:=vN EC;obtain⟨h3,h4⟩:=hr.au j' p h1;rw[j7 he,mH he];refine⟨h3,fun i a s ha hs=> ?_⟩;have ht:=h4 i a s ha hs;exact sP ho (Gb mI (List.mem_of_getElem? h1) h2 (List.mem_of_getElem? ha) ht.1) (.inr (Int.le_refl _)) ht
  ·have EC:(x.insts.filter (jk fs))[m]?=some p:=hp;obtain⟨j',h1,h2,h3⟩:=vN EC;have ht:=hr.insts j' p h1 i a ha;rw[mH he];exact sP ho (Cg mI (List.mem_of_getElem? h1) h2 (List.mem_of_getElem? ha) ht.1) (.inl ⟨k,x,j',hx,rfl,rfl,by rw[h3]⟩) ht
  ·have hR':qp x:=hR;have ht:=hr.fin hR';rw[mH he];have hf:Rd fs x.v:= .fin mI (by unfold qp at hR';exact hR'.imp id (fun h=>h.1)) ht.1;exact sP ho hf (.inr (Int.le_refl _)) ht
theorem MV:dw (fe fs)≤dw fs:=by
 unfold dw jd;rw[List.take_of_length_le (Nat.le_refl _),List.take_of_length_le (Nat.le_refl _)];unfold fe;rw[List.length_map,List.map_map];have:∀l:List aE,(l.map ((fun x=>x.au.length+x.insts.length)∘gX fs)).sum≤(l.map (fun x=>x.au.length+x.insts.length)).sum:=by
  intro l;induction l with
  |nil=>simp
  |cons a l ih=>
   have h1:=List.length_filter_le (o7 fs) a.au;have h2:=List.length_filter_le (jk fs) a.insts;simp only[List.map_cons,List.sum_cons,Function.comp_apply];have h3:(gX fs a).au.length≤a.au.length:=h1;have h4:(gX fs a).insts.length≤a.insts.length:=h2;omega
 have:=this fs;omega
theorem yY(h:cC nm pa va fs=0):cC nm pa va (fe fs)=0:=by
 unfold cC at h⊢;split at h
 ·cases h
 ·rename_i h1;split at h
  ·rename_i h2;have:=MV (fs:=fs);rw[if_neg oM,if_pos (MU h2)]
  ·cases h
end
end Go.Mor
namespace Go.Mor
open Go.RowKit
theorem DS{l:af}{i j:Nat}{a:Int}:(l.set i a).getD j 0=if i=j∧i<l.length then a else l.getD j 0:=by
 rw[List.getD_eq_getElem?_getD,List.getD_eq_getElem?_getD,List.getElem?_set];by_cases e:i=j
 ·subst e;by_cases h:i<l.length
  ·rw[if_pos rfl,if_pos h,if_pos ⟨rfl,h⟩];rfl
  ·rw[if_pos rfl,if_neg h,if_neg (fun c=>h c.2),List.getElem?_eq_none oM]
 ·rw[if_neg e,if_neg (fun c=>e c.1)]
def I1(P:Int→Prop)(v v':af):Prop:=v'.length=v.length∧∀u,0≤u→P u→v'.getD u.toNat 0=v.getD u.toNat 0
section
variable {P : Int → Prop} {v v' : List Int} {d a : Int}
theorem I1.both(h:I1 P v v')(d a:Int):I1 P (v.set d.toNat a) (v'.set d.toNat a):=by
 refine⟨by rw[List.length_set,List.length_set,h.1],fun u h0 hu=> ?_⟩;rw[DS,DS,h.1,h.2 u h0 hu]
theorem I1.one(h:I1 P v v')(h0:0≤d)(hd:¬P d)(a:Int):I1 P (v.set d.toNat a) v':=by
 refine⟨by rw[List.length_set,h.1],fun u h1 hu=> ?_⟩;rw[DS,if_neg (fun e=>hd (by rw[show d=u by omega];exact hu)),h.2 u h1 hu]
theorem I1.args(h:I1 P v v'){l:af}(hl:∀u,u∈l→0≤u∧P u):eo v' l=eo v l:=List.map_congr_left fun u hu=>h.2 u (hl u hu).1 (hl u hu).2
theorem qv{keep:bZ→Bool}{f f':bZ→Int}:∀(ps:List bZ) (v v':af),I1 P v v'→(∀p,p∈ps→0≤p.dst)→(∀p,p∈ps→keep p=true→f' p=f p)→(∀p,p∈ps→P p.dst→keep p=true)→I1 P (jF v (ps.map (fun p=>(p.dst,f p)))) (jF v' ((ps.filter keep).map (fun p=>(p.dst,f' p))))
 |[],v,v',h,_,_,_=>h
 |p::ps,v,v',h,h1,h2,h3=>by
  rw[List.filter_cons];have h1':=fun q (hq:q∈ps)=>h1 q (List.mem_cons_of_mem _ hq)
  have h2':=fun q (hq:q∈ps)=>h2 q (List.mem_cons_of_mem _ hq)
  have h3':=fun q (hq:q∈ps)=>h3 q (List.mem_cons_of_mem _ hq)
  by_cases hk:keep p=true
  ·rw[if_pos hk];show I1 P (jF (v.set p.dst.toNat (f p)) (ps.map _)) (jF (v'.set p.dst.toNat (f' p)) _);rw[h2 p (List.mem_cons_self ..) hk];exact qv ps _ _ (h.both _ _) h1' h2' h3'
  ·rw[if_neg hk];exact qv ps _ v' (h.one (h1 p (List.mem_cons_self ..)) (fun e=>hk (h3 p (List.mem_cons_self ..) e)) _) h1' h2' h3'
end
section
variable {E E' : Env0} {call kE : Int → List Int → cQ → dp Int}
theorem y0:∀(l:List bl) (v:af) (s:cQ),cS E call (l.map bl.e0) v s=cS E call l v s
 |[],_,_=>rfl
 |i::r,v,s=>by show((cT E s).bind fun _ s=>(bV E call i (eo v i.args) s).bind fun u s=>cS E call (r.map bl.e0) (if 0≤i.dst∧aK i.op then v.set i.dst.toNat u else v) s)=((cT E s).bind fun _ s=>(bV E call i (eo v i.args) s).bind fun u s=>cS E call r (if 0≤i.dst∧aK i.op then v.set i.dst.toNat u else v) s);congr 1;funext _ s;congr 1;funext u s;exact y0 r _ s
theorem KY(l:List bZ)(n:Nat)(v:af):gr (l.map bZ.e0) n v=gr l n v:=by
 unfold gr;rw[List.map_map];rfl
def W5(x:aE)(v:af)(s:cQ):dp (Int×Int×af):=if x.e=0 then .ok (x.a,0,v) s else if x.e=1 then .ok (if v.getD x.v.toNat 0≠0 then x.a else x.b,0,v) s else if x.e=3 then .stop 2 x.a s else .ok (-1,if x.v≥0 then v.getD x.v.toNat 0 else 0,v) s
theorem Rm{f:et}{x:aE}{k fr:Int}{v:af}{s:cQ}(hx:f.bh[k.toNat]?=some x):fi E call f k fr v s=(cS E call x.insts (gr x.au (eG (f.src k.toNat) fr) v) s).bind fun v s=>(cT E s).bind fun _ s=>W5 x v s:=by
 unfold fi;rw[hx];rfl
theorem Ci{x:aE}{v:af}{s:cQ}:cH s (qZ (W5 x v s)):=by
 unfold W5;repeat' split
 all_goals exact cH.refl s
theorem MW{i:bl}{l:af}{s:cQ}(h:db i.op)(hs:bQ i):(∃u,bV E call i l s= .ok u s)∨∃c,bV E call i l s= .stop 5 c s:=by
 have h2:=hs.2;unfold db at h;by_cases h1:i.op=1
 ·exact .inl ⟨_,qa h1⟩
 by_cases Ky:i.op=12
 ·exact .inl ⟨_,mu Ky⟩
 by_cases h6:i.op=6
 ·rw[ox h6];cases fh E.data i.name with
  |none=>exact .inr ⟨_,rfl⟩
  |some n=>exact .inl ⟨_,rfl⟩
 by_cases h7:i.op=7
 ·rw[oy h7];cases fh E.names i.name with
  |none=>exact .inr ⟨_,rfl⟩
  |some n=>exact .inl ⟨_,rfl⟩
 by_cases O2:i.op≥40
 ·exact .inl ⟨_,mv O2⟩
 have e:(cA (i.op-16) (a0 l) (a1 l)).2=0:=by have key:i.op-16=1∨i.op-16=2∨i.op-16=3∨i.op-16=6∨i.op-16=7∨i.op-16=8∨i.op-16=9∨i.op-16=10∨i.op-16=11∨i.op-16=12∨i.op-16=13∨i.op-16=14∨i.op-16=15∨i.op-16=16:=oM;rcases key with e|e|e|e|e|e|e|e|e|e|e|e|e|e<;>rw[e]<;>rfl
 refine .inl ⟨(cA (i.op-16) (a0 l) (a1 l)).1,?_⟩;rw[kB oM oM,if_pos e]
end
theorem Qcb{fs:List aE}{k:Nat}{x:aE}(hx:fs[k]?=some x)(he:fU (fs.length:Int) x){t:Int}(h:(x.e=0∧t=x.a)∨(x.e=1∧(t=x.a∨t=x.b))):0≤t∧t∈tg (aq fs) (k:Int):=by
 unfold fU at he;have h0:0≤t∧t<(fs.length:Int):=oM;refine⟨h0.1,?_⟩;unfold tg;rw[if_pos oM,Int.toNat_natCast,fH hx];show t∈Ag (aq fs).length x.sb;unfold Ag;rw[bK,List.mem_filter];refine⟨?_,?_⟩
 ·show t∈(if x.e=0 then[x.a]else if x.e=1 then(if x.a=x.b then[x.a]else[x.a,x.b])else[]);rcases h with⟨h1,h2⟩|⟨h1,h2⟩
  ·rw[if_pos h1,h2];exact List.mem_singleton.2 rfl
  ·rw[if_neg oM,if_pos h1];split
   ·rename_i e;rw[List.mem_singleton];rcases h2 with h2|h2
    ·exact h2
    ·rw[h2,e]
   ·rcases h2 with h2|h2
    ·rw[h2];exact List.mem_cons_self ..
    ·rw[h2];exact List.mem_cons_of_mem _ (List.mem_cons_self ..)
 ·unfold gP;simp only[Bool.and_eq_true,decide_eq_true_eq];exact h0
theorem Qcc{l:af}{v:Int}(h:v∈l):l[eG l v]?=some v:=by
 induction l with
 |nil=>cases h
 |cons a l ih=>
  unfold eG;by_cases e:a=v
  ·rw[if_pos e,e];rfl
  ·rw[if_neg e];rcases List.mem_cons.1 h with h|h
   ·exact absurd h.symm e
   ·rw[List.getElem?_cons_succ];exact ih h
def Qai(fs:List aE)(k fr:Int):Prop:=(k=0∧fr= -1)∨(0≤k∧0≤fr∧fr<(fs.length:Int)∧k∈tg (aq fs) fr)
def Qfl(fs:List aE)(k k' fr Ve:Int)(v v':af):Prop:=k=k'∧fr=Ve∧Qai fs k fr∧I1 (Rd fs) v v'
section
variable {E E' : Env0} {fs : List aE} {nm : ByteArray} {pa va : Int}
theorem sQ(hE:rP E E')(hg:iY nm pa va fs){x:aE}{k:Nat}(hx:fs[k]?=some x){call kE:Int→af→cQ→dp Int}(hL:∀n l s,cH s (qZ (call n l s)))(hL':∀n l s,cH s (qZ (kE n l s))){b:Int}(hc:∀n l t t',b<t'.steps→xx t t'→t.steps≤E'.fuel→nz E'.fuel Eq (call n l t) (kE n l t')):∀(l:List bl) (v v':af) (s s':cQ),(∀i,i∈l→i∈x.insts)→xx s s'→I1 (Rd fs) v v'→b≤s'.steps→nz E'.fuel (I1 (Rd fs)) (cS E call l v s) (cS E' kE (l.filter (jk fs)) v' s')
 |[],v,v',s,s',_,ha,hv,_=> .ok ha hv
 |i::r,v,v',s,s',hm,ha,hv,hb=>by
  have hi:=hm i (List.mem_cons_self ..);have hmr:=fun j (hj:j∈r)=>hm j (List.mem_cons_of_mem _ hj)
  have mI:=List.mem_of_getElem? hx;have W6:=hg.bC.1 x mI i hi;have hlr:∀(u:Int) (s:cQ),cH s (qZ (cS E call r (if 0≤i.dst∧aK i.op then v.set i.dst.toNat u else v) s)):=fun u s=>mC hL r _ s
  rw[List.filter_cons];by_cases hk:jk fs i=true
  ·rw[if_pos hk];show nz E'.fuel _ ((cT E s).bind fun _ s=>(bV E call i (eo v i.args) s).bind fun u s=>cS E call r (if 0≤i.dst∧aK i.op then v.set i.dst.toNat u else v) s) ((cT E' s').bind fun _ s=>(bV E' kE i (eo v' i.args) s).bind fun u s=>cS E' kE (r.filter (jk fs)) (if 0≤i.dst∧aK i.op then v'.set i.dst.toNat u else v') s);refine nz.bind (KS ha) (fun _ s=>(sH hL i _ s).trans (im hlr)) fun _ t _ t' _ h2 h3 _ ht=> ?_
   have e2:=BU h2;have PA:eo v' i.args=eo v i.args:=hv.args fun u hu=>by obtain⟨j,hj⟩:=List.mem_iff_getElem?.1 hi;obtain⟨q,hq⟩:=List.mem_iff_getElem?.1 hu;obtain⟨y,hy,hr⟩:=hg.reads k (List.getElem?_eq_some_iff.1 hx).1;rw[hx]at hy;injection hy with hy;subst hy;have h0:=(hr.insts j i hj q u hq).1;exact⟨h0,Cg mI hi hk hu h0⟩
   rw[PA];refine nz.bind (WT hE h3 fun n l=>hc n l t t' oM h3 ht) hlr fun u t2 u' t2' _ h5 h6 h7 _=> ?_
   subst h7;have:=FO (sH hL' i _ t') h5;refine sQ hE hg hx hL hL' hc r _ _ t2 t2' hmr h6 ?_ oM;split
   ·exact hv.both _ _
   ·exact hv
  ·rw[if_neg hk];have hp:db i.op∧¬Rd fs i.dst:=yX fun hn=>hk (by unfold jk;exact decide_eq_true hn)
   show nz E'.fuel _ ((cT E s).bind fun _ s=>(bV E call i (eo v i.args) s).bind fun u s=>cS E call r (if 0≤i.dst∧aK i.op then v.set i.dst.toNat u else v) s) _;refine WS ?_;rcases MW (E:=E) (call:=call) (l:=eo v i.args) (s:={s with steps:=s.steps+1}) hp.1 W6 with⟨u,hu⟩|⟨c,hu⟩
   ·rw[hu];show nz E'.fuel _ (cS E call r _ _) _;refine sQ hE hg hx hL hL' hc r _ v' _ s' hmr ha.one ?_ hb;split
    ·rename_i h;exact hv.one h.1 hp.2 u
    ·exact hv
   ·rw[hu];exact .off dQ
theorem MX(hE:rP E E')(hg:iY nm pa va fs){f f':et}(hb:f.bh=fs)(AX:eH f'.bh (fe fs))(hs:∀k:Nat,k<fs.length→f.src k=bG (aq fs) (k:Int))(PN:∀k:Nat,k<fs.length→f'.src k=bG (aq fs) (k:Int)):Qaf E E' f f' (Qfl fs):=by
 rintro call kE k _ fr _ v v' s s' ⟨rfl,rfl,ZT,hv⟩ ha hL hL' hc;have Fl:0≤k:=by rcases ZT with⟨h,_⟩|⟨h,_⟩<;>omega
 cases hx:fs[k.toNat]? with
 |none=>
  unfold fi;rw[hb,hx];exact .off dQ
 |some x=>
  have Z0:=(List.getElem?_eq_some_iff.1 hx).1;have mI:=List.mem_of_getElem? hx;obtain⟨y,hy,hye⟩:=qu AX.symm (nE.2 ⟨x,hx,rfl⟩);rw[Rm (by rw[hb];exact hx),Rm hy,hs _ Z0,PN _ Z0];have eI:cS E' kE y.insts=cS E' kE (x.insts.filter (jk fs)):=by funext v s;rw[←y0 y.insts,←y0 (x.insts.filter (jk fs)),←tT hye];rfl
  have eP:gr y.au=gr (x.au.filter (o7 fs)):=by funext n v;rw[←KY y.au,←KY (x.au.filter (o7 fs)),←tS hye];rfl
  rw[eI,eP];obtain⟨z,hz,hr⟩:=hg.reads k.toNat Z0;rw[hx]at hz;injection hz with hz;subst hz;have hkk:(k.toNat:Int)=k:=oM;have W7:I1 (Rd fs) (gr x.au (eG (bG (aq fs) (k.toNat:Int)) fr) v) (gr (x.au.filter (o7 fs)) (eG (bG (aq fs) (k.toNat:Int)) fr) v'):=by
   refine qv x.au v v' hv (fun p hp=> ?_) (fun p hp ZU=> ?_) (fun p hp hR=> ?_)
   ·have hd:(p.dst,(k.toNat:Int),(-1:Int))∈bO fs:=q7.2 ⟨_,x,hx,rfl,.inl ⟨rfl,p,hp,rfl⟩⟩;have h1:=(hg.bC.2.1 _ hd).1;have h2:=hg.par.1;omega
   ·rcases ZT with⟨h1,h2⟩|⟨h1,h2,h3,h4⟩
    ·have h5:=hg.au x (by rw[h1]at hx;exact hx);rw[List.length_eq_zero_iff.1 h5]at hp;cases hp
    ·obtain⟨j,hj⟩:=List.mem_iff_getElem?.1 hp;obtain⟨h5,h6⟩:=hr.au j p hj;have h7:fr∈bG (aq fs) (k.toNat:Int):=tJ.2 ⟨⟨h2,by rw[bK];exact h3⟩,by rw[hkk];exact h4⟩;have h8:=Qcc h7;obtain⟨a,ha⟩:=aM (l:=p.args) (i:=eG (bG (aq fs) (k.toNat:Int)) fr) (by rw[h5];exact(List.getElem?_eq_some_iff.1 h8).1);have h9:=(h6 _ a fr ha h8).1;rw[show p.args.getD (eG (bG (aq fs) (k.toNat:Int)) fr) 0=a by rw[List.getD_eq_getElem?_getD,ha];rfl];exact hv.2 a h9 (Gb mI hp ZU (List.mem_of_getElem? ha) h9)
   ·unfold o7;exact decide_eq_true hR
  refine nz.bind (sQ hE hg hx hL hL' (b:=s'.steps) hc x.insts _ _ s s' (fun _ h=>h) ha W7 (Int.le_refl _)) (fun v s=>sG.trans (im fun _ s=>Ci)) fun w t w' t' _ _ h3 h4 _=> ?_
  refine nz.bind (KS h3) (fun _ s=>Ci) fun _ t2 _ t2' _ _ h5 _ _=> ?_
  have ee:y.e=x.e:=(Rh hye).symm;have ev:y.v=x.v:=(MR hye).symm;have ea:y.a=x.a:=(Qb8 hye).symm;have eb:y.b=x.b:=(Qb9 hye).symm;unfold W5;rw[ee,ev,ea,eb];have EL:=hg.ends x mI;have Qaj:∀t:Int,(x.e=0∧t=x.a)∨(x.e=1∧(t=x.a∨t=x.b))→Qai fs t k:=fun t h=>by have h1:=Qcb hx EL h;rw[hkk]at h1;exact .inr ⟨h1.1,Fl,oM,h1.2⟩
  by_cases e0:x.e=0
  ·rw[if_pos e0,if_pos e0];exact .ok h5 ⟨Iff.rfl,fun _=>rfl,fun _=>⟨rfl,rfl,Qaj _ (.inl ⟨e0,rfl⟩),h4⟩⟩
  rw[if_neg e0,if_neg e0];by_cases e1:x.e=1
  ·rw[if_pos e1,if_pos e1];have h0:0≤x.v:=(hr.fin (.inl e1)).1;rw[h4.2 x.v h0 (.fin mI (.inl e1) h0)];refine .ok h5 ⟨Iff.rfl,fun _=>rfl,fun _=>⟨rfl,rfl,Qaj _ (.inr ⟨e1,?_⟩),h4⟩⟩;split
   ·exact .inl rfl
   ·exact .inr rfl
  rw[if_neg e1,if_neg e1];by_cases e3:x.e=3
  ·rw[if_pos e3,if_pos e3];exact .stop h5
  rw[if_neg e3,if_neg e3];refine .ok h5 ⟨Iff.rfl,fun _=> ?_,fun h=>absurd (show(-1:Int)<0 by omega) h⟩;show(if x.v≥0 then w.getD x.v.toNat 0 else 0)=if x.v≥0 then w'.getD x.v.toNat 0 else 0;split
  ·rename_i h;have e2:x.e=2:=by unfold fU at EL;omega
   rw[h4.2 x.v h (.fin mI (.inr e2) h)]
  ·rfl
theorem Rn(hE:rP E E')(hg:iY nm pa va fs){f f':et}(hb:f.bh=fs)(AX:eH f'.bh (fe fs))(hs:∀k:Nat,k<fs.length→f.src k=bG (aq fs) (k:Int))(PN:∀k:Nat,k<fs.length→f'.src k=bG (aq fs) (k:Int))(hp:f'.pa=f.pa)(jR:f'.va=f.va):FQ E E' f f' (Qfl fs):=⟨hp,jR,fun _ _=>⟨rfl,rfl,.inl ⟨rfl,rfl⟩,rfl,fun _ _ _=>rfl⟩,MX hE hg hb AX hs PN⟩
end
end Go.Mor
namespace Go.Mor
open Go.RowKit
theorem I2{fs:List aE}{k:Nat}{x:aE}(h:fs[k]?=some x):x.au.length≤dw fs:=by
 have hk:=(List.getElem?_eq_some_iff.1 h).1;have key:∀n,k<n→n≤fs.length→x.au.length≤jd fs n:=by
  intro n;induction n with
  |zero=>intro h1;omega
  |succ n ih=>
   intro h1 h2;obtain⟨y,hy⟩:=aM (l:=fs) (i:=n) oM;rw[ky hy];by_cases e:k=n
   ·subst e;rw[h]at hy;injection hy with hy;subst hy;omega
   ·have:=ih oM oM;omega
 have:=key fs.length hk (Nat.le_refl _);unfold dw;omega
theorem Gd{fs:List aE}{k:Nat}{x:aE}(h:fs[k]?=some x){d:Int×Int×Int}(hd:d∈eZ (k:Int) x):d∈bO fs:=by
 unfold bO dz;rw[List.mem_flatMap];refine⟨(x,k),?_,hd⟩;rw[List.take_length];exact List.mem_zipIdx_iff_getElem?.2 h
theorem MY{fs:List aE}{k:Nat}{x:aE}(h:fs[k]?=some x){p:bZ}(hp:p∈x.au):(p.dst,(k:Int),-1)∈bO fs:=Gd h (List.mem_append_left _ (List.mem_map.2 ⟨p,hp,rfl⟩))
theorem MZ{fs:List aE}{k:Nat}{x:aE}(h:fs[k]?=some x){i:Nat}{p:bl}(hp:x.insts[i]?=some p)(hm:aK p.op):(p.dst,(k:Int),(i:Int))∈bO fs:=by
 refine Gd h (List.mem_append_right _ ?_);unfold dv;rw[List.mem_map];exact⟨(p,i),List.mem_filter.2 ⟨List.mem_zipIdx_iff_getElem?.2 hp,by simpa using hm⟩,rfl⟩
structure Qak(f:et):Prop where
 len:f.bG.length=f.bh.length
 at_:∀k:Nat,k<f.bh.length→f.src k=bG (aq f.bh) (k:Int)
theorem W8{f:et}(h:Qak f){k:Nat}(hk:¬k<f.bh.length):f.src k=[]:=by
 unfold et.src;rw[List.getD_eq_getElem?_getD,List.getElem?_eq_none (by rw[h.len];omega)];rfl
theorem Qfm{f:et}(iq:pz f.bh)(hn:f.bh.length≤1000)(hv:cC f.nm f.pa f.va f.bh=0)(hs:Qak f):f.WF:=by
 unfold cC at hv;by_cases jL:(dw f.bh:Int)>20000∨f.va>20000
 ·rw[if_pos jL]at hv;cases hv
 rw[if_neg jL]at hv;have hg:iY f.nm f.pa f.va f.bh:=yX fun hg=>by rw[if_neg hg]at hv;cases hv
 have W9:=hg.par;have rd:∀(k:Nat) (x:aE),f.bh[k]?=some x→yT (Dm (tg (aq f.bh))) (fun _=>20000) qp f.pa f.va f.bh k x:=fun k x hx=>by have hk:=(List.getElem?_eq_some_iff.1 hx).1;exact nC hx (hg.reads k hk)
 refine⟨iq,hg.pos,hn,W9.1,W9.2.2,oM,fun x hx=>List.eq_nil_of_length_eq_zero (hg.au x hx),fun k x hx=> ?_,hs.len,fun k x t hx ht=> ?_,fun k=> ?_⟩
 ·have hk:=(List.getElem?_eq_some_iff.1 hx).1;have hm:=List.mem_of_getElem? hx;have hr:=rd k x hx;refine⟨by have:=I2 hx;omega,by have:=F7 hx;omega,hg.ends x hm,fun he=> ?_,fun he=> ?_,hg.bC.1 x hm,fun i hi v hv=> ?_,fun i hi k0=> ?_,fun p hp=> ?_,fun p hp=> ?_,fun p hp v hv=> ?_⟩
  ·have:=hr.fin (.inl he);exact⟨this.1,this.2.1⟩
  ·refine⟨(KX hg x hm).2 he,?_⟩;by_cases hv:x.v= -1
   ·omega
   ·exact(hr.fin (.inr ⟨he,hv⟩)).2.1
  ·obtain⟨j,hj⟩:=List.mem_iff_getElem?.1 hi;obtain⟨q,hq⟩:=List.mem_iff_getElem?.1 hv;have:=hr.insts j i hj q v hq;exact⟨this.1,this.2.1⟩
  ·obtain⟨j,hj⟩:=List.mem_iff_getElem?.1 hi;have:=hg.bC.2.1 _ (MZ hx hj k0);simp only at this;omega
  ·have:=hg.bC.2.1 _ (MY hx hp);simp only at this;omega
  ·obtain⟨j,hj⟩:=List.mem_iff_getElem?.1 hp;rw[hs.at_ k hk];exact(hr.au j p hj).1
  ·obtain⟨j,hj⟩:=List.mem_iff_getElem?.1 hp;obtain⟨q,hq⟩:=List.mem_iff_getElem?.1 hv;have h1:=hr.au j p hj;obtain⟨s,hsq⟩:=aM (l:=bG (aq f.bh) (k:Int)) (i:=q) (by rw[←h1.1];exact(List.getElem?_eq_some_iff.1 hq).1);have:=h1.2 q v s hq hsq;exact⟨this.1,this.2.1⟩
 ·have hk:=(List.getElem?_eq_some_iff.1 hx).1;have he:=hg.ends x (List.mem_of_getElem? hx);have ht0:0≤t∧t<(f.bh.length:Int):=by rcases he with⟨h0,ha,_⟩|⟨h0,ha,hb,_⟩|⟨h0,_⟩|⟨h0,_⟩<;>rcases ht with⟨h1,h2⟩|⟨h1,h2⟩<;>first|omega|(rcases h2 with h2|h2<;>omega)
  rw[hs.at_ t.toNat oM,Int.toNat_of_nonneg ht0.1,tJ,bK];refine⟨⟨oM,oM⟩,?_⟩;rw[x8 oM (x:=x.sb) (by rw[Int.toNat_natCast];exact fH hx)];unfold Ag;rw[List.mem_filter,bK];refine⟨?_,by simp[gP,ht0]⟩;show t∈(if x.e=0 then[x.a]else if x.e=1 then(if x.a=x.b then[x.a]else[x.a,x.b])else[]);rcases ht with⟨h1,h2⟩|⟨h1,h2⟩
  ·rw[if_pos h1,h2];simp
  ·rw[if_neg oM,if_pos h1];by_cases e:x.a=x.b
   ·rw[if_pos e];rcases h2 with h2|h2<;>simp[h2,e]
   ·rw[if_neg e];rcases h2 with h2|h2<;>simp[h2]
 ·by_cases hk:k<f.bh.length
  ·rw[hs.at_ k hk];have:=fR (aq f.bh) (k:Int) (aq f.bh).length;unfold bG;rw[bK]at this⊢;omega
  ·rw[W8 hs hk];simp
end Go.Mor
namespace Go.Mor
open Go.RowKit
structure O4 where
 op:Int
 n:Int
 nm:aV
 A:ar
 c:Nat
 kids:List O4
structure KZ where
 op:Int
 n:Int
 eA:ar
 ec:Nat
 exprs:List O4
 bA:ar
 bc:Nat
 body:List KZ
 lA:ar
 lc:Nat
 Xa:List KZ
structure uA where
 nm:aV
 wk:Bool
 pa:Int
 lo:Int
 A:ar
 c:Nat
 body:List KZ
structure Xb extends Env0 where
 mb:List uA
structure Frm where
 loc:af
 deep:Int
 back:Int
def qw(E:Env0)(n:Int)(s:cQ):dp Int:=if n<0 then .stop 5 0 s else if n>(E.bR:Int)-s.next then .stop 3 0 s else .ok s.next {s with next:=s.next+n}
def Cj(E:Env0)(s:cQ):dp Int:=if s.pos<E.inp.length then .ok (E.inp.getD s.pos 0) {s with pos:=s.pos+1}else .ok (-1) s
def DT(v:Int)(s:cQ):cQ:=if s.out.length<4096 then {s with out:=s.out++[IntKind.u8.wrap v]}else s
end Go.Mor
namespace Go.Mor
open Go.RowKit
section
variable {α β : Type}
theorem Ro{g:dp α}{f:α→cQ→dp β}{x:α}{s:cQ}(h:g= .ok x s):g.bind f=f x s:=by rw[h];rfl
theorem I3{g:dp α}{f:α→cQ→dp β}{k c:Int}{s:cQ}(h:g= .stop k c s):g.bind f= .stop k c s:=by rw[h];rfl
end
def Qik(s s':cQ):Prop:=s.steps≤s'.steps∧s'.opened=s.opened
def Rp{α:Type}(s:cQ)(g:dp α):Prop:=∀x s',g= .ok x s'→Qik s s'
end Go.Mor
namespace Go.Mor
open Go.RowKit
section
variable {P : Program} {c : Code} {K : Act → World → Prop} {Q : Exit → Act → World → Prop} {a : Act} {w w0 : World} {S : Nat → Prop} {L : List bx} {k k' : Nat} {N : FN} {env : Env}
variable {d : Option Nat} {ty : Nat} {g : Option (Nat × Bool)}
theorem DU{t:TypeId}{x y:Operand}(hk:ax c k=some (d,.call {callee:= .builtin .append,args:=#[x,y],argTypes:=#[t,t]},ty,g))(hF:Fr a N env)(hg:bD c g env=some true)(hd:gp d N=true)(iO:k+1=k'){e size bytes:Nat}{z:Value}(ht:P.underlying t=some (.slice e))(hi:(P.info? e).map (fun i=>(i.size,i.bytes,i.zero))=some (size,bytes,some z))(HX:Nat.beq z.cells.size size=true)(jB:Nat.blt 0 size=true){A B:ar}{n cap m cap':Nat}{xs news:aP}(hx:ev env x=some (vS A n cap))(hy:ev env y=some (vS B m cap'))(hM:Mem S w0 w L)(i:Nat)(hL:L[i]?=some (.row e size A n cap xs))(r4:(bx.rd B news).holds w)(hl:news.length=m*size)(h1:∀u∈news,u.oneCell'=true)(hb:(n+m)*bytes≤140737488355328)(HY:n+m≤maxLen)(nn:Nat)(ys:aP)(hn:n+m=nn)(hys:xs++news=ys)(h:∀A' c' w',Mem S w0 w' (L.set i (.row e size A' nn c' ys))→Mem (bx.row e size A n cap xs).fp w w' [.row e size A' nn c' ys]→∀a',a'=a.put d (vS A' nn c')→Fr a' N (dq env d (vS A' nn c'))→bz P c K Q k' a' w'):bz P c K Q k a w:=by
 subst hn hys;exact vu hk hF hg hd iO ht hi HX jB hx hy hM i hL r4 hl h1 hb HY h
end
theorem sR:∀(vs xs:aP) (u:Value) (j:Nat),setAt (u::xs) (j+1) vs=u::setAt xs j vs
 |[],_,_,_=>rfl
 |v::vs,xs,u,j=>by show setAt (u::xs.set j v) (j+1+1) vs=u::setAt (xs.set j v) (j+1) vs;exact sR vs (xs.set j v) u (j+1)
theorem y2:∀(vs xs ys:aP),vs.length=xs.length→setAt (xs++ys) 0 vs=vs++ys
 |[],xs,ys,h=>by obtain rfl:xs=[]:=List.eq_nil_of_length_eq_zero h.symm;rfl
 |v::vs,[],ys,h=>by simp at h
 |v::vs,x::xs,ys,h=>by show setAt (v::(xs++ys)) 1 vs=v::(vs++ys);rw[←y2 vs xs ys (by simpa using h)];exact sR vs (xs++ys) v 0
theorem Ck:∀(us xs vs:aP) (j:Nat),setAt (us++xs) (us.length+j) vs=us++setAt xs j vs
 |[],xs,vs,j=>sI
 |u::us,xs,vs,j=>by rw[show(u::us).length+j=(us.length+j)+1 by simp;omega,List.cons_append,sR,Ck us xs vs j,List.cons_append]
theorem sS{α:Type}{f:α→aP}{k:Nat}(hf:∀x,(f x).length=k)(y:α):∀(l:List α) (m:Nat),m<l.length→setAt (l.flatMap f) (m*k) (f y)=(l.set m y).flatMap f
 |[],m,h=>by simp at h
 |x::l,0,_=>by rw[List.flatMap_cons,Fc,y2 _ _ _ (by rw[hf,hf])];rfl
 |x::l,m+1,h=>by rw[List.flatMap_cons,show(m+1)*k=(f x).length+m*k by rw[hf,Nat.succ_mul];omega,Ck,sS hf y l m (by simpa using h)];rfl
theorem kG{α:Type}{f:α→aP}{k:Nat}(hf:∀x,(f x).length=k)(l:List α):(l.flatMap f).length=l.length*k:=by
 induction l with
 |nil=>simp
 |cons x l ih=>rw[List.flatMap_cons,List.length_append,hf,ih,List.length_cons,Nat.succ_mul];omega
theorem DV{α:Type}{f:α→aP}{k:Nat}(hf:∀x,(f x).length=k):∀(l:List α) (i:Nat) (x:α),l[i]?=some x→∀(j:Nat) (v:Value),(f x)[j]?=some v→(l.flatMap f)[i*k+j]?=some v
 |[],i,x,h,_,_,_=>by simp at h
 |y::l,0,x,h,j,v,hv=>by simp at h;subst h;rw[List.flatMap_cons,Fc,Nat.zero_add,List.getElem?_append_left (List.getElem?_eq_some_iff.1 hv).1];exact hv
 |y::l,i+1,x,h,j,v,hv=>by simp at h;rw[List.flatMap_cons,List.getElem?_append_right (by rw[hf,Nat.succ_mul];omega),hf,show(i+1)*k+j-k=i*k+j by rw[Nat.succ_mul];omega];exact DV hf l i x h j v hv
end Go.Mor
namespace Go.Mor
open Go.RowKit
theorem gm{α β:Type}{f:α→β}{l:List α}{i:Nat}{x:α}(h:l[i]?=some x):(l.map f)[i]?=some (f x):=by rw[List.getElem?_map,h];rfl
section
variable {P : Program} {c : Code} {K : Act → World → Prop} {Q : Exit → Act → World → Prop} {w : World} {N : FN} {env : Env}
theorem ln(x y:Int)(ht:x=y→∀a,Fr a N env→W P (Code.l c) K Q a w)(hf:¬x=y→∀a,Fr a N env→W P (Code.r c) K Q a w)(hk:yb c env=some (vB (x==y)):=by kernel_rfl):∀a,Fr a N env→W P c K Q a w:=dX (x==y) (x=y) beq_iff_eq ht hf hk
end
section
variable {P : Program} {c : Code} {K : Act → World → Prop} {Q : Exit → Act → World → Prop} {w w0 : World} {N : FN} {env : Env} {a : Act} {S : Nat → Prop} {L : List bx} {k : Nat}
theorem Xc(d:Nat)(x y:Operand)(t ty:TypeId)(hF:Fr a N env){e size bytes:Nat}{z:Value}{A B:ar}{n cap m cap':Nat}{xs news:aP}(hM:Mem S w0 w L)(i:Nat)(hL:L[i]?=some (.row e size A n cap xs))(r4:(bx.rd B news).holds w)(hl:news.length=m*size)(h1:∀u∈news,u.oneCell'=true)(hb:(n+m)*bytes≤140737488355328)(HY:n+m≤maxLen)(nn:Nat)(ys:aP)(hn:n+m=nn)(hys:xs++news=ys)(h:∀A' c' w',Mem S w0 w' (L.set i (.row e size A' nn c' ys))→Mem (bx.row e size A n cap xs).fp w w' [.row e size A' nn c' ys]→∀a',a'=a.put (some d) (vS A' nn c')→Fr a' N (dq env (some d) (vS A' nn c'))→bz P c K Q (k+1) a' w')(hk:ax c k=some (some d,.call {callee:= .builtin .append,args:=#[x,y],argTypes:=#[t,t]},ty,none):=by kernel_rfl)(hd:gp (some d) N=true:=by kernel_rfl)(ht:P.underlying t=some (.slice e):=by kernel_rfl)(hi:(P.info? e).map (fun i=>(i.size,i.bytes,i.zero))=some (size,bytes,some z):=by kernel_rfl)(HX:Nat.beq z.cells.size size=true:=by kernel_rfl)(jB:Nat.blt 0 size=true:=by kernel_rfl)(hx:ev env x=some (vS A n cap):=by kernel_rfl)(hy:ev env y=some (vS B m cap'):=by kernel_rfl):bz P c K Q k a w:=DU hk hF rfl hd rfl ht hi HX jB hx hy hM i hL r4 hl h1 hb HY nn ys hn hys h
end
end Go.Mor
namespace Go.Mor
open Go.RowKit
end Go.Mor
namespace Go.Mor
open Go.RowKit
def O4.cells(e:O4):aP:=[vI e.op,vI e.n,.string e.nm,.slice e.A e.kids.length e.c]
def KZ.cells(x:KZ):aP:=[vI x.op,vI x.n,.slice x.eA x.exprs.length x.ec,.slice x.bA x.body.length x.bc,.slice x.lA x.Xa.length x.lc]
def uA.cells(f:uA):aP:=[.string f.nm,.bool f.wk,vI f.pa,vI f.lo,.slice f.A f.body.length f.c]
mutual
def Qfn:O4→List bx
 |⟨_,_,_,A,_,kids⟩=> .l7 A 4 (kids.map O4.cells)::I4 kids
def I4:List O4→List bx
 |[]=>[]
 |e::r=>Qfn e++I4 r
end
mutual
def Qfo:KZ→List bx
 |⟨_,_,eA,_,exprs,bA,_,body,lA,_,Xa⟩=> .l7 eA 4 (exprs.map O4.cells):: .l7 bA 5 (body.map KZ.cells):: .l7 lA 5 (Xa.map KZ.cells)::(I4 exprs++(DW body++DW Xa))
def DW:List KZ→List bx
 |[]=>[]
 |x::r=>Qfo x++DW r
end
def uA.parts(f:uA):List bx:= .l7 f.A 5 (f.body.map KZ.cells)::DW f.body
structure TC where
 E:Xb
 r:Nat
 fA:ar
 fc:Nat
 mB:Nat
 dB:Nat
 mG:Nat
 iA:ar
 ic:Nat
end Go.Mor
namespace Go.Mor
open Go.RowKit
structure cF where
 pkg:aV
 fA:ar
 fc:Nat
 fns:List uA
 dA:ar
 dc:Nat
 cf:List bE
def cF.cells(m:cF):aP:=[.string m.pkg,.slice m.fA m.fns.length m.fc,.slice m.dA m.cf.length m.dc]
abbrev DC(d:bE):aP:=[.string d.nm,.bool d.wk,.slice d.wA d.words.length d.wc,.slice d.rA d.refs.length d.rc]
def flD(ms:List cF):List bE:=ms.flatMap (·.cf)
def nwD(ms:List cF):NW:=(flD ms).map fun d=>(d.nm,d.wk)
section
variable {α β : Type} {g : α → List β} {ms : List α} {j k : Nat} {m : α} {x : β}
def fD(g:α→List β)(ms:List α)(j:Nat):Nat:=((ms.take j).flatMap g).length
theorem lT(h:ms[j]?=some m):fD g ms (j+1)=fD g ms j+(g m).length:=by
 unfold fD;rw[kQ,h];simp
theorem K0(h:ms.length≤j):fD g ms j=(ms.flatMap g).length:=by unfold fD;rw[List.take_of_length_le h]
theorem gN(h:ms[j]?=some m)(hx:(g m)[k]?=some x):(ms.flatMap g)[fD g ms j+k]?=some x:=by
 obtain⟨eV,he⟩:=List.getElem?_eq_some_iff.1 h;have e:ms=ms.take j++m::ms.drop (j+1):=by rw[←he,←List.drop_eq_getElem_cons eV,List.take_append_drop]
 have hk:=(List.getElem?_eq_some_iff.1 hx).1;unfold fD;generalize hp:(ms.take j).flatMap g=p;rw[e,List.flatMap_append,hp,List.flatMap_cons,List.getElem?_append_right oM,show p.length+k-p.length=k by omega,List.getElem?_append_left hk];exact hx
theorem Rq(h:ms[j]?=some m):fD g ms j+(g m).length≤(ms.flatMap g).length:=by
 rcases Nat.eq_zero_or_pos (g m).length with h0|h0
 ·rw[h0];have:(ms.take j).flatMap g++(ms.drop j).flatMap g=ms.flatMap g:=by rw[←List.flatMap_append,List.take_append_drop]
  have h2:=congrArg List.length this;rw[List.length_append]at h2;unfold fD;omega
 ·obtain⟨x,hx⟩:=aM (l:=g m) (i:=(g m).length-1) oM;have:=(List.getElem?_eq_some_iff.1 (gN h hx)).1;omega
end
abbrev Ev:=aV×Bool
theorem Qcd{a b:aV}(h:a.data.toList=b.data.toList):a=b:=by
 cases a;cases b;simp only at h;congr 1;exact Array.ext' h
def csD(ms:List cF):List bE:=bF (nwD ms) (flD ms) (flD ms).length
def gY(cs:List uA)(j:Nat):List (aV×Int):=(cs.take j).zipIdx.map (fun p=>(p.1.nm,((p.2+1:Nat):Int)))
end Go.Mor
namespace Go.Mor
open Go.RowKit
def cF.parts(m:cF):List bx:= .l7 m.fA 5 (m.fns.map uA.cells):: .l7 m.dA 4 (m.cf.map bE.cells)::(m.fns.flatMap uA.parts++m.cf.flatMap bE.parts)
def bx.I5(A:ar)(ms:List cF):bx:= .all (.l7 A 3 (ms.map cF.cells)::ms.flatMap cF.parts)
section
variable {S : Nat → Prop} {w : World} {A : Option Addr} {ms : List cF} {m : cF} {f : uA} {d : bE}
theorem RO.qx(h:RO S w (.I5 A ms)):RO S w (.l7 A 3 (ms.map cF.cells)):=h.sub (List.mem_cons_self ..)
theorem RO.Qfp(h:RO S w (.I5 A ms))(hm:m∈ms){r:bx}(hr:r∈m.parts):RO S w r:=h.sub (List.mem_cons_of_mem _ (List.mem_flatMap.2 ⟨m,hm,hr⟩))
theorem RO.vO(h:RO S w (.I5 A ms))(hm:m∈ms):RO S w (.l7 m.dA 4 (m.cf.map bE.cells)):=h.Qfp hm (List.mem_cons_of_mem _ (List.mem_cons_self ..))
end
def Xd(names data:List (aV×Int))(bR:Nat)(cs:List bE):af:=if aJ cs cs.length≤bR then kW names data cs bR cs.length else List.replicate bR 0
end Go.Mor
namespace Go.Mor
open Go.RowKit
mutual
def exN:O4→Nat
 |⟨_,_,_,_,_,kids⟩=>1+Qce kids
def Qce:List O4→Nat
 |[]=>0
 |e::r=>exN e+Qce r
end
mutual
def stN:KZ→Nat
 |⟨_,_,_,_,exprs,_,_,body,_,_,Xa⟩=>1+Qce exprs+Xe body+Xe Xa
def Xe:List KZ→Nat
 |[]=>0
 |x::r=>stN x+Xe r
end
end Go.Mor
namespace Go.Mor
open Go.RowKit
def esQ(lo op n:Int)(sz k:Nat):Prop:=(op=1∧k=0∧sz=0)∨(op=2∧k=0∧sz=0∧0≤n∧n<lo)∨(op=3∧k=2∧sz=0∧1≤n∧n≤16)∨(op=4∧k=1∧sz=0∧1≤n∧n≤3)∨(op=5∧k=1∧sz=0∧0≤n∧n≤2147483647)∨(op=6∧k≤16∧1≤sz∧sz≤60∧n=0)∨(op=7∧1≤k∧k≤17∧sz=0∧n=0)∨(op=8∧k=0∧1≤sz∧sz≤60∧n=0)∨(op=9∧k=0∧1≤sz∧sz≤60∧n=0)∨(op=10∧k=1∧sz=0∧n=0)∨(op=11∧k=0∧sz=0∧n=0)∨(op=12∧k=3∧sz=0∧n=0)∨(op=13∧k=2∧sz=0∧1≤n∧n≤999)
instance (lo op n : Int) (sz k : Nat) : Decidable (esQ lo op n sz k) := by unfold esQ; infer_instance
def sfQ(lo lp op n:Int)(ke kb kl:Nat):Prop:=(op=1∧ke=1∧kb=0∧kl=0∧0≤n∧n<lo)∨(op=2∧ke=2∧kb=0∧kl=0∧0≤n∧n≤2147483647)∨(op=3∧ke=1∧kb=0∧kl=0∧n=0)∨(op=4∧ke=1∧kb=0∧kl=0∧n=0)∨(op=5∧ke=1∧n=0)∨(op=6∧ke=0∧kl=0∧n=0)∨(op=7∧ke=0∧kb=0∧kl=0∧0≤n∧n<lp)∨(op=8∧ke=0∧kb=0∧kl=0∧0≤n∧n<lp)∨(op=9∧(ke=0∨ke=1)∧kb=0∧kl=0∧n=0)∨(op=10∧ke=0∧kb=0∧kl=0∧1≤n∧n≤999)
instance (lo lp op n : Int) (ke kb kl : Nat) : Decidable (sfQ lo lp op n ke kb kl) := by unfold sfQ; infer_instance
mutual
def exV(lo:Int):Int→O4→Bool
 |d,⟨op,n,nm,_,_,kids⟩=>decide (d≤100∧esQ lo op n nm.size kids.length)&&Qcf lo (d+1) kids
def Qcf(lo:Int):Int→List O4→Bool
 |_,[]=>true
 |d,e::r=>exV lo d e&&Qcf lo d r
end
abbrev inner(op lp:Int):Int:=if op=6 then lp+1 else lp
mutual
def stV(lo:Int):Int→Int→KZ→Bool
 |lp,d,⟨op,n,_,_,exprs,_,_,body,_,_,Xa⟩=>decide (d≤100∧sfQ lo lp op n exprs.length body.length Xa.length)&&(Qcf lo (d+1) exprs&&(Xf lo (inner op lp) (d+1) body&&Xf lo (inner op lp) (d+1) Xa))
def Xf(lo:Int):Int→Int→List KZ→Bool
 |_,_,[]=>true
 |lp,d,x::r=>stV lo lp d x&&Xf lo lp d r
end
def fnQ(f:uA):Prop:=bB f.nm∧(0≤f.pa∧f.pa≤16)∧(f.pa≤f.lo∧f.lo≤2000)
instance (f : uA) : Decidable (fnQ f) := by unfold fnQ; infer_instance
def fnV(f:uA):Bool:=decide (fnQ f)&&Xf f.lo 0 0 f.body
def kT(d:bE):Prop:=(∀(j:Nat) (r:Int×aV),d.refs[j]?=some r→bB r.2∧(0≤r.1∧r.1<(d.words.length:Int))∧r.1∉(d.refs.take j).map (·.1))∧bB d.nm
noncomputable instance (d : bE) : Decidable (kT d) := Classical.propDecidable _
end Go.Mor
namespace Go.Mor
open Go.RowKit
section
variable {P : Program} {C : TC} {s s2 : cQ} {oA : Option Addr} {oc : Nat} {w : World} {fn : FuncId} {args : List Value} {g : dp Int} {x k c : Int}
theorem Ge{E:Env0}{s s':cQ}{u:Unit}(h:cT E s= .ok u s'):s'.steps=s.steps+1∧s'.opened=s.opened:=by
 unfold cT at h;split at h
 ·cases h
 ·injection h with _ h;rw[←h];exact⟨rfl,rfl⟩
end
end Go.Mor
