import Derived.Test.YtnnhpnccfnghdaaGreatR12
set_option linter.all false
set_option maxHeartbeats 4800000
namespace Go.L.Th
open Go.L Go.L.Lx Go.L.Pg Go.L.Ring Go.L.dq Go.L.dR Go.L.Whl Go.L.dA Go.L.Led
section
variable(l:List Int){P:List b2}{E:gx}(x:Int){k:b2}
def ajt{fj:cC}{k:b2}(h:ll P fj=some k):k∈P:=rb h
def Fc{P:List b2}{n:Int}(aM:0<=n/\n<=255):∀(l:List fv) (i:Nat) (p:dt),(∀e∈l,1<=e.do'/\e.do'<=12/\(e.do'=2->(ll P e.name).isSome=true)/\(0<=e.n/\e.n<=255))->(∀e∈p.cw,Cb P e)->
 (mN n i l p).cw.length<=p.cw.length+l.length/\∀e∈(mN n i l p).cw,Cb P e
 |[],i,p,_,hp=>⟨ei _,hp⟩
 |
  e::r,i,p,h,hp=>by
  have h1:=h e (.head _);have h2:∀x∈r,1<=x.do'/\x.do'<=12/\(x.do'=2->(ll P x.name).isSome=true)/\(0<=x.n/\x.n<=255):=λx ah=>h x (.tail _ ah);have f:∀(y:fv),y.do'=e.do'->y.name=e.name->(0<=y.n/\y.n<=255)->¬e.do'=3->¬e.do'=4->¬e.do'=11->¬e.do'=12->∀x∈p.cw++[y],Cb P x:=λy d1 t mp a b c d x ah=>by
   rcases ky.1 ah with ah|ah
   . exact hp x ah
   . simp at ah;subst ah;exact⟨by rw[d1];omega,by rw[d1,t];exact h1.2.2.1,mp⟩
  unfold mN;split
  . split
    . exact⟨by simp,λx ah=>by cases ah⟩
    . have:=Fc aM r (i+1) p h2 hp;exact⟨by have:=this.1;simp only[iE];omega,this.2⟩
  . split
    . have:=Fc aM r (i+1) {p with state:=e.name} h2 hp;exact⟨by have:=this.1;simp only[iE];simp only at this;omega,this.2⟩
    . split
      . exact⟨by simp only;omega,hp⟩
      . split
        . exact⟨by simp only;omega,hp⟩
        . split
          . have:=Fc aM r (i+1) {p with cw:=p.cw++[{e with n:=o0 e n,value:=2}]} h2 (f _ rfl rfl (show 0<=o0 e n/\o0 e n<=255 by have:=h1.2.2.2;unfold o0;split;exact aM;split;split<;>omega;exact this) ‹_› ‹_› ‹_› ‹_›)
            refine⟨?_,this.2⟩;have aN:=this.1;simp only[eL,iE,lp]at aN⊢;omega
          . have:=Fc aM r (i+1) {p with cw:=p.cw++[e]} h2 (f _ rfl rfl h1.2.2.2 ‹_› ‹_› ‹_› ‹_›)
            refine⟨?_,this.2⟩;have aN:=this.1;simp only[eL,iE,lp]at aN⊢;omega
def awj(h:S3 P k)(state tag:cC)(n:Int)(aM:0<=n/\n<=255):(kY k state tag n).cw.length<=8/\∀e∈(kY k state tag n).cw,Cb P e:=by
 unfold kY;split
 . exact⟨eX _,λx ah=>by cases ah⟩
 . rename_i r aE
   unfold rowOf at aE;cases R:k.states.find? (λs=>decide (s.name=state))with
   |none=>rw[R]at aE;cases aE
   |
    some t=>
    rw[R]at aE;have h1:=rb R;have h2:r∈t.rows:=rb (show t.rows.find? (qc tag n)=some r from aE);obtain⟨W,Z⟩:=h.cw t h1 r h2;have:=Fc aM r.cw 0 ⟨false,[],state,false,[]⟩ Z (λx ah=>by cases ah);exact⟨by have aN:=this.1;simp at aN;omega,this.2⟩
def awk{ref:cC}{a b c:Int}{I:List Int}(aW:oY E a)(aA:oY E b)(a6:oY E c)(aj:∀v∈I,oY E v):oY E (hl ref a b c I):=by
 have bh:oY E 0:=⟨vs _,by omega⟩;unfold hl;split
 . exact aW
 . split
   . exact aA
   . split
     . exact a6
     . split
       . rename_i i _
         rw[ix];cases e:I[i]?with
         |none=>exact bh
         |some v=>exact aj v (js e)
       . exact bh
def cG.z0{a:Nat}(h:cG E a):oY E (a:Int):=⟨by omega,by have:=h.2;omega⟩
def aju{l:List Int}{x v:Int}(h:v∈del l x):v∈l:=(oM.1 h).1
def Td:(del l x).length<=l.length:=qw _ _
def Te:∀{t:List (cC×List Int)} {fj:cC} {v:Int},v∈gF t fj->∃p∈t,v∈p.2
 |[],fj,v,h=>by simp[gF]at h
 |
  (k,l)::r,fj,v,h=>by
  unfold gF at h;split at h
  . exact⟨(k,l),.head _,h⟩
  . obtain⟨p,h1,h2⟩:=Te h;exact⟨p,.tail _ h1,h2⟩
def ajv:∀{t:List (cC×List Int)} {fj:cC} {p:cC×List Int},p∈ou t fj->p∈t
 |[],fj,p,h=>by simp[ou]at h
 |
  (k,l)::r,fj,p,h=>by
  unfold ou at h;split at h
  . exact .tail _ h
  . rcases ku.1 h with rfl|h
    . exact .head _
    . exact .tail _ (ajv h)
def ajw:∀(t:List (cC×List Int)) (fj:cC),((ou t fj).map (λp=>1+p.2.length)).sum<=(t.map (λp=>1+p.2.length)).sum
 |[],fj=>by simp[ou]
 |
  (k,l)::r,fj=>by
  have:=ajw r fj;unfold ou;split<;>simp<;>omega
def ajx:∀(t:List (Int×List Int)) (fj:Int),((p1 t fj).map (λp=>1+p.2.length)).sum<=(t.map (λp=>1+p.2.length)).sum
 |[],fj=>by simp[p1]
 |
  (k,l)::r,fj=>by
  have:=ajx r fj;unfold p1;split<;>simp<;>omega
def ajy:(l.erase x).length<=l.length:=List.length_erase_le
def ajz:∀(t:List (cC×List Int)) (fj:cC) (x:Int),((ma t fj x).map (λp=>1+p.2.length)).sum<=(t.map (λp=>1+p.2.length)).sum+2
 |[],fj,x=>by simp[ma]
 |
  (k,l)::r,fj,x=>by
  have:=ajz r fj x;unfold ma;split<;>simp<;>omega
def ajA:∀{t:List (cC×List Int)} {fj:cC} {x:Int} {p:cC×List Int} {v:Int},p∈ma t fj x->v∈p.2->v=x\/∃S∈t,v∈S.2
 |[],fj,x,p,v,h,Y=>by simp[ma]at h;subst h;simp at Y;exact .inl Y
 |
  (k,l)::r,fj,x,p,v,h,Y=>by
  unfold ma at h;split at h
  . rcases ku.1 h with rfl|h
    . rcases ky.1 Y with Y|Y
      . exact .inr ⟨(k,l),.head _,Y⟩
      . simp at Y;exact .inl Y
    . exact .inr ⟨p,.tail _ h,Y⟩
  . rcases ku.1 h with rfl|h
    . exact .inr ⟨(k,l),.head _,Y⟩
    . rcases ajA h Y with h|⟨S,h,Y⟩
      . exact .inl h
      . exact .inr ⟨S,.tail _ h,Y⟩
def ajB(x c:Int):∀(t:List (Int×List Int)),((eV t c (dU t c++[x])).map (λp=>1+p.2.length)).sum<=(t.map (λp=>1+p.2.length)).sum+2
 |[]=>by simp[eV,dU,dJ]
 |
  (k,l)::r=>by
  have K:=ajB x c r;by_cases h:c=k
  . subst h
    have e:dU ((c,l)::r) c=l:=by simp[dU,dJ]
    rw[e];simp[eV];omega
  . have e:dU ((k,l)::r) c=dU r c:=by simp[dU,dJ,h]
    rw[e];simp[eV,h];omega
end
section
variable{f:Nat->fU}{C:bt}{P:List b2}{n b5 j:Nat}{g:ao->bU->K->Option ao}{m:Nat}
def Tf(w:Int):∀(l:List Int) (s:ao),kV s (l.foldl (λs id=>move s id w) s)/\bM (l.foldl (λs id=>move s id w) s)=bM s
 |[],s=>⟨.refl,rfl⟩
 |
  x::l,s=>by
  have:=Tf w l (move s x w);exact⟨(K2 x w).trans this.1,this.2⟩
def ajC(a w:Int):∀(l:List Int) (s:ao),kV s (l.foldl (λs id=>lg s id a w) s)/\bM (l.foldl (λs id=>lg s id a w) s)=bM s
 |[],s=>⟨.refl,rfl⟩
 |
  x::l,s=>by
  have:=ajC a w l (lg s x a w);exact⟨(S5 x a w).trans this.1,this.2.trans (S6 x a w)⟩
def ajD{s:ao}{a p q:Nat}(h:In f C P n j p q s)(aW:cG (bk s) a):∃aD,xG s a=some aD/\In f C P n j p q aD/\bk aD=bk s/\bM aD=bM s:=by
 obtain⟨x,e,ex⟩:=lP aW;unfold xG;refine rI ?_;obtain⟨m1,gA⟩:=Tf 4 x.aside s;have B:=h.base.aJ _ _ ex;have b:(x.aside.foldl (λs id=>move s id 4) s).aJ[a -1]?=some x:=by rw[m1.aJ];exact ex
 have h1:=h.hX m1;refine⟨_,rfl,lR h1 b ?_,by rw[j7,m1.aY],?_⟩
 . rw[m1.aY]
   exact⟨B.id,B.par,B.kind,B.slots,B.lf,B.kids,(λv Y=>by cases Y),(λv Y=>by rcases ky.1 Y with Y|Y;exact B.front v Y;exact B.aside v (List.mem_reverse.1 Y)),B.cM,B.jV⟩
 . have:=lQ (y:={x with front:=x.front++x.aside.reverse,aside:=[]}) b
   simp only[io,eL,ajE,lp]at this;omega
variable(J:C.ok)(aA:b5<1099511627776)(cO:n<=bq)
include J aA cO
theorem awl(aF:eb f C P n b5 j m g){s:ao}{a:Nat}{l:cW}{e:fv}{k:K}{cancel:ao->List Int->K->Option ao}(h:In f C P n j 0 0 s)(aW:cG (bk s) a)(av:tY (bk s) l)(V:Cb P e)
 (a6:∀aD ids,In f C P n j 0 0 aD->bk aD=bk s->(∀v∈ids,dK (bk aD) .jp v)->bM aD<=bM s->Good f C P n b5 (cancel aD ids k))
 (hk:cV C P (bk s) k)(aL:c6 k)(z:dD k<=2)(W:bM s+bx k+10<=b5)(bf:bx k<m):Good f C P n b5 (Ci C g j s a l e cancel k):=by
 obtain⟨x,ay,ex⟩:=lP aW;have B:=h.base.aJ _ _ ex;have d:oY (bk s) (max l.cy 0):=⟨by omega,by have:=av.cy;omega⟩;have r:=awk (ref:=e.ref) aW.z0 d (show oY (bk s) (x.parent:Int)from⟨by omega,by have:=B.par;omega⟩) B.lf;unfold Ci;rw[ay];have t:(nt e.slot).getD 0<4:=by unfold nt;(repeat' split)<;>simp
 show Good f C P n b5 (vE C g j s a x e (max l.cy 0) (hl e.ref a (max l.cy 0) x.parent x.slots) ((nt e.slot).getD 0) cancel k)
 generalize (nt e.slot).getD 0=slot at*
 generalize hl e.ref a (max l.cy 0) x.parent x.slots=who at*
 generalize max l.cy 0=snd at*
 have U:=V.1;have o:=V.2.1;have i:=V.2.2;clear V;unfold vE;by_cases c1:e.do'=1
 . rw[bd c1];exact Tc J aA cO h ⟨r,aW.z0.2,i⟩ hk aL z ae
 rw[a8 c1];by_cases bn:e.do'=2
 . rw[bd bn];exact jA h (λak=>⟨.inr rfl,rfl⟩) ⟨aW,o bn,t,hk,aL,z⟩ rfl ae
 rw[a8 bn];by_cases b9:e.do'=10
 . rw[bd b9]
   have hp:=lQ (y:={x with slots:=x.slots.set slot snd}) ex;refine aF.dF (lR h ex ⟨B.id,B.par,B.kind,by simp[B.slots],λv Y=>?_,B.kids,B.aside,B.front,B.cM,B.jV⟩) Pq aL Iw bf;rcases aix Y with Y|rfl
   . exact B.lf v Y
   . exact d
 rw[a8 b9];by_cases d5:e.do'=5
 . rw[bd d5]
   obtain⟨s1,g5,w,T,O⟩:=ajD h aW;rw[g5];simp only[k3];exact aF.dF w (by rw[T];exact hk) aL ae bf
 rw[a8 d5];by_cases d9:e.do'=8
 . rw[bd d9];exact jA h (λak=>⟨.inl rfl,rfl⟩) ⟨aW,⟨aW.z0,aW.z0.2,i⟩,hk,aL,z⟩ rfl ae
 rw[a8 d9];by_cases ge:e.do'=9
 . rw[bd ge]
   have hp:=lQ (y:={x with timers:=ou x.timers e.name}) ex;have b:((ou x.timers e.name).map (λp=>1+p.2.length)).sum<=(x.timers.map (λp=>1+p.2.length)).sum:=ajw _ _;refine a6 _ _ (lR h ex ⟨B.id,B.par,B.kind,B.slots,B.lf,B.kids,B.aside,B.front,B.cM,λp hp=>B.jV p (ajv hp)⟩) j7 (λv Y=>?_) Iw;rw[j7];obtain⟨p,aN,bu⟩:=Te Y;exact B.jV p aN v bu
 rw[a8 ge,bd (show e.do'=6\/e.do'=7 by omega)];by_cases S:who=0\/who=a
 . rw[bd S];exact aF.dF h hk aL ae bf
 rw[a8 S];have hC:=r.1;have pi:who<=s.aJ.length:=r.2;have hH:=h.base.na;by_cases c:e.do'=6
 . rw[bd c];exact awi J aA cO h aW (⟨by omega,by show _<=s.aJ.length;omega⟩) hk aL z ae
 rw[a8 c,bd ⟨by omega,by omega⟩];have hp:=lQ (y:={x with watched:=x.watched.erase who}) ex;have he:=ajy x.watched who;have q:=lR h ex (y:={x with watched:=x.watched.erase who}) ⟨B.id,B.par,B.kind,B.slots,B.lf,B.kids,B.aside,B.front,B.cM,B.jV⟩;obtain⟨fF,g7,_⟩:=q.bp;exact jA q (λak=>Tb bJ (aW.act h.base) ⟨by omega,by omega⟩ g7.len) Pq (ajh aL awf) Iw
def awm:ev->Prop
 |.cancel _=>False
 |.push _ _=>False
 |_=>True
def ajF:ev->Nat
 |.cancel _=>2
 |_=>1
theorem awn(aF:eb f C P n b5 j m g){s:ao}{ids:List Int}{k:K}(h:In f C P n j 0 0 s)(Y:∀v∈ids,dK (bk s) .jp v)(hk:cV C P (bk s) k)(aL:c6 k)(z:dD k<=2)(W:bM s+bx k<=b5)(bf:bx k<m):Good f C P n b5 (zO C g j s ids k):=by
 unfold zO zP;split
 . exact aF.dF h hk aL W bf
 . rename_i bh
   have dV:0<ids.length:=ae;unfold mH;simp only[cz dV,bind,Option.bind];exact jA h (λak=>ajo (Y _ (vn dV))) ⟨⟨rfl,Y⟩,dV,hk,aL,z⟩ Jz ae
theorem Fe(aF:eb f C P n b5 j m g){s:ao}{d:ev}{i c:Nat}{k:K}(h:In f C P n j 0 0 s)(aL:Cc P (bk s) d c)(ak:i<=c)(hk:cV C P (bk s) k)(y:c6 k)(z:dD k<=ajF d)(W:bM s+bx k+10<=b5)(bf:bx k<m)
 (I:awm d->bM s+bx k+wd d i c+10<=b5/\bx k+wd d i c<m):Good f C P n b5 (mI C g j s d i c k):=by
 unfold mI;split
 . exact aF.dF h hk y ae bf
 . rename_i bh
   have dV:i<c:=ae;have o:cV C P (bk s) (.each d i c k):=⟨aL,dV,hk,y,by cases d<;>exact z⟩;have v:dD (.each d i c k)<=2\/∃ids,d=.cancel ids:=by
    cases d with
    |cancel ids=>exact .inr ⟨ids,rfl⟩
    |_=>exact .inl (by show dD k+1<=2;have:dD k<=1:=z;omega)
   have w:bx (.each d i c k)=bx k+wd d i c:=rfl;unfold mH;cases d with
   |
    c5 a id p=>
    obtain⟨d1,t,mp,u,r⟩:=aL;have ip:=v.resolve_right (fun⟨_,e⟩=>by cases e);obtain⟨B,D⟩:=I trivial;obtain⟨l,el,b⟩:=K3 t;have hp:i<p.cw.length:=ae;simp only[el,cz hp,bind,Option.bind];refine awl J aA cO aF h d1 (h.base.lets l b) (r _ (vn hp)) (λaD ids q T Y V=>?_) o trivial ip ae ae;exact awn J aA cO aF q Y (by rw[T];exact o) trivial ip ae ae
   |
    cancel ids=>
    have hp:i<ids.length:=Pr;simp only[cz hp,bind,Option.bind];exact jA h (λak=>ajo (aL.2 _ (vn hp))) o Jz ae
   |
    leave due=>
    obtain⟨B,D⟩:=I trivial;have hp:i<due.length:=Pr;simp only[cz hp,bind,Option.bind];exact ajp J aA cO aF h (aL.2.2 _ (vn hp)) o trivial Qz ae ae
   |
    push l what=>
    have hp:i<l.length:=Pr;simp only[cz hp,bind,Option.bind];have Y:=(aL.2.2 _ (vn hp)).cG.1;have O:=aL.2.1;exact Cf J aA cO h Y ⟨(show 0<=what/\what<=4 by omega),⟨vs _,(show(0:Int)<=((bk s).na:Int) by omega)⟩,(λe=>by replace e:what=1:=e;omega)⟩ o trivial Qz ae
   |
    l9 a=>
    obtain⟨B,D⟩:=I trivial;obtain⟨d1,t,mp⟩:=aL;show Good f C P n b5 (if i+1=a then g s dF (.each (.l9 a) i c k)else ua C j s (i+1) a (.each (.l9 a) i c k));split
    . exact aF.dF h o trivial ae ae
    . exact ajq J aA cO h uF d1 o trivial Qz ae
theorem Tg(aF:eb f C P n b5 j m g){s:ao}{l:List Int}{what:Int}{k:K}(h:In f C P n j 0 0 s)(Y:∀v∈l,dK (bk s) .act v)(O:what=0\/what=2)(hk:cV C P (bk s) k)(aL:c6 k)(z:dD k<=1)(W:bM s+bx k+10<=b5)(bf:bx k<m):Good f C P n b5 (vF C g j s l what k):=
 Fe J aA cO aF h ⟨rfl,O,Y⟩ (eX _) hk aL z W bf (λh=>h.elim)
theorem Ti(aF:eb f C P n b5 j m g){s:ao}{a:Nat}{k:K}(h:In f C P n j 0 0 s)(aW:cG (bk s) a)(hk:cV C P (bk s) k)(aL:c6 k)(z:dD k<=0)(W:bM s+bx k+276<=b5)(bf:bx k+256<m):Good f C P n b5 (qR C g j s a k):=by
 obtain⟨x,e,ex⟩:=lP aW;have B:=h.base.aJ _ _ ex;unfold qR;refine rI ?_;split
 . exact JN
 . have h1:=lR h ex (y:=BB) ab1
   have hp:=lQ (y:=BB) ex;simp only[io]at hp;obtain⟨s1,ay,m1,gA⟩:=p5 (s:=dd s a BB) {c7 with kind:=13,dL:=a} oP;rw[ay];simp only;have E:bk s1=bk s:=D7;exact Tg J aA cO aF (h1.hX m1) (by rw[E];exact B.kids) (.inl rfl) (by rw[E];exact⟨aW,hk,aL,z⟩) trivial Ix Iy Iy
theorem ajG(aF:eb f C P n b5 j m g){s:ao}{a:Nat}{reason:cC}{k:K}(h:In f C P n j 0 0 s)(aW:cG (bk s) a)(hk:cV C P (bk s) k)(aL:c6 k)(z:dD k<=0)(W:bM s+bx k+286<=b5)(bf:bx k+256<m):Good f C P n b5 (rO C g j s a reason k):=by
 obtain⟨x,e,ex⟩:=lP aW;have B:=h.base.aJ _ _ ex;unfold rO;refine rI ?_;have h1:=lR h ex (y:=rH) ab1;have hp:=lQ (y:=rH) ex;simp only[io]at hp;obtain⟨s1,ay,m1,gA⟩:=p5 (s:=dd s a rH) {c7 with kind:=9,dL:=a,name:=reason} oP;rw[ay];simp only;have E:bk s1=bk s:=D7;have i1:In f C P n j 0 0 s1:=h1.hX m1;split
 . exact Ti J aA cO aF i1 Iz D8 aL z ae bf
 . rename_i bh
   refine Cf J aA cO i1 (by rw[E];exact⟨by omega,B.par⟩) ⟨(show(0:Int)<=1/\(1:Int)<=4 by decide),by rw[E];exact aW.z0,λ_=>?_⟩ D8 aL ae ae;have:=aW.1;show(1:Int)<=(a:Int);omega
theorem awo{s:ao}{a:Nat}{k:K}(h:In f C P n j 0 0 s)(aW:cG (bk s) a)(hk:cV C P (bk s) k)(aL:c6 k)(z:dD k<=0)(W:bM s<=b5):Good f C P n b5 (zQ j s a k):=by
 obtain⟨x,e,ex⟩:=lP aW;have B:=h.base.aJ _ _ ex;unfold zQ;refine rI ?_;have h1:=lR h ex (y:=QW) ⟨B.id,B.par,B.kind,B.slots,B.lf,B.kids,zi,zi,B.cM,B.jV⟩;have hp:=lQ (y:=QW) ex;simp only[io,lp]at hp;obtain⟨s1,ay,m1,gA⟩:=K4 (why:=2) bJ (x.front.reverse++x.aside) (s:=dd s a QW)
  (λv Y=>by rw[j7];rcases ky.1 Y with Y|Y;exact B.front v (List.mem_reverse.1 Y);exact B.aside v Y) (by rw[eL,ajE];unfold most;omega)
 rw[eL,ajE]at gA;have E:bk s1=bk s:=D7;simp only[ay];exact jA (h1.hX m1) (λak=>Cd (aW.act h.base) (.inr (.inr rfl))) (by rw[E];exact⟨aW,hk,aL,z⟩) Jz ae
theorem ajH(aF:eb f C P n b5 j m g){s:ao}{a:Nat}{k:K}(h:In f C P n j 0 0 s)(aW:cG (bk s) a)(hk:cV C P (bk s) k)(aL:c6 k)(z:dD k<=0)(W:bM s+bx k+10<=b5)(bf:bx k<m):Good f C P n b5 (p6 g j s a k):=by
 obtain⟨x,e,ex⟩:=lP aW;have B:=h.base.aJ _ _ ex;unfold p6;refine rI ?_;split
 . exact aF.dF h hk aL ae bf
 . split
   . exact awo J aA cO h aW hk aL z ae
   . split
     . obtain⟨st,r,f9⟩:∃st r,x.kind.states=st::r:=by
        cases aj:x.kind.states with
        |nil=>exact absurd aj B.kind.st
        |cons st r=>exact⟨st,r,rfl⟩
       have gr:x.kind.states[0]?=some st:=by rw[f9];rfl
       simp only[gr];have h1:=lR h ex (y:=Ej) ⟨B.id,B.par,B.kind,rfl,(λv Y=>by simp at Y;subst Y;exact⟨vs _,(show(0:Int)<=((bk s).na:Int) by omega)⟩),B.kids,B.aside,B.front,zi,B.jV⟩;have hp:=lQ (y:=Ej) ex;simp only[io,lp]at hp;obtain⟨s1,g5,w,T,O⟩:=ajD h1 IA;simp only[g5];have gt:bk s1=bk s:=by rw[T,j7]
       obtain⟨c,ay,i⟩:=lP (by rw[gt];exact aW);have b:=w.base.aJ _ _ i;simp only[ay];have h2:=lR w i (y:={c with mode:=1}) ⟨b.id,b.par,b.kind,b.slots,b.lf,b.kids,b.aside,b.front,b.cM,b.jV⟩;have t:=lQ (y:={c with mode:=1}) i;simp only[io]at t;obtain⟨bZ,bz,V,sL⟩:=p5 (s:=dd s1 a {c with mode:=1}) {c7 with kind:=12,dL:=a} oP;rw[bz];exact aF.dF (h2.hX V) (by rw[V.aY,j7,gt];exact hk) aL ae bf
     . exact aF.dF h hk aL ae bf
theorem Tj(aF:eb f C P n b5 j m g){s:ao}{a:Nat}{x:c9}{d:Int}{k:K}(h:In f C P n j 0 0 s)(aW:cG (bk s) a)(ah:sT (bk s) x)(T:1<=x.who)(hk:cV C P (bk s) k)(aL:c6 k)(z:dD k<=0)(W:bM s+bx k+296<=b5)(bf:bx k+256<m):Good f C P n b5 (p7 C g j s a x d k):=by
 unfold p7;obtain⟨s1,ay,m1,gA⟩:=p5 (s:=s) {c7 with kind:=10,dL:=x.who,cy:=a,why:=d,name:=x.reason} oP;rw[ay];simp only[bind,Option.bind];have E:bk s1=bk s:=m1.aY;have i1:In f C P n j 0 0 s1:=h.hX m1;have O:cG (bk s1) x.who.toNat:=by rw[E];have:=ah.who.2;exact uF
 have R:∀w:Int,(w=0\/w=2\/w=3)->sT (bk s1) ⟨w,0,[]⟩:=λw O=>⟨(show 0<=w/\w<=4 by omega),⟨vs _,(show(0:Int)<=((bk s1).na:Int) by omega)⟩,(λe=>by replace e:w=1:=e;omega)⟩;split
 . exact Cf J aA cO i1 O (R 2 ae) D8 aL ae ae
 . split
   . exact Cf J aA cO i1 O (R 3 ae) D8 aL ae ae
   . split
     . exact Cf J aA cO i1 O (R 0 ae) D8 aL ae ae
     . obtain⟨y,e,q⟩:=lP Iz
       have B:=i1.base.aJ _ _ q;simp only[e];have d4:∀v∈oq y.cM x.who,dK (bk s1) .act v:=λv Y=>by
        unfold oq at Y;split at Y
        . exact B.cM v Y
        . rcases ky.1 Y with Y|Y
          . exact B.cM v Y
          . simp at Y;subst Y;exact⟨T,by rw[E];exact ah.who.2⟩
       have h1:=lR i1 q (y:={y with cM:=oq y.cM x.who}) ⟨B.id,B.par,B.kind,B.slots,B.lf,B.kids,B.aside,B.front,d4,B.jV⟩;have hp:=lQ (y:={y with cM:=oq y.cM x.who}) q;have av:=ajl y.cM x.who;simp only[io]at hp;split
       . exact ajG J aA cO aF h1 (by rw[j7,E];exact aW) (by rw[j7,E];exact hk) aL z ae bf
       . exact aF.dF h1 (by rw[j7,E];exact hk) aL ae ae
theorem awp(aF:eb f C P n b5 j m g){s:ao}{a:Nat}{x:c9}{k:K}(h:In f C P n j 0 0 s)(aW:cG (bk s) a)(ah:sT (bk s) x)(T:1<=x.who)(hk:cV C P (bk s) k)(aL:c6 k)(z:dD k<=0)(W:bM s+bx k+306<=b5)(bf:bx k+256<m):Good f C P n b5 (ub C g j s a x k):=by
 obtain⟨y,e,q⟩:=lP aW;unfold ub;refine rI ?_;split
 . exact JN
 . split
   . exact Tj J aA cO aF h aW ah T hk aL z ae bf
   . exact jA h (λak=>awe) ⟨aW,ah,T,hk,aL,z⟩ ⟨_,rfl⟩ ae
theorem awq(aF:eb f C P n b5 j m g){s:ao}{a:Nat}{x:c9}{k:K}(h:In f C P n j 0 0 s)(aW:cG (bk s) a)(ah:sT (bk s) x)(hk:cV C P (bk s) k)(aL:c6 k)(z:dD k<=0)(W:bM s+bx k+316<=b5)(bf:bx k+256<m):Good f C P n b5 (sW C g j s a x k):=by
 obtain⟨y,e,q⟩:=lP aW;have B:=h.base.aJ _ _ q;unfold sW;refine rI ?_;split
 . exact Ti J aA cO aF h aW hk aL z ae bf
 . split
   . rename_i h1
     exact awp J aA cO aF h aW ah (ah.aG h1) hk aL z ae bf
   . split
     . split
       . exact JN
       . have h1:=lR h q (y:={y with mode:=1,cM:=[]}) ⟨B.id,B.par,B.kind,B.slots,B.lf,B.kids,B.aside,B.front,(λv Y=>by cases Y),B.jV⟩
         have hp:=lQ (y:={y with mode:=1,cM:=[]}) q;simp only[io,lp]at hp;obtain⟨s1,ay,m1,gA⟩:=p5 (s:=dd s a {y with mode:=1,cM:=[]}) {c7 with kind:=11,dL:=a} oP;rw[ay];exact Tg J aA cO aF (h1.hX m1) (by rw[m1.aY,j7];exact B.cM) (.inr rfl) (by rw[m1.aY,j7];exact hk) aL ae ae ae
     . split
       . split
         . exact JN
         . have h1:=lR h q (y:={y with mode:=3}) ⟨B.id,B.par,B.kind,B.slots,B.lf,B.kids,B.aside,B.front,B.cM,B.jV⟩
           have hp:=lQ (y:={y with mode:=3}) q;simp only[io]at hp;exact Tg J aA cO aF h1 (by rw[j7];exact B.kids) (.inl rfl) (by rw[j7];exact⟨aW,hk,aL,z⟩) trivial Ix Iy Iy
       . split
         . have h1:=lR h q (y:={y with kids:=del y.kids x.who,cM:=del y.cM x.who,given:=p1 y.given x.who}) ⟨B.id,B.par,B.kind,B.slots,B.lf,λv Y=>B.kids v (aju Y),B.aside,B.front,λv Y=>B.cM v (aju Y),B.jV⟩
           have hp:=lQ (y:={y with kids:=del y.kids x.who,cM:=del y.cM x.who,given:=p1 y.given x.who}) q;have dp:=Td y.kids x.who;have N:=Td y.cM x.who;have b:=ajx y.given x.who;simp only[io]at hp;exact ajH J aA cO aF h1 IA Pq aL z ae ae
         . exfalso;have:=ah.what;omega
end
structure hS(P:List b2):Prop where
 ne:P≠[]
 kinds:∀k∈P,S3 P k
section
variable{f:Nat->fU}{C:bt}{P:List b2}{n b5 j:Nat}{g:ao->bU->K->Option ao}{m:Nat}
def ajI{s:ao}{b:Bool}(h:In f C P n j 0 0 s)(W:bM s<=b5):Good f C P n b5 (sleep j s b):=by
 obtain⟨t,cK,B⟩:=h.jW;unfold sleep;simp only[cK,bind,Option.bind];refine adZ ?_;intro ak h1 h2;refine⟨ak,h1,λi u e=>?_⟩;replace e:(s.az.set j {t with ij:=b})[i]?=some u:=e;by_cases g2:j=i
 . subst g2
   obtain⟨dV,rfl⟩:=dc.1 e;rw[y0];exact⟨(h2 j t cK).on,(h2 j t cK).iL,(h2 j t cK).lx⟩
 . rw[qK g2]at e;exact h2 i u e
theorem ajJ{s:ao}{l:cW}{nj:Bool}{r:bU}(cO:n<=bq)(aA:b5<1099511627776)(h:In f C P n j 1 0 s)(av:tY (bk s) l)(aE:r=.fV ((s.lets.length+1:Nat):Int))(W:bM s+1<=b5):
 ∃aD id,enter s l nj r=some (aD,id)/\In f C P n j 0 0 aD/\(bk s).le (bk aD)/\dK (bk aD) .jp id/\bM aD=bM s+1:=by
 subst aE;have H:bq=1000000000000:=rfl;have bh:=h.num.pu;have bf:s.lets.length<most:=oP;unfold enter;simp only;rw[bd ⟨trivial,bf⟩];obtain⟨s1,ay,m1,gA⟩:=p5 (s:=IZ) {c7 with kind:=2,id:=((s.lets.length+1:Nat):Int),cy:=l.cy,to:=l.to,name:=l.tag,n:=l.n,nj:=nj} (by unfold most;show bM s<_;omega);rw[ay];have b:(bk s).le (bk IZ):=⟨ei _,by simp,ei _⟩;have i1:In f C P n j 0 0 IZ:=by
  refine h.more (aD:=IZ) rfl rfl rfl b ⟨h.base.xC,h.base.na,λi x e=>(h.base.aJ i x e).mono b,λx ah=>?_,λx ah=>(h.base.notes x ah).mono b,h.base.tZ,h.base.bc.1.acc,by have h1:=Zn (r:=s.bc) (id:=((s.lets.length+1:Nat):Int)) (w:=1);have h2:=h.base.bc.2;show _<=(s.lets++[l]).length;simp only[eL,iE,lp];omega⟩ ⟨?_,?_,h.num.dp,h.num.mD,h.num.mF⟩
  . rcases ky.1 ah with ah|ah
    . exact(h.base.lets x ah).mono b
    . simp at ah;subst ah;exact av.mono b
  . rw[h.num.nl];simp
  . simp only[eL,iE,lp];omega
 refine⟨s1,_,rfl,i1.hX m1,by rw[m1.aY];exact b,?_,gA⟩;rw[m1.aY];exact⟨(by omega:(1:Int)<=((s.lets.length+1:Nat):Int)),(by show((s.lets.length+1:Nat):Int)<=((s.lets++[l]).length:Nat);simp)⟩
theorem awr{s:ao}{a:Nat}{kind:cC}{v:Int}(cT:hS P)(aA:b5<1099511627776)(h:In f C P n j 0 1 s)(aW:cG (bk s) a)(hk:(ll P kind).isSome=true)(Y:v=s.L.getD 1 0)(o:v<=C.aZ)(W:bM s+10<=b5):
 ∃aD,sX C P s v.toNat a kind=some aD/\In f C P n j 0 0 aD/\(bk s).le (bk aD)/\dK (bk aD) .act v/\bM aD<=bM s+10:=by
 obtain⟨k,I⟩:=Sp.1 hk;have B:=cT.kinds k (ajt I);obtain⟨st,r,f9⟩:∃st r,k.states=st::r:=by
  cases aj:k.states with
  |nil=>exact absurd aj B.st
  |cons st r=>exact⟨st,r,rfl⟩
 have gr:k.states[0]?=some st:=by rw[f9];rfl
 have dp:=h.num.dp;have mD:=h.num.mD;have mF:=h.num.mF;rw[<-Y]at dp mD mF;have hH:v=(s.aJ.length:Int)+1:=ae;obtain⟨u,g,q⟩:=lP aW;have z:=h.base.aJ _ _ q;unfold sX;simp only[I,gr,bind,Option.bind];rw[bd ae];simp only[g]
 generalize l:(s.aJ.set (a -1) {u with kids:=u.kids++[((v.toNat:Nat):Int)]})++[(⟨v.toNat,a,k,st.name,[0,0,0,0],[],1,[],[],[],[],[],[]⟩:bR)]=c
 have hlen:c.length=s.aJ.length+1:=by rw[<-l];simp
 have ph:bM {s with aJ:=c}<=bM s+1:=by
  have:=S7 (y:={u with kids:=u.kids++[((v.toNat:Nat):Int)]}) q;simp only[bM,<-l,o1,List.sum_append,gu,mT,S8,List.sum_nil];simp only[io,eL,iE,lp,mT,List.sum_nil]at this⊢;omega
 obtain⟨s1,ay,m1,gA⟩:=p5 (s:={s with aJ:=c}) {c7 with kind:=7,dL:=v.toNat,cy:=a,name:=kind} oP;have b:(bk s).le (bk {s with aJ:=c}):=⟨by show s.aJ.length<=c.length;omega,ei _,ei _⟩;have t:dK (bk {s with aJ:=c}) .act v:=⟨by omega,by show v<=(c.length:Int);omega⟩;have i1:In f C P n j 0 0 {s with aJ:=c}:=by
  refine h.more (aD:={s with aJ:=c}) rfl rfl rfl b ⟨by show 1<=c.length;omega,by show c.length<=_;omega,λi x e=>?_,λx ah=>(h.base.lets x ah).mono b,λx ah=>(h.base.notes x ah).mono b,h.base.tZ,h.base.bc⟩ ⟨h.num.nl,h.num.pu,?_,?_,h.num.mF⟩
  . replace e:c[i]?=some x:=e
    rw[<-l]at e;by_cases ak:i<s.aJ.length
    . rw[k1 CX]at e
      by_cases m:a -1=i
      . subst m
        obtain⟨dV,rfl⟩:=dc.1 e;rw[y0];have d:=z.mono b;refine⟨d.id,d.par,d.kind,d.slots,d.lf,λw O=>?_,d.aside,d.front,d.cM,d.jV⟩;rcases ky.1 O with O|O
        . exact d.kids w O
        . simp at O;subst O;rw[show max v 0=v by omega];exact t
      . rw[qK m]at e;exact(h.base.aJ i x e).mono b
    . rw[pH CX]at e
      simp only[gn]at e;have D:i -s.aJ.length=0:=by
       obtain⟨dV,_⟩:=dc.1 e;simp at dV;omega
      rw[D]at e;simp at e;subst e;have dV:i=s.aJ.length:=by
       omega
      refine⟨by show v.toNat=i+1;omega,by show a<=c.length;have:=aW.2;have:a<=s.aJ.length:=this;omega,B,rfl,λw O=>?_,(λw O=>by cases O),(λw O=>by cases O),(λw O=>by cases O),(λw O=>by cases O),(λp hp=>by cases hp)⟩;simp at O;subst O;exact⟨vs _,by show(0:Int)<=(c.length:Int);omega⟩
  . show(c.length:Int)=min (s.L.getD 1 0 -((0:Nat):Int)) C.aZ;rw[<-Y];omega
  . show((0:Nat):Int)+1<=s.L.getD 1 0;rw[<-Y];omega
 exact⟨s1,ay,i1.hX m1,by rw[m1.aY];exact b,by rw[m1.aY];exact t,by omega⟩
variable(J:C.ok)(aA:b5<1099511627776)(cO:n<=bq)
include J aA cO
theorem ajK{s:ao}{v:Int}(h:In f C P n j 0 0 s)(Y:dK (bk s) .act v)(W:bM s<=b5):Good f C P n b5 (uc j s v):=by
 unfold uc;have h1:1<=v:=Y.1;have h2:v<=s.aJ.length:=Y.2;rw[bd ⟨h1,h2⟩];have:=Y.cG.1;exact jA h (λak=>Ta (this.act h.base) Hi) this Jz W
theorem ajL(aF:eb f C P n b5 j m g){s:ao}{a:Nat}{id:Int}{k:K}(h:In f C P n j 0 0 s)(aW:cG (bk s) a)(cx:dK (bk s) .jp id)(hk:cV C P (bk s) k)(aL:c6 k)(z:dD k<=0)(W:bM s+bx k+1640<=b5)(bf:bx k+1640<m):Good f C P n b5 (qS C g j s a id k):=by
 obtain⟨x,e,ex⟩:=lP aW;have B:=h.base.aJ _ _ ex;obtain⟨l,el,b⟩:=K3 cx;unfold qS;simp only[e,el,bind,Option.bind];split
 . obtain⟨s1,ay,m1,gA⟩:=xD (why:=5) (λ_ _=>trivial) cx bJ (show bM s<most by unfold most;omega)
   exact adJ
 . obtain⟨H,G⟩:=awj B.kind x.state l.tag l.n (h.base.lets l b).n
   generalize kY x.kind x.state l.tag l.n=p at*
   split
   . split
     . obtain⟨s1,ay,m1,gA⟩:=xD (why:=1) (λ_ _=>trivial) cx bJ (show bM s<most by unfold most;omega)
       exact adJ
     . have h1:=lR h ex (y:={x with aside:=x.aside++[id]}) ⟨B.id,B.par,B.kind,B.slots,B.lf,B.kids,(λv Y=>by rcases ky.1 Y with Y|Y;exact B.aside v Y;simp at Y;subst Y;exact cx),B.front,B.cM,B.jV⟩
       have hp:=lQ (y:={x with aside:=x.aside++[id]}) ex;simp only[io,eL,iE,lp]at hp;have d:bM (move (dd s a {x with aside:=x.aside++[id]}) id 3)=bM (dd s a {x with aside:=x.aside++[id]}):=rfl;obtain⟨s1,ay,m1,gA⟩:=p5 (s:=move (dd s a {x with aside:=x.aside++[id]}) id 3) {c7 with kind:=5,dL:=a,id:=id} oP;simp only[ay];exact aF.dF ((h1.hX (K2 _ _)).hX m1) (by rw[m1.aY,(K2 _ _).aY,j7];exact hk) aL ae ae
   . have g5:kV s {s with bc:=dg s.bc id 7}:=⟨rfl,rfl,rfl,rfl,rfl,rfl,λh=>h.from bJ,Led.yW⟩
     have o:bM {s with bc:=dg s.bc id 7}=bM s:=rfl;obtain⟨s1,ay,m1,gA⟩:=p5 (s:={s with bc:=dg s.bc id 7}) {c7 with kind:=3,dL:=a,id:=id} oP;simp only[ay];have i1:=(h.hX g5).hX m1;have gt:bk s1=bk s:=by rw[m1.aY,g5.aY]
     have i:s1.aJ[a -1]?=some x:=by rw[m1.aJ];exact ex
     have dl:=ajy x.watched l.cy;have ag:c P (bk s1) (a -1) (if l.p9=true then{x with watched:=x.watched.erase l.cy}else x):=by
      rw[gt];split
      . exact⟨B.id,B.par,B.kind,B.slots,B.lf,B.kids,B.aside,B.front,B.cM,B.jV⟩
      . exact B
     have aj:io (if l.p9=true then{x with watched:=x.watched.erase l.cy}else x)<=io x:=by
      split
      . simp only[io];omega
      . exact ei _
     have h2:=lR i1 i ag;have hp:=lQ (y:=(if l.p9=true then{x with watched:=x.watched.erase l.cy}else x)) i;have w:bx (.ended a id p k)=bx k+1000:=rfl;have Z:wd (.c5 a id p) 0 p.cw.length=64*(p.cw.length -0)+64:=rfl;exact Fe J aA cO aF h2 (by rw[j7,gt];exact⟨aW,cx,rfl,H,G⟩) (eX _) (by rw[j7,gt];exact⟨aW,hk,aL,z⟩) trivial Ix ae ae (λ_=>⟨by omega,by omega⟩)
theorem ajM(aF:eb f C P n b5 j m g){s:ao}{a left:Nat}(h:In f C P n j 0 0 s)(aW:cG (bk s) a)(av:left<=16)(W:bM s<=b5)(O:1<=left->bM s+nq (left -1)+1710<=b5/\nq (left -1)+1710<m):Good f C P n b5 (p8 C g j s a left):=by
 obtain⟨x,e,ex⟩:=lP aW;have B:=h.base.aJ _ _ ex;unfold p8;refine rI ?_;split
 . exact ajr J aA cO h aW W
 . split
   . exact jA h (λak=>Ta (aW.act h.base) ⟨by decide,by decide⟩) aW (λ_ _ e=>by cases e) W
   . rename_i bh
     obtain⟨aG,bb⟩:=O ae;split
     . rename_i id cx
       have b:id∈x.front:=List.mem_of_getLast? cx;have h1:=lR h ex (y:={x with front:=x.front.dropLast}) ⟨B.id,B.par,B.kind,B.slots,B.lf,B.kids,B.aside,λv Y=>B.front v ((List.dropLast_sublist _).subset Y),B.cM,B.jV⟩;have hp:=lQ (y:={x with front:=x.front.dropLast}) ex;simp only[io,ajN]at hp;have w:bx (.next a left)=nq (left -1)+64:=rfl;exact ajL J aA cO aF h1 IA (by rw[j7];exact B.front _ b) (by rw[j7];exact⟨aW,by omega,av⟩) trivial (ei _) ae ae
     . exact jA h (λak=>Cd (aW.act h.base) (.inl rfl)) ⟨aW,by omega,av⟩ ⟨λ_=>⟨_,rfl,rfl⟩,(λe=>by simp[Cj]at e)⟩ W
end
def eb.le{f:Nat->fU}{C:bt}{P:List b2}{n b5 j m q:Nat}{g:ao->bU->K->Option ao}(h:eb f C P n b5 j m g)(l:q<=m):eb f C P n b5 j q g:=
 λs k a b c d e=>h s k a b c d ae
section
variable{f:Nat->fU}{C:bt}{P:List b2}{n b5 j:Nat}{g:ao->bU->K->Option ao}
variable(J:C.ok)(aA:b5<1099511627776)(cO:n<=bq)(cT:hS P)
include J aA cO cT
theorem TH{s:ao}{r:bU}{k:K}(aF:eb f C P n b5 j (bx k) g)(h:In f C P n j (eF k) (eG k) s)(hk:cV C P (bk s) k)(aE:eE C j s r k)(W:bM s+bx k<=b5):Good f C P n b5 (dw C P g j s r k):=by
 have H:bq=1000000000000:=rfl;cases k with
 |nil=>exact⟨s,rfl,h.inv,by omega⟩
 |
  polled=>
  obtain⟨c,rfl⟩:=aE;exact ajI h ae
 |
  found=>
  obtain⟨N,aE⟩:=aE;cases r with
  |
   fx c=>
   simp only[dw];split
   . rename_i h1;exact ajK J aA cO h (aE.2 h1) ae
   . exact jA h (λak=>awb N) trivial ⟨N,awc⟩ ae
  |_=>exact aE.elim
 |
  oZ=>
  obtain⟨N,aE⟩:=aE;cases r with
  |
   fx c=>
   simp only[dw];split
   . rename_i h1;exact ajK J aA cO h (aE.2 h1) ae
   . exact ajI h ae
  |_=>exact aE.elim
 |
  mb=>
  obtain⟨c,rfl,h1,h2,aN,bu,dW⟩:=aE;have w:bx .mb=7000:=rfl;simp only[dw,bind,Option.bind];have A:kV s {s with now:=s.now+1}:=⟨rfl,rfl,rfl,rfl,rfl,rfl,λh=>h,rfl⟩;have X:bM {s with now:=s.now+1}=bM s+1:=by simp only[bM];omega
  obtain⟨s1,ay,m1,gA⟩:=p5 (s:={s with now:=s.now+1}) {c7 with kind:=15,n:=((s.now+1:Nat):Int)} oP;rw[ay];have gt:bk s1=bk s:=by rw[m1.aY,A.aY]
  obtain⟨bP,aV,t,U⟩:=K4 (why:=1) bJ c.ref (by rw[gt];exact aN) oP;simp only[aV];have L:bk bP=bk s:=by rw[t.aY,gt]
  obtain⟨bZ,bz,V,sL⟩:=K4 (why:=4) bJ c.cut (by rw[L];exact h2) oP;simp only[bz];obtain⟨GS,xv⟩:=ajC 5 6 (bZ.bs.T.map (·.id)) bZ
  generalize (bZ.bs.T.map (·.id)).foldl (λs id=>lg s id 5 6) bZ=i0 at*
  obtain⟨aig,zL⟩:=Tf 1 c.due i0
  generalize c.due.foldl (λs id=>move s id 1) i0=md at*
  have aDe:In f C P n j 0 0 md:=((((((show In f C P n j 0 0 s from h).hX A).hX m1).hX t).hX V).hX GS).hX aig;have z5:bk md=bk s:=by rw[aig.aY,GS.aY,V.aY,L]
  have Z:wd (.leave c.due) 0 c.due.length=64*(c.due.length -0)+64:=rfl;have aDP:bx .nil=64:=rfl;exact Fe J aA cO (m:=bx .mb) aF aDe (by rw[z5];exact⟨rfl,bu,h1⟩) (eX _) trivial trivial (eX _) ae ae (λ_=>⟨by omega,by omega⟩)
 |run a=>exact ajs J aA cO h hk ae
 |
  jk a=>
  have w:bx (.jk a)=70000:=rfl;cases r with
  |
   post aI p=>
   simp only[dw];split
   . have aDf:C.mJ<=16:=J.GF
     refine ajM J aA cO aF h hk aDf ae (λ_=>?_);have:nq (C.mJ -1)<=61280:=by unfold nq;omega
     exact⟨by omega,by omega⟩
   . rename_i h1
     have Y:=aE.2 ae;have v1:0<=p.val:=Y.1;have u:p.val<s.notes.length:=Y.2;have dV:p.val.toNat<s.notes.length:=ae;simp only[cz dV,bind,Option.bind];have aV:bx (.on a)=128:=rfl;exact awq J aA cO aF h hk (h.base.notes _ (vn dV)) hk trivial (eX _) ae ae
  |_=>exact aE.elim
 |
  on a=>
  obtain⟨x,e,ex⟩:=lP hk;simp only[dw,e,bind,Option.bind];split
  . exact ajs J aA cO h hk ae
  . exact⟨s,rfl,h.inv,by omega⟩
 |again a=>exact jA h (λak=>ajn (h.amd J hk) hk.v) trivial (λ_ _ e=>by cases e) ae
 |
  next a left=>
  obtain⟨aW,h1,h2⟩:=hk;have w:bx (.next a left)=nq (left -1)+64:=rfl;refine ajM J aA cO aF h aW ae ae (λav=>?_);have:nq (left -1 -1)+4000=nq (left -1):=by unfold nq;omega
  exact⟨by omega,by omega⟩
 |
  nr a left=>
  obtain⟨aW,h1,h2⟩:=hk;have w:bx (.nr a left)=nq left:=rfl;cases r with
  |
   post aI p=>
   simp only[dw];split
   . exact ajr J aA cO h aW ae
   . rename_i aK
     have Y:=aE.2 ae;have aV:bx (.next a left)=nq (left -1)+64:=rfl;have:nq (left -1)+4000=nq left:=by unfold nq;omega
     exact ajL J aA cO aF h aW Y ⟨aW,h1,h2⟩ trivial (eX _) ae ae
  |_=>exact aE.elim
 |settled a=>exact K5 J aA cO aF h hk aE trivial trivial (by have:bx .nil=64:=rfl;have:bx (.settled a)=128:=rfl;omega) (show 64<128 by decide)
 |
  ended a id p k=>
  obtain⟨aW,M,aL,av⟩:=hk;have w:bx (.ended a id p k)=bx k+1000:=rfl;obtain⟨x,e,ex⟩:=lP aW;have B:=h.base.aJ _ _ ex;simp only[dw,e,bind,Option.bind];have h1:=lR h ex (y:={x with state:=p.state}) ⟨B.id,B.par,B.kind,B.slots,B.lf,B.kids,B.aside,B.front,B.cM,B.jV⟩;have hp:=lQ (y:={x with state:=p.state}) ex;simp only[io]at hp;obtain⟨s1,ay,m1,gA⟩:=p5 (s:=dd s a {x with state:=p.state}) {c7 with kind:=4,dL:=a,id:=id,name:=p.state} oP;rw[ay];have E:bk s1=bk s:=D7;have i1:In f C P n j 0 0 s1:=(show In f C P n j 0 0 _ from h1).hX m1;simp only;split
  . exact Ti J aA cO aF i1 Iz (by rw[E];exact M) aL av ae ae
  . split
    . exact ajG J aA cO aF i1 Iz (by rw[E];exact M) aL av ae ae
    . exact aF.dF i1 (by rw[E];exact M) aL ae ae
 |
  mc l k=>
  obtain⟨av,M,aL,z⟩:=hk;have w:bx (.mc l k)=bx k+192:=rfl;obtain⟨s1,id,ay,i1,b,Y,gA⟩:=ajJ (nj:=false) cO aA h av aE ae;simp only[dw,ay,bind,Option.bind];exact ajp J aA cO aF i1 Y (M.mono b) aL z ae ae
 |
  gv a l e k=>
  obtain⟨aW,av,M,aL,z⟩:=hk;have w:bx (.gv a l e k)=bx k+192:=rfl;obtain⟨s1,id,ay,i1,b,Y,gA⟩:=ajJ (nj:=true) cO aA h av aE ae;simp only[dw,ay,bind,Option.bind];exact awh J aA cO i1 (aW.mono b) Y (M.mono b) aL z ae
 |
  told id to k=>
  obtain⟨cx,Q,M,aL,z⟩:=hk;have w:bx (.told id to k)=bx k+128:=rfl;obtain⟨aI,p,rfl⟩:=aE;simp only[dw,bind,Option.bind];split
  . obtain⟨s1,ay,m1,gA⟩:=xD (why:=1) (λ_ _=>trivial) cx bJ (show bM s<most by unfold most;omega)
    simp only[ay];exact aF.dF ((show In f C P n j 0 0 s from h).hX m1) IB aL ae ae
  . split
    . obtain⟨s1,ay,m1,gA⟩:=xD (why:=2) (λ_ _=>trivial) cx bJ (show bM s<most by unfold most;omega)
      simp only[ay];exact aF.dF ((show In f C P n j 0 0 s from h).hX m1) IB aL ae ae
    . have m1:=S5 (s:=s) id 1 2
      have gA:=S6 (s:=s) id 1 2;exact K5 J aA cO aF ((show In f C P n j 0 0 s from h).hX m1) (by rw[m1.aY];exact Q.cG.1) ⟨_,_,rfl⟩ IB aL ae ae
 |
  lh a k=>
  obtain⟨aW,M,aL,z⟩:=hk;have w:bx (.lh a k)=bx k+128:=rfl;exact K5 J aA cO aF h aW aE M aL ae ae
 |
  me a kind slot k=>
  obtain⟨aW,aDg,g0,M,aL,z⟩:=hk;have w:bx (.me a kind slot k)=bx k+128:=rfl;replace aE:r=.fV (s.L.getD 1 0):=aE;subst aE;simp only[dw,bind,Option.bind];have fin:∀(s1:ao) (F:Int),In f C P n j 0 0 s1->(bk s).le (bk s1)->oY (bk s1) F->bM s1<=bM s+10->Good f C P n b5 ((dE s1 a).bind λx=>g (dd s1 a {x with slots:=x.slots.set slot F}) dF k):=λs1 F i1 b Y gA=>by
   obtain⟨x,e,ex⟩:=lP (aW.mono b);have B:=i1.base.aJ _ _ ex;simp only[e,Option.bind];have hp:=lQ (y:={x with slots:=x.slots.set slot F}) ex;simp only[io]at hp;refine aF.dF (lR i1 ex ⟨B.id,B.par,B.kind,by simp[B.slots],λv D=>?_,B.kids,B.aside,B.front,B.cM,B.jV⟩) (by rw[j7];exact M.mono b) aL ae ae;rcases aix D with D|rfl
   . exact B.lf v D
   . exact Y
  replace h:In f C P n j 0 1 s:=h;split
  . rename_i aDQ
    obtain⟨s1,ay,m1,gA⟩:=p5 (s:=s) {c7 with kind:=8,dL:=a,name:=kind} oP;simp only[ay,Option.map];have fz:In f C P n j 0 0 s:=by
     have dp:=h.num.dp;exact h.more rfl rfl rfl .refl h.base ⟨h.num.nl,h.num.pu,by omega,by have:=h.num.mD;omega,h.num.mF⟩
    exact fin s1 0 (fz.hX m1) (by rw[m1.aY];exact .refl) ⟨vs _,by omega⟩ ae
  . obtain⟨s1,ay,i1,b,Y,gA⟩:=awr cT aA h aW aDg rfl ae ae
    simp only[ay,Option.map];have v1:1<=s.L.getD 1 0:=Y.1;exact fin s1 _ i1 b ⟨by omega,Y.2⟩ gA
 |
  asked id a e k=>
  obtain⟨cx,aW,M,aL,z⟩:=hk;have w:bx (.asked id a e k)=bx k+128:=rfl;obtain⟨c,rfl⟩:=aE;simp only[dw,bind,Option.bind];split
  . obtain⟨s1,ay,m1,gA⟩:=xD (why:=1) (λ_ _=>trivial) cx bJ (show bM s<most by unfold most;omega)
    simp only[ay];exact aF.dF ((show In f C P n j 0 0 s from h).hX m1) IB aL ae ae
  . have m1:=S5 (s:=s) id 1 5
    have gA:=S6 (s:=s) id 1 5;have i1:=(show In f C P n j 0 0 s from h).hX m1
    generalize lg s id 1 5=s1 at*
    obtain⟨x,ay,ex⟩:=lP (a:=a) (by rw[m1.aY];exact aW);have B:=i1.base.aJ _ _ ex;simp only[ay];have hp:=lQ (y:={x with timers:=ma x.timers e.name id}) ex;have R:=ajz x.timers e.name id;simp only[io]at hp;refine aF.dF (lR i1 ex ⟨B.id,B.par,B.kind,B.slots,B.lf,B.kids,B.aside,B.front,B.cM,λp hp v Y=>?_⟩) (by rw[j7,m1.aY];exact M) aL ae ae;rcases ajA hp Y with rfl|⟨S,h1,h2⟩
    . rw[m1.aY];exact cx
    . exact B.jV S h1 v h2
 |
  watched a who k=>
  obtain⟨aW,O,M,aL,z⟩:=hk;have w:bx (.watched a who k)=bx k+128:=rfl;exact jA h (λak=>av7 (O.act h.base)) ⟨aW,O,M,aL,z⟩ ⟨_,_,rfl⟩ ae
 |
  gone a who k=>
  obtain⟨aW,O,M,aL,z⟩:=hk;have w:bx (.gone a who k)=bx k+128:=rfl;obtain⟨aI,p,rfl⟩:=aE;simp only[dw];split
  . exact aF.dF h M aL ae ae
  . exact ajq J aA cO h aW O M aL z ae
 |
  mK x y k=>
  obtain⟨ah,ag,M,aL,z⟩:=hk;have w:bx (.mK x y k)=bx k+128:=rfl;obtain⟨o,rfl⟩:=aE;simp only[dw];split
  . exact aF.dF h M aL ae ae
  . exact Tc J aA cO h ⟨ah.z0,ag.z0.2,(show(0:Int)<=0/\(0:Int)<=255 by decide)⟩ M aL z ae
 |
  alone a k=>
  obtain⟨aW,M,aL,z⟩:=hk;have w:bx (.alone a k)=bx k+256:=rfl;exact ajH J aA cO aF h aW M aL z ae ae
 |
  mf a x k=>
  obtain⟨aW,ah,T,M,aL,z⟩:=hk;have w:bx (.mf a x k)=bx k+1000:=rfl;obtain⟨c,rfl⟩:=aE;obtain⟨y,e,q⟩:=lP aW;have B:=h.base.aJ _ _ q;simp only[dw,e,bind,Option.bind];split
  . exact Tj J aA cO aF h aW ah T M aL z ae ae
  . have h1:=lR h q (y:={y with given:=eV y.given x.who (dU y.given x.who++[ht (qT c.val)])}) ⟨B.id,B.par,B.kind,B.slots,B.lf,B.kids,B.aside,B.front,B.cM,B.jV⟩
    have hp:=lQ (y:={y with given:=eV y.given x.who (dU y.given x.who++[ht (qT c.val)])}) q;have R:=ajB (ht (qT c.val)) x.who y.given;simp only[io]at hp;exact Tj J aA cO aF h1 IA (by rw[j7];exact ah) T (by rw[j7];exact M) aL z ae ae
 |
  closed a k=>
  obtain⟨aW,M,aL,z⟩:=hk;have w:bx (.closed a k)=bx k+128:=rfl;exact jA h (λak=>Cd (aW.act h.base) (.inr (.inl rfl))) ⟨aW,⟨aW,M,aL,z⟩,trivial,by show dD k+1<=1;omega⟩ ⟨λ_=>⟨_,rfl,rfl⟩,(λe=>by simp[xI]at e)⟩ ae
 |
  kW a k=>
  obtain⟨aW,M,aL,z⟩:=hk;have w:bx (.kW a k)=bx k+128:=rfl;cases r with
  |
   post aI p=>
   simp only[dw,bind,Option.bind];split
   . exact aF.dF h M aL ae ae
   . split
     . rename_i h1
       obtain⟨s1,ay,m1,gA⟩:=xD (why:=2) (λ_ _=>trivial) (aE.2 h1) bJ (show bM s<most by unfold most;omega);simp only[ay];exact jA ((show In f C P n j 0 0 s from h).hX m1) (λak=>Cd (aW.act h.base) (.inr (.inl rfl))) (by rw[m1.aY];exact⟨aW,M,aL,z⟩) ⟨λ_=>⟨_,rfl,rfl⟩,(λe=>by simp[xI]at e)⟩ ae
     . exact jA h (λak=>Cd (aW.act h.base) (.inr (.inl rfl))) ⟨aW,M,aL,z⟩ ⟨λ_=>⟨_,rfl,rfl⟩,(λe=>by simp[xI]at e)⟩ ae
  |_=>exact aE.elim
 |
  shut a k=>
  obtain⟨aW,M,aL,z⟩:=hk;have w:bx (.shut a k)=bx k+128:=rfl;exact jA h (λak=>Ta (aW.act h.base) ⟨by decide,by decide⟩) ⟨aW,M,aL,z⟩ (λ_ _ e=>by cases e) ae
 |
  nS a k=>
  obtain⟨aW,M,aL,z⟩:=hk;have w:bx (.nS a k)=bx k+128:=rfl;obtain⟨x,e,ex⟩:=lP aW;have B:=h.base.aJ _ _ ex;simp only[dw,e,bind,Option.bind];have h1:=lR h ex (y:={x with mode:=5}) ⟨B.id,B.par,B.kind,B.slots,B.lf,B.kids,B.aside,B.front,B.cM,B.jV⟩;have hp:=lQ (y:={x with mode:=5}) ex;simp only[io]at hp;obtain⟨s1,ay,m1,gA⟩:=p5 (s:=dd s a {x with mode:=5}) {c7 with kind:=14,dL:=a} oP;rw[ay];have E:bk s1=bk s:=D7;exact jA ((show In f C P n j 0 0 _ from h1).hX m1) (λak=>rfl) (by rw[E];exact⟨aW,M,aL,z⟩) rfl ae
 |
  who a k=>
  obtain⟨aW,M,aL,z⟩:=hk;have w:bx (.who a k)=bx k+1600:=rfl;replace aE:r=.fV (s.L.getD 1 0):=aE;subst aE;simp only[dw];replace h:In f C P n j 0 0 s:=h;have dp:=h.num.dp;have mD:=h.num.mD;have mF:=h.num.mF;rw[bd ae];have hg:=J.hg;have aV:bx (.parent a k)=bx k+128:=rfl;have Z:wd (.l9 a) 0 (min (s.L.getD 1 0).toNat C.aZ)=64*(min (s.L.getD 1 0).toNat C.aZ -0)+64:=rfl;exact Fe J aA cO aF h ⟨aW,by show _<=s.aJ.length;omega,by omega⟩ (eX _) ⟨aW,M,aL,z⟩ trivial Ix ae ae (λ_=>⟨by omega,by omega⟩)
 |
  parent a k=>
  obtain⟨aW,M,aL,z⟩:=hk;have w:bx (.parent a k)=bx k+128:=rfl;obtain⟨x,e,ex⟩:=lP aW;have B:=h.base.aJ _ _ ex;simp only[dw,e,bind,Option.bind];split
  . exact aF.dF h M aL ae ae
  . exact Cf J aA cO h ⟨by omega,B.par⟩ ⟨(show(0:Int)<=4/\(4:Int)<=4 by decide),aW.z0,(λe=>by cases e)⟩ M aL ae ae
 |
  each d i c k=>
  obtain⟨G,ak,M,aL,z⟩:=hk;have w:bx (.each d i c k)=bx k+wd d i c:=rfl;have aG:64<=wd d i c:=by cases d<;>simp only[wd]<;>omega
  have ip:dD k<=ajF d:=by cases d<;>exact z
  refine Fe J aA cO aF h G ae M aL ip ae ae (λI=>?_);have:wd d (i+1) c+64=wd d i c:=by cases d<;>first|exact I.elim|(simp only[wd];omega)
  exact⟨by omega,by omega⟩
 |ov a=>exact K5 J aA cO aF h hk aE trivial trivial (by have:bx .nil=64:=rfl;have:bx (.ov a)=128:=rfl;omega) (show 64<128 by decide)
end
def asX{C:bt}{P:List b2}{E:gx}{k:K}(h:cV C P E k):dD k<=3:=by
 cases k<;>simp only[dD,cV]at*<;>first|omega|(have:=h.2.2.2;omega)|(have:=h.2.2.2.2;omega)|(have:=h.2.2.2.2.2;omega)|(rename_i d i n k;have:=h.2.2.2.2;cases d<;>simp only at this<;>omega)
def mE{C:bt}{P:List b2}{E:gx}(n:Nat):∀{k:K},cV C P E k->bx k<=70000+5000*dD k
 |.nil,_=>by simp[bx,dD]|.polled,_=>by simp[bx,dD]|.found,_=>by simp[bx,dD]|.oZ,_=>by simp[bx,dD]|.mb,_=>by simp[bx,dD]
 |.run _,v=>by simp[bx,dD]|.jk _,v=>by simp[bx,dD]|.on _,v=>by simp[bx,dD]|.again _,v=>by simp[bx,dD]|.settled _,v=>by simp[bx,dD]|.ov _,v=>by simp[bx,dD]
 |.next _ _,v=>by have:=v.2.2;simp only[bx,dD,nq];omega|.nr _ _,v=>by have:=v.2.2;simp only[bx,dD,nq];omega
 |.ended _ _ _ _,v=>by have:=mE n v.2.1;simp only[bx,dD];omega
 |.mc _ _,v=>by have:=mE n v.2.1;simp only[bx,dD];omega
 |.gv _ _ _ _,v=>by have:=mE n v.2.2.1;simp only[bx,dD];omega
 |.told _ _ _,v=>by have:=mE n v.2.2.1;simp only[bx,dD];omega
 |.lh _ _,v=>by have:=mE n v.2.1;simp only[bx,dD];omega
 |.me _ _ _ _,v=>by have:=mE n v.2.2.2.1;simp only[bx,dD];omega
 |.asked _ _ _ _,v=>by have:=mE n v.2.2.1;simp only[bx,dD];omega
 |.watched _ _ _,v=>by have:=mE n v.2.2.1;simp only[bx,dD];omega
 |.gone _ _ _,v=>by have:=mE n v.2.2.1;simp only[bx,dD];omega
 |.mK _ _ _,v=>by have:=mE n v.2.2.1;simp only[bx,dD];omega
 |.alone _ _,v=>by have:=mE n v.2.1;simp only[bx,dD];omega
 |.mf _ _ _,v=>by have:=mE n v.2.2.2.1;simp only[bx,dD];omega
 |.closed _ _,v=>by have:=mE n v.2.1;simp only[bx,dD];omega
 |.kW _ _,v=>by have:=mE n v.2.1;simp only[bx,dD];omega
 |.shut _ _,v=>by have:=mE n v.2.1;simp only[bx,dD];omega
 |.nS _ _,v=>by have:=mE n v.2.1;simp only[bx,dD];omega
 |.who _ _,v=>by have:=mE n v.2.1;simp only[bx,dD];omega
 |.parent _ _,v=>by have:=mE n v.2.1;simp only[bx,dD];omega
 |
  .each d i c k,v=>by
  have h1:=mE n v.2.2.1;have h2:wd d i c<=5000:=by
   have bh:=v.1;cases d<;>simp only[wd,Cc]at*<;>omega
  simp only[bx,dD];omega
abbrev hE:Nat:=90000
section
variable{f:Nat->fU}{C:bt}{P:List b2}{n b5 j:Nat}
variable(J:C.ok)(aA:b5<1099511627776)(cO:n<=bq)(cT:hS P)
include J aA cO cT
theorem go_ok:∀m,eb f C P n b5 j m (go C P m j)
 |0=>λs k _ _ _ _ h=>absurd h (KH _)
 |m+1=>λs k h hk aL W bf=>TH J aA cO cT ((go_ok m).le ae) (by rw[(K1 aL).1,(K1 aL).2];exact h) hk (S4 aL) W
theorem go_top{m:Nat}{s:ao}{r:bU}{k:K}(h:In f C P n j (eF k) (eG k) s)(hk:cV C P (bk s) k)(aE:eE C j s r k)(W:bM s+bx k<=b5)(bf:bx k<=m):Good f C P n b5 (go C P (m+1) j s r k):=
 TH J aA cO cT ((go_ok J aA cO cT m).le bf) h hk aE W
end
section
variable{f:Nat->fU}{C:bt}{P:List b2}{n:Nat}
def Inv.aT{n':Nat}{s:ao}(h:Inv f C P n s)(aM:n<=n')(hk:n'<=bq):Inv f C P n' s:=by
 have H:bq=1000000000000:=rfl;obtain⟨ak,c,t⟩:=h.bp;exact⟨h.base,⟨h.num.nl,nb h.num.pu aM,h.num.dp,h.num.mD,by have:=h.num.mF;omega⟩,ak,⟨c.len,c.jH,c.rc,c.hK,λw=>nb (c.aA w) aM,c.qO,c.ws.le ae⟩,t⟩
def Inv.In{j:Nat}{s:ao}(h:Inv f C P n s){t:bW}(e:s.az[j]?=some t)(B:t.on=none):Th.In f C P n j 0 0 s:=⟨h.base,h.num,⟨t,e,B⟩,h.bp⟩
def asP{o:bU}(h:S2 o):o.over=false:=by
 cases o with
 |fx c=>have:=h.1;simp[bU.over,gC.over,this]
 |_=>exact h.elim
def Fu(C:bt)(s:ao)(o:bU):(acc C s o).1.az=s.az:=by cases o<;>rfl
end
section
variable{f:Nat->fU}{C:bt}{P:List b2}{n b5 j:Nat}{s:ao}
section
variable{ak:Nat->Nat}{q:nP}{o:bU}{k:K}
theorem ajY{s1:ao}{o S:bU}(cH:iM f C C.cells)(c:eH f C (bk s) ak n s.L s.bs)(A:zN f C (bk s) ak n j q s o s1 S)(bm:∀i,i≠j->q≠.own i){fF:Nat->Nat}(cl:∀w,ak w<=fF w){i:Nat}{t:bW}(g2:i≠j)(h:sU C P (bk s) ak s.L i t):sU C P (bk s) fF s1.L i t:=by
 have y:iM f C s.L.length:=Ps;refine⟨λo k e=>?_,λO=>?_,h.lx⟩
 . obtain⟨h1,h2,aN⟩:=h.on o k e
   exact⟨h1.stay y A.wr cl (bm i g2),h2,aN⟩
 . rcases h.iL O with g|g
   . exact .inl (by rw[A.wr.iL (y.ig i O).iL (bm i g2)];exact g)
   . exact .inr g
theorem awZ(R:vB C j (bk s) o k)(hH:∀c d,o≠.add c d)(v:∀c,o≠.load c)(A:zN f C (bk s) ak n j q s o (acc C s o).1 (acc C s o).2):vB C j (bk s) (acc C s o).2 k:=by
 have b:∀c d,(acc C s o).2≠.add c d:=by
  intro c d;cases o<;>first|exact absurd rfl (hH _ _)|(intro e;simp only[acc]at e;cases e)
 cases k<;>first
  |exact b
  |exact⟨R.1,A.aje R.2⟩
  |exact A.ajd _ R
  |(obtain⟨N,c,rfl⟩:=R;exact⟨N,_,rfl⟩)
  |(obtain⟨a,p,rfl⟩:=R;exact⟨_,_,rfl⟩)
  |(obtain⟨c,rfl⟩:=R;exact⟨_,rfl⟩)
  |exact absurd R (hH _ _)
  |exact absurd R (v _)
theorem ajZ{bP:ao}(R:vB C j (bk s) o k)(hH:∀c d,o≠.add c d)(A:zN f C (bk s) ak n j q s o (acc C s o).1 (acc C s o).2)(T:bk bP=bk s)(K:bP.L=(acc C s o).1.L):eE C j bP (acc C s o).2 k:=by
 have dF:c6 k->eE C j bP (acc C s o).2 k:=S4;cases k<;>first
  |exact dF trivial
  |exact trivial
  |(obtain⟨N,c,rfl⟩:=R;exact⟨_,rfl⟩)
  |(refine⟨R.1,?_⟩;rw[T];exact A.aje R.2)
  |(show qP (bk bP) _ _;rw[T];exact A.ajd _ R)
  |(obtain⟨a,p,rfl⟩:=R;exact⟨_,_,rfl⟩)
  |exact absurd R (hH _ _)
  |(replace R:o=.load 1:=R;subst R;show(acc C s (.load 1)).2=.fV (bP.L.getD 1 0);rw[K];rfl)
  |(
   obtain⟨c,rfl⟩:=R
   first
    |exact⟨_,rfl⟩
    |(
     obtain⟨fF,_,_,W,Z⟩:=A.ex;refine⟨_,rfl,?_,?_,?_,Z.dl,?_⟩
     . rw[T];exact Z.due
     . rw[T];exact Z.cut
     . rw[T];exact Z.ref
     . have:=W.MZ;omega))
theorem Cn(C:bt)(s:ao)(o:bU)(t:List bW):bk {(acc C s o).1 with az:=t}=bk s:=by cases o<;>rfl
theorem II(C:bt)(s:ao)(o:bU)(t:List bW):bM {(acc C s o).1 with az:=t}=bM s:=by cases o<;>rfl
theorem RA(h:vC C P s)(o:bU){t:List bW}(R:t.length=s.az.length):vC C P {(acc C s o).1 with az:=t}:=by
 have T:=Cn C s o t;exact⟨by cases o<;>exact h.xC,by cases o<;>exact h.na,by rw[T];cases o<;>exact h.aJ,by rw[T];cases o<;>exact h.lets,by rw[T];cases o<;>exact h.notes,by rw[R];exact h.tZ,by cases o<;>exact h.bc⟩
theorem aw0(cH:iM f C C.cells)(J:C.ok)(cT:hS P)(aA:b5<1099511627776)(aM:n+1<=bq)(h:Inv f C P n s){t:bW}{o:bU}{k:K}(cK:s.az[j]?=some t)(B:t.on=some (o,k))(W:bM s+hE<=b5):Good f C P (n+1) b5 (eh C P j s):=by
 refine af7 ?_;intro H ak c al N Y hk R z U F;have y:iM f C s.L.length:=Ps;have aDR:zA=1000000:=rfl;unfold eh;simp only[cK,B,bind,Option.bind];rw[Fu]
 -- the threads behind it
 have az:∀(q:nP) (fF:Nat->Nat) (dk:bW),(∀i,i≠j->q≠.own i)->(∀w,ak w<=fF w)->zN f C (bk s) ak n j q s o (acc C s o).1 (acc C s o).2->sU C P (bk s) fF (acc C s o).1.L j dk->
  ∀i u,(s.az.set j dk)[i]?=some u->sU C P (bk s) fF (acc C s o).1.L i u:=λq fF dk bm cl A M i u e=>by
  by_cases g2:j=i
  . subst g2
    obtain⟨dV,rfl⟩:=dc.1 e;rw[y0];exact M
  . rw[qK g2]at e
    exact ajY cH c A bm cl (λh=>g2 h.symm) (al i u e)
 by_cases L:∃a d,o=.add a d
 . obtain⟨a,d,rfl⟩:=L
   obtain⟨aW,rfl⟩:=Y;have A:=ajg (j:=j) cH aM c aW;have bm:∀i,i≠j->nP.jg≠.own i:=λi _ e=>by cases e
   rw[bd (show(acc C s (.add a 1)).2.over=true from rfl)];obtain⟨fF,cl,aQ,D⟩:=A.ex;have T:=Cn C s (.add a 1) Jl;have g9:∀p q,p0 C (n+1) p q {(acc C s (.add a 1)).1 with az:=s.az.set j {t with on:=none}}->In f C P (n+1) j p q sv:=λp q E=>by
    exact aev
   have nl:=h.num.nl;have pu:=h.num.pu;have dp:=h.num.dp;have mD:=h.num.mD;have mF:=h.num.mF;have un:∀x:Int,0<=x->x<9223372036854775808->eU x=x:=λx a b=>by rw[zC];omega
   have hlen:2<=s.L.length:=ZY;have Z:∀{p q:Nat},eF k=p->eG k=q->p0 C (n+1) p q sv->eE C j sv (acc C s (.add a 1)).2 k->Good f C P (n+1) b5 (go C P zA j sv (acc C s (.add a 1)).2 k):=λay aV E aE=>by
    subst ay;subst aV;exact go_top J aA aM cT (m:=999999) (g9 _ _ E) (by rw[T];exact hk) aE Z0 ae
   exact ae4
 . have hH:∀a d,o≠.add a d:=λa d e=>L ⟨a,d,e⟩
   have A:=ajf cH J aM c Y F hH;have bm:∀i,i≠j->nP.own j≠.own i:=λi g2 e=>by cases e;exact g2 rfl
   obtain⟨fF,cl,aQ,D⟩:=A.ex;have gr:(acc C s o).1.L.getD 0 0=s.L.getD 0 0:=A.wr.jg ga cH.en;have ay:(acc C s o).1.L.getD 1 0=s.L.getD 1 0:=A.wr.jg ga cH.c1;have E:∀dk,p0 C (n+1) 0 0 Jo:=λdk=>by
    exact age
   split
   . rename_i I
     have T:=Cn C s o Jl;have X:eF k=0/\eG k=0:=ZZ;refine adF ?_;intro g9;exact go_top J aA aM cT (m:=999999) (by rw[X.1,X.2];exact g9) (by rw[T];exact hk) (ajZ R hH A T rfl) Z0 ae
   . rename_i I
     have T:=Cn C s o (s.az.set j {t with on:=some ((acc C s o).2,k)});have v:∀a,o≠.load a:=λa e=>by subst e;exact I rfl
     refine⟨_,rfl,⟨RA h.base _ ga,E _,fF,?_,?_⟩,by rw[II];omega⟩
     . rw[T];exact aQ
     . rw[T]
       refine az _ fF _ bm cl A ⟨λS V e=>?_,λO=>?_,(al j t cK).lx⟩
       . cases e;exact⟨D,hk,awZ R hH v A⟩
       . rcases A.iL O (F O)with g|g
         . exact .inr ⟨_,_,rfl,g⟩
         . exact .inl g
end
end
structure hi(f:Nat->fU)(C:bt)(P:List b2)(n:Nat)(s:ao):Prop where
 inv:Inv f C P n s
 ph:bM s<=hE*n
abbrev gM:Nat:=10000000
section
variable{f:Nat->fU}{C:bt}{P:List b2}{n b5 j:Nat}{s:ao}
def hi.aT(h:hi f C P n s){n':Nat}(aM:n<=n')(hk:n'<=gM):hi f C P n' s:=
 have h1:gM=10000000:=rfl;have h2:bq=1000000000000:=rfl
 ⟨h.inv.aT aM ae,nb h.ph (Nat.mul_le_mul_left _ aM)⟩
def aw1{t:bW}(e:s.az[j]?=some t)(b:busy s j=true):∃o k,t.on=some (o,k):=by
 unfold busy at b;rw[e]at b;cases h:t.on with
 |none=>simp[h]at b
 |some p=>exact⟨p.1,p.2,rfl⟩
def TI{t:bW}(e:s.az[j]?=some t)(b:busy s j=false):t.on=none:=by
 unfold busy at b;rw[e]at b;cases h:t.on with
 |none=>rfl
 |some p=>simp[h]at b
def qY(h:Inv f C P n s)(N:j<C.a1+C.cB+1):∃t,s.az[j]?=some t:=
 ⟨_,cz (by rw[h.base.tZ];exact N)⟩
def Fv(cH:iM f C C.cells)(J:C.ok)(cT:hS P)(aM:n+1<=gM)(h:hi f C P n s)(N:j<C.a1+C.cB+1)(aA:busy s j=true):∃aD,eh C P j s=some aD/\hi f C P (n+1) aD:=by
 have h1:gM=10000000:=rfl;have h2:bq=1000000000000:=rfl;have aN:hE=90000:=rfl;obtain⟨t,cK⟩:=qY h.inv N;obtain⟨o,k,B⟩:=aw1 cK aA;have hp:=h.ph;obtain⟨aD,e,i,p⟩:=aw0 (b5:=hE*(n+1)) cH J cT (by rw[aN];omega) ae h.inv cK B y3;exact⟨aD,e,i,p⟩
def TJ{o:bU}{k:K}{aD:ao}(h:ew j s o k=some aD):busy aD j=true:=by
 unfold ew at h;cases e:s.az[j]?with
 |none=>simp[e]at h
 |
  some t=>
  have N:j<s.az.length:=(dc.1 e).1;simp only[e,bind,Option.bind]at h;split at h
  . cases h;unfold busy;simp[N]
  . cases h
def TK(f:Nat->fU)(C:bt)(P:List b2)(n j:Nat)(b:ao->Option ao)(s:ao):Prop:=busy s j=false->∃aD,b s=some aD/\hi f C P n aD/\busy aD j=true
def Lr(cH:iM f C C.cells)(J:C.ok)(cT:hS P)(aM:n+1<=gM)(h:hi f C P n s)(N:j<C.a1+C.cB+1){b:ao->Option ao}(aA:TK f C P n j b s):∃aD,stepT C P b j s=some aD/\hi f C P (n+1) aD:=by
 unfold stepT;cases e:busy s j with
 |true=>rw[bd rfl];exact Fv cH J cT aM h N e
 |
  false=>
  rw[a8 bJ];obtain⟨s1,ay,i1,ar⟩:=aA e;simp only[ay,bind,Option.bind];exact Fv cH J cT aM i1 N ar
def TL{x:Option ao}(h:Good f C P n (hE*n) x):∃aD,x=some aD/\hi f C P n aD:=by
 obtain⟨aD,e,i,p⟩:=h;exact⟨aD,e,i,p⟩
def akq:∀(k d:Nat) (l:List Nat) {y:Nat},y∈oa k d l->y∈l
 |0,d,l,y,h=>by simp[oa]at h
 |
  k+1,d,l,y,h=>by
  unfold oa at h;split at h
  . cases h
  . rename_i x ah
    rcases ku.1 h with rfl|h
    . exact js ah
    . exact apN (akq k _ _ h)
def aw2{d n self y:Nat}(h:y∈order d n self):y<n:=by
 have:=akq _ _ _ h;unfold nD at this;simpa using(oM.1 this).1
def akr{E:gx}{ak:Nat->Nat}{L:List Int}{d:Nat}(N:j<C.a1):dQ C E ak j L (.fx (yz C.bA j d))/\rM E (.fx (yz C.bA j d)):=by
 have h1:∀s∈ac7,AZ C.bA s:=λs aj=>by
  rcases ku.1 aj with rfl|aj
  . exact N
  . rcases ku.1 aj with rfl|aj
    . exact trivial
    . obtain⟨y,ag,rfl⟩:=lU.1 aj;exact aw2 ag
 have h2:∀s∈ac7,E7 j s:=λs aj=>by
  rcases ku.1 aj with rfl|aj
  . exact rfl
  . rcases ku.1 aj with rfl|aj
    . exact trivial
    . obtain⟨y,ag,rfl⟩:=lU.1 aj;exact trivial
 have g:=S0 (E:=E) (L:=L) (ak:=ak) N h2 h1;exact⟨⟨Nb h1,λe=>⟨g.1 e,λ_=>N⟩⟩,g.2⟩
def Ls(J:C.ok)(N:j<C.a1)(h:hi f C P n s):TK f C P n j (er C j) s:=λaA=>by
 obtain⟨t,cK⟩:=qY (j:=j) h.inv ae;have B:=TI cK aA;have i:=h.inv.In cK B;unfold er;simp only[cK,bind,Option.bind];split
 . obtain⟨aD,e,r⟩:=TL (jA (k:=.polled) (b5:=hE*n) i (λak=>awa N) trivial ⟨N,_,rfl⟩ h.ph)
   exact⟨aD,e,r,TJ e⟩
 . obtain⟨aD,e,r⟩:=TL (jA (k:=.found) (b5:=hE*n) i (λak=>(akr N).1) trivial ⟨N,(akr N (C:=C) (ak:=λ_=>0) (L:=s.L)).2⟩ h.ph)
   exact⟨aD,e,r,TJ e⟩
def aks(x:Nat):kV s {s with ticks:=x}:=El
def aw3(x:Bool):kV s {s with shut:=x}:=El
def akt(J:C.ok)(hk:n<=bq)(h:hi f C P n s):TK f C P n (C.a1+C.cB) (e3 C (C.a1+C.cB)) s:=λaA=>by
 have H:bq=1000000000000:=rfl;obtain⟨t,cK⟩:=qY (j:=C.a1+C.cB) h.inv ae;have B:=TI cK aA;have i:=(h.inv.In cK B).hX (aks (s.ticks -1));unfold e3;obtain⟨ak,c,_⟩:=h.inv.bp;have O:=c.ws.now;obtain⟨aD,e,r⟩:=TL (jA (k:=.mb) (o:=.eS (yp C.dH s.bs)) (b5:=hE*n) i (λak=>⟨aoC J.i64 ae,⟨λ_=>ajc _ _,qA,qA,qA,eX _⟩⟩) trivial ⟨_,rfl⟩ (by have:=h.ph;unfold bM at this⊢;simp only;omega));exact⟨aD,e,r,TJ e⟩
def aku{dk:bW}(h:Inv f C P n s){t:bW}(e:s.az[j]?=some t)(B:dk.on=t.on)(aL:0<=dk.draw/\dk.draw<18446744073709551616):Inv f C P n {s with az:=s.az.set j dk}:=by
 obtain⟨ak,c,al⟩:=h.bp;refine⟨⟨h.base.xC,h.base.na,h.base.aJ,h.base.lets,h.base.notes,by show(s.az.set _ _).length=_;rw[gn];exact h.base.tZ,h.base.bc⟩,adj,ak,c,λi u g=>?_⟩;replace g:(s.az.set j dk)[i]?=some u:=g;by_cases g2:j=i
 . subst g2
   obtain⟨dV,rfl⟩:=dc.1 g;rw[y0];exact⟨by rw[B];exact(al j t e).on,by rw[B];exact(al j t e).iL,aL⟩
 . rw[qK g2]at g;exact al i u g
def TM(cH:iM f C C.cells)(J:C.ok)(cT:hS P)(aM:n+1<=gM)(h:hi f C P n s):∃aD b,ud C P s=some (aD,b)/\hi f C P (n+1) aD:=by
 have h1:gM=10000000:=rfl;have h2:bq=1000000000000:=rfl;unfold ud;split
 . exact Q4
 . obtain⟨aD,e,r⟩:=Lr cH J cT aM h (Nat.lt_succ_self _) (akt J ae h)
   rw[e];exact⟨aD,true,rfl,r⟩
def Lt{x:Option ao}(h:∃aD,x=some aD/\hi f C P n aD):∃aD b,x.map (·,true)=some (aD,b)/\hi f C P n aD:=by
 obtain⟨aD,e,r⟩:=h;subst e;exact⟨aD,true,rfl,r⟩
def xJ(cH:iM f C C.cells)(J:C.ok)(cT:hS P)(aM:n+1<=gM)(h:hi f C P n s)(e:cZ):∃aD b,jq C P s e=some (aD,b)/\hi f C P (n+1) aD:=by
 unfold jq;split
 . split
   . exact Q4
   . rename_i aW
     have N:e.a.toNat<C.a1:=ae
     generalize e.a.toNat=j at N
     obtain⟨t,cK⟩:=qY (j:=j) h.inv ae;simp only[cK,bind,Option.bind];have r:hi f C P n {s with az:=s.az.set j {t with draw:=eU e.n}}:=⟨aku h.inv cK rfl (by show 0<=eU e.n/\eU e.n<_;rw[zC];omega),h.ph⟩;exact Lt (Lr cH J cT aM r ae (Ls J N r))
 . split
   . exact TM cH J cT aM h
   . split
     . split
       . exact Q4
       . have r:hi f C P (n+1) {s with ticks:=s.ticks+1}:=⟨(h.aT (im _) aM).inv.hX (aks _),by
          have h1:=h.ph;have h2:hE*(n+1)=hE*n+90000:=by rw[Nat.mul_add];rfl
          unfold bM at h1⊢;simp only;omega⟩
         exact⟨_,true,rfl,r⟩
     . have h1:gM=10000000:=rfl
       have h2:bq=1000000000000:=rfl;have aN:hE=90000:=rfl;have V:=h.ph;have stay:∃aD b,some (s,false)=some (aD,b)/\hi f C P (n+1) aD:=⟨s,false,rfl,h.aT (im _) aM⟩;have fQ:∀l,∃aD b,(tell l s).map (·,true)=some (aD,b)/\hi f C P (n+1) aD:=λl=>by
        obtain⟨s1,ay,m1,gA⟩:=p5 (s:=s) l (by unfold most;rw[aN]at V;omega);exact Lt ⟨s1,ay,(h.inv.hX m1).aT (im _) ae,by rw[aN]at V⊢;omega⟩
       unfold hand;split
       . exact stay
       . rename_i aW
         have N:C.a1+e.a.toNat<C.a1+C.cB+1:=ae
         generalize C.a1+e.a.toNat=j at N
         obtain⟨t,cK⟩:=qY h.inv N;simp only;split
         . split
           . rename_i aA;exact Lt (Fv cH J cT aM h N aA)
           . exact stay
         . split
           . exact stay
           . rename_i aA
             have B:=TI cK (by simpa using aA);have i:=h.inv.In cK B;have m:∀{x:Option ao},Good f C P n (hE*(n+1)) x->∃aD b,x.map (·,true)=some (aD,b)/\hi f C P (n+1) aD:=λg=>by
              obtain⟨aD,y,O,S⟩:=g;exact Lt ⟨aD,y,O.aT (im _) ae,S⟩
             have Db:bM s+1<=hE*(n+1):=by rw[aN]at V⊢;omega
             have p:hE*(n+1)<1099511627776:=by rw[aN];omega
             have o:∀(s1:ao) (a:Nat),In f C P n j 0 0 s1->bM s1=bM s->cG (bk s1) a->Good f C P n (hE*(n+1)) (ask C j s1 a):=λs1 a i1 gA c=>by
              unfold ask;have av:s1.notes.length<=bM s1:=by unfold bM;omega
              rw[bd ⟨by unfold most;omega,c.act i1.base⟩];refine jA (ajj i1 ⟨(show(0:Int)<=0/\(0:Int)<=4 by decide),⟨vs _,(show(0:Int)<=((bk s1).na:Int) by omega)⟩,(λe=>by cases e)⟩) (λak=>av6 (c.act i1.base) uF ?_) (c.mono S9) ⟨_,_,rfl⟩ (by rw[ajk];omega);exact⟨by omega,by show(s1.notes.length:Int)<((s1.notes++[_]).length:Nat);rw[eL];simp;omega⟩
             split
             . split
               . exact stay
               . rename_i q
                 have u:0<=e.n/\e.n<=255:=by
                  have h1:=not_or.1 q;have h2:=not_or.1 h1.2;omega
                 split
                 . exact fQ _
                 . rename_i aF
                   refine adx ?_;intro d;have dV:tY (bk s) ⟨-1 -e.a,e.b,e.tag,e.n,false⟩:=⟨⟨show 0<=e.b by omega,d.2⟩,show-1 -e.a<=((bk s).na:Int) by omega,u⟩;exact m (Tc J p ae i dV trivial trivial (eX _) ae)
             . split
               . split
                 . exact fQ _
                 . rename_i aF
                   refine adx ?_;intro d;exact m (o s _ i rfl ⟨by omega,by show _<=s.aJ.length;omega⟩)
               . split
                 . exact m (o _ 1 (i.hX (aw3 true)) rfl ⟨ei _,h.inv.base.xC⟩)
                 . exact stay
def TN{Z:Nat->ao->Option ao}{Q:Nat->Prop}(hZ:∀(m i:Nat) (s:ao),Q i->m+1<=gM->hi f C P m s->∃aD,Z i s=some aD/\hi f C P (m+1) aD):∀(l:List Nat) (n:Nat) (s:ao),(∀i∈l,Q i)->n+l.length<=gM->hi f C P n s->∃aD,qU Z l s=some aD/\hi f C P (n+l.length) aD
 |[],n,s,_,_,h=>⟨s,rfl,h⟩
 |
  i::l,n,s,bm,aM,h=>by
  simp only[iE]at aM;obtain⟨s1,ay,gP⟩:=hZ n i s (bm i (.head _)) ae h;obtain⟨bP,aV,lM⟩:=TN hZ l (n+1) s1 (λx ah=>bm x (.tail _ ah)) ae gP;refine⟨bP,by simp only[qU,ay,bind,Option.bind];exact aV,?_⟩;rw[iE,show n+(l.length+1)=n+1+l.length by omega];exact lM
def aw4(cH:iM f C C.cells)(J:C.ok)(cT:hS P)(aM:n+13<=gM)(h:hi f C P n s):∃aD,round C P s=some aD/\hi f C P (n+13) aD:=by
 have bQ:=J.bQ;have bu:=J.bu;obtain⟨s1,ay,gP⟩:=TN (Z:=λj s=>stepT C P (er C j) j s) (Q:=λj=>j<C.a1) (λm i s ak bf r=>Lr cH J cT bf r ae (Ls J ak r)) (List.range C.a1) n s (λi ak=>pV.1 ak) yY h;rw[u5]at gP;obtain⟨bP,aV,lM⟩:=TN (Z:=λi s=>if busy s (C.a1+i)then eh C P (C.a1+i) s else some s) (Q:=λi=>i<C.cB) (λm i s ak bf r=>by
  by_cases aA:busy s (C.a1+i)=true
  . simp only[aA,fi];exact Fv cH J cT bf r ae aA
  . simp only[aA,ep];exact⟨s,rfl,r.aT (im _) bf⟩) (List.range C.cB) (n+C.a1) s1 (λi ak=>pV.1 ak) yY gP
 rw[u5]at lM;obtain⟨bZ,b,bz,o⟩:=TM cH J cT ae lM;refine⟨bZ,?_,o.aT ae aM⟩;unfold round;simp only[ay,bind,Option.bind];rw[aV];simp only[bz,Option.map]
def Li(cH:iM f C C.cells)(J:C.ok)(cT:hS P):∀(k n:Nat) (s:ao),n+13*k<=gM->hi f C P n s->∃aD b,rest C P k s=some (aD,b)/\hi f C P (n+13*k) aD
 |0,n,s,aM,h=>⟨s,_,rfl,h⟩
 |
  k+1,n,s,aM,h=>by
  unfold rest;split
  . exact⟨s,true,rfl,h.aT ae aM⟩
  . obtain⟨s1,ay,gP⟩:=aw4 cH J cT ae h
    simp only[ay,bind,Option.bind];obtain⟨bP,b,aV,lM⟩:=Li cH J cT k (n+13) s1 ae gP;exact⟨bP,b,aV,lM.aT ae aM⟩
end
end Go.L.Th
