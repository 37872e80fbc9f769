import Derived.Test.YtnnhpnccfnghdaaGreatA12
set_option linter.all false
set_option maxHeartbeats 4800000
namespace Go.L.Th
open Go.L Go.L.Lx Go.L.Pg Go.L.Ring Go.L.dD Go.L.ej Go.L.Whl Go.L.dP Go.L.Led
section
variable(l:List Int){P:List cr}{F:gA}(x:Int){k:cr}
def aiv{ft:cG}{k:cr}(h:lf P ft=some k):k∈P:=qT h
def E7{P:List cr}{n:Int}(aO:0<=n/\n<=255):∀(l:List fF) (i:Nat) (p:dE),(∀e∈l,1<=e.do'/\e.do'<=12/\(e.do'=2->(lf P e.name).isSome=true)/\(0<=e.n/\e.n<=255))->(∀e∈p.cx,B6 P e)->
 (mI n i l p).cx.length<=p.cx.length+l.length/\∀e∈(mI n i l p).cx,B6 P e
 |[],i,p,_,hp=>⟨et _,hp⟩
 |
  e::r,i,p,h,hp=>by
  have h1:=h e (.head _);have h2:∀x∈r,1<=x.do'/\x.do'<=12/\(x.do'=2->(lf P x.name).isSome=true)/\(0<=x.n/\x.n<=255):=λx ah=>h x (.tail _ ah);have f:∀(y:fF),y.do'=e.do'->y.name=e.name->(0<=y.n/\y.n<=255)->¬e.do'=3->¬e.do'=4->¬e.do'=11->¬e.do'=12->∀x∈p.cx++[y],B6 P x:=λy d1 o J a b c d x ah=>by
   rcases kX.1 ah with ah|ah
   . exact hp x ah
   . simp at ah;subst ah;exact⟨by rw[d1];omega,by rw[d1,o];exact h1.2.2.1,J⟩
  unfold mI;split
  . split
    . exact⟨by simp,λx ah=>by cases ah⟩
    . have:=E7 aO r (i+1) p h2 hp;exact⟨by have:=this.1;simp only[iG];omega,this.2⟩
  . split
    . have:=E7 aO r (i+1) {p with state:=e.name} h2 hp;exact⟨by have:=this.1;simp only[iG];simp only at this;omega,this.2⟩
    . split
      . exact⟨by simp only;omega,hp⟩
      . split
        . exact⟨by simp only;omega,hp⟩
        . split
          . have:=E7 aO r (i+1) {p with cx:=p.cx++[{e with n:=pv e n,value:=2}]} h2 (f _ rfl rfl (show 0<=pv e n/\pv e n<=255 by have:=h1.2.2.2;unfold pv;split;exact aO;split;split<;>omega;exact this) ‹_› ‹_› ‹_› ‹_›)
            refine⟨?_,this.2⟩;have aN:=this.1;simp only[eZ,iG,lk]at aN⊢;omega
          . have:=E7 aO r (i+1) {p with cx:=p.cx++[e]} h2 (f _ rfl rfl h1.2.2.2 ‹_› ‹_› ‹_› ‹_›)
            refine⟨?_,this.2⟩;have aN:=this.1;simp only[eZ,iG,lk]at aN⊢;omega
def avu(h:Sg P k)(state tag:cG)(n:Int)(aO:0<=n/\n<=255):(kU k state tag n).cx.length<=8/\∀e∈(kU k state tag n).cx,B6 P e:=by
 unfold kU;split
 . exact⟨fk _,λx ah=>by cases ah⟩
 . rename_i r aF
   unfold rowOf at aF;cases U:k.states.find? (λs=>decide (s.name=state))with
   |none=>rw[U]at aF;cases aF
   |
    some t=>
    rw[U]at aF;have h1:=qT U;have h2:r∈t.rows:=qT (show t.rows.find? (p1 tag n)=some r from aF);obtain⟨W,cU⟩:=h.cx t h1 r h2;have:=E7 aO r.cx 0 ⟨false,[],state,false,[]⟩ cU (λx ah=>by cases ah);exact⟨by have aN:=this.1;simp at aN;omega,this.2⟩
def avv{ref:cG}{a b c:Int}{J:List Int}(aX:oT F a)(aA:oT F b)(a6:oT F c)(ai:∀v∈J,oT F v):oT F (hj ref a b c J):=by
 have bi:oT F 0:=⟨vp _,by omega⟩;unfold hj;split
 . exact aX
 . split
   . exact aA
   . split
     . exact a6
     . split
       . rename_i i _
         rw[iW];cases e:J[i]?with
         |none=>exact bi
         |some v=>exact ai v (jH e)
       . exact bi
def cI.z0{a:Nat}(h:cI F a):oT F (a:Int):=⟨by omega,by have:=h.2;omega⟩
def aiw{l:List Int}{x v:Int}(h:v∈del l x):v∈l:=(oL.1 h).1
def Sr:(del l x).length<=l.length:=qm _ _
def Ss:∀{t:List (cG×List Int)} {ft:cG} {v:Int},v∈gE t ft->∃p∈t,v∈p.2
 |[],ft,v,h=>by simp[gE]at h
 |
  (k,l)::r,ft,v,h=>by
  unfold gE at h;split at h
  . exact⟨(k,l),.head _,h⟩
  . obtain⟨p,h1,h2⟩:=Ss h;exact⟨p,.tail _ h1,h2⟩
def aix:∀{t:List (cG×List Int)} {ft:cG} {p:cG×List Int},p∈om t ft->p∈t
 |[],ft,p,h=>by simp[om]at h
 |
  (k,l)::r,ft,p,h=>by
  unfold om at h;split at h
  . exact .tail _ h
  . rcases ky.1 h with rfl|h
    . exact .head _
    . exact .tail _ (aix h)
def aiy:∀(t:List (cG×List Int)) (ft:cG),((om t ft).map (λp=>1+p.2.length)).sum<=(t.map (λp=>1+p.2.length)).sum
 |[],ft=>by simp[om]
 |
  (k,l)::r,ft=>by
  have:=aiy r ft;unfold om;split<;>simp<;>omega
def aiz:∀(t:List (Int×List Int)) (ft:Int),((pj t ft).map (λp=>1+p.2.length)).sum<=(t.map (λp=>1+p.2.length)).sum
 |[],ft=>by simp[pj]
 |
  (k,l)::r,ft=>by
  have:=aiz r ft;unfold pj;split<;>simp<;>omega
def aiA:(l.erase x).length<=l.length:=List.length_erase_le
def aiB:∀(t:List (cG×List Int)) (ft:cG) (x:Int),((l7 t ft x).map (λp=>1+p.2.length)).sum<=(t.map (λp=>1+p.2.length)).sum+2
 |[],ft,x=>by simp[l7]
 |
  (k,l)::r,ft,x=>by
  have:=aiB r ft x;unfold l7;split<;>simp<;>omega
def aiC:∀{t:List (cG×List Int)} {ft:cG} {x:Int} {p:cG×List Int} {v:Int},p∈l7 t ft x->v∈p.2->v=x\/∃S∈t,v∈S.2
 |[],ft,x,p,v,h,Z=>by simp[l7]at h;subst h;simp at Z;exact .inl Z
 |
  (k,l)::r,ft,x,p,v,h,Z=>by
  unfold l7 at h;split at h
  . rcases ky.1 h with rfl|h
    . rcases kX.1 Z with Z|Z
      . exact .inr ⟨(k,l),.head _,Z⟩
      . simp at Z;exact .inl Z
    . exact .inr ⟨p,.tail _ h,Z⟩
  . rcases ky.1 h with rfl|h
    . exact .inr ⟨(k,l),.head _,Z⟩
    . rcases aiC h Z with h|⟨S,h,Z⟩
      . exact .inl h
      . exact .inr ⟨S,.tail _ h,Z⟩
def aiD(x c:Int):∀(t:List (Int×List Int)),((ew t c (dY t c++[x])).map (λp=>1+p.2.length)).sum<=(t.map (λp=>1+p.2.length)).sum+2
 |[]=>by simp[ew,dY,dR]
 |
  (k,l)::r=>by
  have L:=aiD x c r;by_cases h:c=k
  . subst h
    have e:dY ((c,l)::r) c=l:=by simp[dY,dR]
    rw[e];simp[ew];omega
  . have e:dY ((k,l)::r) c=dY r c:=by simp[dY,dR,h]
    rw[e];simp[ew,h];omega
end
section
variable{f:Nat->ga}{C:bO}{P:List cr}{n V j:Nat}{g:aq->b3->K->Option aq}{m:Nat}
def St(w:Int):∀(l:List Int) (s:aq),kT s (l.foldl (λs id=>move s id w) s)/\bP (l.foldl (λs id=>move s id w) s)=bP s
 |[],s=>⟨.refl,rfl⟩
 |
  x::l,s=>by
  have:=St w l (move s x w);exact⟨(K2 x w).trans this.1,this.2⟩
def aiE(a w:Int):∀(l:List Int) (s:aq),kT s (l.foldl (λs id=>mz s id a w) s)/\bP (l.foldl (λs id=>mz s id a w) s)=bP s
 |[],s=>⟨.refl,rfl⟩
 |
  x::l,s=>by
  have:=aiE a w l (mz s x a w);exact⟨(Si x a w).trans this.1,this.2.trans (Sj x a w)⟩
def aiF{s:aq}{a p q:Nat}(h:In f C P n j p q s)(aX:cI (bn s) a):∃aW,Ce s a=some aW/\In f C P n j p q aW/\bn aW=bn s/\bP aW=bP s:=by
 obtain⟨x,e,ex⟩:=lG aX;unfold Ce;refine ru ?_;obtain⟨m1,gH⟩:=St 4 x.aside s;have B:=h.base.aE _ _ ex;have b:(x.aside.foldl (λs id=>move s id 4) s).aE[a -1]?=some x:=by rw[m1.aE];exact ex
 have h1:=h.hX m1;refine⟨_,rfl,lI h1 b ?_,by rw[j4,m1.aZ],?_⟩
 . rw[m1.aZ]
   exact⟨B.id,B.par,B.kind,B.slots,B.lb,B.kids,(λv Z=>by cases Z),(λv Z=>by rcases kX.1 Z with Z|Z;exact B.front v Z;exact B.aside v (List.mem_reverse.1 Z)),B.cH,B.jW⟩
 . have:=lH (y:={x with front:=x.front++x.aside.reverse,aside:=[]}) b
   simp only[iq,eZ,aiG,lk]at this;omega
variable(N:C.ok)(aA:V<1099511627776)(cV:n<=bo)
include N aA cV
theorem avw(aY:ei f C P n V j m g){s:aq}{a:Nat}{l:c0}{e:fF}{k:K}{cancel:aq->List Int->K->Option aq}(h:In f C P n j 0 0 s)(aX:cI (bn s) a)(aw:tW (bn s) l)(Y:B6 P e)
 (a6:∀aW ids,In f C P n j 0 0 aW->bn aW=bn s->(∀v∈ids,dU (bn aW) .jy v)->bP aW<=bP s->Good f C P n V (cancel aW ids k))
 (hk:cX C P (bn s) k)(aS:c9 k)(z:dK k<=2)(W:bP s+bB k+10<=V)(bf:bB k<m):Good f C P n V (E8 C g j s a l e cancel k):=by
 obtain⟨x,aC,ex⟩:=lG aX;have B:=h.base.aE _ _ ex;have d:oT (bn s) (max l.cf 0):=⟨by omega,by have:=aw.cf;omega⟩;have r:=avv (ref:=e.ref) aX.z0 d (show oT (bn s) (x.parent:Int)from⟨by omega,by have:=B.par;omega⟩) B.lb;unfold E8;rw[aC];have q:(nt e.slot).getD 0<4:=by unfold nt;(repeat' split)<;>simp
 show Good f C P n V (zO C g j s a x e (max l.cf 0) (hj e.ref a (max l.cf 0) x.parent x.slots) ((nt e.slot).getD 0) cancel k)
 generalize (nt e.slot).getD 0=slot at*
 generalize hj e.ref a (max l.cf 0) x.parent x.slots=who at*
 generalize max l.cf 0=snd at*
 have lw:=Y.1;have o:=Y.2.1;have i:=Y.2.2;clear Y;unfold zO;by_cases c1:e.do'=1
 . rw[bg c1];exact Sq N aA cV h ⟨r,aX.z0.2,i⟩ hk aS z ad
 rw[a7 c1];by_cases bq:e.do'=2
 . rw[bg bq];exact jF h (λak=>⟨.inr rfl,rfl⟩) ⟨aX,o bq,q,hk,aS,z⟩ rfl ad
 rw[a7 bq];by_cases b7:e.do'=10
 . rw[bg b7]
   have hp:=lH (y:={x with slots:=x.slots.set slot snd}) ex;refine aY.dN (lI h ex ⟨B.id,B.par,B.kind,by simp[B.slots],λv Z=>?_,B.kids,B.aside,B.front,B.cH,B.jW⟩) OI aS Ir bf;rcases ahA Z with Z|rfl
   . exact B.lb v Z
   . exact d
 rw[a7 b7];by_cases d8:e.do'=5
 . rw[bg d8]
   obtain⟨s1,T,w,i0,R⟩:=aiF h aX;rw[T];simp only[k0];exact aY.dN w (by rw[i0];exact hk) aS ad bf
 rw[a7 d8];by_cases fd:e.do'=8
 . rw[bg fd];exact jF h (λak=>⟨.inl rfl,rfl⟩) ⟨aX,⟨aX.z0,aX.z0.2,i⟩,hk,aS,z⟩ rfl ad
 rw[a7 fd];by_cases gt:e.do'=9
 . rw[bg gt]
   have hp:=lH (y:={x with timers:=om x.timers e.name}) ex;have b:((om x.timers e.name).map (λp=>1+p.2.length)).sum<=(x.timers.map (λp=>1+p.2.length)).sum:=aiy _ _;refine a6 _ _ (lI h ex ⟨B.id,B.par,B.kind,B.slots,B.lb,B.kids,B.aside,B.front,B.cH,λp hp=>B.jW p (aix hp)⟩) j4 (λv Z=>?_) Ir;rw[j4];obtain⟨p,aN,bA⟩:=Ss Z;exact B.jW p aN v bA
 rw[a7 gt,bg (show e.do'=6\/e.do'=7 by omega)];by_cases S:who=0\/who=a
 . rw[bg S];exact aY.dN h hk aS ad bf
 rw[a7 S];have hC:=r.1;have n6:who<=s.aE.length:=r.2;have hH:=h.base.na;by_cases c:e.do'=6
 . rw[bg c];exact avt N aA cV h aX (⟨by omega,by show _<=s.aE.length;omega⟩) hk aS z ad
 rw[a7 c,bg ⟨by omega,by omega⟩];have hp:=lH (y:={x with watched:=x.watched.erase who}) ex;have L:=aiA x.watched who;have g4:=lI h ex (y:={x with watched:=x.watched.erase who}) ⟨B.id,B.par,B.kind,B.slots,B.lb,B.kids,B.aside,B.front,B.cH,B.jW⟩;obtain⟨fP,g7,_⟩:=g4.bp;exact jF g4 (λak=>Sp bw (aX.act h.base) ⟨by omega,by omega⟩ g7.len) OI (aij aS avq) Ir
def avx:e4->Prop
 |.cancel _=>False
 |.push _ _=>False
 |_=>True
def aiH:e4->Nat
 |.cancel _=>2
 |_=>1
theorem avy(aY:ei f C P n V j m g){s:aq}{ids:List Int}{k:K}(h:In f C P n j 0 0 s)(Z:∀v∈ids,dU (bn s) .jy v)(hk:cX C P (bn s) k)(aS:c9 k)(z:dK k<=2)(W:bP s+bB k<=V)(bf:bB k<m):Good f C P n V (zP C g j s ids k):=by
 unfold zP E9;split
 . exact aY.dN h hk aS W bf
 . rename_i bi
   have d4:0<ids.length:=ad;unfold nM;simp only[cD d4,bind,Option.bind];exact jF h (λak=>aiq (Z _ (vl d4))) ⟨⟨rfl,Z⟩,d4,hk,aS,z⟩ JA ad
theorem Fa(aY:ei f C P n V j m g){s:aq}{d:e4}{i c:Nat}{k:K}(h:In f C P n j 0 0 s)(aS:B7 P (bn s) d c)(ak:i<=c)(hk:cX C P (bn s) k)(y:c9 k)(z:dK k<=aiH d)(W:bP s+bB k+10<=V)(bf:bB k<m)
 (q:avx d->bP s+bB k+wd d i c+10<=V/\bB k+wd d i c<m):Good f C P n V (nN C g j s d i c k):=by
 unfold nN;split
 . exact aY.dN h hk y ad bf
 . rename_i bi
   have d4:i<c:=ad;have r:cX C P (bn s) (.each d i c k):=⟨aS,d4,hk,y,by cases d<;>exact z⟩;have v:dK (.each d i c k)<=2\/∃ids,d=.cancel ids:=by
    cases d with
    |cancel ids=>exact .inr ⟨ids,rfl⟩
    |_=>exact .inl (by show dK k+1<=2;have:dK k<=1:=z;omega)
   have w:bB (.each d i c k)=bB k+wd d i c:=rfl;unfold nM;cases d with
   |
    da a id p=>
    obtain⟨d1,o,J,u,t⟩:=aS;have ip:=v.resolve_right (fun⟨_,e⟩=>by cases e);obtain⟨B,D⟩:=q trivial;obtain⟨l,el,b⟩:=K3 o;have hp:i<p.cx.length:=ad;simp only[el,cD hp,bind,Option.bind];refine avw N aA cV aY h d1 (h.base.lets l b) (t _ (vl hp)) (λaW ids g4 T Z Y=>?_) r trivial ip ad ad;exact avy N aA cV aY g4 Z (by rw[T];exact r) trivial ip ad ad
   |
    cancel ids=>
    have hp:i<ids.length:=OJ;simp only[cD hp,bind,Option.bind];exact jF h (λak=>aiq (aS.2 _ (vl hp))) r JA ad
   |
    leave due=>
    obtain⟨B,D⟩:=q trivial;have hp:i<due.length:=OJ;simp only[cD hp,bind,Option.bind];exact air N aA cV aY h (aS.2.2 _ (vl hp)) r trivial PS ad ad
   |
    push l what=>
    have hp:i<l.length:=OJ;simp only[cD hp,bind,Option.bind];have Z:=(aS.2.2 _ (vl hp)).cI.1;have R:=aS.2.1;exact Ca N aA cV h Z ⟨(show 0<=what/\what<=4 by omega),⟨vp _,(show(0:Int)<=((bn s).na:Int) by omega)⟩,(λe=>by replace e:what=1:=e;omega)⟩ r trivial PS ad
   |
    my a=>
    obtain⟨B,D⟩:=q trivial;obtain⟨d1,o,J⟩:=aS;show Good f C P n V (if i+1=a then g s dN (.each (.my a) i c k)else xw C j s (i+1) a (.each (.my a) i c k));split
    . exact aY.dN h r trivial ad ad
    . exact ais N aA cV h uy d1 r trivial PS ad
theorem Su(aY:ei f C P n V j m g){s:aq}{l:List Int}{what:Int}{k:K}(h:In f C P n j 0 0 s)(Z:∀v∈l,dU (bn s) .act v)(R:what=0\/what=2)(hk:cX C P (bn s) k)(aS:c9 k)(z:dK k<=1)(W:bP s+bB k+10<=V)(bf:bB k<m):Good f C P n V (xx C g j s l what k):=
 Fa N aA cV aY h ⟨rfl,R,Z⟩ (fk _) hk aS z W bf (λh=>h.elim)
theorem Sv(aY:ei f C P n V j m g){s:aq}{a:Nat}{k:K}(h:In f C P n j 0 0 s)(aX:cI (bn s) a)(hk:cX C P (bn s) k)(aS:c9 k)(z:dK k<=0)(W:bP s+bB k+276<=V)(bf:bB k+256<m):Good f C P n V (sO C g j s a k):=by
 obtain⟨x,e,ex⟩:=lG aX;have B:=h.base.aE _ _ ex;unfold sO;refine ru ?_;split
 . exact JO
 . have h1:=lI h ex (y:=Bq) abc
   have hp:=lH (y:=Bq) ex;simp only[iq]at hp;obtain⟨s1,aC,m1,gH⟩:=pX (s:=c8 s a Bq) {cz with kind:=13,dc:=a} oO;rw[aC];simp only;have F:bn s1=bn s:=D2;exact Su N aA cV aY (h1.hX m1) (by rw[F];exact B.kids) (.inl rfl) (by rw[F];exact⟨aX,hk,aS,z⟩) trivial Is It It
theorem aiI(aY:ei f C P n V j m g){s:aq}{a:Nat}{reason:cG}{k:K}(h:In f C P n j 0 0 s)(aX:cI (bn s) a)(hk:cX C P (bn s) k)(aS:c9 k)(z:dK k<=0)(W:bP s+bB k+286<=V)(bf:bB k+256<m):Good f C P n V (tZ C g j s a reason k):=by
 obtain⟨x,e,ex⟩:=lG aX;have B:=h.base.aE _ _ ex;unfold tZ;refine ru ?_;have h1:=lI h ex (y:=su) abc;have hp:=lH (y:=su) ex;simp only[iq]at hp;obtain⟨s1,aC,m1,gH⟩:=pX (s:=c8 s a su) {cz with kind:=9,dc:=a,name:=reason} oO;rw[aC];simp only;have F:bn s1=bn s:=D2;have i1:In f C P n j 0 0 s1:=h1.hX m1;split
 . exact Sv N aA cV aY i1 Iu D3 aS z ad bf
 . rename_i bi
   refine Ca N aA cV i1 (by rw[F];exact⟨by omega,B.par⟩) ⟨(show(0:Int)<=1/\(1:Int)<=4 by decide),by rw[F];exact aX.z0,λ_=>?_⟩ D3 aS ad ad;have:=aX.1;show(1:Int)<=(a:Int);omega
theorem avz{s:aq}{a:Nat}{k:K}(h:In f C P n j 0 0 s)(aX:cI (bn s) a)(hk:cX C P (bn s) k)(aS:c9 k)(z:dK k<=0)(W:bP s<=V):Good f C P n V (Fb j s a k):=by
 obtain⟨x,e,ex⟩:=lG aX;have B:=h.base.aE _ _ ex;unfold Fb;refine ru ?_;have h1:=lI h ex (y:=Qf) ⟨B.id,B.par,B.kind,B.slots,B.lb,B.kids,zh,zh,B.cH,B.jW⟩;have hp:=lH (y:=Qf) ex;simp only[iq,lk]at hp;obtain⟨s1,aC,m1,gH⟩:=K4 (why:=2) bw (x.front.reverse++x.aside) (s:=c8 s a Qf)
  (λv Z=>by rw[j4];rcases kX.1 Z with Z|Z;exact B.front v (List.mem_reverse.1 Z);exact B.aside v Z) (by rw[eZ,aiG];unfold most;omega)
 rw[eZ,aiG]at gH;have F:bn s1=bn s:=D2;simp only[aC];exact jF (h1.hX m1) (λak=>B8 (aX.act h.base) (.inr (.inr rfl))) (by rw[F];exact⟨aX,hk,aS,z⟩) JA ad
theorem aiJ(aY:ei f C P n V j m g){s:aq}{a:Nat}{k:K}(h:In f C P n j 0 0 s)(aX:cI (bn s) a)(hk:cX C P (bn s) k)(aS:c9 k)(z:dK k<=0)(W:bP s+bB k+10<=V)(bf:bB k<m):Good f C P n V (rC g j s a k):=by
 obtain⟨x,e,ex⟩:=lG aX;have B:=h.base.aE _ _ ex;unfold rC;refine ru ?_;split
 . exact aY.dN h hk aS ad bf
 . split
   . exact avz N aA cV h aX hk aS z ad
   . split
     . obtain⟨st,r,ge⟩:∃st r,x.kind.states=st::r:=by
        cases ai:x.kind.states with
        |nil=>exact absurd ai B.kind.st
        |cons st r=>exact⟨st,r,rfl⟩
       have gJ:x.kind.states[0]?=some st:=by rw[ge];rfl
       simp only[gJ];have h1:=lI h ex (y:=Ee) ⟨B.id,B.par,B.kind,rfl,(λv Z=>by simp at Z;subst Z;exact⟨vp _,(show(0:Int)<=((bn s).na:Int) by omega)⟩),B.kids,B.aside,B.front,zh,B.jW⟩;have hp:=lH (y:=Ee) ex;simp only[iq,lk]at hp;obtain⟨s1,T,w,i0,R⟩:=aiF h1 Iv;simp only[T];have gT:bn s1=bn s:=by rw[i0,j4]
       obtain⟨c,aC,i⟩:=lG (s:=s1) (a:=a) (by rw[gT];exact aX);have b:=w.base.aE _ _ i;simp only[aC];have h2:=lI w i (y:={c with mode:=1}) ⟨b.id,b.par,b.kind,b.slots,b.lb,b.kids,b.aside,b.front,b.cH,b.jW⟩;have t:=lH (y:={c with mode:=1}) i;simp only[iq]at t;obtain⟨ce,bF,J,sC⟩:=pX (s:=c8 s1 a {c with mode:=1}) {cz with kind:=12,dc:=a} oO;rw[bF];exact aY.dN (h2.hX J) (by rw[J.aZ,j4,gT];exact hk) aS ad bf
     . exact aY.dN h hk aS ad bf
theorem Sw(aY:ei f C P n V j m g){s:aq}{a:Nat}{x:dn}{d:Int}{k:K}(h:In f C P n j 0 0 s)(aX:cI (bn s) a)(ah:sK (bn s) x)(T:1<=x.who)(hk:cX C P (bn s) k)(aS:c9 k)(z:dK k<=0)(W:bP s+bB k+296<=V)(bf:bB k+256<m):Good f C P n V (rD C g j s a x d k):=by
 unfold rD;obtain⟨s1,aC,m1,gH⟩:=pX (s:=s) {cz with kind:=10,dc:=x.who,cf:=a,why:=d,name:=x.reason} oO;rw[aC];simp only[bind,Option.bind];have F:bn s1=bn s:=m1.aZ;have i1:In f C P n j 0 0 s1:=h.hX m1;have R:cI (bn s1) x.who.toNat:=by rw[F];have:=ah.who.2;exact uy
 have U:∀w:Int,(w=0\/w=2\/w=3)->sK (bn s1) ⟨w,0,[]⟩:=λw R=>⟨(show 0<=w/\w<=4 by omega),⟨vp _,(show(0:Int)<=((bn s1).na:Int) by omega)⟩,(λe=>by replace e:w=1:=e;omega)⟩;split
 . exact Ca N aA cV i1 R (U 2 ad) D3 aS ad ad
 . split
   . exact Ca N aA cV i1 R (U 3 ad) D3 aS ad ad
   . split
     . exact Ca N aA cV i1 R (U 0 ad) D3 aS ad ad
     . obtain⟨y,e,t⟩:=lG (s:=s1) (a:=a) Iu
       have B:=i1.base.aE _ _ t;simp only[e];have d7:∀v∈oj y.cH x.who,dU (bn s1) .act v:=λv Z=>by
        unfold oj at Z;split at Z
        . exact B.cH v Z
        . rcases kX.1 Z with Z|Z
          . exact B.cH v Z
          . simp at Z;subst Z;exact⟨T,by rw[F];exact ah.who.2⟩
       have h1:=lI i1 t (y:={y with cH:=oj y.cH x.who}) ⟨B.id,B.par,B.kind,B.slots,B.lb,B.kids,B.aside,B.front,d7,B.jW⟩;have hp:=lH (y:={y with cH:=oj y.cH x.who}) t;have aw:=ain y.cH x.who;simp only[iq]at hp;split
       . exact aiI N aA cV aY h1 (by rw[j4,F];exact aX) (by rw[j4,F];exact hk) aS z ad bf
       . exact aY.dN h1 (by rw[j4,F];exact hk) aS ad ad
theorem avA(aY:ei f C P n V j m g){s:aq}{a:Nat}{x:dn}{k:K}(h:In f C P n j 0 0 s)(aX:cI (bn s) a)(ah:sK (bn s) x)(T:1<=x.who)(hk:cX C P (bn s) k)(aS:c9 k)(z:dK k<=0)(W:bP s+bB k+306<=V)(bf:bB k+256<m):Good f C P n V (xy C g j s a x k):=by
 obtain⟨y,e,t⟩:=lG aX;unfold xy;refine ru ?_;split
 . exact JO
 . split
   . exact Sw N aA cV aY h aX ah T hk aS z ad bf
   . exact jF h (λak=>avp) ⟨aX,ah,T,hk,aS,z⟩ ⟨_,rfl⟩ ad
theorem avB(aY:ei f C P n V j m g){s:aq}{a:Nat}{x:dn}{k:K}(h:In f C P n j 0 0 s)(aX:cI (bn s) a)(ah:sK (bn s) x)(hk:cX C P (bn s) k)(aS:c9 k)(z:dK k<=0)(W:bP s+bB k+316<=V)(bf:bB k+256<m):Good f C P n V (vA C g j s a x k):=by
 obtain⟨y,e,t⟩:=lG aX;have B:=h.base.aE _ _ t;unfold vA;refine ru ?_;split
 . exact Sv N aA cV aY h aX hk aS z ad bf
 . split
   . rename_i h1
     exact avA N aA cV aY h aX ah (ah.aG h1) hk aS z ad bf
   . split
     . split
       . exact JO
       . have h1:=lI h t (y:={y with mode:=1,cH:=[]}) ⟨B.id,B.par,B.kind,B.slots,B.lb,B.kids,B.aside,B.front,(λv Z=>by cases Z),B.jW⟩
         have hp:=lH (y:={y with mode:=1,cH:=[]}) t;simp only[iq,lk]at hp;obtain⟨s1,aC,m1,gH⟩:=pX (s:=c8 s a {y with mode:=1,cH:=[]}) {cz with kind:=11,dc:=a} oO;rw[aC];exact Su N aA cV aY (h1.hX m1) (by rw[m1.aZ,j4];exact B.cH) (.inr rfl) (by rw[m1.aZ,j4];exact hk) aS ad ad ad
     . split
       . split
         . exact JO
         . have h1:=lI h t (y:={y with mode:=3}) ⟨B.id,B.par,B.kind,B.slots,B.lb,B.kids,B.aside,B.front,B.cH,B.jW⟩
           have hp:=lH (y:={y with mode:=3}) t;simp only[iq]at hp;exact Su N aA cV aY h1 (by rw[j4];exact B.kids) (.inl rfl) (by rw[j4];exact⟨aX,hk,aS,z⟩) trivial Is It It
       . split
         . have h1:=lI h t (y:={y with kids:=del y.kids x.who,cH:=del y.cH x.who,given:=pj y.given x.who}) ⟨B.id,B.par,B.kind,B.slots,B.lb,λv Z=>B.kids v (aiw Z),B.aside,B.front,λv Z=>B.cH v (aiw Z),B.jW⟩
           have hp:=lH (y:={y with kids:=del y.kids x.who,cH:=del y.cH x.who,given:=pj y.given x.who}) t;have dv:=Sr y.kids x.who;have O:=Sr y.cH x.who;have b:=aiz y.given x.who;simp only[iq]at hp;exact aiJ N aA cV aY h1 Iv OI aS z ad ad
         . exfalso;have:=ah.what;omega
end
structure h7(P:List cr):Prop where
 ne:P≠[]
 kinds:∀k∈P,Sg P k
section
variable{f:Nat->ga}{C:bO}{P:List cr}{n V j:Nat}{g:aq->b3->K->Option aq}{m:Nat}
def aiK{s:aq}{b:Bool}(h:In f C P n j 0 0 s)(W:bP s<=V):Good f C P n V (sleep j s b):=by
 obtain⟨t,cQ,B⟩:=h.jX;unfold sleep;simp only[cQ,bind,Option.bind];refine ac6 ?_;intro ak h1 h2;refine⟨ak,h1,λi u e=>?_⟩;replace e:(s.ax.set j {t with jj:=b})[i]?=some u:=e;by_cases g1:j=i
 . subst g1
   obtain⟨d4,rfl⟩:=dp.1 e;rw[yX];exact⟨(h2 j t cQ).on,(h2 j t cQ).iP,(h2 j t cQ).oG⟩
 . rw[rz g1]at e;exact h2 i u e
theorem aiL{s:aq}{l:c0}{kF:Bool}{r:b3}(cV:n<=bo)(aA:V<1099511627776)(h:In f C P n j 1 0 s)(aw:tW (bn s) l)(aF:r=.fQ ((s.lets.length+1:Nat):Int))(W:bP s+1<=V):
 ∃aW id,enter s l kF r=some (aW,id)/\In f C P n j 0 0 aW/\(bn s).le (bn aW)/\dU (bn aW) .jy id/\bP aW=bP s+1:=by
 subst aF;have I:bo=1000000000000:=rfl;have bi:=h.num.pf;have bf:s.lets.length<most:=oO;unfold enter;simp only;rw[bg ⟨trivial,bf⟩];obtain⟨s1,aC,m1,gH⟩:=pX (s:=IX) {cz with kind:=2,id:=((s.lets.length+1:Nat):Int),cf:=l.cf,to:=l.to,name:=l.tag,n:=l.n,kF:=kF} (by unfold most;show bP s<_;omega);rw[aC];have b:(bn s).le (bn IX):=⟨et _,by simp,et _⟩;have i1:In f C P n j 0 0 IX:=by
  refine h.more (aW:=IX) rfl rfl rfl b ⟨h.base.xt,h.base.na,λi x e=>(h.base.aE i x e).mono b,λx ah=>?_,λx ah=>(h.base.notes x ah).mono b,h.base.tX,h.base.a8.1.acc,by have h1:=YK (r:=s.a8) (id:=((s.lets.length+1:Nat):Int)) (w:=1);have h2:=h.base.a8.2;show _<=(s.lets++[l]).length;simp only[eZ,iG,lk];omega⟩ ⟨?_,?_,h.num.dv,h.num.mv,h.num.mx⟩
  . rcases kX.1 ah with ah|ah
    . exact(h.base.lets x ah).mono b
    . simp at ah;subst ah;exact aw.mono b
  . rw[h.num.nj];simp
  . simp only[eZ,iG,lk];omega
 refine⟨s1,_,rfl,i1.hX m1,by rw[m1.aZ];exact b,?_,gH⟩;rw[m1.aZ];exact⟨(by omega:(1:Int)<=((s.lets.length+1:Nat):Int)),(by show((s.lets.length+1:Nat):Int)<=((s.lets++[l]).length:Nat);simp)⟩
theorem avC{s:aq}{a:Nat}{kind:cG}{v:Int}(dg:h7 P)(aA:V<1099511627776)(h:In f C P n j 0 1 s)(aX:cI (bn s) a)(hk:(lf P kind).isSome=true)(Z:v=s.L.getD 1 0)(o:v<=C.aT)(W:bP s+10<=V):
 ∃aW,vB C P s v.toNat a kind=some aW/\In f C P n j 0 0 aW/\(bn s).le (bn aW)/\dU (bn aW) .act v/\bP aW<=bP s+10:=by
 obtain⟨k,J⟩:=RG.1 hk;have B:=dg.kinds k (aiv J);obtain⟨st,r,ge⟩:∃st r,k.states=st::r:=by
  cases ai:k.states with
  |nil=>exact absurd ai B.st
  |cons st r=>exact⟨st,r,rfl⟩
 have gJ:k.states[0]?=some st:=by rw[ge];rfl
 have dv:=h.num.dv;have mv:=h.num.mv;have mx:=h.num.mx;rw[<-Z]at dv mv mx;have hH:v=(s.aE.length:Int)+1:=ad;obtain⟨u,g,q⟩:=lG aX;have z:=h.base.aE _ _ q;unfold vB;simp only[J,gJ,bind,Option.bind];rw[bg ad];simp only[g]
 generalize l:(s.aE.set (a -1) {u with kids:=u.kids++[((v.toNat:Nat):Int)]})++[(⟨v.toNat,a,k,st.name,[0,0,0,0],[],1,[],[],[],[],[],[]⟩:bU)]=c
 have hlen:c.length=s.aE.length+1:=by rw[<-l];simp
 have ph:bP {s with aE:=c}<=bP s+1:=by
  have:=Sk (y:={u with kids:=u.kids++[((v.toNat:Nat):Int)]}) q;simp only[bP,<-l,oY,List.sum_append,gx,mO,Sl,List.sum_nil];simp only[iq,eZ,iG,lk,mO,List.sum_nil]at this⊢;omega
 obtain⟨s1,aC,m1,gH⟩:=pX (s:={s with aE:=c}) {cz with kind:=7,dc:=v.toNat,cf:=a,name:=kind} oO;have b:(bn s).le (bn {s with aE:=c}):=⟨by show s.aE.length<=c.length;omega,et _,et _⟩;have t:dU (bn {s with aE:=c}) .act v:=⟨by omega,by show v<=(c.length:Int);omega⟩;have i1:In f C P n j 0 0 {s with aE:=c}:=by
  refine h.more (aW:={s with aE:=c}) rfl rfl rfl b ⟨by show 1<=c.length;omega,by show c.length<=_;omega,λi x e=>?_,λx ah=>(h.base.lets x ah).mono b,λx ah=>(h.base.notes x ah).mono b,h.base.tX,h.base.a8⟩ ⟨h.num.nj,h.num.pf,?_,?_,h.num.mx⟩
  . replace e:c[i]?=some x:=e
    rw[<-l]at e;by_cases ak:i<s.aE.length
    . rw[kY CQ]at e
      by_cases m:a -1=i
      . subst m
        obtain⟨d4,rfl⟩:=dp.1 e;rw[yX];have d:=z.mono b;refine⟨d.id,d.par,d.kind,d.slots,d.lb,λw R=>?_,d.aside,d.front,d.cH,d.jW⟩;rcases kX.1 R with R|R
        . exact d.kids w R
        . simp at R;subst R;rw[show max v 0=v by omega];exact t
      . rw[rz m]at e;exact(h.base.aE i x e).mono b
    . rw[py CQ]at e
      simp only[gr]at e;have D:i -s.aE.length=0:=by
       obtain⟨d4,_⟩:=dp.1 e;simp at d4;omega
      rw[D]at e;simp at e;subst e;have d4:i=s.aE.length:=by
       omega
      refine⟨by show v.toNat=i+1;omega,by show a<=c.length;have:=aX.2;have:a<=s.aE.length:=this;omega,B,rfl,λw R=>?_,(λw R=>by cases R),(λw R=>by cases R),(λw R=>by cases R),(λw R=>by cases R),(λp hp=>by cases hp)⟩;simp at R;subst R;exact⟨vp _,by show(0:Int)<=(c.length:Int);omega⟩
  . show(c.length:Int)=min (s.L.getD 1 0 -((0:Nat):Int)) C.aT;rw[<-Z];omega
  . show((0:Nat):Int)+1<=s.L.getD 1 0;rw[<-Z];omega
 exact⟨s1,aC,i1.hX m1,by rw[m1.aZ];exact b,by rw[m1.aZ];exact t,by omega⟩
variable(N:C.ok)(aA:V<1099511627776)(cV:n<=bo)
include N aA cV
theorem aiM{s:aq}{v:Int}(h:In f C P n j 0 0 s)(Z:dU (bn s) .act v)(W:bP s<=V):Good f C P n V (xz j s v):=by
 unfold xz;have h1:1<=v:=Z.1;have h2:v<=s.aE.length:=Z.2;rw[bg ⟨h1,h2⟩];have:=Z.cI.1;exact jF h (λak=>Sn (this.act h.base) G9) this JA W
theorem aiN(aY:ei f C P n V j m g){s:aq}{a:Nat}{id:Int}{k:K}(h:In f C P n j 0 0 s)(aX:cI (bn s) a)(cy:dU (bn s) .jy id)(hk:cX C P (bn s) k)(aS:c9 k)(z:dK k<=0)(W:bP s+bB k+1640<=V)(bf:bB k+1640<m):Good f C P n V (sP C g j s a id k):=by
 obtain⟨x,e,ex⟩:=lG aX;have B:=h.base.aE _ _ ex;obtain⟨l,el,b⟩:=K3 cy;unfold sP;simp only[e,el,bind,Option.bind];split
 . obtain⟨s1,aC,m1,gH⟩:=xu (why:=5) (λ_ _=>trivial) cy bw (show bP s<most by unfold most;omega)
   exact acU
 . obtain⟨I,G⟩:=avu B.kind x.state l.tag l.n (h.base.lets l b).n
   generalize kU x.kind x.state l.tag l.n=p at*
   split
   . split
     . obtain⟨s1,aC,m1,gH⟩:=xu (why:=1) (λ_ _=>trivial) cy bw (show bP s<most by unfold most;omega)
       exact acU
     . have h1:=lI h ex (y:={x with aside:=x.aside++[id]}) ⟨B.id,B.par,B.kind,B.slots,B.lb,B.kids,(λv Z=>by rcases kX.1 Z with Z|Z;exact B.aside v Z;simp at Z;subst Z;exact cy),B.front,B.cH,B.jW⟩
       have hp:=lH (y:={x with aside:=x.aside++[id]}) ex;simp only[iq,eZ,iG,lk]at hp;have d:bP (move (c8 s a {x with aside:=x.aside++[id]}) id 3)=bP (c8 s a {x with aside:=x.aside++[id]}):=rfl;obtain⟨s1,aC,m1,gH⟩:=pX (s:=move (c8 s a {x with aside:=x.aside++[id]}) id 3) {cz with kind:=5,dc:=a,id:=id} oO;simp only[aC];exact aY.dN ((h1.hX (K2 _ _)).hX m1) (by rw[m1.aZ,(K2 _ _).aZ,j4];exact hk) aS ad ad
   . have T:kT s {s with a8:=du s.a8 id 7}:=⟨rfl,rfl,rfl,rfl,rfl,rfl,λh=>h.from bw,Led.yT⟩
     have o:bP {s with a8:=du s.a8 id 7}=bP s:=rfl;obtain⟨s1,aC,m1,gH⟩:=pX (s:={s with a8:=du s.a8 id 7}) {cz with kind:=3,dc:=a,id:=id} oO;simp only[aC];have i1:=(h.hX T).hX m1;have gT:bn s1=bn s:=by rw[m1.aZ,T.aZ]
     have i:s1.aE[a -1]?=some x:=by rw[m1.aE];exact ex
     have dl:=aiA x.watched l.cf;have ag:c P (bn s1) (a -1) (if l.pY=true then{x with watched:=x.watched.erase l.cf}else x):=by
      rw[gT];split
      . exact⟨B.id,B.par,B.kind,B.slots,B.lb,B.kids,B.aside,B.front,B.cH,B.jW⟩
      . exact B
     have ai:iq (if l.pY=true then{x with watched:=x.watched.erase l.cf}else x)<=iq x:=by
      split
      . simp only[iq];omega
      . exact et _
     have h2:=lI i1 i ag;have hp:=lH (y:=(if l.pY=true then{x with watched:=x.watched.erase l.cf}else x)) i;have w:bB (.ended a id p k)=bB k+1000:=rfl;have So:wd (.da a id p) 0 p.cx.length=64*(p.cx.length -0)+64:=rfl;exact Fa N aA cV aY h2 (by rw[j4,gT];exact⟨aX,cy,rfl,I,G⟩) (fk _) (by rw[j4,gT];exact⟨aX,hk,aS,z⟩) trivial Is ad ad (λ_=>⟨by omega,by omega⟩)
theorem aiO(aY:ei f C P n V j m g){s:aq}{a left:Nat}(h:In f C P n j 0 0 s)(aX:cI (bn s) a)(aw:left<=16)(W:bP s<=V)(R:1<=left->bP s+np (left -1)+1710<=V/\np (left -1)+1710<m):Good f C P n V (rE C g j s a left):=by
 obtain⟨x,e,ex⟩:=lG aX;have B:=h.base.aE _ _ ex;unfold rE;refine ru ?_;split
 . exact ait N aA cV h aX W
 . split
   . exact jF h (λak=>Sn (aX.act h.base) ⟨by decide,by decide⟩) aX (λ_ _ e=>by cases e) W
   . rename_i bi
     obtain⟨aG,bb⟩:=R ad;split
     . rename_i id cy
       have b:id∈x.front:=List.mem_of_getLast? cy;have h1:=lI h ex (y:={x with front:=x.front.dropLast}) ⟨B.id,B.par,B.kind,B.slots,B.lb,B.kids,B.aside,λv Z=>B.front v ((List.dropLast_sublist _).subset Z),B.cH,B.jW⟩;have hp:=lH (y:={x with front:=x.front.dropLast}) ex;simp only[iq,aiP]at hp;have w:bB (.next a left)=np (left -1)+64:=rfl;exact aiN N aA cV aY h1 Iv (by rw[j4];exact B.front _ b) (by rw[j4];exact⟨aX,by omega,aw⟩) trivial (et _) ad ad
     . exact jF h (λak=>B8 (aX.act h.base) (.inl rfl)) ⟨aX,by omega,aw⟩ ⟨λ_=>⟨_,rfl,rfl⟩,(λe=>by simp[xA]at e)⟩ W
end
def ei.le{f:Nat->ga}{C:bO}{P:List cr}{n V j m q:Nat}{g:aq->b3->K->Option aq}(h:ei f C P n V j m g)(l:q<=m):ei f C P n V j q g:=
 λs k a b c d e=>h s k a b c d ad
section
variable{f:Nat->ga}{C:bO}{P:List cr}{n V j:Nat}{g:aq->b3->K->Option aq}
variable(N:C.ok)(aA:V<1099511627776)(cV:n<=bo)(dg:h7 P)
include N aA cV dg
theorem SL{s:aq}{r:b3}{k:K}(aY:ei f C P n V j (bB k) g)(h:In f C P n j (eT k) (eU k) s)(hk:cX C P (bn s) k)(aF:eS C j s r k)(W:bP s+bB k<=V):Good f C P n V (dF C P g j s r k):=by
 have I:bo=1000000000000:=rfl;cases k with
 |nil=>exact⟨s,rfl,h.inv,by omega⟩
 |
  polled=>
  obtain⟨c,rfl⟩:=aF;exact aiK h ad
 |
  found=>
  obtain⟨O,aF⟩:=aF;cases r with
  |
   fE c=>
   simp only[dF];split
   . rename_i h1;exact aiM N aA cV h (aF.2 h1) ad
   . exact jF h (λak=>avm O) trivial ⟨O,avn⟩ ad
  |_=>exact aF.elim
 |
  ps=>
  obtain⟨O,aF⟩:=aF;cases r with
  |
   fE c=>
   simp only[dF];split
   . rename_i h1;exact aiM N aA cV h (aF.2 h1) ad
   . exact aiK h ad
  |_=>exact aF.elim
 |
  mC=>
  obtain⟨c,rfl,h1,h2,aN,bA,d3⟩:=aF;have w:bB .mC=7000:=rfl;simp only[dF,bind,Option.bind];have IT:kT s {s with now:=s.now+1}:=⟨rfl,rfl,rfl,rfl,rfl,rfl,λh=>h,rfl⟩;have Q:bP {s with now:=s.now+1}=bP s+1:=by simp only[bP];omega
  obtain⟨s1,aC,m1,gH⟩:=pX (s:={s with now:=s.now+1}) {cz with kind:=15,n:=((s.now+1:Nat):Int)} oO;rw[aC];have gT:bn s1=bn s:=by rw[m1.aZ,IT.aZ]
  obtain⟨cb,aV,X,i5⟩:=K4 (why:=1) bw c.ref (s:=s1) (by rw[gT];exact aN) oO;simp only[aV];have L:bn cb=bn s:=by rw[X.aZ,gT]
  obtain⟨ce,bF,J,sC⟩:=K4 (why:=4) bw c.cut (s:=cb) (by rw[L];exact h2) oO;simp only[bF];obtain⟨A,xk⟩:=aiE 5 6 (ce.bm.T.map (·.id)) ce
  generalize (ce.bm.T.map (·.id)).foldl (λs id=>mz s id 5 6) ce=Y at*
  obtain⟨ST,zK⟩:=St 1 c.due Y
  generalize c.due.foldl (λs id=>move s id 1) Y=E at*
  have aB0:In f C P n j 0 0 E:=((((((show In f C P n j 0 0 s from h).hX IT).hX m1).hX X).hX J).hX A).hX ST;have z5:bn E=bn s:=by rw[ST.aZ,A.aZ,J.aZ,L]
  have So:wd (.leave c.due) 0 c.due.length=64*(c.due.length -0)+64:=rfl;have aCu:bB .nil=64:=rfl;exact Fa N aA cV (m:=bB .mC) aY aB0 (by rw[z5];exact⟨rfl,bA,h1⟩) (fk _) trivial trivial (fk _) ad ad (λ_=>⟨by omega,by omega⟩)
 |run a=>exact aiu N aA cV h hk ad
 |
  iX a=>
  have w:bB (.iX a)=70000:=rfl;cases r with
  |
   post aD p=>
   simp only[dF];split
   . have aB1:C.mB<=16:=N.Gt
     refine aiO N aA cV aY h hk aB1 ad (λ_=>?_);have:np (C.mB -1)<=61280:=by unfold np;omega
     exact⟨by omega,by omega⟩
   . rename_i h1
     have Z:=aF.2 ad;have v1:0<=p.val:=Z.1;have u:p.val<s.notes.length:=Z.2;have d4:p.val.toNat<s.notes.length:=ad;simp only[cD d4,bind,Option.bind];have aV:bB (.on a)=128:=rfl;exact avB N aA cV aY h hk (h.base.notes _ (vl d4)) hk trivial (fk _) ad ad
  |_=>exact aF.elim
 |
  on a=>
  obtain⟨x,e,ex⟩:=lG hk;simp only[dF,e,bind,Option.bind];split
  . exact aiu N aA cV h hk ad
  . exact⟨s,rfl,h.inv,by omega⟩
 |again a=>exact jF h (λak=>aip (h.akZ N hk) hk.v) trivial (λ_ _ e=>by cases e) ad
 |
  next a left=>
  obtain⟨aX,h1,h2⟩:=hk;have w:bB (.next a left)=np (left -1)+64:=rfl;refine aiO N aA cV aY h aX ad ad (λaw=>?_);have:np (left -1 -1)+4000=np (left -1):=by unfold np;omega
  exact⟨by omega,by omega⟩
 |
  mD a left=>
  obtain⟨aX,h1,h2⟩:=hk;have w:bB (.mD a left)=np left:=rfl;cases r with
  |
   post aD p=>
   simp only[dF];split
   . exact ait N aA cV h aX ad
   . rename_i aJ
     have Z:=aF.2 ad;have aV:bB (.next a left)=np (left -1)+64:=rfl;have:np (left -1)+4000=np left:=by unfold np;omega
     exact aiN N aA cV aY h aX Z ⟨aX,h1,h2⟩ trivial (fk _) ad ad
  |_=>exact aF.elim
 |settled a=>exact K5 N aA cV aY h hk aF trivial trivial (by have:bB .nil=64:=rfl;have:bB (.settled a)=128:=rfl;omega) (show 64<128 by decide)
 |
  ended a id p k=>
  obtain⟨aX,M,aS,aw⟩:=hk;have w:bB (.ended a id p k)=bB k+1000:=rfl;obtain⟨x,e,ex⟩:=lG aX;have B:=h.base.aE _ _ ex;simp only[dF,e,bind,Option.bind];have h1:=lI h ex (y:={x with state:=p.state}) ⟨B.id,B.par,B.kind,B.slots,B.lb,B.kids,B.aside,B.front,B.cH,B.jW⟩;have hp:=lH (y:={x with state:=p.state}) ex;simp only[iq]at hp;obtain⟨s1,aC,m1,gH⟩:=pX (s:=c8 s a {x with state:=p.state}) {cz with kind:=4,dc:=a,id:=id,name:=p.state} oO;rw[aC];have F:bn s1=bn s:=D2;have i1:In f C P n j 0 0 s1:=(show In f C P n j 0 0 _ from h1).hX m1;simp only;split
  . exact Sv N aA cV aY i1 Iu (by rw[F];exact M) aS aw ad ad
  . split
    . exact aiI N aA cV aY i1 Iu (by rw[F];exact M) aS aw ad ad
    . exact aY.dN i1 (by rw[F];exact M) aS ad ad
 |
  mE l k=>
  obtain⟨aw,M,aS,z⟩:=hk;have w:bB (.mE l k)=bB k+192:=rfl;obtain⟨s1,id,aC,i1,b,Z,gH⟩:=aiL (kF:=false) cV aA h aw aF ad;simp only[dF,aC,bind,Option.bind];exact air N aA cV aY i1 Z (M.mono b) aS z ad ad
 |
  hR a l e k=>
  obtain⟨aX,aw,M,aS,z⟩:=hk;have w:bB (.hR a l e k)=bB k+192:=rfl;obtain⟨s1,id,aC,i1,b,Z,gH⟩:=aiL (kF:=true) cV aA h aw aF ad;simp only[dF,aC,bind,Option.bind];exact avs N aA cV i1 (aX.mono b) Z (M.mono b) aS z ad
 |
  told id to k=>
  obtain⟨cy,n7,M,aS,z⟩:=hk;have w:bB (.told id to k)=bB k+128:=rfl;obtain⟨aD,p,rfl⟩:=aF;simp only[dF,bind,Option.bind];split
  . obtain⟨s1,aC,m1,gH⟩:=xu (why:=1) (λ_ _=>trivial) cy bw (show bP s<most by unfold most;omega)
    simp only[aC];exact aY.dN ((show In f C P n j 0 0 s from h).hX m1) Iw aS ad ad
  . split
    . obtain⟨s1,aC,m1,gH⟩:=xu (why:=2) (λ_ _=>trivial) cy bw (show bP s<most by unfold most;omega)
      simp only[aC];exact aY.dN ((show In f C P n j 0 0 s from h).hX m1) Iw aS ad ad
    . have m1:=Si (s:=s) id 1 2
      have gH:=Sj (s:=s) id 1 2;exact K5 N aA cV aY ((show In f C P n j 0 0 s from h).hX m1) (by rw[m1.aZ];exact n7.cI.1) ⟨_,_,rfl⟩ Iw aS ad ad
 |
  lJ a k=>
  obtain⟨aX,M,aS,z⟩:=hk;have w:bB (.lJ a k)=bB k+128:=rfl;exact K5 N aA cV aY h aX aF M aS ad ad
 |
  mF a kind slot k=>
  obtain⟨aX,aB2,g0,M,aS,z⟩:=hk;have w:bB (.mF a kind slot k)=bB k+128:=rfl;replace aF:r=.fQ (s.L.getD 1 0):=aF;subst aF;simp only[dF,bind,Option.bind];have fin:∀(s1:aq) (H:Int),In f C P n j 0 0 s1->(bn s).le (bn s1)->oT (bn s1) H->bP s1<=bP s+10->Good f C P n V ((dM s1 a).bind λx=>g (c8 s1 a {x with slots:=x.slots.set slot H}) dN k):=λs1 H i1 b Z gH=>by
   obtain⟨x,e,ex⟩:=lG (aX.mono b);have B:=i1.base.aE _ _ ex;simp only[e,Option.bind];have hp:=lH (y:={x with slots:=x.slots.set slot H}) ex;simp only[iq]at hp;refine aY.dN (lI i1 ex ⟨B.id,B.par,B.kind,by simp[B.slots],λv D=>?_,B.kids,B.aside,B.front,B.cH,B.jW⟩) (by rw[j4];exact M.mono b) aS ad ad;rcases ahA D with D|rfl
   . exact B.lb v D
   . exact Z
  replace h:In f C P n j 0 1 s:=h;split
  . rename_i aCv
    obtain⟨s1,aC,m1,gH⟩:=pX (s:=s) {cz with kind:=8,dc:=a,name:=kind} oO;simp only[aC,Option.map];have fI:In f C P n j 0 0 s:=by
     have dv:=h.num.dv;exact h.more rfl rfl rfl .refl h.base ⟨h.num.nj,h.num.pf,by omega,by have:=h.num.mv;omega,h.num.mx⟩
    exact fin s1 0 (fI.hX m1) (by rw[m1.aZ];exact .refl) ⟨vp _,by omega⟩ ad
  . obtain⟨s1,aC,i1,b,Z,gH⟩:=avC dg aA h aX aB2 rfl ad ad
    simp only[aC,Option.map];have v1:1<=s.L.getD 1 0:=Z.1;exact fin s1 _ i1 b ⟨by omega,Z.2⟩ gH
 |
  asked id a e k=>
  obtain⟨cy,aX,M,aS,z⟩:=hk;have w:bB (.asked id a e k)=bB k+128:=rfl;obtain⟨c,rfl⟩:=aF;simp only[dF,bind,Option.bind];split
  . obtain⟨s1,aC,m1,gH⟩:=xu (why:=1) (λ_ _=>trivial) cy bw (show bP s<most by unfold most;omega)
    simp only[aC];exact aY.dN ((show In f C P n j 0 0 s from h).hX m1) Iw aS ad ad
  . have m1:=Si (s:=s) id 1 5
    have gH:=Sj (s:=s) id 1 5;have i1:=(show In f C P n j 0 0 s from h).hX m1
    generalize mz s id 1 5=s1 at*
    obtain⟨x,aC,ex⟩:=lG (s:=s1) (a:=a) (by rw[m1.aZ];exact aX);have B:=i1.base.aE _ _ ex;simp only[aC];have hp:=lH (y:={x with timers:=l7 x.timers e.name id}) ex;have U:=aiB x.timers e.name id;simp only[iq]at hp;refine aY.dN (lI i1 ex ⟨B.id,B.par,B.kind,B.slots,B.lb,B.kids,B.aside,B.front,B.cH,λp hp v Z=>?_⟩) (by rw[j4,m1.aZ];exact M) aS ad ad;rcases aiC hp Z with rfl|⟨S,h1,h2⟩
    . rw[m1.aZ];exact cy
    . exact B.jW S h1 v h2
 |
  watched a who k=>
  obtain⟨aX,R,M,aS,z⟩:=hk;have w:bB (.watched a who k)=bB k+128:=rfl;exact jF h (λak=>avi (R.act h.base)) ⟨aX,R,M,aS,z⟩ ⟨_,_,rfl⟩ ad
 |
  gone a who k=>
  obtain⟨aX,R,M,aS,z⟩:=hk;have w:bB (.gone a who k)=bB k+128:=rfl;obtain⟨aD,p,rfl⟩:=aF;simp only[dF];split
  . exact aY.dN h M aS ad ad
  . exact ais N aA cV h aX R M aS z ad
 |
  nq x y k=>
  obtain⟨ah,ag,M,aS,z⟩:=hk;have w:bB (.nq x y k)=bB k+128:=rfl;obtain⟨o,rfl⟩:=aF;simp only[dF];split
  . exact aY.dN h M aS ad ad
  . exact Sq N aA cV h ⟨ah.z0,ag.z0.2,(show(0:Int)<=0/\(0:Int)<=255 by decide)⟩ M aS z ad
 |
  alone a k=>
  obtain⟨aX,M,aS,z⟩:=hk;have w:bB (.alone a k)=bB k+256:=rfl;exact aiJ N aA cV aY h aX M aS z ad ad
 |
  kI a x k=>
  obtain⟨aX,ah,T,M,aS,z⟩:=hk;have w:bB (.kI a x k)=bB k+1000:=rfl;obtain⟨c,rfl⟩:=aF;obtain⟨y,e,t⟩:=lG aX;have B:=h.base.aE _ _ t;simp only[dF,e,bind,Option.bind];split
  . exact Sw N aA cV aY h aX ah T M aS z ad ad
  . have h1:=lI h t (y:={y with given:=ew y.given x.who (dY y.given x.who++[gV (qH c.val)])}) ⟨B.id,B.par,B.kind,B.slots,B.lb,B.kids,B.aside,B.front,B.cH,B.jW⟩
    have hp:=lH (y:={y with given:=ew y.given x.who (dY y.given x.who++[gV (qH c.val)])}) t;have U:=aiD (gV (qH c.val)) x.who y.given;simp only[iq]at hp;exact Sw N aA cV aY h1 Iv (by rw[j4];exact ah) T (by rw[j4];exact M) aS z ad ad
 |
  closed a k=>
  obtain⟨aX,M,aS,z⟩:=hk;have w:bB (.closed a k)=bB k+128:=rfl;exact jF h (λak=>B8 (aX.act h.base) (.inr (.inl rfl))) ⟨aX,⟨aX,M,aS,z⟩,trivial,by show dK k+1<=1;omega⟩ ⟨λ_=>⟨_,rfl,rfl⟩,(λe=>by simp[xC]at e)⟩ ad
 |
  lc a k=>
  obtain⟨aX,M,aS,z⟩:=hk;have w:bB (.lc a k)=bB k+128:=rfl;cases r with
  |
   post aD p=>
   simp only[dF,bind,Option.bind];split
   . exact aY.dN h M aS ad ad
   . split
     . rename_i h1
       obtain⟨s1,aC,m1,gH⟩:=xu (why:=2) (λ_ _=>trivial) (aF.2 h1) bw (show bP s<most by unfold most;omega);simp only[aC];exact jF ((show In f C P n j 0 0 s from h).hX m1) (λak=>B8 (aX.act h.base) (.inr (.inl rfl))) (by rw[m1.aZ];exact⟨aX,M,aS,z⟩) ⟨λ_=>⟨_,rfl,rfl⟩,(λe=>by simp[xC]at e)⟩ ad
     . exact jF h (λak=>B8 (aX.act h.base) (.inr (.inl rfl))) ⟨aX,M,aS,z⟩ ⟨λ_=>⟨_,rfl,rfl⟩,(λe=>by simp[xC]at e)⟩ ad
  |_=>exact aF.elim
 |
  shut a k=>
  obtain⟨aX,M,aS,z⟩:=hk;have w:bB (.shut a k)=bB k+128:=rfl;exact jF h (λak=>Sn (aX.act h.base) ⟨by decide,by decide⟩) ⟨aX,M,aS,z⟩ (λ_ _ e=>by cases e) ad
 |
  oo a k=>
  obtain⟨aX,M,aS,z⟩:=hk;have w:bB (.oo a k)=bB k+128:=rfl;obtain⟨x,e,ex⟩:=lG aX;have B:=h.base.aE _ _ ex;simp only[dF,e,bind,Option.bind];have h1:=lI h ex (y:={x with mode:=5}) ⟨B.id,B.par,B.kind,B.slots,B.lb,B.kids,B.aside,B.front,B.cH,B.jW⟩;have hp:=lH (y:={x with mode:=5}) ex;simp only[iq]at hp;obtain⟨s1,aC,m1,gH⟩:=pX (s:=c8 s a {x with mode:=5}) {cz with kind:=14,dc:=a} oO;rw[aC];have F:bn s1=bn s:=D2;exact jF ((show In f C P n j 0 0 _ from h1).hX m1) (λak=>rfl) (by rw[F];exact⟨aX,M,aS,z⟩) rfl ad
 |
  who a k=>
  obtain⟨aX,M,aS,z⟩:=hk;have w:bB (.who a k)=bB k+1600:=rfl;replace aF:r=.fQ (s.L.getD 1 0):=aF;subst aF;simp only[dF];replace h:In f C P n j 0 0 s:=h;have dv:=h.num.dv;have mv:=h.num.mv;have mx:=h.num.mx;rw[bg ad];have hd:=N.hd;have aV:bB (.parent a k)=bB k+128:=rfl;have So:wd (.my a) 0 (min (s.L.getD 1 0).toNat C.aT)=64*(min (s.L.getD 1 0).toNat C.aT -0)+64:=rfl;exact Fa N aA cV aY h ⟨aX,by show _<=s.aE.length;omega,by omega⟩ (fk _) ⟨aX,M,aS,z⟩ trivial Is ad ad (λ_=>⟨by omega,by omega⟩)
 |
  parent a k=>
  obtain⟨aX,M,aS,z⟩:=hk;have w:bB (.parent a k)=bB k+128:=rfl;obtain⟨x,e,ex⟩:=lG aX;have B:=h.base.aE _ _ ex;simp only[dF,e,bind,Option.bind];split
  . exact aY.dN h M aS ad ad
  . exact Ca N aA cV h ⟨by omega,B.par⟩ ⟨(show(0:Int)<=4/\(4:Int)<=4 by decide),aX.z0,(λe=>by cases e)⟩ M aS ad ad
 |
  each d i c k=>
  obtain⟨G,ak,M,aS,z⟩:=hk;have w:bB (.each d i c k)=bB k+wd d i c:=rfl;have aG:64<=wd d i c:=by cases d<;>simp only[wd]<;>omega
  have ip:dK k<=aiH d:=by cases d<;>exact z
  refine Fa N aA cV aY h G ad M aS ip ad ad (λq=>?_);have:wd d (i+1) c+64=wd d i c:=by cases d<;>first|exact q.elim|(simp only[wd];omega)
  exact⟨by omega,by omega⟩
 |oU a=>exact K5 N aA cV aY h hk aF trivial trivial (by have:bB .nil=64:=rfl;have:bB (.oU a)=128:=rfl;omega) (show 64<128 by decide)
end
def ar5{C:bO}{P:List cr}{F:gA}{k:K}(h:cX C P F k):dK k<=3:=by
 cases k<;>simp only[dK,cX]at*<;>first|omega|(have:=h.2.2.2;omega)|(have:=h.2.2.2.2;omega)|(have:=h.2.2.2.2.2;omega)|(rename_i d i n k;have:=h.2.2.2.2;cases d<;>simp only at this<;>omega)
def mw{C:bO}{P:List cr}{F:gA}(n:Nat):∀{k:K},cX C P F k->bB k<=70000+5000*dK k
 |.nil,_=>by simp[bB,dK]|.polled,_=>by simp[bB,dK]|.found,_=>by simp[bB,dK]|.ps,_=>by simp[bB,dK]|.mC,_=>by simp[bB,dK]
 |.run _,v=>by simp[bB,dK]|.iX _,v=>by simp[bB,dK]|.on _,v=>by simp[bB,dK]|.again _,v=>by simp[bB,dK]|.settled _,v=>by simp[bB,dK]|.oU _,v=>by simp[bB,dK]
 |.next _ _,v=>by have:=v.2.2;simp only[bB,dK,np];omega|.mD _ _,v=>by have:=v.2.2;simp only[bB,dK,np];omega
 |.ended _ _ _ _,v=>by have:=mw n v.2.1;simp only[bB,dK];omega
 |.mE _ _,v=>by have:=mw n v.2.1;simp only[bB,dK];omega
 |.hR _ _ _ _,v=>by have:=mw n v.2.2.1;simp only[bB,dK];omega
 |.told _ _ _,v=>by have:=mw n v.2.2.1;simp only[bB,dK];omega
 |.lJ _ _,v=>by have:=mw n v.2.1;simp only[bB,dK];omega
 |.mF _ _ _ _,v=>by have:=mw n v.2.2.2.1;simp only[bB,dK];omega
 |.asked _ _ _ _,v=>by have:=mw n v.2.2.1;simp only[bB,dK];omega
 |.watched _ _ _,v=>by have:=mw n v.2.2.1;simp only[bB,dK];omega
 |.gone _ _ _,v=>by have:=mw n v.2.2.1;simp only[bB,dK];omega
 |.nq _ _ _,v=>by have:=mw n v.2.2.1;simp only[bB,dK];omega
 |.alone _ _,v=>by have:=mw n v.2.1;simp only[bB,dK];omega
 |.kI _ _ _,v=>by have:=mw n v.2.2.2.1;simp only[bB,dK];omega
 |.closed _ _,v=>by have:=mw n v.2.1;simp only[bB,dK];omega
 |.lc _ _,v=>by have:=mw n v.2.1;simp only[bB,dK];omega
 |.shut _ _,v=>by have:=mw n v.2.1;simp only[bB,dK];omega
 |.oo _ _,v=>by have:=mw n v.2.1;simp only[bB,dK];omega
 |.who _ _,v=>by have:=mw n v.2.1;simp only[bB,dK];omega
 |.parent _ _,v=>by have:=mw n v.2.1;simp only[bB,dK];omega
 |
  .each d i c k,v=>by
  have h1:=mw n v.2.2.1;have h2:wd d i c<=5000:=by
   have bi:=v.1;cases d<;>simp only[wd,B7]at*<;>omega
  simp only[bB,dK];omega
abbrev hB:Nat:=90000
section
variable{f:Nat->ga}{C:bO}{P:List cr}{n V j:Nat}
variable(N:C.ok)(aA:V<1099511627776)(cV:n<=bo)(dg:h7 P)
include N aA cV dg
theorem go_ok:∀m,ei f C P n V j m (go C P m j)
 |0=>λs k _ _ _ _ h=>absurd h (KI _)
 |m+1=>λs k h hk aS W bf=>SL N aA cV dg ((go_ok m).le ad) (by rw[(K1 aS).1,(K1 aS).2];exact h) hk (Sh aS) W
theorem go_top{m:Nat}{s:aq}{r:b3}{k:K}(h:In f C P n j (eT k) (eU k) s)(hk:cX C P (bn s) k)(aF:eS C j s r k)(W:bP s+bB k<=V)(bf:bB k<=m):Good f C P n V (go C P (m+1) j s r k):=
 SL N aA cV dg ((go_ok N aA cV dg m).le bf) h hk aF W
end
section
variable{f:Nat->ga}{C:bO}{P:List cr}{n:Nat}
def Inv.aU{n':Nat}{s:aq}(h:Inv f C P n s)(aO:n<=n')(hk:n'<=bo):Inv f C P n' s:=by
 have I:bo=1000000000000:=rfl;obtain⟨ak,c,t⟩:=h.bp;exact⟨h.base,⟨h.num.nj,mZ h.num.pf aO,h.num.dv,h.num.mv,by have:=h.num.mx;omega⟩,ak,⟨c.len,c.ju,c.rc,c.hL,λw=>mZ (c.aA w) aO,c.qF,c.ws.le ad⟩,t⟩
def Inv.In{j:Nat}{s:aq}(h:Inv f C P n s){t:b0}(e:s.ax[j]?=some t)(B:t.on=none):Th.In f C P n j 0 0 s:=⟨h.base,h.num,⟨t,e,B⟩,h.bp⟩
def arX{o:b3}(h:Sf o):o.over=false:=by
 cases o with
 |fE c=>have:=h.1;simp[b3.over,gC.over,this]
 |_=>exact h.elim
def Fk(C:bO)(s:aq)(o:b3):(acc C s o).1.ax=s.ax:=by cases o<;>rfl
end
section
variable{f:Nat->ga}{C:bO}{P:List cr}{n V j:Nat}{s:aq}
section
variable{ak:Nat->Nat}{q:nK}{o:b3}{k:K}
theorem ai1{s1:aq}{o S:b3}(cL:iQ f C C.cells)(c:eV f C (bn s) ak n s.L s.bm)(A:zM f C (bn s) ak n j q s o s1 S)(bt:∀i,i≠j->q≠.own i){fP:Nat->Nat}(co:∀w,ak w<=fP w){i:Nat}{t:b0}(g1:i≠j)(h:sL C P (bn s) ak s.L i t):sL C P (bn s) fP s1.L i t:=by
 have y:iQ f C s.L.length:=OK;refine⟨λo k e=>?_,λR=>?_,h.oG⟩
 . obtain⟨h1,h2,aN⟩:=h.on o k e
   exact⟨h1.stay y A.wr co (bt i g1),h2,aN⟩
 . rcases h.iP R with g|g
   . exact .inl (by rw[A.wr.iP (y.ih i R).iP (bt i g1)];exact g)
   . exact .inr g
theorem avW(U:vy C j (bn s) o k)(hH:∀c d,o≠.add c d)(v:∀c,o≠.load c)(A:zM f C (bn s) ak n j q s o (acc C s o).1 (acc C s o).2):vy C j (bn s) (acc C s o).2 k:=by
 have b:∀c d,(acc C s o).2≠.add c d:=by
  intro c d;cases o<;>first|exact absurd rfl (hH _ _)|(intro e;simp only[acc]at e;cases e)
 cases k<;>first
  |exact b
  |exact⟨U.1,A.aif U.2⟩
  |exact A.aie _ U
  |(obtain⟨O,c,rfl⟩:=U;exact⟨O,_,rfl⟩)
  |(obtain⟨a,p,rfl⟩:=U;exact⟨_,_,rfl⟩)
  |(obtain⟨c,rfl⟩:=U;exact⟨_,rfl⟩)
  |exact absurd U (hH _ _)
  |exact absurd U (v _)
theorem ai2{cb:aq}(U:vy C j (bn s) o k)(hH:∀c d,o≠.add c d)(A:zM f C (bn s) ak n j q s o (acc C s o).1 (acc C s o).2)(T:bn cb=bn s)(K:cb.L=(acc C s o).1.L):eS C j cb (acc C s o).2 k:=by
 have dN:c9 k->eS C j cb (acc C s o).2 k:=Sh;cases k<;>first
  |exact dN trivial
  |exact trivial
  |(obtain⟨O,c,rfl⟩:=U;exact⟨_,rfl⟩)
  |(refine⟨U.1,?_⟩;rw[T];exact A.aif U.2)
  |(show qG (bn cb) _ _;rw[T];exact A.aie _ U)
  |(obtain⟨a,p,rfl⟩:=U;exact⟨_,_,rfl⟩)
  |exact absurd U (hH _ _)
  |(replace U:o=.load 1:=U;subst U;show(acc C s (.load 1)).2=.fQ (cb.L.getD 1 0);rw[K];rfl)
  |(
   obtain⟨c,rfl⟩:=U
   first
    |exact⟨_,rfl⟩
    |(
     obtain⟨fP,_,_,W,cU⟩:=A.ex;refine⟨_,rfl,?_,?_,?_,cU.dl,?_⟩
     . rw[T];exact cU.due
     . rw[T];exact cU.cut
     . rw[T];exact cU.ref
     . have:=W.MO;omega))
theorem Ch(C:bO)(s:aq)(o:b3)(t:List b0):bn Qm=bn s:=by cases o<;>rfl
theorem IF(C:bO)(s:aq)(o:b3)(t:List b0):bP Qm=bP s:=by cases o<;>rfl
theorem QS(h:vz C P s)(o:b3){t:List b0}(U:t.length=s.ax.length):vz C P Qm:=by
 have T:=Ch C s o t;exact⟨by cases o<;>exact h.xt,by cases o<;>exact h.na,by rw[T];cases o<;>exact h.aE,by rw[T];cases o<;>exact h.lets,by rw[T];cases o<;>exact h.notes,by rw[U];exact h.tX,by cases o<;>exact h.a8⟩
theorem avX(cL:iQ f C C.cells)(N:C.ok)(dg:h7 P)(aA:V<1099511627776)(aO:n+1<=bo)(h:Inv f C P n s){t:b0}{o:b3}{k:K}(cQ:s.ax[j]?=some t)(B:t.on=some (o,k))(W:bP s+hB<=V):Good f C P (n+1) V (eG C P j s):=by
 refine afb ?_;intro I ak c aj O Z hk U z H E;have y:iQ f C s.L.length:=OK;have aCw:zA=1000000:=rfl;unfold eG;simp only[cQ,B,bind,Option.bind];rw[Fk]
 -- the threads behind it
 have ax:∀(q:nK) (fP:Nat->Nat) (dr:b0),(∀i,i≠j->q≠.own i)->(∀w,ak w<=fP w)->zM f C (bn s) ak n j q s o (acc C s o).1 (acc C s o).2->sL C P (bn s) fP (acc C s o).1.L j dr->
  ∀i u,(s.ax.set j dr)[i]?=some u->sL C P (bn s) fP (acc C s o).1.L i u:=λq fP dr bt co A M i u e=>by
  by_cases g1:j=i
  . subst g1
    obtain⟨d4,rfl⟩:=dp.1 e;rw[yX];exact M
  . rw[rz g1]at e
    exact ai1 cL c A bt co (λh=>g1 h.symm) (aj i u e)
 by_cases L:∃a d,o=.add a d
 . obtain⟨a,d,rfl⟩:=L
   obtain⟨aX,rfl⟩:=Z;have A:=aii (j:=j) cL aO c aX;have bt:∀i,i≠j->nK.jf≠.own i:=λi _ e=>by cases e
   rw[bg (show(acc C s (.add a 1)).2.over=true from rfl)];obtain⟨fP,co,aI,D⟩:=A.ex;have T:=Ch C s (.add a 1) Jk;have he:∀p q,pT C (n+1) p q {(acc C s (.add a 1)).1 with ax:=s.ax.set j {t with on:=none}}->In f C P (n+1) j p q sl:=λp q F=>by
    exact adB
   have nj:=h.num.nj;have pf:=h.num.pf;have dv:=h.num.dv;have mv:=h.num.mv;have mx:=h.num.mx;have un:∀x:Int,0<=x->x<9223372036854775808->fe x=x:=λx a b=>by rw[xm];omega
   have hlen:2<=s.L.length:=Zl;have Lz:∀{p q:Nat},eT k=p->eU k=q->pT C (n+1) p q sl->eS C j sl (acc C s (.add a 1)).2 k->Good f C P (n+1) V (go C P zA j sl (acc C s (.add a 1)).2 k):=λaC aV F aF=>by
    subst aC;subst aV;exact go_top N aA aO dg (m:=999999) (he _ _ F) (by rw[T];exact hk) aF Zn ad
   exact ad9
 . have hH:∀a d,o≠.add a d:=λa d e=>L ⟨a,d,e⟩
   have A:=aih cL N aO c Z E hH;have bt:∀i,i≠j->nK.own j≠.own i:=λi g1 e=>by cases e;exact g1 rfl
   obtain⟨fP,co,aI,D⟩:=A.ex;have gJ:(acc C s o).1.L.getD 0 0=s.L.getD 0 0:=A.wr.jf gl cL.eA;have aC:(acc C s o).1.L.getD 1 0=s.L.getD 1 0:=A.wr.jf gl cL.c1;have F:∀dr,pT C (n+1) 0 0 Jm:=λdr=>by
    exact afi
   split
   . rename_i J
     have T:=Ch C s o Jk;have X:eT k=0/\eU k=0:=Zm;refine acR ?_;intro he;exact go_top N aA aO dg (m:=999999) (by rw[X.1,X.2];exact he) (by rw[T];exact hk) (ai2 U hH A T rfl) Zn ad
   . rename_i J
     have T:=Ch C s o (s.ax.set j {t with on:=some ((acc C s o).2,k)});have v:∀a,o≠.load a:=λa e=>by subst e;exact J rfl
     refine⟨_,rfl,⟨QS h.base _ gl,F _,fP,?_,?_⟩,by rw[IF];omega⟩
     . rw[T];exact aI
     . rw[T]
       refine ax _ fP _ bt co A ⟨λS Y e=>?_,λR=>?_,(aj j t cQ).oG⟩
       . cases e;exact⟨D,hk,avW U hH v A⟩
       . rcases A.iP R (E R)with g|g
         . exact .inr ⟨_,_,rfl,g⟩
         . exact .inl g
end
end
structure hg(f:Nat->ga)(C:bO)(P:List cr)(n:Nat)(s:aq):Prop where
 inv:Inv f C P n s
 ph:bP s<=hB*n
abbrev hh:Nat:=10000000
section
variable{f:Nat->ga}{C:bO}{P:List cr}{n V j:Nat}{s:aq}
def hg.aU(h:hg f C P n s){n':Nat}(aO:n<=n')(hk:n'<=hh):hg f C P n' s:=
 have h1:hh=10000000:=rfl;have h2:bo=1000000000000:=rfl
 ⟨h.inv.aU aO ad,mZ h.ph (Nat.mul_le_mul_left _ aO)⟩
def avY{t:b0}(e:s.ax[j]?=some t)(b:busy s j=true):∃o k,t.on=some (o,k):=by
 unfold busy at b;rw[e]at b;cases h:t.on with
 |none=>simp[h]at b
 |some p=>exact⟨p.1,p.2,rfl⟩
def SM{t:b0}(e:s.ax[j]?=some t)(b:busy s j=false):t.on=none:=by
 unfold busy at b;rw[e]at b;cases h:t.on with
 |none=>rfl
 |some p=>simp[h]at b
def qJ(h:Inv f C P n s)(O:j<C.bc+C.cT+1):∃t,s.ax[j]?=some t:=
 ⟨_,cD (by rw[h.base.tX];exact O)⟩
def Fl(cL:iQ f C C.cells)(N:C.ok)(dg:h7 P)(aO:n+1<=hh)(h:hg f C P n s)(O:j<C.bc+C.cT+1)(aA:busy s j=true):∃aW,eG C P j s=some aW/\hg f C P (n+1) aW:=by
 have h1:hh=10000000:=rfl;have h2:bo=1000000000000:=rfl;have aN:hB=90000:=rfl;obtain⟨t,cQ⟩:=qJ h.inv O;obtain⟨o,k,B⟩:=avY cQ aA;have hp:=h.ph;obtain⟨aW,e,i,p⟩:=avX (V:=hB*(n+1)) cL N dg (by rw[aN];omega) ad h.inv cQ B y0;exact⟨aW,e,i,p⟩
def SN{o:b3}{k:K}{aW:aq}(h:hs j s o k=some aW):busy aW j=true:=by
 unfold hs at h;cases e:s.ax[j]?with
 |none=>simp[e]at h
 |
  some t=>
  have O:j<s.ax.length:=(dp.1 e).1;simp only[e,bind,Option.bind]at h;split at h
  . cases h;unfold busy;simp[O]
  . cases h
def SO(f:Nat->ga)(C:bO)(P:List cr)(n j:Nat)(b:aq->Option aq)(s:aq):Prop:=busy s j=false->∃aW,b s=some aW/\hg f C P n aW/\busy aW j=true
def Lm(cL:iQ f C C.cells)(N:C.ok)(dg:h7 P)(aO:n+1<=hh)(h:hg f C P n s)(O:j<C.bc+C.cT+1){b:aq->Option aq}(aA:SO f C P n j b s):∃aW,stepT C P b j s=some aW/\hg f C P (n+1) aW:=by
 unfold stepT;cases e:busy s j with
 |true=>rw[bg rfl];exact Fl cL N dg aO h O e
 |
  false=>
  rw[a7 bw];obtain⟨s1,aC,i1,ar⟩:=aA e;simp only[aC,bind,Option.bind];exact Fl cL N dg aO i1 O ar
def SP{x:Option aq}(h:Good f C P n (hB*n) x):∃aW,x=some aW/\hg f C P n aW:=by
 obtain⟨aW,e,i,p⟩:=h;exact⟨aW,e,i,p⟩
def ai9:∀(k d:Nat) (l:List Nat) {y:Nat},y∈n4 k d l->y∈l
 |0,d,l,y,h=>by simp[n4]at h
 |
  k+1,d,l,y,h=>by
  unfold n4 at h;split at h
  . cases h
  . rename_i x ah
    rcases ky.1 h with rfl|h
    . exact jH ah
    . exact aot (ai9 k _ _ h)
def avZ{d n self y:Nat}(h:y∈order d n self):y<n:=by
 have:=ai9 _ _ _ h;unfold mV at this;simpa using(oL.1 this).1
def aja{F:gA}{ak:Nat->Nat}{L:List Int}{d:Nat}(O:j<C.bc):ec C F ak j L (.fE (yw C.bC j d))/\rB F (.fE (yw C.bC j d)):=by
 have h1:∀s∈acn,AM C.bC s:=λs ai=>by
  rcases ky.1 ai with rfl|ai
  . exact O
  . rcases ky.1 ai with rfl|ai
    . exact trivial
    . obtain⟨y,ag,rfl⟩:=lN.1 ai;exact avZ ag
 have h2:∀s∈acn,E2 j s:=λs ai=>by
  rcases ky.1 ai with rfl|ai
  . exact rfl
  . rcases ky.1 ai with rfl|ai
    . exact trivial
    . obtain⟨y,ag,rfl⟩:=lN.1 ai;exact trivial
 have g:=Sd (F:=F) (L:=L) (ak:=ak) O h2 h1;exact⟨⟨M1 h1,λe=>⟨g.1 e,λ_=>O⟩⟩,g.2⟩
def Ln(N:C.ok)(O:j<C.bc)(h:hg f C P n s):SO f C P n j (e5 C j) s:=λaA=>by
 obtain⟨t,cQ⟩:=qJ (j:=j) h.inv ad;have B:=SM cQ aA;have i:=h.inv.In cQ B;unfold e5;simp only[cQ,bind,Option.bind];split
 . obtain⟨aW,e,r⟩:=SP (jF (k:=.polled) (V:=hB*n) i (λak=>avl O) trivial ⟨O,_,rfl⟩ h.ph)
   exact⟨aW,e,r,SN e⟩
 . obtain⟨aW,e,r⟩:=SP (jF (k:=.found) (V:=hB*n) i (λak=>(aja O).1) trivial ⟨O,(aja O (C:=C) (ak:=λ_=>0) (L:=s.L)).2⟩ h.ph)
   exact⟨aW,e,r,SN e⟩
def ajb(x:Nat):kT s {s with ticks:=x}:=Eh
def av0(x:Bool):kT s {s with shut:=x}:=Eh
def ajc(N:C.ok)(hk:n<=bo)(h:hg f C P n s):SO f C P n (C.bc+C.cT) (fj C (C.bc+C.cT)) s:=λaA=>by
 have I:bo=1000000000000:=rfl;obtain⟨t,cQ⟩:=qJ (j:=C.bc+C.cT) h.inv ad;have B:=SM cQ aA;have i:=(h.inv.In cQ B).hX (ajb (s.ticks -1));unfold fj;obtain⟨ak,c,_⟩:=h.inv.bp;have R:=c.ws.now;obtain⟨aW,e,r⟩:=SP (jF (k:=.mC) (o:=.ey (uv C.df s.bm)) (V:=hB*n) i (λak=>⟨anh N.i64 ad,⟨λ_=>aid _ _,qs,qs,qs,fk _⟩⟩) trivial ⟨_,rfl⟩ (by have:=h.ph;unfold bP at this⊢;simp only;omega));exact⟨aW,e,r,SN e⟩
def ajd{dr:b0}(h:Inv f C P n s){t:b0}(e:s.ax[j]?=some t)(B:dr.on=t.on)(aS:0<=dr.draw/\dr.draw<18446744073709551616):Inv f C P n {s with ax:=s.ax.set j dr}:=by
 obtain⟨ak,c,aj⟩:=h.bp;refine⟨⟨h.base.xt,h.base.na,h.base.aE,h.base.lets,h.base.notes,by show(s.ax.set _ _).length=_;rw[gr];exact h.base.tX,h.base.a8⟩,acy,ak,c,λi u g=>?_⟩;replace g:(s.ax.set j dr)[i]?=some u:=g;by_cases g1:j=i
 . subst g1
   obtain⟨d4,rfl⟩:=dp.1 g;rw[yX];exact⟨by rw[B];exact(aj j t e).on,by rw[B];exact(aj j t e).iP,aS⟩
 . rw[rz g1]at g;exact aj i u g
def SQ(cL:iQ f C C.cells)(N:C.ok)(dg:h7 P)(aO:n+1<=hh)(h:hg f C P n s):∃aW b,zR C P s=some (aW,b)/\hg f C P (n+1) aW:=by
 have h1:hh=10000000:=rfl;have h2:bo=1000000000000:=rfl;unfold zR;split
 . exact Qr
 . obtain⟨aW,e,r⟩:=Lm cL N dg aO h (Nat.lt_succ_self _) (ajc N ad h)
   rw[e];exact⟨aW,true,rfl,r⟩
def Lo{x:Option aq}(h:∃aW,x=some aW/\hg f C P n aW):∃aW b,x.map (·,true)=some (aW,b)/\hg f C P n aW:=by
 obtain⟨aW,e,r⟩:=h;subst e;exact⟨aW,true,rfl,r⟩
def Cj(cL:iQ f C C.cells)(N:C.ok)(dg:h7 P)(aO:n+1<=hh)(h:hg f C P n s)(e:dA):∃aW b,nO C P s e=some (aW,b)/\hg f C P (n+1) aW:=by
 unfold nO;split
 . split
   . exact Qr
   . rename_i aX
     have O:e.a.toNat<C.bc:=ad
     generalize e.a.toNat=j at O
     obtain⟨t,cQ⟩:=qJ (j:=j) h.inv ad;simp only[cQ,bind,Option.bind];have r:hg f C P n {s with ax:=s.ax.set j {t with draw:=fe e.n}}:=⟨ajd h.inv cQ rfl (by show 0<=fe e.n/\fe e.n<_;rw[xm];omega),h.ph⟩;exact Lo (Lm cL N dg aO r ad (Ln N O r))
 . split
   . exact SQ cL N dg aO h
   . split
     . split
       . exact Qr
       . have r:hg f C P (n+1) {s with ticks:=s.ticks+1}:=⟨(h.aU (io _) aO).inv.hX (ajb _),by
          have h1:=h.ph;have h2:hB*(n+1)=hB*n+90000:=by rw[Nat.mul_add];rfl
          unfold bP at h1⊢;simp only;omega⟩
         exact⟨_,true,rfl,r⟩
     . have h1:hh=10000000:=rfl
       have h2:bo=1000000000000:=rfl;have aN:hB=90000:=rfl;have Y:=h.ph;have stay:∃aW b,some (s,false)=some (aW,b)/\hg f C P (n+1) aW:=⟨s,false,rfl,h.aU (io _) aO⟩;have fV:∀l,∃aW b,(iR l s).map (·,true)=some (aW,b)/\hg f C P (n+1) aW:=λl=>by
        obtain⟨s1,aC,m1,gH⟩:=pX (s:=s) l (by unfold most;rw[aN]at Y;omega);exact Lo ⟨s1,aC,(h.inv.hX m1).aU (io _) ad,by rw[aN]at Y⊢;omega⟩
       unfold hand;split
       . exact stay
       . rename_i aX
         have O:C.bc+e.a.toNat<C.bc+C.cT+1:=ad
         generalize C.bc+e.a.toNat=j at O
         obtain⟨t,cQ⟩:=qJ h.inv O;simp only;split
         . split
           . rename_i aA;exact Lo (Fl cL N dg aO h O aA)
           . exact stay
         . split
           . exact stay
           . rename_i aA
             have B:=SM cQ (by simpa using aA);have i:=h.inv.In cQ B;have m:∀{x:Option aq},Good f C P n (hB*(n+1)) x->∃aW b,x.map (·,true)=some (aW,b)/\hg f C P (n+1) aW:=λg=>by
              obtain⟨aW,y,R,S⟩:=g;exact Lo ⟨aW,y,R.aU (io _) ad,S⟩
             have C5:bP s+1<=hB*(n+1):=by rw[aN]at Y⊢;omega
             have p:hB*(n+1)<1099511627776:=by rw[aN];omega
             have o:∀(s1:aq) (a:Nat),In f C P n j 0 0 s1->bP s1=bP s->cI (bn s1) a->Good f C P n (hB*(n+1)) (ask C j s1 a):=λs1 a i1 gH c=>by
              unfold ask;have aw:s1.notes.length<=bP s1:=by unfold bP;omega
              rw[bg ⟨by unfold most;omega,c.act i1.base⟩];refine jF (ail i1 ⟨(show(0:Int)<=0/\(0:Int)<=4 by decide),⟨vp _,(show(0:Int)<=((bn s1).na:Int) by omega)⟩,(λe=>by cases e)⟩) (λak=>avh (c.act i1.base) uy ?_) (c.mono Sm) ⟨_,_,rfl⟩ (by rw[aim];omega);exact⟨by omega,by show(s1.notes.length:Int)<((s1.notes++[_]).length:Nat);rw[eZ];simp;omega⟩
             split
             . split
               . exact stay
               . rename_i q
                 have u:0<=e.n/\e.n<=255:=by
                  have h1:=not_or.1 q;have h2:=not_or.1 h1.2;omega
                 split
                 . exact fV _
                 . rename_i aY
                   refine acJ ?_;intro d;have d4:tW (bn s) ⟨-1 -e.a,e.b,e.tag,e.n,false⟩:=⟨⟨show 0<=e.b by omega,d.2⟩,show-1 -e.a<=((bn s).na:Int) by omega,u⟩;exact m (Sq N p ad i d4 trivial trivial (fk _) ad)
             . split
               . split
                 . exact fV _
                 . rename_i aY
                   refine acJ ?_;intro d;exact m (o s _ i rfl ⟨by omega,by show _<=s.aE.length;omega⟩)
               . split
                 . exact m (o _ 1 (i.hX (av0 true)) rfl ⟨et _,h.inv.base.xt⟩)
                 . exact stay
def SR{F:Nat->aq->Option aq}{Q:Nat->Prop}(u:∀(m i:Nat) (s:aq),Q i->m+1<=hh->hg f C P m s->∃aW,F i s=some aW/\hg f C P (m+1) aW):∀(l:List Nat) (n:Nat) (s:aq),(∀i∈l,Q i)->n+l.length<=hh->hg f C P n s->∃aW,sR F l s=some aW/\hg f C P (n+l.length) aW
 |[],n,s,_,_,h=>⟨s,rfl,h⟩
 |
  i::l,n,s,bt,aO,h=>by
  simp only[iG]at aO;obtain⟨s1,aC,gO⟩:=u n i s (bt i (.head _)) ad h;obtain⟨cb,aV,lD⟩:=SR u l (n+1) s1 (λx ah=>bt x (.tail _ ah)) ad gO;refine⟨cb,by simp only[sR,aC,bind,Option.bind];exact aV,?_⟩;rw[iG,show n+(l.length+1)=n+1+l.length by omega];exact lD
def av1(cL:iQ f C C.cells)(N:C.ok)(dg:h7 P)(aO:n+13<=hh)(h:hg f C P n s):∃aW,round C P s=some aW/\hg f C P (n+13) aW:=by
 have bQ:=N.bQ;have bA:=N.bA;obtain⟨s1,aC,gO⟩:=SR (F:=λj s=>stepT C P (e5 C j) j s) (Q:=λj=>j<C.bc) (λm i s ak bf r=>Lm cL N dg bf r ad (Ln N ak r)) (List.range C.bc) n s (λi ak=>pM.1 ak) yV h;rw[u0]at gO;obtain⟨cb,aV,lD⟩:=SR (F:=λi s=>if busy s (C.bc+i)then eG C P (C.bc+i) s else some s) (Q:=λi=>i<C.cT) (λm i s ak bf r=>by
  by_cases aA:busy s (C.bc+i)=true
  . simp only[aA,fu];exact Fl cL N dg bf r ad aA
  . simp only[aA,eI];exact⟨s,rfl,r.aU (io _) bf⟩) (List.range C.cT) (n+C.bc) s1 (λi ak=>pM.1 ak) yV gO
 rw[u0]at lD;obtain⟨ce,b,bF,o⟩:=SQ cL N dg ad lD;refine⟨ce,?_,o.aU ad aO⟩;unfold round;simp only[aC,bind,Option.bind];rw[aV];simp only[bF,Option.map]
def SG(cL:iQ f C C.cells)(N:C.ok)(dg:h7 P):∀(k n:Nat) (s:aq),n+13*k<=hh->hg f C P n s->∃aW b,rest C P k s=some (aW,b)/\hg f C P (n+13*k) aW
 |0,n,s,aO,h=>⟨s,_,rfl,h⟩
 |
  k+1,n,s,aO,h=>by
  unfold rest;split
  . exact⟨s,true,rfl,h.aU ad aO⟩
  . obtain⟨s1,aC,gO⟩:=av1 cL N dg ad h
    simp only[aC,bind,Option.bind];obtain⟨cb,b,aV,lD⟩:=SG cL N dg k (n+13) s1 ad gO;exact⟨cb,b,aV,lD.aU ad aO⟩
end
end Go.L.Th
