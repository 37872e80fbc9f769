import Derived.Test.YtnnhpnccfnghdaaGreatA15
set_option linter.all false
set_option maxRecDepth 8000
set_option maxHeartbeats 5600000
namespace Go.Proofs.YtnnhpnccfnghdaaGreat.L.bM
open Go.Proofs.YtnnhpnccfnghdaaGreat.L
open Go.L Go.L.Ring Go.L.dD Go.L.ej Go.L.Whl Go.L.dP Go.L.Lx Go.L.Pg
open Go.L.Led (du dH dW bm aw fo)
open Go.L.Th (bO c0 dn bG dE bU b3 e4 b0 aq most dY cS fp eR dZ In cX c9 eS bB bP eT eU bn cI dF go bo Good ei eV ec acc Inv eG e5 fj busy dA eC eh fr)
attribute[local irreducible] G cJ GE c3 GT b1 dk c7 ds Exit.then Exit.inBlock
section
variable{X:cO}{ap ae O R:List Nat}
def ajt{α:Type}:∀(l:List α) (f g:Nat->α->al),(∀i x D h,Sat (f i x::D) h->Sat (g i x::D) h)->∀(D:List al) (h:eQ),Sat (l.mapIdx f++D) h->Sat (l.mapIdx g++D) h
 |[],_,_,_,_,_,s=>s
 |
  x::l,f,g,e,D,h,s=>by
  rw[R6]at s⊢;exact Sat.tail (λh s=>ajt l _ _ (λi x D h s=>e (i+1) x D h s) D h s) (e 0 x _ h s)
def aw1{α:Type}{f g:Nat->α->al}(l:List α)(e:∀i x D h,Sat (f i x::D) h->Sat (g i x::D) h):∀(D:List al) (h:eQ),Sat (ao (l.mapIdx f)::D) h->Sat (ao (l.mapIdx g)::D) h:=λD h s=>Sat.flat.2 (ajt l f g e D h (Sat.flat.1 s))
def aw2(aX:∀i q:Nat,ap[i]?=some q->O[i]?=some q)(aw:∀i q:Nat,ae[i]?=some q->R[i]?=some q){j:Nat}{t:b0}:∀D h,Sat (hF X ap ae j t::D) h->Sat (hF X O R j t::D) h:=λD h s=>by
 unfold hF at s⊢;cases aJ:t.on with
 |none=>rw[aJ]at s;exact s
 |
  some q=>
  obtain⟨o,k⟩:=q;rw[aJ]at s;obtain⟨⟨p,f,c⟩,_,F⟩:=ha s;exact cE (D:=D) (p,f,c) trivial kS h (Sat.tail (λh s=>Sat.tail (λh s=>vq aX aw k p f c _ h s) s) F)
def Ls(aX:∀i q:Nat,ap[i]?=some q->O[i]?=some q)(aw:∀i q:Nat,ae[i]?=some q->R[i]?=some q)(l:List b0):∀(D:List al) (h:eQ),Sat (ao (cK X ap ae l)::D) h->Sat (ao (cK X O R l)::D) h:=
 aw1 l λi t D h s=>aw2 aX aw D h s
end
section
variable(X:cO)(z:dw)(s:aq)(j:Nat)(y:Option aq)(J:Nat)(M:List Value)(k:Th.K)(p q x F ed N aK ar V ay aL:Nat)(e:fF)(v:Int)(l:c0)
def aw3{m:List (Int×Value)}{k:Int}{v:Value}(h:dR m k=none):ew m k v=m++[(k,v)]:=by
 induction m with
 |nil=>rfl
 |
  cons p m L=>
  simp only[dR]at h;split at h
  . cases h
  . rename_i V
    simp only[ew,a7 V,L h,ck]
def OS(ap:List Nat)(q:Nat):ew (bD ap) ((ap.length+1:Nat):Int) (ptr q 0)=bD (ap++[q]):=by
 rw[aw3 (KU ad)];simp[bD,aju]
def ajv{ae:List Nat}{l:List c0}{q:Nat}{x:c0}(h:ae.length=l.length):eB (ae++[q]) (l++[x])=eB ae l++[Ec q x]:=by
 simp only[eB,aju,R6,List.mapIdx_nil];exact adx
def xF{l:List Nat}{q:Nat}:∀i x:Nat,l[i]?=some x->(l++[q])[i]?=some x:=λi x h=>by
 rw[kY (dp.1 h).1];exact h
theorem Ft{X:cO}{p:Nat}{v:Int}:ib p 2 (cM X p (.fQ v)) (bx v):=⟨fun{h} s=>by
 obtain⟨w,_,s1⟩:=ha (D:=[]) (Sat.one s);obtain⟨f,_,cb⟩:=ha s1;obtain⟨h1,h2,_,rfl,aX,_⟩:=cb;exact⟨_,_,_,join_some aX,rfl⟩⟩
def aw4(h:ab E 158 [ptr (X.bp j) 0,bx v,bk J M] k8 (cv X y)):ab E 164 ([bx v]++[ptr x 0,ptr F 0]) ([aa x 106 eE,aa F 1 [bk J M],a1 X z.ap z.ae j 0 k J M]++bh X z s) (cv X y):=by
 refine av Tryz.func164 λH D=>?_;exact Kv
def aw5(aj:bJ X z s)(d4:s.lets.length<most)(c2:s.trace.length<most)(aO:s.a8.length<=most)(hk:Led.kO s.a8)(h:∀aD aI,ab E 158 [ptr (X.bp j) 0,bx ((s.lets.length+1:Nat):Int),bk J M] (a1 X z.ap (z.ae++[ar]) j 0 k J M::bh X {z with b4:=aD,b5:=aI,ae:=(z.ae++[ar])} {s with lets:=s.lets++[l],a8:=dW s.a8 ((s.lets.length+1:Nat):Int) 1,trace:=s.trace++O7}) (cv X y)):ab E 213 za ((aa aK 314 [ptr p 0]::aa ar 187 (nn l)::aa V 32 [ptr X.h 0]::aa ay 4 [.bool false]::aa aL 259 [bk 164 [ptr x 0,ptr F 0]]::aa x 106 eE::aa F 1 [bk J M]::abx)++bh X z s) (cv X y):=by
 refine av Tryz.func213 λH D=>?_;haveI:=Ft (X:=X) (p:=p) (v:=((s.lets.length+1:Nat):Int));refine aee ?_;refine bu (l3 X z s (aan:bG) c2) ?_;refine l1 ?_;intro aD aI;refine bE ?_;refine cn rfl (oB rfl rfl (gv (I:=(a1 X z.ap z.ae j 0 k J M::ao lX::aa ar 187 (nn l)::ao nh::aa x 106 eE::aa F 1 [bk J M]::cp X iN {s with trace:=s.trace++O7}::di aD aI (s.trace++O7)::ZI)) (λD h g=>by
  have gT:Sat ([a1 X z.ap z.ae j 0 k J M,ao (cK X z.ap z.ae s.ax),aa ar 187 (nn l),ao (eB z.ae s.lets),aa x 106 [ptr (X.bp j) 0],aa F 1 [bk J M],cp X {z with b4:=aD,b5:=aI} {s with trace:=s.trace++[({Th.cz with kind:=2,id:=((s.lets.length+1:Nat):Int),cf:=l.cf,to:=l.to,name:=l.tag,n:=l.n,kF:=false}:bG)]},di aD aI (s.trace++[({Th.cz with kind:=2,id:=((s.lets.length+1:Nat):Int),cf:=l.cf,to:=l.to,name:=l.tag,n:=l.n,kF:=false}:bG)]),dX z.na z.dT s.notes,bs X.am .i64 (bD z.ap),ao (dI X z.ap s.aE),bs X.dL .u64 (ew (bD z.ae) ((s.lets.length+1:Nat):Int) (ptr ar 0)),Lg.cY X.ld (dW s.a8 ((s.lets.length+1:Nat):Int) 1),dz X.cF X.C.c6 s.dead,bz X.m s.L z.tt,eo X,ee X s.bm,dy X.bl X.m X.C.bl X.C.aT,ao (dd X),ef X,eL X,e7 X,eO X]++D) h:=(show∀h,Sat _ h->Sat ([a1 X z.ap z.ae j 0 k J M,ao (cK X z.ap z.ae s.ax),aa ar 187 (nn l),ao (eB z.ae s.lets),aa x 106 [ptr (X.bp j) 0],aa F 1 [bk J M],cp X {z with b4:=aD,b5:=aI} {s with trace:=s.trace++[({Th.cz with kind:=2,id:=((s.lets.length+1:Nat):Int),cf:=l.cf,to:=l.to,name:=l.tag,n:=l.n,kF:=false}:bG)]},di aD aI (s.trace++[({Th.cz with kind:=2,id:=((s.lets.length+1:Nat):Int),cf:=l.cf,to:=l.to,name:=l.tag,n:=l.n,kF:=false}:bG)]),dX z.na z.dT s.notes,bs X.am .i64 (bD z.ap),ao (dI X z.ap s.aE),bs X.dL .u64 (ew (bD z.ae) ((s.lets.length+1:Nat):Int) (ptr ar 0)),Lg.cY X.ld (dW s.a8 ((s.lets.length+1:Nat):Int) 1),dz X.cF X.C.c6 s.dead,bz X.m s.L z.tt,eo X,ee X s.bm,dy X.bl X.m X.C.bl X.C.aT,ao (dd X),ef X,eL X,e7 X,eO X]++D) h from(au)) h g;have L:=vq (X:=X) (j:=j) zl (xF (l:=z.ae) (q:=ar)) k 0 J M _ h gT;have z3:=Sat.tail (λh g=>Ls (X:=X) (ap:=z.ap) (ae:=z.ae) (O:=z.ap) (R:=(z.ae++[ar])) zl xF s.ax _ h g) L;have z4:=Sat.tail abm z3;rw[<-ajv aj.ae,show((s.lets.length+1:Nat):Int)=((z.ae.length+1:Nat):Int) by rw[aj.ae],OS]at z4;exact(show∀h,Sat _ h->Sat ([aa x 106 [ptr (X.bp j) 0],aa F 1 [bk J M],a1 X z.ap (z.ae++[ar]) j 0 k J M]++bh X {z with b4:=aD,b5:=aI,ae:=(z.ae++[ar])} {s with lets:=s.lets++[l],a8:=dW s.a8 ((s.lets.length+1:Nat):Int) 1,trace:=s.trace++[({Th.cz with kind:=2,id:=((s.lets.length+1:Nat):Int),cf:=l.cf,to:=l.to,name:=l.tag,n:=l.n,kF:=false}:bG)]}++D) h from by rw[show((z.ae.length+1:Nat):Int)=((s.lets.length+1:Nat):Int) by rw[aj.ae]];exact(au)) h z4) (aw4 X {z with b4:=aD,b5:=aI,ae:=(z.ae++[ar])} {s with lets:=s.lets++[l],a8:=dW s.a8 ((s.lets.length+1:Nat):Int) 1,trace:=s.trace++[({Th.cz with kind:=2,id:=((s.lets.length+1:Nat):Int),cf:=l.cf,to:=l.to,name:=l.tag,n:=l.n,kF:=false}:bG)]} j y J M k x F ((s.lets.length+1:Nat):Int) (h aD aI))) bN) ?_
 exact BS
def aw6(h:ab E 345 (ptr (X.bp j) 0::ptr q 0::bx v::PG) k8 (cv X y)):ab E 344 ([bx v]++[ptr x 0,ptr F 0,ptr ed 0,ptr N 0]) ([aa x 106 eE,aa F 110 [ptr q 0],aa ed 87 (fM e),aa N 1 [bk J M],a1 X z.ap z.ae j 0 k J M]++bh X z s) (cv X y):=by
 refine av Tryz.func344 λH D=>?_;exact aeu
def aw7(aj:bJ X z s)(d4:s.lets.length<most)(c2:s.trace.length<most)(aO:s.a8.length<=most)(hk:Led.kO s.a8)(h:∀aD aI,ab E 345 (ptr (X.bp j) 0::ptr q 0::bx ((s.lets.length+1:Nat):Int)::PG) (a1 X z.ap (z.ae++[ar]) j 0 k J M::bh X {z with b4:=aD,b5:=aI,ae:=(z.ae++[ar])} {s with lets:=s.lets++[l],a8:=dW s.a8 ((s.lets.length+1:Nat):Int) 1,trace:=s.trace++O8}) (cv X y)):ab E 213 za ((aa aK 314 [ptr p 0]::aa ar 187 (nn l)::aa V 32 [ptr X.h 0]::aa ay 4 [.bool true]::aa aL 259 [bk 344 [ptr x 0,ptr F 0,ptr ed 0,ptr N 0]]::aa x 106 eE::aa F 110 [ptr q 0]::aa ed 87 (fM e)::aa N 1 [bk J M]::abx)++bh X z s) (cv X y):=by
 refine av Tryz.func213 λH D=>?_;haveI:=Ft (X:=X) (p:=p) (v:=((s.lets.length+1:Nat):Int));refine aee ?_;refine bu (l3 X z s (aao:bG) c2) ?_;refine l1 ?_;intro aD aI;refine bE ?_;refine cn rfl (oB rfl rfl (gv (I:=(a1 X z.ap z.ae j 0 k J M::ao lX::aa ar 187 (nn l)::ao nh::aa x 106 eE::aa F 110 [ptr q 0]::aa ed 87 (fM e)::aa N 1 [bk J M]::cp X iN {s with trace:=s.trace++O8}::di aD aI (s.trace++O8)::ZI)) (λD h g=>by
  have gT:Sat ([a1 X z.ap z.ae j 0 k J M,ao (cK X z.ap z.ae s.ax),aa ar 187 (nn l),ao (eB z.ae s.lets),aa x 106 [ptr (X.bp j) 0],aa F 110 [ptr q 0],aa ed 87 (fM e),aa N 1 [bk J M],cp X {z with b4:=aD,b5:=aI} {s with trace:=s.trace++[({Th.cz with kind:=2,id:=((s.lets.length+1:Nat):Int),cf:=l.cf,to:=l.to,name:=l.tag,n:=l.n,kF:=true}:bG)]},di aD aI (s.trace++[({Th.cz with kind:=2,id:=((s.lets.length+1:Nat):Int),cf:=l.cf,to:=l.to,name:=l.tag,n:=l.n,kF:=true}:bG)]),dX z.na z.dT s.notes,bs X.am .i64 (bD z.ap),ao (dI X z.ap s.aE),bs X.dL .u64 (ew (bD z.ae) ((s.lets.length+1:Nat):Int) (ptr ar 0)),Lg.cY X.ld (dW s.a8 ((s.lets.length+1:Nat):Int) 1),dz X.cF X.C.c6 s.dead,bz X.m s.L z.tt,eo X,ee X s.bm,dy X.bl X.m X.C.bl X.C.aT,ao (dd X),ef X,eL X,e7 X,eO X]++D) h:=(show∀h,Sat _ h->Sat ([a1 X z.ap z.ae j 0 k J M,ao (cK X z.ap z.ae s.ax),aa ar 187 (nn l),ao (eB z.ae s.lets),aa x 106 [ptr (X.bp j) 0],aa F 110 [ptr q 0],aa ed 87 (fM e),aa N 1 [bk J M],cp X {z with b4:=aD,b5:=aI} {s with trace:=s.trace++[({Th.cz with kind:=2,id:=((s.lets.length+1:Nat):Int),cf:=l.cf,to:=l.to,name:=l.tag,n:=l.n,kF:=true}:bG)]},di aD aI (s.trace++[({Th.cz with kind:=2,id:=((s.lets.length+1:Nat):Int),cf:=l.cf,to:=l.to,name:=l.tag,n:=l.n,kF:=true}:bG)]),dX z.na z.dT s.notes,bs X.am .i64 (bD z.ap),ao (dI X z.ap s.aE),bs X.dL .u64 (ew (bD z.ae) ((s.lets.length+1:Nat):Int) (ptr ar 0)),Lg.cY X.ld (dW s.a8 ((s.lets.length+1:Nat):Int) 1),dz X.cF X.C.c6 s.dead,bz X.m s.L z.tt,eo X,ee X s.bm,dy X.bl X.m X.C.bl X.C.aT,ao (dd X),ef X,eL X,e7 X,eO X]++D) h from(au)) h g;have L:=vq (X:=X) (j:=j) zl (xF (l:=z.ae) (q:=ar)) k 0 J M _ h gT;have z3:=Sat.tail (λh g=>Ls (X:=X) (ap:=z.ap) (ae:=z.ae) (O:=z.ap) (R:=(z.ae++[ar])) zl xF s.ax _ h g) L;have z4:=Sat.tail abm z3;rw[<-ajv aj.ae,show((s.lets.length+1:Nat):Int)=((z.ae.length+1:Nat):Int) by rw[aj.ae],OS]at z4;exact(show∀h,Sat _ h->Sat ([aa x 106 [ptr (X.bp j) 0],aa F 110 [ptr q 0],aa ed 87 (fM e),aa N 1 [bk J M],a1 X z.ap (z.ae++[ar]) j 0 k J M]++bh X {z with b4:=aD,b5:=aI,ae:=(z.ae++[ar])} {s with lets:=s.lets++[l],a8:=dW s.a8 ((s.lets.length+1:Nat):Int) 1,trace:=s.trace++[({Th.cz with kind:=2,id:=((s.lets.length+1:Nat):Int),cf:=l.cf,to:=l.to,name:=l.tag,n:=l.n,kF:=true}:bG)]}++D) h from by rw[show((z.ae.length+1:Nat):Int)=((s.lets.length+1:Nat):Int) by rw[aj.ae]];exact(au)) h z4) (aw6 X {z with b4:=aD,b5:=aI,ae:=(z.ae++[ar])} {s with lets:=s.lets++[l],a8:=dW s.a8 ((s.lets.length+1:Nat):Int) 1,trace:=s.trace++[({Th.cz with kind:=2,id:=((s.lets.length+1:Nat):Int),cf:=l.cf,to:=l.to,name:=l.tag,n:=l.n,kF:=true}:bG)]} j y J M k q x F ed N e ((s.lets.length+1:Nat):Int) (h aD aI))) bN) ?_
 exact BS
end
section
variable(X:cO)(z:dw)(s:aq)(j i n R d2 d5 cq d6 aK ar V J:Nat)(M:List Value)(k:Th.K)(a q:Nat)(x:bU)(y:Option aq)
def aw8(ea:Option Addr)(cZ:Nat)(ids:List Int)(v:Int)(Z:ids[i]?=some v)(l:0<=v)(t:b0)(aj:bJ X z s)(O:s.ax[j]?=some t)(U:t.on=none):ab E 346 abK ((aa R 3 [af i]::aa d2 188 rm::aa d5 3 [af n]::aa cq 255 [bk 346 lY]::aa d6 1 [bk J M]::aaB)++bh X z s) (cv X (some {s with ax:=s.ax.set j {t with on:=some (.ey (rU v),.each (.cancel ids) i n k)}})):=by
 refine av Tryz.func346 λH D=>?_;have B:=(dp.1 Z).1;refine h0 [9,12] [9] [(0,.bL),(1,.loc),(2,.loc),(3,.loc),(4,.loc),(5,.loc),(6,.loc),(7,.loc),(8,.loc),(11,.bL),(9,.da),(10,.loc),(12,.da)] [aa aK 106 eE,aa ar 32 [ptr X.h 0],aa V 49 [ul ea cZ ids],fH ea cZ ids,cp X z s] mixed hM ?_;refine ct ?_;refine adi ?_;refine bu (au4 X s.bm v l) ?_;refine oi ?_;intro p;refine go_v rfl .none rfl Jj ?_;refine aU (iA (a1.eq_34 ..) (R,d2,d5,cq,d6,aK,ar,V,J,M,ea,cZ) ⟨rfl,rfl⟩ (jN X z.ap z.ae s.ax j p 208 sp t (.ey (rU v)) (.each (.cancel ids) i n k) O U)) ?_;exact ac3
def aw9(V J:Nat)(M:List Value)(k:Th.K)(ea:Option Addr)(cZ:Nat)(due:List Int)(v:Int)(y:Option aq)(Z:due[i]?=some v)(h:ab E 158 [ptr (X.bp j) 0,bx v,bk 208 sp] (a1 X z.ap z.ae j 0 (.each (.leave due) i n k) 208 sp::bh X z s) (cv X y)):ab E 157 PJ ((aa R 3 [af i]::aa d2 188 rm::aa d5 3 [af n]::aa cq 255 [bk 157 tE]::aa d6 1 [bk J M]::aa4)++bh X z s) (cv X y):=by
 refine av Tryz.func157 λH D=>?_;have B:=(dp.1 Z).1;refine cw [] [6,201] [aa aK 106 eE,aa ar 49 [ul ea cZ due],fH ea cZ due] ?_;refine b2 ?_;refine adi ?_;refine bu (iA (a1.eq_35 ..) (R,d2,d5,cq,d6,aK,ar,J,M,ea,cZ) cj h) ?_;refine pe ?_;exact pd
def axa(B:At X z.ap s.aE a q x)(ak:i<4611686018427387904)(ai:i+1=x.id)(aY:hr X j z s Qc 208 sp y):ab E 403 PJ ZT (cv X y):=by
 refine av Tryz.func403 λH D=>?_;haveI:=B.vJ;refine adR ?_;refine bj ?_;refine bu (iA (a1.eq_33 ..) (R,d2,d5,cq,d6,aK,ar,V,q,J,M) ⟨rfl,rfl,B.ap,rfl⟩ aY.spec) ?_;exact zw
def axb(B:At X z.ap s.aE a q x)(ak:i<4611686018427387904)(ai:¬i+1=x.id)(h:ab E 395 [ptr (X.bp j) 0,af (i+1:Nat),af x.id,bk 208 sp] (a1 X z.ap z.ae j 0 Qc 208 sp::bh X z s) (cv X y)):ab E 403 PJ ZT (cv X y):=by
 refine av Tryz.func403 λH D=>?_;haveI:=B.vJ;refine adR ?_;refine bE ?_;refine cw [] [8,201] [aa aK 110 [ptr q 0],aa ar 106 eE,aa V 1 [bk J M],ao j5] ?_;refine bb ?_;refine go_v rfl .none rfl (fy (((i+1:Nat):Int)) ff rfl rfl) ?_;refine bE ?_;refine bu (iA (a1.eq_33 ..) (R,d2,d5,cq,d6,aK,ar,V,q,J,M) ⟨rfl,rfl,B.ap,rfl⟩ h) ?_;refine pe ?_;exact pd
end
section
variable(X:cO)(z:dw)(s:aq)(j a q p:Nat)(x:bU)(e:hS)(m:dn)(az:hx)(y:Option aq)(J:Nat)(M:List Value)(k:Th.K)(aK ar V ay aL aR:Nat)
def asb{x:Int}(h:0<=x/\x<=18446744073709551615):IntKind.i64.wrap x=Th.qH x:=by
 unfold IntKind.wrap Th.qH;simp[IntKind.bits,IntKind.signed];omega
def axc(hp:az.out=0->az.val=0)(Z:0<=az.val/\az.val<=18446744073709551615)(aA:∀p∈x.given,p.2.length<1099511627776)(T:qz pQ pR (dY x.given m.who) wX=0)(h:ab E 300 [ptr (X.bp j) 0,ptr q 0,.agg (iz m).toArray,af 3,bk J M] iM (cv X y)):ab E 302 sm Z5 (cv X y):=by
 refine afV ?_;intro H D d ip;rw[show zz (min (max e.bI.limit 0) 100) (min (max e.bI.within 1) 4095) x.given m.who (Th.qH az.val)=x.given from by simp[zz,T]];refine aG ?_;refine go_v rfl .none rfl (fS (c:=true) (by simp[T]) (ql rfl)) ?_;refine fB ?_;exact vj
def axd(hp:az.out=0->az.val=0)(Z:0<=az.val/\az.val<=18446744073709551615)(aA:∀p∈x.given,p.2.length<1099511627776)(T:¬qz pQ pR (dY x.given m.who) wX=0)(h:ab E 300 [ptr (X.bp j) 0,ptr q 0,.agg (iz m).toArray,af 2,bk J M] (a1 X z.ap z.ae j 0 k J M::gM X z s a q {x with given:=zz pQ pR x.given m.who wX} e) (cv X y)):ab E 302 sm Z5 (cv X y):=by
 refine afV ?_;intro H D d ip;refine aG ?_;refine go_v rfl .none rfl (fS (c:=false) (by simp[T]) (ql rfl)) ?_;exact aeI
end
section
variable{P:Program}{f:FuncId}{args:List Value}
def xG{bv:Type}{p:bv->Prop}{A:bv->List al}{a2:List al}{post:Value->List al->Prop}(h:∀i,p i->ab P f args (A i++a2) post):ab P f args (dq p A::a2) post:=λH D w s=>by
 obtain⟨i,ak,F⟩:=ha s.fg;exact h i ak H D w ⟨s.os,s.tape,s.output,s.size,by rw[jI];exact F⟩
def ax0{A B:al}{a2:List al}{post:Value->List al->Prop}(h1:ab P f args (A::a2) post)(h2:ab P f args (B::a2) post):ab P f args (EX A B::a2) post:=λH D w s=>by
 rcases R3 s.fg with F|F
 . exact h1 H D w ⟨s.os,s.tape,s.output,s.size,F⟩
 . exact h2 H D w ⟨s.os,s.tape,s.output,s.size,F⟩
end
section
variable{X:cO}{ap ae:List Nat}{j p f:Nat}{k:Th.K}{c:List Value}{a2:List al}{post:Value->List al->Prop}
def iZ{bv:Type}{fO:bv->Prop}{l:bv->List al}{a2:List al}{post:Value->List al->Prop}(e:a1 X ap ae j p k f c=dq fO l)(h:∀x,fO x->ab E f c (l x++a2) post):ab E f c (a1 X ap ae j p k f c::a2) post:=by
 rw[e];exact xG h
def ax1{a:Nat}{k:Th.K}{a2:List al}{post:Value->List al->Prop}(bi:∀(aK:Nat) (ar:Nat) (V:Nat) (z:Nat) (J:Nat) (M:List Value),ap[a -1]?=some z->ab E 297 lY aaW post)(h1:∀(aK:Nat) (ar:Nat) (V:Nat) (z:Nat) (J:Nat) (M:List Value),ap[a -1]?=some z->ab E 244 lY aaW post):ab E f c (a1 X ap ae j p tK f c::a2) post:=by
 rw[a1];exact ax0 (xG (fun⟨aK,ar,V,z,J,M⟩ ⟨ba,a6,g⟩=>by subst ba;subst a6;exact bi aK ar V z J M g)) (xG (fun⟨aK,ar,V,z,J,M⟩ ⟨ba,a6,g⟩=>by subst ba;subst a6;exact h1 aK ar V z J M g))
def ax2(h:∀f:Nat,(f=235\/f=289\/f=168\/f=94\/f=159)->ab E f [] a2 post):ab E f c (a1 X ap ae j p .nil f c::a2) post:=by
 rw[a1];exact xG (λ_ ⟨ba,a6⟩=>by subst a6;exact h f ba)
theorem Te(k:Th.K)(p f:Nat)(c:List Value)(D:List al)(h:eQ)(s:Sat (a1 X ap ae j p k f c::D) h):fb E f:=by
 unfold a1 at s;split at s
 all_goals first
  |(obtain⟨_,⟨rfl,_⟩,_⟩:=ha s;exact fl)
  |(obtain⟨_,⟨ba,_⟩,_⟩:=ha s;rcases ba with rfl|rfl|rfl|rfl|rfl<;>exact fl)
  |(rcases R3 s with s|s<;>(obtain⟨_,⟨rfl,_⟩,_⟩:=ha s;exact fl))
  |(obtain⟨_,h,_⟩:=ha s;exact False.elim h)
def ub{J f:Nat}{k:Th.K}{M args:List Value}{a2:List al}{post:Value->List al->Prop}(h:fb E J->ab E f args Ju post):ab E f args Ju post:=λH D w s=>h (Te k p J M _ _ s.fg) H D w s
end
section
variable{P:Program}{f:FuncId}{args:List Value}{A:al}{X:cO}{j:Nat}{z:dw}{s y:aq}{J:Nat}{M:List Value}{k:Th.K}{g:aq->b3->Th.K->Option aq}{a q b:Nat}{x:bU}{id:Int}{e:hS}{post:Value->List al->Prop}
def jO{M J:List al}{Q post:Value->List al->Prop}(a:List al)(h:ab P f args M Q)(i:∀h,Sat J h->Sat (M++a) h)(g:∀u I,Q u I->∃c,post u c/\∀h,Sat (I++a) h->Sat c h):ab P f args J post:=λH D w s=>
 (h H (a++D) w abY).mono λ_ _ ⟨v,I,e,p,s⟩=>let⟨c,S,R⟩:=g v I p;abv
def hv(X:cO)(j:Nat)(g:aq->b3->Th.K->Option aq):Prop:=∀(z:dw) (s:aq) (k:Th.K) (y:aq) (J:Nat) (M:List Value),bJ X z s->g s Th.dN k=some y->ab E J M (a1 X z.ap z.ae j 0 k J M::bh X z s) (cv X (some y))
def At.of{j a:Nat}{x:bU}(aj:bJ X z s)(cc:cS X.C j s)(h:Th.dM s a=some x):∃q,At X z.ap s.aE a q x:=by
 obtain⟨h1,B⟩:=cc.aE a x h;unfold Th.dM at h;rw[bg h1]at h;have d4:=(dp.1 h).1;exact⟨_,cD (show a -1<z.ap.length by rw[aj.ap];exact d4),h,B.id,h1,by have:=cc.na;omega⟩
def At.dM{X:cO}{ap:List Nat}{s:aq}{a q:Nat}{x:bU}(h:At X ap s.aE a q x):Th.dM s a=some x:=by
 unfold Th.dM;rw[bg h.aX.1];exact h.ah
def At.p0{ap:List Nat}{s:aq}{j a q:Nat}{x:bU}(h:At X ap s.aE a q x)(cc:cS X.C j s):fp a x:=(cc.aE a x h.dM).2
def Ct{g9 x:bU}{e:hS}{post:Value->List al->Prop}(B:At X z.ap s.aE a q g9)(Y:fX x e)(h:ab P f args (A::bh X z sv) post):ab P f args (A::gM X z s a q x e) post:=
 gv (λD h t=>Sat.tail (λh t=>jk B Y D h t) t) h
def vD(B:At X z.ap s.aE a q x)(Y:fX x e)(h:ab P f args (A::bh X z s) post):ab P f args (A::gM X z s a q x e) post:=
 Ct B Y (by rw[sw B];exact h)
def ax3(B:At X z.ap s.aE a q x)(Y:fX x e)(h:ab P f args (bh X z s) post):ab P f args vc post:=
 gv (λD h t=>by have:=jk B Y D h t;rw[sw B]at this;exact this) h
def ax4(B:At X z.ap s.aE a q x)(h:∀e,fX x e->ab P f args vc post):ab P f args (bh X z s) post:=by
 have h2:ab P f args (eJ::bh X z s) post:=qK B λe Y=>gv (λD h t=>Sat.drop t) (h e Y);exact gv (λD h t=>xY h t) h2
def Fu{p b a:Nat}{Y:gz}(N:X.C.ok)(C:hv X j g)(aj:bJ X z s)(aX:a<=X.C.aT)(aS:Th.c9 k)(ag:Th.pr X.C g j s kG a k=some y):ab E 167 [ptr (X.bp j) 0,ptr p 0,af a,bk J M] ab4 eg:=by
 refine ub λba=>?_;simp only[Th.pr]at ag;split at ag
 . rename_i h
   obtain⟨t,O,U,rfl⟩:=Th.j6 ag;by_cases l:Y.out=7
   . refine av Tryz.func167 λH D=>?_
     haveI:=gn (X:=X) (ap:=z.ap) (ae:=z.ae) O;haveI:=sy (X:=X) (ap:=z.ap) (ae:=z.ae) O;have n:=N.hd;refine BO ?_;refine cP ?_;refine c4 ?_;exact afS
   . have h:Y.out=8:=ad
     refine av Tryz.func167 λH D=>?_;haveI:=gn (X:=X) (ap:=z.ap) (ae:=z.ae) O;haveI:=sy (X:=X) (ap:=z.ap) (ae:=z.ae) O;have n:=N.hd;refine ae0 ?_;refine bE ?_;exact afS
 . rename_i h
   have l:¬Y.out=7:=ad;have c:¬Y.out=8:=ad;have aY:hr X j z s k J M (some y):=ss;refine av Tryz.func167 λH D=>?_;haveI:=aY.iY;refine ae0 ?_;refine bQ ?_;refine bu (aY.spec) ?_;exact Kg
def Tf{l:c0}(aj:bJ X z s)(ag:Th.B9 j s l k=some y):ab E 93 [ptr (X.bp j) 0,.agg (nn l).toArray,bk J M] k8 eg:=by
 obtain⟨t,O,U,rfl⟩:=Th.j6 ag;exact jO OZ (au2 X z s j t l J M k O U) au (λu I q=>by
  obtain⟨rfl,rfl⟩:=q;exact⟨bh X z abL,⟨rfl,z,abL,rfl,kg,rfl⟩,au⟩)
def ajH(N:X.C.ok)(aj:bJ X z s)(ag:Th.xw X.C j s a b k=some y):ab E 395 [ptr (X.bp j) 0,af a,af b,bk J M] k8 eg:=by
 unfold Th.xw at ag;split at ag
 . rename_i a6
   obtain⟨t,O,U,rfl⟩:=Th.j6 ag;exact jO (di z.b4 z.b5 s.trace::dX z.na z.dT s.notes::bs X.am .i64 (bD z.ap)::ao j5::bs X.dL .u64 (bD z.ae)::ao nh::Lg.cY X.ld s.a8::dz X.cF X.C.c6 s.dead::bz X.m s.L z.tt::eo X::ee X s.bm::ao (dd X)::ef X::IM) (auZ X z s j t a b J M k N ⟨a6.1,a6.2.1⟩ ⟨a6.2.2.1,a6.2.2.2⟩ O U) au (λu I q=>by
    obtain⟨rfl,rfl⟩:=q;exact⟨bh X z aaO,⟨rfl,z,aaO,rfl,kg,rfl⟩,au⟩)
 . cases ag
theorem ax5{e:fF}(aj:bJ X z s)(bt:z.ap[a -1]?=some q)(cy:0<=id)(ag:Th.K6 j s a id e k=some y):ab E 345 abX k8 eg:=by
 obtain⟨t,O,U,rfl⟩:=Th.j6 ag;exact jO (di z.b4 z.b5 s.trace::dX z.na z.dT s.notes::bs X.am .i64 (bD z.ap)::ao j5::bs X.dL .u64 (bD z.ae)::ao nh::Lg.cY X.ld s.a8::dz X.cF X.C.c6 s.dead::bz X.m s.L z.tt::eo X::aam) (au5 X z s j t a q id e J M k bt cy O U) au (λu I q=>by
  obtain⟨rfl,rfl⟩:=q;exact⟨bh X z aa9,⟨rfl,z,aa9,rfl,kg,rfl⟩,au⟩)
def ajI(aj:bJ X z s)(cc:cS X.C j s)(B:At X z.ap s.aE a q x)(ag:Th.zN j s a=some y):ab E 232 qq (bh X z s) eg:=by
 obtain⟨t0,i,hO⟩:=cc.jX;simp only[Th.zN,B.dM,bind,Option.bind]at ag;split at ag
 . rename_i bf
   cases ag;exact jO OV (au6 X z s j t0 a q x B bf) au (λu I q=>by
    obtain⟨rfl,rfl⟩:=q;exact⟨bh X z s,⟨rfl,z,s,rfl,aj,rfl⟩,au⟩)
 . rename_i bf
   obtain⟨t,O,U,rfl⟩:=Th.j6 ag;exact jO IH (au7 X z s j t a q x B bf O U) au (λu I q=>by
    obtain⟨rfl,rfl⟩:=q;exact⟨bh X z aaS,⟨rfl,z,aaS,rfl,kg,rfl⟩,au⟩)
def ajJ(aj:bJ X z s)(B:At X z.ap s.aE a q x)(ag:Th.Cb j s a=some y):ab E 139 qq (bh X z s) eg:=by
 obtain⟨t,O,U,rfl⟩:=Th.j6 ag;exact jO IH (auS X z.ap z.ae s.aE s.ax j a q x t B O U) au (λu I q=>by
  obtain⟨rfl,rfl⟩:=q;exact⟨bh X z abA,⟨rfl,z,abA,rfl,kg,rfl⟩,au⟩)
def ari(aj:bJ X z s)(B:At X z.ap s.aE a q x)(ag:Th.hs j s (.post a (Th.mA 2)) (.run a)=some y):ab E 84 qq (bh X z s) eg:=by
 obtain⟨t,O,U,rfl⟩:=Th.j6 ag;exact jO IH (auT X z.ap z.ae s.aE s.ax j a q x t B O U) au (λu I q=>by
  obtain⟨rfl,rfl⟩:=q;exact⟨bh X z aby,⟨rfl,z,aby,rfl,kg,rfl⟩,au⟩)
def Tg(aj:bJ X z s)(B:At X z.ap s.aE a q x)(ag:Th.hs j s EA (.lc a k)=some y):ab E 360 lB k8 eg:=by
 obtain⟨t,O,U,rfl⟩:=Th.j6 ag;exact jO IH (awc X z s j t a q x B J M k O U) au (λu I q=>by
  obtain⟨rfl,rfl⟩:=q;exact⟨bh X z abu,⟨rfl,z,abu,rfl,kg,rfl⟩,au⟩)
def ax6{slot:Nat}{kind:cG}(aj:bJ X z s)(bt:z.ap[a -1]?=some q)(ag:Th.hs j s (.add 1 1) (.mF a kind slot k)=some y):ab E 343 [ptr (X.bp j) 0,ptr q 0,af slot,S kind,bk J M] k8 eg:=by
 obtain⟨t,O,U,rfl⟩:=Th.j6 ag;exact jO OZ (au3 X z s j t a q slot kind J M k bt O U) au (λu I q=>by
  obtain⟨rfl,rfl⟩:=q;exact⟨bh X z abo,⟨rfl,z,abo,rfl,kg,rfl⟩,au⟩)
theorem ajK(N:X.C.ok)(C:hv X j g)(aj:bJ X z s)(cc:cS X.C j s)(ag:Th.tY X.C g j s id k=some y):ab E 158 [ptr (X.bp j) 0,bx id,bk J M] k8 eg:=by
 refine ub λba=>?_;obtain⟨t0,i,hO⟩:=cc.jX;unfold Th.tY at ag;cases aw:Th.kk s id with
 |none=>rw[aw]at ag;cases ag
 |
  some l=>
  rw[aw]at ag;simp only[bind,Option.bind]at ag;obtain⟨q,K⟩:=hG.of aj aw;split at ag
  . rename_i bi
    cases hk:Th.kill id 3 s with
    |none=>rw[hk]at ag;cases ag
    |
     some s1=>
     rw[hk]at ag;obtain⟨g6,W,aS,c2,_,rfl⟩:=Th.Cf hk;obtain rfl:l=g6:=by rw[aw]at W;cases W;rfl
     have aF:X.C.c6<=64:=N.sQ;have aO:s.a8.length<=most:=cc.l9;have aY:∀cl,bJ X cl (ki s id l.to 3)->hr X j cl (ki s id l.to 3) k J M (some y):=(λcl e8=>⟨ba,C cl _ k y J M e8 ag⟩);refine av Tryz.func158 λH D=>?_;haveI:=gn (X:=X) (ap:=z.ap) (ae:=z.ae) i;haveI:=K.rd (bY:=1) (v:=af l.to) rfl;refine bb ?_;refine wn λay=>?_;refine wn λaL=>?_;refine wn λaR=>?_;refine b2 ?_;refine iu [16,17,18,19] [16,17,18] aaX aap ?_;refine dB ?_;refine jJ rfl .none rfl Qi (au) ?_;refine b2 ?_;refine fm ?_ ?_
     ·
      refine wn λaM=>?_;refine aG ?_;refine wn λbV=>?_;refine cB ?_;refine cP ?_;refine ct ?_;refine cn rfl aco ?_;rintro _ D ⟨_,⟨rfl,a,c,rfl⟩,rfl⟩
      try simp only[ck,ci]
      haveI:=(aY Bu kg).iY;refine bE ?_;refine bu abI ?_;rintro _ _ ⟨rfl,cl,aW,ah,e8,rfl⟩;refine eM ?_;refine bE ?_;exact aQ BG
     ·
      refine wn λbV=>?_;refine aG ?_;refine wn λaM=>?_;refine cB ?_;refine cP ?_;refine ct ?_;refine cn rfl aco ?_;rintro _ D ⟨_,⟨rfl,a,c,rfl⟩,rfl⟩
      try simp only[ck,ci]
      haveI:=(aY Bu kg).iY;refine bE ?_;refine bu abI ?_;rintro _ _ ⟨rfl,cl,aW,ah,e8,rfl⟩;refine eM ?_;refine bE ?_;exact aQ BG
  . split at ag
    . rename_i n7
      obtain⟨t,O,U,rfl⟩:=Th.j6 ag;exact jO (di z.b4 z.b5 s.trace::dX z.na z.dT s.notes::bs X.am .i64 (bD z.ap)::ao j5::Z7) (au8 X z s j t id q l K J M k n7 N.hd O U) au (λu I q=>by
    obtain⟨rfl,rfl⟩:=q;exact⟨bh X z aa2,⟨rfl,z,aa2,rfl,kg,rfl⟩,au⟩)
    . cases ag
def ax7{who:Nat}{x:bU}(N:X.C.ok)(aj:bJ X z s)(B:At X z.ap s.aE a q x)(ag:Th.Cd X.C j s a who k=some y):ab E 348 [ptr (X.bp j) 0,ptr q 0,af who,bk J M] k8 eg:=by
 obtain rfl:a=x.id:=B.cy.symm;simp only[Th.Cd,B.dM,bind,Option.bind]at ag;split at ag
 . rename_i R
   obtain⟨t,O,U,rfl⟩:=Th.j6 ag;refine qK B λe Y=>?_;have h2:=awr X z s j t x.id q x e aj B Y J M k who N R O U;exact h2
 . cases ag
def Ti(N:X.C.ok)(C:hv X j g)(aj:bJ X z s)(cc:cS X.C j s)(B:At X z.ap s.aE a q x)(ag:Th.sO X.C g j s a k=some y):ab E 241 lB k8 eg:=by
 refine ub λba=>?_;obtain⟨t0,i,hO⟩:=cc.jX;have R:=B.p0 cc;simp only[Th.sO,B.dM,bind,Option.bind]at ag;refine qK B λe Y=>?_;split at ag
 . rename_i bf
   by_cases bA:x.mode=4
   . exact av9 X z s j t0 a q x e aj B Y J M k (some y) bA ss
   . exact awa X z s j t0 a q x e aj B Y J M k (some y) ad ss
 . rename_i bf
   cases U:Th.iR (Pv:bG) (Th.c8 s a Bq)with
   |none=>rw[U]at ag;cases ag
   |
    some s1=>
    rw[U]at ag;obtain⟨c2,rfl⟩:=Th.l8 U;replace c2:s.trace.length<most:=c2;refine awb X z s j t0 a q x e aj B Y J M k (some y) N cc.notes c2 i hO (xh R.kids) ad ad (λaD aI cs bi=>?_) (λv Z=>?_)
    . rcases Th.Cg ag with⟨_,ag⟩|⟨b,t,h1,_⟩
      . exact⟨fl,C _ _ _ y _ cs ⟨aj.gk,aj.fY,aj.fZ,by show _=(s.aE.set _ _).length;rw[gr];exact aj.ap,aj.ae⟩ ag⟩
      . exfalso;omega
    . rcases Th.Cg ag with⟨bi,ag⟩|⟨b,t,h1,h2,aN,bA,d3,rfl⟩
      . exfalso;have:=(dp.1 Z).1;omega
      . rw[Z]at h2;cases h2
        replace bA:s.ax[j]?=some t:=bA;rw[i]at bA;cases bA;exact⟨b,rfl,aN,rfl⟩
def Tj{reason:cG}(N:X.C.ok)(C:hv X j g)(aj:bJ X z s)(cc:cS X.C j s)(B:At X z.ap s.aE a q x)(ag:Th.tZ X.C g j s a reason k=some y):ab E 296 I6 k8 eg:=by
 obtain rfl:a=x.id:=B.cy.symm;obtain⟨t0,i,hO⟩:=cc.jX;have R:=B.p0 cc;simp only[Th.tZ,B.dM,bind,Option.bind]at ag;cases U:Th.iR (Pn:bG) (Th.c8 s x.id su)with
 |none=>rw[U]at ag;cases ag
 |
  some s1=>
  rw[U]at ag;obtain⟨c2,rfl⟩:=Th.l8 U;replace c2:s.trace.length<most:=c2;simp only at ag;refine qK B λe Y=>?_;split at ag
  . rename_i bi
    refine awe X z s j t0 x.id q x e aj B Y J M k (some y) reason bi (λaD aI=>?_) c2 i hO;refine Ct (x:={x with mode:=2}) (B:At X _ _ x.id q x) ⟨Y.bI,Y.kj,Y.es⟩ ?_;have F:cS X.C j (Th.c8 Bs x.id su):=(cc.Ad (aW:=Bs) rfl Th.dZ.same rfl rfl rfl Bn cc.nr.2).set (x:=su) B.aX.1 ⟨R.id,R.kids,R.qI⟩;exact Ti (z:=iN) (s:=Th.c8 Bs x.id su) (x:=su) N C ⟨aj.gk,aj.fY,aj.fZ,by show _=(s.aE.set _ _).length;rw[gr];exact aj.ap,aj.ae⟩ F (At.set (n:=su) B rfl) ag
  . rename_i bi
    obtain⟨aO,d,t,O,b,rfl⟩:=Th.zS ag;replace O:s.ax[j]?=some t:=O;have h2:=awf X z s j t x.id q x e aj B Y J M k none reason bi N aO d c2 O b;exact h2
end
end Go.Proofs.YtnnhpnccfnghdaaGreat.L.bM
namespace Go.L
open Go
section
variable{P:Program}{H w:World}{n:Nat}{J:e6}{M:List al}{bH:TypeId}
section
variable{t e:TypeId}{len:Nat}{x:Operand}
def alw{V:List Value}(h1:P.underlying t=some (.array len e))(aN:∃i,P.info? e=some i)[i:e9 P t V]:b1 P H n (.build t #[]) bH J M (.agg V.toArray):=λa w d pos N g ai _=>by
 obtain⟨z,F,W,cU,em⟩:=i.out;obtain⟨b,cR⟩:=aN;simp only[execOp,Instr.build];simp[vQ W cU,gG h1,jP cR,em,Instr.fill]
def L2{b o len aZ:Nat}(h1:P.underlying t=some (.array len e))(aN:∃i,P.info? e=some i/\i.size=aZ)(ah:cm J x=some (ptr b o)):b1 P H n (.slice t x none none none) bH J M (.slice (some ⟨b,o,none⟩) len len):=λaD w d pos N g ai _=>by
 obtain⟨z,W,cU⟩:=aN;simp only[execOp,Ga,ai.eval ah];simp[Instr.sliceAt,gG h1,jP W,Instr.sureAddr,asAddr,Instr.sliceBounds,Instr.sliceBound,asIntOf,Addr.add]
theorem Ug{y:Operand}{F:Value}{r:Nat}{k:lj}{m:List x1}{u:List x1->List al}(v:Value)[i:CM P t F][j:ug r M m u](Z:(uh m k).getD F=v)(h:cm J x=some vR)(ag:cm J y=some (ow k)):
 b1 P H n (.lookup t x y false) bH J M v:=Z▸alx (i:=i) (j:=j) h ag
end
end
section
variable{P:Program}{E:Array Oper}{c5 U:List Nat}{F:Act->World->Prop}{C:World->Prop}
variable{H:World}{n:Nat}{J:e6}{M I O:List al}{Q:Exit->Act->World->Prop}{op:Op}{bH:TypeId}{pos:String}{N:Array Edge}{g:Option (Nat×Bool)}{i:Nat}{V:List (Nat×mL)}
def go_n0{p:Value->List al->Prop}(aJ:E[i]?=some L3)(R:hZ E J g true)(Z:c7 P H n op bH J M p)(h:∀v I,p v I->CN/\c3 P H n E U V J I O F):c3 P H n E U ((i,.da)::V) J M O F:=
 λa w ai s=>by
  obtain⟨v,I,X,aF,hp,aW⟩:=Z a w none pos N g ai s;simp only[ox,aJ,hZ.wanted (o:=⟨none,op,bH,pos,N,g⟩) R ai,fu,Oper.wp,aF,Oper.upon];exact⟨λC=>aW.imp CO,(h v I hp).2 _ _ ai aW⟩
end
end Go.L
namespace Go.Proofs.YtnnhpnccfnghdaaGreat.L.bM
open Go.Proofs.YtnnhpnccfnghdaaGreat.L
open Go.L Go.L.Ring Go.L.dD Go.L.ej Go.L.Whl Go.L.dP Go.L.Lx Go.L.Pg
open Go.L.Led (du dH dW bm aw fo)
open Go.L.Th (bO c0 dn bG dE bU b3 e4 b0 aq most dY cS fp eR dZ In cX c9 eS bB bP eT eU bn cI dF go bo Good ei eV ec acc Inv eG e5 fj busy dA eC eh fr)
attribute[local irreducible] G cJ GE c3 GT b1 dk c7 ds Exit.then Exit.inBlock
section
variable(l:List Int)(X:cO){k Y:cr}(z:dw)(s:aq)(j:Nat)(t:b0)(a q:Nat)(x:bU)(e:hS)(m:dn)
def ajw(k:cr)(st tag:cG)(n:Int):Th.rowOf (dQ k) st tag n=(Th.rowOf k st tag n).map mK:=by
 unfold Th.rowOf;show((k.states.map jm).find? _).bind _=_;rw[List.find?_map];have e:((λs:fU=>decide (s.name=st))∘jm)=λs=>decide (s.name=st):=rfl;rw[e];cases k.states.find? (λs=>decide (s.name=st))with
 |none=>rfl
 |
  some s=>
  show((s.rows.map mK).find? (Th.p1 tag n))=((s.rows.find? (Th.p1 tag n)).map mK);rw[List.find?_map];rfl
def axe(h:dQ k=dQ Y)(st tag:cG)(n:Int):Th.kU k st tag n=Th.kU Y st tag n:=by
 have e:(Th.rowOf k st tag n).map mK=(Th.rowOf Y st tag n).map mK:=by rw[<-ajw,<-ajw,h]
 unfold Th.kU;cases h1:Th.rowOf k st tag n with
 |
  none=>
  cases h2:Th.rowOf Y st tag n with
  |none=>rfl
  |some m=>rw[h1,h2]at e;cases e
 |
  some r=>
  cases h2:Th.rowOf Y st tag n with
  |none=>rw[h1,h2]at e;cases e
  |
   some m=>
   rw[h1,h2]at e;simp only[nD,Option.some.injEq]at e;have aV:(mK r).cx=(mK m).cx:=congrArg Row.cx e;replace aV:r.cx=m.cx:=aV;simp only[aV]
def axf(h:dQ k=dQ Y)(r:cG):Th.direct k r=Th.direct Y r:=by
 have e:k.cases=Y.cases:=(congrArg cr.cases h:(dQ k).cases=(dQ Y).cases);unfold Th.direct;rw[e]
def ajx(h:dQ k=dQ Y):k.limit=Y.limit/\k.within=Y.within/\k.name=Y.name:=
 ⟨(congrArg cr.limit h:(dQ k).limit=(dQ Y).limit),(congrArg cr.within h:(dQ k).within=(dQ Y).within),(congrArg cr.name h:(dQ k).name=(dQ Y).name)⟩
def S6(h:dQ k=dQ Y){st:fU}(ai:Y.states[0]?=some st):∃b,k.states[0]?=some b/\b.name=st.name:=by
 have e:k.states.map jm=Y.states.map jm:=(congrArg cr.states h:(dQ k).states=(dQ Y).states);have aC:(k.states.map jm)[0]?=some (jm st):=by rw[e,fD,ai];rfl
 rw[fD]at aC;cases h2:k.states[0]?with
 |none=>rw[h2]at aC;cases aC
 |
  some b=>
  rw[h2]at aC;simp only[nD,Option.some.injEq]at aC;exact⟨b,rfl,(congrArg fU.name aC:(jm b).name=(jm st).name)⟩
def del_eq(x:Int):l.filter (λy=>!decide (y=x))=Th.del l x:=by
 unfold Th.del;congr 1;funext y;simp
theorem axg(g9 x:bU)(e:hS)(ka:Option Addr)(kc:Nat)(l:List Int)(what:Int)(k:Th.K)(J:Nat)(M:List Value)(y:Option aq)(B:At X z.ap s.aE a q g9)(Y:fX x e)(aj:bJ X z sv)(N:X.C.ok)(aO:s.notes.length<most)(O:s.ax[j]?=some t)(U:t.on=none)(hlen:l.length<=1099511627776)
 (d:0=l.length->hr X j z sv k J M y)(g2:∀v:Int,l[0]?=some v->∃b:Nat,v=b/\Ew/\y=some (iX sv j t b ⟨what,0,[]⟩ (.each wU 0 l.length k))):
 ab E 243 [ptr (X.bp j) 0,hE ka kc l,af what,bk J M] (a1 X z.ap z.ae j 0 k J M::dj ka kc l::gM X z s a q x e) (cv X y):=
 gv (λD h F=>Sat.tail (λh F=>Sat.tail (λh F=>cE (fO:=λ_:Unit=>True) (l:=λ_=>gM X z s a q x e) (D:=D) () trivial qu h F) F) F)
  (ajm X z sv j ka kc l what k J M t y (eW vc) aj N aO O U hlen (fun D h F => by
   obtain⟨_,_,L⟩:=ha (Sat.swap F);exact jk B Y D h (Sat.drop (Fp vc L))) d g2)
def axh(aj:bJ X z s)(B:At X z.ap s.aE a q x)(Y:fX x e)(J:Nat)(M:List Value)(k:Th.K)(y:Option aq)(hk:x.kids.length=0)(bf:x.mode=3)(st:fU)(g5:e.bI.states[0]?=some st)(aF:s.a8.length<=most)(h1:x.aside.length<=1099511627776)(h2:x.front.length<=1099511627776)(c2:s.trace.length<most)(O:s.ax[j]?=some t)(aY:∀aD aI,hr X j {z with b4:=aD,b5:=aI} (Th.c8 O9 a IS) k J M y):ab E 245 lB iM (cv X y):=by
 refine av Tryz.func245 λH D=>?_;haveI:=gn (X:=X) (ap:=z.ap) (ae:=z.ae) O;refine nu (jc (e:=3) (aZ:=1)) ?_;have g0:0<e.bI.states.length:=(dp.1 g5).1;have cy:=B.cy;refine afx ?_;refine wn λaM=>?_;refine dh ?_;refine aB rfl (gf rfl rfl (show 0<e.bI.states.length by omega)) ?_;refine aG ?_;refine aB rfl (gF rfl (rK gB 2 qV g5 rfl)) ?_;refine aB rfl (alw Tryz.underlying111 (let⟨i,a,_⟩:=HQ N7;⟨i,a⟩)) ?_;refine eY ?_;refine aU (ajs X z s j t q Ee Jr s.a8 aF h1 h2 O) ?_;refine dh ?_;refine cw [] [9,201] (aa q 118 ((dS X Ee Jr).set (0+13) (af 1))::qo) ?_;refine cB ?_;refine bu (l3 X z s (Pb:bG) c2) ?_;refine l1 ?_;intro aD aI;haveI:=(aY aD aI).iY;refine ct ?_;refine bu (gv (I:=(a1 X z.ap z.ae j 0 k J M::aa q 118 (dS X IS Jr)::dj e.ka e.kc x.kids::dj none 0 []::fJ e.gp X.C.dO [] (x.front++x.aside.reverse)::gL e.iB pQ pR x.given::bs e.gj .i64 wR::ii e.iC (hD e.es)::ao (hV e.es)::gb e.bI::ao y2::cp X iN O9::di aD aI (s.trace++[(Pb:bG)])::ZO)) (λD h F=>Sat.tail (λh F=>jk (X:=X) (z:=iN) (s:=O9) (x:=IS) (e:=Jr) B rs D h F) F) (aY aD aI).spec) ?_;exact zw
def ajy(aM:Nat)(m:dn)(v:Int):ab E 246 ([af v]++[ptr aM 0]) [aa aM 261 (iz m)] (aH (.bool (decide (v=m.who))) [aa aM 261 (iz m)]):=by
 refine av Tryz.func246 λH D=>?_;exact re
def axi(B:At X z.ap s.aE a q x)(Y:fX x e)(J:Nat)(M:List Value)(k:Th.K)(y:Option aq)(R:m.what=2)(bf:x.mode=2)(aj:bJ X z s)(N:X.C.ok)(aO:s.notes.length<most)(c2:s.trace.length<most)(O:s.ax[j]?=some t)(U:t.on=none)(hlen:x.cH.length<=1099511627776)(d:∀(aD:Option Addr) (aI:Nat),0=x.cH.length->hr X j iN Pd k J M y)(g2:∀v:Int,x.cH[0]?=some v->∃b:Nat,v=b/\Ew/\y=some (iX Pd j t b ⟨2,0,[]⟩ (.each (.push x.cH 2) 0 x.cH.length k))):ab E 197 sn iM (cv X y):=by
 refine av Tryz.func197 λH D=>?_;haveI:=gn (X:=X) (ap:=z.ap) (ae:=z.ae) O;refine nu (jc (e:=3) (aZ:=1)) ?_;have cy:x.id=a:=B.cy;have f:∀aD aI,bJ X {z with b4:=aD,b5:=aI} Pd:=λaD aI=>⟨aj.gk,aj.fY,aj.fZ,by show _=(s.aE.set _ _).length;rw[gr];exact aj.ap,aj.ae⟩;refine af3 ?_;intro aL aR aM bV;refine JR ?_;refine gd ?_;refine cw [] [9,201] (aa aL 106 eE::aa aR 110 [ptr q 0]::aa q 118 ((dS X x e).set (0+13) (af 1))::qo) ?_;refine cB ?_;refine bu (l3 X z s (Pe:bG) c2) ?_;refine l1 ?_;intro aD aI;refine gq ?_;refine bR ?_;refine bu (gv (I:=[a1 X z.ap z.ae j 0 k J M,dj e.gQ e.gR x.cH,aa q 118 (((dS X x e).set (0+13) (af 1)).set (0+17) (.slice none 0 0)),dj e.ka e.kc x.kids,dj none 0 [],fJ e.gp X.C.dO x.aside x.front,gL e.iB (min (max e.bI.limit 0) 100) (min (max e.bI.within 1) 4095) x.given,bs e.gj .i64 (x.watched.map λw=>(w,.bool true)),ii e.iC (hD e.es),ao (hV e.es),gb e.bI,ao ((dI X z.ap s.aE).set (a -1) eJ),cp X {z with b4:=aD,b5:=aI} {s with trace:=s.trace++[({Th.cz with kind:=11,dc:=x.id}:bG)]},di aD aI (s.trace++[({Th.cz with kind:=11,dc:=x.id}:bG)]),dX z.na z.dT s.notes,bs X.am .i64 (bD z.ap),bs X.dL .u64 (bD z.ae),ao (eB z.ae s.lets),Lg.cY X.ld s.a8,dz X.cF X.C.c6 s.dead,bz X.m s.L z.tt,eo X,ee X s.bm,dy X.bl X.m X.C.bl X.C.aT,ao (dd X),ef X,eL X,e7 X,eO X,ao (cK X z.ap z.ae s.ax)]) (λD h F=>(show∀h,Sat _ h->Sat (a1 X z.ap z.ae j 0 k J M::dj e.gQ e.gR x.cH::gM X {z with b4:=aD,b5:=aI} {s with trace:=s.trace++[({Th.cz with kind:=11,dc:=x.id}:bG)]} a q {x with mode:=1,cH:=[]} {e with gQ:=none,gR:=0}++D) h from(au)) h F) (axg X {z with b4:=aD,b5:=aI} {s with trace:=s.trace++[({Th.cz with kind:=11,dc:=x.id}:bG)]} j t a q x {x with mode:=1,cH:=[]} {e with gQ:=none,gR:=0} e.gQ e.gR x.cH 2 k J M y B ⟨Y.bI,Y.kj,Y.es⟩ (f aD aI) N aO O U hlen (d aD aI) g2)) ?_;refine pe ?_;exact pd
def axj(t:b0)(a q:Nat)(x:bU)(e:hS)(m:dn)(B:At X z.ap s.aE a q x)(Y:fX x e)(J:Nat)(M:List Value)(k:Th.K)(y:Option aq)(R:m.what=4)(b:x.kids.length<=1099511627776)(c:x.cH.length<=1099511627776)(h:∀aV,fX {x with kids:=Th.del x.kids m.who,cH:=Th.del x.cH m.who,given:=Th.pj x.given m.who} aV->ab E 245 lB (a1 X z.ap z.ae j 0 k J M::gM X z s a q aa1 aV) (cv X y)):ab E 197 sn iM (cv X y):=by
 refine av Tryz.func197 λH D=>?_;refine af8 ?_;intro aL aR aM bV;refine nC ?_;refine c4 ?_;refine cw [6] [101,5,201,2,201] [aa aR 110 [ptr q 0],aa aM 261 (iz m),aa q 118 (dS X x e)] ?_;refine bj ?_;refine go_c rfl .none rfl (b9 rfl ((by have bi:=KG x.kids e.ka e.kc 246 [ptr aM 0] [aa aM 261 (iz m)] (λy=>decide (y=m.who)) b (λv _=>ajy aM m v);rw[del_eq]at bi;exact bi)) bN) ?_;refine EJ ?_;refine cw [6] [101,5,201,2,201] [aa aR 110 [ptr q 0],aa aM 261 (iz m),aa q 118 ((dS X x e).set (0+12) (hE e.ka e.kc (Th.del x.kids m.who)))] ?_;refine bj ?_;refine go_c rfl .none rfl (b9 rfl ((by have bi:=KG x.cH e.gQ e.gR 246 [ptr aM 0] [aa aM 261 (iz m)] (λy=>decide (y=m.who)) c (λv _=>ajy aM m v);rw[del_eq]at bi;exact bi)) bN) ?_;refine EJ ?_;refine cw [] [6,201] [aa aR 110 [ptr q 0],aa aM 261 (iz m),aa q 118 (((dS X x e).set (0+12) (hE e.ka e.kc (Th.del x.kids m.who))).set (0+17) (hE e.gQ e.gR (Th.del x.cH m.who)))] ?_;refine bj ?_;refine aU (asx e.iB pQ pR m.who x.given) ?_;refine ct ?_;refine bu (h e rs) ?_;refine pe ?_;exact pd
end
section
variable{X:cO}{j:Nat}{z:dw}{s y:aq}{J:Nat}{M:List Value}{k:Th.K}{g:aq->b3->Th.K->Option aq}{a q:Nat}{x:bU}{m:dn}
def ax8(N:X.C.ok)(aj:bJ X z s)(cc:cS X.C j s)(B:At X z.ap s.aE a q x)(ag:Th.Fb j s a k=some y):ab E 306 lB k8 eg:=by
 have R:=B.p0 cc;simp only[Th.Fb,B.dM,bind,Option.bind]at ag;rw[Th.aiW]at ag;obtain rfl:a=x.id:=B.cy.symm;cases hk:Th.kH 2 (x.front.reverse++x.aside) s with
 |none=>rw[hk]at ag;cases ag
 |
  some s1=>
  rw[hk]at ag;simp only[Option.map]at ag;obtain⟨⟨dv,d1,t1,rfl⟩,g,c,d,p,f⟩:=Th.Lc hk;obtain⟨t,O,U,rfl⟩:=Th.j6 ag;replace O:s.ax[j]?=some t:=O;have L:=R.qI;have m5:most=1099511627776:=rfl;have c2:=cc.nr;have hlen:(x.front.reverse++x.aside).length=x.front.length+x.aside.length:=gl;have m3:s.trace.length+(x.front.reverse++x.aside).length<=most/\s.dead.length+(x.front.reverse++x.aside).length<=most:=by
   by_cases bi:(x.front.reverse++x.aside)=[]
   . rw[bi];exact c2
   . have:=f bi;rw[d,p];exact this
  refine qK B λe Y=>?_;refine jO (dj e.ka e.kc x.kids::dj e.gQ e.gR x.cH::gL e.iB pQ pR x.given::bs e.gj .i64 wR::ii e.iC (hD e.es)::ao (hV e.es)::gb e.bI::ao ((dI X z.ap s.aE).set (x.id -1) eJ)::dX z.na z.dT s.notes::bs X.am .i64 (bD z.ap)::ZU) (awh X z s j t q x e J M k N.sQ B.ap B.aX (λid cy=>(c id cy).elim λl aw=>(hG.of aj aw).elim λq bt=>⟨q,l,bt⟩) m3.1 m3.2 cc.l9 (show x.aside.length<=1099511627776 by omega) (show x.front.length<=1099511627776 by omega) (show(x.front.reverse++x.aside).length<=1099511627776 by omega) O U) au (λu I n=>?_);obtain⟨rfl,aD,aI,aW,b,rfl⟩:=n;rw[hk]at b;cases b;exact⟨bh X {z with b4:=aD,b5:=aI} (Th.c8 {s with a8:=dv,dead:=d1,trace:=t1,ax:=s.ax.set j {t with on:=some (.post x.id Th.zQ,.closed x.id k)}} x.id {x with front:=[],aside:=[]}),⟨rfl,{z with b4:=aD,b5:=aI},_,rfl,⟨aj.gk,aj.fY,aj.fZ,by show _=(s.aE.set _ _).length;rw[gr];exact aj.ap,aj.ae⟩,rfl⟩,λh F=>jk (X:=X) (z:={z with b4:=aD,b5:=aI}) (s:={s with a8:=dv,dead:=d1,trace:=t1,ax:=s.ax.set j {t with on:=some (.post x.id Th.zQ,.closed x.id k)}}) (x:={x with front:=[],aside:=[]}) (e:=e) B ⟨Y.bI,Y.kj,Y.es⟩ [] h ((show∀h,Sat _ h->Sat (gM X {z with b4:=aD,b5:=aI} {s with a8:=dv,dead:=d1,trace:=t1,ax:=s.ax.set j {t with on:=some (.post x.id Th.zQ,.closed x.id k)}} x.id q {x with front:=[],aside:=[]} e) h from(au)) h F)⟩
def Tk{d:Int}(N:X.C.ok)(C:hv X j g)(aj:bJ X z s)(cc:cS X.C j s)(B:At X z.ap s.aE a q x)(K:0<=m.who)(o:x.cH.length+1<most)(ag:Th.rD X.C g j s a m d k=some y):ab E 300 [ptr (X.bp j) 0,ptr q 0,.agg (iz m).toArray,af d,bk J M] k8 eg:=by
 have R:=B.p0 cc;obtain⟨l,who,reason⟩:=m;obtain⟨b,rfl⟩:∃b:Nat,who=b:=⟨who.toNat,by have:0<=who:=K;omega⟩;obtain rfl:a=x.id:=B.cy.symm;obtain⟨t0,i,hO⟩:=cc.jX;unfold Th.rD at ag;cases U:Th.iR ({Th.cz with kind:=10,dc:=(b:Int),cf:=x.id,why:=d,name:=reason}:bG) s with
 |none=>simp only[U,bind,Option.bind]at ag;cases ag
 |
  some s1=>
  simp only[U,bind,Option.bind]at ag;obtain⟨c2,rfl⟩:=Th.l8 U;split at ag
  . rename_i aS
    subst aS;obtain⟨aO,aA,t,O,w,rfl⟩:=Th.zS ag;replace O:s.ax[j]?=some t:=O;exact jO O0 (awi X z s j t x.id q b x B l reason J M k aA N.hd c2 aO O w) au (λu I q=>by
         obtain⟨rfl,aD,aI,cC,bq,rfl⟩:=q;exact⟨bh X u7 ZX,⟨rfl,u7,ZX,rfl,kg,rfl⟩,au⟩)
  . rename_i c
    split at ag
    . rename_i aS
      subst aS;obtain⟨aO,aA,t,O,w,rfl⟩:=Th.zS ag;replace O:s.ax[j]?=some t:=O;exact jO O0 (awj X z s j t x.id q b x B l reason J M k aA N.hd c2 aO O w) au (λu I q=>by
         obtain⟨rfl,aD,aI,cC,bq,rfl⟩:=q;exact⟨bh X u7 ZY,⟨rfl,u7,ZY,rfl,kg,rfl⟩,au⟩)
    . rename_i f
      split at ag
      . rename_i aS
        subst aS;obtain⟨aO,aA,t,O,w,rfl⟩:=Th.zS ag;replace O:s.ax[j]?=some t:=O;exact jO O0 (awk X z s j t x.id q b x B l reason J M k aA N.hd c2 aO O w) au (λu I q=>by
         obtain⟨rfl,aD,aI,cC,bq,rfl⟩:=q;exact⟨bh X u7 ZZ,⟨rfl,u7,ZZ,rfl,kg,rfl⟩,au⟩)
      . rename_i p
        have G:Th.dM {s with trace:=s.trace++[({Th.cz with kind:=10,dc:=(b:Int),cf:=x.id,why:=d,name:=reason}:bG)]} x.id=some x:=B.dM;simp only[G]at ag;have r:¬d=1/\¬d=2/\¬d=3:=⟨c,f,p⟩;have F:=(cc.Ad rfl Th.dZ.same rfl rfl rfl Bn cc.nr.2:cS X.C j {s with trace:=s.trace++[({Th.cz with kind:=10,dc:=(b:Int),cf:=x.id,why:=d,name:=reason}:bG)]});refine ub λba=>qK B λe Y=>?_;cases a6:x.cH.contains (b:Int)with
        |
         true=>
         have aC:Th.oj x.cH b=x.cH:=by simp only[Th.oj,Th.mem,a6,fu]
         simp only[aC]at ag;have aV:Th.c8 {s with trace:=s.trace++[({Th.cz with kind:=10,dc:=(b:Int),cf:=x.id,why:=d,name:=reason}:bG)]} x.id x={s with trace:=s.trace++[({Th.cz with kind:=10,dc:=(b:Int),cf:=x.id,why:=d,name:=reason}:bG)]}:=Th.avK G;rw[aV]at ag;split at ag
         . rename_i bf
           have d7:x.cH.length<most:=(Fv o);have ba:∀aD aI,ab E 296 [ptr (X.bp j) 0,ptr q 0,S reason,bk J M] (a1 X z.ap z.ae j 0 k J M::gM X {z with b4:=aD,b5:=aI} {s with trace:=s.trace++[({Th.cz with kind:=10,dc:=b,cf:=x.id,why:=d,name:=reason}:bG)]} (x.id) q x e) (cv X (some y)):=(λaD aI=>vD (B:At X _ _ x.id q x) Y (Tj (z:={z with b4:=aD,b5:=aI}) (s:={s with trace:=s.trace++[({Th.cz with kind:=10,dc:=(b:Int),cf:=x.id,why:=d,name:=reason}:bG)]}) N C ⟨aj.gk,aj.fY,aj.fZ,aj.ap,aj.ae⟩ F B ag));refine av Tryz.func300 λH D=>?_;haveI:=gn (X:=X) (ap:=z.ap) (ae:=z.ae) i;have v:x.cH.length<1099511627776:=d7;obtain⟨c,f,p⟩:=r;refine bb ?_;refine wn λbV=>?_;refine b2 ?_;refine cw [] [14,201] [aa bV 261 (iz ⟨l,b,reason⟩),cp X z s,aa q 118 (dS X x e),ao (cK X z.ap z.ae s.ax)] ?_;refine gd ?_;refine bu (l3 X z s ({Th.cz with kind:=10,dc:=b,cf:=x.id,why:=d,name:=reason}:bG) c2) ?_;rintro _ _ ⟨rfl,aD,aI,rfl⟩;refine eM ?_;refine c4 ?_;refine cP ?_;refine bj ?_;refine cP ?_;refine bj ?_;refine cP ?_;refine bj ?_;refine cw [] [6,201,1] [aa bV 261 (iz ⟨l,b,reason⟩),aa q 118 (dS X x e),dj e.gQ e.gR x.cH] ?_;refine bj ?_;refine go_c rfl .none rfl (b9 rfl (IY x.cH e.gQ e.gR b (dj e.gQ e.gR x.cH) ad) bN) ?_;rintro _ D ⟨_,⟨rfl,rfl⟩,rfl⟩
           try simp only[ck,ci]
           rw[a6];refine aG ?_;refine cP ?_;refine dB ?_;refine cP ?_;refine dh ?_;refine bu (ba aD aI) ?_;rintro _ _ ⟨rfl,cl,aW,ah,e8,rfl⟩;refine eM ?_;refine bj ?_;exact aQ BG
         . rename_i bf
           exact awl X z s j t0 x.id q b x e B Y l d reason J M k (some y) r a6 bf (Fv o) c2 (λaD aI=>⟨ba,C _ _ k y J M ⟨aj.gk,aj.fY,aj.fZ,aj.ap,aj.ae⟩ ag⟩) i
        |
         false=>
         have aC:Th.oj x.cH b=x.cH++[(b:Int)]:=by simp only[Th.oj,Th.mem,a6];rfl
         simp only[aC]at ag;split at ag
         . rename_i bf
           refine awm X z s j t0 x.id q b x e B Y l d reason J M k (some y) r a6 bf (Fv o) c2 (λaD aI gQ gR=>?_) i;refine Ct (x:={x with cH:=x.cH++[(b:Int)]}) (B:At X _ _ x.id q x) ⟨Y.bI,Y.kj,Y.es⟩ ?_;exact Tj (z:={z with b4:=aD,b5:=aI}) (s:=Th.c8 {s with trace:=s.trace++[({Th.cz with kind:=10,dc:=(b:Int),cf:=x.id,why:=d,name:=reason}:bG)]} x.id {x with cH:=x.cH++[(b:Int)]}) (x:={x with cH:=x.cH++[(b:Int)]}) N C ⟨aj.gk,aj.fY,aj.fZ,by show _=(s.aE.set _ _).length;rw[gr];exact aj.ap,aj.ae⟩ (F.set B.aX.1 ⟨R.id,R.kids,R.qI⟩) (At.set (n:={x with cH:=x.cH++[(b:Int)]}) B rfl) ag
         . rename_i bf
           exact awn X z s j t0 x.id q b x e B Y l d reason J M k (some y) r a6 bf (Fv o) c2 (λaD aI=>⟨ba,C _ _ k y J M ⟨aj.gk,aj.fY,aj.fZ,by show _=(s.aE.set _ _).length;rw[gr];exact aj.ap,aj.ae⟩ ag⟩) i
def ax9(N:X.C.ok)(C:hv X j g)(aj:bJ X z s)(cc:cS X.C j s)(B:At X z.ap s.aE a q x)(K:0<=m.who)(o:x.cH.length+1<most)(ag:Th.xy X.C g j s a m k=some y):ab E 242 sn k8 eg:=by
 have R:=B.p0 cc;obtain⟨t0,i,hO⟩:=cc.jX;simp only[Th.xy,B.dM,bind,Option.bind]at ag;refine ub λba=>qK B λe Y=>?_;have r:=axf Y.bI m.reason;have T:=xh R.kids;have g7:e.bI.cases.length<=4611686018427387904:=by have:=Y.kj.ak3;omega
 have d:∀F,g s Th.dN k=some F->some F=some y->hr X j z s k J M (some y):=λF h1 h2=>⟨ba,C z s k y J M aj (by rw[h1];exact h2)⟩;cases a6:x.kids.contains m.who with
 |
  false=>
  rw[bg (.inl (show(!x.kids.contains m.who)=true by rw[a6];rfl))]at ag;exact awv X z s j t0 a q x e m B Y J M k (some y) T a6 (d y ag rfl)
 |
  true=>
  by_cases aN:x.mode=3
  . rw[bg (.inr (.inl aN))]at ag
    exact aww X z s j t0 a q x e m B Y J M k (some y) T a6 aN (d y ag rfl)
  . by_cases bA:x.mode=4
    . rw[bg (.inr (.inr bA))]at ag
      exact awx X z s j t0 a q x e m B Y J M k (some y) T a6 bA (d y ag rfl)
    . rw[a7 (λco=>co.elim (λco=>by rw[show Th.mem x.kids m.who=true from a6]at co;cases co) (λco=>co.elim aN bA))]at ag
      split at ag
      . rename_i aS
        rw[<-r]at aS ag;have h:ab E 300 [ptr (X.bp j) 0,ptr q 0,.agg (iz m).toArray,af (Th.direct e.bI m.reason),bk J M] iM eg:=(vD B Y (Tk N C aj cc B K o ag));refine av Tryz.func242 λH D=>?_;have b:x.kids.length<=1099511627776:=T;refine bb ?_;refine wn λaL=>?_;refine wn λaR=>?_;refine wn λaM=>?_;refine wn λbV=>?_;refine bR ?_;refine cw [] [6,201,15] Ps ?_;refine bj ?_;refine go_c rfl .none rfl abF ?_;rintro _ D ⟨_,⟨rfl,rfl⟩,rfl⟩
        try simp only[ck,ci]
        rw[a6];refine aG ?_;refine cP ?_;refine bE ?_;refine cP ?_;refine bj ?_;refine cP ?_;refine ct ?_;refine iu [6,7,8] [7] [1,5,9,13,17,21,26,30,34,3,3,3,30,26,34] abE ?_;refine bj ?_;refine fm ?_ ?_
        ·
         refine aU I8 ?_;refine aG ?_;refine wn λZ=>?_;refine bQ ?_;refine aB rfl (fS (c:=true) (by simp[aS]) (mh rfl rfl)) ?_;refine dh ?_;refine bu (h) ?_;rintro _ _ ⟨rfl,cl,aW,ah,e8,rfl⟩;refine eM ?_;refine bE ?_;exact aQ BG
        ·
         refine wn λZ=>?_;refine aG ?_;refine aU I8 ?_;refine bQ ?_;refine aB rfl (fS (c:=true) (by simp[aS]) (mh rfl rfl)) ?_;refine dh ?_;refine bu (h) ?_;rintro _ _ ⟨rfl,cl,aW,ah,e8,rfl⟩;refine eM ?_;refine bE ?_;exact aQ BG
      . rename_i aS
        rw[<-r]at aS;obtain⟨t,O,U,rfl⟩:=Th.j6 ag;have aS:Th.direct e.bI m.reason=2:=(Decidable.not_not.1 aS);refine av Tryz.func242 λH D=>?_;haveI:=gn (X:=X) (ap:=z.ap) (ae:=z.ae) O;have b:x.kids.length<=1099511627776:=T;refine bb ?_;refine wn λaL=>?_;refine wn λaR=>?_;refine wn λaM=>?_;refine wn λbV=>?_;refine bR ?_;refine cw [] [6,201,15] Ps ?_;refine bj ?_;refine go_c rfl .none rfl abF ?_;rintro _ D ⟨_,⟨rfl,rfl⟩,rfl⟩
        try simp only[ck,ci]
        rw[a6];refine aG ?_;refine cP ?_;refine bE ?_;refine cP ?_;refine bj ?_;refine cP ?_;refine ct ?_;refine iu [6,7,8] [7] [1,5,9,13,17,21,26,30,34,3,3,3,30,26,34] abE ?_;refine bj ?_;refine fm ?_ ?_
        ·
         refine aU I8 ?_;rw[aS];refine aG ?_;refine wn λZ=>?_;refine bQ ?_;refine aB rfl (fS (c:=false) r2 (mh rfl rfl)) ?_;refine gd ?_;refine bu (ahZ X s.bm) ?_;rintro _ _ ⟨p,rfl,rfl⟩;refine eM ?_;refine wn λcA=>?_;refine bj ?_;refine aB rfl Jj ?_;refine aG ?_;refine aU Z6 ?_;refine bb ?_;exact aQ (I:=(bh X z {s with ax:=s.ax.set j {t with on:=some (.ey o2,.kI a m k)}})) ⟨rfl,z,_,rfl,⟨aj.gk,aj.fY,aj.fZ,aj.ap,aj.ae⟩,rfl⟩ (λh F=>by have:=jk (X:=X) (z:=z) (s:={s with ax:=s.ax.set j {t with on:=some (.ey o2,.kI a m k)}}) (x:=x) (g9:=x) B Y D h ((show∀h,Sat _ h->Sat (gM X z {s with ax:=s.ax.set j {t with on:=some (.ey o2,.kI a m k)}} a q x e++D) h from(au)) h F);rw[sw (X:=X) (ap:=z.ap) (q:=q) (s:={s with ax:=s.ax.set j {t with on:=some (.ey o2,.kI a m k)}}) B]at this;exact this)
        ·
         refine wn λZ=>?_;refine aG ?_;refine aU I8 ?_;rw[aS];refine bQ ?_;refine aB rfl (fS (c:=false) r2 (mh rfl rfl)) ?_;refine gd ?_;refine bu (ahZ X s.bm) ?_;rintro _ _ ⟨p,rfl,rfl⟩;refine eM ?_;refine wn λcA=>?_;refine bj ?_;refine aB rfl Jj ?_;refine aG ?_;refine aU Z6 ?_;refine bb ?_;exact aQ (I:=(bh X z {s with ax:=s.ax.set j {t with on:=some (.ey o2,.kI a m k)}})) ⟨rfl,z,_,rfl,⟨aj.gk,aj.fY,aj.fZ,aj.ap,aj.ae⟩,rfl⟩ (λh F=>by have:=jk (X:=X) (z:=z) (s:={s with ax:=s.ax.set j {t with on:=some (.ey o2,.kI a m k)}}) (x:=x) (g9:=x) B Y D h ((show∀h,Sat _ h->Sat (gM X z {s with ax:=s.ax.set j {t with on:=some (.ey o2,.kI a m k)}} a q x e++D) h from(au)) h F);rw[sw (X:=X) (ap:=z.ap) (q:=q) (s:={s with ax:=s.ax.set j {t with on:=some (.ey o2,.kI a m k)}}) B]at this;exact this)
end
section
variable{X:cO}{j:Nat}{z:dw}{s y:aq}{J:Nat}{M:List Value}{k:Th.K}{g:aq->b3->Th.K->Option aq}{a q:Nat}{x:bU}
def Tl(N:X.C.ok)(C:hv X j g)(aj:bJ X z s)(cc:cS X.C j s)(B:At X z.ap s.aE a q x)(ag:Th.rC g j s a k=some y):ab E 245 lB k8 eg:=by
 obtain rfl:a=x.id:=B.cy.symm;have R:=B.p0 cc;obtain⟨t0,i,hO⟩:=cc.jX;have c:=ag;simp only[Th.rC,B.dM,bind,Option.bind]at ag;refine ub λba=>qK B λe Y=>?_;split at ag
 . rename_i bi
   exact awp X z s j t0 x.id q x e aj B Y J M k (some y) (List.length_pos_iff.2 bi) ss
 . rename_i bi
   have bi:x.kids.length=0:=by rw[Decidable.not_not.1 bi];rfl
   split at ag
   . rename_i bA
     have h:ab E 306 lB PP eg:=(vD B Y (ax8 N aj cc B ag));refine av Tryz.func245 λH D=>?_;refine eY ?_;refine b2 ?_;refine cP ?_;refine fB ?_;refine cP ?_;refine ov ?_;refine bu (h) ?_;rintro _ _ ⟨rfl,cl,aW,ah,e8,rfl⟩;refine eM ?_;refine cB ?_;exact pb
   . rename_i bA
     split at ag
     . rename_i aN
       cases ai:x.kind.states[0]?with
       |none=>simp only[ai]at ag;cases ag
       |
        some st=>
        obtain⟨c2,ag⟩:=Th.avL B.dM (List.length_eq_zero_iff.1 bi) aN ai c;obtain⟨b,S,aO⟩:=S6 Y.bI ai;rw[<-aO]at ag;have L:=R.qI;have m5:most=1099511627776:=rfl;exact axh X z s j t0 x.id q x e aj B Y J M k (some y) bi aN b S cc.l9 (show x.aside.length<=1099511627776 by omega) (show x.front.length<=1099511627776 by omega) c2 i (λaD aI=>⟨ba,C iN _ k y J M ⟨aj.gk,aj.fY,aj.fZ,by show _=(s.aE.set _ _).length;rw[gr];exact aj.ap,aj.ae⟩ ag⟩)
     . rename_i aN
       exact awq X z s j t0 x.id q x e aj B Y J M k (some y) bi bA aN ss
def aya{m:dn}(N:X.C.ok)(C:hv X j g)(aj:bJ X z s)(cc:cS X.C j s)(B:At X z.ap s.aE a q x)(K:0<=m.who)(o:x.cH.length+1<most)(ag:Th.vA X.C g j s a m k=some y):ab E 197 sn k8 eg:=by
 obtain rfl:a=x.id:=B.cy.symm;have R:=B.p0 cc;obtain⟨t0,i,hO⟩:=cc.jX;simp only[Th.vA,B.dM,bind,Option.bind]at ag;refine ub λba=>qK B λe Y=>?_;split at ag
 . rename_i f
   have h:ab E 241 lB PP eg:=(vD B Y (Ti N C aj cc B ag));refine av Tryz.func197 λH D=>?_;refine vi ?_;intro aL aR aM bV;refine c4 ?_;refine cP ?_;refine bQ ?_;refine bu (h) ?_;refine pe ?_;exact pd
 . split at ag
   . rename_i hC
     have h:ab E 242 sn PP eg:=(vD B Y (ax9 N C aj cc B K o ag));refine av Tryz.func197 λH D=>?_;refine Rp ?_;intro aL aR aM bV;refine cB ?_;exact Q5
   . split at ag
     . rename_i n6
       split at ag
       . rename_i bf
         exact aws X z s j t0 x.id q x e m B Y J M k (some y) n6 bf ss
       . rename_i bf
         cases U:Th.iR (Pe:bG) (Th.c8 s x.id {x with mode:=1,cH:=[]})with
         |none=>rw[U]at ag;cases ag
         |
          some s1=>
          rw[U]at ag;obtain⟨c2,rfl⟩:=Th.l8 U;replace c2:s.trace.length<most:=c2;refine axi X z s j t0 x.id q x e m B Y J M k (some y) n6 (Decidable.not_not.1 bf) aj N cc.notes c2 i hO (xh (Fv o)) (λaD aI bi=>?_) (λv Z=>?_)
          . rcases Th.Cg ag with⟨_,ag⟩|⟨b,t,h1,_⟩
            . exact⟨ba,C iN _ _ y J M ⟨aj.gk,aj.fY,aj.fZ,by show _=(s.aE.set _ _).length;rw[gr];exact aj.ap,aj.ae⟩ ag⟩
            . exfalso;omega
          . rcases Th.Cg ag with⟨bi,ag⟩|⟨b,t,h1,h2,aN,bA,d3,rfl⟩
            . exfalso;have:=(dp.1 Z).1;omega
            . rw[Z]at h2;cases h2
              replace bA:s.ax[j]?=some t:=bA;rw[i]at bA;cases bA;exact⟨b,rfl,aN,rfl⟩
     . split at ag
       . rename_i c
         split at ag
         . rename_i bf
           exact awt X z s j t0 x.id q x e m B Y J M k (some y) c bf ss
         . rename_i bf
           refine awu X z s j t0 x.id q x e m B Y J M k (some y) c (Decidable.not_not.1 bf) aj N cc.notes i hO (xh R.kids) (λcs bi=>?_) (λv Z=>?_)
           . rcases Th.Cg ag with⟨_,ag⟩|⟨b,t,h1,_⟩
             . exact⟨fl,C _ _ _ y _ cs ⟨aj.gk,aj.fY,aj.fZ,by show _=(s.aE.set _ _).length;rw[gr];exact aj.ap,aj.ae⟩ ag⟩
             . exfalso;omega
           . rcases Th.Cg ag with⟨bi,ag⟩|⟨b,t,h1,h2,aN,bA,d3,rfl⟩
             . exfalso;have:=(dp.1 Z).1;omega
             . rw[Z]at h2;cases h2
               replace bA:s.ax[j]?=some t:=bA;rw[i]at bA;cases bA;exact⟨b,rfl,aN,rfl⟩
       . split at ag
         . rename_i d
           refine axj X z s j t0 x.id q x e m B Y J M k (some y) d (xh R.kids) (xh (Fv o)) (λaV u=>?_);refine Ct (x:=aa1) B u ?_;exact Tl (x:={x with kids:=Th.del x.kids m.who,cH:=Th.del x.cH m.who,given:=Th.pj x.given m.who}) N C ⟨aj.gk,aj.fY,aj.fZ,by show _=(s.aE.set _ _).length;rw[gr];exact aj.ap,aj.ae⟩ (cc.set B.aX.1 ⟨R.id,YQ (Th.Sr _ _) R.kids,R.qI⟩) (At.set (n:={x with kids:=Th.del x.kids m.who,cH:=Th.del x.cH m.who,given:=Th.pj x.given m.who}) B rfl) ag
         . cases ag
def ayb{left:Nat}(N:X.C.ok)(C:hv X j g)(aj:bJ X z s)(cc:cS X.C j s)(B:At X z.ap s.aE a q x)(d:∀(id:Int) (J:Nat) (M:List Value),x.front.getLast?=some id->Th.sP X.C g j (Th.c8 s a Qd) a id (.next a left)=some y->ab E 238 Ej (a1 X z.ap z.ae j 0 (.next a left) J M::bh X z (Th.c8 s a Qd)) eg)(ag:Th.rE X.C g j s a left=some y):ab E 196 En (bh X z s) eg:=by
 have R:=B.p0 cc;obtain⟨t0,i,hO⟩:=cc.jX;simp only[Th.rE,B.dM,bind,Option.bind]at ag;refine ax4 B λe Y=>?_;split at ag
 . rename_i bf
   have h:ab E 232 qq vc eg:=(ax3 B Y (ajI aj cc B ag));refine av Tryz.func196 λH D=>?_;refine Kn ?_;intro ay aL aR;refine Qs ?_;refine bQ ?_;refine bu (h) ?_;exact xc
 . rename_i bf
   have bf:=Decidable.not_not.1 bf;split at ag
   . rename_i aw
     obtain⟨t,O,U,rfl⟩:=Th.j6 ag;have h2:=awy X z s j t a q left x e B Y bf aw aj O U;rw[B.cy]at h2;exact h2
   . rename_i aw
     cases ba:x.front.getLast? with
     |
      none=>
      simp only[ba]at ag;obtain⟨t,O,U,rfl⟩:=Th.j6 ag;have h2:=awA X z s j t a q left x e B Y bf aw (List.getLast?_eq_none_iff.1 ba) aj O U;rw[B.cy]at h2;exact h2
     |
      some id=>
      simp only[ba]at ag;obtain⟨V,f⟩:=List.getLast?_eq_some_iff.1 ba;have b:x.front=x.front.dropLast++[id]:=by rw[f];simp
      have m5:most=1099511627776:=rfl;have L:=R.qI;refine awz X z s j t0 a q left x e B Y (some y) bf aw x.front.dropLast id b (by rw[aiP];omega) (λcs=>?_);exact Ct (x:=Qd) B rs (d id _ cs ba ag)
end
section
variable{X:cO}{j:Nat}{z:dw}{s y:aq}{J:Nat}{M:List Value}{k:Th.K}{g:aq->b3->Th.K->Option aq}{i n d5 d6 cq d2 aK ar V:Nat}{ea:Option Addr}{cZ:Nat}
theorem Fw{I M:Nat}{O N:List Value}{J:List al}{A B:Option aq}(a:fb E I)(c:fb E M)(ag:(if i=n then A else B)=some y)
 (d:A=some y->ab E M N (J++bh X z s) eg)(g2:B=some y->∀R,ab E I ([af i,bk 208 [ptr d2 0,ptr R 0]]++O) ((aa R 3 [af i]::aa d2 188 [bk 207 [ptr d5 0,ptr d6 0,ptr cq 0,ptr d2 0]]::aa d5 3 [af n]::aa cq 255 [bk I O]::aa d6 1 [bk M N]::J)++bh X z s) (cv X (some y))):
 ab E 207 zb ([aa d5 3 [af n],aa d6 1 [bk M N],aa cq 255 [bk I O],aa d2 188 rm,eW J]++bh X z s) eg:=by
 split at ag
 . rename_i bi
   refine ajj X z s i n d5 d6 cq d2 I M O N (eW J) (some y) bi ?_;refine gv (λD h F=>?_) (d ag);obtain⟨_,_,b⟩:=ha F;rw[jI];exact b
 . rename_i bi
   refine ajk X z s i n d5 d6 cq d2 I M O N (eW J) (some y) bi λR=>?_;refine gv (λD h F=>?_) (g2 ag R);exact Sat.tail (λh F=>Sat.tail (λh F=>Sat.tail (λh F=>Sat.tail (λh F=>Sat.tail (λh F=>by obtain⟨_,_,b⟩:=ha F;show Sat ((J++bh X z s)++D) _;rw[jI];exact b) F) F) F) F) F
def ajL{ids:List Int}(N:X.C.ok)(C:hv X j g)(aj:bJ X z s)(ba:fb E J)(aO:n=ids.length)(Z:∀v∈ids,0<=v){kn:aq->List Int->Th.K->Option aq}(ag:(if i=n then g s Th.dN k else Th.nM X.C g j kn s (.cancel ids) i (.each (.cancel ids) i n k))=some y):ab E 207 zb ([aa d5 3 [af n],aa d6 1 [bk J M],aa cq 255 [bk 346 lY],aa d2 188 rm,eW aaB]++bh X z s) eg:=
 Fw fl ba ag aaY (λh R=>by
  subst aO;simp only[Th.nM]at h;cases e:ids[i]?with
  |none=>rw[e]at h;cases h
  |
   some v=>
   rw[e]at h;obtain⟨t,O,U,rfl⟩:=Th.j6 h;exact aw8 X z s j i ids.length R d2 d5 cq d6 aK ar V J M k ea cZ ids v e (Z v (jH e)) t aj O U)
def ayc{l:List Int}{what:Int}(N:X.C.ok)(C:hv X j g)(aj:bJ X z s)(ba:fb E J)(aO:n=l.length){kn:aq->List Int->Th.K->Option aq}(ag:(if i=n then g s Th.dN k else Th.nM X.C g j kn s wU i (.each wU i n k))=some y):ab E 207 zb ([aa d5 3 [af n],aa d6 1 [bk J M],aa cq 255 P4,aa d2 188 rm,eW aaM]++bh X z s) eg:=
 Fw fl ba ag aaY (λh R=>by
  subst aO;simp only[Th.nM]at h;cases e:l[i]?with
  |none=>rw[e]at h;cases h
  |
   some v=>
   rw[e]at h;obtain⟨aO,aA,t,O,U,rfl⟩:=Th.zS h;have Z:((v.toNat:Nat):Int)=v:=ad;exact ajl X z s j aK ar V ea cZ l what k J M t aj N aO O U i d5 d6 cq d2 R v.toNat aA (by rw[Z];exact e))
def ajM{V:Nat}{ea:Option Addr}{cZ:Nat}{due:List Int}(N:X.C.ok)(C:hv X j g)(aj:bJ X z s)(ba:fb E J)(cc:cS X.C j s)(aO:n=due.length){kn:aq->List Int->Th.K->Option aq}(ag:(if i=n then g s Th.dN k else Th.nM X.C g j kn s (.leave due) i (.each (.leave due) i n k))=some y):ab E 207 zb ([aa d5 3 [af n],aa d6 1 [bk J M],aa cq 255 [bk 157 tE],aa d2 188 rm,eW aa4]++bh X z s) eg:=
 Fw fl ba ag (λh=>gv (λD h F=>Sat.drop (Sat.drop (Sat.drop (F)))) (C z s k y J M aj h)) (λh R=>by
  subst aO;simp only[Th.nM]at h;cases e:due[i]?with
  |none=>rw[e]at h;cases h
  |
   some v=>
   rw[e]at h;obtain⟨t,O,U⟩:=cc.jX;exact aw9 X z s j i due.length R d2 d5 cq d6 aK ar V J M k ea cZ due v (some y) e (ajK N C aj cc h))
def ajN{ea:Option Addr}{cZ a q:Nat}{x:bU}(N:X.C.ok)(C:hv X j g)(aj:bJ X z s)(B:At X z.ap s.aE a q x)(aO:n<=16)(ak:i<=n){kn:aq->List Int->Th.K->Option aq}(ag:(if i=n then g s Th.dN (.parent a k)else Th.nM X.C g j kn s (.my a) i (.each (.my a) i n (.parent a k)))=some y):ab E 207 [af i,ptr d5 0,ptr d6 0,ptr cq 0,ptr d2 0] ([aa d5 3 [af n],aa d6 1 [bk 404 [ptr aK 0,ptr V 0,ptr ar 0]],aa cq 255 [bk 403 [ptr aK 0,ptr ar 0]],aa d2 188 [bk 207 [ptr d5 0,ptr d6 0,ptr cq 0,ptr d2 0]],eW [aa aK 110 [ptr q 0],aa ar 106 [ptr (X.bp j) 0],aa V 1 [bk J M],a1 X z.ap z.ae j 0 k J M]]++bh X z s) (cv X (some y)):=
 Fw fl fl ag (λh=>gv (λD h F=>R4 (a1.eq_30 ..) (aK,V,ar,q,J,M) ⟨rfl,rfl,B.ap⟩ _ h ((show∀h,Sat _ h->Sat ([aa aK 110 [ptr q 0],aa V 1 [bk J M],aa ar 106 [ptr (X.bp j) 0],a1 X z.ap z.ae j 0 k J M]++(bh X z s++D)) h from(au)) h F)) (C z s (.parent a k) y 404 [ptr aK 0,ptr V 0,ptr ar 0] aj h)) (λh R=>by
  simp only[Th.nM]at h;have cy:=B.cy;split at h
  . rename_i ai
    exact axa X z s j i n R d2 d5 cq d6 aK ar V J M k a q x (some y) B ad ad ⟨fl,C z s _ y _ _ aj h⟩
  . rename_i ai
    refine axb X z s j i n R d2 d5 cq d6 aK ar V J M k a q x (some y) B ad ad ?_;rw[cy];exact ajH N aj h)
end
end Go.Proofs.YtnnhpnccfnghdaaGreat.L.bM
