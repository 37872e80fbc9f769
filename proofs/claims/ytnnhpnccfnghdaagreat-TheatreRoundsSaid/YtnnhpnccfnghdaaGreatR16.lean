import Derived.Test.YtnnhpnccfnghdaaGreatR15
set_option linter.all false
set_option maxRecDepth 8000
set_option maxHeartbeats 5600000
namespace Go.Proofs.YtnnhpnccfnghdaaGreat.L.bH
open Go.Proofs.YtnnhpnccfnghdaaGreat.L
open Go.L Go.L.Ring Go.L.dq Go.L.dR Go.L.Whl Go.L.dA Go.L.Lx Go.L.Pg
open Go.L.Led (dg du dT bs av e8)
open Go.L.Th (bt cW c9 bX dt bR bU ev bW ao most dU cQ ff eD dM In cV c6 eE bx bM eF eG bk cG dw go bq Good eb eH dQ acc Inv eh er e3 busy cZ ek dN fa)
attribute[local irreducible] G cE GE cY GT b0 df c4 di Exit.then Exit.inBlock
section
variable(X:cN)(z:dn)(s:ao)(j:Nat)(y:Option ao)(I:Nat)(M:List Value)(k:Th.K)(p q x E ef J aP ar U Z aO:Nat)(e:fv)(v:Int)(l:cW)
def ax6{m:List (Int×Value)}{k:Int}{v:Value}(h:dJ m k=none):eV m k v=m++[(k,v)]:=by
 induction m with
 |nil=>rfl
 |
  cons p m K=>
  simp only[dJ]at h;split at h
  . cases h
  . rename_i U
    simp only[eV,a8 U,K h,cp]
def PA(ap:List Nat)(q:Nat):eV (cf ap) ((ap.length+1:Nat):Int) (ptr q 0)=cf (ap++[q]):=by
 rw[ax6 (KU ae)];simp[cf,akL]
def akM{ai:List Nat}{l:List cW}{q:Nat}{x:cW}(h:ai.length=l.length):gj (ai++[q]) (l++[x])=gj ai l++[Eg q x]:=by
 simp only[gj,akL,SR,List.mapIdx_nil];exact aer
def xO{l:List Nat}{q:Nat}:∀i x:Nat,l[i]?=some x->(l++[q])[i]?=some x:=λi x h=>by
 rw[k1 (dc.1 h).1];exact h
theorem FB{X:cN}{p:Nat}{v:Int}:h7 p 2 (c3 X p (.fV v)) (bw v):=⟨fun{h} s=>by
 obtain⟨w,_,s1⟩:=hd (Sat.one s);obtain⟨f,_,bP⟩:=hd s1;obtain⟨h1,h2,_,rfl,aW,_⟩:=bP;exact⟨_,_,_,join_some aW,rfl⟩⟩
def ax7(h:ad aa 158 [ptr (X.bp j) 0,bw v,bj I M] la (ct X y)):ad aa 164 ([bw v]++[ptr x 0,ptr E 0]) ([ab x 106 eo,ab E 1 [bj I M],a7 X z.ap z.ai j 0 k I M]++bl X z s) (ct X y):=by
 refine aw Tryz.func164 λF D=>?_;exact Kt
def ax8(al:bE X z s)(dV:s.lets.length<most)(o:s.trace.length<most)(aM:s.bc.length<=most)(hk:Led.kR s.bc)(h:∀aI aQ,ad aa 158 [ptr (X.bp j) 0,bw ((s.lets.length+1:Nat):Int),bj I M] (a7 X z.ap (z.ai++[ar]) j 0 k I M::bl X {z with cI:=aI,cJ:=aQ,ai:=(z.ai++[ar])} {s with lets:=s.lets++[l],bc:=dT s.bc ((s.lets.length+1:Nat):Int) 1,trace:=s.trace++PT}) (ct X y)):ad aa 213 zc ((ab aP 314 [ptr p 0]::ab ar 187 (py l)::ab U 32 [ptr X.h 0]::ab Z 4 [.bool false]::ab aO 259 [bj 164 [ptr x 0,ptr E 0]]::ab x 106 eo::ab E 1 [bj I M]::acn)++bl X z s) (ct X y):=by
 refine aw Tryz.func213 λF D=>?_;haveI:=FB (X:=X) (p:=p) (v:=((s.lets.length+1:Nat):Int));refine ae9 ?_;refine br (l6 X z s (aa5:bX) o) ?_;refine l5 ?_;intro aI aQ;refine bB ?_;refine ci rfl (oE rfl rfl (gq (λD h g=>by
  have gt:Sat ((a7 X z.ap z.ai j 0 k I M::ax lJ::ab ar 187 (py l)::ax k9::ab x 106 eo::ab E 1 [bj I M]::cL X h3 {s with trace:=s.trace++PT}::dP aI aQ (s.trace++PT)::aan)++D) h:=(au) h g;have L:=vt (X:=X) (j:=j) zm (xO (l:=z.ai) (q:=ar)) k 0 I M _ h gt;have z3:=Sat.tail (λh g=>Ly (X:=X) (ap:=z.ap) (ai:=z.ai) (H:=z.ap) (N:=(z.ai++[ar])) zm xO s.az _ h g) L;have z4:=Sat.tail acb z3;rw[<-akM al.ai,show((s.lets.length+1:Nat):Int)=((z.ai.length+1:Nat):Int) by rw[al.ai],PA]at z4;exact(show∀h,Sat _ h->Sat ([ab x 106 [ptr (X.bp j) 0],ab E 1 [bj I M],a7 X z.ap (z.ai++[ar]) j 0 k I M]++bl X {z with cI:=aI,cJ:=aQ,ai:=(z.ai++[ar])} {s with lets:=s.lets++[l],bc:=dT s.bc ((s.lets.length+1:Nat):Int) 1,trace:=s.trace++[({Th.c7 with kind:=2,id:=((s.lets.length+1:Nat):Int),cy:=l.cy,to:=l.to,name:=l.tag,n:=l.n,nj:=false}:bX)]}++D) h from by rw[show((z.ai.length+1:Nat):Int)=((s.lets.length+1:Nat):Int) by rw[al.ai]];exact(au)) h z4) (ax7 X {z with cI:=aI,cJ:=aQ,ai:=(z.ai++[ar])} {s with lets:=s.lets++[l],bc:=dT s.bc ((s.lets.length+1:Nat):Int) 1,trace:=s.trace++[({Th.c7 with kind:=2,id:=((s.lets.length+1:Nat):Int),cy:=l.cy,to:=l.to,name:=l.tag,n:=l.n,nj:=false}:bX)]} j y I M k x E ((s.lets.length+1:Nat):Int) (h aI aQ))) bF) ?_
 exact BY
def ax9(h:ad aa 345 (ptr (X.bp j) 0::ptr q 0::bw v::Qq) la (ct X y)):ad aa 344 ([bw v]++[ptr x 0,ptr E 0,ptr ef 0,ptr J 0]) ([ab x 106 eo,ab E 110 [ptr q 0],ab ef 87 (fO e),ab J 1 [bj I M],a7 X z.ap z.ai j 0 k I M]++bl X z s) (ct X y):=by
 refine aw Tryz.func344 λF D=>?_;exact afq
def aya(al:bE X z s)(dV:s.lets.length<most)(o:s.trace.length<most)(aM:s.bc.length<=most)(hk:Led.kR s.bc)(h:∀aI aQ,ad aa 345 (ptr (X.bp j) 0::ptr q 0::bw ((s.lets.length+1:Nat):Int)::Qq) (a7 X z.ap (z.ai++[ar]) j 0 k I M::bl X {z with cI:=aI,cJ:=aQ,ai:=(z.ai++[ar])} {s with lets:=s.lets++[l],bc:=dT s.bc ((s.lets.length+1:Nat):Int) 1,trace:=s.trace++PU}) (ct X y)):ad aa 213 zc ((ab aP 314 [ptr p 0]::ab ar 187 (py l)::ab U 32 [ptr X.h 0]::ab Z 4 [.bool true]::ab aO 259 [bj 344 [ptr x 0,ptr E 0,ptr ef 0,ptr J 0]]::ab x 106 eo::ab E 110 [ptr q 0]::ab ef 87 (fO e)::ab J 1 [bj I M]::acn)++bl X z s) (ct X y):=by
 refine aw Tryz.func213 λF D=>?_;haveI:=FB (X:=X) (p:=p) (v:=((s.lets.length+1:Nat):Int));refine ae9 ?_;refine br (l6 X z s (aa6:bX) o) ?_;refine l5 ?_;intro aI aQ;refine bB ?_;refine ci rfl (oE rfl rfl (gq (λD h g=>by
  have gt:Sat ((a7 X z.ap z.ai j 0 k I M::ax lJ::ab ar 187 (py l)::ax k9::ab x 106 eo::ab E 110 [ptr q 0]::ab ef 87 (fO e)::ab J 1 [bj I M]::cL X h3 {s with trace:=s.trace++PU}::dP aI aQ (s.trace++PU)::aan)++D) h:=(au) h g;have L:=vt (X:=X) (j:=j) zm (xO (l:=z.ai) (q:=ar)) k 0 I M _ h gt;have z3:=Sat.tail (λh g=>Ly (X:=X) (ap:=z.ap) (ai:=z.ai) (H:=z.ap) (N:=(z.ai++[ar])) zm xO s.az _ h g) L;have z4:=Sat.tail acb z3;rw[<-akM al.ai,show((s.lets.length+1:Nat):Int)=((z.ai.length+1:Nat):Int) by rw[al.ai],PA]at z4;exact(show∀h,Sat _ h->Sat ([ab x 106 [ptr (X.bp j) 0],ab E 110 [ptr q 0],ab ef 87 (fO e),ab J 1 [bj I M],a7 X z.ap (z.ai++[ar]) j 0 k I M]++bl X {z with cI:=aI,cJ:=aQ,ai:=(z.ai++[ar])} {s with lets:=s.lets++[l],bc:=dT s.bc ((s.lets.length+1:Nat):Int) 1,trace:=s.trace++[({Th.c7 with kind:=2,id:=((s.lets.length+1:Nat):Int),cy:=l.cy,to:=l.to,name:=l.tag,n:=l.n,nj:=true}:bX)]}++D) h from by rw[show((z.ai.length+1:Nat):Int)=((s.lets.length+1:Nat):Int) by rw[al.ai]];exact(au)) h z4) (ax9 X {z with cI:=aI,cJ:=aQ,ai:=(z.ai++[ar])} {s with lets:=s.lets++[l],bc:=dT s.bc ((s.lets.length+1:Nat):Int) 1,trace:=s.trace++[({Th.c7 with kind:=2,id:=((s.lets.length+1:Nat):Int),cy:=l.cy,to:=l.to,name:=l.tag,n:=l.n,nj:=true}:bX)]} j y I M k q x E ef J e ((s.lets.length+1:Nat):Int) (h aI aQ))) bF) ?_
 exact BY
end
section
variable(X:cN)(z:dn)(s:ao)(j i n O dS d2 cn d3 aP ar U I:Nat)(M:List Value)(k:Th.K)(a q:Nat)(x:bR)(y:Option ao)
def ayb(ea:Option Addr)(cA:Nat)(ids:List Int)(v:Int)(Y:ids[i]?=some v)(r:0<=v)(t:bW)(al:bE X z s)(N:s.az[j]?=some t)(R:t.on=none):ad aa 346 acA ((ab O 3 [af i]::ab dS 188 rD::ab d2 3 [af n]::ab cn 255 [bj 346 l3]::ab d3 1 [bj I M]::abl)++bl X z s) (ct X (some {s with az:=s.az.set j {t with on:=some (.eS (r2 v),.each (.cancel ids) i n k)}})):=by
 refine aw Tryz.func346 λF D=>?_;have B:=(dc.1 Y).1;refine hU [9,12] [9] [(0,.bI),(1,.loc),(2,.loc),(3,.loc),(4,.loc),(5,.loc),(6,.loc),(7,.loc),(8,.loc),(11,.bI),(9,.c5),(10,.loc),(12,.c5)] [ab aP 106 eo,ab ar 32 [ptr X.h 0],ab U 49 [ul ea cA ids],fE ea cA ids,cL X z s] mixed gB ?_;refine cq ?_;refine aeb ?_;refine br (avT X s.bs v r) ?_;refine pr ?_;intro p;refine go_v rfl .none rfl Jk ?_;refine aT (iA (a7.eq_34 ..) (O,dS,d2,cn,d3,aP,ar,U,I,M,ea,cA) ⟨rfl,rfl⟩ (jK X z.ap z.ai s.az j p 208 sA t (.eS (r2 v)) (.each (.cancel ids) i n k) N R)) ?_;exact adU
def ayc(U I:Nat)(M:List Value)(k:Th.K)(ea:Option Addr)(cA:Nat)(due:List Int)(v:Int)(y:Option ao)(Y:due[i]?=some v)(h:ad aa 158 [ptr (X.bp j) 0,bw v,bj 208 sA] (a7 X z.ap z.ai j 0 (.each (.leave due) i n k) 208 sA::bl X z s) (ct X y)):ad aa 157 Qt ((ab O 3 [af i]::ab dS 188 rD::ab d2 3 [af n]::ab cn 255 [bj 157 tJ]::ab d3 1 [bj I M]::abT)++bl X z s) (ct X y):=by
 refine aw Tryz.func157 λF D=>?_;have B:=(dc.1 Y).1;refine cu [] [6,201] [ab aP 106 eo,ab ar 49 [ul ea cA due],fE ea cA due] ?_;refine b6 ?_;refine aeb ?_;refine br (iA (a7.eq_35 ..) (O,dS,d2,cn,d3,aP,ar,I,M,ea,cA) dI h) ?_;refine ps ?_;exact pq
def ayd(B:At X z.ap s.aJ a q x)(ak:i<4611686018427387904)(aj:i+1=x.id)(aF:hr X j z s QT 208 sA y):ad aa 403 Qt aay (ct X y):=by
 refine aw Tryz.func403 λF D=>?_;haveI:=B.vO;refine aeL ?_;refine bi ?_;refine br (iA (a7.eq_33 ..) (O,dS,d2,cn,d3,aP,ar,U,q,I,M) ⟨rfl,rfl,B.ap,rfl⟩ aF.spec) ?_;exact zw
def aye(B:At X z.ap s.aJ a q x)(ak:i<4611686018427387904)(aj:¬i+1=x.id)(h:ad aa 395 [ptr (X.bp j) 0,af (i+1:Nat),af x.id,bj 208 sA] (a7 X z.ap z.ai j 0 QT 208 sA::bl X z s) (ct X y)):ad aa 403 Qt aay (ct X y):=by
 refine aw Tryz.func403 λF D=>?_;haveI:=B.vO;refine aeL ?_;refine bB ?_;refine cu [] [8,201] [ab aP 110 [ptr q 0],ab ar 106 eo,ab U 1 [bj I M],ax jJ] ?_;refine bb ?_;refine go_v rfl .none rfl (fk (((i+1:Nat):Int)) eZ rfl rfl) ?_;refine bB ?_;refine br (iA (a7.eq_33 ..) (O,dS,d2,cn,d3,aP,ar,U,q,I,M) ⟨rfl,rfl,B.ap,rfl⟩ h) ?_;refine ps ?_;exact pq
end
section
variable(X:cN)(z:dn)(s:ao)(j a q p:Nat)(x:bR)(e:hR)(m:c9)(aC:hy)(y:Option ao)(I:Nat)(M:List Value)(k:Th.K)(aP ar U Z aO aU:Nat)
def as3{x:Int}(h:0<=x/\x<=18446744073709551615):IntKind.i64.wrap x=Th.qT x:=by
 unfold IntKind.wrap Th.qT;simp[IntKind.bits,IntKind.signed];omega
def ayf(hp:aC.out=0->aC.val=0)(Y:0<=aC.val/\aC.val<=18446744073709551615)(aA:∀p∈x.given,p.2.length<1099511627776)(T:qG oR oS (dU x.given m.who) w4=0)(h:ad aa 300 [ptr (X.bp j) 0,ptr q 0,.agg (iz m).toArray,af 3,bj I M] iJ (ct X y)):ad aa 302 sx aaM (ct X y):=by
 refine agR ?_;intro F D d ip;rw[show zz (min (max e.b8.limit 0) 100) (min (max e.b8.within 1) 4095) x.given m.who (Th.qT aC.val)=x.given from by simp[zz,T]];refine aG ?_;refine go_v rfl .none rfl (fC (c:=true) (by simp[T]) (qv rfl)) ?_;refine fr ?_;exact vl
def ayg(hp:aC.out=0->aC.val=0)(Y:0<=aC.val/\aC.val<=18446744073709551615)(aA:∀p∈x.given,p.2.length<1099511627776)(T:¬qG oR oS (dU x.given m.who) w4=0)(h:ad aa 300 [ptr (X.bp j) 0,ptr q 0,.agg (iz m).toArray,af 2,bj I M] (a7 X z.ap z.ai j 0 k I M::ia X z s a q {x with given:=zz oR oS x.given m.who w4} e) (ct X y)):ad aa 302 sx aaM (ct X y):=by
 refine agR ?_;intro F D d ip;refine aG ?_;refine go_v rfl .none rfl (fC (c:=false) (by simp[T]) (qv rfl)) ?_;exact afE
end
section
variable{P:Program}{f:FuncId}{args:List Value}
def xP{bv:Type}{p:bv->Prop}{A:bv->List aq}{a2:List aq}{post:Value->List aq->Prop}(h:∀i,p i->ad P f args (A i++a2) post):ad P f args (dj p A::a2) post:=λF D w s=>by
 obtain⟨i,ak,E⟩:=hd s.e4;exact h i ak F D w ⟨s.os,s.tape,s.output,s.size,by rw[jE];exact E⟩
def ay3{A B:aq}{a2:List aq}{post:Value->List aq->Prop}(h1:ad P f args (A::a2) post)(h2:ad P f args (B::a2) post):ad P f args (E2 A B::a2) post:=λF D w s=>by
 rcases SO s.e4 with E|E
 . exact h1 F D w ⟨s.os,s.tape,s.output,s.size,E⟩
 . exact h2 F D w ⟨s.os,s.tape,s.output,s.size,E⟩
end
section
variable{X:cN}{ap ai:List Nat}{j p f:Nat}{k:Th.K}{c:List Value}{a2:List aq}{post:Value->List aq->Prop}
def iU{bv:Type}{fM:bv->Prop}{l:bv->List aq}{a2:List aq}{post:Value->List aq->Prop}(e:a7 X ap ai j p k f c=dj fM l)(h:∀x,fM x->ad aa f c (l x++a2) post):ad aa f c (a7 X ap ai j p k f c::a2) post:=by
 rw[e];exact xP h
def ay4{a:Nat}{k:Th.K}{a2:List aq}{post:Value->List aq->Prop}(bh:∀(aP:Nat) (ar:Nat) (U:Nat) (z:Nat) (I:Nat) (M:List Value),ap[a -1]?=some z->ad aa 297 l3 abJ post)(h1:∀(aP:Nat) (ar:Nat) (U:Nat) (z:Nat) (I:Nat) (M:List Value),ap[a -1]?=some z->ad aa 244 l3 abJ post):ad aa f c (a7 X ap ai j p tP f c::a2) post:=by
 rw[a7];exact ay3 (xP (fun⟨aP,ar,U,z,I,M⟩ ⟨ba,a6,g⟩=>by subst ba;subst a6;exact bh aP ar U z I M g)) (xP (fun⟨aP,ar,U,z,I,M⟩ ⟨ba,a6,g⟩=>by subst ba;subst a6;exact h1 aP ar U z I M g))
def ay5(h:∀f:Nat,(f=235\/f=289\/f=168\/f=94\/f=159)->ad aa f [] a2 post):ad aa f c (a7 X ap ai j p .nil f c::a2) post:=by
 rw[a7];exact xP (λ_ ⟨ba,a6⟩=>by subst a6;exact h f ba)
theorem T7(k:Th.K)(p f:Nat)(c:List Value)(D:List aq)(h:eA)(s:Sat (a7 X ap ai j p k f c::D) h):e0 aa f:=by
 unfold a7 at s;split at s
 all_goals first
  |(obtain⟨_,⟨rfl,_⟩,_⟩:=hd s;exact fc)
  |(obtain⟨_,⟨ba,_⟩,_⟩:=hd s;rcases ba with rfl|rfl|rfl|rfl|rfl<;>exact fc)
  |(rcases SO s with s|s<;>(obtain⟨_,⟨rfl,_⟩,_⟩:=hd s;exact fc))
  |(obtain⟨_,h,_⟩:=hd s;exact False.elim h)
def uf{I f:Nat}{k:Th.K}{M args:List Value}{a2:List aq}{post:Value->List aq->Prop}(h:e0 aa I->ad aa f args Ju post):ad aa f args Ju post:=λF D w s=>h (T7 k p I M _ _ s.e4) F D w s
end
section
variable{P:Program}{f:FuncId}{args:List Value}{A:aq}{X:cN}{j:Nat}{z:dn}{s y:ao}{I:Nat}{M:List Value}{k:Th.K}{g:ao->bU->Th.K->Option ao}{a q b:Nat}{x:bR}{id:Int}{e:hR}{post:Value->List aq->Prop}
def jL{M I:List aq}{Q post:Value->List aq->Prop}(a:List aq)(h:ad P f args M Q)(i:∀h,Sat I h->Sat (M++a) h)(g:∀u H,Q u H->∃c,post u c/\∀h,Sat (H++a) h->Sat c h):ad P f args I post:=λF D w s=>
 (h F (a++D) w acO).mono λ_ _ ⟨v,H,e,p,s⟩=>let⟨c,S,O⟩:=g v H p;ack
def hv(X:cN)(j:Nat)(g:ao->bU->Th.K->Option ao):Prop:=∀(z:dn) (s:ao) (k:Th.K) (y:ao) (I:Nat) (M:List Value),bE X z s->g s Th.dF k=some y->ad aa I M (a7 X z.ap z.ai j 0 k I M::bl X z s) (ct X (some y))
def At.of{j a:Nat}{x:bR}(al:bE X z s)(b7:cQ X.C j s)(h:Th.dE s a=some x):∃q,At X z.ap s.aJ a q x:=by
 obtain⟨h1,B⟩:=b7.aJ a x h;unfold Th.dE at h;rw[bd h1]at h;have dV:=(dc.1 h).1;exact⟨_,cz (show a -1<z.ap.length by rw[al.ap];exact dV),h,B.id,h1,by have:=b7.na;omega⟩
def At.dE{X:cN}{ap:List Nat}{s:ao}{a q:Nat}{x:bR}(h:At X ap s.aJ a q x):Th.dE s a=some x:=by
 unfold Th.dE;rw[bd h.aW.1];exact h.ah
def At.qb{ap:List Nat}{s:ao}{j a q:Nat}{x:bR}(h:At X ap s.aJ a q x)(b7:cQ X.C j s):ff a x:=(b7.aJ a x h.dE).2
def CA{g8 x:bR}{e:hR}{post:Value->List aq->Prop}(B:At X z.ap s.aJ a q g8)(V:fT x e)(h:ad P f args (A::bl X z tO) post):ad P f args (A::ia X z s a q x e) post:=
 gq (λD h t=>Sat.tail (λh t=>jm B V D h t) t) h
def vI(B:At X z.ap s.aJ a q x)(V:fT x e)(h:ad P f args (A::bl X z s) post):ad P f args (A::ia X z s a q x e) post:=
 CA B V (by rw[sF B];exact h)
def ay6(B:At X z.ap s.aJ a q x)(V:fT x e)(h:ad P f args (bl X z s) post):ad P f args vf post:=
 gq (λD h t=>by have:=jm B V D h t;rw[sF B]at this;exact this) h
def ay7(B:At X z.ap s.aJ a q x)(h:∀e,fT x e->ad P f args vf post):ad P f args (bl X z s) post:=by
 have h2:ad P f args (ft::bl X z s) post:=qZ B λe V=>gq (λD h t=>Sat.drop t) (h e V);exact gq (λD h t=>x8 h t) h2
def FC{p b a:Nat}{V:gw}(J:X.C.ok)(C:hv X j g)(al:bE X z s)(aW:a<=X.C.aZ)(aL:Th.c6 k)(ag:Th.ot X.C g j s kH a k=some y):ad aa 167 [ptr (X.bp j) 0,ptr p 0,af a,bj I M] acU dX:=by
 refine uf λba=>?_;simp only[Th.ot]at ag;split at ag
 . rename_i h
   obtain⟨t,N,R,rfl⟩:=Th.jY ag;by_cases l:V.out=7
   . refine aw Tryz.func167 λF D=>?_
     haveI:=gf (X:=X) (ap:=z.ap) (ai:=z.ai) N;haveI:=sH (X:=X) (ap:=z.ap) (ai:=z.ai) N;have n:=J.hg;refine BS ?_;refine cP ?_;refine c0 ?_;exact agO
   . have h:V.out=8:=ae
     refine aw Tryz.func167 λF D=>?_;haveI:=gf (X:=X) (ap:=z.ap) (ai:=z.ai) N;haveI:=sH (X:=X) (ap:=z.ap) (ai:=z.ai) N;have n:=J.hg;refine afV ?_;refine bB ?_;exact agO
 . rename_i h
   have l:¬V.out=7:=ae;have O:¬V.out=8:=ae;have aF:hr X j z s k I M (some y):=sD;refine aw Tryz.func167 λF D=>?_;haveI:=aF.iT;refine afV ?_;refine bQ ?_;refine br (aF.spec) ?_;exact Kf
def T8{l:cW}(al:bE X z s)(ag:Th.Ce j s l k=some y):ad aa 93 [ptr (X.bp j) 0,.agg (py l).toArray,bj I M] la dX:=by
 obtain⟨t,N,R,rfl⟩:=Th.jY ag;exact jL PJ (avR X z s j t l I M k N R) au (λu H q=>by
  obtain⟨rfl,rfl⟩:=q;exact⟨bl X z acC,⟨rfl,z,acC,rfl,jl,rfl⟩,au⟩)
def akY(J:X.C.ok)(al:bE X z s)(ag:Th.ua X.C j s a b k=some y):ad aa 395 [ptr (X.bp j) 0,af a,af b,bj I M] la dX:=by
 unfold Th.ua at ag;split at ag
 . rename_i a6
   obtain⟨t,N,R,rfl⟩:=Th.jY ag;exact jL (dP z.cI z.cJ s.trace::fl z.na z.fq s.notes::b3 X.am .i64 (cf z.ap)::ax jJ::b3 X.e6 .u64 (cf z.ai)::ax k9::Lg.ds X.ld s.bc::ez X.da X.C.dG s.dead::ch X.m s.L z.tt::fA X::fw X s.bs::ax (dZ X)::fu X::IQ) (avO X z s j t a b I M k J ⟨a6.1,a6.2.1⟩ ⟨a6.2.2.1,a6.2.2.2⟩ N R) au (λu H q=>by
    obtain⟨rfl,rfl⟩:=q;exact⟨bl X z abA,⟨rfl,z,abA,rfl,jl,rfl⟩,au⟩)
 . cases ag
theorem ay8{e:fv}(al:bE X z s)(bm:z.ap[a -1]?=some q)(cx:0<=id)(ag:Th.K6 j s a id e k=some y):ad aa 345 acN la dX:=by
 obtain⟨t,N,R,rfl⟩:=Th.jY ag;exact jL (dP z.cI z.cJ s.trace::fl z.na z.fq s.notes::b3 X.am .i64 (cf z.ap)::ax jJ::b3 X.e6 .u64 (cf z.ai)::ax k9::Lg.ds X.ld s.bc::ez X.da X.C.dG s.dead::ch X.m s.L z.tt::fA X::aa4) (avU X z s j t a q id e I M k bm cx N R) au (λu H q=>by
  obtain⟨rfl,rfl⟩:=q;exact⟨bl X z abX,⟨rfl,z,abX,rfl,jl,rfl⟩,au⟩)
def akZ(al:bE X z s)(b7:cQ X.C j s)(B:At X z.ap s.aJ a q x)(ag:Th.vD j s a=some y):ad aa 232 qz (bl X z s) dX:=by
 obtain⟨t0,i,hO⟩:=b7.jW;simp only[Th.vD,B.dE,bind,Option.bind]at ag;split at ag
 . rename_i bf
   cases ag;exact jL PD (avV X z s j t0 a q x B bf) au (λu H q=>by
    obtain⟨rfl,rfl⟩:=q;exact⟨bl X z s,⟨rfl,z,s,rfl,al,rfl⟩,au⟩)
 . rename_i bf
   obtain⟨t,N,R,rfl⟩:=Th.jY ag;exact jL IK (avW X z s j t a q x B bf N R) au (λu H q=>by
    obtain⟨rfl,rfl⟩:=q;exact⟨bl X z abF,⟨rfl,z,abF,rfl,jl,rfl⟩,au⟩)
def ak0(al:bE X z s)(B:At X z.ap s.aJ a q x)(ag:Th.Cg j s a=some y):ad aa 139 qz (bl X z s) dX:=by
 obtain⟨t,N,R,rfl⟩:=Th.jY ag;exact jL IK (avH X z.ap z.ai s.aJ s.az j a q x t B N R) au (λu H q=>by
  obtain⟨rfl,rfl⟩:=q;exact⟨bl X z acq,⟨rfl,z,acq,rfl,jl,rfl⟩,au⟩)
def ar6(al:bE X z s)(B:At X z.ap s.aJ a q x)(ag:Th.ew j s (.post a (Th.nR 2)) (.run a)=some y):ad aa 84 qz (bl X z s) dX:=by
 obtain⟨t,N,R,rfl⟩:=Th.jY ag;exact jL IK (avI X z.ap z.ai s.aJ s.az j a q x t B N R) au (λu H q=>by
  obtain⟨rfl,rfl⟩:=q;exact⟨bl X z aco,⟨rfl,z,aco,rfl,jl,rfl⟩,au⟩)
def T9(al:bE X z s)(B:At X z.ap s.aJ a q x)(ag:Th.ew j s EE (.kW a k)=some y):ad aa 360 lK la dX:=by
 obtain⟨t,N,R,rfl⟩:=Th.jY ag;exact jL IK (axf X z s j t a q x B I M k N R) au (λu H q=>by
  obtain⟨rfl,rfl⟩:=q;exact⟨bl X z acj,⟨rfl,z,acj,rfl,jl,rfl⟩,au⟩)
def ay9{slot:Nat}{kind:cC}(al:bE X z s)(bm:z.ap[a -1]?=some q)(ag:Th.ew j s (.add 1 1) (.me a kind slot k)=some y):ad aa 343 [ptr (X.bp j) 0,ptr q 0,af slot,S kind,bj I M] la dX:=by
 obtain⟨t,N,R,rfl⟩:=Th.jY ag;exact jL PJ (avS X z s j t a q slot kind I M k bm N R) au (λu H q=>by
  obtain⟨rfl,rfl⟩:=q;exact⟨bl X z acf,⟨rfl,z,acf,rfl,jl,rfl⟩,au⟩)
theorem ak1(J:X.C.ok)(C:hv X j g)(al:bE X z s)(b7:cQ X.C j s)(ag:Th.rN X.C g j s id k=some y):ad aa 158 [ptr (X.bp j) 0,bw id,bj I M] la dX:=by
 refine uf λba=>?_;obtain⟨t0,i,hO⟩:=b7.jW;unfold Th.rN at ag;cases av:Th.jX s id with
 |none=>rw[av]at ag;cases ag
 |
  some l=>
  rw[av]at ag;simp only[bind,Option.bind]at ag;obtain⟨q,K⟩:=hG.of al av;split at ag
  . rename_i bh
    cases hk:Th.kill id 3 s with
    |none=>rw[hk]at ag;cases ag
    |
     some s1=>
     rw[hk]at ag;obtain⟨g6,W,aL,o,_,rfl⟩:=Th.zR hk;obtain rfl:l=g6:=by rw[av]at W;cases W;rfl
     have aE:X.C.dG<=64:=J.sY;have aM:s.bc.length<=most:=b7.mh;have aF:∀cj,bE X cj (kk s id l.to 3)->hr X j cj (kk s id l.to 3) k I M (some y):=(λcj d7=>⟨ba,C cj _ k y I M d7 ag⟩);refine aw Tryz.func158 λF D=>?_;haveI:=gf (X:=X) (ap:=z.ap) (ai:=z.ai) i;haveI:=K.rd (bO:=1) (v:=af l.to) rfl;refine bb ?_;refine wn λZ=>?_;refine wn λaO=>?_;refine wn λaU=>?_;refine b6 ?_;refine il [16,17,18,19] [16,17,18] abK aa7 ?_;refine dC ?_;refine jF rfl .none rfl QZ (au) ?_;refine b6 ?_;refine fe ?_ ?_
     ·
      refine wn λaS=>?_;refine aG ?_;refine wn λbY=>?_;refine cv ?_;refine cP ?_;refine cq ?_;refine ci rfl ac8 ?_;rintro _ D ⟨_,⟨rfl,a,c,rfl⟩,rfl⟩
      try simp only[cp,cm]
      haveI:=(aF Eh jl).iT;refine bB ?_;refine br acz ?_;rintro _ _ ⟨rfl,cj,aD,ah,d7,rfl⟩;refine et ?_;refine bB ?_;exact aX BM
     ·
      refine wn λbY=>?_;refine aG ?_;refine wn λaS=>?_;refine cv ?_;refine cP ?_;refine cq ?_;refine ci rfl ac8 ?_;rintro _ D ⟨_,⟨rfl,a,c,rfl⟩,rfl⟩
      try simp only[cp,cm]
      haveI:=(aF Eh jl).iT;refine bB ?_;refine br acz ?_;rintro _ _ ⟨rfl,cj,aD,ah,d7,rfl⟩;refine et ?_;refine bB ?_;exact aX BM
  . split at ag
    . rename_i Q
      obtain⟨t,N,R,rfl⟩:=Th.jY ag;exact jL (dP z.cI z.cJ s.trace::fl z.na z.fq s.notes::b3 X.am .i64 (cf z.ap)::ax jJ::aaP) (avX X z s j t id q l K I M k Q J.hg N R) au (λu H q=>by
       obtain⟨rfl,rfl⟩:=q;exact⟨bl X z abR,⟨rfl,z,abR,rfl,jl,rfl⟩,au⟩)
    . cases ag
def aza{who:Nat}{x:bR}(J:X.C.ok)(al:bE X z s)(B:At X z.ap s.aJ a q x)(ag:Th.xF X.C j s a who k=some y):ad aa 348 [ptr (X.bp j) 0,ptr q 0,af who,bj I M] la dX:=by
 obtain rfl:a=x.id:=B.cx.symm;simp only[Th.xF,B.dE,bind,Option.bind]at ag;split at ag
 . rename_i O
   obtain⟨t,N,R,rfl⟩:=Th.jY ag;refine qZ B λe V=>?_;have h2:=axu X z s j t x.id q x e al B V I M k who J O N R;exact h2
 . cases ag
def Ua(J:X.C.ok)(C:hv X j g)(al:bE X z s)(b7:cQ X.C j s)(B:At X z.ap s.aJ a q x)(ag:Th.qR X.C g j s a k=some y):ad aa 241 lK la dX:=by
 refine uf λba=>?_;obtain⟨t0,i,hO⟩:=b7.jW;have O:=B.qb b7;simp only[Th.qR,B.dE,bind,Option.bind]at ag;refine qZ B λe V=>?_;split at ag
 . rename_i bf
   by_cases bu:x.mode=4
   . exact axc X z s j t0 a q x e al B V I M k (some y) bu sD
   . exact axd X z s j t0 a q x e al B V I M k (some y) ae sD
 . rename_i bf
   cases R:Th.tell (Qg:bX) (Th.dd s a BB)with
   |none=>rw[R]at ag;cases ag
   |
    some s1=>
    rw[R]at ag;obtain⟨o,rfl⟩:=Th.li R;replace o:s.trace.length<most:=o;refine axe X z s j t0 a q x e al B V I M k (some y) J b7.notes o i hO (xq O.kids) ae ae (λaI aQ cs bh=>?_) (λv Y=>?_)
    . rcases Th.Cm ag with⟨_,ag⟩|⟨b,t,h1,_⟩
      . exact⟨fc,C _ _ _ y _ cs ⟨al.gL,al.gD,al.gE,by show _=(s.aJ.set _ _).length;rw[gn];exact al.ap,al.ai⟩ ag⟩
      . exfalso;omega
    . rcases Th.Cm ag with⟨bh,ag⟩|⟨b,t,h1,h2,aN,bu,dW,rfl⟩
      . exfalso;have:=(dc.1 Y).1;omega
      . rw[Y]at h2;cases h2
        replace bu:s.az[j]?=some t:=bu;rw[i]at bu;cases bu;exact⟨b,rfl,aN,rfl⟩
def Ub{reason:cC}(J:X.C.ok)(C:hv X j g)(al:bE X z s)(b7:cQ X.C j s)(B:At X z.ap s.aJ a q x)(ag:Th.rO X.C g j s a reason k=some y):ad aa 296 I7 la dX:=by
 obtain rfl:a=x.id:=B.cx.symm;obtain⟨t0,i,hO⟩:=b7.jW;have O:=B.qb b7;simp only[Th.rO,B.dE,bind,Option.bind]at ag;cases R:Th.tell (P8:bX) (Th.dd s x.id rH)with
 |none=>rw[R]at ag;cases ag
 |
  some s1=>
  rw[R]at ag;obtain⟨o,rfl⟩:=Th.li R;replace o:s.trace.length<most:=o;simp only at ag;refine qZ B λe V=>?_;split at ag
  . rename_i bh
    refine axh X z s j t0 x.id q x e al B V I M k (some y) reason bh (λaI aQ=>?_) o i hO;refine CA (x:={x with mode:=2}) (B:At X _ _ x.id q x) ⟨V.b8,V.lc,V.es⟩ ?_;have v:cQ X.C j (Th.dd Bz x.id rH):=(b7.Ae (aD:=Bz) rfl Th.dM.same rfl rfl rfl Bx b7.ns.2).set (x:=rH) B.aW.1 ⟨O.id,O.kids,O.qV⟩;exact Ua (z:=h3) (s:=Th.dd Bz x.id rH) (x:=rH) J C ⟨al.gL,al.gD,al.gE,by show _=(s.aJ.set _ _).length;rw[gn];exact al.ap,al.ai⟩ v (At.set (n:=rH) B rfl) ag
  . rename_i bh
    obtain⟨aM,b,t,N,m0,rfl⟩:=Th.zS ag;replace N:s.az[j]?=some t:=N;have h2:=axi X z s j t x.id q x e al B V I M k none reason bh J aM b o N m0;exact h2
end
end Go.Proofs.YtnnhpnccfnghdaaGreat.L.bH
namespace Go.L
open Go
section
variable{P:Program}{F w:World}{n:Nat}{I:eT}{M:List aq}{bD:TypeId}
section
variable{t e:TypeId}{len:Nat}{x:Operand}
def amQ{U:List Value}(h1:P.underlying t=some (.array len e))(aN:∃i,P.info? e=some i)[i:eY P t U]:b0 P F n (.build t #[]) bD I M (.agg U.toArray):=λa w d pos J g aj _=>by
 obtain⟨z,E,W,Z,d8⟩:=i.out;obtain⟨b,cS⟩:=aN;simp only[execOp,Instr.build];simp[vV W Z,gH h1,jM cS,d8,Instr.fill]
def Ma{b o len aY:Nat}(h1:P.underlying t=some (.array len e))(aN:∃i,P.info? e=some i/\i.size=aY)(ah:ck I x=some (ptr b o)):b0 P F n (.slice t x none none none) bD I M (.slice (some ⟨b,o,none⟩) len len):=λaI w d pos J g aj _=>by
 obtain⟨z,W,Z⟩:=aN;simp only[execOp,Gk,aj.eval ah];simp[Instr.sliceAt,gH h1,jM W,Instr.sureAddr,asAddr,Instr.sliceBounds,Instr.sliceBound,asIntOf,Addr.add]
theorem Vb{y:Operand}{E:Value}{r:Nat}{k:lo}{m:List yb}{u:List yb->List aq}(v:Value)[i:CU P t E][j:uo r M m u](Y:(uq m k).getD E=v)(h:ck I x=some vW)(ag:ck I y=some (oA k)):
 b0 P F n (.lookup t x y false) bD I M v:=Y▸amR (i:=i) (j:=j) h ag
end
end
section
variable{P:Program}{E:Array Oper}{cR R:List Nat}{Z:Act->World->Prop}{C:World->Prop}
variable{F:World}{n:Nat}{I:eT}{M H N:List aq}{Q:Exit->Act->World->Prop}{op:Op}{bD:TypeId}{pos:String}{J:Array Edge}{g:Option (Nat×Bool)}{i:Nat}{U:List (Nat×mQ)}
def go_n0{p:Value->List aq->Prop}(aK:E[i]?=some Mb)(O:hY E I g true)(Y:c4 P F n op bD I M p)(h:∀v H,p v H->CV/\cY P F n E R U I H N Z):cY P F n E R ((i,.c5)::U) I M N Z:=
 λa w aj s=>by
  obtain⟨v,H,X,aE,hp,aD⟩:=Y a w none pos J g aj s;simp only[oB,aK,hY.wanted (o:=⟨none,op,bD,pos,J,g⟩) O aj,fi,Oper.wp,aE,Oper.upon];exact⟨λC=>aD.imp CW,(h v H hp).2 _ _ aj aD⟩
end
end Go.L
namespace Go.Proofs.YtnnhpnccfnghdaaGreat.L.bH
open Go.Proofs.YtnnhpnccfnghdaaGreat.L
open Go.L Go.L.Ring Go.L.dq Go.L.dR Go.L.Whl Go.L.dA Go.L.Lx Go.L.Pg
open Go.L.Led (dg du dT bs av e8)
open Go.L.Th (bt cW c9 bX dt bR bU ev bW ao most dU cQ ff eD dM In cV c6 eE bx bM eF eG bk cG dw go bq Good eb eH dQ acc Inv eh er e3 busy cZ ek dN fa)
attribute[local irreducible] G cE GE cY GT b0 df c4 di Exit.then Exit.inBlock
section
variable(l:List Int)(X:cN){k V:b2}(z:dn)(s:ao)(j:Nat)(t:bW)(a q:Nat)(x:bR)(e:hR)(m:c9)
def akN(k:b2)(st tag:cC)(n:Int):Th.rowOf (dr k) st tag n=(Th.rowOf k st tag n).map mP:=by
 unfold Th.rowOf;show((k.states.map jf).find? _).bind _=_;rw[List.find?_map];have e:((λs:fN=>decide (s.name=st))∘jf)=λs=>decide (s.name=st):=rfl;rw[e];cases k.states.find? (λs=>decide (s.name=st))with
 |none=>rfl
 |
  some s=>
  show((s.rows.map mP).find? (Th.qc tag n))=((s.rows.find? (Th.qc tag n)).map mP);rw[List.find?_map];rfl
def ayh(h:dr k=dr V)(st tag:cC)(n:Int):Th.kY k st tag n=Th.kY V st tag n:=by
 have e:(Th.rowOf k st tag n).map mP=(Th.rowOf V st tag n).map mP:=by rw[<-akN,<-akN,h]
 unfold Th.kY;cases h1:Th.rowOf k st tag n with
 |
  none=>
  cases h2:Th.rowOf V st tag n with
  |none=>rfl
  |some m=>rw[h1,h2]at e;cases e
 |
  some r=>
  cases h2:Th.rowOf V st tag n with
  |none=>rw[h1,h2]at e;cases e
  |
   some m=>
   rw[h1,h2]at e;simp only[nJ,Option.some.injEq]at e;have aV:(mP r).cw=(mP m).cw:=congrArg Row.cw e;replace aV:r.cw=m.cw:=aV;simp only[aV]
def ayi(h:dr k=dr V)(r:cC):Th.direct k r=Th.direct V r:=by
 have e:k.cases=V.cases:=(congrArg b2.cases h:(dr k).cases=(dr V).cases);unfold Th.direct;rw[e]
def akO(h:dr k=dr V):k.limit=V.limit/\k.within=V.within/\k.name=V.name:=
 ⟨(congrArg b2.limit h:(dr k).limit=(dr V).limit),(congrArg b2.within h:(dr k).within=(dr V).within),(congrArg b2.name h:(dr k).name=(dr V).name)⟩
def TZ(h:dr k=dr V){st:fN}(aj:V.states[0]?=some st):∃b,k.states[0]?=some b/\b.name=st.name:=by
 have e:k.states.map jf=V.states.map jf:=(congrArg b2.states h:(dr k).states=(dr V).states);have ay:(k.states.map jf)[0]?=some (jf st):=by rw[e,fs,aj];rfl
 rw[fs]at ay;cases h2:k.states[0]?with
 |none=>rw[h2]at ay;cases ay
 |
  some b=>
  rw[h2]at ay;simp only[nJ,Option.some.injEq]at ay;exact⟨b,rfl,(congrArg fN.name ay:(jf b).name=(jf st).name)⟩
def del_eq(x:Int):l.filter (λy=>!decide (y=x))=Th.del l x:=by
 unfold Th.del;congr 1;funext y;simp
theorem ayj(g8 x:bR)(e:hR)(ka:Option Addr)(kc:Nat)(l:List Int)(what:Int)(k:Th.K)(I:Nat)(M:List Value)(y:Option ao)(B:At X z.ap s.aJ a q g8)(V:fT x e)(al:bE X z tO)(J:X.C.ok)(aM:s.notes.length<most)(N:s.az[j]?=some t)(R:t.on=none)(hlen:l.length<=1099511627776)
 (f:0=l.length->hr X j z tO k I M y)(g3:∀v:Int,l[0]?=some v->∃b:Nat,v=b/\Ey/\y=some (jk tO j t b ⟨what,0,[]⟩ (.each w1 0 l.length k))):
 ad aa 243 [ptr (X.bp j) 0,hN ka kc l,af what,bj I M] (a7 X z.ap z.ai j 0 k I M::dz ka kc l::ia X z s a q x e) (ct X y):=
 gq (λD h E=>Sat.tail (λh E=>Sat.tail (λh E=>cF (fM:=λ_:Unit=>True) (l:=λ_=>ia X z s a q x e) () trivial qB h E) E) E)
  (akD X z tO j ka kc l what k I M t y (eW vf) al J aM N R hlen (fun D h E => by
   obtain⟨_,_,L⟩:=hd (Sat.swap E);exact jm B V D h (Sat.drop (Fy vf L))) f g3)
def ayk(al:bE X z s)(B:At X z.ap s.aJ a q x)(V:fT x e)(I:Nat)(M:List Value)(k:Th.K)(y:Option ao)(hk:x.kids.length=0)(bf:x.mode=3)(st:fN)(g4:e.b8.states[0]?=some st)(aE:s.bc.length<=most)(h1:x.aside.length<=1099511627776)(h2:x.front.length<=1099511627776)(o:s.trace.length<most)(N:s.az[j]?=some t)(aF:∀aI aQ,hr X j {z with cI:=aI,cJ:=aQ} (Th.dd PW a P1) k I M y):ad aa 245 lK iJ (ct X y):=by
 refine aw Tryz.func245 λF D=>?_;haveI:=gf (X:=X) (ap:=z.ap) (ai:=z.ai) N;refine nu (iV (e:=3) (aY:=1)) ?_;have g0:0<e.b8.states.length:=(dc.1 g4).1;have cx:=B.cx;refine agu ?_;refine wn λaS=>?_;refine c8 ?_;refine aB rfl (fI rfl rfl (show 0<e.b8.states.length by omega)) ?_;refine aG ?_;refine aB rfl (gz rfl (rT gy 2 rf g4 rfl)) ?_;refine aB rfl (amQ Tryz.underlying111 (let⟨i,a,_⟩:=HW Od;⟨i,a⟩)) ?_;refine eJ ?_;refine aT (akJ X z s j t q Ej Et s.bc aE h1 h2 N) ?_;refine c8 ?_;refine cu [] [9,201] (ab q 118 ((eg X Ej Et).set (0+13) (af 1))::qy) ?_;refine cv ?_;refine br (l6 X z s (PX:bX) o) ?_;refine l5 ?_;intro aI aQ;haveI:=(aF aI aQ).iT;refine cq ?_;refine br (gq (H:=(a7 X z.ap z.ai j 0 k I M::ab q 118 (eg X P1 Et)::dz e.ka e.kc x.kids::dz none 0 []::gi e.gK X.C.dY [] (x.front++x.aside.reverse)::h8 e.jx oR oS x.given::b3 e.gQ .i64 tI::jd e.jy (h9 e.es)::ax (iy e.es)::gO e.b8::ax wY::cL X h3 PW::dP aI aQ (s.trace++[(PX:bX)])::aat)) (λD h E=>Sat.tail (λh E=>jm (X:=X) (z:=h3) (s:=PW) (x:=P1) (e:=Et) B pk D h E) E) (aF aI aQ).spec) ?_;exact zw
def akP(aS:Nat)(m:c9)(v:Int):ad aa 246 ([af v]++[ptr aS 0]) [ab aS 261 (iz m)] (aH (.bool (decide (v=m.who))) [ab aS 261 (iz m)]):=by
 refine aw Tryz.func246 λF D=>?_;exact ru
def ayl(B:At X z.ap s.aJ a q x)(V:fT x e)(I:Nat)(M:List Value)(k:Th.K)(y:Option ao)(O:m.what=2)(bf:x.mode=2)(al:bE X z s)(J:X.C.ok)(aM:s.notes.length<most)(o:s.trace.length<most)(N:s.az[j]?=some t)(R:t.on=none)(hlen:x.cM.length<=1099511627776)(f:∀(aI:Option Addr) (aQ:Nat),0=x.cM.length->hr X j h3 PZ k I M y)(g3:∀v:Int,x.cM[0]?=some v->∃b:Nat,v=b/\Ey/\y=some (jk PZ j t b ⟨2,0,[]⟩ (.each (.push x.cM 2) 0 x.cM.length k))):ad aa 197 sy iJ (ct X y):=by
 refine aw Tryz.func197 λF D=>?_;haveI:=gf (X:=X) (ap:=z.ap) (ai:=z.ai) N;refine nu (iV (e:=3) (aY:=1)) ?_;have cx:x.id=a:=B.cx;have d:∀aI aQ,bE X {z with cI:=aI,cJ:=aQ} PZ:=λaI aQ=>⟨al.gL,al.gD,al.gE,by show _=(s.aJ.set _ _).length;rw[gn];exact al.ap,al.ai⟩;refine ag1 ?_;intro aO aU aS bY;refine JQ ?_;refine fW ?_;refine cu [] [9,201] (ab aO 106 eo::ab aU 110 [ptr q 0]::ab q 118 ((eg X x e).set (0+13) (af 1))::qy) ?_;refine cv ?_;refine br (l6 X z s (Qf:bX) o) ?_;refine l5 ?_;intro aI aQ;refine gg ?_;refine bK ?_;refine br (gq (λD h E=>(au) h E) (ayj X h3 abf j t a q x P0 Et e.hP e.hQ x.cM 2 k I M y B pk (d aI aQ) J aM N R hlen (f aI aQ) g3)) ?_;refine ps ?_;exact pq
def aym(t:bW)(a q:Nat)(x:bR)(e:hR)(m:c9)(B:At X z.ap s.aJ a q x)(V:fT x e)(I:Nat)(M:List Value)(k:Th.K)(y:Option ao)(O:m.what=4)(b:x.kids.length<=1099511627776)(c:x.cM.length<=1099511627776)(h:∀aV,fT {x with kids:=Th.del x.kids m.who,cM:=Th.del x.cM m.who,given:=Th.p1 x.given m.who} aV->ad aa 245 lK (a7 X z.ap z.ai j 0 k I M::ia X z s a q abQ aV) (ct X y)):ad aa 197 sy iJ (ct X y):=by
 refine aw Tryz.func197 λF D=>?_;refine ag5 ?_;intro aO aU aS bY;refine nI ?_;refine c0 ?_;refine cu [6] [101,5,201,2,201] [ab aU 110 [ptr q 0],ab aS 261 (iz m),ab q 118 (eg X x e)] ?_;refine bi ?_;refine go_c rfl .none rfl (b1 rfl ((by have bh:=KE x.kids e.ka e.kc 246 [ptr aS 0] [ab aS 261 (iz m)] (λy=>decide (y=m.who)) b (λv _=>akP aS m v);rw[del_eq]at bh;exact bh)) bF) ?_;refine EN ?_;refine cu [6] [101,5,201,2,201] [ab aU 110 [ptr q 0],ab aS 261 (iz m),ab q 118 ((eg X x e).set (0+12) (hN e.ka e.kc (Th.del x.kids m.who)))] ?_;refine bi ?_;refine go_c rfl .none rfl (b1 rfl ((by have bh:=KE x.cM e.hP e.hQ 246 [ptr aS 0] [ab aS 261 (iz m)] (λy=>decide (y=m.who)) c (λv _=>akP aS m v);rw[del_eq]at bh;exact bh)) bF) ?_;refine EN ?_;refine cu [] [6,201] [ab aU 110 [ptr q 0],ab aS 261 (iz m),ab q 118 (((eg X x e).set (0+12) (hN e.ka e.kc (Th.del x.kids m.who))).set (0+17) (hN e.hP e.hQ (Th.del x.cM m.who)))] ?_;refine bi ?_;refine aT (atn e.jx oR oS m.who x.given) ?_;refine cq ?_;refine br (h e pk) ?_;refine ps ?_;exact pq
end
section
variable{X:cN}{j:Nat}{z:dn}{s y:ao}{I:Nat}{M:List Value}{k:Th.K}{g:ao->bU->Th.K->Option ao}{a q:Nat}{x:bR}{m:c9}
def azb(J:X.C.ok)(al:bE X z s)(b7:cQ X.C j s)(B:At X z.ap s.aJ a q x)(ag:Th.zQ j s a k=some y):ad aa 306 lK la dX:=by
 have O:=B.qb b7;simp only[Th.zQ,B.dE,bind,Option.bind]at ag;rw[Th.ajU]at ag;obtain rfl:a=x.id:=B.cx.symm;cases hk:Th.jz 2 (x.front.reverse++x.aside) s with
 |none=>rw[hk]at ag;cases ag
 |
  some s1=>
  rw[hk]at ag;simp only[Option.map]at ag;obtain⟨⟨dp,d1,t1,rfl⟩,g,c,d,p,f⟩:=Th.Lc hk;obtain⟨t,N,R,rfl⟩:=Th.jY ag;replace N:s.az[j]?=some t:=N;have L:=O.qV;have m9:most=1099511627776:=rfl;have o:=b7.ns;have hlen:(x.front.reverse++x.aside).length=x.front.length+x.aside.length:=ga;have m7:s.trace.length+(x.front.reverse++x.aside).length<=most/\s.dead.length+(x.front.reverse++x.aside).length<=most:=by
   by_cases bh:(x.front.reverse++x.aside)=[]
   . rw[bh];exact o
   . have:=f bh;rw[d,p];exact this
  refine qZ B λe V=>?_;refine jL (dz e.ka e.kc x.kids::dz e.hP e.hQ x.cM::h8 e.jx oR oS x.given::b3 e.gQ .i64 tI::jd e.jy (h9 e.es)::ax (iy e.es)::gO e.b8::ax ((e5 X z.ap s.aJ).set (x.id -1) ft)::fl z.na z.fq s.notes::b3 X.am .i64 (cf z.ap)::aaz) (axk X z s j t q x e I M k J.sY B.ap B.aW (λid cx=>(c id cx).elim λl av=>(hG.of al av).elim λq bm=>⟨q,l,bm⟩) m7.1 m7.2 b7.mh (show x.aside.length<=1099511627776 by omega) (show x.front.length<=1099511627776 by omega) (show(x.front.reverse++x.aside).length<=1099511627776 by omega) N R) au (λu H n=>?_);obtain⟨rfl,aI,aQ,aD,b,rfl⟩:=n;rw[hk]at b;cases b;exact⟨bl X {z with cI:=aI,cJ:=aQ} (Th.dd {s with bc:=dp,dead:=d1,trace:=t1,az:=s.az.set j {t with on:=some (.post x.id Th.Cl,.closed x.id k)}} x.id {x with front:=[],aside:=[]}),⟨rfl,{z with cI:=aI,cJ:=aQ},_,rfl,⟨al.gL,al.gD,al.gE,by show _=(s.aJ.set _ _).length;rw[gn];exact al.ap,al.ai⟩,rfl⟩,λh E=>jm (X:=X) (z:={z with cI:=aI,cJ:=aQ}) (s:={s with bc:=dp,dead:=d1,trace:=t1,az:=s.az.set j {t with on:=some (.post x.id Th.Cl,.closed x.id k)}}) (x:={x with front:=[],aside:=[]}) (e:=e) B ⟨V.b8,V.lc,V.es⟩ [] h ((au) h E)⟩
def Uc{d:Int}(J:X.C.ok)(C:hv X j g)(al:bE X z s)(b7:cQ X.C j s)(B:At X z.ap s.aJ a q x)(K:0<=m.who)(r:x.cM.length+1<most)(ag:Th.p7 X.C g j s a m d k=some y):ad aa 300 [ptr (X.bp j) 0,ptr q 0,.agg (iz m).toArray,af d,bj I M] la dX:=by
 have O:=B.qb b7;obtain⟨l,who,reason⟩:=m;obtain⟨b,rfl⟩:∃b:Nat,who=b:=⟨who.toNat,by have:0<=who:=K;omega⟩;obtain rfl:a=x.id:=B.cx.symm;obtain⟨t0,i,hO⟩:=b7.jW;unfold Th.p7 at ag;cases R:Th.tell ({Th.c7 with kind:=10,dL:=(b:Int),cy:=x.id,why:=d,name:=reason}:bX) s with
 |none=>simp only[R,bind,Option.bind]at ag;cases ag
 |
  some s1=>
  simp only[R,bind,Option.bind]at ag;obtain⟨o,rfl⟩:=Th.li R;split at ag
  . rename_i aL
    subst aL;obtain⟨aM,aA,t,N,w,rfl⟩:=Th.zS ag;replace N:s.az[j]?=some t:=N;exact jL PK (axl X z s j t x.id q b x B l reason I M k aA J.hg o aM N w) au (λu H q=>by
     obtain⟨rfl,aI,aQ,cD,bn,rfl⟩:=q;exact⟨bl X sz aaC,⟨rfl,sz,aaC,rfl,jl,rfl⟩,au⟩)
  . rename_i Z
    split at ag
    . rename_i aL
      subst aL;obtain⟨aM,aA,t,N,w,rfl⟩:=Th.zS ag;replace N:s.az[j]?=some t:=N;exact jL PK (axm X z s j t x.id q b x B l reason I M k aA J.hg o aM N w) au (λu H q=>by
       obtain⟨rfl,aI,aQ,cD,bn,rfl⟩:=q;exact⟨bl X sz aaD,⟨rfl,sz,aaD,rfl,jl,rfl⟩,au⟩)
    . rename_i f
      split at ag
      . rename_i aL
        subst aL;obtain⟨aM,aA,t,N,w,rfl⟩:=Th.zS ag;replace N:s.az[j]?=some t:=N;exact jL PK (axn X z s j t x.id q b x B l reason I M k aA J.hg o aM N w) au (λu H q=>by
         obtain⟨rfl,aI,aQ,cD,bn,rfl⟩:=q;exact⟨bl X sz aaE,⟨rfl,sz,aaE,rfl,jl,rfl⟩,au⟩)
      . rename_i c
        have G:Th.dE {s with trace:=s.trace++[({Th.c7 with kind:=10,dL:=(b:Int),cy:=x.id,why:=d,name:=reason}:bX)]} x.id=some x:=B.dE;simp only[G]at ag;have m5:¬d=1/\¬d=2/\¬d=3:=⟨Z,f,c⟩;have v:=(b7.Ae rfl Th.dM.same rfl rfl rfl Bx b7.ns.2:cQ X.C j {s with trace:=s.trace++[({Th.c7 with kind:=10,dL:=(b:Int),cy:=x.id,why:=d,name:=reason}:bX)]});refine uf λba=>qZ B λe V=>?_;cases a6:x.cM.contains (b:Int)with
        |
         true=>
         have ay:Th.oq x.cM b=x.cM:=by simp only[Th.oq,Th.mem,a6,fi]
         simp only[ay]at ag;have aV:Th.dd {s with trace:=s.trace++[({Th.c7 with kind:=10,dL:=(b:Int),cy:=x.id,why:=d,name:=reason}:bX)]} x.id x={s with trace:=s.trace++[({Th.c7 with kind:=10,dL:=(b:Int),cy:=x.id,why:=d,name:=reason}:bX)]}:=Th.awz G;rw[aV]at ag;split at ag
         . rename_i bf
           have d4:x.cM.length<most:=(FD r);have ba:∀aI aQ,ad aa 296 [ptr (X.bp j) 0,ptr q 0,S reason,bj I M] (a7 X z.ap z.ai j 0 k I M::ia X {z with cI:=aI,cJ:=aQ} {s with trace:=s.trace++[({Th.c7 with kind:=10,dL:=b,cy:=x.id,why:=d,name:=reason}:bX)]} (x.id) q x e) (ct X (some y)):=(λaI aQ=>vI (B:At X _ _ x.id q x) V (Ub (z:={z with cI:=aI,cJ:=aQ}) (s:={s with trace:=s.trace++[({Th.c7 with kind:=10,dL:=(b:Int),cy:=x.id,why:=d,name:=reason}:bX)]}) J C ⟨al.gL,al.gD,al.gE,al.ap,al.ai⟩ v B ag));refine aw Tryz.func300 λF D=>?_;haveI:=gf (X:=X) (ap:=z.ap) (ai:=z.ai) i;have p:x.cM.length<1099511627776:=d4;obtain⟨Z,f,c⟩:=m5;refine bb ?_;refine wn λbY=>?_;refine b6 ?_;refine cu [] [14,201] [ab bY 261 (iz ⟨l,b,reason⟩),cL X z s,ab q 118 (eg X x e),ax (de X z.ap z.ai s.az)] ?_;refine fW ?_;refine br (l6 X z s ({Th.c7 with kind:=10,dL:=b,cy:=x.id,why:=d,name:=reason}:bX) o) ?_;rintro _ _ ⟨rfl,aI,aQ,rfl⟩;refine et ?_;refine c0 ?_;refine cP ?_;refine bi ?_;refine cP ?_;refine bi ?_;refine cP ?_;refine bi ?_;refine cu [] [6,201,1] [ab bY 261 (iz ⟨l,b,reason⟩),ab q 118 (eg X x e),dz e.hP e.hQ x.cM] ?_;refine bi ?_;refine go_c rfl .none rfl (b1 rfl (I0 x.cM e.hP e.hQ b (dz e.hP e.hQ x.cM) ae) bF) ?_;rintro _ D ⟨_,⟨rfl,rfl⟩,rfl⟩
           try simp only[cp,cm]
           rw[a6];refine aG ?_;refine cP ?_;refine dC ?_;refine cP ?_;refine c8 ?_;refine br (ba aI aQ) ?_;rintro _ _ ⟨rfl,cj,aD,ah,d7,rfl⟩;refine et ?_;refine bi ?_;exact aX BM
         . rename_i bf
           exact axo X z s j t0 x.id q b x e B V l d reason I M k (some y) m5 a6 bf (FD r) o (λaI aQ=>⟨ba,C _ _ k y I M ⟨al.gL,al.gD,al.gE,al.ap,al.ai⟩ ag⟩) i
        |
         false=>
         have ay:Th.oq x.cM b=x.cM++[(b:Int)]:=by simp only[Th.oq,Th.mem,a6];rfl
         simp only[ay]at ag;split at ag
         . rename_i bf
           refine axp X z s j t0 x.id q b x e B V l d reason I M k (some y) m5 a6 bf (FD r) o (λaI aQ hP hQ=>?_) i;refine CA (x:={x with cM:=x.cM++[(b:Int)]}) (B:At X _ _ x.id q x) ⟨V.b8,V.lc,V.es⟩ ?_;exact Ub (z:={z with cI:=aI,cJ:=aQ}) (s:=Th.dd {s with trace:=s.trace++[({Th.c7 with kind:=10,dL:=(b:Int),cy:=x.id,why:=d,name:=reason}:bX)]} x.id {x with cM:=x.cM++[(b:Int)]}) (x:={x with cM:=x.cM++[(b:Int)]}) J C ⟨al.gL,al.gD,al.gE,by show _=(s.aJ.set _ _).length;rw[gn];exact al.ap,al.ai⟩ (v.set B.aW.1 ⟨O.id,O.kids,O.qV⟩) (At.set (n:={x with cM:=x.cM++[(b:Int)]}) B rfl) ag
         . rename_i bf
           exact axq X z s j t0 x.id q b x e B V l d reason I M k (some y) m5 a6 bf (FD r) o (λaI aQ=>⟨ba,C _ _ k y I M ⟨al.gL,al.gD,al.gE,by show _=(s.aJ.set _ _).length;rw[gn];exact al.ap,al.ai⟩ ag⟩) i
def azc(J:X.C.ok)(C:hv X j g)(al:bE X z s)(b7:cQ X.C j s)(B:At X z.ap s.aJ a q x)(K:0<=m.who)(r:x.cM.length+1<most)(ag:Th.ub X.C g j s a m k=some y):ad aa 242 sy la dX:=by
 have O:=B.qb b7;obtain⟨t0,i,hO⟩:=b7.jW;simp only[Th.ub,B.dE,bind,Option.bind]at ag;refine uf λba=>qZ B λe V=>?_;have m5:=ayi V.b8 m.reason;have T:=xq O.kids;have g7:e.b8.cases.length<=4611686018427387904:=by have:=V.lc.amo;omega
 have d:∀E,g s Th.dF k=some E->some E=some y->hr X j z s k I M (some y):=λE h1 h2=>⟨ba,C z s k y I M al (by rw[h1];exact h2)⟩;cases a6:x.kids.contains m.who with
 |
  false=>
  rw[bd (.inl (show(!x.kids.contains m.who)=true by rw[a6];rfl))]at ag;exact axy X z s j t0 a q x e m B V I M k (some y) T a6 (d y ag rfl)
 |
  true=>
  by_cases aN:x.mode=3
  . rw[bd (.inr (.inl aN))]at ag
    exact axz X z s j t0 a q x e m B V I M k (some y) T a6 aN (d y ag rfl)
  . by_cases bu:x.mode=4
    . rw[bd (.inr (.inr bu))]at ag
      exact axA X z s j t0 a q x e m B V I M k (some y) T a6 bu (d y ag rfl)
    . rw[a8 (λcl=>cl.elim (λcl=>by rw[show Th.mem x.kids m.who=true from a6]at cl;cases cl) (λcl=>cl.elim aN bu))]at ag
      split at ag
      . rename_i aL
        rw[<-m5]at aL ag;have h:ad aa 300 [ptr (X.bp j) 0,ptr q 0,.agg (iz m).toArray,af (Th.direct e.b8 m.reason),bj I M] iJ dX:=(vI B V (Uc J C al b7 B K r ag));refine aw Tryz.func242 λF D=>?_;have b:x.kids.length<=1099511627776:=T;refine bb ?_;refine wn λaO=>?_;refine wn λaU=>?_;refine wn λaS=>?_;refine wn λbY=>?_;refine bK ?_;refine cu [] [6,201,15] Qc ?_;refine bi ?_;refine go_c rfl .none rfl acw ?_;rintro _ D ⟨_,⟨rfl,rfl⟩,rfl⟩
        try simp only[cp,cm]
        rw[a6];refine aG ?_;refine cP ?_;refine bB ?_;refine cP ?_;refine bi ?_;refine cP ?_;refine cq ?_;refine il [6,7,8] [7] [1,5,9,13,17,21,26,30,34,3,3,3,30,26,34] acv ?_;refine bi ?_;refine fe ?_ ?_
        ·
         refine aT I9 ?_;refine aG ?_;refine wn λY=>?_;refine bQ ?_;refine aB rfl (fC (c:=true) (by simp[aL]) (mo rfl rfl)) ?_;refine c8 ?_;refine br (h) ?_;rintro _ _ ⟨rfl,cj,aD,ah,d7,rfl⟩;refine et ?_;refine bB ?_;exact aX BM
        ·
         refine wn λY=>?_;refine aG ?_;refine aT I9 ?_;refine bQ ?_;refine aB rfl (fC (c:=true) (by simp[aL]) (mo rfl rfl)) ?_;refine c8 ?_;refine br (h) ?_;rintro _ _ ⟨rfl,cj,aD,ah,d7,rfl⟩;refine et ?_;refine bB ?_;exact aX BM
      . rename_i aL
        rw[<-m5]at aL;obtain⟨t,N,R,rfl⟩:=Th.jY ag;have aL:Th.direct e.b8 m.reason=2:=(Decidable.not_not.1 aL);refine aw Tryz.func242 λF D=>?_;haveI:=gf (X:=X) (ap:=z.ap) (ai:=z.ai) N;have b:x.kids.length<=1099511627776:=T;refine bb ?_;refine wn λaO=>?_;refine wn λaU=>?_;refine wn λaS=>?_;refine wn λbY=>?_;refine bK ?_;refine cu [] [6,201,15] Qc ?_;refine bi ?_;refine go_c rfl .none rfl acw ?_;rintro _ D ⟨_,⟨rfl,rfl⟩,rfl⟩
        try simp only[cp,cm]
        rw[a6];refine aG ?_;refine cP ?_;refine bB ?_;refine cP ?_;refine bi ?_;refine cP ?_;refine cq ?_;refine il [6,7,8] [7] [1,5,9,13,17,21,26,30,34,3,3,3,30,26,34] acv ?_;refine bi ?_;refine fe ?_ ?_
        ·
         refine aT I9 ?_;rw[aL];refine aG ?_;refine wn λY=>?_;refine bQ ?_;refine aB rfl (fC (c:=false) ry (mo rfl rfl)) ?_;refine fW ?_;refine br (aiY X s.bs) ?_;rintro _ _ ⟨p,rfl,rfl⟩;refine et ?_;refine wn λco=>?_;refine bi ?_;refine aB rfl Jk ?_;refine aG ?_;refine aT aaO ?_;refine bb ?_;exact aX ⟨rfl,z,_,rfl,jl,rfl⟩ (λh E=>by have:=jm (X:=X) (z:=z) (s:=acs) (x:=x) (g8:=x) B V D h ((au) h E);rw[sF (X:=X) (ap:=z.ap) (q:=q) (s:={s with az:=s.az.set j {t with on:=some (.eS uC,.mf a m k)}}) B]at this;exact this)
        ·
         refine wn λY=>?_;refine aG ?_;refine aT I9 ?_;rw[aL];refine bQ ?_;refine aB rfl (fC (c:=false) ry (mo rfl rfl)) ?_;refine fW ?_;refine br (aiY X s.bs) ?_;rintro _ _ ⟨p,rfl,rfl⟩;refine et ?_;refine wn λco=>?_;refine bi ?_;refine aB rfl Jk ?_;refine aG ?_;refine aT aaO ?_;refine bb ?_;exact aX ⟨rfl,z,_,rfl,jl,rfl⟩ (λh E=>by have:=jm (X:=X) (z:=z) (s:=acs) (x:=x) (g8:=x) B V D h ((au) h E);rw[sF (X:=X) (ap:=z.ap) (q:=q) (s:={s with az:=s.az.set j {t with on:=some (.eS uC,.mf a m k)}}) B]at this;exact this)
end
section
variable{X:cN}{j:Nat}{z:dn}{s y:ao}{I:Nat}{M:List Value}{k:Th.K}{g:ao->bU->Th.K->Option ao}{a q:Nat}{x:bR}
def Ud(J:X.C.ok)(C:hv X j g)(al:bE X z s)(b7:cQ X.C j s)(B:At X z.ap s.aJ a q x)(ag:Th.p6 g j s a k=some y):ad aa 245 lK la dX:=by
 obtain rfl:a=x.id:=B.cx.symm;have O:=B.qb b7;obtain⟨t0,i,hO⟩:=b7.jW;have c:=ag;simp only[Th.p6,B.dE,bind,Option.bind]at ag;refine uf λba=>qZ B λe V=>?_;split at ag
 . rename_i bh
   exact axs X z s j t0 x.id q x e al B V I M k (some y) (List.length_pos_iff.2 bh) sD
 . rename_i bh
   have bh:x.kids.length=0:=by rw[Decidable.not_not.1 bh];rfl
   split at ag
   . rename_i bu
     have h:ad aa 306 lK Qx dX:=(vI B V (azb J al b7 B ag));refine aw Tryz.func245 λF D=>?_;refine eJ ?_;refine b6 ?_;refine cP ?_;refine fr ?_;refine cP ?_;refine oz ?_;refine br (h) ?_;rintro _ _ ⟨rfl,cj,aD,ah,d7,rfl⟩;refine et ?_;refine cv ?_;exact pn
   . rename_i bu
     split at ag
     . rename_i aN
       cases aj:x.kind.states[0]?with
       |none=>simp only[aj]at ag;cases ag
       |
        some st=>
        obtain⟨o,ag⟩:=Th.awA B.dE (List.length_eq_zero_iff.1 bh) aN aj c;obtain⟨b,E,aM⟩:=TZ V.b8 aj;rw[<-aM]at ag;have L:=O.qV;have m9:most=1099511627776:=rfl;exact ayk X z s j t0 x.id q x e al B V I M k (some y) bh aN b E b7.mh (show x.aside.length<=1099511627776 by omega) (show x.front.length<=1099511627776 by omega) o i (λaI aQ=>⟨ba,C h3 _ k y I M ⟨al.gL,al.gD,al.gE,by show _=(s.aJ.set _ _).length;rw[gn];exact al.ap,al.ai⟩ ag⟩)
     . rename_i aN
       exact axt X z s j t0 x.id q x e al B V I M k (some y) bh bu aN sD
def azd{m:c9}(J:X.C.ok)(C:hv X j g)(al:bE X z s)(b7:cQ X.C j s)(B:At X z.ap s.aJ a q x)(K:0<=m.who)(r:x.cM.length+1<most)(ag:Th.sW X.C g j s a m k=some y):ad aa 197 sy la dX:=by
 obtain rfl:a=x.id:=B.cx.symm;have O:=B.qb b7;obtain⟨t0,i,hO⟩:=b7.jW;simp only[Th.sW,B.dE,bind,Option.bind]at ag;refine uf λba=>qZ B λe V=>?_;split at ag
 . rename_i f
   have h:ad aa 241 lK Qx dX:=(vI B V (Ua J C al b7 B ag));refine aw Tryz.func197 λF D=>?_;refine xn ?_;intro aO aU aS bY;refine c0 ?_;refine cP ?_;refine bQ ?_;refine br (h) ?_;refine ps ?_;exact pq
 . split at ag
   . rename_i hC
     have h:ad aa 242 sy Qx dX:=(vI B V (azc J C al b7 B K r ag));refine aw Tryz.func197 λF D=>?_;refine R7 ?_;intro aO aU aS bY;refine cv ?_;exact RO
   . split at ag
     . rename_i pi
       split at ag
       . rename_i bf
         exact axv X z s j t0 x.id q x e m B V I M k (some y) pi bf sD
       . rename_i bf
         cases R:Th.tell (Qf:bX) (Th.dd s x.id P0)with
         |none=>rw[R]at ag;cases ag
         |
          some s1=>
          rw[R]at ag;obtain⟨o,rfl⟩:=Th.li R;replace o:s.trace.length<most:=o;refine ayl X z s j t0 x.id q x e m B V I M k (some y) pi (Decidable.not_not.1 bf) al J b7.notes o i hO (xq (FD r)) (λaI aQ bh=>?_) (λv Y=>?_)
          . rcases Th.Cm ag with⟨_,ag⟩|⟨b,t,h1,_⟩
            . exact⟨ba,C h3 _ _ y I M ⟨al.gL,al.gD,al.gE,by show _=(s.aJ.set _ _).length;rw[gn];exact al.ap,al.ai⟩ ag⟩
            . exfalso;omega
          . rcases Th.Cm ag with⟨bh,ag⟩|⟨b,t,h1,h2,aN,bu,dW,rfl⟩
            . exfalso;have:=(dc.1 Y).1;omega
            . rw[Y]at h2;cases h2
              replace bu:s.az[j]?=some t:=bu;rw[i]at bu;cases bu;exact⟨b,rfl,aN,rfl⟩
     . split at ag
       . rename_i c
         split at ag
         . rename_i bf
           exact axw X z s j t0 x.id q x e m B V I M k (some y) c bf sD
         . rename_i bf
           refine axx X z s j t0 x.id q x e m B V I M k (some y) c (Decidable.not_not.1 bf) al J b7.notes i hO (xq O.kids) (λcs bh=>?_) (λv Y=>?_)
           . rcases Th.Cm ag with⟨_,ag⟩|⟨b,t,h1,_⟩
             . exact⟨fc,C _ _ _ y _ cs ⟨al.gL,al.gD,al.gE,by show _=(s.aJ.set _ _).length;rw[gn];exact al.ap,al.ai⟩ ag⟩
             . exfalso;omega
           . rcases Th.Cm ag with⟨bh,ag⟩|⟨b,t,h1,h2,aN,bu,dW,rfl⟩
             . exfalso;have:=(dc.1 Y).1;omega
             . rw[Y]at h2;cases h2
               replace bu:s.az[j]?=some t:=bu;rw[i]at bu;cases bu;exact⟨b,rfl,aN,rfl⟩
       . split at ag
         . rename_i d
           refine aym X z s j t0 x.id q x e m B V I M k (some y) d (xq O.kids) (xq (FD r)) (λaV u=>?_);refine CA (x:=abQ) B u ?_;exact Ud (x:={x with kids:=Th.del x.kids m.who,cM:=Th.del x.cM m.who,given:=Th.p1 x.given m.who}) J C ⟨al.gL,al.gD,al.gE,by show _=(s.aJ.set _ _).length;rw[gn];exact al.ap,al.ai⟩ (b7.set B.aW.1 ⟨O.id,Zt (Th.Td _ _) O.kids,O.qV⟩) (At.set (n:={x with kids:=Th.del x.kids m.who,cM:=Th.del x.cM m.who,given:=Th.p1 x.given m.who}) B rfl) ag
         . cases ag
def aze{left:Nat}(J:X.C.ok)(C:hv X j g)(al:bE X z s)(b7:cQ X.C j s)(B:At X z.ap s.aJ a q x)(d:∀(id:Int) (I:Nat) (M:List Value),x.front.getLast?=some id->Th.qS X.C g j (Th.dd s a QU) a id (.next a left)=some y->ad aa 238 En (a7 X z.ap z.ai j 0 (.next a left) I M::bl X z (Th.dd s a QU)) dX)(ag:Th.p8 X.C g j s a left=some y):ad aa 196 Es (bl X z s) dX:=by
 have O:=B.qb b7;obtain⟨t0,i,hO⟩:=b7.jW;simp only[Th.p8,B.dE,bind,Option.bind]at ag;refine ay7 B λe V=>?_;split at ag
 . rename_i bf
   have h:ad aa 232 qz vf dX:=(ay6 B V (akZ al b7 B ag));refine aw Tryz.func196 λF D=>?_;refine Kl ?_;intro Z aO aU;refine Q5 ?_;refine bQ ?_;refine br (h) ?_;exact xk
 . rename_i bf
   have bf:=Decidable.not_not.1 bf;split at ag
   . rename_i av
     obtain⟨t,N,R,rfl⟩:=Th.jY ag;have h2:=axB X z s j t a q left x e B V bf av al N R;rw[B.cx]at h2;exact h2
   . rename_i av
     cases ba:x.front.getLast? with
     |
      none=>
      simp only[ba]at ag;obtain⟨t,N,R,rfl⟩:=Th.jY ag;have h2:=axD X z s j t a q left x e B V bf av (List.getLast?_eq_none_iff.1 ba) al N R;rw[B.cx]at h2;exact h2
     |
      some id=>
      simp only[ba]at ag;obtain⟨U,f⟩:=List.getLast?_eq_some_iff.1 ba;have b:x.front=x.front.dropLast++[id]:=by rw[f];simp
      have m9:most=1099511627776:=rfl;have L:=O.qV;refine axC X z s j t0 a q left x e B V (some y) bf av x.front.dropLast id b (by rw[ajN];omega) (λcs=>?_);exact CA (x:=QU) B pk (d id _ cs ba ag)
end
section
variable{X:cN}{j:Nat}{z:dn}{s y:ao}{I:Nat}{M:List Value}{k:Th.K}{g:ao->bU->Th.K->Option ao}{i n d2 d3 cn dS aP ar U:Nat}{ea:Option Addr}{cA:Nat}
theorem FE{H J:Nat}{N M:List Value}{I:List aq}{A B:Option ao}(a:e0 aa H)(c:e0 aa J)(ag:(if i=n then A else B)=some y)
 (f:A=some y->ad aa J M (I++bl X z s) dX)(g3:B=some y->∀O,ad aa H ([af i,bj 208 [ptr dS 0,ptr O 0]]++N) ((ab O 3 [af i]::ab dS 188 [bj 207 [ptr d2 0,ptr d3 0,ptr cn 0,ptr dS 0]]::ab d2 3 [af n]::ab cn 255 [bj H N]::ab d3 1 [bj J M]::I)++bl X z s) (ct X (some y))):
 ad aa 207 zd ([ab d2 3 [af n],ab d3 1 [bj J M],ab cn 255 [bj H N],ab dS 188 rD,eW I]++bl X z s) dX:=by
 split at ag
 . rename_i bh
   refine akA X z s i n d2 d3 cn dS H J N M (eW I) (some y) bh ?_;refine gq (λD h E=>?_) (f ag);obtain⟨_,_,b⟩:=hd E;rw[jE];exact b
 . rename_i bh
   refine akB X z s i n d2 d3 cn dS H J N M (eW I) (some y) bh λO=>?_;refine gq (λD h E=>?_) (g3 ag O);exact Sat.tail (λh E=>Sat.tail (λh E=>Sat.tail (λh E=>Sat.tail (λh E=>Sat.tail (λh E=>by obtain⟨_,_,b⟩:=hd E;show Sat ((I++bl X z s)++D) _;rw[jE];exact b) E) E) E) E) E
def ak2{ids:List Int}(J:X.C.ok)(C:hv X j g)(al:bE X z s)(ba:e0 aa I)(aM:n=ids.length)(Y:∀v∈ids,0<=v){km:ao->List Int->Th.K->Option ao}(ag:(if i=n then g s Th.dF k else Th.mH X.C g j km s (.cancel ids) i (.each (.cancel ids) i n k))=some y):ad aa 207 zd ([ab d2 3 [af n],ab d3 1 [bj I M],ab cn 255 [bj 346 l3],ab dS 188 rD,eW abl]++bl X z s) dX:=
 FE fc ba ag abL (λh O=>by
  subst aM;simp only[Th.mH]at h;cases e:ids[i]?with
  |none=>rw[e]at h;cases h
  |
   some v=>
   rw[e]at h;obtain⟨t,N,R,rfl⟩:=Th.jY h;exact ayb X z s j i ids.length O dS d2 cn d3 aP ar U I M k ea cA ids v e (Y v (js e)) t al N R)
def azf{l:List Int}{what:Int}(J:X.C.ok)(C:hv X j g)(al:bE X z s)(ba:e0 aa I)(aM:n=l.length){km:ao->List Int->Th.K->Option ao}(ag:(if i=n then g s Th.dF k else Th.mH X.C g j km s w1 i (.each w1 i n k))=some y):ad aa 207 zd ([ab d2 3 [af n],ab d3 1 [bj I M],ab cn 255 QL,ab dS 188 rD,eW aby]++bl X z s) dX:=
 FE fc ba ag abL (λh O=>by
  subst aM;simp only[Th.mH]at h;cases e:l[i]?with
  |none=>rw[e]at h;cases h
  |
   some v=>
   rw[e]at h;obtain⟨aM,aA,t,N,R,rfl⟩:=Th.zS h;have Y:((v.toNat:Nat):Int)=v:=ae;exact akC X z s j aP ar U ea cA l what k I M t al J aM N R i d2 d3 cn dS O v.toNat aA (by rw[Y];exact e))
def ak3{U:Nat}{ea:Option Addr}{cA:Nat}{due:List Int}(J:X.C.ok)(C:hv X j g)(al:bE X z s)(ba:e0 aa I)(b7:cQ X.C j s)(aM:n=due.length){km:ao->List Int->Th.K->Option ao}(ag:(if i=n then g s Th.dF k else Th.mH X.C g j km s (.leave due) i (.each (.leave due) i n k))=some y):ad aa 207 zd ([ab d2 3 [af n],ab d3 1 [bj I M],ab cn 255 [bj 157 tJ],ab dS 188 rD,eW abT]++bl X z s) dX:=
 FE fc ba ag (λh=>gq (λD h E=>Sat.drop (Sat.drop (Sat.drop (E)))) (C z s k y I M al h)) (λh O=>by
  subst aM;simp only[Th.mH]at h;cases e:due[i]?with
  |none=>rw[e]at h;cases h
  |
   some v=>
   rw[e]at h;obtain⟨t,N,R⟩:=b7.jW;exact ayc X z s j i due.length O dS d2 cn d3 aP ar U I M k ea cA due v (some y) e (ak1 J C al b7 h))
def ak4{ea:Option Addr}{cA a q:Nat}{x:bR}(J:X.C.ok)(C:hv X j g)(al:bE X z s)(B:At X z.ap s.aJ a q x)(aM:n<=16)(ak:i<=n){km:ao->List Int->Th.K->Option ao}(ag:(if i=n then g s Th.dF (.parent a k)else Th.mH X.C g j km s (.l9 a) i (.each (.l9 a) i n (.parent a k)))=some y):ad aa 207 [af i,ptr d2 0,ptr d3 0,ptr cn 0,ptr dS 0] ([ab d2 3 [af n],ab d3 1 [bj 404 [ptr aP 0,ptr U 0,ptr ar 0]],ab cn 255 [bj 403 [ptr aP 0,ptr ar 0]],ab dS 188 [bj 207 [ptr d2 0,ptr d3 0,ptr cn 0,ptr dS 0]],eW [ab aP 110 [ptr q 0],ab ar 106 [ptr (X.bp j) 0],ab U 1 [bj I M],a7 X z.ap z.ai j 0 k I M]]++bl X z s) (ct X (some y)):=
 FE fc fc ag (λh=>gq (λD h E=>SP (a7.eq_30 ..) (aP,U,ar,q,I,M) ⟨rfl,rfl,B.ap⟩ _ h ((au) h E)) (C z s (.parent a k) y 404 [ptr aP 0,ptr U 0,ptr ar 0] al h)) (λh O=>by
  simp only[Th.mH]at h;have cx:=B.cx;split at h
  . rename_i aj
    exact ayd X z s j i n O dS d2 cn d3 aP ar U I M k a q x (some y) B ae ae ⟨fc,C z s _ y _ _ al h⟩
  . rename_i aj
    refine aye X z s j i n O dS d2 cn d3 aP ar U I M k a q x (some y) B ae ae ?_;rw[cx];exact akY J al h)
end
end Go.Proofs.YtnnhpnccfnghdaaGreat.L.bH
