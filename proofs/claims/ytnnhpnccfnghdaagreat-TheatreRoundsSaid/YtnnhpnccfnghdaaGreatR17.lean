import Derived.Test.YtnnhpnccfnghdaaGreatR16
set_option linter.all false
set_option maxRecDepth 8000
set_option maxHeartbeats 12000000
namespace Go.Proofs.YtnnhpnccfnghdaaGreat.L.bH
open Go.Proofs.YtnnhpnccfnghdaaGreat.L
open Go.L Go.L.Ring Go.L.dq Go.L.dR Go.L.Whl Go.L.dA Go.L.Lx Go.L.Pg
open Go.L.Led (dg du dT bs av e8)
open Go.L.Th (bt cW c9 bX dt bR bU ev bW ao most dU cQ ff eD dM In cV c6 eE bx bM eF eG bk cG dw go bq Good eb eH dQ acc Inv eh er e3 busy cZ ek dN fa)
attribute[local irreducible] G cE GE cY GT b0 df c4 di Exit.then Exit.inBlock
section
variable{P:Program}{X:cN}{j p f:Nat}{c:List Value}{z:dn}{s y:ao}{k:Th.K}{g:ao->bU->Th.K->Option ao}{l:cW}{v:Int}{a b who:Nat}{x:bR}{i n:Nat}{V:gw}
def xQ{f:FuncId}{args:List Value}{L:List aq}{X:cN}{z:dn}{s:ao}{a q:Nat}{x:bR}{post:Value->List aq->Prop}(B:At X z.ap s.aJ a q x)(h:∀e,fT x e->ad P f args (L++ia X z s a q x e) post):ad P f args (L++bl X z s) post:=
 pv (A:=eW L) (λD h E=>cF (D:=D) () trivial kG h E) (qZ B λe V=>gq (λD h E=>by obtain⟨_,_,b⟩:=hd E;rw[jE];exact b) (h e V))
def At.mk'{j a q:Nat}{x:bR}(al:bE X z s)(b7:cQ X.C j s)(h:Th.dE s a=some x)(bm:z.ap[a -1]?=some q):At X z.ap s.aJ a q x:=by
 obtain⟨c,B⟩:=At.of al b7 h;exact⟨bm,B.ah,B.cx,B.aW⟩
def q2{ap ai:List Nat}{j p I f:Nat}{k:Th.K}{M args:List Value}(L:List aq){a2:List aq}{post:Value->List aq->Prop}(h:e0 aa I->ad aa f args (L++Ju) post):ad aa f args (L++Ju) post:=λF D w s=>
 h (T7 k p I M _ _ (Fy L (D:=a2++D) Z4)) F D w s
def ak5{f:FuncId}{args:List Value}(L:List aq){v:Value}{e:TypeId}{aY n:Nat}{xs:List Value}{a2:List aq}{post:Value->List aq->Prop}(h:n<=maxLen->ad P f args (L++(own v e aY n xs::a2)) post):ad P f args (L++(own v e aY n xs::a2)) post:=λF D w s=>
 h
  (by
   have E:=Fy L (D:=a2++D) Z4;obtain⟨_,_,_,_,⟨_,o⟩,_⟩:=E;rcases o with⟨_,aM⟩|⟨_,_,_,_,_,h1,h2,_⟩
   . rw[aM];exact eX _
   . exact nb h1 h2) F D w s
abbrev ak6:bR:=⟨0,0,⟨[],0,0,none,0,[],none,0,[]⟩,[],[],[],0,[],[],[],[],[],[]⟩
def azg{k:Th.K}{a:Nat}{x:bR}(al:bE X z s)(b7:cQ X.C j s)(ah:Th.dE s a=some x)(ag:Th.Cg j s a=some y):ad aa f c (a7 X z.ap z.ai j p (.run a) f c::bl X z s) dX:=
 iU (a7.eq_6 ..)<|by
  rintro⟨aP,ar,q⟩ ⟨rfl,rfl,bm⟩;dsimp only;exact axE X z s j q 0 [] .nil (some y) aP ar (ak0 al nM ag)
def azh{k:Th.K}{a:Nat}{x:bR}(al:bE X z s)(b7:cQ X.C j s)(ah:Th.dE s a=some x)(ag:(if x.mode≠5 then Th.Cg j s a else some s)=some y):ad aa f c (a7 X z.ap z.ai j p (.on a) f c::bl X z s) dX:=
 iU (a7.eq_8 ..)<|by
  rintro⟨aP,ar,q⟩ ⟨rfl,rfl,bm⟩;dsimp only;split at ag
  . rename_i bf
    exact axK X z s j q 0 [] .nil (some y) aP ar a x nM bf (ak0 al nM ag)
  . rename_i bf
    cases ag;exact axL X z s j q a x nM aP ar al (Decidable.not_not.1 bf)
def azi{k:Th.K}{a:Nat}{x:bR}(J:X.C.ok)(al:bE X z s)(b7:cQ X.C j s)(ah:Th.dE s a=some x)(ag:Th.ew j s (.fx (wB X.C.bA (Th.sV X.C j) a)) .nil=some y):ad aa f c (a7 X z.ap z.ai j p (.again a) f c::bl X z s) dX:=
 iU (a7.eq_9 ..)<|by
  rintro⟨aP,ar,q⟩ ⟨rfl,rfl,bm⟩;dsimp only;obtain⟨t,N,R,rfl⟩:=Th.jY ag;have B:=nM;have h2:=axN X z s j t a q x al B J aP ar N R;rw[B.cx]at h2;exact h2
def azj{k:Th.K}{g:ao->bU->Th.K->Option ao}{a b:Nat}{x:bR}{V:gw}(J:X.C.ok)(C:hv X j g)(al:bE X z s)(b7:cQ X.C j s)(ah:Th.dE s a=some x)(ag:Th.ot X.C g j s kH a .nil=some y):ad aa f c (a7 X z.ap z.ai j p (.settled a) f c::c3 X p kH::bl X z s) dX:=
 iU (a7.eq_12 ..)<|by
  rintro⟨aP,ar,U,q⟩ ⟨rfl,rfl,bm⟩;dsimp only;have B:=nM;refine axQ X z s j a q p b x V (some y) B aP ar U ?_;rw[B.cx];exact FC J C al B.aW.2 trivial ag
def azk{k:Th.K}{g:ao->bU->Th.K->Option ao}{a b:Nat}{x:bR}{V:gw}(J:X.C.ok)(C:hv X j g)(al:bE X z s)(b7:cQ X.C j s)(ah:Th.dE s a=some x)(ag:Th.ot X.C g j s kH a .nil=some y):ad aa f c (a7 X z.ap z.ai j p (.ov a) f c::c3 X p kH::bl X z s) dX:=
 iU (a7.eq_31 ..)<|by
  rintro⟨aP,ar,U⟩ ⟨rfl,rfl⟩;dsimp only;obtain⟨q,B⟩:=At.of al b7 ah;exact axR X z s j a q p b x V (some y) B aP ar U (FC J C al B.aW.2 trivial ag)
def azl(J:X.C.ok)(C:hv X j g)(al:bE X z s)(aW:a<=X.C.aZ)(aL:Th.c6 k)(ag:Th.ot X.C g j s kH a k=some y):ad aa f c (a7 X z.ap z.ai j p (.lh a k) f c::c3 X p kH::bl X z s) dX:=
 iU (a7.eq_17 ..)<|by
  rintro⟨aP,ar,U,Z,I,M⟩ ⟨rfl,rfl⟩;dsimp only;exact axJ X z s j 0 I M k (some y) aP ar U Z p a (c3 X p kH) (FC J C al aW aL ag)
def azm(J:X.C.ok)(al:bE X z s)(O:1<=who/\who<=X.C.aZ)(ag:Th.ew j s (.post who Th.xE) (.gone a who k)=some y):ad aa f c (a7 X z.ap z.ai j p (.watched a who k) f c::bl X z s) dX:=
 iU (a7.eq_20 ..)<|by
  rintro⟨aP,ar,U,Z,aO,q,I,M⟩ ⟨rfl,rfl,bm⟩;dsimp only;obtain⟨t,N,R,rfl⟩:=Th.jY ag;exact ax3 X z s j a q who t I M k al J bm O aP ar U Z aO N R
def azn(J:X.C.ok)(C:hv X j g)(al:bE X z s)(b7:cQ X.C j s)(ah:Th.dE s a=some x)(ag:(if V.out≠1 then g s Th.dF k else Th.ua X.C j s a who k)=some y):ad aa f c (a7 X z.ap z.ai j p (.gone a who k) f c::c3 X p kH::bl X z s) dX:=
 iU (a7.eq_21 ..)<|by
  rintro⟨aP,ar,U,Z,aO,q,I,M⟩ ⟨rfl,rfl,bm⟩;dsimp only;have B:=nM;split at ag
  . rename_i aK
    refine q2 [_,_,_,_,_] λba=>?_;exact axS X z s j a q p b x V (some y) I M k who aP ar U Z aO aK sD
  . rename_i aK
    refine axT X z s j a q p b x V (some y) I M k who B aP ar U Z aO (Decidable.not_not.1 aK) ?_;rw[B.cx];exact akY J al ag
def azo{i:k5}(J:X.C.ok)(C:hv X j g)(al:bE X z s)(ag:(if i.out≠1 then g s Th.dF k else Th.Ce j s ⟨b,a,[103,111,110,101],0,true⟩ k)=some y):ad aa f c (a7 X z.ap z.ai j p (.mK a b k) f c::c3 X p (.hV i)::bl X z s) dX:=
 iU (a7.eq_22 ..)<|by
  rintro⟨aP,ar,U,Z,aO,I,M⟩ ⟨rfl,rfl⟩;dsimp only;split at ag
  . rename_i aK
    refine q2 [_,_,_,_,_] λba=>?_;exact axU X z s j 0 0 p 0 ak6 Th.xE (some y) I M k a b i aP ar U Z aO aK sD
  . rename_i aK
    exact axV X z s j 0 0 p 0 ak6 Th.xE (some y) I M k a b i aP ar U Z aO (Decidable.not_not.1 aK) (T8 al ag)
def azp(J:X.C.ok)(C:hv X j g)(al:bE X z s)(b7:cQ X.C j s)(ah:Th.dE s a=some x)(ag:Th.p6 g j s a k=some y):ad aa f c (a7 X z.ap z.ai j p tP f c::bl X z s) dX:=
 ay4 (λaP ar U q I M bm=>axF X z s j q I M k (some y) aP ar U (Ud J C al b7 nM ag)) (λaP ar U q I M bm=>axG X z s j q I M k (some y) aP ar U (Ud J C al b7 nM ag))
def azq(al:bE X z s)(b7:cQ X.C j s)(ah:Th.dE s a=some x)(ag:Th.ew j s EE (.kW a (.shut a k))=some y):ad aa f c (a7 X z.ap z.ai j p (.closed a k) f c::bl X z s) dX:=
 iU (a7.eq_25 ..)<|by
  rintro⟨aP,ar,U,q,I,M⟩ ⟨rfl,rfl,bm⟩;dsimp only;exact axI X z s j q I M k (some y) aP ar U a bm (T9 al nM ag)
def azr(J:X.C.ok)(C:hv X j g)(al:bE X z s)(b7:cQ X.C j s)(ah:Th.dE s a=some x)(v:sK V)(ag:(if V.out=5 then g s Th.dF k else(if V.out=1 then Th.kill V.val 2 s else some s).bind λs=>Th.ew j s EE (.kW a k))=some y):ad aa f c (a7 X z.ap z.ai j p (.kW a k) f c::c3 X p kH::bl X z s) dX:=
 iU (a7.eq_26 ..)<|by
  rintro⟨aP,ar,U,Z,q,I,M⟩ ⟨rfl,rfl,bm⟩;dsimp only;have B:=nM;split at ag
  . rename_i aK
    refine q2 [_,_,_,_] λba=>?_;exact axW X z s j q p b V (some y) I M k aP ar U Z aK sD
  . rename_i e
    split at ag
    . rename_i d
      cases hk:Th.kill V.val 2 s with
      |none=>rw[hk]at ag;cases ag
      |
       some s1=>
       rw[hk]at ag;obtain⟨l,av,aL,o,_,rfl⟩:=Th.zR hk;obtain⟨u,K⟩:=hG.of al av;obtain⟨t,N,R⟩:=b7.jW;exact axY X z s j q p b V (some y) I M k t N u l K J.sY aL o b7.mh aP ar U Z v d (λaI aQ=>T9 (s:=kk s V.val l.to 2) (z:=h3) jl B ag)
    . rename_i d
      exact axX X z s j q p b V (some y) I M k aP ar U Z e d (T9 al B ag)
def azs(al:bE X z s)(b7:cQ X.C j s)(ah:Th.dE s a=some x)(ag:Th.ew j s (.post a (Th.nR 4)) (.nS a k)=some y):ad aa f c (a7 X z.ap z.ai j p (.shut a k) f c::bl X z s) dX:=
 iU (a7.eq_27 ..)<|by
  rintro⟨aP,ar,U,q,I,M⟩ ⟨rfl,rfl,bm⟩;dsimp only;obtain⟨t,N,R,rfl⟩:=Th.jY ag;exact axM X z s j t a q x al nM I M k aP ar U N R
def azt(al:bE X z s)(b7:cQ X.C j s)(ah:Th.dE s a=some x)(ag:((Th.tell {Th.c7 with kind:=14,dL:=a} (Th.dd s a {x with mode:=5})).bind λs=>Th.ew j s (.load 1) (.who a k))=some y):ad aa f c (a7 X z.ap z.ai j p (.nS a k) f c::bl X z s) dX:=
 iU (a7.eq_28 ..)<|by
  rintro⟨aP,ar,U,q,I,M⟩ ⟨rfl,rfl,bm⟩;dsimp only;have B:=nM;obtain rfl:a=x.id:=B.cx.symm;refine axH X z s j q I M k (some y) aP ar U (qZ B λe V=>?_);cases hk:Th.tell (IU:bX) (Th.dd s x.id {x with mode:=5})with
  |none=>rw[hk]at ag;cases ag
  |
   some s1=>
   rw[hk]at ag;obtain⟨o,rfl⟩:=Th.li hk;obtain⟨t,N,R,rfl⟩:=Th.jY ag;have h2:=axg X z s j t x.id q x e al B V I M k o N R;exact h2
def azu(J:X.C.ok)(C:hv X j g)(al:bE X z s)(b7:cQ X.C j s)(ah:Th.dE s a=some x)(ag:(if x.parent=0 then g s Th.dF k else Th.qQ X.C j s x.parent ⟨4,a,[]⟩ k)=some y):ad aa f c (a7 X z.ap z.ai j p (.parent a k) f c::bl X z s) dX:=
 iU (a7.eq_30 ..)<|by
  rintro⟨aP,ar,U,q,I,M⟩ ⟨rfl,rfl,bm⟩;dsimp only;have B:=nM;obtain⟨t0,i,hO⟩:=b7.jW;split at ag
  . rename_i hp
    refine q2 [_,_,_] λba=>?_;exact axO X z s j t0 a q x al B I M k aP ar U (some y) hp sD
  . rename_i hp
    obtain⟨aM,b,t,N,R,rfl⟩:=Th.zS ag;have h2:=axP X z s j t a q x al B I M k J aP ar U hp b aM N R;rw[B.cx]at h2;exact h2
def azv{id to:Int}{b:Nat}{V:gw}(J:X.C.ok)(C:hv X j g)(al:bE X z s)(b7:cQ X.C j s)(Q:0<=to/\to.toNat<=X.C.aZ)(aL:Th.c6 k)(ag:(if V.out=2 then(Th.kill id 1 s).bind λs=>g s Th.dF k else if V.out=3 then(Th.kill id 2 s).bind λs=>g s Th.dF k else Th.ot X.C g j (Th.lg s id 1 2) kH to.toNat k)=some y):ad aa f c (a7 X z.ap z.ai j p (.told id to k) f c::c3 X p kH::bl X z s) dX:=
 iU (a7.eq_16 ..)<|by
  rintro⟨aP,ar,U,Z,aO,aU,I,M⟩ ⟨rfl,rfl⟩;dsimp only;have lc:∀w:Int,((Th.kill id w s).bind λs=>g s Th.dF k)=some y->∃u l,hG z.ai s.lets id u l/\s.dead.length<most/\s.trace.length<most/\g (kk s id l.to w) Th.dF k=some y:=λw h=>by
   cases hk:Th.kill id w s with
   |none=>rw[hk]at h;cases h
   |
    some s1=>
    rw[hk]at h;obtain⟨l,av,aL,o,_,rfl⟩:=Th.zR hk;obtain⟨u,K⟩:=hG.of al av;exact⟨u,l,K,aL,o,h⟩
  split at ag
  . rename_i aK
    obtain⟨u,l,K,h1,h2,aN⟩:=lc 1 ag;refine q2 [_,_,_,_,_,_] λba=>?_;exact axZ X z s j 0 p b V (some y) I M k id to u l K J.sY h1 h2 b7.mh aP ar U Z aO aU aK (λaI aQ=>⟨ba,C h3 _ k y I M jl aN⟩)
  . rename_i d
    split at ag
    . rename_i aK
      obtain⟨u,l,K,h1,h2,aN⟩:=lc 2 ag;refine q2 [_,_,_,_,_,_] λba=>?_;exact ax0 X z s j 0 p b V (some y) I M k id to u l K J.sY h1 h2 b7.mh aP ar U Z aO aU aK (λaI aQ=>⟨ba,C h3 _ k y I M jl aN⟩)
    . rename_i a
      have R:=Q.1;unfold Th.lg at ag;split at ag
      . rename_i O
        refine ax1 X z s j 0 p b V (some y) I M k id to aP ar U Z aO aU b7.mh d a O ?_;have h2:=FC (I:=I) (M:=M) (p:=p) (z:=z) J C (show bE X z {s with bc:=du s.bc id 2}from jl) Q.2 aL ag;rw[show((to.toNat:Nat):Int)=to by omega]at h2;exact h2
      . rename_i O
        refine ax2 X z s j 0 p b V (some y) I M k id to aP ar U Z aO aU d a O ?_;have h2:=FC (I:=I) (M:=M) (p:=p) (z:=z) J C al Q.2 aL ag;rw[show((to.toNat:Nat):Int)=to by omega]at h2;exact h2
def azw(J:X.C.ok)(C:hv X j g)(al:bE X z s)(b7:cQ X.C j s)(ag:((Th.enter s l false (.fV v)).bind λE=>Th.rN X.C g j E.1 E.2 k)=some y):ad aa f c (a7 X z.ap z.ai j p (.mc l k) f c::c3 X p (.fV v)::bl X z s) dX:=
 iU (a7.eq_14 ..)<|by
  rintro⟨aP,ar,U,Z,aO,x,E,I,M⟩ ⟨rfl,rfl⟩;dsimp only;cases V:Th.enter s l false (.fV v)with
  |none=>rw[V]at ag;cases ag
  |
   some E=>
   obtain⟨s1,id⟩:=E;rw[V]at ag;obtain⟨rfl,rfl,h1,h2,rfl⟩:=Th.Tt V;refine ax8 X z s j (some y) I M k p x E aP ar U Z aO l al h1 h2 b7.mh b7.bc ?_;exact λaI aQ=>ak1 (z:={z with cI:=aI,cJ:=aQ,ai:=z.ai++[ar]}) J C ⟨al.gL,al.gD,al.gE,al.ap,by show _=(s.lets++[l]).length;simp only[eL,iE,lp];rw[al.ai]⟩ (b7.enter h1 h2) ag
def azx{e:fv}(al:bE X z s)(b7:cQ X.C j s)(ag:((Th.enter s l true (.fV v)).bind λE=>Th.K6 j E.1 a E.2 e k)=some y):ad aa f c (a7 X z.ap z.ai j p (.gv a l e k) f c::c3 X p (.fV v)::bl X z s) dX:=
 iU (a7.eq_15 ..)<|by
  rintro⟨aP,ar,U,Z,aO,x,E,ef,J,q,I,M⟩ ⟨rfl,rfl,bm⟩;dsimp only;cases V:Th.enter s l true (.fV v)with
  |none=>rw[V]at ag;cases ag
  |
   some E=>
   obtain⟨s1,id⟩:=E;rw[V]at ag;obtain⟨rfl,rfl,h1,h2,rfl⟩:=Th.Tt V;refine aya X z s j (some y) I M k p q x E ef J aP ar U Z aO e l al h1 h2 b7.mh b7.bc ?_;exact λaI aQ=>ay8 (z:={z with cI:=aI,cJ:=aQ,ai:=z.ai++[ar]}) ⟨al.gL,al.gD,al.gE,al.ap,by show _=(s.lets++[l]).length;simp only[eL,iE,lp];rw[al.ai]⟩ bm ae ag
def azy{m:c9}{aC:hy}(J:X.C.ok)(C:hv X j g)(al:bE X z s)(b7:cQ X.C j s)(ah:Th.dE s a=some x)(K:0<=m.who)(r:x.cM.length+1<most)(E:∀p∈x.given,p.2.length<most)(hp:aC.out=0->aC.val=0)(Y:0<=aC.val/\aC.val<=18446744073709551615)(ag:(if Th.Tk x.kind x.given m.who w4=0 then Th.p7 X.C g j s a m 3 k else Th.p7 X.C g j (Th.dd s a abV) a m 2 k)=some y):ad aa f c (a7 X z.ap z.ai j p (.mf a m k) f c::c3 X p (.eS aC)::bl X z s) dX:=
 iU (a7.eq_24 ..)<|by
  rintro⟨aP,ar,U,Z,aO,aU,q,I,M⟩ ⟨rfl,rfl,bm⟩;dsimp only;have B:=nM;have O:=B.qb b7;refine xQ (L:=[_,_,_,_,_,_,_,_]) B λe V=>?_;obtain⟨d,w,_⟩:=akO V.b8;have ay:qG oR oS (Th.dU x.given m.who) w4=Th.Tk x.kind x.given m.who w4:=by rw[d,w];rfl
  split at ag
  . rename_i T
    exact ayf X z s j a q p x e m aC (some y) I M k aP ar U Z aO aU hp Y E (by rw[ay];exact T) (vI B V (Uc J C al b7 B K r ag))
  . rename_i T
    refine ayg X z s j a q p x e m aC (some y) I M k aP ar U Z aO aU hp Y E (by rw[ay];exact T) ?_;have aV:zz oR oS x.given m.who w4=eV x.given m.who abW:=by
     unfold zz;rw[a8 (by rw[ay];exact T)]
    rw[aV];refine CA (x:=abV) B pk ?_;exact Uc (x:={x with given:=eV x.given m.who (Th.dU x.given m.who++[Th.ht (Th.qT aC.val)])}) J C ⟨al.gL,al.gD,al.gE,by show _=(s.aJ.set _ _).length;rw[gn];exact al.ap,al.ai⟩ (b7.set B.aW.1 ⟨O.id,O.kids,O.qV⟩) (At.set (n:={x with given:=eV x.given m.who (Th.dU x.given m.who++[Th.ht (Th.qT aC.val)])}) B B.cx) K r ag
def azz{l:List Int}{what:Int}{i n:Nat}(J:X.C.ok)(C:hv X j g)(al:bE X z s)(aM:n=l.length)(ak:i<n)(ag:Th.mI X.C g j s w1 (i+1) n k=some y):ad aa f c (a7 X z.ap z.ai j p (.each w1 i n k) f c::bl X z s) dX:=
 iU (a7.eq_36 ..)<|by
  rintro⟨O,dS,d2,cn,d3,aP,ar,U,I,M,ea,cA⟩ ⟨rfl,rfl⟩;dsimp only;refine ak5 [_,_,_,_,_,_,_] λe=>q2 [_,_,_,_,_,_,_,_,_] λba=>?_;refine gq (λD h E=>Sat.tail (λh E=>Sat.tail (λh E=>Sat.tail (λh E=>Sat.tail (λh E=>Sat.tail (λh E=>cF (fM:=λ_:Unit=>True) (l:=λ_=>[_,_,_,_,_]) (D:=bl X z s++D) () trivial qB h E) E) E) E) E) E) (Fx X z s i n d2 d3 cn dS _ _ _ _ (eW [_,_,_,_,_]) (some y) O Z5 (azf (ea:=ea) (cA:=cA) (aP:=aP) (ar:=ar) (U:=U) J C al ba aM ag))
def azA{ids:List Int}{i n:Nat}(J:X.C.ok)(C:hv X j g)(al:bE X z s)(aM:n=ids.length)(Y:∀v∈ids,0<=v)(ak:i<n)(ag:Th.mI X.C g j s (.cancel ids) (i+1) n k=some y):ad aa f c (a7 X z.ap z.ai j p (.each (.cancel ids) i n k) f c::bl X z s) dX:=
 iU (a7.eq_34 ..)<|by
  rintro⟨O,dS,d2,cn,d3,aP,ar,U,I,M,ea,cA⟩ ⟨rfl,rfl⟩;dsimp only;refine ak5 [_,_,_,_,_,_,_,_] λe=>q2 [_,_,_,_,_,_,_,_,_] λba=>?_;refine gq (λD h E=>Sat.tail (λh E=>Sat.tail (λh E=>Sat.tail (λh E=>Sat.tail (λh E=>Sat.tail (λh E=>cF (fM:=λ_:Unit=>True) (l:=λ_=>[_,_,_,_,_]) (D:=bl X z s++D) () trivial qB h E) E) E) E) E) E) (Fx X z s i n d2 d3 cn dS _ _ _ _ (eW [_,_,_,_,_]) (some y) O Z5 (ak2 (ea:=ea) (cA:=cA) (aP:=aP) (ar:=ar) (U:=U) J C al ba aM Y ag))
def azB{due:List Int}{i n:Nat}(J:X.C.ok)(C:hv X j g)(al:bE X z s)(b7:cQ X.C j s)(aM:n=due.length)(e:n<most)(ak:i<n)(ag:Th.mI X.C g j s (.leave due) (i+1) n k=some y):ad aa f c (a7 X z.ap z.ai j p (.each (.leave due) i n k) f c::bl X z s) dX:=
 iU (a7.eq_35 ..)<|by
  rintro⟨O,dS,d2,cn,d3,aP,ar,I,M,ea,cA⟩ ⟨rfl,rfl⟩;dsimp only;refine q2 [_,_,_,_,_,_,_,_] λba=>?_;refine gq (λD h E=>Sat.tail (λh E=>Sat.tail (λh E=>Sat.tail (λh E=>Sat.tail (λh E=>Sat.tail (λh E=>cF (fM:=λ_:Unit=>True) (l:=λ_=>[_,_,_,_]) (D:=bl X z s++D) () trivial qB h E) E) E) E) E) E) (Fx X z s i n d2 d3 cn dS _ _ _ _ (eW [_,_,_,_]) (some y) O Pv (ak3 (ea:=ea) (cA:=cA) (aP:=aP) (ar:=ar) (U:=0) J C al ba b7 aM ag))
def azC(J:X.C.ok)(C:hv X j g)(al:bE X z s)(b7:cQ X.C j s)(ah:Th.dE s a=some x)(b:n<=16)(e:n<most)(ak:i<n)(ag:Th.mI X.C g j s (.l9 a) (i+1) n (.parent a k)=some y):ad aa f c (a7 X z.ap z.ai j p QT f c::bl X z s) dX:=
 iU (a7.eq_33 ..)<|by
  rintro⟨O,dS,d2,cn,d3,aP,ar,U,q,I,M⟩ ⟨rfl,rfl,bm,_⟩;dsimp only;refine q2 [_,_,_,_,_,_,_,_] λba=>?_;refine gq (λD h E=>Sat.tail (λh E=>Sat.tail (λh E=>Sat.tail (λh E=>Sat.tail (λh E=>Sat.tail (λh E=>cF (fM:=λ_:Unit=>True) (l:=λ_=>[_,_,_,_]) (D:=bl X z s++D) () trivial qB h E) E) E) E) E) E) (Fx X z s i n d2 d3 cn dS _ _ _ _ (eW [_,_,_,_]) (some y) O Pv (ak4 (ea:=none) (cA:=0) (aP:=aP) (ar:=ar) (U:=U) J C al nM b ae ag))
end
section
variable(l:List Int)(X:cN)(w:Int)(z:dn)(s:ao)(j:Nat)(t:bW)(a q:Nat)(x:bR)(e:hR)
def KC:∀(L:List aq) {A B:List aq},(∀h,Sat A h->Sat B h)->∀h,Sat (L++A) h->Sat (L++B) h
 |[],_,_,f,h,E=>f h E
 |x::L,A,B,f,h,E=>Sat.tail (λh E=>KC L f h E) E
def aeW:dJ (l.map λw=>(w,Value.bool true)) w=if Th.mem l w then some (.bool true)else none:=by
 induction l with
 |nil=>rfl
 |
  cons x l K=>
  simp only[gu,dJ,Th.mem,List.contains_cons];by_cases h:w=x
  . subst h;simp
  . have h2:(w==x)=false:=by simpa using h
    have aN:¬x=w:=λe=>h e.symm;simp only[Th.mem]at K;rw[h2,kT]
    first|(rw[a8 h,K];rfl)|(rw[a8 aN,K];rfl)
def ahw:mz (l.map λw=>(w,Value.bool true)) w=(l.erase w).map λw=>(w,Value.bool true):=by
 induction l with
 |nil=>rfl
 |
  cons x l K=>
  simp only[gu,mz,List.erase_cons];by_cases h:w=x
  . subst h;simp
  . have h2:(x==w)=false:=by simpa using λe:x=w=>h e.symm
    rw[a8 h,h2,K];rfl
def ayn(al:bE X z s)(J:X.C.ok)(B:At X z.ap s.aJ a q x)(V:fT x e)(id:Int)(u:Nat)(l:cW)(K:hG z.ai s.lets id u l)(I:Nat)(M:List Value)(k:Th.K)(y:Option ao)(N:s.az[j]?=some t)(aL:s.dead.length<most)(o:s.trace.length<most)(aM:s.bc.length<=most)(hw:l.p9=true)(p:Th.mem x.watched l.cy=false)(aF:∀aI aQ,hr X j {z with cI:=aI,cJ:=aQ} (kk s id l.to 5) k I M y):ad aa 238 [ptr (X.bp j) 0,ptr q 0,bw id,bj I M] (a7 X z.ap z.ai j 0 k I M::ia X z s a q x e) (ct X y):=by
 refine aw Tryz.func238 λF D=>?_;haveI:=gf (X:=X) (ap:=z.ap) (ai:=z.ai) N;haveI:=K.rd (bO:=0) (v:=af l.cy) rfl;haveI:=K.rd (bO:=1) (v:=af l.to) rfl;haveI:=K.rd (bO:=2) (v:=S l.tag) rfl;haveI:=K.rd (bO:=3) (v:=af l.n) rfl;haveI:=K.rd (bO:=4) (v:=.bool true) y4;have cx:=B.cx;refine zy ?_;intro aO aU aS bY;refine fe ?_ ?_
 . refine wn λY=>?_
   refine aG ?_;refine wn λco=>?_;refine aeV ?_;exact ag9
 . refine wn λco=>?_
   refine aG ?_;refine wn λY=>?_;refine aeV ?_;exact ag9
def ayo(al:bE X z s)(J:X.C.ok)(B:At X z.ap s.aJ a q x)(V:fT x e)(id:Int)(u:Nat)(l:cW)(K:hG z.ai s.lets id u l)(I:Nat)(M:List Value)(k:Th.K)(y:Option ao)(N:s.az[j]?=some t)(aL:s.dead.length<most)(o:s.trace.length<most)(aM:s.bc.length<=most)(hw:l.p9=false)(m:List fv)(b:cC)(r:Bool)(d:cC)(L:0<=l.n/\l.n<=255)(i6:Th.kY e.b8 x.state l.tag l.n=(⟨true,m,b,r,d⟩:dt))(f:X.C.dY<=x.aside.length)(aF:∀aI aQ,hr X j {z with cI:=aI,cJ:=aQ} (kk s id l.to 1) k I M y):ad aa 238 [ptr (X.bp j) 0,ptr q 0,bw id,bj I M] (a7 X z.ap z.ai j 0 k I M::ia X z s a q x e) (ct X y):=by
 refine aw Tryz.func238 λF D=>?_;haveI:=gf (X:=X) (ap:=z.ap) (ai:=z.ai) N;haveI:=K.rd (bO:=0) (v:=af l.cy) rfl;haveI:=K.rd (bO:=1) (v:=af l.to) rfl;haveI:=K.rd (bO:=2) (v:=S l.tag) rfl;haveI:=K.rd (bO:=3) (v:=af l.n) rfl;haveI:=K.rd (bO:=4) (v:=.bool false) y4;have cx:=B.cx;refine zy ?_;intro aO aU aS bY;refine fe ?_ ?_
 . refine wn λY=>?_
   refine aG ?_;refine wn λco=>?_;refine Kx ?_;exact J7
 . refine wn λco=>?_
   refine aG ?_;refine wn λY=>?_;refine Kx ?_;exact J7
def ayp(al:bE X z s)(J:X.C.ok)(B:At X z.ap s.aJ a q x)(V:fT x e)(id:Int)(u:Nat)(l:cW)(K:hG z.ai s.lets id u l)(I:Nat)(M:List Value)(k:Th.K)(y:Option ao)(N:s.az[j]?=some t)(aL:s.dead.length<most)(o:s.trace.length<most)(aM:s.bc.length<=most)(hw:l.p9=false)(m:List fv)(b:cC)(r:Bool)(d:cC)(L:0<=l.n/\l.n<=255)(i6:Th.kY e.b8 x.state l.tag l.n=(⟨true,m,b,r,d⟩:dt))(f:¬X.C.dY<=x.aside.length)(aF:∀aI aQ,hr X j {z with cI:=aI,cJ:=aQ} aaU k I M y):ad aa 238 En iJ (ct X y):=by
 refine aw Tryz.func238 λF D=>?_;haveI:=gf (X:=X) (ap:=z.ap) (ai:=z.ai) N;haveI:=K.rd (bO:=0) (v:=af l.cy) rfl;haveI:=K.rd (bO:=1) (v:=af l.to) rfl;haveI:=K.rd (bO:=2) (v:=S l.tag) rfl;haveI:=K.rd (bO:=3) (v:=af l.n) rfl;haveI:=K.rd (bO:=4) (v:=.bool false) y4;have cx:=B.cx;refine zy ?_;intro aO aU aS bY;refine fe ?_ ?_
 . refine wn λY=>?_
   refine aG ?_;refine wn λco=>?_;exact agS
 . refine wn λco=>?_
   refine aG ?_;refine wn λY=>?_;exact agS
def ayq(al:bE X z s)(J:X.C.ok)(B:At X z.ap s.aJ a q x)(V:fT x e)(id:Int)(u:Nat)(l:cW)(K:hG z.ai s.lets id u l)(I:Nat)(M:List Value)(k:Th.K)(y:Option ao)(N:s.az[j]?=some t)(aL:s.dead.length<most)(o:s.trace.length<most)(aM:s.bc.length<=most)(hw:l.p9=false)(m:List fv)(b:cC)(r:Bool)(d:cC)(L:0<=l.n/\l.n<=255)(i6:Th.kY e.b8 x.state l.tag l.n=(⟨false,m,b,r,d⟩:dt))(h:∀aO aU aS bY Y co c2 bL pc aI aQ,ad aa 156 aaY (aaF++bl X h3 (Th.dd abx a x)) (ct X y)):ad aa 238 En iJ (ct X y):=by
 refine aw Tryz.func238 λF D=>?_;haveI:=gf (X:=X) (ap:=z.ap) (ai:=z.ai) N;haveI:=K.rd (bO:=0) (v:=af l.cy) rfl;haveI:=K.rd (bO:=1) (v:=af l.to) rfl;haveI:=K.rd (bO:=2) (v:=S l.tag) rfl;haveI:=K.rd (bO:=3) (v:=af l.n) rfl;haveI:=K.rd (bO:=4) (v:=.bool false) y4;have cx:=B.cx;refine zy ?_;intro aO aU aS bY;refine fe ?_ ?_
 . refine wn λY=>?_
   refine aG ?_;refine wn λco=>?_;exact agT
 . refine wn λco=>?_
   refine aG ?_;refine wn λY=>?_;exact agT
def ayr(al:bE X z s)(J:X.C.ok)(B:At X z.ap s.aJ a q x)(V:fT x e)(id:Int)(u:Nat)(l:cW)(K:hG z.ai s.lets id u l)(I:Nat)(M:List Value)(k:Th.K)(y:Option ao)(N:s.az[j]?=some t)(aL:s.dead.length<most)(o:s.trace.length<most)(aM:s.bc.length<=most)(hw:l.p9=true)(p:Th.mem x.watched l.cy=true)(m:List fv)(b:cC)(r:Bool)(d:cC)(L:0<=l.n/\l.n<=255)(i6:Th.kY e.b8 x.state l.tag l.n=(⟨true,m,b,r,d⟩:dt))(f:X.C.dY<=x.aside.length)(aF:∀aI aQ,hr X j {z with cI:=aI,cJ:=aQ} (kk s id l.to 1) k I M y):ad aa 238 [ptr (X.bp j) 0,ptr q 0,bw id,bj I M] (a7 X z.ap z.ai j 0 k I M::ia X z s a q x e) (ct X y):=by
 refine aw Tryz.func238 λF D=>?_;haveI:=gf (X:=X) (ap:=z.ap) (ai:=z.ai) N;haveI:=K.rd (bO:=0) (v:=af l.cy) rfl;haveI:=K.rd (bO:=1) (v:=af l.to) rfl;haveI:=K.rd (bO:=2) (v:=S l.tag) rfl;haveI:=K.rd (bO:=3) (v:=af l.n) rfl;haveI:=K.rd (bO:=4) (v:=.bool true) y4;have cx:=B.cx;refine zy ?_;intro aO aU aS bY;refine fe ?_ ?_
 . refine wn λY=>?_
   refine aG ?_;refine wn λco=>?_;refine KA ?_;exact J7
 . refine wn λco=>?_
   refine aG ?_;refine wn λY=>?_;refine KA ?_;exact J7
def ays(al:bE X z s)(J:X.C.ok)(B:At X z.ap s.aJ a q x)(V:fT x e)(id:Int)(u:Nat)(l:cW)(K:hG z.ai s.lets id u l)(I:Nat)(M:List Value)(k:Th.K)(y:Option ao)(N:s.az[j]?=some t)(aL:s.dead.length<most)(o:s.trace.length<most)(aM:s.bc.length<=most)(hw:l.p9=true)(p:Th.mem x.watched l.cy=true)(m:List fv)(b:cC)(r:Bool)(d:cC)(L:0<=l.n/\l.n<=255)(i6:Th.kY e.b8 x.state l.tag l.n=(⟨true,m,b,r,d⟩:dt))(f:¬X.C.dY<=x.aside.length)(aF:∀aI aQ,hr X j {z with cI:=aI,cJ:=aQ} aaU k I M y):ad aa 238 En iJ (ct X y):=by
 refine aw Tryz.func238 λF D=>?_;haveI:=gf (X:=X) (ap:=z.ap) (ai:=z.ai) N;haveI:=K.rd (bO:=0) (v:=af l.cy) rfl;haveI:=K.rd (bO:=1) (v:=af l.to) rfl;haveI:=K.rd (bO:=2) (v:=S l.tag) rfl;haveI:=K.rd (bO:=3) (v:=af l.n) rfl;haveI:=K.rd (bO:=4) (v:=.bool true) y4;have cx:=B.cx;refine zy ?_;intro aO aU aS bY;refine fe ?_ ?_
 . refine wn λY=>?_
   refine aG ?_;refine wn λco=>?_;exact aha
 . refine wn λco=>?_
   refine aG ?_;refine wn λY=>?_;exact aha
def ayt(al:bE X z s)(J:X.C.ok)(B:At X z.ap s.aJ a q x)(V:fT x e)(id:Int)(u:Nat)(l:cW)(K:hG z.ai s.lets id u l)(I:Nat)(M:List Value)(k:Th.K)(y:Option ao)(N:s.az[j]?=some t)(aL:s.dead.length<most)(o:s.trace.length<most)(aM:s.bc.length<=most)(hw:l.p9=true)(p:Th.mem x.watched l.cy=true)(m:List fv)(b:cC)(r:Bool)(d:cC)(L:0<=l.n/\l.n<=255)(i6:Th.kY e.b8 x.state l.tag l.n=(⟨false,m,b,r,d⟩:dt))(h:∀aO aU aS bY Y co c2 bL pc aI aQ,ad aa 156 aaY (aaF++bl X h3 (Th.dd abx a {x with watched:=x.watched.erase l.cy})) (ct X y)):ad aa 238 En iJ (ct X y):=by
 refine aw Tryz.func238 λF D=>?_;haveI:=gf (X:=X) (ap:=z.ap) (ai:=z.ai) N;haveI:=K.rd (bO:=0) (v:=af l.cy) rfl;haveI:=K.rd (bO:=1) (v:=af l.to) rfl;haveI:=K.rd (bO:=2) (v:=S l.tag) rfl;haveI:=K.rd (bO:=3) (v:=af l.n) rfl;haveI:=K.rd (bO:=4) (v:=.bool true) y4;have cx:=B.cx;refine zy ?_;intro aO aU aS bY;refine fe ?_ ?_
 . refine wn λY=>?_
   refine aG ?_;refine wn λco=>?_;exact ahb
 . refine wn λco=>?_
   refine aG ?_;refine wn λY=>?_;exact ahb
def ayu(i n O dS d2 cn d3 aP ar U Z aO aU aS I:Nat)(M:List Value)(k:Th.K)(a q u:Nat)(id:Int)(H:dt)(bL:Option Addr)(pc:Nat)(m:fv)(y:Option ao)(bm:z.ap[a -1]?=some q)(b:z.ai[(id -1).toNat]?=some u)(Y:H.cw[i]?=some m)(h:ad aa 294 [ptr (X.bp j) 0,ptr q 0,ptr u 0,.agg (fO m).toArray,bj 208 sA] (a7 X z.ap z.ai j 0 (.each (.c5 a id H) i n (.ended a id H k)) 208 sA::bl X z s) (ct X y)):ad aa 293 (Qm++BH) ([ab O 3 [af i],ab dS 188 rD,ab d2 3 [af n],ab cn 255 [bj 293 BH],ab d3 1 [bj 295 [ptr Z 0,ptr ar 0,ptr aO 0,ptr aU 0,ptr aP 0,ptr aS 0]],ab aP 106 eo,ab ar 110 [ptr q 0],ab U 311 [ptr u 0],ab Z 356 (lS bL pc H),ab aO 32 [ptr X.h 0],ab aU 36 [bw id],ab aS 1 [bj I M],kx bL pc H.cw,a7 X z.ap z.ai j 0 k I M]++bl X z s) (ct X y):=by
 refine aw Tryz.func293 λF D=>?_;have B:=(dc.1 Y).1;refine cu [] [9,201] [ab aP 106 eo,ab ar 110 [ptr q 0],ab U 311 [ptr u 0],ab Z 356 (lS bL pc H),kx bL pc H.cw] ?_;refine bi ?_;refine go_v rfl .none rfl (fI rfl rfl (show i<H.cw.length by omega)) ?_;refine go_v rfl .none rfl (kv rfl (kw fO 7 x3 Y) rfl) ?_;refine aG ?_;refine br (iA (a7.eq_32 ..) (O,dS,d2,cn,d3,aP,ar,U,Z,aO,aU,aS,q,I,M,u,bL,pc) ⟨rfl,rfl,bm,b,⟨rfl,rfl,rfl⟩⟩ h) ?_;refine ps ?_;exact pq
def ayv(t:bW)(a q:Nat)(x:bR)(e:hR)(B:At X z.ap s.aJ a q x)(V:fT x e)(id:Int)(I:Nat)(M:List Value)(k:Th.K)(y:Option ao)(aP ar U Z aO aU:Nat)(bL:Option Addr)(pc:Nat)(i:Bool)(m:List fv)(b d:cC)(o:s.trace.length<most)(h:∀aI aQ,ad aa 241 lK (a7 X z.ap z.ai j 0 k I M::bl X h3 (Th.dd IX a JC)) (ct X y)):ad aa 295 sx ((ab aP 356 (lS bL pc ⟨i,m,b,true,d⟩)::PR)++ia X z s a q x e) (ct X y):=by
 refine agE ?_;intro F D cx aI aQ;refine nN ?_;refine bK ?_;refine aeA ?_;intro cj aD ah d7;refine b6 ?_;exact pn
def ayw(t:bW)(a q:Nat)(x:bR)(e:hR)(B:At X z.ap s.aJ a q x)(V:fT x e)(id:Int)(I:Nat)(M:List Value)(k:Th.K)(y:Option ao)(aP ar U Z aO aU:Nat)(bL:Option Addr)(pc:Nat)(i:Bool)(m:List fv)(b d:cC)(o:s.trace.length<most)(T:¬d=[])(h:∀aI aQ,ad aa 296 [ptr (X.bp j) 0,ptr q 0,S d,bj I M] (a7 X z.ap z.ai j 0 k I M::bl X h3 (Th.dd IX a JC)) (ct X y)):ad aa 295 sx ((ab aP 356 (lS bL pc ⟨i,m,b,false,d⟩)::PR)++ia X z s a q x e) (ct X y):=by
 refine agE ?_;intro F D cx aI aQ;refine lL ?_;refine bK ?_;refine aB rfl (fC (c:=true) (by simpa using T) (adl rfl rfl)) ?_;refine c8 ?_;refine aeA ?_;intro cj aD ah d7;refine b6 ?_;exact pn
def ayx(t:bW)(a q:Nat)(x:bR)(e:hR)(B:At X z.ap s.aJ a q x)(V:fT x e)(id:Int)(I:Nat)(M:List Value)(k:Th.K)(y:Option ao)(aP ar U Z aO aU:Nat)(bL:Option Addr)(pc:Nat)(i:Bool)(m:List fv)(b d:cC)(o:s.trace.length<most)(aF:∀aI aQ,hr X j {z with cI:=aI,cJ:=aQ} (Th.dd IX a JC) k I M y):ad aa 295 sx ((ab aP 356 (lS bL pc ⟨i,m,b,false,[]⟩)::PR)++ia X z s a q x e) (ct X y):=by
 refine agt ?_;intro F D cx aI aQ;haveI:=(aF aI aQ).iT;refine c0 ?_;refine lL ?_;refine bK ?_;refine aB rfl (fC ry wg) ?_;refine bi ?_;refine br (gq (H:=[a7 X z.ap z.ai j 0 k I M,ab q 118 ((eg X x e).set (0+7) (S b)),dz e.ka e.kc x.kids,dz e.hP e.hQ x.cM,gi e.gK X.C.dY x.aside x.front,h8 e.jx (min (max e.b8.limit 0) 100) (min (max e.b8.within 1) 4095) x.given,b3 e.gQ .i64 (x.watched.map λw=>(w,.bool true)),jd e.jy (h9 e.es),ax (iy e.es),gO e.b8,ax ((e5 X z.ap s.aJ).set (a -1) ft),cL X {z with cI:=aI,cJ:=aQ} {s with trace:=s.trace++[({Th.c7 with kind:=4,dL:=x.id,id:=id,name:=b}:bX)]},dP aI aQ (s.trace++[({Th.c7 with kind:=4,dL:=x.id,id:=id,name:=b}:bX)]),fl z.na z.fq s.notes,b3 X.am .i64 (cf z.ap),b3 X.e6 .u64 (cf z.ai),ax (gj z.ai s.lets),Lg.ds X.ld s.bc,ez X.da X.C.dG s.dead,ch X.m s.L z.tt,fA X,fw X s.bs,eC X.bG X.m X.C.bG X.C.aZ,ax (dZ X),fu X,gk X,gX X,gd X,ax (de X z.ap z.ai s.az)]) (λD h E=>Sat.tail (λh E=>jm (X:=X) (z:={z with cI:=aI,cJ:=aQ}) (s:={s with trace:=s.trace++[({Th.c7 with kind:=4,dL:=x.id,id:=id,name:=b}:bX)]}) (x:={x with state:=b}) (e:=e) B ⟨V.b8,V.lc,V.es⟩ D h E) E) (aF aI aQ).spec) ?_;refine ps ?_;exact pq
end
section
variable(X:cN)(z:dn)(s:ao)(j:Nat)(t:bW)(a q:Nat)(x:bR)(e:hR)
instance:CU aa 115 e2:=⟨let⟨i,a,b,_,_⟩:=HW aqI;⟨_,_,i,Tryz.underlying115,Tryz.underlying9,a,b⟩⟩
theorem sZ{q:Nat}{X:cN}{x:bR}{e:hR}{ec s1 bP bZ:Int}(aj:x.slots=kI):gl (.slice (some ⟨q,8,none⟩) [ec,s1,bP,bZ].length 4) (ab q 118 (eg X x e)) [ec,s1,bP,bZ].length (iC kI):=⟨fun{h} E=>by
 have gr:=aj;refine .inr ⟨q,8,none,4,rfl,λ_=>rfl,λj v ah=>⟨rfl,_,_,_,E,?_⟩⟩;simp only[eg,gr]
 match j,ah with
 |0,ah=>exact ah
 |1,ah=>exact ah
 |2,ah=>exact ah
 |3,ah=>exact ah⟩
def T0{X:cN}{x:bR}{e:hR}{i:Nat}{v:Int}(av:x.slots.length=4)(ak:i<4):(eg X x e).set (8+i*1) (af v)=eg X {x with slots:=x.slots.set i v} e:=by
 obtain⟨ec,s1,bP,bZ,h⟩:∃ec s1 bP bZ,x.slots=kI:=by
  match x.slots,av with
  |[ec,s1,bP,bZ],_=>exact⟨ec,s1,bP,bZ,rfl⟩
 simp only[eg,h]
 match i,ak with
 |0,_=>rfl
 |1,_=>rfl
 |2,_=>rfl
 |3,_=>rfl
def mG:List p4->cC->List p4
 |[],_=>[]
 |(k,v)::r,n=>if n=k then r else(k,v)::mG r n
def q0:List p4->cC->Option Addr->Nat->List Int->List p4
 |[],n,a,c,l=>[(n,a,c,l)]
 |(k,v)::r,n,a,c,l=>if n=k then(n,a,c,l)::r else(k,v)::q0 r n a c l
def akQ:∀(es:List p4) (n:cC),ss (h9 es) n=h9 (mG es n)
 |[],n=>rfl
 |
  (k,v)::r,n=>by
  simp only[h9,gu,ss,mG];split
  . rfl
  . simp only[gu];congr 1;exact akQ r n
def akR:∀(es:List p4) (n:cC),pz (mG es n)=Th.ou (pz es) n
 |[],n=>rfl
 |
  (k,v)::r,n=>by
  simp only[pz,gu,Th.ou,mG];split
  . rfl
  . simp only[gu];congr 1;exact akR r n
def LA:∀(es:List p4) (n:cC),∃(a:Option Addr) (c:Nat),(uq (h9 es) n).getD e2=ul a c (Th.gF (pz es) n)/\∀D h,Sat (ax (iy es)::D) h->Sat (fE a c (Th.gF (pz es) n)::ax (iy (mG es n))::D) h
 |[],n=>⟨none,0,rfl,λD h E=>iV h E⟩
 |
  (k,v)::r,n=>by
  by_cases hk:n=k
  . refine⟨v.1,v.2.1,?_,λD h E=>?_⟩
    . simp only[h9,pz,gu,uq,Th.gF,bd hk];rfl
    . simp only[pz,iy,gu,Th.gF,mG,bd hk]at E⊢
      exact Sat.tail (λh E=>Sat.flat.2 E) (Sat.flat.1 E)
  . obtain⟨a,c,h1,h2⟩:=LA r n
    refine⟨a,c,?_,λD h E=>?_⟩
    . simp only[h9,pz,gu,uq,Th.gF,a8 hk]at h1⊢;exact h1
    . simp only[pz,iy,gu,Th.gF,mG,a8 hk]at E h2⊢
      have gt:=Sat.flat.1 E;have L:=Sat.tail (λh E=>h2 D h (Sat.flat.2 E)) gt;exact Sat.tail (λh E=>Sat.flat.2 Jj) (Sat.swap L)
def T1:∀(es:List p4) (n:cC) (a:Option Addr) (c:Nat) (l:List Int),pf (h9 es) n (ul a c l)=h9 (q0 es n a c l)
 |[],n,a,c,l=>rfl
 |
  (k,v)::r,n,a,c,l=>by
  simp only[h9,gu,pf,q0];split
  . rfl
  . simp only[gu];congr 1;exact T1 r n a c l
def T2:∀(es:List p4) (n:cC) (a:Option Addr) (c:Nat) (x:Int),pz (q0 es n a c (Th.gF (pz es) n++[x]))=Th.ma (pz es) n x
 |[],n,a,c,x=>rfl
 |
  (k,v)::r,n,a,c,x=>by
  by_cases hk:n=k
  . simp only[pz,gu,Th.ma,Th.gF,q0,bd hk]
  . simp only[pz,gu,Th.ma,Th.gF,q0,a8 hk];congr 1;exact T2 r n a c x
def T3:∀(es:List p4) (n:cC) (a:Option Addr) (c:Nat) (l:List Int) (D:List aq) (h:eA),Sat (fE a c l::ax (iy (mG es n))::D) h->Sat (ax (iy (q0 es n a c l))::D) h
 |[],n,a,c,l,D,h,E=>Sat.flat.2 Jj
 |
  (k,v)::r,n,a,c,l,D,h,E=>by
  by_cases hk:n=k
  . simp only[iy,gu,q0,mG,bd hk]at E⊢
    exact Sat.flat.2 Jj
  . simp only[iy,gu,q0,mG,a8 hk]at E⊢
    have gt:=Sat.swap Jj;exact Sat.flat.2 (Sat.tail (λh E=>Sat.flat.1 (T3 r n a c l D h (Sat.tail (λh E=>Sat.flat.2 E) E))) gt)
def ayy(al:bE X z s)(J:X.C.ok)(B:At X z.ap s.aJ a q x)(V:fT x e)(id:Int)(u:Nat)(l:cW)(K:hG z.ai s.lets id u l)(m:fv)(I:Nat)(M:List Value)(k:Th.K)(ec s1 bP bZ:Int)(aj:x.slots=kI)(N:s.az[j]?=some t)(y:Option ao)(h:ad aa 93 [ptr (X.bp j) 0,.agg (py ⟨x.id,(Th.hl m.ref x.id (max l.cy 0) x.parent kI),m.name,m.n,false⟩).toArray,bj I M] iJ (ct X y))(U:m.do'=1):ad aa 294 va iJ (ct X y):=by
 refine aw Tryz.func294 λF D=>?_;haveI:=gf (X:=X) (ap:=z.ap) (ai:=z.ai) N;haveI:=K.rd (bO:=0) (v:=af l.cy) rfl;haveI:=sZ (q:=q) (X:=X) (e:=e) aj;have cx:=B.cx;refine ahl ?_;intro aU aS Y co c2;refine bK ?_;refine cu [] [12,201] [ab aU 106 eo,ab aS 110 [ptr q 0],ab Y 87 (fO m),ab co 1 [bj I M],ab q 118 (eg X x e)] ?_;refine dC ?_;refine br (h) ?_;exact aeD
def ayz(al:bE X z s)(J:X.C.ok)(B:At X z.ap s.aJ a q x)(V:fT x e)(id:Int)(u:Nat)(l:cW)(K:hG z.ai s.lets id u l)(m:fv)(I:Nat)(M:List Value)(k:Th.K)(ec s1 bP bZ:Int)(aj:x.slots=kI)(N:s.az[j]?=some t)(y:Option ao)(h:ad aa 343 [ptr (X.bp j) 0,ptr q 0,af ((Th.nt m.slot).getD 0),S m.name,bj I M] iJ (ct X y))(U:m.do'=2):ad aa 294 va iJ (ct X y):=by
 refine aw Tryz.func294 λF D=>?_;haveI:=gf (X:=X) (ap:=z.ap) (ai:=z.ai) N;haveI:=K.rd (bO:=0) (v:=af l.cy) rfl;haveI:=sZ (q:=q) (X:=X) (e:=e) aj;have cx:=B.cx;refine ahp ?_;intro aU aS Y co c2;refine c0 ?_;exact RO
def ayA(al:bE X z s)(J:X.C.ok)(B:At X z.ap s.aJ a q x)(V:fT x e)(id:Int)(u:Nat)(l:cW)(K:hG z.ai s.lets id u l)(m:fv)(I:Nat)(M:List Value)(k:Th.K)(ec s1 bP bZ:Int)(aj:x.slots=kI)(N:s.az[j]?=some t)(y:Option ao)(g0:((Th.nt m.slot).getD 0)<4)(aF:hr X j z (Th.dd s a Qn) k I M y)(U:m.do'=10):ad aa 294 va iJ (ct X y):=by
 refine aw Tryz.func294 λF D=>?_;haveI:=gf (X:=X) (ap:=z.ap) (ai:=z.ai) N;haveI:=K.rd (bO:=0) (v:=af l.cy) rfl;haveI:=sZ (q:=q) (X:=X) (e:=e) aj;have cx:=B.cx;haveI:=aF.iT;have b:x.slots.length=4:=by rw[aj];rfl
 refine ahs ?_;intro aU aS Y co c2;refine c0 ?_;refine aB rfl (l1 rfl rfl g0) ?_;refine kb (mv rfl rfl rfl Z2) ?_;refine bb ?_;rw[T0 b g0];refine bb ?_;refine br (gq (H:=(a7 X z.ap z.ai j 0 k I M::ab q 118 (eg X Qn e)::dz e.ka e.kc x.kids::aak)) (λD h E=>Sat.tail (λh E=>jm (X:=X) (z:=z) (s:=s) (x:=Qn) (e:=e) B pk D h E) E) aF.spec) ?_;refine ps ?_;exact pq
def ayB(al:bE X z s)(J:X.C.ok)(B:At X z.ap s.aJ a q x)(V:fT x e)(id:Int)(u:Nat)(l:cW)(K:hG z.ai s.lets id u l)(m:fv)(I:Nat)(M:List Value)(k:Th.K)(ec s1 bP bZ:Int)(aj:x.slots=kI)(N:s.az[j]?=some t)(y:Option ao)(aE:s.bc.length<=most)(h1:x.aside.length<=1099511627776)(h2:x.front.length<=1099511627776)(aF:hr X j z (Th.dd acY a adb) k I M y)(U:m.do'=5):ad aa 294 va iJ (ct X y):=by
 refine aw Tryz.func294 λF D=>?_;haveI:=gf (X:=X) (ap:=z.ap) (ai:=z.ai) N;haveI:=K.rd (bO:=0) (v:=af l.cy) rfl;haveI:=sZ (q:=q) (X:=X) (e:=e) aj;have cx:=B.cx;haveI:=aF.iT;refine ahu ?_;intro aU aS Y co c2;refine bQ ?_;refine aT (akJ X z s j t q x e s.bc aE h1 h2 N) ?_;refine bK ?_;refine br (gq (H:=(a7 X z.ap z.ai j 0 k I M::ab q 118 (eg X x e)::dz e.ka e.kc x.kids::dz e.hP e.hQ x.cM::gi e.gK X.C.dY [] (x.front++x.aside.reverse)::h8 e.jx oR oS x.given::b3 e.gQ .i64 tI::jd e.jy (h9 e.es)::ax (iy e.es)::gO e.b8::ax wY::cL X z s::dP z.cI z.cJ s.trace::aat)) (λD h E=>Sat.tail (λh E=>jm (X:=X) (z:=z) (s:=acY) (x:=adb) (e:=e) B pk D h E) E) aF.spec) ?_;refine ps ?_;exact pq
def ayC(al:bE X z s)(J:X.C.ok)(B:At X z.ap s.aJ a q x)(V:fT x e)(id:Int)(u:Nat)(l:cW)(K:hG z.ai s.lets id u l)(m:fv)(I:Nat)(M:List Value)(k:Th.K)(ec s1 bP bZ:Int)(aj:x.slots=kI)(N:s.az[j]?=some t)(R:t.on=none)(U:m.do'=8):ad aa 294 va iJ (ct X (some abm)):=by
 refine aw Tryz.func294 λF D=>?_;haveI:=gf (X:=X) (ap:=z.ap) (ai:=z.ai) N;haveI:=K.rd (bO:=0) (v:=af l.cy) rfl;haveI:=sZ (q:=q) (X:=X) (e:=e) aj;have cx:=B.cx;refine ahy ?_;intro aU aS Y co c2;refine bK ?_;refine cu [] [15,201] (ab aU 106 eo::acV) ?_;refine eJ ?_;refine aT (avQ X z s j t aU aS Y co a q (⟨x.id,x.id,m.name,m.n,false⟩:cW) m I M k B.ap N R) ?_;refine bK ?_;exact aX ⟨rfl,z,_,rfl,jl,rfl⟩ (λh E=>by have:=jm (X:=X) (z:=z) (s:=abm) (x:=x) (g8:=x) B V D h ((au) h E);rw[sF (X:=X) (ap:=z.ap) (q:=q) (s:={s with az:=s.az.set j {t with on:=some (.add 0 1,.gv a (⟨x.id,x.id,m.name,m.n,false⟩:cW) m k)}}) B]at this;exact this)
def ayD(al:bE X z s)(J:X.C.ok)(B:At X z.ap s.aJ a q x)(V:fT x e)(id:Int)(u:Nat)(l:cW)(K:hG z.ai s.lets id u l)(m:fv)(I:Nat)(M:List Value)(k:Th.K)(ec s1 bP bZ:Int)(aj:x.slots=kI)(N:s.az[j]?=some t)(y:Option ao)(h:∀aU c2 d ea cA,ad aa 156 [ptr (X.bp j) 0,af (Th.gF x.timers m.name).length,bj 346 [ptr aU 0,ptr c2 0,ptr d 0],bj I M] aaG (ct X y))(U:m.do'=9):ad aa 294 va iJ (ct X y):=by
 refine aw Tryz.func294 λF D=>?_;haveI:=gf (X:=X) (ap:=z.ap) (ai:=z.ai) N;haveI:=K.rd (bO:=0) (v:=af l.cy) rfl;haveI:=sZ (q:=q) (X:=X) (e:=e) aj;have cx:=B.cx;obtain⟨ea,cA,r,b⟩:=LA e.es m.name;rw[V.es]at r b;refine ahy ?_;intro aU aS Y co c2;refine nI ?_;refine bB ?_;refine cu [7] [107,202] [ab aS 110 [ptr q 0],ab Y 87 (fO m),ab q 118 (eg X x e),jd e.jy (h9 e.es)] ?_;refine bi ?_;refine go_vs rfl .none rfl (Vb (ul ea cA IM) r rfl rfl) (au) ?_;refine wn λd=>?_;refine bB ?_;refine cu [] [6,201] acV ?_;refine bi ?_;refine go_n0 rfl .none (arv rfl rfl) ?_;rintro _ _ ⟨rfl,rfl⟩;rw[akQ];refine cv ?_;refine ci rfl (b1 rfl (gq (H:=[ab aU 106 eo,ab c2 32 [ptr X.h 0],ab d 49 [ul ea cA IM],a7 X z.ap z.ai j 0 k I M,ax (iy e.es)]++(ab q 118 (eg X x e)::dz e.ka e.kc x.kids::dz e.hP e.hQ x.cM::gi e.gK X.C.dY x.aside x.front::h8 e.jx oR oS x.given::b3 e.gQ .i64 tI::jd e.jy (h9 (mG e.es m.name))::aal)) (λD h E=>(show∀h,Sat _ h->Sat (aaG++D) h from λh E=>by
  have gt:=b _ h ((show∀h,Sat _ h->Sat (ax (iy e.es)::([ab aU 106 [ptr (X.bp j) 0],ab c2 32 [ptr X.h 0],ab d 49 [ul ea cA (Th.gF x.timers m.name)],a7 X z.ap z.ai j 0 k I M]++([ab q 118 (eg X x e),dz e.ka e.kc x.kids,dz e.hP e.hQ x.cM,gi e.gK X.C.dY x.aside x.front,h8 e.jx (min (max e.b8.limit 0) 100) (min (max e.b8.within 1) 4095) x.given,b3 e.gQ .i64 (x.watched.map λw=>(w,.bool true)),jd e.jy (h9 (mG e.es m.name)),gO e.b8,ax ((e5 X z.ap s.aJ).set (a -1) ft),cL X z s,dP z.cI z.cJ s.trace,fl z.na z.fq s.notes,b3 X.am .i64 (cf z.ap),b3 X.e6 .u64 (cf z.ai),ax (gj z.ai s.lets),Lg.ds X.ld s.bc,ez X.da X.C.dG s.dead,ch X.m s.L z.tt,fA X,fw X s.bs,eC X.bG X.m X.C.bG X.C.aZ,ax (dZ X),fu X,gk X,gX X,gd X,ax (de X z.ap z.ai s.az)]++D))) h from(au)) h E);exact KC [ab aU 106 [ptr (X.bp j) 0],ab c2 32 [ptr X.h 0],ab d 49 [ul ea cA (Th.gF x.timers m.name)],fE ea cA (Th.gF x.timers m.name),a7 X z.ap z.ai j 0 k I M] (λh E=>jm (X:=X) (z:=z) (s:=s) (x:={x with timers:=Th.ou x.timers m.name}) (e:={e with es:=mG e.es m.name}) B ⟨V.b8,V.lc,by rw[akR,V.es]⟩ D h E) h ((show∀h,Sat _ h->Sat ([ab aU 106 [ptr (X.bp j) 0],ab c2 32 [ptr X.h 0],ab d 49 [ul ea cA (Th.gF x.timers m.name)],fE ea cA (Th.gF x.timers m.name),a7 X z.ap z.ai j 0 k I M]++(ia X z s a q {x with timers:=Th.ou x.timers m.name} {e with es:=mG e.es m.name}++D)) h from(au)) h gt)) h E) (h aU c2 d ea cA)) bF) ?_
 exact aeN
def ayE(al:bE X z s)(J:X.C.ok)(B:At X z.ap s.aJ a q x)(V:fT x e)(id:Int)(u:Nat)(l:cW)(K:hG z.ai s.lets id u l)(m:fv)(I:Nat)(M:List Value)(k:Th.K)(ec s1 bP bZ:Int)(aj:x.slots=kI)(N:s.az[j]?=some t)(y:Option ao)(O:(Th.hl m.ref x.id (max l.cy 0) x.parent kI)=0\/(Th.hl m.ref x.id (max l.cy 0) x.parent kI)=x.id)(aF:hr X j z s k I M y)(U:m.do'=6):ad aa 294 va (a7 X z.ap z.ai j 0 k I M::ia X z s a q x e) (ct X y):=by
 refine aw Tryz.func294 λF D=>?_;haveI:=gf (X:=X) (ap:=z.ap) (ai:=z.ai) N;haveI:=K.rd (bO:=0) (v:=af l.cy) rfl;haveI:=sZ (q:=q) (X:=X) (e:=e) aj;have cx:=B.cx;haveI:=aF.iT;refine ahF ?_;intro aU aS Y co c2;refine ls (d:=141) 7 (.bool (decide ((Th.hl m.ref x.id (max l.cy 0) x.parent [ec,s1,bP,bZ])=0)||decide ((Th.hl m.ref x.id (max l.cy 0) x.parent [ec,s1,bP,bZ])=x.id))) ?_ (λn=>?_)
 rotate_left
 . refine hx rfl rfl (λW=>?_) (λW=>?_) rfl
   . exact J0
   . exact Ka
 refine bb ?_;exact agf
def ayF(al:bE X z s)(J:X.C.ok)(B:At X z.ap s.aJ a q x)(V:fT x e)(id:Int)(u:Nat)(l:cW)(K:hG z.ai s.lets id u l)(m:fv)(I:Nat)(M:List Value)(k:Th.K)(ec s1 bP bZ:Int)(aj:x.slots=kI)(N:s.az[j]?=some t)(y:Option ao)(O:(Th.hl m.ref x.id (max l.cy 0) x.parent kI)=0\/(Th.hl m.ref x.id (max l.cy 0) x.parent kI)=x.id)(aF:hr X j z s k I M y)(U:m.do'=7):ad aa 294 va (a7 X z.ap z.ai j 0 k I M::ia X z s a q x e) (ct X y):=by
 refine aw Tryz.func294 λF D=>?_;haveI:=gf (X:=X) (ap:=z.ap) (ai:=z.ai) N;haveI:=K.rd (bO:=0) (v:=af l.cy) rfl;haveI:=sZ (q:=q) (X:=X) (e:=e) aj;have cx:=B.cx;haveI:=aF.iT;refine ahL ?_;intro aU aS Y co c2;refine ls (d:=141) 7 (.bool (decide ((Th.hl m.ref x.id (max l.cy 0) x.parent [ec,s1,bP,bZ])=0)||decide ((Th.hl m.ref x.id (max l.cy 0) x.parent [ec,s1,bP,bZ])=x.id))) ?_ (λn=>?_)
 rotate_left
 . refine hx rfl rfl (λW=>?_) (λW=>?_) rfl
   . exact J0
   . exact Ka
 refine bb ?_;exact agf
def ayG(al:bE X z s)(J:X.C.ok)(B:At X z.ap s.aJ a q x)(V:fT x e)(id:Int)(u:Nat)(l:cW)(K:hG z.ai s.lets id u l)(m:fv)(I:Nat)(M:List Value)(k:Th.K)(ec s1 bP bZ:Int)(aj:x.slots=kI)(N:s.az[j]?=some t)(y:Option ao)(O:¬((Th.hl m.ref x.id (max l.cy 0) x.parent kI)=0\/(Th.hl m.ref x.id (max l.cy 0) x.parent kI)=x.id))(h:ad aa 348 [ptr (X.bp j) 0,ptr q 0,af (Th.hl m.ref x.id (max l.cy 0) x.parent kI),bj I M] (a7 X z.ap z.ai j 0 k I M::ia X z s a q x e) (ct X y))(U:m.do'=6):ad aa 294 va (a7 X z.ap z.ai j 0 k I M::ia X z s a q x e) (ct X y):=by
 refine aw Tryz.func294 λF D=>?_;haveI:=gf (X:=X) (ap:=z.ap) (ai:=z.ai) N;haveI:=K.rd (bO:=0) (v:=af l.cy) rfl;haveI:=sZ (q:=q) (X:=X) (e:=e) aj;have cx:=B.cx;refine ahF ?_;intro aU aS Y co c2;refine ls (d:=141) 7 (.bool (decide ((Th.hl m.ref x.id (max l.cy 0) x.parent [ec,s1,bP,bZ])=0)||decide ((Th.hl m.ref x.id (max l.cy 0) x.parent [ec,s1,bP,bZ])=x.id))) ?_ (λn=>?_)
 rotate_left
 . refine hx rfl rfl (λW=>?_) (λW=>?_) rfl
   . exact J0
   . exact Ka
 refine bb ?_;refine aey ?_;refine cv ?_;refine br (h) ?_;exact xk
def ayH(al:bE X z s)(J:X.C.ok)(B:At X z.ap s.aJ a q x)(V:fT x e)(id:Int)(u:Nat)(l:cW)(K:hG z.ai s.lets id u l)(m:fv)(I:Nat)(M:List Value)(k:Th.K)(ec s1 bP bZ:Int)(aj:x.slots=[ec,s1,bP,bZ])(N:s.az[j]?=some t)(O:¬((Th.hl m.ref x.id (max l.cy 0) x.parent [ec,s1,bP,bZ])=0\/(Th.hl m.ref x.id (max l.cy 0) x.parent [ec,s1,bP,bZ])=x.id))(b:Nat)(aA:(Th.hl m.ref x.id (max l.cy 0) x.parent [ec,s1,bP,bZ])=(b:Int))(o:1<=b/\b<=X.C.aZ)(R:t.on=none)(aL:Th.c6 k)(U:m.do'=7):ad aa 294 [ptr (X.bp j) 0,ptr q 0,ptr u 0,.agg (fO m).toArray,bj I M] (a7 X z.ap z.ai j 0 k I M::ia X z s a q x e) (ct X (some (Th.dd {s with az:=s.az.set j {t with on:=some (.hV (nE 2 (lF X.C.bG X.C.aZ x.id b)),k)}} a {x with watched:=x.watched.erase (b:Int)}))):=by
 refine aw Tryz.func294 λF D=>?_;haveI:=gf (X:=X) (ap:=z.ap) (ai:=z.ai) N;haveI:=K.rd (bO:=0) (v:=af l.cy) rfl;haveI:=sZ (q:=q) (X:=X) (e:=e) aj;have cx:=B.cx;have g:1<=x.id/\x.id<=X.C.aZ:=IC;refine ahL ?_;intro aU aS Y co c2;refine ls (d:=141) 7 (.bool (decide ((Th.hl m.ref x.id (max l.cy 0) x.parent [ec,s1,bP,bZ])=0)||decide ((Th.hl m.ref x.id (max l.cy 0) x.parent [ec,s1,bP,bZ])=x.id))) ?_ (λn=>?_)
 rotate_left
 . refine hx rfl rfl (λW=>?_) (λW=>?_) rfl
   . exact J0
   . exact Ka
 refine bb ?_;refine aey ?_;refine dC ?_;refine A9 (Pc rfl rfl) ?_;rintro _ _ ⟨rfl,rfl⟩;rw[aA,ahw];refine bb ?_;refine il [10,13] [10] [1,4,8,12,16,20,24,28,32,36,49,42,44,54] [ab aU 106 [ptr (X.bp j) 0],ab co 1 [bj I M],ab c2 32 [ptr X.h 0],ab aS 110 [ptr q 0],ab q 118 (eg X x e),cL X z s] ?_;refine c0 ?_;refine br (avN X J x.id b g o) ?_;refine pr ?_;intro p;refine th rfl .none rfl (jt Tryz.underlying392 rfl rfl) ?_;refine aT (pv (agQ aL) (jK X z.ap z.ai s.az j p I M t (.hV (nE 2 (lF X.C.bG X.C.aZ x.id b))) k N R)) ?_;refine bK ?_;exact aX ⟨rfl,z,_,rfl,⟨al.gL,al.gD,al.gE,by show _=(s.aJ.set _ _).length;rw[gn];exact al.ap,al.ai⟩,rfl⟩ (λh E=>jm (X:=X) (z:=z) (s:={s with az:=s.az.set j {t with on:=some (.hV (nE 2 (lF X.C.bG X.C.aZ x.id b)),k)}}) (x:={x with watched:=x.watched.erase (b:Int)}) B pk D h ((au) h E))
end
theorem akS{X:cN}{ap ai:List Nat}{l:List bW}{j:Nat}{t dk:bW}{D M:List aq}(h:l[j]?=some t)(R:dk.on=none)
 (e:∀h,Sat M h->Sat (ki X j .nilIface .nilFunc dk::ax ((de X ap ai l).set j ft)::D) h):∀h,Sat M h->Sat (ax (de X ap ai (l.set j dk))::D) h:=λq s=>by
 rw[de,mapIdx_set];refine uU (by rw[KQ];exact(dc.1 h).1) q ?_;have ay:hF X ap ai j dk=ki X j .nilIface .nilFunc dk:=by simp[hF,R]
 rw[ay];exact e q s
section
variable(I:List aq)(X:cN)(z:dn)(s:ao)(j p:Nat)(t:bW)(aC:gC)
def akT{j:Nat}(N:j<X.C.a1):ad aa 86 [ptr X.cX.c 0,af (jT X j)] [fA X] (λu H=>∃p,u=ptr p 0/\H=[c3 X p (.fx (yA j)),fA X]):=by
 have ay:jT X j=j:=bd N;rw[ay];exact E3 (apB X.cX X.C.bA j N)
def ayI:ad aa 235 [] I ED:=by
 refine aw Tryz.func235 λF D=>?_;exact EJ
def ayJ:ad aa 289 [] I ED:=by
 refine aw Tryz.func289 λF D=>?_;exact EJ
def ayK:ad aa 168 [] I ED:=by
 refine aw Tryz.func168 λF D=>?_;exact EJ
def ayL:ad aa 94 [] I ED:=by
 refine aw Tryz.func94 λF D=>?_;exact EJ
def ayM:ad aa 159 [] I ED:=by
 refine aw Tryz.func159 λF D=>?_;exact EJ
def ayN(hp:aC.out=0->aC.val=0)(N:s.az[j]?=some t)(R:t.on=none)(aP ar:Nat):ad aa 80 tJ abO (aH eu [ax (de X z.ap z.ai (s.az.set j {t with ij:=!decide (aC.out=1)}))]):=by
 refine aw Tryz.func80 λF D=>?_;refine u1 ey (SQ N R) ?_;refine cu [4] [101,3,201,3,201] [ab aP 169 [ptr p 0],ab ar 106 eo,c3 X p (.fx aC)] ?_;refine bK ?_;refine aT (XX X.cX X.C.bA p aC hp) ?_;refine cq ?_;exact aX ⟨rfl,rfl⟩ (akS (dk:={t with ij:=!decide (aC.out=1)}) N R (au))
def ayO(hp:aC.out=0->aC.val=0)(N:s.az[j]?=some t)(R:t.on=none)(aP ar:Nat)(aK:¬aC.out=1):ad aa 87 tJ abO (aH eu [ax (de X z.ap z.ai (s.az.set j {t with ij:=true}))]):=by
 refine aw Tryz.func87 λF D=>?_;refine u1 ey (SQ N R) ?_;refine Rv ?_;refine dC ?_;exact aX ⟨rfl,rfl⟩ (akS (dk:={t with ij:=true}) N R (au))
end
section
variable{X:cN}{α z:Type}{D:List aq}
abbrev mA(id a:Nat)(k:b2)(st:cC):bR:=⟨id,a,k,st,[0,0,0,0],[],1,[],[],[],[],[],[]⟩
def akU{ap:List Nat}{l:List bR}{q:Nat}{x:bR}(h:ap.length=l.length):e5 X (ap++[q]) (l++[x])=e5 X ap l++[vu X q x]:=by
 simp only[e5,akL,SR,List.mapIdx_nil];exact aer
theorem ayP{z:dn}{s:ao}{a id b d g c j:Nat}{b8 N:b2}{st:cC}{D:List aq}(al:bE X z s)(O:dr b8=dr N)(cx:id=s.aJ.length+1)(w:a -1<s.aJ.length):
 ∀
  h,Sat (ab b 118 (eg X (mA id a N st) ⟨b8,none,0,none,0,d,g,c,j,[]⟩)::gi d X.C.dY [] []::h8 g (min (max b8.limit 0) 100) (min (max b8.within 1) 4095) []::eB c (.map #[] 0)::eB j (.map #[] 0)::gO b8::ax ((e5 X z.ap s.aJ).set (a -1) ft)::ax (de X z.ap z.ai s.az)::b3 X.am .i64 (eV (cf z.ap) (id:Int) (ptr b 0))::D) h->
  Sat (ax ((e5 X vc (s.aJ++[mA id a N st])).set (a -1) ft)::ax Jn::b3 X.am .i64 (cf vc)::D) h:=λh E=>by
 have T:q9 b8:=by
  have z0:=Sat.drop (Sat.drop (Sat.drop (Sat.drop (Sat.drop E))));obtain⟨h1,h2,_,_,o,_⟩:=z0;exact F8 o
 have ay:(e5 X vc (s.aJ++[mA id a N st])).set (a -1) ft=(e5 X z.ap s.aJ).set (a -1) ft++[vu X b (mA id a N st)]:=by
  rw[akU al.ap,Gf _ _ (by rw[e5,KQ];exact w)]
 have aV:eV (cf z.ap) (id:Int) (ptr b 0)=cf vc:=Z3;rw[ay,<-aV];refine ty h ?_;refine cF (D:=ax ((e5 X z.ap s.aJ).set (a -1) ft)::ax (de X (z.ap++[b]) z.ai s.az)::b3 X.am .i64 (eV (cf z.ap) (id:Int) (ptr b 0))::D) (⟨b8,none,0,none,0,d,g,c,j,[]⟩:hR) ⟨O,T,rfl⟩ (λh E=>E) h ?_;have f:∀h,Sat (gO b8::ax ((e5 X z.ap s.aJ).set (a -1) ft)::ax (de X z.ap z.ai s.az)::b3 X.am .i64 (eV (cf z.ap) (id:Int) (ptr b 0))::D) h->Sat (ax []::gO b8::ax wY::ax Jn::b3 X.am .i64 (eV (cf z.ap) (id:Int) (ptr b 0))::D) h:=λh E=>
  wR h (Sat.tail (λh E=>Sat.tail (λh E=>Ly (X:=X) (λi x e=>xO i x e) zm s.az _ h E) E) E)
 exact Sat.tail aaZ E
def q1{P:Program}{f:FuncId}{args:List Value}{M I:List aq}{Q post:Value->List aq->Prop}(a:List aq)(h:ad P f args M Q)(i:∀h,Sat I h->Sat (M++a) h)(g:∀u H,Q u H->∃c,post u c/\∀h,Sat (H++a) h->Sat c h):ad P f args I post:=λF D w s=>
 (h F (a++D) w acO).mono λ_ _ ⟨v,H,e,p,s⟩=>let⟨c,S,O⟩:=g v H p;ack
def T4{f:α->z}{l g6:List α}(h:l.map f=g6.map f){x:α}(ah:x∈g6):∃y∈l,f y=f x:=by
 have h1:f x∈g6.map f:=lU.2 ⟨x,ah,rfl⟩;rw[<-h]at h1;obtain⟨y,ag,e⟩:=lU.1 h1;exact⟨y,ag,e⟩
def LB{f:α->z}{l g6:List α}(h:l.map f=g6.map f):l.length=g6.length:=by simpa using congrArg List.length h
def ayQ{r m:Row}(h:mP r=mP m)(o:Gc r):Gc m:=by
 have ay:r.tag=m.tag:=(congrArg Row.tag h:(mP r).tag=(mP m).tag);have aV:r.cw=m.cw:=(congrArg Row.cw h:(mP r).cw=(mP m).cw);exact⟨ay▸o.tag,aV▸o.len,aV▸o.cw⟩
def ayR{s aD:fN}(h:jf s=jf aD)(o:L5 s):L5 aD:=by
 have ay:s.name=aD.name:=(congrArg fN.name h:(jf s).name=(jf aD).name);have aV:s.rows.map mP=aD.rows.map mP:=(congrArg fN.rows h:(jf s).rows=(jf aD).rows);exact⟨ay▸o.name,LB aV▸o.len,λr aE=>let⟨y,ag,e⟩:=T4 aV aE;ayQ e (o.rows y ag)⟩
def T5{k V:b2}(h:dr k=dr V)(o:lT k):lT V:=by
 have ay:k.name=V.name:=(congrArg b2.name h:(dr k).name=(dr V).name);have aV:k.cases=V.cases:=(congrArg b2.cases h:(dr k).cases=(dr V).cases);have bz:k.states.map jf=V.states.map jf:=(congrArg b2.states h:(dr k).states=(dr V).states);exact⟨ay▸o.name,aV▸o.tb,aV▸o.cases,LB bz▸o.lens,λs aj=>let⟨y,ag,e⟩:=T4 bz aj;ayR e (o.states y ag)⟩
def akV{kind:cC}{k:b2}:∀{P a:List b2},a.map dr=P.map dr->P.find? (λx=>decide (x.name=kind))=some k->∃V,a.find? (λx=>decide (x.name=kind))=some V/\dr V=dr k
 |[],[],_,h=>by cases h
 |[],_::_,e,_=>by simp at e
 |_::_,[],e,_=>by simp at e
 |
  x::P,n::a,e,h=>by
  rw[gu,gu]at e;injection e with ay aV;have db:n.name=x.name:=(congrArg b2.name ay:(dr n).name=(dr x).name);rw[akz]at h⊢;rw[db];cases aL:decide (x.name=kind)with
  |true=>rw[aL]at h;cases h;exact⟨n,rfl,ay⟩
  |false=>rw[aL]at h;exact akV aV h
def ayS{h:eA}(E:Sat (gd X::D) h){k:b2}(hk:k∈X.P):lT k:=by
 obtain⟨h1,h2,_,_,⟨a,e,o⟩,_⟩:=E;obtain⟨V,b,y⟩:=T4 e hk;exact T5 y (U0 (o.kinds V b))
theorem akW{kind:cC}{N:b2}(t:X.P.length<=4611686018427387904)(r:lT N)(ba:X.P.find? BJ=some N):
 ad aa 58 [.agg #[.slice X.bL X.P.length X.pc],S kind] [gd X] (λu H=>∃V,dr V=dr N/\u=.tuple #[.agg (eK V).toArray,.bool true]/\H=[gO V,gd X]):=λF D w st=>by
 obtain⟨h1,h2,d,e,⟨a,j,o⟩,E⟩:=st.e4;have gr:a.length=X.P.length:=LB j;obtain⟨fS,f1,ar⟩:=akV j ba;have bh:=Va a X.bL X.pc kind fS ae (T5 ar.symm r) f1 (λh=>hT h X.bL X.pc a) (λ_ h=>h) F D w ⟨st.os,st.tape,st.output,st.size,⟨h1,h2,d,e,o,E⟩⟩;rw[gr]at bh;exact bh.mono λ_ _ ⟨v,H,e,⟨V,l,Y,cb⟩,s⟩=>⟨v,_,e,⟨V,l.trans ar,Y,rfl⟩,by subst cb;exact s.imp λh s=>Sat.tail (λh s=>Sat.head (λh o=>⟨a,j,o⟩) s) s⟩
end
section
variable(X:cN)(z:dn)(s:ao)(a q id:Nat)(x:bR)(e:hR)(kind st:cC)(N:b2)(kt:fN)
theorem ayT(al:bE X z s)(B:At X z.ap s.aJ a q x)(J:X.C.ok)(t:X.P.length<=4611686018427387904)(i4:X.P.find? BJ=some N)(r:lT N)(g4:N.states[0]?=some kt)(f9:kt.name=st)(cx:id=s.aJ.length+1)(m:id<=X.C.aZ)(T:x.kids.length<most)(o:s.trace.length<most):ad aa 69 [ptr X.h 0,af id,af a,S kind] (ab q 118 (eg X x e)::dz e.ka e.kc x.kids::acu) (λu H=>u=.tuple #[]/\∃aI aQ ka kc b8 d g c j f,dr b8=dr N/\H=(ab q 118 acB::dz ka kc (x.kids++[(id:Int)])::cL X h3 abM::dP aI aQ Qe::b3 X.am .i64 Jh::gd X::fu X::ab f 118 (eg X (mA id a N st) I8)::aa0)):=by
 refine aw Tryz.func69 λF D=>?_;have n:=J.hg;have E:x.kids.length<1099511627776:=T;have v:1<=id/\id<=X.C.aZ:=⟨by omega,m⟩;have w:a -1<s.aJ.length:=(dc.1 B.ah).1;have m4:=B.aW.1;have p:dJ (cf z.ap) (a:Int)=some (ptr q 0):=by have bh:=zJ B.ap;rwa[show((a -1+1:Nat):Int)=(a:Int) by omega]at bh
 have U:¬(a:Int)=(id:Int):=ae;refine cq ?_;refine br ((akW t r i4)) ?_;rintro _ _ ⟨b8,O,rfl,rfl⟩;refine et ?_;obtain⟨b,l,pp⟩:=TZ O g4;have g0:0<b8.states.length:=(dc.1 l).1;obtain rfl:b.name=st:=pp.trans f9;refine b6 ?_;refine wn λY=>?_;refine bK ?_;refine Dn (λact i=>∃(d g c j f:Nat),hn Tryz.f69.ntmps [(0,ptr X.h 0),(1,af id),(2,af a),(3,S kind)] act/\dm F (ab f 118 (eg X (mA id a N b.name) I8)::gi d X.C.dY [] []::h8 g (min (max b8.limit 0) 100) (min (max b8.within 1) 4095) []::eB c pj::eB j pj::gO b8::b3 X.am .i64 Jh::ab q 118 (eg X x e)::dz e.ka e.kc x.kids::cL X z s::dP z.cI z.cJ s.trace::gd X::fu X::D) i) ?_ ?_
 . refine agG ?_
   refine fe ?_ ?_
   . refine zv ?_
     intro d;rw[show(min (max (X.C.dY:Int) 0) 64).toNat=X.C.dY from by have:=J.pS;omega];refine aG ?_;refine fe ?_ ?_
     . refine xj ?_
       intro g;refine aG ?_;refine fe ?_ ?_
       . refine wn λc=>?_
         exact af5
       . refine wn λj=>?_
         exact af4
     . refine fe ?_ ?_
       . refine wn λc=>?_
         exact ae0
       . refine wn λj=>?_
         exact aeZ
   . refine fe ?_ ?_
     . refine wn λc=>?_
       refine aG ?_;refine fe ?_ ?_
       . refine zv ?_
         intro d;rw[show(min (max (X.C.dY:Int) 0) 64).toNat=X.C.dY from by have:=J.pS;omega];exact ae0
       . refine wn λj=>?_
         exact ahf
     . refine wn λj=>?_
       refine aG ?_;refine fe ?_ ?_
       . refine zv ?_
         intro d;rw[show(min (max (X.C.dY:Int) 0) 64).toNat=X.C.dY from by have:=J.pS;omega];exact aeZ
       . refine wn λc=>?_
         exact ahf
 . rintro act i ⟨d,g,c,j,f,g0,st⟩
   refine Dp ?_ g0 st;clear g0 st act i;refine bQ ?_;refine aB rfl (l0 (ptr q 0) (by rw[O7,a8 U,p];rfl) rfl rfl) ?_;refine cv ?_;refine nN ?_;refine cq ?_;refine wn λI=>?_;refine gQ λy C=>?_;rw[show x.kids.length+1=(x.kids++[(id:Int)]).length from by simp,show iC x.kids++[af id]=iC (x.kids++[(id:Int)])from by simp];refine c0 ?_;refine br (l6 X z s (acE:bX) o) ?_;refine l5 ?_;intro aI aQ;refine bb ?_;exact aX ⟨rfl,aI,aQ,y,C,b8,d,g,c,j,f,O,rfl⟩
theorem ayU(al:bE X z s)(B:At X z.ap s.aJ a q x)(J:X.C.ok)(t:X.P.length<=4611686018427387904)(i4:X.P.find? BJ=some N)(r:lT N)(g4:N.states[0]?=some kt)(f9:kt.name=st)(cx:id=s.aJ.length+1)(m:id<=X.C.aZ)(T:x.kids.length<most)(o:s.trace.length<most):ad aa 69 [ptr X.h 0,af id,af a,S kind] vf (λu H=>u=.tuple #[]/\∃i aI aQ ka kc,H=ia X Qy IV a q {x with kids:=x.kids++[(id:Int)]} {e with ka:=ka,kc:=kc}):=
 q1 (dz e.hP e.hQ x.cM::gi e.gK X.C.dY x.aside x.front::h8 e.jx oR oS x.given::b3 e.gQ .i64 tI::jd e.jy (h9 e.es)::ax (iy e.es)::gO e.b8::ax wY::fl z.na z.fq s.notes::aaH) (ayT X z s a q id x e kind st N kt al B J t i4 r g4 f9 cx m T o) (au) (λu H n=>by
  obtain⟨rfl,aI,aQ,ka,kc,b8,d,g,c,j,f,O,rfl⟩:=n;refine⟨_,⟨rfl,f,aI,aQ,ka,kc,rfl⟩,λh E=>?_⟩;have gt:=ayP (X:=X) (z:=z) (s:=s) (a:=a) (id:=id) (b:=f) (st:=st) (N:=N) (b8:=b8) (D:=(ab q 118 acB::dz ka kc (x.kids++[(id:Int)])::cL X h3 abM::dP aI aQ Qe::gd X::fu X::dz e.hP e.hQ x.cM::gi e.gK X.C.dY x.aside x.front::h8 e.jx oR oS x.given::b3 e.gQ .i64 tI::jd e.jy (h9 e.es)::ax (iy e.es)::gO e.b8::aaI)) al O cx (dc.1 B.ah).1 h ((au) h E);exact(au) h gt)
end
section
variable(X:cN)(z:dn)(s:ao)(j a q p slot:Nat)(kind:cC)(x:bR)(e:hR)
def At.more{X:cN}{ap:List Nat}{aJ:List bR}{a q i:Nat}{x b:bR}(h:At X ap aJ a q x):At X (ap++[i]) (aJ++[b]) a q x:=
 ⟨xO _ _ h.ap,by rw[k1 (dc.1 h.ah).1];exact h.ah,h.cx,h.aW⟩
def ay1(al:bE X z s)(J:X.C.ok)(B:At X z.ap s.aJ a q x)(V:fT x e)(I:Nat)(M:List Value)(k:Th.K)(aP ar U Z aO aU:Nat)(y:Option ao)(g0:slot<4)(b:x.slots.length=4)(o:s.trace.length<most)(v:Int)(Y:(X.C.aZ:Int)<v/\v<4611686018427387904)(aF:∀aI aQ,hr X j {z with cI:=aI,cJ:=aQ} (Th.dd P9 a QO) k I M y):ad aa 387 sx ([ab aP 314 [ptr p 0],ab ar 32 [ptr X.h 0],ab U 110 [ptr q 0],ab Z 9 [S kind],ab aO 3 [af slot],ab aU 1 [bj I M],a7 X z.ap z.ai j 0 k I M,c3 X p (.fV v)]++ia X z s a q x e) (ct X y):=by
 refine aw Tryz.func387 λF D=>?_;haveI:=FB (X:=X) (p:=p) (v:=v);refine bi ?_;refine aB rfl (o6 v y2 rfl) ?_;refine dC ?_;refine cP ?_;refine bQ ?_;refine adP ?_;refine br (l6 X z s ({Th.c7 with kind:=8,dL:=x.id,name:=kind}:bX) o) ?_;refine l5 ?_;intro aI aQ;haveI:=(aF aI aQ).iT;refine afG ?_;rw[T0 b g0];refine bb ?_;refine br (gq (H:=(a7 X z.ap z.ai j 0 k I M::ab q 118 (eg X QO e)::dz e.ka e.kc x.kids::dz e.hP e.hQ x.cM::gi e.gK X.C.dY x.aside x.front::h8 e.jx oR oS x.given::b3 e.gQ .i64 tI::jd e.jy (h9 e.es)::ax (iy e.es)::gO e.b8::ax wY::cL X h3 P9::dP aI aQ (s.trace++abU)::PH)) (λD h E=>Sat.tail (λh E=>jm (X:=X) (z:=h3) (s:=P9) (x:=QO) (e:=e) B pk D h E) E) (aF aI aQ).spec) ?_;exact xl
def ay2(al:bE X z s)(J:X.C.ok)(B:At X z.ap s.aJ a q x)(V:fT x e)(I:Nat)(M:List Value)(k:Th.K)(aP ar U Z aO aU:Nat)(y:Option ao)(g0:slot<4)(b:x.slots.length=4)(o:s.trace.length<most)(id:Nat)(st:cC)(N:b2)(kt:fN)(t:X.P.length<=4611686018427387904)(i4:X.P.find? BJ=some N)(r:lT N)(g4:N.states[0]?=some kt)(f9:kt.name=st)(cx:id=s.aJ.length+1)(m:id<=X.C.aZ)(T:x.kids.length<most)(aF:∀i aI aQ,hr X j {z with ap:=z.ap++[i],cI:=aI,cJ:=aQ} (Th.dd IV a Qh) k I M y):ad aa 387 sx ([ab aP 314 [ptr p 0],ab ar 32 [ptr X.h 0],ab U 110 [ptr q 0],ab Z 9 [S kind],ab aO 3 [af slot],ab aU 1 [bj I M],a7 X z.ap z.ai j 0 k I M,c3 X p (.fV (id:Int))]++ia X z s a q x e) (ct X y):=by
 refine aw Tryz.func387 λF D=>?_;haveI:=FB (X:=X) (p:=p) (v:=(id:Int));have n:=J.hg;have K:=B.cx;refine bi ?_;refine aB rfl (o6 (id:Int) y2 rfl) ?_;refine dC ?_;refine cP ?_;refine b6 ?_;refine adP ?_;rw[K];refine br (ayU X z s a q id x e kind st N kt al B J t i4 r g4 f9 cx m T o) ?_;rintro _ _ ⟨rfl,i,aI,aQ,ka,kc,rfl⟩;refine et ?_;haveI:=(aF i aI aQ).iT;refine afG ?_;rw[T0 (x:={x with kids:=x.kids++[(id:Int)]}) b g0];refine bb ?_;refine ci rfl (oE rfl rfl (gq (H:=[a7 X z.ap z.ai j 0 k I M]++[ab q 118 (eg X Qh {e with ka:=ka,kc:=kc}),dz ka kc (x.kids++[(id:Int)]),dz e.hP e.hQ x.cM,gi e.gK X.C.dY x.aside x.front,h8 e.jx oR oS x.given,b3 e.gQ .i64 tI,jd e.jy (h9 e.es),ax (iy e.es),gO e.b8,ax ((e5 X (z.ap++[i]) (s.aJ++[mA id a N st])).set (a -1) ft),cL X Qy IV,dP aI aQ Qe,fl z.na z.fq s.notes,b3 X.am .i64 (cf (z.ap++[i])),b3 X.e6 .u64 (cf z.ai),ax k9,Lg.ds X.ld s.bc,ez X.da X.C.dG s.dead,ch X.m s.L z.tt,fA X,fw X s.bs,eC X.bG X.m X.C.bG X.C.aZ,ax (dZ X),fu X,gk X,gX X,gd X,ax (de X (z.ap++[i]) z.ai s.az)]) (λD h E=>by
  have gt:=vt (X:=X) (j:=j) (xO (l:=z.ap) (q:=i)) zm k 0 I M _ h E;exact Sat.tail (λh E=>jm (X:=X) (z:=Qy) (s:=IV) (x:=Qh) (e:={e with ka:=ka,kc:=kc}) B.more pk D h E) gt) (aF i aI aQ).spec) bF) ?_
 rintro _ D ⟨_,⟨rfl,cj,aD,ah,d7,rfl⟩,rfl⟩;refine bb ?_;exact pn
end
def azD{x:bR}(h:x.slots.length=4):∃ec s1 bP bZ,x.slots=[ec,s1,bP,bZ]:=by
 match x.slots,h with
 |[ec,s1,bP,bZ],_=>exact⟨ec,s1,bP,bZ,rfl⟩
def azE(b:cC):(Th.nt b).getD 0<4:=by unfold Th.nt;(repeat' split)<;>simp
def azF{X:cN}{j:Nat}{z:dn}{s y:ao}{I:Nat}{M:List Value}{k:Th.K}{g:ao->bU->Th.K->Option ao}{a q:Nat}{x:bR}{id:Int}{u:Nat}{l:cW}{m:fv}(J:X.C.ok)(C:hv X j g)(al:bE X z s)(b7:cQ X.C j s)(B:At X z.ap s.aJ a q x)(T:eD X.C x)(K:hG z.ai s.lets id u l)(aL:Th.c6 k)(ag:Th.Ci X.C g j s a l m (Th.zO X.C g j) k=some y):ad aa 294 [ptr (X.bp j) 0,ptr q 0,ptr u 0,.agg (fO m).toArray,bj I M] (a7 X z.ap z.ai j 0 k I M::bl X z s) (ct X (some y)):=by
 obtain rfl:=B.cx.symm;have O:=B.qb b7;obtain⟨t0,i,hO⟩:=b7.jW;obtain⟨ec,s1,bP,bZ,aj⟩:=azD T.slots;simp only[Th.Ci,B.dE,qM,k3]at ag;refine uf λba=>qZ B λe V=>?_;have L:=O.qV;have m9:most=1099511627776:=rfl;have g7:∀{aD:ao} {cj:dn},bE X cj aD->g aD Th.dF k=some y->hr X j cj aD k I M (some y):=λd7 h=>⟨ba,C _ _ k y I M d7 h⟩;unfold Th.vE at ag;have r:Th.hl m.ref x.id (max l.cy 0) x.parent x.slots=Th.hl m.ref x.id (max l.cy 0) x.parent [ec,s1,bP,bZ]:=by rw[aj]
 rw[r]at ag;by_cases c1:m.do'=1
 . rw[bd c1]at ag
   exact ayy X z s j t0 x.id q x e al J B V id u l K m I M k ec s1 bP bZ aj i (some y) (vI B V (T8 al ag)) c1
 rw[a8 c1]at ag;by_cases bn:m.do'=2
 . rw[bd bn]at ag
   exact ayz X z s j t0 x.id q x e al J B V id u l K m I M k ec s1 bP bZ aj i (some y) (vI B V (ay9 al B.ap ag)) bn
 rw[a8 bn]at ag;by_cases b9:m.do'=10
 . rw[bd b9]at ag
   exact ayA X z s j t0 x.id q x e al J B V id u l K m I M k ec s1 bP bZ aj i (some y) (azE _) (g7 ⟨al.gL,al.gD,al.gE,by show _=(s.aJ.set _ _).length;rw[gn];exact al.ap,al.ai⟩ ag) b9
 rw[a8 b9]at ag;by_cases d5:m.do'=5
 . rw[bd d5,Th.ajW B.dE,k3]at ag
   exact ayB X z s j t0 x.id q x e al J B V id u l K m I M k ec s1 bP bZ aj i (some y) b7.mh ae ae (g7 ⟨al.gL,al.gD,al.gE,by show _=(s.aJ.set _ _).length;rw[gn];exact al.ap,al.ai⟩ ag) d5
 rw[a8 d5]at ag;by_cases d9:m.do'=8
 . rw[bd d9]at ag
   obtain⟨t,N,R,rfl⟩:=Th.jY ag;exact ayC X z s j t x.id q x e al J B V id u l K m I M k ec s1 bP bZ aj N R d9
 rw[a8 d9]at ag;by_cases ge:m.do'=9
 . rw[bd ge]at ag
   refine ayD X z s j t0 x.id q x e al J B V id u l K m I M k ec s1 bP bZ aj i (some y) (λaU c2 d ea cA=>?_) ge;have b:bE X z (Th.dd s x.id {x with timers:=Th.ou x.timers m.name}):=⟨al.gL,al.gD,al.gE,by show _=(s.aJ.set _ _).length;rw[gn];exact al.ap,al.ai⟩;have Y:∀v∈Th.gF x.timers m.name,0<=v:=λv Y=>by
    obtain⟨p,hp,Y⟩:=Th.Te Y;exact T.jV p hp v Y
   refine pv (A:=eW [_,_,_,_,_]) (λD h E=>cF (fM:=λ_:Unit=>True) (l:=λ_=>[_,_,_,_,_]) (D:=D) () trivial (λh E=>E) h E) (Cy X z (Th.dd s x.id {x with timers:=Th.ou x.timers m.name}) (Th.gF x.timers m.name).length _ _ _ _ (eW [_,_,_,_,_]) (some y) (X.bp j) (λd2 d3 cn dS=>?_));exact ak2 (ids:=Th.gF x.timers m.name) (ea:=ea) (cA:=cA) (aP:=aU) (ar:=c2) (U:=d) J C b ba rfl Y ag
 rw[a8 ge]at ag;by_cases S:m.do'=6\/m.do'=7
 . rw[bd S]at ag
   split at ag
   . rename_i f
     rcases S with S|S
     . exact ayE X z s j t0 x.id q x e al J B V id u l K m I M k ec s1 bP bZ aj i (some y) f (g7 al ag) S
     . exact ayF X z s j t0 x.id q x e al J B V id u l K m I M k ec s1 bP bZ aj i (some y) f (g7 al ag) S
   . rename_i f
     split at ag
     . rename_i c
       have n:=ag;simp only[Th.xF,B.dE,qM,k3]at n;split at n
       . rename_i aA
         refine ayG X z s j t0 x.id q x e al J B V id u l K m I M k ec s1 bP bZ aj i (some y) f ?_ c;have h2:=vI B V (aza (I:=I) (M:=M) J al B ag);rw[show(((Th.hl m.ref x.id (max l.cy 0) x.parent [ec,s1,bP,bZ]).toNat:Nat):Int)=Th.hl m.ref x.id (max l.cy 0) x.parent [ec,s1,bP,bZ] by omega]at h2;exact h2
       . cases n
     . rename_i c
       split at ag
       . rename_i aA
         obtain⟨t,N,R,rfl⟩:=Th.jY ag;have o:(((Th.hl m.ref x.id (max l.cy 0) x.parent [ec,s1,bP,bZ]).toNat:Nat):Int)=Th.hl m.ref x.id (max l.cy 0) x.parent [ec,s1,bP,bZ]:=ae;have h2:=ayH X z s j t x.id q x e al J B V id u l K m I M k ec s1 bP bZ aj N f (Th.hl m.ref x.id (max l.cy 0) x.parent [ec,s1,bP,bZ]).toNat o.symm ae R aL ae;rw[o]at h2;exact h2
       . cases ag
 rw[a8 S]at ag;cases ag
end Go.Proofs.YtnnhpnccfnghdaaGreat.L.bH
