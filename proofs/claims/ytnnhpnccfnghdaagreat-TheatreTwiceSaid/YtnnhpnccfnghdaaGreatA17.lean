import Derived.Test.YtnnhpnccfnghdaaGreatA16
set_option linter.all false
set_option maxRecDepth 8000
set_option maxHeartbeats 12000000
namespace Go.Proofs.YtnnhpnccfnghdaaGreat.L.bM
open Go.Proofs.YtnnhpnccfnghdaaGreat.L
open Go.L Go.L.Ring Go.L.dD Go.L.ej Go.L.Whl Go.L.dP Go.L.Lx Go.L.Pg
open Go.L.Led (du dH dW bm aw fo)
open Go.L.Th (bO c0 dn bG dE bU b3 e4 b0 aq most dY cS fp eR dZ In cX c9 eS bB bP eT eU bn cI dF go bo Good ei eV ec acc Inv eG e5 fj busy dA eC eh fr)
attribute[local irreducible] G cJ GE c3 GT b1 dk c7 ds Exit.then Exit.inBlock
section
variable{P:Program}{X:cO}{j p f:Nat}{c:List Value}{z:dw}{s y:aq}{k:Th.K}{g:aq->b3->Th.K->Option aq}{l:c0}{v:Int}{a b who:Nat}{x:bU}{i n:Nat}{Y:gz}
def xH{f:FuncId}{args:List Value}{L:List al}{X:cO}{z:dw}{s:aq}{a q:Nat}{x:bU}{post:Value->List al->Prop}(B:At X z.ap s.aE a q x)(h:∀e,fX x e->ab P f args (L++gM X z s a q x e) post):ab P f args (L++bh X z s) post:=
 pg (A:=eW L) (λD h F=>cE (D:=D) () trivial kS h F) (qK B λe Y=>gv (λD h F=>by obtain⟨_,_,b⟩:=ha F;rw[jI];exact b) (h e Y))
def At.mk'{j a q:Nat}{x:bU}(aj:bJ X z s)(cc:cS X.C j s)(h:Th.dM s a=some x)(bt:z.ap[a -1]?=some q):At X z.ap s.aE a q x:=by
 obtain⟨c,B⟩:=At.of aj cc h;exact⟨bt,B.ah,B.cy,B.aX⟩
def qN{ap ae:List Nat}{j p J f:Nat}{k:Th.K}{M args:List Value}(L:List al){a2:List al}{post:Value->List al->Prop}(h:fb E J->ab E f args (L++Ju) post):ab E f args (L++Ju) post:=λH D w s=>
 h (Te k p J M _ _ (Fp L (D:=a2++D) Zr)) H D w s
def ajO{f:FuncId}{args:List Value}(L:List al){v:Value}{e:TypeId}{aZ n:Nat}{xs:List Value}{a2:List al}{post:Value->List al->Prop}(h:n<=maxLen->ab P f args (L++(own v e aZ n xs::a2)) post):ab P f args (L++(own v e aZ n xs::a2)) post:=λH D w s=>
 h
  (by
  have F:=Fp L (D:=a2++D) Zr;obtain⟨_,_,_,_,⟨_,o⟩,_⟩:=F;rcases o with⟨_,aO⟩|⟨_,_,_,_,_,h1,h2,_⟩
  . rw[aO];exact fk _
  . exact mZ h1 h2) H D w s
abbrev ajP:bU:=⟨0,0,⟨[],0,0,none,0,[],none,0,[]⟩,[],[],[],0,[],[],[],[],[],[]⟩
def ayd{k:Th.K}{a:Nat}{x:bU}(aj:bJ X z s)(cc:cS X.C j s)(ah:Th.dM s a=some x)(ag:Th.Cb j s a=some y):ab E f c (a1 X z.ap z.ae j p (.run a) f c::bh X z s) eg:=
 iZ (a1.eq_6 ..)<|by
  rintro⟨aK,ar,q⟩ ⟨rfl,rfl,bt⟩;dsimp only;exact awB X z s j q 0 [] .nil (some y) aK ar (ajJ aj nH ag)
def aye{k:Th.K}{a:Nat}{x:bU}(aj:bJ X z s)(cc:cS X.C j s)(ah:Th.dM s a=some x)(ag:(if x.mode≠5 then Th.Cb j s a else some s)=some y):ab E f c (a1 X z.ap z.ae j p (.on a) f c::bh X z s) eg:=
 iZ (a1.eq_8 ..)<|by
  rintro⟨aK,ar,q⟩ ⟨rfl,rfl,bt⟩;dsimp only;split at ag
  . rename_i bf
    exact awH X z s j q 0 [] .nil (some y) aK ar a x nH bf (ajJ aj nH ag)
  . rename_i bf
    cases ag;exact awI X z s j q a x nH aK ar aj (Decidable.not_not.1 bf)
def ayf{k:Th.K}{a:Nat}{x:bU}(N:X.C.ok)(aj:bJ X z s)(cc:cS X.C j s)(ah:Th.dM s a=some x)(ag:Th.hs j s (.fE (wu X.C.bC (Th.sM X.C j) a)) .nil=some y):ab E f c (a1 X z.ap z.ae j p (.again a) f c::bh X z s) eg:=
 iZ (a1.eq_9 ..)<|by
  rintro⟨aK,ar,q⟩ ⟨rfl,rfl,bt⟩;dsimp only;obtain⟨t,O,U,rfl⟩:=Th.j6 ag;have B:=nH;have h2:=awK X z s j t a q x aj B N aK ar O U;rw[B.cy]at h2;exact h2
def ayg{k:Th.K}{g:aq->b3->Th.K->Option aq}{a b:Nat}{x:bU}{Y:gz}(N:X.C.ok)(C:hv X j g)(aj:bJ X z s)(cc:cS X.C j s)(ah:Th.dM s a=some x)(ag:Th.pr X.C g j s kG a .nil=some y):ab E f c (a1 X z.ap z.ae j p (.settled a) f c::cM X p kG::bh X z s) eg:=
 iZ (a1.eq_12 ..)<|by
  rintro⟨aK,ar,V,q⟩ ⟨rfl,rfl,bt⟩;dsimp only;have B:=nH;refine awN X z s j a q p b x Y (some y) B aK ar V ?_;rw[B.cy];exact Fu N C aj B.aX.2 trivial ag
def ayh{k:Th.K}{g:aq->b3->Th.K->Option aq}{a b:Nat}{x:bU}{Y:gz}(N:X.C.ok)(C:hv X j g)(aj:bJ X z s)(cc:cS X.C j s)(ah:Th.dM s a=some x)(ag:Th.pr X.C g j s kG a .nil=some y):ab E f c (a1 X z.ap z.ae j p (.oU a) f c::cM X p kG::bh X z s) eg:=
 iZ (a1.eq_31 ..)<|by
  rintro⟨aK,ar,V⟩ ⟨rfl,rfl⟩;dsimp only;obtain⟨q,B⟩:=At.of aj cc ah;exact awO X z s j a q p b x Y (some y) B aK ar V (Fu N C aj B.aX.2 trivial ag)
def ayi(N:X.C.ok)(C:hv X j g)(aj:bJ X z s)(aX:a<=X.C.aT)(aS:Th.c9 k)(ag:Th.pr X.C g j s kG a k=some y):ab E f c (a1 X z.ap z.ae j p (.lJ a k) f c::cM X p kG::bh X z s) eg:=
 iZ (a1.eq_17 ..)<|by
  rintro⟨aK,ar,V,ay,J,M⟩ ⟨rfl,rfl⟩;dsimp only;exact awG X z s j 0 J M k (some y) aK ar V ay p a (cM X p kG) (Fu N C aj aX aS ag)
def ayj(N:X.C.ok)(aj:bJ X z s)(R:1<=who/\who<=X.C.aT)(ag:Th.hs j s (.post who Th.xv) (.gone a who k)=some y):ab E f c (a1 X z.ap z.ae j p (.watched a who k) f c::bh X z s) eg:=
 iZ (a1.eq_20 ..)<|by
  rintro⟨aK,ar,V,ay,aL,q,J,M⟩ ⟨rfl,rfl,bt⟩;dsimp only;obtain⟨t,O,U,rfl⟩:=Th.j6 ag;exact aw0 X z s j a q who t J M k aj N bt R aK ar V ay aL O U
def ayk(N:X.C.ok)(C:hv X j g)(aj:bJ X z s)(cc:cS X.C j s)(ah:Th.dM s a=some x)(ag:(if Y.out≠1 then g s Th.dN k else Th.xw X.C j s a who k)=some y):ab E f c (a1 X z.ap z.ae j p (.gone a who k) f c::cM X p kG::bh X z s) eg:=
 iZ (a1.eq_21 ..)<|by
  rintro⟨aK,ar,V,ay,aL,q,J,M⟩ ⟨rfl,rfl,bt⟩;dsimp only;have B:=nH;split at ag
  . rename_i aJ
    refine qN [_,_,_,_,_] λba=>?_;exact awP X z s j a q p b x Y (some y) J M k who aK ar V ay aL aJ ss
  . rename_i aJ
    refine awQ X z s j a q p b x Y (some y) J M k who B aK ar V ay aL (Decidable.not_not.1 aJ) ?_;rw[B.cy];exact ajH N aj ag
def ayl{i:k2}(N:X.C.ok)(C:hv X j g)(aj:bJ X z s)(ag:(if i.out≠1 then g s Th.dN k else Th.B9 j s ⟨b,a,[103,111,110,101],0,true⟩ k)=some y):ab E f c (a1 X z.ap z.ae j p (.nq a b k) f c::cM X p (.ht i)::bh X z s) eg:=
 iZ (a1.eq_22 ..)<|by
  rintro⟨aK,ar,V,ay,aL,J,M⟩ ⟨rfl,rfl⟩;dsimp only;split at ag
  . rename_i aJ
    refine qN [_,_,_,_,_] λba=>?_;exact awR X z s j 0 0 p 0 ajP Th.xv (some y) J M k a b i aK ar V ay aL aJ ss
  . rename_i aJ
    exact awS X z s j 0 0 p 0 ajP Th.xv (some y) J M k a b i aK ar V ay aL (Decidable.not_not.1 aJ) (Tf aj ag)
def aym(N:X.C.ok)(C:hv X j g)(aj:bJ X z s)(cc:cS X.C j s)(ah:Th.dM s a=some x)(ag:Th.rC g j s a k=some y):ab E f c (a1 X z.ap z.ae j p tK f c::bh X z s) eg:=
 ax1 (λaK ar V q J M bt=>awC X z s j q J M k (some y) aK ar V (Tl N C aj cc nH ag)) (λaK ar V q J M bt=>awD X z s j q J M k (some y) aK ar V (Tl N C aj cc nH ag))
def ayn(aj:bJ X z s)(cc:cS X.C j s)(ah:Th.dM s a=some x)(ag:Th.hs j s EA (.lc a (.shut a k))=some y):ab E f c (a1 X z.ap z.ae j p (.closed a k) f c::bh X z s) eg:=
 iZ (a1.eq_25 ..)<|by
  rintro⟨aK,ar,V,q,J,M⟩ ⟨rfl,rfl,bt⟩;dsimp only;exact awF X z s j q J M k (some y) aK ar V a bt (Tg aj nH ag)
def ayo(N:X.C.ok)(C:hv X j g)(aj:bJ X z s)(cc:cS X.C j s)(ah:Th.dM s a=some x)(o:sB Y)(ag:(if Y.out=5 then g s Th.dN k else(if Y.out=1 then Th.kill Y.val 2 s else some s).bind λs=>Th.hs j s EA (.lc a k))=some y):ab E f c (a1 X z.ap z.ae j p (.lc a k) f c::cM X p kG::bh X z s) eg:=
 iZ (a1.eq_26 ..)<|by
  rintro⟨aK,ar,V,ay,q,J,M⟩ ⟨rfl,rfl,bt⟩;dsimp only;have B:=nH;split at ag
  . rename_i aJ
    refine qN [_,_,_,_] λba=>?_;exact awT X z s j q p b Y (some y) J M k aK ar V ay aJ ss
  . rename_i e
    split at ag
    . rename_i d
      cases hk:Th.kill Y.val 2 s with
      |none=>rw[hk]at ag;cases ag
      |
       some s1=>
       rw[hk]at ag;obtain⟨l,aw,aS,c2,_,rfl⟩:=Th.Cf hk;obtain⟨m,K⟩:=hG.of aj aw;obtain⟨t,O,U⟩:=cc.jX;exact awV X z s j q p b Y (some y) J M k t O m l K N.sQ aS c2 cc.l9 aK ar V ay o d (λaD aI=>Tg (s:=ki s Y.val l.to 2) (z:=iN) kg B ag)
    . rename_i d
      exact awU X z s j q p b Y (some y) J M k aK ar V ay e d (Tg aj B ag)
def ayp(aj:bJ X z s)(cc:cS X.C j s)(ah:Th.dM s a=some x)(ag:Th.hs j s (.post a (Th.mA 4)) (.oo a k)=some y):ab E f c (a1 X z.ap z.ae j p (.shut a k) f c::bh X z s) eg:=
 iZ (a1.eq_27 ..)<|by
  rintro⟨aK,ar,V,q,J,M⟩ ⟨rfl,rfl,bt⟩;dsimp only;obtain⟨t,O,U,rfl⟩:=Th.j6 ag;exact awJ X z s j t a q x aj nH J M k aK ar V O U
def ayq(aj:bJ X z s)(cc:cS X.C j s)(ah:Th.dM s a=some x)(ag:((Th.iR {Th.cz with kind:=14,dc:=a} (Th.c8 s a {x with mode:=5})).bind λs=>Th.hs j s (.load 1) (.who a k))=some y):ab E f c (a1 X z.ap z.ae j p (.oo a k) f c::bh X z s) eg:=
 iZ (a1.eq_28 ..)<|by
  rintro⟨aK,ar,V,q,J,M⟩ ⟨rfl,rfl,bt⟩;dsimp only;have B:=nH;obtain rfl:a=x.id:=B.cy.symm;refine awE X z s j q J M k (some y) aK ar V (qK B λe Y=>?_);cases hk:Th.iR (Jf:bG) (Th.c8 s x.id {x with mode:=5})with
  |none=>rw[hk]at ag;cases ag
  |
   some s1=>
   rw[hk]at ag;obtain⟨c2,rfl⟩:=Th.l8 hk;obtain⟨t,O,U,rfl⟩:=Th.j6 ag;have h2:=awd X z s j t x.id q x e aj B Y J M k c2 O U;exact h2
def ayr(N:X.C.ok)(C:hv X j g)(aj:bJ X z s)(cc:cS X.C j s)(ah:Th.dM s a=some x)(ag:(if x.parent=0 then g s Th.dN k else Th.sN X.C j s x.parent ⟨4,a,[]⟩ k)=some y):ab E f c (a1 X z.ap z.ae j p (.parent a k) f c::bh X z s) eg:=
 iZ (a1.eq_30 ..)<|by
  rintro⟨aK,ar,V,q,J,M⟩ ⟨rfl,rfl,bt⟩;dsimp only;have B:=nH;obtain⟨t0,i,hO⟩:=cc.jX;split at ag
  . rename_i hp
    refine qN [_,_,_] λba=>?_;exact awL X z s j t0 a q x aj B J M k aK ar V (some y) hp ss
  . rename_i hp
    obtain⟨aO,d,t,O,U,rfl⟩:=Th.zS ag;have h2:=awM X z s j t a q x aj B J M k N aK ar V hp d aO O U;rw[B.cy]at h2;exact h2
def ays{id to:Int}{b:Nat}{Y:gz}(N:X.C.ok)(C:hv X j g)(aj:bJ X z s)(cc:cS X.C j s)(n7:0<=to/\to.toNat<=X.C.aT)(aS:Th.c9 k)(ag:(if Y.out=2 then(Th.kill id 1 s).bind λs=>g s Th.dN k else if Y.out=3 then(Th.kill id 2 s).bind λs=>g s Th.dN k else Th.pr X.C g j (Th.mz s id 1 2) kG to.toNat k)=some y):ab E f c (a1 X z.ap z.ae j p (.told id to k) f c::cM X p kG::bh X z s) eg:=
 iZ (a1.eq_16 ..)<|by
  rintro⟨aK,ar,V,ay,aL,aR,J,M⟩ ⟨rfl,rfl⟩;dsimp only;have kj:∀w:Int,((Th.kill id w s).bind λs=>g s Th.dN k)=some y->∃m l,hG z.ae s.lets id m l/\s.dead.length<most/\s.trace.length<most/\g (ki s id l.to w) Th.dN k=some y:=λw h=>by
   cases hk:Th.kill id w s with
   |none=>rw[hk]at h;cases h
   |
    some s1=>
    rw[hk]at h;obtain⟨l,aw,aS,c2,_,rfl⟩:=Th.Cf hk;obtain⟨m,K⟩:=hG.of aj aw;exact⟨m,l,K,aS,c2,h⟩
  split at ag
  . rename_i aJ
    obtain⟨m,l,K,h1,h2,aN⟩:=kj 1 ag;refine qN [_,_,_,_,_,_] λba=>?_;exact awW X z s j 0 p b Y (some y) J M k id to m l K N.sQ h1 h2 cc.l9 aK ar V ay aL aR aJ (λaD aI=>⟨ba,C iN _ k y J M kg aN⟩)
  . rename_i d
    split at ag
    . rename_i aJ
      obtain⟨m,l,K,h1,h2,aN⟩:=kj 2 ag;refine qN [_,_,_,_,_,_] λba=>?_;exact awX X z s j 0 p b Y (some y) J M k id to m l K N.sQ h1 h2 cc.l9 aK ar V ay aL aR aJ (λaD aI=>⟨ba,C iN _ k y J M kg aN⟩)
    . rename_i a
      have U:=n7.1;unfold Th.mz at ag;split at ag
      . rename_i R
        refine awY X z s j 0 p b Y (some y) J M k id to aK ar V ay aL aR cc.l9 d a R ?_;have h2:=Fu (J:=J) (M:=M) (p:=p) (z:=z) N C (show bJ X z {s with a8:=dH s.a8 id 2}from kg) n7.2 aS ag;rw[show((to.toNat:Nat):Int)=to by omega]at h2;exact h2
      . rename_i R
        refine awZ X z s j 0 p b Y (some y) J M k id to aK ar V ay aL aR d a R ?_;have h2:=Fu (J:=J) (M:=M) (p:=p) (z:=z) N C aj n7.2 aS ag;rw[show((to.toNat:Nat):Int)=to by omega]at h2;exact h2
def ayt(N:X.C.ok)(C:hv X j g)(aj:bJ X z s)(cc:cS X.C j s)(ag:((Th.enter s l false (.fQ v)).bind λF=>Th.tY X.C g j F.1 F.2 k)=some y):ab E f c (a1 X z.ap z.ae j p (.mE l k) f c::cM X p (.fQ v)::bh X z s) eg:=
 iZ (a1.eq_14 ..)<|by
  rintro⟨aK,ar,V,ay,aL,x,F,J,M⟩ ⟨rfl,rfl⟩;dsimp only;cases Y:Th.enter s l false (.fQ v)with
  |none=>rw[Y]at ag;cases ag
  |
   some F=>
   obtain⟨s1,id⟩:=F;rw[Y]at ag;obtain⟨rfl,rfl,h1,h2,rfl⟩:=Th.aiY Y;refine aw5 X z s j (some y) J M k p x F aK ar V ay aL l aj h1 h2 cc.l9 cc.a8 ?_;exact λaD aI=>ajK (z:={z with b4:=aD,b5:=aI,ae:=z.ae++[ar]}) N C ⟨aj.gk,aj.fY,aj.fZ,aj.ap,by show _=(s.lets++[l]).length;simp only[eZ,iG,lk];rw[aj.ae]⟩ (cc.enter h1 h2) ag
def ayu{e:fF}(aj:bJ X z s)(cc:cS X.C j s)(ag:((Th.enter s l true (.fQ v)).bind λF=>Th.K6 j F.1 a F.2 e k)=some y):ab E f c (a1 X z.ap z.ae j p (.hR a l e k) f c::cM X p (.fQ v)::bh X z s) eg:=
 iZ (a1.eq_15 ..)<|by
  rintro⟨aK,ar,V,ay,aL,x,F,ed,N,q,J,M⟩ ⟨rfl,rfl,bt⟩;dsimp only;cases Y:Th.enter s l true (.fQ v)with
  |none=>rw[Y]at ag;cases ag
  |
   some F=>
   obtain⟨s1,id⟩:=F;rw[Y]at ag;obtain⟨rfl,rfl,h1,h2,rfl⟩:=Th.aiY Y;refine aw7 X z s j (some y) J M k p q x F ed N aK ar V ay aL e l aj h1 h2 cc.l9 cc.a8 ?_;exact λaD aI=>ax5 (z:={z with b4:=aD,b5:=aI,ae:=z.ae++[ar]}) ⟨aj.gk,aj.fY,aj.fZ,aj.ap,by show _=(s.lets++[l]).length;simp only[eZ,iG,lk];rw[aj.ae]⟩ bt ad ag
def ayv{m:dn}{az:hx}(N:X.C.ok)(C:hv X j g)(aj:bJ X z s)(cc:cS X.C j s)(ah:Th.dM s a=some x)(K:0<=m.who)(o:x.cH.length+1<most)(F:∀p∈x.given,p.2.length<most)(hp:az.out=0->az.val=0)(Z:0<=az.val/\az.val<=18446744073709551615)(ag:(if Th.Sx x.kind x.given m.who wX=0 then Th.rD X.C g j s a m 3 k else Th.rD X.C g j (Th.c8 s a aa7) a m 2 k)=some y):ab E f c (a1 X z.ap z.ae j p (.kI a m k) f c::cM X p (.ey az)::bh X z s) eg:=
 iZ (a1.eq_24 ..)<|by
  rintro⟨aK,ar,V,ay,aL,aR,q,J,M⟩ ⟨rfl,rfl,bt⟩;dsimp only;have B:=nH;have R:=B.p0 cc;refine xH (L:=[_,_,_,_,_,_,_,_]) B λe Y=>?_;obtain⟨d,w,_⟩:=ajx Y.bI;have aC:qz pQ pR (Th.dY x.given m.who) wX=Th.Sx x.kind x.given m.who wX:=by rw[d,w];rfl
  split at ag
  . rename_i T
    exact axc X z s j a q p x e m az (some y) J M k aK ar V ay aL aR hp Z F (by rw[aC];exact T) (vD B Y (Tk N C aj cc B K o ag))
  . rename_i T
    refine axd X z s j a q p x e m az (some y) J M k aK ar V ay aL aR hp Z F (by rw[aC];exact T) ?_;have aV:zz pQ pR x.given m.who wX=ew x.given m.who aa8:=by
     unfold zz;rw[a7 (by rw[aC];exact T)]
    rw[aV];refine Ct (x:=aa7) B rs ?_;exact Tk (x:={x with given:=ew x.given m.who (Th.dY x.given m.who++[Th.gV (Th.qH az.val)])}) N C ⟨aj.gk,aj.fY,aj.fZ,by show _=(s.aE.set _ _).length;rw[gr];exact aj.ap,aj.ae⟩ (cc.set B.aX.1 ⟨R.id,R.kids,R.qI⟩) (At.set (n:={x with given:=ew x.given m.who (Th.dY x.given m.who++[Th.gV (Th.qH az.val)])}) B B.cy) K o ag
def ayw{l:List Int}{what:Int}{i n:Nat}(N:X.C.ok)(C:hv X j g)(aj:bJ X z s)(aO:n=l.length)(ak:i<n)(ag:Th.nN X.C g j s wU (i+1) n k=some y):ab E f c (a1 X z.ap z.ae j p (.each wU i n k) f c::bh X z s) eg:=
 iZ (a1.eq_36 ..)<|by
  rintro⟨R,d2,d5,cq,d6,aK,ar,V,J,M,ea,cZ⟩ ⟨rfl,rfl⟩;dsimp only;refine ajO [_,_,_,_,_,_,_] λY=>qN [_,_,_,_,_,_,_,_,_] λba=>?_;refine gv (λD h F=>Sat.tail (λh F=>Sat.tail (λh F=>Sat.tail (λh F=>Sat.tail (λh F=>Sat.tail (λh F=>cE (fO:=λ_:Unit=>True) (l:=λ_=>[_,_,_,_,_]) (D:=bh X z s++D) () trivial qu h F) F) F) F) F) F) (Fo X z s i n d5 d6 cq d2 _ _ _ _ (eW [_,_,_,_,_]) (some y) R Zs (ayc (ea:=ea) (cZ:=cZ) (aK:=aK) (ar:=ar) (V:=V) N C aj ba aO ag))
def ayx{ids:List Int}{i n:Nat}(N:X.C.ok)(C:hv X j g)(aj:bJ X z s)(aO:n=ids.length)(Z:∀v∈ids,0<=v)(ak:i<n)(ag:Th.nN X.C g j s (.cancel ids) (i+1) n k=some y):ab E f c (a1 X z.ap z.ae j p (.each (.cancel ids) i n k) f c::bh X z s) eg:=
 iZ (a1.eq_34 ..)<|by
  rintro⟨R,d2,d5,cq,d6,aK,ar,V,J,M,ea,cZ⟩ ⟨rfl,rfl⟩;dsimp only;refine ajO [_,_,_,_,_,_,_,_] λY=>qN [_,_,_,_,_,_,_,_,_] λba=>?_;refine gv (λD h F=>Sat.tail (λh F=>Sat.tail (λh F=>Sat.tail (λh F=>Sat.tail (λh F=>Sat.tail (λh F=>cE (fO:=λ_:Unit=>True) (l:=λ_=>[_,_,_,_,_]) (D:=bh X z s++D) () trivial qu h F) F) F) F) F) F) (Fo X z s i n d5 d6 cq d2 _ _ _ _ (eW [_,_,_,_,_]) (some y) R Zs (ajL (ea:=ea) (cZ:=cZ) (aK:=aK) (ar:=ar) (V:=V) N C aj ba aO Z ag))
def ayy{due:List Int}{i n:Nat}(N:X.C.ok)(C:hv X j g)(aj:bJ X z s)(cc:cS X.C j s)(aO:n=due.length)(Y:n<most)(ak:i<n)(ag:Th.nN X.C g j s (.leave due) (i+1) n k=some y):ab E f c (a1 X z.ap z.ae j p (.each (.leave due) i n k) f c::bh X z s) eg:=
 iZ (a1.eq_35 ..)<|by
  rintro⟨R,d2,d5,cq,d6,aK,ar,J,M,ea,cZ⟩ ⟨rfl,rfl⟩;dsimp only;refine qN [_,_,_,_,_,_,_,_] λba=>?_;refine gv (λD h F=>Sat.tail (λh F=>Sat.tail (λh F=>Sat.tail (λh F=>Sat.tail (λh F=>Sat.tail (λh F=>cE (fO:=λ_:Unit=>True) (l:=λ_=>[_,_,_,_]) (D:=bh X z s++D) () trivial qu h F) F) F) F) F) F) (Fo X z s i n d5 d6 cq d2 _ _ _ _ (eW [_,_,_,_]) (some y) R ON (ajM (ea:=ea) (cZ:=cZ) (aK:=aK) (ar:=ar) (V:=0) N C aj ba cc aO ag))
def ayz(N:X.C.ok)(C:hv X j g)(aj:bJ X z s)(cc:cS X.C j s)(ah:Th.dM s a=some x)(b:n<=16)(Y:n<most)(ak:i<n)(ag:Th.nN X.C g j s (.my a) (i+1) n (.parent a k)=some y):ab E f c (a1 X z.ap z.ae j p Qc f c::bh X z s) eg:=
 iZ (a1.eq_33 ..)<|by
  rintro⟨R,d2,d5,cq,d6,aK,ar,V,q,J,M⟩ ⟨rfl,rfl,bt,_⟩;dsimp only;refine qN [_,_,_,_,_,_,_,_] λba=>?_;refine gv (λD h F=>Sat.tail (λh F=>Sat.tail (λh F=>Sat.tail (λh F=>Sat.tail (λh F=>Sat.tail (λh F=>cE (fO:=λ_:Unit=>True) (l:=λ_=>[_,_,_,_]) (D:=bh X z s++D) () trivial qu h F) F) F) F) F) F) (Fo X z s i n d5 d6 cq d2 _ _ _ _ (eW [_,_,_,_]) (some y) R ON (ajN (ea:=none) (cZ:=0) (aK:=aK) (ar:=ar) (V:=V) N C aj nH b ad ag))
end
section
variable(l:List Int)(X:cO)(w:Int)(z:dw)(s:aq)(j:Nat)(t:b0)(a q:Nat)(x:bU)(e:hS)
def KE:∀(L:List al) {A B:List al},(∀h,Sat A h->Sat B h)->∀h,Sat (L++A) h->Sat (L++B) h
 |[],_,_,f,h,F=>f h F
 |x::L,A,B,f,h,F=>Sat.tail (r:=L++A) (m:=L++B) (λh F=>KE L f h F) F
def ad1:dR El w=if Th.mem l w then some hI else none:=by
 induction l with
 |nil=>rfl
 |
  cons x l L=>
  simp only[gx,dR,Th.mem,List.contains_cons];by_cases h:w=x
  . subst h;simp
  . have h2:(w==x)=false:=by simpa using h
    have aN:¬x=w:=λe=>h e.symm;simp only[Th.mem]at L;rw[h2,kQ]
    first|(rw[a7 h,L];rfl)|(rw[a7 aN,L];rfl)
def agA:lV El w=(l.erase w).map λw=>(w,Value.bool true):=by
 induction l with
 |nil=>rfl
 |
  cons x l L=>
  simp only[gx,lV,List.erase_cons];by_cases h:w=x
  . subst h;simp
  . have h2:(x==w)=false:=by simpa using λe:x=w=>h e.symm
    rw[a7 h,h2,L];rfl
def axk(aj:bJ X z s)(N:X.C.ok)(B:At X z.ap s.aE a q x)(Y:fX x e)(id:Int)(m:Nat)(l:c0)(K:hG z.ae s.lets id m l)(J:Nat)(M:List Value)(k:Th.K)(y:Option aq)(O:s.ax[j]?=some t)(aS:s.dead.length<most)(c2:s.trace.length<most)(aO:s.a8.length<=most)(hu:l.pY=true)(p:Th.mem x.watched l.cf=false)(aY:∀aD aI,hr X j {z with b4:=aD,b5:=aI} (ki s id l.to 5) k J M y):ab E 238 [ptr (X.bp j) 0,ptr q 0,bx id,bk J M] (a1 X z.ap z.ae j 0 k J M::gM X z s a q x e) (cv X y):=by
 refine av Tryz.func238 λH D=>?_;haveI:=gn (X:=X) (ap:=z.ap) (ae:=z.ae) O;haveI:=K.rd (bY:=0) (v:=af l.cf) rfl;haveI:=K.rd (bY:=1) (v:=af l.to) rfl;haveI:=K.rd (bY:=2) (v:=S l.tag) rfl;haveI:=K.rd (bY:=3) (v:=af l.n) rfl;haveI:=K.rd (bY:=4) (v:=.bool true) y1;have cy:=B.cy;refine zy ?_;intro aL aR aM bV;refine fm ?_ ?_
 . refine wn λZ=>?_
   refine aG ?_;refine wn λcA=>?_;refine ad0 ?_;exact agc
 . refine wn λcA=>?_
   refine aG ?_;refine wn λZ=>?_;refine ad0 ?_;exact agc
def axl(aj:bJ X z s)(N:X.C.ok)(B:At X z.ap s.aE a q x)(Y:fX x e)(id:Int)(m:Nat)(l:c0)(K:hG z.ae s.lets id m l)(J:Nat)(M:List Value)(k:Th.K)(y:Option aq)(O:s.ax[j]?=some t)(aS:s.dead.length<most)(c2:s.trace.length<most)(aO:s.a8.length<=most)(hu:l.pY=false)(o:List fF)(b:cG)(r:Bool)(d:cG)(u:0<=l.n/\l.n<=255)(i7:Th.kU e.bI x.state l.tag l.n=(⟨true,o,b,r,d⟩:dE))(f:X.C.dO<=x.aside.length)(aY:∀aD aI,hr X j {z with b4:=aD,b5:=aI} (ki s id l.to 1) k J M y):ab E 238 [ptr (X.bp j) 0,ptr q 0,bx id,bk J M] (a1 X z.ap z.ae j 0 k J M::gM X z s a q x e) (cv X y):=by
 refine av Tryz.func238 λH D=>?_;haveI:=gn (X:=X) (ap:=z.ap) (ae:=z.ae) O;haveI:=K.rd (bY:=0) (v:=af l.cf) rfl;haveI:=K.rd (bY:=1) (v:=af l.to) rfl;haveI:=K.rd (bY:=2) (v:=S l.tag) rfl;haveI:=K.rd (bY:=3) (v:=af l.n) rfl;haveI:=K.rd (bY:=4) (v:=.bool false) y1;have cy:=B.cy;refine zy ?_;intro aL aR aM bV;refine fm ?_ ?_
 . refine wn λZ=>?_
   refine aG ?_;refine wn λcA=>?_;refine Kz ?_;exact J9
 . refine wn λcA=>?_
   refine aG ?_;refine wn λZ=>?_;refine Kz ?_;exact J9
def axm(aj:bJ X z s)(N:X.C.ok)(B:At X z.ap s.aE a q x)(Y:fX x e)(id:Int)(m:Nat)(l:c0)(K:hG z.ae s.lets id m l)(J:Nat)(M:List Value)(k:Th.K)(y:Option aq)(O:s.ax[j]?=some t)(aS:s.dead.length<most)(c2:s.trace.length<most)(aO:s.a8.length<=most)(hu:l.pY=false)(o:List fF)(b:cG)(r:Bool)(d:cG)(u:0<=l.n/\l.n<=255)(i7:Th.kU e.bI x.state l.tag l.n=(⟨true,o,b,r,d⟩:dE))(f:¬X.C.dO<=x.aside.length)(aY:∀aD aI,hr X j {z with b4:=aD,b5:=aI} aac k J M y):ab E 238 Ej iM (cv X y):=by
 refine av Tryz.func238 λH D=>?_;haveI:=gn (X:=X) (ap:=z.ap) (ae:=z.ae) O;haveI:=K.rd (bY:=0) (v:=af l.cf) rfl;haveI:=K.rd (bY:=1) (v:=af l.to) rfl;haveI:=K.rd (bY:=2) (v:=S l.tag) rfl;haveI:=K.rd (bY:=3) (v:=af l.n) rfl;haveI:=K.rd (bY:=4) (v:=.bool false) y1;have cy:=B.cy;refine zy ?_;intro aL aR aM bV;refine fm ?_ ?_
 . refine wn λZ=>?_
   refine aG ?_;refine wn λcA=>?_;exact afW
 . refine wn λcA=>?_
   refine aG ?_;refine wn λZ=>?_;exact afW
def axn(aj:bJ X z s)(N:X.C.ok)(B:At X z.ap s.aE a q x)(Y:fX x e)(id:Int)(m:Nat)(l:c0)(K:hG z.ae s.lets id m l)(J:Nat)(M:List Value)(k:Th.K)(y:Option aq)(O:s.ax[j]?=some t)(aS:s.dead.length<most)(c2:s.trace.length<most)(aO:s.a8.length<=most)(hu:l.pY=false)(o:List fF)(b:cG)(r:Bool)(d:cG)(u:0<=l.n/\l.n<=255)(i7:Th.kU e.bI x.state l.tag l.n=(⟨false,o,b,r,d⟩:dE))(h:∀aL aR aM bV Z cA dm bZ pc aD aI,ab E 156 aah (Z0++bh X iN (Th.c8 aaL a x)) (cv X y)):ab E 238 Ej iM (cv X y):=by
 refine av Tryz.func238 λH D=>?_;haveI:=gn (X:=X) (ap:=z.ap) (ae:=z.ae) O;haveI:=K.rd (bY:=0) (v:=af l.cf) rfl;haveI:=K.rd (bY:=1) (v:=af l.to) rfl;haveI:=K.rd (bY:=2) (v:=S l.tag) rfl;haveI:=K.rd (bY:=3) (v:=af l.n) rfl;haveI:=K.rd (bY:=4) (v:=.bool false) y1;have cy:=B.cy;refine zy ?_;intro aL aR aM bV;refine fm ?_ ?_
 . refine wn λZ=>?_
   refine aG ?_;refine wn λcA=>?_;exact afX
 . refine wn λcA=>?_
   refine aG ?_;refine wn λZ=>?_;exact afX
def axo(aj:bJ X z s)(N:X.C.ok)(B:At X z.ap s.aE a q x)(Y:fX x e)(id:Int)(m:Nat)(l:c0)(K:hG z.ae s.lets id m l)(J:Nat)(M:List Value)(k:Th.K)(y:Option aq)(O:s.ax[j]?=some t)(aS:s.dead.length<most)(c2:s.trace.length<most)(aO:s.a8.length<=most)(hu:l.pY=true)(p:Th.mem x.watched l.cf=true)(o:List fF)(b:cG)(r:Bool)(d:cG)(u:0<=l.n/\l.n<=255)(i7:Th.kU e.bI x.state l.tag l.n=(⟨true,o,b,r,d⟩:dE))(f:X.C.dO<=x.aside.length)(aY:∀aD aI,hr X j {z with b4:=aD,b5:=aI} (ki s id l.to 1) k J M y):ab E 238 [ptr (X.bp j) 0,ptr q 0,bx id,bk J M] (a1 X z.ap z.ae j 0 k J M::gM X z s a q x e) (cv X y):=by
 refine av Tryz.func238 λH D=>?_;haveI:=gn (X:=X) (ap:=z.ap) (ae:=z.ae) O;haveI:=K.rd (bY:=0) (v:=af l.cf) rfl;haveI:=K.rd (bY:=1) (v:=af l.to) rfl;haveI:=K.rd (bY:=2) (v:=S l.tag) rfl;haveI:=K.rd (bY:=3) (v:=af l.n) rfl;haveI:=K.rd (bY:=4) (v:=.bool true) y1;have cy:=B.cy;refine zy ?_;intro aL aR aM bV;refine fm ?_ ?_
 . refine wn λZ=>?_
   refine aG ?_;refine wn λcA=>?_;refine KC ?_;exact J9
 . refine wn λcA=>?_
   refine aG ?_;refine wn λZ=>?_;refine KC ?_;exact J9
def axp(aj:bJ X z s)(N:X.C.ok)(B:At X z.ap s.aE a q x)(Y:fX x e)(id:Int)(m:Nat)(l:c0)(K:hG z.ae s.lets id m l)(J:Nat)(M:List Value)(k:Th.K)(y:Option aq)(O:s.ax[j]?=some t)(aS:s.dead.length<most)(c2:s.trace.length<most)(aO:s.a8.length<=most)(hu:l.pY=true)(p:Th.mem x.watched l.cf=true)(o:List fF)(b:cG)(r:Bool)(d:cG)(u:0<=l.n/\l.n<=255)(i7:Th.kU e.bI x.state l.tag l.n=(⟨true,o,b,r,d⟩:dE))(f:¬X.C.dO<=x.aside.length)(aY:∀aD aI,hr X j {z with b4:=aD,b5:=aI} aac k J M y):ab E 238 Ej iM (cv X y):=by
 refine av Tryz.func238 λH D=>?_;haveI:=gn (X:=X) (ap:=z.ap) (ae:=z.ae) O;haveI:=K.rd (bY:=0) (v:=af l.cf) rfl;haveI:=K.rd (bY:=1) (v:=af l.to) rfl;haveI:=K.rd (bY:=2) (v:=S l.tag) rfl;haveI:=K.rd (bY:=3) (v:=af l.n) rfl;haveI:=K.rd (bY:=4) (v:=.bool true) y1;have cy:=B.cy;refine zy ?_;intro aL aR aM bV;refine fm ?_ ?_
 . refine wn λZ=>?_
   refine aG ?_;refine wn λcA=>?_;exact agd
 . refine wn λcA=>?_
   refine aG ?_;refine wn λZ=>?_;exact agd
def axq(aj:bJ X z s)(N:X.C.ok)(B:At X z.ap s.aE a q x)(Y:fX x e)(id:Int)(m:Nat)(l:c0)(K:hG z.ae s.lets id m l)(J:Nat)(M:List Value)(k:Th.K)(y:Option aq)(O:s.ax[j]?=some t)(aS:s.dead.length<most)(c2:s.trace.length<most)(aO:s.a8.length<=most)(hu:l.pY=true)(p:Th.mem x.watched l.cf=true)(o:List fF)(b:cG)(r:Bool)(d:cG)(u:0<=l.n/\l.n<=255)(i7:Th.kU e.bI x.state l.tag l.n=(⟨false,o,b,r,d⟩:dE))(h:∀aL aR aM bV Z cA dm bZ pc aD aI,ab E 156 aah (Z0++bh X iN (Th.c8 aaL a {x with watched:=x.watched.erase l.cf})) (cv X y)):ab E 238 Ej iM (cv X y):=by
 refine av Tryz.func238 λH D=>?_;haveI:=gn (X:=X) (ap:=z.ap) (ae:=z.ae) O;haveI:=K.rd (bY:=0) (v:=af l.cf) rfl;haveI:=K.rd (bY:=1) (v:=af l.to) rfl;haveI:=K.rd (bY:=2) (v:=S l.tag) rfl;haveI:=K.rd (bY:=3) (v:=af l.n) rfl;haveI:=K.rd (bY:=4) (v:=.bool true) y1;have cy:=B.cy;refine zy ?_;intro aL aR aM bV;refine fm ?_ ?_
 . refine wn λZ=>?_
   refine aG ?_;refine wn λcA=>?_;exact age
 . refine wn λcA=>?_
   refine aG ?_;refine wn λZ=>?_;exact age
def axr(i n R d2 d5 cq d6 aK ar V ay aL aR aM J:Nat)(M:List Value)(k:Th.K)(a q m:Nat)(id:Int)(I:dE)(bZ:Option Addr)(pc:Nat)(o:fF)(y:Option aq)(bt:z.ap[a -1]?=some q)(b:z.ae[(id -1).toNat]?=some m)(Z:I.cx[i]?=some o)(h:ab E 294 [ptr (X.bp j) 0,ptr q 0,ptr m 0,.agg (fM o).toArray,bk 208 sp] (a1 X z.ap z.ae j 0 (.each (.da a id I) i n (.ended a id I k)) 208 sp::bh X z s) (cv X y)):ab E 293 (PB++BA) ([aa R 3 [af i],aa d2 188 rm,aa d5 3 [af n],aa cq 255 [bk 293 BA],aa d6 1 [bk 295 [ptr ay 0,ptr ar 0,ptr aL 0,ptr aR 0,ptr aK 0,ptr aM 0]],aa aK 106 eE,aa ar 110 [ptr q 0],aa V 311 [ptr m 0],aa ay 356 (lh bZ pc I),aa aL 32 [ptr X.h 0],aa aR 36 [bx id],aa aM 1 [bk J M],km bZ pc I.cx,a1 X z.ap z.ae j 0 k J M]++bh X z s) (cv X y):=by
 refine av Tryz.func293 λH D=>?_;have B:=(dp.1 Z).1;refine cw [] [9,201] [aa aK 106 eE,aa ar 110 [ptr q 0],aa V 311 [ptr m 0],aa ay 356 (lh bZ pc I),km bZ pc I.cx] ?_;refine bj ?_;refine go_v rfl .none rfl (gf rfl rfl (show i<I.cx.length by omega)) ?_;refine go_v rfl .none rfl (kz rfl (kA fM 7 xT Z) rfl) ?_;refine aG ?_;refine bu (iA (a1.eq_32 ..) (R,d2,d5,cq,d6,aK,ar,V,ay,aL,aR,aM,q,J,M,m,bZ,pc) ⟨rfl,rfl,bt,b,⟨rfl,rfl,rfl⟩⟩ h) ?_;refine pe ?_;exact pd
def axs(t:b0)(a q:Nat)(x:bU)(e:hS)(B:At X z.ap s.aE a q x)(Y:fX x e)(id:Int)(J:Nat)(M:List Value)(k:Th.K)(y:Option aq)(aK ar V ay aL aR:Nat)(bZ:Option Addr)(pc:Nat)(i:Bool)(o:List fF)(b d:cG)(c2:s.trace.length<most)(h:∀aD aI,ab E 241 lB (a1 X z.ap z.ae j 0 k J M::bh X iN (Th.c8 IV a JD)) (cv X y)):ab E 295 sm ((aa aK 356 (lh bZ pc ⟨i,o,b,true,d⟩)::O5)++gM X z s a q x e) (cv X y):=by
 refine afG ?_;intro H D cy aD aI;refine nI ?_;refine bR ?_;refine adG ?_;intro cl aW ah e8;refine b2 ?_;exact pb
def axt(t:b0)(a q:Nat)(x:bU)(e:hS)(B:At X z.ap s.aE a q x)(Y:fX x e)(id:Int)(J:Nat)(M:List Value)(k:Th.K)(y:Option aq)(aK ar V ay aL aR:Nat)(bZ:Option Addr)(pc:Nat)(i:Bool)(o:List fF)(b d:cG)(c2:s.trace.length<most)(T:¬d=[])(h:∀aD aI,ab E 296 [ptr (X.bp j) 0,ptr q 0,S d,bk J M] (a1 X z.ap z.ae j 0 k J M::bh X iN (Th.c8 IV a JD)) (cv X y)):ab E 295 sm ((aa aK 356 (lh bZ pc ⟨i,o,b,false,d⟩)::O5)++gM X z s a q x e) (cv X y):=by
 refine afG ?_;intro H D cy aD aI;refine og ?_;refine bR ?_;refine aB rfl (fS (c:=true) (by simpa using T) (Qp (m:=[]) rfl rfl)) ?_;refine dh ?_;refine adG ?_;intro cl aW ah e8;refine b2 ?_;exact pb
def axu(t:b0)(a q:Nat)(x:bU)(e:hS)(B:At X z.ap s.aE a q x)(Y:fX x e)(id:Int)(J:Nat)(M:List Value)(k:Th.K)(y:Option aq)(aK ar V ay aL aR:Nat)(bZ:Option Addr)(pc:Nat)(i:Bool)(o:List fF)(b d:cG)(c2:s.trace.length<most)(aY:∀aD aI,hr X j {z with b4:=aD,b5:=aI} (Th.c8 IV a JD) k J M y):ab E 295 sm ((aa aK 356 (lh bZ pc ⟨i,o,b,false,[]⟩)::O5)++gM X z s a q x e) (cv X y):=by
 refine afw ?_;intro H D cy aD aI;haveI:=(aY aD aI).iY;refine c4 ?_;refine og ?_;refine bR ?_;refine aB rfl (fS (c:=false) r2 (Qp (m:=[]) rfl rfl)) ?_;refine bj ?_;refine bu (gv (I:=[a1 X z.ap z.ae j 0 k J M,aa q 118 ((dS X x e).set (0+7) (S b)),dj e.ka e.kc x.kids,dj e.gQ e.gR x.cH,fJ e.gp X.C.dO x.aside x.front,gL e.iB (min (max e.bI.limit 0) 100) (min (max e.bI.within 1) 4095) x.given,bs e.gj .i64 (x.watched.map λw=>(w,.bool true)),ii e.iC (hD e.es),ao (hV e.es),gb e.bI,ao ((dI X z.ap s.aE).set (a -1) eJ),cp X {z with b4:=aD,b5:=aI} {s with trace:=s.trace++[({Th.cz with kind:=4,dc:=x.id,id:=id,name:=b}:bG)]},di aD aI (s.trace++[({Th.cz with kind:=4,dc:=x.id,id:=id,name:=b}:bG)]),dX z.na z.dT s.notes,bs X.am .i64 (bD z.ap),bs X.dL .u64 (bD z.ae),ao (eB z.ae s.lets),Lg.cY X.ld s.a8,dz X.cF X.C.c6 s.dead,bz X.m s.L z.tt,eo X,ee X s.bm,dy X.bl X.m X.C.bl X.C.aT,ao (dd X),ef X,eL X,e7 X,eO X,ao (cK X z.ap z.ae s.ax)]) (λD h F=>Sat.tail (λh F=>jk (X:=X) (z:={z with b4:=aD,b5:=aI}) (s:={s with trace:=s.trace++[({Th.cz with kind:=4,dc:=x.id,id:=id,name:=b}:bG)]}) (x:={x with state:=b}) (e:=e) B ⟨Y.bI,Y.kj,Y.es⟩ D h F) F) (aY aD aI).spec) ?_;refine pe ?_;exact pd
end
section
variable(X:cO)(z:dw)(s:aq)(j:Nat)(t:b0)(a q:Nat)(x:bU)(e:hS)
instance:CM E 115 eK:=⟨let⟨i,a,b,_,_⟩:=HQ apo;⟨_,_,i,Tryz.underlying115,Tryz.underlying9,a,b⟩⟩
theorem sT{q:Nat}{X:cO}{x:bU}{e:hS}{er s1 cb ce:Int}(ai:x.slots=ku):gw (.slice (some ⟨q,8,none⟩) [er,s1,cb,ce].length 4) (aa q 118 (dS X x e)) [er,s1,cb,ce].length (iF ku):=⟨fun{h} F=>by
 have gJ:=ai;refine .inr ⟨q,8,none,4,rfl,λ_=>rfl,λj v ah=>⟨rfl,_,_,_,F,?_⟩⟩;simp only[dS,gJ]
 match j,ah with
 |0,ah=>exact ah
 |1,ah=>exact ah
 |2,ah=>exact ah
 |3,ah=>exact ah⟩
def S7{X:cO}{x:bU}{e:hS}{i:Nat}{v:Int}(aw:x.slots.length=4)(ak:i<4):(dS X x e).set (8+i*1) (af v)=dS X {x with slots:=x.slots.set i v} e:=by
 obtain⟨er,s1,cb,ce,h⟩:∃er s1 cb ce,x.slots=ku:=by
  match x.slots,aw with
  |[er,s1,cb,ce],_=>exact⟨er,s1,cb,ce,rfl⟩
 simp only[dS,h]
 match i,ak with
 |0,_=>rfl
 |1,_=>rfl
 |2,_=>rfl
 |3,_=>rfl
def mu:List pW->cG->List pW
 |[],_=>[]
 |(k,v)::r,n=>if n=k then r else(k,v)::mu r n
def qL:List pW->cG->Option Addr->Nat->List Int->List pW
 |[],n,a,c,l=>[(n,a,c,l)]
 |(k,v)::r,n,a,c,l=>if n=k then(n,a,c,l)::r else(k,v)::qL r n a c l
def ajz:∀(es:List pW) (n:cG),sj (hD es) n=hD (mu es n)
 |[],n=>rfl
 |
  (k,v)::r,n=>by
  simp only[hD,gx,sj,mu];split
  . rfl
  . simp only[gx];congr 1;exact ajz r n
def ajA:∀(es:List pW) (n:cG),pq (mu es n)=Th.om (pq es) n
 |[],n=>rfl
 |
  (k,v)::r,n=>by
  simp only[pq,gx,Th.om,mu];split
  . rfl
  . simp only[gx];congr 1;exact ajA r n
def Lt:∀(es:List pW) (n:cG),∃(a:Option Addr) (c:Nat),(uh (hD es) n).getD eK=ul a c (Th.gE (pq es) n)/\∀D h,Sat (ao (hV es)::D) h->Sat (fH a c (Th.gE (pq es) n)::ao (hV (mu es n))::D) h
 |[],n=>⟨none,0,rfl,λD h F=>jc h F⟩
 |
  (k,v)::r,n=>by
  by_cases hk:n=k
  . refine⟨v.1,v.2.1,?_,λD h F=>?_⟩
    . simp only[hD,pq,gx,uh,Th.gE,bg hk];rfl
    . simp only[pq,hV,gx,Th.gE,mu,bg hk]at F⊢
      exact Sat.tail (λh F=>Sat.flat.2 F) (Sat.flat.1 F)
  . obtain⟨a,c,h1,h2⟩:=Lt r n
    refine⟨a,c,?_,λD h F=>?_⟩
    . simp only[hD,pq,gx,uh,Th.gE,a7 hk]at h1⊢;exact h1
    . simp only[pq,hV,gx,Th.gE,mu,a7 hk]at F h2⊢
      have gT:=Sat.flat.1 F;have L:=Sat.tail (λh F=>h2 D h (Sat.flat.2 F)) gT;exact Sat.tail (λh F=>Sat.flat.2 Ji) (Sat.swap L)
def S8:∀(es:List pW) (n:cG) (a:Option Addr) (c:Nat) (l:List Int),o8 (hD es) n (ul a c l)=hD (qL es n a c l)
 |[],n,a,c,l=>rfl
 |
  (k,v)::r,n,a,c,l=>by
  simp only[hD,gx,o8,qL];split
  . rfl
  . simp only[gx];congr 1;exact S8 r n a c l
def S9:∀(es:List pW) (n:cG) (a:Option Addr) (c:Nat) (x:Int),pq (qL es n a c (Th.gE (pq es) n++[x]))=Th.l7 (pq es) n x
 |[],n,a,c,x=>rfl
 |
  (k,v)::r,n,a,c,x=>by
  by_cases hk:n=k
  . simp only[pq,gx,Th.l7,Th.gE,qL,bg hk]
  . simp only[pq,gx,Th.l7,Th.gE,qL,a7 hk];congr 1;exact S9 r n a c x
def Ta:∀(es:List pW) (n:cG) (a:Option Addr) (c:Nat) (l:List Int) (D:List al) (h:eQ),Sat (fH a c l::ao (hV (mu es n))::D) h->Sat (ao (hV (qL es n a c l))::D) h
 |[],n,a,c,l,D,h,F=>Sat.flat.2 Ji
 |
  (k,v)::r,n,a,c,l,D,h,F=>by
  by_cases hk:n=k
  . simp only[hV,gx,qL,mu,bg hk]at F⊢
    exact Sat.flat.2 Ji
  . simp only[hV,gx,qL,mu,a7 hk]at F⊢
    have gT:=Sat.swap Ji;exact Sat.flat.2 (Sat.tail (λh F=>Sat.flat.1 (Ta r n a c l D h (Sat.tail (λh F=>Sat.flat.2 F) F))) gT)
def axv(aj:bJ X z s)(N:X.C.ok)(B:At X z.ap s.aE a q x)(Y:fX x e)(id:Int)(m:Nat)(l:c0)(K:hG z.ae s.lets id m l)(o:fF)(J:Nat)(M:List Value)(k:Th.K)(er s1 cb ce:Int)(ai:x.slots=ku)(O:s.ax[j]?=some t)(y:Option aq)(h:ab E 93 [ptr (X.bp j) 0,.agg (nn ⟨x.id,(Th.hj o.ref x.id (max l.cf 0) x.parent ku),o.name,o.n,false⟩).toArray,bk J M] iM (cv X y))(lw:o.do'=1):ab E 294 u4 iM (cv X y):=by
 refine av Tryz.func294 λH D=>?_;haveI:=gn (X:=X) (ap:=z.ap) (ae:=z.ae) O;haveI:=K.rd (bY:=0) (v:=af l.cf) rfl;haveI:=sT (q:=q) (X:=X) (e:=e) ai;have cy:=B.cy;refine agp ?_;intro aR aM Z cA dm;refine bR ?_;refine cw [] [12,201] [aa aR 106 eE,aa aM 110 [ptr q 0],aa Z 87 (fM o),aa cA 1 [bk J M],aa q 118 (dS X x e)] ?_;refine dB ?_;refine bu (h) ?_;exact adJ
def axw(aj:bJ X z s)(N:X.C.ok)(B:At X z.ap s.aE a q x)(Y:fX x e)(id:Int)(m:Nat)(l:c0)(K:hG z.ae s.lets id m l)(o:fF)(J:Nat)(M:List Value)(k:Th.K)(er s1 cb ce:Int)(ai:x.slots=ku)(O:s.ax[j]?=some t)(y:Option aq)(h:ab E 343 [ptr (X.bp j) 0,ptr q 0,af ((Th.nt o.slot).getD 0),S o.name,bk J M] iM (cv X y))(lw:o.do'=2):ab E 294 u4 iM (cv X y):=by
 refine av Tryz.func294 λH D=>?_;haveI:=gn (X:=X) (ap:=z.ap) (ae:=z.ae) O;haveI:=K.rd (bY:=0) (v:=af l.cf) rfl;haveI:=sT (q:=q) (X:=X) (e:=e) ai;have cy:=B.cy;refine agv ?_;intro aR aM Z cA dm;refine c4 ?_;exact Q5
def axx(aj:bJ X z s)(N:X.C.ok)(B:At X z.ap s.aE a q x)(Y:fX x e)(id:Int)(m:Nat)(l:c0)(K:hG z.ae s.lets id m l)(o:fF)(J:Nat)(M:List Value)(k:Th.K)(er s1 cb ce:Int)(ai:x.slots=ku)(O:s.ax[j]?=some t)(y:Option aq)(g0:((Th.nt o.slot).getD 0)<4)(aY:hr X j z (Th.c8 s a PC) k J M y)(lw:o.do'=10):ab E 294 u4 iM (cv X y):=by
 refine av Tryz.func294 λH D=>?_;haveI:=gn (X:=X) (ap:=z.ap) (ae:=z.ae) O;haveI:=K.rd (bY:=0) (v:=af l.cf) rfl;haveI:=sT (q:=q) (X:=X) (e:=e) ai;have cy:=B.cy;haveI:=aY.iY;have b:x.slots.length=4:=by rw[ai];rfl
 refine agw ?_;intro aR aM Z cA dm;refine c4 ?_;refine aB rfl (lU rfl rfl g0) ?_;refine ko (mo rfl rfl rfl Zp) ?_;refine bb ?_;rw[S7 b g0];refine bb ?_;refine bu (gv (I:=(a1 X z.ap z.ae j 0 k J M::aa q 118 (dS X PC e)::dj e.ka e.kc x.kids::ZG)) (λD h F=>Sat.tail (λh F=>jk (X:=X) (z:=z) (s:=s) (x:=PC) (e:=e) B rs D h F) F) aY.spec) ?_;refine pe ?_;exact pd
def axy(aj:bJ X z s)(N:X.C.ok)(B:At X z.ap s.aE a q x)(Y:fX x e)(id:Int)(m:Nat)(l:c0)(K:hG z.ae s.lets id m l)(o:fF)(J:Nat)(M:List Value)(k:Th.K)(er s1 cb ce:Int)(ai:x.slots=ku)(O:s.ax[j]?=some t)(y:Option aq)(aF:s.a8.length<=most)(h1:x.aside.length<=1099511627776)(h2:x.front.length<=1099511627776)(aY:hr X j z (Th.c8 ab8 a PN) k J M y)(lw:o.do'=5):ab E 294 u4 iM (cv X y):=by
 refine av Tryz.func294 λH D=>?_;haveI:=gn (X:=X) (ap:=z.ap) (ae:=z.ae) O;haveI:=K.rd (bY:=0) (v:=af l.cf) rfl;haveI:=sT (q:=q) (X:=X) (e:=e) ai;have cy:=B.cy;haveI:=aY.iY;refine agy ?_;intro aR aM Z cA dm;refine bQ ?_;refine aU (ajs X z s j t q x e s.a8 aF h1 h2 O) ?_;refine bR ?_;refine bu (gv (I:=(a1 X z.ap z.ae j 0 k J M::aa q 118 (dS X x e)::dj e.ka e.kc x.kids::dj e.gQ e.gR x.cH::fJ e.gp X.C.dO [] (x.front++x.aside.reverse)::gL e.iB pQ pR x.given::bs e.gj .i64 wR::ii e.iC (hD e.es)::ao (hV e.es)::gb e.bI::ao y2::cp X z s::di z.b4 z.b5 s.trace::ZO)) (λD h F=>Sat.tail (λh F=>jk (X:=X) (z:=z) (s:=ab8) (x:=PN) (e:=e) B rs D h F) F) aY.spec) ?_;refine pe ?_;exact pd
def axz(aj:bJ X z s)(N:X.C.ok)(B:At X z.ap s.aE a q x)(Y:fX x e)(id:Int)(m:Nat)(l:c0)(K:hG z.ae s.lets id m l)(o:fF)(J:Nat)(M:List Value)(k:Th.K)(er s1 cb ce:Int)(ai:x.slots=ku)(O:s.ax[j]?=some t)(U:t.on=none)(lw:o.do'=8):ab E 294 u4 iM (cv X (some {s with ax:=s.ax.set j {t with on:=some (.add 0 1,.hR a (⟨x.id,x.id,o.name,o.n,false⟩:c0) o k)}})):=by
 refine av Tryz.func294 λH D=>?_;haveI:=gn (X:=X) (ap:=z.ap) (ae:=z.ae) O;haveI:=K.rd (bY:=0) (v:=af l.cf) rfl;haveI:=sT (q:=q) (X:=X) (e:=e) ai;have cy:=B.cy;refine agC ?_;intro aR aM Z cA dm;refine bR ?_;refine cw [] [15,201] (aa aR 106 eE::ab5) ?_;refine eY ?_;refine aU (au1 X z s j t aR aM Z cA a q (⟨x.id,x.id,o.name,o.n,false⟩:c0) o J M k B.ap O U) ?_;refine bR ?_;exact aQ (I:=(bh X z {s with ax:=s.ax.set j {t with on:=some (.add 0 1,.hR a (⟨x.id,x.id,o.name,o.n,false⟩:c0) o k)}})) ⟨rfl,z,_,rfl,⟨aj.gk,aj.fY,aj.fZ,aj.ap,aj.ae⟩,rfl⟩ (λh F=>by have:=jk (X:=X) (z:=z) (s:={s with ax:=s.ax.set j {t with on:=some (.add 0 1,.hR a (⟨x.id,x.id,o.name,o.n,false⟩:c0) o k)}}) (x:=x) (g9:=x) B Y D h ((show∀h,Sat _ h->Sat (gM X z {s with ax:=s.ax.set j {t with on:=some (.add 0 1,.hR a (⟨x.id,x.id,o.name,o.n,false⟩:c0) o k)}} a q x e++D) h from(au)) h F);rw[sw (X:=X) (ap:=z.ap) (q:=q) (s:={s with ax:=s.ax.set j {t with on:=some (.add 0 1,.hR a (⟨x.id,x.id,o.name,o.n,false⟩:c0) o k)}}) B]at this;exact this)
def axA(aj:bJ X z s)(N:X.C.ok)(B:At X z.ap s.aE a q x)(Y:fX x e)(id:Int)(m:Nat)(l:c0)(K:hG z.ae s.lets id m l)(o:fF)(J:Nat)(M:List Value)(k:Th.K)(er s1 cb ce:Int)(ai:x.slots=ku)(O:s.ax[j]?=some t)(y:Option aq)(h:∀aR dm d ea cZ,ab E 156 [ptr (X.bp j) 0,af (Th.gE x.timers o.name).length,bk 346 [ptr aR 0,ptr dm 0,ptr d 0],bk J M] Z1 (cv X y))(lw:o.do'=9):ab E 294 u4 iM (cv X y):=by
 refine av Tryz.func294 λH D=>?_;haveI:=gn (X:=X) (ap:=z.ap) (ae:=z.ae) O;haveI:=K.rd (bY:=0) (v:=af l.cf) rfl;haveI:=sT (q:=q) (X:=X) (e:=e) ai;have cy:=B.cy;obtain⟨ea,cZ,r,b⟩:=Lt e.es o.name;rw[Y.es]at r b;refine agC ?_;intro aR aM Z cA dm;refine nC ?_;refine bE ?_;refine cw [7] [107,202] [aa aM 110 [ptr q 0],aa Z 87 (fM o),aa q 118 (dS X x e),ii e.iC (hD e.es)] ?_;refine bj ?_;refine go_vs rfl .none rfl (Ug (ul ea cZ IJ) r rfl rfl) (au) ?_;refine wn λd=>?_;refine bE ?_;refine cw [] [6,201] ab5 ?_;refine bj ?_;refine go_n0 rfl .none (aqG rfl rfl) ?_;rintro _ _ ⟨rfl,rfl⟩;rw[ajz];refine cB ?_;refine cn rfl (b9 rfl (gv (I:=[aa aR 106 eE,aa dm 32 [ptr X.h 0],aa d 49 [ul ea cZ IJ],a1 X z.ap z.ae j 0 k J M,ao (hV e.es)]++(aa q 118 (dS X x e)::dj e.ka e.kc x.kids::dj e.gQ e.gR x.cH::fJ e.gp X.C.dO x.aside x.front::gL e.iB pQ pR x.given::bs e.gj .i64 wR::ii e.iC (hD (mu e.es o.name))::ZH)) (λD h F=>(show∀h,Sat _ h->Sat (Z1++D) h from λh F=>by
  have gT:=b _ h ((show∀h,Sat _ h->Sat (ao (hV e.es)::([aa aR 106 [ptr (X.bp j) 0],aa dm 32 [ptr X.h 0],aa d 49 [ul ea cZ (Th.gE x.timers o.name)],a1 X z.ap z.ae j 0 k J M]++([aa q 118 (dS X x e),dj e.ka e.kc x.kids,dj e.gQ e.gR x.cH,fJ e.gp X.C.dO x.aside x.front,gL e.iB (min (max e.bI.limit 0) 100) (min (max e.bI.within 1) 4095) x.given,bs e.gj .i64 (x.watched.map λw=>(w,.bool true)),ii e.iC (hD (mu e.es o.name)),gb e.bI,ao ((dI X z.ap s.aE).set (a -1) eJ),cp X z s,di z.b4 z.b5 s.trace,dX z.na z.dT s.notes,bs X.am .i64 (bD z.ap),bs X.dL .u64 (bD z.ae),ao (eB z.ae s.lets),Lg.cY X.ld s.a8,dz X.cF X.C.c6 s.dead,bz X.m s.L z.tt,eo X,ee X s.bm,dy X.bl X.m X.C.bl X.C.aT,ao (dd X),ef X,eL X,e7 X,eO X,ao (cK X z.ap z.ae s.ax)]++D))) h from(au)) h F);exact KE [aa aR 106 [ptr (X.bp j) 0],aa dm 32 [ptr X.h 0],aa d 49 [ul ea cZ (Th.gE x.timers o.name)],fH ea cZ (Th.gE x.timers o.name),a1 X z.ap z.ae j 0 k J M] (λh F=>jk (X:=X) (z:=z) (s:=s) (x:={x with timers:=Th.om x.timers o.name}) (e:={e with es:=mu e.es o.name}) B ⟨Y.bI,Y.kj,by rw[ajA,Y.es]⟩ D h F) h ((show∀h,Sat _ h->Sat ([aa aR 106 [ptr (X.bp j) 0],aa dm 32 [ptr X.h 0],aa d 49 [ul ea cZ (Th.gE x.timers o.name)],fH ea cZ (Th.gE x.timers o.name),a1 X z.ap z.ae j 0 k J M]++(gM X z s a q {x with timers:=Th.om x.timers o.name} {e with es:=mu e.es o.name}++D)) h from(au)) h gT)) h F) (h aR dm d ea cZ)) bN) ?_
 exact adT
def axB(aj:bJ X z s)(N:X.C.ok)(B:At X z.ap s.aE a q x)(Y:fX x e)(id:Int)(m:Nat)(l:c0)(K:hG z.ae s.lets id m l)(o:fF)(J:Nat)(M:List Value)(k:Th.K)(er s1 cb ce:Int)(ai:x.slots=ku)(O:s.ax[j]?=some t)(y:Option aq)(R:(Th.hj o.ref x.id (max l.cf 0) x.parent ku)=0\/(Th.hj o.ref x.id (max l.cf 0) x.parent ku)=x.id)(aY:hr X j z s k J M y)(lw:o.do'=6):ab E 294 u4 (a1 X z.ap z.ae j 0 k J M::gM X z s a q x e) (cv X y):=by
 refine av Tryz.func294 λH D=>?_;haveI:=gn (X:=X) (ap:=z.ap) (ae:=z.ae) O;haveI:=K.rd (bY:=0) (v:=af l.cf) rfl;haveI:=sT (q:=q) (X:=X) (e:=e) ai;have cy:=B.cy;haveI:=aY.iY;refine agJ ?_;intro aR aM Z cA dm;refine mN (d:=141) 7 (.bool (decide ((Th.hj o.ref x.id (max l.cf 0) x.parent [er,s1,cb,ce])=0)||decide ((Th.hj o.ref x.id (max l.cf 0) x.parent [er,s1,cb,ce])=x.id))) ?_ (λn=>?_)
 rotate_left
 . refine hY rfl rfl (λW=>?_) (λW=>?_) rfl
   . exact J2
   . exact Kb
 refine bb ?_;exact afj
def axC(aj:bJ X z s)(N:X.C.ok)(B:At X z.ap s.aE a q x)(Y:fX x e)(id:Int)(m:Nat)(l:c0)(K:hG z.ae s.lets id m l)(o:fF)(J:Nat)(M:List Value)(k:Th.K)(er s1 cb ce:Int)(ai:x.slots=ku)(O:s.ax[j]?=some t)(y:Option aq)(R:(Th.hj o.ref x.id (max l.cf 0) x.parent ku)=0\/(Th.hj o.ref x.id (max l.cf 0) x.parent ku)=x.id)(aY:hr X j z s k J M y)(lw:o.do'=7):ab E 294 u4 (a1 X z.ap z.ae j 0 k J M::gM X z s a q x e) (cv X y):=by
 refine av Tryz.func294 λH D=>?_;haveI:=gn (X:=X) (ap:=z.ap) (ae:=z.ae) O;haveI:=K.rd (bY:=0) (v:=af l.cf) rfl;haveI:=sT (q:=q) (X:=X) (e:=e) ai;have cy:=B.cy;haveI:=aY.iY;refine agP ?_;intro aR aM Z cA dm;refine mN (d:=141) 7 (.bool (decide ((Th.hj o.ref x.id (max l.cf 0) x.parent [er,s1,cb,ce])=0)||decide ((Th.hj o.ref x.id (max l.cf 0) x.parent [er,s1,cb,ce])=x.id))) ?_ (λn=>?_)
 rotate_left
 . refine hY rfl rfl (λW=>?_) (λW=>?_) rfl
   . exact J2
   . exact Kb
 refine bb ?_;exact afj
def axD(aj:bJ X z s)(N:X.C.ok)(B:At X z.ap s.aE a q x)(Y:fX x e)(id:Int)(m:Nat)(l:c0)(K:hG z.ae s.lets id m l)(o:fF)(J:Nat)(M:List Value)(k:Th.K)(er s1 cb ce:Int)(ai:x.slots=ku)(O:s.ax[j]?=some t)(y:Option aq)(R:¬((Th.hj o.ref x.id (max l.cf 0) x.parent ku)=0\/(Th.hj o.ref x.id (max l.cf 0) x.parent ku)=x.id))(h:ab E 348 [ptr (X.bp j) 0,ptr q 0,af (Th.hj o.ref x.id (max l.cf 0) x.parent ku),bk J M] (a1 X z.ap z.ae j 0 k J M::gM X z s a q x e) (cv X y))(lw:o.do'=6):ab E 294 u4 (a1 X z.ap z.ae j 0 k J M::gM X z s a q x e) (cv X y):=by
 refine av Tryz.func294 λH D=>?_;haveI:=gn (X:=X) (ap:=z.ap) (ae:=z.ae) O;haveI:=K.rd (bY:=0) (v:=af l.cf) rfl;haveI:=sT (q:=q) (X:=X) (e:=e) ai;have cy:=B.cy;refine agJ ?_;intro aR aM Z cA dm;refine mN (d:=141) 7 (.bool (decide ((Th.hj o.ref x.id (max l.cf 0) x.parent [er,s1,cb,ce])=0)||decide ((Th.hj o.ref x.id (max l.cf 0) x.parent [er,s1,cb,ce])=x.id))) ?_ (λn=>?_)
 rotate_left
 . refine hY rfl rfl (λW=>?_) (λW=>?_) rfl
   . exact J2
   . exact Kb
 refine bb ?_;refine adE ?_;refine cB ?_;refine bu (h) ?_;exact xc
def axE(aj:bJ X z s)(N:X.C.ok)(B:At X z.ap s.aE a q x)(Y:fX x e)(id:Int)(m:Nat)(l:c0)(K:hG z.ae s.lets id m l)(o:fF)(J:Nat)(M:List Value)(k:Th.K)(er s1 cb ce:Int)(ai:x.slots=[er,s1,cb,ce])(O:s.ax[j]?=some t)(R:¬((Th.hj o.ref x.id (max l.cf 0) x.parent [er,s1,cb,ce])=0\/(Th.hj o.ref x.id (max l.cf 0) x.parent [er,s1,cb,ce])=x.id))(b:Nat)(aA:(Th.hj o.ref x.id (max l.cf 0) x.parent [er,s1,cb,ce])=(b:Int))(r:1<=b/\b<=X.C.aT)(U:t.on=none)(aS:Th.c9 k)(lw:o.do'=7):ab E 294 [ptr (X.bp j) 0,ptr q 0,ptr m 0,.agg (fM o).toArray,bk J M] (a1 X z.ap z.ae j 0 k J M::gM X z s a q x e) (cv X (some (Th.c8 {s with ax:=s.ax.set j {t with on:=some (.ht (ml 2 (kM X.C.bl X.C.aT x.id b)),k)}} a {x with watched:=x.watched.erase (b:Int)}))):=by
 refine av Tryz.func294 λH D=>?_;haveI:=gn (X:=X) (ap:=z.ap) (ae:=z.ae) O;haveI:=K.rd (bY:=0) (v:=af l.cf) rfl;haveI:=sT (q:=q) (X:=X) (e:=e) ai;have cy:=B.cy;have g:1<=x.id/\x.id<=X.C.aT:=Ix;refine agP ?_;intro aR aM Z cA dm;refine mN (d:=141) 7 (.bool (decide ((Th.hj o.ref x.id (max l.cf 0) x.parent [er,s1,cb,ce])=0)||decide ((Th.hj o.ref x.id (max l.cf 0) x.parent [er,s1,cb,ce])=x.id))) ?_ (λn=>?_)
 rotate_left
 . refine hY rfl rfl (λW=>?_) (λW=>?_) rfl
   . exact J2
   . exact Kb
 refine bb ?_;refine adE ?_;refine dB ?_;refine AY (Ox rfl rfl) ?_;rintro _ _ ⟨rfl,rfl⟩;rw[aA,agA];refine bb ?_;refine iu [10,13] [10] [1,4,8,12,16,20,24,28,32,36,49,42,44,54] [aa aR 106 [ptr (X.bp j) 0],aa cA 1 [bk J M],aa dm 32 [ptr X.h 0],aa aM 110 [ptr q 0],aa q 118 (dS X x e),cp X z s] ?_;refine c4 ?_;refine bu (auY X N x.id b g r) ?_;refine oi ?_;intro p;refine tg rfl .none rfl (jR Tryz.underlying392 rfl rfl) ?_;refine aU (pg (afU aS) (jN X z.ap z.ae s.ax j p J M t (.ht (ml 2 (kM X.C.bl X.C.aT x.id b))) k O U)) ?_;refine bR ?_;exact aQ (I:=(bh X z (Th.c8 {s with ax:=s.ax.set j {t with on:=some (.ht (ml 2 (kM X.C.bl X.C.aT x.id b)),k)}} a {x with watched:=x.watched.erase (b:Int)}))) ⟨rfl,z,_,rfl,⟨aj.gk,aj.fY,aj.fZ,by show _=(s.aE.set _ _).length;rw[gr];exact aj.ap,aj.ae⟩,rfl⟩ (λh F=>jk (X:=X) (z:=z) (s:={s with ax:=s.ax.set j {t with on:=some (.ht (ml 2 (kM X.C.bl X.C.aT x.id b)),k)}}) (x:={x with watched:=x.watched.erase (b:Int)}) B ⟨Y.bI,Y.kj,Y.es⟩ D h ((show∀h,Sat _ h->Sat (gM X z {s with ax:=s.ax.set j {t with on:=some (.ht (ml 2 (kM X.C.bl X.C.aT x.id b)),k)}} a q {x with watched:=x.watched.erase (b:Int)} e++D) h from(au)) h F))
end
theorem ajB{X:cO}{ap ae:List Nat}{l:List b0}{j:Nat}{t dr:b0}{D M:List al}(h:l[j]?=some t)(U:dr.on=none)
 (e:∀h,Sat M h->Sat (kf X j .nilIface .nilFunc dr::ao ((cK X ap ae l).set j eJ)::D) h):∀h,Sat M h->Sat (ao (cK X ap ae (l.set j dr))::D) h:=λg4 s=>by
 rw[cK,mapIdx_set];refine uO (by rw[KR];exact(dp.1 h).1) g4 ?_;have aC:hF X ap ae j dr=kf X j .nilIface .nilFunc dr:=by simp[hF,U]
 rw[aC];exact e g4 s
section
variable(J:List al)(X:cO)(z:dw)(s:aq)(j p:Nat)(t:b0)(az:gC)
def ajC{j:Nat}(O:j<X.C.bc):ab E 86 [ptr X.cN.c 0,af (jV X j)] [eo X] (λu I=>∃p,u=ptr p 0/\I=[cM X p (.fE (yx j)),eo X]):=by
 have aC:jV X j=j:=bg O;rw[aC];exact EY (aoh X.cN X.C.bC j O)
def axF:ab E 235 [] J Ez:=by
 refine av Tryz.func235 λH D=>?_;exact EF
def axG:ab E 289 [] J Ez:=by
 refine av Tryz.func289 λH D=>?_;exact EF
def axH:ab E 168 [] J Ez:=by
 refine av Tryz.func168 λH D=>?_;exact EF
def axI:ab E 94 [] J Ez:=by
 refine av Tryz.func94 λH D=>?_;exact EF
def axJ:ab E 159 [] J Ez:=by
 refine av Tryz.func159 λH D=>?_;exact EF
def axK(hp:az.out=0->az.val=0)(O:s.ax[j]?=some t)(U:t.on=none)(aK ar:Nat):ab E 80 tE aaZ (aH eN [ao (cK X z.ap z.ae (s.ax.set j {t with jj:=!decide (az.out=1)}))]):=by
 refine av Tryz.func80 λH D=>?_;refine uW eP (R5 O U) ?_;refine cw [4] [101,3,201,3,201] [aa aK 169 [ptr p 0],aa ar 106 eE,cM X p (.fE az)] ?_;refine bR ?_;refine aU (Xo X.cN X.C.bC p az hp) ?_;refine ct ?_;exact aQ ⟨rfl,rfl⟩ (ajB (dr:={t with jj:=!decide (az.out=1)}) O U (au))
def axL(hp:az.out=0->az.val=0)(O:s.ax[j]?=some t)(U:t.on=none)(aK ar:Nat)(aJ:¬az.out=1):ab E 87 tE aaZ (aH eN [ao (cK X z.ap z.ae (s.ax.set j {t with jj:=true}))]):=by
 refine av Tryz.func87 λH D=>?_;refine uW eP (R5 O U) ?_;refine QN ?_;refine dB ?_;exact aQ ⟨rfl,rfl⟩ (ajB (dr:={t with jj:=true}) O U (au))
end
section
variable{X:cO}{α z:Type}{D:List al}
abbrev kR(id a:Nat)(k:cr)(st:cG):bU:=⟨id,a,k,st,[0,0,0,0],[],1,[],[],[],[],[],[]⟩
def ajD{ap:List Nat}{l:List bU}{q:Nat}{x:bU}(h:ap.length=l.length):dI X (ap++[q]) (l++[x])=dI X ap l++[vr X q x]:=by
 simp only[dI,aju,R6,List.mapIdx_nil];exact adx
theorem axM{z:dw}{s:aq}{a id b g j c d:Nat}{bI O:cr}{st:cG}{D:List al}(aj:bJ X z s)(R:dQ bI=dQ O)(cy:id=s.aE.length+1)(p:a -1<s.aE.length):
 ∀
  h,Sat (aa b 118 (dS X (kR id a O st) ⟨bI,none,0,none,0,g,j,c,d,[]⟩)::fJ g X.C.dO [] []::gL j (min (max bI.limit 0) 100) (min (max bI.within 1) 4095) []::eD c (.map #[] 0)::eD d (.map #[] 0)::gb bI::ao ((dI X z.ap s.aE).set (a -1) eJ)::ao (cK X z.ap z.ae s.ax)::bs X.am .i64 (ew (bD z.ap) (id:Int) (ptr b 0))::D) h->
  Sat (ao ((dI X u9 (s.aE++[kR id a O st])).set (a -1) eJ)::ao Jl::bs X.am .i64 (bD u9)::D) h:=λh F=>by
 have T:qS bI:=by
  have z0:=Sat.drop (Sat.drop (Sat.drop (Sat.drop (Sat.drop F))));obtain⟨h1,h2,_,_,o,_⟩:=z0;exact FY o
 have aC:(dI X u9 (s.aE++[kR id a O st])).set (a -1) eJ=(dI X z.ap s.aE).set (a -1) eJ++[vr X b (kR id a O st)]:=by
  rw[ajD aj.ap,F5 _ _ (by rw[dI,KR];exact p)]
 have aV:ew (bD z.ap) (id:Int) (ptr b 0)=bD u9:=Zq;rw[aC,<-aV];refine tw h ?_;refine cE (D:=ao ((dI X z.ap s.aE).set (a -1) eJ)::ao (cK X (z.ap++[b]) z.ae s.ax)::bs X.am .i64 (ew (bD z.ap) (id:Int) (ptr b 0))::D) (⟨bI,none,0,none,0,g,j,c,d,[]⟩:hS) ⟨R,T,rfl⟩ (λh F=>F) h ?_;have f:∀h,Sat (gb bI::ao ((dI X z.ap s.aE).set (a -1) eJ)::ao (cK X z.ap z.ae s.ax)::bs X.am .i64 (ew (bD z.ap) (id:Int) (ptr b 0))::D) h->Sat (ao []::gb bI::ao y2::ao Jl::bs X.am .i64 (ew (bD z.ap) (id:Int) (ptr b 0))::D) h:=λh F=>
  wK h (Sat.tail (λh F=>Sat.tail (λh F=>Ls (X:=X) (λi x e=>xF i x e) zl s.ax _ h F) F) F)
 exact Sat.tail aai F
def qM{P:Program}{f:FuncId}{args:List Value}{M J:List al}{Q post:Value->List al->Prop}(a:List al)(h:ab P f args M Q)(i:∀h,Sat J h->Sat (M++a) h)(g:∀u I,Q u I->∃c,post u c/\∀h,Sat (I++a) h->Sat c h):ab P f args J post:=λH D w s=>
 (h H (a++D) w abY).mono λ_ _ ⟨v,I,e,p,s⟩=>let⟨c,S,R⟩:=g v I p;abv
def Tb{f:α->z}{l g6:List α}(h:l.map f=g6.map f){x:α}(ah:x∈g6):∃y∈l,f y=f x:=by
 have h1:f x∈g6.map f:=lN.2 ⟨x,ah,rfl⟩;rw[<-h]at h1;obtain⟨y,ag,e⟩:=lN.1 h1;exact⟨y,ag,e⟩
def Lu{f:α->z}{l g6:List α}(h:l.map f=g6.map f):l.length=g6.length:=by simpa using congrArg List.length h
def axN{r m:Row}(h:mK r=mK m)(o:F2 r):F2 m:=by
 have aC:r.tag=m.tag:=(congrArg Row.tag h:(mK r).tag=(mK m).tag);have aV:r.cx=m.cx:=(congrArg Row.cx h:(mK r).cx=(mK m).cx);exact⟨aC▸o.tag,aV▸o.len,aV▸o.cx⟩
def axO{s aW:fU}(h:jm s=jm aW)(o:LX s):LX aW:=by
 have aC:s.name=aW.name:=(congrArg fU.name h:(jm s).name=(jm aW).name);have aV:s.rows.map mK=aW.rows.map mK:=(congrArg fU.rows h:(jm s).rows=(jm aW).rows);exact⟨aC▸o.name,Lu aV▸o.len,λr aF=>let⟨y,ag,e⟩:=Tb aV aF;axN e (o.rows y ag)⟩
def Tc{k Y:cr}(h:dQ k=dQ Y)(o:lL k):lL Y:=by
 have aC:k.name=Y.name:=(congrArg cr.name h:(dQ k).name=(dQ Y).name);have aV:k.cases=Y.cases:=(congrArg cr.cases h:(dQ k).cases=(dQ Y).cases);have bF:k.states.map jm=Y.states.map jm:=(congrArg cr.states h:(dQ k).states=(dQ Y).states);exact⟨aC▸o.name,aV▸o.s6,aV▸o.cases,Lu bF▸o.lens,λs ai=>let⟨y,ag,e⟩:=Tb bF ai;axO e (o.states y ag)⟩
def ajE{kind:cG}{k:cr}:∀{P a:List cr},a.map dQ=P.map dQ->P.find? (λx=>decide (x.name=kind))=some k->∃Y,a.find? (λx=>decide (x.name=kind))=some Y/\dQ Y=dQ k
 |[],[],_,h=>by cases h
 |[],_::_,e,_=>by simp at e
 |_::_,[],e,_=>by simp at e
 |
  x::P,n::a,e,h=>by
  rw[gx,gx]at e;injection e with aC aV;have de:n.name=x.name:=(congrArg cr.name aC:(dQ n).name=(dQ x).name);rw[aji]at h⊢;rw[de];cases aS:decide (x.name=kind)with
  |true=>rw[aS]at h;cases h;exact⟨n,rfl,aC⟩
  |false=>rw[aS]at h;exact ajE aV h
def axP{h:eQ}(F:Sat (eO X::D) h){k:cr}(hk:k∈X.P):lL k:=by
 obtain⟨h1,h2,_,_,⟨a,e,o⟩,_⟩:=F;obtain⟨Y,b,y⟩:=Tb e hk;exact Tc y (T5 (o.kinds Y b))
theorem ajF{kind:cG}{O:cr}(t:X.P.length<=4611686018427387904)(r:lL O)(ba:X.P.find? BD=some O):
 ab E 58 [.agg #[.slice X.bZ X.P.length X.pc],S kind] [eO X] (λu I=>∃Y,dQ Y=dQ O/\u=.tuple #[.agg (eH Y).toArray,.bool true]/\I=[gb Y,eO X]):=λH D w st=>by
 obtain⟨h1,h2,d,e,⟨a,j,o⟩,F⟩:=st.fg;have gJ:a.length=X.P.length:=Lu j;obtain⟨fG,f1,ar⟩:=ajE j ba;have bi:=Uf a X.bZ X.pc kind fG ad (Tc ar.symm r) f1 (λh=>h8 h X.bZ X.pc a) (λ_ h=>h) H D w ⟨st.os,st.tape,st.output,st.size,⟨h1,h2,d,e,o,F⟩⟩;rw[gJ]at bi;exact bi.mono λ_ _ ⟨v,I,e,⟨Y,l,Z,cd⟩,s⟩=>⟨v,_,e,⟨Y,l.trans ar,Z,rfl⟩,by subst cd;exact s.imp λh s=>Sat.tail (λh s=>Sat.head (λh o=>⟨a,j,o⟩) s) s⟩
end
section
variable(X:cO)(z:dw)(s:aq)(a q id:Nat)(x:bU)(e:hS)(kind st:cG)(O:cr)(kx:fU)
theorem axQ(aj:bJ X z s)(B:At X z.ap s.aE a q x)(N:X.C.ok)(t:X.P.length<=4611686018427387904)(i6:X.P.find? BD=some O)(r:lL O)(g5:O.states[0]?=some kx)(ge:kx.name=st)(cy:id=s.aE.length+1)(m:id<=X.C.aT)(T:x.kids.length<most)(c2:s.trace.length<most):ab E 69 [ptr X.h 0,af id,af a,S kind] (aa q 118 (dS X x e)::dj e.ka e.kc x.kids::abD) (λu I=>u=.tuple #[]/\∃aD aI ka kc bI g j c d f,dQ bI=dQ O/\I=(aa q 118 ((dS X x e).set (0+12) (.slice ka (x.kids++[(id:Int)]).length kc))::dj ka kc (x.kids++[(id:Int)])::cp X iN {s with trace:=s.trace++IR}::di aD aI abt::bs X.am .i64 Jg::eO X::ef X::aa f 118 (dS X (kR id a O st) I7)::aaj)):=by
 refine av Tryz.func69 λH D=>?_;have n:=N.hd;have C:x.kids.length<1099511627776:=T;have l:1<=id/\id<=X.C.aT:=⟨by omega,m⟩;have p:a -1<s.aE.length:=(dp.1 B.ah).1;have m0:=B.aX.1;have o:dR (bD z.ap) (a:Int)=some (ptr q 0):=by have bi:=zI B.ap;rwa[show((a -1+1:Nat):Int)=(a:Int) by omega]at bi
 have V:¬(a:Int)=(id:Int):=ad;refine ct ?_;refine bu ((ajF t r i6)) ?_;rintro _ _ ⟨bI,R,rfl,rfl⟩;refine eM ?_;obtain⟨b,i,pl⟩:=S6 R g5;have g0:0<bI.states.length:=(dp.1 i).1;obtain rfl:b.name=st:=pl.trans ge;refine b2 ?_;refine wn λZ=>?_;refine bR ?_;refine Dh (λact w=>∃(g j c d f:Nat),hl Tryz.f69.ntmps [(0,ptr X.h 0),(1,af id),(2,af a),(3,S kind)] act/\dt H (aa f 118 (dS X (kR id a O b.name) I7)::fJ g X.C.dO [] []::gL j (min (max bI.limit 0) 100) (min (max bI.within 1) 4095) []::eD c pa::eD d pa::gb bI::bs X.am .i64 Jg::aa q 118 (dS X x e)::dj e.ka e.kc x.kids::cp X z s::di z.b4 z.b5 s.trace::eO X::ef X::D) w) ?_ ?_
 . refine afI ?_
   refine fm ?_ ?_
   . refine zv ?_
     intro g;rw[show(min (max (X.C.dO:Int) 0) 64).toNat=X.C.dO from by have:=N.pJ;omega];refine aG ?_;refine fm ?_ ?_
     . refine xb ?_
       intro j;refine aG ?_;refine fm ?_ ?_
       . refine wn λc=>?_
         exact ae9
       . refine wn λd=>?_
         exact ae8
     . refine fm ?_ ?_
       . refine wn λc=>?_
         exact ad5
       . refine wn λd=>?_
         exact ad4
   . refine fm ?_ ?_
     . refine wn λc=>?_
       refine aG ?_;refine fm ?_ ?_
       . refine zv ?_
         intro g;rw[show(min (max (X.C.dO:Int) 0) 64).toNat=X.C.dO from by have:=N.pJ;omega];exact ad5
       . refine wn λd=>?_
         exact agj
     . refine wn λd=>?_
       refine aG ?_;refine fm ?_ ?_
       . refine zv ?_
         intro g;rw[show(min (max (X.C.dO:Int) 0) 64).toNat=X.C.dO from by have:=N.pJ;omega];exact ad4
       . refine wn λc=>?_
         exact agj
 . rintro act w ⟨g,j,c,d,f,g0,st⟩
   refine Di ?_ g0 st;clear g0 st act w;refine bQ ?_;refine aB rfl (lT (ptr q 0) (by rw[Ot,a7 V,o];rfl) rfl rfl) ?_;refine cB ?_;refine nI ?_;refine ct ?_;refine wn λF=>?_;refine gj λv y=>?_;rw[show x.kids.length+1=(x.kids++[(id:Int)]).length from by simp,show iF x.kids++[af id]=iF (x.kids++[(id:Int)])from by simp];refine c4 ?_;refine bu (l3 X z s (abN:bG) c2) ?_;refine l1 ?_;intro aD aI;refine bb ?_;exact aQ ⟨rfl,aD,aI,v,y,bI,g,j,c,d,f,R,rfl⟩
theorem axR(aj:bJ X z s)(B:At X z.ap s.aE a q x)(N:X.C.ok)(t:X.P.length<=4611686018427387904)(i6:X.P.find? BD=some O)(r:lL O)(g5:O.states[0]?=some kx)(ge:kx.name=st)(cy:id=s.aE.length+1)(m:id<=X.C.aT)(T:x.kids.length<most)(c2:s.trace.length<most):ab E 69 [ptr X.h 0,af id,af a,S kind] vc (λu I=>u=.tuple #[]/\∃i aD aI ka kc,I=gM X PQ IQ a q {x with kids:=x.kids++[(id:Int)]} {e with ka:=ka,kc:=kc}):=
 qM [dj e.gQ e.gR x.cH,fJ e.gp X.C.dO x.aside x.front,gL e.iB (min (max e.bI.limit 0) 100) (min (max e.bI.within 1) 4095) x.given,bs e.gj .i64 (x.watched.map λw=>(w,.bool true)),ii e.iC (hD e.es),ao (hV e.es),gb e.bI,ao ((dI X z.ap s.aE).set (a -1) eJ),dX z.na z.dT s.notes,bs X.dL .u64 (bD z.ae),ao (eB z.ae s.lets),Lg.cY X.ld s.a8,dz X.cF X.C.c6 s.dead,bz X.m s.L z.tt,eo X,ee X s.bm,dy X.bl X.m X.C.bl X.C.aT,ao (dd X),eL X,e7 X,ao (cK X z.ap z.ae s.ax)] (axQ X z s a q id x e kind st O kx aj B N t i6 r g5 ge cy m T c2) (show∀h,Sat _ h->Sat [aa q 118 (dS X x e),dj e.ka e.kc x.kids,cp X z s,di z.b4 z.b5 s.trace,bs X.am .i64 (bD z.ap),eO X,ef X,dj e.gQ e.gR x.cH,fJ e.gp X.C.dO x.aside x.front,gL e.iB (min (max e.bI.limit 0) 100) (min (max e.bI.within 1) 4095) x.given,bs e.gj .i64 (x.watched.map λw=>(w,.bool true)),ii e.iC (hD e.es),ao (hV e.es),gb e.bI,ao ((dI X z.ap s.aE).set (a -1) eJ),dX z.na z.dT s.notes,bs X.dL .u64 (bD z.ae),ao (eB z.ae s.lets),Lg.cY X.ld s.a8,dz X.cF X.C.c6 s.dead,bz X.m s.L z.tt,eo X,ee X s.bm,dy X.bl X.m X.C.bl X.C.aT,ao (dd X),eL X,e7 X,ao (cK X z.ap z.ae s.ax)] h from(au)) (λu I n=>by
  obtain⟨rfl,aD,aI,ka,kc,bI,g,j,c,d,f,R,rfl⟩:=n;refine⟨_,⟨rfl,f,aD,aI,ka,kc,rfl⟩,λh F=>?_⟩;have gT:=axM (X:=X) (z:=z) (s:=s) (a:=a) (id:=id) (b:=f) (st:=st) (O:=O) (bI:=bI) (D:=[aa q 118 ((dS X x e).set (0+12) (.slice ka (x.kids++[(id:Int)]).length kc)),dj ka kc (x.kids++[(id:Int)]),cp X {z with b4:=aD,b5:=aI} {s with trace:=s.trace++[({Th.cz with kind:=7,dc:=id,cf:=a,name:=kind}:bG)]},di aD aI (s.trace++[({Th.cz with kind:=7,dc:=id,cf:=a,name:=kind}:bG)]),eO X,ef X,dj e.gQ e.gR x.cH,fJ e.gp X.C.dO x.aside x.front,gL e.iB (min (max e.bI.limit 0) 100) (min (max e.bI.within 1) 4095) x.given,bs e.gj .i64 (x.watched.map λw=>(w,.bool true)),ii e.iC (hD e.es),ao (hV e.es),gb e.bI,dX z.na z.dT s.notes,bs X.dL .u64 (bD z.ae),ao (eB z.ae s.lets),Lg.cY X.ld s.a8,dz X.cF X.C.c6 s.dead,bz X.m s.L z.tt,eo X,ee X s.bm,dy X.bl X.m X.C.bl X.C.aT,ao (dd X),eL X,e7 X]) aj R cy (dp.1 B.ah).1 h ((show∀h,Sat _ h->Sat (aa f 118 (dS X (kR id a O st) ⟨bI,none,0,none,0,g,j,c,d,[]⟩)::fJ g X.C.dO [] []::gL j (min (max bI.limit 0) 100) (min (max bI.within 1) 4095) []::eD c (.map #[] 0)::eD d (.map #[] 0)::gb bI::ao ((dI X z.ap s.aE).set (a -1) eJ)::ao (cK X z.ap z.ae s.ax)::bs X.am .i64 (ew (bD z.ap) (id:Int) (ptr f 0))::[aa q 118 ((dS X x e).set (0+12) (.slice ka (x.kids++[(id:Int)]).length kc)),dj ka kc (x.kids++[(id:Int)]),cp X {z with b4:=aD,b5:=aI} {s with trace:=s.trace++[({Th.cz with kind:=7,dc:=id,cf:=a,name:=kind}:bG)]},di aD aI (s.trace++[({Th.cz with kind:=7,dc:=id,cf:=a,name:=kind}:bG)]),eO X,ef X,dj e.gQ e.gR x.cH,fJ e.gp X.C.dO x.aside x.front,gL e.iB (min (max e.bI.limit 0) 100) (min (max e.bI.within 1) 4095) x.given,bs e.gj .i64 (x.watched.map λw=>(w,.bool true)),ii e.iC (hD e.es),ao (hV e.es),gb e.bI,dX z.na z.dT s.notes,bs X.dL .u64 (bD z.ae),ao (eB z.ae s.lets),Lg.cY X.ld s.a8,dz X.cF X.C.c6 s.dead,bz X.m s.L z.tt,eo X,ee X s.bm,dy X.bl X.m X.C.bl X.C.aT,ao (dd X),eL X,e7 X]) h from(au)) h F);exact(show∀h,Sat _ h->Sat (gM X {z with ap:=z.ap++[f],b4:=aD,b5:=aI} {s with aE:=s.aE++[kR id a O st],trace:=s.trace++[({Th.cz with kind:=7,dc:=id,cf:=a,name:=kind}:bG)]} a q {x with kids:=x.kids++[(id:Int)]} {e with ka:=ka,kc:=kc}) h from(au)) h gT)
end
section
variable(X:cO)(z:dw)(s:aq)(j a q p slot:Nat)(kind:cG)(x:bU)(e:hS)
def At.more{X:cO}{ap:List Nat}{aE:List bU}{a q i:Nat}{x b:bU}(h:At X ap aE a q x):At X (ap++[i]) (aE++[b]) a q x:=
 ⟨xF _ _ h.ap,by rw[kY (dp.1 h.ah).1];exact h.ah,h.cy,h.aX⟩
def axY(aj:bJ X z s)(N:X.C.ok)(B:At X z.ap s.aE a q x)(Y:fX x e)(J:Nat)(M:List Value)(k:Th.K)(aK ar V ay aL aR:Nat)(y:Option aq)(g0:slot<4)(b:x.slots.length=4)(c2:s.trace.length<most)(v:Int)(Z:(X.C.aT:Int)<v/\v<4611686018427387904)(aY:∀aD aI,hr X j {z with b4:=aD,b5:=aI} (Th.c8 Pp a P6) k J M y):ab E 387 sm ([aa aK 314 [ptr p 0],aa ar 32 [ptr X.h 0],aa V 110 [ptr q 0],aa ay 9 [S kind],aa aL 3 [af slot],aa aR 1 [bk J M],a1 X z.ap z.ae j 0 k J M,cM X p (.fQ v)]++gM X z s a q x e) (cv X y):=by
 refine av Tryz.func387 λH D=>?_;haveI:=Ft (X:=X) (p:=p) (v:=v);refine bj ?_;refine aB rfl (pD v yZ rfl) ?_;refine dB ?_;refine cP ?_;refine bQ ?_;refine acZ ?_;refine bu (l3 X z s ({Th.cz with kind:=8,dc:=x.id,name:=kind}:bG) c2) ?_;refine l1 ?_;intro aD aI;haveI:=(aY aD aI).iY;refine aeK ?_;rw[S7 b g0];refine bb ?_;refine bu (gv (I:=(a1 X z.ap z.ae j 0 k J M::aa q 118 (dS X P6 e)::dj e.ka e.kc x.kids::dj e.gQ e.gR x.cH::fJ e.gp X.C.dO x.aside x.front::gL e.iB pQ pR x.given::bs e.gj .i64 wR::ii e.iC (hD e.es)::ao (hV e.es)::gb e.bI::ao y2::cp X iN Pp::di aD aI (s.trace++aa6)::OY)) (λD h F=>Sat.tail (λh F=>jk (X:=X) (z:=iN) (s:=Pp) (x:=P6) (e:=e) B rs D h F) F) (aY aD aI).spec) ?_;exact xd
def axZ(aj:bJ X z s)(N:X.C.ok)(B:At X z.ap s.aE a q x)(Y:fX x e)(J:Nat)(M:List Value)(k:Th.K)(aK ar V ay aL aR:Nat)(y:Option aq)(g0:slot<4)(b:x.slots.length=4)(c2:s.trace.length<most)(id:Nat)(st:cG)(O:cr)(kx:fU)(t:X.P.length<=4611686018427387904)(i6:X.P.find? BD=some O)(r:lL O)(g5:O.states[0]?=some kx)(ge:kx.name=st)(cy:id=s.aE.length+1)(m:id<=X.C.aT)(T:x.kids.length<most)(aY:∀i aD aI,hr X j {z with ap:=z.ap++[i],b4:=aD,b5:=aI} (Th.c8 IQ a Pw) k J M y):ab E 387 sm ([aa aK 314 [ptr p 0],aa ar 32 [ptr X.h 0],aa V 110 [ptr q 0],aa ay 9 [S kind],aa aL 3 [af slot],aa aR 1 [bk J M],a1 X z.ap z.ae j 0 k J M,cM X p (.fQ (id:Int))]++gM X z s a q x e) (cv X y):=by
 refine av Tryz.func387 λH D=>?_;haveI:=Ft (X:=X) (p:=p) (v:=(id:Int));have n:=N.hd;have K:=B.cy;refine bj ?_;refine aB rfl (pD (id:Int) yZ rfl) ?_;refine dB ?_;refine cP ?_;refine b2 ?_;refine acZ ?_;rw[K];refine bu (axR X z s a q id x e kind st O kx aj B N t i6 r g5 ge cy m T c2) ?_;rintro _ _ ⟨rfl,i,aD,aI,ka,kc,rfl⟩;refine eM ?_;haveI:=(aY i aD aI).iY;refine aeK ?_;rw[S7 (x:={x with kids:=x.kids++[(id:Int)]}) b g0];refine bb ?_;refine cn rfl (oB rfl rfl (gv (I:=[a1 X z.ap z.ae j 0 k J M]++[aa q 118 (dS X Pw {e with ka:=ka,kc:=kc}),dj ka kc (x.kids++[(id:Int)]),dj e.gQ e.gR x.cH,fJ e.gp X.C.dO x.aside x.front,gL e.iB pQ pR x.given,bs e.gj .i64 wR,ii e.iC (hD e.es),ao (hV e.es),gb e.bI,ao ((dI X (z.ap++[i]) (s.aE++[kR id a O st])).set (a -1) eJ),cp X PQ IQ,di aD aI abt,dX z.na z.dT s.notes,bs X.am .i64 (bD (z.ap++[i])),bs X.dL .u64 (bD z.ae),ao nh,Lg.cY X.ld s.a8,dz X.cF X.C.c6 s.dead,bz X.m s.L z.tt,eo X,ee X s.bm,dy X.bl X.m X.C.bl X.C.aT,ao (dd X),ef X,eL X,e7 X,eO X,ao (cK X (z.ap++[i]) z.ae s.ax)]) (λD h F=>by
  have gT:=vq (X:=X) (j:=j) (xF (l:=z.ap) (q:=i)) zl k 0 J M _ h F;exact Sat.tail (λh F=>jk (X:=X) (z:=PQ) (s:=IQ) (x:=Pw) (e:={e with ka:=ka,kc:=kc}) B.more rs D h F) gT) (aY i aD aI).spec) bN) ?_
 rintro _ D ⟨_,⟨rfl,cl,aW,ah,e8,rfl⟩,rfl⟩;refine bb ?_;exact pb
end
def ayA{x:bU}(h:x.slots.length=4):∃er s1 cb ce,x.slots=ku:=by
 match x.slots,h with
 |[er,s1,cb,ce],_=>exact⟨er,s1,cb,ce,rfl⟩
def ayB(b:cG):(Th.nt b).getD 0<4:=by unfold Th.nt;(repeat' split)<;>simp
def ayC{X:cO}{j:Nat}{z:dw}{s y:aq}{J:Nat}{M:List Value}{k:Th.K}{g:aq->b3->Th.K->Option aq}{a q:Nat}{x:bU}{id:Int}{m:Nat}{l:c0}{o:fF}(N:X.C.ok)(C:hv X j g)(aj:bJ X z s)(cc:cS X.C j s)(B:At X z.ap s.aE a q x)(T:eR X.C x)(K:hG z.ae s.lets id m l)(aS:Th.c9 k)(ag:Th.E8 X.C g j s a l o (Th.zP X.C g j) k=some y):ab E 294 [ptr (X.bp j) 0,ptr q 0,ptr m 0,.agg (fM o).toArray,bk J M] (a1 X z.ap z.ae j 0 k J M::bh X z s) (cv X (some y)):=by
 obtain rfl:=B.cy.symm;have R:=B.p0 cc;obtain⟨t0,i,hO⟩:=cc.jX;obtain⟨er,s1,cb,ce,ai⟩:=ayA T.slots;simp only[Th.E8,B.dM,qD,k0]at ag;refine ub λba=>qK B λe Y=>?_;have L:=R.qI;have m5:most=1099511627776:=rfl;have g7:∀{aW:aq} {cl:dw},bJ X cl aW->g aW Th.dN k=some y->hr X j cl aW k J M (some y):=λe8 h=>⟨ba,C _ _ k y J M e8 h⟩;unfold Th.zO at ag;have r:Th.hj o.ref x.id (max l.cf 0) x.parent x.slots=Th.hj o.ref x.id (max l.cf 0) x.parent [er,s1,cb,ce]:=by rw[ai]
 rw[r]at ag;by_cases c1:o.do'=1
 . rw[bg c1]at ag
   exact axv X z s j t0 x.id q x e aj N B Y id m l K o J M k er s1 cb ce ai i (some y) (vD B Y (Tf aj ag)) c1
 rw[a7 c1]at ag;by_cases bq:o.do'=2
 . rw[bg bq]at ag
   exact axw X z s j t0 x.id q x e aj N B Y id m l K o J M k er s1 cb ce ai i (some y) (vD B Y (ax6 aj B.ap ag)) bq
 rw[a7 bq]at ag;by_cases b7:o.do'=10
 . rw[bg b7]at ag
   exact axx X z s j t0 x.id q x e aj N B Y id m l K o J M k er s1 cb ce ai i (some y) (ayB _) (g7 ⟨aj.gk,aj.fY,aj.fZ,by show _=(s.aE.set _ _).length;rw[gr];exact aj.ap,aj.ae⟩ ag) b7
 rw[a7 b7]at ag;by_cases d8:o.do'=5
 . rw[bg d8,Th.aiZ B.dM,k0]at ag
   exact axy X z s j t0 x.id q x e aj N B Y id m l K o J M k er s1 cb ce ai i (some y) cc.l9 ad ad (g7 ⟨aj.gk,aj.fY,aj.fZ,by show _=(s.aE.set _ _).length;rw[gr];exact aj.ap,aj.ae⟩ ag) d8
 rw[a7 d8]at ag;by_cases fd:o.do'=8
 . rw[bg fd]at ag
   obtain⟨t,O,U,rfl⟩:=Th.j6 ag;exact axz X z s j t x.id q x e aj N B Y id m l K o J M k er s1 cb ce ai O U fd
 rw[a7 fd]at ag;by_cases gt:o.do'=9
 . rw[bg gt]at ag
   refine axA X z s j t0 x.id q x e aj N B Y id m l K o J M k er s1 cb ce ai i (some y) (λaR dm d ea cZ=>?_) gt;have b:bJ X z (Th.c8 s x.id {x with timers:=Th.om x.timers o.name}):=⟨aj.gk,aj.fY,aj.fZ,by show _=(s.aE.set _ _).length;rw[gr];exact aj.ap,aj.ae⟩;have Z:∀v∈Th.gE x.timers o.name,0<=v:=λv Z=>by
    obtain⟨p,hp,Z⟩:=Th.Ss Z;exact T.jW p hp v Z
   refine pg (A:=eW [_,_,_,_,_]) (λD h F=>cE (fO:=λ_:Unit=>True) (l:=λ_=>[_,_,_,_,_]) (D:=D) () trivial (λh F=>F) h F) (Cr X z (Th.c8 s x.id {x with timers:=Th.om x.timers o.name}) (Th.gE x.timers o.name).length _ _ _ _ (eW [_,_,_,_,_]) (some y) (X.bp j) (λd5 d6 cq d2=>?_));exact ajL (ids:=Th.gE x.timers o.name) (ea:=ea) (cZ:=cZ) (aK:=aR) (ar:=dm) (V:=d) N C b ba rfl Z ag
 rw[a7 gt]at ag;by_cases S:o.do'=6\/o.do'=7
 . rw[bg S]at ag
   split at ag
   . rename_i f
     rcases S with S|S
     . exact axB X z s j t0 x.id q x e aj N B Y id m l K o J M k er s1 cb ce ai i (some y) f (g7 aj ag) S
     . exact axC X z s j t0 x.id q x e aj N B Y id m l K o J M k er s1 cb ce ai i (some y) f (g7 aj ag) S
   . rename_i f
     split at ag
     . rename_i c
       have n:=ag;simp only[Th.Cd,B.dM,qD,k0]at n;split at n
       . rename_i aA
         refine axD X z s j t0 x.id q x e aj N B Y id m l K o J M k er s1 cb ce ai i (some y) f ?_ c;have h2:=vD B Y (ax7 (J:=J) (M:=M) N aj B ag);rw[show(((Th.hj o.ref x.id (max l.cf 0) x.parent [er,s1,cb,ce]).toNat:Nat):Int)=Th.hj o.ref x.id (max l.cf 0) x.parent [er,s1,cb,ce] by omega]at h2;exact h2
       . cases n
     . rename_i c
       split at ag
       . rename_i aA
         obtain⟨t,O,U,rfl⟩:=Th.j6 ag;have u:(((Th.hj o.ref x.id (max l.cf 0) x.parent [er,s1,cb,ce]).toNat:Nat):Int)=Th.hj o.ref x.id (max l.cf 0) x.parent [er,s1,cb,ce]:=ad;have h2:=axE X z s j t x.id q x e aj N B Y id m l K o J M k er s1 cb ce ai O f (Th.hj o.ref x.id (max l.cf 0) x.parent [er,s1,cb,ce]).toNat u.symm ad U aS ad;rw[u]at h2;exact h2
       . cases ag
 rw[a7 S]at ag;cases ag
end Go.Proofs.YtnnhpnccfnghdaaGreat.L.bM
