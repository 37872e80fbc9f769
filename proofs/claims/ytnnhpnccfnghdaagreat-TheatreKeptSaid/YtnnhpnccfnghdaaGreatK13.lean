import Derived.Test.YtnnhpnccfnghdaaGreatK12
set_option linter.all false
set_option maxRecDepth 8000
set_option maxHeartbeats 12000000
namespace Go.Proofs.YtnnhpnccfnghdaaGreat.L.bE
open Go.Proofs.YtnnhpnccfnghdaaGreat.L
open Go.L Go.L.Ring Go.L.dr Go.L.dX Go.L.Whl Go.L.dB Go.L.Lx Go.L.Pg
open Go.L.Led (dg du dS bs aw e2)
open Go.L.Th (bK cV da bZ ds bQ bY eE bV ar most dU cM fg eJ dP In cR cZ eK bw bL eL eM bl cB dw go br Good eg eN dT acc Inv eu eS ff busy dG ei ef e9)
attribute[local irreducible] G cz GE cT GT bU c6 cY dc Exit.then Exit.inBlock
section
variable{P:Program}{X:cJ}{j p f:Nat}{c:List Value}{z:dn}{s y:ar}{k:Th.K}{g:ar->bY->Th.K->Option ar}{l:cV}{v:Int}{a b who:Nat}{x:bQ}{i n:Nat}{Y:gA}
def xY{f:FuncId}{args:List Value}{L:List aq}{X:cJ}{z:dn}{s:ar}{a q:Nat}{x:bQ}{post:Value->List aq->Prop}(B:At X z.ap s.aI a q x)(h:∀e,fU x e->ad P f args (L++h6 X z s a q x e) post):ad P f args (L++bj X z s) post:=
 pA (A:=eR L) (λD h E=>cA (D:=D) () trivial kH h E) (q3 B λe Y=>gx (λD h E=>by obtain⟨_,_,b⟩:=hb E;rw[jI];exact b) (h e Y))
def At.mk'{j a q:Nat}{x:bQ}(ao:bD X z s)(b7:cM X.C j s)(h:Th.dz s a=some x)(bo:z.ap[a -1]?=some q):At X z.ap s.aI a q x:=by
 obtain⟨c,B⟩:=At.of ao b7 h;exact⟨bo,B.ag,B.cv,B.aP⟩
def q5{ap ai:List Nat}{j p I f:Nat}{k:Th.K}{M args:List Value}(L:List aq){ba:List aq}{post:Value->List aq->Prop}(h:eU aa I->ad aa f args (L++JA) post):ad aa f args (L++JA) post:=λF D w s=>
 h (TB k p I M _ _ (Fu L (D:=ba++D) ZE)) F D w s
def akk{f:FuncId}{args:List Value}(L:List aq){v:Value}{e:TypeId}{aT n:Nat}{xs:List Value}{ba:List aq}{post:Value->List aq->Prop}(h:n<=maxLen->ad P f args (L++(own v e aT n xs::ba)) post):ad P f args (L++(own v e aT n xs::ba)) post:=λF D w s=>
 h
  (by
   have E:=Fu L (D:=ba++D) ZE;obtain⟨_,_,_,_,⟨_,o⟩,_⟩:=E;rcases o with⟨_,aS⟩|⟨_,_,_,_,_,h1,h2,_⟩
   . rw[aS];exact fc _
   . exact mW h1 h2) F D w s
abbrev akl:bQ:=⟨0,0,⟨[],0,0,none,0,[],none,0,[]⟩,[],[],[],0,[],[],[],[],[],[]⟩
def ay5{k:Th.K}{a:Nat}{x:bQ}(ao:bD X z s)(b7:cM X.C j s)(ag:Th.dz s a=some x)(ah:Th.Ci j s a=some y):ad aa f c (a1 X z.ap z.ai j p (.run a) f c::bj X z s) dV:=
 iV (a1.eq_6 ..)<|by
  rintro⟨aM,av,q⟩ ⟨rfl,rfl,bo⟩;dsimp only;exact axt X z s j q 0 [] .nil (some y) aM av (akf ao nP ah)
def ay6{k:Th.K}{a:Nat}{x:bQ}(ao:bD X z s)(b7:cM X.C j s)(ag:Th.dz s a=some x)(ah:(if x.mode≠5 then Th.Ci j s a else some s)=some y):ad aa f c (a1 X z.ap z.ai j p (.on a) f c::bj X z s) dV:=
 iV (a1.eq_8 ..)<|by
  rintro⟨aM,av,q⟩ ⟨rfl,rfl,bo⟩;dsimp only;split at ah
  . rename_i bb
    exact axz X z s j q 0 [] .nil (some y) aM av a x nP bb (akf ao nP ah)
  . rename_i bb
    cases ah;exact axA X z s j q a x nP aM av ao (Decidable.not_not.1 bb)
def ay7{k:Th.K}{a:Nat}{x:bQ}(N:X.C.ok)(ao:bD X z s)(b7:cM X.C j s)(ag:Th.dz s a=some x)(ah:Th.hq j s (.fJ (wK X.C.bA (Th.sZ X.C j) a)) .nil=some y):ad aa f c (a1 X z.ap z.ai j p (.again a) f c::bj X z s) dV:=
 iV (a1.eq_9 ..)<|by
  rintro⟨aM,av,q⟩ ⟨rfl,rfl,bo⟩;dsimp only;obtain⟨t,J,R,rfl⟩:=Th.kd ah;have B:=nP;have h2:=axC X z s j t a q x ao B N aM av J R;rw[B.cv]at h2;exact h2
def ay8{k:Th.K}{g:ar->bY->Th.K->Option ar}{a b:Nat}{x:bQ}{Y:gA}(N:X.C.ok)(C:hx X j g)(ao:bD X z s)(b7:cM X.C j s)(ag:Th.dz s a=some x)(ah:Th.pF X.C g j s kI a .nil=some y):ad aa f c (a1 X z.ap z.ai j p (.settled a) f c::cW X p kI::bj X z s) dV:=
 iV (a1.eq_12 ..)<|by
  rintro⟨aM,av,U,q⟩ ⟨rfl,rfl,bo⟩;dsimp only;have B:=nP;refine axF X z s j a q p b x Y (some y) B aM av U ?_;rw[B.cv];exact Fy N C ao B.aP.2 trivial ah
def ay9{k:Th.K}{g:ar->bY->Th.K->Option ar}{a b:Nat}{x:bQ}{Y:gA}(N:X.C.ok)(C:hx X j g)(ao:bD X z s)(b7:cM X.C j s)(ag:Th.dz s a=some x)(ah:Th.pF X.C g j s kI a .nil=some y):ad aa f c (a1 X z.ap z.ai j p (.o2 a) f c::cW X p kI::bj X z s) dV:=
 iV (a1.eq_31 ..)<|by
  rintro⟨aM,av,U⟩ ⟨rfl,rfl⟩;dsimp only;obtain⟨q,B⟩:=At.of ao b7 ag;exact axG X z s j a q p b x Y (some y) B aM av U (Fy N C ao B.aP.2 trivial ah)
def aza(N:X.C.ok)(C:hx X j g)(ao:bD X z s)(aP:a<=X.C.aZ)(aQ:Th.cZ k)(ah:Th.pF X.C g j s kI a k=some y):ad aa f c (a1 X z.ap z.ai j p (.lJ a k) f c::cW X p kI::bj X z s) dV:=
 iV (a1.eq_17 ..)<|by
  rintro⟨aM,av,U,Z,I,M⟩ ⟨rfl,rfl⟩;dsimp only;exact axy X z s j 0 I M k (some y) aM av U Z p a (cW X p kI) (Fy N C ao aP aQ ah)
def azb(N:X.C.ok)(ao:bD X z s)(O:1<=who/\who<=X.C.aZ)(ah:Th.hq j s (.post who Th.xN) (.gone a who k)=some y):ad aa f c (a1 X z.ap z.ai j p (.watched a who k) f c::bj X z s) dV:=
 iV (a1.eq_20 ..)<|by
  rintro⟨aM,av,U,Z,aN,q,I,M⟩ ⟨rfl,rfl,bo⟩;dsimp only;obtain⟨t,J,R,rfl⟩:=Th.kd ah;exact axS X z s j a q who t I M k ao N bo O aM av U Z aN J R
def azc(N:X.C.ok)(C:hx X j g)(ao:bD X z s)(b7:cM X.C j s)(ag:Th.dz s a=some x)(ah:(if Y.out≠1 then g s Th.dA k else Th.xO X.C j s a who k)=some y):ad aa f c (a1 X z.ap z.ai j p (.gone a who k) f c::cW X p kI::bj X z s) dV:=
 iV (a1.eq_21 ..)<|by
  rintro⟨aM,av,U,Z,aN,q,I,M⟩ ⟨rfl,rfl,bo⟩;dsimp only;have B:=nP;split at ah
  . rename_i aJ
    refine q5 [_,_,_,_,_] λa8=>?_;exact axH X z s j a q p b x Y (some y) I M k who aM av U Z aN aJ sK
  . rename_i aJ
    refine axI X z s j a q p b x Y (some y) I M k who B aM av U Z aN (Decidable.not_not.1 aJ) ?_;rw[B.cv];exact akd N ao ah
def azd{i:k5}(N:X.C.ok)(C:hx X j g)(ao:bD X z s)(ah:(if i.out≠1 then g s Th.dA k else Th.Cg j s ⟨b,a,[103,111,110,101],0,true⟩ k)=some y):ad aa f c (a1 X z.ap z.ai j p (.nn a b k) f c::cW X p (.hZ i)::bj X z s) dV:=
 iV (a1.eq_22 ..)<|by
  rintro⟨aM,av,U,Z,aN,I,M⟩ ⟨rfl,rfl⟩;dsimp only;split at ah
  . rename_i aJ
    refine q5 [_,_,_,_,_] λa8=>?_;exact axJ X z s j 0 0 p 0 akl Th.xN (some y) I M k a b i aM av U Z aN aJ sK
  . rename_i aJ
    exact axK X z s j 0 0 p 0 akl Th.xN (some y) I M k a b i aM av U Z aN (Decidable.not_not.1 aJ) (TC ao ah)
def aze(N:X.C.ok)(C:hx X j g)(ao:bD X z s)(b7:cM X.C j s)(ag:Th.dz s a=some x)(ah:Th.rU g j s a k=some y):ad aa f c (a1 X z.ap z.ai j p tU f c::bj X z s) dV:=
 ayT (λaM av U q I M bo=>axu X z s j q I M k (some y) aM av U (TH N C ao b7 nP ah)) (λaM av U q I M bo=>axv X z s j q I M k (some y) aM av U (TH N C ao b7 nP ah))
def azf(ao:bD X z s)(b7:cM X.C j s)(ag:Th.dz s a=some x)(ah:Th.hq j s ED (.lc a (.shut a k))=some y):ad aa f c (a1 X z.ap z.ai j p (.closed a k) f c::bj X z s) dV:=
 iV (a1.eq_25 ..)<|by
  rintro⟨aM,av,U,q,I,M⟩ ⟨rfl,rfl,bo⟩;dsimp only;exact axx X z s j q I M k (some y) aM av U a bo (TD ao nP ah)
def azg(N:X.C.ok)(C:hx X j g)(ao:bD X z s)(b7:cM X.C j s)(ag:Th.dz s a=some x)(v:sO Y)(ah:(if Y.out=5 then g s Th.dA k else(if Y.out=1 then Th.kill Y.val 2 s else some s).bind λs=>Th.hq j s ED (.lc a k))=some y):ad aa f c (a1 X z.ap z.ai j p (.lc a k) f c::cW X p kI::bj X z s) dV:=
 iV (a1.eq_26 ..)<|by
  rintro⟨aM,av,U,Z,q,I,M⟩ ⟨rfl,rfl,bo⟩;dsimp only;have B:=nP;split at ah
  . rename_i aJ
    refine q5 [_,_,_,_] λa8=>?_;exact axL X z s j q p b Y (some y) I M k aM av U Z aJ sK
  . rename_i e
    split at ah
    . rename_i d
      cases hk:Th.kill Y.val 2 s with
      |none=>rw[hk]at ah;cases ah
      |
       some s1=>
       rw[hk]at ah;obtain⟨l,aw,aQ,o,_,rfl⟩:=Th.Cp hk;obtain⟨u,K⟩:=hF.of ao aw;obtain⟨t,J,R⟩:=b7.j1;exact axN X z s j q p b Y (some y) I M k t J u l K N.s5 aQ o b7.l6 aM av U Z v d (λaE aK=>TD (s:=kp s Y.val l.to 2) (z:=hY) jq B ah)
    . rename_i d
      exact axM X z s j q p b Y (some y) I M k aM av U Z e d (TD ao B ah)
def azh(ao:bD X z s)(b7:cM X.C j s)(ag:Th.dz s a=some x)(ah:Th.hq j s (.post a (Th.nU 4)) (.ow a k)=some y):ad aa f c (a1 X z.ap z.ai j p (.shut a k) f c::bj X z s) dV:=
 iV (a1.eq_27 ..)<|by
  rintro⟨aM,av,U,q,I,M⟩ ⟨rfl,rfl,bo⟩;dsimp only;obtain⟨t,J,R,rfl⟩:=Th.kd ah;exact axB X z s j t a q x ao nP I M k aM av U J R
def azi(ao:bD X z s)(b7:cM X.C j s)(ag:Th.dz s a=some x)(ah:((Th.iM {Th.c3 with kind:=14,dK:=a} (Th.c7 s a {x with mode:=5})).bind λs=>Th.hq j s (.load 1) (.who a k))=some y):ad aa f c (a1 X z.ap z.ai j p (.ow a k) f c::bj X z s) dV:=
 iV (a1.eq_28 ..)<|by
  rintro⟨aM,av,U,q,I,M⟩ ⟨rfl,rfl,bo⟩;dsimp only;have B:=nP;obtain rfl:a=x.id:=B.cv.symm;refine axw X z s j q I M k (some y) aM av U (q3 B λe Y=>?_);cases hk:Th.iM (IZ:bZ) (Th.c7 s x.id {x with mode:=5})with
  |none=>rw[hk]at ah;cases ah
  |
   some s1=>
   rw[hk]at ah;obtain⟨o,rfl⟩:=Th.l4 hk;obtain⟨t,J,R,rfl⟩:=Th.kd ah;have h2:=aw5 X z s j t x.id q x e ao B Y I M k o J R;exact h2
def azj(N:X.C.ok)(C:hx X j g)(ao:bD X z s)(b7:cM X.C j s)(ag:Th.dz s a=some x)(ah:(if x.parent=0 then g s Th.dA k else Th.s0 X.C j s x.parent ⟨4,a,[]⟩ k)=some y):ad aa f c (a1 X z.ap z.ai j p (.parent a k) f c::bj X z s) dV:=
 iV (a1.eq_30 ..)<|by
  rintro⟨aM,av,U,q,I,M⟩ ⟨rfl,rfl,bo⟩;dsimp only;have B:=nP;obtain⟨t0,i,hO⟩:=b7.j1;split at ah
  . rename_i hp
    refine q5 [_,_,_] λa8=>?_;exact axD X z s j t0 a q x ao B I M k aM av U (some y) hp sK
  . rename_i hp
    obtain⟨aS,b,t,J,R,rfl⟩:=Th.zS ah;have h2:=axE X z s j t a q x ao B I M k N aM av U hp b aS J R;rw[B.cv]at h2;exact h2
def azk{id to:Int}{b:Nat}{Y:gA}(N:X.C.ok)(C:hx X j g)(ao:bD X z s)(b7:cM X.C j s)(rg:0<=to/\to.toNat<=X.C.aZ)(aQ:Th.cZ k)(ah:(if Y.out=2 then(Th.kill id 1 s).bind λs=>g s Th.dA k else if Y.out=3 then(Th.kill id 2 s).bind λs=>g s Th.dA k else Th.pF X.C g j (Th.mA s id 1 2) kI to.toNat k)=some y):ad aa f c (a1 X z.ap z.ai j p (.told id to k) f c::cW X p kI::bj X z s) dV:=
 iV (a1.eq_16 ..)<|by
  rintro⟨aM,av,U,Z,aN,aO,I,M⟩ ⟨rfl,rfl⟩;dsimp only;have la:∀w:Int,((Th.kill id w s).bind λs=>g s Th.dA k)=some y->∃u l,hF z.ai s.lets id u l/\s.dead.length<most/\s.trace.length<most/\g (kp s id l.to w) Th.dA k=some y:=λw h=>by
   cases hk:Th.kill id w s with
   |none=>rw[hk]at h;cases h
   |
    some s1=>
    rw[hk]at h;obtain⟨l,aw,aQ,o,_,rfl⟩:=Th.Cp hk;obtain⟨u,K⟩:=hF.of ao aw;exact⟨u,l,K,aQ,o,h⟩
  split at ah
  . rename_i aJ
    obtain⟨u,l,K,h1,h2,aH⟩:=la 1 ah;refine q5 [_,_,_,_,_,_] λa8=>?_;exact axO X z s j 0 p b Y (some y) I M k id to u l K N.s5 h1 h2 b7.l6 aM av U Z aN aO aJ (λaE aK=>⟨a8,C hY _ k y I M jq aH⟩)
  . rename_i d
    split at ah
    . rename_i aJ
      obtain⟨u,l,K,h1,h2,aH⟩:=la 2 ah;refine q5 [_,_,_,_,_,_] λa8=>?_;exact axP X z s j 0 p b Y (some y) I M k id to u l K N.s5 h1 h2 b7.l6 aM av U Z aN aO aJ (λaE aK=>⟨a8,C hY _ k y I M jq aH⟩)
    . rename_i a
      have R:=rg.1;unfold Th.mA at ah;split at ah
      . rename_i O
        refine axQ X z s j 0 p b Y (some y) I M k id to aM av U Z aN aO b7.l6 d a O ?_;have h2:=Fy (I:=I) (M:=M) (p:=p) (z:=z) N C (show bD X z {s with bf:=du s.bf id 2}from jq) rg.2 aQ ah;rw[show((to.toNat:Nat):Int)=to by omega]at h2;exact h2
      . rename_i O
        refine axR X z s j 0 p b Y (some y) I M k id to aM av U Z aN aO d a O ?_;have h2:=Fy (I:=I) (M:=M) (p:=p) (z:=z) N C ao rg.2 aQ ah;rw[show((to.toNat:Nat):Int)=to by omega]at h2;exact h2
def azl(N:X.C.ok)(C:hx X j g)(ao:bD X z s)(b7:cM X.C j s)(ah:((Th.enter s l false (.gm v)).bind λE=>Th.ug X.C g j E.1 E.2 k)=some y):ad aa f c (a1 X z.ap z.ai j p (.mD l k) f c::cW X p (.gm v)::bj X z s) dV:=
 iV (a1.eq_14 ..)<|by
  rintro⟨aM,av,U,Z,aN,x,E,I,M⟩ ⟨rfl,rfl⟩;dsimp only;cases Y:Th.enter s l false (.gm v)with
  |none=>rw[Y]at ah;cases ah
  |
   some E=>
   obtain⟨s1,id⟩:=E;rw[Y]at ah;obtain⟨rfl,rfl,h1,h2,rfl⟩:=Th.aju Y;refine axX X z s j (some y) I M k p x E aM av U Z aN l ao h1 h2 b7.l6 b7.bf ?_;exact λaE aK=>akg (z:={z with cC:=aE,cD:=aK,ai:=z.ai++[av]}) N C ⟨ao.gK,ao.gE,ao.gF,ao.ap,by show _=(s.lets++[l]).length;simp only[ep,iY,lk];rw[ao.ai]⟩ (b7.enter h1 h2) ah
def azm{e:fw}(ao:bD X z s)(b7:cM X.C j s)(ah:((Th.enter s l true (.gm v)).bind λE=>Th.Ld j E.1 a E.2 e k)=some y):ad aa f c (a1 X z.ap z.ai j p (.h8 a l e k) f c::cW X p (.gm v)::bj X z s) dV:=
 iV (a1.eq_15 ..)<|by
  rintro⟨aM,av,U,Z,aN,x,E,ec,J,q,I,M⟩ ⟨rfl,rfl,bo⟩;dsimp only;cases Y:Th.enter s l true (.gm v)with
  |none=>rw[Y]at ah;cases ah
  |
   some E=>
   obtain⟨s1,id⟩:=E;rw[Y]at ah;obtain⟨rfl,rfl,h1,h2,rfl⟩:=Th.aju Y;refine axZ X z s j (some y) I M k p q x E ec J aM av U Z aN e l ao h1 h2 b7.l6 b7.bf ?_;exact λaE aK=>ayX (z:={z with cC:=aE,cD:=aK,ai:=z.ai++[av]}) ⟨ao.gK,ao.gE,ao.gF,ao.ap,by show _=(s.lets++[l]).length;simp only[ep,iY,lk];rw[ao.ai]⟩ bo ae ah
def azn{m:da}{ac:hy}(N:X.C.ok)(C:hx X j g)(ao:bD X z s)(b7:cM X.C j s)(ag:Th.dz s a=some x)(W:0<=m.who)(K:x.cF.length+1<most)(E:∀p∈x.given,p.2.length<most)(hp:ac.out=0->ac.val=0)(V:0<=ac.val/\ac.val<=18446744073709551615)(ah:(if Th.SR x.kind x.given m.who xf=0 then Th.rV X.C g j s a m 3 k else Th.rV X.C g j (Th.c7 s a abq) a m 2 k)=some y):ad aa f c (a1 X z.ap z.ai j p (.mF a m k) f c::cW X p (.eY ac)::bj X z s) dV:=
 iV (a1.eq_24 ..)<|by
  rintro⟨aM,av,U,Z,aN,aO,q,I,M⟩ ⟨rfl,rfl,bo⟩;dsimp only;have B:=nP;have O:=B.qj b7;refine xY (L:=[_,_,_,_,_,_,_,_]) B λe Y=>?_;obtain⟨d,w,_⟩:=aj3 Y.b5;have aB:qQ oT oU (Th.dU x.given m.who) xf=Th.SR x.kind x.given m.who xf:=by rw[d,w];rfl
  split at ah
  . rename_i T
    exact ax4 X z s j a q p x e m ac (some y) I M k aM av U Z aN aO hp V E (by rw[aB];exact T) (vP B Y (TG N C ao b7 B W K ah))
  . rename_i T
    refine ax5 X z s j a q p x e m ac (some y) I M k aM av U Z aN aO hp V E (by rw[aB];exact T) ?_;have aU:zA oT oU x.given m.who xf=eQ x.given m.who abr:=by
     unfold zA;rw[a6 (by rw[aB];exact T)]
    rw[aU];refine CB (x:=abq) B pu ?_;exact TG (x:={x with given:=eQ x.given m.who (Th.dU x.given m.who++[Th.ht (Th.q0 ac.val)])}) N C ⟨ao.gK,ao.gE,ao.gF,by show _=(s.aI.set _ _).length;rw[gq];exact ao.ap,ao.ai⟩ (b7.set B.aP.1 ⟨O.id,O.kids,O.q1⟩) (At.set (n:={x with given:=eQ x.given m.who (Th.dU x.given m.who++[Th.ht (Th.q0 ac.val)])}) B B.cv) W K ah
def azo{l:List Int}{what:Int}{i n:Nat}(N:X.C.ok)(C:hx X j g)(ao:bD X z s)(aS:n=l.length)(al:i<n)(ah:Th.nW X.C g j s xc (i+1) n k=some y):ad aa f c (a1 X z.ap z.ai j p (.each xc i n k) f c::bj X z s) dV:=
 iV (a1.eq_36 ..)<|by
  rintro⟨O,dN,d3,cm,d4,aM,av,U,I,M,ea,cQ⟩ ⟨rfl,rfl⟩;dsimp only;refine akk [_,_,_,_,_,_,_] λe=>q5 [_,_,_,_,_,_,_,_,_] λa8=>?_;refine gx (λD h E=>Sat.tail (λh E=>Sat.tail (λh E=>Sat.tail (λh E=>Sat.tail (λh E=>Sat.tail (λh E=>cA (fR:=λ_:Unit=>True) (l:=λ_=>[_,_,_,_,_]) (D:=bj X z s++D) () trivial qL h E) E) E) E) E) E) (Ft X z s i n d3 d4 cm dN _ _ _ _ (eR [_,_,_,_,_]) (some y) O ZF (ay4 (ea:=ea) (cQ:=cQ) (aM:=aM) (av:=av) (U:=U) N C ao a8 aS ah))
def azp{ids:List Int}{i n:Nat}(N:X.C.ok)(C:hx X j g)(ao:bD X z s)(aS:n=ids.length)(V:∀v∈ids,0<=v)(al:i<n)(ah:Th.nW X.C g j s (.cancel ids) (i+1) n k=some y):ad aa f c (a1 X z.ap z.ai j p (.each (.cancel ids) i n k) f c::bj X z s) dV:=
 iV (a1.eq_34 ..)<|by
  rintro⟨O,dN,d3,cm,d4,aM,av,U,I,M,ea,cQ⟩ ⟨rfl,rfl⟩;dsimp only;refine akk [_,_,_,_,_,_,_,_] λe=>q5 [_,_,_,_,_,_,_,_,_] λa8=>?_;refine gx (λD h E=>Sat.tail (λh E=>Sat.tail (λh E=>Sat.tail (λh E=>Sat.tail (λh E=>Sat.tail (λh E=>cA (fR:=λ_:Unit=>True) (l:=λ_=>[_,_,_,_,_]) (D:=bj X z s++D) () trivial qL h E) E) E) E) E) E) (Ft X z s i n d3 d4 cm dN _ _ _ _ (eR [_,_,_,_,_]) (some y) O ZF (akh (ea:=ea) (cQ:=cQ) (aM:=aM) (av:=av) (U:=U) N C ao a8 aS V ah))
def azq{due:List Int}{i n:Nat}(N:X.C.ok)(C:hx X j g)(ao:bD X z s)(b7:cM X.C j s)(aS:n=due.length)(e:n<most)(al:i<n)(ah:Th.nW X.C g j s (.leave due) (i+1) n k=some y):ad aa f c (a1 X z.ap z.ai j p (.each (.leave due) i n k) f c::bj X z s) dV:=
 iV (a1.eq_35 ..)<|by
  rintro⟨O,dN,d3,cm,d4,aM,av,I,M,ea,cQ⟩ ⟨rfl,rfl⟩;dsimp only;refine q5 [_,_,_,_,_,_,_,_] λa8=>?_;refine gx (λD h E=>Sat.tail (λh E=>Sat.tail (λh E=>Sat.tail (λh E=>Sat.tail (λh E=>Sat.tail (λh E=>cA (fR:=λ_:Unit=>True) (l:=λ_=>[_,_,_,_]) (D:=bj X z s++D) () trivial qL h E) E) E) E) E) E) (Ft X z s i n d3 d4 cm dN _ _ _ _ (eR [_,_,_,_]) (some y) O O4 (aki (ea:=ea) (cQ:=cQ) (aM:=aM) (av:=av) (U:=0) N C ao a8 b7 aS ah))
def azr(N:X.C.ok)(C:hx X j g)(ao:bD X z s)(b7:cM X.C j s)(ag:Th.dz s a=some x)(b:n<=16)(e:n<most)(al:i<n)(ah:Th.nW X.C g j s (.mz a) (i+1) n (.parent a k)=some y):ad aa f c (a1 X z.ap z.ai j p Qv f c::bj X z s) dV:=
 iV (a1.eq_33 ..)<|by
  rintro⟨O,dN,d3,cm,d4,aM,av,U,q,I,M⟩ ⟨rfl,rfl,bo,_⟩;dsimp only;refine q5 [_,_,_,_,_,_,_,_] λa8=>?_;refine gx (λD h E=>Sat.tail (λh E=>Sat.tail (λh E=>Sat.tail (λh E=>Sat.tail (λh E=>Sat.tail (λh E=>cA (fR:=λ_:Unit=>True) (l:=λ_=>[_,_,_,_]) (D:=bj X z s++D) () trivial qL h E) E) E) E) E) E) (Ft X z s i n d3 d4 cm dN _ _ _ _ (eR [_,_,_,_]) (some y) O O4 (akj (ea:=none) (cQ:=0) (aM:=aM) (av:=av) (U:=U) N C ao nP b ae ah))
end
section
variable(l:List Int)(X:cJ)(w:Int)(z:dn)(s:ar)(j:Nat)(t:bV)(a q:Nat)(x:bQ)(e:hR)
def KJ:∀(L:List aq) {A B:List aq},(∀h,Sat A h->Sat B h)->∀h,Sat (L++A) h->Sat (L++B) h
 |[],_,_,f,h,E=>f h E
 |x::L,A,B,f,h,E=>Sat.tail (λh E=>KJ L f h E) E
def aew:dH (l.map λw=>(w,Value.bool true)) w=if Th.mem l w then some (.bool true)else none:=by
 induction l with
 |nil=>rfl
 |
  cons x l L=>
  simp only[gz,dH,Th.mem,List.contains_cons];by_cases h:w=x
  . subst h;simp
  . have h2:(w==x)=false:=by simpa using h
    have aH:¬x=w:=λe=>h e.symm;simp only[Th.mem]at L;rw[h2,lW]
    first|(rw[a6 h,L];rfl)|(rw[a6 aH,L];rfl)
def ag4:mm (l.map λw=>(w,Value.bool true)) w=(l.erase w).map λw=>(w,Value.bool true):=by
 induction l with
 |nil=>rfl
 |
  cons x l L=>
  simp only[gz,mm,List.erase_cons];by_cases h:w=x
  . subst h;simp
  . have h2:(x==w)=false:=by simpa using λe:x=w=>h e.symm
    rw[a6 h,h2,L];rfl
def ayc(ao:bD X z s)(N:X.C.ok)(B:At X z.ap s.aI a q x)(Y:fU x e)(id:Int)(u:Nat)(l:cV)(K:hF z.ai s.lets id u l)(I:Nat)(M:List Value)(k:Th.K)(y:Option ar)(J:s.aC[j]?=some t)(aQ:s.dead.length<most)(o:s.trace.length<most)(aS:s.bf.length<=most)(hC:l.qi=true)(p:Th.mem x.watched l.cw=false)(aX:∀aE aK,ho X j {z with cC:=aE,cD:=aK} (kp s id l.to 5) k I M y):ad aa 238 [ptr (X.bq j) 0,ptr q 0,bu id,bi I M] (a1 X z.ap z.ai j 0 k I M::h6 X z s a q x e) (cp X y):=by
 refine ax Tryz.func238 λF D=>?_;haveI:=gg (X:=X) (ap:=z.ap) (ai:=z.ai) J;haveI:=K.rd (bv:=0) (v:=af l.cw) rfl;haveI:=K.rd (bv:=1) (v:=af l.to) rfl;haveI:=K.rd (bv:=2) (v:=S l.tag) rfl;haveI:=K.rd (bv:=3) (v:=af l.n) rfl;haveI:=K.rd (bv:=4) (v:=.bool true) y7;have cv:=B.cv;refine zz ?_;intro aN aO aR bW;refine e8 ?_ ?_
 . refine wn λV=>?_
   refine aG ?_;refine wn λcx=>?_;refine aev ?_;exact agH
 . refine wn λcx=>?_
   refine aG ?_;refine wn λV=>?_;refine aev ?_;exact agH
def ayd(ao:bD X z s)(N:X.C.ok)(B:At X z.ap s.aI a q x)(Y:fU x e)(id:Int)(u:Nat)(l:cV)(K:hF z.ai s.lets id u l)(I:Nat)(M:List Value)(k:Th.K)(y:Option ar)(J:s.aC[j]?=some t)(aQ:s.dead.length<most)(o:s.trace.length<most)(aS:s.bf.length<=most)(hC:l.qi=false)(m:List fw)(b:cy)(r:Bool)(d:cy)(L:0<=l.n/\l.n<=255)(i5:Th.kZ e.b5 x.state l.tag l.n=(⟨true,m,b,r,d⟩:ds))(f:X.C.dW<=x.aside.length)(aX:∀aE aK,ho X j {z with cC:=aE,cD:=aK} (kp s id l.to 1) k I M y):ad aa 238 [ptr (X.bq j) 0,ptr q 0,bu id,bi I M] (a1 X z.ap z.ai j 0 k I M::h6 X z s a q x e) (cp X y):=by
 refine ax Tryz.func238 λF D=>?_;haveI:=gg (X:=X) (ap:=z.ap) (ai:=z.ai) J;haveI:=K.rd (bv:=0) (v:=af l.cw) rfl;haveI:=K.rd (bv:=1) (v:=af l.to) rfl;haveI:=K.rd (bv:=2) (v:=S l.tag) rfl;haveI:=K.rd (bv:=3) (v:=af l.n) rfl;haveI:=K.rd (bv:=4) (v:=.bool false) y7;have cv:=B.cv;refine zz ?_;intro aN aO aR bW;refine e8 ?_ ?_
 . refine wn λV=>?_
   refine aG ?_;refine wn λcx=>?_;refine KE ?_;exact Ke
 . refine wn λcx=>?_
   refine aG ?_;refine wn λV=>?_;refine KE ?_;exact Ke
def aye(ao:bD X z s)(N:X.C.ok)(B:At X z.ap s.aI a q x)(Y:fU x e)(id:Int)(u:Nat)(l:cV)(K:hF z.ai s.lets id u l)(I:Nat)(M:List Value)(k:Th.K)(y:Option ar)(J:s.aC[j]?=some t)(aQ:s.dead.length<most)(o:s.trace.length<most)(aS:s.bf.length<=most)(hC:l.qi=false)(m:List fw)(b:cy)(r:Bool)(d:cy)(L:0<=l.n/\l.n<=255)(i5:Th.kZ e.b5 x.state l.tag l.n=(⟨true,m,b,r,d⟩:ds))(f:¬X.C.dW<=x.aside.length)(aX:∀aE aK,ho X j {z with cC:=aE,cD:=aK} aar k I M y):ad aa 238 Ep iJ (cp X y):=by
 refine ax Tryz.func238 λF D=>?_;haveI:=gg (X:=X) (ap:=z.ap) (ai:=z.ai) J;haveI:=K.rd (bv:=0) (v:=af l.cw) rfl;haveI:=K.rd (bv:=1) (v:=af l.to) rfl;haveI:=K.rd (bv:=2) (v:=S l.tag) rfl;haveI:=K.rd (bv:=3) (v:=af l.n) rfl;haveI:=K.rd (bv:=4) (v:=.bool false) y7;have cv:=B.cv;refine zz ?_;intro aN aO aR bW;refine e8 ?_ ?_
 . refine wn λV=>?_
   refine aG ?_;refine wn λcx=>?_;exact agp
 . refine wn λcx=>?_
   refine aG ?_;refine wn λV=>?_;exact agp
def ayf(ao:bD X z s)(N:X.C.ok)(B:At X z.ap s.aI a q x)(Y:fU x e)(id:Int)(u:Nat)(l:cV)(K:hF z.ai s.lets id u l)(I:Nat)(M:List Value)(k:Th.K)(y:Option ar)(J:s.aC[j]?=some t)(aQ:s.dead.length<most)(o:s.trace.length<most)(aS:s.bf.length<=most)(hC:l.qi=false)(m:List fw)(b:cy)(r:Bool)(d:cy)(L:0<=l.n/\l.n<=255)(i5:Th.kZ e.b5 x.state l.tag l.n=(⟨false,m,b,r,d⟩:ds))(h:∀aN aO aR bW V cx c2 bS pc aE aK,ad aa 156 aav (aac++bj X hY (Th.c7 aa2 a x)) (cp X y)):ad aa 238 Ep iJ (cp X y):=by
 refine ax Tryz.func238 λF D=>?_;haveI:=gg (X:=X) (ap:=z.ap) (ai:=z.ai) J;haveI:=K.rd (bv:=0) (v:=af l.cw) rfl;haveI:=K.rd (bv:=1) (v:=af l.to) rfl;haveI:=K.rd (bv:=2) (v:=S l.tag) rfl;haveI:=K.rd (bv:=3) (v:=af l.n) rfl;haveI:=K.rd (bv:=4) (v:=.bool false) y7;have cv:=B.cv;refine zz ?_;intro aN aO aR bW;refine e8 ?_ ?_
 . refine wn λV=>?_
   refine aG ?_;refine wn λcx=>?_;exact agq
 . refine wn λcx=>?_
   refine aG ?_;refine wn λV=>?_;exact agq
def ayg(ao:bD X z s)(N:X.C.ok)(B:At X z.ap s.aI a q x)(Y:fU x e)(id:Int)(u:Nat)(l:cV)(K:hF z.ai s.lets id u l)(I:Nat)(M:List Value)(k:Th.K)(y:Option ar)(J:s.aC[j]?=some t)(aQ:s.dead.length<most)(o:s.trace.length<most)(aS:s.bf.length<=most)(hC:l.qi=true)(p:Th.mem x.watched l.cw=true)(m:List fw)(b:cy)(r:Bool)(d:cy)(L:0<=l.n/\l.n<=255)(i5:Th.kZ e.b5 x.state l.tag l.n=(⟨true,m,b,r,d⟩:ds))(f:X.C.dW<=x.aside.length)(aX:∀aE aK,ho X j {z with cC:=aE,cD:=aK} (kp s id l.to 1) k I M y):ad aa 238 [ptr (X.bq j) 0,ptr q 0,bu id,bi I M] (a1 X z.ap z.ai j 0 k I M::h6 X z s a q x e) (cp X y):=by
 refine ax Tryz.func238 λF D=>?_;haveI:=gg (X:=X) (ap:=z.ap) (ai:=z.ai) J;haveI:=K.rd (bv:=0) (v:=af l.cw) rfl;haveI:=K.rd (bv:=1) (v:=af l.to) rfl;haveI:=K.rd (bv:=2) (v:=S l.tag) rfl;haveI:=K.rd (bv:=3) (v:=af l.n) rfl;haveI:=K.rd (bv:=4) (v:=.bool true) y7;have cv:=B.cv;refine zz ?_;intro aN aO aR bW;refine e8 ?_ ?_
 . refine wn λV=>?_
   refine aG ?_;refine wn λcx=>?_;refine KH ?_;exact Ke
 . refine wn λcx=>?_
   refine aG ?_;refine wn λV=>?_;refine KH ?_;exact Ke
def ayh(ao:bD X z s)(N:X.C.ok)(B:At X z.ap s.aI a q x)(Y:fU x e)(id:Int)(u:Nat)(l:cV)(K:hF z.ai s.lets id u l)(I:Nat)(M:List Value)(k:Th.K)(y:Option ar)(J:s.aC[j]?=some t)(aQ:s.dead.length<most)(o:s.trace.length<most)(aS:s.bf.length<=most)(hC:l.qi=true)(p:Th.mem x.watched l.cw=true)(m:List fw)(b:cy)(r:Bool)(d:cy)(L:0<=l.n/\l.n<=255)(i5:Th.kZ e.b5 x.state l.tag l.n=(⟨true,m,b,r,d⟩:ds))(f:¬X.C.dW<=x.aside.length)(aX:∀aE aK,ho X j {z with cC:=aE,cD:=aK} aar k I M y):ad aa 238 Ep iJ (cp X y):=by
 refine ax Tryz.func238 λF D=>?_;haveI:=gg (X:=X) (ap:=z.ap) (ai:=z.ai) J;haveI:=K.rd (bv:=0) (v:=af l.cw) rfl;haveI:=K.rd (bv:=1) (v:=af l.to) rfl;haveI:=K.rd (bv:=2) (v:=S l.tag) rfl;haveI:=K.rd (bv:=3) (v:=af l.n) rfl;haveI:=K.rd (bv:=4) (v:=.bool true) y7;have cv:=B.cv;refine zz ?_;intro aN aO aR bW;refine e8 ?_ ?_
 . refine wn λV=>?_
   refine aG ?_;refine wn λcx=>?_;exact agI
 . refine wn λcx=>?_
   refine aG ?_;refine wn λV=>?_;exact agI
def ayi(ao:bD X z s)(N:X.C.ok)(B:At X z.ap s.aI a q x)(Y:fU x e)(id:Int)(u:Nat)(l:cV)(K:hF z.ai s.lets id u l)(I:Nat)(M:List Value)(k:Th.K)(y:Option ar)(J:s.aC[j]?=some t)(aQ:s.dead.length<most)(o:s.trace.length<most)(aS:s.bf.length<=most)(hC:l.qi=true)(p:Th.mem x.watched l.cw=true)(m:List fw)(b:cy)(r:Bool)(d:cy)(L:0<=l.n/\l.n<=255)(i5:Th.kZ e.b5 x.state l.tag l.n=(⟨false,m,b,r,d⟩:ds))(h:∀aN aO aR bW V cx c2 bS pc aE aK,ad aa 156 aav (aac++bj X hY (Th.c7 aa2 a {x with watched:=x.watched.erase l.cw})) (cp X y)):ad aa 238 Ep iJ (cp X y):=by
 refine ax Tryz.func238 λF D=>?_;haveI:=gg (X:=X) (ap:=z.ap) (ai:=z.ai) J;haveI:=K.rd (bv:=0) (v:=af l.cw) rfl;haveI:=K.rd (bv:=1) (v:=af l.to) rfl;haveI:=K.rd (bv:=2) (v:=S l.tag) rfl;haveI:=K.rd (bv:=3) (v:=af l.n) rfl;haveI:=K.rd (bv:=4) (v:=.bool true) y7;have cv:=B.cv;refine zz ?_;intro aN aO aR bW;refine e8 ?_ ?_
 . refine wn λV=>?_
   refine aG ?_;refine wn λcx=>?_;exact agJ
 . refine wn λcx=>?_
   refine aG ?_;refine wn λV=>?_;exact agJ
def ayj(i n O dN d3 cm d4 aM av U Z aN aO aR I:Nat)(M:List Value)(k:Th.K)(a q u:Nat)(id:Int)(H:ds)(bS:Option Addr)(pc:Nat)(m:fw)(y:Option ar)(bo:z.ap[a -1]?=some q)(w:z.ai[(id -1).toNat]?=some u)(V:H.b8[i]?=some m)(h:ad aa 294 [ptr (X.bq j) 0,ptr q 0,ptr u 0,.agg (fz m).toArray,bi 208 sH] (a1 X z.ap z.ai j 0 (.each (.c0 a id H) i n (.ended a id H k)) 208 sH::bj X z s) (cp X y)):ad aa 293 (PY++BK) ([ab O 3 [af i],ab dN 188 rJ,ab d3 3 [af n],ab cm 255 [bi 293 BK],ab d4 1 [bi 295 [ptr Z 0,ptr av 0,ptr aN 0,ptr aO 0,ptr aM 0,ptr aR 0]],ab aM 106 en,ab av 110 [ptr q 0],ab U 311 [ptr u 0],ab Z 356 (lK bS pc H),ab aN 32 [ptr X.h 0],ab aO 36 [bu id],ab aR 1 [bi I M],kA bS pc H.b8,a1 X z.ap z.ai j 0 k I M]++bj X z s) (cp X y):=by
 refine ax Tryz.func293 λF D=>?_;have B:=(dd.1 V).1;refine ct [] [9,201] [ab aM 106 en,ab av 110 [ptr q 0],ab U 311 [ptr u 0],ab Z 356 (lK bS pc H),kA bS pc H.b8] ?_;refine bh ?_;refine go_v rfl .none rfl (fA rfl rfl (show i<H.b8.length by omega)) ?_;refine go_v rfl .none rfl (kN rfl (kO fz 7 ur V) rfl) ?_;refine aG ?_;refine bt (iB (a1.eq_32 ..) (O,dN,d3,cm,d4,aM,av,U,Z,aN,aO,aR,q,I,M,u,bS,pc) ⟨rfl,rfl,bo,w,⟨rfl,rfl,rfl⟩⟩ h) ?_;refine pz ?_;exact px
def ayk(t:bV)(a q:Nat)(x:bQ)(e:hR)(B:At X z.ap s.aI a q x)(Y:fU x e)(id:Int)(I:Nat)(M:List Value)(k:Th.K)(y:Option ar)(aM av U Z aN aO:Nat)(bS:Option Addr)(pc:Nat)(i:Bool)(m:List fw)(b d:cy)(o:s.trace.length<most)(h:∀aE aK,ad aa 241 lC (a1 X z.ap z.ai j 0 k I M::bj X hY (Th.c7 I2 a JI)) (cp X y)):ad aa 295 sE ((ab aM 356 (lK bS pc ⟨i,m,b,true,d⟩)::Ps)++h6 X z s a q x e) (cp X y):=by
 refine agb ?_;intro F D cv aE aK;refine nQ ?_;refine bF ?_;refine aea ?_;intro cu aY ag fd;refine bX ?_;exact pv
def ayl(t:bV)(a q:Nat)(x:bQ)(e:hR)(B:At X z.ap s.aI a q x)(Y:fU x e)(id:Int)(I:Nat)(M:List Value)(k:Th.K)(y:Option ar)(aM av U Z aN aO:Nat)(bS:Option Addr)(pc:Nat)(i:Bool)(m:List fw)(b d:cy)(o:s.trace.length<most)(T:¬d=[])(h:∀aE aK,ad aa 296 [ptr (X.bq j) 0,ptr q 0,S d,bi I M] (a1 X z.ap z.ai j 0 k I M::bj X hY (Th.c7 I2 a JI)) (cp X y)):ad aa 295 sE ((ab aM 356 (lK bS pc ⟨i,m,b,false,d⟩)::Ps)++h6 X z s a q x e) (cp X y):=by
 refine agb ?_;intro F D cv aE aK;refine lD ?_;refine bF ?_;refine aA rfl (fM (c:=true) (by simpa using T) (acR rfl rfl)) ?_;refine cU ?_;refine aea ?_;intro cu aY ag fd;refine bX ?_;exact pv
def aym(t:bV)(a q:Nat)(x:bQ)(e:hR)(B:At X z.ap s.aI a q x)(Y:fU x e)(id:Int)(I:Nat)(M:List Value)(k:Th.K)(y:Option ar)(aM av U Z aN aO:Nat)(bS:Option Addr)(pc:Nat)(i:Bool)(m:List fw)(b d:cy)(o:s.trace.length<most)(aX:∀aE aK,ho X j {z with cC:=aE,cD:=aK} (Th.c7 I2 a JI) k I M y):ad aa 295 sE ((ab aM 356 (lK bS pc ⟨i,m,b,false,[]⟩)::Ps)++h6 X z s a q x e) (cp X y):=by
 refine af1 ?_;intro F D cv aE aK;haveI:=(aX aE aK).iU;refine cO ?_;refine lD ?_;refine bF ?_;refine aA rfl (fM rC wq) ?_;refine bh ?_;refine bt (gx (H:=[a1 X z.ap z.ai j 0 k I M,ab q 118 ((ee X x e).set (0+7) (S b)),dv e.ka e.kc x.kids,dv e.hP e.hQ x.cF,gj e.gJ X.C.dW x.aside x.front,h4 e.jD (min (max e.b5.limit 0) 100) (min (max e.b5.within 1) 4095) x.given,b2 e.gp .i64 (x.watched.map λw=>(w,.bool true)),jf e.jE (h5 e.es),ay (iz e.es),gM e.b5,ay ((e3 X z.ap s.aI).set (a -1) fu),cG X {z with cC:=aE,cD:=aK} {s with trace:=s.trace++[({Th.c3 with kind:=4,dK:=x.id,id:=id,name:=b}:bZ)]},dQ aE aK (s.trace++[({Th.c3 with kind:=4,dK:=x.id,id:=id,name:=b}:bZ)]),fp z.na z.fv s.notes,b2 X.am .i64 (cf z.ap),b2 X.e5 .u64 (cf z.ai),ay (gv z.ai s.lets),Lg.dp X.ld s.bf,ey X.c4 X.C.dF s.dead,cg X.m s.L z.tt,fI X,fC X s.bs,eD X.bG X.m X.C.bG X.C.aZ,ay (ed X),fy X,gw X,hc X,gk X,ay (c8 X z.ap z.ai s.aC)]) (λD h E=>Sat.tail (λh E=>jr (X:=X) (z:={z with cC:=aE,cD:=aK}) (s:={s with trace:=s.trace++[({Th.c3 with kind:=4,dK:=x.id,id:=id,name:=b}:bZ)]}) (x:={x with state:=b}) (e:=e) B ⟨Y.b5,Y.la,Y.es⟩ D h E) E) (aX aE aK).spec) ?_;refine pz ?_;exact px
end
section
variable(X:cJ)(z:dn)(s:ar)(j:Nat)(t:bV)(a q:Nat)(x:bQ)(e:hR)
instance:CS aa 115 eX:=⟨let⟨i,a,b,_,_⟩:=HY apU;⟨_,_,i,Tryz.underlying115,Tryz.underlying9,a,b⟩⟩
theorem s7{q:Nat}{X:cJ}{x:bQ}{e:hR}{dY s1 Z b9:Int}(aj:x.slots=kJ):gN (.slice (some ⟨q,8,none⟩) [dY,s1,Z,b9].length 4) (ab q 118 (ee X x e)) [dY,s1,Z,b9].length (iE kJ):=⟨fun{h} E=>by
 have fG:=aj;refine .inr ⟨q,8,none,4,rfl,λ_=>rfl,λj v ag=>⟨rfl,_,_,_,E,?_⟩⟩;simp only[ee,fG]
 match j,ag with
 |0,ag=>exact ag
 |1,ag=>exact ag
 |2,ag=>exact ag
 |3,ag=>exact ag⟩
def Tu{X:cJ}{x:bQ}{e:hR}{i:Nat}{v:Int}(aw:x.slots.length=4)(al:i<4):(ee X x e).set (8+i*1) (af v)=ee X {x with slots:=x.slots.set i v} e:=by
 obtain⟨dY,s1,Z,b9,h⟩:∃dY s1 Z b9,x.slots=kJ:=by
  match x.slots,aw with
  |[dY,s1,Z,b9],_=>exact⟨dY,s1,Z,b9,rfl⟩
 simp only[ee,h]
 match i,al with
 |0,_=>rfl
 |1,_=>rfl
 |2,_=>rfl
 |3,_=>rfl
def mx:List qg->cy->List qg
 |[],_=>[]
 |(k,v)::r,n=>if n=k then r else(k,v)::mx r n
def q4:List qg->cy->Option Addr->Nat->List Int->List qg
 |[],n,a,c,l=>[(n,a,c,l)]
 |(k,v)::r,n,a,c,l=>if n=k then(n,a,c,l)::r else(k,v)::q4 r n a c l
def aj5:∀(es:List qg) (n:cy),sA (h5 es) n=h5 (mx es n)
 |[],n=>rfl
 |
  (k,v)::r,n=>by
  simp only[h5,gz,sA,mx];split
  . rfl
  . simp only[gz];congr 1;exact aj5 r n
def aj6:∀(es:List qg) (n:cy),pE (mx es n)=Th.ov (pE es) n
 |[],n=>rfl
 |
  (k,v)::r,n=>by
  simp only[pE,gz,Th.ov,mx];split
  . rfl
  . simp only[gz];congr 1;exact aj6 r n
def LC:∀(es:List qg) (n:cy),∃(a:Option Addr) (c:Nat),(uv (h5 es) n).getD eX=ul a c (Th.gG (pE es) n)/\∀D h,Sat (ay (iz es)::D) h->Sat (fH a c (Th.gG (pE es) n)::ay (iz (mx es n))::D) h
 |[],n=>⟨none,0,rfl,λD h E=>ii h E⟩
 |
  (k,v)::r,n=>by
  by_cases hk:n=k
  . refine⟨v.1,v.2.1,?_,λD h E=>?_⟩
    . simp only[h5,pE,gz,uv,Th.gG,bg hk];rfl
    . simp only[pE,iz,gz,Th.gG,mx,bg hk]at E⊢
      exact Sat.tail (λh E=>Sat.flat.2 E) (Sat.flat.1 E)
  . obtain⟨a,c,h1,h2⟩:=LC r n
    refine⟨a,c,?_,λD h E=>?_⟩
    . simp only[h5,pE,gz,uv,Th.gG,a6 hk]at h1⊢;exact h1
    . simp only[pE,iz,gz,Th.gG,mx,a6 hk]at E h2⊢
      have gt:=Sat.flat.1 E;have L:=Sat.tail (λh E=>h2 D h (Sat.flat.2 E)) gt;exact Sat.tail (λh E=>Sat.flat.2 Jq) (Sat.swap L)
def Tv:∀(es:List qg) (n:cy) (a:Option Addr) (c:Nat) (l:List Int),pq (h5 es) n (ul a c l)=h5 (q4 es n a c l)
 |[],n,a,c,l=>rfl
 |
  (k,v)::r,n,a,c,l=>by
  simp only[h5,gz,pq,q4];split
  . rfl
  . simp only[gz];congr 1;exact Tv r n a c l
def Tw:∀(es:List qg) (n:cy) (a:Option Addr) (c:Nat) (x:Int),pE (q4 es n a c (Th.gG (pE es) n++[x]))=Th.l3 (pE es) n x
 |[],n,a,c,x=>rfl
 |
  (k,v)::r,n,a,c,x=>by
  by_cases hk:n=k
  . simp only[pE,gz,Th.l3,Th.gG,q4,bg hk]
  . simp only[pE,gz,Th.l3,Th.gG,q4,a6 hk];congr 1;exact Tw r n a c x
def Tx:∀(es:List qg) (n:cy) (a:Option Addr) (c:Nat) (l:List Int) (D:List aq) (h:dR),Sat (fH a c l::ay (iz (mx es n))::D) h->Sat (ay (iz (q4 es n a c l))::D) h
 |[],n,a,c,l,D,h,E=>Sat.flat.2 Jq
 |
  (k,v)::r,n,a,c,l,D,h,E=>by
  by_cases hk:n=k
  . simp only[iz,gz,q4,mx,bg hk]at E⊢
    exact Sat.flat.2 Jq
  . simp only[iz,gz,q4,mx,a6 hk]at E⊢
    have gt:=Sat.swap Jq;exact Sat.flat.2 (Sat.tail (λh E=>Sat.flat.1 (Tx r n a c l D h (Sat.tail (λh E=>Sat.flat.2 E) E))) gt)
def ayn(ao:bD X z s)(N:X.C.ok)(B:At X z.ap s.aI a q x)(Y:fU x e)(id:Int)(u:Nat)(l:cV)(K:hF z.ai s.lets id u l)(m:fw)(I:Nat)(M:List Value)(k:Th.K)(dY s1 Z b9:Int)(aj:x.slots=kJ)(J:s.aC[j]?=some t)(y:Option ar)(h:ad aa 93 [ptr (X.bq j) 0,.agg (pD ⟨x.id,(Th.hi m.ref x.id (max l.cw 0) x.parent kJ),m.name,m.n,false⟩).toArray,bi I M] iJ (cp X y))(U:m.do'=1):ad aa 294 vj iJ (cp X y):=by
 refine ax Tryz.func294 λF D=>?_;haveI:=gg (X:=X) (ap:=z.ap) (ai:=z.ai) J;haveI:=K.rd (bv:=0) (v:=af l.cw) rfl;haveI:=s7 (q:=q) (X:=X) (e:=e) aj;have cv:=B.cv;refine agT ?_;intro aO aR V cx c2;refine bF ?_;refine ct [] [12,201] [ab aO 106 en,ab aR 110 [ptr q 0],ab V 87 (fz m),ab cx 1 [bi I M],ab q 118 (ee X x e)] ?_;refine dx ?_;refine bt (h) ?_;exact aed
def ayo(ao:bD X z s)(N:X.C.ok)(B:At X z.ap s.aI a q x)(Y:fU x e)(id:Int)(u:Nat)(l:cV)(K:hF z.ai s.lets id u l)(m:fw)(I:Nat)(M:List Value)(k:Th.K)(dY s1 Z b9:Int)(aj:x.slots=kJ)(J:s.aC[j]?=some t)(y:Option ar)(h:ad aa 343 [ptr (X.bq j) 0,ptr q 0,af ((Th.nq m.slot).getD 0),S m.name,bi I M] iJ (cp X y))(U:m.do'=2):ad aa 294 vj iJ (cp X y):=by
 refine ax Tryz.func294 λF D=>?_;haveI:=gg (X:=X) (ap:=z.ap) (ai:=z.ai) J;haveI:=K.rd (bv:=0) (v:=af l.cw) rfl;haveI:=s7 (q:=q) (X:=X) (e:=e) aj;have cv:=B.cv;refine agX ?_;intro aO aR V cx c2;refine cO ?_;exact Rp
def ayp(ao:bD X z s)(N:X.C.ok)(B:At X z.ap s.aI a q x)(Y:fU x e)(id:Int)(u:Nat)(l:cV)(K:hF z.ai s.lets id u l)(m:fw)(I:Nat)(M:List Value)(k:Th.K)(dY s1 Z b9:Int)(aj:x.slots=kJ)(J:s.aC[j]?=some t)(y:Option ar)(gY:((Th.nq m.slot).getD 0)<4)(aX:ho X j z (Th.c7 s a PZ) k I M y)(U:m.do'=10):ad aa 294 vj iJ (cp X y):=by
 refine ax Tryz.func294 λF D=>?_;haveI:=gg (X:=X) (ap:=z.ap) (ai:=z.ai) J;haveI:=K.rd (bv:=0) (v:=af l.cw) rfl;haveI:=s7 (q:=q) (X:=X) (e:=e) aj;have cv:=B.cv;haveI:=aX.iU;have b:x.slots.length=4:=by rw[aj];rfl
 refine ag0 ?_;intro aO aR V cx c2;refine cO ?_;refine aA rfl (lU rfl rfl gY) ?_;refine iF (mi rfl rfl rfl ZC) ?_;refine a7 ?_;rw[Tu b gY];refine a7 ?_;refine bt (gx (H:=(a1 X z.ap z.ai j 0 k I M::ab q 118 (ee X PZ e)::dv e.ka e.kc x.kids::ZR)) (λD h E=>Sat.tail (λh E=>jr (X:=X) (z:=z) (s:=s) (x:=PZ) (e:=e) B pu D h E) E) aX.spec) ?_;refine pz ?_;exact px
def ayq(ao:bD X z s)(N:X.C.ok)(B:At X z.ap s.aI a q x)(Y:fU x e)(id:Int)(u:Nat)(l:cV)(K:hF z.ai s.lets id u l)(m:fw)(I:Nat)(M:List Value)(k:Th.K)(dY s1 Z b9:Int)(aj:x.slots=kJ)(J:s.aC[j]?=some t)(y:Option ar)(aD:s.bf.length<=most)(h1:x.aside.length<=1099511627776)(h2:x.front.length<=1099511627776)(aX:ho X j z (Th.c7 acw a acJ) k I M y)(U:m.do'=5):ad aa 294 vj iJ (cp X y):=by
 refine ax Tryz.func294 λF D=>?_;haveI:=gg (X:=X) (ap:=z.ap) (ai:=z.ai) J;haveI:=K.rd (bv:=0) (v:=af l.cw) rfl;haveI:=s7 (q:=q) (X:=X) (e:=e) aj;have cv:=B.cv;haveI:=aX.iU;refine ag2 ?_;intro aO aR V cx c2;refine bH ?_;refine aV (ajY X z s j t q x e s.bf aD h1 h2 J) ?_;refine bF ?_;refine bt (gx (H:=(a1 X z.ap z.ai j 0 k I M::ab q 118 (ee X x e)::dv e.ka e.kc x.kids::dv e.hP e.hQ x.cF::gj e.gJ X.C.dW [] (x.front++x.aside.reverse)::h4 e.jD oT oU x.given::b2 e.gp .i64 tN::jf e.jE (h5 e.es)::ay (iz e.es)::gM e.b5::ay w9::cG X z s::dQ z.cC z.cD s.trace::Z0)) (λD h E=>Sat.tail (λh E=>jr (X:=X) (z:=z) (s:=acw) (x:=acJ) (e:=e) B pu D h E) E) aX.spec) ?_;refine pz ?_;exact px
def ayr(ao:bD X z s)(N:X.C.ok)(B:At X z.ap s.aI a q x)(Y:fU x e)(id:Int)(u:Nat)(l:cV)(K:hF z.ai s.lets id u l)(m:fw)(I:Nat)(M:List Value)(k:Th.K)(dY s1 Z b9:Int)(aj:x.slots=kJ)(J:s.aC[j]?=some t)(R:t.on=none)(U:m.do'=8):ad aa 294 vj iJ (cp X (some aaS)):=by
 refine ax Tryz.func294 λF D=>?_;haveI:=gg (X:=X) (ap:=z.ap) (ai:=z.ai) J;haveI:=K.rd (bv:=0) (v:=af l.cw) rfl;haveI:=s7 (q:=q) (X:=X) (e:=e) aj;have cv:=B.cv;refine ag6 ?_;intro aO aR V cx c2;refine bF ?_;refine ct [] [15,201] (ab aO 106 en::acs) ?_;refine eP ?_;refine aV (avT X z s j t aO aR V cx a q (⟨x.id,x.id,m.name,m.n,false⟩:cV) m I M k B.ap J R) ?_;refine bF ?_;exact aW ⟨rfl,z,_,rfl,jq,rfl⟩ (λh E=>by have:=jr (X:=X) (z:=z) (s:=aaS) (x:=x) (hm:=x) B Y D h ((au) h E);rw[sL (X:=X) (ap:=z.ap) (q:=q) (s:={s with aC:=s.aC.set j {t with on:=some (.add 0 1,.h8 a (⟨x.id,x.id,m.name,m.n,false⟩:cV) m k)}}) B]at this;exact this)
def ays(ao:bD X z s)(N:X.C.ok)(B:At X z.ap s.aI a q x)(Y:fU x e)(id:Int)(u:Nat)(l:cV)(K:hF z.ai s.lets id u l)(m:fw)(I:Nat)(M:List Value)(k:Th.K)(dY s1 Z b9:Int)(aj:x.slots=kJ)(J:s.aC[j]?=some t)(y:Option ar)(h:∀aO c2 b ea cQ,ad aa 156 [ptr (X.bq j) 0,af (Th.gG x.timers m.name).length,bi 346 [ptr aO 0,ptr c2 0,ptr b 0],bi I M] aad (cp X y))(U:m.do'=9):ad aa 294 vj iJ (cp X y):=by
 refine ax Tryz.func294 λF D=>?_;haveI:=gg (X:=X) (ap:=z.ap) (ai:=z.ai) J;haveI:=K.rd (bv:=0) (v:=af l.cw) rfl;haveI:=s7 (q:=q) (X:=X) (e:=e) aj;have cv:=B.cv;obtain⟨ea,cQ,d,g5⟩:=LC e.es m.name;rw[Y.es]at d g5;refine ag6 ?_;intro aO aR V cx c2;refine nG ?_;refine bz ?_;refine ct [7] [107,202] [ab aR 110 [ptr q 0],ab V 87 (fz m),ab q 118 (ee X x e),jf e.jE (h5 e.es)] ?_;refine bh ?_;refine go_vs rfl .none rfl (UA (ul ea cQ IS) d rfl rfl) (au) ?_;refine wn λb=>?_;refine bz ?_;refine ct [] [6,201] acs ?_;refine bh ?_;refine go_n0 rfl .none (arw rfl rfl) ?_;rintro _ _ ⟨rfl,rfl⟩;rw[aj5];refine cr ?_;refine cj rfl (b4 rfl (gx (H:=[ab aO 106 en,ab c2 32 [ptr X.h 0],ab b 49 [ul ea cQ IS],a1 X z.ap z.ai j 0 k I M,ay (iz e.es)]++(ab q 118 (ee X x e)::dv e.ka e.kc x.kids::dv e.hP e.hQ x.cF::gj e.gJ X.C.dW x.aside x.front::h4 e.jD oT oU x.given::b2 e.gp .i64 tN::jf e.jE (h5 (mx e.es m.name))::ZS)) (λD h E=>(show∀h,Sat _ h->Sat (aad++D) h from λh E=>by
  have gt:=g5 _ h ((show∀h,Sat _ h->Sat (ay (iz e.es)::([ab aO 106 [ptr (X.bq j) 0],ab c2 32 [ptr X.h 0],ab b 49 [ul ea cQ (Th.gG x.timers m.name)],a1 X z.ap z.ai j 0 k I M]++([ab q 118 (ee X x e),dv e.ka e.kc x.kids,dv e.hP e.hQ x.cF,gj e.gJ X.C.dW x.aside x.front,h4 e.jD (min (max e.b5.limit 0) 100) (min (max e.b5.within 1) 4095) x.given,b2 e.gp .i64 (x.watched.map λw=>(w,.bool true)),jf e.jE (h5 (mx e.es m.name)),gM e.b5,ay ((e3 X z.ap s.aI).set (a -1) fu),cG X z s,dQ z.cC z.cD s.trace,fp z.na z.fv s.notes,b2 X.am .i64 (cf z.ap),b2 X.e5 .u64 (cf z.ai),ay (gv z.ai s.lets),Lg.dp X.ld s.bf,ey X.c4 X.C.dF s.dead,cg X.m s.L z.tt,fI X,fC X s.bs,eD X.bG X.m X.C.bG X.C.aZ,ay (ed X),fy X,gw X,hc X,gk X,ay (c8 X z.ap z.ai s.aC)]++D))) h from(au)) h E);exact KJ [ab aO 106 [ptr (X.bq j) 0],ab c2 32 [ptr X.h 0],ab b 49 [ul ea cQ (Th.gG x.timers m.name)],fH ea cQ (Th.gG x.timers m.name),a1 X z.ap z.ai j 0 k I M] (λh E=>jr (X:=X) (z:=z) (s:=s) (x:={x with timers:=Th.ov x.timers m.name}) (e:={e with es:=mx e.es m.name}) B ⟨Y.b5,Y.la,by rw[aj6,Y.es]⟩ D h E) h ((show∀h,Sat _ h->Sat ([ab aO 106 [ptr (X.bq j) 0],ab c2 32 [ptr X.h 0],ab b 49 [ul ea cQ (Th.gG x.timers m.name)],fH ea cQ (Th.gG x.timers m.name),a1 X z.ap z.ai j 0 k I M]++(h6 X z s a q {x with timers:=Th.ov x.timers m.name} {e with es:=mx e.es m.name}++D)) h from(au)) h gt)) h E) (h aO c2 b ea cQ)) bI) ?_
 exact aen
def ayt(ao:bD X z s)(N:X.C.ok)(B:At X z.ap s.aI a q x)(Y:fU x e)(id:Int)(u:Nat)(l:cV)(K:hF z.ai s.lets id u l)(m:fw)(I:Nat)(M:List Value)(k:Th.K)(dY s1 Z b9:Int)(aj:x.slots=kJ)(J:s.aC[j]?=some t)(y:Option ar)(O:(Th.hi m.ref x.id (max l.cw 0) x.parent kJ)=0\/(Th.hi m.ref x.id (max l.cw 0) x.parent kJ)=x.id)(aX:ho X j z s k I M y)(U:m.do'=6):ad aa 294 vj (a1 X z.ap z.ai j 0 k I M::h6 X z s a q x e) (cp X y):=by
 refine ax Tryz.func294 λF D=>?_;haveI:=gg (X:=X) (ap:=z.ap) (ai:=z.ai) J;haveI:=K.rd (bv:=0) (v:=af l.cw) rfl;haveI:=s7 (q:=q) (X:=X) (e:=e) aj;have cv:=B.cv;haveI:=aX.iU;refine ahd ?_;intro aO aR V cx c2;refine mN (d:=141) 7 (.bool (decide ((Th.hi m.ref x.id (max l.cw 0) x.parent [dY,s1,Z,b9])=0)||decide ((Th.hi m.ref x.id (max l.cw 0) x.parent [dY,s1,Z,b9])=x.id))) ?_ (λn=>?_)
 rotate_left
 . refine hU rfl rfl (λW=>?_) (λW=>?_) rfl
   . exact J6
   . exact Kh
 refine a7 ?_;exact afO
def ayu(ao:bD X z s)(N:X.C.ok)(B:At X z.ap s.aI a q x)(Y:fU x e)(id:Int)(u:Nat)(l:cV)(K:hF z.ai s.lets id u l)(m:fw)(I:Nat)(M:List Value)(k:Th.K)(dY s1 Z b9:Int)(aj:x.slots=kJ)(J:s.aC[j]?=some t)(y:Option ar)(O:(Th.hi m.ref x.id (max l.cw 0) x.parent kJ)=0\/(Th.hi m.ref x.id (max l.cw 0) x.parent kJ)=x.id)(aX:ho X j z s k I M y)(U:m.do'=7):ad aa 294 vj (a1 X z.ap z.ai j 0 k I M::h6 X z s a q x e) (cp X y):=by
 refine ax Tryz.func294 λF D=>?_;haveI:=gg (X:=X) (ap:=z.ap) (ai:=z.ai) J;haveI:=K.rd (bv:=0) (v:=af l.cw) rfl;haveI:=s7 (q:=q) (X:=X) (e:=e) aj;have cv:=B.cv;haveI:=aX.iU;refine ahj ?_;intro aO aR V cx c2;refine mN (d:=141) 7 (.bool (decide ((Th.hi m.ref x.id (max l.cw 0) x.parent [dY,s1,Z,b9])=0)||decide ((Th.hi m.ref x.id (max l.cw 0) x.parent [dY,s1,Z,b9])=x.id))) ?_ (λn=>?_)
 rotate_left
 . refine hU rfl rfl (λW=>?_) (λW=>?_) rfl
   . exact J6
   . exact Kh
 refine a7 ?_;exact afO
def ayv(ao:bD X z s)(N:X.C.ok)(B:At X z.ap s.aI a q x)(Y:fU x e)(id:Int)(u:Nat)(l:cV)(K:hF z.ai s.lets id u l)(m:fw)(I:Nat)(M:List Value)(k:Th.K)(dY s1 Z b9:Int)(aj:x.slots=kJ)(J:s.aC[j]?=some t)(y:Option ar)(O:¬((Th.hi m.ref x.id (max l.cw 0) x.parent kJ)=0\/(Th.hi m.ref x.id (max l.cw 0) x.parent kJ)=x.id))(h:ad aa 348 [ptr (X.bq j) 0,ptr q 0,af (Th.hi m.ref x.id (max l.cw 0) x.parent kJ),bi I M] (a1 X z.ap z.ai j 0 k I M::h6 X z s a q x e) (cp X y))(U:m.do'=6):ad aa 294 vj (a1 X z.ap z.ai j 0 k I M::h6 X z s a q x e) (cp X y):=by
 refine ax Tryz.func294 λF D=>?_;haveI:=gg (X:=X) (ap:=z.ap) (ai:=z.ai) J;haveI:=K.rd (bv:=0) (v:=af l.cw) rfl;haveI:=s7 (q:=q) (X:=X) (e:=e) aj;have cv:=B.cv;refine ahd ?_;intro aO aR V cx c2;refine mN (d:=141) 7 (.bool (decide ((Th.hi m.ref x.id (max l.cw 0) x.parent [dY,s1,Z,b9])=0)||decide ((Th.hi m.ref x.id (max l.cw 0) x.parent [dY,s1,Z,b9])=x.id))) ?_ (λn=>?_)
 rotate_left
 . refine hU rfl rfl (λW=>?_) (λW=>?_) rfl
   . exact J6
   . exact Kh
 refine a7 ?_;refine ad8 ?_;refine cr ?_;refine bt (h) ?_;exact xt
def ayw(ao:bD X z s)(N:X.C.ok)(B:At X z.ap s.aI a q x)(Y:fU x e)(id:Int)(u:Nat)(l:cV)(K:hF z.ai s.lets id u l)(m:fw)(I:Nat)(M:List Value)(k:Th.K)(dY s1 Z b9:Int)(aj:x.slots=[dY,s1,Z,b9])(J:s.aC[j]?=some t)(O:¬((Th.hi m.ref x.id (max l.cw 0) x.parent [dY,s1,Z,b9])=0\/(Th.hi m.ref x.id (max l.cw 0) x.parent [dY,s1,Z,b9])=x.id))(b:Nat)(az:(Th.hi m.ref x.id (max l.cw 0) x.parent [dY,s1,Z,b9])=(b:Int))(o:1<=b/\b<=X.C.aZ)(R:t.on=none)(aQ:Th.cZ k)(U:m.do'=7):ad aa 294 [ptr (X.bq j) 0,ptr q 0,ptr u 0,.agg (fz m).toArray,bi I M] (a1 X z.ap z.ai j 0 k I M::h6 X z s a q x e) (cp X (some (Th.c7 {s with aC:=s.aC.set j {t with on:=some (.hZ (nC 2 (ly X.C.bG X.C.aZ x.id b)),k)}} a {x with watched:=x.watched.erase (b:Int)}))):=by
 refine ax Tryz.func294 λF D=>?_;haveI:=gg (X:=X) (ap:=z.ap) (ai:=z.ai) J;haveI:=K.rd (bv:=0) (v:=af l.cw) rfl;haveI:=s7 (q:=q) (X:=X) (e:=e) aj;have cv:=B.cv;have g:1<=x.id/\x.id<=X.C.aZ:=IG;refine ahj ?_;intro aO aR V cx c2;refine mN (d:=141) 7 (.bool (decide ((Th.hi m.ref x.id (max l.cw 0) x.parent [dY,s1,Z,b9])=0)||decide ((Th.hi m.ref x.id (max l.cw 0) x.parent [dY,s1,Z,b9])=x.id))) ?_ (λn=>?_)
 rotate_left
 . refine hU rfl rfl (λW=>?_) (λW=>?_) rfl
   . exact J6
   . exact Kh
 refine a7 ?_;refine ad8 ?_;refine dx ?_;refine A4 (ON rfl rfl) ?_;rintro _ _ ⟨rfl,rfl⟩;rw[az,ag4];refine a7 ?_;refine ir [10,13] [10] [1,4,8,12,16,20,24,28,32,36,49,42,44,54] [ab aO 106 [ptr (X.bq j) 0],ab cx 1 [bi I M],ab c2 32 [ptr X.h 0],ab aR 110 [ptr q 0],ab q 118 (ee X x e),cG X z s] ?_;refine cO ?_;refine bt (avQ X N x.id b g o) ?_;refine py ?_;intro p;refine tk rfl .none rfl (jw Tryz.underlying392 rfl rfl) ?_;refine aV (pA (agn aQ) (jP X z.ap z.ai s.aC j p I M t (.hZ (nC 2 (ly X.C.bG X.C.aZ x.id b))) k J R)) ?_;refine bF ?_;exact aW ⟨rfl,z,_,rfl,⟨ao.gK,ao.gE,ao.gF,by show _=(s.aI.set _ _).length;rw[gq];exact ao.ap,ao.ai⟩,rfl⟩ (λh E=>jr (X:=X) (z:=z) (s:={s with aC:=s.aC.set j {t with on:=some (.hZ (nC 2 (ly X.C.bG X.C.aZ x.id b)),k)}}) (x:={x with watched:=x.watched.erase (b:Int)}) B pu D h ((au) h E))
end
theorem aj7{X:cJ}{ap ai:List Nat}{l:List bV}{j:Nat}{t dh:bV}{D I:List aq}(h:l[j]?=some t)(R:dh.on=none)
 (e:∀h,Sat I h->Sat (kn X j .nilIface .nilFunc dh::ay ((c8 X ap ai l).set j fu)::D) h):∀h,Sat I h->Sat (ay (c8 X ap ai (l.set j dh))::D) h:=λq s=>by
 rw[c8,mapIdx_set];refine uZ (by rw[KX];exact(dd.1 h).1) q ?_;have aB:hE X ap ai j dh=kn X j .nilIface .nilFunc dh:=by simp[hE,R]
 rw[aB];exact e q s
section
variable(N:List aq)(X:cJ)(z:dn)(s:ar)(j p:Nat)(t:bV)(ac:gD)
def aj8{j:Nat}(J:j<X.C.bc):ad aa 86 [ptr X.cS.c 0,af (jY X j)] [fI X] (λu H=>∃p,u=ptr p 0/\H=[cW X p (.fJ (yC j)),fI X]):=by
 have aB:jY X j=j:=bg J;rw[aB];exact E2 (aoN X.cS X.C.bA j J)
def ayx:ad aa 235 [] N EC:=by
 refine ax Tryz.func235 λF D=>?_;exact EI
def ayy:ad aa 289 [] N EC:=by
 refine ax Tryz.func289 λF D=>?_;exact EI
def ayz:ad aa 168 [] N EC:=by
 refine ax Tryz.func168 λF D=>?_;exact EI
def ayA:ad aa 94 [] N EC:=by
 refine ax Tryz.func94 λF D=>?_;exact EI
def ayB:ad aa 159 [] N EC:=by
 refine ax Tryz.func159 λF D=>?_;exact EI
def ayC(hp:ac.out=0->ac.val=0)(J:s.aC[j]?=some t)(R:t.on=none)(aM av:Nat):ad aa 80 tO abi (aF et [ay (c8 X z.ap z.ai (s.aC.set j {t with jg:=!decide (ac.out=1)}))]):=by
 refine ax Tryz.func80 λF D=>?_;refine u6 ek (Sq J R) ?_;refine ct [4] [101,3,201,3,201] [ab aM 169 [ptr p 0],ab av 106 en,cW X p (.fJ ac)] ?_;refine bF ?_;refine aV (Xo X.cS X.C.bA p ac hp) ?_;refine ch ?_;exact aW ⟨rfl,rfl⟩ (aj7 (dh:={t with jg:=!decide (ac.out=1)}) J R (au))
def ayD(hp:ac.out=0->ac.val=0)(J:s.aC[j]?=some t)(R:t.on=none)(aM av:Nat)(aJ:¬ac.out=1):ad aa 87 tO abi (aF et [ay (c8 X z.ap z.ai (s.aC.set j {t with jg:=true}))]):=by
 refine ax Tryz.func87 λF D=>?_;refine u6 ek (Sq J R) ?_;refine Q6 ?_;refine dx ?_;exact aW ⟨rfl,rfl⟩ (aj7 (dh:={t with jg:=true}) J R (au))
end
section
variable{X:cJ}{α z:Type}{D:List aq}
abbrev mo(id a:Nat)(k:b1)(st:cy):bQ:=⟨id,a,k,st,[0,0,0,0],[],1,[],[],[],[],[],[]⟩
def aj9{ap:List Nat}{l:List bQ}{q:Nat}{x:bQ}(h:ap.length=l.length):e3 X (ap++[q]) (l++[x])=e3 X ap l++[vD X q x]:=by
 simp only[e3,aj0,Sr,List.mapIdx_nil];exact ad1
theorem ayE{z:dn}{s:ar}{a id b d j c g:Nat}{b5 e6:b1}{st:cy}{D:List aq}(ao:bD X z s)(Y:cN b5=cN e6)(cv:id=s.aI.length+1)(w:a -1<s.aI.length):
 ∀
  h,Sat (ab b 118 (ee X (mo id a e6 st) ⟨b5,none,0,none,0,d,j,c,g,[]⟩)::gj d X.C.dW [] []::h4 j (min (max b5.limit 0) 100) (min (max b5.within 1) 4095) []::ev c (.map #[] 0)::ev g (.map #[] 0)::gM b5::ay ((e3 X z.ap s.aI).set (a -1) fu)::ay (c8 X z.ap z.ai s.aC)::b2 X.am .i64 (eQ (cf z.ap) (id:Int) (ptr b 0))::D) h->
  Sat (ay ((e3 X vl (s.aI++[mo id a e6 st])).set (a -1) fu)::ay Ju::b2 X.am .i64 (cf vl)::D) h:=λh E=>by
 have he:re b5:=by
  have z0:=Sat.drop (Sat.drop (Sat.drop (Sat.drop (Sat.drop E))));obtain⟨h1,h2,_,_,o,_⟩:=z0;exact Ga o
 have aB:(e3 X vl (s.aI++[mo id a e6 st])).set (a -1) fu=(e3 X z.ap s.aI).set (a -1) fu++[vD X b (mo id a e6 st)]:=by
  rw[aj9 ao.ap,Gg _ _ (by rw[e3,KX];exact w)]
 have aU:eQ (cf z.ap) (id:Int) (ptr b 0)=cf vl:=ZD;rw[aB,<-aU];refine tB h ?_;refine cA (D:=ay ((e3 X z.ap s.aI).set (a -1) fu)::ay (c8 X (z.ap++[b]) z.ai s.aC)::b2 X.am .i64 (eQ (cf z.ap) (id:Int) (ptr b 0))::D) (⟨b5,none,0,none,0,d,j,c,g,[]⟩:hR) ⟨Y,he,rfl⟩ (λh E=>E) h ?_;have f:∀h,Sat (gM b5::ay ((e3 X z.ap s.aI).set (a -1) fu)::ay (c8 X z.ap z.ai s.aC)::b2 X.am .i64 (eQ (cf z.ap) (id:Int) (ptr b 0))::D) h->Sat (ay []::gM b5::ay w9::ay Ju::b2 X.am .i64 (eQ (cf z.ap) (id:Int) (ptr b 0))::D) h:=λh E=>
  w0 h (Sat.tail (λh E=>Sat.tail (λh E=>LB (X:=X) (λi x e=>xW i x e) zo s.aC _ h E) E) E)
 exact Sat.tail aaw E
def rF{P:Program}{f:FuncId}{args:List Value}{I N:List aq}{Q post:Value->List aq->Prop}(a:List aq)(h:ad P f args I Q)(i:∀h,Sat N h->Sat (I++a) h)(g:∀u H,Q u H->∃c,post u c/\∀h,Sat (H++a) h->Sat c h):ad P f args N post:=λF D w s=>
 (h F (a++D) w acm).mono λ_ _ ⟨v,H,e,p,s⟩=>let⟨c,S,O⟩:=g v H p;abP
def Ty{f:α->z}{l g9:List α}(h:l.map f=g9.map f){x:α}(ag:x∈g9):∃y∈l,f y=f x:=by
 have h1:f x∈g9.map f:=jS.2 ⟨x,ag,rfl⟩;rw[<-h]at h1;obtain⟨y,ah,e⟩:=jS.1 h1;exact⟨y,ah,e⟩
def LD{f:α->z}{l g9:List α}(h:l.map f=g9.map f):l.length=g9.length:=by simpa using congrArg List.length h
def ayF{r S:Row}(h:iP r=iP S)(o:CO r):CO S:=by
 have aB:r.tag=S.tag:=(congrArg Row.tag h:(iP r).tag=(iP S).tag);have aU:r.b8=S.b8:=(congrArg Row.b8 h:(iP r).b8=(iP S).b8);exact⟨aB▸o.tag,aU▸o.len,aU▸o.b8⟩
def ayG{s aY:fb}(h:fN s=fN aY)(o:L8 s):L8 aY:=by
 have aB:s.name=aY.name:=(congrArg fb.name h:(fN s).name=(fN aY).name);have aU:s.rows.map iP=aY.rows.map iP:=(congrArg fb.rows h:(fN s).rows=(fN aY).rows);exact⟨aB▸o.name,LD aU▸o.len,λr aD=>let⟨y,ah,e⟩:=Ty aU aD;ayF e (o.rows y ah)⟩
def Tz{k dj:b1}(h:cN k=cN dj)(o:kh k):kh dj:=by
 have aB:k.name=dj.name:=(congrArg b1.name h:(cN k).name=(cN dj).name);have aU:k.cases=dj.cases:=(congrArg b1.cases h:(cN k).cases=(cN dj).cases);have bB:k.states.map fN=dj.states.map fN:=(congrArg b1.states h:(cN k).states=(cN dj).states);exact⟨aB▸o.name,aU▸o.ri,aU▸o.cases,LD bB▸o.lens,λs aj=>let⟨y,ah,e⟩:=Ty bB aj;ayG e (o.states y ah)⟩
def aka{kind:cy}{k:b1}:∀{P a:List b1},a.map cN=P.map cN->P.find? (λx=>decide (x.name=kind))=some k->∃dj,a.find? (λx=>decide (x.name=kind))=some dj/\cN dj=cN k
 |[],[],_,h=>by cases h
 |[],_::_,e,_=>by simp at e
 |_::_,[],e,_=>by simp at e
 |
  x::P,n::a,e,h=>by
  rw[gz,gz]at e;injection e with aB aU;have c5:n.name=x.name:=(congrArg b1.name aB:(cN n).name=(cN x).name);rw[ajO]at h⊢;rw[c5];cases aQ:decide (x.name=kind)with
  |true=>rw[aQ]at h;cases h;exact⟨n,rfl,aB⟩
  |false=>rw[aQ]at h;exact aka aU h
def ayH{h:dR}(E:Sat (gk X::D) h){k:b1}(hk:k∈X.P):kh k:=by
 obtain⟨h1,h2,_,_,⟨a,e,o⟩,_⟩:=E;obtain⟨dj,b,H⟩:=Ty e hk;exact Tz H (L9 (o.kinds dj b))
theorem akb{kind:cy}{e6:b1}(t:X.P.length<=4611686018427387904)(r:kh e6)(a8:X.P.find? BM=some e6):
 ad aa 58 [.agg #[.slice X.bS X.P.length X.pc],S kind] [gk X] (λu H=>∃dj,cN dj=cN e6/\u=.tuple #[.agg (dO dj).toArray,.bool true]/\H=[gM dj,gk X]):=λF D w st=>by
 obtain⟨h1,h2,d,e,⟨a,j,o⟩,E⟩:=st.eI;have fG:a.length=X.P.length:=LD j;obtain⟨gr,f1,av⟩:=aka j a8;have bn:=Uz a X.bS X.pc kind gr ae (Tz av.symm r) f1 (λh=>hr h X.bS X.pc a) (λ_ h=>h) F D w ⟨st.os,st.tape,st.output,st.size,⟨h1,h2,d,e,o,E⟩⟩;rw[fG]at bn;exact bn.mono λ_ _ ⟨v,H,e,⟨dj,l,V,cc⟩,s⟩=>⟨v,_,e,⟨dj,l.trans av,V,rfl⟩,by subst cc;exact s.imp λh s=>Sat.tail (λh s=>Sat.head (λh o=>⟨a,j,o⟩) s) s⟩
end
section
variable(X:cJ)(z:dn)(s:ar)(a q id:Nat)(x:bQ)(e:hR)(kind st:cy)(e6:b1)(ky:fb)
theorem ayI(ao:bD X z s)(B:At X z.ap s.aI a q x)(N:X.C.ok)(t:X.P.length<=4611686018427387904)(i2:X.P.find? BM=some e6)(r:kh e6)(g4:e6.states[0]?=some ky)(gc:ky.name=st)(cv:id=s.aI.length+1)(m:id<=X.C.aZ)(he:x.kids.length<most)(o:s.trace.length<most):ad aa 69 [ptr X.h 0,af id,af a,S kind] (ab q 118 (ee X x e)::dv e.ka e.kc x.kids::ab0) (λu H=>u=.tuple #[]/\∃aE aK ka kc b5 d j c g f,cN b5=cN e6/\H=(ab q 118 ab7::dv ka kc (x.kids++[(id:Int)])::cG X hY abh::dQ aE aK PQ::b2 X.am .i64 Jo::gk X::fy X::ab f 118 (ee X (mo id a e6 st) Je)::aax)):=by
 refine ax Tryz.func69 λF D=>?_;have mp:=N.ha;have y:x.kids.length<1099511627776:=he;have v:1<=id/\id<=X.C.aZ:=⟨by omega,m⟩;have w:a -1<s.aI.length:=(dd.1 B.ag).1;have m6:=B.aP.1;have p:dH (cf z.ap) (a:Int)=some (ptr q 0):=by have bn:=zJ B.ap;rwa[show((a -1+1:Nat):Int)=(a:Int) by omega]at bn
 have g7:¬(a:Int)=(id:Int):=ae;refine ch ?_;refine bt ((akb t r i2)) ?_;rintro _ _ ⟨b5,Y,rfl,rfl⟩;refine er ?_;obtain⟨b,l,O⟩:=Tt Y g4;have gY:0<b5.states.length:=(dd.1 l).1;obtain rfl:b.name=st:=O.trans gc;refine bX ?_;refine wn λV=>?_;refine bF ?_;refine Dk (λact i=>∃(d j c g f:Nat),hd Tryz.f69.ntmps [(0,ptr X.h 0),(1,af id),(2,af a),(3,S kind)] act/\db F (ab f 118 (ee X (mo id a e6 b.name) Je)::gj d X.C.dW [] []::h4 j (min (max b5.limit 0) 100) (min (max b5.within 1) 4095) []::ev c ps::ev g ps::gM b5::b2 X.am .i64 Jo::ab q 118 (ee X x e)::dv e.ka e.kc x.kids::cG X z s::dQ z.cC z.cD s.trace::gk X::fy X::D) i) ?_ ?_
 . refine agd ?_
   refine e8 ?_ ?_
   . refine zw ?_
     intro d;rw[show(min (max (X.C.dW:Int) 0) 64).toNat=X.C.dW from by have:=N.p1;omega];refine aG ?_;refine e8 ?_ ?_
     . refine xr ?_
       intro j;refine aG ?_;refine e8 ?_ ?_
       . refine wn λc=>?_
         exact afE
       . refine wn λg=>?_
         exact afD
     . refine e8 ?_ ?_
       . refine wn λc=>?_
         exact aeA
       . refine wn λg=>?_
         exact aez
   . refine e8 ?_ ?_
     . refine wn λc=>?_
       refine aG ?_;refine e8 ?_ ?_
       . refine zw ?_
         intro d;rw[show(min (max (X.C.dW:Int) 0) 64).toNat=X.C.dW from by have:=N.p1;omega];exact aeA
       . refine wn λg=>?_
         exact agN
     . refine wn λg=>?_
       refine aG ?_;refine e8 ?_ ?_
       . refine zw ?_
         intro d;rw[show(min (max (X.C.dW:Int) 0) 64).toNat=X.C.dW from by have:=N.p1;omega];exact aez
       . refine wn λc=>?_
         exact agN
 . rintro act i ⟨d,j,c,g,f,gY,st⟩
   refine Dl ?_ gY st;clear gY st act i;refine bH ?_;refine aA rfl (lA (ptr q 0) (by rw[OJ,a6 g7,p];rfl) rfl rfl) ?_;refine cr ?_;refine nQ ?_;refine ch ?_;refine wn λaC2=>?_;refine gp λn J=>?_;rw[show x.kids.length+1=(x.kids++[(id:Int)]).length from by simp,show iE x.kids++[af id]=iE (x.kids++[(id:Int)])from by simp];refine cO ?_;refine bt (lZ X z s (aca:bZ) o) ?_;refine lY ?_;intro aE aK;refine a7 ?_;exact aW ⟨rfl,aE,aK,n,J,b5,d,j,c,g,f,Y,rfl⟩
theorem ayJ(ao:bD X z s)(B:At X z.ap s.aI a q x)(N:X.C.ok)(t:X.P.length<=4611686018427387904)(i2:X.P.find? BM=some e6)(r:kh e6)(g4:e6.states[0]?=some ky)(gc:ky.name=st)(cv:id=s.aI.length+1)(m:id<=X.C.aZ)(he:x.kids.length<most)(o:s.trace.length<most):ad aa 69 [ptr X.h 0,af id,af a,S kind] vp (λu H=>u=.tuple #[]/\∃i aE aK ka kc,H=h6 X Qa I0 a q {x with kids:=x.kids++[(id:Int)]} {e with ka:=ka,kc:=kc}):=
 rF (dv e.hP e.hQ x.cF::gj e.gJ X.C.dW x.aside x.front::h4 e.jD oT oU x.given::b2 e.gp .i64 tN::jf e.jE (h5 e.es)::ay (iz e.es)::gM e.b5::ay w9::fp z.na z.fv s.notes::aae) (ayI X z s a q id x e kind st e6 ky ao B N t i2 r g4 gc cv m he o) (au) (λu H n=>by
  obtain⟨rfl,aE,aK,ka,kc,b5,d,j,c,g,f,Y,rfl⟩:=n;refine⟨_,⟨rfl,f,aE,aK,ka,kc,rfl⟩,λh E=>?_⟩;have gt:=ayE (X:=X) (z:=z) (s:=s) (a:=a) (id:=id) (b:=f) (st:=st) (e6:=e6) (b5:=b5) (D:=(ab q 118 ab7::dv ka kc (x.kids++[(id:Int)])::cG X hY abh::dQ aE aK PQ::gk X::fy X::dv e.hP e.hQ x.cF::gj e.gJ X.C.dW x.aside x.front::h4 e.jD oT oU x.given::b2 e.gp .i64 tN::jf e.jE (h5 e.es)::ay (iz e.es)::gM e.b5::aaf)) ao Y cv (dd.1 B.ag).1 h ((au) h E);exact(au) h gt)
end
section
variable(X:cJ)(z:dn)(s:ar)(j a q p slot:Nat)(kind:cy)(x:bQ)(e:hR)
def At.more{X:cJ}{ap:List Nat}{aI:List bQ}{a q i:Nat}{x b:bQ}(h:At X ap aI a q x):At X (ap++[i]) (aI++[b]) a q x:=
 ⟨xW _ _ h.ap,by rw[kS (dd.1 h.ag).1];exact h.ag,h.cv,h.aP⟩
def ayQ(ao:bD X z s)(N:X.C.ok)(B:At X z.ap s.aI a q x)(Y:fU x e)(I:Nat)(M:List Value)(k:Th.K)(aM av U Z aN aO:Nat)(y:Option ar)(gY:slot<4)(b:x.slots.length=4)(o:s.trace.length<most)(v:Int)(V:(X.C.aZ:Int)<v/\v<4611686018427387904)(aX:∀aE aK,ho X j {z with cC:=aE,cD:=aK} (Th.c7 PL a Qp) k I M y):ad aa 387 sE ([ab aM 314 [ptr p 0],ab av 32 [ptr X.h 0],ab U 110 [ptr q 0],ab Z 9 [S kind],ab aN 3 [af slot],ab aO 1 [bi I M],a1 X z.ap z.ai j 0 k I M,cW X p (.gm v)]++h6 X z s a q x e) (cp X y):=by
 refine ax Tryz.func387 λF D=>?_;haveI:=Fx (X:=X) (p:=p) (v:=v);refine bh ?_;refine aA rfl (pU v y5 rfl) ?_;refine dx ?_;refine cH ?_;refine bH ?_;refine adl ?_;refine bt (lZ X z s ({Th.c3 with kind:=8,dK:=x.id,name:=kind}:bZ) o) ?_;refine lY ?_;intro aE aK;haveI:=(aX aE aK).iU;refine afg ?_;rw[Tu b gY];refine a7 ?_;refine bt (gx (H:=(a1 X z.ap z.ai j 0 k I M::ab q 118 (ee X Qp e)::dv e.ka e.kc x.kids::dv e.hP e.hQ x.cF::gj e.gJ X.C.dW x.aside x.front::h4 e.jD oT oU x.given::b2 e.gp .i64 tN::jf e.jE (h5 e.es)::ay (iz e.es)::gM e.b5::ay w9::cG X hY PL::dQ aE aK (s.trace++abp)::Pj)) (λD h E=>Sat.tail (λh E=>jr (X:=X) (z:=hY) (s:=PL) (x:=Qp) (e:=e) B pu D h E) E) (aX aE aK).spec) ?_;exact xu
def ayR(ao:bD X z s)(N:X.C.ok)(B:At X z.ap s.aI a q x)(Y:fU x e)(I:Nat)(M:List Value)(k:Th.K)(aM av U Z aN aO:Nat)(y:Option ar)(gY:slot<4)(b:x.slots.length=4)(o:s.trace.length<most)(id:Nat)(st:cy)(e6:b1)(ky:fb)(t:X.P.length<=4611686018427387904)(i2:X.P.find? BM=some e6)(r:kh e6)(g4:e6.states[0]?=some ky)(gc:ky.name=st)(cv:id=s.aI.length+1)(m:id<=X.C.aZ)(he:x.kids.length<most)(aX:∀i aE aK,ho X j {z with ap:=z.ap++[i],cC:=aE,cD:=aK} (Th.c7 I0 a PT) k I M y):ad aa 387 sE ([ab aM 314 [ptr p 0],ab av 32 [ptr X.h 0],ab U 110 [ptr q 0],ab Z 9 [S kind],ab aN 3 [af slot],ab aO 1 [bi I M],a1 X z.ap z.ai j 0 k I M,cW X p (.gm (id:Int))]++h6 X z s a q x e) (cp X y):=by
 refine ax Tryz.func387 λF D=>?_;haveI:=Fx (X:=X) (p:=p) (v:=(id:Int));have mp:=N.ha;have J:=B.cv;refine bh ?_;refine aA rfl (pU (id:Int) y5 rfl) ?_;refine dx ?_;refine cH ?_;refine bX ?_;refine adl ?_;rw[J];refine bt (ayJ X z s a q id x e kind st e6 ky ao B N t i2 r g4 gc cv m he o) ?_;rintro _ _ ⟨rfl,i,aE,aK,ka,kc,rfl⟩;refine er ?_;haveI:=(aX i aE aK).iU;refine afg ?_;rw[Tu (x:={x with kids:=x.kids++[(id:Int)]}) b gY];refine a7 ?_;refine cj rfl (oE rfl rfl (gx (H:=[a1 X z.ap z.ai j 0 k I M]++[ab q 118 (ee X PT {e with ka:=ka,kc:=kc}),dv ka kc (x.kids++[(id:Int)]),dv e.hP e.hQ x.cF,gj e.gJ X.C.dW x.aside x.front,h4 e.jD oT oU x.given,b2 e.gp .i64 tN,jf e.jE (h5 e.es),ay (iz e.es),gM e.b5,ay ((e3 X (z.ap++[i]) (s.aI++[mo id a e6 st])).set (a -1) fu),cG X Qa I0,dQ aE aK PQ,fp z.na z.fv s.notes,b2 X.am .i64 (cf (z.ap++[i])),b2 X.e5 .u64 (cf z.ai),ay k8,Lg.dp X.ld s.bf,ey X.c4 X.C.dF s.dead,cg X.m s.L z.tt,fI X,fC X s.bs,eD X.bG X.m X.C.bG X.C.aZ,ay (ed X),fy X,gw X,hc X,gk X,ay (c8 X (z.ap++[i]) z.ai s.aC)]) (λD h E=>by
  have gt:=vC (X:=X) (j:=j) (xW (l:=z.ap) (q:=i)) zo k 0 I M _ h E;exact Sat.tail (λh E=>jr (X:=X) (z:=Qa) (s:=I0) (x:=PT) (e:={e with ka:=ka,kc:=kc}) B.more pu D h E) gt) (aX i aE aK).spec) bI) ?_
 rintro _ D ⟨_,⟨rfl,cu,aY,ag,fd,rfl⟩,rfl⟩;refine a7 ?_;exact pv
end
def azs{x:bQ}(h:x.slots.length=4):∃dY s1 Z b9,x.slots=[dY,s1,Z,b9]:=by
 match x.slots,h with
 |[dY,s1,Z,b9],_=>exact⟨dY,s1,Z,b9,rfl⟩
def azt(b:cy):(Th.nq b).getD 0<4:=by unfold Th.nq;(repeat' split)<;>simp
def azu{X:cJ}{j:Nat}{z:dn}{s y:ar}{I:Nat}{M:List Value}{k:Th.K}{g:ar->bY->Th.K->Option ar}{a q:Nat}{x:bQ}{id:Int}{u:Nat}{l:cV}{m:fw}(N:X.C.ok)(C:hx X j g)(ao:bD X z s)(b7:cM X.C j s)(B:At X z.ap s.aI a q x)(T:eJ X.C x)(K:hF z.ai s.lets id u l)(aQ:Th.cZ k)(ah:Th.Fc X.C g j s a l m (Th.zQ X.C g j) k=some y):ad aa 294 [ptr (X.bq j) 0,ptr q 0,ptr u 0,.agg (fz m).toArray,bi I M] (a1 X z.ap z.ai j 0 k I M::bj X z s) (cp X (some y)):=by
 obtain rfl:=B.cv.symm;have O:=B.qj b7;obtain⟨t0,i,hO⟩:=b7.j1;obtain⟨dY,s1,Z,b9,aj⟩:=azs T.slots;simp only[Th.Fc,B.dz,qW,k3]at ah;refine uk λa8=>q3 B λe Y=>?_;have f:=O.q1;have n7:most=1099511627776:=rfl;have g6:∀{aY:ar} {cu:dn},bD X cu aY->g aY Th.dA k=some y->ho X j cu aY k I M (some y):=λfd h=>⟨a8,C _ _ k y I M fd h⟩;unfold Th.zP at ah;have w:Th.hi m.ref x.id (max l.cw 0) x.parent x.slots=Th.hi m.ref x.id (max l.cw 0) x.parent [dY,s1,Z,b9]:=by rw[aj]
 rw[w]at ah;by_cases c1:m.do'=1
 . rw[bg c1]at ah
   exact ayn X z s j t0 x.id q x e ao N B Y id u l K m I M k dY s1 Z b9 aj i (some y) (vP B Y (TC ao ah)) c1
 rw[a6 c1]at ah;by_cases bk:m.do'=2
 . rw[bg bk]at ah
   exact ayo X z s j t0 x.id q x e ao N B Y id u l K m I M k dY s1 Z b9 aj i (some y) (vP B Y (ayY ao B.ap ah)) bk
 rw[a6 bk]at ah;by_cases b0:m.do'=10
 . rw[bg b0]at ah
   exact ayp X z s j t0 x.id q x e ao N B Y id u l K m I M k dY s1 Z b9 aj i (some y) (azt _) (g6 ⟨ao.gK,ao.gE,ao.gF,by show _=(s.aI.set _ _).length;rw[gq];exact ao.ap,ao.ai⟩ ah) b0
 rw[a6 b0]at ah;by_cases d9:m.do'=5
 . rw[bg d9,Th.ajv B.dz,k3]at ah
   exact ayq X z s j t0 x.id q x e ao N B Y id u l K m I M k dY s1 Z b9 aj i (some y) b7.l6 ae ae (g6 ⟨ao.gK,ao.gE,ao.gF,by show _=(s.aI.set _ _).length;rw[gq];exact ao.ap,ao.ai⟩ ah) d9
 rw[a6 d9]at ah;by_cases eT:m.do'=8
 . rw[bg eT]at ah
   obtain⟨t,J,R,rfl⟩:=Th.kd ah;exact ayr X z s j t x.id q x e ao N B Y id u l K m I M k dY s1 Z b9 aj J R eT
 rw[a6 eT]at ah;by_cases ge:m.do'=9
 . rw[bg ge]at ah
   refine ays X z s j t0 x.id q x e ao N B Y id u l K m I M k dY s1 Z b9 aj i (some y) (λaO c2 b ea cQ=>?_) ge;have n:bD X z (Th.c7 s x.id {x with timers:=Th.ov x.timers m.name}):=⟨ao.gK,ao.gE,ao.gF,by show _=(s.aI.set _ _).length;rw[gq];exact ao.ap,ao.ai⟩;have V:∀v∈Th.gG x.timers m.name,0<=v:=λv V=>by
    obtain⟨p,hp,V⟩:=Th.SM V;exact T.j0 p hp v V
   refine pA (A:=eR [_,_,_,_,_]) (λD h E=>cA (fR:=λ_:Unit=>True) (l:=λ_=>[_,_,_,_,_]) (D:=D) () trivial (λh E=>E) h E) (Cz X z (Th.c7 s x.id {x with timers:=Th.ov x.timers m.name}) (Th.gG x.timers m.name).length _ _ _ _ (eR [_,_,_,_,_]) (some y) (X.bq j) (λd3 d4 cm dN=>?_));exact akh (ids:=Th.gG x.timers m.name) (ea:=ea) (cQ:=cQ) (aM:=aO) (av:=c2) (U:=b) N C n a8 rfl V ah
 rw[a6 ge]at ah;by_cases S:m.do'=6\/m.do'=7
 . rw[bg S]at ah
   split at ah
   . rename_i d
     rcases S with S|S
     . exact ayt X z s j t0 x.id q x e ao N B Y id u l K m I M k dY s1 Z b9 aj i (some y) d (g6 ao ah) S
     . exact ayu X z s j t0 x.id q x e ao N B Y id u l K m I M k dY s1 Z b9 aj i (some y) d (g6 ao ah) S
   . rename_i d
     split at ah
     . rename_i c
       have o:=ah;simp only[Th.Cl,B.dz,qW,k3]at o;split at o
       . rename_i az
         refine ayv X z s j t0 x.id q x e ao N B Y id u l K m I M k dY s1 Z b9 aj i (some y) d ?_ c;have h2:=vP B Y (ayZ (I:=I) (M:=M) N ao B ah);rw[show(((Th.hi m.ref x.id (max l.cw 0) x.parent [dY,s1,Z,b9]).toNat:Nat):Int)=Th.hi m.ref x.id (max l.cw 0) x.parent [dY,s1,Z,b9] by omega]at h2;exact h2
       . cases o
     . rename_i c
       split at ah
       . rename_i az
         obtain⟨t,J,R,rfl⟩:=Th.kd ah;have r:(((Th.hi m.ref x.id (max l.cw 0) x.parent [dY,s1,Z,b9]).toNat:Nat):Int)=Th.hi m.ref x.id (max l.cw 0) x.parent [dY,s1,Z,b9]:=ae;have h2:=ayw X z s j t x.id q x e ao N B Y id u l K m I M k dY s1 Z b9 aj J d (Th.hi m.ref x.id (max l.cw 0) x.parent [dY,s1,Z,b9]).toNat r.symm ae R aQ ae;rw[r]at h2;exact h2
       . cases ah
 rw[a6 S]at ah;cases ah
section
variable{X:cJ}{j:Nat}{z:dn}{s y:ar}{I:Nat}{M:List Value}{k:Th.K}{g:ar->bY->Th.K->Option ar}{a q:Nat}{x:bQ}{id:Int}
theorem TI{i n d3 d4 cm dN aM av U Z aN aO aR:Nat}{bS:Option Addr}{pc a q u:Nat}{x:bQ}{id:Int}{H:ds}(N:X.C.ok)(C:hx X j g)(ao:bD X z s)(b7:cM X.C j s)(B:At X z.ap s.aI a q x)(T:eJ X.C x)(w:z.ai[(id -1).toNat]?=some u)(ah:(if i=n then g s Th.dA (.ended a id H k)else Th.nV X.C g j (Th.zQ X.C g j) s (.c0 a id H) i (.each (.c0 a id H) i n (.ended a id H k)))=some y):ad aa 207 [af i,ptr d3 0,ptr d4 0,ptr cm 0,ptr dN 0] ([ab d3 3 [af n],ab d4 1 [bi 295 [ptr Z 0,ptr av 0,ptr aN 0,ptr aO 0,ptr aM 0,ptr aR 0]],ab cm 255 [bi 293 [ptr aM 0,ptr av 0,ptr U 0,ptr Z 0]],ab dN 188 [bi 207 [ptr d3 0,ptr d4 0,ptr cm 0,ptr dN 0]],eR [ab aM 106 [ptr (X.bq j) 0],ab av 110 [ptr q 0],ab U 311 [ptr u 0],ab Z 356 (lK bS pc H),ab aN 32 [ptr X.h 0],ab aO 36 [bu id],ab aR 1 [bi I M],kA bS pc H.b8,a1 X z.ap z.ai j 0 k I M]]++bj X z s) (cp X (some y)):=
 FA e7 e7 ah (λh=>gx (λD h E=>Sp (a1.eq_13 ..) (Z,av,aN,aO,aM,aR,q,I,M,bS,pc) ⟨rfl,rfl,B.ap⟩ _ h ((au) h E)) (C z s (.ended a id H k) y 295 [ptr Z 0,ptr av 0,ptr aN 0,ptr aO 0,ptr aM 0,ptr aR 0] ao h)) (λh O=>by
  simp only[Th.nV,qW]at h;obtain⟨l,aw,h⟩:=io.1 h;obtain⟨m,Y,h⟩:=io.1 h;obtain⟨b,K⟩:=hF.of ao aw;obtain rfl:u=b:=by have:=K.ai;rw[w]at this;cases this;rfl
  exact ayj X z s j i n O dN d3 cm d4 aM av U Z aN aO aR I M k a q u id H bS pc m (some y) B.ap w Y (azu (I:=208) (M:=[ptr dN 0,ptr O 0]) N C ao b7 B T K trivial h))
theorem akm(N:X.C.ok)(C:hx X j g)(ao:bD X z s)(b7:cM X.C j s)(B:At X z.ap s.aI a q x)(T:eJ X.C x)(o:s.dead.length<most/\s.trace.length<most)(L:∀l,Th.kq s id=some l->0<=l.n/\l.n<=255)(ah:Th.s4 X.C g j s a id k=some y):ad aa 238 [ptr (X.bq j) 0,ptr q 0,bu id,bi I M] (a1 X z.ap z.ai j 0 k I M::bj X z s) (cp X (some y)):=by
 obtain rfl:a=x.id:=B.cv.symm;have O:=B.qj b7;have n7:most=1099511627776:=rfl;obtain⟨t0,i,hO⟩:=b7.j1;simp only[Th.s4,B.dz,qW,k3]at ah;obtain⟨l,aw,ah⟩:=io.1 ah;obtain⟨u,K⟩:=hF.of ao aw;replace L:=L l aw;refine uk λa8=>q3 B λe Y=>?_;have g6:∀{aY:ar} {cu:dn},bD X cu aY->g aY Th.dA k=some y->ho X j cu aY k I M (some y):=λfd h=>⟨a8,C _ _ k y I M fd h⟩;have la:∀w:Int,((Th.kill id w s).bind λs=>g s Th.dA k)=some y->g (kp s id l.to w) Th.dA k=some y:=λw h=>by
  obtain⟨s1,hk,h⟩:=io.1 h;obtain⟨g9,W,_,_,_,rfl⟩:=Th.Cp hk;rw[aw]at W;cases W;exact h
 split at ah
 . rename_i d7
   exact ayc X z s j t0 x.id q x e ao N B Y id u l K I M k (some y) i o.1 o.2 b7.l6 d7.1 d7.2 (λaE aK=>g6 ⟨ao.gK,ao.gE,ao.gF,ao.ap,ao.ai⟩ (la 5 ah))
 . rename_i d7
   have c:=ax6 Y.b5 x.state l.tag l.n;cases hp:Th.kZ x.kind x.state l.tag l.n with
   |mk J m b r d=>
   rw[hp]at ah c;have i5:=c;simp only at ah;cases hC:l.qi with
   |
    false=>
    cases J with
    |
     true=>
     simp only[fk]at ah;split at ah
     . rename_i f
       exact ayd X z s j t0 x.id q x e ao N B Y id u l K I M k (some y) i o.1 o.2 b7.l6 hC m b r d L i5 f (λaE aK=>g6 ⟨ao.gK,ao.gE,ao.gF,ao.ap,ao.ai⟩ (la 1 ah))
     . rename_i f
       obtain⟨s1,R,ah⟩:=io.1 ah;obtain⟨_,rfl⟩:=Th.l4 R;exact aye X z s j t0 x.id q x e ao N B Y id u l K I M k (some y) i o.1 o.2 b7.l6 hC m b r d L i5 f (λaE aK=>g6 ⟨ao.gK,ao.gE,ao.gF,by show _=(s.aI.set _ _).length;rw[gq];exact ao.ap,ao.ai⟩ ah)
    |
     false=>
     simp only[eH,eo]at ah;obtain⟨s1,R,ah⟩:=io.1 ah;obtain⟨_,rfl⟩:=Th.l4 R;rw[hC]at ah;simp only[eH,eo]at ah;refine ayf X z s j t0 x.id q x e ao N B Y id u l K I M k (some y) i o.1 o.2 b7.l6 hC m b r d L i5 (λaN aO aR bW V cx c2 bS pc aE aK=>?_);refine pA (A:=eR [_,_,_,_,_,_,_,_,_]) (λD h E=>cA (fR:=λ_:Unit=>True) (l:=λ_=>[_,_,_,_,_,_,_,_,_]) (D:=D) () trivial (λh E=>E) h E) (Cz X {z with cC:=aE,cD:=aK} (Th.c7 {s with bf:=dg s.bf id 7,trace:=s.trace++[({Th.c3 with kind:=3,dK:=x.id,id:=id}:bZ)]} x.id x) m.length _ _ _ _ (eR [_,_,_,_,_,_,_,_,_]) (some y) (X.bq j) (λd3 d4 cm dN=>?_));exact TI (z:={z with cC:=aE,cD:=aK}) (s:=Th.c7 {s with bf:=dg s.bf id 7,trace:=s.trace++[({Th.c3 with kind:=3,dK:=x.id,id:=id}:bZ)]} x.id x) (H:=⟨false,m,b,r,d⟩) (a:=x.id) (x:=x) (aM:=aN) (av:=aO) (U:=cx) (Z:=c2) (aN:=V) (aO:=aR) (aR:=bW) (bS:=bS) (pc:=pc) N C ⟨ao.gK,ao.gE,ao.gF,by show _=(s.aI.set _ _).length;rw[gq];exact ao.ap,ao.ai⟩ ((b7.z7 (aY:={s with bf:=dg s.bf id 7,trace:=s.trace++[({Th.c3 with kind:=3,dK:=x.id,id:=id}:bZ)]}) rfl (Th.dP.from bN) rfl rfl rfl Bz b7.np.2).set B.aP.1 ⟨O.id,O.kids,O.q1⟩) (At.set (n:=x) B rfl) T K.ai ah
   |
    true=>
    have p:Th.mem x.watched l.cw=true:=by
     cases bb:Th.mem x.watched l.cw with
     |true=>rfl
     |false=>exact absurd ⟨hC,bb⟩ d7
    cases J with
    |
     true=>
     simp only[fk]at ah;split at ah
     . rename_i f
       exact ayg X z s j t0 x.id q x e ao N B Y id u l K I M k (some y) i o.1 o.2 b7.l6 hC p m b r d L i5 f (λaE aK=>g6 ⟨ao.gK,ao.gE,ao.gF,ao.ap,ao.ai⟩ (la 1 ah))
     . rename_i f
       obtain⟨s1,R,ah⟩:=io.1 ah;obtain⟨_,rfl⟩:=Th.l4 R;exact ayh X z s j t0 x.id q x e ao N B Y id u l K I M k (some y) i o.1 o.2 b7.l6 hC p m b r d L i5 f (λaE aK=>g6 ⟨ao.gK,ao.gE,ao.gF,by show _=(s.aI.set _ _).length;rw[gq];exact ao.ap,ao.ai⟩ ah)
    |
     false=>
     simp only[eH,eo]at ah;obtain⟨s1,R,ah⟩:=io.1 ah;obtain⟨_,rfl⟩:=Th.l4 R;rw[hC]at ah;simp only[fk]at ah;refine ayi X z s j t0 x.id q x e ao N B Y id u l K I M k (some y) i o.1 o.2 b7.l6 hC p m b r d L i5 (λaN aO aR bW V cx c2 bS pc aE aK=>?_);refine pA (A:=eR [_,_,_,_,_,_,_,_,_]) (λD h E=>cA (fR:=λ_:Unit=>True) (l:=λ_=>[_,_,_,_,_,_,_,_,_]) (D:=D) () trivial (λh E=>E) h E) (Cz X {z with cC:=aE,cD:=aK} (Th.c7 {s with bf:=dg s.bf id 7,trace:=s.trace++[({Th.c3 with kind:=3,dK:=x.id,id:=id}:bZ)]} x.id {x with watched:=x.watched.erase l.cw}) m.length _ _ _ _ (eR [_,_,_,_,_,_,_,_,_]) (some y) (X.bq j) (λd3 d4 cm dN=>?_));exact TI (z:={z with cC:=aE,cD:=aK}) (s:=Th.c7 {s with bf:=dg s.bf id 7,trace:=s.trace++[({Th.c3 with kind:=3,dK:=x.id,id:=id}:bZ)]} x.id {x with watched:=x.watched.erase l.cw}) (H:=⟨false,m,b,r,d⟩) (a:=x.id) (x:={x with watched:=x.watched.erase l.cw}) (aM:=aN) (av:=aO) (U:=cx) (Z:=c2) (aN:=V) (aO:=aR) (aR:=bW) (bS:=bS) (pc:=pc) N C ⟨ao.gK,ao.gE,ao.gF,by show _=(s.aI.set _ _).length;rw[gq];exact ao.ap,ao.ai⟩ ((b7.z7 (aY:={s with bf:=dg s.bf id 7,trace:=s.trace++[({Th.c3 with kind:=3,dK:=x.id,id:=id}:bZ)]}) rfl (Th.dP.from bN) rfl rfl rfl Bz b7.np.2).set B.aP.1 ⟨O.id,O.kids,O.q1⟩) (At.set (n:={x with watched:=x.watched.erase l.cw}) B rfl) ⟨T.par,T.slots,T.kids,T.Lh,T.SX,T.SY,T.j0⟩ K.ai ah
end
def ayK(w:Int):∀(l:List Int) (x:Int) (s:ar),Th.kK w (l++[x]) s=(Th.kK w l s).bind (Th.kill x w):=Ts w
structure s8(w:Int)(s:ar)(ids:List Int)(i:Nat)(d:ar):Prop where
 le:i<=ids.length
 eq:Th.kK w (ids.take i) s=some d
 lets:d.lets=s.lets
 bf:d.bf.length=s.bf.length
 np:d.trace.length=s.trace.length+i
 CA:d.dead.length=s.dead.length+i
 now:d.now=s.now
 bs:d.bs=s.bs
def s8.next{w:Int}{s d:ar}{ids:List Int}{i:Nat}{id:Int}{ai:List Nat}{q:Nat}{l:cV}(h:s8 w s ids i d)(O:1<=w/\w<=5)(ag:ids[i]?=some id)(K:hF ai d.lets id q l)(R:s.trace.length+ids.length<=most)(aQ:s.dead.length+ids.length<=most):s8 w s ids (i+1) (kp d id l.to w):=by
 obtain⟨al,e⟩:=dd.1 ag;have h1:=h.np;have h2:=h.CA;refine⟨al,?_,h.lets,by show(dg d.bf id 8).length=_;rw[Led.yZ];exact h.bf,by simp[h1];omega,by simp[h2];omega,h.now,h.bs⟩;rw[ns al,e,ayK,h.eq,k3];exact aix ZB O ae ae
def s8.start{w:Int}{s:ar}{ids:List Int}:s8 w s ids 0 s:=⟨fc _,rfl,rfl,rfl,rfl,rfl,rfl,rfl⟩
abbrev rL(a w:Int)(l:List Int)(r:List (Int×Int)):List (Int×Int):=l.foldl (λr id=>if bs r id=a then du r id w else r) r
def TA(a w:Int):∀(l:List Int) (r:List (Int×Int)),(rL a w l r).length=r.length
 |[],r=>rfl
 |
  x::l,r=>by
  rw[rL,yR];refine(TA a w l _).trans ?_;split;exact e2;rfl
def akc(a w:Int){l:List Int}{i:Nat}{x:Int}(h:l[i]?=some x)(r:List (Int×Int)):rL a w (l.take (i+1)) r=if bs (rL a w (l.take i) r) x=a then du (rL a w (l.take i) r) x w else rL a w (l.take i) r:=by
 obtain⟨al,e⟩:=dd.1 h;rw[ns al,e,rL,ajX];rfl
section
variable(X:cJ)(p:Nat)(ac:hy)(aJ:¬ac.out=0)
include aJ
theorem ayL(aw:ac.ref.length<=1000):ad aa 149 [ptr p 0] [cW X p (.eY ac)] (λu H=>∃a c,u=ul a c ac.ref/\H=[fH a c ac.ref,cW X p (.eY ac)]):=by
 have h:=Ck.anG X.dt X.C.dC p ac (λh=>absurd h aJ) aw;have e:Ck.lQ ac ac.ref=ac.ref:=a6 aJ;rw[e]at h;exact h
theorem ayM(aw:ac.cut.length<=1000):ad aa 151 [ptr p 0] [cW X p (.eY ac)] (λu H=>∃a c,u=ul a c ac.cut/\H=[fH a c ac.cut,cW X p (.eY ac)]):=by
 have h:=Ck.anB X.dt X.C.dC p ac (λh=>absurd h aJ) aw;have e:Ck.lQ ac ac.cut=ac.cut:=a6 aJ;rw[e]at h;exact h
theorem ayN(aw:ac.due.length<=1000):ad aa 155 [ptr p 0] [cW X p (.eY ac)] (λu H=>∃a c,u=ul a c ac.due/\H=[fH a c ac.due,cW X p (.eY ac)]):=by
 have h:=Ck.anv X.dt X.C.dC p ac (λh=>absurd h aJ) aw;have e:Ck.lQ ac ac.due=ac.due:=a6 aJ;rw[e]at h;exact h
end
def ayO(X:cJ)(w:gd)(O:mb w):ad aa 152 [ptr X.dt.c 0] [fC X w] (λu H=>∃aE aK,u=ul aE aK (w.T.map (·.id))/\H=[fH aE aK (w.T.map (·.id)),fC X w]):=λF D l s=>by
 have Z:db F ([Ck.gn X.dt X.C.dC,fO X.dt.wp w]++(gf X.dt.r X.m (X.C.dC.b+1) X.C.dC.n::D)) l:=s.imp λg t=>by
  obtain⟨_,_,dh⟩:=hb t;exact(au) g dh
 refine(Ck.ana X.dt X.C.dC w O F _ l Z).mono ?_;rintro _ _ ⟨v,H,rfl,⟨aE,aK,rfl,rfl⟩,b9⟩;refine⟨_,_,rfl,⟨aE,aK,by simp[ul],rfl⟩,b9.imp λg t=>?_⟩;have aB:fH aE aK (w.T.map (·.id))=own (.slice aE w.T.length aK) 36 1 w.T.length (w.T.map λt=>bu t.id):=by simp[fH,ul,iT,w5,Function.comp_def]
 rw[aB];exact Sat.tail (λg t=>cA (D:=D) () trivial (λg t=>t) g ((au) g t)) t
def ayP(X:cJ)(z:dn)(s:ar)(j p:Nat)(ac:hy)(aM av U:Nat)(y:Option ar)(aJ:¬ac.out=0)(d:ac.ref.length<=64)(ip:ac.cut.length<=64)(r:ac.due.length<=64)(e:mb s.bs)(m8:s.bs.T.length<=1099511627776)(aD:X.C.dF<=64)(g:s.bf.length<=most)(C:s.now<most)(hO:s.trace.length<most)(f:∀id∈ac.ref,∃q l,hF z.ai s.lets id q l)(J:∀id∈ac.cut,∃q l,hF z.ai s.lets id q l)(R:s.trace.length+1+ac.ref.length+ac.cut.length<=most)(aQ:s.dead.length+ac.ref.length+ac.cut.length<=most)(h:∀Z b9,Th.kK 1 ac.ref Ef=some Z->Th.kK 4 ac.cut Z=some b9->∀cC cD cx a4 d9,ad aa 156 [ptr (X.bq j) 0,af ac.due.length,bi 157 [ptr U 0,ptr cx 0],bi 159 []] ([ab U 106 en,ab cx 49 [ul a4 d9 ac.due],fH a4 d9 ac.due]++bj X zi Ek) (cp X y)):ad aa 148 lX ([ab aM 32 [ptr X.h 0],ab av 248 [ptr p 0],ab U 106 en,cW X p (.eY ac)]++bj X z s) (cp X y):=by
 refine ax Tryz.func148 λF D=>?_;have n7:most=1099511627776:=rfl;have N:s.now<1099511627776:=C;have S:s.bf.length<=1099511627776:=g;have T:(Ef:ar).trace.length=s.trace.length+1:=fW;refine bh ?_;refine aA rfl (fo (((s.now+1:Nat):Int)) eV rfl rfl) ?_;refine bh ?_;refine ct [] [6,201] [ab aM 32 [ptr X.h 0],ab X.h 108 ((qO X z s).set (0+24) (af ((s.now+1:Nat):Int)))] ?_;refine bh ?_;refine bt (lZ X z {s with now:=s.now+1} (PF:bZ) hO) ?_;refine lY ?_;intro aE aK;refine ch ?_;refine cj rfl (b4 rfl (ayL X p ac aJ ae) bI) ?_;rintro _ D ⟨_,⟨ck,c1,rfl,rfl⟩,rfl⟩;refine r8 ?_;refine gO (bx:=Nat×Option Addr×Nat×ar) (λE=>s8 1 (Ef:ar) ac.ref E.1 E.2.2.2) (λE=>((29,af E.1)::(28,af ac.ref.length)::(27,ul ck c1 ac.ref)::Jg)) (λE=>fH ck c1 ac.ref::ab aM 32 [ptr X.h 0]::ab av 248 [ptr p 0]::ab U 106 en::cW X p (.eY ac)::cG X {z with cC:=E.2.1,cD:=E.2.2.1} E.2.2.2::dQ E.2.1 E.2.2.1 E.2.2.2.trace::fp z.na z.fv E.2.2.2.notes::b2 X.am .i64 (cf z.ap)::ay (e3 X z.ap E.2.2.2.aI)::b2 X.e5 .u64 (cf z.ai)::ay (gv z.ai E.2.2.2.lets)::Lg.dp X.ld E.2.2.2.bf::ey X.c4 X.C.dF E.2.2.2.dead::cg X.m E.2.2.2.L z.tt::fI X::fC X E.2.2.2.bs::eD X.bG X.m X.C.bG X.C.aZ::ay (ed X)::fy X::gw X::hc X::gk X::ay (c8 X z.ap z.ai E.2.2.2.aC)::D) (λE=>ac.ref.length -E.1) (0,aE,aK,(Ef:ar)) (s8.start) de (au) ?_;rintro⟨i,cC,cD,Z⟩ bM;replace bM:s8 1 (Ef:ar) ac.ref i Z:=bM;have B:=bM.le;have V:Z.trace.length=s.trace.length+1+i:=by have bn:=bM.np;simpa using bn
 have Y:Z.dead.length=s.dead.length+i:=bM.CA;have aDn:Z.bf.length=s.bf.length:=bM.bf;have m:Z.lets=s.lets:=bM.lets;have o:Z.bs=s.bs:=bM.bs;dsimp only;refine bh ?_;refine b6 (λW=>?_) (λW=>?_)
 . have b:i<ac.ref.length:=by omega
   obtain⟨v,ag⟩:∃v,ac.ref[i]?=some v:=⟨_,cq b⟩;obtain⟨c,l,a⟩:=f v y9;rw[<-m]at a;refine bh ?_;refine aA rfl (fA rfl rfl (show i<ac.ref.length by omega)) ?_;refine BV ?_;refine bh ?_;refine cj rfl (b4 rfl (tQ X zi Z v 1 c l a bN aD ae ae ae) bI) ?_;refine Rs ?_;intro aE aK;refine fm (i+1,aE,aK,kp Z v l.to 1) (bM.next bN ag a (by show(s.trace++[_]).length+_<=_;simp only[ep,iY,lk];omega) (by show s.dead.length+_<=_;omega)) (show ac.ref.length -(i+1)<ac.ref.length -i by omega) de (au)
 . obtain rfl:i=ac.ref.length:=by omega
   have t:=bM.eq;rw[l9]at t;refine ch ?_;have K:Z.lets=s.lets:=m;refine a7 ?_;refine cj rfl (b4 rfl (ayM X p ac aJ ae) bI) ?_;rintro _ D ⟨_,⟨cl,bk,rfl,rfl⟩,rfl⟩;refine r8 ?_;refine gO (bx:=Nat×Option Addr×Nat×ar) (λE=>s8 4 Z ac.cut E.1 E.2.2.2) (λE=>((40,af E.1)::(39,af ac.cut.length)::(38,ul cl bk ac.cut)::Jg)) (λE=>fH cl bk ac.cut::ab aM 32 [ptr X.h 0]::ab av 248 [ptr p 0]::ab U 106 en::cW X p (.eY ac)::cG X {z with cC:=E.2.1,cD:=E.2.2.1} E.2.2.2::dQ E.2.1 E.2.2.1 E.2.2.2.trace::fp z.na z.fv E.2.2.2.notes::b2 X.am .i64 (cf z.ap)::ay (e3 X z.ap E.2.2.2.aI)::b2 X.e5 .u64 (cf z.ai)::ay (gv z.ai E.2.2.2.lets)::Lg.dp X.ld E.2.2.2.bf::ey X.c4 X.C.dF E.2.2.2.dead::cg X.m E.2.2.2.L z.tt::fI X::fC X E.2.2.2.bs::eD X.bG X.m X.C.bG X.C.aZ::ay (ed X)::fy X::gw X::hc X::gk X::ay (c8 X z.ap z.ai E.2.2.2.aC)::D) (λE=>ac.cut.length -E.1) (0,cC,cD,Z) (s8.start) de (au) ?_;rintro⟨i,cC,cD,b9⟩ bM;replace bM:s8 4 Z ac.cut i b9:=bM;have B:=bM.le;have aDo:b9.trace.length=Z.trace.length+i:=by have bn:=bM.np;simpa using bn
   have aDp:b9.dead.length=Z.dead.length+i:=bM.CA;have aDq:b9.bf.length=Z.bf.length:=bM.bf;have M:b9.lets=Z.lets:=bM.lets;have u:b9.bs=Z.bs:=bM.bs;dsimp only;refine bh ?_;refine b6 (λI=>?_) (λI=>?_)
   . have b:i<ac.cut.length:=by omega
     obtain⟨v,ag⟩:∃v,ac.cut[i]?=some v:=⟨_,cq b⟩;obtain⟨c,l,a⟩:=J v y9;rw[<-K,<-M]at a;refine bh ?_;refine aA rfl (fA rfl rfl (show i<ac.cut.length by omega)) ?_;refine BV ?_;refine bh ?_;refine cj rfl (b4 rfl (tQ X zi b9 v 4 c l a bN aD ae ae ae) bI) ?_;refine Rs ?_;intro aE aK;refine fm (i+1,aE,aK,kp b9 v l.to 4) (bM.next bN ag a ae ae) (show ac.cut.length -(i+1)<ac.cut.length -i by omega) de (au)
   . obtain rfl:i=ac.cut.length:=by omega
     have H:=bM.eq;rw[l9]at H;refine ch ?_;have aDr:(b9.bs.T.map (·.id)).length<=1099511627776:=by rw[u,o,kG];exact m8
     refine bz ?_;refine cj rfl (b4 rfl (ayO X b9.bs (by rw[u,o];exact e)) bI) ?_;rintro _ D ⟨_,⟨a3,b0,rfl,rfl⟩,rfl⟩;refine r8 ?_;refine gO (bx:=Nat) (λi=>i<=(b9.bs.T.map (·.id)).length) (λi=>((54,af i)::(53,af (b9.bs.T.map (·.id)).length)::(52,ul a3 b0 (b9.bs.T.map (·.id)))::Jg)) (λi=>fH a3 b0 (b9.bs.T.map (·.id))::ab aM 32 [ptr X.h 0]::ab av 248 [ptr p 0]::ab U 106 en::cW X p (.eY ac)::cG X zi b9::dQ cC cD b9.trace::fp z.na z.fv b9.notes::b2 X.am .i64 (cf z.ap)::ay (e3 X z.ap b9.aI)::b2 X.e5 .u64 (cf z.ai)::ay (gv z.ai b9.lets)::Lg.dp X.ld Em::ey X.c4 X.C.dF b9.dead::cg X.m b9.L z.tt::fI X::fC X b9.bs::eD X.bG X.m X.C.bG X.C.aZ::ay (ed X)::fy X::gw X::hc X::gk X::ay (c8 X z.ap z.ai b9.aC)::D) (λi=>(b9.bs.T.map (·.id)).length -i) 0 (fc _) de O2 ?_;intro i bM;replace bM:i<=(b9.bs.T.map (·.id)).length:=bM;refine bh ?_;refine b6 (λL=>?_) (λL=>?_)
     . obtain⟨v,ag⟩:∃v,(b9.bs.T.map (·.id))[i]?=some v:=⟨_,cq (show i<(b9.bs.T.map (·.id)).length by omega)⟩
       refine bh ?_;refine aA rfl (fA rfl rfl (show i<(b9.bs.T.map (·.id)).length by omega)) ?_;refine BV ?_;refine cU ?_;refine aV (Lg.OD X.ld Em v) ?_;refine bX ?_;refine b6 (λfV=>?_) (λfV=>?_)
       . have O:bs Em v=5:=by simpa using fV
         refine bh ?_;refine cj rfl (b4 rfl (Lg.Bq X.ld Em v 6 (by rw[TA];omega)) bI) ?_;refine Rr ?_;refine fm (i+1) (show i+1<=(b9.bs.T.map (·.id)).length by omega) (show(b9.bs.T.map (·.id)).length -(i+1)<(b9.bs.T.map (·.id)).length -i by omega) de (by rw[akc 5 6 ag,bg O];exact(au))
       . have O:¬bs Em v=5:=by simpa using fV
         refine Gt ?_;refine fm (i+1) (show i+1<=(b9.bs.T.map (·.id)).length by omega) (show(b9.bs.T.map (·.id)).length -(i+1)<(b9.bs.T.map (·.id)).length -i by omega) de (by rw[akc 5 6 ag,a6 O];exact(au))
     . obtain rfl:i=(b9.bs.T.map (·.id)).length:=by omega
       rw[l9];refine bH ?_;refine cj rfl (b4 rfl (ayN X p ac aJ ae) bI) ?_;rintro _ D ⟨_,⟨a4,d9,rfl,rfl⟩,rfl⟩;refine fj ?_;refine wn λcx=>?_;refine dx ?_;refine gO (bx:=Nat) (λi=>i<=ac.due.length) (λi=>((76,af i)::(75,af ac.due.length)::(74,ul a4 d9 ac.due)::(9,ptr cx 0)::Jg)) (λi=>fH a4 d9 ac.due::ab aM 32 [ptr X.h 0]::ab av 248 [ptr p 0]::ab U 106 en::cW X p (.eY ac)::ab cx 49 [ul a4 d9 ac.due]::cG X zi b9::dQ cC cD b9.trace::fp z.na z.fv b9.notes::b2 X.am .i64 (cf z.ap)::ay (e3 X z.ap b9.aI)::b2 X.e5 .u64 (cf z.ai)::ay (gv z.ai b9.lets)::Lg.dp X.ld acz::ey X.c4 X.C.dF b9.dead::cg X.m b9.L z.tt::fI X::fC X b9.bs::eD X.bG X.m X.C.bG X.C.aZ::ay (ed X)::fy X::gw X::hc X::gk X::ay (c8 X z.ap z.ai b9.aC)::D) (λi=>ac.due.length -i) 0 (fc _) de O2 ?_;intro i bM;replace bM:i<=ac.due.length:=bM;refine bh ?_;refine b6 (λw=>?_) (λw=>?_)
       . obtain⟨v,ag⟩:∃v,ac.due[i]?=some v:=⟨_,cq (show i<ac.due.length by omega)⟩
         refine bh ?_;refine aA rfl (fA rfl rfl (show i<ac.due.length by omega)) ?_;refine BV ?_;refine cr ?_;refine cj rfl (b4 rfl (Lg.Bq X.ld acz v 1 (by rw[Tr,TA];omega)) bI) ?_;refine Rr ?_;refine fm (i+1) (show i+1<=ac.due.length by omega) (show ac.due.length -(i+1)<ac.due.length -i by omega) de (by rw[ajW 1 ag];exact(au))
       . obtain rfl:i=ac.due.length:=by omega
         rw[l9];refine cU ?_;refine bt (h Z b9 t H cC cD cx a4 d9) ?_;exact xu
end Go.Proofs.YtnnhpnccfnghdaaGreat.L.bE
