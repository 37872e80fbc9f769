import Derived.Test.YtnnhpnccfnghdaaGreatR17
set_option linter.all false
set_option maxRecDepth 8000
set_option maxHeartbeats 5600000
namespace Go.Proofs.YtnnhpnccfnghdaaGreat.L.bH
open Go.Proofs.YtnnhpnccfnghdaaGreat.L
open Go.L Go.L.Ring Go.L.dq Go.L.dR Go.L.Whl Go.L.dA Go.L.Lx Go.L.Pg
open Go.L.Led (dg du dT bs av e8)
open Go.L.Th (bt cW c9 bX dt bR bU ev bW ao most dU cQ ff eD dM In cV c6 eE bx bM eF eG bk cG dw go bq Good eb eH dQ acc Inv eh er e3 busy cZ ek dN fa)
attribute[local irreducible] G cE GE cY GT b0 df c4 di Exit.then Exit.inBlock
section
variable{X:cN}{j:Nat}{z:dn}{s y:ao}{I:Nat}{M:List Value}{k:Th.K}{g:ao->bU->Th.K->Option ao}{a q:Nat}{x:bR}{id:Int}
theorem Ue{i n d2 d3 cn dS aP ar U Z aO aU aS:Nat}{bL:Option Addr}{pc a q u:Nat}{x:bR}{id:Int}{H:dt}(J:X.C.ok)(C:hv X j g)(al:bE X z s)(b7:cQ X.C j s)(B:At X z.ap s.aJ a q x)(T:eD X.C x)(b:z.ai[(id -1).toNat]?=some u)(ag:(if i=n then g s Th.dF (.ended a id H k)else Th.mH X.C g j (Th.zO X.C g j) s (.c5 a id H) i (.each (.c5 a id H) i n (.ended a id H k)))=some y):ad aa 207 [af i,ptr d2 0,ptr d3 0,ptr cn 0,ptr dS 0] ([ab d2 3 [af n],ab d3 1 [bj 295 [ptr Z 0,ptr ar 0,ptr aO 0,ptr aU 0,ptr aP 0,ptr aS 0]],ab cn 255 [bj 293 [ptr aP 0,ptr ar 0,ptr U 0,ptr Z 0]],ab dS 188 [bj 207 [ptr d2 0,ptr d3 0,ptr cn 0,ptr dS 0]],eW [ab aP 106 [ptr (X.bp j) 0],ab ar 110 [ptr q 0],ab U 311 [ptr u 0],ab Z 356 (lS bL pc H),ab aO 32 [ptr X.h 0],ab aU 36 [bw id],ab aS 1 [bj I M],kx bL pc H.cw,a7 X z.ap z.ai j 0 k I M]]++bl X z s) (ct X (some y)):=
 FE fc fc ag (λh=>gq (λD h E=>SP (a7.eq_13 ..) (Z,ar,aO,aU,aP,aS,q,I,M,bL,pc) ⟨rfl,rfl,B.ap⟩ _ h ((au) h E)) (C z s (.ended a id H k) y 295 [ptr Z 0,ptr ar 0,ptr aO 0,ptr aU 0,ptr aP 0,ptr aS 0] al h)) (λh O=>by
  simp only[Th.mH,qM]at h;obtain⟨l,av,h⟩:=gZ.1 h;obtain⟨m,V,h⟩:=gZ.1 h;obtain⟨c,K⟩:=hG.of al av;obtain rfl:u=c:=by have:=K.ai;rw[b]at this;cases this;rfl
  exact ayu X z s j i n O dS d2 cn d3 aP ar U Z aO aU aS I M k a q u id H bL pc m (some y) B.ap b V (azF (I:=208) (M:=[ptr dS 0,ptr O 0]) J C al b7 B T K trivial h))
theorem ak7(J:X.C.ok)(C:hv X j g)(al:bE X z s)(b7:cQ X.C j s)(B:At X z.ap s.aJ a q x)(T:eD X.C x)(he:s.dead.length<most/\s.trace.length<most)(L:∀l,Th.jX s id=some l->0<=l.n/\l.n<=255)(ag:Th.qS X.C g j s a id k=some y):ad aa 238 [ptr (X.bp j) 0,ptr q 0,bw id,bj I M] (a7 X z.ap z.ai j 0 k I M::bl X z s) (ct X (some y)):=by
 obtain rfl:a=x.id:=B.cx.symm;have O:=B.qb b7;have m9:most=1099511627776:=rfl;obtain⟨t0,i,hO⟩:=b7.jW;simp only[Th.qS,B.dE,qM,k3]at ag;obtain⟨l,av,ag⟩:=gZ.1 ag;obtain⟨u,K⟩:=hG.of al av;replace L:=L l av;refine uf λba=>qZ B λe V=>?_;have g7:∀{aD:ao} {cj:dn},bE X cj aD->g aD Th.dF k=some y->hr X j cj aD k I M (some y):=λd7 h=>⟨ba,C _ _ k y I M d7 h⟩;have lc:∀w:Int,((Th.kill id w s).bind λs=>g s Th.dF k)=some y->g (kk s id l.to w) Th.dF k=some y:=λw h=>by
  obtain⟨s1,hk,h⟩:=gZ.1 h;obtain⟨g6,W,_,_,_,rfl⟩:=Th.zR hk;rw[av]at W;cases W;exact h
 split at ag
 . rename_i d4
   exact ayn X z s j t0 x.id q x e al J B V id u l K I M k (some y) i he.1 he.2 b7.mh d4.1 d4.2 (λaI aQ=>g7 ⟨al.gL,al.gD,al.gE,al.ap,al.ai⟩ (lc 5 ag))
 . rename_i d4
   have c:=ayh V.b8 x.state l.tag l.n;cases hp:Th.kY x.kind x.state l.tag l.n with
   |mk N m b r d=>
   rw[hp]at ag c;have i6:=c;simp only at ag;cases hw:l.p9 with
   |
    false=>
    cases N with
    |
     true=>
     simp only[fi]at ag;split at ag
     . rename_i f
       exact ayo X z s j t0 x.id q x e al J B V id u l K I M k (some y) i he.1 he.2 b7.mh hw m b r d L i6 f (λaI aQ=>g7 ⟨al.gL,al.gD,al.gE,al.ap,al.ai⟩ (lc 1 ag))
     . rename_i f
       obtain⟨s1,R,ag⟩:=gZ.1 ag;obtain⟨_,rfl⟩:=Th.li R;exact ayp X z s j t0 x.id q x e al J B V id u l K I M k (some y) i he.1 he.2 b7.mh hw m b r d L i6 f (λaI aQ=>g7 ⟨al.gL,al.gD,al.gE,by show _=(s.aJ.set _ _).length;rw[gn];exact al.ap,al.ai⟩ ag)
    |
     false=>
     simp only[eP,ep]at ag;obtain⟨s1,R,ag⟩:=gZ.1 ag;obtain⟨_,rfl⟩:=Th.li R;rw[hw]at ag;simp only[eP,ep]at ag;refine ayq X z s j t0 x.id q x e al J B V id u l K I M k (some y) i he.1 he.2 b7.mh hw m b r d L i6 (λaO aU aS bY Y co c2 bL pc aI aQ=>?_);refine pv (A:=eW [_,_,_,_,_,_,_,_,_]) (λD h E=>cF (fM:=λ_:Unit=>True) (l:=λ_=>[_,_,_,_,_,_,_,_,_]) (D:=D) () trivial (λh E=>E) h E) (Cy X {z with cI:=aI,cJ:=aQ} (Th.dd {s with bc:=dg s.bc id 7,trace:=s.trace++[({Th.c7 with kind:=3,dL:=x.id,id:=id}:bX)]} x.id x) m.length _ _ _ _ (eW [_,_,_,_,_,_,_,_,_]) (some y) (X.bp j) (λd2 d3 cn dS=>?_));exact Ue (z:={z with cI:=aI,cJ:=aQ}) (s:=Th.dd {s with bc:=dg s.bc id 7,trace:=s.trace++[({Th.c7 with kind:=3,dL:=x.id,id:=id}:bX)]} x.id x) (H:=⟨false,m,b,r,d⟩) (a:=x.id) (x:=x) (aP:=aO) (ar:=aU) (U:=co) (Z:=c2) (aO:=Y) (aU:=aS) (aS:=bY) (bL:=bL) (pc:=pc) J C ⟨al.gL,al.gD,al.gE,by show _=(s.aJ.set _ _).length;rw[gn];exact al.ap,al.ai⟩ ((b7.Ae (aD:={s with bc:=dg s.bc id 7,trace:=s.trace++[({Th.c7 with kind:=3,dL:=x.id,id:=id}:bX)]}) rfl (Th.dM.from bJ) rfl rfl rfl Bx b7.ns.2).set B.aW.1 ⟨O.id,O.kids,O.qV⟩) (At.set (n:=x) B rfl) T K.ai ag
   |
    true=>
    have p:Th.mem x.watched l.cy=true:=by
     cases bf:Th.mem x.watched l.cy with
     |true=>rfl
     |false=>exact absurd ⟨hw,bf⟩ d4
    cases N with
    |
     true=>
     simp only[fi]at ag;split at ag
     . rename_i f
       exact ayr X z s j t0 x.id q x e al J B V id u l K I M k (some y) i he.1 he.2 b7.mh hw p m b r d L i6 f (λaI aQ=>g7 ⟨al.gL,al.gD,al.gE,al.ap,al.ai⟩ (lc 1 ag))
     . rename_i f
       obtain⟨s1,R,ag⟩:=gZ.1 ag;obtain⟨_,rfl⟩:=Th.li R;exact ays X z s j t0 x.id q x e al J B V id u l K I M k (some y) i he.1 he.2 b7.mh hw p m b r d L i6 f (λaI aQ=>g7 ⟨al.gL,al.gD,al.gE,by show _=(s.aJ.set _ _).length;rw[gn];exact al.ap,al.ai⟩ ag)
    |
     false=>
     simp only[eP,ep]at ag;obtain⟨s1,R,ag⟩:=gZ.1 ag;obtain⟨_,rfl⟩:=Th.li R;rw[hw]at ag;simp only[fi]at ag;refine ayt X z s j t0 x.id q x e al J B V id u l K I M k (some y) i he.1 he.2 b7.mh hw p m b r d L i6 (λaO aU aS bY Y co c2 bL pc aI aQ=>?_);refine pv (A:=eW [_,_,_,_,_,_,_,_,_]) (λD h E=>cF (fM:=λ_:Unit=>True) (l:=λ_=>[_,_,_,_,_,_,_,_,_]) (D:=D) () trivial (λh E=>E) h E) (Cy X {z with cI:=aI,cJ:=aQ} (Th.dd {s with bc:=dg s.bc id 7,trace:=s.trace++[({Th.c7 with kind:=3,dL:=x.id,id:=id}:bX)]} x.id {x with watched:=x.watched.erase l.cy}) m.length _ _ _ _ (eW [_,_,_,_,_,_,_,_,_]) (some y) (X.bp j) (λd2 d3 cn dS=>?_));exact Ue (z:={z with cI:=aI,cJ:=aQ}) (s:=Th.dd {s with bc:=dg s.bc id 7,trace:=s.trace++[({Th.c7 with kind:=3,dL:=x.id,id:=id}:bX)]} x.id {x with watched:=x.watched.erase l.cy}) (H:=⟨false,m,b,r,d⟩) (a:=x.id) (x:={x with watched:=x.watched.erase l.cy}) (aP:=aO) (ar:=aU) (U:=co) (Z:=c2) (aO:=Y) (aU:=aS) (aS:=bY) (bL:=bL) (pc:=pc) J C ⟨al.gL,al.gD,al.gE,by show _=(s.aJ.set _ _).length;rw[gn];exact al.ap,al.ai⟩ ((b7.Ae (aD:={s with bc:=dg s.bc id 7,trace:=s.trace++[({Th.c7 with kind:=3,dL:=x.id,id:=id}:bX)]}) rfl (Th.dM.from bJ) rfl rfl rfl Bx b7.ns.2).set B.aW.1 ⟨O.id,O.kids,O.qV⟩) (At.set (n:={x with watched:=x.watched.erase l.cy}) B rfl) ⟨T.par,T.slots,T.kids,T.K9,T.Tp,T.Tq,T.jV⟩ K.ai ag
end
def ayV(w:Int):∀(l:List Int) (x:Int) (s:ao),Th.jz w (l++[x]) s=(Th.jz w l s).bind (Th.kill x w):=TY w
structure s0(w:Int)(s:ao)(ids:List Int)(i:Nat)(d:ao):Prop where
 le:i<=ids.length
 eq:Th.jz w (ids.take i) s=some d
 lets:d.lets=s.lets
 bc:d.bc.length=s.bc.length
 ns:d.trace.length=s.trace.length+i
 Cz:d.dead.length=s.dead.length+i
 now:d.now=s.now
 bs:d.bs=s.bs
def s0.next{w:Int}{s d:ao}{ids:List Int}{i:Nat}{id:Int}{ai:List Nat}{q:Nat}{l:cW}(h:s0 w s ids i d)(O:1<=w/\w<=5)(ah:ids[i]?=some id)(K:hG ai d.lets id q l)(R:s.trace.length+ids.length<=most)(aL:s.dead.length+ids.length<=most):s0 w s ids (i+1) (kk d id l.to w):=by
 obtain⟨ak,e⟩:=dc.1 ah;have h1:=h.ns;have h2:=h.Cz;refine⟨ak,?_,h.lets,by show(dg d.bc id 8).length=_;rw[Led.yW];exact h.bc,by simp[h1];omega,by simp[h2];omega,h.now,h.bs⟩;rw[nv ak,e,ayV,h.eq,k3];exact aiZ Z1 O ae ae
def s0.start{w:Int}{s:ao}{ids:List Int}:s0 w s ids 0 s:=⟨eX _,rfl,rfl,rfl,rfl,rfl,rfl,rfl⟩
abbrev rF(a w:Int)(l:List Int)(r:List (Int×Int)):List (Int×Int):=l.foldl (λr id=>if bs r id=a then du r id w else r) r
def T6(a w:Int):∀(l:List Int) (r:List (Int×Int)),(rF a w l r).length=r.length
 |[],r=>rfl
 |
  x::l,r=>by
  rw[rF,yP];refine(T6 a w l _).trans ?_;split;exact e8;rfl
def akX(a w:Int){l:List Int}{i:Nat}{x:Int}(h:l[i]?=some x)(r:List (Int×Int)):rF a w (l.take (i+1)) r=if bs (rF a w (l.take i) r) x=a then du (rF a w (l.take i) r) x w else rF a w (l.take i) r:=by
 obtain⟨ak,e⟩:=dc.1 h;rw[nv ak,e,rF,akI];rfl
section
variable(X:cN)(p:Nat)(aC:hy)(aK:¬aC.out=0)
include aK
theorem ayW(av:aC.ref.length<=1000):ad aa 149 [ptr p 0] [c3 X p (.eS aC)] (λu H=>∃a c,u=ul a c aC.ref/\H=[fE a c aC.ref,c3 X p (.eS aC)]):=by
 have h:=Ck.aou X.dv X.C.dH p aC (λh=>absurd h aK) av;have e:Ck.lX aC aC.ref=aC.ref:=a8 aK;rw[e]at h;exact h
theorem ayX(av:aC.cut.length<=1000):ad aa 151 [ptr p 0] [c3 X p (.eS aC)] (λu H=>∃a c,u=ul a c aC.cut/\H=[fE a c aC.cut,c3 X p (.eS aC)]):=by
 have h:=Ck.aop X.dv X.C.dH p aC (λh=>absurd h aK) av;have e:Ck.lX aC aC.cut=aC.cut:=a8 aK;rw[e]at h;exact h
theorem ayY(av:aC.due.length<=1000):ad aa 155 [ptr p 0] [c3 X p (.eS aC)] (λu H=>∃a c,u=ul a c aC.due/\H=[fE a c aC.due,c3 X p (.eS aC)]):=by
 have h:=Ck.aok X.dv X.C.dH p aC (λh=>absurd h aK) av;have e:Ck.lX aC aC.due=aC.due:=a8 aK;rw[e]at h;exact h
end
def ayZ(X:cN)(w:fX)(O:mn w):ad aa 152 [ptr X.dv.c 0] [fw X w] (λu H=>∃aI aQ,u=ul aI aQ (w.T.map (·.id))/\H=[fE aI aQ (w.T.map (·.id)),fw X w]):=λF D l s=>by
 have bP:dm F ([Ck.gm X.dv X.C.dH,fJ X.dv.wp w]++(gb X.dv.r X.m (X.C.dH.b+1) X.C.dH.n::D)) l:=s.imp λg t=>by
  obtain⟨_,_,dk⟩:=hd t;exact(au) g dk
 refine(Ck.an0 X.dv X.C.dH w O F _ l bP).mono ?_;rintro _ _ ⟨v,H,rfl,⟨aI,aQ,rfl,rfl⟩,bZ⟩;refine⟨_,_,rfl,⟨aI,aQ,by simp[ul],rfl⟩,bZ.imp λg t=>?_⟩;have ay:fE aI aQ (w.T.map (·.id))=own (.slice aI w.T.length aQ) 36 1 w.T.length (w.T.map λt=>bw t.id):=by simp[fE,ul,iS,wU,Function.comp_def]
 rw[ay];exact Sat.tail (λg t=>cF (D:=D) () trivial (λg t=>t) g ((au) g t)) t
def ay0(X:cN)(z:dn)(s:ao)(j p:Nat)(aC:hy)(aP ar U:Nat)(y:Option ao)(aK:¬aC.out=0)(d:aC.ref.length<=64)(ip:aC.cut.length<=64)(r:aC.due.length<=64)(e:mn s.bs)(m6:s.bs.T.length<=1099511627776)(aE:X.C.dG<=64)(g:s.bc.length<=most)(C:s.now<most)(hO:s.trace.length<most)(m:∀id∈aC.ref,∃q l,hG z.ai s.lets id q l)(f:∀id∈aC.cut,∃q l,hG z.ai s.lets id q l)(R:s.trace.length+1+aC.ref.length+aC.cut.length<=most)(aL:s.dead.length+aC.ref.length+aC.cut.length<=most)(h:∀bP bZ,Th.jz 1 aC.ref Ed=some bP->Th.jz 4 aC.cut bP=some bZ->∀cI cJ co a4 d5,ad aa 156 [ptr (X.bp j) 0,af aC.due.length,bj 157 [ptr U 0,ptr co 0],bj 159 []] ([ab U 106 eo,ab co 49 [ul a4 d5 aC.due],fE a4 d5 aC.due]++bl X zg Ei) (ct X y)):ad aa 148 l3 ([ab aP 32 [ptr X.h 0],ab ar 248 [ptr p 0],ab U 106 eo,c3 X p (.eS aC)]++bl X z s) (ct X y):=by
 refine aw Tryz.func148 λF D=>?_;have m9:most=1099511627776:=rfl;have N:s.now<1099511627776:=C;have S:s.bc.length<=1099511627776:=g;have T:(Ed:ao).trace.length=s.trace.length+1:=ga;refine bi ?_;refine aB rfl (fk (((s.now+1:Nat):Int)) eZ rfl rfl) ?_;refine bi ?_;refine cu [] [6,201] [ab aP 32 [ptr X.h 0],ab X.h 108 ((qE X z s).set (0+24) (af ((s.now+1:Nat):Int)))] ?_;refine bi ?_;refine br (l6 X z {s with now:=s.now+1} (P3:bX) hO) ?_;refine l5 ?_;intro aI aQ;refine cq ?_;refine ci rfl (b1 rfl (ayW X p aC aK ae) bF) ?_;rintro _ D ⟨_,⟨cr,c1,rfl,rfl⟩,rfl⟩;refine uB ?_;refine gG (bv:=Nat×Option Addr×Nat×ao) (λE=>s0 1 (Ed:ao) aC.ref E.1 E.2.2.2) (λE=>((29,af E.1)::(28,af aC.ref.length)::(27,ul cr c1 aC.ref)::Ja)) (λE=>fE cr c1 aC.ref::ab aP 32 [ptr X.h 0]::ab ar 248 [ptr p 0]::ab U 106 eo::c3 X p (.eS aC)::cL X {z with cI:=E.2.1,cJ:=E.2.2.1} E.2.2.2::dP E.2.1 E.2.2.1 E.2.2.2.trace::fl z.na z.fq E.2.2.2.notes::b3 X.am .i64 (cf z.ap)::ax (e5 X z.ap E.2.2.2.aJ)::b3 X.e6 .u64 (cf z.ai)::ax (gj z.ai E.2.2.2.lets)::Lg.ds X.ld E.2.2.2.bc::ez X.da X.C.dG E.2.2.2.dead::ch X.m E.2.2.2.L z.tt::fA X::fw X E.2.2.2.bs::eC X.bG X.m X.C.bG X.C.aZ::ax (dZ X)::fu X::gk X::gX X::gd X::ax (de X z.ap z.ai E.2.2.2.az)::D) (λE=>aC.ref.length -E.1) (0,aI,aQ,(Ed:ao)) (s0.start) dy (au) ?_;rintro⟨i,cI,cJ,bP⟩ bC;replace bC:s0 1 (Ed:ao) aC.ref i bP:=bC;have B:=bC.le;have V:bP.trace.length=s.trace.length+1+i:=by have bh:=bC.ns;simpa using bh
 have Y:bP.dead.length=s.dead.length+i:=bC.Cz;have Z:bP.bc.length=s.bc.length:=bC.bc;have o:bP.lets=s.lets:=bC.lets;have t:bP.bs=s.bs:=bC.bs;dsimp only;refine bi ?_;refine cg (λW=>?_) (λW=>?_)
 . have b:i<aC.ref.length:=by omega
   obtain⟨v,ah⟩:∃v,aC.ref[i]?=some v:=⟨_,cz b⟩;obtain⟨c,l,a⟩:=m v y7;rw[<-o]at a;refine bi ?_;refine aB rfl (fI rfl rfl (show i<aC.ref.length by omega)) ?_;refine BR ?_;refine bi ?_;refine ci rfl (b1 rfl (tL X zg bP v 1 c l a bJ aE ae ae ae) bF) ?_;refine RR ?_;intro aI aQ;refine fD (i+1,aI,aQ,kk bP v l.to 1) (bC.next bJ ah a (by show(s.trace++[_]).length+_<=_;simp only[eL,iE,lp];omega) (by show s.dead.length+_<=_;omega)) (show aC.ref.length -(i+1)<aC.ref.length -i by omega) dy (au)
 . obtain rfl:i=aC.ref.length:=by omega
   have u:=bC.eq;rw[nw]at u;refine cq ?_;have J:bP.lets=s.lets:=o;refine bb ?_;refine ci rfl (b1 rfl (ayX X p aC aK ae) bF) ?_;rintro _ D ⟨_,⟨cD,bn,rfl,rfl⟩,rfl⟩;refine uB ?_;refine gG (bv:=Nat×Option Addr×Nat×ao) (λE=>s0 4 bP aC.cut E.1 E.2.2.2) (λE=>((40,af E.1)::(39,af aC.cut.length)::(38,ul cD bn aC.cut)::Ja)) (λE=>fE cD bn aC.cut::ab aP 32 [ptr X.h 0]::ab ar 248 [ptr p 0]::ab U 106 eo::c3 X p (.eS aC)::cL X {z with cI:=E.2.1,cJ:=E.2.2.1} E.2.2.2::dP E.2.1 E.2.2.1 E.2.2.2.trace::fl z.na z.fq E.2.2.2.notes::b3 X.am .i64 (cf z.ap)::ax (e5 X z.ap E.2.2.2.aJ)::b3 X.e6 .u64 (cf z.ai)::ax (gj z.ai E.2.2.2.lets)::Lg.ds X.ld E.2.2.2.bc::ez X.da X.C.dG E.2.2.2.dead::ch X.m E.2.2.2.L z.tt::fA X::fw X E.2.2.2.bs::eC X.bG X.m X.C.bG X.C.aZ::ax (dZ X)::fu X::gk X::gX X::gd X::ax (de X z.ap z.ai E.2.2.2.az)::D) (λE=>aC.cut.length -E.1) (0,cI,cJ,bP) (s0.start) dy (au) ?_;rintro⟨i,cI,cJ,bZ⟩ bC;replace bC:s0 4 bP aC.cut i bZ:=bC;have B:=bC.le;have aDS:bZ.trace.length=bP.trace.length+i:=by have bh:=bC.ns;simpa using bh
   have aDT:bZ.dead.length=bP.dead.length+i:=bC.Cz;have aDU:bZ.bc.length=bP.bc.length:=bC.bc;have K:bZ.lets=bP.lets:=bC.lets;have H:bZ.bs=bP.bs:=bC.bs;dsimp only;refine bi ?_;refine cg (λM=>?_) (λM=>?_)
   . have b:i<aC.cut.length:=by omega
     obtain⟨v,ah⟩:∃v,aC.cut[i]?=some v:=⟨_,cz b⟩;obtain⟨c,l,a⟩:=f v y7;rw[<-J,<-K]at a;refine bi ?_;refine aB rfl (fI rfl rfl (show i<aC.cut.length by omega)) ?_;refine BR ?_;refine bi ?_;refine ci rfl (b1 rfl (tL X zg bZ v 4 c l a bJ aE ae ae ae) bF) ?_;refine RR ?_;intro aI aQ;refine fD (i+1,aI,aQ,kk bZ v l.to 4) (bC.next bJ ah a ae ae) (show aC.cut.length -(i+1)<aC.cut.length -i by omega) dy (au)
   . obtain rfl:i=aC.cut.length:=by omega
     have I:=bC.eq;rw[nw]at I;refine cq ?_;have aDV:(bZ.bs.T.map (·.id)).length<=1099511627776:=by rw[H,t,oQ];exact m6
     refine bB ?_;refine ci rfl (b1 rfl (ayZ X bZ.bs (by rw[H,t];exact e)) bF) ?_;rintro _ D ⟨_,⟨a3,b9,rfl,rfl⟩,rfl⟩;refine uB ?_;refine gG (bv:=Nat) (λi=>i<=(bZ.bs.T.map (·.id)).length) (λi=>((54,af i)::(53,af (bZ.bs.T.map (·.id)).length)::(52,ul a3 b9 (bZ.bs.T.map (·.id)))::Ja)) (λi=>fE a3 b9 (bZ.bs.T.map (·.id))::ab aP 32 [ptr X.h 0]::ab ar 248 [ptr p 0]::ab U 106 eo::c3 X p (.eS aC)::cL X zg bZ::dP cI cJ bZ.trace::fl z.na z.fq bZ.notes::b3 X.am .i64 (cf z.ap)::ax (e5 X z.ap bZ.aJ)::b3 X.e6 .u64 (cf z.ai)::ax (gj z.ai bZ.lets)::Lg.ds X.ld Ek::ez X.da X.C.dG bZ.dead::ch X.m bZ.L z.tt::fA X::fw X bZ.bs::eC X.bG X.m X.C.bG X.C.aZ::ax (dZ X)::fu X::gk X::gX X::gd X::ax (de X z.ap z.ai bZ.az)::D) (λi=>(bZ.bs.T.map (·.id)).length -i) 0 (eX _) dy Pt ?_;intro i bC;replace bC:i<=(bZ.bs.T.map (·.id)).length:=bC;refine bi ?_;refine cg (λL=>?_) (λL=>?_)
     . obtain⟨v,ah⟩:∃v,(bZ.bs.T.map (·.id))[i]?=some v:=⟨_,cz (show i<(bZ.bs.T.map (·.id)).length by omega)⟩
       refine bi ?_;refine aB rfl (fI rfl rfl (show i<(bZ.bs.T.map (·.id)).length by omega)) ?_;refine BR ?_;refine c8 ?_;refine aT (Lg.O1 X.ld Ek v) ?_;refine b6 ?_;refine cg (λfH=>?_) (λfH=>?_)
       . have O:bs Ek v=5:=by simpa using fH
         refine bi ?_;refine ci rfl (b1 rfl (Lg.Bo X.ld Ek v 6 (by rw[T6];omega)) bF) ?_;refine RQ ?_;refine fD (i+1) (show i+1<=(bZ.bs.T.map (·.id)).length by omega) (show(bZ.bs.T.map (·.id)).length -(i+1)<(bZ.bs.T.map (·.id)).length -i by omega) dy (by rw[akX 5 6 ah,bd O];exact(au))
       . have O:¬bs Ek v=5:=by simpa using fH
         refine C8 ?_;refine fD (i+1) (show i+1<=(bZ.bs.T.map (·.id)).length by omega) (show(bZ.bs.T.map (·.id)).length -(i+1)<(bZ.bs.T.map (·.id)).length -i by omega) dy (by rw[akX 5 6 ah,a8 O];exact(au))
     . obtain rfl:i=(bZ.bs.T.map (·.id)).length:=by omega
       rw[nw];refine bQ ?_;refine ci rfl (b1 rfl (ayY X p aC aK ae) bF) ?_;rintro _ D ⟨_,⟨a4,d5,rfl,rfl⟩,rfl⟩;refine fm ?_;refine wn λco=>?_;refine dC ?_;refine gG (bv:=Nat) (λi=>i<=aC.due.length) (λi=>((76,af i)::(75,af aC.due.length)::(74,ul a4 d5 aC.due)::(9,ptr co 0)::Ja)) (λi=>fE a4 d5 aC.due::ab aP 32 [ptr X.h 0]::ab ar 248 [ptr p 0]::ab U 106 eo::c3 X p (.eS aC)::ab co 49 [ul a4 d5 aC.due]::cL X zg bZ::dP cI cJ bZ.trace::fl z.na z.fq bZ.notes::b3 X.am .i64 (cf z.ap)::ax (e5 X z.ap bZ.aJ)::b3 X.e6 .u64 (cf z.ai)::ax (gj z.ai bZ.lets)::Lg.ds X.ld ac1::ez X.da X.C.dG bZ.dead::ch X.m bZ.L z.tt::fA X::fw X bZ.bs::eC X.bG X.m X.C.bG X.C.aZ::ax (dZ X)::fu X::gk X::gX X::gd X::ax (de X z.ap z.ai bZ.az)::D) (λi=>aC.due.length -i) 0 (eX _) dy Pt ?_;intro i bC;replace bC:i<=aC.due.length:=bC;refine bi ?_;refine cg (λw=>?_) (λw=>?_)
       . obtain⟨v,ah⟩:∃v,aC.due[i]?=some v:=⟨_,cz (show i<aC.due.length by omega)⟩
         refine bi ?_;refine aB rfl (fI rfl rfl (show i<aC.due.length by omega)) ?_;refine BR ?_;refine cv ?_;refine ci rfl (b1 rfl (Lg.Bo X.ld ac1 v 1 (by rw[TX,T6];omega)) bF) ?_;refine RQ ?_;refine fD (i+1) (show i+1<=aC.due.length by omega) (show aC.due.length -(i+1)<aC.due.length -i by omega) dy (by rw[akH 1 ah];exact(au))
       . obtain rfl:i=aC.due.length:=by omega
         rw[nw];refine c8 ?_;refine br (h bP bZ u I cI cJ co a4 d5) ?_;exact xl
section
variable{X:cN}{j p f:Nat}{c:List Value}{z:dn}{s y:ao}{k:Th.K}{g:ao->bU->Th.K->Option ao}{a:Nat}{x:bR}{id:Int}
def FF{X:cN}{z:dn}{s:ao}(al:bE X z s)(h:ad aa f [] (bl X z s) (aH eu (bl X z s))):ad aa f [] (bl X z s) (ct X (some s)):=λF D w st=>
 (h F D w st).mono λ_ _ ⟨v,H,e,p,q⟩=>⟨v,H,e,⟨p.1,z,s,rfl,al,p.2⟩,q⟩
def ak8{L D:List aq}{X:cN}{z:dn}{s:ao}{h:eA}(bh:Sat ((L++bl X z s)++D) h):X.P.length<=4611686018427387904/\∀k∈X.P,lT k:=by
 have E:Sat (gd X::(L++[cL X z s,dP z.cI z.cJ s.trace,fl z.na z.fq s.notes,b3 X.am .i64 (cf z.ap),ax (e5 X z.ap s.aJ),b3 X.e6 .u64 (cf z.ai),ax (gj z.ai s.lets),Lg.ds X.ld s.bc,ez X.da X.C.dG s.dead,ch X.m s.L z.tt,fA X,fw X s.bs,eC X.bG X.m X.C.bG X.C.aZ,ax (dZ X),fu X,gk X,gX X])++(ax (de X z.ap z.ai s.az)::D)) h:=Fy (L++[cL X z s,dP z.cI z.cJ s.trace,fl z.na z.fq s.notes,b3 X.am .i64 (cf z.ap),ax (e5 X z.ap s.aJ),b3 X.e6 .u64 (cf z.ai),ax (gj z.ai s.lets),Lg.ds X.ld s.bc,ez X.da X.C.dG s.dead,ch X.m s.L z.tt,fA X,fw X s.bs,eC X.bG X.m X.C.bG X.C.aZ,ax (dZ X),fu X,gk X,gX X]) (by rw[jE]at bh⊢;exact bh);have z0:=E;obtain⟨_,_,_,_,⟨a,j,o⟩,_⟩:=z0;have gr:a.length=X.P.length:=LB j;have av:a.length*80<=140737488351232:=o.len;exact⟨by omega,λk hk=>ayS E hk⟩
def azG{P:Program}{f:FuncId}{args:List Value}(L:List aq){X:cN}{z:dn}{s:ao}{post:Value->List aq->Prop}(h:X.P.length<=4611686018427387904->(∀k∈X.P,lT k)->ad P f args (L++bl X z s) post):ad P f args (L++bl X z s) post:=λF D w st=>
 h (ak8 st.e4).1 (ak8 st.e4).2 F D w st
def azH{t:List (cC×List Int)}{fj:cC}{n:Nat}(h:∀p∈t,p.2.length<n)(bh:0<n):(Th.gF t fj).length<n:=by
 induction t with
 |nil=>exact bh
 |
  cons p r K=>
  obtain⟨k,l⟩:=p;unfold Th.gF;split
  . exact h (k,l) (O3 ..)
  . exact K λp hp=>h p (Ie _ hp)
theorem ak9{q:Nat}{x:bR}{left:Nat}(J:X.C.ok)(C:hv X j g)(al:bE X z s)(b7:cQ X.C j s)(B:At X z.ap s.aJ a q x)(T:eD X.C x)(he:s.dead.length<most/\s.trace.length<most)(L:∀id l,Th.jX s id=some l->0<=l.n/\l.n<=255)(ag:Th.p8 X.C g j s a left=some y):ad aa 196 Es (bl X z s) dX:=by
 have O:=B.qb b7;refine aze J C al b7 B (λid I M ba h=>?_) ag;exact ak7 J C ⟨al.gL,al.gD,al.gE,by show _=(s.aJ.set _ _).length;rw[gn];exact al.ap,al.ai⟩ (b7.set B.aW.1 ⟨O.id,O.kids,by have:=O.qV;show 3*(x.front.dropLast.length+x.aside.length)<most;rw[ajN];omega⟩) (At.set B B.cx) ⟨T.par,T.slots,T.kids,T.K9,T.Tp,T.Tq,T.jV⟩ he (L id) h
def azI{k:Th.K}(al:bE X z s):ad aa f c (a7 X z.ap z.ai j p (.nil) f c::bl X z s) (ct X (some s)):=by
 refine ay5 λf ba=>?_;rcases ba with rfl|rfl|rfl|rfl|rfl
 . exact FF al (ayI _)
 . exact FF al (ayJ _)
 . exact FF al (ayK _)
 . exact FF al (ayL _)
 . exact FF al (ayM _)
theorem azJ{k:Th.K}{g:ao->bU->Th.K->Option ao}{a:Nat}{x:bR}{left:Nat}(J:X.C.ok)(C:hv X j g)(al:bE X z s)(b7:cQ X.C j s)(ah:Th.dE s a=some x)(T:eD X.C x)(he:s.dead.length<most/\s.trace.length<most)(L:∀id l,Th.jX s id=some l->0<=l.n/\l.n<=255)(av:1<=left/\left<=16)(ag:Th.p8 X.C g j s a (left -1)=some y):ad aa f c (a7 X z.ap z.ai j p (.next a left) f c::bl X z s) dX:=by
 refine iU (a7.eq_10 ..) ?_;rintro⟨aP,ar,U,q⟩ ⟨rfl,rfl,bm⟩;dsimp only;have d:1<=left:=av.1;have ip:left<=16:=av.2;have h:ad aa 196 [ptr (X.bp j) 0,ptr q 0,af (left -1:Nat)] (bl X z s) dX:=(ak9 J C al b7 nM T he L ag);refine aw Tryz.func236 λF D=>?_;refine bK ?_;refine aB rfl (kl ((left -1:Nat):Int) eZ rfl rfl) ?_;exact vl
theorem azK{k:Th.K}{g:ao->bU->Th.K->Option ao}{a:Nat}{x:bR}{left b:Nat}{V:gw}(J:X.C.ok)(C:hv X j g)(al:bE X z s)(b7:cQ X.C j s)(ah:Th.dE s a=some x)(T:eD X.C x)(he:s.dead.length<most/\s.trace.length<most)(L:∀id l,Th.jX s id=some l->0<=l.n/\l.n<=255)(v:sK V)(ag:(if V.out≠1 then Th.vD j s a else Th.qS X.C g j s a V.val (.next a left))=some y):ad aa f c (a7 X z.ap z.ai j p (.nr a left) f c::c3 X p kH::bl X z s) dX:=by
 refine iU (a7.eq_11 ..) ?_;rintro⟨aP,ar,U,Z,d,q⟩ ⟨rfl,rfl,bm⟩;dsimp only;have B:=At.mk' al b7 ah bm;split at ag
 . rename_i aK
   have h:ad aa 232 qz (bl X z s) dX:=(akZ al b7 B ag);refine aw Tryz.func240 λF D=>?_;refine aee ?_;refine cq ?_;refine br (h) ?_;exact zw
 . rename_i aK
   have aK:V.out=1:=(Decidable.not_not.1 aK);have h:ad aa 238 [ptr (X.bp j) 0,ptr q 0,bw V.val,bj 236 [ptr ar 0,ptr U 0,ptr d 0]] (a7 X z.ap z.ai j 0 (.next a left) 236 [ptr ar 0,ptr U 0,ptr d 0]::bl X z s) dX:=(ak7 J C al b7 B T he (L _) ag);refine aw Tryz.func240 λF D=>?_;refine RF ?_;refine hU [5,7] [5] [(0,.bI),(1,.bI),(2,.loc),(3,.loc),(4,.loc),(6,.bI),(5,.c5),(7,.c5)] [ab aP 246 [ptr p 0],ab ar 106 eo,ab U 110 [ptr q 0],ab Z 1 [bj 236 [ptr ar 0,ptr U 0,ptr d 0]],c3 X p kH] mixed gB ?_;refine bi ?_;refine Ri ?_;refine br (iA (a7.eq_10 ..) (ar,U,d,q) u6 h) ?_;refine ps ?_;exact pq
theorem azL{k:Th.K}{g:ao->bU->Th.K->Option ao}{a:Nat}{x:bR}{b:Nat}{V:gw}(J:X.C.ok)(C:hv X j g)(al:bE X z s)(b7:cQ X.C j s)(ah:Th.dE s a=some x)(T:eD X.C x)(he:s.dead.length<most/\s.trace.length<most)(L:∀id l,Th.jX s id=some l->0<=l.n/\l.n<=255)(v:sK V)(Y:V.out=1->0<=V.val)(ag:(if V.out≠1 then Th.p8 X.C g j s a X.C.mJ else(s.notes[V.val.toNat]?).bind λm=>Th.sW X.C g j s a m (.on a))=some y):ad aa f c (a7 X z.ap z.ai j p (.jk a) f c::c3 X p kH::bl X z s) dX:=by
 refine iU (a7.eq_7 ..) ?_;rintro⟨aP,ar,U,q⟩ ⟨rfl,rfl,bm⟩;dsimp only;have B:=At.mk' al b7 ah bm;obtain⟨t,N,_⟩:=b7.jW;split at ag
 . rename_i aK
   have h:ad aa 196 [ptr (X.bp j) 0,ptr q 0,af X.C.mJ] (bl X z s) dX:=(ak9 J C al b7 B T he L ag);refine aw Tryz.func195 λF D=>?_;haveI:=gf (X:=X) (ap:=z.ap) (ai:=z.ai) N;refine aee ?_;refine bK ?_;refine cu [] [10,201] (ab ar 106 eo::ab U 110 [ptr q 0]::qy) ?_;refine c8 ?_;refine br (h) ?_;exact xk
 . rename_i aK
   have aK:=Decidable.not_not.1 aK;have Y:=Y aK;obtain⟨m,bf,ag⟩:=gZ.1 ag;have Y:V.val=((V.val.toNat):Int):=ae;have K:s.notes.length<most:=b7.notes;have h:ad aa 197 [ptr (X.bp j) 0,ptr q 0,.agg (iz m).toArray,bj 198 [ptr U 0,ptr ar 0]] (a7 X z.ap z.ai j 0 (.on a) 198 [ptr U 0,ptr ar 0]::bl X z s) dX:=(azd J C al b7 B (b7.La m (js bf)) T.K9 ag);refine aw Tryz.func195 λF D=>?_;haveI:=gf (X:=X) (ap:=z.ap) (ai:=z.ai) N;have d:(V.val.toNat)<s.notes.length:=(dc.1 bf).1;have e:s.notes.length<1099511627776:=K;refine RF ?_;refine hU [12,17] [12] [(0,.bI),(1,.bI),(2,.bI),(3,.bI),(4,.bI),(5,.bI),(6,.bI),(7,.bI),(8,.bI),(9,.loc),(10,.loc),(11,.loc),(16,.bI),(12,.c5),(13,.loc),(14,.loc),(15,.loc),(17,.c5)] [ab aP 246 [ptr p 0],ab ar 106 eo,ab U 110 [ptr q 0],c3 X p kH,cL X z s,fl z.na z.fq s.notes,ax lJ] mixed gB ?_;refine fr ?_;refine Ri ?_;refine go_v rfl .none rfl (o6 ((V.val.toNat):Int) (by rw[Y];exact je (by omega)) rfl) ?_;refine go_v rfl .none rfl (fI rfl rfl (show(V.val.toNat)<s.notes.length by omega)) ?_;refine go_v rfl .none rfl (kv rfl (kw iz 3 avr bf) rfl) ?_;refine br (iA (a7.eq_8 ..) (U,ar,q) ⟨rfl,rfl,bm⟩ h) ?_;refine ps ?_;exact pq
theorem azM{H:dt}(J:X.C.ok)(C:hv X j g)(al:bE X z s)(b7:cQ X.C j s)(ah:Th.dE s a=some x)(ag:((Th.tell {Th.c7 with kind:=4,dL:=a,id:=id,name:=H.state} (Th.dd s a {x with state:=H.state})).bind λs=>if H.stop then Th.qR X.C g j s a k else if H.fail≠[]then Th.rO X.C g j s a H.fail k else g s Th.dF k)=some y):ad aa f c (a7 X z.ap z.ai j p (.ended a id H k) f c::bl X z s) dX:=by
 refine iU (a7.eq_13 ..) ?_;rintro⟨aP,ar,U,Z,aO,aU,q,I,M,bL,pc⟩ ⟨rfl,rfl,bm⟩;dsimp only;have B:=At.mk' al b7 ah bm;obtain rfl:a=x.id:=B.cx.symm;have O:=B.qb b7;obtain⟨t,N,R⟩:=b7.jW;replace ag:=gZ.1 ag;obtain⟨s1,l,ag⟩:=ag;obtain⟨o,rfl⟩:=Th.li l;replace o:s.trace.length<most:=o;obtain⟨i,m,b,r,d⟩:=H;simp only at ag;cases r with
 |
  true=>
  simp only[fi]at ag;refine xQ B λe V=>?_;exact ayv X z s j t x.id q x e B V id I M k (some y) aP ar U Z aO aU bL pc i m b d o (λaI aQ=>Ua (z:={z with cI:=aI,cJ:=aQ}) J C ⟨al.gL,al.gD,al.gE,by show _=(s.aJ.set _ _).length;rw[gn];exact al.ap,al.ai⟩ ((b7.Ae (aD:={s with trace:=s.trace++[({Th.c7 with kind:=4,dL:=x.id,id:=id,name:=b}:bX)]}) rfl Th.dM.same rfl rfl rfl Bx b7.ns.2).set B.aW.1 ⟨O.id,O.kids,O.qV⟩) (At.set (n:={x with state:=b}) B rfl) ag)
 |
  false=>
  simp only[eP,ep]at ag;split at ag
  . rename_i T
    refine xQ B λe V=>?_;exact ayw X z s j t x.id q x e B V id I M k (some y) aP ar U Z aO aU bL pc i m b d o T (λaI aQ=>Ub (z:={z with cI:=aI,cJ:=aQ}) J C ⟨al.gL,al.gD,al.gE,by show _=(s.aJ.set _ _).length;rw[gn];exact al.ap,al.ai⟩ ((b7.Ae (aD:={s with trace:=s.trace++[({Th.c7 with kind:=4,dL:=x.id,id:=id,name:=b}:bX)]}) rfl Th.dM.same rfl rfl rfl Bx b7.ns.2).set B.aW.1 ⟨O.id,O.kids,O.qV⟩) (At.set (n:={x with state:=b}) B rfl) ag)
  . rename_i T
    obtain rfl:=Decidable.not_not.1 T;refine q2 [_,_,_,_,_,_,_] λba=>?_;refine xQ (L:=[_,_,_,_,_,_,_,_]) B λe V=>?_;exact ayx X z s j t x.id q x e B V id I M k (some y) aP ar U Z aO aU bL pc i m b [] o (λaI aQ=>⟨ba,C h3 (Th.dd IX x.id JC) k y I M ⟨al.gL,al.gD,al.gE,by show _=(s.aJ.set _ _).length;rw[gn];exact al.ap,al.ai⟩ ag⟩)
def azN{v:Int}(J:X.C.ok)(C:hv X j g)(al:bE X z s)(b7:cQ X.C j s)(ah:Th.dE s a=some x)(Y:0<=v)(ag:(if v<4611686018427387904 then Th.mI X.C g j s (.l9 a) 0 (min v.toNat X.C.aZ) (.parent a k)else none)=some y):ad aa f c (a7 X z.ap z.ai j p (.who a k) f c::c3 X p (.fV v)::bl X z s) dX:=by
 refine iU (a7.eq_29 ..) ?_;rintro⟨aP,ar,U,Z,aO,q,I,M⟩ ⟨rfl,rfl,bm⟩;dsimp only;have B:=At.mk' al b7 ah bm;have n:=J.hg;split at ag
 . rename_i b
   have Y:0<=v/\v<4611686018427387904:=⟨Y,b⟩;have h:ad aa 156 [ptr (X.bp j) 0,af (min v.toNat X.C.aZ:Nat),bj 403 [ptr Z 0,ptr U 0],bj 404 [ptr Z 0,ptr aO 0,ptr U 0]] ([ab Z 110 [ptr q 0],ab U 106 eo,ab aO 1 [bj I M],a7 X z.ap z.ai j 0 k I M]++bl X z s) dX:=by
    refine pv (λD h E=>cF () trivial qB h E) (Cy X z s (min v.toNat X.C.aZ) _ _ _ _ (eW [_,_,_,_]) (some y) (X.bp j) (λd2 d3 cn dS=>?_));exact ak4 (ea:=none) (cA:=0) (ar:=U) (U:=aO) J C al B (nb (Nat.min_le_right _ _) n) (eX _) ag
   refine aw Tryz.func402 λF D=>?_;haveI:=FB (X:=X) (p:=p) (v:=v);refine aG ?_;refine cu [] [12] [ab aP 314 [ptr p 0],ab ar 32 [ptr X.h 0],c3 X p (.fV v),cL X z s] ?_;refine bK ?_;refine go_v rfl .none rfl (o6 v y2 rfl) ?_;refine bB ?_;refine go_v rfl .none rfl (td ((min v.toNat X.C.aZ:Nat):Int) ae rfl rfl) ?_;refine bQ ?_;exact vl
 . cases ag
theorem azO{e:fv}{aC:hy}(J:X.C.ok)(C:hv X j g)(al:bE X z s)(b7:cQ X.C j s)(ah:Th.dE s a=some x)(T:eD X.C x)(hp:aC.out=0->aC.val=0)(ag:(if aC.out=2 then(Th.kill id 1 s).bind λs=>g s Th.dF k else(Th.dE (Th.lg s id 1 5) a).bind λx=>g (Th.dd (Th.lg s id 1 5) a {x with timers:=Th.ma x.timers e.name id}) Th.dF k)=some y):ad aa f c (a7 X z.ap z.ai j p (.asked id a e k) f c::c3 X p (.eS aC)::bl X z s) (ct X (some y)):=by
 refine iU (a7.eq_19 ..) ?_;rintro⟨aP,ar,U,Z,aO,aU,q,I,M⟩ ⟨rfl,rfl,bm⟩;dsimp only;have B:=At.mk' al b7 ah bm;obtain⟨t,N,R⟩:=b7.jW;refine q2 [_,_,_,_,_,_] λba=>?_;split at ag
 . rename_i aK
   obtain⟨s1,hk,aN⟩:=gZ.1 ag;obtain⟨l,av,aL,o,_,rfl⟩:=Th.zR hk;obtain⟨u,K⟩:=hG.of al av;have aM:s.bc.length<=most:=b7.mh;have aE:X.C.dG<=64:=J.sY;have aF:∀aI aQ,hr X j {z with cI:=aI,cJ:=aQ} (kk s id l.to 1) k I M (some y):=(λaI aQ=>⟨ba,C {z with cI:=aI,cJ:=aQ} (kk s id l.to 1) k y I M ⟨al.gL,al.gD,al.gE,al.ap,al.ai⟩ aN⟩);refine aw Tryz.func389 λF D=>?_;refine bi ?_;refine aT (Ck.Ws X.dv X.C.dH p aC hp) ?_;refine cP ?_;refine bi ?_;refine ci rfl (b1 rfl (tL X z s id 1 u l K bJ aE aL o aM) bF) ?_;refine EL ?_;intro aI aQ;haveI:=(aF aI aQ).iT;refine bK ?_;exact afa
 . rename_i aK
   have dV:=azH (fj:=e.name) T.Tq bJ;unfold Th.lg at ag;split at ag
   . rename_i O
     obtain⟨n,d,ag⟩:=gZ.1 ag;obtain rfl:n=x:=by
      exact adH
     refine xQ (L:=[_,_,_,_,_,_,_,_]) B λaV V=>?_;have aM:s.bc.length<=most:=b7.mh;have aF:hr X j z (Th.dd {s with bc:=(du s.bc id 5)} a {n with timers:=Th.ma n.timers e.name id}) k I M (some y):=⟨ba,C z _ k y I M ⟨al.gL,al.gD,al.gE,by show _=(s.aJ.set _ _).length;rw[gn];exact al.ap,al.ai⟩ ag⟩;refine aw Tryz.func389 λF D=>?_;haveI:=aF.iT;have Ok:(Th.gF n.timers e.name).length<1099511627776:=dV;obtain⟨ea,cA,r,b⟩:=LA aV.es e.name;rw[V.es]at r b;refine ag0 ?_;refine b6 ?_;refine cu [] [5,201] [ab ar 32 [ptr X.h 0],ab U 36 [bw id],cL X z s] ?_;refine bB ?_;refine aT (Lg.Bo X.ld s.bc id 5 aM) ?_;refine b6 ?_;refine agN ?_;intro v i m;refine ci rfl (oE rfl rfl (gq (H:=[own (.slice i ((Th.gF n.timers e.name).length+1) m) 36 1 ((Th.gF n.timers e.name).length+1) (iS (Th.gF n.timers e.name)++[bw id]),a7 X z.ap z.ai j 0 k I M,ax (iy (mG aV.es e.name))]++[ab q 118 (eg X n aV),dz aV.ka aV.kc n.kids,dz aV.hP aV.hQ n.cM,gi aV.gK X.C.dY n.aside n.front,h8 aV.jx (min (max aV.b8.limit 0) 100) (min (max aV.b8.within 1) 4095) n.given,b3 aV.gQ .i64 (n.watched.map λw=>(w,.bool true)),jd aV.jy (pf (h9 aV.es) e.name (.slice i ((Th.gF n.timers e.name).length+1) m)),gO aV.b8,ax ((e5 X z.ap s.aJ).set (a -1) ft),cL X z s,dP z.cI z.cJ s.trace,fl z.na z.fq s.notes,b3 X.am .i64 (cf z.ap),b3 X.e6 .u64 (cf z.ai),ax (gj z.ai s.lets),Lg.ds X.ld (du s.bc id 5),ez X.da X.C.dG s.dead,ch X.m s.L z.tt,fA X,fw X s.bs,eC X.bG X.m X.C.bG X.C.aZ,ax (dZ X),fu X,gk X,gX X,gd X,ax (de X z.ap z.ai s.az)]) (λD h E=>(show∀h,Sat _ h->Sat ((a7 X z.ap z.ai j 0 k I M::bl X z (Th.dd {s with bc:=(du s.bc id 5)} a {n with timers:=Th.ma n.timers e.name id}))++D) h from λh E=>by
      rw[KN rfl,show Value.slice i ((Th.gF n.timers e.name).length+1) m=ul i m ((Th.gF n.timers e.name)++[id]) by simp[ul]]at E;have gt:=T3 aV.es e.name i m ((Th.gF n.timers e.name)++[id]) _ h ((show∀h,Sat _ h->Sat (fE i m ((Th.gF n.timers e.name)++[id])::ax (iy (mG aV.es e.name))::(a7 X z.ap z.ai j 0 k I M::([ab q 118 (eg X n aV),dz aV.ka aV.kc n.kids,dz aV.hP aV.hQ n.cM,gi aV.gK X.C.dY n.aside n.front,h8 aV.jx (min (max aV.b8.limit 0) 100) (min (max aV.b8.within 1) 4095) n.given,b3 aV.gQ .i64 (n.watched.map λw=>(w,.bool true)),jd aV.jy (pf (h9 aV.es) e.name (ul i m ((Th.gF n.timers e.name)++[id]))),gO aV.b8,ax ((e5 X z.ap s.aJ).set (a -1) ft),cL X z s,dP z.cI z.cJ s.trace,fl z.na z.fq s.notes,b3 X.am .i64 (cf z.ap),b3 X.e6 .u64 (cf z.ai),ax (gj z.ai s.lets),Lg.ds X.ld (du s.bc id 5),ez X.da X.C.dG s.dead,ch X.m s.L z.tt,fA X,fw X s.bs,eC X.bG X.m X.C.bG X.C.aZ,ax (dZ X),fu X,gk X,gX X,gd X,ax (de X z.ap z.ai s.az)]++D))) h from(au)) h E);exact Sat.tail (λh E=>jm (X:=X) (z:=z) (s:={s with bc:=(du s.bc id 5)}) (x:={n with timers:=Th.ma n.timers e.name id}) (e:={aV with es:=q0 aV.es e.name i m (Th.gF n.timers e.name++[id])}) B ⟨V.b8,V.lc,by rw[<-V.es];exact T2 _ _ _ _ _⟩ D h E) ((show∀h,Sat _ h->Sat (a7 X z.ap z.ai j 0 k I M::(ia X z {s with bc:=(du s.bc id 5)} a q {n with timers:=Th.ma n.timers e.name id} {aV with es:=q0 aV.es e.name i m (Th.gF n.timers e.name++[id])}++D)) h from by rw[T1];exact(au)) h gt)) h E) aF.spec) bF) ?_
     exact BY
   . rename_i O
     obtain⟨n,d,ag⟩:=gZ.1 ag;obtain rfl:n=x:=by
      rw[ah]at d;exact(od d).symm
     refine xQ (L:=[_,_,_,_,_,_,_,_]) B λaV V=>?_;have aM:s.bc.length<=most:=b7.mh;have aF:hr X j z (Th.dd {s with bc:=s.bc} a {n with timers:=Th.ma n.timers e.name id}) k I M (some y):=⟨ba,C z _ k y I M ⟨al.gL,al.gD,al.gE,by show _=(s.aJ.set _ _).length;rw[gn];exact al.ap,al.ai⟩ ag⟩;refine aw Tryz.func389 λF D=>?_;haveI:=aF.iT;have Ok:(Th.gF n.timers e.name).length<1099511627776:=dV;obtain⟨ea,cA,r,b⟩:=LA aV.es e.name;rw[V.es]at r b;refine ag0 ?_;refine bB ?_;refine agN ?_;intro v i m;refine ci rfl (oE rfl rfl (gq (H:=[own (.slice i ((Th.gF n.timers e.name).length+1) m) 36 1 ((Th.gF n.timers e.name).length+1) (iS (Th.gF n.timers e.name)++[bw id]),a7 X z.ap z.ai j 0 k I M,ax (iy (mG aV.es e.name))]++[ab q 118 (eg X n aV),dz aV.ka aV.kc n.kids,dz aV.hP aV.hQ n.cM,gi aV.gK X.C.dY n.aside n.front,h8 aV.jx (min (max aV.b8.limit 0) 100) (min (max aV.b8.within 1) 4095) n.given,b3 aV.gQ .i64 (n.watched.map λw=>(w,.bool true)),jd aV.jy (pf (h9 aV.es) e.name (.slice i ((Th.gF n.timers e.name).length+1) m)),gO aV.b8,ax ((e5 X z.ap s.aJ).set (a -1) ft),cL X z s,dP z.cI z.cJ s.trace,fl z.na z.fq s.notes,b3 X.am .i64 (cf z.ap),b3 X.e6 .u64 (cf z.ai),ax (gj z.ai s.lets),Lg.ds X.ld s.bc,ez X.da X.C.dG s.dead,ch X.m s.L z.tt,fA X,fw X s.bs,eC X.bG X.m X.C.bG X.C.aZ,ax (dZ X),fu X,gk X,gX X,gd X,ax (de X z.ap z.ai s.az)]) (λD h E=>(show∀h,Sat _ h->Sat ((a7 X z.ap z.ai j 0 k I M::bl X z (Th.dd {s with bc:=s.bc} a {n with timers:=Th.ma n.timers e.name id}))++D) h from λh E=>by
      rw[KN rfl,show Value.slice i ((Th.gF n.timers e.name).length+1) m=ul i m ((Th.gF n.timers e.name)++[id]) by simp[ul]]at E;have gt:=T3 aV.es e.name i m ((Th.gF n.timers e.name)++[id]) _ h ((show∀h,Sat _ h->Sat (fE i m ((Th.gF n.timers e.name)++[id])::ax (iy (mG aV.es e.name))::(a7 X z.ap z.ai j 0 k I M::([ab q 118 (eg X n aV),dz aV.ka aV.kc n.kids,dz aV.hP aV.hQ n.cM,gi aV.gK X.C.dY n.aside n.front,h8 aV.jx (min (max aV.b8.limit 0) 100) (min (max aV.b8.within 1) 4095) n.given,b3 aV.gQ .i64 (n.watched.map λw=>(w,.bool true)),jd aV.jy (pf (h9 aV.es) e.name (ul i m ((Th.gF n.timers e.name)++[id]))),gO aV.b8,ax ((e5 X z.ap s.aJ).set (a -1) ft),cL X z s,dP z.cI z.cJ s.trace,fl z.na z.fq s.notes,b3 X.am .i64 (cf z.ap),b3 X.e6 .u64 (cf z.ai),ax (gj z.ai s.lets),Lg.ds X.ld s.bc,ez X.da X.C.dG s.dead,ch X.m s.L z.tt,fA X,fw X s.bs,eC X.bG X.m X.C.bG X.C.aZ,ax (dZ X),fu X,gk X,gX X,gd X,ax (de X z.ap z.ai s.az)]++D))) h from(au)) h E);exact Sat.tail (λh E=>jm (X:=X) (z:=z) (s:={s with bc:=s.bc}) (x:={n with timers:=Th.ma n.timers e.name id}) (e:={aV with es:=q0 aV.es e.name i m (Th.gF n.timers e.name++[id])}) B ⟨V.b8,V.lc,by rw[<-V.es];exact T2 _ _ _ _ _⟩ D h E) ((show∀h,Sat _ h->Sat (a7 X z.ap z.ai j 0 k I M::(ia X z {s with bc:=s.bc} a q {n with timers:=Th.ma n.timers e.name id} {aV with es:=q0 aV.es e.name i m (Th.gF n.timers e.name++[id])}++D)) h from by rw[T1];exact(au)) h gt)) h E) aF.spec) bF) ?_
     exact BY
end
section
variable{X:cN}{j p f:Nat}{c:List Value}{z:dn}{s y:ao}{k:Th.K}{v:Int}{g:ao->bU->Th.K->Option ao}{a:Nat}{x:bR}{kind:cC}
def ala(h:Th.uc j s v=some y):(1<=v/\v<=s.aJ.length)/\Th.ew j s (.post v.toNat (Th.nR 2)) (.run v.toNat)=some y:=by
 unfold Th.uc at h;split at h
 . rename_i Y;exact⟨Y,h⟩
 . cases h
def FG{r m a:List (Int×Int)}(h:dM r m)(k:dM m a):dM r a:=⟨λg=>k.1 (h.1 g),k.2.trans h.2⟩
def alb(w:Int):∀(l:List Int) (r:List (Int×Int)),dM r (rE w l r)
 |[],r=>dM.same
 |x::l,r=>FG (dM.F6 (id:=x) (w:=w)) (alb w l _)
def alc(a w:Int):∀(l:List Int) (r:List (Int×Int)),dM r (rF a w l r)
 |[],r=>dM.same
 |
  x::l,r=>by
  refine FG ?_ (alc a w l _);show dM r (if bs r x=a then du r x w else r);split
  . exact dM.F6
  . exact dM.same
def azP{C:bt}{P:List b2}{s s1:ao}{id a:Nat}{kind:cC}{x:bR}(ah:Th.dE s a=some x)(h:Th.sX C P s id a kind=some s1):∃N st,P.find? (λk=>decide (k.name=kind))=some N/\N.states[0]?=some st/\id=s.aJ.length+1/\id<=C.aZ/\s.trace.length<most/\
 s1={s with aJ:=s.aJ.set (a -1) {x with kids:=x.kids++[(id:Int)]}++[mA id a N st.name],trace:=s.trace++[({Th.c7 with kind:=7,dL:=id,cy:=a,name:=kind}:bX)]}:=by
 unfold Th.sX at h;obtain⟨N,hk,h⟩:=gZ.1 h;obtain⟨st,aj,h⟩:=gZ.1 h;split at h
 . rename_i a6
   simp only[ah]at h;obtain⟨o,rfl⟩:=Th.li h;exact⟨N,st,hk,aj,a6.1,a6.2,o,rfl⟩
 . cases h
def azQ{α:Type}{l:List α}{i:Nat}{u v n:α}(h:i<l.length):(l.set i u++[n]).set i v=(l++[n]).set i v:=by
 rw[Gf _ _ (by rw[gn];exact h),Gf _ _ h,List.set_set]
def azR{id:Int}{H:dt}{i n:Nat}(J:X.C.ok)(C:hv X j g)(al:bE X z s)(b7:cQ X.C j s)(ah:Th.dE s a=some x)(T:eD X.C x)(e:n<most)(ak:i<n)(ag:Th.mI X.C g j s (.c5 a id H) (i+1) n (.ended a id H k)=some y):ad aa f c (a7 X z.ap z.ai j p (.each (.c5 a id H) i n (.ended a id H k)) f c::bl X z s) dX:=by
 refine iU (a7.eq_32 ..) ?_;rintro⟨O,dS,d2,cn,d3,aP,ar,U,Z,aO,aU,aS,q,I,M,u,ea,cA⟩ ⟨rfl,rfl,bm,b,_⟩;dsimp only;refine gq (λD h E=>Sat.tail (λh E=>Sat.tail (λh E=>Sat.tail (λh E=>Sat.tail (λh E=>Sat.tail (λh E=>cF (fM:=λ_:Unit=>True) (l:=λ_=>[_,_,_,_,_,_,_,_,_]) (D:=bl X z s++D) () trivial qB h E) E) E) E) E) E) (Fx X z s i n d2 d3 cn dS _ _ _ _ (eW [_,_,_,_,_,_,_,_,_]) (some y) O Pv ?_);exact Ue (bL:=ea) (pc:=cA) (aP:=aP) (ar:=ar) (U:=U) (Z:=Z) (aO:=aO) (aU:=aU) (aS:=aS) J C al b7 nM T b ag
def azS{k:Th.K}{aC:gC}(al:bE X z s)(b:¬aC.out=0)(b7:cQ X.C j s)(ag:Th.sleep j s (!decide (aC.out=1))=some y):ad aa f c (a7 X z.ap z.ai j p (.polled) f c::c3 X p (.fx aC)::bl X z s) dX:=by
 refine iU (a7.eq_2 ..) ?_;rintro⟨aP,ar⟩ ⟨rfl,rfl⟩;dsimp only;obtain⟨t,N,R⟩:=b7.jW;obtain⟨dk,M,ag⟩:=gZ.1 ag;obtain rfl:t=dk:=Z6;cases ag;exact jL PI (ayN X z s j p t aC (λh=>absurd h b) N R aP ar) au (λu H q=>by
  obtain⟨rfl,rfl⟩:=q;exact⟨bl X z acD,⟨rfl,z,acD,rfl,jl,rfl⟩,au⟩)
def azT{k:Th.K}{aC:gC}(J:X.C.ok)(al:bE X z s)(b:¬aC.out=0)(b7:cQ X.C j s)(i:j<X.C.a1)(ag:(if aC.out=1 then Th.uc j s aC.val else Th.ew j s (.fx (yA j)) .oZ)=some y):ad aa f c (a7 X z.ap z.ai j p (.found) f c::c3 X p (.fx aC)::bl X z s) dX:=by
 refine iU (a7.eq_3 ..) ?_;rintro⟨aP,ar⟩ ⟨rfl,rfl⟩;dsimp only;obtain⟨t,N,R⟩:=b7.jW;split at ag
 . rename_i aK
   obtain⟨Y,ag⟩:=ala ag;have hH:=b7.na;have n:=J.hg;obtain⟨x,ah⟩:∃x,Th.dE s aC.val.toNat=some x:=by
    exact ad7
   obtain⟨q,B⟩:=At.of al b7 ah;have aF:=zJ B.ap;rw[show((aC.val.toNat -1+1:Nat):Int)=aC.val by omega]at aF;refine aem ?_;intro hp Y h;refine aw Tryz.func83 λF D=>?_;exact ahk
 . rename_i aK
   obtain⟨dk,M,a,rfl⟩:=Th.jY ag;have hp:aC.out=0->aC.val=0:=(λh=>absurd h b);refine aw Tryz.func83 λF D=>?_;haveI:=gf (X:=X) (ap:=z.ap) (ai:=z.ai) M;haveI:=sH (X:=X) (ap:=z.ap) (ai:=z.ai) M;refine Rv ?_;refine bi ?_;refine il [11,12,13] [12] [1,5,9,13,17,21,25,29,33,37,41,46,50,54,3,3,3,50,46,54] [ab ar 106 [ptr (X.bp j) 0],cL X z s,ax (de X z.ap z.ai s.az)] ?_;refine c0 ?_;refine fe ?_ ?_
   . refine br (akT X i) ?_
     rintro _ _ ⟨S,rfl,rfl⟩;refine et ?_;refine aG ?_;refine wn λU=>?_;exact afH
   . refine wn λU=>?_
     refine aG ?_;refine br (akT X i) ?_;rintro _ _ ⟨S,rfl,rfl⟩;refine et ?_;exact afH
def azU{k:Th.K}{aC:gC}(J:X.C.ok)(al:bE X z s)(b:¬aC.out=0)(b7:cQ X.C j s)(ag:(if aC.out=1 then Th.uc j s aC.val else Th.sleep j s true)=some y):ad aa f c (a7 X z.ap z.ai j p (.oZ) f c::c3 X p (.fx aC)::bl X z s) dX:=by
 refine iU (a7.eq_4 ..) ?_;rintro⟨aP,ar⟩ ⟨rfl,rfl⟩;dsimp only;obtain⟨t,N,R⟩:=b7.jW;split at ag
 . rename_i aK
   obtain⟨Y,ag⟩:=ala ag;have hH:=b7.na;have n:=J.hg;obtain⟨x,ah⟩:∃x,Th.dE s aC.val.toNat=some x:=by
    exact ad7
   obtain⟨q,B⟩:=At.of al b7 ah;have aF:=zJ B.ap;rw[show((aC.val.toNat -1+1:Nat):Int)=aC.val by omega]at aF;refine aem ?_;intro hp Y h;refine aw Tryz.func87 λF D=>?_;exact ahk
 . rename_i aK
   obtain⟨dk,M,ag⟩:=gZ.1 ag;obtain rfl:t=dk:=Z6;cases ag;exact jL PI (ayO X z s j p t aC (λh=>absurd h b) N R aP ar aK) au (λu H q=>by
    obtain⟨rfl,rfl⟩:=q;exact⟨bl X z {s with az:=s.az.set j {t with ij:=true}},⟨rfl,z,{s with az:=s.az.set j {t with ij:=true}},rfl,jl,rfl⟩,au⟩)
def azV{slot:Nat}{v:Int}(J:X.C.ok)(C:hv X j g)(al:bE X z s)(b7:cQ X.C j s)(ah:Th.dE s a=some x)(T:eD X.C x)(g0:slot<4)(Y:0<=v/\v<4611686018427387904)(ag:(if(X.C.aZ:Int)<v then((Th.tell {Th.c7 with kind:=8,dL:=a,name:=kind} s).map (·,(0:Int))).bind abI else((Th.sX X.C X.P s v.toNat a kind).map (·,v)).bind abI)=some y):ad aa f c (a7 X z.ap z.ai j p (.me a kind slot k) f c::c3 X p (.fV v)::bl X z s) dX:=by
 refine iU (a7.eq_18 ..) ?_;rintro⟨aP,ar,U,Z,aO,aU,q,I,M⟩ ⟨rfl,rfl,bm⟩;dsimp only;have B:=At.mk' al b7 ah bm;have O:=B.qb b7;have m4:=B.aW.1;have dV:a -1<s.aJ.length:=(dc.1 B.ah).1;refine q2 [_,_,_,_,_,_] λba=>?_;split at ag
 . rename_i a6
   replace ag:=gZ.1 ag;obtain⟨E,K,ag⟩:=ag;obtain⟨s1,m0,rfl⟩:=kX.1 K;obtain⟨o,rfl⟩:=Th.li m0;obtain⟨n,d,ag⟩:=gZ.1 ag;obtain rfl:n=x:=by
    exact adH
   refine xQ (L:=[_,_,_,_,_,_,_,_]) B λe V=>?_;obtain rfl:a=n.id:=B.cx.symm;exact ay1 X z s j n.id q p slot kind n e al J B V I M k aP ar U Z aO aU (some y) g0 T.slots o v ⟨a6,Y.2⟩ (λaI aQ=>⟨ba,C h3 _ k y I M ⟨al.gL,al.gD,al.gE,by show _=(s.aJ.set _ _).length;rw[gn];exact al.ap,al.ai⟩ ag⟩)
 . rename_i a6
   obtain⟨id,rfl⟩:∃id:Nat,v=id:=⟨v.toNat,by omega⟩;replace ag:=gZ.1 ag;obtain⟨E,K,ag⟩:=ag;obtain⟨s1,m0,rfl⟩:=kX.1 K;rw[BW]at m0;obtain⟨N,st,i4,g4,cx,m,o,rfl⟩:=azP ah m0;obtain⟨n,d,ag⟩:=gZ.1 ag;obtain rfl:{x with kids:=x.kids++[(id:Int)]}=n:=by
    unfold Th.dE at d;rw[bd m4]at d;simp only at d;rw[k1 (by rw[gn];exact dV),xh dV]at d;exact od d
   refine azG [_,_,_,_,_,_,_,_] λt qr=>?_;refine xQ (L:=[_,_,_,_,_,_,_,_]) B λe V=>?_;have r:=qr N (rb i4);refine ay2 X z s j a q p slot kind x e al J B V I M k aP ar U Z aO aU (some y) g0 T.slots o id st.name N st t i4 r g4 rfl cx m O.kids (λi aI aQ=>⟨ba,?_⟩);refine C {z with ap:=z.ap++[i],cI:=aI,cJ:=aQ} _ k y I M ⟨al.gL,al.gD,al.gE,by show(z.ap++[i]).length=((s.aJ++[_]).set _ _).length;rw[gn,eL,eL,al.ap];rfl,al.ai⟩ ?_;rw[<-ag];unfold Th.dd;simp only;rw[azQ dV]
def azW{k:Th.K}{g:ao->bU->Th.K->Option ao}{aC:hy}(J:X.C.ok)(C:hv X j g)(al:bE X z s)(b7:cQ X.C j s)(aK:¬aC.out=0)(d:aC.due.length<=64)(ip:aC.cut.length+aC.ref.length<=64)(e:mn s.bs)(m6:s.bs.T.length<=1099511627776)(V:Th.bM s+200<most)(ag:((Th.tell P3 {s with now:=s.now+1}).bind λs=>(Th.jz 1 aC.ref s).bind λs=>(Th.jz 4 aC.cut s).bind λs=>Th.mI X.C g j (aC.due.foldl (λs id=>Th.move s id 1) ((s.bs.T.map (·.id)).foldl (λs id=>Th.lg s id 5 6) s)) (.leave aC.due) 0 aC.due.length .nil)=some y):ad aa f c (a7 X z.ap z.ai j p (.mb) f c::c3 X p (.eS aC)::bl X z s) dX:=by
 refine iU (a7.eq_5 ..) ?_;rintro⟨aP,ar,U⟩ ⟨rfl,rfl⟩;dsimp only;replace ag:=gZ.1 ag;obtain⟨s1,h1,ag⟩:=ag;replace ag:=gZ.1 ag;obtain⟨bP,h2,ag⟩:=ag;replace ag:=gZ.1 ag;obtain⟨bZ,aN,ag⟩:=ag;obtain⟨o,rfl⟩:=Th.li h1;replace o:s.trace.length<most:=o;obtain⟨⟨cD,I,bn,aV⟩,F,Z,Y,t,_⟩:=Th.Lc h2;obtain⟨⟨a3,M,b9,bz⟩,r,d8,t3,mp,_⟩:=Th.Lc aN;have u:s.trace.length+s.dead.length+s.now+200<most:=by unfold Th.bM at V;omega
 simp only[eL,iE,lp]at Y t;have b:bP.lets=s.lets:=by rw[aV]
 have i:bZ.lets=s.lets:=by rw[bz,b]
 have m:bZ.aJ=s.aJ:=by rw[bz,aV]
 have v:bZ.notes=s.notes:=by rw[bz,aV]
 have w:bZ.az=s.az:=by rw[bz,aV]
 refine ay0 X z s j p aC aP ar U (some y) aK ae ae d e m6 J.sY b7.mh ae o (λid ak=>?_) (λid ak=>?_) ae ae (λB a fS cd cI cJ co a4 d5=>?_)
 . obtain⟨l,av⟩:=Z id ak
   obtain⟨q,K⟩:=hG.of al (show Th.jX s id=some l from av);exact⟨q,l,K⟩
 . obtain⟨l,av⟩:=d8 id ak
   have ip:Th.jX s id=some l:=by unfold Th.jX at av⊢;rwa[b]at av
   obtain⟨q,K⟩:=hG.of al ip;exact⟨q,l,K⟩
 . obtain rfl:bP=B:=by rw[h2]at fS;exact od fS
   obtain rfl:bZ=a:=by rw[aN]at cd;exact od cd
   rw[Th.Ts,Th.ajV]at ag;have G:cQ X.C j Ei:=b7.Ae (aD:=Ei) m (FG F (FG r (FG (alc 5 6 _ _) (alb 1 _ _)))) v i w (by show bZ.trace.length<=most;omega) (by show bZ.dead.length<=most;omega);have H:bE X zg Ei:=⟨al.gL,al.gD,al.gE,by show z.ap.length=bZ.aJ.length;rw[m];exact al.ap,by show z.ai.length=bZ.lets.length;rw[i];exact al.ai⟩;refine pv (L:=[_,_,_]) (A:=eW [_,_,_,a7 X z.ap z.ai j 0 .nil 159 []]) (λD h E=>cF (fM:=λ_:Unit=>True) (l:=λ_=>[_,_,_,_]) (D:=D) () trivial qB h (Sat.tail (λh E=>Sat.tail (λh E=>Sat.tail (λh E=>FA (.inr (.inr (.inr (.inr rfl)))) _ h E) E) E) E)) (Cy X zg Ei aC.due.length _ _ _ _ (eW [_,_,_,_]) (some y) (X.bp j) (λd2 d3 cn dS=>?_));exact ak3 (z:={z with cI:=cI,cJ:=cJ}) (s:={bZ with bc:=rE 1 aC.due (rF 5 6 (bZ.bs.T.map (·.id)) bZ.bc)}) (ea:=a4) (cA:=d5) (aP:=U) (ar:=co) (U:=0) J C H fc G rfl ag
end
section
variable{X:cN}{ap ai:List Nat}{j p f a i n:Nat}{id:Int}{H:dt}{k:Th.K}{c:List Value}{z:dn}{D a2:List aq}{s y:ao}{h:eA}{post:Value->List aq->Prop}{r:bU}{g:ao->bU->Th.K->Option ao}
theorem ald:∀k:Th.K,64<=bx k:=λk=>by
 cases k<;>(simp only[bx,Th.nq])<;>first|omega|(rename_i d i n k;cases d<;>simp only[Th.wd]<;>omega)
theorem azX(s:Sat (a7 X ap ai j p (.each (.c5 a id H) i n k) f c::D) h):∃V,k=.ended a id H V:=by
 cases k with
 |ended cD g o k=>rw[a7]at s;obtain⟨_,hZ,_⟩:=hd s;simp only at hZ;obtain⟨_,_,_,_,rfl,rfl,rfl⟩:=hZ;exact⟨k,rfl⟩
 |_=>rw[a7]at s;obtain⟨_,hZ,_⟩:=hd s;exact hZ.elim;all_goals(intros;simp_all)
theorem azY(s:Sat (a7 X ap ai j p (.each (.l9 a) i n k) f c::D) h):∃V,k=.parent a V:=by
 cases k with
 |parent cD k=>rw[a7]at s;obtain⟨_,hZ,_⟩:=hd s;simp only at hZ;obtain⟨_,_,_,rfl⟩:=hZ;exact⟨k,rfl⟩
 |_=>rw[a7]at s;obtain⟨_,hZ,_⟩:=hd s;exact hZ.elim;all_goals(intros;simp_all)
theorem azZ(h:∀V,k=.ended a id H V->ad aa f c (a7 X ap ai j p (.each (.c5 a id H) i n k) f c::a2) post):ad aa f c (a7 X ap ai j p (.each (.c5 a id H) i n k) f c::a2) post:=λF D w s=>
 let⟨V,e⟩:=azX s.e4;h V e F D w s
theorem az0(h:∀V,k=.parent a V->ad aa f c (a7 X ap ai j p (.each (.l9 a) i n k) f c::a2) post):ad aa f c (a7 X ap ai j p (.each (.l9 a) i n k) f c::a2) post:=λF D w s=>
 let⟨V,e⟩:=azY s.e4;h V e F D w s
theorem FH{P:Program}{f:FuncId}{args:List Value}{A B:aq}{a2:List aq}{post:Value->List aq->Prop}(h:ad P f args (A::a2) post):ad P f args (A::B::a2) post:=
 gq (M:=A::a2) (λD h E=>Sat.tail (λh E=>Sat.drop E) E) h
structure CB(X:cN)(j:Nat)(s:ao):Prop where
 W:cQ X.C j s
 dl:s.dead.length<most/\s.trace.length<most
 gK:∀id l,Th.jX s id=some l->0<=l.n/\l.n<=255
 s3:∀a x,Th.dE s a=some x->eD X.C x
 ex:∀a,cG (bk s) a->∃x,Th.dE s a=some x
 na:s.aJ.length<=X.C.aZ
theorem CB.of{f:Nat->Th.fU}{X:cN}{n b5 j p q:Nat}{s:ao}(h:In f X.C X.P n j p q s)(aM:n<=bq)(hp:bM s+64<=b5)(aA:b5<1099511627776):CB X j s:=by
 have m9:most=1099511627776:=rfl;have u:s.trace.length+s.dead.length+64<=b5:=Iv;refine⟨cQ.of h aM ae,by omega,λid l e=>?_,λa x e=>(h.s3 ae e).2.2,λa v=>?_,h.base.na⟩
 . unfold Th.jX at e
   split at e
   . exact(h.base.lets l (js e)).n
   . cases e
 . obtain⟨h1,h2⟩:=v
   unfold Th.dE;rw[bd h1];have h2:a<=s.aJ.length:=h2;exact⟨_,cz ae⟩
theorem ale{k:Th.K}(J:X.C.ok)(C:hv X j g)(al:bE X z s)(K:CB X j s)(aL:c6 k)(hk:cV X.C X.P (bk s) k)(ag:dw X.C X.P g j s r k=some y):ad aa f c (a7 X z.ap z.ai j p k f c::bl X z s) dX:=by
 cases k with
 |nil=>simp only[dw]at ag;cases ag;exact azI (k:=.nil) al
 |
  run a=>
  obtain⟨x,ah⟩:=K.ex a hk;exact azg (k:=.nil) al K.W ah ag
 |
  on a=>
  obtain⟨x,ah⟩:=K.ex a hk;simp only[dw,ah,qM,k3]at ag;exact azh (k:=.nil) al K.W ah ag
 |
  next a left=>
  obtain⟨x,ah⟩:=K.ex a hk.1;exact azJ (k:=.nil) J C al K.W ah (K.s3 a x ah) K.dl K.gK hk.2 ag
 |
  ended a id H k=>
  obtain⟨x,ah⟩:=K.ex a hk.1;simp only[dw,ah,qM,k3]at ag;exact azM J C al K.W ah ag
 |
  alone a k=>
  obtain⟨x,ah⟩:=K.ex a hk.1;exact azp J C al K.W ah ag
 |
  shut a k=>
  obtain⟨x,ah⟩:=K.ex a hk.1;exact azs al K.W ah ag
 |
  parent a k=>
  obtain⟨x,ah⟩:=K.ex a hk.1;simp only[dw,ah,qM,k3]at ag;exact azu J C al K.W ah ag
 |
  each d i n k=>
  obtain⟨G,g9,hk,_,_⟩:=hk;have m9:most=1099511627776:=rfl;cases d with
  |
   c5 a id H=>
   obtain⟨h1,h2,aN,bu,dW⟩:=G;obtain⟨x,ah⟩:=K.ex a h1;refine azZ λV e=>?_;subst e;exact azR J C al K.W ah (K.s3 a x ah) ae g9 ag
  |cancel ids=>exact azA J C al G.1 (λv Y=>by have:1<=v:=(G.2 v Y).1;omega) g9 ag
  |leave due=>exact azB J C al K.W G.1 (by have:=G.2.1;omega) g9 ag
  |push l w=>exact azz J C al G.1 g9 ag
  |
   l9 a=>
   obtain⟨h1,h2,aN⟩:=G;obtain⟨x,ah⟩:=K.ex a h1;refine az0 λV e=>?_;subst e;exact azC J C al K.W ah aN ae g9 ag
 |_=>exact aL.elim
theorem az1{f0:Nat->Th.fU}{X:cN}{n b5 j p f:Nat}{c:List Value}{z:dn}{s y:ao}{r:bU}{g:ao->bU->Th.K->Option ao}{k:Th.K}(J:X.C.ok)(C:hv X j g)(al:bE X z s)(bC:In f0 X.C X.P n j (eF k) (eG k) s)(cO:n<=bq)(aA:b5<1099511627776)(W:bM s+bx k<=b5)(hk:cV X.C X.P (bk s) k)(aE:eE X.C j s r k)(aK:r.over=true)(o:∀aC,r=.eS aC->0<=aC.val/\aC.val<=18446744073709551615)(ag:dw X.C X.P g j s r k=some y):
 ad aa f c (a7 X z.ap z.ai j p k f c::c3 X p r::bl X z s) (ct X (some y)):=by
 have m9:most=1099511627776:=rfl;have H:bq=1000000000000:=rfl;have u:=ald k;have K:CB X j s:=CB.of bC cO ae aA;by_cases aL:c6 k
 . refine FH ?_
   exact ale J C al K aL hk ag
 have v:∀{b:Nat} {V:gw},bU.over kH=true->¬V.out=0:=λh e=>by simp[bU.over,gw.over,e]at h
 have q:∀{aC:gC},bU.over (.fx aC)=true->¬aC.out=0:=λh e=>by simp[bU.over,gC.over,e]at h
 have t:∀{aC:hy},bU.over (.eS aC)=true->¬aC.out=0:=λh e=>by simp[bU.over,hy.over,e]at h
 cases k with
 |polled=>obtain⟨c,rfl⟩:=aE;exact azS (k:=.nil) al (q aK) K.W ag
 |
  found=>
  obtain⟨N,aE⟩:=aE;cases r with
  |fx c=>exact azT (k:=.nil) J al (q aK) K.W N ag
  |_=>exact aE.elim
 |
  oZ=>
  obtain⟨N,aE⟩:=aE;cases r with
  |fx c=>exact azU (k:=.nil) J al (q aK) K.W ag
  |_=>exact aE.elim
 |
  mb=>
  obtain⟨c,rfl,h1,h2,aN,bu,dW⟩:=aE;obtain⟨ak,a6,_⟩:=bC.bp;have e:bx .mb=7000:=rfl;have hlen:=a6.ws.ok.len;exact azW (k:=.nil) J C al K.W (t aK) bu dW a6.ws.fG ae ae ag
 |
  jk a=>
  cases r with
  |
   post b V=>
   obtain⟨x,ah⟩:=K.ex a hk;exact azL (k:=.nil) J C al K.W ah (K.s3 a x ah) K.dl K.gK (λe=>absurd e (v aK)) (λe=>(aE.2 e).1) ag
  |_=>exact aE.elim
 |
  again a=>
  obtain⟨x,ah⟩:=K.ex a hk;refine FH ?_;exact azi (k:=.nil) J al K.W ah ag
 |
  nr a left=>
  cases r with
  |
   post b V=>
   obtain⟨x,ah⟩:=K.ex a hk.1;exact azK (k:=.nil) J C al K.W ah (K.s3 a x ah) K.dl K.gK (λe=>absurd e (v aK)) ag
  |_=>exact aE.elim
 |
  settled a=>
  obtain⟨b,V,rfl⟩:=aE;obtain⟨x,ah⟩:=K.ex a hk;exact azj (k:=.nil) J C al K.W ah ag
 |
  ov a=>
  obtain⟨b,V,rfl⟩:=aE;obtain⟨x,ah⟩:=K.ex a hk;exact azk (k:=.nil) J C al K.W ah ag
 |
  mc l k=>
  replace aE:r=.fV ((s.lets.length+1:Nat):Int):=aE;subst aE;exact azw J C al K.W ag
 |
  gv a l e k=>
  replace aE:r=.fV ((s.lets.length+1:Nat):Int):=aE;subst aE;exact azx al K.W ag
 |
  told id to k=>
  obtain⟨b,V,rfl⟩:=aE;obtain⟨h1,h2,aN,bu,_⟩:=hk;have w:1<=to:=h2.1;have B:to<=s.aJ.length:=h2.2;have hH:=K.na;exact azv J C al K.W ae bu ag
 |
  lh a k=>
  obtain⟨b,V,rfl⟩:=aE;obtain⟨h1,h2,aN,_⟩:=hk;exact azl J C al (nb h1.2 K.na) aN ag
 |
  me a kind slot k=>
  replace aE:r=.fV (s.L.getD 1 0):=aE;subst aE;obtain⟨x,ah⟩:=K.ex a hk.1;have d:=bC.num.mD;have ip:=bC.num.mF;exact azV J C al K.W ah (K.s3 a x ah) hk.2.2.1 ae ag
 |
  asked id a e k=>
  obtain⟨aC,rfl⟩:=aE;obtain⟨x,ah⟩:=K.ex a hk.2.1;exact azO J C al K.W ah (K.s3 a x ah) (λe=>absurd e (t aK)) ag
 |
  watched a who k=>
  refine FH ?_;have hH:=K.na;have h2:who<=s.aJ.length:=hk.2.1.2;exact azm J al ⟨hk.2.1.1,by omega⟩ ag
 |
  gone a who k=>
  obtain⟨b,V,rfl⟩:=aE;obtain⟨x,ah⟩:=K.ex a hk.1;exact azn J C al K.W ah ag
 |
  mK a b k=>
  obtain⟨i,rfl⟩:=aE;exact azo J C al ag
 |
  mf a m k=>
  obtain⟨aC,rfl⟩:=aE;obtain⟨x,ah⟩:=K.ex a hk.1;have T:=K.s3 a x ah;simp only[dw,ah,qM,k3]at ag;exact azy J C al K.W ah (by have:=hk.2.2.1;omega) T.K9 T.Tp (λe=>absurd e (t aK)) (o aC rfl) ag
 |
  closed a k=>
  obtain⟨x,ah⟩:=K.ex a hk.1;refine FH ?_;exact azq al K.W ah ag
 |
  kW a k=>
  cases r with
  |
   post b V=>
   obtain⟨x,ah⟩:=K.ex a hk.1;refine azr J C al K.W ah (λe=>absurd e (v aK)) ?_;simp only[dw]at ag;by_cases dW:V.out=5
   . rw[bd dW]at ag⊢;exact ag
   . rw[a8 dW]at ag⊢
     by_cases h1:V.out=1
     . rw[bd h1]at ag⊢;exact ag
     . rw[a8 h1]at ag⊢;exact ag
  |_=>exact aE.elim
 |
  nS a k=>
  obtain⟨x,ah⟩:=K.ex a hk.1;refine FH ?_;simp only[dw,ah,qM,k3]at ag;exact azt al K.W ah ag
 |
  who a k=>
  replace aE:r=.fV (s.L.getD 1 0):=aE;subst aE;obtain⟨x,ah⟩:=K.ex a hk.1;have d:=bC.num.mD;exact azN J C al K.W ah ae ag
 |_=>exact absurd trivial aL
end
open Classical in
noncomputable def vJ (f0:Nat->Th.fU)(C:bt)(P:List b2)(n b5 j m:Nat)(s:ao)(r:bU)(k:Th.K):Option ao:=
 if In f0 C P n j 0 0 s/\cV C P (bk s) k/\c6 k/\bM s+bx k<=b5/\bx k<m then go C P m j s r k else none
section
variable{f0:Nat->Th.fU}{X:cN}{n b5 j:Nat}(J:X.C.ok)(aA:b5<1099511627776)(cO:n<=bq)(cT:Th.hS X.P)
theorem az2(m:Nat)(s:ao)(r:bU)(k:Th.K):Th.b4 (vJ f0 X.C X.P n b5 j m s r k) (go X.C X.P m j s r k):=by
 unfold vJ;split
 . exact Th.b4.refl _
 . exact λv e=>by cases e
include J aA cO cT
theorem az3(m:Nat):eb f0 X.C X.P n b5 j m (vJ f0 X.C X.P n b5 j m):=λs k a b c d e=>by
 unfold vJ;rw[bd ⟨a,b,c,d,e⟩];exact Th.go_ok J aA cO cT m s k a b c d e
theorem alf{m:Nat}{s y:ao}{r:bU}{k:Th.K}(bf:bx k<=m)(h:In f0 X.C X.P n j (eF k) (eG k) s)(hk:cV X.C X.P (bk s) k)(aE:eE X.C j s r k)(W:bM s+bx k<=b5)(ag:go X.C X.P (m+1) j s r k=some y):dw X.C X.P (vJ f0 X.C X.P n b5 j m) j s r k=some y:=by
 obtain⟨aD,e,_,_⟩:=Th.TH J aA cO cT ((az3 (f0:=f0) (j:=j) J aA cO cT m).le bf) h hk aE W;have h2:=Th.aww (C:=X.C) (P:=X.P) (az2 (f0:=f0) (X:=X) (n:=n) (b5:=b5) (j:=j) m) s r k aD e;have aN:dw X.C X.P (go X.C X.P m j) j s r k=some y:=ag;rw[aN]at h2;rw[e,od h2]
theorem go_dm:∀(m:Nat) (z:dn) (s:ao) (k:Th.K) (y:ao) (I:Nat) (M:List Value),bE X z s->In f0 X.C X.P n j 0 0 s->cV X.C X.P (bk s) k->c6 k->bM s+bx k<=b5->bx k<m->go X.C X.P m j s Th.dF k=some y->ad aa I M la dX
 |0,z,s,k,y,I,M,_,_,_,_,_,h,_=>absurd h (KH _)
 |
  m+1,z,s,k,y,I,M,al,bC,hk,aL,W,bf,ag=>by
  have C:hv X j (vJ f0 X.C X.P n b5 j m):=λz s k y I M al h=>by
   unfold vJ at h;split at h
   . rename_i a6
     exact go_dm m z s k y I M al a6.1 a6.2.1 a6.2.2.1 a6.2.2.2.1 a6.2.2.2.2 h
   . cases h
  have u:=ald k;exact ale J C al (CB.of bC cO ae aA) aL hk (alf (f0:=f0) J aA cO cT ae (by rw[(Th.K1 aL).1,(Th.K1 aL).2];exact bC) hk (Th.S4 aL) W ag)
theorem go_run{m p f:Nat}{c:List Value}{z:dn}{s y:ao}{r:bU}{k:Th.K}(al:bE X z s)(bC:In f0 X.C X.P n j (eF k) (eG k) s)(hk:cV X.C X.P (bk s) k)(aE:eE X.C j s r k)(W:bM s+bx k<=b5)(bf:bx k<=m)(aK:r.over=true)(o:∀aC,r=.eS aC->0<=aC.val/\aC.val<=18446744073709551615)(ag:go X.C X.P (m+1) j s r k=some y):
 ad aa f c (a7 X z.ap z.ai j p k f c::c3 X p r::bl X z s) (ct X (some y)):=by
 have C:hv X j (vJ f0 X.C X.P n b5 j m):=λz s k y I M al h=>by
  unfold vJ at h;split at h
  . rename_i a6
    exact go_dm J aA cO cT m z s k y I M al a6.1 a6.2.1 a6.2.2.1 a6.2.2.2.1 a6.2.2.2.2 h
  . cases h
 exact az1 J C al bC cO aA W hk aE aK o (alf (f0:=f0) J aA cO cT bf bC hk aE W ag)
end
end Go.Proofs.YtnnhpnccfnghdaaGreat.L.bH
namespace Go.L
class qu(P:Program)(t:TypeId)(name:String)(f:outParam FuncId):Prop where
 out:∀p w,(method (P.types.size+Made.depth) t (ptr p 0) name).run P w=.ok (f,ptr p 0) w
theorem Oj{P:Program}{F:World}{n:Nat}{I:eT}{M:List aq}{bD t:TypeId}{name:String}{f:FuncId}{x:Operand}{p:Nat}{xs:List Operand}{z:Array TypeId}{ce:List Value}{pre D:List aq}{post:Value->List aq->Prop}[m:qu P t name f](Y:ck I x=some (.iface t (ptr p 0)))(ah:tw I xs=some ce)(ba:ad P f (ptr p 0::ce) pre post)(hp:Part pre M D)(fz:e0 P f:=by exact fc):
 di P F n YY bD I M H4:=λa w d pos J g aj s=>by
 refine⟨f,(ptr p 0::ce).toArray,?_,?_⟩
 . simp only[execOp,resolve,oN,aj.Ad ah,aj.eval Y]
   have ay:=m.out p w;simp[invoke,callMethod,run_program]at ay⊢;rw[ay];simpa using H5 (P:=P) (f:=f) (ptr p 0::ce).toArray w
 . exact(ba F D w DX).mono λe X ⟨v,L,V,bm,aD⟩=>⟨v,_,V,⟨L,bm,rfl⟩,aD⟩
end Go.L
namespace Go.Proofs.YtnnhpnccfnghdaaGreat.L.bH
open Go.Proofs.YtnnhpnccfnghdaaGreat.L
open Go.L Go.L.Ring Go.L.dq Go.L.dR Go.L.Whl Go.L.dA Go.L.Lx Go.L.Pg
open Go.L.Led (dg du dT bs av e8)
open Go.L.Th (bt cW c9 bX dt bR bU ev bW ao most dU cQ ff eD dM In cV c6 eE bx bM eF eG bk cG dw go bq Good eb eH dQ acc Inv eh er e3 busy cZ ek dN fa)
attribute[local irreducible] G cE GE cY GT b0 df c4 di Exit.then Exit.inBlock
section
variable(X:cN){C:bt}(z:dn)(p:Nat){L:List Int}(s:ao)(j:Nat)
instance:qu aa 246 "Step" 474:=Ew
instance:qu aa 169 "Step" 474:=Ew
instance:qu aa 248 "Step" 474:=Ew
instance:qu aa 392 "Step" 489:=Ew
instance:qu aa 314 "Step" 486:=Ew
def az4(t:bW)(p f:Nat)(c:List Value)(T gp:Nat)[qu aa T "Step" gp](A a a2 d:aq)(b:Value)(cc:ad aa gp [ptr p 0] [A,a2] (aH gR [a,d]))(fz:e0 aa gp:=by exact fc):ad aa 44 [ptr (X.bp j) 0,b] [ab (X.bp j) 128 ach,A,a2] (aH eu [ab (X.bp j) 128 ach,a,d]):=by
 refine aw Tryz.func44 λF D=>?_;refine cq ?_;refine aB rfl (Yy rfl) ?_;refine c0 ?_;refine ci rfl (Oj rfl rfl (cc) bF) ?_;refine aeI ?_;exact pT
abbrev LT:List aq:=[cL X z s,dP z.cI z.cJ s.trace,fl z.na z.fq s.notes,b3 X.am .i64 (cf z.ap),ax (e5 X z.ap s.aJ),b3 X.e6 .u64 (cf z.ai),ax (gj z.ai s.lets),Lg.ds X.ld s.bc,ez X.da X.C.dG s.dead,ch X.m s.L z.tt,fA X,fw X s.bs,eC X.bG X.m X.C.bG X.C.aZ,ax (dZ X),fu X,gk X,gX X,gd X,ax ((de X z.ap z.ai s.az).set j ft)]
def jj:aq:=eW (LT X z s j)
def az5{P:Program}{f:FuncId}{args:List Value}{A a:aq}{L U:List aq}{J:Value}(h:ad P f args (A::L) (aH J (a::U))):ad P f args [A,eW L] (aH J [a,eW U]):=λF D w s=>
 (h F D w (s.imp fun g t => Sat.tail (fun h E => by obtain ⟨_, _, b⟩ := hd E; exact b) t)).mono fun _ _ ⟨v, H, e, ⟨p, q⟩, s⟩ => ⟨v, _, e, ⟨p, rfl⟩, s.imp fun g t => by
  subst q;exact Sat.tail (λh E=>cF (fM:=λ_:Unit=>True) (l:=λ_=>U) (D:=D) () trivial qB h E) t⟩
def Uf(h:C.ok):C.cells<=65536:=by
 have bQ:=h.bQ;have hg:=h.hg;have m64:=h.m64;have d64:=h.d64;have i64:=h.i64;have ay:C.a1*(2+C.eI)<=8*66:=qq bQ ae;have aV:C.aZ*C.aZ<=16*16:=qq hg hg;have bz:C.aZ*C.e7<=16*214:=qq hg (by unfold bt.e7 bt.fB;omega);have dh:C.bA.size=C.a1+(2+2*C.aZ)+C.a1*(2+C.eI):=rfl;refine Q9 ?_;intro gT;omega
def alg{a:Nat}(h:C.ok)(av:L.length=C.cells)(aW:1<=a/\a<=C.aZ):rK (C.box a) L:=by
 have m1:=h.m1;have m64:=h.m64;have hg:=h.hg;have a6:=Uf h;have bz:(a -1)*C.e7+C.e7<=C.aZ*C.e7:=by
  have:(a -1+1)*C.e7<=C.aZ*C.e7:=pW _ ae;exact HB
 have uw:C.e7=2+(2+2*C.hW)+(2+2*C.fB):=rfl;have pL:C.fB=2*C.aZ+8:=rfl;have gT:C.cells=C.gS+C.aZ*C.e7:=rfl;refine⟨m1,m64,?_,?_,?_,by omega⟩
 . show 1<=C.fB;omega
 . show C.fB<=64;omega
 . show C.gS+(a -1)*C.e7+6+2*C.hW+2*C.fB<=L.length;omega
def az6(h:C.ok)(av:L.length=C.cells):kg C.bA L:=by
 have a6:=Uf h;refine Q9 ?_;intro gT;exact⟨h.aG,h.bQ,h.d1,h.d64,h.cr,h.hg,by show 2+C.bA.size<=L.length;omega,by omega⟩
def az7(h:C.ok)(av:L.length=C.cells):r4 C.dH L:=by
 have a6:=Uf h;refine Q9 ?_;intro gT;exact⟨h.i1,h.i64,by show 2+C.bA.size+3+2*C.iN<=L.length;omega,by omega⟩
abbrev q3:bU->Nat
 |.load _=>486|.add _ _=>486|.fV _=>486|.hV _=>489|_=>474
abbrev jZ(o:bU):dn:={z with tt:=if o.over then z.tt else fZ z.tt}
def az8(v:Int):ad aa 486 [ptr p 0] [c3 X p (.fV v)] (aH h6 [c3 X p (.fV v)]):=by
 refine aw Tryz.func486 λF D=>?_;refine kK ey ?_;rintro w -;refine gh ?_;refine yo ?_;intro f;refine eJ ?_;refine lL ?_;refine cv ?_;exact aX ⟨rfl,rfl⟩ (cF w trivial (cF f trivial (au)))
end
section
variable{X:cN}{z:dn}{s:ao}{j p c:Nat}
def az9(a6:c<s.L.length):ad aa (q3 (.load c)) [ptr p 0] (c3 X p (.load c)::LT X z s j) (aH (.bool (acc X.C s (.load c)).2.over) (c3 X p (acc X.C s (.load c)).2::LT X (jZ z (.load c)) (acc X.C s (.load c)).1 j)):=by
 have bh:=G0 p X.m c s.L z.tt a6;exact jL PF bh EC (λu H q=>by
  obtain⟨rfl,rfl⟩:=q;exact⟨_,⟨rfl,rfl⟩,λh E=>cF (fM:=λ_:Bool=>True) (l:=λw=>[qk p (s.L.getD c 0) w]) (D:=LT X (jZ z (.load c)) (acc X.C s (.load c)).1 j) true trivial au h E⟩)
def aAa{d:Int}(a6:c<s.L.length):ad aa (q3 (.add c d)) [ptr p 0] (c3 X p (.add c d)::LT X z s j) (aH (.bool (acc X.C s (.add c d)).2.over) (c3 X p (acc X.C s (.add c d)).2::LT X (jZ z (.add c d)) (acc X.C s (.add c d)).1 j)):=by
 have bh:=avm p X.m c s.L z.tt a6 d;exact jL PF bh EC (λu H q=>by
  obtain⟨rfl,rfl⟩:=q;exact⟨_,⟨rfl,rfl⟩,λh E=>cF (fM:=λ_:Bool=>True) (l:=λw=>[qk p (eU (s.L.getD c 0+d)) w]) (D:=LT X (jZ z (.add c d)) (acc X.C s (.add c d)).1 j) true trivial au h E⟩)
def aAb{v:Int}:ad aa (q3 (.fV v)) [ptr p 0] (c3 X p (.fV v)::LT X z s j) (aH (.bool (acc X.C s (.fV v)).2.over) (c3 X p (acc X.C s (.fV v)).2::LT X (jZ z (.fV v)) (acc X.C s (.fV v)).1 j)):=by
 have bh:=az8 X p v;exact jL (cL X z s::dP z.cI z.cJ s.trace::fl z.na z.fq s.notes::b3 X.am .i64 (cf z.ap)::ax jJ::b3 X.e6 .u64 (cf z.ai)::ax k9::Lg.ds X.ld s.bc::ez X.da X.C.dG s.dead::ch X.m s.L z.tt::aaq) bh EC (λu H q=>by
  obtain⟨rfl,rfl⟩:=q;exact⟨_,dI,λh E=>(au) h E⟩)
def aAc{i:k5}(hk:i.pc<=4)(a6:i.cell<s.L.length):ad aa (q3 (.hV i)) [ptr p 0] (c3 X p (.hV i)::LT X z s j) (aH (.bool (acc X.C s (.hV i)).2.over) (c3 X p (acc X.C s (.hV i)).2::LT X (jZ z (.hV i)) (acc X.C s (.hV i)).1 j)):=by
 have bh:=ao8 p X.m s.L z.tt i hk a6;exact jL PF bh EC (λu H q=>by
  obtain⟨rfl,rfl⟩:=q;exact⟨_,dI,λh E=>(au) h E⟩)
end
end Go.Proofs.YtnnhpnccfnghdaaGreat.L.bH
