import Derived.Test.YtnnhpnccfnghdaaGreatA17
set_option linter.all false
set_option maxRecDepth 8000
set_option maxHeartbeats 5600000
namespace Go.Proofs.YtnnhpnccfnghdaaGreat.L.bM
open Go.Proofs.YtnnhpnccfnghdaaGreat.L
open Go.L Go.L.Ring Go.L.dD Go.L.ej Go.L.Whl Go.L.dP Go.L.Lx Go.L.Pg
open Go.L.Led (du dH dW bm aw fo)
open Go.L.Th (bO c0 dn bG dE bU b3 e4 b0 aq most dY cS fp eR dZ In cX c9 eS bB bP eT eU bn cI dF go bo Good ei eV ec acc Inv eG e5 fj busy dA eC eh fr)
attribute[local irreducible] G cJ GE c3 GT b1 dk c7 ds Exit.then Exit.inBlock
section
variable{X:cO}{j:Nat}{z:dw}{s y:aq}{J:Nat}{M:List Value}{k:Th.K}{g:aq->b3->Th.K->Option aq}{a q:Nat}{x:bU}{id:Int}
theorem Tm{i n d5 d6 cq d2 aK ar V ay aL aR aM:Nat}{bZ:Option Addr}{pc a q m:Nat}{x:bU}{id:Int}{I:dE}(N:X.C.ok)(C:hv X j g)(aj:bJ X z s)(cc:cS X.C j s)(B:At X z.ap s.aE a q x)(T:eR X.C x)(b:z.ae[(id -1).toNat]?=some m)(ag:(if i=n then g s Th.dN (.ended a id I k)else Th.nM X.C g j (Th.zP X.C g j) s (.da a id I) i (.each (.da a id I) i n (.ended a id I k)))=some y):ab E 207 [af i,ptr d5 0,ptr d6 0,ptr cq 0,ptr d2 0] ([aa d5 3 [af n],aa d6 1 [bk 295 [ptr ay 0,ptr ar 0,ptr aL 0,ptr aR 0,ptr aK 0,ptr aM 0]],aa cq 255 [bk 293 [ptr aK 0,ptr ar 0,ptr V 0,ptr ay 0]],aa d2 188 [bk 207 [ptr d5 0,ptr d6 0,ptr cq 0,ptr d2 0]],eW [aa aK 106 [ptr (X.bp j) 0],aa ar 110 [ptr q 0],aa V 311 [ptr m 0],aa ay 356 (lh bZ pc I),aa aL 32 [ptr X.h 0],aa aR 36 [bx id],aa aM 1 [bk J M],km bZ pc I.cx,a1 X z.ap z.ae j 0 k J M]]++bh X z s) (cv X (some y)):=
 Fw fl fl ag (λh=>gv (λD h F=>R4 (a1.eq_13 ..) (ay,ar,aL,aR,aK,aM,q,J,M,bZ,pc) ⟨rfl,rfl,B.ap⟩ _ h ((show∀h,Sat _ h->Sat ([aa ay 356 (lh bZ pc I),aa ar 110 [ptr q 0],aa aL 32 [ptr X.h 0],aa aR 36 [bx id],aa aK 106 [ptr (X.bp j) 0],aa aM 1 [bk J M],km bZ pc I.cx,a1 X z.ap z.ae j 0 k J M]++(bh X z s++D)) h from(au)) h F)) (C z s (.ended a id I k) y 295 [ptr ay 0,ptr ar 0,ptr aL 0,ptr aR 0,ptr aK 0,ptr aM 0] aj h)) (λh R=>by
  simp only[Th.nM,qD]at h;obtain⟨l,aw,h⟩:=ij.1 h;obtain⟨o,Y,h⟩:=ij.1 h;obtain⟨c,K⟩:=hG.of aj aw;obtain rfl:m=c:=by have:=K.ae;rw[b]at this;cases this;rfl
  exact axr X z s j i n R d2 d5 cq d6 aK ar V ay aL aR aM J M k a q m id I bZ pc o (some y) B.ap b Y (ayC (J:=208) (M:=[ptr d2 0,ptr R 0]) N C aj cc B T K trivial h))
theorem ajQ(N:X.C.ok)(C:hv X j g)(aj:bJ X z s)(cc:cS X.C j s)(B:At X z.ap s.aE a q x)(T:eR X.C x)(L:s.dead.length<most/\s.trace.length<most)(u:∀l,Th.kk s id=some l->0<=l.n/\l.n<=255)(ag:Th.sP X.C g j s a id k=some y):ab E 238 [ptr (X.bp j) 0,ptr q 0,bx id,bk J M] (a1 X z.ap z.ae j 0 k J M::bh X z s) (cv X (some y)):=by
 obtain rfl:a=x.id:=B.cy.symm;have R:=B.p0 cc;have m5:most=1099511627776:=rfl;obtain⟨t0,i,hO⟩:=cc.jX;simp only[Th.sP,B.dM,qD,k0]at ag;obtain⟨l,aw,ag⟩:=ij.1 ag;obtain⟨m,K⟩:=hG.of aj aw;replace u:=u l aw;refine ub λba=>qK B λe Y=>?_;have g7:∀{aW:aq} {cl:dw},bJ X cl aW->g aW Th.dN k=some y->hr X j cl aW k J M (some y):=λe8 h=>⟨ba,C _ _ k y J M e8 h⟩;have kj:∀w:Int,((Th.kill id w s).bind λs=>g s Th.dN k)=some y->g (ki s id l.to w) Th.dN k=some y:=λw h=>by
  obtain⟨s1,hk,h⟩:=ij.1 h;obtain⟨g6,W,_,_,_,rfl⟩:=Th.Cf hk;rw[aw]at W;cases W;exact h
 split at ag
 . rename_i d7
   exact axk X z s j t0 x.id q x e aj N B Y id m l K J M k (some y) i L.1 L.2 cc.l9 d7.1 d7.2 (λaD aI=>g7 ⟨aj.gk,aj.fY,aj.fZ,aj.ap,aj.ae⟩ (kj 5 ag))
 . rename_i d7
   have c:=axe Y.bI x.state l.tag l.n;cases hp:Th.kU x.kind x.state l.tag l.n with
   |mk O o b r d=>
   rw[hp]at ag c;have i7:=c;simp only at ag;cases hu:l.pY with
   |
    false=>
    cases O with
    |
     true=>
     simp only[fu]at ag;split at ag
     . rename_i f
       exact axl X z s j t0 x.id q x e aj N B Y id m l K J M k (some y) i L.1 L.2 cc.l9 hu o b r d u i7 f (λaD aI=>g7 ⟨aj.gk,aj.fY,aj.fZ,aj.ap,aj.ae⟩ (kj 1 ag))
     . rename_i f
       obtain⟨s1,U,ag⟩:=ij.1 ag;obtain⟨_,rfl⟩:=Th.l8 U;exact axm X z s j t0 x.id q x e aj N B Y id m l K J M k (some y) i L.1 L.2 cc.l9 hu o b r d u i7 f (λaD aI=>g7 ⟨aj.gk,aj.fY,aj.fZ,by show _=(s.aE.set _ _).length;rw[gr];exact aj.ap,aj.ae⟩ ag)
    |
     false=>
     simp only[e2,eI]at ag;obtain⟨s1,U,ag⟩:=ij.1 ag;obtain⟨_,rfl⟩:=Th.l8 U;rw[hu]at ag;simp only[e2,eI]at ag;refine axn X z s j t0 x.id q x e aj N B Y id m l K J M k (some y) i L.1 L.2 cc.l9 hu o b r d u i7 (λaL aR aM bV Z cA dm bZ pc aD aI=>?_);refine pg (A:=eW [_,_,_,_,_,_,_,_,_]) (λD h F=>cE (fO:=λ_:Unit=>True) (l:=λ_=>[_,_,_,_,_,_,_,_,_]) (D:=D) () trivial (λh F=>F) h F) (Cr X {z with b4:=aD,b5:=aI} (Th.c8 {s with a8:=du s.a8 id 7,trace:=s.trace++[({Th.cz with kind:=3,dc:=x.id,id:=id}:bG)]} x.id x) o.length _ _ _ _ (eW [_,_,_,_,_,_,_,_,_]) (some y) (X.bp j) (λd5 d6 cq d2=>?_));exact Tm (z:={z with b4:=aD,b5:=aI}) (s:=Th.c8 {s with a8:=du s.a8 id 7,trace:=s.trace++[({Th.cz with kind:=3,dc:=x.id,id:=id}:bG)]} x.id x) (I:=⟨false,o,b,r,d⟩) (a:=x.id) (x:=x) (aK:=aL) (ar:=aR) (V:=cA) (ay:=dm) (aL:=Z) (aR:=aM) (aM:=bV) (bZ:=bZ) (pc:=pc) N C ⟨aj.gk,aj.fY,aj.fZ,by show _=(s.aE.set _ _).length;rw[gr];exact aj.ap,aj.ae⟩ ((cc.Ad (aW:={s with a8:=du s.a8 id 7,trace:=s.trace++[({Th.cz with kind:=3,dc:=x.id,id:=id}:bG)]}) rfl (Th.dZ.from bw) rfl rfl rfl Bn cc.nr.2).set B.aX.1 ⟨R.id,R.kids,R.qI⟩) (At.set (n:=x) B rfl) T K.ae ag
   |
    true=>
    have p:Th.mem x.watched l.cf=true:=by
     cases bf:Th.mem x.watched l.cf with
     |true=>rfl
     |false=>exact absurd ⟨hu,bf⟩ d7
    cases O with
    |
     true=>
     simp only[fu]at ag;split at ag
     . rename_i f
       exact axo X z s j t0 x.id q x e aj N B Y id m l K J M k (some y) i L.1 L.2 cc.l9 hu p o b r d u i7 f (λaD aI=>g7 ⟨aj.gk,aj.fY,aj.fZ,aj.ap,aj.ae⟩ (kj 1 ag))
     . rename_i f
       obtain⟨s1,U,ag⟩:=ij.1 ag;obtain⟨_,rfl⟩:=Th.l8 U;exact axp X z s j t0 x.id q x e aj N B Y id m l K J M k (some y) i L.1 L.2 cc.l9 hu p o b r d u i7 f (λaD aI=>g7 ⟨aj.gk,aj.fY,aj.fZ,by show _=(s.aE.set _ _).length;rw[gr];exact aj.ap,aj.ae⟩ ag)
    |
     false=>
     simp only[e2,eI]at ag;obtain⟨s1,U,ag⟩:=ij.1 ag;obtain⟨_,rfl⟩:=Th.l8 U;rw[hu]at ag;simp only[fu]at ag;refine axq X z s j t0 x.id q x e aj N B Y id m l K J M k (some y) i L.1 L.2 cc.l9 hu p o b r d u i7 (λaL aR aM bV Z cA dm bZ pc aD aI=>?_);refine pg (A:=eW [_,_,_,_,_,_,_,_,_]) (λD h F=>cE (fO:=λ_:Unit=>True) (l:=λ_=>[_,_,_,_,_,_,_,_,_]) (D:=D) () trivial (λh F=>F) h F) (Cr X {z with b4:=aD,b5:=aI} (Th.c8 {s with a8:=du s.a8 id 7,trace:=s.trace++[({Th.cz with kind:=3,dc:=x.id,id:=id}:bG)]} x.id {x with watched:=x.watched.erase l.cf}) o.length _ _ _ _ (eW [_,_,_,_,_,_,_,_,_]) (some y) (X.bp j) (λd5 d6 cq d2=>?_));exact Tm (z:={z with b4:=aD,b5:=aI}) (s:=Th.c8 {s with a8:=du s.a8 id 7,trace:=s.trace++[({Th.cz with kind:=3,dc:=x.id,id:=id}:bG)]} x.id {x with watched:=x.watched.erase l.cf}) (I:=⟨false,o,b,r,d⟩) (a:=x.id) (x:={x with watched:=x.watched.erase l.cf}) (aK:=aL) (ar:=aR) (V:=cA) (ay:=dm) (aL:=Z) (aR:=aM) (aM:=bV) (bZ:=bZ) (pc:=pc) N C ⟨aj.gk,aj.fY,aj.fZ,by show _=(s.aE.set _ _).length;rw[gr];exact aj.ap,aj.ae⟩ ((cc.Ad (aW:={s with a8:=du s.a8 id 7,trace:=s.trace++[({Th.cz with kind:=3,dc:=x.id,id:=id}:bG)]}) rfl (Th.dZ.from bw) rfl rfl rfl Bn cc.nr.2).set B.aX.1 ⟨R.id,R.kids,R.qI⟩) (At.set (n:={x with watched:=x.watched.erase l.cf}) B rfl) ⟨T.par,T.slots,T.kids,T.K9,T.SB,T.SC,T.jW⟩ K.ae ag
end
def axS(w:Int):∀(l:List Int) (x:Int) (s:aq),Th.kH w (l++[x]) s=(Th.kH w l s).bind (Th.kill x w):=S5 w
structure sU(w:Int)(s:aq)(ids:List Int)(i:Nat)(d:aq):Prop where
 le:i<=ids.length
 eq:Th.kH w (ids.take i) s=some d
 lets:d.lets=s.lets
 a8:d.a8.length=s.a8.length
 nr:d.trace.length=s.trace.length+i
 Cs:d.dead.length=s.dead.length+i
 now:d.now=s.now
 bm:d.bm=s.bm
def sU.next{w:Int}{s d:aq}{ids:List Int}{i:Nat}{id:Int}{ae:List Nat}{q:Nat}{l:c0}(h:sU w s ids i d)(R:1<=w/\w<=5)(ah:ids[i]?=some id)(K:hG ae d.lets id q l)(U:s.trace.length+ids.length<=most)(aS:s.dead.length+ids.length<=most):sU w s ids (i+1) (ki d id l.to w):=by
 obtain⟨ak,e⟩:=dp.1 ah;have h1:=h.nr;have h2:=h.Cs;refine⟨ak,?_,h.lets,by show(du d.a8 id 8).length=_;rw[Led.yT];exact h.a8,by simp[h1];omega,by simp[h2];omega,h.now,h.bm⟩;rw[nv ak,e,axS,h.eq,k0];exact ah0 Zo R ad ad
def sU.start{w:Int}{s:aq}{ids:List Int}:sU w s ids 0 s:=⟨fk _,rfl,rfl,rfl,rfl,rfl,rfl,rfl⟩
abbrev rp(a w:Int)(l:List Int)(r:List (Int×Int)):List (Int×Int):=l.foldl (λr id=>if bm r id=a then dH r id w else r) r
def Td(a w:Int):∀(l:List Int) (r:List (Int×Int)),(rp a w l r).length=r.length
 |[],r=>rfl
 |
  x::l,r=>by
  rw[rp,yM];refine(Td a w l _).trans ?_;split;exact fo;rfl
def ajG(a w:Int){l:List Int}{i:Nat}{x:Int}(h:l[i]?=some x)(r:List sh):rp a w (l.take (i+1)) r=if bm (rp a w (l.take i) r) x=a then dH (rp a w (l.take i) r) x w else rp a w (l.take i) r:=by
 obtain⟨ak,e⟩:=dp.1 h;rw[nv ak,e,rp,ajr];rfl
section
variable(X:cO)(p:Nat)(az:hx)(aJ:¬az.out=0)
include aJ
theorem axT(aw:az.ref.length<=1000):ab E 149 [ptr p 0] [cM X p (.ey az)] (λu I=>∃a c,u=ul a c az.ref/\I=[fH a c az.ref,cM X p (.ey az)]):=by
 have h:=Ck.am8 X.db X.C.df p az (λh=>absurd h aJ) aw;have e:Ck.lQ az az.ref=az.ref:=a7 aJ;rw[e]at h;exact h
theorem axU(aw:az.cut.length<=1000):ab E 151 [ptr p 0] [cM X p (.ey az)] (λu I=>∃a c,u=ul a c az.cut/\I=[fH a c az.cut,cM X p (.ey az)]):=by
 have h:=Ck.am3 X.db X.C.df p az (λh=>absurd h aJ) aw;have e:Ck.lQ az az.cut=az.cut:=a7 aJ;rw[e]at h;exact h
theorem axV(aw:az.due.length<=1000):ab E 155 [ptr p 0] [cM X p (.ey az)] (λu I=>∃a c,u=ul a c az.due/\I=[fH a c az.due,cM X p (.ey az)]):=by
 have h:=Ck.amY X.db X.C.df p az (λh=>absurd h aJ) aw;have e:Ck.lQ az az.due=az.due:=a7 aJ;rw[e]at h;exact h
end
def axW(X:cO)(w:gm)(R:mg w):ab E 152 [ptr X.db.c 0] [ee X w] (λu I=>∃aD aI,u=ul aD aI (w.T.map (·.id))/\I=[fH aD aI (w.T.map (·.id)),ee X w]):=λH D l s=>by
 have cb:dt H ([Ck.fv X.db X.C.df,fw X.db.wp w]++(fs X.db.r X.m (X.C.df.b+1) X.C.df.n::D)) l:=s.imp λg t=>by
  obtain⟨_,_,dr⟩:=ha t;exact(show∀h,Sat _ h->Sat (Ck.fv X.db X.C.df::fw X.db.wp w::fs X.db.r X.m (X.C.df.b+1) X.C.df.n::D) h from(au)) g dr
 refine(Ck.amE X.db X.C.df w R H _ l cb).mono ?_;rintro _ _ ⟨v,I,rfl,⟨aD,aI,rfl,rfl⟩,ce⟩;refine⟨_,_,rfl,⟨aD,aI,by simp[ul],rfl⟩,ce.imp λg t=>?_⟩;have aC:fH aD aI (w.T.map (·.id))=own (.slice aD w.T.length aI) 36 1 w.T.length (w.T.map λt=>bx t.id):=by simp[fH,ul,iL,wN,Function.comp_def]
 rw[aC];exact Sat.tail (λg t=>cE (D:=D) () trivial (λg t=>t) g ((show∀h,Sat _ h->Sat (Ck.fv X.db X.C.df::fs X.db.r X.m (X.C.df.b+1) X.C.df.n::fw X.db.wp w::D) h from(au)) g t)) t
def axX(X:cO)(z:dw)(s:aq)(j p:Nat)(az:hx)(aK ar V:Nat)(y:Option aq)(aJ:¬az.out=0)(d:az.ref.length<=64)(ip:az.cut.length<=64)(r:az.due.length<=64)(e:mg s.bm)(m2:s.bm.T.length<=1099511627776)(aF:X.C.c6<=64)(g:s.a8.length<=most)(C:s.now<most)(hO:s.trace.length<most)(m:∀id∈az.ref,∃q l,hG z.ae s.lets id q l)(f:∀id∈az.cut,∃q l,hG z.ae s.lets id q l)(U:s.trace.length+1+az.ref.length+az.cut.length<=most)(aS:s.dead.length+az.ref.length+az.cut.length<=most)(h:∀cb ce,Th.kH 1 az.ref D9=some cb->Th.kH 4 az.cut cb=some ce->∀b4 b5 cA a4 d8,ab E 156 [ptr (X.bp j) 0,af az.due.length,bk 157 [ptr V 0,ptr cA 0],bk 159 []] ([aa V 106 eE,aa cA 49 [ul a4 d8 az.due],fH a4 d8 az.due]++bh X zf Ed) (cv X y)):ab E 148 lY ([aa aK 32 [ptr X.h 0],aa ar 248 [ptr p 0],aa V 106 eE,cM X p (.ey az)]++bh X z s) (cv X y):=by
 refine av Tryz.func148 λH D=>?_;have m5:most=1099511627776:=rfl;have O:s.now<1099511627776:=C;have S:s.a8.length<=1099511627776:=g;have T:(D9:aq).trace.length=s.trace.length+1:=gl;refine bj ?_;refine aB rfl (fy (((s.now+1:Nat):Int)) ff rfl rfl) ?_;refine bj ?_;refine cw [] [6,201] [aa aK 32 [ptr X.h 0],aa X.h 108 ((qx X z s).set (0+24) (af ((s.now+1:Nat):Int)))] ?_;refine bj ?_;refine bu (l3 X z {s with now:=s.now+1} (Pj:bG) hO) ?_;refine l1 ?_;intro aD aI;refine ct ?_;refine cn rfl (b9 rfl (axT X p az aJ ad) bN) ?_;rintro _ D ⟨_,⟨cu,c1,rfl,rfl⟩,rfl⟩;refine uu ?_;refine hb (bv:=Nat×Option Addr×Nat×aq) (λF=>sU 1 (D9:aq) az.ref F.1 F.2.2.2) (λF=>((29,af F.1)::(28,af az.ref.length)::(27,ul cu c1 az.ref)::I9)) (λF=>fH cu c1 az.ref::aa aK 32 [ptr X.h 0]::aa ar 248 [ptr p 0]::aa V 106 eE::cM X p (.ey az)::cp X {z with b4:=F.2.1,b5:=F.2.2.1} F.2.2.2::di F.2.1 F.2.2.1 F.2.2.2.trace::dX z.na z.dT F.2.2.2.notes::bs X.am .i64 (bD z.ap)::ao (dI X z.ap F.2.2.2.aE)::bs X.dL .u64 (bD z.ae)::ao (eB z.ae F.2.2.2.lets)::Lg.cY X.ld F.2.2.2.a8::dz X.cF X.C.c6 F.2.2.2.dead::bz X.m F.2.2.2.L z.tt::eo X::ee X F.2.2.2.bm::dy X.bl X.m X.C.bl X.C.aT::ao (dd X)::ef X::eL X::e7 X::eO X::ao (cK X z.ap z.ae F.2.2.2.ax)::D) (λF=>az.ref.length -F.1) (0,aD,aI,(D9:aq)) (sU.start) eb (au) ?_;rintro⟨i,b4,b5,cb⟩ bK;replace bK:sU 1 (D9:aq) az.ref i cb:=bK;have B:=bK.le;have Y:cb.trace.length=s.trace.length+1+i:=by have bi:=bK.nr;simpa using bi
 have Z:cb.dead.length=s.dead.length+i:=bK.Cs;have aCx:cb.a8.length=s.a8.length:=bK.a8;have o:cb.lets=s.lets:=bK.lets;have t:cb.bm=s.bm:=bK.bm;dsimp only;refine bj ?_;refine ch (λW=>?_) (λW=>?_)
 . have b:i<az.ref.length:=by omega
   obtain⟨v,ah⟩:∃v,az.ref[i]?=some v:=⟨_,cD b⟩;obtain⟨c,l,a⟩:=m v y5;rw[<-o]at a;refine bj ?_;refine aB rfl (gf rfl rfl (show i<az.ref.length by omega)) ?_;refine BM ?_;refine bj ?_;refine cn rfl (b9 rfl (tG X zf cb v 1 c l a bw aF ad ad ad) bN) ?_;refine Q8 ?_;intro aD aI;refine gg (i+1,aD,aI,ki cb v l.to 1) (bK.next bw ah a (by show(s.trace++[_]).length+_<=_;simp only[eZ,iG,lk];omega) (by show s.dead.length+_<=_;omega)) (show az.ref.length -(i+1)<az.ref.length -i by omega) eb (au)
 . obtain rfl:i=az.ref.length:=by omega
   have u:=bK.eq;rw[nT]at u;refine ct ?_;have K:cb.lets=s.lets:=o;refine bb ?_;refine cn rfl (b9 rfl (axU X p az aJ ad) bN) ?_;rintro _ D ⟨_,⟨cC,bq,rfl,rfl⟩,rfl⟩;refine uu ?_;refine hb (bv:=Nat×Option Addr×Nat×aq) (λF=>sU 4 cb az.cut F.1 F.2.2.2) (λF=>((40,af F.1)::(39,af az.cut.length)::(38,ul cC bq az.cut)::I9)) (λF=>fH cC bq az.cut::aa aK 32 [ptr X.h 0]::aa ar 248 [ptr p 0]::aa V 106 eE::cM X p (.ey az)::cp X {z with b4:=F.2.1,b5:=F.2.2.1} F.2.2.2::di F.2.1 F.2.2.1 F.2.2.2.trace::dX z.na z.dT F.2.2.2.notes::bs X.am .i64 (bD z.ap)::ao (dI X z.ap F.2.2.2.aE)::bs X.dL .u64 (bD z.ae)::ao (eB z.ae F.2.2.2.lets)::Lg.cY X.ld F.2.2.2.a8::dz X.cF X.C.c6 F.2.2.2.dead::bz X.m F.2.2.2.L z.tt::eo X::ee X F.2.2.2.bm::dy X.bl X.m X.C.bl X.C.aT::ao (dd X)::ef X::eL X::e7 X::eO X::ao (cK X z.ap z.ae F.2.2.2.ax)::D) (λF=>az.cut.length -F.1) (0,b4,b5,cb) (sU.start) eb (au) ?_;rintro⟨i,b4,b5,ce⟩ bK;replace bK:sU 4 cb az.cut i ce:=bK;have B:=bK.le;have aCy:ce.trace.length=cb.trace.length+i:=by have bi:=bK.nr;simpa using bi
   have aCz:ce.dead.length=cb.dead.length+i:=bK.Cs;have aCA:ce.a8.length=cb.a8.length:=bK.a8;have N:ce.lets=cb.lets:=bK.lets;have I:ce.bm=cb.bm:=bK.bm;dsimp only;refine bj ?_;refine ch (λM=>?_) (λM=>?_)
   . have b:i<az.cut.length:=by omega
     obtain⟨v,ah⟩:∃v,az.cut[i]?=some v:=⟨_,cD b⟩;obtain⟨c,l,a⟩:=f v y5;rw[<-K,<-N]at a;refine bj ?_;refine aB rfl (gf rfl rfl (show i<az.cut.length by omega)) ?_;refine BM ?_;refine bj ?_;refine cn rfl (b9 rfl (tG X zf ce v 4 c l a bw aF ad ad ad) bN) ?_;refine Q8 ?_;intro aD aI;refine gg (i+1,aD,aI,ki ce v l.to 4) (bK.next bw ah a ad ad) (show az.cut.length -(i+1)<az.cut.length -i by omega) eb (au)
   . obtain rfl:i=az.cut.length:=by omega
     have J:=bK.eq;rw[nT]at J;refine ct ?_;have aCB:(ce.bm.T.map (·.id)).length<=1099511627776:=by rw[I,t,o9];exact m2
     refine bE ?_;refine cn rfl (b9 rfl (axW X ce.bm (by rw[I,t];exact e)) bN) ?_;rintro _ D ⟨_,⟨a3,b7,rfl,rfl⟩,rfl⟩;refine uu ?_;refine hb (bv:=Nat) (λi=>i<=(ce.bm.T.map (·.id)).length) (λi=>((54,af i)::(53,af (ce.bm.T.map (·.id)).length)::(52,ul a3 b7 (ce.bm.T.map (·.id)))::I9)) (λi=>fH a3 b7 (ce.bm.T.map (·.id))::aa aK 32 [ptr X.h 0]::aa ar 248 [ptr p 0]::aa V 106 eE::cM X p (.ey az)::cp X zf ce::di b4 b5 ce.trace::dX z.na z.dT ce.notes::bs X.am .i64 (bD z.ap)::ao (dI X z.ap ce.aE)::bs X.dL .u64 (bD z.ae)::ao (eB z.ae ce.lets)::Lg.cY X.ld Eg::dz X.cF X.C.c6 ce.dead::bz X.m ce.L z.tt::eo X::ee X ce.bm::dy X.bl X.m X.C.bl X.C.aT::ao (dd X)::ef X::eL X::e7 X::eO X::ao (cK X z.ap z.ae ce.ax)::D) (λi=>(ce.bm.T.map (·.id)).length -i) 0 (fk _) eb OL ?_;intro i bK;replace bK:i<=(ce.bm.T.map (·.id)).length:=bK;refine bj ?_;refine ch (λL=>?_) (λL=>?_)
     . obtain⟨v,ah⟩:∃v,(ce.bm.T.map (·.id))[i]?=some v:=⟨_,cD (show i<(ce.bm.T.map (·.id)).length by omega)⟩
       refine bj ?_;refine aB rfl (gf rfl rfl (show i<(ce.bm.T.map (·.id)).length by omega)) ?_;refine BM ?_;refine dh ?_;refine aU (Lg.Oj X.ld Eg v) ?_;refine b2 ?_;refine ch (λf9=>?_) (λf9=>?_)
       . have R:bm Eg v=5:=by simpa using f9
         refine bj ?_;refine cn rfl (b9 rfl (Lg.Be X.ld Eg v 6 (by rw[Td];omega)) bN) ?_;refine Q7 ?_;refine gg (i+1) (show i+1<=(ce.bm.T.map (·.id)).length by omega) (show(ce.bm.T.map (·.id)).length -(i+1)<(ce.bm.T.map (·.id)).length -i by omega) eb (by rw[ajG 5 6 ah,bg R];exact(au))
       . have R:¬bm Eg v=5:=by simpa using f9
         refine C2 ?_;refine gg (i+1) (show i+1<=(ce.bm.T.map (·.id)).length by omega) (show(ce.bm.T.map (·.id)).length -(i+1)<(ce.bm.T.map (·.id)).length -i by omega) eb (by rw[ajG 5 6 ah,a7 R];exact(au))
     . obtain rfl:i=(ce.bm.T.map (·.id)).length:=by omega
       rw[nT];refine bQ ?_;refine cn rfl (b9 rfl (axV X p az aJ ad) bN) ?_;rintro _ D ⟨_,⟨a4,d8,rfl,rfl⟩,rfl⟩;refine fC ?_;refine wn λcA=>?_;refine dB ?_;refine hb (bv:=Nat) (λi=>i<=az.due.length) (λi=>((76,af i)::(75,af az.due.length)::(74,ul a4 d8 az.due)::(9,ptr cA 0)::I9)) (λi=>fH a4 d8 az.due::aa aK 32 [ptr X.h 0]::aa ar 248 [ptr p 0]::aa V 106 eE::cM X p (.ey az)::aa cA 49 [ul a4 d8 az.due]::cp X zf ce::di b4 b5 ce.trace::dX z.na z.dT ce.notes::bs X.am .i64 (bD z.ap)::ao (dI X z.ap ce.aE)::bs X.dL .u64 (bD z.ae)::ao (eB z.ae ce.lets)::Lg.cY X.ld acb::dz X.cF X.C.c6 ce.dead::bz X.m ce.L z.tt::eo X::ee X ce.bm::dy X.bl X.m X.C.bl X.C.aT::ao (dd X)::ef X::eL X::e7 X::eO X::ao (cK X z.ap z.ae ce.ax)::D) (λi=>az.due.length -i) 0 (fk _) eb OL ?_;intro i bK;replace bK:i<=az.due.length:=bK;refine bj ?_;refine ch (λw=>?_) (λw=>?_)
       . obtain⟨v,ah⟩:∃v,az.due[i]?=some v:=⟨_,cD (show i<az.due.length by omega)⟩
         refine bj ?_;refine aB rfl (gf rfl rfl (show i<az.due.length by omega)) ?_;refine BM ?_;refine cB ?_;refine cn rfl (b9 rfl (Lg.Be X.ld acb v 1 (by rw[S4,Td];omega)) bN) ?_;refine Q7 ?_;refine gg (i+1) (show i+1<=az.due.length by omega) (show az.due.length -(i+1)<az.due.length -i by omega) eb (by rw[ajq 1 ah];exact(au))
       . obtain rfl:i=az.due.length:=by omega
         rw[nT];refine dh ?_;refine bu (h cb ce u J b4 b5 cA a4 d8) ?_;exact xd
section
variable{X:cO}{j p f:Nat}{c:List Value}{z:dw}{s y:aq}{k:Th.K}{g:aq->b3->Th.K->Option aq}{a:Nat}{x:bU}{id:Int}
def Fx{X:cO}{z:dw}{s:aq}(aj:bJ X z s)(h:ab E f [] (bh X z s) (aH eN (bh X z s))):ab E f [] (bh X z s) (cv X (some s)):=λH D w st=>
 (h H D w st).mono λ_ _ ⟨v,I,e,p,q⟩=>⟨v,I,e,⟨p.1,z,s,rfl,aj,p.2⟩,q⟩
def ajR{L D:List al}{X:cO}{z:dw}{s:aq}{h:eQ}(bi:Sat ((L++bh X z s)++D) h):X.P.length<=4611686018427387904/\∀k∈X.P,lL k:=by
 have F:Sat (eO X::(L++[cp X z s,di z.b4 z.b5 s.trace,dX z.na z.dT s.notes,bs X.am .i64 (bD z.ap),ao (dI X z.ap s.aE),bs X.dL .u64 (bD z.ae),ao (eB z.ae s.lets),Lg.cY X.ld s.a8,dz X.cF X.C.c6 s.dead,bz X.m s.L z.tt,eo X,ee X s.bm,dy X.bl X.m X.C.bl X.C.aT,ao (dd X),ef X,eL X,e7 X])++(ao (cK X z.ap z.ae s.ax)::D)) h:=Fp (L++[cp X z s,di z.b4 z.b5 s.trace,dX z.na z.dT s.notes,bs X.am .i64 (bD z.ap),ao (dI X z.ap s.aE),bs X.dL .u64 (bD z.ae),ao (eB z.ae s.lets),Lg.cY X.ld s.a8,dz X.cF X.C.c6 s.dead,bz X.m s.L z.tt,eo X,ee X s.bm,dy X.bl X.m X.C.bl X.C.aT,ao (dd X),ef X,eL X,e7 X]) (D:=ao (cK X z.ap z.ae s.ax)::D) (by rw[jI]at bi⊢;exact bi);have z0:=F;obtain⟨_,_,_,_,⟨a,j,o⟩,_⟩:=z0;have gJ:a.length=X.P.length:=Lu j;have aw:a.length*80<=140737488351232:=o.len;exact⟨by omega,λk hk=>axP F hk⟩
def ayD{P:Program}{f:FuncId}{args:List Value}(L:List al){X:cO}{z:dw}{s:aq}{post:Value->List al->Prop}(h:X.P.length<=4611686018427387904->(∀k∈X.P,lL k)->ab P f args (L++bh X z s) post):ab P f args (L++bh X z s) post:=λH D w st=>
 h (ajR st.fg).1 (ajR st.fg).2 H D w st
def ayE{t:List (cG×List Int)}{ft:cG}{n:Nat}(h:∀p∈t,p.2.length<n)(bi:0<n):(Th.gE t ft).length<n:=by
 induction t with
 |nil=>exact bi
 |
  cons p r L=>
  obtain⟨k,l⟩:=p;unfold Th.gE;split
  . exact h (k,l) (Om ..)
  . exact L λp hp=>h p (H8 _ hp)
theorem ajS{q:Nat}{x:bU}{left:Nat}(N:X.C.ok)(C:hv X j g)(aj:bJ X z s)(cc:cS X.C j s)(B:At X z.ap s.aE a q x)(T:eR X.C x)(L:s.dead.length<most/\s.trace.length<most)(u:∀id l,Th.kk s id=some l->0<=l.n/\l.n<=255)(ag:Th.rE X.C g j s a left=some y):ab E 196 En (bh X z s) eg:=by
 have R:=B.p0 cc;refine ayb N C aj cc B (λid J M ba h=>?_) ag;exact ajQ (z:=z) (s:=Th.c8 s a {x with front:=x.front.dropLast}) (x:={x with front:=x.front.dropLast}) N C ⟨aj.gk,aj.fY,aj.fZ,by show _=(s.aE.set _ _).length;rw[gr];exact aj.ap,aj.ae⟩ (cc.set B.aX.1 ⟨R.id,R.kids,by have:=R.qI;show 3*(x.front.dropLast.length+x.aside.length)<most;rw[aiP];omega⟩) (At.set (n:={x with front:=x.front.dropLast}) B B.cy) ⟨T.par,T.slots,T.kids,T.K9,T.SB,T.SC,T.jW⟩ L (u id) h
def ayF{k:Th.K}(aj:bJ X z s):ab E f c (a1 X z.ap z.ae j p (.nil) f c::bh X z s) (cv X (some s)):=by
 refine ax2 λf ba=>?_;rcases ba with rfl|rfl|rfl|rfl|rfl
 . exact Fx aj (axF _)
 . exact Fx aj (axG _)
 . exact Fx aj (axH _)
 . exact Fx aj (axI _)
 . exact Fx aj (axJ _)
theorem ayG{k:Th.K}{g:aq->b3->Th.K->Option aq}{a:Nat}{x:bU}{left:Nat}(N:X.C.ok)(C:hv X j g)(aj:bJ X z s)(cc:cS X.C j s)(ah:Th.dM s a=some x)(T:eR X.C x)(L:s.dead.length<most/\s.trace.length<most)(u:∀id l,Th.kk s id=some l->0<=l.n/\l.n<=255)(aw:1<=left/\left<=16)(ag:Th.rE X.C g j s a (left -1)=some y):ab E f c (a1 X z.ap z.ae j p (.next a left) f c::bh X z s) eg:=by
 refine iZ (a1.eq_10 ..) ?_;rintro⟨aK,ar,V,q⟩ ⟨rfl,rfl,bt⟩;dsimp only;have d:1<=left:=aw.1;have ip:left<=16:=aw.2;have h:ab E 196 [ptr (X.bp j) 0,ptr q 0,af (left -1:Nat)] (bh X z s) eg:=(ajS N C aj cc nH T L u ag);refine av Tryz.func236 λH D=>?_;refine bR ?_;refine aB rfl (kl ((left -1:Nat):Int) ff rfl rfl) ?_;exact vj
theorem ayH{k:Th.K}{g:aq->b3->Th.K->Option aq}{a:Nat}{x:bU}{left b:Nat}{Y:gz}(N:X.C.ok)(C:hv X j g)(aj:bJ X z s)(cc:cS X.C j s)(ah:Th.dM s a=some x)(T:eR X.C x)(L:s.dead.length<most/\s.trace.length<most)(u:∀id l,Th.kk s id=some l->0<=l.n/\l.n<=255)(o:sB Y)(ag:(if Y.out≠1 then Th.zN j s a else Th.sP X.C g j s a Y.val (.next a left))=some y):ab E f c (a1 X z.ap z.ae j p (.mD a left) f c::cM X p kG::bh X z s) eg:=by
 refine iZ (a1.eq_11 ..) ?_;rintro⟨aK,ar,V,ay,d,q⟩ ⟨rfl,rfl,bt⟩;dsimp only;have B:=At.mk' aj cc ah bt;split at ag
 . rename_i aJ
   have h:ab E 232 qq (bh X z s) eg:=(ajI aj cc B ag);refine av Tryz.func240 λH D=>?_;refine adl ?_;refine ct ?_;refine bu (h) ?_;exact zw
 . rename_i aJ
   have aJ:Y.out=1:=(Decidable.not_not.1 aJ);have h:ab E 238 [ptr (X.bp j) 0,ptr q 0,bx Y.val,bk 236 [ptr ar 0,ptr V 0,ptr d 0]] (a1 X z.ap z.ae j 0 (.next a left) 236 [ptr ar 0,ptr V 0,ptr d 0]::bh X z s) eg:=(ajQ N C aj cc B T L (u _) ag);refine av Tryz.func240 λH D=>?_;refine QW ?_;refine h0 [5,7] [5] [(0,.bL),(1,.bL),(2,.loc),(3,.loc),(4,.loc),(6,.bL),(5,.da),(7,.da)] [aa aK 246 [ptr p 0],aa ar 106 eE,aa V 110 [ptr q 0],aa ay 1 [bk 236 [ptr ar 0,ptr V 0,ptr d 0]],cM X p kG] mixed hM ?_;refine bj ?_;refine QC ?_;refine bu (iA (a1.eq_10 ..) (ar,V,d,q) u1 h) ?_;refine pe ?_;exact pd
theorem ayI{k:Th.K}{g:aq->b3->Th.K->Option aq}{a:Nat}{x:bU}{b:Nat}{Y:gz}(N:X.C.ok)(C:hv X j g)(aj:bJ X z s)(cc:cS X.C j s)(ah:Th.dM s a=some x)(T:eR X.C x)(L:s.dead.length<most/\s.trace.length<most)(u:∀id l,Th.kk s id=some l->0<=l.n/\l.n<=255)(o:sB Y)(Z:Y.out=1->0<=Y.val)(ag:(if Y.out≠1 then Th.rE X.C g j s a X.C.mB else(s.notes[Y.val.toNat]?).bind λm=>Th.vA X.C g j s a m (.on a))=some y):ab E f c (a1 X z.ap z.ae j p (.iX a) f c::cM X p kG::bh X z s) eg:=by
 refine iZ (a1.eq_7 ..) ?_;rintro⟨aK,ar,V,q⟩ ⟨rfl,rfl,bt⟩;dsimp only;have B:=At.mk' aj cc ah bt;obtain⟨t,O,_⟩:=cc.jX;split at ag
 . rename_i aJ
   have h:ab E 196 [ptr (X.bp j) 0,ptr q 0,af X.C.mB] (bh X z s) eg:=(ajS N C aj cc B T L u ag);refine av Tryz.func195 λH D=>?_;haveI:=gn (X:=X) (ap:=z.ap) (ae:=z.ae) O;refine adl ?_;refine bR ?_;refine cw [] [10,201] (aa ar 106 eE::aa V 110 [ptr q 0]::qo) ?_;refine dh ?_;refine bu (h) ?_;exact xc
 . rename_i aJ
   have aJ:=Decidable.not_not.1 aJ;have Z:=Z aJ;obtain⟨m,bf,ag⟩:=ij.1 ag;have Z:Y.val=((Y.val.toNat):Int):=ad;have v:s.notes.length<most:=cc.notes;have h:ab E 197 [ptr (X.bp j) 0,ptr q 0,.agg (iz m).toArray,bk 198 [ptr V 0,ptr ar 0]] (a1 X z.ap z.ae j 0 (.on a) 198 [ptr V 0,ptr ar 0]::bh X z s) eg:=(aya N C aj cc B (cc.La m (jH bf)) T.K9 ag);refine av Tryz.func195 λH D=>?_;haveI:=gn (X:=X) (ap:=z.ap) (ae:=z.ae) O;have d:(Y.val.toNat)<s.notes.length:=(dp.1 bf).1;have e:s.notes.length<1099511627776:=v;refine QW ?_;refine h0 [12,17] [12] [(0,.bL),(1,.bL),(2,.bL),(3,.bL),(4,.bL),(5,.bL),(6,.bL),(7,.bL),(8,.bL),(9,.loc),(10,.loc),(11,.loc),(16,.bL),(12,.da),(13,.loc),(14,.loc),(15,.loc),(17,.da)] [aa aK 246 [ptr p 0],aa ar 106 eE,aa V 110 [ptr q 0],cM X p kG,cp X z s,dX z.na z.dT s.notes,ao lX] mixed hM ?_;refine fB ?_;refine QC ?_;refine go_v rfl .none rfl (pD ((Y.val.toNat):Int) (by rw[Z];exact jz (by omega)) rfl) ?_;refine go_v rfl .none rfl (gf rfl rfl (show(Y.val.toNat)<s.notes.length by omega)) ?_;refine go_v rfl .none rfl (kz rfl (kA iz 3 auC bf) rfl) ?_;refine bu (iA (a1.eq_8 ..) (V,ar,q) ⟨rfl,rfl,bt⟩ h) ?_;refine pe ?_;exact pd
theorem ayJ{I:dE}(N:X.C.ok)(C:hv X j g)(aj:bJ X z s)(cc:cS X.C j s)(ah:Th.dM s a=some x)(ag:((Th.iR {Th.cz with kind:=4,dc:=a,id:=id,name:=I.state} (Th.c8 s a {x with state:=I.state})).bind λs=>if I.stop then Th.sO X.C g j s a k else if I.fail≠[]then Th.tZ X.C g j s a I.fail k else g s Th.dN k)=some y):ab E f c (a1 X z.ap z.ae j p (.ended a id I k) f c::bh X z s) eg:=by
 refine iZ (a1.eq_13 ..) ?_;rintro⟨aK,ar,V,ay,aL,aR,q,J,M,bZ,pc⟩ ⟨rfl,rfl,bt⟩;dsimp only;have B:=At.mk' aj cc ah bt;obtain rfl:a=x.id:=B.cy.symm;have R:=B.p0 cc;obtain⟨t,O,U⟩:=cc.jX;replace ag:=ij.1 ag;obtain⟨s1,l,ag⟩:=ag;obtain⟨c2,rfl⟩:=Th.l8 l;replace c2:s.trace.length<most:=c2;obtain⟨i,o,b,r,d⟩:=I;simp only at ag;cases r with
 |
  true=>
  simp only[fu]at ag;refine xH (L:=[_,_,_,_,_,_,_,_]) B λe Y=>?_;exact axs X z s j t x.id q x e B Y id J M k (some y) aK ar V ay aL aR bZ pc i o b d c2 (λaD aI=>Ti (z:={z with b4:=aD,b5:=aI}) (s:=(Th.c8 {s with trace:=s.trace++[({Th.cz with kind:=4,dc:=x.id,id:=id,name:=b}:bG)]} x.id {x with state:=b})) N C ⟨aj.gk,aj.fY,aj.fZ,by show _=(s.aE.set _ _).length;rw[gr];exact aj.ap,aj.ae⟩ ((cc.Ad (aW:={s with trace:=s.trace++[({Th.cz with kind:=4,dc:=x.id,id:=id,name:=b}:bG)]}) rfl Th.dZ.same rfl rfl rfl Bn cc.nr.2).set B.aX.1 ⟨R.id,R.kids,R.qI⟩) (At.set (n:={x with state:=b}) B rfl) ag)
 |
  false=>
  simp only[e2,eI]at ag;split at ag
  . rename_i T
    refine xH (L:=[_,_,_,_,_,_,_,_]) B λe Y=>?_;exact axt X z s j t x.id q x e B Y id J M k (some y) aK ar V ay aL aR bZ pc i o b d c2 T (λaD aI=>Tj (z:={z with b4:=aD,b5:=aI}) (s:=(Th.c8 {s with trace:=s.trace++[({Th.cz with kind:=4,dc:=x.id,id:=id,name:=b}:bG)]} x.id {x with state:=b})) N C ⟨aj.gk,aj.fY,aj.fZ,by show _=(s.aE.set _ _).length;rw[gr];exact aj.ap,aj.ae⟩ ((cc.Ad (aW:={s with trace:=s.trace++[({Th.cz with kind:=4,dc:=x.id,id:=id,name:=b}:bG)]}) rfl Th.dZ.same rfl rfl rfl Bn cc.nr.2).set B.aX.1 ⟨R.id,R.kids,R.qI⟩) (At.set (n:={x with state:=b}) B rfl) ag)
  . rename_i T
    obtain rfl:=Decidable.not_not.1 T;refine qN [_,_,_,_,_,_,_] λba=>?_;refine xH (L:=[_,_,_,_,_,_,_,_]) B λe Y=>?_;exact axu X z s j t x.id q x e B Y id J M k (some y) aK ar V ay aL aR bZ pc i o b [] c2 (λaD aI=>⟨ba,C iN (Th.c8 IV x.id JD) k y J M ⟨aj.gk,aj.fY,aj.fZ,by show _=(s.aE.set _ _).length;rw[gr];exact aj.ap,aj.ae⟩ ag⟩)
def ayK{v:Int}(N:X.C.ok)(C:hv X j g)(aj:bJ X z s)(cc:cS X.C j s)(ah:Th.dM s a=some x)(Z:0<=v)(ag:(if v<4611686018427387904 then Th.nN X.C g j s (.my a) 0 (min v.toNat X.C.aT) (.parent a k)else none)=some y):ab E f c (a1 X z.ap z.ae j p (.who a k) f c::cM X p (.fQ v)::bh X z s) eg:=by
 refine iZ (a1.eq_29 ..) ?_;rintro⟨aK,ar,V,ay,aL,q,J,M⟩ ⟨rfl,rfl,bt⟩;dsimp only;have B:=At.mk' aj cc ah bt;have n:=N.hd;split at ag
 . rename_i b
   have Z:0<=v/\v<4611686018427387904:=⟨Z,b⟩;have h:ab E 156 [ptr (X.bp j) 0,af (min v.toNat X.C.aT:Nat),bk 403 [ptr ay 0,ptr V 0],bk 404 [ptr ay 0,ptr aL 0,ptr V 0]] ([aa ay 110 [ptr q 0],aa V 106 eE,aa aL 1 [bk J M],a1 X z.ap z.ae j 0 k J M]++bh X z s) eg:=by
    refine pg (L:=[_,_,_,_]) (A:=eW [_,_,_,_]) (λD h F=>cE (fO:=λ_:Unit=>True) (l:=λ_=>[_,_,_,_]) (D:=D) () trivial qu h F) (Cr X z s (min v.toNat X.C.aT) _ _ _ _ (eW [_,_,_,_]) (some y) (X.bp j) (λd5 d6 cq d2=>?_));exact ajN (ea:=none) (cZ:=0) (aK:=ay) (ar:=V) (V:=aL) N C aj B (mZ (Nat.min_le_right _ _) n) (fk _) ag
   refine av Tryz.func402 λH D=>?_;haveI:=Ft (X:=X) (p:=p) (v:=v);refine aG ?_;refine cw [] [12] [aa aK 314 [ptr p 0],aa ar 32 [ptr X.h 0],cM X p (.fQ v),cp X z s] ?_;refine bR ?_;refine go_v rfl .none rfl (pD v yZ rfl) ?_;refine bE ?_;refine go_v rfl .none rfl (ta ((min v.toNat X.C.aT:Nat):Int) ad rfl rfl) ?_;refine bQ ?_;exact vj
 . cases ag
theorem ayL{e:fF}{az:hx}(N:X.C.ok)(C:hv X j g)(aj:bJ X z s)(cc:cS X.C j s)(ah:Th.dM s a=some x)(T:eR X.C x)(hp:az.out=0->az.val=0)(ag:(if az.out=2 then(Th.kill id 1 s).bind λs=>g s Th.dN k else(Th.dM (Th.mz s id 1 5) a).bind λx=>g (Th.c8 (Th.mz s id 1 5) a {x with timers:=Th.l7 x.timers e.name id}) Th.dN k)=some y):ab E f c (a1 X z.ap z.ae j p (.asked id a e k) f c::cM X p (.ey az)::bh X z s) (cv X (some y)):=by
 refine iZ (a1.eq_19 ..) ?_;rintro⟨aK,ar,V,ay,aL,aR,q,J,M⟩ ⟨rfl,rfl,bt⟩;dsimp only;have B:=At.mk' aj cc ah bt;obtain⟨t,O,U⟩:=cc.jX;refine qN [_,_,_,_,_,_] λba=>?_;split at ag
 . rename_i aJ
   obtain⟨s1,hk,aN⟩:=ij.1 ag;obtain⟨l,aw,aS,c2,_,rfl⟩:=Th.Cf hk;obtain⟨m,K⟩:=hG.of aj aw;have aO:s.a8.length<=most:=cc.l9;have aF:X.C.c6<=64:=N.sQ;have aY:∀aD aI,hr X j {z with b4:=aD,b5:=aI} (ki s id l.to 1) k J M (some y):=(λaD aI=>⟨ba,C {z with b4:=aD,b5:=aI} (ki s id l.to 1) k y J M ⟨aj.gk,aj.fY,aj.fZ,aj.ap,aj.ae⟩ aN⟩);refine av Tryz.func389 λH D=>?_;refine bj ?_;refine aU (Ck.VB X.db X.C.df p az hp) ?_;refine cP ?_;refine bj ?_;refine cn rfl (b9 rfl (tG X z s id 1 m l K bw aF aS c2 aO) bN) ?_;refine EH ?_;intro aD aI;haveI:=(aY aD aI).iY;refine bR ?_;exact aef
 . rename_i aJ
   have d4:=ayE (ft:=e.name) T.SC bw;unfold Th.mz at ag;split at ag
   . rename_i R
     obtain⟨n,d,ag⟩:=ij.1 ag;obtain rfl:n=x:=by
      exact acT
     refine xH (L:=[_,_,_,_,_,_,_,_]) B λaV Y=>?_;have aO:s.a8.length<=most:=cc.l9;have aY:hr X j z (Th.c8 {s with a8:=(dH s.a8 id 5)} a {n with timers:=Th.l7 n.timers e.name id}) k J M (some y):=⟨ba,C z _ k y J M ⟨aj.gk,aj.fY,aj.fZ,by show _=(s.aE.set _ _).length;rw[gr];exact aj.ap,aj.ae⟩ ag⟩;refine av Tryz.func389 λH D=>?_;haveI:=aY.iY;have v:(Th.gE n.timers e.name).length<1099511627776:=d4;obtain⟨ea,cZ,r,b⟩:=Lt aV.es e.name;rw[Y.es]at r b;refine acS ?_;refine afL ?_;refine b2 ?_;refine cw [] [5,201] [aa ar 32 [ptr X.h 0],aa V 36 [bx id],cp X z s] ?_;refine bE ?_;refine aU (Lg.Be X.ld s.a8 id 5 aO) ?_;refine b2 ?_;refine afR ?_;intro u i o;refine cn rfl (oB rfl rfl (gv (I:=[own (.slice i ((Th.gE n.timers e.name).length+1) o) 36 1 ((Th.gE n.timers e.name).length+1) (iL (Th.gE n.timers e.name)++[bx id]),a1 X z.ap z.ae j 0 k J M,ao (hV (mu aV.es e.name))]++[aa q 118 (dS X n aV),dj aV.ka aV.kc n.kids,dj aV.gQ aV.gR n.cH,fJ aV.gp X.C.dO n.aside n.front,gL aV.iB (min (max aV.bI.limit 0) 100) (min (max aV.bI.within 1) 4095) n.given,bs aV.gj .i64 (n.watched.map λw=>(w,.bool true)),ii aV.iC (o8 (hD aV.es) e.name (.slice i ((Th.gE n.timers e.name).length+1) o)),gb aV.bI,ao ((dI X z.ap s.aE).set (a -1) eJ),cp X z s,di z.b4 z.b5 s.trace,dX z.na z.dT s.notes,bs X.am .i64 (bD z.ap),bs X.dL .u64 (bD z.ae),ao (eB z.ae s.lets),Lg.cY X.ld (dH s.a8 id 5),dz X.cF X.C.c6 s.dead,bz X.m s.L z.tt,eo X,ee X s.bm,dy X.bl X.m X.C.bl X.C.aT,ao (dd X),ef X,eL X,e7 X,eO X,ao (cK X z.ap z.ae s.ax)]) (λD h F=>(show∀h,Sat _ h->Sat ((a1 X z.ap z.ae j 0 k J M::bh X z (Th.c8 {s with a8:=(dH s.a8 id 5)} a {n with timers:=Th.l7 n.timers e.name id}))++D) h from λh F=>by
      rw[KO rfl,show Value.slice i ((Th.gE n.timers e.name).length+1) o=ul i o ((Th.gE n.timers e.name)++[id]) by simp[ul]]at F;have gT:=Ta aV.es e.name i o ((Th.gE n.timers e.name)++[id]) _ h ((show∀h,Sat _ h->Sat (fH i o ((Th.gE n.timers e.name)++[id])::ao (hV (mu aV.es e.name))::(a1 X z.ap z.ae j 0 k J M::([aa q 118 (dS X n aV),dj aV.ka aV.kc n.kids,dj aV.gQ aV.gR n.cH,fJ aV.gp X.C.dO n.aside n.front,gL aV.iB (min (max aV.bI.limit 0) 100) (min (max aV.bI.within 1) 4095) n.given,bs aV.gj .i64 (n.watched.map λw=>(w,.bool true)),ii aV.iC (o8 (hD aV.es) e.name (ul i o ((Th.gE n.timers e.name)++[id]))),gb aV.bI,ao ((dI X z.ap s.aE).set (a -1) eJ),cp X z s,di z.b4 z.b5 s.trace,dX z.na z.dT s.notes,bs X.am .i64 (bD z.ap),bs X.dL .u64 (bD z.ae),ao (eB z.ae s.lets),Lg.cY X.ld (dH s.a8 id 5),dz X.cF X.C.c6 s.dead,bz X.m s.L z.tt,eo X,ee X s.bm,dy X.bl X.m X.C.bl X.C.aT,ao (dd X),ef X,eL X,e7 X,eO X,ao (cK X z.ap z.ae s.ax)]++D))) h from(au)) h F);exact Sat.tail (λh F=>jk (X:=X) (z:=z) (s:={s with a8:=(dH s.a8 id 5)}) (x:={n with timers:=Th.l7 n.timers e.name id}) (e:={aV with es:=qL aV.es e.name i o (Th.gE n.timers e.name++[id])}) B ⟨Y.bI,Y.kj,by rw[<-Y.es];exact S9 _ _ _ _ _⟩ D h F) ((show∀h,Sat _ h->Sat (a1 X z.ap z.ae j 0 k J M::(gM X z {s with a8:=(dH s.a8 id 5)} a q {n with timers:=Th.l7 n.timers e.name id} {aV with es:=qL aV.es e.name i o (Th.gE n.timers e.name++[id])}++D)) h from by rw[S8];exact(au)) h gT)) h F) aY.spec) bN) ?_
     exact BS
   . rename_i R
     obtain⟨n,d,ag⟩:=ij.1 ag;obtain rfl:n=x:=by
      rw[ah]at d;exact(n9 d).symm
     refine xH (L:=[_,_,_,_,_,_,_,_]) B λaV Y=>?_;have aO:s.a8.length<=most:=cc.l9;have aY:hr X j z (Th.c8 {s with a8:=s.a8} a {n with timers:=Th.l7 n.timers e.name id}) k J M (some y):=⟨ba,C z _ k y J M ⟨aj.gk,aj.fY,aj.fZ,by show _=(s.aE.set _ _).length;rw[gr];exact aj.ap,aj.ae⟩ ag⟩;refine av Tryz.func389 λH D=>?_;haveI:=aY.iY;have v:(Th.gE n.timers e.name).length<1099511627776:=d4;obtain⟨ea,cZ,r,b⟩:=Lt aV.es e.name;rw[Y.es]at r b;refine acS ?_;refine afL ?_;refine bE ?_;refine afR ?_;intro u i o;refine cn rfl (oB rfl rfl (gv (I:=[own (.slice i ((Th.gE n.timers e.name).length+1) o) 36 1 ((Th.gE n.timers e.name).length+1) (iL (Th.gE n.timers e.name)++[bx id]),a1 X z.ap z.ae j 0 k J M,ao (hV (mu aV.es e.name))]++[aa q 118 (dS X n aV),dj aV.ka aV.kc n.kids,dj aV.gQ aV.gR n.cH,fJ aV.gp X.C.dO n.aside n.front,gL aV.iB (min (max aV.bI.limit 0) 100) (min (max aV.bI.within 1) 4095) n.given,bs aV.gj .i64 (n.watched.map λw=>(w,.bool true)),ii aV.iC (o8 (hD aV.es) e.name (.slice i ((Th.gE n.timers e.name).length+1) o)),gb aV.bI,ao ((dI X z.ap s.aE).set (a -1) eJ),cp X z s,di z.b4 z.b5 s.trace,dX z.na z.dT s.notes,bs X.am .i64 (bD z.ap),bs X.dL .u64 (bD z.ae),ao (eB z.ae s.lets),Lg.cY X.ld s.a8,dz X.cF X.C.c6 s.dead,bz X.m s.L z.tt,eo X,ee X s.bm,dy X.bl X.m X.C.bl X.C.aT,ao (dd X),ef X,eL X,e7 X,eO X,ao (cK X z.ap z.ae s.ax)]) (λD h F=>(show∀h,Sat _ h->Sat ((a1 X z.ap z.ae j 0 k J M::bh X z (Th.c8 {s with a8:=s.a8} a {n with timers:=Th.l7 n.timers e.name id}))++D) h from λh F=>by
      rw[KO rfl,show Value.slice i ((Th.gE n.timers e.name).length+1) o=ul i o ((Th.gE n.timers e.name)++[id]) by simp[ul]]at F;have gT:=Ta aV.es e.name i o ((Th.gE n.timers e.name)++[id]) _ h ((show∀h,Sat _ h->Sat (fH i o ((Th.gE n.timers e.name)++[id])::ao (hV (mu aV.es e.name))::(a1 X z.ap z.ae j 0 k J M::([aa q 118 (dS X n aV),dj aV.ka aV.kc n.kids,dj aV.gQ aV.gR n.cH,fJ aV.gp X.C.dO n.aside n.front,gL aV.iB (min (max aV.bI.limit 0) 100) (min (max aV.bI.within 1) 4095) n.given,bs aV.gj .i64 (n.watched.map λw=>(w,.bool true)),ii aV.iC (o8 (hD aV.es) e.name (ul i o ((Th.gE n.timers e.name)++[id]))),gb aV.bI,ao ((dI X z.ap s.aE).set (a -1) eJ),cp X z s,di z.b4 z.b5 s.trace,dX z.na z.dT s.notes,bs X.am .i64 (bD z.ap),bs X.dL .u64 (bD z.ae),ao (eB z.ae s.lets),Lg.cY X.ld s.a8,dz X.cF X.C.c6 s.dead,bz X.m s.L z.tt,eo X,ee X s.bm,dy X.bl X.m X.C.bl X.C.aT,ao (dd X),ef X,eL X,e7 X,eO X,ao (cK X z.ap z.ae s.ax)]++D))) h from(au)) h F);exact Sat.tail (λh F=>jk (X:=X) (z:=z) (s:={s with a8:=s.a8}) (x:={n with timers:=Th.l7 n.timers e.name id}) (e:={aV with es:=qL aV.es e.name i o (Th.gE n.timers e.name++[id])}) B ⟨Y.bI,Y.kj,by rw[<-Y.es];exact S9 _ _ _ _ _⟩ D h F) ((show∀h,Sat _ h->Sat (a1 X z.ap z.ae j 0 k J M::(gM X z {s with a8:=s.a8} a q {n with timers:=Th.l7 n.timers e.name id} {aV with es:=qL aV.es e.name i o (Th.gE n.timers e.name++[id])}++D)) h from by rw[S8];exact(au)) h gT)) h F) aY.spec) bN) ?_
     exact BS
end
section
variable{X:cO}{j p f:Nat}{c:List Value}{z:dw}{s y:aq}{k:Th.K}{v:Int}{g:aq->b3->Th.K->Option aq}{a:Nat}{x:bU}{kind:cG}
def ajT(h:Th.xz j s v=some y):(1<=v/\v<=s.aE.length)/\Th.hs j s (.post v.toNat (Th.mA 2)) (.run v.toNat)=some y:=by
 unfold Th.xz at h;split at h
 . rename_i Z;exact⟨Z,h⟩
 . cases h
def Fy{r m a:List sh}(h:dZ r m)(k:dZ m a):dZ r a:=⟨λg=>k.1 (h.1 g),k.2.trans h.2⟩
def ajU(w:Int):∀(l:List Int) (r:List (Int×Int)),dZ r (rn w l r)
 |[],r=>dZ.same
 |x::l,r=>Fy (dZ.FV (id:=x) (w:=w)) (ajU w l _)
def ajV(a w:Int):∀(l:List Int) (r:List (Int×Int)),dZ r (rp a w l r)
 |[],r=>dZ.same
 |
  x::l,r=>by
  refine Fy ?_ (ajV a w l _);show dZ r (if bm r x=a then dH r x w else r);split
  . exact dZ.FV
  . exact dZ.same
def ayM{C:bO}{P:List cr}{s s1:aq}{id a:Nat}{kind:cG}{x:bU}(ah:Th.dM s a=some x)(h:Th.vB C P s id a kind=some s1):∃O st,P.find? (λk=>decide (k.name=kind))=some O/\O.states[0]?=some st/\id=s.aE.length+1/\id<=C.aT/\s.trace.length<most/\
 s1={s with aE:=s.aE.set (a -1) {x with kids:=x.kids++[(id:Int)]}++[kR id a O st.name],trace:=s.trace++IR}:=by
 unfold Th.vB at h;obtain⟨O,hk,h⟩:=ij.1 h;obtain⟨st,ai,h⟩:=ij.1 h;split at h
 . rename_i a6
   simp only[ah]at h;obtain⟨c2,rfl⟩:=Th.l8 h;exact⟨O,st,hk,ai,a6.1,a6.2,c2,rfl⟩
 . cases h
def ayN{α:Type}{l:List α}{i:Nat}{u v n:α}(h:i<l.length):(l.set i u++[n]).set i v=(l++[n]).set i v:=by
 rw[F5 _ _ (by rw[gr];exact h),F5 _ _ h,List.set_set]
def ayO{id:Int}{I:dE}{i n:Nat}(N:X.C.ok)(C:hv X j g)(aj:bJ X z s)(cc:cS X.C j s)(ah:Th.dM s a=some x)(T:eR X.C x)(Y:n<most)(ak:i<n)(ag:Th.nN X.C g j s (.da a id I) (i+1) n (.ended a id I k)=some y):ab E f c (a1 X z.ap z.ae j p (.each (.da a id I) i n (.ended a id I k)) f c::bh X z s) eg:=by
 refine iZ (a1.eq_32 ..) ?_;rintro⟨R,d2,d5,cq,d6,aK,ar,V,ay,aL,aR,aM,q,J,M,m,ea,cZ⟩ ⟨rfl,rfl,bt,b,_⟩;dsimp only;refine gv (λD h F=>Sat.tail (λh F=>Sat.tail (λh F=>Sat.tail (λh F=>Sat.tail (λh F=>Sat.tail (λh F=>cE (fO:=λ_:Unit=>True) (l:=λ_=>[_,_,_,_,_,_,_,_,_]) (D:=bh X z s++D) () trivial qu h F) F) F) F) F) F) (Fo X z s i n d5 d6 cq d2 _ _ _ _ (eW [_,_,_,_,_,_,_,_,_]) (some y) R ON ?_);exact Tm (bZ:=ea) (pc:=cZ) (aK:=aK) (ar:=ar) (V:=V) (ay:=ay) (aL:=aL) (aR:=aR) (aM:=aM) N C aj cc nH T b ag
def ayP{k:Th.K}{az:gC}(aj:bJ X z s)(b:¬az.out=0)(cc:cS X.C j s)(ag:Th.sleep j s (!decide (az.out=1))=some y):ab E f c (a1 X z.ap z.ae j p (.polled) f c::cM X p (.fE az)::bh X z s) eg:=by
 refine iZ (a1.eq_2 ..) ?_;rintro⟨aK,ar⟩ ⟨rfl,rfl⟩;dsimp only;obtain⟨t,O,U⟩:=cc.jX;obtain⟨dr,M,ag⟩:=ij.1 ag;obtain rfl:t=dr:=Zt;cases ag;exact jO ZS (axK X z s j p t az (λh=>absurd h b) O U aK ar) au (λu I q=>by
  obtain⟨rfl,rfl⟩:=q;exact⟨bh X z abM,⟨rfl,z,abM,rfl,kg,rfl⟩,au⟩)
def ayQ{k:Th.K}{az:gC}(N:X.C.ok)(aj:bJ X z s)(b:¬az.out=0)(cc:cS X.C j s)(i:j<X.C.bc)(ag:(if az.out=1 then Th.xz j s az.val else Th.hs j s (.fE (yx j)) .ps)=some y):ab E f c (a1 X z.ap z.ae j p (.found) f c::cM X p (.fE az)::bh X z s) eg:=by
 refine iZ (a1.eq_3 ..) ?_;rintro⟨aK,ar⟩ ⟨rfl,rfl⟩;dsimp only;obtain⟨t,O,U⟩:=cc.jX;split at ag
 . rename_i aJ
   obtain⟨Z,ag⟩:=ajT ag;have hH:=cc.na;have n:=N.hd;obtain⟨x,ah⟩:∃x,Th.dM s az.val.toNat=some x:=by
    exact adf
   obtain⟨q,B⟩:=At.of aj cc ah;have aY:=zI B.ap;rw[show((az.val.toNat -1+1:Nat):Int)=az.val by omega]at aY;refine adr ?_;intro hp Z h;refine av Tryz.func83 λH D=>?_;exact ago
 . rename_i aJ
   obtain⟨dr,M,a,rfl⟩:=Th.j6 ag;have hp:az.out=0->az.val=0:=(λh=>absurd h b);refine av Tryz.func83 λH D=>?_;haveI:=gn (X:=X) (ap:=z.ap) (ae:=z.ae) M;haveI:=sy (X:=X) (ap:=z.ap) (ae:=z.ae) M;refine QN ?_;refine bj ?_;refine iu [11,12,13] [12] [1,5,9,13,17,21,25,29,33,37,41,46,50,54,3,3,3,50,46,54] [aa ar 106 [ptr (X.bp j) 0],cp X z s,ao (cK X z.ap z.ae s.ax)] ?_;refine c4 ?_;refine fm ?_ ?_
   . refine bu (ajC X i) ?_
     rintro _ _ ⟨S,rfl,rfl⟩;refine eM ?_;refine aG ?_;refine wn λV=>?_;exact aeL
   . refine wn λV=>?_
     refine aG ?_;refine bu (ajC X i) ?_;rintro _ _ ⟨S,rfl,rfl⟩;refine eM ?_;exact aeL
def ayR{k:Th.K}{az:gC}(N:X.C.ok)(aj:bJ X z s)(b:¬az.out=0)(cc:cS X.C j s)(ag:(if az.out=1 then Th.xz j s az.val else Th.sleep j s true)=some y):ab E f c (a1 X z.ap z.ae j p (.ps) f c::cM X p (.fE az)::bh X z s) eg:=by
 refine iZ (a1.eq_4 ..) ?_;rintro⟨aK,ar⟩ ⟨rfl,rfl⟩;dsimp only;obtain⟨t,O,U⟩:=cc.jX;split at ag
 . rename_i aJ
   obtain⟨Z,ag⟩:=ajT ag;have hH:=cc.na;have n:=N.hd;obtain⟨x,ah⟩:∃x,Th.dM s az.val.toNat=some x:=by
    exact adf
   obtain⟨q,B⟩:=At.of aj cc ah;have aY:=zI B.ap;rw[show((az.val.toNat -1+1:Nat):Int)=az.val by omega]at aY;refine adr ?_;intro hp Z h;refine av Tryz.func87 λH D=>?_;exact ago
 . rename_i aJ
   obtain⟨dr,M,ag⟩:=ij.1 ag;obtain rfl:t=dr:=Zt;cases ag;exact jO ZS (axL X z s j p t az (λh=>absurd h b) O U aK ar aJ) au (λu I q=>by
    obtain⟨rfl,rfl⟩:=q;exact⟨bh X z {s with ax:=s.ax.set j {t with jj:=true}},⟨rfl,z,{s with ax:=s.ax.set j {t with jj:=true}},rfl,kg,rfl⟩,au⟩)
def ayS{slot:Nat}{v:Int}(N:X.C.ok)(C:hv X j g)(aj:bJ X z s)(cc:cS X.C j s)(ah:Th.dM s a=some x)(T:eR X.C x)(g0:slot<4)(Z:0<=v/\v<4611686018427387904)(ag:(if(X.C.aT:Int)<v then((Th.iR {Th.cz with kind:=8,dc:=a,name:=kind} s).map (·,(0:Int))).bind aaV else((Th.vB X.C X.P s v.toNat a kind).map (·,v)).bind aaV)=some y):ab E f c (a1 X z.ap z.ae j p (.mF a kind slot k) f c::cM X p (.fQ v)::bh X z s) eg:=by
 refine iZ (a1.eq_18 ..) ?_;rintro⟨aK,ar,V,ay,aL,aR,q,J,M⟩ ⟨rfl,rfl,bt⟩;dsimp only;have B:=At.mk' aj cc ah bt;have R:=B.p0 cc;have m0:=B.aX.1;have d4:a -1<s.aE.length:=(dp.1 B.ah).1;refine qN [_,_,_,_,_,_] λba=>?_;split at ag
 . rename_i a6
   replace ag:=ij.1 ag;obtain⟨F,o,ag⟩:=ag;obtain⟨s1,b,rfl⟩:=oV.1 o;obtain⟨c2,rfl⟩:=Th.l8 b;obtain⟨n,d,ag⟩:=ij.1 ag;obtain rfl:n=x:=by
    exact acT
   refine xH (L:=[_,_,_,_,_,_,_,_]) B λe Y=>?_;obtain rfl:a=n.id:=B.cy.symm;exact axY X z s j n.id q p slot kind n e aj N B Y J M k aK ar V ay aL aR (some y) g0 T.slots c2 v ⟨a6,Z.2⟩ (λaD aI=>⟨ba,C iN _ k y J M ⟨aj.gk,aj.fY,aj.fZ,by show _=(s.aE.set _ _).length;rw[gr];exact aj.ap,aj.ae⟩ ag⟩)
 . rename_i a6
   obtain⟨id,rfl⟩:∃id:Nat,v=id:=⟨v.toNat,by omega⟩;replace ag:=ij.1 ag;obtain⟨F,o,ag⟩:=ag;obtain⟨s1,b,rfl⟩:=oV.1 o;rw[Kk]at b;obtain⟨O,st,i6,g5,cy,m,c2,rfl⟩:=ayM ah b;obtain⟨n,d,ag⟩:=ij.1 ag;obtain rfl:{x with kids:=x.kids++[(id:Int)]}=n:=by
    unfold Th.dM at d;rw[bg m0]at d;simp only at d;rw[kY (by rw[gr];exact d4),zt d4]at d;exact n9 d
   refine ayD [_,_,_,_,_,_,_,_] λt pm=>?_;refine xH (L:=[_,_,_,_,_,_,_,_]) B λe Y=>?_;have r:=pm O (qT i6);refine axZ X z s j a q p slot kind x e aj N B Y J M k aK ar V ay aL aR (some y) g0 T.slots c2 id st.name O st t i6 r g5 rfl cy m R.kids (λi aD aI=>⟨ba,?_⟩);refine C {z with ap:=z.ap++[i],b4:=aD,b5:=aI} _ k y J M ⟨aj.gk,aj.fY,aj.fZ,by show(z.ap++[i]).length=((s.aE++[_]).set _ _).length;rw[gr,eZ,eZ,aj.ap];rfl,aj.ae⟩ ?_;rw[<-ag];unfold Th.c8;simp only;rw[ayN d4]
def ayT{k:Th.K}{g:aq->b3->Th.K->Option aq}{az:hx}(N:X.C.ok)(C:hv X j g)(aj:bJ X z s)(cc:cS X.C j s)(aJ:¬az.out=0)(d:az.due.length<=64)(ip:az.cut.length+az.ref.length<=64)(e:mg s.bm)(m2:s.bm.T.length<=1099511627776)(Y:Th.bP s+200<most)(ag:((Th.iR Pj {s with now:=s.now+1}).bind λs=>(Th.kH 1 az.ref s).bind λs=>(Th.kH 4 az.cut s).bind λs=>Th.nN X.C g j (az.due.foldl (λs id=>Th.move s id 1) ((s.bm.T.map (·.id)).foldl (λs id=>Th.mz s id 5 6) s)) (.leave az.due) 0 az.due.length .nil)=some y):ab E f c (a1 X z.ap z.ae j p (.mC) f c::cM X p (.ey az)::bh X z s) eg:=by
 refine iZ (a1.eq_5 ..) ?_;rintro⟨aK,ar,V⟩ ⟨rfl,rfl⟩;dsimp only;replace ag:=ij.1 ag;obtain⟨s1,h1,ag⟩:=ag;replace ag:=ij.1 ag;obtain⟨cb,h2,ag⟩:=ag;replace ag:=ij.1 ag;obtain⟨ce,aN,ag⟩:=ag;obtain⟨c2,rfl⟩:=Th.l8 h1;replace c2:s.trace.length<most:=c2;obtain⟨⟨cC,I,bq,aV⟩,H,cU,i2,o,_⟩:=Th.Lc h2;obtain⟨⟨a3,M,b7,bF⟩,r,em,t3,J,_⟩:=Th.Lc aN;have u:s.trace.length+s.dead.length+s.now+200<most:=by unfold Th.bP at Y;omega
 simp only[eZ,iG,lk]at i2 o;have b:cb.lets=s.lets:=by rw[aV]
 have i:ce.lets=s.lets:=by rw[bF,b]
 have m:ce.aE=s.aE:=by rw[bF,aV]
 have t:ce.notes=s.notes:=by rw[bF,aV]
 have v:ce.ax=s.ax:=by rw[bF,aV]
 refine axX X z s j p az aK ar V (some y) aJ ad ad d e m2 N.sQ cc.l9 ad c2 (λid ak=>?_) (λid ak=>?_) ad ad (λw a fG b8 b4 b5 cA a4 d8=>?_)
 . obtain⟨l,aw⟩:=cU id ak
   obtain⟨q,K⟩:=hG.of aj (show Th.kk s id=some l from aw);exact⟨q,l,K⟩
 . obtain⟨l,aw⟩:=em id ak
   have ip:Th.kk s id=some l:=by unfold Th.kk at aw⊢;rwa[b]at aw
   obtain⟨q,K⟩:=hG.of aj ip;exact⟨q,l,K⟩
 . obtain rfl:cb=w:=by rw[h2]at fG;exact n9 fG
   obtain rfl:ce=a:=by rw[aN]at b8;exact n9 b8
   rw[Th.SE,Th.aiX]at ag;have B:cS X.C j Ed:=cc.Ad (aW:=Ed) m (Fy H (Fy r (Fy (ajV 5 6 _ _) (ajU 1 _ _)))) t i v (by show ce.trace.length<=most;omega) (by show ce.dead.length<=most;omega);have G:bJ X zf Ed:=⟨aj.gk,aj.fY,aj.fZ,by show z.ap.length=ce.aE.length;rw[m];exact aj.ap,by show z.ae.length=ce.lets.length;rw[i];exact aj.ae⟩;refine pg (L:=[_,_,_]) (A:=eW [_,_,_,a1 X z.ap z.ae j 0 .nil 159 []]) (λD h F=>cE (fO:=λ_:Unit=>True) (l:=λ_=>[_,_,_,_]) (D:=D) () trivial qu h (Sat.tail (λh F=>Sat.tail (λh F=>Sat.tail (λh F=>Fs (.inr (.inr (.inr (.inr rfl)))) _ h F) F) F) F)) (Cr X zf Ed az.due.length _ _ _ _ (eW [_,_,_,_]) (some y) (X.bp j) (λd5 d6 cq d2=>?_));exact ajM (z:={z with b4:=b4,b5:=b5}) (s:={ce with a8:=rn 1 az.due (rp 5 6 (ce.bm.T.map (·.id)) ce.a8)}) (ea:=a4) (cZ:=d8) (aK:=V) (ar:=cA) (V:=0) N C G fl B rfl ag
end
section
variable{X:cO}{ap ae:List Nat}{j p f a i n:Nat}{id:Int}{I:dE}{k:Th.K}{c:List Value}{z:dw}{D a2:List al}{s y:aq}{h:eQ}{post:Value->List al->Prop}{r:b3}{g:aq->b3->Th.K->Option aq}
theorem ajW:∀k:Th.K,64<=bB k:=λk=>by
 cases k<;>(simp only[bB,Th.np])<;>first|omega|(rename_i d i n k;cases d<;>simp only[Th.wd]<;>omega)
theorem ayU(s:Sat (a1 X ap ae j p (.each (.da a id I) i n k) f c::D) h):∃Y,k=.ended a id I Y:=by
 cases k with
 |ended cC g o k=>rw[a1]at s;obtain⟨_,u,_⟩:=ha s;simp only at u;obtain⟨_,_,_,_,rfl,rfl,rfl⟩:=u;exact⟨k,rfl⟩
 |_=>rw[a1]at s;obtain⟨_,u,_⟩:=ha s;exact u.elim;all_goals(intros;simp_all)
theorem ayV(s:Sat (a1 X ap ae j p (.each (.my a) i n k) f c::D) h):∃Y,k=.parent a Y:=by
 cases k with
 |parent cC k=>rw[a1]at s;obtain⟨_,u,_⟩:=ha s;simp only at u;obtain⟨_,_,_,rfl⟩:=u;exact⟨k,rfl⟩
 |_=>rw[a1]at s;obtain⟨_,u,_⟩:=ha s;exact u.elim;all_goals(intros;simp_all)
theorem ayW(h:∀Y,k=.ended a id I Y->ab E f c (a1 X ap ae j p (.each (.da a id I) i n k) f c::a2) post):ab E f c (a1 X ap ae j p (.each (.da a id I) i n k) f c::a2) post:=λH D w s=>
 let⟨Y,e⟩:=ayU s.fg;h Y e H D w s
theorem ayX(h:∀Y,k=.parent a Y->ab E f c (a1 X ap ae j p (.each (.my a) i n k) f c::a2) post):ab E f c (a1 X ap ae j p (.each (.my a) i n k) f c::a2) post:=λH D w s=>
 let⟨Y,e⟩:=ayV s.fg;h Y e H D w s
theorem Fz{P:Program}{f:FuncId}{args:List Value}{A B:al}{a2:List al}{post:Value->List al->Prop}(h:ab P f args (A::a2) post):ab P f args (A::B::a2) post:=
 gv (M:=A::a2) (I:=A::B::a2) (λD h F=>Sat.tail (λh F=>Sat.drop F) F) h
structure Cu(X:cO)(j:Nat)(s:aq):Prop where
 W:cS X.C j s
 dl:s.dead.length<most/\s.trace.length<most
 gp:∀id l,Th.kk s id=some l->0<=l.n/\l.n<=255
 sV:∀a x,Th.dM s a=some x->eR X.C x
 ex:∀a,cI (bn s) a->∃x,Th.dM s a=some x
 na:s.aE.length<=X.C.aT
theorem Cu.of{f:Nat->Th.ga}{X:cO}{n V j p q:Nat}{s:aq}(h:In f X.C X.P n j p q s)(aO:n<=bo)(hp:bP s+64<=V)(aA:V<1099511627776):Cu X j s:=by
 have m5:most=1099511627776:=rfl;have u:s.trace.length+s.dead.length+64<=V:=Iq;refine⟨cS.of h aO ad,by omega,λid l e=>?_,λa x e=>(h.sV ad e).2.2,λa v=>?_,h.base.na⟩
 . unfold Th.kk at e
   split at e
   . exact(h.base.lets l (jH e)).n
   . cases e
 . obtain⟨h1,h2⟩:=v
   unfold Th.dM;rw[bg h1];have h2:a<=s.aE.length:=h2;exact⟨_,cD ad⟩
theorem ajX{k:Th.K}(N:X.C.ok)(C:hv X j g)(aj:bJ X z s)(K:Cu X j s)(aS:c9 k)(hk:cX X.C X.P (bn s) k)(ag:dF X.C X.P g j s r k=some y):ab E f c (a1 X z.ap z.ae j p k f c::bh X z s) eg:=by
 cases k with
 |nil=>simp only[dF]at ag;cases ag;exact ayF (k:=.nil) aj
 |
  run a=>
  obtain⟨x,ah⟩:=K.ex a hk;exact ayd (k:=.nil) aj K.W ah ag
 |
  on a=>
  obtain⟨x,ah⟩:=K.ex a hk;simp only[dF,ah,qD,k0]at ag;exact aye (k:=.nil) aj K.W ah ag
 |
  next a left=>
  obtain⟨x,ah⟩:=K.ex a hk.1;exact ayG (k:=.nil) N C aj K.W ah (K.sV a x ah) K.dl K.gp hk.2 ag
 |
  ended a id I k=>
  obtain⟨x,ah⟩:=K.ex a hk.1;simp only[dF,ah,qD,k0]at ag;exact ayJ N C aj K.W ah ag
 |
  alone a k=>
  obtain⟨x,ah⟩:=K.ex a hk.1;exact aym N C aj K.W ah ag
 |
  shut a k=>
  obtain⟨x,ah⟩:=K.ex a hk.1;exact ayp aj K.W ah ag
 |
  parent a k=>
  obtain⟨x,ah⟩:=K.ex a hk.1;simp only[dF,ah,qD,k0]at ag;exact ayr N C aj K.W ah ag
 |
  each d i n k=>
  obtain⟨G,he,hk,_,_⟩:=hk;have m5:most=1099511627776:=rfl;cases d with
  |
   da a id I=>
   obtain⟨h1,h2,aN,bA,d3⟩:=G;obtain⟨x,ah⟩:=K.ex a h1;refine ayW λY e=>?_;subst e;exact ayO N C aj K.W ah (K.sV a x ah) ad he ag
  |cancel ids=>exact ayx N C aj G.1 (λv Z=>by have:1<=v:=(G.2 v Z).1;omega) he ag
  |leave due=>exact ayy N C aj K.W G.1 (by have:=G.2.1;omega) he ag
  |push l w=>exact ayw N C aj G.1 he ag
  |
   my a=>
   obtain⟨h1,h2,aN⟩:=G;obtain⟨x,ah⟩:=K.ex a h1;refine ayX λY e=>?_;subst e;exact ayz N C aj K.W ah aN ad he ag
 |_=>exact aS.elim
theorem ayY{f0:Nat->Th.ga}{X:cO}{n V j p f:Nat}{c:List Value}{z:dw}{s y:aq}{r:b3}{g:aq->b3->Th.K->Option aq}{k:Th.K}(N:X.C.ok)(C:hv X j g)(aj:bJ X z s)(bK:In f0 X.C X.P n j (eT k) (eU k) s)(cV:n<=bo)(aA:V<1099511627776)(W:bP s+bB k<=V)(hk:cX X.C X.P (bn s) k)(aF:eS X.C j s r k)(aJ:r.over=true)(q:∀az,r=.ey az->0<=az.val/\az.val<=18446744073709551615)(ag:dF X.C X.P g j s r k=some y):
 ab E f c (a1 X z.ap z.ae j p k f c::cM X p r::bh X z s) (cv X (some y)):=by
 have m5:most=1099511627776:=rfl;have I:bo=1000000000000:=rfl;have v:=ajW k;have K:Cu X j s:=Cu.of bK cV ad aA;by_cases aS:c9 k
 . refine Fz ?_
   exact ajX N C aj K aS hk ag
 have o:∀{b:Nat} {Y:gz},b3.over kG=true->¬Y.out=0:=λh e=>by simp[b3.over,gz.over,e]at h
 have t:∀{az:gC},b3.over (.fE az)=true->¬az.out=0:=λh e=>by simp[b3.over,gC.over,e]at h
 have u:∀{az:hx},b3.over (.ey az)=true->¬az.out=0:=λh e=>by simp[b3.over,hx.over,e]at h
 cases k with
 |polled=>obtain⟨c,rfl⟩:=aF;exact ayP (k:=.nil) aj (t aJ) K.W ag
 |
  found=>
  obtain⟨O,aF⟩:=aF;cases r with
  |fE c=>exact ayQ (k:=.nil) N aj (t aJ) K.W O ag
  |_=>exact aF.elim
 |
  ps=>
  obtain⟨O,aF⟩:=aF;cases r with
  |fE c=>exact ayR (k:=.nil) N aj (t aJ) K.W ag
  |_=>exact aF.elim
 |
  mC=>
  obtain⟨c,rfl,h1,h2,aN,bA,d3⟩:=aF;obtain⟨ak,a6,_⟩:=bK.bp;have e:bB .mC=7000:=rfl;have hlen:=a6.ws.ok.len;exact ayT (k:=.nil) N C aj K.W (u aJ) bA d3 a6.ws.fR ad ad ag
 |
  iX a=>
  cases r with
  |
   post b Y=>
   obtain⟨x,ah⟩:=K.ex a hk;exact ayI (k:=.nil) N C aj K.W ah (K.sV a x ah) K.dl K.gp (λe=>absurd e (o aJ)) (λe=>(aF.2 e).1) ag
  |_=>exact aF.elim
 |
  again a=>
  obtain⟨x,ah⟩:=K.ex a hk;refine Fz ?_;exact ayf (k:=.nil) N aj K.W ah ag
 |
  mD a left=>
  cases r with
  |
   post b Y=>
   obtain⟨x,ah⟩:=K.ex a hk.1;exact ayH (k:=.nil) N C aj K.W ah (K.sV a x ah) K.dl K.gp (λe=>absurd e (o aJ)) ag
  |_=>exact aF.elim
 |
  settled a=>
  obtain⟨b,Y,rfl⟩:=aF;obtain⟨x,ah⟩:=K.ex a hk;exact ayg (k:=.nil) N C aj K.W ah ag
 |
  oU a=>
  obtain⟨b,Y,rfl⟩:=aF;obtain⟨x,ah⟩:=K.ex a hk;exact ayh (k:=.nil) N C aj K.W ah ag
 |
  mE l k=>
  replace aF:r=.fQ ((s.lets.length+1:Nat):Int):=aF;subst aF;exact ayt N C aj K.W ag
 |
  hR a l e k=>
  replace aF:r=.fQ ((s.lets.length+1:Nat):Int):=aF;subst aF;exact ayu aj K.W ag
 |
  told id to k=>
  obtain⟨b,Y,rfl⟩:=aF;obtain⟨h1,h2,aN,bA,_⟩:=hk;have w:1<=to:=h2.1;have B:to<=s.aE.length:=h2.2;have hH:=K.na;exact ays N C aj K.W ad bA ag
 |
  lJ a k=>
  obtain⟨b,Y,rfl⟩:=aF;obtain⟨h1,h2,aN,_⟩:=hk;exact ayi N C aj (mZ h1.2 K.na) aN ag
 |
  mF a kind slot k=>
  replace aF:r=.fQ (s.L.getD 1 0):=aF;subst aF;obtain⟨x,ah⟩:=K.ex a hk.1;have d:=bK.num.mv;have ip:=bK.num.mx;exact ayS N C aj K.W ah (K.sV a x ah) hk.2.2.1 ad ag
 |
  asked id a e k=>
  obtain⟨az,rfl⟩:=aF;obtain⟨x,ah⟩:=K.ex a hk.2.1;exact ayL N C aj K.W ah (K.sV a x ah) (λe=>absurd e (u aJ)) ag
 |
  watched a who k=>
  refine Fz ?_;have hH:=K.na;have h2:who<=s.aE.length:=hk.2.1.2;exact ayj N aj ⟨hk.2.1.1,by omega⟩ ag
 |
  gone a who k=>
  obtain⟨b,Y,rfl⟩:=aF;obtain⟨x,ah⟩:=K.ex a hk.1;exact ayk N C aj K.W ah ag
 |
  nq a b k=>
  obtain⟨i,rfl⟩:=aF;exact ayl N C aj ag
 |
  kI a m k=>
  obtain⟨az,rfl⟩:=aF;obtain⟨x,ah⟩:=K.ex a hk.1;have T:=K.sV a x ah;simp only[dF,ah,qD,k0]at ag;exact ayv N C aj K.W ah (by have:=hk.2.2.1;omega) T.K9 T.SB (λe=>absurd e (u aJ)) (q az rfl) ag
 |
  closed a k=>
  obtain⟨x,ah⟩:=K.ex a hk.1;refine Fz ?_;exact ayn aj K.W ah ag
 |
  lc a k=>
  cases r with
  |
   post b Y=>
   obtain⟨x,ah⟩:=K.ex a hk.1;refine ayo N C aj K.W ah (λe=>absurd e (o aJ)) ?_;simp only[dF]at ag;by_cases d3:Y.out=5
   . rw[bg d3]at ag⊢;exact ag
   . rw[a7 d3]at ag⊢
     by_cases h1:Y.out=1
     . rw[bg h1]at ag⊢;exact ag
     . rw[a7 h1]at ag⊢;exact ag
  |_=>exact aF.elim
 |
  oo a k=>
  obtain⟨x,ah⟩:=K.ex a hk.1;refine Fz ?_;simp only[dF,ah,qD,k0]at ag;exact ayq aj K.W ah ag
 |
  who a k=>
  replace aF:r=.fQ (s.L.getD 1 0):=aF;subst aF;obtain⟨x,ah⟩:=K.ex a hk.1;have d:=bK.num.mv;exact ayK N C aj K.W ah ad ag
 |_=>exact absurd trivial aS
end
open Classical in
noncomputable def vE (f0:Nat->Th.ga)(C:bO)(P:List cr)(n V j m:Nat)(s:aq)(r:b3)(k:Th.K):Option aq:=
 if In f0 C P n j 0 0 s/\cX C P (bn s) k/\c9 k/\bP s+bB k<=V/\bB k<m then go C P m j s r k else none
section
variable{f0:Nat->Th.ga}{X:cO}{n V j:Nat}(N:X.C.ok)(aA:V<1099511627776)(cV:n<=bo)(dg:Th.h7 X.P)
theorem ayZ(m:Nat)(s:aq)(r:b3)(k:Th.K):Th.b6 (vE f0 X.C X.P n V j m s r k) (go X.C X.P m j s r k):=by
 unfold vE;split
 . exact Th.b6.refl _
 . exact λv e=>by cases e
include N aA cV dg
theorem ay0(m:Nat):ei f0 X.C X.P n V j m (vE f0 X.C X.P n V j m):=λs k a b c d e=>by
 unfold vE;rw[bg ⟨a,b,c,d,e⟩];exact Th.go_ok N aA cV dg m s k a b c d e
theorem ajY{m:Nat}{s y:aq}{r:b3}{k:Th.K}(bf:bB k<=m)(h:In f0 X.C X.P n j (eT k) (eU k) s)(hk:cX X.C X.P (bn s) k)(aF:eS X.C j s r k)(W:bP s+bB k<=V)(ag:go X.C X.P (m+1) j s r k=some y):dF X.C X.P (vE f0 X.C X.P n V j m) j s r k=some y:=by
 obtain⟨aW,e,_,_⟩:=Th.SL N aA cV dg ((ay0 (f0:=f0) (j:=j) N aA cV dg m).le bf) h hk aF W;have h2:=Th.avH (C:=X.C) (P:=X.P) (ayZ (f0:=f0) (X:=X) (n:=n) (V:=V) (j:=j) m) s r k aW e;have aN:dF X.C X.P (go X.C X.P m j) j s r k=some y:=ag;rw[aN]at h2;rw[e,n9 h2]
theorem go_dm:∀(m:Nat) (z:dw) (s:aq) (k:Th.K) (y:aq) (J:Nat) (M:List Value),bJ X z s->In f0 X.C X.P n j 0 0 s->cX X.C X.P (bn s) k->c9 k->bP s+bB k<=V->bB k<m->go X.C X.P m j s Th.dN k=some y->ab E J M k8 eg
 |0,z,s,k,y,J,M,_,_,_,_,_,h,_=>absurd h (KI _)
 |
  m+1,z,s,k,y,J,M,aj,bK,hk,aS,W,bf,ag=>by
  have C:hv X j (vE f0 X.C X.P n V j m):=λz s k y J M aj h=>by
   unfold vE at h;split at h
   . rename_i a6
     exact go_dm m z s k y J M aj a6.1 a6.2.1 a6.2.2.1 a6.2.2.2.1 a6.2.2.2.2 h
   . cases h
  have v:=ajW k;exact ajX N C aj (Cu.of bK cV ad aA) aS hk (ajY (f0:=f0) N aA cV dg ad (by rw[(Th.K1 aS).1,(Th.K1 aS).2];exact bK) hk (Th.Sh aS) W ag)
theorem go_run{m p f:Nat}{c:List Value}{z:dw}{s y:aq}{r:b3}{k:Th.K}(aj:bJ X z s)(bK:In f0 X.C X.P n j (eT k) (eU k) s)(hk:cX X.C X.P (bn s) k)(aF:eS X.C j s r k)(W:bP s+bB k<=V)(bf:bB k<=m)(aJ:r.over=true)(q:∀az,r=.ey az->0<=az.val/\az.val<=18446744073709551615)(ag:go X.C X.P (m+1) j s r k=some y):
 ab E f c (a1 X z.ap z.ae j p k f c::cM X p r::bh X z s) (cv X (some y)):=by
 have C:hv X j (vE f0 X.C X.P n V j m):=λz s k y J M aj h=>by
  unfold vE at h;split at h
  . rename_i a6
    exact go_dm N aA cV dg m z s k y J M aj a6.1 a6.2.1 a6.2.2.1 a6.2.2.2.1 a6.2.2.2.2 h
  . cases h
 exact ayY N C aj bK cV aA W hk aF aJ q (ajY (f0:=f0) N aA cV dg bf bK hk aF W ag)
end
end Go.Proofs.YtnnhpnccfnghdaaGreat.L.bM
namespace Go.L
class qk(P:Program)(t:TypeId)(name:String)(f:outParam FuncId):Prop where
 out:∀p w,(method (P.types.size+Made.depth) t (ptr p 0) name).run P w=.ok (f,ptr p 0) w
theorem Oc{P:Program}{H:World}{n:Nat}{J:e6}{M:List al}{bH t:TypeId}{name:String}{f:FuncId}{x:Operand}{p:Nat}{xs:List Operand}{z:Array TypeId}{cg:List Value}{pre D:List al}{post:Value->List al->Prop}[m:qk P t name f](Z:cm J x=some (.iface t (ptr p 0)))(ah:tu J xs=some cg)(ba:ab P f (ptr p 0::cg) pre post)(hp:Part pre M D)(fI:fb P f:=by exact fl):
 ds P H n Yr bH J M HY:=λa w d pos N g ai s=>by
 refine⟨f,(ptr p 0::cg).toArray,?_,?_⟩
 . simp only[execOp,resolve,oM,ai.Ac ah,ai.eval Z]
   have aC:=m.out p w;simp[invoke,callMethod,run_program]at aC⊢;rw[aC];simpa using HZ (P:=P) (f:=f) (ptr p 0::cg).toArray w
 . exact(ba H D w DR).mono λe X ⟨v,L,Y,bt,aW⟩=>⟨v,_,Y,⟨L,bt,rfl⟩,aW⟩
end Go.L
namespace Go.Proofs.YtnnhpnccfnghdaaGreat.L.bM
open Go.Proofs.YtnnhpnccfnghdaaGreat.L
open Go.L Go.L.Ring Go.L.dD Go.L.ej Go.L.Whl Go.L.dP Go.L.Lx Go.L.Pg
open Go.L.Led (du dH dW bm aw fo)
open Go.L.Th (bO c0 dn bG dE bU b3 e4 b0 aq most dY cS fp eR dZ In cX c9 eS bB bP eT eU bn cI dF go bo Good ei eV ec acc Inv eG e5 fj busy dA eC eh fr)
attribute[local irreducible] G cJ GE c3 GT b1 dk c7 ds Exit.then Exit.inBlock
section
variable(X:cO){C:bO}(z:dw)(p:Nat){L:List Int}(s:aq)(j:Nat)
instance:qk E 246 "Step" 474:=Eu
instance:qk E 169 "Step" 474:=Eu
instance:qk E 248 "Step" 474:=Eu
instance:qk E 392 "Step" 489:=Eu
instance:qk E 314 "Step" 486:=Eu
def ay1(t:b0)(p f:Nat)(c:List Value)(T gu:Nat)[qk E T "Step" gu](A a a2 d:al)(b:Value)(i:ab E gu [ptr p 0] [A,a2] (aH gP [a,d]))(fI:fb E gu:=by exact fl):ab E 44 [ptr (X.bp j) 0,b] [aa (X.bp j) 128 abq,A,a2] (aH eN [aa (X.bp j) 128 abq,a,d]):=by
 refine av Tryz.func44 λH D=>?_;refine ct ?_;refine aB rfl (XZ rfl) ?_;refine c4 ?_;refine cn rfl (Oc rfl rfl (i) bN) ?_;refine adO ?_;exact pK
abbrev LT:List al:=[cp X z s,di z.b4 z.b5 s.trace,dX z.na z.dT s.notes,bs X.am .i64 (bD z.ap),ao (dI X z.ap s.aE),bs X.dL .u64 (bD z.ae),ao (eB z.ae s.lets),Lg.cY X.ld s.a8,dz X.cF X.C.c6 s.dead,bz X.m s.L z.tt,eo X,ee X s.bm,dy X.bl X.m X.C.bl X.C.aT,ao (dd X),ef X,eL X,e7 X,eO X,ao ((cK X z.ap z.ae s.ax).set j eJ)]
def jv:al:=eW (LT X z s j)
def ay2{P:Program}{f:FuncId}{args:List Value}{A a:al}{L E:List al}{N:Value}(h:ab P f args (A::L) (aH N (a::E))):ab P f args [A,eW L] (aH N [a,eW E]):=λH D w s=>
 (h H D w (s.imp fun g t => Sat.tail (fun h F => by obtain ⟨_, _, b⟩ := ha F; exact b) t)).mono fun _ _ ⟨v, I, e, ⟨p, q⟩, s⟩ => ⟨v, _, e, ⟨p, rfl⟩, s.imp fun g t => by
  subst q;exact Sat.tail (λh F=>cE (fO:=λ_:Unit=>True) (l:=λ_=>E) (D:=D) () trivial qu h F) t⟩
def Tn(h:C.ok):C.cells<=65536:=by
 have bQ:=h.bQ;have hd:=h.hd;have m64:=h.m64;have d64:=h.d64;have i64:=h.i64;have aC:C.bc*(2+C.eX)<=8*66:=qi bQ ad;have aV:C.aT*C.aT<=16*16:=qi hd hd;have bF:C.aT*C.fh<=16*214:=qi hd (by unfold bO.fh bO.fK;omega);have dx:C.bC.size=C.bc+(2+2*C.aT)+C.bc*(2+C.eX):=rfl;refine Qw ?_;intro ho;omega
def ajZ{a:Nat}(h:C.ok)(aw:L.length=C.cells)(aX:1<=a/\a<=C.aT):ry (C.box a) L:=by
 have m1:=h.m1;have m64:=h.m64;have hd:=h.hd;have a6:=Tn h;have bF:(a -1)*C.fh+C.fh<=C.aT*C.fh:=by
  have:(a -1+1)*C.fh<=C.aT*C.fh:=pN _ ad;exact Hs
 have ur:C.fh=2+(2+2*C.hW)+(2+2*C.fK):=rfl;have qY:C.fK=2*C.aT+8:=rfl;have ho:C.cells=C.gS+C.aT*C.fh:=rfl;refine⟨m1,m64,?_,?_,?_,by omega⟩
 . show 1<=C.fK;omega
 . show C.fK<=64;omega
 . show C.gS+(a -1)*C.fh+6+2*C.hW+2*C.fK<=L.length;omega
def ay3(h:C.ok)(aw:L.length=C.cells):kd C.bC L:=by
 have a6:=Tn h;refine Qw ?_;intro ho;exact⟨h.aG,h.bQ,h.d1,h.d64,h.cu,h.hd,by show 2+C.bC.size<=L.length;omega,by omega⟩
def ay4(h:C.ok)(aw:L.length=C.cells):rW C.df L:=by
 have a6:=Tn h;refine Qw ?_;intro ho;exact⟨h.i1,h.i64,by show 2+C.bC.size+3+2*C.iS<=L.length;omega,by omega⟩
abbrev qO:b3->Nat
 |.load _=>486|.add _ _=>486|.fQ _=>486|.ht _=>489|_=>474
abbrev ja(o:b3):dw:={z with tt:=if o.over then z.tt else dV z.tt}
def ay5(v:Int):ab E 486 [ptr p 0] [cM X p (.fQ v)] (aH hI [cM X p (.fQ v)]):=by
 refine av Tryz.func486 λH D=>?_;refine kK eP ?_;rintro w -;refine gh ?_;refine yg ?_;intro f;refine eY ?_;refine og ?_;refine cB ?_;exact aQ (I:=[cM X p (.fQ v)]) cj (cE w trivial (cE f trivial (au)))
end
section
variable{X:cO}{z:dw}{s:aq}{j p c:Nat}
def ay6(a6:c<s.L.length):ab E (qO (.load c)) [ptr p 0] (cM X p (.load c)::LT X z s j) (aH (.bool (acc X.C s (.load c)).2.over) (cM X p (acc X.C s (.load c)).2::LT X (ja z (.load c)) (acc X.C s (.load c)).1 j)):=by
 have bi:=GN p X.m c s.L z.tt a6;exact jO [cp X z s,di z.b4 z.b5 s.trace,dX z.na z.dT s.notes,bs X.am .i64 (bD z.ap),ao (dI X z.ap s.aE),bs X.dL .u64 (bD z.ae),ao (eB z.ae s.lets),Lg.cY X.ld s.a8,dz X.cF X.C.c6 s.dead,eo X,ee X s.bm,dy X.bl X.m X.C.bl X.C.aT,ao (dd X),ef X,eL X,e7 X,eO X,ao ((cK X z.ap z.ae s.ax).set j eJ)] bi (λh F=>(show∀h,Sat _ h->Sat [qZ p X.m c,bz X.m s.L z.tt,cp X z s,di z.b4 z.b5 s.trace,dX z.na z.dT s.notes,bs X.am .i64 (bD z.ap),ao (dI X z.ap s.aE),bs X.dL .u64 (bD z.ae),ao (eB z.ae s.lets),Lg.cY X.ld s.a8,dz X.cF X.C.c6 s.dead,eo X,ee X s.bm,dy X.bl X.m X.C.bl X.C.aT,ao (dd X),ef X,eL X,e7 X,eO X,ao ((cK X z.ap z.ae s.ax).set j eJ)] h from(au)) h F) (λu I q=>by
  obtain⟨rfl,rfl⟩:=q;exact⟨_,⟨rfl,rfl⟩,λh F=>cE (fO:=λ_:Bool=>True) (l:=λw=>[nX p (s.L.getD c 0) w]) (D:=LT X (ja z (.load c)) (acc X.C s (.load c)).1 j) true trivial au h F⟩)
def ay7{d:Int}(a6:c<s.L.length):ab E (qO (.add c d)) [ptr p 0] (cM X p (.add c d)::LT X z s j) (aH (.bool (acc X.C s (.add c d)).2.over) (cM X p (acc X.C s (.add c d)).2::LT X (ja z (.add c d)) (acc X.C s (.add c d)).1 j)):=by
 have bi:=auw p X.m c s.L z.tt a6 d;exact jO [cp X z s,di z.b4 z.b5 s.trace,dX z.na z.dT s.notes,bs X.am .i64 (bD z.ap),ao (dI X z.ap s.aE),bs X.dL .u64 (bD z.ae),ao (eB z.ae s.lets),Lg.cY X.ld s.a8,dz X.cF X.C.c6 s.dead,eo X,ee X s.bm,dy X.bl X.m X.C.bl X.C.aT,ao (dd X),ef X,eL X,e7 X,eO X,ao ((cK X z.ap z.ae s.ax).set j eJ)] bi (λh F=>(show∀h,Sat _ h->Sat [EW p X.m c d,bz X.m s.L z.tt,cp X z s,di z.b4 z.b5 s.trace,dX z.na z.dT s.notes,bs X.am .i64 (bD z.ap),ao (dI X z.ap s.aE),bs X.dL .u64 (bD z.ae),ao (eB z.ae s.lets),Lg.cY X.ld s.a8,dz X.cF X.C.c6 s.dead,eo X,ee X s.bm,dy X.bl X.m X.C.bl X.C.aT,ao (dd X),ef X,eL X,e7 X,eO X,ao ((cK X z.ap z.ae s.ax).set j eJ)] h from(au)) h F) (λu I q=>by
  obtain⟨rfl,rfl⟩:=q;exact⟨_,⟨rfl,rfl⟩,λh F=>cE (fO:=λ_:Bool=>True) (l:=λw=>[nX p (fe (s.L.getD c 0+d)) w]) (D:=LT X (ja z (.add c d)) (acc X.C s (.add c d)).1 j) true trivial au h F⟩)
def ay8{v:Int}:ab E (qO (.fQ v)) [ptr p 0] (cM X p (.fQ v)::LT X z s j) (aH (.bool (acc X.C s (.fQ v)).2.over) (cM X p (acc X.C s (.fQ v)).2::LT X (ja z (.fQ v)) (acc X.C s (.fQ v)).1 j)):=by
 have bi:=ay5 X p v;exact jO [cp X z s,di z.b4 z.b5 s.trace,dX z.na z.dT s.notes,bs X.am .i64 (bD z.ap),ao (dI X z.ap s.aE),bs X.dL .u64 (bD z.ae),ao (eB z.ae s.lets),Lg.cY X.ld s.a8,dz X.cF X.C.c6 s.dead,bz X.m s.L z.tt,eo X,ee X s.bm,dy X.bl X.m X.C.bl X.C.aT,ao (dd X),ef X,eL X,e7 X,eO X,ao ((cK X z.ap z.ae s.ax).set j eJ)] bi (λh F=>(show∀h,Sat _ h->Sat [cM X p (.fQ v),cp X z s,di z.b4 z.b5 s.trace,dX z.na z.dT s.notes,bs X.am .i64 (bD z.ap),ao (dI X z.ap s.aE),bs X.dL .u64 (bD z.ae),ao (eB z.ae s.lets),Lg.cY X.ld s.a8,dz X.cF X.C.c6 s.dead,bz X.m s.L z.tt,eo X,ee X s.bm,dy X.bl X.m X.C.bl X.C.aT,ao (dd X),ef X,eL X,e7 X,eO X,ao ((cK X z.ap z.ae s.ax).set j eJ)] h from(au)) h F) (λu I q=>by
  obtain⟨rfl,rfl⟩:=q;exact⟨_,⟨rfl,rfl⟩,λh F=>(show∀h,Sat _ h->Sat (cM X p (acc X.C s (.fQ v)).2::LT X (ja z (.fQ v)) (acc X.C s (.fQ v)).1 j) h from(au)) h F⟩)
def ay9{i:k2}(hk:i.pc<=4)(a6:i.cell<s.L.length):ab E (qO (.ht i)) [ptr p 0] (cM X p (.ht i)::LT X z s j) (aH (.bool (acc X.C s (.ht i)).2.over) (cM X p (acc X.C s (.ht i)).2::LT X (ja z (.ht i)) (acc X.C s (.ht i)).1 j)):=by
 have bi:=anO p X.m s.L z.tt i hk a6;exact jO [cp X z s,di z.b4 z.b5 s.trace,dX z.na z.dT s.notes,bs X.am .i64 (bD z.ap),ao (dI X z.ap s.aE),bs X.dL .u64 (bD z.ae),ao (eB z.ae s.lets),Lg.cY X.ld s.a8,dz X.cF X.C.c6 s.dead,eo X,ee X s.bm,dy X.bl X.m X.C.bl X.C.aT,ao (dd X),ef X,eL X,e7 X,eO X,ao ((cK X z.ap z.ae s.ax).set j eJ)] bi (λh F=>(show∀h,Sat _ h->Sat [bz X.m s.L z.tt,k3 p X.m i,cp X z s,di z.b4 z.b5 s.trace,dX z.na z.dT s.notes,bs X.am .i64 (bD z.ap),ao (dI X z.ap s.aE),bs X.dL .u64 (bD z.ae),ao (eB z.ae s.lets),Lg.cY X.ld s.a8,dz X.cF X.C.c6 s.dead,eo X,ee X s.bm,dy X.bl X.m X.C.bl X.C.aT,ao (dd X),ef X,eL X,e7 X,eO X,ao ((cK X z.ap z.ae s.ax).set j eJ)] h from(au)) h F) (λu I q=>by
  obtain⟨rfl,rfl⟩:=q;exact⟨_,⟨rfl,rfl⟩,λh F=>(show∀h,Sat _ h->Sat (cM X p (acc X.C s (.ht i)).2::LT X (ja z (.ht i)) (acc X.C s (.ht i)).1 j) h from(au)) h F⟩)
end
end Go.Proofs.YtnnhpnccfnghdaaGreat.L.bM
