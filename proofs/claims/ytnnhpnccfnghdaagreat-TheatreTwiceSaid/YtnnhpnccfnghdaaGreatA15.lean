import Derived.Test.YtnnhpnccfnghdaaGreatA14
set_option linter.all false
set_option maxHeartbeats 1600000
namespace Go.Proofs.YtnnhpnccfnghdaaGreat.L.bM
open Go.Proofs.YtnnhpnccfnghdaaGreat.L
open Go.L Go.L.Ring Go.L.dD Go.L.ej Go.L.Whl Go.L.dP Go.L.Lx Go.L.Pg
open Go.L.Led (du dH dW bm aw fo)
open Go.L.Th (bO c0 dn bG dE bU b3 e4 b0 aq most dY cS fp eR dZ In cX c9 eS bB bP eT eU bn cI dF go bo Good ei eV ec acc Inv eG e5 fj busy dA eC eh fr)
attribute[local irreducible] G cJ GE c3 GT b1 dk c7 ds Exit.then Exit.inBlock
section
variable{X:cO}{ap ae:List Nat}{l:List b0}{j:Nat}{t:b0}
theorem w9(h:l[j]?=some t)(bY:Nat){v:Value}(Z:∀x y,[ptr X.h 0,af (jV X j),x,y,bx t.draw,.bool t.jj][bY]?=some v):ib (X.bp j) bY (ao u6) v:=by
 have e:(cK X ap ae l)[j]?=some (hF X ap ae j t):=by simp[sF,h]
 haveI:ib (X.bp j) bY (hF X ap ae j t) v:=⟨fun{g} s=>by
  unfold hF at s;cases aJ:t.on with
  |none=>rw[aJ]at s;exact⟨_,_,_,s,Z _ _⟩
  |
   some q=>
   obtain⟨o,k⟩:=q;rw[aJ]at s;obtain⟨⟨p,f,c⟩,_,aW⟩:=ha (D:=[]) (Sat.one s);obtain⟨h1,h2,_,rfl,aX,_⟩:=aW;exact⟨_,_,_,join_some aX,Z _ _⟩⟩
 exact KS e
theorem gn(h:l[j]?=some t):ib (X.bp j) 0 (ao u6) (ptr X.h 0):=w9 h 0 λ_ _=>rfl
theorem sy(h:l[j]?=some t):ib (X.bp j) 1 (ao u6) (af (jV X j)):=w9 h 1 λ_ _=>rfl
def Ky{a:Nat}(aX:1<=a/\a<=X.C.aT):((List.range X.C.aT).map λi=>ptr (X.br (i+1)).br 0)[(a -1)*1]?=some (ptr (X.br a).br 0):=by
 obtain⟨h1,h2⟩:=aX;simp only[uo,fD,uZ (show a -1<X.C.aT by omega),nD,show a -1+1=a by omega]
end
section
variable(X:cO)(z:dw)(s:aq)(j a:Nat)(t:b0)
def B4(n:dn)(J:Nat)(M:List Value)(k:Th.K)(t:b0)(aX:1<=a/\a<=X.C.aT)(bf:X.C.aT<=16)(aO:s.notes.length<most)(O:s.ax[j]?=some t)(U:t.on=none):ab E 305 [ptr (X.bp j) 0,af a,.agg (iz n).toArray,bk J M] (a1 X z.ap z.ae j 0 k J M::abr) (λu I=>u=.tuple #[]/\∃aD aI,I=(cp X Es {s with notes:=s.notes++[n]}::dX aD aI (s.notes++[n])::aaw)):=by
 refine av Tryz.func305 λH D=>?_;have Y:s.notes.length<1099511627776:=aO;haveI:=gn (X:=X) (ap:=z.ap) (ae:=z.ae) O;refine vi ?_;intro aL aR aM bV;refine b2 ?_;refine cw [12,13] [111,1,202,2,201] (aa aL 106 eE::aa aM 261 (iz n)::qo) ?_;refine dB ?_;refine wn λc=>?_;refine aG ?_;refine gj λa22 b=>?_;refine ct ?_;refine iu [21,22,23] [22] aaN [aa aL 106 eE,aa aR 3 [af a],aa X.h 108 ((qx X z s).set (0+20) (.slice a22 (s.notes.length+1) b)),ao lX,ef X] ?_;refine afh ?_;refine fm ?_ ?_
 . refine bu (ahU X aX (s.notes.length:Int)) ?_
   refine oi ?_;intro p;refine wn λZ=>?_;exact aeT
 . refine wn λZ=>?_
   refine aG ?_;refine bu (ahU X aX (s.notes.length:Int)) ?_;refine lS ?_;intro p;exact aeT
def auU(aX:1<=a/\a<=X.C.aT)(aA:(X.C.box a).b<=65536)(bf:X.C.aT<=16)(aO:s.notes.length<most)(O:s.ax[j]?=some t)(U:t.on=none):ab E 95 [ptr (X.bp j) 0,af a] abr (λu I=>u=.tuple #[]/\∃aD aI,I=(cp X Es {s with notes:=s.notes++y3}::dX aD aI (s.notes++y3)::aax)):=by
 refine av Tryz.func95 λH D=>?_;have Y:s.notes.length<1099511627776:=aO;haveI:=gn (X:=X) (ap:=z.ap) (ae:=z.ae) O;refine nw ?_;intro V ay;refine b2 ?_;refine cw [12,13] [111,1,202,2,201] (aa V 106 eE::qo) ?_;refine dB ?_;refine wn λg=>?_;refine aG ?_;refine gj λd f=>?_;refine ct ?_;refine iu [21,22,23] [22] aaN [aa V 106 eE,aa ay 3 [af a],aa X.h 108 ((qx X z s).set (0+20) (.slice d (s.notes.length+1) f)),ao lX,ef X] ?_;refine afh ?_;refine fm ?_ ?_
 . refine bu (ahV X aX aA (s.notes.length:Int)) ?_
   refine oi ?_;intro p;refine wn λaL=>?_;exact aeU
 . refine wn λaL=>?_
   refine aG ?_;refine bu (ahV X aX aA (s.notes.length:Int)) ?_;refine lS ?_;intro p;exact aeU
end
section
variable{ap ae:List Nat}{v:Int}{lets:List c0}{id:Int}{q:Nat}{l:c0}
def auV(l:List Nat):∀(o i q:Nat),l[i]?=some q->dR (l.mapIdx λk q=>(((k+o+1:Nat):Int),ptr q 0)) ((i+o+1:Nat):Int)=some (ptr q 0):=by
 induction l with
 |nil=>intro o i q h;cases h
 |
  cons x l L=>
  intro o i q h;rw[R6];cases i with
  |zero=>simp only[Yl,Option.some.injEq]at h;subst h;simp[dR]
  |
   succ i=>
   simp only[HV]at h;simp only[dR];rw[a7 ad];have:=L (o+1) i q h;rw[show((i+(o+1)+1:Nat):Int)=((i+1+o+1:Nat):Int) by omega]at this;rw[<-this]
   congr 1
   apply arf.2;intro k hk;simp only[Prod.mk.injEq,and_true];omega
def zI{i q:Nat}(h:ap[i]?=some q):dR (bD ap) ((i+1:Nat):Int)=some (ptr q 0):=auV ap 0 i q h
def auW{x:Value}(h:dR (bD ap) v=some x):1<=v/\v<=ap.length:=by
 have key:∀(m:List (Int×Value)),dR m v=some x->(v,x)∈m:=by
  intro m
  induction m with
  |nil=>intro h;cases h
  |
   cons p m L=>
   intro h;simp only[dR]at h;split at h
   . rename_i e;cases h;rw[e];exact Om
   . exact H8 _ (L h)
 obtain⟨i,ak,e⟩:=List.mem_mapIdx.1 (key _ h);simp only[Prod.mk.injEq]at e;omega
def KU(h:¬(1<=v/\v<=ap.length)):dR (bD ap) v=none:=by
 cases e:dR (bD ap) v with
 |none=>rfl
 |
  some x=>
  have bf:=auW e;exfalso;exact h bf
structure hG(ae:List Nat)(lets:List c0)(id:Int)(q:Nat)(l:c0):Prop where
 h1:1<=id
 ae:ae[(id -1).toNat]?=some q
 aw:lets[(id -1).toNat]?=some l
theorem hG.get(h:hG ae lets id q l):(dR (bD ae) id)=some (ptr q 0):=by
 have:=zI h.ae;rwa[show(((id -1).toNat+1:Nat):Int)=id by have:=h.h1;omega]at this
theorem hG.rd{bY:Nat}{l:c0}{v:Value}(h:hG ae lets id q l)(Z:(nn l)[bY]?=some v):ib q bY (ao (eB ae lets)) v:=by
 have e:(eB ae lets)[(id -1).toNat]?=some (Ec q l):=by
  simp only[eB,sF,h.aw,nD,iW,h.ae,KT]
 haveI:ib q bY (Ec q l) v:=⟨fun{g} t=>⟨_,_,_,t,Z⟩⟩;exact KS e
theorem hG.of{X:cO}{z:dw}{s:aq}(K:bJ X z s){id:Int}{l:c0}(h:Th.kk s id=some l):∃q,hG z.ae s.lets id q l:=by
 unfold Th.kk at h;split at h
 . rename_i h1
   have d4:=(dp.1 h).1;exact⟨_,h1,cD (by rw[K.ae];exact d4),h⟩
 . cases h
theorem tG(X:cO)(z:dw)(s:aq)(id why:Int)(q:Nat)(l:c0)(K:hG z.ae s.lets id q l)(R:1<=why/\why<=5)(aF:X.C.c6<=64)(aS:s.dead.length<most)(aw:s.trace.length<most)(aO:s.a8.length<=most):ab E 150 [ptr X.h 0,bx id,af why] [cp X z s,bs X.dL .u64 (bD z.ae),ao nh,Lg.cY X.ld (s.a8),dz X.cF X.C.c6 (s.dead),di z.b4 z.b5 (s.trace)] (λu I=>u=.tuple #[]/\∃a c,I=[cp X Bu {s with a8:=du s.a8 id 8,dead:=s.dead++[(id,l.to,why)],trace:=s.trace++abS},bs X.dL .u64 (bD z.ae),ao nh,Lg.cY X.ld (du s.a8 id 8),dz X.cF X.C.c6 (s.dead++[(id,l.to,why)]),di a c (s.trace++abS)]):=by
 refine av Tryz.func150 λH D=>?_;haveI:=K.rd (bY:=1) (v:=af l.to) rfl;have f:=xh aS;refine ct ?_;refine aB rfl Qi ?_;refine fB ?_;refine aU (Lg.aqe X.ld s.a8 id aO) ?_;refine c4 ?_;refine aU (aug X.cF X.C.c6 s.dead id l.to why aF R f) ?_;refine bQ ?_;refine bu (l3 X z {s with a8:=du s.a8 id 8,dead:=s.dead++[(id,l.to,why)]} abT aw) ?_;rintro _ _ ⟨rfl,a,c,rfl⟩;refine eM ?_;refine bb ?_;exact aQ ⟨rfl,a,c,rfl⟩
end
def cv(X:cO)(x:Option aq)(u:Value)(I:List al):Prop:=u=.tuple #[]/\∃cl aW,x=some aW/\bJ X cl aW/\I=bh X cl aW
structure hr(X:cO)(j:Nat)(z:dw)(s:aq)(k:Th.K)(J:Nat)(M:List Value)(x:Option aq):Prop where
 iY:fb E J
 spec:ab E J M (a1 X z.ap z.ae j 0 k J M::bh X z s) (cv X x)
theorem EY{P:Program}{f:FuncId}{args:List Value}{X:cO}{Q:Nat->al}(h:ab P f args abU (λu I=>∃p,u=ptr p 0/\I=(Q p::abU))):
 ab P f args [eo X] (λu I=>∃p,u=ptr p 0/\I=[Q p,eo X]):=λH D w s=>by
 have cb:=s.imp λg t=>by obtain⟨_,_,dr⟩:=ha t;exact dr
 refine(h H _ w cb).mono ?_;rintro _ _ ⟨v,I,rfl,⟨p,rfl,rfl⟩,ce⟩;exact⟨_,_,rfl,⟨p,rfl,rfl⟩,ce.imp λg t=>Sat.tail (λg t=>cE (D:=D) () trivial (λg t=>t) g t) t⟩
def afT(X:cO)(N:X.C.ok)(j:Nat)(v:Int):ab E 218 [ptr X.cN.c 0,af (jV X j),bx v] [eo X] (λu I=>∃p,u=ptr p 0/\I=[cM X p (.fE (wu X.C.bC (Th.sM X.C j) v)),eo X]):=by
 by_cases O:j<X.C.bc
 . have aC:jV X j=j:=bg O
   have aV:Th.sM X.C j=some j:=bg O;rw[aC,aV];exact EY (aod X.cN X.C.bC j O v)
 . have aC:jV X j=-1:=a7 O
   have aV:Th.sM X.C j=none:=a7 O;rw[aC,aV];exact EY (aoe X.cN X.C.bC (by have:=N.bQ;show 2+X.C.bc<=65536;omega) v)
def afU{X:cO}{ap ae:List Nat}{j p f:Nat}{c:List Value}{k:Th.K}(h:Th.c9 k):∀D h,Sat ([a1 X ap ae j 0 k f c]++D) h->Sat (a1 X ap ae j p k f c::D) h:=λD g s=>by rw[auG (S:=0) h];exact s
section
variable(X:cO)(N:X.C.ok)(x y:Nat)(ah:1<=x/\x<=X.C.aT)(ag:1<=y/\y<=X.C.aT)
theorem R7(N:X.C.ok):X.C.bl<=65536:=by
 have:=N.bQ;have:=N.hd;have:=N.d64;have:=N.i64;show 2+(X.C.bc+(2+2*X.C.aT)+X.C.bc*(2+X.C.eX))+(3+2*X.C.iS)<=65536;have:X.C.bc*(2+X.C.eX)<=8*66:=qi ad ad;omega
include N ah ag
theorem auX:ab E 391 [ptr X.bl 0,af x,af y] Qj (λu I=>∃p,u=ptr p 0/\I=[cM X p (.ht (ml 0 Jt)),dy X.bl X.m X.C.bl X.C.aT]):=an3 _ _ _ _ _ _ N.hd (R7 X N) ah ag
theorem auY:ab E 349 [ptr X.bl 0,af x,af y] Qj (λu I=>∃p,u=ptr p 0/\I=[cM X p (.ht (ml 2 Jt)),dy X.bl X.m X.C.bl X.C.aT]):=an4 _ _ _ _ _ _ N.hd (R7 X N) ah ag
theorem ahX:ab E 429 [ptr X.bl 0,af x,af y] Qj (λu I=>∃p,u=ptr p 0/\I=[cM X p (.ht (ml 4 Jt)),dy X.bl X.m X.C.bl X.C.aT]):=an5 _ _ _ _ _ _ N.hd (R7 X N) ah ag
end
section
variable(X:cO)(z:dw)(s:aq)(j:Nat)(t:b0)(c1 a bq q:Nat)(l:c0)(J:Nat)(M:List Value)(k:Th.K)
def KA(c:Nat)(d:Int):ab E 212 [ptr X.m 0,af c,bx d] [] (λu I=>∃p,u=ptr p 0/\I=[cM X p (.add c d)]):=auu X.m c d
def auZ(x y J:Nat)(M:List Value)(k:Th.K)(N:X.C.ok)(ah:1<=x/\x<=X.C.aT)(ag:1<=y/\y<=X.C.aT)(O:s.ax[j]?=some t)(U:t.on=none):ab E 395 [ptr (X.bp j) 0,af x,af y,bk J M] [a1 X z.ap z.ae j 0 k J M,cp X z s,dy X.bl X.m X.C.bl X.C.aT,ao lX] (aH eN [cp X z s,dy X.bl X.m X.C.bl X.C.aT,ao (cK X z.ap z.ae (s.ax.set j {t with on:=some (.ht (ml 4 Jt),.nq x y k)}))]):=by
 refine av Tryz.func395 λH D=>?_;haveI:=gn (X:=X) (ap:=z.ap) (ae:=z.ae) O;refine vi ?_;intro aL aR aM bV;refine b2 ?_;refine iu [9,10,11] [10] I1 (aa aL 106 eE::aa aR 3 [af x]::aa aM 3 [af y]::qo) ?_;refine cB ?_;refine fm ?_ ?_
 . refine bu (ahX X N x y ah ag) ?_
   refine oi ?_;intro p;refine wn λZ=>?_;exact aeO
 . refine wn λZ=>?_
   refine aG ?_;refine bu (ahX X N x y ah ag) ?_;refine lS ?_;intro p;exact aeO
def au0(O:s.ax[j]?=some t)(U:t.on=none):ab E 163 [ptr (X.bp j) 0,.agg (nn l).toArray,.bool false,bk 164 [ptr c1 0,ptr bq 0]] (aa c1 106 eE::aa bq 1 [bk J M]::I0) aaR:=by
 refine av Tryz.func163 λH D=>?_;haveI:=gn (X:=X) (ap:=z.ap) (ae:=z.ae) O;refine afA ?_;intro aR aM bV Z;refine fm ?_ ?_
 . refine afl ?_
   intro p cA;exact adu
 . refine afk ?_
   intro cA p;exact adu
def au1(b7 d8 a q:Nat)(l:c0)(e:fF)(J:Nat)(M:List Value)(k:Th.K)(bt:z.ap[a -1]?=some q)(O:s.ax[j]?=some t)(U:t.on=none):ab E 163 [ptr (X.bp j) 0,.agg (nn l).toArray,.bool true,bk 344 [ptr c1 0,ptr bq 0,ptr b7 0,ptr d8 0]] (aa c1 106 eE::aa bq 110 [ptr q 0]::aa b7 87 (fM e)::aa d8 1 [bk J M]::I0) (aH eN [cp X z s,ao (cK X z.ap z.ae (s.ax.set j {t with on:=some (.add 0 1,.hR a l e k)}))]):=by
 refine av Tryz.func163 λH D=>?_;haveI:=gn (X:=X) (ap:=z.ap) (ae:=z.ae) O;refine afA ?_;intro aR aM bV Z;refine fm ?_ ?_
 . refine afl ?_
   intro p cA;exact adz
 . refine afk ?_
   intro cA p;exact adz
def au2(O:s.ax[j]?=some t)(U:t.on=none):ab E 93 [ptr (X.bp j) 0,.agg (nn l).toArray,bk J M] I0 aaR:=by
 refine av Tryz.func93 λH D=>?_;refine sx ?_;intro ay aL aR;refine bj ?_;refine aU (au0 X z s j t ay aR l J M k O U) ?_;exact pK
def au3(slot:Nat)(kind:cG)(J:Nat)(M:List Value)(k:Th.K)(bt:z.ap[a -1]?=some q)(O:s.ax[j]?=some t)(U:t.on=none):ab E 343 [ptr (X.bp j) 0,ptr q 0,af slot,S kind,bk J M] I0 (aH eN [cp X z s,ao (cK X z.ap z.ae (s.ax.set j abp))]):=by
 refine av Tryz.func343 λH D=>?_;haveI:=gn (X:=X) (ap:=z.ap) (ae:=z.ae) O;refine bb ?_;refine wn λaM=>?_;refine wn λbV=>?_;refine wn λZ=>?_;refine wn λcA=>?_;refine bQ ?_;refine wn λdm=>?_;refine bR ?_;refine iu [8,9,10] [9] wa [aa dm 32 [ptr X.h 0],cp X z s] ?_;refine bQ ?_;refine fm ?_ ?_
 . refine bu (KA X 1 1) ?_
   refine oi ?_;intro p;refine wn λb=>?_;exact aeN
 . refine wn λb=>?_
   refine aG ?_;refine bu (KA X 1 1) ?_;refine lS ?_;intro p;exact aeN
end
section
variable(X:cO)(z:dw)(w:gm)(s:aq)(j:Nat)(t:b0)(a q:Nat)(id:Int)
theorem R8{P:Program}{f:FuncId}{args:List Value}{X:cO}{l:gm}{Q:Nat->al}(h:ab P f args [Ck.fv X.db X.C.df] (λu I=>∃p,u=ptr p 0/\I=[Q p,Ck.fv X.db X.C.df])):
 ab P f args [ee X l] (λu I=>∃p,u=ptr p 0/\I=[Q p,ee X l]):=λH D w s=>by
 have cb:dt H ([Ck.fv X.db X.C.df]++(fs X.db.r X.m (X.C.df.b+1) X.C.df.n::fw X.db.wp l::D)) w:=s.imp λg t=>by obtain⟨_,_,dr⟩:=ha t;exact dr
 refine(h H _ w cb).mono ?_;rintro _ _ ⟨v,I,rfl,⟨p,rfl,rfl⟩,ce⟩;exact⟨_,_,rfl,⟨p,rfl,rfl⟩,ce.imp λg t=>Sat.tail (λg t=>cE (D:=D) () trivial (λg t=>t) g t) t⟩
theorem ahY(d:Int)(h:0<=id):ab E 388 [ptr X.db.c 0,bx id,af d] [ee X w] (λu I=>∃p,u=ptr p 0/\I=[cM X p (.ey (q4 id d)),ee X w]):=R8 (Ck.amz _ _ _ _ h)
theorem au4(h:0<=id):ab E 347 [ptr X.db.c 0,bx id] [ee X w] (λu I=>∃p,u=ptr p 0/\I=[cM X p (.ey (rU id)),ee X w]):=R8 (Ck.amB _ _ _ h)
def ahZ:ab E 301 [ptr X.db.c 0] [ee X w] (λu I=>∃p,u=ptr p 0/\I=[cM X p (.ey o2),ee X w]):=R8 (Ck.amC _ _)
abbrev ki(to why:Int):aq:={s with a8:=du s.a8 id 8,dead:=s.dead++[(id,to,why)],trace:=s.trace++[({Th.cz with kind:=6,id:=id,to:=to,why:=why}:bG)]}
theorem ah0{s:aq}{id why:Int}{l:c0}(h:Th.kk s id=some l)(R:1<=why/\why<=5)(aS:s.dead.length<most)(aw:s.trace.length<most):Th.kill id why s=some (ki s id l.to why):=by
 simp only[Th.kill,h,qD,k0,bg (show s.dead.length<most/\1<=why/\why<=5 from⟨aS,R⟩),Th.iR,bg aw]
theorem au5(e:fF)(J:Nat)(M:List Value)(k:Th.K)(bt:z.ap[a -1]?=some q)(cy:0<=id)(O:s.ax[j]?=some t)(U:t.on=none):ab E 345 abX [a1 X z.ap z.ae j 0 k J M,cp X z s,ee X s.bm,ao lX] (aH eN [cp X z s,ee X s.bm,ao (cK X z.ap z.ae (s.ax.set j aba))]):=by
 refine av Tryz.func345 λH D=>?_;haveI:=gn (X:=X) (ap:=z.ap) (ae:=z.ae) O;refine bb ?_;refine wn λaM=>?_;refine wn λbV=>?_;refine wn λZ=>?_;refine wn λcA=>?_;refine bQ ?_;refine wn λdm=>?_;refine bR ?_;refine iu [7,8,9] [8] [1,5,9,13,17,21,25,30,34,38,3,3,3,34,30,38] [aa dm 32 [ptr X.h 0],aa bV 36 [bx id],aa Z 87 (fM e),cp X z s] ?_;refine ct ?_;refine fm ?_ ?_
 . refine bu (ahY X s.bm id e.vn cy) ?_
   refine oi ?_;intro p;refine wn λb=>?_;exact aeQ
 . refine wn λb=>?_
   refine aG ?_;refine bu (ahY X s.bm id e.vn cy) ?_;refine lS ?_;intro p;exact aeQ
def au6(t:b0)(a q:Nat)(x:bU)(B:At X z.ap s.aE a q x)(bf:x.mode=5):ab E 232 qq [ao j5] (aH eN [ao j5]):=by
 refine av Tryz.func232 λH D=>?_;haveI:=B.box;haveI:=B.mode;refine nw ?_;intro V ay;refine cB ?_;refine cP ?_;exact J0
def au7(x:bU)(B:At X z.ap s.aE a q x)(bf:¬x.mode=5)(O:s.ax[j]?=some t)(U:t.on=none):ab E 232 qq abV (aH eN [ao j5,ao (dd X),ao (cK X z.ap z.ae (s.ax.set j aaT))]):=by
 refine av Tryz.func232 λH D=>?_;haveI:=gn (X:=X) (ap:=z.ap) (ae:=z.ae) O;haveI:=B.box;haveI:=B.mode;refine nw ?_;intro V ay;refine cB ?_;refine cP ?_;refine bj ?_;refine iu [9,10,11] [10] I1 [aa V 106 eE,aa ay 110 [ptr q 0],ao j5] ?_;refine cB ?_;refine fm ?_ ?_
 . refine bu (ahW X B.aX (!decide (x.mode=1))) ?_
   refine oi ?_;intro p;refine wn λaL=>?_;exact aeM
 . refine wn λaL=>?_
   refine aG ?_;refine bu (ahW X B.aX (!decide (x.mode=1))) ?_;refine lS ?_;intro p;exact aeM
theorem au8(q:Nat)(l:c0)(K:hG z.ae s.lets id q l)(J:Nat)(M:List Value)(k:Th.K)(aw:1<=l.to/\l.to<=X.C.aT)(aX:X.C.aT<=16)(O:s.ax[j]?=some t)(U:t.on=none):ab E 158 [ptr (X.bp j) 0,bx id,bk J M] [a1 X z.ap z.ae j 0 k J M,cp X z s,bs X.dL .u64 (bD z.ae),ao nh,ao (dd X),ef X,ao lX] (aH eN [cp X z s,bs X.dL .u64 (bD z.ae),ao nh,ao (dd X),ef X,ao (cK X z.ap z.ae (s.ax.set j aa3))]):=by
 refine av Tryz.func158 λH D=>?_;haveI:=gn (X:=X) (ap:=z.ap) (ae:=z.ae) O;haveI:=K.rd (bY:=1) (v:=af l.to) rfl;have b:1<=l.to.toNat/\l.to.toNat<=X.C.aT:=ad;refine sx ?_;intro ay aL aR;refine b2 ?_;refine iu [16,17,18,19] [16,17,18] aaX aap ?_;refine dB ?_;refine jJ rfl .none rfl Qi (au) ?_;refine b2 ?_;refine fm ?_ ?_
 . refine wn λaM=>?_
   refine aG ?_;refine wn λbV=>?_;exact af7
 . refine wn λbV=>?_
   refine aG ?_;refine wn λaM=>?_;exact af7
end
section
variable(X:cO)(z:dw)(s:aq)(i n d5 d6 cq d2 I M:Nat)(O N:List Value)(a2:al)(y:Option aq)
def ajj(ak:i=n)(h:ab E M N (a2::bh X z s) (cv X y))(fI:fb E M:=by exact fl):ab E 207 zb IP (cv X y):=by
 refine av Tryz.func207 λH D=>?_;refine bb ?_;refine wn λaR=>?_;refine ct ?_;refine cP ?_;refine bj ?_;refine bu (h) ?_;rintro _ _ ⟨rfl,cl,aW,ah,aj,rfl⟩;refine eM ?_;refine bE ?_;exact aQ ⟨rfl,cl,aW,ah,aj,rfl⟩
def ajk(ak:i≠n)(h:∀R,ab E I ([af i,bk 208 [ptr d2 0,ptr R 0]]++O) ([aa R 3 [af i],aa d2 188 [bk 207 [ptr d5 0,ptr d6 0,ptr cq 0,ptr d2 0]],aa d5 3 [af n],aa cq 255 [bk I O],aa d6 1 [bk M N],a2]++bh X z s) (cv X y))(fI:fb E I:=by exact fl):ab E 207 zb IP (cv X y):=by
 refine av Tryz.func207 λH D=>?_;refine bb ?_;refine wn λaR=>?_;refine ct ?_;refine cP ?_;refine cB ?_;refine bu (h aR) ?_;exact Kg
def Fo(R:Nat)(ak:i<9223372036854775807)(h:ab E 207 (af (i+1:Nat)::I5) IP (cv X y)):ab E 208 sp ([aa R 3 [af i],aa d2 188 rm,aa d5 3 [af n],aa cq 255 [bk I O],aa d6 1 [bk M N],a2]++bh X z s) (cv X y):=by
 refine av Tryz.func208 λH D=>?_;refine b2 ?_;refine Aq ?_;refine bu (h) ?_;exact Kg
def Cr(q:Nat)(h:∀d5 d6 cq d2,ab E 207 (af (0:Nat)::I5) IP (cv X y)):ab E 156 [ptr q 0,af n,bk I O,bk M N] (a2::bh X z s) (cv X y):=by
 refine av Tryz.func156 λH D=>?_;refine bb ?_;refine wn λaR=>?_;refine wn λaM=>?_;refine wn λbV=>?_;refine bR ?_;refine wn λZ=>?_;refine dh ?_;refine bu (h aR bV aM Z) ?_;exact Kg
end
section
variable(X:cO)(z:dw)(s:aq)(j aK ar V:Nat)(ea:Option Addr)(cZ:Nat)(l:List Int)(what:Int)(k:Th.K)(J:Nat)(M:List Value)(t:b0)(y:Option aq)
def gv{P:Program}{f:FuncId}{args:List Value}{M I:List al}{post:Value->List al->Prop}(e:∀D h,Sat (I++D) h->Sat (M++D) h)(h:ab P f args M post):ab P f args I post:=λH D w s=>h H D w (s.imp (e D))
abbrev iX(a:Nat)(n:dn)(k:Th.K):aq:={s with notes:=s.notes++[n],ax:=s.ax.set j {t with on:=some (.post a (Th.xB s.notes.length),.lJ a k)}}
abbrev allM:List al:=
 [aa aK 106 [ptr (X.bp j) 0],aa ar 39 [hE ea cZ l],dj ea cZ l,aa V 3 [af what],a1 X z.ap z.ae j 0 k J M]
def ajl(aj:bJ X z s)(N:X.C.ok)(aO:s.notes.length<most)(O:s.ax[j]?=some t)(U:t.on=none)(i d5 d6 cq d2 R a:Nat)(aX:1<=a/\a<=X.C.aT)(Z:l[i]?=some (a:Int)):ab E 304 abK ((aa R 3 [af i]::aa d2 188 rm::aa d5 3 [af l.length]::aa cq 255 P4::aa d6 1 [bk J M]::aaM)++bh X z s) (cv X (some ab7)):=by
 refine av Tryz.func304 λH D=>?_;have B:=(dp.1 Z).1;refine cw [] [8,201] [aa aK 106 eE,aa ar 39 [hE ea cZ l],dj ea cZ l,aa V 3 [af what]] ?_;refine b2 ?_;refine JP ?_;refine go_v rfl .none rfl (gF rfl (F0 Z)) ?_;refine b2 ?_;refine bu (iA (a1.eq_36 ..) (R,d2,d5,cq,d6,aK,ar,V,J,M,ea,cZ) cj (B4 X z s j a ⟨what,0,[]⟩ 208 sp (.each wU i l.length k) t aX N.hd aO O U)) ?_;refine l1 ?_;intro aD aI;refine b2 ?_;exact aQ ⟨rfl,Es,_,rfl,kg,rfl⟩
theorem av8(aj:bJ X z s)(N:X.C.ok)(aO:s.notes.length<most)(O:s.ax[j]?=some t)(U:t.on=none)
 (i d5 d6 cq d2:Nat)(B:i<=l.length)(d:i=l.length->hr X j z s k J M y)(g2:∀v:Int,l[i]?=some v->∃a:Nat,v=a/\(1<=a/\a<=X.C.aT)/\y=some ab7):
 ab E 207 zb ([aa d5 3 [af l.length],aa d6 1 [bk J M],aa cq 255 P4,aa d2 188 rm,eW PX]++bh X z s) (cv X y):=by
 by_cases ak:i=l.length
 . haveI:=(d ak).iY
   refine ajj X z s i l.length d5 d6 cq d2 304 J _ M (eW PX) y ak ?_;refine gv (λD h s=>?_) (d ak).spec;obtain⟨_,_,aW⟩:=ha s;exact Sat.drop (Sat.drop (Sat.drop (Sat.drop aW)))
 . obtain⟨v,Z⟩:∃v,l[i]?=some v:=⟨_,cD ad⟩
   obtain⟨a,rfl,aX,rfl⟩:=g2 v Z;refine ajk X z s i l.length d5 d6 cq d2 304 J _ M (eW PX) _ ak λR=>?_;refine gv (λD h s=>?_) (ajl X z s j aK ar V ea cZ l what k J M t aj N aO O U i d5 d6 cq d2 R a aX Z);exact Sat.tail (λh s=>Sat.tail (λh s=>Sat.tail (λh s=>Sat.tail (λh s=>Sat.tail (λh s=>by obtain⟨_,_,aW⟩:=ha s;exact aW) s) s) s) s) s
def ajm(ka:Option Addr)(kc:Nat)(l:List Int)(what:Int)(k:Th.K)(J:Nat)(M:List Value)(t:b0)(y:Option aq)(g:al)(aj:bJ X z s)(N:X.C.ok)(aO:s.notes.length<most)(O:s.ax[j]?=some t)(U:t.on=none)(hlen:l.length<=1099511627776)(g7:∀D h,Sat (dj ka kc l::g::D) h->Sat (bh X z s++D) h)(d:0=l.length->hr X j z s k J M y)(g2:∀v:Int,l[0]?=some v->∃a:Nat,v=a/\(1<=a/\a<=X.C.aT)/\y=some (iX s j t a ⟨what,0,[]⟩ (.each wU 0 l.length k))):ab E 243 [ptr (X.bp j) 0,hE ka kc l,af what,bk J M] [a1 X z.ap z.ae j 0 k J M,dj ka kc l,g] (cv X y):=by
 refine av Tryz.func243 λH D=>?_;refine bb ?_;refine wn λaL=>?_;refine wn λaR=>?_;refine wn λaM=>?_;refine bE ?_;refine cn rfl (b9 rfl (EP ka kc l.length (iF l) (dj ka kc l) (RA l) (RB l) ad) bN) ?_;rintro _ D ⟨_,⟨a9,o,rfl,rfl⟩,rfl⟩;refine fC ?_;refine cB ?_;refine bu (gv (I:=[aa aL 106 eE,aa aR 39 [hE a9 o l],dj a9 o l,aa aM 3 [af what],a1 X z.ap z.ae j 0 k J M,dj ka kc l,g]) (λD h s=>Sat.tail (λh s=>g7 D h s) (cE (D:=dj ka kc l::g::D) () trivial kS h s)) (Cr X z s l.length 304 J [ptr aL 0,ptr aR 0,ptr aM 0] M (eW (allM X z j aL aR aM a9 o l what k J M)) y (X.bp j) (λd5 d6 cq d2=>av8 X z s j aL aR aM a9 o l what k J M t y aj N aO O U 0 d5 d6 cq d2 (fk _) d g2))) ?_;exact xd
end
section
variable{X:cO}{z:dw}{ap:List Nat}{s:aq}{a q:Nat}{g9 x:bU}{e:hS}
abbrev gM(X:cO)(z:dw)(s:aq)(a q:Nat)(x:bU)(e:hS):List al:=
 [aa q 118 (dS X x e),dj e.ka e.kc x.kids,dj e.gQ e.gR x.cH,fJ e.gp X.C.dO x.aside x.front,gL e.iB (min (max e.bI.limit 0) 100) (min (max e.bI.within 1) 4095) x.given,bs e.gj .i64 (x.watched.map λw=>(w,.bool true)),ii e.iC (hD e.es),ao (hV e.es),gb e.bI,ao ((dI X z.ap s.aE).set (a -1) eJ),cp X z s,di z.b4 z.b5 s.trace,dX z.na z.dT s.notes,bs X.am .i64 (bD z.ap),bs X.dL .u64 (bD z.ae),ao (eB z.ae s.lets),Lg.cY X.ld s.a8,dz X.cF X.C.c6 s.dead,bz X.m s.L z.tt,eo X,ee X s.bm,dy X.bl X.m X.C.bl X.C.aT,ao (dd X),ef X,eL X,e7 X,eO X,ao (cK X z.ap z.ae s.ax)]
def Fp{A:al}:∀(l:List al) {D:List al} {h:eQ},Sat (l++A::D) h->Sat (A::(l++D)) h
 |[],_,_,s=>s
 |B::l,D,_,s=>Sat.swap (Sat.tail (r:=l++A::D) (m:=A::(l++D)) (λh s=>Fp l s) s)
def ajn{aE:List bU}{a q:Nat}{g9 x:bU}{e:hS}{D:List al}(B:At X ap aE a q g9)(Y:fX x e):∀h,Sat (B3 X q x e++(ao ((dI X ap aE).set (a -1) eJ)::D)) h->Sat (ao (dI X ap (aE.set (a -1) x))::D) h:=λh s=>by
 have aC:dI X ap (aE.set (a -1) x)=(dI X ap aE).set (a -1) (vr X q x):=by
  have aV:ap.getD (a -1) 0=q:=by simp only[iW,B.ap,KT]
  rw[dI,mapIdx_set,aV]
 rw[aC];refine uO (by have:=(dp.1 B.ao).1;exact this) h ?_;exact cE (D:=ao ((dI X ap aE).set (a -1) eJ)::D) e Y (λg t=>t) h s
def jk(B:At X z.ap s.aE a q g9)(Y:fX x e):∀D h,Sat (gM X z s a q x e++D) h->Sat (bh X z sv++D) h:=λD h aW=>by
 have cb:=ajn (D:=[cp X z s,di z.b4 z.b5 s.trace,dX z.na z.dT s.notes,bs X.am .i64 (bD z.ap),bs X.dL .u64 (bD z.ae),ao (eB z.ae s.lets),Lg.cY X.ld s.a8,dz X.cF X.C.c6 s.dead,bz X.m s.L z.tt,eo X,ee X s.bm,dy X.bl X.m X.C.bl X.C.aT,ao (dd X),ef X,eL X,e7 X,eO X,ao (cK X z.ap z.ae s.ax)]++D) B Y h aW;exact(show∀h,Sat _ h->Sat (bh X z sv++D) h from by simp only[ck,ci];exact(au)) h cb
def sw(B:At X ap s.aE a q x):Th.c8 s a x=s:=by
 obtain⟨h1,h2⟩:=dp.1 B.ah;simp only[Th.c8];rw[<-h2,AW h1]
def qK{P:Program}{f:FuncId}{args:List Value}{A:al}{X:cO}{z:dw}{s:aq}{a q:Nat}{x:bU}{post:Value->List al->Prop}(B:At X z.ap s.aE a q x)(h:∀e,fX x e->ab P f args (A::gM X z s a q x e) post):ab P f args (A::bh X z s) post:=λH D w st=>by
 have s1:dt H (vr X q x::ao y2::A::ZN) w:=st.imp λg t=>r6 B.ao g ((show∀h,Sat _ h->Sat (ao j5::A::ZN) h from by simp only[ck,ci];exact(au)) g t);obtain⟨e,Y,ah⟩:=ha s1.fg;refine h e Y H D w ⟨s1.os,s1.tape,s1.output,s1.size,?_⟩;exact(show∀h,Sat (B3 X q x e++(ao ((dI X z.ap s.aE).set (a -1) eJ)::A::([cp X z s,di z.b4 z.b5 s.trace,dX z.na z.dT s.notes,bs X.am .i64 (bD z.ap),bs X.dL .u64 (bD z.ae),ao (eB z.ae s.lets),Lg.cY X.ld s.a8,dz X.cF X.C.c6 s.dead,bz X.m s.L z.tt,eo X,ee X s.bm,dy X.bl X.m X.C.bl X.C.aT,ao (dd X),ef X,eL X,e7 X,eO X,ao (cK X z.ap z.ae s.ax)]++D))) h->Sat (A::gM X z s a q x e++D) h from by simp only[B3,ck,ci];exact(au)) _ ah
end
section
variable(X:cO)(z:dw)(s:aq)(j:Nat)(t:b0)(a q:Nat)(x:bU)(e:hS)
def av9(t:b0)(a q:Nat)(x:bU)(e:hS)(aj:bJ X z s)(B:At X z.ap s.aE a q x)(Y:fX x e)(J:Nat)(M:List Value)(k:Th.K)(y:Option aq)(bf:x.mode=4)(aY:hr X j z s k J M y):ab E 241 lB iM (cv X y):=by
 refine av Tryz.func241 λH D=>?_;haveI:=aY.iY;refine sx ?_;intro ay aL aR;refine cB ?_;refine cP ?_;refine fB ?_;exact Ks
def awa(t:b0)(a q:Nat)(x:bU)(e:hS)(aj:bJ X z s)(B:At X z.ap s.aE a q x)(Y:fX x e)(J:Nat)(M:List Value)(k:Th.K)(y:Option aq)(bf:x.mode=5)(aY:hr X j z s k J M y):ab E 241 lB iM (cv X y):=by
 refine av Tryz.func241 λH D=>?_;haveI:=aY.iY;refine sx ?_;intro ay aL aR;refine cB ?_;refine cP ?_;refine dh ?_;exact afe
theorem ajo(g9 x:bU)(e:hS)(what:Int)(k:Th.K)(J:Nat)(M:List Value)(y:Option aq)(B:At X z.ap s.aE a q g9)(Y:fX x e)(aj:bJ X z sv)(N:X.C.ok)(aO:s.notes.length<most)(O:s.ax[j]?=some t)(U:t.on=none)(hlen:x.kids.length<=1099511627776)
 (d:0=x.kids.length->hr X j z sv k J M y)(g2:∀v:Int,x.kids[0]?=some v->∃b:Nat,v=b/\Ew/\y=some (iX sv j t b ⟨what,0,[]⟩ (.each (.push x.kids what) 0 x.kids.length k))):
 ab E 243 [ptr (X.bp j) 0,hE e.ka e.kc x.kids,af what,bk J M] iM (cv X y):=by
 refine gv (λD h dr=>?_) (ajm X z sv j e.ka e.kc x.kids what k J M t y (eW (aa q 118 (dS X x e)::ZG)) aj N aO O U hlen (λD h t=>?_) d g2)
 . exact Sat.tail (λh t=>Sat.tail (λh t=>cE (D:=D) () trivial (λh t=>t) h t) (Sat.swap t)) dr
 . obtain⟨_,_,i2⟩:=ha (Sat.swap t)
   exact jk (X:=X) (z:=z) (s:=s) B Y D h ((show∀h,Sat _ h->Sat (aa q 118 (dS X x e)::dj e.ka e.kc x.kids::dj e.gQ e.gR x.cH::fJ e.gp X.C.dO x.aside x.front::gL e.iB (min (max e.bI.limit 0) 100) (min (max e.bI.within 1) 4095) x.given::bs e.gj .i64 (x.watched.map λw=>(w,.bool true))::ii e.iC (hD e.es)::ao (hV e.es)::gb e.bI::ao ((dI X z.ap s.aE).set (a -1) eJ)::cp X z s::di z.b4 z.b5 s.trace::dX z.na z.dT s.notes::bs X.am .i64 (bD z.ap)::bs X.dL .u64 (bD z.ae)::ao (eB z.ae s.lets)::Lg.cY X.ld s.a8::dz X.cF X.C.c6 s.dead::bz X.m s.L z.tt::eo X::ee X s.bm::dy X.bl X.m X.C.bl X.C.aT::ao (dd X)::ef X::eL X::e7 X::eO X::ao (cK X z.ap z.ae s.ax)::D) h from by simp only[ck,ci];exact(au)) h i2)
def awb(aj:bJ X z s)(B:At X z.ap s.aE a q x)(Y:fX x e)(J:Nat)(M:List Value)(k:Th.K)(y:Option aq)(N:X.C.ok)(aO:s.notes.length<most)(c2:s.trace.length<most)(O:s.ax[j]?=some t)(U:t.on=none)(hlen:x.kids.length<=1099511627776)(c:¬x.mode=4)(g:¬x.mode=5)(d:∀(aD:Option Addr) (aI:Nat) (cs:List Value),0=x.kids.length->hr X j iN Pk tK 297 cs y)(g2:∀v:Int,x.kids[0]?=some v->∃b:Nat,v=b/\Ew/\y=some (iX Pk j t b q7 (.each (.push x.kids 0) 0 x.kids.length tK))):ab E 241 lB iM (cv X y):=by
 refine av Tryz.func241 λH D=>?_;haveI:=gn (X:=X) (ap:=z.ap) (ae:=z.ae) O;have cy:x.id=a:=B.cy;have f:∀aD aI,bJ X {z with b4:=aD,b5:=aI} Pk:=λaD aI=>⟨aj.gk,aj.fY,aj.fZ,by show _=(s.aE.set _ _).length;rw[gr];exact aj.ap,aj.ae⟩;refine sx ?_;intro ay aL aR;refine cB ?_;refine cP ?_;refine dh ?_;refine cP ?_;refine eY ?_;refine cw [] [9,201] (aa ay 106 eE::aa aL 110 [ptr q 0]::aa q 118 ((dS X x e).set (0+13) (af 4))::qo) ?_;refine cB ?_;rw[cy];refine bu (l3 X z s (Pv:bG) c2) ?_;refine l1 ?_;intro aD aI;refine b2 ?_;refine cw [] [6,201] [aa ay 106 eE,aa aL 110 [ptr q 0],aa q 118 ((dS X x e).set (0+13) (af 4))] ?_;refine bj ?_;refine bu (pg (auE ay aL aR q J M B.ap) (ajo X iN aaQ j t a q x Bq e 0 tK 297 [ptr ay 0,ptr aL 0,ptr aR 0] y B rs (f aD aI) N aO O U hlen (d aD aI _) g2)) ?_;refine pe ?_;exact pd
end
section
variable(X:cO)(z:dw)(s:aq)(j:Nat)(t:b0)(a q:Nat)(x:bU)(e:hS)
def At.set{X:cO}{ap:List Nat}{aE:List bU}{a q:Nat}{x n:bU}(h:At X ap aE a q x)(cy:n.id=a):At X ap (aE.set (a -1) n) a q n:=
 ⟨h.ap,by rw[zt (dp.1 h.ah).1],cy,h.aX⟩
def ajp(c:Nat):ab E 317 [ptr X.m 0,af c] [] (λu I=>∃p,u=ptr p 0/\I=[cM X p (.load c)]):=J6 X.m c
def awc(B:At X z.ap s.aE a q x)(J:Nat)(M:List Value)(k:Th.K)(O:s.ax[j]?=some t)(U:t.on=none):ab E 360 lB (a1 X z.ap z.ae j 0 k J M::abV) (aH eN [ao j5,ao (dd X),ao (cK X z.ap z.ae (s.ax.set j {t with on:=some (.post a Th.xC,.lc a k)}))]):=by
 refine av Tryz.func360 λH D=>?_;haveI:=B.box;refine sx ?_;intro ay aL aR;refine bQ ?_;refine bu (auN X B.aX) ?_;refine lS ?_;intro p;refine wn λaM=>?_;refine bj ?_;refine JZ ?_;refine aU (iA (a1.eq_26 ..) (aM,aR,ay,aL,q,J,M) u1 (jN X z.ap z.ae s.ax j p 401 [ptr aM 0,ptr aR 0,ptr ay 0,ptr aL 0] t EA (.lc a k) O U)) ?_;exact pK
def awd(aj:bJ X z s)(B:At X z.ap s.aE a q x)(Y:fX x e)(J:Nat)(M:List Value)(k:Th.K)(c2:s.trace.length<most)(O:s.ax[j]?=some t)(U:t.on=none):ab E 364 lB iM (cv X (some (Th.c8 {s with trace:=s.trace++[(Jf:bG)],ax:=s.ax.set j {t with on:=some (.load 1,.who a k)}} a {x with mode:=5}))):=by
 refine av Tryz.func364 λH D=>?_;haveI:=gn (X:=X) (ap:=z.ap) (ae:=z.ae) O;have cy:x.id=a:=B.cy;refine sx ?_;intro ay aL aR;refine bQ ?_;refine wn λaM=>?_;refine dB ?_;refine cw [] [6,201] [aa aM 32 [ptr X.h 0],aa aL 110 [ptr q 0],aa q 118 ((dS X x e).set (0+13) (af 5))] ?_;refine bj ?_;refine bu (l3 X z s (Jf:bG) c2) ?_;refine l1 ?_;intro aD aI;refine bR ?_;refine iu [8,9,10] [9] wa [aa aM 32 [ptr X.h 0],cp X iN {s with trace:=s.trace++[(Jf:bG)]}] ?_;refine bQ ?_;refine fm ?_ ?_
 . refine bu (ajp X 1) ?_
   refine oi ?_;intro p;refine wn λbV=>?_;refine aeo ?_;exact aQ (I:=(bh X {z with b4:=aD,b5:=aI} (Th.c8 {s with trace:=s.trace++[({Th.cz with kind:=14,dc:=x.id}:bG)],ax:=s.ax.set j {t with on:=some (.load 1,.who a k)}} a {x with mode:=5}))) ⟨rfl,{z with b4:=aD,b5:=aI},_,rfl,⟨aj.gk,aj.fY,aj.fZ,by show _=(s.aE.set _ _).length;rw[gr];exact aj.ap,aj.ae⟩,rfl⟩ (λh F=>jk (X:=X) (z:={z with b4:=aD,b5:=aI}) (s:={s with trace:=s.trace++[({Th.cz with kind:=14,dc:=x.id}:bG)],ax:=s.ax.set j {t with on:=some (.load 1,.who a k)}}) (x:={x with mode:=5}) B ⟨Y.bI,Y.kj,Y.es⟩ D h ((show∀h,Sat _ h->Sat (gM X {z with b4:=aD,b5:=aI} {s with trace:=s.trace++[({Th.cz with kind:=14,dc:=x.id}:bG)],ax:=s.ax.set j {t with on:=some (.load 1,.who a k)}} a q {x with mode:=5} e++D) h from(au)) h F))
 . refine wn λbV=>?_
   refine aG ?_;refine bu (ajp X 1) ?_;refine lS ?_;intro p;refine aeo ?_;exact aQ (I:=(bh X {z with b4:=aD,b5:=aI} (Th.c8 {s with trace:=s.trace++[({Th.cz with kind:=14,dc:=x.id}:bG)],ax:=s.ax.set j {t with on:=some (.load 1,.who a k)}} a {x with mode:=5}))) ⟨rfl,{z with b4:=aD,b5:=aI},_,rfl,⟨aj.gk,aj.fY,aj.fZ,by show _=(s.aE.set _ _).length;rw[gr];exact aj.ap,aj.ae⟩,rfl⟩ (λh F=>jk (X:=X) (z:={z with b4:=aD,b5:=aI}) (s:={s with trace:=s.trace++[({Th.cz with kind:=14,dc:=x.id}:bG)],ax:=s.ax.set j {t with on:=some (.load 1,.who a k)}}) (x:={x with mode:=5}) B ⟨Y.bI,Y.kj,Y.es⟩ D h ((show∀h,Sat _ h->Sat (gM X {z with b4:=aD,b5:=aI} {s with trace:=s.trace++[({Th.cz with kind:=14,dc:=x.id}:bG)],ax:=s.ax.set j {t with on:=some (.load 1,.who a k)}} a q {x with mode:=5} e++D) h from(au)) h F))
def awe(aj:bJ X z s)(B:At X z.ap s.aE a q x)(Y:fX x e)(J:Nat)(M:List Value)(k:Th.K)(y:Option aq)(reason:cG)(hp:x.parent=0)(ge:∀aD aI,ab E 241 lB (a1 X z.ap z.ae j 0 k J M::gM X iN Bs a q su e) (cv X y))(c2:s.trace.length<most)(O:s.ax[j]?=some t)(U:t.on=none):ab E 296 I6 iM (cv X y):=by
 refine av Tryz.func296 λH D=>?_;haveI:=gn (X:=X) (ap:=z.ap) (ae:=z.ae) O;refine afF ?_;intro cy aD aI;refine bQ ?_;refine bu (ge aD aI) ?_;exact zw
def awf(aj:bJ X z s)(B:At X z.ap s.aE a q x)(Y:fX x e)(J:Nat)(M:List Value)(k:Th.K)(y:Option aq)(reason:cG)(hp:¬x.parent=0)(N:X.C.ok)(aO:s.notes.length<most)(d:1<=x.parent/\x.parent<=X.C.aT)(c2:s.trace.length<most)(O:s.ax[j]?=some t)(U:t.on=none):ab E 296 I6 iM (cv X (some (Th.c8 (iX Bs j t x.parent ⟨1,x.id,reason⟩ k) a su))):=by
 refine av Tryz.func296 λH D=>?_;haveI:=gn (X:=X) (ap:=z.ap) (ae:=z.ae) O;refine afF ?_;intro cy aD aI;refine bE ?_;refine cw [] [12,201] [aa q 118 ((dS X x e).set (0+13) (af 2))] ?_;refine dB ?_;refine bu (B4 X iN Bs j x.parent ⟨1,x.id,reason⟩ J M k t d N.hd aO O U) ?_;rintro _ _ ⟨rfl,cC,bq,rfl⟩;refine eM ?_;refine b2 ?_;exact aQ (I:=(bh X {z with b4:=aD,b5:=aI,na:=cC,dT:=bq} (Th.c8 (iX {s with trace:=s.trace++[({Th.cz with kind:=9,dc:=x.id,name:=reason}:bG)]} j t x.parent ⟨1,x.id,reason⟩ k) a {x with mode:=2}))) ⟨rfl,{z with b4:=aD,b5:=aI,na:=cC,dT:=bq},_,rfl,⟨aj.gk,aj.fY,aj.fZ,by show _=(s.aE.set _ _).length;rw[gr];exact aj.ap,aj.ae⟩,rfl⟩ (λh F=>jk (X:=X) (z:={z with b4:=aD,b5:=aI,na:=cC,dT:=bq}) (s:=(iX {s with trace:=s.trace++[({Th.cz with kind:=9,dc:=x.id,name:=reason}:bG)]} j t x.parent ⟨1,x.id,reason⟩ k)) (x:={x with mode:=2}) B ⟨Y.bI,Y.kj,Y.es⟩ D h ((show∀h,Sat _ h->Sat (gM X {z with b4:=aD,b5:=aI,na:=cC,dT:=bq} (iX {s with trace:=s.trace++[({Th.cz with kind:=9,dc:=x.id,name:=reason}:bG)]} j t x.parent ⟨1,x.id,reason⟩ k) a q {x with mode:=2} e++D) h from(au)) h F))
end
section
variable(w:Int)(X:cO){l:List Int}(z:dw){i:Nat}(s:aq){x:Int}(j:Nat)(t:b0)(q:Nat)
abbrev rn(l:List Int)(r:List (Int×Int)):List (Int×Int):=l.foldl (λr id=>dH r id w) r
def S4(w:Int):∀(l:List Int) (r:List (Int×Int)),(rn w l r).length=r.length
 |[],r=>rfl
 |x::l,r=>by rw[rn,yM];exact(S4 w l _).trans fo
def ajq(h:l[i]?=some x)(r:List sh):rn w (l.take (i+1)) r=dH (rn w (l.take i) r) x w:=by
 obtain⟨ak,e⟩:=dp.1 h;rw[nv ak,e,rn,ajr];rfl
def S5(w:Int):∀(l:List Int) (x:Int) (s:aq),Th.kH w (l++[x]) s=(Th.kH w l s).bind (Th.kill x w)
 |[],x,s=>by simp[Th.kH]
 |
  y::l,x,s=>by
  simp only[ck,Th.kH,qD];cases Th.kill y w s with
  |none=>rfl
  |some s1=>simp only[k0];exact S5 w l x s1
structure Fq(s:aq)(ids:List Int)(i:Nat)(d:aq):Prop where
 le:i<=ids.length
 eq:Th.kH 2 (ids.take i) s=some d
 lets:d.lets=s.lets
 a8:d.a8.length=s.a8.length
 nr:d.trace.length=s.trace.length+i
 Cs:d.dead.length=s.dead.length+i
def Fq.next{s d:aq}{ids:List Int}{i:Nat}{id:Int}{ae:List Nat}{q:Nat}{l:c0}(h:Fq s ids i d)(ah:ids[i]?=some id)(K:hG ae d.lets id q l)(U:s.trace.length+ids.length<=most)(aS:s.dead.length+ids.length<=most):Fq s ids (i+1) (ki d id l.to 2):=by
 obtain⟨ak,e⟩:=dp.1 ah;have h1:=h.nr;have h2:=h.Cs;refine⟨ak,?_,h.lets,by show(du d.a8 id 8).length=_;rw[Led.yT];exact h.a8,by simp[h1];omega,by simp[h2];omega⟩;rw[nv ak,e,S5,h.eq,k0];exact ah0 Zo bw ad ad
def acM(h:l[i]?=some x):(iL l)[i*1]?=some (bx x):=by simp[iL,h]
def ajs(x:bU)(e:hS)(r:List sh)(aF:r.length<=most)(h1:x.aside.length<=1099511627776)(h2:x.front.length<=1099511627776)(O:s.ax[j]?=some t):ab E 307 qq (aa q 118 (dS X x e)::fJ e.gp X.C.dO x.aside x.front::Lg.cY X.ld r::qo) (aH eN (aa q 118 (dS X x e)::fJ e.gp X.C.dO [] (x.front++x.aside.reverse)::Lg.cY X.ld (rn 4 x.aside r)::qo)):=by
 refine av Tryz.func307 λH D=>?_;haveI:=gn (X:=X) (ap:=z.ap) (ae:=z.ae) O;have m:r.length<=1099511627776:=aF;refine ct ?_;refine bu (ahP e.gp X.C.dO x.aside x.front h1 h2) ?_;rintro _ _ ⟨cu,c1,rfl,rfl⟩;refine eM ?_;refine bE ?_;refine hb (bv:=Nat) (λi=>i<=x.aside.length) (λi=>[(12,af i),(11,af x.aside.length),(10,ul cu c1 x.aside),(0,ptr (X.bp j) 0),(1,ptr q 0)]) (λi=>Lg.cY X.ld (rn 4 (x.aside.take i) r)::fH cu c1 x.aside::aa q 118 (dS X x e)::fJ e.gp X.C.dO x.aside x.front::cp X z s::ao lX::D) (λi=>x.aside.length -i) 0 (fk _) eb OL ?_;intro i bK;replace bK:i<=x.aside.length:=bK;refine bj ?_;refine ch (λW=>?_) (λW=>?_)
 . obtain⟨v,ah⟩:∃v,x.aside[i]?=some v:=⟨_,cD (show i<x.aside.length by omega)⟩
   refine bj ?_;refine aB rfl (gf rfl rfl (show i<x.aside.length by omega)) ?_;refine BM ?_;refine dB ?_;refine cn rfl (b9 rfl (Lg.Be X.ld (rn 4 (x.aside.take i) r) v 4 (by rw[S4];exact aF)) bN) ?_;refine Q7 ?_;refine gg (i+1) (show i+1<=x.aside.length by omega) (show x.aside.length -(i+1)<x.aside.length -i by omega) eb (by rw[ajq 4 ah];exact(au))
 . obtain rfl:i=x.aside.length:=by omega
   rw[nT];refine dh ?_;refine aU (awg e.gp X.C.dO x.aside x.front h1 h2) ?_;exact pK
def awh(x:bU)(e:hS)(J:Nat)(M:List Value)(k:Th.K)(aF:X.C.c6<=64)(bt:z.ap[x.id -1]?=some q)(aX:1<=x.id/\x.id<=X.C.aT)(m:∀id∈(x.front.reverse++x.aside),∃q l,hG z.ae s.lets id q l)(w:s.trace.length+(x.front.reverse++x.aside).length<=most)(f:s.dead.length+(x.front.reverse++x.aside).length<=most)(aO:s.a8.length<=most)(h1:x.aside.length<=1099511627776)(h2:x.front.length<=1099511627776)(n:(x.front.reverse++x.aside).length<=1099511627776)(O:s.ax[j]?=some t)(U:t.on=none):ab E 306 [ptr (X.bp j) 0,ptr q 0,bk J M] [a1 X z.ap z.ae j 0 k J M,aa q 118 (dS X x e),fJ e.gp X.C.dO x.aside x.front,cp X z s,di z.b4 z.b5 s.trace,bs X.dL .u64 (bD z.ae),ao (eB z.ae s.lets),Lg.cY X.ld s.a8,dz X.cF X.C.c6 s.dead,ao (dd X),ao (cK X z.ap z.ae s.ax)] (λu I=>u=.tuple #[]/\∃aD aI aW,Th.kH 2 (x.front.reverse++x.aside) s=some aW/\I=[aa q 118 (dS X x e),fJ e.gp X.C.dO [] [],cp X {z with b4:=aD,b5:=aI} aW,di aD aI aW.trace,bs X.dL .u64 (bD z.ae),ao (eB z.ae aW.lets),Lg.cY X.ld aW.a8,dz X.cF X.C.c6 aW.dead,ao (dd X),ao (cK X z.ap z.ae (s.ax.set j {t with on:=some (.post x.id Th.zQ,.closed x.id k)}))]):=by
 refine av Tryz.func306 λH D=>?_;haveI:=gn (X:=X) (ap:=z.ap) (ae:=z.ae) O;refine sx ?_;intro ay aL aR;refine eY ?_;refine b2 ?_;refine bu (aun e.gp X.C.dO x.aside x.front h1 h2) ?_;rintro _ _ ⟨cu,c1,rfl,rfl⟩;refine eM ?_;refine bE ?_;refine hb (bv:=Nat×Option Addr×Nat×aq) (λF=>Fq s (x.front.reverse++x.aside) F.1 F.2.2.2) (λF=>[(19,af F.1),(18,af (x.front.reverse++x.aside).length),(17,ul cu c1 (x.front.reverse++x.aside)),(6,ptr X.h 0),(3,ptr ay 0),(4,ptr aL 0),(5,ptr aR 0)]) (λF=>fH cu c1 (x.front.reverse++x.aside)::aa ay 106 [ptr (X.bp j) 0]::aa aL 110 [ptr q 0]::aa aR 1 [bk J M]::a1 X z.ap z.ae j 0 k J M::aa q 118 (dS X x e)::fJ e.gp X.C.dO [] []::cp X {z with b4:=F.2.1,b5:=F.2.2.1} F.2.2.2::di F.2.1 F.2.2.1 F.2.2.2.trace::bs X.dL .u64 (bD z.ae)::ao (eB z.ae F.2.2.2.lets)::Lg.cY X.ld F.2.2.2.a8::dz X.cF X.C.c6 F.2.2.2.dead::ao (dd X)::ao (cK X z.ap z.ae s.ax)::D) (λF=>(x.front.reverse++x.aside).length -F.1) (0,z.b4,z.b5,s) (⟨fk _,rfl,rfl,rfl,rfl,rfl⟩) eb (au) ?_;rintro⟨i,b4,b5,d⟩ bK;replace bK:Fq s (x.front.reverse++x.aside) i d:=bK;have B:=bK.le;have c2:=bK.nr;have o:=bK.Cs;have g:=bK.a8;dsimp only;refine bj ?_;refine ch (λW=>?_) (λW=>?_)
 . have b:i<(x.front.reverse++x.aside).length:=by omega
   obtain⟨v,ah⟩:∃v,(x.front.reverse++x.aside)[i]?=some v:=⟨_,cD b⟩;obtain⟨c,l,a⟩:=m v (jH ah);rw[<-bK.lets]at a;refine bj ?_;refine aB rfl (gf rfl rfl (show i<(x.front.reverse++x.aside).length by omega)) ?_;refine BM ?_;refine bj ?_;refine cn rfl (b9 rfl (tG X {z with b4:=b4,b5:=b5} d v 2 c l a bw aF ad ad (by rw[g];exact aO)) bN) ?_;refine Q8 ?_;intro aD aI;refine gg (i+1,aD,aI,ki d v l.to 2) (bK.next ah a w f) (show(x.front.reverse++x.aside).length -(i+1)<(x.front.reverse++x.aside).length -i by omega) eb (au)
 . obtain rfl:i=(x.front.reverse++x.aside).length:=by omega
   have T:=bK.eq;rw[nT]at T;refine ac5 ?_;refine bj ?_;refine bu (auM X aX) ?_;refine oi ?_;intro p;refine JQ ?_;refine aU (iA (a1.eq_25 ..) (ay,aL,aR,q,J,M) ⟨rfl,rfl,bt⟩ (jN X z.ap z.ae s.ax j p 359 [ptr ay 0,ptr aL 0,ptr aR 0] t (.post x.id Th.zQ) (.closed x.id k) O U)) ?_;refine b2 ?_;exact aQ ⟨rfl,b4,b5,d,T,rfl⟩
end
section
variable(X:cO)(z:dw)(s:aq)(j:Nat)(t:b0)(a q b:Nat)(x:bU)(e:hS)
theorem At.vJ{X:cO}{ap:List Nat}{aE:List bU}{a q:Nat}{x:bU}(h:At X ap aE a q x):ib q 0 Et (af x.id):=h.rd λe=>rfl
def awi(B:At X z.ap s.aE a q x)(l:Int)(reason:cG)(J:Nat)(M:List Value)(k:Th.K)(aA:1<=b/\b<=X.C.aT)(bf:X.C.aT<=16)(c2:s.trace.length<most)(aO:s.notes.length<most)(O:s.ax[j]?=some t)(U:t.on=none):ab E 300 [ptr (X.bp j) 0,ptr q 0,.agg (iz ⟨l,b,reason⟩).toArray,af 1,bk J M] O3 (λu I=>u=.tuple #[]/\∃aD aI cC bq,I=(ao j5::cp X u7 (iX aaC j t b (⟨2,0,[]⟩:dn) k)::di aD aI (s.trace++aaD)::dX cC bq (s.notes++[(⟨2,0,[]⟩:dn)])::Pc)):=by
 refine av Tryz.func300 λH D=>?_;haveI:=gn (X:=X) (ap:=z.ap) (ae:=z.ae) O;haveI:=B.vJ;refine Q6 ?_;intro bV;refine bu (l3 X z s (abj:bG) c2) ?_;refine l1 ?_;intro aD aI;refine c4 ?_;refine cP ?_;refine dh ?_;refine bu (B4 X iN aaC j b (⟨2,0,[]⟩:dn) J M k t aA bf aO O U) ?_;exact adX
def awj(B:At X z.ap s.aE a q x)(l:Int)(reason:cG)(J:Nat)(M:List Value)(k:Th.K)(aA:1<=b/\b<=X.C.aT)(bf:X.C.aT<=16)(c2:s.trace.length<most)(aO:s.notes.length<most)(O:s.ax[j]?=some t)(U:t.on=none):ab E 300 [ptr (X.bp j) 0,ptr q 0,.agg (iz ⟨l,b,reason⟩).toArray,af 2,bk J M] O3 (λu I=>u=.tuple #[]/\∃aD aI cC bq,I=(ao j5::cp X u7 (iX aaE j t b (⟨3,0,[]⟩:dn) k)::di aD aI (s.trace++aaF)::dX cC bq (s.notes++[(⟨3,0,[]⟩:dn)])::Pc)):=by
 refine av Tryz.func300 λH D=>?_;haveI:=gn (X:=X) (ap:=z.ap) (ae:=z.ae) O;haveI:=B.vJ;refine Q6 ?_;intro bV;refine bu (l3 X z s (abk:bG) c2) ?_;refine l1 ?_;intro aD aI;refine c4 ?_;refine cP ?_;refine nC ?_;refine dh ?_;refine bu (B4 X iN aaE j b (⟨3,0,[]⟩:dn) J M k t aA bf aO O U) ?_;exact adX
def awk(B:At X z.ap s.aE a q x)(l:Int)(reason:cG)(J:Nat)(M:List Value)(k:Th.K)(aA:1<=b/\b<=X.C.aT)(bf:X.C.aT<=16)(c2:s.trace.length<most)(aO:s.notes.length<most)(O:s.ax[j]?=some t)(U:t.on=none):ab E 300 [ptr (X.bp j) 0,ptr q 0,.agg (iz ⟨l,b,reason⟩).toArray,af 3,bk J M] O3 (λu I=>u=.tuple #[]/\∃aD aI cC bq,I=(ao j5::cp X u7 (iX aaG j t b (q7:dn) k)::di aD aI (s.trace++aaH)::dX cC bq (s.notes++y3)::Pc)):=by
 refine av Tryz.func300 λH D=>?_;haveI:=gn (X:=X) (ap:=z.ap) (ae:=z.ae) O;haveI:=B.vJ;refine Q6 ?_;intro bV;refine bu (l3 X z s (abl:bG) c2) ?_;refine l1 ?_;intro aD aI;refine c4 ?_;refine EK ?_;refine cP ?_;refine dh ?_;refine bu (B4 X iN aaG j b (q7:dn) J M k t aA bf aO O U) ?_;rintro _ _ ⟨rfl,cC,bq,rfl⟩;exact ada
def awl(B:At X z.ap s.aE a q x)(Y:fX x e)(l d:Int)(reason:cG)(J:Nat)(M:List Value)(k:Th.K)(y:Option aq)(aS:¬d=1/\¬d=2/\¬d=3)(a6:x.cH.contains (b:Int)=true)(bf:¬x.mode=1)(d7:x.cH.length<most)(c2:s.trace.length<most)(aY:∀aD aI,hr X j {z with b4:=aD,b5:=aI} {s with trace:=s.trace++[({Th.cz with kind:=10,dc:=b,cf:=x.id,why:=d,name:=reason}:bG)]} k J M y)(O:s.ax[j]?=some t):ab E 300 [ptr (X.bp j) 0,ptr q 0,.agg (iz ⟨l,b,reason⟩).toArray,af d,bk J M] (a1 X z.ap z.ae j 0 k J M::gM X z s a q x e) (cv X y):=by
 refine av Tryz.func300 λH D=>?_;haveI:=gn (X:=X) (ap:=z.ap) (ae:=z.ae) O;refine Ru ?_;intro v c f p bV aD aI;haveI:=(aY aD aI).iY;refine agk ?_;refine dB ?_;refine cP ?_;refine ct ?_;refine cn rfl (oB rfl rfl (gv (I:=[a1 X z.ap z.ae j 0 k J M,aa q 118 (dS X x e),dj e.ka e.kc x.kids,dj e.gQ e.gR x.cH,fJ e.gp X.C.dO x.aside x.front,gL e.iB (min (max e.bI.limit 0) 100) (min (max e.bI.within 1) 4095) x.given,bs e.gj .i64 (x.watched.map λw=>(w,.bool true)),ii e.iC (hD e.es),ao (hV e.es),gb e.bI,ao ((dI X z.ap s.aE).set (a -1) eJ),cp X {z with b4:=aD,b5:=aI} {s with trace:=s.trace++[({Th.cz with kind:=10,dc:=b,cf:=x.id,why:=d,name:=reason}:bG)]},di aD aI (s.trace++[({Th.cz with kind:=10,dc:=b,cf:=x.id,why:=d,name:=reason}:bG)]),dX z.na z.dT s.notes,bs X.am .i64 (bD z.ap),bs X.dL .u64 (bD z.ae),ao (eB z.ae s.lets),Lg.cY X.ld s.a8,dz X.cF X.C.c6 s.dead,bz X.m s.L z.tt,eo X,ee X s.bm,dy X.bl X.m X.C.bl X.C.aT,ao (dd X),ef X,eL X,e7 X,eO X,ao (cK X z.ap z.ae s.ax)]) (λD h F=>Sat.tail (λh F=>by have:=jk (X:=X) (z:={z with b4:=aD,b5:=aI}) (s:={s with trace:=s.trace++[({Th.cz with kind:=10,dc:=b,cf:=x.id,why:=d,name:=reason}:bG)]}) (x:=x) (e:=e) B ⟨Y.bI,Y.kj,Y.es⟩ D h F;rw[sw (X:=X) (ap:=z.ap) (q:=q) (s:={s with trace:=s.trace++[({Th.cz with kind:=10,dc:=b,cf:=x.id,why:=d,name:=reason}:bG)]}) B]at this;exact this) F) (aY aD aI).spec) bN) ?_;exact adT
def awm(B:At X z.ap s.aE a q x)(Y:fX x e)(l d:Int)(reason:cG)(J:Nat)(M:List Value)(k:Th.K)(y:Option aq)(aS:¬d=1/\¬d=2/\¬d=3)(a6:x.cH.contains (b:Int)=false)(bf:x.mode=1)(d7:x.cH.length<most)(c2:s.trace.length<most)(ba:∀aD aI gQ gR,ab E 296 I6 (a1 X z.ap z.ae j 0 k J M::gM X iN IU a q PY {e with gQ:=gQ,gR:=gR}) (cv X y))(O:s.ax[j]?=some t):ab E 300 abz iM (cv X y):=by
 refine av Tryz.func300 λH D=>?_;haveI:=gn (X:=X) (ap:=z.ap) (ae:=z.ae) O;refine Ru ?_;intro v c f p bV aD aI;refine agx ?_;intro u i o;refine dh ?_;refine bu (ba aD aI i o) ?_;exact xc
def awn(B:At X z.ap s.aE a q x)(Y:fX x e)(l d:Int)(reason:cG)(J:Nat)(M:List Value)(k:Th.K)(y:Option aq)(aS:¬d=1/\¬d=2/\¬d=3)(a6:x.cH.contains (b:Int)=false)(bf:¬x.mode=1)(d7:x.cH.length<most)(c2:s.trace.length<most)(aY:∀aD aI,hr X j {z with b4:=aD,b5:=aI} (Th.c8 IU a PY) k J M y)(O:s.ax[j]?=some t):ab E 300 abz iM (cv X y):=by
 refine av Tryz.func300 λH D=>?_;haveI:=gn (X:=X) (ap:=z.ap) (ae:=z.ae) O;refine Ru ?_;intro v c f p bV aD aI;haveI:=(aY aD aI).iY;refine agx ?_;intro u i o;refine ct ?_;refine bu (gv (I:=(a1 X z.ap z.ae j 0 k J M::aa q 118 ((dS X x e).set (0+17) (.slice i (x.cH++[(b:Int)]).length o))::dj e.ka e.kc x.kids::dj i o (x.cH++[(b:Int)])::fJ e.gp X.C.dO x.aside x.front::gL e.iB pQ pR x.given::bs e.gj .i64 wR::ii e.iC (hD e.es)::ao (hV e.es)::gb e.bI::ao y2::cp X iN IU::di aD aI (s.trace++aaI)::OY)) (λD h F=>Sat.tail (λh F=>jk (X:=X) (z:=iN) (s:=IU) (x:=PY) (e:={e with gQ:=i,gR:=o}) B rs D h F) F) (aY aD aI).spec) ?_;refine pe ?_;exact pd
end
section
variable(X:cO)(z:dw)(s:aq)(j:Nat)
def awo(w:Int):∀l:List Int,ew El w hI=(Th.oj l w).map λw=>(w,Value.bool true):=by
 have key:∀l:List Int,ew El w hI=if l.contains w then l.map λw=>(w,Value.bool true)else El++[(w,.bool true)]:=by
  intro l
  induction l with
  |nil=>rfl
  |
   cons x l L=>
   simp only[gx,ew,List.contains_cons];by_cases h:w=x
   . subst h;simp
   . have h2:(w==x)=false:=by simpa using h
     have aN:¬x=w:=λe=>h e.symm;rw[h2,kQ]
     first|rw[a7 h,L]|rw[a7 aN,L]
     split<;>rfl
 intro l;rw[key,Th.oj,Th.mem];split<;>simp
def awp(t:b0)(a q:Nat)(x:bU)(e:hS)(aj:bJ X z s)(B:At X z.ap s.aE a q x)(Y:fX x e)(J:Nat)(M:List Value)(k:Th.K)(y:Option aq)(hk:0<x.kids.length)(aY:hr X j z s k J M y):ab E 245 lB iM (cv X y):=by
 refine av Tryz.func245 λH D=>?_;haveI:=aY.iY;refine eY ?_;refine b2 ?_;refine cP ?_;refine dB ?_;refine QK ?_;intro cl aW ah e8;refine c4 ?_;exact pb
def awq(t:b0)(a q:Nat)(x:bU)(e:hS)(aj:bJ X z s)(B:At X z.ap s.aE a q x)(Y:fX x e)(J:Nat)(M:List Value)(k:Th.K)(y:Option aq)(hk:x.kids.length=0)(c:¬x.mode=4)(b:¬x.mode=3)(aY:hr X j z s k J M y):ab E 245 lB iM (cv X y):=by
 refine av Tryz.func245 λH D=>?_;haveI:=aY.iY;refine afx ?_;refine QK ?_;intro cl aW ah e8;refine bE ?_;exact pb
def awr(t:b0)(a q:Nat)(x:bU)(e:hS)(aj:bJ X z s)(B:At X z.ap s.aE a q x)(Y:fX x e)(J:Nat)(M:List Value)(k:Th.K)(who:Nat)(N:X.C.ok)(R:1<=who/\who<=X.C.aT)(O:s.ax[j]?=some t)(U:t.on=none):ab E 348 [ptr (X.bp j) 0,ptr q 0,af who,bk J M] iM (cv X (some (Th.c8 Pf a PW))):=by
 refine av Tryz.func348 λH D=>?_;haveI:=gn (X:=X) (ap:=z.ap) (ae:=z.ae) O;have g:1<=x.id/\x.id<=X.C.aT:=Ix;refine vi ?_;intro aL aR aM bV;refine bQ ?_;refine wn λZ=>?_;refine bR ?_;refine cw [] [5,201] [aa aR 110 [ptr q 0],aa aM 3 [af who],aa q 118 (dS X x e)] ?_;refine bQ ?_;refine h0 [10,13] [10] ((0,.bL)::(1,.loc)::(2,.loc)::W4) [aa aL 106 eE,aa Z 32 [ptr X.h 0],aa aR 110 [ptr q 0],aa aM 3 [af who],aa q 118 (dS X x e),cp X z s] mixed hM ?_;refine c4 ?_;refine bu (auX X N x.id who g R) ?_;refine oi ?_;intro p;refine go_v rfl .none rfl (jR Tryz.underlying392 rfl rfl) ?_;refine aU (iA (a1.eq_20 ..) (Z,aM,aL,bV,aR,q,J,M) u1 (jN X z.ap z.ae s.ax j p 392 [ptr Z 0,ptr aM 0,ptr aL 0,ptr bV 0,ptr aR 0] t (.ht (ml 0 (kM X.C.bl X.C.aT x.id who))) (.watched a who k) O U)) ?_;refine b2 ?_;exact aQ ⟨rfl,z,_,rfl,⟨aj.gk,aj.fY,aj.fZ,by show _=(s.aE.set _ _).length;rw[gr];exact aj.ap,aj.ae⟩,rfl⟩ (λh F=>jk (X:=X) (z:=z) (s:=Pf) (x:=PW) B rs D h ((show∀h,Sat _ h->Sat (gM X z Pf a q PW e++D) h from by simp only[gM];rw[<-awo];exact(au)) h F))
end
section
variable(X:cO)(z:dw)(s:aq)(j:Nat)
def aws(t:b0)(a q:Nat)(x:bU)(e:hS)(m:dn)(B:At X z.ap s.aE a q x)(Y:fX x e)(J:Nat)(M:List Value)(k:Th.K)(y:Option aq)(R:m.what=2)(bf:¬x.mode=2)(aY:hr X j z s k J M y):ab E 197 sn iM (cv X y):=by
 refine av Tryz.func197 λH D=>?_;haveI:=aY.iY;refine af3 ?_;intro aL aR aM bV;exact afg
def awt(t:b0)(a q:Nat)(x:bU)(e:hS)(m:dn)(B:At X z.ap s.aE a q x)(Y:fX x e)(J:Nat)(M:List Value)(k:Th.K)(y:Option aq)(R:m.what=3)(bf:¬x.mode=2)(aY:hr X j z s k J M y):ab E 197 sn iM (cv X y):=by
 refine av Tryz.func197 λH D=>?_;haveI:=aY.iY;refine agf ?_;intro aL aR aM bV;exact afg
def awu(t:b0)(a q:Nat)(x:bU)(e:hS)(m:dn)(B:At X z.ap s.aE a q x)(Y:fX x e)(J:Nat)(M:List Value)(k:Th.K)(y:Option aq)(R:m.what=3)(bf:x.mode=2)(aj:bJ X z s)(N:X.C.ok)(aO:s.notes.length<most)(O:s.ax[j]?=some t)(U:t.on=none)(hlen:x.kids.length<=1099511627776)(d:∀cs,0=x.kids.length->hr X j z Qg tK 244 cs y)(g2:∀v:Int,x.kids[0]?=some v->∃b:Nat,v=b/\Ew/\y=some (iX Qg j t b q7 (.each (.push x.kids 0) 0 x.kids.length tK))):ab E 197 sn iM (cv X y):=by
 refine av Tryz.func197 λH D=>?_;have f:bJ X z Qg:=⟨aj.gk,aj.fY,aj.fZ,by show _=(s.aE.set _ _).length;rw[gr];exact aj.ap,aj.ae⟩;refine agf ?_;intro aL aR aM bV;refine JR ?_;refine fB ?_;refine cw [] [6,201] [aa aL 106 eE,aa aR 110 [ptr q 0],aa q 118 ((dS X x e).set (0+13) (af 3))] ?_;refine bj ?_;refine bu (pg (auF aL aR bV q J M B.ap) (ajo X z s j t a q x {x with mode:=3} e 0 tK 244 [ptr aL 0,ptr aR 0,ptr bV 0] y B rs f N aO O U hlen (d _) g2)) ?_;exact adJ
def awv(t:b0)(a q:Nat)(x:bU)(e:hS)(m:dn)(B:At X z.ap s.aE a q x)(Y:fX x e)(J:Nat)(M:List Value)(k:Th.K)(y:Option aq)(hlen:x.kids.length<=most)(a6:x.kids.contains m.who=false)(aY:hr X j z s k J M y):ab E 242 sn iM (cv X y):=by
 refine av Tryz.func242 λH D=>?_;haveI:=aY.iY;refine agl ?_;intro b aL aR aM bV;refine gq ?_;exact Ks
def aww(t:b0)(a q:Nat)(x:bU)(e:hS)(m:dn)(B:At X z.ap s.aE a q x)(Y:fX x e)(J:Nat)(M:List Value)(k:Th.K)(y:Option aq)(hlen:x.kids.length<=most)(a6:x.kids.contains m.who=true)(bf:x.mode=3)(aY:hr X j z s k J M y):ab E 242 sn iM (cv X y):=by
 refine av Tryz.func242 λH D=>?_;haveI:=aY.iY;refine agn ?_;intro b aL aR aM bV;refine gd ?_;exact Ks
def awx(t:b0)(a q:Nat)(x:bU)(e:hS)(m:dn)(B:At X z.ap s.aE a q x)(Y:fX x e)(J:Nat)(M:List Value)(k:Th.K)(y:Option aq)(hlen:x.kids.length<=most)(a6:x.kids.contains m.who=true)(bf:x.mode=4)(aY:hr X j z s k J M y):ab E 242 sn iM (cv X y):=by
 refine av Tryz.func242 λH D=>?_;haveI:=aY.iY;refine agn ?_;intro b aL aR aM bV;refine bj ?_;exact afe
end
section
variable(X:cO)(z:dw)(s:aq)(j:Nat)(t:b0)(a q left:Nat)(x:bU)(e:hS)
def awy(B:At X z.ap s.aE a q x)(Y:fX x e)(bf:x.mode=1)(aw:left=0)(aj:bJ X z s)(O:s.ax[j]?=some t)(U:t.on=none):ab E 196 En vc (cv X (some {s with ax:=s.ax.set j {t with on:=some (.post x.id (Th.mA 1),.again a)}})):=by
 refine av Tryz.func196 λH D=>?_;have g:1<=x.id/\x.id<=X.C.aT:=Ix;refine afm ?_;intro ay aL aR;refine ac5 ?_;refine bj ?_;refine bu (auP X g) ?_;refine oi ?_;intro p;refine JQ ?_;refine aU (iA (a1.eq_9 ..) (ay,aL,q) u1 (jN X z.ap z.ae s.ax j p 234 [ptr ay 0,ptr aL 0] t (.post x.id (Th.mA 1)) (.again a) O U)) ?_;refine ct ?_;exact aQ ⟨rfl,z,_,rfl,⟨aj.gk,aj.fY,aj.fZ,aj.ap,aj.ae⟩,rfl⟩ (λh F=>by have:=jk (X:=X) (z:=z) (s:={s with ax:=s.ax.set j {t with on:=some (.post x.id (Th.mA 1),.again a)}}) (x:=x) (g9:=x) B Y D h ((show∀h,Sat _ h->Sat (gM X z {s with ax:=s.ax.set j {t with on:=some (.post x.id (Th.mA 1),.again a)}} a q x e++D) h from(au)) h F);rw[sw (X:=X) (ap:=z.ap) (q:=q) (s:={s with ax:=s.ax.set j {t with on:=some (.post x.id (Th.mA 1),.again a)}}) B]at this;exact this)
def awz(t:b0)(a q left:Nat)(x:bU)(e:hS)(B:At X z.ap s.aE a q x)(Y:fX x e)(y:Option aq)(bf:x.mode=1)(aw:¬left=0)(l:List Int)(id:Int)(b:x.front=l++[id])(d:l.length<=1099511627776)(h:∀cs,ab E 238 [ptr (X.bp j) 0,ptr q 0,bx id,bk 236 cs] (a1 X z.ap z.ae j 0 (.next a left) 236 cs::gM X z s a q {x with front:=l} e) (cv X y)):ab E 196 En vc (cv X y):=by
 refine av Tryz.func196 λH D=>?_;refine af0 ?_;intro ay aL aR aM;refine cn rfl (b9 rfl ((show ab E 237 [ptr e.gp 0] Qb (aH (.tuple #[bx id,.bool true]) [fJ e.gp X.C.dO x.aside l])from by rw[b];exact auk e.gp X.C.dO x.aside l id d)) bN) ?_;refine Mj ?_;refine nI ?_;refine bj ?_;refine bu (iA (a1.eq_10 ..) (ay,aL,aR,q) u1 (h _)) ?_;exact zw
def awA(B:At X z.ap s.aE a q x)(Y:fX x e)(bf:x.mode=1)(aw:¬left=0)(b:x.front=[])(aj:bJ X z s)(O:s.ax[j]?=some t)(U:t.on=none):ab E 196 En vc (cv X (some {s with ax:=s.ax.set j {t with on:=some (.post x.id Th.xA,.mD a left)}})):=by
 refine av Tryz.func196 λH D=>?_;have g:1<=x.id/\x.id<=X.C.aT:=Ix;refine af0 ?_;intro ay aL aR aM;refine cn rfl (b9 rfl ((show ab E 237 [ptr e.gp 0] Qb (aH (.tuple #[bx 0,.bool false]) Qb)from by rw[b];exact by simpa only[b]using auj e.gp X.C.dO x.aside)) bN) ?_;refine Mj ?_;refine og ?_;refine bQ ?_;refine bu (auL X g) ?_;refine lS ?_;intro p;refine wn λcA=>?_;refine bj ?_;refine JZ ?_;refine aU (iA (a1.eq_11 ..) (cA,ay,aL,aM,aR,q) u1 (jN X z.ap z.ae s.ax j p 240 [ptr cA 0,ptr ay 0,ptr aL 0,ptr aM 0] t (.post x.id Th.xA) (.mD a left) O U)) ?_;refine bb ?_;exact aQ ⟨rfl,z,_,rfl,⟨aj.gk,aj.fY,aj.fZ,aj.ap,aj.ae⟩,rfl⟩ (λh F=>by have:=jk (X:=X) (z:=z) (s:={s with ax:=s.ax.set j {t with on:=some (.post x.id Th.xA,.mD a left)}}) (x:=x) (g9:=x) B Y D h ((show∀h,Sat _ h->Sat (gM X z {s with ax:=s.ax.set j {t with on:=some (.post x.id Th.xA,.mD a left)}} a q x e++D) h from(au)) h F);rw[sw (X:=X) (ap:=z.ap) (q:=q) (s:={s with ax:=s.ax.set j {t with on:=some (.post x.id Th.xA,.mD a left)}}) B]at this;exact this)
end
section
variable(X:cO)(z:dw)(s:aq)(j q J:Nat)(M:List Value)(k:Th.K)(y:Option aq)(aK ar V a:Nat)
def awB(J:Nat)(M:List Value)(k:Th.K)(y:Option aq)(aK ar:Nat)(h:ab E 139 qq (bh X z s) (cv X y)):ab E 138 tE ab1 (cv X y):=by
 refine av Tryz.func138 λH D=>?_;refine b2 ?_;exact vj
def awC(h:ab E 245 lB k8 (cv X y)):ab E 297 lY Ea (cv X y):=by
 refine av Tryz.func297 λH D=>?_;exact Kv
def awD(h:ab E 245 lB k8 (cv X y)):ab E 244 lY Ea (cv X y):=by
 refine av Tryz.func244 λH D=>?_;exact Kv
def awE(h:ab E 364 lB k8 (cv X y)):ab E 363 lY Ea (cv X y):=by
 refine av Tryz.func363 λH D=>?_;exact Kv
def awF(bt:z.ap[a -1]?=some q)(h:ab E 360 [ptr (X.bp j) 0,ptr q 0,bk 361 lY] (a1 X z.ap z.ae j 0 (.shut a k) 361 lY::bh X z s) (cv X y)):ab E 359 lY Ea (cv X y):=by
 refine av Tryz.func359 λH D=>?_;refine bR ?_;refine bu (iA (a1.eq_27 ..) (aK,ar,V,q,J,M) ⟨rfl,rfl,bt⟩ h) ?_;exact xd
def awG(q J:Nat)(M:List Value)(k:Th.K)(y:Option aq)(aK ar V ay p a:Nat)(a2:al)(h:ab E 167 [ptr (X.bp j) 0,ptr p 0,af a,bk J M] (a1 X z.ap z.ae j 0 k J M::a2::bh X z s) (cv X y)):ab E 356 BA ([aa aK 106 eE,aa ar 246 [ptr p 0],aa V 3 [af a],aa ay 1 [bk J M],a1 X z.ap z.ae j 0 k J M,a2]++bh X z s) (cv X y):=by
 refine av Tryz.func356 λH D=>?_;refine bE ?_;exact vj
def awH(J:Nat)(M:List Value)(k:Th.K)(y:Option aq)(aK ar a:Nat)(x:bU)(B:At X z.ap s.aE a q x)(bf:¬x.mode=5)(h:ab E 139 qq (bh X z s) (cv X y)):ab E 198 tE ab2 (cv X y):=by
 refine av Tryz.func198 λH D=>?_;haveI:=B.mode;refine bj ?_;refine Qs ?_;exact aeu
def awI(x:bU)(B:At X z.ap s.aE a q x)(aK ar:Nat)(aj:bJ X z s)(bf:x.mode=5):ab E 198 tE ab2 (cv X (some s)):=by
 refine av Tryz.func198 λH D=>?_;haveI:=B.mode;refine bj ?_;refine JR ?_;refine bE ?_;exact aQ ⟨rfl,z,s,rfl,aj,rfl⟩
end
section
variable(X:cO)(z:dw)(s:aq)(j:Nat)(t:b0)(a q:Nat)(x:bU)
def Fs{X:cO}{ap ae:List Nat}{j p f:Nat}(ba:f=235\/f=289\/f=168\/f=94\/f=159):∀D h,Sat ([]++D) h->Sat (a1 X ap ae j p .nil f []::D) h:=λD h s=>by
 rw[a1];exact cE (D:=D) () ⟨ba,rfl⟩ kS h s
theorem At.TK{X:cO}{ap:List Nat}{aE:List bU}{a q:Nat}{x:bU}(h:At X ap aE a q x):ib q 1 Et (af x.parent):=h.rd λe=>rfl
def awJ(aj:bJ X z s)(B:At X z.ap s.aE a q x)(J:Nat)(M:List Value)(k:Th.K)(aK ar V:Nat)(O:s.ax[j]?=some t)(U:t.on=none):ab E 361 lY Ea (cv X (some {s with ax:=s.ax.set j {t with on:=some (.post a (Th.mA 4),.oo a k)}})):=by
 refine av Tryz.func361 λH D=>?_;haveI:=B.box;refine h0 [5,8] [5] aa0 [aa aK 106 eE,aa ar 110 [ptr q 0],ao j5] mixed hM ?_;refine bj ?_;refine bu (auQ X B.aX) ?_;refine oi ?_;intro p;refine JQ ?_;refine aU (iA (a1.eq_28 ..) (aK,ar,V,q,J,M) ⟨rfl,rfl,B.ap⟩ (jN X z.ap z.ae s.ax j p 363 lY t (.post a (Th.mA 4)) (.oo a k) O U)) ?_;exact ac3
def awK(aj:bJ X z s)(B:At X z.ap s.aE a q x)(N:X.C.ok)(aK ar:Nat)(O:s.ax[j]?=some t)(U:t.on=none):ab E 234 tE ab1 (cv X (some {s with ax:=s.ax.set j {t with on:=some (.fE (wu X.C.bC (Th.sM X.C j) x.id),.nil)}})):=by
 refine av Tryz.func234 λH D=>?_;haveI:=gn (X:=X) (ap:=z.ap) (ae:=z.ae) O;haveI:=sy (X:=X) (ap:=z.ap) (ae:=z.ae) O;haveI:=B.vJ;haveI:=B.TK;have n:=N.hd;have cy:=B.cy;have g:=B.aX;refine cw [17] [101,16,201,1,201] (aa aK 106 eE::aa ar 110 [ptr q 0]::ab3) ?_;refine ov ?_;refine go_v rfl .none rfl (pD ((x.id:Nat):Int) (by exact tk (by omega)) rfl) ?_;refine bu (afT X N j x.id) ?_;refine oi ?_;intro p;refine go_v rfl .none rfl (jR Tryz.underlying169 rfl rfl) ?_;refine aU (pg (Fs (f:=235) (.inl rfl)) (jN X z.ap z.ae s.ax j p 235 [] t (.fE (wu X.C.bC (Th.sM X.C j) x.id)) .nil O U)) ?_;refine b2 ?_;exact JT
def awL(t:b0)(a q:Nat)(x:bU)(aj:bJ X z s)(B:At X z.ap s.aE a q x)(J:Nat)(M:List Value)(k:Th.K)(aK ar V:Nat)(y:Option aq)(hp:x.parent=0)(aY:hr X j z s k J M y):ab E 404 lY aaK (cv X y):=by
 refine av Tryz.func404 λH D=>?_;haveI:=B.TK;haveI:=aY.iY;refine ct ?_;refine cP ?_;exact aev
def awM(aj:bJ X z s)(B:At X z.ap s.aE a q x)(J:Nat)(M:List Value)(k:Th.K)(N:X.C.ok)(aK ar V:Nat)(hp:¬x.parent=0)(d:1<=x.parent/\x.parent<=X.C.aT)(aO:s.notes.length<most)(O:s.ax[j]?=some t)(U:t.on=none):ab E 404 lY aaK (cv X (some (iX s j t x.parent (⟨4,x.id,[]⟩:dn) k))):=by
 refine av Tryz.func404 λH D=>?_;haveI:=gn (X:=X) (ap:=z.ap) (ae:=z.ae) O;haveI:=sy (X:=X) (ap:=z.ap) (ae:=z.ae) O;haveI:=B.box;haveI:=B.vJ;haveI:=B.TK;refine ct ?_;refine cP ?_;refine bE ?_;refine cw [] [11,201] [aa aK 110 [ptr q 0],aa ar 1 [bk J M],aa V 106 eE,ao j5] ?_;refine c4 ?_;refine bu (B4 X z s j x.parent (⟨4,x.id,[]⟩:dn) J M k t d N.hd aO O U) ?_;rintro _ _ ⟨rfl,cC,bq,rfl⟩;refine eM ?_;refine b2 ?_;exact aQ ⟨rfl,{z with na:=cC,dT:=bq},_,rfl,kg,rfl⟩
end
section
variable(X:cO)(z:dw)(s:aq)(j a q p b:Nat)(x:bU)(Y:gz)(y:Option aq)
def awN(B:At X z.ap s.aE a q x)(aK ar V:Nat)(h:ab E 167 [ptr (X.bp j) 0,ptr p 0,af x.id,bk 289 []] (a1 X z.ap z.ae j 0 .nil 289 []::cM X p kG::bh X z s) (cv X y)):ab E 288 lY ([aa aK 106 eE,aa ar 246 [ptr p 0],aa V 110 [ptr q 0],cM X p kG]++bh X z s) (cv X y):=by
 refine av Tryz.func288 λH D=>?_;haveI:=B.vJ;refine cw [] [6,201] [aa aK 106 eE,aa ar 246 [ptr p 0],aa V 110 [ptr q 0],ao j5] ?_;refine bj ?_;refine bu (pg (Fs (f:=289) (.inr (.inl rfl))) h) ?_;refine pe ?_;exact pd
def awO(B:At X z.ap s.aE a q x)(aK ar V:Nat)(h:ab E 167 [ptr (X.bp j) 0,ptr p 0,af a,bk 168 []] (a1 X z.ap z.ae j 0 .nil 168 []::cM X p kG::bh X z s) (cv X y)):ab E 166 lY ([aa aK 106 eE,aa ar 246 [ptr p 0],aa V 3 [af a],cM X p kG]++bh X z s) (cv X y):=by
 refine av Tryz.func166 λH D=>?_;refine bR ?_;refine bu (pg (Fs (f:=168) (.inr (.inr (.inl rfl)))) h) ?_;exact xd
def awP(a q p b:Nat)(x:bU)(Y:gz)(y:Option aq)(J:Nat)(M:List Value)(k:Th.K)(who aK ar V ay aL:Nat)(aJ:¬Y.out=1)(aY:hr X j z s k J M y):ab E 394 za Z9 (cv X y):=by
 refine av Tryz.func394 λH D=>?_;haveI:=aY.iY;refine BO ?_;exact ae2
def awQ(J:Nat)(M:List Value)(k:Th.K)(who:Nat)(B:At X z.ap s.aE a q x)(aK ar V ay aL:Nat)(aJ:Y.out=1)(h:ab E 395 [ptr (X.bp j) 0,af x.id,af who,bk J M] k8 (cv X y)):ab E 394 za Z9 (cv X y):=by
 refine av Tryz.func394 λH D=>?_;haveI:=B.vJ;refine QW ?_;refine cw [] [7,201] [aa aK 246 [ptr p 0],aa ar 1 [bk J M],aa V 106 eE,aa ay 110 [ptr q 0],aa aL 3 [af who],ao j5] ?_;refine ct ?_;exact Q5
def awR(a q p b:Nat)(x:bU)(Y:gz)(y:Option aq)(J:Nat)(M:List Value)(k:Th.K)(ed N:Nat)(i:k2)(aK ar V ay aL:Nat)(aJ:¬i.out=1)(aY:hr X j z s k J M y):ab E 430 za aaa (cv X y):=by
 refine av Tryz.func430 λH D=>?_;haveI:=aY.iY;refine bR ?_;refine aU (Wi p X.m i) ?_;exact ae2
def awS(a q p b:Nat)(x:bU)(Y:gz)(y:Option aq)(J:Nat)(M:List Value)(k:Th.K)(ed N:Nat)(i:k2)(aK ar V ay aL:Nat)(aJ:i.out=1)(h:ab E 93 [ptr (X.bp j) 0,.agg (nn ⟨N,ed,[103,111,110,101],0,true⟩).toArray,bk J M] k8 (cv X y)):ab E 430 za aaa (cv X y):=by
 refine av Tryz.func430 λH D=>?_;refine bR ?_;refine aU (Wi p X.m i) ?_;refine aB rfl (fS (c:=false) yC (mh rfl rfl)) ?_;exact aeI
end
section
variable(X:cO)(z:dw)(s:aq)(j q p b:Nat)(Y:gz)(y:Option aq)(J:Nat)(M:List Value)(k:Th.K)(t:b0)(aK ar V ay:Nat)
def awT(aJ:Y.out=5)(aY:hr X j z s k J M y):ab E 401 BA O4 (cv X y):=by
 refine av Tryz.func401 λH D=>?_;haveI:=aY.iY;refine QV ?_;refine ct ?_;refine bu (aY.spec) ?_;exact xc
def awU(e:¬Y.out=5)(d:¬Y.out=1)(h:ab E 360 lB k8 (cv X y)):ab E 401 BA O4 (cv X y):=by
 refine av Tryz.func401 λH D=>?_;refine Ku ?_;refine c4 ?_;exact vj
def awV(O:s.ax[j]?=some t)(m:Nat)(l:c0)(K:hG z.ae s.lets Y.val m l)(aF:X.C.c6<=64)(aS:s.dead.length<most)(c2:s.trace.length<most)(aO:s.a8.length<=most)(aK ar V ay:Nat)(o:sB Y)(aJ:Y.out=1)(h:∀aD aI,ab E 360 lB (a1 X z.ap z.ae j 0 k J M::bh X iN (ki s Y.val l.to 2)) (cv X y)):ab E 401 BA O4 (cv X y):=by
 refine av Tryz.func401 λH D=>?_;haveI:=gn (X:=X) (ap:=z.ap) (ae:=z.ae) O;refine Ku ?_;refine bR ?_;refine cw [7] [104,3,202] (aa aK 246 [ptr p 0]::aa ar 1 [bk J M]::aa V 106 eE::aa ay 110 [ptr q 0]::cM X p kG::qo) ?_;refine ct ?_;refine QC ?_;refine go_c rfl .none rfl (b9 rfl (tG X z s Y.val 2 m l K bw aF aS c2 aO) bN) ?_;refine EH ?_;intro aD aI;refine bQ ?_;refine bu (h aD aI) ?_;exact xd
def awW(q p b:Nat)(Y:gz)(y:Option aq)(J:Nat)(M:List Value)(k:Th.K)(id to:Int)(m:Nat)(l:c0)(K:hG z.ae s.lets id m l)(aF:X.C.c6<=64)(aS:s.dead.length<most)(c2:s.trace.length<most)(aO:s.a8.length<=most)(aK ar V ay aL aR:Nat)(aJ:Y.out=2)(aY:∀aD aI,hr X j {z with b4:=aD,b5:=aI} (ki s id l.to 1) k J M y):ab E 210 sm IK (cv X y):=by
 refine av Tryz.func210 λH D=>?_;refine QV ?_;refine ct ?_;refine cn rfl (b9 rfl (tG X z s id 1 m l K bw aF aS c2 aO) bN) ?_;exact afB
def awX(q p b:Nat)(Y:gz)(y:Option aq)(J:Nat)(M:List Value)(k:Th.K)(id to:Int)(m:Nat)(l:c0)(K:hG z.ae s.lets id m l)(aF:X.C.c6<=64)(aS:s.dead.length<most)(c2:s.trace.length<most)(aO:s.a8.length<=most)(aK ar V ay aL aR:Nat)(aJ:Y.out=3)(aY:∀aD aI,hr X j {z with b4:=aD,b5:=aI} (ki s id l.to 2) k J M y):ab E 210 sm IK (cv X y):=by
 refine av Tryz.func210 λH D=>?_;refine Ku ?_;refine ct ?_;refine cn rfl (b9 rfl (tG X z s id 2 m l K bw aF aS c2 aO) bN) ?_;exact afB
def awY(q p b:Nat)(Y:gz)(y:Option aq)(J:Nat)(M:List Value)(k:Th.K)(id to:Int)(aK ar V ay aL aR:Nat)(aO:s.a8.length<=most)(h2:¬Y.out=2)(aN:¬Y.out=3)(R:bm s.a8 id=1)(h:ab E 167 [ptr (X.bp j) 0,ptr p 0,af to,bk J M] (a1 X z.ap z.ae j 0 k J M::cM X p kG::bh X z {s with a8:=dH s.a8 id 2}) (cv X y)):ab E 210 sm IK (cv X y):=by
 refine af9 ?_;intro H D;refine b2 ?_;refine cw [] [5,201] aak ?_;refine bE ?_;refine aU (Lg.Be X.ld s.a8 id 2 aO) ?_;refine cB ?_;refine bu (h) ?_;exact xc
def awZ(q p b:Nat)(Y:gz)(y:Option aq)(J:Nat)(M:List Value)(k:Th.K)(id to:Int)(aK ar V ay aL aR:Nat)(h2:¬Y.out=2)(aN:¬Y.out=3)(R:¬bm s.a8 id=1)(h:ab E 167 [ptr (X.bp j) 0,ptr p 0,af to,bk J M] ab4 (cv X y)):ab E 210 sm IK (cv X y):=by
 refine af9 ?_;intro H D;refine c4 ?_;refine bu (h) ?_;exact xc
def aw0(a q who:Nat)(t:b0)(J:Nat)(M:List Value)(k:Th.K)(aj:bJ X z s)(N:X.C.ok)(bt:z.ap[a -1]?=some q)(aX:1<=who/\who<=X.C.aT)(aK ar V ay aL:Nat)(O:s.ax[j]?=some t)(U:t.on=none):ab E 392 za ([aa aK 32 [ptr X.h 0],aa ar 3 [af who],aa V 106 eE,aa ay 1 [bk J M],aa aL 110 [ptr q 0],a1 X z.ap z.ae j 0 k J M]++bh X z s) (cv X (some {s with ax:=s.ax.set j {t with on:=some (.post who Th.xv,.gone a who k)}})):=by
 refine av Tryz.func392 λH D=>?_;have n:=N.hd;refine aG ?_;refine iu [8,9,10] [9] wa [aa aK 32 [ptr X.h 0],aa ar 3 [af who],aa V 106 eE,aa ay 1 [bk J M],aa aL 110 [ptr q 0],cp X z s,ef X] ?_;refine bE ?_;refine jJ rfl .none rfl (kl ((who -1:Nat):Int) ff rfl rfl) (au) ?_;refine jJ rfl .none rfl (gf rfl rfl (show who -1<X.C.aT by omega)) (au) ?_;refine jJ rfl .none rfl (gF rfl (Ky aX)) (au) ?_;refine fm ?_ ?_
 . refine bu (ahT X aX) ?_
   refine oi ?_;intro p;refine wn λaR=>?_;exact aeS
 . refine wn λaR=>?_
   refine aG ?_;refine bu (ahT X aX) ?_;refine lS ?_;intro p;exact aeS
end
end Go.Proofs.YtnnhpnccfnghdaaGreat.L.bM
