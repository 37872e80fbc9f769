import Derived.Test.YtnnhpnccfnghdaaGreatR7
set_option linter.all false
set_option maxRecDepth 8000
set_option maxHeartbeats 16000000
namespace Go.Proofs.YtnnhpnccfnghdaaGreat.L
open Go.L Go.L.Lx Go.L.Pg
open Go.L.Th (o0 nt hl qc rowOf mN kY ll dt)
attribute[local irreducible] G cE GE cY GT b0 df c4 di Exit.then Exit.inBlock
section
variable{k:b2}{s:fN}{a2:aq}
theorem L0{P:Program}{F:World}{n:Nat}{I:eT}{M D:List aq}{fn:Func}{post:Value->List aq->Prop}{e:Exit}(V:e=.ret\/e=.normal){t b bO aY q:Nat}{T te:TypeId}{l ce:List Value}{R:Nat×Nat}{y:Value}{u:Obj->List aq}[i:j9 P T aY][j:kZ b M (.cells l.toArray te R) u](ba:fn.results=#[.cell t T,.tmp q])(h1:gN I t=some (ptr b bO))(h2:gN I q=some y)(Y:(l.drop bO).take aY=ce)(av:ce.length=aY)(H:List aq)(hp:post (.tuple #[.agg ce.toArray,y]) H)(B:∀h,Sat M h->Sat (H++D) h):
 GE F n I M vP:=
 x0 V (λa w aj s=>by
  obtain⟨E,W,Z⟩:=i.out;obtain⟨z,d8,gc⟩:=i.size;have aA:=s.heap (b:=b);have a6:=run_loadCells_list (P:=P) w q8 ce (λk v hk=>by
   rw[<-Y]at hk;have:=Af hk;rw[uh];simp[World.cell?,aA,this])
  rw[av]at a6;simp[results,ba,aj.val _ _ h1,aj.val _ _ h2,asAddr,loadVar,Ag W Z,jM d8,gc,a6]) H hp B
def amm{s:cC}{i:Nat}(h:nt s=some i):i<4:=by
 unfold nt at h;(repeat' split at h)<;>cases h<;>decide
def gO(k:b2):aq:=λh=>lm h k
instance aDq:gl Ah (gO k) k.cases.length vQ:=⟨λh=>h.sI.1⟩
instance aDr:gl CK (gO k) k.states.length CL:=⟨λh=>h.sJ.1⟩
theorem amn(o:∀h,a2 h->lm h k):gl Ah a2 k.cases.length vQ:=⟨λh=>(o _ h).sI.1⟩
theorem F7(o:∀h,a2 h->lm h k):gl CK a2 k.states.length CL:=⟨λh=>(o _ h).sJ.1⟩
theorem L1(o:∀h,a2 h->lm h k)(aj:s∈k.states):gl L2 a2 s.rows.length (s.rows.flatMap hs):=⟨λh=>((o _ h).states s aj).rd.1⟩
theorem UG{r:Row}{a2:aq}(o:∀h,a2 h->lm h k)(aj:s∈k.states)(aE:r∈s.rows):gl (.slice r.ea r.cw.length r.cA) a2 r.cw.length (r.cw.flatMap fO):=⟨λh=>(((o _ h).states s aj).rows r aE).rd.1⟩
structure q9(k:b2):Prop where
 amo:k.cases.length<=140737488351232
 amp:k.states.length<=140737488351232
 row:∀s∈k.states,s.rows.length<=140737488351232
 c5:∀s∈k.states,∀r∈s.rows,r.cw.length*80<=140737488351232
end
section
variable(k:b2)(ay:Nat)(a:Option Addr)(state w tag:cC)(c:Nat)(n:Int)(l:List fv)
def F8{h:eA}{k:b2}(o:lm h k):q9 k:=
 ⟨by
  have h1:k.cases.length*24<=140737488351232:=o.tb;omega,by
   have h1:k.states.length*40<=140737488351232:=o.lens;omega,λs aj=>by
    have h1:s.rows.length*56<=140737488351232:=(o.states s aj).len;omega,λs aj r aE=>((o.states s aj).rows r aE).len⟩
def UH:(l.flatMap fO).all Value.oneCell'=true:=by
 rw[qd];intro x ah;obtain⟨e,_,V⟩:=CM.1 ah;simp only[fO,ku,Ai,or_false]at V;rcases V with rfl|rfl|rfl|rfl|rfl|rfl|rfl<;>rfl
def amq(e:fv)(n:Int)(aM:-9223372036854775808<n/\n<=9223372036854775807):ad aa 340 [.agg (fO e).toArray,af n] [] (aH (af (o0 e n)) []):=by
 refine aw Tryz.func340 λF D=>?_;refine bb ?_;refine wn λU=>?_;refine eJ ?_;refine bb ?_;refine cg (λW=>?_) (λW=>?_)
 . have g5:e.value=0:=by simpa using W
   refine c8 ?_;exact aX ⟨by unfold o0;rw[bd g5],rfl⟩
 . have g5:¬e.value=0:=by simpa using W
   refine bi ?_;refine cg (λM=>?_) (λM=>?_)
   . have w:e.value=1:=by simpa using M
     refine cq ?_;refine cg (λL=>?_) (λL=>?_)
     . have T:n<1:=by simpa using L
       refine c8 ?_;exact aX ⟨by unfold o0;rw[a8 g5,bd w,bd T],rfl⟩
     . have T:¬n<1:=by simpa using L
       refine bB ?_;refine aB rfl (kl (n -1) (je ae) rfl rfl) ?_;refine cq ?_;exact aX ⟨by unfold o0;rw[a8 g5,bd w,a8 T],rfl⟩
   . have w:¬e.value=1:=by simpa using M
     refine dC ?_;exact aX ⟨by unfold o0;rw[a8 g5,a8 w],rfl⟩
def amr(x:b2):ad aa 101 [.agg (eK x).toArray,ptr ay 0] Aj (aH (.bool (decide (x.name=w))) Aj):=by
 refine aw Tryz.func101 λF D=>?_;exact L3
def ams(x:fN):ad aa 385 [.agg (gy x).toArray,ptr ay 0] Aj (aH (.bool (decide (x.name=w))) Aj):=by
 refine aw Tryz.func385 λF D=>?_;exact L3
def amt(aV:Nat)(tag:cC)(n:Int)(x:Row):ad aa 386 [.agg (hs x).toArray,ptr ay 0,ptr aV 0] [ab ay 9 [S tag],ab aV 3 [af n]] (aH (.bool (qc tag n x)) [ab ay 9 [S tag],ab aV 3 [af n]]):=by
 refine aw Tryz.func386 λF D=>?_;refine bb ?_;refine wn λZ=>?_;refine cq ?_;refine aB rfl (pF rfl rfl) ?_;refine aG ?_;refine hx rfl rfl (λW=>?_) (λW=>?_) rfl
 . have f:=bN W
   refine bi ?_;refine aB rfl (pF rfl rfl) ?_;refine bb ?_;refine hx rfl rfl (λM=>?_) (λM=>?_) rfl
   . have q:=bN M
     refine cq ?_;refine hx rfl rfl (λL=>?_) (λL=>?_) rfl
     . have X:=bN L
       refine eJ ?_;refine bb ?_;exact F9
     . have X:=bN L
       simp only[jD];refine fr ?_;exact F9
   . have q:=bN M
     simp only[jD];refine oz ?_;exact F9
 . have f:=bN W
   simp only[jD];refine gg ?_;exact F9
def UI(s:cC):ad aa 342 [S s] [] (aH (.tuple #[af (((nt s).getD 0:Nat):Int),.bool (nt s).isSome]) []):=by
 refine aw Tryz.func342 λF D=>?_;refine ui ?_;refine aB rfl (pF (m:=[100]) rfl rfl) ?_;refine b6 ?_;refine cg (λW=>?_) (λW=>?_)
 . have aj:s=[100]:=by simpa using W
   refine ui ?_;refine cv ?_;exact CN
 . have a:¬s=[100]:=by simpa using W
   refine bB ?_;refine aB rfl (pF (m:=[99]) rfl rfl) ?_;refine b6 ?_;refine cg (λM=>?_) (λM=>?_)
   . have aj:s=[99]:=by simpa using M
     refine ui ?_;refine bK ?_;exact CN
   . have b:¬s=[99]:=by simpa using M
     refine bB ?_;refine aB rfl (pF (m:=[98]) rfl rfl) ?_;refine b6 ?_;refine cg (λL=>?_) (λL=>?_)
     . have aj:s=[98]:=by simpa using L
       refine gg ?_;refine cv ?_;exact CN
     . have c:¬s=[98]:=by simpa using L
       refine bK ?_;refine aB rfl (pF (m:=[97]) rfl rfl) ?_;refine b6 ?_;refine cg (λfH=>?_) (λfH=>?_)
       . have aj:s=[97]:=by simpa using fH
         refine gg ?_;refine b6 ?_;exact CN
       . have d:¬s=[97]:=by simpa using fH
         refine gg ?_;refine aG ?_;exact CN
def amu(ref:cC)(self b parent:Int)(a:Option Addr)(c:Nat)(I:List Int)(a2:aq)[gl (.slice a I.length c) a2 I.length (iC I)](av:I.length=4):ad aa 341 [S ref,af self,af b,af parent,.slice a I.length c] [a2] (aH (af (hl ref self b parent I)) [a2]):=by
 refine aw Tryz.func341 λF D=>?_;refine fW ?_;refine aB rfl (pF (m:=[115,101,108,102]) rfl rfl) ?_;refine b6 ?_;refine cg (λW=>?_) (λW=>?_)
 . have g:ref=[115,101,108,102]:=by simpa using W
   refine c8 ?_;exact aX ⟨by unfold hl;rw[bd g],rfl⟩
 . have d:¬ref=[115,101,108,102]:=by simpa using W
   refine bb ?_;refine aB rfl (pF (m:=[115,101,110,100,101,114]) rfl rfl) ?_;refine b6 ?_;refine cg (λM=>?_) (λM=>?_)
   . have h:ref=[115,101,110,100,101,114]:=by simpa using M
     refine c8 ?_;exact aX ⟨by unfold hl;rw[a8 d,bd h],rfl⟩
   . have e:¬ref=[115,101,110,100,101,114]:=by simpa using M
     refine bb ?_;refine aB rfl (pF (m:=[112,97,114,101,110,116]) rfl rfl) ?_;refine b6 ?_;refine cg (λL=>?_) (λL=>?_)
     . have j:ref=[112,97,114,101,110,116]:=by simpa using L
       refine c8 ?_;exact aX ⟨by unfold hl;rw[a8 d,a8 e,bd j],rfl⟩
     . have f:¬ref=[112,97,114,101,110,116]:=by simpa using L
       refine bi ?_;refine aT (UI ref) ?_;refine cv ?_;rcases g0:nt ref with _|i
       . refine bb ?_
         refine cP ?_;refine eJ ?_;refine bb ?_;exact aX ⟨by unfold hl;rw[a8 d,a8 e,a8 f,g0],rfl⟩
       . have k:i<4:=amm g0
         obtain⟨v,Y⟩:∃v,I[i]?=some v:=⟨_,cz (show i<I.length by omega)⟩;refine bb ?_;refine cP ?_;refine bQ ?_;refine aB rfl (fC (c:=false) (by exact mO (by show¬(I.length:Int)<=((i:Nat):Int);omega)) (Ak rfl rfl)) ?_;refine c8 ?_;refine aB rfl (fI rfl rfl (show i<I.length by omega)) ?_;refine aB rfl (gz rfl (Ga Y)) ?_;refine bB ?_;exact aX ⟨by unfold hl;rw[a8 d,a8 e,a8 f,g0];simp[Y],rfl⟩
def amv(hk:q9 k)(a2:aq)(o:∀h,a2 h->lm h k)(h:k.states.find? x1=none):ad aa 339 x2 [a2] UJ:=by
 refine aw Tryz.func339 λF D=>?_;haveI:=F7 o;refine UK ?_;intro aO aU aS bY Y;exact UL
def amw(hk:q9 k)(a2:aq)(o:∀h,a2 h->lm h k)(s:fN)(aj:k.states.find? x1=some s)(h:s.rows.find? (qc tag n)=none):ad aa 339 x2 [a2] UJ:=by
 refine aw Tryz.func339 λF D=>?_;haveI:=F7 o;have b:s∈k.states:=rb aj;haveI:=L1 o b;obtain⟨i,d,l,B⟩:=CO aj;refine UM ?_;intro aO aU aS bY Y;exact UL
def amx(hk:q9 k)(a2:aq)(o:∀h,a2 h->lm h k)(s:fN)(r:Row)(aj:k.states.find? x1=some s)(h:s.rows.find? (qc tag n)=some r):ad aa 339 x2 [a2] (λu H=>∃a c,u=.tuple #[.agg [S r.tag,.bool r.only,af r.n,.slice a r.cw.length c].toArray,.bool true]/\H=UN):=by
 refine aw Tryz.func339 λF D=>?_;haveI:=F7 o;have b:s∈k.states:=rb aj;haveI:=L1 o b;obtain⟨i,d,l,B⟩:=CO aj;obtain⟨j,m,f,v⟩:=CO h;have g:r∈s.rows:=rb h;haveI:=UG o b g;refine UM ?_;intro aO aU aS bY Y;rw[m];refine UO ?_;refine aB rfl (fI rfl rfl v) ?_;refine aB rfl (kv rfl (kw hs 4 uj f) rfl) ?_;refine wn λE=>?_;refine cq ?_;refine ci rfl (b1 rfl (UP r.ea r.cA r.cw.length (r.cw.flatMap fO) (a2) (k0 fO 7 x3 _) (UH _) (by have:=hk.c5 s b r g;omega)) bF) ?_;rintro _ D ⟨_,⟨a,c,rfl,rfl⟩,rfl⟩;refine Gb ?_;exact L0 (.inl rfl) rfl rfl rfl rfl rfl UN ⟨a,c,rfl,rfl⟩ (au)
def lS(p:dt):List Value:=[.bool p.dY,.slice a p.cw.length c,S p.state,.bool p.stop,S p.fail]
abbrev kx:aq:=own (.slice a l.length c) 87 7 l.length (l.flatMap fO)
structure ln(n:Int)(D:List fv)(z:dt)(state:cC)(i:Nat)(p:dt):Prop where
 s9:i<=D.length
 eq:mN n i (D.drop i) p=z
 st:p.dY=false
 dx:p.stop=false
 uk:p.fail=[]
 len:p.cw.length<=i
 ec:i=0->p.state=state
end
section
variable{n:Int}{D:List fv}{z:dt}{state:cC}{i:Nat}{p:dt}{e:fv}
def x4(h:D[i]?=some e):D.drop i=e::D.drop (i+1):=by
 obtain⟨ak,rfl⟩:=dc.1 h;exact ta ak
def ln.kt(h:ln n D z state 0 p)(V:D[0]?=some e)(bu:e.do'=4):z=⟨true,[],state,false,[]⟩:=by
 rw[<-h.eq,x4 V];unfold mN;rw[bd bu,bd rfl,h.ec rfl]
def ln.skip(h:ln n D z state i p)(V:D[i]?=some e)(bu:e.do'=4)(bh:¬i=0):ln n D z state (i+1) p:=by
 have av:=(dc.1 V).1;have ay:=h.eq;rw[x4 V]at ay;unfold mN at ay;rw[bd bu,a8 bh]at ay;exact UQ
def ln.aCS(h:ln n D z state i p)(V:D[i]?=some e)(bu:¬e.do'=4)(aN:e.do'=3):ln n D z state (i+1) {p with state:=e.name}:=by
 have av:=(dc.1 V).1;have ay:=h.eq;rw[x4 V]at ay;unfold mN at ay;rw[a8 bu,bd aN]at ay;exact UQ
def ln.stop(h:ln n D z state i p)(V:D[i]?=some e)(bu:¬e.do'=4)(aN:¬e.do'=3)(a:e.do'=11):z={p with stop:=true}:=by
 rw[<-h.eq,x4 V];unfold mN;rw[a8 bu,a8 aN,bd a]
def ln.fail(h:ln n D z state i p)(V:D[i]?=some e)(bu:¬e.do'=4)(aN:¬e.do'=3)(a:¬e.do'=11)(b:e.do'=12):z={p with fail:=e.name}:=by
 rw[<-h.eq,x4 V];unfold mN;rw[a8 bu,a8 aN,a8 a,bd b]
def ln.send(h:ln n D z state i p)(V:D[i]?=some e)(bu:¬e.do'=4)(aN:¬e.do'=3)(a:¬e.do'=11)(b:¬e.do'=12)(aj:e.do'=1\/e.do'=8):ln n D z state (i+1) {p with cw:=p.cw++[{e with n:=o0 e n,value:=2}]}:=by
 have av:=(dc.1 V).1;have ay:=h.eq;rw[x4 V]at ay;unfold mN at ay;rw[a8 bu,a8 aN,a8 a,a8 b,bd aj]at ay;exact UR
def ln.jv(h:ln n D z state i p)(V:D[i]?=some e)(bu:¬e.do'=4)(aN:¬e.do'=3)(a:¬e.do'=11)(b:¬e.do'=12)(aj:¬(e.do'=1\/e.do'=8)):ln n D z state (i+1) {p with cw:=p.cw++[e]}:=by
 have av:=(dc.1 V).1;have ay:=h.eq;rw[x4 V]at ay;unfold mN at ay;rw[a8 bu,a8 aN,a8 a,a8 b,a8 aj]at ay;exact UR
def ln.done(h:ln n D z state i p)(ak:¬i<D.length):z=p:=by
 rw[<-h.eq,CP ae];rfl
end
section
variable(k:b2)(state tag:cC)(n:Int)
def US{a:Option Addr}{c m:Nat}{l:List fv}{e:fv}(h:l.length=m):own (.slice a (m+1) c) 87 7 (m+1) (l.flatMap fO++fO e)=kx a c (l++[e]):=by subst h;simp only[kx,re,eL,pG,UT,jr];rfl
def amy(hk:q9 k)(a2:aq)(o:∀h,a2 h->lm h k)(aM:-9223372036854775808<n/\n<=9223372036854775807)(h:k.states.find? x1=none):ad aa 290 x2 [a2] UU:=by
 refine aw Tryz.func290 λF D=>?_;refine bb ?_;refine wn λaO=>?_;refine wn λY=>?_;refine bi ?_;refine wn λco=>?_;refine cv ?_;refine aT (amv k state tag n hk a2 o h) ?_;exact UW
def amz(hk:q9 k)(a2:aq)(o:∀h,a2 h->lm h k)(aM:-9223372036854775808<n/\n<=9223372036854775807)(s:fN)(aj:k.states.find? x1=some s)(h:s.rows.find? (qc tag n)=none):ad aa 290 x2 [a2] UU:=by
 refine aw Tryz.func290 λF D=>?_;refine bb ?_;refine wn λaO=>?_;refine wn λY=>?_;refine bi ?_;refine wn λco=>?_;refine cv ?_;refine aT (amw k state tag n hk a2 o s aj h) ?_;exact UW
def amA(hk:q9 k)(a2:aq)(o:∀h,a2 h->lm h k)(aM:-9223372036854775808<n/\n<=9223372036854775807)(s:fN)(r:Row)(aj:k.states.find? x1=some s)(h:s.rows.find? (qc tag n)=some r)(z:dt)(K:mN n 0 r.cw Al=z):ad aa 290 x2 [a2] (λu H=>∃a c,u=.agg (lS a c z).toArray/\H=[kx a c z.cw,a2]):=by
 refine aw Tryz.func290 λF D=>?_;have b:s∈k.states:=rb aj;have g:r∈s.rows:=rb h;have hlen:r.cw.length<=1759218604390:=(by have:=hk.c5 s b r g;omega);refine bb ?_;refine wn λaO=>?_;refine wn λY=>?_;refine bi ?_;refine wn λco=>?_;refine cv ?_;refine br (amx k state tag n hk a2 o s r aj h) ?_;rintro _ _ ⟨ra,rc,rfl,rfl⟩;refine et ?_;refine b6 ?_;refine wn λc2=>?_;refine bQ ?_;refine cP ?_;refine cq ?_;refine nu (iV (e:=87) (aY:=7)) ?_;refine bQ ?_;refine gG (bv:=Nat×dt×Option Addr×Nat) (λx=>ln n r.cw z state x.1 x.2.1) (λx=>[(30,af x.1),(29,af r.cw.length),(28,.slice ra r.cw.length rc),(9,ptr co 0),(8,ptr Y 0),(1,S state),(3,af n)]) (λx=>ab co 356 [.bool false,.slice x.2.2.1 x.2.1.cw.length x.2.2.2,S x.2.1.state,.bool false,S []]::kx x.2.2.1 x.2.2.2 x.2.1.cw::kx ra rc r.cw::ab Y 356 [.bool false,.slice none 0 0,S [],.bool false,S []]::a2::D) (λx=>r.cw.length -x.1) (0,⟨false,[],state,false,[]⟩,none,0) (⟨eX _,K,rfl,rfl,rfl,eX _,λ_=>rfl⟩) dy (au) ?_;rintro⟨i,p,a,c⟩ bC;replace bC:ln n r.cw z state i p:=bC;have B:=bC.s9;have i6:=bC.len;dsimp only;refine bi ?_;refine cg (λW=>?_) (λW=>?_)
 . obtain⟨e,V⟩:∃e,r.cw[i]?=some e:=⟨_,cz (show i<r.cw.length by omega)⟩
   refine cq ?_;refine aB rfl (fI rfl rfl (show i<r.cw.length by omega)) ?_;refine aB rfl (kv rfl (kw fO 7 x3 V) rfl) ?_;refine wn λf=>?_;refine ui ?_;refine aG ?_;refine cg (λM=>?_) (λM=>?_)
   . have t:e.do'=4:=by simpa using M
     refine dC ?_;refine cg (λL=>?_) (λL=>?_)
     . obtain rfl:i=0:=by have:=L;omega
       refine gg ?_;refine bB ?_;refine x5 (.inl rfl) rfl rfl rfl rfl [kx none 0 z.cw,a2] (⟨none,0,by rw[bC.kt V t];rfl,rfl⟩) (by rw[bC.kt V t];exact λh s=>iV h ((au) h s))
     . have fz:¬i=0:=by have:=L;omega
       refine eJ ?_;refine bb ?_;refine vR ?_;refine fD (i+1,p,a,c) (bC.skip V t fz) (show r.cw.length -(i+1)<r.cw.length -i by omega) dy (au)
   . have z4:¬e.do'=4:=by simpa using M
     refine cv ?_;refine cg (λfH=>?_) (λfH=>?_)
     . have j:e.do'=3:=by simpa using fH
       refine gg ?_;refine UX ?_;refine fD (i+1,{p with state:=e.name},a,c) (bC.aCS V z4 j) (show r.cw.length -(i+1)<r.cw.length -i by omega) dy (au)
     . have z3:¬e.do'=3:=by simpa using fH
       refine cv ?_;refine cg (λw=>?_) (λw=>?_)
       . have C:e.do'=11:=by simpa using w
         refine ui ?_;refine bi ?_;refine x5 (.inl rfl) rfl rfl rfl rfl [kx a c z.cw,a2] (⟨a,c,by rw[bC.stop V z4 z3 C];simp[lS,bC.st,bC.uk];rfl,rfl⟩) (by rw[bC.stop V z4 z3 C];exact(au))
       . have q:¬e.do'=11:=by simpa using w
         refine cv ?_;refine cg (λl=>?_) (λl=>?_)
         . have E:e.do'=12:=by simpa using l
           refine ui ?_;refine bQ ?_;refine x5 (.inl rfl) rfl rfl rfl rfl [kx a c z.cw,a2] (⟨a,c,by rw[bC.fail V z4 z3 q E];simp[lS,bC.st,bC.dx];rfl,rfl⟩) (by rw[bC.fail V z4 z3 q E];exact(au))
         . have I:¬e.do'=12:=by simpa using l
           refine cv ?_;refine cg (λm=>?_) (λm=>?_)
           . refine bb ?_
             refine cg (λv=>?_) (λv=>?_)
             . exact UY
             . refine gg ?_
               refine L4 ?_;intro y a70 d;exfalso;omega
           . refine bB ?_
             refine cg (λR=>?_) (λR=>?_)
             . exact UY
             . refine gg ?_
               refine L4 ?_;intro y a70 d;refine fD (i+1,{p with cw:=p.cw++[e]},a70,d) (bC.jv V z4 z3 q I ae) (show r.cw.length -(i+1)<r.cw.length -i by omega) dy (by dsimp only;rw[<-US (e:=e) rfl,show(p.cw++[e]).length=p.cw.length+1 from by simp];exact(au))
 . have J:=bC.done ae
   refine dC ?_;refine x5 (.inl rfl) rfl rfl rfl rfl [kx a c z.cw,a2] (⟨a,c,by rw[J];simp[lS,bC.st,bC.dx,bC.uk];rfl,rfl⟩) (by rw[J];exact(au))
def amB(hk:q9 k)(a2:aq)(o:∀h,a2 h->lm h k)(aM:-9223372036854775808<n/\n<=9223372036854775807):ad aa 290 x2 [a2] (λu H=>∃a c,u=.agg (lS a c (kY k state tag n)).toArray/\H=[kx a c (kY k state tag n).cw,a2]):=by
 cases aj:k.states.find? x1 with
 |
  none=>
  have e:kY k state tag n=Al:=by unfold kY rowOf;rw[aj];rfl
  rw[e];exact amy k state tag n hk a2 o aM aj
 |
  some s=>
  cases h:s.rows.find? (qc tag n)with
  |
   none=>
   have e:kY k state tag n=Al:=UZ;rw[e];exact amz k state tag n hk a2 o aM s aj h
  |
   some r=>
   have e:kY k state tag n=mN n 0 r.cw Al:=UZ;rw[e];exact amA k state tag n hk a2 o aM s r aj h _ rfl
end
end Go.Proofs.YtnnhpnccfnghdaaGreat.L
namespace Go.Proofs.YtnnhpnccfnghdaaGreat.L
open Go.L Go.L.Lx Go.L.Pg
attribute[local irreducible] G cE GE cY GT b0 df c4 di Exit.then Exit.inBlock
section
variable(k:b2)(l:List Row){D:List aq}{a:Option Addr}{α:Type}{c:Nat}
def mP(r:Row):Row:={r with ea:=none,cA:=0}
def jf(s:fN):fN:={s with ra:=none,rc:=0,rows:=s.rows.map mP}
def dr:b2:={k with ca:=none,km:=0,sa:=none,sc:=0,states:=k.states.map jf}
structure Gc(r:Row):Prop where
 tag:eO r.tag.length
 len:eO (r.cw.length*80)
 cw:∀e∈r.cw,CQ e
structure L5(s:fN):Prop where
 name:eO s.name.length
 len:eO (s.rows.length*56)
 rows:∀r∈s.rows,Gc r
structure lT(k:b2):Prop where
 name:eO k.name.length
 tb:eO (k.cases.length*24)
 cases:∀c∈k.cases,eO c.reason.length
 lens:eO (k.states.length*40)
 states:∀s∈k.states,L5 s
def U0{h:eA}{k:b2}(o:lm h k):lT k:=⟨o.name,o.tb,o.cases,o.lens,λs aj=>have g:=o.states s aj;⟨g.name,g.len,λr aE=>have q:=g.rows r aE;⟨q.tag,q.len,q.cw⟩⟩⟩
def lT.F8{k:b2}(o:lT k):q9 k:=
 ⟨by
  have h1:k.cases.length*24<=140737488351232:=o.tb;omega,by
   have h1:k.states.length*40<=140737488351232:=o.lens;omega,λs aj=>by
    have h1:s.rows.length*56<=140737488351232:=(o.states s aj).len;omega,λs aj r aE=>((o.states s aj).rows r aE).len⟩
def x6{A B C:aq}{D:List aq}(f:∀h1 h2,mi h1 h2->A h1->B h2->C (join h1 h2)):∀h,Sat (A::B::D) h->Sat (C::D) h:=λh s=>by
 obtain⟨h1,q,d,rfl,a,h2,aN,t,rfl,b,s⟩:=s;obtain⟨mp,u⟩:=rR.1 d;exact⟨join h1 h2,aN,by
  intro x;rcases t x with e|e
  . rcases u x with g|g
    . exact .inl (by simp[join,g,e])
    . exact .inr g
  . exact .inr e,by rw[join_assoc],f h1 h2 mp a b,s⟩
def CR:aq:=λh=>∀r∈l,x7 h r
def um(l:List fN):aq:=λh=>∀s∈l,vS h s
def amC:∀h,Sat D h->Sat (CR []::D) h:=λh s=>Sat.head (λ_ _ r aE=>by cases aE) (x8 h s)
def amD:∀h,Sat D h->Sat (um []::D) h:=λh s=>Sat.head (λ_ _ r aE=>by cases aE) (x8 h s)
def vT{h1 h2:eA}(d:mi h1 h2){b:Nat}{o:Obj}(e:h2 b=some o):join h1 h2 b=some o:=by
 rw[join_comm d];exact join_some e
def amE{r:Row}{aH:List Row}{D:List aq}(ok:Gc r):∀h,Sat (own (.slice a r.cw.length c) 87 7 r.cw.length (r.cw.flatMap fO)::CR aH::D) h->Sat (CR (aH++[{r with ea:=a,cA:=c}])::D) h:=
 x6 λh1 h2 d o l x ah=>by
  rcases ky.1 ah with ah|ah
  . exact(l x ah).imp λb o e=>vT d e
  . simp at ah;subst ah
    exact⟨ok.tag,(iD.own o).imp λb o e=>join_some e,ok.len,ok.cw⟩
def amF{s:fN}{aH:List Row}{z:List fN}{D:List aq}(aM:eO s.name.length)(av:eO (aH.length*56)):∀h,Sat (own (.slice a aH.length c) 85 4 aH.length (aH.flatMap hs)::CR aH::um z::D) h->Sat (um (z++[⟨s.name,a,c,aH⟩])::D) h:=λh st=>
 x6 (A:=λh=>vS h ⟨s.name,a,c,aH⟩) (B:=um z) (λh1 h2 d o l x ah=>by
  rcases ky.1 ah with ah|ah
  . exact(l x ah).imp λb o e=>vT d e
  . simp at ah;subst ah;exact o.imp λb o e=>join_some e) h
  (x6 (λh1 h2 d o l=>⟨aM,(iD.own o).imp λb o e=>join_some e,av,λr aE=>(l r aE).imp λb o e=>vT d e⟩) h st)
def amG{k:b2}{cr cD:Option Addr}{c1 bn:Nat}{z:List fN}{D:List aq}(ok:lT k)(av:z.length=k.states.length):∀h,Sat (own (.slice cr k.cases.length c1) 89 2 k.cases.length (k.cases.flatMap jN)::own (.slice cD z.length bn) 82 2 z.length (z.flatMap gy)::um z::D) h->Sat (gO Gd::D) h:=λh st=>
 x6 (B:=λh=>iD h cD bn z.length (z.flatMap gy)/\um z h) (λh1 h2 d o l=>⟨ok.name,(iD.own o).imp λb o e=>join_some e,ok.tb,ok.cases,l.1.imp λb o e=>vT d e,by rw[av];exact ok.lens,λs aj=>(l.2 s aj).imp λb o e=>vT d e⟩) h
  (Sat.tail (λh s=>x6 (λh1 h2 d o l=>⟨(iD.own o).imp λb o e=>join_some e,λs aj=>(l s aj).imp λb o e=>vT d e⟩) h s) st)
def U1(f:α->List Value)(aY:Nat)(ba:∀x,(f x).length=aY){l:List α}{k j:Nat}{y m:α}{x:Value}(ag:l[k]?=some y)(N:j<aY)(V:(f y).set j x=f m):(l.flatMap f).set (k*aY+j) x=(l.set k m).flatMap f:=by
 obtain⟨hk,e⟩:=dc.1 ag;have ay:l=l.take k++y::l.drop (k+1):=by rw[<-e,List.getElem_cons_drop,CS]
 have dV:((l.take k).flatMap f).length=k*aY:=U2;have aV:l.flatMap f=(l.take k).flatMap f++(f y++(l.drop (k+1)).flatMap f):=by
  conv=>lhs;rw[ay]
  rw[re,pG]
 rw[aV,<-dV,U3 _ _ ae,Ge,Gf _ _ (by rw[ba];exact N),V,amH,bd hk,re,pG]
def Gg{l z:List α}{i:Nat}{s:α}(av:z.length=i)(h:l[i]?=some s):(z++l.drop i)[i]?=some s:=by
 rw[pH ae,av,x9,L6];exact h
def U4{l z:List α}{i:Nat}{s s1:α}(av:z.length=i)(h:l[i]?=some s):(z++l.drop i).set i s1=z++s1::l.drop (i+1):=by
 obtain⟨ak,_⟩:=dc.1 h;rw[U3 _ _ ae,av,x9,ta ak,List.set_cons_zero]
def amI{l z:List α}{i:Nat}{s1:α}(av:z.length=i):(z++s1::l)[i]?=some s1:=by
 rw[pH ae,av,x9];rfl
def amJ(l:List mj):(l.flatMap jN).all Value.oneCell'=true:=by
 rw[qd];intro x ah;obtain⟨e,_,V⟩:=CM.1 ah;simp only[jN,ku,Ai,or_false]at V;rcases V with rfl|rfl<;>rfl
def amK(l:List fN):(l.flatMap gy).all Value.oneCell'=true:=by
 rw[qd];intro x ah;obtain⟨e,_,V⟩:=CM.1 ah;simp only[gy,ku,Ai,or_false]at V;rcases V with rfl|rfl<;>rfl
def row_one:(l.flatMap hs).all Value.oneCell'=true:=by
 rw[qd];intro x ah;obtain⟨e,_,V⟩:=CM.1 ah;simp only[hs,ku,Ai,or_false]at V;rcases V with rfl|rfl|rfl|rfl<;>rfl
structure rS{α:Type}(b:α->α)(l z:List α)(i:Nat):Prop where
 s9:i<=l.length
 len:z.length=i
 eq:z.map b=(l.take i).map b
def rS.start{b:α->α}(l:List α):rS b l [] 0:=⟨eX _,rfl,rfl⟩
def rS.next{b:α->α}{l z:List α}{i:Nat}{s s1:α}(h:rS b l z i)(aj:l[i]?=some s)(e:b s1=b s):rS b l (z++[s1]) (i+1):=by
 obtain⟨ak,rfl⟩:=dc.1 aj;exact⟨ak,by simp[h.len],by rw[nv ak,o1,o1,h.eq];simp[e]⟩
def amL(ok:lT k)(a2:aq)(o:∀h,a2 h->lm h k):ad aa 102 [.agg (eK k).toArray] [a2] (λu H=>∃V,dr V=dr k/\u=.agg (eK V).toArray/\H=[gO V,a2]):=by
 refine aw Tryz.func102 λF D=>?_;haveI:=amn o;haveI:=F7 o;have T:=ok.F8;have p:k.cases.length*24<=140737488351232:=ok.tb;have t:k.states.length*40<=140737488351232:=ok.lens;refine bb ?_;refine wn λar=>?_;refine wn λU=>?_;refine bi ?_;refine ci rfl (b1 rfl (amM k.ca k.km k.cases.length (k.cases.flatMap jN) (a2) (k0 jN 2 Am _) (amJ _) ae) bF) ?_;rintro _ D ⟨_,⟨cr,c1,rfl,rfl⟩,rfl⟩;refine fm ?_;refine bQ ?_;refine ci rfl (b1 rfl (amN k.sa k.sc k.states.length (k.states.flatMap gy) (a2) (k0 gy 2 rf _) (amK _) ae) bF) ?_;rintro _ D ⟨_,⟨cD,bn,rfl,rfl⟩,rfl⟩;refine CT ?_;refine nu amD ?_;refine bQ ?_;refine gG (bv:=Nat×List fN) (λe=>rS jf k.states e.2 e.1) (λe=>((17,af e.1)::U5)) (λe=>ab ar 78 U6::own (.slice cr k.cases.length c1) 89 2 k.cases.length vQ::own Gh 82 2 k.states.length ((e.2++k.states.drop e.1).flatMap gy)::um e.2::a2::ab U 78 [S [],af 0,af 0,.slice none 0 0,.slice none 0 0]::D) (λe=>k.states.length -e.1) (0,[]) (rS.start _) dy (au) ?_;rintro⟨i,z⟩ bC;replace bC:rS jf k.states z i:=bC;have B:=bC.s9;dsimp only;refine bi ?_;refine cg (λW=>?_) (λW=>?_)
 . obtain⟨s,l⟩:∃s,k.states[i]?=some s:=⟨_,cz (show i<k.states.length by omega)⟩
   have b:s∈k.states:=js l;haveI:=L1 o b;have y:s.rows.length*56<=140737488351232:=(ok.states s b).len;have n6:i*2+1<((z++k.states.drop i).flatMap gy).length:=(by rw[k0 gy 2 rf,eL,vU,bC.len];omega);refine eJ ?_;refine aB rfl (fI rfl rfl (show i<k.states.length by omega)) ?_;refine cv ?_;refine aB rfl (gz rfl (rT gy 2 rf (Gg bC.len l) rfl)) ?_;refine ci rfl (b1 rfl (amO s.ra s.rc s.rows.length (s.rows.flatMap hs) (a2) (k0 hs 4 uj _) (row_one _) ae) bF) ?_;rintro _ D ⟨_,⟨a3,b9,rfl,rfl⟩,rfl⟩;refine Gi ?_;refine kb (rU rfl rfl rfl n6) ?_;refine b6 ?_;rw[U1 (m:=(⟨s.name,a3,b9,s.rows⟩:fN)) gy 2 rf (Gg bC.len l) bJ rfl,U4 bC.len l];have q:(z++(Gj:fN)::k.states.drop (i+1))[i]?=some (Gj:fN):=amI bC.len;refine nu amC ?_;refine bK ?_;refine aB rfl L7 ?_;refine bB ?_;refine gG (bv:=Nat×List Row) (λe=>rS mP s.rows e.2 e.1) (λe=>((37,af e.1)::(36,af s.rows.length)::(4,el Gh (i*2))::(17,af i)::U5)) (λe=>ab ar 78 U6::own (.slice cr k.cases.length c1) 89 2 k.cases.length vQ::own Gh 82 2 k.states.length U7::own (.slice a3 s.rows.length b9) 85 4 s.rows.length ((e.2++s.rows.drop e.1).flatMap hs)::CR e.2::um z::a2::ab U 78 [S [],af 0,af 0,.slice none 0 0,.slice none 0 0]::D) (λe=>s.rows.length -e.1) (0,[]) (rS.start _) dy (au) ?_;rintro⟨j,aH⟩ d;replace d:rS mP s.rows aH j:=d;have v:=d.s9;dsimp only;refine bi ?_;refine cg (λM=>?_) (λM=>?_)
   . obtain⟨r,f⟩:∃r,s.rows[j]?=some r:=⟨_,cz (show j<s.rows.length by omega)⟩
     have g:r∈s.rows:=js f;haveI:=UG o b g;have Y:r.cw.length*80<=140737488351232:=((ok.states s b).rows r g).len;have m7:j*4+3<((aH++s.rows.drop j).flatMap hs).length:=(by rw[k0 hs 4 uj,eL,vU,d.len];omega);refine c8 ?_;refine cu [13] [105,8,201,2,201] [own Gh 82 2 k.states.length U7,own (.slice a3 s.rows.length b9) 85 4 s.rows.length ((aH++s.rows.drop j).flatMap hs),a2] ?_;refine b6 ?_;refine go_vs rfl .none rfl L7 (au) ?_;refine bK ?_;refine go_v rfl .none rfl L7 ?_;refine aG ?_;refine go_v rfl .none rfl (fI rfl rfl (show j<s.rows.length by omega)) ?_;refine aG ?_;refine go_v rfl .none rfl (gz rfl (rT hs 4 uj (Gg d.len f) rfl)) ?_;refine go_c rfl .none rfl (b1 rfl (UP r.ea r.cA r.cw.length (r.cw.flatMap fO) (a2) (k0 fO 7 x3 _) (UH _) ae) bF) ?_;rintro _ D ⟨_,⟨a4,d5,rfl,rfl⟩,rfl⟩;refine rV ?_;refine go_v rfl .none rfl (fI rfl rfl (show j<s.rows.length by omega)) ?_;refine aG ?_;refine go_u rfl .none (rU rfl rfl rfl m7) An ?_;refine bK ?_;refine L8 ?_;refine bb ?_;rw[U1 (m:=({r with ea:=a4,cA:=d5}:Row)) hs 4 uj (Gg d.len f) bJ rfl,U4 d.len f];refine fD (j+1,aH++[({r with ea:=a4,cA:=d5}:Row)]) (d.next f rfl) (show s.rows.length -(j+1)<s.rows.length -j by omega) dy (by dsimp only;rw[jE,U8];exact λh st=>((au)) h (amE (r:=r) (a:=a4) (c:=d5) (aH:=aH) (D:=ab ar 78 [S k.name,af k.limit,af k.within,.slice cr k.cases.length c1,.slice cD k.states.length bn]::own (.slice cr k.cases.length c1) 89 2 k.cases.length (k.cases.flatMap jN)::own (.slice cD k.states.length bn) 82 2 k.states.length ((z++(⟨s.name,a3,b9,s.rows⟩:fN)::k.states.drop (i+1)).flatMap gy)::own (.slice a3 s.rows.length b9) 85 4 s.rows.length ((aH++({r with ea:=a4,cA:=d5}:Row)::s.rows.drop (j+1)).flatMap hs)::um z::a2::ab U 78 [S [],af 0,af 0,.slice none 0 0,.slice none 0 0]::D) ((ok.states s b).rows r g) h (((au)) h st)))
   . obtain rfl:j=s.rows.length:=by omega
     refine cq ?_;refine vR ?_;rw[U9,jr];have n:=d.len;have ay:(z++(Gj:fN)::k.states.drop (i+1)).flatMap gy=((z++[(⟨s.name,a3,b9,aH⟩:fN)])++k.states.drop (i+1)).flatMap gy:=(by rw[jE,U8,re,re,pG,pG];simp[gy,n]);have aV:own (.slice a3 s.rows.length b9) 85 4 s.rows.length (aH.flatMap hs)=own (.slice a3 aH.length b9) 85 4 aH.length (aH.flatMap hs):=(by rw[n]);have bz:jf (⟨s.name,a3,b9,aH⟩:fN)=jf s:=(by have:=d.eq;rw[nw]at this;simp[jf,this]);have dh:eO (aH.length*56):=(by rw[n];exact y);refine fD (i+1,z++[(⟨s.name,a3,b9,aH⟩:fN)]) (bC.next l bz) (show k.states.length -(i+1)<k.states.length -i by omega) dy (by dsimp only;rw[aV,ay];exact λh st=>((au)) h (amF (s:=s) (a:=a3) (c:=b9) (aH:=aH) (z:=z) (D:=ab ar 78 [S k.name,af k.limit,af k.within,.slice cr k.cases.length c1,.slice cD k.states.length bn]::own (.slice cr k.cases.length c1) 89 2 k.cases.length (k.cases.flatMap jN)::own (.slice cD k.states.length bn) 82 2 k.states.length (((z++[(⟨s.name,a3,b9,aH⟩:fN)])++k.states.drop (i+1)).flatMap gy)::a2::ab U 78 [S [],af 0,af 0,.slice none 0 0,.slice none 0 0]::D) (ok.states s b).name dh h (((au)) h st)))
 . obtain rfl:i=k.states.length:=by omega
   refine dC ?_;refine x5 (.inl rfl) rfl rfl rfl rfl [gO (Gd:b2),a2] (⟨(Gd:b2),by have:=bC.eq;rw[nw]at this;simp[dr,this],by show _=Value.agg (eK (Gd:b2)).toArray;simp only[eK,bC.len];rfl,rfl⟩) (by rw[U9,jr];have g0:=bC.len;exact λh st=>amG (k:=k) (cr:=cr) (cD:=cD) (c1:=c1) (bn:=bn) (z:=z) (D:=a2::D) ok g0 h (by rw[g0];exact(au) h st))
def Va(K:List b2)(a:Option Addr)(c:Nat)(name:cC)(k:b2)(cO:K.length<=4611686018427387904)(ok:lT k)(ba:K.find? (λx=>decide (x.name=name))=some k)(a2:aq)(o:∀h,a2 h->Pg.hT h a c K):ad aa 58 [.agg #[.slice a K.length c],S name] [a2] (λu H=>∃V,dr V=dr k/\u=.tuple #[.agg (eK V).toArray,.bool true]/\H=[gO V,a2]):=by
 refine aw Tryz.func58 λF D=>?_;haveI:gl (.slice a K.length c) a2 K.length (K.flatMap eK):=⟨λh=>(o _ h).rd.1⟩;have hu:k∈K:=rb ba;obtain⟨i,d,i7,B⟩:=CO ba;refine nY ?_;intro U Z;refine wn λaO=>?_;refine bQ ?_;refine aT (amP K a c 101 [ptr Z 0] [a2,ab Z 9 [S name]] (λx=>decide (x.name=name)) cO (λh s=>iW.get s) (λx _=>ya (amr Z name x))) ?_;rw[d];refine cq ?_;refine cP ?_;refine c8 ?_;refine aB rfl (fI rfl rfl B) ?_;refine L9 ?_;refine br (amL k ok a2 (λh m=>(o h m).kinds k hu)) ?_;rintro _ _ ⟨V,b,rfl,rfl⟩;refine et ?_;refine bB ?_;exact L0 (.inl rfl) rfl rfl rfl rfl rfl [gO V,a2] ⟨V,b,rfl,rfl⟩ (au)
end
end Go.Proofs.YtnnhpnccfnghdaaGreat.L
namespace Go.Proofs.YtnnhpnccfnghdaaGreat.L.Po
open Go.Proofs.YtnnhpnccfnghdaaGreat.L
open Go.L Go.L.Ring Go.L.dq
attribute[local irreducible] G cE GE cY GT b0 df c4 di Exit.then Exit.inBlock
abbrev atA(bo:Nat):oG:=⟨306,[ptr bo 0]⟩
instance:Coe Nat oG:=⟨atA⟩
abbrev atB(bo m b gP lM:Nat):aq:=ab bo 223 [ptr m 0,af b,ptr gP 0,ptr lM 0]
structure nn where
 bo:Nat
 m:Nat
 gP:Nat
 lM:Nat
def nn.r(X:nn):Bool->Nat
 |true=>X.lM
 |false=>X.gP
section
variable(X:nn)(R:Bool)(B:jn)(p:Nat)(V:gw)
abbrev e9:aq:=atB X.bo X.m B.b (X.r false) (X.r true)
def om:Bool->List Int
 |true=>[0,3]
 |false=>[0]
def qH:Bool->Nat
 |true=>2
 |false=>1
def atC:(om R).length=qH R:=by cases R<;>rfl
def atD(s:Int):xt R s=decide (s∈om R):=by
 cases R<;>simp[xt,om]
abbrev u9(J:Nat):Value:=.slice (some ⟨J,0,none⟩) (qH R) (qH R)
abbrev qI(held r:Bool)(E:Nat):Value:=match r with
 |
  true=>(match held with
   |true=>.slice (some ⟨E,0,none⟩) 1 2
   |false=>.slice (some ⟨E,0,none⟩) 2 2)
 |false=>.slice (some ⟨E,1,none⟩) 1 1
def jU:vq->aq
 |.put R o=>dj (bv:=Nat×Nat×Nat×Nat×Nat) (λ_=>True) (λe=>[cU p (yk e.1) (bj 264 [ptr e.2.1 0,ptr e.2.2.1 0,ptr e.2.2.2.1 0]) 0 0 X.bo,iY e.1 (X.r R) o,ab e.2.1 326 [ptr e.1 0],ab e.2.2.1 246 [ptr p 0],ab e.2.2.2.1 49 [u9 R e.2.2.2.2],ab e.2.2.2.2 36 ((om R).map bw)])
 |.qJ R=>dj (bv:=Nat×Nat×Nat×Nat×Nat) (λ_=>True) (λe=>[cU p (mm e.1) (bj 318 [ptr e.2.2.2.1 0,ptr e.2.1 0,ptr e.2.2.1 0]) 0 0 X.bo,tn e.1 X.m B.b,ab e.2.1 314 [ptr e.1 0],ab e.2.2.1 246 [ptr p 0],ab e.2.2.2.1 49 [u9 R e.2.2.2.2],ab e.2.2.2.2 36 ((om R).map bw)])
 |.swp R s=>dj (bv:=Nat×Nat×Nat×Nat×Nat) (λ_=>True) (λe=>[cU p (mm e.1) (bj 319 [ptr e.2.1 0,ptr e.2.2.1 0,ptr e.2.2.2.1 0]) 0 0 X.bo,vr e.1 X.m B.b s 1,ab e.2.1 314 [ptr e.1 0],ab e.2.2.1 246 [ptr p 0],ab e.2.2.2.1 49 [u9 R e.2.2.2.2],ab e.2.2.2.2 36 ((om R).map bw)])
 |.ask v=>dj (bv:=Nat×Nat×Nat×Nat×Nat) (λ_=>True) (λe=>[cU p (mm e.1) (bj 216 [ptr e.2.1 0,ptr e.2.2.1 0,ptr e.2.2.2.1 0,ptr e.2.2.2.2 0]) 0 0 X.bo,vr e.1 X.m (B.b+1) 0 1,ab e.2.1 314 [ptr e.1 0],ab e.2.2.1 246 [ptr p 0],ab e.2.2.2.1 116 [ptr X.bo 0],ab e.2.2.2.2 36 [bw v]])
 |.set st=>dj (bv:=Nat×Nat) (λ_=>True) (λe=>[cU p (mm e.1) (bj 229 [ptr e.2 0]) 0 0 X.bo,uy e.1 X.m B.b st,ab e.2 246 [ptr p 0]])
 |.of r o=>dj (bv:=Nat×Nat×Nat) (λ_=>True) (λe=>[cU p (yk e.1) (bj 283 [ptr e.2.1 0,ptr e.2.2 0]) 0 0 X.bo,iY e.1 (X.r r) o,ab e.2.1 246 [ptr p 0],ab e.2.2 326 [ptr e.1 0]])
 |.gone=>dj (bv:=Nat×Nat×Nat) (λ_=>True) (λe=>[cU p (mm e.1) (bj 428 [ptr e.2.1 0,ptr e.2.2 0]) 0 0 X.bo,tn e.1 X.m B.b,ab e.2.1 314 [ptr e.1 0],ab e.2.2 246 [ptr p 0]])
 |.xu held=>dj (bv:=Nat×Nat×Nat×Nat×Nat) (λ_=>True) (λe=>[cU p (mm e.1) (bj 337 [ptr e.2.1 0,ptr e.2.2.1 0,ptr e.2.2.2.1 0]) 0 0 X.bo,uy e.1 X.m B.b (iK held),ab e.2.1 246 [ptr p 0],ab e.2.2.1 36 [bw (iK held)],ab e.2.2.2.1 380 [qI held true e.2.2.2.2],ab e.2.2.2.2 213 [ptr (X.r true) 0,ptr (X.r false) 0]])
 |.look held r o=>dj (bv:=Nat×Nat×Nat×Nat×Nat×Nat) (λ_=>True) (λe=>[cU p (yk e.1) (bj 383 [ptr e.2.1 0,ptr e.2.2.1 0,ptr e.2.2.2.1 0,ptr e.2.2.2.2.1 0]) 0 0 X.bo,iY e.1 (X.r r) o,ab e.2.1 326 [ptr e.1 0],ab e.2.2.1 246 [ptr p 0],ab e.2.2.2.1 36 [bw (iK held)],ab e.2.2.2.2.1 380 [qI held r e.2.2.2.2.2],ab e.2.2.2.2.2 213 [ptr (X.r true) 0,ptr (X.r false) 0]])
 |.more held=>dj (bv:=Nat×Nat×Nat) (λ_=>True) (λe=>[cU p (mm e.1) (bj 384 [ptr e.2.1 0,ptr e.2.2 0]) 0 0 X.bo,vr e.1 X.m B.b (iK held) 1,ab e.2.1 314 [ptr e.1 0],ab e.2.2 246 [ptr p 0]])
def EX(out val:Int):aq:=dj (bv:=Value×Value) (λ_=>True) (λe=>[cU p e.1 e.2 out val X.bo])
def fY:aq:=if V.out=0 then jU X B p V.ph else EX X p V.out V.val
def sw{X:nn}{B:jn}{p:Nat}{ph:vq}{v:Int}{M D:List aq}(h:∀h,Sat M h->Sat (jU X B p ph::D) h):∀h,Sat M h->Sat (fY X B p ⟨ph,0,v⟩::D) h:=by
 unfold fY;rw[bd rfl];exact h
def EB{X:nn}{B:jn}{p:Nat}{ph:vq}{out v:Int}{M D:List aq}(aK:out≠0)(x y:Value)(h:∀h,Sat M h->Sat (cU p x y out v X.bo::D) h):∀h,Sat M h->Sat (fY X B p ⟨ph,out,v⟩::D) h:=by
 unfold fY;rw[a8 aK];exact cF (x,y) trivial h
def pw:ad aa 254 [ptr p 0] BQ (aH (.bool V.over) BQ):=by
 obtain⟨ph,out,val⟩:=V;by_cases aK:out=0
 . subst aK
   have e:fY X B p uJ=jU X B p ph:=Is;rw[e];cases ph<;>exact kz (λx _=>kd (ts p X.bo _ _ 0 0) nA tr)
 . have e:fY X B p pa=EX X p out val:=by unfold fY;rw[a8 aK]
   rw[e];exact kz (λx _=>kd (ts p X.bo _ _ out val) nA tr)
end
section
variable{R:Bool}{i:Nat}{s:Int}
def atE(h:i<(om R).length)(e:(om R).getD i 0=s):xt R s=true:=by
 rw[atD];refine kM ?_;rw[<-e,ix,cz h];exact vn _
def atF(h:i=qH R)(e:∀j,j<i->(om R).getD j 0≠s):xt R s=false:=by
 subst h;cases R
 . have:=e 0 bJ;simp[om]at this;simp[xt];omega
 . have:=e 0 bJ;have h2:=e 1 bJ;simp[om]at this h2;simp[xt];omega
end
section
variable(X:nn)(B:jn)(p:Nat)(x y:Value)(R:Bool)(J q z ge b9 d5 d9 E aC Z:Nat)(v s:Int)(eR fK:Bool)(o:fo)
def aim:ad aa 265 [ptr p 0,u9 R J] (cU p x y 0 0 X.bo::Qd) (aH eu [jU X B p (.qJ R),e9 X B]):=by
 refine aw Tryz.func265 λF D=>?_;refine nY ?_;intro U Z;refine b6 ?_;refine il [14,15,16] [15] [1,5,9,13,17,21,25,29,33,37,41,45,49,53,58,62,66,3,3,3,62,58,66] [cU p x y 0 0 X.bo,e9 X B,ab U 246 [ptr p 0]] ?_;refine fW ?_;refine fe ?_ ?_
 . refine br (J4 X.m B.b) ?_
   refine R8 ?_;intro z aO;exact aef
 . refine wn λaO=>?_
   refine aG ?_;refine br (J4 X.m B.b) ?_;refine R3 ?_;intro z;exact aef
def atG:ad aa 319 [ptr d9 0,ptr aC 0,ptr Z 0] (cU p x y 0 0 X.bo::qk z 0 fK::ab d9 314 [ptr z 0]::acd) (aH eu [fY X B p (if fK then⟨.swp R s,7,0⟩else EG),e9 X B]):=by
 refine aw Tryz.func319 λF D=>?_;refine yo ?_;intro f;refine cv ?_;refine cg (λW=>?_) (λW=>?_)
 . subst W
   refine bB ?_;refine aT (mq p X.bo x y 0 0 7 0) ?_;exact Rh
 . subst W
   refine bB ?_;refine aT (aim X B p x y R J) ?_;exact Rg
def atH(cs aC:Nat)(s:Int)(fK:Bool):ad aa 318 [ptr Z 0,ptr cs 0,ptr aC 0] (cU p x y 0 0 X.bo::qk z s fK::ab Z 49 [u9 R J]::ab cs 314 [ptr z 0]::ab aC 246 [ptr p 0]::Qd) (aH eu [fY X B p (if xt R s then⟨.swp R s,0,0⟩else⟨.qJ R,1,0⟩),e9 X B]):=by
 refine aw Tryz.func318 λF D=>?_;refine yo ?_;intro f;have T:=atC R;have O:qH R<=2:=by cases R<;>decide
 refine cv ?_;refine gG (λi=>i<=qH R/\∀j,j<i->(om R).getD j 0≠s) (λi=>[(8,af i),(7,af (qH R:Nat)),(6,u9 R J),(2,ptr aC 0),(1,ptr cs 0),(0,ptr Z 0)]) (λi=>o7 z f true s fK::cU p x y 0 0 X.bo::ab Z 49 [u9 R J]::ab cs 314 [ptr z 0]::ab aC 246 [ptr p 0]::ab J 36 ((om R).map bw)::e9 X B::D) (λi=>qH R -i) 0 (⟨eX _,λj N=>absurd N (KH _)⟩) dy (au) ?_;rintro i ⟨ak,hw⟩;have ak:i<=qH R:=ak;refine bi ?_;refine cg (λW=>?_) (λW=>?_)
 . have dV:i<qH R:=by omega
   refine cq ?_;refine aB rfl (gz rfl (Aq (d:=0) ae)) ?_;refine bb ?_
   generalize ag:(om R).getD i 0=y
   refine c0 ?_;refine cg (λM=>?_) (λM=>?_)
   . obtain rfl:s=y:=M
     have g9:=atE (show i<(om R).length by omega) ag;refine aG ?_;refine il [15,16,17] [16] Qa [cU p x y 0 0 X.bo,e9 X B,ab aC 246 [ptr p 0]] ?_;refine eJ ?_;refine fe ?_ ?_
     . refine br (xo X.m B.b s 1) ?_
       rintro _ _ ⟨a,rfl,rfl⟩;refine et ?_;refine aG ?_;refine wn λaU=>?_;exact ags
     . refine wn λaU=>?_
       refine aG ?_;refine br (xo X.m B.b s 1) ?_;rintro _ _ ⟨a,rfl,rfl⟩;refine et ?_;exact ags
   . refine bK ?_
     refine aB rfl (fk ((i+1:Nat):Int) eZ rfl rfl) ?_;refine bb ?_;refine fD (i+1) ⟨by omega,λj N=>by rcases Nat.lt_succ_iff_lt_or_eq.1 N with h|h;exact hw j h;subst h;rw[ag];exact λh=>M h.symm⟩ (by show qH R -(i+1)<qH R -i;omega) dy (au)
 . have b:i=qH R:=by omega
   refine cv ?_;refine aT (mq p X.bo x y 0 0 1 0) ?_;refine bb ?_;exact aX (H:=[fY X B p ⟨.qJ R,1,0⟩,e9 X B]) ⟨rfl,by rw[atF b hw];rfl⟩ EA
def Ss:ad aa 217 [ptr p 0,ptr (X.r R) 0,bw v,u9 R J] [cU p x y 0 0 X.bo,ab J 36 ((om R).map bw)] (aH eu [jU X B p (.put R (gU 0 v))]):=by
 refine aw Tryz.func217 λF D=>?_;refine bb ?_;refine wn λaO=>?_;refine wn λbY=>?_;refine bi ?_;refine br (Wo (X.r R) v) ?_;refine ny ?_;intro q;refine wn λY=>?_;refine ae8 ?_;refine aT (AI p q (X.r R) X.bo x y _ rfl 0 0 (gU 0 v) rfl) ?_;refine b6 ?_;exact aX ⟨rfl,rfl⟩ (cF (q,Y,aO,bY,J) trivial (au))
def ain(c aC Z:Nat)(o:fo)(aK:o.out≠0):ad aa 264 [ptr c 0,ptr aC 0,ptr Z 0] (cU p x y 0 0 X.bo::iY q (X.r R) o::ab c 326 [ptr q 0]::acd) (aH eu [fY X B p (if o.out=1 then EG else⟨.put R o,o.out,0⟩),e9 X B]):=by
 refine aw Tryz.func264 λF D=>?_;refine bK ?_;refine aT (uz q (X.r R) o) ?_;refine b6 ?_;refine cg (λW=>?_) (λW=>?_)
 . refine aG ?_
   refine cu [4] [103,1,202] [ab aC 246 [ptr p 0],ab c 326 [ptr q 0]] ?_;refine bK ?_;refine aT (uz q (X.r R) o) ?_;refine aG ?_;refine aT (mq p X.bo x y 0 0 o.out 0) ?_;refine bi ?_;exact aX (H:=[fY X B p ⟨.put R o,o.out,0⟩,e9 X B]) Ex (EB aK x y (au))
 . refine bB ?_
   refine aT (aim X B p x y R J) ?_;refine bb ?_;exact aX (H:=[fY X B p ⟨.qJ R,0,0⟩,e9 X B]) ⟨rfl,by rw[bd W]⟩ (sw (au))
def atI:ad aa 209 [ptr X.bo 0,bw v] [e9 X B] (λu H=>∃p,u=ptr p 0/\H=[jU X B p (.put false (gU 0 v)),e9 X B]):=by
 refine aw Tryz.func209 λF D=>?_;refine cv ?_;refine wn λY=>?_;refine c0 ?_;refine wn λd=>?_;refine aT (Ss X B Y _ _ false d v) ?_;refine c8 ?_;exact aX ⟨Y,rfl,rfl⟩
def atJ:ad aa 355 [ptr X.bo 0,bw v] [e9 X B] (λu H=>∃p,u=ptr p 0/\H=[jU X B p (.put true (gU 0 v)),e9 X B]):=by
 refine aw Tryz.func355 λF D=>?_;refine cv ?_;refine wn λY=>?_;refine c0 ?_;refine wn λd=>?_;refine aT (Ss X B Y _ _ true d v) ?_;refine c8 ?_;exact aX ⟨Y,rfl,rfl⟩
def atK(bn b9:Nat)(v:Int)(fK:Bool):ad aa 216 [ptr ge 0,ptr d9 0,ptr bn 0,ptr b9 0] (cU p x y 0 0 X.bo::qk z 0 fK::ab ge 314 [ptr z 0]::acy) (aH eu [fY X B p (if fK then Q2 else⟨.ask v,4,0⟩),e9 X B]):=by
 refine aw Tryz.func216 λF D=>?_;refine yo ?_;intro f;refine c8 ?_;refine cg (λW=>?_) (λW=>?_)
 . subst W
   refine bB ?_;refine aT (mq p X.bo x y 0 0 4 0) ?_;exact Rh
 . subst W
   refine bb ?_;refine cu [6] [106,202] acy ?_;refine bi ?_;refine wn λa=>?_;refine aG ?_;refine aT (Ss X B p x y true a v) ?_;refine b6 ?_;exact aX ⟨rfl,rfl⟩ (sw (au))
def atL(cb:B.b<=65536)(v:Int):ad aa 165 [ptr X.bo 0,bw v] [e9 X B] (λu H=>∃p,u=ptr p 0/\H=[jU X B p (.ask v),e9 X B]):=by
 refine aw Tryz.func165 λF D=>?_;refine nY ?_;intro U Z;refine cq ?_;refine wn λco=>?_;refine wn λaU=>?_;refine bK ?_;refine il [9,10,11] [10] I3 [e9 X B,ab U 116 tK] ?_;refine bQ ?_;refine jF rfl .none rfl (fk ((B.b+1:Nat):Int) eZ rfl rfl) (au) ?_;refine fe ?_ ?_
 . refine br (xo X.m (B.b+1) 0 1) ?_
   rintro _ _ ⟨z,rfl,rfl⟩;refine et ?_;refine aG ?_;refine wn λaS=>?_;exact agn
 . refine wn λaS=>?_
   refine aG ?_;refine br (xo X.m (B.b+1) 0 1) ?_;rintro _ _ ⟨z,rfl,rfl⟩;refine et ?_;exact agn
def atM(z d9:Nat)(st:Int):ad aa 229 [ptr d9 0] [cU p x y 0 0 X.bo,ab d9 246 [ptr p 0]] (aH eu [fY X B p ⟨.set st,1,0⟩]):=by
 refine aw Tryz.func229 λF D=>?_;refine bK ?_;exact ad9
def St:ad aa 193 [ptr X.bo 0,bw v] [e9 X B] (λu H=>∃p,u=ptr p 0/\H=[jU X B p (.set v),e9 X B]):=by
 refine aw Tryz.func193 λF D=>?_;refine cv ?_;refine wn λY=>?_;refine wn λaU=>?_;refine bK ?_;refine hU [12,15] [12] PM [e9 X B,ab aU 246 [ptr Y 0]] mixed gB ?_;refine fr ?_;refine br (GM X.m B.b v) ?_;refine GN ?_;intro z;refine aT (GO Y z X.bo X.m B.b v _ _ _ rfl 0 0) ?_;refine c0 ?_;exact aX ⟨Y,rfl,rfl⟩ (cF (z,aU) trivial (au))
def atN:ad aa 137 tK [e9 X B] (λu H=>∃p,u=ptr p 0/\H=[jU X B p (.set 2),e9 X B]):=by
 refine aw Tryz.func137 λF D=>?_;refine bQ ?_;refine br (St X B 2) ?_;exact rn
def atO:ad aa 233 tK [e9 X B] (λu H=>∃p,u=ptr p 0/\H=[jU X B p (.set 1),e9 X B]):=by
 refine aw Tryz.func233 λF D=>?_;refine bQ ?_;refine br (St X B 1) ?_;exact rn
def atP:ad aa 362 tK [e9 X B] (λu H=>∃p,u=ptr p 0/\H=[jU X B p (.set 4),e9 X B]):=by
 refine aw Tryz.func362 λF D=>?_;refine bQ ?_;refine br (St X B 4) ?_;exact rn
def aio(r d9 b9:Nat)(eR:Bool)(o:fo)(aK:o.out≠0):ad aa 283 [ptr d9 0,ptr b9 0] [cU p x y 0 0 X.bo,iY q r o,ab d9 246 [ptr p 0],ab b9 326 [ptr q 0]] (aH eu [fY X B p ⟨.of eR o,o.out,o.value⟩]):=by
 refine aw Tryz.func283 λF D=>?_;refine hU [4,6,7] [4,6] [(0,.bI),(1,.bI),(2,.bI),(3,.loc),(5,.bI),(4,.c5),(6,.c5),(7,.c5)] [ab d9 246 [ptr p 0],ab b9 326 [ptr q 0]] mixed gB ?_;refine bB ?_;refine aT (uz q r o) ?_;refine aG ?_;refine aT (MH q r o) ?_;refine aG ?_;refine aT (mq p X.bo x y 0 0 o.out o.value) ?_;refine b6 ?_;exact aX ⟨rfl,rfl⟩ (EB aK x y (au))
def KI(aK:o.over=false):ad aa 230 [ptr X.bo 0,ptr q 0] [e9 X B,iY q (X.r eR) o] (λu H=>∃p,u=ptr p 0/\H=[jU X B p (.of eR o),e9 X B]):=by
 refine aw Tryz.func230 λF D=>?_;refine bb ?_;refine wn λZ=>?_;refine cq ?_;refine wn λY=>?_;refine wn λaU=>?_;refine bK ?_;refine aeH ?_;refine aT (AI Y q (X.r eR) X.bo _ _ _ rfl 0 0 o aK) ?_;refine c0 ?_;exact aX ⟨Y,rfl,rfl⟩ (cF (q,aU,Z) trivial (au))
def atQ:ad aa 239 tK [e9 X B] (λu H=>∃p,u=ptr p 0/\H=[jU X B p (.of false (gU 5 0)),e9 X B]):=by
 refine aw Tryz.func239 λF D=>?_;refine dC ?_;refine br (MF (X.r false)) ?_;refine ny ?_;intro q;refine br (KI X B q false (gU 5 0) rfl) ?_;exact rn
def atS:ad aa 194 tK [e9 X B] (λu H=>∃p,u=ptr p 0/\H=[jU X B p (.of true (gU 5 0)),e9 X B]):=by
 refine aw Tryz.func194 λF D=>?_;refine dC ?_;refine br (MF (X.r true)) ?_;refine ny ?_;intro q;refine br (KI X B q true (gU 5 0) rfl) ?_;exact rn
def atT:ad aa 358 tK [e9 X B] (λu H=>∃p,u=ptr p 0/\H=[jU X B p (.of false (gU 14 0)),e9 X B]):=by
 refine aw Tryz.func358 λF D=>?_;refine dC ?_;refine br (atU (X.r false)) ?_;refine ny ?_;intro q;refine br (KI X B q false (gU 14 0) rfl) ?_;exact rn
def atV:ad aa 400 tK [e9 X B] (λu H=>∃p,u=ptr p 0/\H=[jU X B p (.of false (gU 10 0)),e9 X B]):=by
 refine aw Tryz.func400 λF D=>?_;refine dC ?_;refine br (atW (X.r false)) ?_;refine ny ?_;intro q;refine br (KI X B q false (gU 10 0) rfl) ?_;exact rn
def atX(b9:Nat)(s:Int)(fK:Bool):ad aa 428 [ptr d5 0,ptr b9 0] [cU p x y 0 0 X.bo,qk z s fK,ab d5 314 [ptr z 0],ab b9 246 [ptr p 0]] (aH eu [fY X B p ⟨.gone,if s=4 then 1 else 4,0⟩]):=by
 refine aw Tryz.func428 λF D=>?_;refine yo ?_;intro f;refine c8 ?_;refine cg (λW=>?_) (λW=>?_)
 . refine bB ?_
   refine aT (mq p X.bo x y 0 0 1 0) ?_;refine bB ?_;exact aX (H:=[fY X B p ⟨.gone,1,0⟩]) ⟨rfl,by rw[bd W]⟩ EA
 . refine bi ?_
   refine aT (mq p X.bo x y 0 0 4 0) ?_;refine bb ?_;exact aX (H:=[fY X B p ⟨.gone,4,0⟩]) Ex EA
def atY:ad aa 393 tK [e9 X B] (λu H=>∃p,u=ptr p 0/\H=[jU X B p .gone,e9 X B]):=by
 refine aw Tryz.func393 λF D=>?_;refine cv ?_;refine wn λbY=>?_;refine wn λZ=>?_;refine bK ?_;refine il [8,9,10] [9] wl [e9 X B] ?_;refine bQ ?_;refine fe ?_ ?_
 . refine GU ?_
   intro z;refine aG ?_;refine wn λaO=>?_;exact agm
 . refine wn λaO=>?_
   refine aG ?_;refine GU ?_;intro z;exact agm
def atZ(held:Bool)(z d5 c1:Nat)(fK:Bool):ad aa 384 [ptr d5 0,ptr c1 0] [cU p x y 0 0 X.bo,qk z 0 fK,ab d5 314 [ptr z 0],ab c1 246 [ptr p 0]] (aH eu [fY X B p (if fK then⟨.more held,8,0⟩else⟨.more held,1,0⟩)]):=by
 refine aw Tryz.func384 λF D=>?_;refine yo ?_;intro f;refine cv ?_;refine cg (λW=>?_) (λW=>?_)
 . subst W
   refine bB ?_;refine aT (mq p X.bo x y 0 0 8 0) ?_;exact Rh
 . subst W
   refine bi ?_;exact ad9
def aip(B:jn)(p:Nat)(x y:Value)(st:Int)(a:Option Addr)(c:Nat):ad aa 338 [ptr p 0,bw st,.slice a 0 c] [cU p x y 0 0 X.bo] (aH eu [cU p x y 4 0 X.bo]):=by
 refine aw Tryz.func338 λF D=>?_;refine Kl ?_;intro Z aO aU;refine nN ?_;refine bB ?_;refine aT (mq p X.bo x y 0 0 4 0) ?_;refine bB ?_;exact aX ⟨rfl,rfl⟩
def at0:ad aa 338 [ptr p 0,bw (iK true),qI true true E] Qp (aH eu [jU X B p (.look true true (gU 12 0))]):=by
 exact ahq
def at1(aK:o.out≠0):ad aa 383 QJ (cU p x y 0 0 X.bo::iY q (X.r true) o::ab ge 326 [ptr q 0]::ab b9 246 [ptr p 0]::ab d5 36 [bw (iK true)]::ab d9 380 [qI true true E]::Qv) (aH eu [fY X B p (if o.out=1 then⟨.more true,0,0⟩else⟨.look true true o,4,0⟩),e9 X B]):=by
 refine aw Tryz.func383 λF D=>?_;refine bK ?_;refine aT (uz q (X.r true) o) ?_;refine b6 ?_;refine cg (λW=>?_) (λW=>?_)
 . refine aG ?_
   refine cu [] [4,201] [ab b9 246 [ptr p 0],ab d5 36 [bw (iK true)],ab d9 380 [qI true true E]] ?_;refine Rj ?_;refine aT (aip X B p x y (iK true) _ _) ?_;refine bi ?_;exact aX (H:=[fY X B p ⟨.look true true o,4,0⟩,e9 X B]) Ex EA
 . refine b6 ?_
   refine il [15,16,17] [16] Qa [cU p x y 0 0 X.bo,ab b9 246 [ptr p 0],ab d5 36 [bw (iK true)],e9 X B] ?_;refine eJ ?_;refine fe ?_ ?_
   . refine br (xo X.m B.b (iK true) 1) ?_
     refine R8 ?_;intro z aO;exact aen
   . refine wn λaO=>?_
     refine aG ?_;refine br (xo X.m B.b (iK true) 1) ?_;refine R3 ?_;intro z;exact aen
def at2:ad aa 287 [ptr X.bo 0,.bool true] [e9 X B] (λu H=>∃p,u=ptr p 0/\H=[jU X B p (.xu true),e9 X B]):=by
 refine aw Tryz.func287 λF D=>?_;refine cv ?_;refine wn λc2=>?_;refine wn λaU=>?_;refine b6 ?_;refine Dn (λact i=>∃(x y:Value) (aS bY a:Nat),hn Tryz.f287.ntmps [(7,ptr bY 0),(6,ptr aS 0),(5,ptr aU 0),(4,.pointer none),(1,.bool true),(0,ptr X.bo 0)] act/\dm F aaQ i) ?_ ?_
 . exact afn
 . rintro act i ⟨x,y,aS,bY,a,g0,st⟩
   refine Dp ?_ g0 st;clear g0 st act i;refine bi ?_;refine nN ?_;refine cu [2] [102,202] [ab bY 380 [.slice (some ⟨a,0,none⟩) 2 2]] ?_;refine aG ?_;refine go_vs rfl .none rfl (tj rfl rfl bJ) (au) ?_;refine bB ?_;refine hU [12,15] [12] PM [e9 X B,ab aS 36 [bw (iK true)],ab aU 246 [ptr c2 0]] mixed gB ?_;refine fr ?_;refine br (GM X.m B.b (iK true)) ?_;refine GN ?_;intro z;refine aT (GO c2 z X.bo X.m B.b (iK true) _ _ _ rfl 0 0) ?_;exact adK
def at3(ge S E:Nat):ad aa 337 [ptr d9 0,ptr ge 0,ptr S 0] [cU p x y 0 0 X.bo,ab d9 246 [ptr p 0],ab ge 36 [bw (iK true)],ab S 380 [qI true true E],ab E 213 Ec] (aH eu [fY X B p ⟨.look true true (gU 12 0),0,0⟩]):=by
 refine aw Tryz.func337 λF D=>?_;refine bK ?_;refine aT (at0 X B p x y E) ?_;exact Rg
def at4:ad aa 338 [ptr p 0,bw (iK false),qI false false E] Qp (aH eu [jU X B p (.look false false (gU 12 0))]):=by
 refine agI ?_;intro F D Z aO aU;refine br (ahr (X.r false)) ?_;refine agk ?_;intro q aS;refine aT (AI p q (X.r false) X.bo x y _ rfl 0 0 (gU 12 0) rfl) ?_;exact adI
def at5(aK:o.out≠0):ad aa 383 QJ (cU p x y 0 0 X.bo::iY q (X.r false) o::ab ge 326 [ptr q 0]::ab b9 246 [ptr p 0]::ab d5 36 zj::ab d9 380 [qI false false E]::Qv) (aH eu [fY X B p (if o.out=1 then⟨.more false,0,0⟩else⟨.look false false o,4,0⟩),e9 X B]):=by
 refine aw Tryz.func383 λF D=>?_;refine bK ?_;refine aT (uz q (X.r false) o) ?_;refine b6 ?_;refine cg (λW=>?_) (λW=>?_)
 . refine aG ?_
   refine cu [] [4,201] [ab b9 246 [ptr p 0],ab d5 36 zj,ab d9 380 [qI false false E]] ?_;refine Rj ?_;refine aT (aip X B p x y (iK false) _ _) ?_;refine bi ?_;exact aX (H:=[fY X B p ⟨.look false false o,4,0⟩,e9 X B]) Ex EA
 . exact afQ
def at6:ad aa 338 [ptr p 0,bw (iK false),qI false true E] Qp (aH eu [jU X B p (.look false true (gU 12 0))]):=by
 exact ahq
def at7(aK:o.out≠0):ad aa 383 QJ (cU p x y 0 0 X.bo::iY q (X.r true) o::ab ge 326 [ptr q 0]::ab b9 246 [ptr p 0]::ab d5 36 zj::ab d9 380 [qI false true E]::Qv) (aH eu [fY X B p (if o.out=1 then⟨.more false,0,0⟩else⟨.look false false (gU 12 0),0,0⟩),e9 X B]):=by
 refine aw Tryz.func383 λF D=>?_;refine bK ?_;refine aT (uz q (X.r true) o) ?_;refine b6 ?_;refine cg (λW=>?_) (λW=>?_)
 . refine aG ?_
   refine cu [] [4,201] [ab b9 246 [ptr p 0],ab d5 36 zj,ab d9 380 [qI false true E]] ?_;refine Rj ?_;refine aT (at4 X B p x y E) ?_;refine bi ?_;exact aX (H:=[fY X B p ⟨.look false false (gU 12 0),0,0⟩,e9 X B]) Ex (sw (au))
 . exact afQ
def at8:ad aa 287 [ptr X.bo 0,.bool false] [e9 X B] (λu H=>∃p,u=ptr p 0/\H=[jU X B p (.xu false),e9 X B]):=by
 refine aw Tryz.func287 λF D=>?_;refine cv ?_;refine wn λc2=>?_;refine wn λaU=>?_;refine b6 ?_;refine Dn (λact i=>∃(x y:Value) (aS bY a:Nat),hn Tryz.f287.ntmps [(7,ptr bY 0),(6,ptr aS 0),(5,ptr aU 0),(4,.pointer none),(1,.bool false),(0,ptr X.bo 0)] act/\dm F aaQ i) ?_ ?_
 . exact afn
 . rintro act i ⟨x,y,aS,bY,a,g0,st⟩
   refine Dp ?_ g0 st;clear g0 st act i;refine bi ?_;refine lL ?_;refine b6 ?_;refine hU [12,15] [12] PM [e9 X B,ab aS 36 zj,ab aU 246 [ptr c2 0]] mixed gB ?_;refine fr ?_;refine br (GM X.m B.b (iK false)) ?_;refine GN ?_;intro z;refine aT (GO c2 z X.bo X.m B.b (iK false) _ _ _ rfl 0 0) ?_;exact adK
def at9(ge S E:Nat):ad aa 337 [ptr d9 0,ptr ge 0,ptr S 0] [cU p x y 0 0 X.bo,ab d9 246 [ptr p 0],ab ge 36 zj,ab S 380 [qI false true E],ab E 213 Ec] (aH eu [fY X B p ⟨.look false true (gU 12 0),0,0⟩]):=by
 refine aw Tryz.func337 λF D=>?_;refine bK ?_;refine aT (at6 X B p x y E) ?_;exact Rg
end
section
variable(X:nn)(B:jn)(p:Nat)(L:List Int)(t:Int)(V:gw)
def rJ:aq:=dj (bv:=Unit) (λ_=>True) (λ_=>[e9 X B,ch X.m L t,gb (X.r false) X.m (B.eR false) (B.fg false),gb (X.r true) X.m (B.eR true) (B.fg true)])
def _root_.Go.L.dq.rK.iq{B:jn}{L:List Int}(h:rK B L)(r:Bool):wm (B.eR r) (B.fg r) L:=let⟨a,b,c,d⟩:=rK.eR h r;⟨a,b,c,d⟩
def aua(cb:rK B L)(R:Bool)(s:Int):ad aa 474 [ptr p 0] [jU X B p (.swp R s),rJ X B L t] (aH (.bool (if decide (L.getD B.b 0=s)then⟨.swp R s,7,0⟩else EG:gw).over) [fY X B p (if decide (L.getD B.b 0=s)then⟨.swp R s,7,0⟩else EG),rJ X B (if L.getD B.b 0=s then L.set B.b 1 else L) (fZ t)]):=by
 have f:B.b<L.length:=oH;have g:B.b+1<L.length:=oH;refine e1 .head (λe _=>?_);obtain⟨z,d9,aC,Z,J⟩:=e;refine gh ?_;refine e1 (bv:=Unit) ey (λ_ _=>?_);refine gh ?_;exact px (pw X B p _) (Su z X.m B.b L t f (s) 1) (atG X B p _ _ R J z d9 aC Z s (decide (L.getD B.b 0=s)))
def aub(cb:rK B L)(v:Int):ad aa 474 [ptr p 0] [jU X B p (.ask v),rJ X B L t] (aH (.bool (if decide (L.getD (B.b+1) 0=0)then Q2 else⟨.ask v,4,0⟩:gw).over) [fY X B p (if decide (L.getD (B.b+1) 0=0)then Q2 else⟨.ask v,4,0⟩),rJ X B (if L.getD (B.b+1) 0=0 then L.set (B.b+1) 1 else L) (fZ t)]):=by
 have f:B.b<L.length:=oH;have g:B.b+1<L.length:=oH;refine e1 .head (λe _=>?_);obtain⟨z,ge,d9,bn,b9⟩:=e;refine gh ?_;refine e1 (bv:=Unit) ey (λ_ _=>?_);refine gh ?_;exact px (pw X B p _) (Su z X.m (B.b+1) L t g (0) 1) (atK X B p _ _ z ge d9 bn b9 v (decide (L.getD (B.b+1) 0=0)))
def auc(cb:rK B L)(held:Bool):ad aa 474 [ptr p 0] [jU X B p (.more held),rJ X B L t] (aH (.bool (if decide (L.getD B.b 0=iK held)then⟨.more held,8,0⟩else⟨.more held,1,0⟩:gw).over) [fY X B p (if decide (L.getD B.b 0=iK held)then⟨.more held,8,0⟩else⟨.more held,1,0⟩),rJ X B (if L.getD B.b 0=iK held then L.set B.b 1 else L) (fZ t)]):=by
 have f:B.b<L.length:=oH;have g:B.b+1<L.length:=oH;refine e1 .head (λe _=>?_);obtain⟨z,d5,c1⟩:=e;refine gh ?_;refine e1 (bv:=Unit) ey (λ_ _=>?_);refine gh ?_;exact px (pw X B p _) (Su z X.m B.b L t f (iK held) 1) (atZ X B p _ _ held z d5 c1 (decide (L.getD B.b 0=iK held)))
def aud(cb:rK B L)(hp:sK V):ad aa 474 [ptr p 0] [fY X B p V,rJ X B L t] (aH (.bool (oV B L V).over) [fY X B p (oV B L V),rJ X B (p2 B L V) (if V.over then t else fZ t)]):=by
 obtain⟨ph,out,val⟩:=V;by_cases aK:out=0
 . subst aK
   obtain⟨ak,Y⟩:=hp rfl;obtain rfl:val=0:=Y;have G:fY X B p sl=jU X B p ph:=Is;have i:(sl:gw).over=false:=rfl;have ay:oV B L sl=(iI B L ph).2:=by unfold oV;rw[i];rfl
   have aV:p2 B L sl=(iI B L ph).1:=by unfold p2;rw[i];rfl
   rw[G,ay,aV,i];simp only[eP,ep];have j:∀(r:Bool) (o:fo),(ph=.put r o\/ph=.of r o)->True:=λ_ _ _=>trivial;cases ph with
   |
    put R o=>
    cases I:(dO (B.eR R) (B.fg R) L o).over with
    |
     false=>
     have e:(iI B L (.put R o))=(ly (B.eR R) (B.fg R) L o,⟨.put R (dO (B.eR R) (B.fg R) L o),0,0⟩):=Pp;rw[e];cases R
     . have a:iF o:=ak.1
       have aK:o.out=0:=ak.2;refine e1 .head (λe _=>?_);obtain⟨z,c,aC,Z,J⟩:=e;simp only[cp,cm];refine e1 (bv:=Unit) ey (λ_ _=>?_);simp only[cp,cm];have b:o.over=false:=mU;have cc:=mV z (X.r false) X.m sB sC L t o (cb.iq false) a;rw[I,b]at cc;simp only[eP,ep]at cc;refine ql cc (λD=>?_);simp only[cp,cm];refine λh s=>Sat.swap (cF () trivial (M:=_) ?_ h s);simp only[cp,cm];refine λh s=>(hI.from (A:=fY X B p ⟨.put false BI,0,0⟩) zf) adg
     . have a:iF o:=ak.1
       have aK:o.out=0:=ak.2;refine e1 .head (λe _=>?_);obtain⟨z,c,aC,Z,J⟩:=e;simp only[cp,cm];refine e1 (bv:=Unit) ey (λ_ _=>?_);simp only[cp,cm];have b:o.over=false:=mU;have cc:=mV z (X.r true) X.m (B.eR true) (B.fg true) L t o xa a;rw[I,b]at cc;simp only[eP,ep]at cc;refine ql cc (λD=>?_);simp only[cp,cm];refine λh s=>Sat.swap (cF () trivial (M:=_) ?_ h s);simp only[cp,cm];refine λh s=>(hI.from (A:=fY X B p ⟨.put true w5,0,0⟩) zf) adg
    |
     true=>
     have e:(iI B L (.put R o))=(ly (B.eR R) (B.fg R) L o,if(dO (B.eR R) (B.fg R) L o).out=1 then EG else⟨.put R (dO (B.eR R) (B.fg R) L o),(dO (B.eR R) (B.fg R) L o).out,0⟩):=by simp only[iI,I,fi]
     rw[e];cases R
     . have a:iF o:=ak.1
       have aK:o.out=0:=ak.2;refine e1 .head (λe _=>?_);obtain⟨z,c,aC,Z,J⟩:=e;simp only[cp,cm];refine e1 (bv:=Unit) ey (λ_ _=>?_);simp only[cp,cm];have b:o.over=false:=mU;have cc:=mV z (X.r false) X.m sB sC L t o (cb.iq false) a;rw[I,b]at cc;simp only[eP,ep]at cc;have d:(dO sB sC L o).out≠0:=qm;exact px (pw X B p _) cc (ain X B p _ _ false J z c aC Z BI d)
     . have a:iF o:=ak.1
       have aK:o.out=0:=ak.2;refine e1 .head (λe _=>?_);obtain⟨z,c,aC,Z,J⟩:=e;simp only[cp,cm];refine e1 (bv:=Unit) ey (λ_ _=>?_);simp only[cp,cm];have b:o.over=false:=mU;have cc:=mV z (X.r true) X.m (B.eR true) (B.fg true) L t o xa a;rw[I,b]at cc;simp only[eP,ep]at cc;have d:(dO (B.eR true) (B.fg true) L o).out≠0:=qm;exact px (pw X B p _) cc (ain X B p _ _ true J z c aC Z w5 d)
   |
    qJ R=>
    have f:B.b<L.length:=oH;have g:B.b+1<L.length:=oH;refine e1 .head (λe _=>?_);obtain⟨z,cs,aC,Z,J⟩:=e;simp only[cp,cm];refine e1 (bv:=Unit) ey (λ_ _=>?_);simp only[cp,cm];exact px (pw X B p _) (G0 z X.m B.b L t f) (atH X B p _ _ R J z Z cs aC (L.getD B.b 0) true)
   |
    swp R s=>
    have h:=aua X B p L t cb R s;simp only[iI];by_cases a6:L.getD B.b 0=s
    . rw[kM a6,bd a6]at h;rw[bd a6];exact h
    . rw[mO a6,a8 a6]at h;rw[a8 a6];exact h
   |
    ask v=>
    have h:=aub X B p L t cb v;simp only[iI];by_cases a6:L.getD (B.b+1) 0=0
    . rw[kM a6,bd a6]at h;rw[bd a6];exact h
    . rw[mO a6,a8 a6]at h;rw[a8 a6];exact h
   |
    set st=>
    have f:B.b<L.length:=oH;have g:B.b+1<L.length:=oH;refine e1 .head (λe _=>?_);obtain⟨z,d9⟩:=e;simp only[cp,cm];refine e1 (bv:=Unit) ey (λ_ _=>?_);simp only[cp,cm];exact px (pw X B p _) (G1 z X.m B.b L t f st) (atM X B p _ _ z d9 st)
   |
    of r o=>
    cases I:(dO (B.eR r) (B.fg r) L o).over with
    |
     false=>
     have e:(iI B L (.of r o))=(ly (B.eR r) (B.fg r) L o,⟨.of r Jv,0,0⟩):=Pp;rw[e];cases r
     . have a:iF o:=ak.1
       have aK:o.out=0:=ak.2;refine e1 .head (λe _=>?_);obtain⟨z,d9,b9⟩:=e;simp only[cp,cm];refine e1 (bv:=Unit) ey (λ_ _=>?_);simp only[cp,cm];have b:o.over=false:=mU;have cc:=mV z (X.r false) X.m sB sC L t o (cb.iq false) a;rw[I,b]at cc;simp only[eP,ep]at cc;refine ql cc (λD=>?_);simp only[cp,cm];refine λh s=>Sat.swap (cF () trivial (M:=_) ?_ h s);simp only[cp,cm];refine λh s=>(hI.from (A:=fY X B p ⟨.of false BI,0,0⟩) zf) (sw (cF (z,d9,b9) trivial (au)) h s)
     . have a:iF o:=ak.1
       have aK:o.out=0:=ak.2;refine e1 .head (λe _=>?_);obtain⟨z,d9,b9⟩:=e;simp only[cp,cm];refine e1 (bv:=Unit) ey (λ_ _=>?_);simp only[cp,cm];have b:o.over=false:=mU;have cc:=mV z (X.r true) X.m (B.eR true) (B.fg true) L t o xa a;rw[I,b]at cc;simp only[eP,ep]at cc;refine ql cc (λD=>?_);simp only[cp,cm];refine λh s=>Sat.swap (cF () trivial (M:=_) ?_ h s);simp only[cp,cm];refine λh s=>(hI.from (A:=fY X B p ⟨.of true w5,0,0⟩) zf) (sw (cF (z,d9,b9) trivial (au)) h s)
    |
     true=>
     have e:(iI B L (.of r o))=(ly (B.eR r) (B.fg r) L o,⟨.of r Jv,(dO (B.eR r) (B.fg r) L o).out,(dO (B.eR r) (B.fg r) L o).value⟩):=by simp only[iI,I,fi]
     rw[e];cases r
     . have a:iF o:=ak.1
       have aK:o.out=0:=ak.2;refine e1 .head (λe _=>?_);obtain⟨z,d9,b9⟩:=e;simp only[cp,cm];refine e1 (bv:=Unit) ey (λ_ _=>?_);simp only[cp,cm];have b:o.over=false:=mU;have cc:=mV z (X.r false) X.m sB sC L t o (cb.iq false) a;rw[I,b]at cc;simp only[eP,ep]at cc;have d:(dO sB sC L o).out≠0:=qm;exact px (pw X B p _) cc (aio X B p _ _ z (X.r false) d9 b9 false BI d)
     . have a:iF o:=ak.1
       have aK:o.out=0:=ak.2;refine e1 .head (λe _=>?_);obtain⟨z,d9,b9⟩:=e;simp only[cp,cm];refine e1 (bv:=Unit) ey (λ_ _=>?_);simp only[cp,cm];have b:o.over=false:=mU;have cc:=mV z (X.r true) X.m (B.eR true) (B.fg true) L t o xa a;rw[I,b]at cc;simp only[eP,ep]at cc;have d:(dO (B.eR true) (B.fg true) L o).out≠0:=qm;exact px (pw X B p _) cc (aio X B p _ _ z (X.r true) d9 b9 true w5 d)
   |
    gone=>
    have f:B.b<L.length:=oH;have g:B.b+1<L.length:=oH;refine e1 .head (λe _=>?_);obtain⟨z,d5,b9⟩:=e;simp only[cp,cm];refine e1 (bv:=Unit) ey (λ_ _=>?_);simp only[cp,cm];exact px (pw X B p _) (G0 z X.m B.b L t f) (atX X B p _ _ z d5 b9 (L.getD B.b 0) true)
   |xu held=>
    cases held
    . have f:B.b<L.length:=by have:=cb.len;omega
      have g:B.b+1<L.length:=oH;refine e1 .head (λe _=>?_);obtain⟨z,d9,ge,S,E⟩:=e;simp only[cp,cm];refine e1 (bv:=Unit) ey (λ_ _=>?_);simp only[cp,cm];exact px (pw X B p _) (G1 z X.m B.b L t f (iK false)) (at9 X B p _ _ d9 ge S E)
    . have f:B.b<L.length:=by have:=cb.len;omega
      have g:B.b+1<L.length:=oH;refine e1 .head (λe _=>?_);obtain⟨z,d9,ge,S,E⟩:=e;simp only[cp,cm];refine e1 (bv:=Unit) ey (λ_ _=>?_);simp only[cp,cm];exact px (pw X B p _) (G1 z X.m B.b L t f (iK true)) (at3 X B p _ _ d9 ge S E)
   |
    look held r o=>
    cases I:(dO (B.eR r) (B.fg r) L o).over with
    |
     false=>
     have e:(iI B L (.look held r o))=(ly (B.eR r) (B.fg r) L o,⟨.look held r Jv,0,0⟩):=Pp;rw[e];cases held<;>cases r
     . have a:iF o:=ak.1
       have aK:o.out=0:=ak.2.1;refine e1 .head (λe _=>?_);obtain⟨z,ge,b9,d5,d9,E⟩:=e;simp only[cp,cm];refine e1 (bv:=Unit) ey (λ_ _=>?_);simp only[cp,cm];have b:o.over=false:=mU;have cc:=mV z (X.r false) X.m sB sC L t o (cb.iq false) a;rw[I,b]at cc;simp only[eP,ep]at cc;refine ql cc (λD=>?_);simp only[cp,cm];refine λh s=>Sat.swap (cF () trivial (M:=_) ?_ h s);simp only[cp,cm];refine λh s=>(hI.from (A:=fY X B p ⟨.look false false BI,0,0⟩) zf) Qu
     . have a:iF o:=ak.1
       have aK:o.out=0:=ak.2.1;refine e1 .head (λe _=>?_);obtain⟨z,ge,b9,d5,d9,E⟩:=e;simp only[cp,cm];refine e1 (bv:=Unit) ey (λ_ _=>?_);simp only[cp,cm];have b:o.over=false:=mU;have cc:=mV z (X.r true) X.m (B.eR true) (B.fg true) L t o xa a;rw[I,b]at cc;simp only[eP,ep]at cc;refine ql cc (λD=>?_);simp only[cp,cm];refine λh s=>Sat.swap (cF () trivial (M:=_) ?_ h s);simp only[cp,cm];refine λh s=>(hI.from (A:=fY X B p ⟨.look false true w5,0,0⟩) zf) Qu
     . cases ak.2.2 rfl
     . have a:iF o:=ak.1
       have aK:o.out=0:=ak.2.1;refine e1 .head (λe _=>?_);obtain⟨z,ge,b9,d5,d9,E⟩:=e;simp only[cp,cm];refine e1 (bv:=Unit) ey (λ_ _=>?_);simp only[cp,cm];have b:o.over=false:=mU;have cc:=mV z (X.r true) X.m (B.eR true) (B.fg true) L t o xa a;rw[I,b]at cc;simp only[eP,ep]at cc;refine ql cc (λD=>?_);simp only[cp,cm];refine λh s=>Sat.swap (cF () trivial (M:=_) ?_ h s);simp only[cp,cm];refine λh s=>(hI.from (A:=fY X B p ⟨.look true true w5,0,0⟩) zf) Qu
    |
     true=>
     have e:(iI B L (.look held r o))=(ly (B.eR r) (B.fg r) L o,if(dO (B.eR r) (B.fg r) L o).out=1 then⟨.more held,0,0⟩else if r&&!held then⟨.look held false (gU 12 0),0,0⟩else⟨.look held r Jv,4,0⟩):=by simp only[iI,I,fi]
     rw[e];cases held<;>cases r
     . have a:iF o:=ak.1
       have aK:o.out=0:=ak.2.1;refine e1 .head (λe _=>?_);obtain⟨z,ge,b9,d5,d9,E⟩:=e;simp only[cp,cm];refine e1 (bv:=Unit) ey (λ_ _=>?_);simp only[cp,cm];have b:o.over=false:=mU;have cc:=mV z (X.r false) X.m sB sC L t o (cb.iq false) a;rw[I,b]at cc;simp only[eP,ep]at cc;have d:(dO sB sC L o).out≠0:=qm;exact px (pw X B p _) cc (at5 X B p _ _ z ge b9 d5 d9 E BI d)
     . have a:iF o:=ak.1
       have aK:o.out=0:=ak.2.1;refine e1 .head (λe _=>?_);obtain⟨z,ge,b9,d5,d9,E⟩:=e;simp only[cp,cm];refine e1 (bv:=Unit) ey (λ_ _=>?_);simp only[cp,cm];have b:o.over=false:=mU;have cc:=mV z (X.r true) X.m (B.eR true) (B.fg true) L t o xa a;rw[I,b]at cc;simp only[eP,ep]at cc;have d:(dO (B.eR true) (B.fg true) L o).out≠0:=qm;exact px (pw X B p _) cc (at7 X B p _ _ z ge b9 d5 d9 E w5 d)
     . cases ak.2.2 rfl
     . have a:iF o:=ak.1
       have aK:o.out=0:=ak.2.1;refine e1 .head (λe _=>?_);obtain⟨z,ge,b9,d5,d9,E⟩:=e;simp only[cp,cm];refine e1 (bv:=Unit) ey (λ_ _=>?_);simp only[cp,cm];have b:o.over=false:=mU;have cc:=mV z (X.r true) X.m (B.eR true) (B.fg true) L t o xa a;rw[I,b]at cc;simp only[eP,ep]at cc;have d:(dO (B.eR true) (B.fg true) L o).out≠0:=qm;exact px (pw X B p _) cc (at1 X B p _ _ z ge b9 d5 d9 E w5 d)
   |
    more held=>
    have h:=auc X B p L t cb held;simp only[iI];by_cases a6:L.getD B.b 0=iK held
    . rw[kM a6,bd a6]at h;rw[bd a6];exact h
    . rw[mO a6,a8 a6]at h;rw[a8 a6];exact h
 . have I:(pa:gw).over=true:=by simp[gw.over,aK]
   have e:fY X B p pa=EX X p out val:=by unfold fY;rw[a8 (show¬((⟨ph,out,val⟩:gw).out=0)from aK)]
   have ay:oV B L pa=pa:=by unfold oV;rw[bd I]
   have aV:p2 B L pa=L:=by unfold p2;rw[bd I]
   rw[ay,aV,I,e];simp only[fi];exact kz (λx _=>kd (MN p X.bo _ _ out val aK) nA tr)
def aiq:ad aa 81 [ptr p 0] BQ (aH (af V.out) BQ):=by
 obtain⟨ph,out,val⟩:=V;by_cases aK:out=0
 . subst aK
   have e:fY X B p uJ=jU X B p ph:=Is;rw[e];cases ph<;>exact kz (λx _=>kd (GV p X.bo _ _ 0 0) nA tr)
 . have e:fY X B p pa=EX X p out val:=by unfold fY;rw[a8 (show¬((⟨ph,out,val⟩:gw).out=0)from aK)]
   rw[e];exact kz (λx _=>kd (GV p X.bo _ _ out val) nA tr)
def aue(hp:sK V):ad aa 85 [ptr p 0] BQ (aH (bw V.val) BQ):=by
 obtain⟨ph,out,val⟩:=V;by_cases aK:out=0
 . subst aK
   obtain⟨_,Y⟩:=hp rfl;obtain rfl:val=0:=Y;have e:fY X B p sl=jU X B p ph:=Is;rw[e];cases ph<;>exact kz (λx _=>kd (GX p X.bo _ _ 0 0) nA tr)
 . have e:fY X B p pa=EX X p out val:=by unfold fY;rw[a8 (show¬((⟨ph,out,val⟩:gw).out=0)from aK)]
   rw[e];exact kz (λx _=>kd (GX p X.bo _ _ out val) nA tr)
end
section
variable(s n:Int){fj fB:Nat}
def JT:Int:=if lW s=0\/lW n=0 then 0 else 2+lW s+lW n
def air:0<=lW s/\lW s<=130:=by unfold lW;split<;>omega
def Sv(L:List Int)(b i:Nat):∀j,iv (iv L b i) (b+i) j=iv L b (i+j)
 |0=>rfl
 |j+1=>by rw[iv,Sv L b i j,<-n3,iv,n3]
def Sw(i:Nat)(t:Int):∀j,ju j (ju i t)=ju (i+j) t
 |0=>rfl
 |j+1=>by rw[ju,Sw i t j,<-n3,ju]
def jn.aY(B:jn):Nat:=2+(2+2*B.fj)+(2+2*B.fB)
def auf{X:nn}{B:jn}{L:List Int}{t:Int}{M D:List aq}(h:∀h,Sat M h->Sat (e9 X B::ch X.m L t::gb (X.r false) X.m sB sC::gb (X.r true) X.m (B.eR true) (B.fg true)::D) h):∀h,Sat M h->Sat (rJ X B L t::D) h:=cF () trivial h
def aug:ad aa 63 [af s,af n] [] (aH (af (JT s n)) []):=by
 refine aw Tryz.func63 λF D=>?_;have aj:=air s;have aM:=air n;refine bQ ?_;refine aT (G2 s) ?_;refine aG ?_;refine aT (G2 n) ?_;refine c8 ?_;refine hx rfl rfl (λW=>?_) (λW=>?_) rfl
 . have f:=bN W
   refine bi ?_;refine cg (λM=>?_) (λM=>?_)
   . refine bQ ?_
     exact Rb
   . refine bB ?_
     refine aB rfl (fk (2+lW s) (je ae) rfl rfl) ?_;refine aG ?_;refine aB rfl (fk (2+lW s+lW n) (je ae) rfl rfl) ?_;refine bB ?_;exact Rb
 . have f:=bN W
   refine fr ?_;exact Rb
def auh(h1:1<=fj/\fj<=64)(h2:1<=fB/\fB<=64):JT (fj:Int) (fB:Int)=((2+(2+2*fj)+(2+2*fB):Nat):Int):=by
 unfold JT;rw[Sx h1.1 h1.2,Sx h2.1 h2.2,a8 ae];omega
def ais(h1:1<=fj/\fj<=64)(h2:1<=fB/\fB<=64):ad aa 63 [af fj,af fB] [] (aH (af ((2+(2+2*fj)+(2+2*fB):Nat):Int)) []):=by
 rw[<-auh h1 h2];exact aug fj fB
def aui(m b fj fB:Nat)(L:List Int)(t:Int)(J:rK ⟨b,fj,fB⟩ L):ad aa 68 [ptr m 0,af b,af fj,af fB] wu
 (λu H=>∃X:nn,u=.tuple #[ptr X.bo 0,af 0]/\X.m=m/\H=[rJ X ⟨b,fj,fB⟩ (iv L b (jn.aY ⟨b,fj,fB⟩)) (ju (jn.aY ⟨b,fj,fB⟩) t)]):=by
 refine aw Tryz.func68 λF D=>?_;have h1:=J.m1;have h2:=J.m64;have aN:=J.ef;have bu:=J.jQ;have dW:b+6+2*fj+2*fB<=L.length:=J.len;have g1:=J.dB;refine c8 ?_;refine aT (ais ⟨h1,h2⟩ ⟨aN,bu⟩) ?_;refine ahi ?_;refine aB rfl (kl (L.length -(2+(2+2*fj)+(2+2*fB):Nat):Int) (je ae) rfl rfl) ?_;refine afd ?_;refine bi ?_;refine ci rfl (b1 rfl (mR m L t b ae 0) bF) ?_;refine hb ?_;refine bi ?_;refine MP ?_;refine ci rfl (b1 rfl (mR m (L.set b 0) _ (b+1) (by rw[gn];omega) 0) bF) ?_;refine hb ?_;refine cq ?_;refine wn λa=>?_;refine bQ ?_;refine aB rfl (fk ((b+2:Nat):Int) eZ rfl rfl) ?_;refine aG ?_;refine ci rfl (b1 rfl (MQ m (b+2) fj ((L.set b 0).set (b+1) 0) _ ⟨h1,h2,by simp;omega,by simp;omega⟩) bF) ?_;rintro _ D ⟨_,⟨gP,rfl,rfl⟩,rfl⟩;refine fm ?_;refine fr ?_;refine aB rfl (fk ((b+2:Nat):Int) eZ rfl rfl) ?_;refine aG ?_;refine aT (ait fj h1 h2) ?_;refine aB rfl (fk ((b+2+(2+2*fj):Nat):Int) eZ rfl rfl) ?_;refine aG ?_;refine ci rfl (b1 rfl (MQ m (b+2+(2+2*fj)) fB (iv ((L.set b 0).set (b+1) 0) (b+2) (2+2*fj)) _ ⟨aN,bu,by rw[wQ];simp;omega,by rw[wQ];simp;omega⟩) bF) ?_;rintro _ D ⟨_,⟨lM,rfl,rfl⟩,rfl⟩;refine fm ?_;refine eJ ?_;refine bb ?_;exact aX ⟨⟨a,m,gP,lM⟩,rfl,rfl,rfl⟩ (auf (by rw[show iv L b (jn.aY ⟨b,fj,fB⟩)=iv (iv (iv L b 2) (b+2) (2+2*fj)) (b+2+(2+2*fj)) (2+2*fB) by rw[Sv,Sv,<-n3];rfl,show ju (jn.aY ⟨b,fj,fB⟩) t=ju (2+2*fB) (ju (2+2*fj) (ju 2 t)) by rw[Sw,Sw,<-n3];rfl];exact(au)))
end
end Go.Proofs.YtnnhpnccfnghdaaGreat.L.Po
