import Derived.Test.YtnnhpnccfnghdaaGreatA7
set_option linter.all false
set_option maxRecDepth 8000
set_option maxHeartbeats 16000000
namespace Go.Proofs.YtnnhpnccfnghdaaGreat.L
open Go.L Go.L.Lx Go.L.Pg
open Go.L.Th (pv nt hj p1 rowOf mI kU lf dE)
attribute[local irreducible] G cJ GE c3 GT b1 dk c7 ds Exit.then Exit.inBlock
section
variable{k:cr}{s:fU}{a2:al}
theorem LR{P:Program}{H:World}{n:Nat}{J:e6}{M D:List al}{fn:Func}{post:Value->List al->Prop}{e:Exit}(Y:e=.ret\/e=.normal){t b bY aZ q:Nat}{T te:TypeId}{l cg:List Value}{R:Nat×Nat}{y:Value}{u:Obj->List al}[i:j8 P T aZ][j:kV b M FW u](ba:fn.results=#[.cell t T,.tmp q])(h1:gN J t=some (ptr b bY))(h2:gN J q=some y)(Z:(l.drop bY).take aZ=cg)(aw:cg.length=aZ)(I:List al)(hp:post (.tuple #[.agg cg.toArray,y]) I)(B:∀h,Sat M h->Sat (I++D) h):
 GE H n J M vK:=
 xQ Y (λa w ai s=>by
  obtain⟨F,W,cU⟩:=i.out;obtain⟨z,em,gc⟩:=i.size;have aA:=s.heap (b:=b);have a6:=run_loadCells_list (P:=P) w ou cg (λk v hk=>by
   rw[<-Z]at hk;have:=Ae hk;rw[ud];simp[World.cell?,aA,this])
  rw[aw]at a6;simp[results,ba,ai.val _ _ h1,ai.val _ _ h2,asAddr,loadVar,Af W cU,jP em,gc,a6]) I hp B
def ak1{s:cG}{i:Nat}(h:nt s=some i):i<4:=by
 unfold nt at h;(repeat' split at h)<;>cases h<;>decide
def gb(k:cr):al:=λh=>lg h k
instance aB5:gw Ag (gb k) k.cases.length vL:=⟨λh=>h.sz.1⟩
instance aB6:gw CD (gb k) k.states.length CE:=⟨λh=>h.sA.1⟩
theorem ak2(o:∀h,a2 h->lg h k):gw Ag a2 k.cases.length vL:=⟨λh=>(o _ h).sz.1⟩
theorem FX(o:∀h,a2 h->lg h k):gw CD a2 k.states.length CE:=⟨λh=>(o _ h).sA.1⟩
theorem LS(o:∀h,a2 h->lg h k)(ai:s∈k.states):gw LU a2 s.rows.length (s.rows.flatMap gY):=⟨λh=>((o _ h).states s ai).rd.1⟩
theorem TL{r:Row}{a2:al}(o:∀h,a2 h->lg h k)(ai:s∈k.states)(aF:r∈s.rows):gw (.slice r.ea r.cx.length r.cZ) a2 r.cx.length (r.cx.flatMap fM):=⟨λh=>(((o _ h).states s ai).rows r aF).rd.1⟩
structure qS(k:cr):Prop where
 ak3:k.cases.length<=140737488351232
 ak4:k.states.length<=140737488351232
 row:∀s∈k.states,s.rows.length<=140737488351232
 da:∀s∈k.states,∀r∈s.rows,r.cx.length*80<=140737488351232
end
section
variable(k:cr)(aC:Nat)(a:Option Addr)(state w tag:cG)(c:Nat)(n:Int)(l:List fF)
def FY{h:eQ}{k:cr}(o:lg h k):qS k:=
 ⟨by
  have h1:k.cases.length*24<=140737488351232:=o.s6;omega,by
   have h1:k.states.length*40<=140737488351232:=o.lens;omega,λs ai=>by
    have h1:s.rows.length*56<=140737488351232:=(o.states s ai).len;omega,λs ai r aF=>((o.states s ai).rows r aF).len⟩
def TM:(l.flatMap fM).all Value.oneCell'=true:=by
 rw[p2];intro x ah;obtain⟨e,_,Y⟩:=CF.1 ah;simp only[fM,ky,Ah,or_false]at Y;rcases Y with rfl|rfl|rfl|rfl|rfl|rfl|rfl<;>rfl
def ak5(e:fF)(n:Int)(aO:-9223372036854775808<n/\n<=9223372036854775807):ab E 340 [.agg (fM e).toArray,af n] [] (aH (af (pv e n)) []):=by
 refine av Tryz.func340 λH D=>?_;refine bb ?_;refine wn λV=>?_;refine eY ?_;refine bb ?_;refine ch (λW=>?_) (λW=>?_)
 . have T:e.value=0:=by simpa using W
   refine dh ?_;exact aQ ⟨by unfold pv;rw[bg T],rfl⟩
 . have T:¬e.value=0:=by simpa using W
   refine bj ?_;refine ch (λM=>?_) (λM=>?_)
   . have w:e.value=1:=by simpa using M
     refine ct ?_;refine ch (λL=>?_) (λL=>?_)
     . have i0:n<1:=by simpa using L
       refine dh ?_;exact aQ ⟨by unfold pv;rw[a7 T,bg w,bg i0],rfl⟩
     . have i0:¬n<1:=by simpa using L
       refine bE ?_;refine aB rfl (kl (n -1) (jz ad) rfl rfl) ?_;refine ct ?_;exact aQ ⟨by unfold pv;rw[a7 T,bg w,a7 i0],rfl⟩
   . have w:¬e.value=1:=by simpa using M
     refine dB ?_;exact aQ ⟨by unfold pv;rw[a7 T,a7 w],rfl⟩
def ak6(x:cr):ab E 101 [.agg (eH x).toArray,ptr aC 0] Ai (aH (.bool (decide (x.name=w))) Ai):=by
 refine av Tryz.func101 λH D=>?_;exact LV
def ak7(x:fU):ab E 385 [.agg (gB x).toArray,ptr aC 0] Ai (aH (.bool (decide (x.name=w))) Ai):=by
 refine av Tryz.func385 λH D=>?_;exact LV
def ak8(aV:Nat)(tag:cG)(n:Int)(x:Row):ab E 386 [.agg (gY x).toArray,ptr aC 0,ptr aV 0] [aa aC 9 [S tag],aa aV 3 [af n]] (aH (.bool (p1 tag n x)) [aa aC 9 [S tag],aa aV 3 [af n]]):=by
 refine av Tryz.func386 λH D=>?_;refine bb ?_;refine wn λay=>?_;refine ct ?_;refine aB rfl (pw rfl rfl) ?_;refine aG ?_;refine hY rfl rfl (λW=>?_) (λW=>?_) rfl
 . have f:=bW W
   refine bj ?_;refine aB rfl (pw rfl rfl) ?_;refine bb ?_;refine hY rfl rfl (λM=>?_) (λM=>?_) rfl
   . have v:=bW M
     refine ct ?_;refine hY rfl rfl (λL=>?_) (λL=>?_) rfl
     . have F:=bW L
       refine eY ?_;refine bb ?_;exact FZ
     . have F:=bW L
       simp only[iE];refine fB ?_;exact FZ
   . have v:=bW M
     simp only[iE];refine ov ?_;exact FZ
 . have f:=bW W
   simp only[iE];refine gq ?_;exact FZ
def TN(s:cG):ab E 342 [S s] [] (aH (.tuple #[af (((nt s).getD 0:Nat):Int),.bool (nt s).isSome]) []):=by
 refine av Tryz.func342 λH D=>?_;refine s0 ?_;refine aB rfl (pw (m:=[100]) rfl rfl) ?_;refine b2 ?_;refine ch (λW=>?_) (λW=>?_)
 . have ai:s=[100]:=by simpa using W
   refine s0 ?_;refine cB ?_;exact CG
 . have a:¬s=[100]:=by simpa using W
   refine bE ?_;refine aB rfl (pw (m:=[99]) rfl rfl) ?_;refine b2 ?_;refine ch (λM=>?_) (λM=>?_)
   . have ai:s=[99]:=by simpa using M
     refine s0 ?_;refine bR ?_;exact CG
   . have b:¬s=[99]:=by simpa using M
     refine bE ?_;refine aB rfl (pw (m:=[98]) rfl rfl) ?_;refine b2 ?_;refine ch (λL=>?_) (λL=>?_)
     . have ai:s=[98]:=by simpa using L
       refine gq ?_;refine cB ?_;exact CG
     . have c:¬s=[98]:=by simpa using L
       refine bR ?_;refine aB rfl (pw (m:=[97]) rfl rfl) ?_;refine b2 ?_;refine ch (λf9=>?_) (λf9=>?_)
       . have ai:s=[97]:=by simpa using f9
         refine gq ?_;refine b2 ?_;exact CG
       . have d:¬s=[97]:=by simpa using f9
         refine gq ?_;refine aG ?_;exact CG
def ak9(ref:cG)(self b parent:Int)(a:Option Addr)(c:Nat)(J:List Int)(a2:al)[gw (.slice a J.length c) a2 J.length (iF J)](aw:J.length=4):ab E 341 [S ref,af self,af b,af parent,.slice a J.length c] [a2] (aH (af (hj ref self b parent J)) [a2]):=by
 refine av Tryz.func341 λH D=>?_;refine gd ?_;refine aB rfl (pw (m:=[115,101,108,102]) rfl rfl) ?_;refine b2 ?_;refine ch (λW=>?_) (λW=>?_)
 . have g:ref=[115,101,108,102]:=by simpa using W
   refine dh ?_;exact aQ ⟨by unfold hj;rw[bg g],rfl⟩
 . have d:¬ref=[115,101,108,102]:=by simpa using W
   refine bb ?_;refine aB rfl (pw (m:=[115,101,110,100,101,114]) rfl rfl) ?_;refine b2 ?_;refine ch (λM=>?_) (λM=>?_)
   . have h:ref=[115,101,110,100,101,114]:=by simpa using M
     refine dh ?_;exact aQ ⟨by unfold hj;rw[a7 d,bg h],rfl⟩
   . have e:¬ref=[115,101,110,100,101,114]:=by simpa using M
     refine bb ?_;refine aB rfl (pw (m:=[112,97,114,101,110,116]) rfl rfl) ?_;refine b2 ?_;refine ch (λL=>?_) (λL=>?_)
     . have j:ref=[112,97,114,101,110,116]:=by simpa using L
       refine dh ?_;exact aQ ⟨by unfold hj;rw[a7 d,a7 e,bg j],rfl⟩
     . have f:¬ref=[112,97,114,101,110,116]:=by simpa using L
       refine bj ?_;refine aU (TN ref) ?_;refine cB ?_;rcases g0:nt ref with _|i
       . refine bb ?_
         refine cP ?_;refine eY ?_;refine bb ?_;exact aQ ⟨by unfold hj;rw[a7 d,a7 e,a7 f,g0],rfl⟩
       . have k:i<4:=ak1 g0
         obtain⟨v,Z⟩:∃v,J[i]?=some v:=⟨_,cD (show i<J.length by omega)⟩;refine bb ?_;refine cP ?_;refine bQ ?_;refine aB rfl (fS (c:=false) (by exact mJ (by show¬(J.length:Int)<=((i:Nat):Int);omega)) (Aj rfl rfl)) ?_;refine dh ?_;refine aB rfl (gf rfl rfl (show i<J.length by omega)) ?_;refine aB rfl (gF rfl (F0 Z)) ?_;refine bE ?_;exact aQ ⟨by unfold hj;rw[a7 d,a7 e,a7 f,g0];simp[Z],rfl⟩
def ala(hk:qS k)(a2:al)(o:∀h,a2 h->lg h k)(h:k.states.find? xR=none):ab E 339 xS [a2] TO:=by
 refine av Tryz.func339 λH D=>?_;haveI:=FX o;refine TP ?_;intro aL aR aM bV Z;exact TQ
def alb(hk:qS k)(a2:al)(o:∀h,a2 h->lg h k)(s:fU)(ai:k.states.find? xR=some s)(h:s.rows.find? (p1 tag n)=none):ab E 339 xS [a2] TO:=by
 refine av Tryz.func339 λH D=>?_;haveI:=FX o;have b:s∈k.states:=qT ai;haveI:=LS o b;obtain⟨i,d,l,B⟩:=CH ai;refine TR ?_;intro aL aR aM bV Z;exact TQ
def alc(hk:qS k)(a2:al)(o:∀h,a2 h->lg h k)(s:fU)(r:Row)(ai:k.states.find? xR=some s)(h:s.rows.find? (p1 tag n)=some r):ab E 339 xS [a2] (λu I=>∃a c,u=.tuple #[.agg [S r.tag,.bool r.only,af r.n,.slice a r.cx.length c].toArray,.bool true]/\I=TS):=by
 refine av Tryz.func339 λH D=>?_;haveI:=FX o;have b:s∈k.states:=qT ai;haveI:=LS o b;obtain⟨i,d,l,B⟩:=CH ai;obtain⟨j,m,f,v⟩:=CH h;have g:r∈s.rows:=qT h;haveI:=TL o b g;refine TR ?_;intro aL aR aM bV Z;rw[m];refine TT ?_;refine aB rfl (gf rfl rfl v) ?_;refine aB rfl (kz rfl (kA gY 4 ue f) rfl) ?_;refine wn λJ=>?_;refine ct ?_;refine cn rfl (b9 rfl (TU r.ea r.cZ r.cx.length (r.cx.flatMap fM) (a2) (kW fM 7 xT _) (TM _) (by have:=hk.da s b r g;omega)) bN) ?_;rintro _ D ⟨_,⟨a,c,rfl,rfl⟩,rfl⟩;refine F1 ?_;exact LR (.inl rfl) rfl rfl rfl rfl rfl TS ⟨a,c,rfl,rfl⟩ (au)
def lh(p:dE):List Value:=[.bool p.dO,.slice a p.cx.length c,S p.state,.bool p.stop,S p.fail]
abbrev km:al:=own (.slice a l.length c) 87 7 l.length (l.flatMap fM)
structure li(n:Int)(D:List fF)(z:dE)(state:cG)(i:Nat)(p:dE):Prop where
 s3:i<=D.length
 eq:mI n i (D.drop i) p=z
 st:p.dO=false
 dJ:p.stop=false
 s4:p.fail=[]
 len:p.cx.length<=i
 er:i=0->p.state=state
end
section
variable{n:Int}{D:List fF}{z:dE}{state:cG}{i:Nat}{p:dE}{e:fF}
def xU(h:D[i]?=some e):D.drop i=e::D.drop (i+1):=by
 obtain⟨ak,rfl⟩:=dp.1 h;exact s5 ak
def li.kx(h:li n D z state 0 p)(Y:D[0]?=some e)(bA:e.do'=4):z=⟨true,[],state,false,[]⟩:=by
 rw[<-h.eq,xU Y];unfold mI;rw[bg bA,bg rfl,h.er rfl]
def li.skip(h:li n D z state i p)(Y:D[i]?=some e)(bA:e.do'=4)(bi:¬i=0):li n D z state (i+1) p:=by
 have aw:=(dp.1 Y).1;have aC:=h.eq;rw[xU Y]at aC;unfold mI at aC;rw[bg bA,a7 bi]at aC;exact TV
def li.aBN(h:li n D z state i p)(Y:D[i]?=some e)(bA:¬e.do'=4)(aN:e.do'=3):li n D z state (i+1) {p with state:=e.name}:=by
 have aw:=(dp.1 Y).1;have aC:=h.eq;rw[xU Y]at aC;unfold mI at aC;rw[a7 bA,bg aN]at aC;exact TV
def li.stop(h:li n D z state i p)(Y:D[i]?=some e)(bA:¬e.do'=4)(aN:¬e.do'=3)(a:e.do'=11):z={p with stop:=true}:=by
 rw[<-h.eq,xU Y];unfold mI;rw[a7 bA,a7 aN,bg a]
def li.fail(h:li n D z state i p)(Y:D[i]?=some e)(bA:¬e.do'=4)(aN:¬e.do'=3)(a:¬e.do'=11)(b:e.do'=12):z={p with fail:=e.name}:=by
 rw[<-h.eq,xU Y];unfold mI;rw[a7 bA,a7 aN,a7 a,bg b]
def li.send(h:li n D z state i p)(Y:D[i]?=some e)(bA:¬e.do'=4)(aN:¬e.do'=3)(a:¬e.do'=11)(b:¬e.do'=12)(ai:e.do'=1\/e.do'=8):li n D z state (i+1) TW:=by
 have aw:=(dp.1 Y).1;have aC:=h.eq;rw[xU Y]at aC;unfold mI at aC;rw[a7 bA,a7 aN,a7 a,a7 b,bg ai]at aC;exact TX
def li.jC(h:li n D z state i p)(Y:D[i]?=some e)(bA:¬e.do'=4)(aN:¬e.do'=3)(a:¬e.do'=11)(b:¬e.do'=12)(ai:¬(e.do'=1\/e.do'=8)):li n D z state (i+1) {p with cx:=p.cx++[e]}:=by
 have aw:=(dp.1 Y).1;have aC:=h.eq;rw[xU Y]at aC;unfold mI at aC;rw[a7 bA,a7 aN,a7 a,a7 b,a7 ai]at aC;exact TX
def li.done(h:li n D z state i p)(ak:¬i<D.length):z=p:=by
 rw[<-h.eq,CI ad];rfl
end
section
variable(k:cr)(state tag:cG)(n:Int)
def TY{a:Option Addr}{c m:Nat}{l:List fF}{e:fF}(h:l.length=m):own (.slice a (m+1) c) 87 7 (m+1) (l.flatMap fM++fM e)=km a c (l++[e]):=by subst h;simp only[km,qU,eZ,px,TZ,jb];rfl
def ald(hk:qS k)(a2:al)(o:∀h,a2 h->lg h k)(aO:-9223372036854775808<n/\n<=9223372036854775807)(h:k.states.find? xR=none):ab E 290 xS [a2] T0:=by
 refine av Tryz.func290 λH D=>?_;refine bb ?_;refine wn λaL=>?_;refine wn λZ=>?_;refine bj ?_;refine wn λcA=>?_;refine cB ?_;refine aU (ala k state tag n hk a2 o h) ?_;exact T1
def ale(hk:qS k)(a2:al)(o:∀h,a2 h->lg h k)(aO:-9223372036854775808<n/\n<=9223372036854775807)(s:fU)(ai:k.states.find? xR=some s)(h:s.rows.find? (p1 tag n)=none):ab E 290 xS [a2] T0:=by
 refine av Tryz.func290 λH D=>?_;refine bb ?_;refine wn λaL=>?_;refine wn λZ=>?_;refine bj ?_;refine wn λcA=>?_;refine cB ?_;refine aU (alb k state tag n hk a2 o s ai h) ?_;exact T1
def alf(hk:qS k)(a2:al)(o:∀h,a2 h->lg h k)(aO:-9223372036854775808<n/\n<=9223372036854775807)(s:fU)(r:Row)(ai:k.states.find? xR=some s)(h:s.rows.find? (p1 tag n)=some r)(z:dE)(O:mI n 0 r.cx Ak=z):ab E 290 xS [a2] (λu I=>∃a c,u=.agg (lh a c z).toArray/\I=[km a c z.cx,a2]):=by
 refine av Tryz.func290 λH D=>?_;have b:s∈k.states:=qT ai;have g:r∈s.rows:=qT h;have hlen:r.cx.length<=1759218604390:=(by have:=hk.da s b r g;omega);refine bb ?_;refine wn λaL=>?_;refine wn λZ=>?_;refine bj ?_;refine wn λcA=>?_;refine cB ?_;refine bu (alc k state tag n hk a2 o s r ai h) ?_;rintro _ _ ⟨ra,rc,rfl,rfl⟩;refine eM ?_;refine b2 ?_;refine wn λdm=>?_;refine bQ ?_;refine cP ?_;refine ct ?_;refine nu (jc (e:=87) (aZ:=7)) ?_;refine bQ ?_;refine hb (bv:=Nat×dE×Option Addr×Nat) (λx=>li n r.cx z state x.1 x.2.1) (λx=>[(30,af x.1),(29,af r.cx.length),(28,.slice ra r.cx.length rc),(9,ptr cA 0),(8,ptr Z 0),(1,S state),(3,af n)]) (λx=>aa cA 356 [.bool false,.slice x.2.2.1 x.2.1.cx.length x.2.2.2,S x.2.1.state,.bool false,S []]::km x.2.2.1 x.2.2.2 x.2.1.cx::km ra rc r.cx::aa Z 356 [.bool false,.slice none 0 0,S [],.bool false,S []]::a2::D) (λx=>r.cx.length -x.1) (0,⟨false,[],state,false,[]⟩,none,0) (⟨fk _,O,rfl,rfl,rfl,fk _,λ_=>rfl⟩) eb (au) ?_;rintro⟨i,p,a,c⟩ bK;replace bK:li n r.cx z state i p:=bK;have B:=bK.s3;have i7:=bK.len;dsimp only;refine bj ?_;refine ch (λW=>?_) (λW=>?_)
 . obtain⟨e,Y⟩:∃e,r.cx[i]?=some e:=⟨_,cD (show i<r.cx.length by omega)⟩
   refine ct ?_;refine aB rfl (gf rfl rfl (show i<r.cx.length by omega)) ?_;refine aB rfl (kz rfl (kA fM 7 xT Y) rfl) ?_;refine wn λf=>?_;refine s0 ?_;refine aG ?_;refine ch (λM=>?_) (λM=>?_)
   . have t:e.do'=4:=by simpa using M
     refine dB ?_;refine ch (λL=>?_) (λL=>?_)
     . obtain rfl:i=0:=by have:=L;omega
       refine gq ?_;refine bE ?_;refine xV (.inl rfl) rfl rfl rfl rfl [km none 0 z.cx,a2] (⟨none,0,by rw[bK.kx Y t];rfl,rfl⟩) (by rw[bK.kx Y t];exact λh s=>jc h ((au) h s))
     . have fI:¬i=0:=by have:=L;omega
       refine eY ?_;refine bb ?_;refine vM ?_;refine gg (i+1,p,a,c) (bK.skip Y t fI) (show r.cx.length -(i+1)<r.cx.length -i by omega) eb (au)
   . have z4:¬e.do'=4:=by simpa using M
     refine cB ?_;refine ch (λf9=>?_) (λf9=>?_)
     . have j:e.do'=3:=by simpa using f9
       refine gq ?_;refine T2 ?_;refine gg (i+1,{p with state:=e.name},a,c) (bK.aBN Y z4 j) (show r.cx.length -(i+1)<r.cx.length -i by omega) eb (au)
     . have z3:¬e.do'=3:=by simpa using f9
       refine cB ?_;refine ch (λw=>?_) (λw=>?_)
       . have F:e.do'=11:=by simpa using w
         refine s0 ?_;refine bj ?_;refine xV (.inl rfl) rfl rfl rfl rfl [km a c z.cx,a2] (⟨a,c,by rw[bK.stop Y z4 z3 F];simp[lh,bK.st,bK.s4];rfl,rfl⟩) (by rw[bK.stop Y z4 z3 F];exact(au))
       . have v:¬e.do'=11:=by simpa using w
         refine cB ?_;refine ch (λl=>?_) (λl=>?_)
         . have J:e.do'=12:=by simpa using l
           refine s0 ?_;refine bQ ?_;refine xV (.inl rfl) rfl rfl rfl rfl [km a c z.cx,a2] (⟨a,c,by rw[bK.fail Y z4 z3 v J];simp[lh,bK.st,bK.dJ];rfl,rfl⟩) (by rw[bK.fail Y z4 z3 v J];exact(au))
         . have K:¬e.do'=12:=by simpa using l
           refine cB ?_;refine ch (λm=>?_) (λm=>?_)
           . refine bb ?_
             refine ch (λq=>?_) (λq=>?_)
             . exact T3
             . refine gq ?_
               refine LW ?_;intro C a70 d;exfalso;omega
           . refine bE ?_
             refine ch (λy=>?_) (λy=>?_)
             . exact T3
             . refine gq ?_
               refine LW ?_;intro C a70 d;refine gg (i+1,{p with cx:=p.cx++[e]},a70,d) (bK.jC Y z4 z3 v K ad) (show r.cx.length -(i+1)<r.cx.length -i by omega) eb (by dsimp only;rw[<-TY (e:=e) rfl,show(p.cx++[e]).length=p.cx.length+1 from by simp];exact(au))
 . have N:=bK.done ad
   refine dB ?_;refine xV (.inl rfl) rfl rfl rfl rfl [km a c z.cx,a2] (⟨a,c,by rw[N];simp[lh,bK.st,bK.dJ,bK.s4];rfl,rfl⟩) (by rw[N];exact(au))
def alg(hk:qS k)(a2:al)(o:∀h,a2 h->lg h k)(aO:-9223372036854775808<n/\n<=9223372036854775807):ab E 290 xS [a2] (λu I=>∃a c,u=.agg (lh a c (kU k state tag n)).toArray/\I=[km a c (kU k state tag n).cx,a2]):=by
 cases ai:k.states.find? xR with
 |
  none=>
  have e:kU k state tag n=Ak:=by unfold kU rowOf;rw[ai];rfl
  rw[e];exact ald k state tag n hk a2 o aO ai
 |
  some s=>
  cases h:s.rows.find? (p1 tag n)with
  |
   none=>
   have e:kU k state tag n=Ak:=T4;rw[e];exact ale k state tag n hk a2 o aO s ai h
  |
   some r=>
   have e:kU k state tag n=mI n 0 r.cx Ak:=T4;rw[e];exact alf k state tag n hk a2 o aO s r ai h _ rfl
end
end Go.Proofs.YtnnhpnccfnghdaaGreat.L
namespace Go.Proofs.YtnnhpnccfnghdaaGreat.L
open Go.L Go.L.Lx Go.L.Pg
attribute[local irreducible] G cJ GE c3 GT b1 dk c7 ds Exit.then Exit.inBlock
section
variable(k:cr)(l:List Row){D:List al}{a:Option Addr}{α:Type}{c:Nat}
def mK(r:Row):Row:={r with ea:=none,cZ:=0}
def jm(s:fU):fU:={s with ra:=none,rc:=0,rows:=s.rows.map mK}
def dQ:cr:={k with ca:=none,kn:=0,sa:=none,sc:=0,states:=k.states.map jm}
structure F2(r:Row):Prop where
 tag:fi r.tag.length
 len:fi (r.cx.length*80)
 cx:∀e∈r.cx,CJ e
structure LX(s:fU):Prop where
 name:fi s.name.length
 len:fi (s.rows.length*56)
 rows:∀r∈s.rows,F2 r
structure lL(k:cr):Prop where
 name:fi k.name.length
 s6:fi (k.cases.length*24)
 cases:∀c∈k.cases,fi c.reason.length
 lens:fi (k.states.length*40)
 states:∀s∈k.states,LX s
def T5{h:eQ}{k:cr}(o:lg h k):lL k:=⟨o.name,o.s6,o.cases,o.lens,λs ai=>have g:=o.states s ai;⟨g.name,g.len,λr aF=>have q:=g.rows r aF;⟨q.tag,q.len,q.cx⟩⟩⟩
def lL.FY{k:cr}(o:lL k):qS k:=
 ⟨by
  have h1:k.cases.length*24<=140737488351232:=o.s6;omega,by
   have h1:k.states.length*40<=140737488351232:=o.lens;omega,λs ai=>by
    have h1:s.rows.length*56<=140737488351232:=(o.states s ai).len;omega,λs ai r aF=>((o.states s ai).rows r aF).len⟩
def xW{A B C:al}{D:List al}(f:∀h1 h2,ma h1 h2->A h1->B h2->C (join h1 h2)):∀h,Sat (A::B::D) h->Sat (C::D) h:=λh s=>by
 obtain⟨h1,g4,d,rfl,a,h2,aN,o,rfl,b,s⟩:=s;obtain⟨J,u⟩:=rI.1 d;exact⟨join h1 h2,aN,by
  intro x;rcases o x with e|e
  . rcases u x with g|g
    . exact .inl (by simp[join,g,e])
    . exact .inr g
  . exact .inr e,by rw[join_assoc],f h1 h2 J a b,s⟩
def CK:al:=λh=>∀r∈l,xX h r
def uf(l:List fU):al:=λh=>∀s∈l,vN h s
def alh:∀h,Sat D h->Sat (CK []::D) h:=λh s=>Sat.head (λ_ _ r aF=>by cases aF) (xY h s)
def ali:∀h,Sat D h->Sat (uf []::D) h:=λh s=>Sat.head (λ_ _ r aF=>by cases aF) (xY h s)
def vO{h1 h2:eQ}(d:ma h1 h2){b:Nat}{o:Obj}(e:h2 b=some o):join h1 h2 b=some o:=by
 rw[join_comm d];exact join_some e
def alj{r:Row}{aH:List Row}{D:List al}(ok:F2 r):∀h,Sat (own (.slice a r.cx.length c) 87 7 r.cx.length (r.cx.flatMap fM)::CK aH::D) h->Sat (CK (aH++[{r with ea:=a,cZ:=c}])::D) h:=
 xW λh1 h2 d o l x ah=>by
  rcases kX.1 ah with ah|ah
  . exact(l x ah).imp λb o e=>vO d e
  . simp at ah;subst ah
    exact⟨ok.tag,(jd.own o).imp λb o e=>join_some e,ok.len,ok.cx⟩
def alk{s:fU}{aH:List Row}{z:List fU}{D:List al}(aO:fi s.name.length)(aw:fi (aH.length*56)):∀h,Sat (own (.slice a aH.length c) 85 4 aH.length (aH.flatMap gY)::CK aH::uf z::D) h->Sat (uf (z++[⟨s.name,a,c,aH⟩])::D) h:=λh st=>
 xW (A:=λh=>vN h ⟨s.name,a,c,aH⟩) (B:=uf z) (λh1 h2 d o l x ah=>by
  rcases kX.1 ah with ah|ah
  . exact(l x ah).imp λb o e=>vO d e
  . simp at ah;subst ah;exact o.imp λb o e=>join_some e) h
  (xW (λh1 h2 d o l=>⟨aO,(jd.own o).imp λb o e=>join_some e,aw,λr aF=>(l r aF).imp λb o e=>vO d e⟩) h st)
def alm{k:cr}{cu cC:Option Addr}{c1 bq:Nat}{z:List fU}{D:List al}(ok:lL k)(aw:z.length=k.states.length):∀h,Sat (own (.slice cu k.cases.length c1) 89 2 k.cases.length (k.cases.flatMap jQ)::own (.slice cC z.length bq) 82 2 z.length (z.flatMap gB)::uf z::D) h->Sat (gb F3::D) h:=λh st=>
 xW (B:=λh=>jd h cC bq z.length (z.flatMap gB)/\uf z h) (λh1 h2 d o l=>⟨ok.name,(jd.own o).imp λb o e=>join_some e,ok.s6,ok.cases,l.1.imp λb o e=>vO d e,by rw[aw];exact ok.lens,λs ai=>(l.2 s ai).imp λb o e=>vO d e⟩) h
  (Sat.tail (λh s=>xW (λh1 h2 d o l=>⟨(jd.own o).imp λb o e=>join_some e,λs ai=>(l s ai).imp λb o e=>vO d e⟩) h s) st)
def T6(f:α->List Value)(aZ:Nat)(ba:∀x,(f x).length=aZ){l:List α}{k j:Nat}{y m:α}{x:Value}(ag:l[k]?=some y)(O:j<aZ)(Y:(f y).set j x=f m):(l.flatMap f).set (k*aZ+j) x=(l.set k m).flatMap f:=by
 obtain⟨hk,e⟩:=dp.1 ag;have aC:l=l.take k++y::l.drop (k+1):=by rw[<-e,List.getElem_cons_drop,CL]
 have d4:((l.take k).flatMap f).length=k*aZ:=T7;have aV:l.flatMap f=(l.take k).flatMap f++(f y++(l.drop (k+1)).flatMap f):=by
  conv=>lhs;rw[aC]
  rw[qU,px]
 rw[aV,<-d4,T8 _ _ ad,F4,F5 _ _ (by rw[ba];exact O),Y,aln,bg hk,qU,px]
def F6{l z:List α}{i:Nat}{s:α}(aw:z.length=i)(h:l[i]?=some s):(z++l.drop i)[i]?=some s:=by
 rw[py ad,aw,xZ,LY];exact h
def T9{l z:List α}{i:Nat}{s s1:α}(aw:z.length=i)(h:l[i]?=some s):(z++l.drop i).set i s1=z++s1::l.drop (i+1):=by
 obtain⟨ak,_⟩:=dp.1 h;rw[T8 _ _ ad,aw,xZ,s5 ak,List.set_cons_zero]
def alo{l z:List α}{i:Nat}{s1:α}(aw:z.length=i):(z++s1::l)[i]?=some s1:=by
 rw[py ad,aw,xZ];rfl
def alp(l:List mb):(l.flatMap jQ).all Value.oneCell'=true:=by
 rw[p2];intro x ah;obtain⟨e,_,Y⟩:=CF.1 ah;simp only[jQ,ky,Ah,or_false]at Y;rcases Y with rfl|rfl<;>rfl
def alq(l:List fU):(l.flatMap gB).all Value.oneCell'=true:=by
 rw[p2];intro x ah;obtain⟨e,_,Y⟩:=CF.1 ah;simp only[gB,ky,Ah,or_false]at Y;rcases Y with rfl|rfl<;>rfl
def row_one:(l.flatMap gY).all Value.oneCell'=true:=by
 rw[p2];intro x ah;obtain⟨e,_,Y⟩:=CF.1 ah;simp only[gY,ky,Ah,or_false]at Y;rcases Y with rfl|rfl|rfl|rfl<;>rfl
structure rJ{α:Type}(b:α->α)(l z:List α)(i:Nat):Prop where
 s3:i<=l.length
 len:z.length=i
 eq:z.map b=(l.take i).map b
def rJ.start{b:α->α}(l:List α):rJ b l [] 0:=⟨fk _,rfl,rfl⟩
def rJ.next{b:α->α}{l z:List α}{i:Nat}{s s1:α}(h:rJ b l z i)(ai:l[i]?=some s)(e:b s1=b s):rJ b l (z++[s1]) (i+1):=by
 obtain⟨ak,rfl⟩:=dp.1 ai;exact⟨ak,by simp[h.len],by rw[nv ak,oY,oY,h.eq];simp[e]⟩
def alr(ok:lL k)(a2:al)(o:∀h,a2 h->lg h k):ab E 102 [.agg (eH k).toArray] [a2] (λu I=>∃Y,dQ Y=dQ k/\u=.agg (eH Y).toArray/\I=[gb Y,a2]):=by
 refine av Tryz.func102 λH D=>?_;haveI:=ak2 o;haveI:=FX o;have T:=ok.FY;have t:k.cases.length*24<=140737488351232:=ok.s6;have w:k.states.length*40<=140737488351232:=ok.lens;refine bb ?_;refine wn λar=>?_;refine wn λV=>?_;refine bj ?_;refine cn rfl (b9 rfl (als k.ca k.kn k.cases.length (k.cases.flatMap jQ) (a2) (kW jQ 2 Al _) (alp _) ad) bN) ?_;rintro _ D ⟨_,⟨cu,c1,rfl,rfl⟩,rfl⟩;refine fC ?_;refine bQ ?_;refine cn rfl (b9 rfl (alt k.sa k.sc k.states.length (k.states.flatMap gB) (a2) (kW gB 2 qV _) (alq _) ad) bN) ?_;rintro _ D ⟨_,⟨cC,bq,rfl,rfl⟩,rfl⟩;refine Am ?_;refine nu ali ?_;refine bQ ?_;refine hb (bv:=Nat×List fU) (λe=>rJ jm k.states e.2 e.1) (λe=>((17,af e.1)::Ua)) (λe=>aa ar 78 Ub::own (.slice cu k.cases.length c1) 89 2 k.cases.length vL::own F7 82 2 k.states.length ((e.2++k.states.drop e.1).flatMap gB)::uf e.2::a2::aa V 78 [S [],af 0,af 0,.slice none 0 0,.slice none 0 0]::D) (λe=>k.states.length -e.1) (0,[]) (rJ.start _) eb (au) ?_;rintro⟨i,z⟩ bK;replace bK:rJ jm k.states z i:=bK;have B:=bK.s3;dsimp only;refine bj ?_;refine ch (λW=>?_) (λW=>?_)
 . obtain⟨s,l⟩:∃s,k.states[i]?=some s:=⟨_,cD (show i<k.states.length by omega)⟩
   have b:s∈k.states:=jH l;haveI:=LS o b;have p:s.rows.length*56<=140737488351232:=(ok.states s b).len;have m6:i*2+1<((z++k.states.drop i).flatMap gB).length:=(by rw[kW gB 2 qV,eZ,vP,bK.len];omega);refine eY ?_;refine aB rfl (gf rfl rfl (show i<k.states.length by omega)) ?_;refine cB ?_;refine aB rfl (gF rfl (rK gB 2 qV (F6 bK.len l) rfl)) ?_;refine cn rfl (b9 rfl (alu s.ra s.rc s.rows.length (s.rows.flatMap gY) (a2) (kW gY 4 ue _) (row_one _) ad) bN) ?_;rintro _ D ⟨_,⟨a3,b7,rfl,rfl⟩,rfl⟩;refine F8 ?_;refine ko (s7 rfl rfl rfl m6) ?_;refine b2 ?_;rw[T6 (m:=(⟨s.name,a3,b7,s.rows⟩:fU)) gB 2 qV (F6 bK.len l) bw rfl,T9 bK.len l];have q:(z++(F9:fU)::k.states.drop (i+1))[i]?=some (F9:fU):=alo bK.len;refine nu alh ?_;refine bR ?_;refine aB rfl LZ ?_;refine bE ?_;refine hb (bv:=Nat×List Row) (λe=>rJ mK s.rows e.2 e.1) (λe=>((37,af e.1)::(36,af s.rows.length)::(4,el F7 (i*2))::(17,af i)::Ua)) (λe=>aa ar 78 Ub::own (.slice cu k.cases.length c1) 89 2 k.cases.length vL::own F7 82 2 k.states.length Uc::own (.slice a3 s.rows.length b7) 85 4 s.rows.length ((e.2++s.rows.drop e.1).flatMap gY)::CK e.2::uf z::a2::aa V 78 [S [],af 0,af 0,.slice none 0 0,.slice none 0 0]::D) (λe=>s.rows.length -e.1) (0,[]) (rJ.start _) eb (au) ?_;rintro⟨j,aH⟩ d;replace d:rJ mK s.rows aH j:=d;have v:=d.s3;dsimp only;refine bj ?_;refine ch (λM=>?_) (λM=>?_)
   . obtain⟨r,f⟩:∃r,s.rows[j]?=some r:=⟨_,cD (show j<s.rows.length by omega)⟩
     have g:r∈s.rows:=jH f;haveI:=TL o b g;have y:r.cx.length*80<=140737488351232:=((ok.states s b).rows r g).len;have m3:j*4+3<((aH++s.rows.drop j).flatMap gY).length:=(by rw[kW gY 4 ue,eZ,vP,d.len];omega);refine dh ?_;refine cw [13] [105,8,201,2,201] [own F7 82 2 k.states.length Uc,own (.slice a3 s.rows.length b7) 85 4 s.rows.length ((aH++s.rows.drop j).flatMap gY),a2] ?_;refine b2 ?_;refine go_vs rfl .none rfl LZ (au) ?_;refine bR ?_;refine go_v rfl .none rfl LZ ?_;refine aG ?_;refine go_v rfl .none rfl (gf rfl rfl (show j<s.rows.length by omega)) ?_;refine aG ?_;refine go_v rfl .none rfl (gF rfl (rK gY 4 ue (F6 d.len f) rfl)) ?_;refine go_c rfl .none rfl (b9 rfl (TU r.ea r.cZ r.cx.length (r.cx.flatMap fM) (a2) (kW fM 7 xT _) (TM _) ad) bN) ?_;rintro _ D ⟨_,⟨a4,d8,rfl,rfl⟩,rfl⟩;refine rL ?_;refine go_v rfl .none rfl (gf rfl rfl (show j<s.rows.length by omega)) ?_;refine aG ?_;refine go_u rfl .none (s7 rfl rfl rfl m3) An ?_;refine bR ?_;refine L0 ?_;refine bb ?_;rw[T6 (m:=({r with ea:=a4,cZ:=d8}:Row)) gY 4 ue (F6 d.len f) bw rfl,T9 d.len f];refine gg (j+1,aH++[({r with ea:=a4,cZ:=d8}:Row)]) (d.next f rfl) (show s.rows.length -(j+1)<s.rows.length -j by omega) eb (by dsimp only;rw[jI,Ud];exact λh st=>((au)) h (alj (r:=r) (a:=a4) (c:=d8) (aH:=aH) (D:=aa ar 78 [S k.name,af k.limit,af k.within,.slice cu k.cases.length c1,.slice cC k.states.length bq]::own (.slice cu k.cases.length c1) 89 2 k.cases.length (k.cases.flatMap jQ)::own (.slice cC k.states.length bq) 82 2 k.states.length ((z++(⟨s.name,a3,b7,s.rows⟩:fU)::k.states.drop (i+1)).flatMap gB)::own (.slice a3 s.rows.length b7) 85 4 s.rows.length ((aH++({r with ea:=a4,cZ:=d8}:Row)::s.rows.drop (j+1)).flatMap gY)::uf z::a2::aa V 78 [S [],af 0,af 0,.slice none 0 0,.slice none 0 0]::D) ((ok.states s b).rows r g) h (((au)) h st)))
   . obtain rfl:j=s.rows.length:=by omega
     refine ct ?_;refine vM ?_;rw[Ue,jb];have n:=d.len;have aC:(z++(F9:fU)::k.states.drop (i+1)).flatMap gB=((z++[(⟨s.name,a3,b7,aH⟩:fU)])++k.states.drop (i+1)).flatMap gB:=(by rw[jI,Ud,qU,qU,px,px];simp[gB,n]);have aV:own (.slice a3 s.rows.length b7) 85 4 s.rows.length (aH.flatMap gY)=own (.slice a3 aH.length b7) 85 4 aH.length (aH.flatMap gY):=(by rw[n]);have bF:jm (⟨s.name,a3,b7,aH⟩:fU)=jm s:=(by have:=d.eq;rw[nT]at this;simp[jm,this]);have dx:fi (aH.length*56):=(by rw[n];exact p);refine gg (i+1,z++[(⟨s.name,a3,b7,aH⟩:fU)]) (bK.next l bF) (show k.states.length -(i+1)<k.states.length -i by omega) eb (by dsimp only;rw[aV,aC];exact λh st=>((au)) h (alk (s:=s) (a:=a3) (c:=b7) (aH:=aH) (z:=z) (D:=aa ar 78 [S k.name,af k.limit,af k.within,.slice cu k.cases.length c1,.slice cC k.states.length bq]::own (.slice cu k.cases.length c1) 89 2 k.cases.length (k.cases.flatMap jQ)::own (.slice cC k.states.length bq) 82 2 k.states.length (((z++[(⟨s.name,a3,b7,aH⟩:fU)])++k.states.drop (i+1)).flatMap gB)::a2::aa V 78 [S [],af 0,af 0,.slice none 0 0,.slice none 0 0]::D) (ok.states s b).name dx h (((au)) h st)))
 . obtain rfl:i=k.states.length:=by omega
   refine dB ?_;refine xV (.inl rfl) rfl rfl rfl rfl [gb (F3:cr),a2] (⟨(F3:cr),by have:=bK.eq;rw[nT]at this;simp[dQ,this],by show _=Value.agg (eH (F3:cr)).toArray;simp only[eH,bK.len];rfl,rfl⟩) (by rw[Ue,jb];have g0:=bK.len;exact λh st=>alm (k:=k) (cu:=cu) (cC:=cC) (c1:=c1) (bq:=bq) (z:=z) (D:=a2::D) ok g0 h (by rw[g0];exact(au) h st))
def Uf(K:List cr)(a:Option Addr)(c:Nat)(name:cG)(k:cr)(cV:K.length<=4611686018427387904)(ok:lL k)(ba:K.find? (λx=>decide (x.name=name))=some k)(a2:al)(o:∀h,a2 h->Pg.h8 h a c K):ab E 58 [.agg #[.slice a K.length c],S name] [a2] (λu I=>∃Y,dQ Y=dQ k/\u=.tuple #[.agg (eH Y).toArray,.bool true]/\I=[gb Y,a2]):=by
 refine av Tryz.func58 λH D=>?_;haveI:gw (.slice a K.length c) a2 K.length (K.flatMap eH):=⟨λh=>(o _ h).rd.1⟩;have hw:k∈K:=qT ba;obtain⟨i,d,i8,B⟩:=CH ba;refine nw ?_;intro V ay;refine wn λaL=>?_;refine bQ ?_;refine aU (alv K a c 101 [ptr ay 0] [a2,aa ay 9 [S name]] (λx=>decide (x.name=name)) cV (λh s=>je.get s) (λx _=>x0 (ak6 ay name x))) ?_;rw[d];refine ct ?_;refine cP ?_;refine dh ?_;refine aB rfl (gf rfl rfl B) ?_;refine L1 ?_;refine bu (alr k ok a2 (λh m=>(o h m).kinds k hw)) ?_;rintro _ _ ⟨Y,b,rfl,rfl⟩;refine eM ?_;refine bE ?_;exact LR (.inl rfl) rfl rfl rfl rfl rfl [gb Y,a2] ⟨Y,b,rfl,rfl⟩ (au)
end
end Go.Proofs.YtnnhpnccfnghdaaGreat.L
namespace Go.Proofs.YtnnhpnccfnghdaaGreat.L.Po
open Go.Proofs.YtnnhpnccfnghdaaGreat.L
open Go.L Go.L.Ring Go.L.dD
attribute[local irreducible] G cJ GE c3 GT b1 dk c7 ds Exit.then Exit.inBlock
abbrev asL(br:Nat):oE:=⟨306,[ptr br 0]⟩
instance:Coe Nat oE:=⟨asL⟩
abbrev asM(br m b gO lD:Nat):al:=aa br 223 [ptr m 0,af b,ptr gO 0,ptr lD 0]
structure nl where
 br:Nat
 m:Nat
 gO:Nat
 lD:Nat
def nl.r(X:nl):Bool->Nat
 |true=>X.lD
 |false=>X.gO
section
variable(X:nl)(U:Bool)(B:jw)(p:Nat)(Y:gz)
abbrev eF:al:=asM X.br X.m B.b (X.r false) (X.r true)
def oe:Bool->List Int
 |true=>[0,3]
 |false=>[0]
def qA:Bool->Nat
 |true=>2
 |false=>1
def asN:(oe U).length=qA U:=by cases U<;>rfl
def asO(s:Int):xj U s=decide (s∈oe U):=by
 cases U<;>simp[xj,oe]
abbrev u3(N:Nat):Value:=.slice (some ⟨N,0,none⟩) (qA U) (qA U)
abbrev qB(held r:Bool)(F:Nat):Value:=match r with
 |
  true=>(match held with
  |true=>.slice (some ⟨F,0,none⟩) 1 2
  |false=>.slice (some ⟨F,0,none⟩) 2 2)
 |false=>.slice (some ⟨F,1,none⟩) 1 1
def h6:vo->al
 |.put U o=>dq (bv:=Nat×Nat×Nat×Nat×Nat) (λ_=>True) (λe=>[cW p (yc e.1) (bk 264 [ptr e.2.1 0,ptr e.2.2.1 0,ptr e.2.2.2.1 0]) 0 0 X.br,h3 e.1 (X.r U) o,aa e.2.1 326 [ptr e.1 0],aa e.2.2.1 246 [ptr p 0],aa e.2.2.2.1 49 [u3 U e.2.2.2.2],aa e.2.2.2.2 36 ((oe U).map bx)])
 |.po U=>dq (bv:=Nat×Nat×Nat×Nat×Nat) (λ_=>True) (λe=>[cW p (mf e.1) (bk 318 [ptr e.2.2.2.1 0,ptr e.2.1 0,ptr e.2.2.1 0]) 0 0 X.br,qZ e.1 X.m B.b,aa e.2.1 314 [ptr e.1 0],aa e.2.2.1 246 [ptr p 0],aa e.2.2.2.1 49 [u3 U e.2.2.2.2],aa e.2.2.2.2 36 ((oe U).map bx)])
 |.swp U s=>dq (bv:=Nat×Nat×Nat×Nat×Nat) (λ_=>True) (λe=>[cW p (mf e.1) (bk 319 [ptr e.2.1 0,ptr e.2.2.1 0,ptr e.2.2.2.1 0]) 0 0 X.br,tP e.1 X.m B.b s 1,aa e.2.1 314 [ptr e.1 0],aa e.2.2.1 246 [ptr p 0],aa e.2.2.2.1 49 [u3 U e.2.2.2.2],aa e.2.2.2.2 36 ((oe U).map bx)])
 |.ask v=>dq (bv:=Nat×Nat×Nat×Nat×Nat) (λ_=>True) (λe=>[cW p (mf e.1) (bk 216 [ptr e.2.1 0,ptr e.2.2.1 0,ptr e.2.2.2.1 0,ptr e.2.2.2.2 0]) 0 0 X.br,tP e.1 X.m (B.b+1) 0 1,aa e.2.1 314 [ptr e.1 0],aa e.2.2.1 246 [ptr p 0],aa e.2.2.2.1 116 [ptr X.br 0],aa e.2.2.2.2 36 [bx v]])
 |.set st=>dq (bv:=Nat×Nat) (λ_=>True) (λe=>[cW p (mf e.1) (bk 229 [ptr e.2 0]) 0 0 X.br,tj e.1 X.m B.b st,aa e.2 246 [ptr p 0]])
 |.of r o=>dq (bv:=Nat×Nat×Nat) (λ_=>True) (λe=>[cW p (yc e.1) (bk 283 [ptr e.2.1 0,ptr e.2.2 0]) 0 0 X.br,h3 e.1 (X.r r) o,aa e.2.1 246 [ptr p 0],aa e.2.2 326 [ptr e.1 0]])
 |.gone=>dq (bv:=Nat×Nat×Nat) (λ_=>True) (λe=>[cW p (mf e.1) (bk 428 [ptr e.2.1 0,ptr e.2.2 0]) 0 0 X.br,qZ e.1 X.m B.b,aa e.2.1 314 [ptr e.1 0],aa e.2.2 246 [ptr p 0]])
 |.tQ held=>dq (bv:=Nat×Nat×Nat×Nat×Nat) (λ_=>True) (λe=>[cW p (mf e.1) (bk 337 [ptr e.2.1 0,ptr e.2.2.1 0,ptr e.2.2.2.1 0]) 0 0 X.br,tj e.1 X.m B.b (iO held),aa e.2.1 246 [ptr p 0],aa e.2.2.1 36 [bx (iO held)],aa e.2.2.2.1 380 [qB held true e.2.2.2.2],aa e.2.2.2.2 213 [ptr (X.r true) 0,ptr (X.r false) 0]])
 |.look held r o=>dq (bv:=Nat×Nat×Nat×Nat×Nat×Nat) (λ_=>True) (λe=>[cW p (yc e.1) (bk 383 [ptr e.2.1 0,ptr e.2.2.1 0,ptr e.2.2.2.1 0,ptr e.2.2.2.2.1 0]) 0 0 X.br,h3 e.1 (X.r r) o,aa e.2.1 326 [ptr e.1 0],aa e.2.2.1 246 [ptr p 0],aa e.2.2.2.1 36 [bx (iO held)],aa e.2.2.2.2.1 380 [qB held r e.2.2.2.2.2],aa e.2.2.2.2.2 213 [ptr (X.r true) 0,ptr (X.r false) 0]])
 |.more held=>dq (bv:=Nat×Nat×Nat) (λ_=>True) (λe=>[cW p (mf e.1) (bk 384 [ptr e.2.1 0,ptr e.2.2 0]) 0 0 X.br,tP e.1 X.m B.b (iO held) 1,aa e.2.1 314 [ptr e.1 0],aa e.2.2 246 [ptr p 0]])
def ET(out val:Int):al:=dq (bv:=Value×Value) (λ_=>True) (λe=>[cW p e.1 e.2 out val X.br])
def fa:al:=if Y.out=0 then h6 X B p Y.ph else ET X p Y.out Y.val
def qp{X:nl}{B:jw}{p:Nat}{ph:vo}{v:Int}{M D:List al}(h:∀h,Sat M h->Sat (h6 X B p ph::D) h):∀h,Sat M h->Sat (fa X B p ⟨ph,0,v⟩::D) h:=by
 unfold fa;rw[bg rfl];exact h
def Qo{X:nl}{B:jw}{p:Nat}{ph:vo}{out v:Int}{M D:List al}(aJ:out≠0)(x y:Value)(h:∀h,Sat M h->Sat (cW p x y out v X.br::D) h):∀h,Sat M h->Sat (fa X B p ⟨ph,out,v⟩::D) h:=by
 unfold fa;rw[a7 aJ];exact cE (x,y) trivial h
def pk:ab E 254 [ptr p 0] BK (aH (.bool Y.over) BK):=by
 obtain⟨ph,out,val⟩:=Y;by_cases aJ:out=0
 . subst aJ
   have e:fa X B p uC=h6 X B p ph:=Im;rw[e];cases ph<;>exact kC (λx _=>j9 (tq p X.br _ _ 0 0) nz tp)
 . have e:fa X B p o4=ET X p out val:=by unfold fa;rw[a7 aJ]
   rw[e];exact kC (λx _=>j9 (tq p X.br _ _ out val) nz tp)
end
section
variable{U:Bool}{i:Nat}{s:Int}
def asP(h:i<(oe U).length)(e:(oe U).getD i 0=s):xj U s=true:=by
 rw[asO];refine lM ?_;rw[<-e,iW,cD h];exact vl _
def asQ(h:i=qA U)(e:∀j,j<i->(oe U).getD j 0≠s):xj U s=false:=by
 subst h;cases U
 . have:=e 0 bw;simp[oe]at this;simp[xj];omega
 . have:=e 0 bw;have h2:=e 1 bw;simp[oe]at this h2;simp[xj];omega
end
section
variable(X:nl)(B:jw)(p:Nat)(x y:Value)(U:Bool)(N q z gt b7 d8 fd F az g8:Nat)(v s:Int)(ev ep:Bool)(o:fz)
def ahp:ab E 265 [ptr p 0,u3 U N] (cW p x y 0 0 X.br::Pt) (aH eN [h6 X B p (.po U),eF X B]):=by
 refine av Tryz.func265 λH D=>?_;refine nw ?_;intro V ay;refine b2 ?_;refine iu [14,15,16] [15] [1,5,9,13,17,21,25,29,33,37,41,45,49,53,58,62,66,3,3,3,62,58,66] [cW p x y 0 0 X.br,eF X B,aa V 246 [ptr p 0]] ?_;refine gd ?_;refine fm ?_ ?_
 . refine bu (J6 X.m B.b) ?_
   refine Rq ?_;intro z aL;exact adp
 . refine wn λaL=>?_
   refine aG ?_;refine bu (J6 X.m B.b) ?_;refine Rl ?_;intro z;exact adp
def asR:ab E 319 [ptr fd 0,ptr az 0,ptr g8 0] (cW p x y 0 0 X.br::nX z 0 ep::aa fd 314 [ptr z 0]::abn) (aH eN [fa X B p (if ep then⟨.swp U s,7,0⟩else EC),eF X B]):=by
 refine av Tryz.func319 λH D=>?_;refine yg ?_;intro f;refine cB ?_;refine ch (λW=>?_) (λW=>?_)
 . subst W
   refine bE ?_;refine aU (mQ p X.br x y 0 0 7 0) ?_;refine bE ?_;exact aQ (I:=[fa X B p ⟨.swp U s,7,0⟩,eF X B]) cj tI
 . subst W
   refine bE ?_;refine aU (ahp X B p x y U N) ?_;refine bb ?_;exact aQ (I:=[fa X B p ⟨.po U,0,0⟩,eF X B]) ⟨rfl,rfl⟩ (qp (au))
def asS(cs az:Nat)(s:Int)(ep:Bool):ab E 318 [ptr g8 0,ptr cs 0,ptr az 0] (cW p x y 0 0 X.br::nX z s ep::aa g8 49 [u3 U N]::aa cs 314 [ptr z 0]::aa az 246 [ptr p 0]::Pt) (aH eN [fa X B p (if xj U s then⟨.swp U s,0,0⟩else⟨.po U,1,0⟩),eF X B]):=by
 refine av Tryz.func318 λH D=>?_;refine yg ?_;intro f;have T:=asN U;have R:qA U<=2:=by cases U<;>decide
 refine cB ?_;refine hb (bv:=Nat) (λi=>i<=qA U/\∀j,j<i->(oe U).getD j 0≠s) (λi=>[(8,af i),(7,af (qA U:Nat)),(6,u3 U N),(2,ptr az 0),(1,ptr cs 0),(0,ptr g8 0)]) (λi=>o1 z f true s ep::cW p x y 0 0 X.br::aa g8 49 [u3 U N]::aa cs 314 [ptr z 0]::aa az 246 [ptr p 0]::aa N 36 ((oe U).map bx)::eF X B::D) (λi=>qA U -i) 0 (⟨fk _,λj O=>absurd O (KI _)⟩) eb (au) ?_;rintro i ⟨ak,hu⟩;have ak:i<=qA U:=ak;refine bj ?_;refine ch (λW=>?_) (λW=>?_)
 . have d4:i<qA U:=by omega
   refine ct ?_;refine aB rfl (gF rfl (CP (f:=bx) (d:=0) ad)) ?_;refine bb ?_
   generalize ag:(oe U).getD i 0=y
   refine c4 ?_;refine ch (λM=>?_) (λM=>?_)
   . obtain rfl:s=y:=M
     have he:=asP (show i<(oe U).length by omega) ag;refine aG ?_;refine iu [15,16,17] [16] Pq [cW p x y 0 0 X.br,eF X B,aa az 246 [ptr p 0]] ?_;refine eY ?_;refine fm ?_ ?_
     . refine bu (xf X.m B.b s 1) ?_
       rintro _ _ ⟨a,rfl,rfl⟩;refine eM ?_;refine aG ?_;refine wn λaR=>?_;exact aft
     . refine wn λaR=>?_
       refine aG ?_;refine bu (xf X.m B.b s 1) ?_;rintro _ _ ⟨a,rfl,rfl⟩;refine eM ?_;exact aft
   . refine bR ?_
     refine aB rfl (fy ((i+1:Nat):Int) ff rfl rfl) ?_;refine bb ?_;refine gg (i+1) ⟨by omega,λj O=>by rcases Nat.lt_succ_iff_lt_or_eq.1 O with h|h;exact hu j h;subst h;rw[ag];exact λh=>M h.symm⟩ (by show qA U -(i+1)<qA U -i;omega) eb (au)
 . have b:i=qA U:=by omega
   refine cB ?_;refine aU Js ?_;refine bb ?_;exact aQ (I:=[fa X B p ⟨.po U,1,0⟩,eF X B]) ⟨rfl,by rw[asQ b hu];rfl⟩ tI
def RI:ab E 217 [ptr p 0,ptr (X.r U) 0,bx v,u3 U N] [cW p x y 0 0 X.br,aa N 36 ((oe U).map bx)] (aH eN [h6 X B p (.put U (gi 0 v))]):=by
 refine av Tryz.func217 λH D=>?_;refine bb ?_;refine wn λaL=>?_;refine wn λbV=>?_;refine bj ?_;refine bu (Vx (X.r U) v) ?_;refine ny ?_;intro q;refine wn λZ=>?_;refine aed ?_;refine aU (AC p q (X.r U) X.br x y _ rfl 0 0 (gi 0 v) rfl) ?_;refine b2 ?_;exact aQ (I:=[h6 X B p (.put U (gi 0 v))]) cj (cE (q,Z,aL,bV,N) trivial (au))
def ahq(c az g8:Nat)(o:fz)(aJ:o.out≠0):ab E 264 [ptr c 0,ptr az 0,ptr g8 0] (cW p x y 0 0 X.br::h3 q (X.r U) o::aa c 326 [ptr q 0]::abn) (aH eN [fa X B p (if o.out=1 then EC else⟨.put U o,o.out,0⟩),eF X B]):=by
 refine av Tryz.func264 λH D=>?_;refine bR ?_;refine aU (us q (X.r U) o) ?_;refine b2 ?_;refine ch (λW=>?_) (λW=>?_)
 . refine aG ?_
   refine cw [4] [103,1,202] [aa az 246 [ptr p 0],aa c 326 [ptr q 0]] ?_;refine bR ?_;refine aU (us q (X.r U) o) ?_;refine aG ?_;refine aU (mQ p X.br x y 0 0 o.out 0) ?_;refine bj ?_;exact aQ (I:=[fa X B p ⟨.put U o,o.out,0⟩,eF X B]) Ev (Qo aJ x y (au))
 . refine bE ?_
   refine aU (ahp X B p x y U N) ?_;refine bb ?_;exact aQ (I:=[fa X B p ⟨.po U,0,0⟩,eF X B]) ⟨rfl,by rw[bg W]⟩ (qp (au))
def asT:ab E 209 [ptr X.br 0,bx v] [eF X B] (λu I=>∃p,u=ptr p 0/\I=[h6 X B p (.put false (gi 0 v)),eF X B]):=by
 refine av Tryz.func209 λH D=>?_;refine cB ?_;refine wn λZ=>?_;refine c4 ?_;refine wn λd=>?_;refine aU (RI X B Z _ _ false d v) ?_;refine dh ?_;exact aQ ⟨Z,rfl,rfl⟩
def asU:ab E 355 [ptr X.br 0,bx v] [eF X B] (λu I=>∃p,u=ptr p 0/\I=[h6 X B p (.put true (gi 0 v)),eF X B]):=by
 refine av Tryz.func355 λH D=>?_;refine cB ?_;refine wn λZ=>?_;refine c4 ?_;refine wn λd=>?_;refine aU (RI X B Z _ _ true d v) ?_;refine dh ?_;exact aQ ⟨Z,rfl,rfl⟩
def asV(bq b7:Nat)(v:Int)(ep:Bool):ab E 216 [ptr gt 0,ptr fd 0,ptr bq 0,ptr b7 0] (cW p x y 0 0 X.br::nX z 0 ep::aa gt 314 [ptr z 0]::abH) (aH eN [fa X B p (if ep then Qn else⟨.ask v,4,0⟩),eF X B]):=by
 refine av Tryz.func216 λH D=>?_;refine yg ?_;intro f;refine dh ?_;refine ch (λW=>?_) (λW=>?_)
 . subst W
   refine bE ?_;refine aU (mQ p X.br x y 0 0 4 0) ?_;refine bE ?_;exact aQ (I:=[fa X B p ⟨.ask v,4,0⟩,eF X B]) cj tI
 . subst W
   refine bb ?_;refine cw [6] [106,202] abH ?_;refine bj ?_;refine wn λa=>?_;refine aG ?_;refine aU (RI X B p x y true a v) ?_;refine b2 ?_;exact aQ (I:=[fa X B p ⟨.put true (gi 0 v),0,0⟩,eF X B]) ⟨rfl,rfl⟩ (qp (au))
def asW(cd:B.b<=65536)(v:Int):ab E 165 [ptr X.br 0,bx v] [eF X B] (λu I=>∃p,u=ptr p 0/\I=[h6 X B p (.ask v),eF X B]):=by
 refine av Tryz.func165 λH D=>?_;refine nw ?_;intro V ay;refine ct ?_;refine wn λcA=>?_;refine wn λaR=>?_;refine bR ?_;refine iu [9,10,11] [10] I1 [eF X B,aa V 116 tF] ?_;refine bQ ?_;refine jJ rfl .none rfl (fy ((B.b+1:Nat):Int) ff rfl rfl) (au) ?_;refine fm ?_ ?_
 . refine bu (xf X.m (B.b+1) 0 1) ?_
   rintro _ _ ⟨z,rfl,rfl⟩;refine eM ?_;refine aG ?_;refine wn λaM=>?_;exact afs
 . refine wn λaM=>?_
   refine aG ?_;refine bu (xf X.m (B.b+1) 0 1) ?_;rintro _ _ ⟨z,rfl,rfl⟩;refine eM ?_;exact afs
def asX(z fd:Nat)(st:Int):ab E 229 [ptr fd 0] [cW p x y 0 0 X.br,aa fd 246 [ptr p 0]] (aH eN [fa X B p ⟨.set st,1,0⟩]):=by
 refine av Tryz.func229 λH D=>?_;refine bR ?_;refine aU Js ?_;refine bb ?_;exact aQ (I:=[fa X B p ⟨.set st,1,0⟩]) cj tI
def RJ:ab E 193 [ptr X.br 0,bx v] [eF X B] (λu I=>∃p,u=ptr p 0/\I=[h6 X B p (.set v),eF X B]):=by
 refine av Tryz.func193 λH D=>?_;refine cB ?_;refine wn λZ=>?_;refine wn λaR=>?_;refine bR ?_;refine h0 [12,15] [12] O2 [eF X B,aa aR 246 [ptr Z 0]] mixed hM ?_;refine fB ?_;refine bu (GC X.m B.b v) ?_;refine GD ?_;intro z;refine aU (GF Z z X.br X.m B.b v _ _ _ rfl 0 0) ?_;refine c4 ?_;exact aQ (I:=[h6 X B Z (.set v),eF X B]) ⟨Z,rfl,rfl⟩ (cE (z,aR) trivial (au))
def asY:ab E 137 tF [eF X B] (λu I=>∃p,u=ptr p 0/\I=[h6 X B p (.set 2),eF X B]):=by
 refine av Tryz.func137 λH D=>?_;refine bQ ?_;refine bu (RJ X B 2) ?_;exact q5
def asZ:ab E 233 tF [eF X B] (λu I=>∃p,u=ptr p 0/\I=[h6 X B p (.set 1),eF X B]):=by
 refine av Tryz.func233 λH D=>?_;refine bQ ?_;refine bu (RJ X B 1) ?_;exact q5
def as0:ab E 362 tF [eF X B] (λu I=>∃p,u=ptr p 0/\I=[h6 X B p (.set 4),eF X B]):=by
 refine av Tryz.func362 λH D=>?_;refine bQ ?_;refine bu (RJ X B 4) ?_;exact q5
def ahr(r fd b7:Nat)(ev:Bool)(o:fz)(aJ:o.out≠0):ab E 283 [ptr fd 0,ptr b7 0] [cW p x y 0 0 X.br,h3 q r o,aa fd 246 [ptr p 0],aa b7 326 [ptr q 0]] (aH eN [fa X B p ⟨.of ev o,o.out,o.value⟩]):=by
 refine av Tryz.func283 λH D=>?_;refine h0 [4,6,7] [4,6] [(0,.bL),(1,.bL),(2,.bL),(3,.loc),(5,.bL),(4,.da),(6,.da),(7,.da)] [aa fd 246 [ptr p 0],aa b7 326 [ptr q 0]] mixed hM ?_;refine bE ?_;refine aU (us q r o) ?_;refine aG ?_;refine aU (Mw q r o) ?_;refine aG ?_;refine aU (mQ p X.br x y 0 0 o.out o.value) ?_;refine b2 ?_;exact aQ (I:=[fa X B p ⟨.of ev o,o.out,o.value⟩]) cj (Qo aJ x y (au))
def KJ(aJ:o.over=false):ab E 230 [ptr X.br 0,ptr q 0] [eF X B,h3 q (X.r ev) o] (λu I=>∃p,u=ptr p 0/\I=[h6 X B p (.of ev o),eF X B]):=by
 refine av Tryz.func230 λH D=>?_;refine bb ?_;refine wn λay=>?_;refine ct ?_;refine wn λZ=>?_;refine wn λaR=>?_;refine bR ?_;refine adN ?_;refine aU (AC Z q (X.r ev) X.br _ _ _ rfl 0 0 o aJ) ?_;refine c4 ?_;exact aQ (I:=[h6 X B Z (.of ev o),eF X B]) ⟨Z,rfl,rfl⟩ (cE (q,aR,ay) trivial (au))
def as1:ab E 239 tF [eF X B] (λu I=>∃p,u=ptr p 0/\I=[h6 X B p (.of false (gi 5 0)),eF X B]):=by
 refine av Tryz.func239 λH D=>?_;refine dB ?_;refine bu (Mu (X.r false)) ?_;refine ny ?_;intro q;refine bu (KJ X B q false (gi 5 0) rfl) ?_;exact q5
def as2:ab E 194 tF [eF X B] (λu I=>∃p,u=ptr p 0/\I=[h6 X B p (.of true (gi 5 0)),eF X B]):=by
 refine av Tryz.func194 λH D=>?_;refine dB ?_;refine bu (Mu (X.r true)) ?_;refine ny ?_;intro q;refine bu (KJ X B q true (gi 5 0) rfl) ?_;exact q5
def as3:ab E 358 tF [eF X B] (λu I=>∃p,u=ptr p 0/\I=[h6 X B p (.of false (gi 14 0)),eF X B]):=by
 refine av Tryz.func358 λH D=>?_;refine dB ?_;refine bu (as4 (X.r false)) ?_;refine ny ?_;intro q;refine bu (KJ X B q false (gi 14 0) rfl) ?_;exact q5
def as5:ab E 400 tF [eF X B] (λu I=>∃p,u=ptr p 0/\I=[h6 X B p (.of false (gi 10 0)),eF X B]):=by
 refine av Tryz.func400 λH D=>?_;refine dB ?_;refine bu (as6 (X.r false)) ?_;refine ny ?_;intro q;refine bu (KJ X B q false (gi 10 0) rfl) ?_;exact q5
def as7(b7:Nat)(s:Int)(ep:Bool):ab E 428 [ptr d8 0,ptr b7 0] [cW p x y 0 0 X.br,nX z s ep,aa d8 314 [ptr z 0],aa b7 246 [ptr p 0]] (aH eN [fa X B p ⟨.gone,if s=4 then 1 else 4,0⟩]):=by
 refine av Tryz.func428 λH D=>?_;refine yg ?_;intro f;refine dh ?_;refine ch (λW=>?_) (λW=>?_)
 . refine bE ?_
   refine aU Js ?_;refine bE ?_;exact aQ (I:=[fa X B p ⟨.gone,1,0⟩]) ⟨rfl,by rw[bg W]⟩ tI
 . refine bj ?_
   refine aU (mQ p X.br x y 0 0 4 0) ?_;refine bb ?_;exact aQ (I:=[fa X B p ⟨.gone,4,0⟩]) Ev tI
def as8:ab E 393 tF [eF X B] (λu I=>∃p,u=ptr p 0/\I=[h6 X B p .gone,eF X B]):=by
 refine av Tryz.func393 λH D=>?_;refine cB ?_;refine wn λbV=>?_;refine wn λay=>?_;refine bR ?_;refine iu [8,9,10] [9] wa [eF X B] ?_;refine bQ ?_;refine fm ?_ ?_
 . refine GI ?_
   intro z;refine aG ?_;refine wn λaL=>?_;exact afq
 . refine wn λaL=>?_
   refine aG ?_;refine GI ?_;intro z;exact afq
def as9(held:Bool)(z d8 c1:Nat)(ep:Bool):ab E 384 [ptr d8 0,ptr c1 0] [cW p x y 0 0 X.br,nX z 0 ep,aa d8 314 [ptr z 0],aa c1 246 [ptr p 0]] (aH eN [fa X B p (if ep then JJ else JK)]):=by
 refine av Tryz.func384 λH D=>?_;refine yg ?_;intro f;refine cB ?_;refine ch (λW=>?_) (λW=>?_)
 . subst W
   refine bE ?_;refine aU (mQ p X.br x y 0 0 8 0) ?_;refine bE ?_;exact aQ (I:=[fa X B p JJ]) cj tI
 . subst W
   refine bj ?_;refine aU Js ?_;refine bb ?_;exact aQ (I:=[fa X B p JK]) cj tI
def ahs(B:jw)(p:Nat)(x y:Value)(st:Int)(a:Option Addr)(c:Nat):ab E 338 [ptr p 0,bx st,.slice a 0 c] [cW p x y 0 0 X.br] (aH eN [cW p x y 4 0 X.br]):=by
 refine av Tryz.func338 λH D=>?_;refine Kn ?_;intro ay aL aR;refine nI ?_;refine bE ?_;refine aU (mQ p X.br x y 0 0 4 0) ?_;refine bE ?_;exact aQ cj
def ata:ab E 338 [ptr p 0,bx (iO true),qB true true F] PE (aH eN [h6 X B p (.look true true (gi 12 0))]):=by
 refine agt ?_;intro H D ay aL aR q aM;exact aQ (I:=[h6 X B p (.look true true (gi 12 0))]) cj PR
def atb(aJ:o.out≠0):ab E 383 P1 (cW p x y 0 0 X.br::h3 q (X.r true) o::aa gt 326 [ptr q 0]::aa b7 246 [ptr p 0]::aa d8 36 [bx (iO true)]::aa fd 380 [qB true true F]::PM) (aH eN [fa X B p (if o.out=1 then⟨.more true,0,0⟩else⟨.look true true o,4,0⟩),eF X B]):=by
 refine av Tryz.func383 λH D=>?_;refine bR ?_;refine aU (us q (X.r true) o) ?_;refine b2 ?_;refine ch (λW=>?_) (λW=>?_)
 . refine aG ?_
   refine cw [] [4,201] [aa b7 246 [ptr p 0],aa d8 36 [bx (iO true)],aa fd 380 [qB true true F]] ?_;refine QE ?_;refine aU (ahs X B p x y (iO true) _ _) ?_;refine bj ?_;exact aQ (I:=[fa X B p ⟨.look true true o,4,0⟩,eF X B]) Ev tI
 . refine b2 ?_
   refine iu [15,16,17] [16] Pq [cW p x y 0 0 X.br,aa b7 246 [ptr p 0],aa d8 36 [bx (iO true)],eF X B] ?_;refine eY ?_;refine fm ?_ ?_
   . refine bu (xf X.m B.b (iO true) 1) ?_
     refine Rq ?_;intro z aL;exact ads
   . refine wn λaL=>?_
     refine aG ?_;refine bu (xf X.m B.b (iO true) 1) ?_;refine Rl ?_;intro z;exact ads
def atc:ab E 287 [ptr X.br 0,.bool true] [eF X B] (λu I=>∃p,u=ptr p 0/\I=[h6 X B p (.tQ true),eF X B]):=by
 refine av Tryz.func287 λH D=>?_;refine cB ?_;refine wn λdm=>?_;refine wn λaR=>?_;refine b2 ?_;refine Dh (λact w=>∃(x y:Value) (aM bV a:Nat),hl Tryz.f287.ntmps [(7,ptr bV 0),(6,ptr aM 0),(5,ptr aR 0),(4,.pointer none),(1,.bool true),(0,ptr X.br 0)] act/\dt H Z8 w) ?_ ?_
 . exact aer
 . rintro act w ⟨x,y,aM,bV,a,g0,st⟩
   refine Di ?_ g0 st;clear g0 st act w;refine bj ?_;refine nI ?_;refine cw [2] [102,202] [aa bV 380 [.slice (some ⟨a,0,none⟩) 2 2]] ?_;refine aG ?_;refine go_vs rfl .none rfl (th (i:=1) rfl rfl bw) (au) ?_;refine bE ?_;refine h0 [12,15] [12] O2 [eF X B,aa aM 36 [bx (iO true)],aa aR 246 [ptr dm 0]] mixed hM ?_;refine fB ?_;refine bu (GC X.m B.b (iO true)) ?_;refine GD ?_;intro z;refine aU (GF dm z X.br X.m B.b (iO true) _ _ _ rfl 0 0) ?_;refine c4 ?_;exact aQ (I:=[h6 X B dm (.tQ true),eF X B]) ⟨dm,rfl,rfl⟩ (cE (z,aR,aM,bV,a) trivial (au))
def atd(gt S F:Nat):ab E 337 [ptr fd 0,ptr gt 0,ptr S 0] [cW p x y 0 0 X.br,aa fd 246 [ptr p 0],aa gt 36 [bx (iO true)],aa S 380 [qB true true F],aa F 213 D5] (aH eN [fa X B p ⟨.look true true (gi 12 0),0,0⟩]):=by
 refine av Tryz.func337 λH D=>?_;refine bR ?_;refine aU (ata X B p x y F) ?_;refine bb ?_;exact aQ (I:=[fa X B p ⟨.look true true (gi 12 0),0,0⟩]) cj (qp (au))
def ate:ab E 338 [ptr p 0,bx (iO false),qB false false F] PE (aH eN [h6 X B p (.look false false (gi 12 0))]):=by
 refine afK ?_;intro H D ay aL aR;refine bu (agu (X.r false)) ?_;refine afn ?_;intro q aM;refine aU (AC p q (X.r false) X.br x y _ rfl 0 0 (gi 12 0) rfl) ?_;refine b2 ?_;exact aQ (I:=[h6 X B p (.look false false (gi 12 0))]) cj PR
def atf(aJ:o.out≠0):ab E 383 P1 (cW p x y 0 0 X.br::h3 q (X.r false) o::aa gt 326 [ptr q 0]::aa b7 246 [ptr p 0]::aa d8 36 zi::aa fd 380 [qB false false F]::PM) (aH eN [fa X B p (if o.out=1 then⟨.more false,0,0⟩else⟨.look false false o,4,0⟩),eF X B]):=by
 refine av Tryz.func383 λH D=>?_;refine bR ?_;refine aU (us q (X.r false) o) ?_;refine b2 ?_;refine ch (λW=>?_) (λW=>?_)
 . refine aG ?_
   refine cw [] [4,201] [aa b7 246 [ptr p 0],aa d8 36 zi,aa fd 380 [qB false false F]] ?_;refine QE ?_;refine aU (ahs X B p x y (iO false) _ _) ?_;refine bj ?_;exact aQ (I:=[fa X B p ⟨.look false false o,4,0⟩,eF X B]) Ev tI
 . exact aeV
def atg:ab E 338 [ptr p 0,bx (iO false),qB false true F] PE (aH eN [h6 X B p (.look false true (gi 12 0))]):=by
 refine agt ?_;intro H D ay aL aR q aM;exact aQ (I:=[h6 X B p (.look false true (gi 12 0))]) cj PR
def ath(aJ:o.out≠0):ab E 383 P1 (cW p x y 0 0 X.br::h3 q (X.r true) o::aa gt 326 [ptr q 0]::aa b7 246 [ptr p 0]::aa d8 36 zi::aa fd 380 [qB false true F]::PM) (aH eN [fa X B p (if o.out=1 then⟨.more false,0,0⟩else⟨.look false false (gi 12 0),0,0⟩),eF X B]):=by
 refine av Tryz.func383 λH D=>?_;refine bR ?_;refine aU (us q (X.r true) o) ?_;refine b2 ?_;refine ch (λW=>?_) (λW=>?_)
 . refine aG ?_
   refine cw [] [4,201] [aa b7 246 [ptr p 0],aa d8 36 zi,aa fd 380 [qB false true F]] ?_;refine QE ?_;refine aU (ate X B p x y F) ?_;refine bj ?_;exact aQ (I:=[fa X B p ⟨.look false false (gi 12 0),0,0⟩,eF X B]) Ev (qp (au))
 . exact aeV
def ati:ab E 287 [ptr X.br 0,.bool false] [eF X B] (λu I=>∃p,u=ptr p 0/\I=[h6 X B p (.tQ false),eF X B]):=by
 refine av Tryz.func287 λH D=>?_;refine cB ?_;refine wn λdm=>?_;refine wn λaR=>?_;refine b2 ?_;refine Dh (λact w=>∃(x y:Value) (aM bV a:Nat),hl Tryz.f287.ntmps [(7,ptr bV 0),(6,ptr aM 0),(5,ptr aR 0),(4,.pointer none),(1,.bool false),(0,ptr X.br 0)] act/\dt H Z8 w) ?_ ?_
 . exact aer
 . rintro act w ⟨x,y,aM,bV,a,g0,st⟩
   refine Di ?_ g0 st;clear g0 st act w;refine bj ?_;refine zp ?_;refine h0 [12,15] [12] O2 [eF X B,aa aM 36 zi,aa aR 246 [ptr dm 0]] mixed hM ?_;refine fB ?_;refine bu (GC X.m B.b (iO false)) ?_;refine GD ?_;intro z;refine aU (GF dm z X.br X.m B.b (iO false) _ _ _ rfl 0 0) ?_;refine c4 ?_;exact aQ (I:=[h6 X B dm (.tQ false),eF X B]) ⟨dm,rfl,rfl⟩ (cE (z,aR,aM,bV,a) trivial (au))
def atj(gt S F:Nat):ab E 337 [ptr fd 0,ptr gt 0,ptr S 0] [cW p x y 0 0 X.br,aa fd 246 [ptr p 0],aa gt 36 zi,aa S 380 [qB false true F],aa F 213 D5] (aH eN [fa X B p ⟨.look false true (gi 12 0),0,0⟩]):=by
 refine av Tryz.func337 λH D=>?_;refine bR ?_;refine aU (atg X B p x y F) ?_;refine bb ?_;exact aQ (I:=[fa X B p ⟨.look false true (gi 12 0),0,0⟩]) cj (qp (au))
end
section
variable(X:nl)(B:jw)(p:Nat)(L:List Int)(t:Int)(Y:gz)
def rv:al:=dq (bv:=Unit) (λ_=>True) (λ_=>[eF X B,bz X.m L t,fs (X.r false) X.m (B.ev false) (B.e1 false),fs (X.r true) X.m (B.ev true) (B.e1 true)])
def _root_.Go.L.dD.ry.ir{B:jw}{L:List Int}(h:ry B L)(r:Bool):wb (B.ev r) (B.e1 r) L:=let⟨a,b,c,d⟩:=ry.ev h r;⟨a,b,c,d⟩
def atk(cd:ry B L)(U:Bool)(s:Int):ab E 474 [ptr p 0] [h6 X B p (.swp U s),rv X B L t] (aH (.bool (if decide (L.getD B.b 0=s)then⟨.swp U s,7,0⟩else EC:gz).over) [fa X B p (if decide (L.getD B.b 0=s)then⟨.swp U s,7,0⟩else EC),rv X B (if L.getD B.b 0=s then L.set B.b 1 else L) (dV t)]):=by
 have f:B.b<L.length:=oF;have g:B.b+1<L.length:=oF;refine fc .head (λe _=>?_);obtain⟨z,fd,az,g8,N⟩:=e;refine gh ?_;refine fc (bv:=Unit) eP (λ_ _=>?_);refine gh ?_;exact pn (pk X B p _) (RK z X.m B.b L t f (s) 1) (asR X B p _ _ U N z fd az g8 s (decide (L.getD B.b 0=s)))
def atl(cd:ry B L)(v:Int):ab E 474 [ptr p 0] [h6 X B p (.ask v),rv X B L t] (aH (.bool (if decide (L.getD (B.b+1) 0=0)then Qn else⟨.ask v,4,0⟩:gz).over) [fa X B p (if decide (L.getD (B.b+1) 0=0)then Qn else⟨.ask v,4,0⟩),rv X B (if L.getD (B.b+1) 0=0 then L.set (B.b+1) 1 else L) (dV t)]):=by
 have f:B.b<L.length:=oF;have g:B.b+1<L.length:=oF;refine fc .head (λe _=>?_);obtain⟨z,gt,fd,bq,b7⟩:=e;refine gh ?_;refine fc (bv:=Unit) eP (λ_ _=>?_);refine gh ?_;exact pn (pk X B p _) (RK z X.m (B.b+1) L t g (0) 1) (asV X B p _ _ z gt fd bq b7 v (decide (L.getD (B.b+1) 0=0)))
def atm(cd:ry B L)(held:Bool):ab E 474 [ptr p 0] [h6 X B p (.more held),rv X B L t] (aH (.bool (if decide (L.getD B.b 0=iO held)then JJ else JK:gz).over) [fa X B p (if decide (L.getD B.b 0=iO held)then JJ else JK),rv X B (if L.getD B.b 0=iO held then L.set B.b 1 else L) (dV t)]):=by
 have f:B.b<L.length:=oF;have g:B.b+1<L.length:=oF;refine fc .head (λe _=>?_);obtain⟨z,d8,c1⟩:=e;refine gh ?_;refine fc (bv:=Unit) eP (λ_ _=>?_);refine gh ?_;exact pn (pk X B p _) (RK z X.m B.b L t f (iO held) 1) (as9 X B p _ _ held z d8 c1 (decide (L.getD B.b 0=iO held)))
def atn(cd:ry B L)(hp:sB Y):ab E 474 [ptr p 0] [fa X B p Y,rv X B L t] (aH (.bool (oQ B L Y).over) [fa X B p (oQ B L Y),rv X B (pU B L Y) (if Y.over then t else dV t)]):=by
 obtain⟨ph,out,val⟩:=Y;by_cases aJ:out=0
 . subst aJ
   obtain⟨ak,Z⟩:=hp rfl;obtain rfl:val=0:=Z;have G:fa X B p r8=h6 X B p ph:=Im;have k:(r8:gz).over=false:=rfl;have aC:oQ B L r8=(iK B L ph).2:=by unfold oQ;rw[k];rfl
   have aV:pU B L r8=(iK B L ph).1:=by unfold pU;rw[k];rfl
   rw[G,aC,aV,k];simp only[e2,eI];have j:∀(r:Bool) (o:fz),(ph=.put r o\/ph=.of r o)->True:=λ_ _ _=>trivial;cases ph with
   |
    put U o=>
    cases J:(dC (B.ev U) (B.e1 U) L o).over with
    |
     false=>
     have e:(iK B L (.put U o))=(lp (B.ev U) (B.e1 U) L o,⟨.put U (dC (B.ev U) (B.e1 U) L o),0,0⟩):=OH;rw[e];cases U
     . have a:iH o:=ak.1
       have aJ:o.out=0:=ak.2;refine fc .head (λe _=>?_);obtain⟨z,c,az,g8,N⟩:=e;simp only[ck,ci];refine fc (bv:=Unit) eP (λ_ _=>?_);simp only[ck,ci];have b:o.over=false:=mR;have i:=mS z (X.r false) X.m sq sr L t o (cd.ir false) a;rw[J,b]at i;simp only[e2,eI]at i;refine p9 i (λD=>?_);simp only[ck,ci];refine λh s=>Sat.swap (cE () trivial (M:=_) (D:=fa X B p ⟨.put false (dC (B.ev false) (B.e1 false) L o),0,0⟩::D) ?_ h s);simp only[ck,ci];refine λh s=>(hJ.from (A:=fa X B p ⟨.put false BB,0,0⟩) ze) acw
     . have a:iH o:=ak.1
       have aJ:o.out=0:=ak.2;refine fc .head (λe _=>?_);obtain⟨z,c,az,g8,N⟩:=e;simp only[ck,ci];refine fc (bv:=Unit) eP (λ_ _=>?_);simp only[ck,ci];have b:o.over=false:=mR;have i:=mS z (X.r true) X.m (B.ev true) (B.e1 true) L t o w3 a;rw[J,b]at i;simp only[e2,eI]at i;refine p9 i (λD=>?_);simp only[ck,ci];refine λh s=>Sat.swap (cE () trivial (M:=_) (D:=fa X B p ⟨.put true (dC (B.ev true) (B.e1 true) L o),0,0⟩::D) ?_ h s);simp only[ck,ci];refine λh s=>(hJ.from (A:=fa X B p ⟨.put true wY,0,0⟩) ze) acw
    |
     true=>
     have e:(iK B L (.put U o))=(lp (B.ev U) (B.e1 U) L o,if(dC (B.ev U) (B.e1 U) L o).out=1 then EC else⟨.put U (dC (B.ev U) (B.e1 U) L o),(dC (B.ev U) (B.e1 U) L o).out,0⟩):=by simp only[iK,J,fu]
     rw[e];cases U
     . have a:iH o:=ak.1
       have aJ:o.out=0:=ak.2;refine fc .head (λe _=>?_);obtain⟨z,c,az,g8,N⟩:=e;simp only[ck,ci];refine fc (bv:=Unit) eP (λ_ _=>?_);simp only[ck,ci];have b:o.over=false:=mR;have i:=mS z (X.r false) X.m sq sr L t o (cd.ir false) a;rw[J,b]at i;simp only[e2,eI]at i;have d:(dC sq sr L o).out≠0:=qa;exact pn (pk X B p _) i (ahq X B p _ _ false N z c az g8 BB d)
     . have a:iH o:=ak.1
       have aJ:o.out=0:=ak.2;refine fc .head (λe _=>?_);obtain⟨z,c,az,g8,N⟩:=e;simp only[ck,ci];refine fc (bv:=Unit) eP (λ_ _=>?_);simp only[ck,ci];have b:o.over=false:=mR;have i:=mS z (X.r true) X.m (B.ev true) (B.e1 true) L t o w3 a;rw[J,b]at i;simp only[e2,eI]at i;have d:(dC (B.ev true) (B.e1 true) L o).out≠0:=qa;exact pn (pk X B p _) i (ahq X B p _ _ true N z c az g8 wY d)
   |
    po U=>
    have f:B.b<L.length:=oF;have g:B.b+1<L.length:=oF;refine fc .head (λe _=>?_);obtain⟨z,cs,az,g8,N⟩:=e;simp only[ck,ci];refine fc (bv:=Unit) eP (λ_ _=>?_);simp only[ck,ci];exact pn (pk X B p _) (GN z X.m B.b L t f) (asS X B p _ _ U N z g8 cs az (L.getD B.b 0) true)
   |
    swp U s=>
    have h:=atk X B p L t cd U s;simp only[iK];by_cases a6:L.getD B.b 0=s
    . rw[lM a6,bg a6]at h;rw[bg a6];exact h
    . rw[mJ a6,a7 a6]at h;rw[a7 a6];exact h
   |
    ask v=>
    have h:=atl X B p L t cd v;simp only[iK];by_cases a6:L.getD (B.b+1) 0=0
    . rw[lM a6,bg a6]at h;rw[bg a6];exact h
    . rw[mJ a6,a7 a6]at h;rw[a7 a6];exact h
   |
    set st=>
    have f:B.b<L.length:=oF;have g:B.b+1<L.length:=oF;refine fc .head (λe _=>?_);obtain⟨z,fd⟩:=e;simp only[ck,ci];refine fc (bv:=Unit) eP (λ_ _=>?_);simp only[ck,ci];exact pn (pk X B p _) (GO z X.m B.b L t f st) (asX X B p _ _ z fd st)
   |
    of r o=>
    cases J:(dC (B.ev r) (B.e1 r) L o).over with
    |
     false=>
     have e:(iK B L (.of r o))=(lp (B.ev r) (B.e1 r) L o,⟨.of r Jw,0,0⟩):=OH;rw[e];cases r
     . have a:iH o:=ak.1
       have aJ:o.out=0:=ak.2;refine fc .head (λe _=>?_);obtain⟨z,fd,b7⟩:=e;simp only[ck,ci];refine fc (bv:=Unit) eP (λ_ _=>?_);simp only[ck,ci];have b:o.over=false:=mR;have i:=mS z (X.r false) X.m sq sr L t o (cd.ir false) a;rw[J,b]at i;simp only[e2,eI]at i;refine p9 i (λD=>?_);simp only[ck,ci];refine λh s=>Sat.swap (cE () trivial (M:=_) (D:=fa X B p ⟨.of false (dC (B.ev false) (B.e1 false) L o),0,0⟩::D) ?_ h s);simp only[ck,ci];refine λh s=>(hJ.from (A:=fa X B p ⟨.of false BB,0,0⟩) ze) (qp (cE (z,fd,b7) trivial (au)) h s)
     . have a:iH o:=ak.1
       have aJ:o.out=0:=ak.2;refine fc .head (λe _=>?_);obtain⟨z,fd,b7⟩:=e;simp only[ck,ci];refine fc (bv:=Unit) eP (λ_ _=>?_);simp only[ck,ci];have b:o.over=false:=mR;have i:=mS z (X.r true) X.m (B.ev true) (B.e1 true) L t o w3 a;rw[J,b]at i;simp only[e2,eI]at i;refine p9 i (λD=>?_);simp only[ck,ci];refine λh s=>Sat.swap (cE () trivial (M:=_) (D:=fa X B p ⟨.of true (dC (B.ev true) (B.e1 true) L o),0,0⟩::D) ?_ h s);simp only[ck,ci];refine λh s=>(hJ.from (A:=fa X B p ⟨.of true wY,0,0⟩) ze) (qp (cE (z,fd,b7) trivial (au)) h s)
    |
     true=>
     have e:(iK B L (.of r o))=(lp (B.ev r) (B.e1 r) L o,⟨.of r Jw,(dC (B.ev r) (B.e1 r) L o).out,(dC (B.ev r) (B.e1 r) L o).value⟩):=by simp only[iK,J,fu]
     rw[e];cases r
     . have a:iH o:=ak.1
       have aJ:o.out=0:=ak.2;refine fc .head (λe _=>?_);obtain⟨z,fd,b7⟩:=e;simp only[ck,ci];refine fc (bv:=Unit) eP (λ_ _=>?_);simp only[ck,ci];have b:o.over=false:=mR;have i:=mS z (X.r false) X.m sq sr L t o (cd.ir false) a;rw[J,b]at i;simp only[e2,eI]at i;have d:(dC sq sr L o).out≠0:=qa;exact pn (pk X B p _) i (ahr X B p _ _ z (X.r false) fd b7 false BB d)
     . have a:iH o:=ak.1
       have aJ:o.out=0:=ak.2;refine fc .head (λe _=>?_);obtain⟨z,fd,b7⟩:=e;simp only[ck,ci];refine fc (bv:=Unit) eP (λ_ _=>?_);simp only[ck,ci];have b:o.over=false:=mR;have i:=mS z (X.r true) X.m (B.ev true) (B.e1 true) L t o w3 a;rw[J,b]at i;simp only[e2,eI]at i;have d:(dC (B.ev true) (B.e1 true) L o).out≠0:=qa;exact pn (pk X B p _) i (ahr X B p _ _ z (X.r true) fd b7 true wY d)
   |
    gone=>
    have f:B.b<L.length:=oF;have g:B.b+1<L.length:=oF;refine fc .head (λe _=>?_);obtain⟨z,d8,b7⟩:=e;simp only[ck,ci];refine fc (bv:=Unit) eP (λ_ _=>?_);simp only[ck,ci];exact pn (pk X B p _) (GN z X.m B.b L t f) (as7 X B p _ _ z d8 b7 (L.getD B.b 0) true)
   |tQ held=>
    cases held
    . have f:B.b<L.length:=by have:=cd.len;omega
      have g:B.b+1<L.length:=oF;refine fc .head (λe _=>?_);obtain⟨z,fd,gt,S,F⟩:=e;simp only[ck,ci];refine fc (bv:=Unit) eP (λ_ _=>?_);simp only[ck,ci];exact pn (pk X B p _) (GO z X.m B.b L t f (iO false)) (atj X B p _ _ fd gt S F)
    . have f:B.b<L.length:=by have:=cd.len;omega
      have g:B.b+1<L.length:=oF;refine fc .head (λe _=>?_);obtain⟨z,fd,gt,S,F⟩:=e;simp only[ck,ci];refine fc (bv:=Unit) eP (λ_ _=>?_);simp only[ck,ci];exact pn (pk X B p _) (GO z X.m B.b L t f (iO true)) (atd X B p _ _ fd gt S F)
   |
    look held r o=>
    cases J:(dC (B.ev r) (B.e1 r) L o).over with
    |
     false=>
     have e:(iK B L (.look held r o))=(lp (B.ev r) (B.e1 r) L o,⟨.look held r Jw,0,0⟩):=OH;rw[e];cases held<;>cases r
     . have a:iH o:=ak.1
       have aJ:o.out=0:=ak.2.1;refine fc .head (λe _=>?_);obtain⟨z,gt,b7,d8,fd,F⟩:=e;simp only[ck,ci];refine fc (bv:=Unit) eP (λ_ _=>?_);simp only[ck,ci];have b:o.over=false:=mR;have i:=mS z (X.r false) X.m sq sr L t o (cd.ir false) a;rw[J,b]at i;simp only[e2,eI]at i;refine p9 i (λD=>?_);simp only[ck,ci];refine λh s=>Sat.swap (cE () trivial (M:=_) (D:=fa X B p ⟨.look false false (dC (B.ev false) (B.e1 false) L o),0,0⟩::D) ?_ h s);simp only[ck,ci];refine λh s=>(hJ.from (A:=fa X B p ⟨.look false false BB,0,0⟩) ze) PK
     . have a:iH o:=ak.1
       have aJ:o.out=0:=ak.2.1;refine fc .head (λe _=>?_);obtain⟨z,gt,b7,d8,fd,F⟩:=e;simp only[ck,ci];refine fc (bv:=Unit) eP (λ_ _=>?_);simp only[ck,ci];have b:o.over=false:=mR;have i:=mS z (X.r true) X.m (B.ev true) (B.e1 true) L t o w3 a;rw[J,b]at i;simp only[e2,eI]at i;refine p9 i (λD=>?_);simp only[ck,ci];refine λh s=>Sat.swap (cE () trivial (M:=_) (D:=fa X B p ⟨.look false true (dC (B.ev true) (B.e1 true) L o),0,0⟩::D) ?_ h s);simp only[ck,ci];refine λh s=>(hJ.from (A:=fa X B p ⟨.look false true wY,0,0⟩) ze) PK
     . cases ak.2.2 rfl
     . have a:iH o:=ak.1
       have aJ:o.out=0:=ak.2.1;refine fc .head (λe _=>?_);obtain⟨z,gt,b7,d8,fd,F⟩:=e;simp only[ck,ci];refine fc (bv:=Unit) eP (λ_ _=>?_);simp only[ck,ci];have b:o.over=false:=mR;have i:=mS z (X.r true) X.m (B.ev true) (B.e1 true) L t o w3 a;rw[J,b]at i;simp only[e2,eI]at i;refine p9 i (λD=>?_);simp only[ck,ci];refine λh s=>Sat.swap (cE () trivial (M:=_) (D:=fa X B p ⟨.look true true (dC (B.ev true) (B.e1 true) L o),0,0⟩::D) ?_ h s);simp only[ck,ci];refine λh s=>(hJ.from (A:=fa X B p ⟨.look true true wY,0,0⟩) ze) PK
    |
     true=>
     have e:(iK B L (.look held r o))=(lp (B.ev r) (B.e1 r) L o,if(dC (B.ev r) (B.e1 r) L o).out=1 then⟨.more held,0,0⟩else if r&&!held then⟨.look held false (gi 12 0),0,0⟩else⟨.look held r Jw,4,0⟩):=by simp only[iK,J,fu]
     rw[e];cases held<;>cases r
     . have a:iH o:=ak.1
       have aJ:o.out=0:=ak.2.1;refine fc .head (λe _=>?_);obtain⟨z,gt,b7,d8,fd,F⟩:=e;simp only[ck,ci];refine fc (bv:=Unit) eP (λ_ _=>?_);simp only[ck,ci];have b:o.over=false:=mR;have i:=mS z (X.r false) X.m sq sr L t o (cd.ir false) a;rw[J,b]at i;simp only[e2,eI]at i;have d:(dC sq sr L o).out≠0:=qa;exact pn (pk X B p _) i (atf X B p _ _ z gt b7 d8 fd F BB d)
     . have a:iH o:=ak.1
       have aJ:o.out=0:=ak.2.1;refine fc .head (λe _=>?_);obtain⟨z,gt,b7,d8,fd,F⟩:=e;simp only[ck,ci];refine fc (bv:=Unit) eP (λ_ _=>?_);simp only[ck,ci];have b:o.over=false:=mR;have i:=mS z (X.r true) X.m (B.ev true) (B.e1 true) L t o w3 a;rw[J,b]at i;simp only[e2,eI]at i;have d:(dC (B.ev true) (B.e1 true) L o).out≠0:=qa;exact pn (pk X B p _) i (ath X B p _ _ z gt b7 d8 fd F wY d)
     . cases ak.2.2 rfl
     . have a:iH o:=ak.1
       have aJ:o.out=0:=ak.2.1;refine fc .head (λe _=>?_);obtain⟨z,gt,b7,d8,fd,F⟩:=e;simp only[ck,ci];refine fc (bv:=Unit) eP (λ_ _=>?_);simp only[ck,ci];have b:o.over=false:=mR;have i:=mS z (X.r true) X.m (B.ev true) (B.e1 true) L t o w3 a;rw[J,b]at i;simp only[e2,eI]at i;have d:(dC (B.ev true) (B.e1 true) L o).out≠0:=qa;exact pn (pk X B p _) i (atb X B p _ _ z gt b7 d8 fd F wY d)
   |
    more held=>
    have h:=atm X B p L t cd held;simp only[iK];by_cases a6:L.getD B.b 0=iO held
    . rw[lM a6,bg a6]at h;rw[bg a6];exact h
    . rw[mJ a6,a7 a6]at h;rw[a7 a6];exact h
 . have J:(o4:gz).over=true:=by simp[gz.over,aJ]
   have e:fa X B p o4=ET X p out val:=by unfold fa;rw[a7 (show¬((⟨ph,out,val⟩:gz).out=0)from aJ)]
   have aC:oQ B L o4=o4:=by unfold oQ;rw[bg J]
   have aV:pU B L o4=L:=by unfold pU;rw[bg J]
   rw[aC,aV,J,e];simp only[fu];exact kC (λx _=>j9 (MC p X.br _ _ out val aJ) nz tp)
def aht:ab E 81 [ptr p 0] BK (aH (af Y.out) BK):=by
 obtain⟨ph,out,val⟩:=Y;by_cases aJ:out=0
 . subst aJ
   have e:fa X B p uC=h6 X B p ph:=Im;rw[e];cases ph<;>exact kC (λx _=>j9 (GJ p X.br _ _ 0 0) nz tp)
 . have e:fa X B p o4=ET X p out val:=by unfold fa;rw[a7 (show¬((⟨ph,out,val⟩:gz).out=0)from aJ)]
   rw[e];exact kC (λx _=>j9 (GJ p X.br _ _ out val) nz tp)
def ato(hp:sB Y):ab E 85 [ptr p 0] BK (aH (bx Y.val) BK):=by
 obtain⟨ph,out,val⟩:=Y;by_cases aJ:out=0
 . subst aJ
   obtain⟨_,Z⟩:=hp rfl;obtain rfl:val=0:=Z;have e:fa X B p r8=h6 X B p ph:=Im;rw[e];cases ph<;>exact kC (λx _=>j9 (GK p X.br _ _ 0 0) nz tp)
 . have e:fa X B p o4=ET X p out val:=by unfold fa;rw[a7 (show¬((⟨ph,out,val⟩:gz).out=0)from aJ)]
   rw[e];exact kC (λx _=>j9 (GK p X.br _ _ out val) nz tp)
end
section
variable(s n:Int){ft fK:Nat}
def JU:Int:=if lP s=0\/lP n=0 then 0 else 2+lP s+lP n
def ahu:0<=lP s/\lP s<=130:=by unfold lP;split<;>omega
def RL(L:List Int)(b i:Nat):∀j,im (im L b i) (b+i) j=im L b (i+j)
 |0=>rfl
 |j+1=>by rw[im,RL L b i j,<-nZ,im,nZ]
def RM(i:Nat)(t:Int):∀j,jp j (jp i t)=jp (i+j) t
 |0=>rfl
 |j+1=>by rw[jp,RM i t j,<-nZ,jp]
def jw.aZ(B:jw):Nat:=2+(2+2*B.ft)+(2+2*B.fK)
def atp{X:nl}{B:jw}{L:List Int}{t:Int}{M D:List al}(h:∀h,Sat M h->Sat (eF X B::bz X.m L t::fs (X.r false) X.m sq sr::fs (X.r true) X.m (B.ev true) (B.e1 true)::D) h):∀h,Sat M h->Sat (rv X B L t::D) h:=cE () trivial h
def atq:ab E 63 [af s,af n] [] (aH (af (JU s n)) []):=by
 refine av Tryz.func63 λH D=>?_;have ai:=ahu s;have aO:=ahu n;refine bQ ?_;refine aU (GQ s) ?_;refine aG ?_;refine aU (GQ n) ?_;refine dh ?_;refine hY rfl rfl (λW=>?_) (λW=>?_) rfl
 . have f:=bW W
   refine bj ?_;refine ch (λM=>?_) (λM=>?_)
   . refine bQ ?_
     exact Qy
   . refine bE ?_
     refine aB rfl (fy (2+lP s) (jz ad) rfl rfl) ?_;refine aG ?_;refine aB rfl (fy (2+lP s+lP n) (jz ad) rfl rfl) ?_;refine bE ?_;exact Qy
 . have f:=bW W
   refine fB ?_;exact Qy
def atr(h1:1<=ft/\ft<=64)(h2:1<=fK/\fK<=64):JU (ft:Int) (fK:Int)=((2+(2+2*ft)+(2+2*fK):Nat):Int):=by
 unfold JU;rw[RN h1.1 h1.2,RN h2.1 h2.2,a7 ad];omega
def ahv(h1:1<=ft/\ft<=64)(h2:1<=fK/\fK<=64):ab E 63 [af ft,af fK] [] (aH (af ((2+(2+2*ft)+(2+2*fK):Nat):Int)) []):=by
 rw[<-atr h1 h2];exact atq ft fK
def ats(m b ft fK:Nat)(L:List Int)(t:Int)(K:ry ⟨b,ft,fK⟩ L):ab E 68 [ptr m 0,af b,af ft,af fK] wg
 (λu I=>∃X:nl,u=.tuple #[ptr X.br 0,af 0]/\X.m=m/\I=[rv X ⟨b,ft,fK⟩ (im L b (jw.aZ ⟨b,ft,fK⟩)) (jp (jw.aZ ⟨b,ft,fK⟩) t)]):=by
 refine av Tryz.func68 λH D=>?_;have h1:=K.m1;have h2:=K.m64;have aN:=K.ed;have bA:=K.jT;have d3:b+6+2*ft+2*fK<=L.length:=K.len;have g3:=K.dG;refine dh ?_;refine aU (ahv ⟨h1,h2⟩ ⟨aN,bA⟩) ?_;refine agm ?_;refine aB rfl (kl (L.length -(2+(2+2*ft)+(2+2*fK):Nat):Int) (jz ad) rfl rfl) ?_;refine aei ?_;refine bj ?_;refine cn rfl (b9 rfl (mM m L t b ad 0) bN) ?_;refine gU ?_;refine bj ?_;refine ME ?_;refine cn rfl (b9 rfl (mM m (L.set b 0) _ (b+1) (by rw[gr];omega) 0) bN) ?_;refine gU ?_;refine ct ?_;refine wn λa=>?_;refine bQ ?_;refine aB rfl (fy ((b+2:Nat):Int) ff rfl rfl) ?_;refine aG ?_;refine cn rfl (b9 rfl (MF m (b+2) ft ((L.set b 0).set (b+1) 0) _ ⟨h1,h2,by simp;omega,by simp;omega⟩) bN) ?_;rintro _ D ⟨_,⟨gO,rfl,rfl⟩,rfl⟩;refine fC ?_;refine fB ?_;refine aB rfl (fy ((b+2:Nat):Int) ff rfl rfl) ?_;refine aG ?_;refine aU (ahw ft h1 h2) ?_;refine aB rfl (fy ((b+2+(2+2*ft):Nat):Int) ff rfl rfl) ?_;refine aG ?_;refine cn rfl (b9 rfl (MF m (b+2+(2+2*ft)) fK (im ((L.set b 0).set (b+1) 0) (b+2) (2+2*ft)) _ ⟨aN,bA,by rw[wJ];simp;omega,by rw[wJ];simp;omega⟩) bN) ?_;rintro _ D ⟨_,⟨lD,rfl,rfl⟩,rfl⟩;refine fC ?_;refine eY ?_;refine bb ?_;exact aQ ⟨⟨a,m,gO,lD⟩,rfl,rfl,rfl⟩ (atp (by rw[show im L b (jw.aZ ⟨b,ft,fK⟩)=im (im (im L b 2) (b+2) (2+2*ft)) (b+2+(2+2*ft)) (2+2*fK) by rw[RL,RL,<-nZ];rfl,show jp (jw.aZ ⟨b,ft,fK⟩) t=jp (2+2*fK) (jp (2+2*ft) (jp 2 t)) by rw[RM,RM,<-nZ];rfl];exact(au)))
end
end Go.Proofs.YtnnhpnccfnghdaaGreat.L.Po
