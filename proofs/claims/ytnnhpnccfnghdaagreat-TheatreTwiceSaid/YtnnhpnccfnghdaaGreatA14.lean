import Derived.Test.YtnnhpnccfnghdaaGreatA13
import Derived.Test.YtnnhpnccfnghdaaGreatA8
set_option linter.all false
set_option maxRecDepth 100000
set_option maxHeartbeats 8000000
namespace Go.L.Th
open Go.L Go.L.Lx Go.L.Pg Go.L.Ring Go.L.dD Go.L.ej Go.L.Whl Go.L.dP Go.L.Led
def ot(c:qE)(o:Nat):ga:=if o<2 then .none else if o%2=0 then .rA c else .val c
def Lp(w o:Nat):ga:=if o=0 then .KV w else if o=1 then .KW w else .val .act
def vC(C:bO)(o:Nat):ga:=if o<2 then .none else if o<4+2*C.hW then ot .jy (o -2)else ot .zJ (o -(4+2*C.hW))
def bO.d0(C:bO):Nat:=2+C.bc+(2+2*C.aT)
def bO.eA(C:bO):Nat:=2+C.bC.size
def bH(C:bO)(i:Nat):ga:=
 if i<2 then .jf
 else if i<2+C.bc then .none
 else if i<C.d0 then ot .act (i -(2+C.bc))
 else if i<C.eA then Lp ((i -C.d0)/(2+C.eX)) ((i -C.d0)%(2+C.eX))
 else if i<C.bl then(if i=C.eA then .none else ot .ask (i -(C.eA+1)))
 else if i<C.gS then .none
 else vC C ((i -C.gS)%C.fh)
section
variable{C:bO}
section
variable{c:qE}{a k o:Nat}
def SS:C.eA=C.d0+C.bc*(2+C.eX):=by
 show 2+(C.bc+(2+2*C.aT)+C.bc*(2+C.eX))=2+C.bc+(2+2*C.aT)+C.bc*(2+C.eX);omega
def Co:C.bl=C.eA+(3+2*C.iS):=rfl
def SU:C.gS=C.bl+C.aT*C.aT:=rfl
def SV:C.fh=2+(2+2*C.hW)+(2+2*C.fK):=rfl
def av2:ot c (2+2*k)=.rA c:=by unfold ot;rw[a7 ad,bg ad]
def av3:ot c (2+2*k+1)=.val c:=by unfold ot;rw[a7 ad,a7 ad]
def Lq{aI:qE}{o:Nat}(h:ot c o=.rA aI):aI=c/\2<=o/\o%2=0/\ot c (o+1)=.val c:=by
 unfold ot at h;split at h
 . cases h
 . split at h
   . cases h
     refine⟨rfl,by omega,by assumption,?_⟩;unfold ot;rw[a7 ad,a7 ad]
   . cases h
def SX(h:o<2+2*C.aT):bH C (2+C.bc+o)=ot .act o:=by
 refine w8 ?_;intro e;unfold bH;rw[a7 ad,a7 ad,bg ad];congr 1;omega
def SY{w o:Nat}(R:w<C.bc)(h:o<2+C.eX):bH C (C.d0+w*(2+C.eX)+o)=Lp w o:=by
 refine w8 ?_;intro e;have aV:=SS (C:=C);have bF:w*(2+C.eX)+(2+C.eX)<=C.bc*(2+C.eX):=by
  exact acE
 unfold bH;rw[a7 ad,a7 ad,a7 ad,bg ad];have dx:C.d0+w*(2+C.eX)+o -C.d0=o+(2+C.eX)*w:=by rw[RZ];omega
 rw[dx,Nat.add_mul_div_left _ _ ad,av4,Nat.div_eq_of_lt h,Y6 h,lo]
def Fm:C.d0<=C.eA:=by have:=SS (C:=C);omega
def aje:bH C C.eA=.none:=by
 refine w8 ?_;intro e;have:=Fm (C:=C);have:=Co (C:=C);unfold bH;rw[a7 ad,a7 ad,a7 ad,a7 ad,bg ad,bg rfl]
def SZ(h:o<2+2*C.iS):bH C (C.eA+1+o)=ot .ask o:=by
 refine w8 ?_;intro e;have:=Fm (C:=C);have:=Co (C:=C);unfold bH;rw[a7 ad,a7 ad,a7 ad,a7 ad,bg ad,a7 ad];congr 1;omega
def ajf{i:Nat}(h:C.bl<=i)(h2:i<C.gS):bH C i=.none:=by
 refine w8 ?_;intro e;have:=Fm (C:=C);have:=Co (C:=C);unfold bH;rw[a7 ad,a7 ad,a7 ad,a7 ad,a7 ad,bg h2]
def Cp(h:o<C.fh):bH C (C.gS+a*C.fh+o)=vC C o:=by
 refine w8 ?_;intro e;have:=Fm (C:=C);have:=Co (C:=C);have:=SU (C:=C);unfold bH;rw[a7 ad,a7 ad,a7 ad,a7 ad,a7 ad,a7 ad];have dx:C.gS+a*C.fh+o -C.gS=o+C.fh*a:=by rw[RZ];omega
 rw[dx,av4,Y6 h]
def av5(aJ:o<C.fh)(h:vC C o=.rA c):o+1<C.fh/\vC C (o+1)=.val c:=by
 have e:=SV (C:=C);unfold vC at h;split at h
 . cases h
 . split at h
   . obtain⟨rfl,h1,h2,aN⟩:=Lq h
     refine⟨by omega,?_⟩;unfold vC;rw[a7 ad,bg ad,show o+1 -2=o -2+1 by omega];exact aN
   . obtain⟨rfl,h1,h2,aN⟩:=Lq h
     refine⟨by omega,?_⟩;unfold vC;rw[a7 ad,a7 ad,show o+1 -(4+2*C.hW)=o -(4+2*C.hW)+1 by omega];exact aN
def av6(i:Nat)(c:qE)(h:bH C i=.rA c):bH C (i+1)=.val c:=by
 refine w8 ?_;intro e;have aS:=Fm (C:=C);have Z:=Co (C:=C);have ah:=SU (C:=C);have ai:=SV (C:=C);by_cases h1:i<2
 . unfold bH at h;rw[bg h1]at h;cases h
 by_cases h2:i<2+C.bc
 . unfold bH at h;rw[a7 h1,bg h2]at h;cases h
 by_cases aN:i<C.d0
 . have b:i=2+C.bc+(i -(2+C.bc)):=by omega
   rw[b,SX ad]at h;obtain⟨rfl,W,cU,em⟩:=Lq h;rw[show i+1=2+C.bc+(i -(2+C.bc)+1) by omega,SX ad];exact em
 by_cases bA:i<C.eA
 . unfold bH at h;rw[a7 h1,a7 h2,a7 aN,bg bA]at h
   unfold Lp at h;split at h
   . cases h
   . split at h<;>cases h
 by_cases d3:i<C.bl
 . by_cases g3:i=C.eA
   . rw[g3,aje]at h;cases h
   have b:i=C.eA+1+(i -(C.eA+1)):=ad;rw[b,SZ ad]at h;obtain⟨rfl,W,cU,em⟩:=Lq h;rw[show i+1=C.eA+1+(i -(C.eA+1)+1) by omega,SZ ad];exact em
 by_cases g3:i<C.gS
 . rw[ajf ad g3]at h;cases h
 . have bf:(i -C.gS)%C.fh<C.fh:=yK _ ad
   have b:i=C.gS+((i -C.gS)/C.fh)*C.fh+(i -C.gS)%C.fh:=by
    have:=ahi (i -C.gS) C.fh;omega
   generalize (i -C.gS)/C.fh=a at b
   generalize (i -C.gS)%C.fh=o at b bf
   rw[b,Cp bf]at h;obtain⟨W,cU⟩:=av5 bf h;rw[b,nZ,Cp W];exact cU
def Lr{b n:Nat}{c:qE}{len:Nat}(ed:1<=n)(h:∀o,o<2+2*n->bH C (b+o)=ot c o)(aw:b+2+2*n<=len):nL (bH C) b n c len:=
 ⟨ed,h 0 ad,h 1 ad,λk hk=>by rw[nZ,h _ ad];exact av2,λk hk=>by rw[nZ,nZ,h _ ad];rw[<-nZ];exact av3,aw⟩
def av7(h1:1<=a)(h2:a<=C.aT):(a -1)*C.fh+C.fh<=C.aT*C.fh:=by
 have:=pN C.fh (show a -1+1<=C.aT by omega);rwa[nb,vg]at this
def sS(N:C.ok):iQ (bH C) C C.cells:=by
 refine w8 ?_;intro e;have aV:=SS (C:=C);have Z:=Co (C:=C);have ah:=SU (C:=C);have ai:=SV (C:=C);have a6:C.cells=C.gS+C.aT*C.fh:=rfl;have h1:=N.cu;have h2:=N.d1;have aN:=N.i1;have bA:=N.m1;refine⟨av6,?_,?_,λw R=>?_,?_,λw R=>?_,aje,?_,λi a b=>ajf a b,λa aX aA=>?_,λa r aX aA=>?_⟩
 . unfold bH;rw[bg bw]
 . unfold bH;rw[bg bw]
 . show bH C (2+w)=_;unfold bH;rw[a7 ad,bg ad]
 . exact Lr h1 (λo aJ=>SX aJ) (by show 2+C.bc+2+2*C.aT<=_;omega)
 . have ho:C.bC.cq w=C.d0+w*(2+C.eX):=rfl
   have ur:w*(2+C.eX)+(2+C.eX)<=C.bc*(2+C.eX):=by
    exact acE
   refine⟨h2,?_,?_,λk hk=>?_,by rw[ho];omega⟩
   . rw[ho,<-HD (C.d0+_),SY R ad];rfl
   . rw[ho,SY R ad];rfl
   . rw[ho,nZ,SY R ad];unfold Lp;rw[a7 ad,a7 ad]
 . exact Lr aN (λo aJ=>SZ aJ) (by show C.eA+1+2+2*C.iS<=_;omega)
 . have ho:(C.box a).b=C.gS+(a -1)*C.fh:=rfl
   rw[ho];refine⟨?_,?_⟩
   . rw[<-HD (C.gS+_),Cp ad];rfl
   . rw[Cp ad];rfl
 . have ho:(C.box a).b=C.gS+(a -1)*C.fh:=rfl
   have j:=av7 aX aA;cases r with
   |
    false=>
    refine Lr bA (λo aJ=>?_) (by show(C.box a).b+2+2+2*C.hW<=_;rw[ho];omega);replace aJ:o<2+2*C.hW:=aJ;show bH C ((C.box a).b+2+o)=ot .jy o;rw[ho,nZ,Cp ad];unfold vC;rw[a7 ad,bg ad];congr 1;omega
   |
    true=>
    refine Lr (show 1<=C.fK by unfold bO.fK;omega) (λo aJ=>?_) (by show(C.box a).b+2+(2+2*C.hW)+2+2*C.fK<=_;rw[ho];omega);replace aJ:o<2+2*C.fK:=aJ;show bH C ((C.box a).b+2+(2+2*C.hW)+o)=ot .zJ o;rw[ho,show C.gS+(a -1)*C.fh+2+(2+2*C.hW)+o=C.gS+(a -1)*C.fh+(4+2*C.hW+o) by omega,Cp ad];unfold vC;rw[a7 ad,a7 ad];congr 1;omega
end
end
def eC(C:bO)(l:List Nat)(L:List Int):List Int:=l.foldl (λL w=>(L.set (C.bC.cq w) 1).set (C.bC.cq w+1) 1) L
def S0(C:bO):∀(l:List Nat) (L:List Int),(eC C l L).length=L.length
 |[],L=>rfl
 |w::l,L=>by show(eC C l _).length=_;rw[S0 C l];simp
def Cq(C:bO):∀(l:List Nat) (L:List Int) (i:Nat),(∀w∈l,i≠C.bC.cq w/\i≠C.bC.cq w+1)->(eC C l L).getD i 0=L.getD i 0
 |[],L,i,_=>rfl
 |
  w::l,L,i,h=>by
  show(eC C l _).getD i 0=_;rw[Cq C l _ i (λx ah=>h x (.tail _ ah)),la (h w (.head _)).2,la (h w (.head _)).1]
def S1(C:bO):∀(l:List Nat) (L:List Int) (i:Nat),L.getD i 0=1->(eC C l L).getD i 0=1
 |[],L,i,h=>h
 |
  w::l,L,i,h=>by
  show(eC C l _).getD i 0=1;refine S1 C l _ i ?_;rw[gs];split
  . rfl
  . rw[gs];split
    . rfl
    . exact h
def ajg(C:bO){w:Nat}:∀(l:List Nat) (L:List Int),w∈l->C.bC.cq w+1<L.length->(eC C l L).getD (C.bC.cq w) 0=1/\(eC C l L).getD (C.bC.cq w+1) 0=1
 |[],L,h,_=>by cases h
 |
  x::l,L,h,aw=>by
  show(eC C l _).getD _ 0=1/\(eC C l _).getD _ 0=1;by_cases e:w=x
  . subst e
    exact⟨S1 C l _ _ (by rw[la (by omega),rl (by omega)]),S1 C l _ _ (by rw[rl (by rw[gr];omega)])⟩
  . exact ajg C l _ ((ky.1 h).resolve_left e) (by simp only[gr];exact aw)
def ajh(C:bO):∀(l:List Nat) (L:List Int),iv L->iv (eC C l L)
 |[],L,h=>h
 |w::l,L,h=>ajh C l _ ((h.set _ _ bw).set _ _ bw)
def S2(k i:Nat):(List.replicate k (0:Int)).getD i 0=0:=by
 rw[iW,S3];split<;>rfl
def Le{C:bO}{P:List cr}(N:C.ok)(dg:h7 P):∃s,start C P=some s/\hg (bH C) C P 1 s:=by
 obtain⟨k,r,hk⟩:∃k r,P=k::r:=by
  cases g:P with
  |nil=>exact absurd g dg.ne
  |cons k r=>exact⟨k,r,rfl⟩
 have cL:=sS N;have B:=dg.kinds k (by rw[hk];exact .head _);obtain⟨cR,ba⟩:∃cR,lf P k.name=some cR:=by
  unfold lf;rw[hk,aji];simp
 have a:=dg.kinds cR (aiv ba);obtain⟨st,m,ge⟩:∃st r,cR.states=st::r:=by
  cases ai:cR.states with
  |nil=>exact absurd ai a.st
  |cons st r=>exact⟨st,r,rfl⟩
 have gJ:cR.states[0]?=some st:=by rw[ge];rfl
 have cu:=N.cu;unfold start;have j:P[0]?=some k:=by rw[hk];rfl
 simp only[j,bind,Option.bind];unfold vB;simp only[ba,gJ,bind,Option.bind];rw[bg ⟨rfl,cu⟩];have z:∀(s:aq),dM s 0=none:=λs=>by unfold dM;rw[a7 bw]
 simp only[z,ci];refine⟨_,aik _ (show(0:Nat)<1099511627776 by decide),?_⟩;have hlen:2<=C.cells:=by show 2<=C.gS+_;unfold bO.gS bO.bl;omega
 generalize K:(List.range C.bc).foldl (λL w=>(L.set (C.bC.cq w) 1).set (C.bC.cq w+1) 1) ((List.replicate C.cells (0:Int)).set 1 1)=L
 replace K:eC C (List.range C.bc) ((List.replicate C.cells (0:Int)).set 1 1)=L:=K;have d:L.length=C.cells:=by rw[<-K,S0];simp
 have f:∀w,2<=C.bC.cq w:=λw=>by show 2<=2+C.bc+(2+2*C.aT)+_;omega
 have nj:L.getD 0 0=0:=by
  rw[<-K,Cq _ _ _ _ (λw _=>by have:=f w;omega),la bw,S2]
 have dv:L.getD 1 0=1:=by
  rw[<-K,Cq _ _ _ _ (λw _=>by have:=f w;omega),rl h9]
 have b:∀i,L.getD i 0≠0->i=1\/∃w,w<C.bc/\(i=C.bC.cq w\/i=C.bC.cq w+1):=λi ak=>by
  by_cases h1:i=1
  . exact .inl h1
  . refine .inr (Classical.byContradiction λaO=>ak ?_)
    rw[<-K,Cq _ _ _ _ (λw R=>⟨λe=>aO ⟨w,pM.1 R,.inl e⟩,λe=>aO ⟨w,pM.1 R,.inr e⟩⟩),la h1,S2]
 have ld:∀w,w<C.bc->L.getD (C.bC.cq w) 0=1/\L.getD (C.bC.cq w+1) 0=1:=λw R=>by
  rw[<-K];exact ajg C _ _ (pM.2 R) (by have:=(cL.ih w R).len;simp;omega)
 have ju:iv L:=by rw[<-K];exact ajh C _ _ ((atX _).set _ _ bw)
 have T:∀(nr:List bG) (t:List b0),bn (⟨L,⟨0,0,[]⟩,[⟨1,0,cR,st.name,[0,0,0,0],[],1,[],[],[],[],[],[]⟩],[],[],[],[],nr,0,0,false,t⟩:aq)=⟨1,0,0⟩:=λnr t=>rfl;refine⟨⟨⟨et _,cu,λi x e=>?_,(λl aw=>by cases aw),(λl aw=>by cases aw),by simp,⟨by simp,(λq bt=>by cases bt)⟩,et _⟩,⟨by show L.getD 0 0=_;rw[nj];rfl,fk _,by show((1:Nat):Int)=min (L.getD 1 0 -_) _;rw[dv];omega,by show _<=L.getD 1 0;rw[dv];decide,by show L.getD 1 0<=_;rw[dv];decide⟩,λ_=>1,⟨d,ju,λi c ak aO=>?_,λw R=>⟨by rw[(ld w R).1];decide,by show L.getD _ 0<=_;rw[(ld w R).2];decide,λi h1 h2=>by omega⟩,λ_=>et _,(λt U=>by cases U),⟨jZ.nil,(show 0+_<_ by decide),(show 0+_<_ by decide)⟩⟩,λi t e=>?_⟩,(show(1:Nat)<=90000 by decide)⟩
 . rw[dp]at e
   obtain⟨d4,rfl⟩:=e;have D:i=0:=by simp at d4;omega
   subst D;exact⟨rfl,fk _,a,rfl,(λv Z=>by simp at Z;subst Z;exact⟨vp _,by show(0:Int)<=((1:Nat):Int);decide⟩),zh,zh,zh,zh,(λp hp=>by cases hp)⟩
 . exfalso
   rcases b i aO with rfl|⟨w,R,rfl|rfl⟩
   . rw[cL.c1]at ak;cases ak
   . rw[(cL.ih w R).dG]at ak;cases ak
   . rw[(cL.ih w R).iP]at ak;cases ak
 . replace e:(List.replicate (C.bc+C.cT+1) (⟨none,0,false⟩:b0))[i]?=some t:=e
   rw[S3]at e;split at e
   . cases e
     exact⟨(λo k e=>by cases e),λR=>.inl (by show 1<=L.getD _ 0;rw[(ld i R).2];decide),(show(0:Int)<=0/\(0:Int)<_ from by decide)⟩
   . cases e
def b6(x y:Option aq):Prop:=∀v,x=some v->y=some v
def b6.refl(x:Option aq):b6 x x:=λ_ h=>h
def b6.bind{α:Type}{x:Option α}{f t:α->Option aq}(h:∀a,b6 (f a) (t a)):b6 (x.bind f) (x.bind t):=by
 cases x with
 |none=>exact λv e=>by cases e
 |some a=>exact h a
def b6.bind'{α:Type}{x:Option α}{f t:α->Option aq}(h:∀a,b6 (f a) (t a)):b6 (x>>=f) (x>>=t):=b6.bind h
def b6.ite{p:Prop}[Decidable p]{a b aD l:Option aq}(h1:p->b6 a aD)(h2:¬p->b6 b l):b6 (if p then a else b) (if p then aD else l):=by
 by_cases h:p
 . rw[bg h,bg h];exact h1 h
 . rw[a7 h,a7 h];exact h2 h
section
variable{C:bO}{P:List cr}{g z:aq->b3->K->Option aq}{j:Nat}(aY:∀s r k,b6 (g s r k) (z s r k))
include aY
section
variable(s:aq){c aI:aq->List Int->K->Option aq}(d:e4)(r:b3)(i a:Nat)(n:dn)(id:Int)(k:K)
theorem K8:b6 (pr C g j s r a k) (pr C z j s r a k):=by
 unfold pr;cases r with
 |post aD p=>exact b6.ite (λ_=>b6.refl _) (λ_=>aY _ _ _)
 |_=>exact b6.refl _
theorem aiQ:b6 (tY C g j s id k) (tY C z j s id k):=by
 unfold tY;refine b6.bind' λl=>b6.ite (λ_=>b6.bind' λ_=>aY _ _ _) (λ_=>b6.refl _)
theorem avD{s:aq}{a:Nat}{x:bU}{e:fF}{b who:Int}{slot:Nat}{c aI:aq->List Int->K->Option aq}{k:K}(a6:∀s l k,b6 (c s l k) (aI s l k)):b6 (zO C g j s a x e b who slot c k) (zO C z j s a x e b who slot aI k):=by
 unfold zO;refine b6.ite (λ_=>b6.refl _) λ_=>b6.ite (λ_=>b6.refl _) λ_=>b6.ite (λ_=>aY _ _ _) λ_=>b6.ite (λ_=>b6.bind λ_=>aY _ _ _) λ_=>b6.ite (λ_=>b6.refl _) λ_=>b6.ite (λ_=>a6 _ _ _) λ_=>b6.ite (λ_=>b6.ite (λ_=>aY _ _ _) λ_=>b6.refl _) λ_=>b6.refl _
theorem aiR(a6:∀s l k,b6 (c s l k) (aI s l k))(s:aq)(d:e4)(i:Nat)(k:K):b6 (nM C g j c s d i k) (nM C z j aI s d i k):=by
 unfold nM;cases d with
 |da a id p=>exact b6.bind' λl=>b6.bind' λe=>b6.bind' λx=>avD aY a6
 |cancel ids=>exact b6.refl _
 |leave due=>exact b6.bind' λ_=>aiQ aY _ _ _
 |push l w=>exact b6.refl _
 |my a=>exact b6.ite (λ_=>aY _ _ _) (λ_=>b6.refl _)
theorem avE(n:Nat)(k:K):b6 (E9 C g j s d i n k) (E9 C z j s d i n k):=by
 unfold E9;exact b6.ite (λ_=>aY _ _ _) (λ_=>aiR aY (λ_ _ _=>b6.refl _) _ _ _ _)
theorem Fc(n:Nat)(k:K):b6 (nN C g j s d i n k) (nN C z j s d i n k):=by
 unfold nN;exact b6.ite (λ_=>aY _ _ _) (λ_=>aiR aY (λ_ _ _=>avE aY _ _ _ _ _) _ _ _ _)
theorem Sy(l:List Int)(w:Int)(k:K):b6 (xx C g j s l w k) (xx C z j s l w k):=Fc aY _ _ _ _ _
theorem Sz:b6 (sO C g j s a k) (sO C z j s a k):=by
 unfold sO;exact b6.bind' λx=>b6.ite (λ_=>aY _ _ _) (λ_=>b6.bind' λ_=>Sy aY _ _ _ _)
theorem aiS(r:cG)(k:K):b6 (tZ C g j s a r k) (tZ C z j s a r k):=by
 unfold tZ;exact b6.bind' λx=>b6.bind' λ_=>b6.ite (λ_=>Sz aY _ _ _) (λ_=>b6.refl _)
theorem aiT:b6 (rC g j s a k) (rC z j s a k):=by
 unfold rC;exact b6.bind' λx=>b6.ite (λ_=>aY _ _ _) λ_=>b6.ite (λ_=>b6.refl _) λ_=>b6.ite (λ_=>b6.bind' λ_=>b6.bind' λ_=>b6.bind' λ_=>b6.bind' λ_=>aY _ _ _) λ_=>aY _ _ _
theorem SA(d:Int)(k:K):b6 (rD C g j s a n d k) (rD C z j s a n d k):=by
 unfold rD;exact b6.bind' λ_=>b6.ite (λ_=>b6.refl _) λ_=>b6.ite (λ_=>b6.refl _) λ_=>b6.ite (λ_=>b6.refl _) λ_=>b6.bind' λ_=>b6.ite (λ_=>aiS aY _ _ _ _) λ_=>aY _ _ _
theorem avF:b6 (xy C g j s a n k) (xy C z j s a n k):=by
 unfold xy;exact b6.bind' λx=>b6.ite (λ_=>aY _ _ _) λ_=>b6.ite (λ_=>SA aY _ _ _ _ _) λ_=>b6.refl _
theorem avG:b6 (vA C g j s a n k) (vA C z j s a n k):=by
 unfold vA;exact b6.bind' λx=>b6.ite (λ_=>Sz aY _ _ _) λ_=>b6.ite (λ_=>avF aY _ _ _ _) λ_=>b6.ite (λ_=>b6.ite (λ_=>aY _ _ _) λ_=>b6.bind' λ_=>Sy aY _ _ _ _) λ_=>
  b6.ite (λ_=>b6.ite (λ_=>aY _ _ _) λ_=>Sy aY _ _ _ _) λ_=>b6.ite (λ_=>aiT aY _ _ _) λ_=>b6.refl _
theorem aiU:b6 (sP C g j s a id k) (sP C z j s a id k):=by
 unfold sP;exact b6.bind' λx=>b6.bind' λl=>b6.ite (λ_=>b6.bind' λ_=>aY _ _ _) λ_=>b6.ite (λ_=>b6.ite (λ_=>b6.bind' λ_=>aY _ _ _) λ_=>b6.bind' λ_=>aY _ _ _) λ_=>b6.bind' λ_=>Fc aY _ _ _ _ _
theorem aiV(left:Nat):b6 (rE C g j s a left) (rE C z j s a left):=by
 unfold rE;refine b6.bind' λx=>b6.ite (λ_=>b6.refl _) λ_=>b6.ite (λ_=>b6.refl _) λ_=>?_;cases x.front.getLast? with
 |none=>exact b6.refl _
 |some id=>exact aiU aY _ _ _ _
theorem avH:b6 (dF C P g j s r k) (dF C P z j s r k):=by
 cases k with
 |nil=>exact b6.refl _
 |polled=>exact b6.refl _
 |found=>exact b6.refl _
 |ps=>exact b6.refl _
 |
  mC=>
  cases r with
  |ey c=>exact b6.bind' λ_=>b6.bind' λ_=>b6.bind' λ_=>Fc aY _ _ _ _ _
  |_=>exact b6.refl _
 |run a=>exact b6.refl _
 |
  iX a=>
  cases r with
  |post aD p=>exact b6.ite (λ_=>aiV aY _ _ _) λ_=>b6.bind' λ_=>avG aY _ _ _ _
  |_=>exact b6.refl _
 |on a=>exact b6.refl _
 |again a=>exact b6.refl _
 |next a left=>exact aiV aY _ _ _
 |
  mD a left=>
  cases r with
  |post aD p=>exact b6.ite (λ_=>b6.refl _) λ_=>aiU aY _ _ _ _
  |_=>exact b6.refl _
 |settled a=>exact K8 aY _ _ _ _
 |ended a id p k=>exact b6.bind' λx=>b6.bind' λ_=>b6.ite (λ_=>Sz aY _ _ _) λ_=>b6.ite (λ_=>aiS aY _ _ _ _) λ_=>aY _ _ _
 |mE l k=>exact b6.bind' λx=>aiQ aY _ _ _
 |hR a l e k=>exact b6.refl _
 |
  told id to k=>
  cases r with
  |post aD p=>exact b6.ite (λ_=>b6.bind' λ_=>aY _ _ _) λ_=>b6.ite (λ_=>b6.bind' λ_=>aY _ _ _) λ_=>K8 aY _ _ _ _
  |_=>exact b6.refl _
 |lJ a k=>exact K8 aY _ _ _ _
 |
  mF a kind slot k=>
  cases r with
  |
   fQ v=>
   exact b6.ite (λ_=>b6.bind' λF=>b6.bind' λ_=>aY _ _ _) (λ_=>b6.bind' λF=>b6.bind' λ_=>aY _ _ _)
  |_=>exact b6.refl _
 |
  asked id a e k=>
  cases r with
  |ey c=>exact b6.ite (λ_=>b6.bind' λ_=>aY _ _ _) λ_=>b6.bind' λ_=>aY _ _ _
  |_=>exact b6.refl _
 |watched a who k=>exact b6.refl _
 |
  gone a who k=>
  cases r with
  |post aD p=>exact b6.ite (λ_=>aY _ _ _) λ_=>b6.refl _
  |_=>exact b6.refl _
 |
  nq x y k=>
  cases r with
  |ht o=>exact b6.ite (λ_=>aY _ _ _) λ_=>b6.refl _
  |_=>exact b6.refl _
 |alone a k=>exact aiT aY _ _ _
 |
  kI a n k=>
  cases r with
  |ey c=>exact b6.bind' λ_=>b6.ite (λ_=>SA aY _ _ _ _ _) λ_=>SA aY _ _ _ _ _
  |_=>exact b6.refl _
 |closed a k=>exact b6.refl _
 |
  lc a k=>
  cases r with
  |post aD p=>exact b6.ite (λ_=>aY _ _ _) λ_=>b6.refl _
  |_=>exact b6.refl _
 |shut a k=>exact b6.refl _
 |oo a k=>exact b6.refl _
 |
  who a k=>
  cases r with
  |fQ v=>exact b6.ite (λ_=>Fc aY _ _ _ _ _) λ_=>b6.refl _
  |_=>exact b6.refl _
 |parent a k=>exact b6.bind' λ_=>b6.ite (λ_=>aY _ _ _) λ_=>b6.refl _
 |each d i n k=>exact Fc aY _ _ _ _ _
 |oU a=>exact K8 aY _ _ _ _
end
end
structure fp(a:Nat)(x:bU):Prop where
 id:x.id=a
 kids:x.kids.length<most
 qI:3*(x.front.length+x.aside.length)<most
structure eR(C:bO)(x:bU):Prop where
 par:x.parent<=C.aT
 slots:x.slots.length=4
 kids:x.kids.length+1<most
 K9:x.cH.length+1<most
 SB:∀p∈x.given,p.2.length<most
 SC:∀p∈x.timers,p.2.length<most
 jW:∀p∈x.timers,∀v∈p.2,0<=v
structure cS(C:bO)(j:Nat)(s:aq):Prop where
 aE:∀a x,dM s a=some x->1<=a/\fp a x
 na:s.aE.length<=C.aT
 a8:kO s.a8
 Fe:s.a8.length<=s.lets.length/\s.lets.length<=most
 notes:s.notes.length<most
 La:∀n∈s.notes,0<=n.who
 nr:s.trace.length<=most/\s.dead.length<=most
 jX:∃t,s.ax[j]?=some t/\t.on=none
section
variable{id w:Int}{f:Nat->ga}{C:bO}{g:aq->b3->K->Option aq}{P:List cr}{n j p q:Nat}{s y:aq}{l:c0}{a:Nat}{v:Int}{x:bU}{e:bG}
def Lb{l:List Nat}{x n:Nat}(h:x∈l)(ai:l.sum<n):x<n:=by
 induction l with
 |nil=>cases h
 |
  cons y l L=>
  simp only[Sl]at ai;rcases ky.1 h with rfl|h
  . omega
  . exact L h ad
def In.sV{s:aq}{x:bU}(h:In f C P n j p q s)(hp:bP s+10<most)(e:dM s a=some x):1<=a/\fp a x/\eR C x:=by
 unfold dM at e;split at e
 . rename_i h1
   have B:=h.base.aE _ _ e;have ai:iq x+10<most:=by
    have h2:iq x∈s.aE.map iq:=lN.2 ⟨x,jH e,rfl⟩;have:=Lb (n:=most -10) h2 Iq;omega
   unfold iq at ai;refine⟨h1,⟨by have:=B.id;omega,by omega,by omega⟩,⟨mZ B.par h.base.na,B.slots,by omega,by omega,λp hp=>?_,λp hp=>?_,λp hp v Z=>?_⟩⟩
   . have:=Lb (n:=most) (lN.2 ⟨p,hp,rfl⟩:(1+p.2.length)∈x.given.map (λp=>1+p.2.length)) ad;omega
   . have:=Lb (n:=most) (lN.2 ⟨p,hp,rfl⟩:(1+p.2.length)∈x.timers.map (λp=>1+p.2.length)) ad;omega
   . have aN:1<=v:=(B.jW p hp v Z).1;omega
 . cases e
def cS.of(h:In f C P n j p q s)(aO:n<=bo)(hp:bP s+10<most):cS C j s:=by
 have I:bo=1000000000000:=rfl;refine⟨λa x e=>⟨(h.sV hp e).1,(h.sV hp e).2.1⟩,h.base.na,h.base.a8.1,⟨h.base.a8.2,?_⟩,by unfold bP at hp;omega,λm bf=>(h.base.notes m bf).who.1,by unfold bP at hp;omega,h.jX⟩;have h2:=h.num.pf;unfold most;omega
def cS.l9(h:cS C j s):s.a8.length<=most:=mZ h.Fe.1 h.Fe.2
def avI{b:Nat}{x y:bU}(aX:1<=a)(h:dM (c8 s a x) b=some y):(a=b/\y=x)\/dM s b=some y:=by
 unfold dM c8 at*;split at h
 . rename_i aA
   by_cases e:a -1=b -1
   . have j:a=b:=by omega
     subst j;have d4:=(dp.1 h).1;rw[gr]at d4;rw[zt d4]at h;cases h;exact .inl cj
   . rw[rz e]at h
     exact .inr (by rw[bg aA];exact h)
 . cases h
def SD{F:bU}(h:dM s a=some F):dM (c8 s a x) a=some x:=by
 unfold dM c8 at*;split at h
 . rename_i aX
   rw[bg aX,zt (dp.1 h).1]
 . cases h
def cS.set{C:bO}{j a:Nat}{s:aq}{x:bU}(h:cS C j s)(aX:1<=a)(ah:fp a x):cS C j (c8 s a x):=
 ⟨fun b y e => by
  rcases avI aX e with⟨rfl,rfl⟩|e
  . exact⟨aX,ah⟩
  . exact h.aE b y e,by show(s.aE.set _ _).length<=_;rw[gr];exact h.na,h.a8,h.Fe,h.notes,h.La,h.nr,h.jX⟩
def cS.Ad{aW:aq}(h:cS C j s)(ea:aW.aE=s.aE)(el:dZ s.a8 aW.a8)(de:aW.notes=s.notes)(b:aW.lets=s.lets)(cQ:aW.ax=s.ax)(aC:aW.trace.length<=most)(aV:aW.dead.length<=most):cS C j aW:=
 ⟨λa x e=>h.aE a x (by unfold dM at*;rwa[ea]at e),by rw[ea];exact h.na,el.1 h.a8,by rw[el.2,b];exact h.Fe,by rw[de];exact h.notes,by rw[de];exact h.La,⟨aC,aV⟩,by rw[cQ];exact h.jX⟩
def dZ.same{r:List sh}:dZ r r:=⟨λh=>h,rfl⟩
theorem dZ.from{r:List sh}{id w:Int}(R:1<=w/\w<=8):dZ r (du r id w):=⟨λh=>h.from R,Led.yT⟩
theorem dZ.FV{r:List sh}{id w:Int}:dZ r (dH r id w):=⟨λh=>h.FV,fo⟩
def j6{o:b3}{k:K}(h:hs j s o k=some y):∃t,s.ax[j]?=some t/\t.on=none/\y={s with ax:=s.ax.set j Jv}:=by
 unfold hs at h;cases e:s.ax[j]?with
 |none=>rw[e]at h;cases h
 |
  some t=>
  rw[e]at h;simp only[bind,Option.bind]at h;split at h
  . rename_i aO
    cases h;refine⟨t,rfl,?_,rfl⟩;cases aJ:t.on with
    |none=>rfl
    |some q=>rw[aJ]at aO;cases aO
  . cases h
def l8{s y:aq}(h:iR e s=some y):s.trace.length<most/\y=BC:=by
 unfold iR at h;split at h
 . rename_i aw;cases h;exact⟨aw,rfl⟩
 . cases h
theorem Cf{why:Int}{s y:aq}(h:kill id why s=some y):∃l,kk s id=some l/\s.dead.length<most/\s.trace.length<most/\(1<=why/\why<=5)/\y={s with a8:=du s.a8 id 8,dead:=s.dead++[(id,l.to,why)],trace:=s.trace++[({cz with kind:=6,id:=id,to:=l.to,why:=why}:bG)]}:=by
 unfold kill at h;cases e:kk s id with
 |none=>rw[e]at h;cases h
 |
  some l=>
  rw[e]at h;simp only[bind,Option.bind]at h;split at h
  . rename_i aS
    obtain⟨h1,rfl⟩:=l8 h;exact⟨l,rfl,aS.1,h1,aS.2,rfl⟩
  . cases h
def zS{s y:aq}{n:dn}{k:K}(h:sN C j s a n k=some y):s.notes.length<most/\(1<=a/\a<=C.aT)/\∃t,s.ax[j]?=some t/\t.on=none/\y={s with notes:=s.notes++[n],ax:=s.ax.set j {t with on:=some (.post a (xB s.notes.length),.lJ a k)}}:=by
 unfold sN at h;split at h
 . rename_i a6
   obtain⟨t,h1,h2,rfl⟩:=j6 h;exact⟨a6.1,a6.2,t,h1,h2,rfl⟩
 . cases h
def Cg{l:List Int}{w:Int}{k:K}(h:xx C g j s l w k=some y):(0=l.length/\g s dN k=some y)\/∃(b:Nat) (t:b0),0<l.length/\l[0]?=some (b:Int)/\(1<=b/\b<=C.aT)/\s.ax[j]?=some t/\t.on=none/\
 y={s with notes:=s.notes++[⟨w,0,[]⟩],ax:=s.ax.set j {t with on:=some (.post b (xB s.notes.length),.lJ b (.each (.push l w) 0 l.length k))}}:=by
 unfold xx nN at h;split at h
 . rename_i bi;exact .inl ⟨bi,h⟩
 . rename_i bi
   refine .inr ?_;simp only[nM]at h;cases e:l[0]?with
   |none=>rw[e]at h;cases h
   |
    some v=>
    rw[e]at h;obtain⟨h1,h2,t,aN,bA,d3⟩:=zS h;exact⟨v.toNat,t,by omega,by rw[show((v.toNat:Nat):Int)=v by omega],h2,aN,bA,d3⟩
theorem Lc{w:Int}:∀{l:List Int} {s y:aq},kH w l s=some y->(∃a b c,y={s with a8:=a,dead:=b,trace:=c})/\dZ s.a8 y.a8/\(∀id∈l,∃x,kk s id=some x)/\s.trace.length+l.length=y.trace.length/\s.dead.length+l.length=y.dead.length/\(l≠[]->y.trace.length<=most/\y.dead.length<=most)
 |[],s,y,h=>by cases h;exact⟨⟨_,_,_,rfl⟩,dZ.same,(λ_ h=>by cases h),rfl,rfl,λh=>absurd rfl h⟩
 |
  id::l,s,y,h=>by
  simp only[kH,bind]at h;cases e:kill id w s with
  |none=>rw[e]at h;cases h
  |
   some s1=>
   rw[e]at h;obtain⟨x,h1,h2,aN,bA,rfl⟩:=Cf e;obtain⟨⟨a,b,c,rfl⟩,cU,em,gc,hm,G⟩:=Lc (l:=l) h;simp only[eZ,iG,lk]at gc hm;refine⟨⟨_,_,_,rfl⟩,⟨λr=>cU.1 (r.from bw),cU.2.trans Led.yT⟩,λi ak=>?_,by simp only[iG];omega,by simp only[iG];omega,λ_=>?_⟩
   . rcases ky.1 ak with rfl|ak
     . exact⟨x,h1⟩
     . exact em i ak
   . cases l with
     |nil=>simp only[lk]at gc hm;constructor<;>(simp only;omega)
     |cons F l=>exact G gl
theorem avJ:kill id w (c8 s a x)=(kill id w s).map (c8 · a x):=by
 unfold kill;have e:kk (c8 s a x) id=kk s id:=rfl;rw[e];cases kk s id with
 |none=>rfl
 |
  some l=>
  simp only[bind,Option.bind];show(if s.dead.length<most/\1<=w/\w<=5 then _ else none)=_;split
  . unfold iR
    show(if s.trace.length<most then _ else none)=Option.map _ (if s.trace.length<most then _ else none);split<;>rfl
  . rfl
theorem aiW{w:Int}{a:Nat}{x:bU}:∀{l:List Int} {s:aq},kH w l (c8 s a x)=(kH w l s).map (c8 · a x)
 |[],s=>rfl
 |
  id::l,s=>by
  simp only[kH,bind];rw[avJ];cases kill id w s with
  |none=>rfl
  |some s1=>exact aiW (l:=l) (s:=s1)
theorem SE(w:Int):∀(l:List Int) (s:aq),l.foldl (λs id=>move s id w) s={s with a8:=l.foldl (λr id=>dH r id w) s.a8}
 |[],s=>rfl
 |x::l,s=>by rw[yM,yM,SE w l];rfl
theorem aiX(a w:Int):∀(l:List Int) (s:aq),l.foldl (λs id=>mz s id a w) s={s with a8:=l.foldl (λr id=>if bm r id=a then dH r id w else r) s.a8}
 |[],s=>rfl
 |
  x::l,s=>by
  rw[yM,yM,aiX a w l];unfold mz;split<;>rfl
def avK(h:dM s a=some x):c8 s a x=s:=by
 unfold dM at h;split at h
 . obtain⟨h1,h2⟩:=dp.1 h
   unfold c8;rw[<-h2,AW h1]
 . cases h
theorem aiY{s1:aq}{l:c0}{a:Bool}{v id:Int}(h:enter s l a (.fQ v)=some (s1,id)):id=v/\v=((s.lets.length+1:Nat):Int)/\s.lets.length<most/\s.trace.length<most/\
 s1={s with lets:=s.lets++[l],a8:=dW s.a8 v 1,trace:=s.trace++[(aa5:bG)]}:=by
 unfold enter at h;simp only at h;split at h
 . rename_i a6
   cases U:iR aa5 {s with lets:=s.lets++[l],a8:=dW s.a8 v 1}with
   |none=>rw[U]at h;cases h
   |
    some cb=>
    rw[U]at h;obtain⟨h1,rfl⟩:=l8 U;cases h;exact⟨rfl,a6.1,a6.2,h1,rfl⟩
 . cases h
theorem cS.enter(h:cS C j s)(h1:s.lets.length<most)(h2:s.trace.length<most):cS C j {s with lets:=s.lets++[l],a8:=dW s.a8 v 1,trace:=s.trace++[e]}:=
 ⟨fun a x e => h.aE a x e, h.na, h.a8.acc, by
  have aN:=YK (r:=s.a8) (id:=v) (w:=1);have bA:=h.Fe.1;simp only[eZ,iG,lk];omega,h.notes,h.La,by simp only[eZ,iG,lk];have:=h.nr;omega,h.jX⟩
theorem aiZ(h:dM s a=some x):Ce s a=some (c8 {s with a8:=x.aside.foldl (λr id=>dH r id 4) s.a8} a PN):=by
 unfold Ce;simp only[h,bind,Option.bind];rw[SE]
theorem avL{s y:aq}{k:K}{x:bU}{st:fU}(B:dM s a=some x)(hk:x.kids=[])(bf:x.mode=3)(ai:x.kind.states[0]?=some st)(h:rC g j s a k=some y):
 s.trace.length<most/\g (c8 {s with a8:=x.aside.foldl (λr id=>dH r id 4) s.a8,trace:=s.trace++[({cz with kind:=12,dc:=a}:bG)]} a IS) dN k=some y:=by
 unfold rC at h;simp only[B,qD,k0]at h;rw[a7 (λe=>e hk),a7 ad,bg bf]at h;simp only[ai,k0]at h;have u:=aiZ (SD (x:=Ee) B);simp only[u,k0]at h;have cU:∀(l:List (Int×Int)) (F w:bU),dM (c8 {c8 s a F with a8:=l} a w) a=some w:=λl F w=>SD (s:={c8 s a F with a8:=l}) (F:=F) (SD B);simp only[cU,k0]at h;have em:∀(l:List (Int×Int)) (F w v:bU),c8 (c8 {c8 s a F with a8:=l} a w) a v=c8 {s with a8:=l} a v:=λl F w v=>by simp[c8,List.set_set]
 simp only[em]at h;obtain⟨s1,U,ag⟩:=ij.1 h;obtain⟨h1,rfl⟩:=l8 U;exact⟨h1,ag⟩
end
section
variable{f:Nat->ga}{C:bO}{P:List cr}{n V j:Nat}{s:aq}
theorem ai0(cL:iQ f C C.cells)(N:C.ok)(aO:n+1<=bo)(h:Inv f C P n s){t:b0}{o:b3}{k:K}(cQ:s.ax[j]?=some t)(B:t.on=some (o,k))(J:(acc C s o).2.over=true):
 (cX C P (bn Ef) k/\bP Ef=bP s/\bB k<=90000/\(∀az,(acc C s o).2=.ey az->0<=az.val/\az.val<=18446744073709551615))/\
 In f C P (n+1) j (eT k) (eU k) Ef/\eS C j Ef (acc C s o).2 k:=by
 refine afb ?_;intro I ak c aj O Z hk U z H E;have y:iQ f C s.L.length:=OK;have m:∀{fP},ec C (bn s) fP j (acc C s o).1.L (acc C s o).2->∀az,(acc C s o).2=.ey az->0<=az.val/\az.val<=18446744073709551615:=λv az e=>by
  rw[e]at v;exact v.1.val
 -- the threads behind it
 have ax:∀(q:nK) (fP:Nat->Nat) (dr:b0),(∀i,i≠j->q≠.own i)->(∀w,ak w<=fP w)->zM f C (bn s) ak n j q s o (acc C s o).1 (acc C s o).2->sL C P (bn s) fP (acc C s o).1.L j dr->
  ∀i u,(s.ax.set j dr)[i]?=some u->sL C P (bn s) fP (acc C s o).1.L i u:=λq fP dr bt co A M i u e=>by
  by_cases g1:j=i
  . subst g1
    obtain⟨d4,rfl⟩:=dp.1 e;rw[yX];exact M
  . rw[rz g1]at e
    exact ai1 cL c A bt co (λh=>g1 h.symm) (aj i u e)
 by_cases L:∃a d,o=.add a d
 . obtain⟨a,d,rfl⟩:=L
   obtain⟨aX,rfl⟩:=Z;have A:=aii (j:=j) cL aO c aX;have bt:∀i,i≠j->nK.jf≠.own i:=λi _ e=>by cases e
   obtain⟨fP,co,aI,D⟩:=A.ex;have T:=Ch C s (.add a 1) Jk;refine⟨⟨by rw[T];exact hk,IF _ _ _ _,by omega,m D⟩,?_⟩;have he:∀p q,pT C (n+1) p q {(acc C s (.add a 1)).1 with ax:=s.ax.set j {t with on:=none}}->In f C P (n+1) j p q sl:=λp q F=>by
    exact adB
   have nj:=h.num.nj;have pf:=h.num.pf;have dv:=h.num.dv;have mv:=h.num.mv;have mx:=h.num.mx;have un:∀x:Int,0<=x->x<9223372036854775808->fe x=x:=λx a b=>by rw[xm];omega
   have hlen:2<=s.L.length:=Zl;have Lz:∀{p q:Nat},eT k=p->eU k=q->pT C (n+1) p q sl->eS C j sl (acc C s (.add a 1)).2 k->In f C P (n+1) j (eT k) (eU k) sl/\eS C j sl (acc C s (.add a 1)).2 k:=λaC aV F aF=>by
    rw[aC,aV];exact⟨he _ _ F,aF⟩
   exact ad9
 . have hH:∀a d,o≠.add a d:=λa d e=>L ⟨a,d,e⟩
   have A:=aih cL N aO c Z E hH;have bt:∀i,i≠j->nK.own j≠.own i:=λi g1 e=>by cases e;exact g1 rfl
   obtain⟨fP,co,aI,D⟩:=A.ex;have gJ:(acc C s o).1.L.getD 0 0=s.L.getD 0 0:=A.wr.jf gl cL.eA;have aC:(acc C s o).1.L.getD 1 0=s.L.getD 1 0:=A.wr.jf gl cL.c1;have F:∀dr,pT C (n+1) 0 0 Jm:=λdr=>by
    exact afi
   have T:=Ch C s o Jk;have X:eT k=0/\eU k=0:=Zm;refine acR ?_;intro he;exact⟨⟨by rw[T];exact hk,IF _ _ _ _,by omega,m D⟩,by rw[X.1,X.2];exact he,ai2 U hH A T rfl⟩
end
def avM(C:bO)(s:aq)(o:b3):(acc C s o).1.aE=s.aE:=by cases o<;>rfl
def avN(C:bO)(s:aq)(o:b3):(acc C s o).1.lets=s.lets:=by cases o<;>rfl
section
variable{F:Nat->aq->Option aq}{n i:Nat}
def avO(h:i<n):(List.range n).drop i=i::(List.range n).drop (i+1):=by
 rw[s5 (by rw[u0];exact h)];simp
def ai3(h:i<n)(s:aq):sR F ((List.range n).drop i) s=(F i s).bind (sR F ((List.range n).drop (i+1))):=by
 rw[avO h];rfl
def avP(s:aq):sR F ((List.range n).drop n) s=some s:=by
 rw[CI (by rw[u0];exact et _)];rfl
def ai4{C:bO}{P:List cr}{k:Nat}{s:aq}{F:aq×Bool}(h:rest C P (k+1) s=some F):(quiet C s=true/\F=(s,true))\/(quiet C s=false/\∃s1 cb ce b,sR (λj s=>stepT C P (e5 C j) j s) (List.range C.bc) s=some s1/\sR (λi s=>if busy s (C.bc+i)then eG C P (C.bc+i) s else some s) (List.range C.cT) s1=some cb/\zR C P cb=some (ce,b)/\rest C P k ce=some F):=by
 unfold rest at h;split at h
 . rename_i bt;cases h;exact .inl ⟨bt,rfl⟩
 . rename_i bt
   refine .inr ⟨by simpa using bt,?_⟩;obtain⟨ce,h1,h2⟩:=ij.1 h;unfold round at h1;obtain⟨s1,aC,h1⟩:=ij.1 h1;obtain⟨cb,aV,h1⟩:=ij.1 h1;obtain⟨⟨a,b⟩,bF,dx⟩:=oV.1 h1;cases dx;exact⟨s1,cb,_,b,aC,aV,bF,h2⟩
end
section
variable(C:bO)(P:List cr)(s:aq)
abbrev eh(n:Nat)(s:aq):Prop:=hg (bH C) C P n s
def Ci(e:dA):aq×Bool:=(nO C P s e).getD (s,false)
def Ff(k:Nat)(s:aq):aq×Bool:=(rest C P k s).getD (s,false)
def Ld:aq:=(start C P).getD ⟨[],⟨0,0,[]⟩,[],[],[],[],[],[],0,0,false,[]⟩
end
section
variable{C:bO}{P:List cr}{n:Nat}{s:aq}
def SF(N:C.ok)(dg:h7 P)(h:eh C P n s)(aO:n+1<=hh)(e:dA):nO C P s e=some (Ci C P s e)/\eh C P (n+1) (Ci C P s e).1:=by
 obtain⟨aW,b,aC,r⟩:=Cj (sS N) N dg aO h e;unfold Ci;rw[aC];exact⟨rfl,r⟩
def ai5{k n:Nat}{s:aq}(N:C.ok)(dg:h7 P)(h:eh C P n s)(aO:n+13*k<=hh):rest C P k s=some (Ff C P k s)/\eh C P (n+13*k) (Ff C P k s).1:=by
 obtain⟨aW,b,aC,r⟩:=SG (sS N) N dg k n s aO h;unfold Ff;rw[aC];exact⟨rfl,r⟩
def avQ(N:C.ok)(dg:h7 P):start C P=some (Ld C P)/\eh C P 1 (Ld C P):=by
 obtain⟨s,aC,r⟩:=Le N dg;unfold Ld;rw[aC];exact⟨rfl,r⟩
def jG:bO:=⟨1,1,4,4,2,2,4,4,4⟩
def zT:fF:=⟨1,[115,101,108,102],[],[121],0,0,0⟩
def j7:List cr:=[⟨[97],0,1,none,0,[],none,0,[⟨[115],none,0,[⟨[120],false,0,none,0,[zT]⟩]⟩]⟩]
def ua:jG.ok:=by constructor<;>decide
def xD:h7 j7:=⟨by decide,λk hk=>by
 obtain rfl:=rN.1 hk;refine⟨by decide,λt U r aF=>?_⟩;obtain rfl:=rN.1 U;obtain rfl:=rN.1 aF;refine⟨by decide,λe Y=>?_⟩;obtain rfl:=rN.1 Y;decide⟩
def Cl:aq:=Ld jG j7
def Fg:aq×Bool:=Ci jG j7 Cl ⟨4,0,1,[120],5⟩
def rF:aq×Bool:=Ff jG j7 100 Fg.1
def Fh:aq×Bool:=Ci jG j7 rF.1 ⟨7,0,0,[],0⟩
def xE:aq×Bool:=Ff jG j7 100 Fh.1
def Cm:aq×Bool:=Ci jG j7 xE.1 ⟨4,0,1,[120],0⟩
def SH:start jG j7=some Cl/\eh jG j7 1 Cl:=avQ ua xD
def SI:nO jG j7 Cl ⟨4,0,1,[120],5⟩=some Fg/\eh jG j7 2 Fg.1:=SF ua xD SH.2 bw _
def Lf:rest jG j7 100 Fg.1=some rF/\eh jG j7 1302 rF.1:=ai5 ua xD SI.2 bw
def SJ:nO jG j7 rF.1 ⟨7,0,0,[],0⟩=some Fh/\eh jG j7 1303 Fh.1:=SF ua xD Lf.2 bw _
def Lh:rest jG j7 100 Fh.1=some xE/\eh jG j7 2603 xE.1:=ai5 ua xD SJ.2 bw
def ai6:nO jG j7 xE.1 ⟨4,0,1,[120],0⟩=some Cm/\eh jG j7 2604 Cm.1:=SF ua xD Lh.2 bw _
def Fi:Fg.2=true/\rF.2=true/\Fh.2=true/\xE.2=true/\Cm.2=true:=⟨by kernel_rfl,by kernel_rfl,by kernel_rfl,by kernel_rfl,by kernel_rfl⟩
def Cn:rF.1.trace.length=7/\xE.1.trace.length=9/\Cm.1.trace.length=10:=⟨by kernel_rfl,by kernel_rfl,by kernel_rfl⟩
def Li:rF.1.trace[1]?=some {cz with kind:=2,id:=1,cf:=-1,to:=1,name:=[120],n:=5}/\rF.1.trace[3]?=some {cz with kind:=2,id:=2,cf:=1,to:=1,name:=[121],n:=5}/\rF.1.trace[6]?=some {cz with kind:=4,dc:=1,id:=2,name:=[115]}/\(Cm.1.trace[9]?).map (·.kind)=some 1:=⟨by kernel_rfl,by kernel_rfl,by kernel_rfl,by kernel_rfl⟩
def Lj:xE.1.aE.length=1/\(xE.1.aE[0]?).map (·.mode)=some 5:=⟨by kernel_rfl,by kernel_rfl⟩
def fr(C:bO)(P:List cr)(es:List dA)(k:Int):Option (aq×Bool):=do
 let s<-start C P
 let s<-(es.take 400).foldlM (λs e=>(nO C P s e).map (·.1)) s
 rest C P (min (max (min k 400) 0) 20000).toNat s
def ai7{C:bO}{P:List cr}(N:C.ok)(dg:h7 P):∀(es:List dA) (n:Nat) (s:aq),n+es.length<=hh->eh C P n s->∃aW,es.foldlM (λs e=>(nO C P s e).map (·.1)) s=some aW/\eh C P (n+es.length) aW
 |[],n,s,_,h=>⟨s,rfl,h⟩
 |
  e::es,n,s,aO,h=>by
  simp only[iG]at aO;obtain⟨s1,b,aC,gO⟩:=Cj (sS N) N dg ad h e;obtain⟨cb,aV,lD⟩:=ai7 N dg es (n+1) s1 ad gO;refine⟨cb,?_,by rw[iG,show n+(es.length+1)=n+1+es.length by omega];exact lD⟩;rw[List.foldlM_cons,aC];exact aV
def avR(N:C.ok)(dg:h7 P)(es:List dA)(k:Int):∃F,fr C P es k=some F/\eh C P 6000 F.1:=by
 obtain⟨s,aC,gO⟩:=Le N dg;have aw:(es.take 400).length<=400:=Io;have hk:hh=10000000:=rfl;obtain⟨cb,aV,lD⟩:=ai7 N dg (es.take 400) 1 s ad gO;have bf:(min (max (min k 400) 0) 20000).toNat<=400:=ad;obtain⟨ce,b,bF,o⟩:=SG (sS N) N dg (min (max (min k 400) 0) 20000).toNat _ cb ad lD;refine⟨(ce,b),?_,o.aU ad ad⟩;unfold fr;simp only[aC,aV,bind,Option.bind];exact bF
end
end Go.L.Th
namespace Go.Proofs.YtnnhpnccfnghdaaGreat.L.bM
open Go.Proofs.YtnnhpnccfnghdaaGreat.L
open Go.L Go.L.Ring Go.L.dD Go.L.ej Go.L.Whl Go.L.dP Go.L.Lx Go.L.Pg
open Go.L.Led (du dH dW bm aw fo)
open Go.L.Th (bO c0 dn bG dE bU b3 e4 b0 aq most dY cS fp eR dZ In cX c9 eS bB bP eT eU bn cI dF go bo Good ei eV ec acc Inv eG e5 fj busy dA eC eh fr)
attribute[local irreducible] G cJ GE c3 GT b1 dk c7 ds Exit.then Exit.inBlock
section
variable{A B:al}{D:List al}{h:eQ}
def EX(A B:al):al:=λh=>A h\/B h
theorem ahR(s:Sat (A::D) h):Sat (EX A B::D) h:=Sat.head (λ_ x=>.inl x) s
theorem ahS(s:Sat (B::D) h):Sat (EX A B::D) h:=Sat.head (λ_ x=>.inr x) s
theorem R3(s:Sat (EX A B::D) h):Sat (A::D) h\/Sat (B::D) h:=by
 obtain⟨h1,h2,d,e,aX|aA,t⟩:=s
 . exact .inl ⟨h1,h2,d,e,aX,t⟩
 . exact .inr ⟨h1,h2,d,e,aA,t⟩
def eW(l:List al):al:=dq (bv:=Unit) (λ_=>True) (λ_=>l)
structure cO where
 C:bO
 P:List cr
 h:Nat
 m:Nat
 cN:kN
 db:Ck.oD
 bl:Nat
 br:Nat->Po.nl
 KP:Option Addr
 KQ:Nat
 zD:Option Addr
 zE:Nat
 zF:Option Addr
 zG:Nat
 bp:Nat->Nat
 am:Nat
 dL:Nat
 ld:Nat
 cF:Nat
 bZ:Option Addr
 pc:Nat
structure dw where
 ap:List Nat
 ae:List Nat
 na:Option Addr
 dT:Nat
 b4:Option Addr
 b5:Nat
 tt:Int
abbrev nn(l:c0):List Value:=[af l.cf,af l.to,S l.tag,af l.n,.bool l.pY]
end
section
variable(e:bG)(n:dn)(a:Option Addr)(X:cO)(c:Nat)(z:dw)(l:List bG)(s:aq)
abbrev iz:List Value:=[af n.what,af n.who,S n.reason]
abbrev kv:List Value:=[af e.kind,af e.dc,bx e.id,af e.cf,af e.to,S e.name,af e.n,af e.why,.bool e.kF]
def auC:(iz n).length=3:=rfl
def zH:(kv e).length=9:=rfl
def auD:(l.flatMap kv).all Value.oneCell'=true:=by
 rw[p2];intro x ah;obtain⟨e,_,Y⟩:=CF.1 ah;simp only[kv,ky,Ah,or_false]at Y;rcases Y with rfl|rfl|rfl|rfl|rfl|rfl|rfl|rfl|rfl<;>rfl
abbrev di:al:=own (.slice a l.length c) 38 9 l.length (l.flatMap kv)
abbrev dX(l:List dn):al:=own (.slice a l.length c) 261 3 l.length (l.flatMap iz)
abbrev qx:List Value:=
 [
  af X.C.bc,af X.C.cT,af X.C.aT,af X.C.hW,af X.C.dO,af X.C.mB,af X.C.eX,af X.C.iS,af X.C.c6,.slice X.bZ X.P.length X.pc,ptr X.m 0,af 0,af 1,af 2,ptr X.cN.c 0,ptr X.db.c 0,ptr X.bl 0,
  .slice X.KP X.C.aT X.KQ,.map (some X.am),.map (some X.dL),.slice z.na s.notes.length z.dT,ptr X.ld 0,ptr X.cF 0,.slice z.b4 s.trace.length z.b5,af s.now,af s.ticks,.bool s.shut,.slice X.zD X.C.bc X.zE,.slice X.zF X.C.cT X.zG,ptr (X.bp (X.C.bc+X.C.cT)) 0]
abbrev cp:al:=aa X.h 108 (qx X z s)
def nG:b3->Nat
 |.load _=>314
 |.add _ _=>314
 |.fQ _=>314
 |.post _ _=>246
 |.ht _=>392
 |.fE _=>169
 |.ey _=>248
def cM(p:Nat):b3->al
 |.load c=>qZ p X.m c
 |.add c d=>EW p X.m c d
 |.fQ v=>dq (bv:=Bool) (λ_=>True) (λw=>[nX p v w])
 |.post a o=>Po.fa (X.br a) (X.C.box a) p o
 |.ht o=>k3 p X.m o
 |.fE o=>gy X.cN X.C.bC p o
 |.ey o=>Ck.hT X.db X.C.df p o
end
section
variable{X:cO}{ap ae:List Nat}{j p f a:Nat}{k:Th.K}{c:List Value}(aK ar V z J:Nat)(M:List Value)
def a1(X:cO)(ap ae:List Nat)(j p:Nat):Th.K->Nat->List Value->al
 |.nil,f,c=>dq (bv:=Unit) (λ_=>(f=235\/f=289\/f=168\/f=94\/f=159)/\c=[]) (λ_=>[])
 |.polled,f,c=>dq (bv:=Nat×Nat) (fun⟨aK,ar⟩=>f=80/\c=[ptr aK 0,ptr ar 0]) (fun⟨aK,ar⟩=>[aa aK 169 [ptr p 0],aa ar 106 [ptr (X.bp j) 0]])
 |.found,f,c=>dq (bv:=Nat×Nat) (fun⟨aK,ar⟩=>f=83/\c=[ptr aK 0,ptr ar 0]) (fun⟨aK,ar⟩=>[aa aK 169 [ptr p 0],aa ar 106 [ptr (X.bp j) 0]])
 |.ps,f,c=>dq (bv:=Nat×Nat) (fun⟨aK,ar⟩=>f=87/\c=[ptr aK 0,ptr ar 0]) (fun⟨aK,ar⟩=>[aa aK 169 [ptr p 0],aa ar 106 [ptr (X.bp j) 0]])
 |.mC,f,c=>dq (bv:=Nat×Nat×Nat) (fun⟨aK,ar,V⟩=>f=148/\c=[ptr aK 0,ptr ar 0,ptr V 0]) (fun⟨aK,ar,V⟩=>[aa aK 32 [ptr X.h 0],aa ar 248 [ptr p 0],aa V 106 [ptr (X.bp j) 0]])
 |.run a,f,c=>dq (bv:=Nat×Nat×Nat) (fun⟨aK,ar,z⟩=>f=138/\c=[ptr aK 0,ptr ar 0]/\ap[a -1]?=some z) (fun⟨aK,ar,z⟩=>[aa aK 106 [ptr (X.bp j) 0],aa ar 110 [ptr z 0]])
 |.iX a,f,c=>dq (bv:=Nat×Nat×Nat×Nat) (fun⟨aK,ar,V,z⟩=>f=195/\c=[ptr aK 0,ptr ar 0,ptr V 0]/\ap[a -1]?=some z) (fun⟨aK,ar,V,z⟩=>[aa aK 246 [ptr p 0],aa ar 106 [ptr (X.bp j) 0],aa V 110 [ptr z 0]])
 |.on a,f,c=>dq (bv:=Nat×Nat×Nat) (fun⟨aK,ar,z⟩=>f=198/\c=[ptr aK 0,ptr ar 0]/\ap[a -1]?=some z) (fun⟨aK,ar,z⟩=>[aa aK 110 [ptr z 0],aa ar 106 [ptr (X.bp j) 0]])
 |.again a,f,c=>dq (bv:=Nat×Nat×Nat) (fun⟨aK,ar,z⟩=>f=234/\c=[ptr aK 0,ptr ar 0]/\ap[a -1]?=some z) (fun⟨aK,ar,z⟩=>[aa aK 106 [ptr (X.bp j) 0],aa ar 110 [ptr z 0]])
 |.next a left,f,c=>dq (bv:=Nat×Nat×Nat×Nat) (fun⟨aK,ar,V,z⟩=>f=236/\c=[ptr aK 0,ptr ar 0,ptr V 0]/\ap[a -1]?=some z) (fun⟨aK,ar,V,z⟩=>[aa aK 106 [ptr (X.bp j) 0],aa ar 110 [ptr z 0],aa V 3 [af left]])
 |.mD a left,f,c=>dq (bv:=Nat×Nat×Nat×Nat×Nat×Nat) (fun⟨aK,ar,V,ay,d,z⟩=>f=240/\c=[ptr aK 0,ptr ar 0,ptr V 0,ptr ay 0]/\ap[a -1]?=some z) (fun⟨aK,ar,V,ay,d,z⟩=>[aa aK 246 [ptr p 0],aa ar 106 [ptr (X.bp j) 0],aa V 110 [ptr z 0],aa ay 1 [bk 236 [ptr ar 0,ptr V 0,ptr d 0]],aa d 3 [af left]])
 |.settled a,f,c=>dq (bv:=Nat×Nat×Nat×Nat) (fun⟨aK,ar,V,z⟩=>f=288/\c=[ptr aK 0,ptr ar 0,ptr V 0]/\ap[a -1]?=some z) (fun⟨aK,ar,V,z⟩=>[aa aK 106 [ptr (X.bp j) 0],aa ar 246 [ptr p 0],aa V 110 [ptr z 0]])
 |.ended a id I k,f,c=>dq (bv:=Nat×Nat×Nat×Nat×Nat×Nat×Nat×Nat×List Value×Option Addr×Nat) (fun⟨aK,ar,V,ay,aL,aR,z,J,M,ea,cZ⟩=>f=295/\c=[ptr aK 0,ptr ar 0,ptr V 0,ptr ay 0,ptr aL 0,ptr aR 0]/\ap[a -1]?=some z) (fun⟨aK,ar,V,ay,aL,aR,z,J,M,ea,cZ⟩=>[aa aK 356 (lh ea cZ I),aa ar 110 [ptr z 0],aa V 32 [ptr X.h 0],aa ay 36 [bx id],aa aL 106 [ptr (X.bp j) 0],aa aR 1 [bk J M],km ea cZ I.cx,a1 X ap ae j 0 k J M])
 |.mE l k,f,c=>dq (bv:=Nat×Nat×Nat×Nat×Nat×Nat×Nat×Nat×List Value) (fun⟨aK,ar,V,ay,aL,x,y,J,M⟩=>f=213/\c=[ptr aK 0,ptr ar 0,ptr V 0,ptr ay 0,ptr aL 0]) (fun⟨aK,ar,V,ay,aL,x,y,J,M⟩=>[aa aK 314 [ptr p 0],aa ar 187 (nn l),aa V 32 [ptr X.h 0],aa ay 4 [.bool false],aa aL 259 [bk 164 [ptr x 0,ptr y 0]],aa x 106 [ptr (X.bp j) 0],aa y 1 [bk J M],a1 X ap ae j 0 k J M])
 |.hR a l e k,f,c=>dq (bv:=Nat×Nat×Nat×Nat×Nat×Nat×Nat×Nat×Nat×Nat×Nat×List Value) (fun⟨aK,ar,V,ay,aL,x,F,w,y,z,J,M⟩=>f=213/\c=[ptr aK 0,ptr ar 0,ptr V 0,ptr ay 0,ptr aL 0]/\ap[a -1]?=some z) (fun⟨aK,ar,V,ay,aL,x,F,w,y,z,J,M⟩=>[aa aK 314 [ptr p 0],aa ar 187 (nn l),aa V 32 [ptr X.h 0],aa ay 4 [.bool true],aa aL 259 [bk 344 [ptr x 0,ptr F 0,ptr w 0,ptr y 0]],aa x 106 [ptr (X.bp j) 0],aa F 110 [ptr z 0],aa w 87 (fM e),aa y 1 [bk J M],a1 X ap ae j 0 k J M])
 |.told id to k,f,c=>dq (bv:=Nat×Nat×Nat×Nat×Nat×Nat×Nat×List Value) (fun⟨aK,ar,V,ay,aL,aR,J,M⟩=>f=210/\c=[ptr aK 0,ptr ar 0,ptr V 0,ptr ay 0,ptr aL 0,ptr aR 0]) (fun⟨aK,ar,V,ay,aL,aR,J,M⟩=>[aa aK 246 [ptr p 0],aa ar 32 [ptr X.h 0],aa V 36 [bx id],aa ay 106 [ptr (X.bp j) 0],aa aL 3 [af to],aa aR 1 [bk J M],a1 X ap ae j 0 k J M])
 |.lJ a k,f,c=>dq (bv:=Nat×Nat×Nat×Nat×Nat×List Value) (fun⟨aK,ar,V,ay,J,M⟩=>f=356/\c=[ptr aK 0,ptr ar 0,ptr V 0,ptr ay 0]) (fun⟨aK,ar,V,ay,J,M⟩=>[aa aK 106 [ptr (X.bp j) 0],aa ar 246 [ptr p 0],aa V 3 [af a],aa ay 1 [bk J M],a1 X ap ae j 0 k J M])
 |.mF a kind slot k,f,c=>dq (bv:=Nat×Nat×Nat×Nat×Nat×Nat×Nat×Nat×List Value) (fun⟨aK,ar,V,ay,aL,aR,z,J,M⟩=>f=387/\c=[ptr aK 0,ptr ar 0,ptr V 0,ptr ay 0,ptr aL 0,ptr aR 0]/\ap[a -1]?=some z) (fun⟨aK,ar,V,ay,aL,aR,z,J,M⟩=>[aa aK 314 [ptr p 0],aa ar 32 [ptr X.h 0],aa V 110 [ptr z 0],aa ay 9 [S kind],aa aL 3 [af slot],aa aR 1 [bk J M],a1 X ap ae j 0 k J M])
 |.asked id a e k,f,c=>dq (bv:=Nat×Nat×Nat×Nat×Nat×Nat×Nat×Nat×List Value) (fun⟨aK,ar,V,ay,aL,aR,z,J,M⟩=>f=389/\c=[ptr aK 0,ptr ar 0,ptr V 0,ptr ay 0,ptr aL 0,ptr aR 0]/\ap[a -1]?=some z) (fun⟨aK,ar,V,ay,aL,aR,z,J,M⟩=>[aa aK 248 [ptr p 0],aa ar 32 [ptr X.h 0],aa V 36 [bx id],aa ay 110 [ptr z 0],aa aL 87 (fM e),aa aR 1 [bk J M],a1 X ap ae j 0 k J M])
 |.watched a who k,f,c=>dq (bv:=Nat×Nat×Nat×Nat×Nat×Nat×Nat×List Value) (fun⟨aK,ar,V,ay,aL,z,J,M⟩=>f=392/\c=[ptr aK 0,ptr ar 0,ptr V 0,ptr ay 0,ptr aL 0]/\ap[a -1]?=some z) (fun⟨aK,ar,V,ay,aL,z,J,M⟩=>[aa aK 32 [ptr X.h 0],aa ar 3 [af who],aa V 106 [ptr (X.bp j) 0],aa ay 1 [bk J M],aa aL 110 [ptr z 0],a1 X ap ae j 0 k J M])
 |.gone a who k,f,c=>dq (bv:=Nat×Nat×Nat×Nat×Nat×Nat×Nat×List Value) (fun⟨aK,ar,V,ay,aL,z,J,M⟩=>f=394/\c=[ptr aK 0,ptr ar 0,ptr V 0,ptr ay 0,ptr aL 0]/\ap[a -1]?=some z) (fun⟨aK,ar,V,ay,aL,z,J,M⟩=>[aa aK 246 [ptr p 0],aa ar 1 [bk J M],aa V 106 [ptr (X.bp j) 0],aa ay 110 [ptr z 0],aa aL 3 [af who],a1 X ap ae j 0 k J M])
 |.nq x y k,f,c=>dq (bv:=Nat×Nat×Nat×Nat×Nat×Nat×List Value) (fun⟨aK,ar,V,ay,aL,J,M⟩=>f=430/\c=[ptr aK 0,ptr ar 0,ptr V 0,ptr ay 0,ptr aL 0]) (fun⟨aK,ar,V,ay,aL,J,M⟩=>[aa aK 392 [ptr p 0],aa ar 1 [bk J M],aa V 106 [ptr (X.bp j) 0],aa ay 3 [af y],aa aL 3 [af x],a1 X ap ae j 0 k J M])
 |.alone a k,f,c=>EX (dq (bv:=Nat×Nat×Nat×Nat×Nat×List Value) (fun⟨aK,ar,V,z,J,M⟩=>f=297/\c=[ptr aK 0,ptr ar 0,ptr V 0]/\ap[a -1]?=some z) (fun⟨aK,ar,V,z,J,M⟩=>[aa aK 106 [ptr (X.bp j) 0],aa ar 110 [ptr z 0],aa V 1 [bk J M],a1 X ap ae j 0 k J M])) (dq (bv:=Nat×Nat×Nat×Nat×Nat×List Value) (fun⟨aK,ar,V,z,J,M⟩=>f=244/\c=[ptr aK 0,ptr ar 0,ptr V 0]/\ap[a -1]?=some z) (fun⟨aK,ar,V,z,J,M⟩=>[aa aK 106 [ptr (X.bp j) 0],aa ar 110 [ptr z 0],aa V 1 [bk J M],a1 X ap ae j 0 k J M]))
 |.kI a m k,f,c=>dq (bv:=Nat×Nat×Nat×Nat×Nat×Nat×Nat×Nat×List Value) (fun⟨aK,ar,V,ay,aL,aR,z,J,M⟩=>f=302/\c=[ptr aK 0,ptr ar 0,ptr V 0,ptr ay 0,ptr aL 0,ptr aR 0]/\ap[a -1]?=some z) (fun⟨aK,ar,V,ay,aL,aR,z,J,M⟩=>[aa aK 110 [ptr z 0],aa ar 261 (iz m),aa V 248 [ptr p 0],aa ay 3 [af 2],aa aL 106 [ptr (X.bp j) 0],aa aR 1 [bk J M],a1 X ap ae j 0 k J M])
 |.closed a k,f,c=>dq (bv:=Nat×Nat×Nat×Nat×Nat×List Value) (fun⟨aK,ar,V,z,J,M⟩=>f=359/\c=[ptr aK 0,ptr ar 0,ptr V 0]/\ap[a -1]?=some z) (fun⟨aK,ar,V,z,J,M⟩=>[aa aK 106 [ptr (X.bp j) 0],aa ar 110 [ptr z 0],aa V 1 [bk J M],a1 X ap ae j 0 k J M])
 |.lc a k,f,c=>dq (bv:=Nat×Nat×Nat×Nat×Nat×Nat×List Value) (fun⟨aK,ar,V,ay,z,J,M⟩=>f=401/\c=[ptr aK 0,ptr ar 0,ptr V 0,ptr ay 0]/\ap[a -1]?=some z) (fun⟨aK,ar,V,ay,z,J,M⟩=>[aa aK 246 [ptr p 0],aa ar 1 [bk J M],aa V 106 [ptr (X.bp j) 0],aa ay 110 [ptr z 0],a1 X ap ae j 0 k J M])
 |.shut a k,f,c=>dq (bv:=Nat×Nat×Nat×Nat×Nat×List Value) (fun⟨aK,ar,V,z,J,M⟩=>f=361/\c=[ptr aK 0,ptr ar 0,ptr V 0]/\ap[a -1]?=some z) (fun⟨aK,ar,V,z,J,M⟩=>[aa aK 106 [ptr (X.bp j) 0],aa ar 110 [ptr z 0],aa V 1 [bk J M],a1 X ap ae j 0 k J M])
 |.oo a k,f,c=>dq (bv:=Nat×Nat×Nat×Nat×Nat×List Value) (fun⟨aK,ar,V,z,J,M⟩=>f=363/\c=[ptr aK 0,ptr ar 0,ptr V 0]/\ap[a -1]?=some z) (fun⟨aK,ar,V,z,J,M⟩=>[aa aK 106 [ptr (X.bp j) 0],aa ar 110 [ptr z 0],aa V 1 [bk J M],a1 X ap ae j 0 k J M])
 |.who a k,f,c=>dq (bv:=Nat×Nat×Nat×Nat×Nat×Nat×Nat×List Value) (fun⟨aK,ar,V,ay,aL,z,J,M⟩=>f=402/\c=[ptr aK 0,ptr ar 0,ptr V 0,ptr ay 0,ptr aL 0]/\ap[a -1]?=some z) (fun⟨aK,ar,V,ay,aL,z,J,M⟩=>[aa aK 314 [ptr p 0],aa ar 32 [ptr X.h 0],aa V 106 [ptr (X.bp j) 0],aa ay 110 [ptr z 0],aa aL 1 [bk J M],a1 X ap ae j 0 k J M])
 |.parent a k,f,c=>dq (bv:=Nat×Nat×Nat×Nat×Nat×List Value) (fun⟨aK,ar,V,z,J,M⟩=>f=404/\c=[ptr aK 0,ptr ar 0,ptr V 0]/\ap[a -1]?=some z) (fun⟨aK,ar,V,z,J,M⟩=>[aa aK 110 [ptr z 0],aa ar 1 [bk J M],aa V 106 [ptr (X.bp j) 0],a1 X ap ae j 0 k J M])
 |.oU a,f,c=>dq (bv:=Nat×Nat×Nat) (fun⟨aK,ar,V⟩=>f=166/\c=[ptr aK 0,ptr ar 0,ptr V 0]) (fun⟨aK,ar,V⟩=>[aa aK 106 [ptr (X.bp j) 0],aa ar 246 [ptr p 0],aa V 3 [af a]])
 |.each (.da a id I) i n (.ended cC g o k),f,c=>dq (bv:=Nat×Nat×Nat×Nat×Nat×Nat×Nat×Nat×Nat×Nat×Nat×Nat×Nat×Nat×List Value×Nat×Option Addr×Nat) (fun⟨R,d2,d5,cq,d6,aK,ar,V,ay,aL,aR,aM,z,J,M,b,ea,cZ⟩=>f=208/\c=[ptr d2 0,ptr R 0]/\ap[a -1]?=some z/\ae[(id -1).toNat]?=some b/\(cC=a/\g=id/\o=I)) (fun⟨R,d2,d5,cq,d6,aK,ar,V,ay,aL,aR,aM,z,J,M,b,ea,cZ⟩=>[aa R 3 [af i],aa d2 188 [bk 207 [ptr d5 0,ptr d6 0,ptr cq 0,ptr d2 0]],aa d5 3 [af n],aa cq 255 [bk 293 [ptr aK 0,ptr ar 0,ptr V 0,ptr ay 0]],aa d6 1 [bk 295 [ptr ay 0,ptr ar 0,ptr aL 0,ptr aR 0,ptr aK 0,ptr aM 0]],aa aK 106 [ptr (X.bp j) 0],aa ar 110 [ptr z 0],aa V 311 [ptr b 0],aa ay 356 (lh ea cZ I),aa aL 32 [ptr X.h 0],aa aR 36 [bx id],aa aM 1 [bk J M],km ea cZ I.cx,a1 X ap ae j 0 k J M])
 |.each (.my a) i n (.parent cC k),f,c=>dq (bv:=Nat×Nat×Nat×Nat×Nat×Nat×Nat×Nat×Nat×Nat×List Value) (fun⟨R,d2,d5,cq,d6,aK,ar,V,z,J,M⟩=>f=208/\c=[ptr d2 0,ptr R 0]/\ap[a -1]?=some z/\cC=a) (fun⟨R,d2,d5,cq,d6,aK,ar,V,z,J,M⟩=>[aa R 3 [af i],aa d2 188 [bk 207 [ptr d5 0,ptr d6 0,ptr cq 0,ptr d2 0]],aa d5 3 [af n],aa cq 255 [bk 403 [ptr aK 0,ptr ar 0]],aa d6 1 [bk 404 [ptr aK 0,ptr V 0,ptr ar 0]],aa aK 110 [ptr z 0],aa ar 106 [ptr (X.bp j) 0],aa V 1 [bk J M],a1 X ap ae j 0 k J M])
 |.each (.cancel ids) i n k,f,c=>dq (bv:=Nat×Nat×Nat×Nat×Nat×Nat×Nat×Nat×Nat×List Value×Option Addr×Nat) (fun⟨R,d2,d5,cq,d6,aK,ar,V,J,M,ea,cZ⟩=>f=208/\c=[ptr d2 0,ptr R 0]) (fun⟨R,d2,d5,cq,d6,aK,ar,V,J,M,ea,cZ⟩=>[aa R 3 [af i],aa d2 188 [bk 207 [ptr d5 0,ptr d6 0,ptr cq 0,ptr d2 0]],aa d5 3 [af n],aa cq 255 [bk 346 [ptr aK 0,ptr ar 0,ptr V 0]],aa d6 1 [bk J M],aa aK 106 [ptr (X.bp j) 0],aa ar 32 [ptr X.h 0],aa V 49 [ul ea cZ ids],fH ea cZ ids,a1 X ap ae j 0 k J M])
 |.each (.leave due) i n k,f,c=>dq (bv:=Nat×Nat×Nat×Nat×Nat×Nat×Nat×Nat×List Value×Option Addr×Nat) (fun⟨R,d2,d5,cq,d6,aK,ar,J,M,ea,cZ⟩=>f=208/\c=[ptr d2 0,ptr R 0]) (fun⟨R,d2,d5,cq,d6,aK,ar,J,M,ea,cZ⟩=>[aa R 3 [af i],aa d2 188 [bk 207 [ptr d5 0,ptr d6 0,ptr cq 0,ptr d2 0]],aa d5 3 [af n],aa cq 255 [bk 157 [ptr aK 0,ptr ar 0]],aa d6 1 [bk J M],aa aK 106 [ptr (X.bp j) 0],aa ar 49 [ul ea cZ due],fH ea cZ due,a1 X ap ae j 0 k J M])
 |.each (.push l what) i n k,f,c=>dq (bv:=Nat×Nat×Nat×Nat×Nat×Nat×Nat×Nat×Nat×List Value×Option Addr×Nat) (fun⟨R,d2,d5,cq,d6,aK,ar,V,J,M,ea,cZ⟩=>f=208/\c=[ptr d2 0,ptr R 0]) (fun⟨R,d2,d5,cq,d6,aK,ar,V,J,M,ea,cZ⟩=>[aa R 3 [af i],aa d2 188 [bk 207 [ptr d5 0,ptr d6 0,ptr cq 0,ptr d2 0]],aa d5 3 [af n],aa cq 255 [bk 304 [ptr aK 0,ptr ar 0,ptr V 0]],aa d6 1 [bk J M],aa aK 106 [ptr (X.bp j) 0],aa ar 39 [hE ea cZ l],dj ea cZ l,aa V 3 [af what],a1 X ap ae j 0 k J M])
 |.each _ _ _ _,_,_=>dq (bv:=Unit) (λ_=>False) (λ_=>[])
def auE(bi:ap[a -1]?=some z):∀D h,Sat ([aa aK 106 [ptr (X.bp j) 0],aa ar 110 [ptr z 0],aa V 1 [bk J M],a1 X ap ae j 0 k J M]++D) h->Sat (a1 X ap ae j p tK 297 lY::D) h:=λD h s=>by
 rw[a1];exact(ahR (cE (D:=D) (aK,ar,V,z,J,M) ⟨rfl,rfl,bi⟩ (λh s=>s) h s))
def auF(bi:ap[a -1]?=some z):∀D h,Sat ([aa aK 106 [ptr (X.bp j) 0],aa ar 110 [ptr z 0],aa V 1 [bk J M],a1 X ap ae j 0 k J M]++D) h->Sat (a1 X ap ae j p tK 244 lY::D) h:=λD h s=>by
 rw[a1];exact(ahS (cE (D:=D) (aK,ar,V,z,J,M) ⟨rfl,rfl,bi⟩ (λh s=>s) h s))
def R4{bv:Type}{fO:bv->Prop}{l:bv->List al}(e:a1 X ap ae j p k f c=dq fO l)(x:bv)(ah:fO x):∀D h,Sat (l x++D) h->Sat (a1 X ap ae j p k f c::D) h:=λD h s=>by
 rw[e];exact cE x ah (λh s=>s) h s
def vq{X:cO}{ap ae O R:List Nat}{j:Nat}(aX:∀i q:Nat,ap[i]?=some q->O[i]?=some q)(aw:∀i q:Nat,ae[i]?=some q->R[i]?=some q):∀(k:Th.K) (p f:Nat) (c:List Value) (D:List al) (h:eQ),Sat (a1 X ap ae j p k f c::D) h->Sat (a1 X O R j p k f c::D) h
 |
  .nil,p,f,c,D,h,s|.polled,p,f,c,D,h,s|.found,p,f,c,D,h,s|.ps,p,f,c,D,h,s|.mC,p,f,c,D,h,s|.run _,p,f,c,D,h,s|.iX _,p,f,c,D,h,s|.on _,p,f,c,D,h,s|.again _,p,f,c,D,h,s|.next _ _,p,f,c,D,h,s|.mD _ _,p,f,c,D,h,s|.settled _,p,f,c,D,h,s|.oU _,p,f,c,D,h,s=>by
  rw[a1]at s⊢;obtain⟨x,ah,G⟩:=ha s;exact cE x Zi kS h G
 |
  .ended _ _ _ k,p,f,c,D,h,s|.mE _ k,p,f,c,D,h,s|.hR _ _ _ k,p,f,c,D,h,s|.told _ _ k,p,f,c,D,h,s|.lJ _ k,p,f,c,D,h,s|.mF _ _ _ k,p,f,c,D,h,s|.asked _ _ _ k,p,f,c,D,h,s|.watched _ _ k,p,f,c,D,h,s|.gone _ _ k,p,f,c,D,h,s|.nq _ _ k,p,f,c,D,h,s|.kI _ _ k,p,f,c,D,h,s|.closed _ k,p,f,c,D,h,s|.lc _ k,p,f,c,D,h,s|.shut _ k,p,f,c,D,h,s|.oo _ k,p,f,c,D,h,s|.who _ k,p,f,c,D,h,s|.parent _ k,p,f,c,D,h,s|.each (.cancel _) _ _ k,p,f,c,D,h,s|.each (.leave _) _ _ k,p,f,c,D,h,s|.each (.push _ _) _ _ k,p,f,c,D,h,s=>by
  rw[a1]at s⊢;obtain⟨x,ah,G⟩:=ha s;refine cE x Zi (λh s=>?_) h G;clear ah G
  repeat(obtain⟨_,x⟩:_×_:=x)
  simp only[ck,ci]at s⊢
  repeat(first|exact vq aX aw k 0 _ _ _ _ s|refine Sat.tail (λh s=>?_) s)
 |
  .alone _ k,p,f,c,D,h,s=>by
  rw[a1]at s⊢;rcases R3 s with s|s
  . refine ahR ?_
    obtain⟨x,ah,G⟩:=ha s;refine cE x Zj (λh s=>?_) h G;clear ah G
    repeat(obtain⟨_,x⟩:_×_:=x)
    simp only[ck,ci]at s⊢
    repeat(first|exact vq aX aw k 0 _ _ _ _ s|refine Sat.tail (λh s=>?_) s)
  . refine ahS ?_
    obtain⟨x,ah,G⟩:=ha s;refine cE x Zj (λh s=>?_) h G;clear ah G
    repeat(obtain⟨_,x⟩:_×_:=x)
    simp only[ck,ci]at s⊢
    repeat(first|exact vq aX aw k 0 _ _ _ _ s|refine Sat.tail (λh s=>?_) s)
 |
  .each (.da _ _ _) _ _ k,p,f,c,D,h,s=>by
  cases k with
  |
   ended _ _ _ k=>
   rw[a1]at s⊢;obtain⟨x,ah,G⟩:=ha s;refine cE x (by first|exact⟨ah.1,ah.2.1,aX _ _ ah.2.2.1,aw _ _ ah.2.2.2.1,ah.2.2.2.2⟩) (λh s=>?_) h G;clear ah G
   repeat(obtain⟨_,x⟩:_×_:=x)
   simp only[ck,ci]at s⊢
   repeat(first|exact vq aX aw k 0 _ _ _ _ s|refine Sat.tail (λh s=>?_) s)
  |_=>exfalso;rw[a1]at s;obtain⟨_,u,_⟩:=ha s;exact u.elim;all_goals(intros;simp_all)
 |
  .each (.my _) _ _ k,p,f,c,D,h,s=>by
  cases k with
  |
   parent _ k=>
   rw[a1]at s⊢;obtain⟨x,ah,G⟩:=ha s;refine cE x (by first|exact⟨ah.1,ah.2.1,aX _ _ ah.2.2.1,ah.2.2.2⟩) (λh s=>?_) h G;clear ah G
   repeat(obtain⟨_,x⟩:_×_:=x)
   simp only[ck,ci]at s⊢
   repeat(first|exact vq aX aw k 0 _ _ _ _ s|refine Sat.tail (λh s=>?_) s)
  |_=>exfalso;rw[a1]at s;obtain⟨_,u,_⟩:=ha s;exact u.elim;all_goals(intros;simp_all)
def auG{S f:Nat}{c:List Value}{k:Th.K}(h:Th.c9 k):a1 X ap ae j p k f c=a1 X ap ae j S k f c:=by
 cases k with
 |each d i n k=>cases d<;>first|rfl|(cases k<;>rfl)
 |_=>first|rfl|exact absurd h id
end
section
variable(X:cO)(y:Nat)(ap ae:List Nat)(x:bU)(j:Nat)
abbrev jV:Int:=if j<X.C.bc then(j:Int)else-1
def hF(t:b0):al:=
 match t.on with
 |none=>aa (X.bp j) 128 [ptr X.h 0,af (jV X j),.nilIface,.nilFunc,bx t.draw,.bool t.jj]
 |some (o,k)=>dq (bv:=Nat×Nat×List Value) (λ_=>True) (fun⟨p,f,c⟩=>[aa (X.bp j) 128 [ptr X.h 0,af (jV X j),.iface (nG o) (ptr p 0),bk f c,bx t.draw,.bool t.jj],cM X p o,a1 X ap ae j p k f c])
abbrev cK(l:List b0):List al:=l.mapIdx λj t=>hF X ap ae j t
abbrev pW:=cG×Option Addr×Nat×List Int
abbrev hD(es:List pW):List (cG×Value):=es.map λp=>(p.1,ul p.2.1 p.2.2.1 p.2.2.2)
abbrev hV(es:List pW):List al:=es.map λp=>fH p.2.1 p.2.2.1 p.2.2.2
abbrev pq(es:List pW):List (cG×List Int):=es.map λp=>(p.1,p.2.2.2)
structure hS where
 bI:cr
 ka:Option Addr
 kc:Nat
 gQ:Option Addr
 gR:Nat
 gp:Nat
 iB:Nat
 gj:Nat
 iC:Nat
 es:List pW
abbrev dS(e:hS):List Value:=
 af x.id::af x.parent::S e.bI.name::af e.bI.limit::af e.bI.within::.slice e.bI.ca e.bI.cases.length e.bI.kn::.slice e.bI.sa e.bI.states.length e.bI.sc::S x.state::
  [af (x.slots.getD 0 0),af (x.slots.getD 1 0),af (x.slots.getD 2 0),af (x.slots.getD 3 0),hE e.ka e.kc x.kids,af x.mode,ptr e.gp 0,ptr e.iB 0,.map (some e.gj),hE e.gQ e.gR x.cH,.map (some e.iC),ptr (X.br x.id).br 0]
abbrev B3(e:hS):List al:=
 [
  aa y 118 (dS X x e),dj e.ka e.kc x.kids,dj e.gQ e.gR x.cH,fJ e.gp X.C.dO x.aside x.front,gL e.iB (min (max e.bI.limit 0) 100) (min (max e.bI.within 1) 4095) x.given,
  bs e.gj .i64 (x.watched.map λw=>(w,.bool true)),ii e.iC (hD e.es),ao (hV e.es),gb e.bI]
structure fX(x:bU)(e:hS):Prop where
 bI:dQ e.bI=dQ x.kind
 kj:qS e.bI
 es:pq e.es=x.timers
def vr:al:=dq (fX x) (B3 X y x)
abbrev dI(l:List bU):List al:=l.mapIdx λi x=>vr X (ap.getD i 0) x
abbrev bD:List (Int×Value):=ap.mapIdx λi q=>(((i+1:Nat):Int),ptr q 0)
abbrev Ec(q:Nat)(l:c0):al:=aa q 187 (nn l)
abbrev eB(l:List c0):List al:=l.mapIdx λi x=>Ec (ae.getD i 0) x
def xo(a:Nat):al:=eW [Po.eF (X.br a) (X.C.box a),fs ((X.br a).r false) X.m ((X.C.box a).ev false) ((X.C.box a).e1 false),fs ((X.br a).r true) X.m ((X.C.box a).ev true) ((X.C.box a).e1 true)]
abbrev dd:List al:=(List.range X.C.aT).map λi=>xo X (i+1)
def eo:al:=eW [fG X.cN X.C.bC,b8 X.cN X.C.bC,hU X.cN X.C.bC,ez X.cN X.C.bC,ao (k5 X.cN X.C.bC)]
def ee(w:gm):al:=eW [Ck.fv X.db X.C.df,fs X.db.r X.m (X.C.df.b+1) X.C.df.n,fw X.db.wp w]
def eO:al:=λh=>∃a,a.map dQ=X.P.map dQ/\h8 h X.bZ X.pc a
abbrev ef:al:=own (.slice X.KP X.C.aT X.KQ) 116 1 X.C.aT ((List.range X.C.aT).map λi=>ptr (X.br (i+1)).br 0)
abbrev eL:al:=own (.slice X.zD X.C.bc X.zE) 106 1 X.C.bc ((List.range X.C.bc).map λi=>ptr (X.bp i) 0)
abbrev e7:al:=own (.slice X.zF X.C.cT X.zG) 106 1 X.C.cT ((List.range X.C.cT).map λi=>ptr (X.bp (X.C.bc+i)) 0)
abbrev bh(z:dw)(s:aq):List al:=
 [
  cp X z s,di z.b4 z.b5 s.trace,dX z.na z.dT s.notes,bs X.am .i64 (bD z.ap),ao (dI X z.ap s.aE),bs X.dL .u64 (bD z.ae),ao (eB z.ae s.lets),Lg.cY X.ld s.a8,dz X.cF X.C.c6 s.dead,
  bz X.m s.L z.tt,eo X,ee X s.bm,dy X.bl X.m X.C.bl X.C.aT,ao (dd X),ef X,eL X,e7 X,eO X,ao (cK X z.ap z.ae s.ax)]
structure bJ(X:cO)(z:dw)(s:aq):Prop where
 gk:X.cN.m=X.m
 fY:X.db.m=X.m
 fZ:∀a,(X.br a).m=X.m
 ap:z.ap.length=s.aE.length
 ae:z.ae.length=s.lets.length
end
end Go.Proofs.YtnnhpnccfnghdaaGreat.L.bM
namespace Go.L
open Go.RowKit
class A3(P:Program)(t:TypeId):Prop where
 out:∃c,P.underlying t=some (.interface c)
section
variable{P:Program}{H w:World}{n:Nat}{J:e6}{M:List al}{bH:TypeId}
section
variable{t dr t1:TypeId}{x:Operand}{v:Value}
def XX{c}(h:P.underlying t=some (.interface c))(d:Nat)(t1:TypeId)(v:Value)(w:World):(Op.equalIn (d+1) t (.iface t1 v) .nilIface).run P w=.ok false w:=by
 simp[Op.equalIn,gG h]
def XY{c}(h:P.underlying t=some (.interface c))(d:Nat)(w:World):(Op.equalIn (d+1) t .nilIface .nilIface).run P w=.ok true w:=by
 simp[Op.equalIn,gG h]
def XZ[i:A3 P t](ah:cm J x=some (.iface t1 v)):b1 P H n (.binOp .eql t x (.const .nilIface) dr) bH J M gP:=λa w d pos N g ai _=>by
 obtain⟨c,h1⟩:=i.out;simp only[execOp,ai.eval ah,show a.eval (.const .nilIface)=.nilIface from rfl];simp only[binOp];simp[eqGuard,Op.equal,Op.maxDepth,XX h1 9999]
def X0[i:A3 P t](ah:cm J x=some (.iface t1 v)):b1 P H n (.binOp .neq t x (.const .nilIface) dr) bH J M hI:=λa w d pos N g ai _=>by
 obtain⟨c,h1⟩:=i.out;simp only[execOp,ai.eval ah,show a.eval (.const .nilIface)=.nilIface from rfl];simp only[binOp];simp[eqGuard,Op.equal,Op.maxDepth,XX h1 9999]
def apj[i:A3 P t](ah:cm J x=some .nilIface):b1 P H n (.binOp .eql t x (.const .nilIface) dr) bH J M hI:=λa w d pos N g ai _=>by
 obtain⟨c,h1⟩:=i.out;simp only[execOp,ai.eval ah,show a.eval (.const .nilIface)=.nilIface from rfl];simp only[binOp];simp[eqGuard,Op.equal,Op.maxDepth,XY h1 9999]
def NS[i:A3 P t](ah:cm J x=some .nilIface):b1 P H n (.binOp .neq t x (.const .nilIface) dr) bH J M gP:=λa w d pos N g ai _=>by
 obtain⟨c,h1⟩:=i.out;simp only[execOp,ai.eval ah,show a.eval (.const .nilIface)=.nilIface from rfl];simp only[binOp];simp[eqGuard,Op.equal,Op.maxDepth,XY h1 9999]
end
end
end Go.L
namespace Go.Proofs.YtnnhpnccfnghdaaGreat.L.bM
open Go.Proofs.YtnnhpnccfnghdaaGreat.L
open Go.L Go.L.Ring Go.L.dD Go.L.ej Go.L.Whl Go.L.dP Go.L.Lx Go.L.Pg
open Go.L.Led (du dH dW bm aw fo)
open Go.L.Th (bO c0 dn bG dE bU b3 e4 b0 aq most dY cS fp eR dZ In cX c9 eS bB bP eT eU bn cI dF go bo Good ei eV ec acc Inv eG e5 fj busy dA eC eh fr)
attribute[local irreducible] G cJ GE c3 GT b1 dk c7 ds Exit.then Exit.inBlock
section
variable(X:cO){a:Option Addr}(z:dw){c m:Nat}(s:aq)(e:bG)
def mapIdx_set{α z:Type}(g:Nat->α->z)(l:List α)(j:Nat)(x:α):(l.set j x).mapIdx g=(l.mapIdx g).set j (g j x):=by
 apply uQ;intro i;by_cases h:j=i
 . subst h;by_cases h2:j<l.length<;>simp[h2]
 . simp[h]
def auH{l:List bG}{e:bG}(h:l.length=m):own (.slice a (m+1) c) 38 9 (m+1) (l.flatMap kv++kv e)=di a c (l++[e]):=by
 subst h;simp only[di,qU,eZ,px,TZ,jb];rfl
def aqM{l:List dn}{e:dn}(h:l.length=m):own (.slice a (m+1) c) 261 3 (m+1) (l.flatMap iz++iz e)=dX a c (l++[e]):=by
 subst h;simp only[dX,qU,eZ,px,TZ,jb];rfl
def auI(a:Option Addr)(c:Nat):cp X Bu BC=aa X.h 108 ((qx X z s).set (0+23) (.slice a (s.trace.length+1) c)):=by
 exact acA
def aqN(e:dn)(a:Option Addr)(c:Nat):cp X {z with na:=a,dT:=c} {s with notes:=s.notes++[e]}=aa X.h 108 ((qx X z s).set (0+20) (.slice a (s.notes.length+1) c)):=by
 exact acA
instance:A3 E 126:=⟨_,Tryz.underlying126⟩
abbrev kf(j:Nat)(x y:Value)(t:b0):al:=aa (X.bp j) 128 [ptr X.h 0,af (jV X j),x,y,bx t.draw,.bool t.jj]
def l3(aw:s.trace.length<most):ab E 91 [ptr X.h 0,.agg (kv e).toArray] [cp X z s,di z.b4 z.b5 s.trace] (λu I=>u=.tuple #[]/\∃a c,I=[cp X Bu BC,di a c (s.trace++[e])]):=by
 refine av Tryz.func91 λH D=>?_;have ip:s.trace.length<1099511627776:=aw;refine bb ?_;refine wn λay=>?_;refine bb ?_;refine cw [6,7] [105,1,202,2,201] [cp X z s,aa ay 38 (kv e)] ?_;refine bj ?_;refine wn λdm=>?_;refine aG ?_;refine gj λb p=>?_;refine bj ?_;exact aQ ⟨rfl,b,p,rfl⟩ (by rw[<-auH rfl,auI];exact(au))
end
section
variable{P:Program}{f:FuncId}{args:List Value}{X:cO}{ap ae:List Nat}{l:List b0}{j p:Nat}{t:b0}
def R5(h:l[j]?=some t)(U:t.on=none):(cK X ap ae l)[j]?=some (kf X j .nilIface .nilFunc t):=by
 simp[sF,h,hF,U]
theorem auJ{f:Nat}{c:List Value}{t:b0}{o:b3}{k:Th.K}{D M:List al}(h:l[j]?=some t)
 (e:∀h,Sat M h->Sat (kf X j wT (bk f c) t::cM X p o::a1 X ap ae j p k f c::ao ((cK X ap ae l).set j eJ)::D) h):
 ∀h,Sat M h->Sat (ao (cK X ap ae (l.set j Jv))::D) h:=λg4 s=>by
 rw[cK,mapIdx_set];refine uO (by rw[KR];exact(dp.1 h).1) g4 ?_;exact cE (D:=ao ((cK X ap ae l).set j eJ)::D) (p,f,c) trivial (λg t=>t) g4 (e g4 s)
def pg{L M:List al}{A:al}{post:Value->List al->Prop}(e:∀D h,Sat (L++D) h->Sat (A::D) h)(h:ab P f args (A::M) post):ab P f args (L++M) post:=λH D w s=>
 h H D w (s.imp λg t=>by rw[jI]at t;exact e _ g t)
def iA{f:Nat}{k:Th.K}{c:List Value}{bv:Type}{fO:bv->Prop}{l:bv->List al}{P:Program}{t:FuncId}{args:List Value}{M L:List al}{post:Value->List al->Prop}(e:a1 X ap ae j p k f c=dq fO l)(x:bv)(ah:fO x)(h:ab P t args (a1 X ap ae j p k f c::M) post)(K:l x++M=L:=by simp only[ck,ci];rfl):ab P t args L post:=by
 subst K;exact pg (R4 e x ah) h
theorem qC{a:Nat}{Q:Nat->al}(aX:1<=a/\a<=X.C.aT)(h:ab P f args [Po.eF (X.br a) (X.C.box a)] (λu I=>∃p,u=ptr p 0/\I=[Q p,Po.eF (X.br a) (X.C.box a)])):
 ab P f args qw (λu I=>∃p,u=ptr p 0/\I=[Q p,ao (dd X)]):=λH D w s=>by
 have e:(dd X)[a -1]?=some (xo X a):=by
  obtain⟨h1,h2⟩:=aX;simp only[dd,fD,uZ (show a -1<X.C.aT by omega),nD,show a -1+1=a by omega]
 have s1:dt H (xo X a::ao ((dd X).set (a -1) eJ)::D) w:=s.imp λg t=>r6 e g t;have cb:dt H ([Po.eF (X.br a) (X.C.box a)]++(fs ((X.br a).r false) X.m ((X.C.box a).ev false) ((X.C.box a).e1 false)::fs ((X.br a).r true) X.m ((X.C.box a).ev true) ((X.C.box a).e1 true)::ao ((dd X).set (a -1) eJ)::D)) w:=
  s1.imp λg t=>by obtain⟨_,_,dr⟩:=ha t;exact dr
 refine(h H _ w cb).mono ?_;rintro _ _ ⟨v,I,rfl,⟨p,rfl,rfl⟩,ce⟩;refine⟨_,_,rfl,⟨p,rfl,rfl⟩,ce.imp λg t=>?_⟩;have aw:a -1<(dd X).length:=by obtain⟨h1,h2⟩:=aX;simp;omega
 refine Sat.tail (λg t=>?_) t;have i2:=uO (A:=xo X a) aw g (cE (D:=ao ((dd X).set (a -1) eJ)::D) () trivial (λg t=>t) g t);rwa[show(dd X).set (a -1) (xo X a)=dd X from by obtain⟨h1,h2⟩:=dp.1 e;rw[<-h2];exact AW h1]at i2
end
section
variable(X:cO){a:Nat}(aX:1<=a/\a<=X.C.aT)
include aX
theorem auK:ab E 194 w0 qw (λu I=>∃p,u=ptr p 0/\I=[cM X p (.post a Th.Cc),ao (dd X)]):=qC aX (Po.as2 _ _)
theorem auL:ab E 239 w0 qw (λu I=>∃p,u=ptr p 0/\I=[cM X p (.post a Th.xA),ao (dd X)]):=qC aX (Po.as1 _ _)
theorem auM:ab E 358 w0 qw (λu I=>∃p,u=ptr p 0/\I=[cM X p (.post a Th.zQ),ao (dd X)]):=qC aX (Po.as3 _ _)
theorem auN:ab E 400 w0 qw (λu I=>∃p,u=ptr p 0/\I=[cM X p EA,ao (dd X)]):=qC aX (Po.as5 _ _)
theorem ahT:ab E 393 w0 qw (λu I=>∃p,u=ptr p 0/\I=[cM X p (.post a Th.xv),ao (dd X)]):=qC aX (Po.as8 _ _)
theorem af2(v:Int):ab E 209 [ptr (X.br a).br 0,bx v] qw (λu I=>∃p,u=ptr p 0/\I=[cM X p (.post a (Th.K7 v)),ao (dd X)]):=qC aX (Po.asT _ _ v)
theorem ahU(v:Int):ab E 355 [ptr (X.br a).br 0,bx v] qw (λu I=>∃p,u=ptr p 0/\I=[cM X p (.post a (Th.xB v)),ao (dd X)]):=qC aX (Po.asU _ _ v)
theorem ahV(aA:(X.C.box a).b<=65536)(v:Int):ab E 165 [ptr (X.br a).br 0,bx v] qw (λu I=>∃p,u=ptr p 0/\I=[cM X p (.post a (Th.E5 v)),ao (dd X)]):=qC aX (Po.asW _ _ aA v)
theorem auO:ab E 137 w0 qw (λu I=>∃p,u=ptr p 0/\I=[cM X p (.post a (Th.mA 2)),ao (dd X)]):=qC aX (Po.asY _ _)
theorem auP:ab E 233 w0 qw (λu I=>∃p,u=ptr p 0/\I=[cM X p (.post a (Th.mA 1)),ao (dd X)]):=qC aX (Po.asZ _ _)
theorem auQ:ab E 362 w0 qw (λu I=>∃p,u=ptr p 0/\I=[cM X p (.post a (Th.mA 4)),ao (dd X)]):=qC aX (Po.as0 _ _)
theorem ahW(held:Bool):ab E 287 [ptr (X.br a).br 0,.bool held] qw (λu I=>∃p,u=ptr p 0/\I=[cM X p (.post a (Th.E6 held)),ao (dd X)]):=by
 cases held
 . exact qC aX (Po.ati _ _)
 . exact qC aX (Po.atc _ _)
end
section
variable{X:cO}{ap:List Nat}{aE:List bU}{a q bY:Nat}{x:bU}{v:Value}
theorem KS{b bY i:Nat}{A:al}{l:List al}{v:Value}(e:l[i]?=some A)[r:ib b bY A v]:ib b bY (ao l) v:=⟨fun{h} t=>by
 obtain⟨h1,h2,_,rfl,aX,_⟩:=r6 (D:=[]) e h (Sat.one t);obtain⟨l,T,R,W,cU⟩:=r.get aX;exact⟨l,T,R,join_some W,cU⟩⟩
theorem auR(Z:∀e,(dS X x e)[bY]?=some v):ib q bY (vr X q x) v:=⟨fun{h} t=>by
 obtain⟨e,_,dr⟩:=ha (D:=[]) (Sat.one t);obtain⟨h1,h2,_,rfl,aX,_⟩:=dr;exact⟨_,_,_,join_some aX,Z e⟩⟩
structure At(X:cO)(ap:List Nat)(aE:List bU)(a q:Nat)(x:bU):Prop where
 ap:ap[a -1]?=some q
 ah:aE[a -1]?=some x
 cy:x.id=a
 aX:1<=a/\a<=X.C.aT
def At.ao(h:At X ap aE a q x):(dI X ap aE)[a -1]?=some (vr X q x):=by
 simp only[dI,sF,h.ah,nD,iW,h.ap,KT]
theorem At.rd(h:At X ap aE a q x)(Z:∀e,(dS X x e)[bY]?=some v):ib q bY Et v:=by
 haveI:=auR (q:=q) Z;exact KS h.ao
theorem At.box(h:At X ap aE a q x):ib q 19 Et (ptr (X.br a).br 0):=h.rd λe=>by rw[<-h.cy];rfl
theorem At.mode(h:At X ap aE a q x):ib q 13 Et (af x.mode):=h.rd λe=>rfl
end
section
variable(X:cO)(ap ae:List Nat)(aE:List bU)(l:List b0)(j a q:Nat)(x:bU)(t:b0)
def aq1{i p:Nat}:(Value.iface i (ptr p 0)).oneCell'=true:=rfl
def jN(p f:Nat)(c:List Value)(t:b0)(o:b3)(k:Th.K)(O:l[j]?=some t)(U:t.on=none):ab E 79 [ptr (X.bp j) 0,.iface (nG o) (ptr p 0),bk f c] [a1 X ap ae j p k f c,cM X p o,ao u6] (aH eN [ao (cK X ap ae (l.set j Jv))]):=by
 refine av Tryz.func79 λH D=>?_;refine uW eP (R5 O U) ?_;refine ct ?_;refine acV ?_;refine acV ?_;exact aQ (I:=[ao (cK X ap ae (l.set j {t with on:=some (o,k)}))]) ⟨rfl,rfl⟩ (auJ (p:=p) (f:=f) (c:=c) O (au))
def auS(B:At X ap aE a q x)(O:l[j]?=some t)(U:t.on=none):ab E 139 qq acx (aH eN [ao (dI X ap aE),ao (dd X),ao (cK X ap ae (l.set j {t with on:=some (.post a Th.Cc,.iX a)}))]):=by
 refine av Tryz.func139 λH D=>?_;haveI:=B.box;haveI:=B.mode;refine nw ?_;intro V ay;refine bQ ?_;refine bu (auK X B.aX) ?_;refine lS ?_;intro p;refine wn λaL=>?_;refine bj ?_;refine JZ ?_;refine aU (iA (a1.eq_7 ..) (aL,V,ay,q) u1 (jN X ap ae l j p 195 [ptr aL 0,ptr V 0,ptr ay 0] t (.post a Th.Cc) (.iX a) O U)) ?_;exact pK
def auT(B:At X ap aE a q x)(O:l[j]?=some t)(U:t.on=none):ab E 84 qq acx (aH eN [ao (dI X ap aE),ao (dd X),ao (cK X ap ae (l.set j {t with on:=some (.post a (Th.mA 2),.run a)}))]):=by
 refine av Tryz.func84 λH D=>?_;haveI:=B.box;haveI:=B.mode;refine nw ?_;intro V ay;refine bb ?_;refine h0 [5,8] [5] aa0 [aa V 106 eE,aa ay 110 [ptr q 0],ao (dI X ap aE)] mixed hM ?_;refine bj ?_;refine bu (auO X B.aX) ?_;refine lS ?_;intro p;refine aG ?_;refine JQ ?_;refine aU (iA (a1.eq_6 ..) (V,ay,q) u1 (jN X ap ae l j p 138 [ptr V 0,ptr ay 0] t (.post a (Th.mA 2)) (.run a) O U)) ?_;exact uj
end
end Go.Proofs.YtnnhpnccfnghdaaGreat.L.bM
