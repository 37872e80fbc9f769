import Derived.Test.YtnnhpnccfnghdaaGreatR13
import Derived.Test.YtnnhpnccfnghdaaGreatR8
set_option linter.all false
set_option maxRecDepth 100000
set_option maxHeartbeats 8000000
namespace Go.L.Th
open Go.L Go.L.Lx Go.L.Pg Go.L.Ring Go.L.dq Go.L.dR Go.L.Whl Go.L.dA Go.L.Led
def ox(c:qN)(o:Nat):fU:=if o<2 then .none else if o%2=0 then .rL c else .val c
def Lu(w o:Nat):fU:=if o=0 then .KV w else if o=1 then .KW w else .val .act
def vH(C:bt)(o:Nat):fU:=if o<2 then .none else if o<4+2*C.hW then ox .jp (o -2)else ox .zK (o -(4+2*C.hW))
def bt.d0(C:bt):Nat:=2+C.a1+(2+2*C.aZ)
def bt.en(C:bt):Nat:=2+C.bA.size
def bD(C:bt)(i:Nat):fU:=
 if i<2 then .jg
 else if i<2+C.a1 then .none
 else if i<C.d0 then ox .act (i -(2+C.a1))
 else if i<C.en then Lu ((i -C.d0)/(2+C.eI)) ((i -C.d0)%(2+C.eI))
 else if i<C.bG then(if i=C.en then .none else ox .ask (i -(C.en+1)))
 else if i<C.gS then .none
 else vH C ((i -C.gS)%C.e7)
section
variable{C:bt}
section
variable{c:qN}{a k o:Nat}
def TO:C.en=C.d0+C.a1*(2+C.eI):=by
 show 2+(C.a1+(2+2*C.aZ)+C.a1*(2+C.eI))=2+C.a1+(2+2*C.aZ)+C.a1*(2+C.eI);omega
def Cv:C.bG=C.en+(3+2*C.iN):=rfl
def TP:C.gS=C.bG+C.aZ*C.aZ:=rfl
def TQ:C.e7=2+(2+2*C.hW)+(2+2*C.fB):=rfl
def aw5:ox c (2+2*k)=.rL c:=by unfold ox;rw[a8 ae,bd ae]
def aw6:ox c (2+2*k+1)=.val c:=by unfold ox;rw[a8 ae,a8 ae]
def Lv{aQ:qN}{o:Nat}(h:ox c o=.rL aQ):aQ=c/\2<=o/\o%2=0/\ox c (o+1)=.val c:=by
 unfold ox at h;split at h
 . cases h
 . split at h
   . cases h
     refine⟨rfl,by omega,by assumption,?_⟩;unfold ox;rw[a8 ae,a8 ae]
   . cases h
def TR(h:o<2+2*C.aZ):bD C (2+C.a1+o)=ox .act o:=by
 refine xf ?_;intro e;unfold bD;rw[a8 ae,a8 ae,bd ae];congr 1;omega
def TS{w o:Nat}(O:w<C.a1)(h:o<2+C.eI):bD C (C.d0+w*(2+C.eI)+o)=Lu w o:=by
 refine xf ?_;intro e;have aV:=TO (C:=C);have bz:w*(2+C.eI)+(2+C.eI)<=C.a1*(2+C.eI):=by
  exact ads
 unfold bD;rw[a8 ae,a8 ae,a8 ae,bd ae];have dh:C.d0+w*(2+C.eI)+o -C.d0=o+(2+C.eI)*w:=by rw[SJ];omega
 rw[dh,Nat.add_mul_div_left _ _ ae,aw7,Nat.div_eq_of_lt h,ZJ h,lu]
def Fw:C.d0<=C.en:=by have:=TO (C:=C);omega
def akv:bD C C.en=.none:=by
 refine xf ?_;intro e;have:=Fw (C:=C);have:=Cv (C:=C);unfold bD;rw[a8 ae,a8 ae,a8 ae,a8 ae,bd ae,bd rfl]
def TT(h:o<2+2*C.iN):bD C (C.en+1+o)=ox .ask o:=by
 refine xf ?_;intro e;have:=Fw (C:=C);have:=Cv (C:=C);unfold bD;rw[a8 ae,a8 ae,a8 ae,a8 ae,bd ae,a8 ae];congr 1;omega
def akw{i:Nat}(h:C.bG<=i)(h2:i<C.gS):bD C i=.none:=by
 refine xf ?_;intro e;have:=Fw (C:=C);have:=Cv (C:=C);unfold bD;rw[a8 ae,a8 ae,a8 ae,a8 ae,a8 ae,bd h2]
def Cw(h:o<C.e7):bD C (C.gS+a*C.e7+o)=vH C o:=by
 refine xf ?_;intro e;have:=Fw (C:=C);have:=Cv (C:=C);have:=TP (C:=C);unfold bD;rw[a8 ae,a8 ae,a8 ae,a8 ae,a8 ae,a8 ae];have dh:C.gS+a*C.e7+o -C.gS=o+C.e7*a:=by rw[SJ];omega
 rw[dh,aw7,ZJ h]
def aw8(aK:o<C.e7)(h:vH C o=.rL c):o+1<C.e7/\vH C (o+1)=.val c:=by
 have e:=TQ (C:=C);unfold vH at h;split at h
 . cases h
 . split at h
   . obtain⟨rfl,h1,h2,aN⟩:=Lv h
     refine⟨by omega,?_⟩;unfold vH;rw[a8 ae,bd ae,show o+1 -2=o -2+1 by omega];exact aN
   . obtain⟨rfl,h1,h2,aN⟩:=Lv h
     refine⟨by omega,?_⟩;unfold vH;rw[a8 ae,a8 ae,show o+1 -(4+2*C.hW)=o -(4+2*C.hW)+1 by omega];exact aN
def aw9(i:Nat)(c:qN)(h:bD C i=.rL c):bD C (i+1)=.val c:=by
 refine xf ?_;intro e;have aL:=Fw (C:=C);have Y:=Cv (C:=C);have ah:=TP (C:=C);have aj:=TQ (C:=C);by_cases h1:i<2
 . unfold bD at h;rw[bd h1]at h;cases h
 by_cases h2:i<2+C.a1
 . unfold bD at h;rw[a8 h1,bd h2]at h;cases h
 by_cases aN:i<C.d0
 . have b:i=2+C.a1+(i -(2+C.a1)):=by omega
   rw[b,TR ae]at h;obtain⟨rfl,W,Z,d8⟩:=Lv h;rw[show i+1=2+C.a1+(i -(2+C.a1)+1) by omega,TR ae];exact d8
 by_cases bu:i<C.en
 . unfold bD at h;rw[a8 h1,a8 h2,a8 aN,bd bu]at h
   unfold Lu at h;split at h
   . cases h
   . split at h<;>cases h
 by_cases dW:i<C.bG
 . by_cases g1:i=C.en
   . rw[g1,akv]at h;cases h
   have b:i=C.en+1+(i -(C.en+1)):=ae;rw[b,TT ae]at h;obtain⟨rfl,W,Z,d8⟩:=Lv h;rw[show i+1=C.en+1+(i -(C.en+1)+1) by omega,TT ae];exact d8
 by_cases g1:i<C.gS
 . rw[akw ae g1]at h;cases h
 . have bf:(i -C.gS)%C.e7<C.e7:=wS _ ae
   have b:i=C.gS+((i -C.gS)/C.e7)*C.e7+(i -C.gS)%C.e7:=by
    have:=aie (i -C.gS) C.e7;omega
   generalize (i -C.gS)/C.e7=a at b
   generalize (i -C.gS)%C.e7=o at b bf
   rw[b,Cw bf]at h;obtain⟨W,Z⟩:=aw8 bf h;rw[b,n3,Cw W];exact Z
def Lw{b n:Nat}{c:qN}{len:Nat}(ef:1<=n)(h:∀o,o<2+2*n->bD C (b+o)=ox c o)(av:b+2+2*n<=len):nQ (bD C) b n c len:=
 ⟨ef,h 0 ae,h 1 ae,λk hk=>by rw[n3,h _ ae];exact aw5,λk hk=>by rw[n3,n3,h _ ae];rw[<-n3];exact aw6,av⟩
def axa(h1:1<=a)(h2:a<=C.aZ):(a -1)*C.e7+C.e7<=C.aZ*C.e7:=by
 have:=pW C.e7 (show a -1+1<=C.aZ by omega);rwa[nc,vj]at this
def xK(J:C.ok):iM (bD C) C C.cells:=by
 refine xf ?_;intro e;have aV:=TO (C:=C);have Y:=Cv (C:=C);have ah:=TP (C:=C);have aj:=TQ (C:=C);have a6:C.cells=C.gS+C.aZ*C.e7:=rfl;have h1:=J.cr;have h2:=J.d1;have aN:=J.i1;have bu:=J.m1;refine⟨aw9,?_,?_,λw O=>?_,?_,λw O=>?_,akv,?_,λi a b=>akw a b,λa aW aA=>?_,λa r aW aA=>?_⟩
 . unfold bD;rw[bd bJ]
 . unfold bD;rw[bd bJ]
 . show bD C (2+w)=_;unfold bD;rw[a8 ae,bd ae]
 . exact Lw h1 (λo aK=>TR aK) (by show 2+C.a1+2+2*C.aZ<=_;omega)
 . have gT:C.bA.cn w=C.d0+w*(2+C.eI):=rfl
   have uw:w*(2+C.eI)+(2+C.eI)<=C.a1*(2+C.eI):=by
    exact ads
   refine⟨h2,?_,?_,λk hk=>?_,by rw[gT];omega⟩
   . rw[gT,<-HK (C.d0+_),TS O ae];rfl
   . rw[gT,TS O ae];rfl
   . rw[gT,n3,TS O ae];unfold Lu;rw[a8 ae,a8 ae]
 . exact Lw aN (λo aK=>TT aK) (by show C.en+1+2+2*C.iN<=_;omega)
 . have gT:(C.box a).b=C.gS+(a -1)*C.e7:=rfl
   rw[gT];refine⟨?_,?_⟩
   . rw[<-HK (C.gS+_),Cw ae];rfl
   . rw[Cw ae];rfl
 . have gT:(C.box a).b=C.gS+(a -1)*C.e7:=rfl
   have j:=axa aW aA;cases r with
   |
    false=>
    refine Lw bu (λo aK=>?_) (by show(C.box a).b+2+2+2*C.hW<=_;rw[gT];omega);replace aK:o<2+2*C.hW:=aK;show bD C ((C.box a).b+2+o)=ox .jp o;rw[gT,n3,Cw ae];unfold vH;rw[a8 ae,bd ae];congr 1;omega
   |
    true=>
    refine Lw (show 1<=C.fB by unfold bt.fB;omega) (λo aK=>?_) (by show(C.box a).b+2+(2+2*C.hW)+2+2*C.fB<=_;rw[gT];omega);replace aK:o<2+2*C.fB:=aK;show bD C ((C.box a).b+2+(2+2*C.hW)+o)=ox .zK o;rw[gT,show C.gS+(a -1)*C.e7+2+(2+2*C.hW)+o=C.gS+(a -1)*C.e7+(4+2*C.hW+o) by omega,Cw ae];unfold vH;rw[a8 ae,a8 ae];congr 1;omega
end
end
def ek(C:bt)(l:List Nat)(L:List Int):List Int:=l.foldl (λL w=>(L.set (C.bA.cn w) 1).set (C.bA.cn w+1) 1) L
def TU(C:bt):∀(l:List Nat) (L:List Int),(ek C l L).length=L.length
 |[],L=>rfl
 |w::l,L=>by show(ek C l _).length=_;rw[TU C l];simp
def Cx(C:bt):∀(l:List Nat) (L:List Int) (i:Nat),(∀w∈l,i≠C.bA.cn w/\i≠C.bA.cn w+1)->(ek C l L).getD i 0=L.getD i 0
 |[],L,i,_=>rfl
 |
  w::l,L,i,h=>by
  show(ek C l _).getD i 0=_;rw[Cx C l _ i (λx ah=>h x (.tail _ ah)),mC (h w (.head _)).2,mC (h w (.head _)).1]
def TV(C:bt):∀(l:List Nat) (L:List Int) (i:Nat),L.getD i 0=1->(ek C l L).getD i 0=1
 |[],L,i,h=>h
 |
  w::l,L,i,h=>by
  show(ek C l _).getD i 0=1;refine TV C l _ i ?_;rw[gs];split
  . rfl
  . rw[gs];split
    . rfl
    . exact h
def akx(C:bt){w:Nat}:∀(l:List Nat) (L:List Int),w∈l->C.bA.cn w+1<L.length->(ek C l L).getD (C.bA.cn w) 0=1/\(ek C l L).getD (C.bA.cn w+1) 0=1
 |[],L,h,_=>by cases h
 |
  x::l,L,h,av=>by
  show(ek C l _).getD _ 0=1/\(ek C l _).getD _ 0=1;by_cases e:w=x
  . subst e
    exact⟨TV C l _ _ (by rw[mC (by omega),rC (by omega)]),TV C l _ _ (by rw[rC (by rw[gn];omega)])⟩
  . exact akx C l _ ((ku.1 h).resolve_left e) (by simp only[gn];exact av)
def aky(C:bt):∀(l:List Nat) (L:List Int),iu L->iu (ek C l L)
 |[],L,h=>h
 |w::l,L,h=>aky C l _ ((h.set _ _ bJ).set _ _ bJ)
def TW(k i:Nat):(List.replicate k (0:Int)).getD i 0=0:=by
 exact adm
def Lj{C:bt}{P:List b2}(J:C.ok)(cT:hS P):∃s,start C P=some s/\hi (bD C) C P 1 s:=by
 obtain⟨k,r,hk⟩:∃k r,P=k::r:=by
  cases g:P with
  |nil=>exact absurd g cT.ne
  |cons k r=>exact⟨k,r,rfl⟩
 have cH:=xK J;have B:=cT.kinds k (by rw[hk];exact .head _);obtain⟨cS,ba⟩:∃cS,ll P k.name=some cS:=by
  unfold ll;rw[hk,akz];simp
 have a:=cT.kinds cS (ajt ba);obtain⟨st,m,f9⟩:∃st r,cS.states=st::r:=by
  cases aj:cS.states with
  |nil=>exact absurd aj a.st
  |cons st r=>exact⟨st,r,rfl⟩
 have gr:cS.states[0]?=some st:=by rw[f9];rfl
 have cr:=J.cr;unfold start;have j:P[0]?=some k:=by rw[hk];rfl
 simp only[j,bind,Option.bind];unfold sX;simp only[ba,gr,bind,Option.bind];rw[bd ⟨rfl,cr⟩];have z:∀(s:ao),dE s 0=none:=λs=>by unfold dE;rw[a8 bJ]
 simp only[z,cm];refine⟨_,aji _ (show(0:Nat)<1099511627776 by decide),?_⟩;have hlen:2<=C.cells:=by show 2<=C.gS+_;unfold bt.gS bt.bG;omega
 generalize K:(List.range C.a1).foldl (λL w=>(L.set (C.bA.cn w) 1).set (C.bA.cn w+1) 1) ((List.replicate C.cells (0:Int)).set 1 1)=L
 replace K:ek C (List.range C.a1) ((List.replicate C.cells (0:Int)).set 1 1)=L:=K;have d:L.length=C.cells:=by rw[<-K,TU];simp
 have f:∀w,2<=C.bA.cn w:=λw=>by show 2<=2+C.a1+(2+2*C.aZ)+_;omega
 have nl:L.getD 0 0=0:=by
  rw[<-K,Cx _ _ _ _ (λw _=>by have:=f w;omega),mC bJ,TW]
 have dp:L.getD 1 0=1:=by
  rw[<-K,Cx _ _ _ _ (λw _=>by have:=f w;omega),rC h5]
 have b:∀i,L.getD i 0≠0->i=1\/∃w,w<C.a1/\(i=C.bA.cn w\/i=C.bA.cn w+1):=λi ak=>by
  by_cases h1:i=1
  . exact .inl h1
  . refine .inr (Classical.byContradiction λaM=>ak ?_)
    rw[<-K,Cx _ _ _ _ (λw O=>⟨λe=>aM ⟨w,pV.1 O,.inl e⟩,λe=>aM ⟨w,pV.1 O,.inr e⟩⟩),mC h1,TW]
 have ld:∀w,w<C.a1->L.getD (C.bA.cn w) 0=1/\L.getD (C.bA.cn w+1) 0=1:=λw O=>by
  rw[<-K];exact akx C _ _ (pV.2 O) (by have:=(cH.ig w O).len;simp;omega)
 have jH:iu L:=by rw[<-K];exact aky C _ _ ((auN _).set _ _ bJ)
 have T:∀(ns:List bX) (t:List bW),bk (⟨L,⟨0,0,[]⟩,[⟨1,0,cS,st.name,[0,0,0,0],[],1,[],[],[],[],[],[]⟩],[],[],[],[],ns,0,0,false,t⟩:ao)=⟨1,0,0⟩:=λns t=>rfl;refine⟨⟨⟨ei _,cr,λi x e=>?_,(λl av=>by cases av),(λl av=>by cases av),by simp,⟨by simp,(λq bm=>by cases bm)⟩,ei _⟩,⟨by show L.getD 0 0=_;rw[nl];rfl,eX _,by show((1:Nat):Int)=min (L.getD 1 0 -_) _;rw[dp];omega,by show _<=L.getD 1 0;rw[dp];decide,by show L.getD 1 0<=_;rw[dp];decide⟩,λ_=>1,⟨d,jH,λi c ak aM=>?_,λw O=>⟨by rw[(ld w O).1];decide,by show L.getD _ 0<=_;rw[(ld w O).2];decide,λi h1 h2=>by omega⟩,λ_=>ei _,(λt R=>by cases R),⟨j2.nil,(show 0+_<_ by decide),(show 0+_<_ by decide)⟩⟩,λi t e=>?_⟩,(show(1:Nat)<=90000 by decide)⟩
 . rw[dc]at e
   obtain⟨dV,rfl⟩:=e;have D:i=0:=by simp at dV;omega
   subst D;exact⟨rfl,eX _,a,rfl,(λv Y=>by simp at Y;subst Y;exact⟨vs _,by show(0:Int)<=((1:Nat):Int);decide⟩),zi,zi,zi,zi,(λp hp=>by cases hp)⟩
 . exfalso
   rcases b i aM with rfl|⟨w,O,rfl|rfl⟩
   . rw[cH.c1]at ak;cases ak
   . rw[(cH.ig w O).dB]at ak;cases ak
   . rw[(cH.ig w O).iL]at ak;cases ak
 . replace e:(List.replicate (C.a1+C.cB+1) (⟨none,0,false⟩:bW))[i]?=some t:=e
   rw[JL]at e;split at e
   . cases e
     exact⟨(λo k e=>by cases e),λO=>.inl (by show 1<=L.getD _ 0;rw[(ld i O).2];decide),(show(0:Int)<=0/\(0:Int)<_ from by decide)⟩
   . cases e
def b4(x y:Option ao):Prop:=∀v,x=some v->y=some v
def b4.refl(x:Option ao):b4 x x:=λ_ h=>h
def b4.bind{α:Type}{x:Option α}{f t:α->Option ao}(h:∀a,b4 (f a) (t a)):b4 (x.bind f) (x.bind t):=by
 cases x with
 |none=>exact λv e=>by cases e
 |some a=>exact h a
def b4.bind'{α:Type}{x:Option α}{f t:α->Option ao}(h:∀a,b4 (f a) (t a)):b4 (x>>=f) (x>>=t):=b4.bind h
def b4.ite{p:Prop}[Decidable p]{a b aI l:Option ao}(h1:p->b4 a aI)(h2:¬p->b4 b l):b4 (if p then a else b) (if p then aI else l):=by
 by_cases h:p
 . rw[bd h,bd h];exact h1 h
 . rw[a8 h,a8 h];exact h2 h
section
variable{C:bt}{P:List b2}{g z:ao->bU->K->Option ao}{j:Nat}(aF:∀s r k,b4 (g s r k) (z s r k))
include aF
section
variable(s:ao){c aQ:ao->List Int->K->Option ao}(d:ev)(r:bU)(i a:Nat)(n:c9)(id:Int)(k:K)
theorem K8:b4 (ot C g j s r a k) (ot C z j s r a k):=by
 unfold ot;cases r with
 |post aI p=>exact b4.ite (λ_=>b4.refl _) (λ_=>aF _ _ _)
 |_=>exact b4.refl _
theorem ajO:b4 (rN C g j s id k) (rN C z j s id k):=by
 unfold rN;refine b4.bind' λl=>b4.ite (λ_=>b4.bind' λ_=>aF _ _ _) (λ_=>b4.refl _)
theorem aws{s:ao}{a:Nat}{x:bR}{e:fv}{b who:Int}{slot:Nat}{c aQ:ao->List Int->K->Option ao}{k:K}(a6:∀s l k,b4 (c s l k) (aQ s l k)):b4 (vE C g j s a x e b who slot c k) (vE C z j s a x e b who slot aQ k):=by
 unfold vE;refine b4.ite (λ_=>b4.refl _) λ_=>b4.ite (λ_=>b4.refl _) λ_=>b4.ite (λ_=>aF _ _ _) λ_=>b4.ite (λ_=>b4.bind λ_=>aF _ _ _) λ_=>b4.ite (λ_=>b4.refl _) λ_=>b4.ite (λ_=>a6 _ _ _) λ_=>b4.ite (λ_=>b4.ite (λ_=>aF _ _ _) λ_=>b4.refl _) λ_=>b4.refl _
theorem ajP(a6:∀s l k,b4 (c s l k) (aQ s l k))(s:ao)(d:ev)(i:Nat)(k:K):b4 (mH C g j c s d i k) (mH C z j aQ s d i k):=by
 unfold mH;cases d with
 |c5 a id p=>exact b4.bind' λl=>b4.bind' λe=>b4.bind' λx=>aws aF a6
 |cancel ids=>exact b4.refl _
 |leave due=>exact b4.bind' λ_=>ajO aF _ _ _
 |push l w=>exact b4.refl _
 |l9 a=>exact b4.ite (λ_=>aF _ _ _) (λ_=>b4.refl _)
theorem awt(n:Nat)(k:K):b4 (zP C g j s d i n k) (zP C z j s d i n k):=by
 unfold zP;exact b4.ite (λ_=>aF _ _ _) (λ_=>ajP aF (λ_ _ _=>b4.refl _) _ _ _ _)
theorem Ff(n:Nat)(k:K):b4 (mI C g j s d i n k) (mI C z j s d i n k):=by
 unfold mI;exact b4.ite (λ_=>aF _ _ _) (λ_=>ajP aF (λ_ _ _=>awt aF _ _ _ _ _) _ _ _ _)
theorem Tl(l:List Int)(w:Int)(k:K):b4 (vF C g j s l w k) (vF C z j s l w k):=Ff aF _ _ _ _ _
theorem Tn:b4 (qR C g j s a k) (qR C z j s a k):=by
 unfold qR;exact b4.bind' λx=>b4.ite (λ_=>aF _ _ _) (λ_=>b4.bind' λ_=>Tl aF _ _ _ _)
theorem ajQ(r:cC)(k:K):b4 (rO C g j s a r k) (rO C z j s a r k):=by
 unfold rO;exact b4.bind' λx=>b4.bind' λ_=>b4.ite (λ_=>Tn aF _ _ _) (λ_=>b4.refl _)
theorem ajR:b4 (p6 g j s a k) (p6 z j s a k):=by
 unfold p6;exact b4.bind' λx=>b4.ite (λ_=>aF _ _ _) λ_=>b4.ite (λ_=>b4.refl _) λ_=>b4.ite (λ_=>b4.bind' λ_=>b4.bind' λ_=>b4.bind' λ_=>b4.bind' λ_=>aF _ _ _) λ_=>aF _ _ _
theorem To(d:Int)(k:K):b4 (p7 C g j s a n d k) (p7 C z j s a n d k):=by
 unfold p7;exact b4.bind' λ_=>b4.ite (λ_=>b4.refl _) λ_=>b4.ite (λ_=>b4.refl _) λ_=>b4.ite (λ_=>b4.refl _) λ_=>b4.bind' λ_=>b4.ite (λ_=>ajQ aF _ _ _ _) λ_=>aF _ _ _
theorem awu:b4 (ub C g j s a n k) (ub C z j s a n k):=by
 unfold ub;exact b4.bind' λx=>b4.ite (λ_=>aF _ _ _) λ_=>b4.ite (λ_=>To aF _ _ _ _ _) λ_=>b4.refl _
theorem awv:b4 (sW C g j s a n k) (sW C z j s a n k):=by
 unfold sW;exact b4.bind' λx=>b4.ite (λ_=>Tn aF _ _ _) λ_=>b4.ite (λ_=>awu aF _ _ _ _) λ_=>b4.ite (λ_=>b4.ite (λ_=>aF _ _ _) λ_=>b4.bind' λ_=>Tl aF _ _ _ _) λ_=>
  b4.ite (λ_=>b4.ite (λ_=>aF _ _ _) λ_=>Tl aF _ _ _ _) λ_=>b4.ite (λ_=>ajR aF _ _ _) λ_=>b4.refl _
theorem ajS:b4 (qS C g j s a id k) (qS C z j s a id k):=by
 unfold qS;exact b4.bind' λx=>b4.bind' λl=>b4.ite (λ_=>b4.bind' λ_=>aF _ _ _) λ_=>b4.ite (λ_=>b4.ite (λ_=>b4.bind' λ_=>aF _ _ _) λ_=>b4.bind' λ_=>aF _ _ _) λ_=>b4.bind' λ_=>Ff aF _ _ _ _ _
theorem ajT(left:Nat):b4 (p8 C g j s a left) (p8 C z j s a left):=by
 unfold p8;refine b4.bind' λx=>b4.ite (λ_=>b4.refl _) λ_=>b4.ite (λ_=>b4.refl _) λ_=>?_;cases x.front.getLast? with
 |none=>exact b4.refl _
 |some id=>exact ajS aF _ _ _ _
theorem aww:b4 (dw C P g j s r k) (dw C P z j s r k):=by
 cases k with
 |nil=>exact b4.refl _
 |polled=>exact b4.refl _
 |found=>exact b4.refl _
 |oZ=>exact b4.refl _
 |
  mb=>
  cases r with
  |eS c=>exact b4.bind' λ_=>b4.bind' λ_=>b4.bind' λ_=>Ff aF _ _ _ _ _
  |_=>exact b4.refl _
 |run a=>exact b4.refl _
 |
  jk a=>
  cases r with
  |post aI p=>exact b4.ite (λ_=>ajT aF _ _ _) λ_=>b4.bind' λ_=>awv aF _ _ _ _
  |_=>exact b4.refl _
 |on a=>exact b4.refl _
 |again a=>exact b4.refl _
 |next a left=>exact ajT aF _ _ _
 |
  nr a left=>
  cases r with
  |post aI p=>exact b4.ite (λ_=>b4.refl _) λ_=>ajS aF _ _ _ _
  |_=>exact b4.refl _
 |settled a=>exact K8 aF _ _ _ _
 |ended a id p k=>exact b4.bind' λx=>b4.bind' λ_=>b4.ite (λ_=>Tn aF _ _ _) λ_=>b4.ite (λ_=>ajQ aF _ _ _ _) λ_=>aF _ _ _
 |mc l k=>exact b4.bind' λx=>ajO aF _ _ _
 |gv a l e k=>exact b4.refl _
 |
  told id to k=>
  cases r with
  |post aI p=>exact b4.ite (λ_=>b4.bind' λ_=>aF _ _ _) λ_=>b4.ite (λ_=>b4.bind' λ_=>aF _ _ _) λ_=>K8 aF _ _ _ _
  |_=>exact b4.refl _
 |lh a k=>exact K8 aF _ _ _ _
 |
  me a kind slot k=>
  cases r with
  |
   fV v=>
   exact b4.ite (λ_=>b4.bind' λE=>b4.bind' λ_=>aF _ _ _) (λ_=>b4.bind' λE=>b4.bind' λ_=>aF _ _ _)
  |_=>exact b4.refl _
 |
  asked id a e k=>
  cases r with
  |eS c=>exact b4.ite (λ_=>b4.bind' λ_=>aF _ _ _) λ_=>b4.bind' λ_=>aF _ _ _
  |_=>exact b4.refl _
 |watched a who k=>exact b4.refl _
 |
  gone a who k=>
  cases r with
  |post aI p=>exact b4.ite (λ_=>aF _ _ _) λ_=>b4.refl _
  |_=>exact b4.refl _
 |
  mK x y k=>
  cases r with
  |hV o=>exact b4.ite (λ_=>aF _ _ _) λ_=>b4.refl _
  |_=>exact b4.refl _
 |alone a k=>exact ajR aF _ _ _
 |
  mf a n k=>
  cases r with
  |eS c=>exact b4.bind' λ_=>b4.ite (λ_=>To aF _ _ _ _ _) λ_=>To aF _ _ _ _ _
  |_=>exact b4.refl _
 |closed a k=>exact b4.refl _
 |
  kW a k=>
  cases r with
  |post aI p=>exact b4.ite (λ_=>aF _ _ _) λ_=>b4.refl _
  |_=>exact b4.refl _
 |shut a k=>exact b4.refl _
 |nS a k=>exact b4.refl _
 |
  who a k=>
  cases r with
  |fV v=>exact b4.ite (λ_=>Ff aF _ _ _ _ _) λ_=>b4.refl _
  |_=>exact b4.refl _
 |parent a k=>exact b4.bind' λ_=>b4.ite (λ_=>aF _ _ _) λ_=>b4.refl _
 |each d i n k=>exact Ff aF _ _ _ _ _
 |ov a=>exact K8 aF _ _ _ _
end
end
structure ff(a:Nat)(x:bR):Prop where
 id:x.id=a
 kids:x.kids.length<most
 qV:3*(x.front.length+x.aside.length)<most
structure eD(C:bt)(x:bR):Prop where
 par:x.parent<=C.aZ
 slots:x.slots.length=4
 kids:x.kids.length+1<most
 K9:x.cM.length+1<most
 Tp:∀p∈x.given,p.2.length<most
 Tq:∀p∈x.timers,p.2.length<most
 jV:∀p∈x.timers,∀v∈p.2,0<=v
structure cQ(C:bt)(j:Nat)(s:ao):Prop where
 aJ:∀a x,dE s a=some x->1<=a/\ff a x
 na:s.aJ.length<=C.aZ
 bc:kR s.bc
 Fg:s.bc.length<=s.lets.length/\s.lets.length<=most
 notes:s.notes.length<most
 La:∀n∈s.notes,0<=n.who
 ns:s.trace.length<=most/\s.dead.length<=most
 jW:∃t,s.az[j]?=some t/\t.on=none
section
variable{id w:Int}{f:Nat->fU}{C:bt}{g:ao->bU->K->Option ao}{P:List b2}{n j p q:Nat}{s y:ao}{l:cW}{a:Nat}{v:Int}{x:bR}{e:bX}
def Lb{l:List Nat}{x n:Nat}(h:x∈l)(aj:l.sum<n):x<n:=by
 induction l with
 |nil=>cases h
 |
  cons y l K=>
  simp only[S8]at aj;rcases ku.1 h with rfl|h
  . omega
  . exact K h ae
def In.s3{s:ao}{x:bR}(h:In f C P n j p q s)(hp:bM s+10<most)(e:dE s a=some x):1<=a/\ff a x/\eD C x:=by
 unfold dE at e;split at e
 . rename_i h1
   have B:=h.base.aJ _ _ e;have aj:io x+10<most:=by
    have h2:io x∈s.aJ.map io:=lU.2 ⟨x,js e,rfl⟩;have:=Lb (n:=most -10) h2 Iv;omega
   unfold io at aj;refine⟨h1,⟨by have:=B.id;omega,by omega,by omega⟩,⟨nb B.par h.base.na,B.slots,by omega,by omega,λp hp=>?_,λp hp=>?_,λp hp v Y=>?_⟩⟩
   . have:=Lb (n:=most) (lU.2 ⟨p,hp,rfl⟩:(1+p.2.length)∈x.given.map (λp=>1+p.2.length)) ae;omega
   . have:=Lb (n:=most) (lU.2 ⟨p,hp,rfl⟩:(1+p.2.length)∈x.timers.map (λp=>1+p.2.length)) ae;omega
   . have aN:1<=v:=(B.jV p hp v Y).1;omega
 . cases e
def cQ.of(h:In f C P n j p q s)(aM:n<=bq)(hp:bM s+10<most):cQ C j s:=by
 have H:bq=1000000000000:=rfl;refine⟨λa x e=>⟨(h.s3 hp e).1,(h.s3 hp e).2.1⟩,h.base.na,h.base.bc.1,⟨h.base.bc.2,?_⟩,by unfold bM at hp;omega,λm bf=>(h.base.notes m bf).who.1,by unfold bM at hp;omega,h.jW⟩;have h2:=h.num.pu;unfold most;omega
def cQ.mh(h:cQ C j s):s.bc.length<=most:=nb h.Fg.1 h.Fg.2
def awx{b:Nat}{x y:bR}(aW:1<=a)(h:dE (dd s a x) b=some y):(a=b/\y=x)\/dE s b=some y:=by
 unfold dE dd at*;split at h
 . rename_i aA
   by_cases e:a -1=b -1
   . have f:a=b:=by omega
     subst f;have dV:=(dc.1 h).1;rw[gn]at dV;rw[xh dV]at h;cases h;exact .inl dI
   . rw[qK e]at h
     exact .inr (by rw[bd aA];exact h)
 . cases h
def Tr{E:bR}(h:dE s a=some E):dE (dd s a x) a=some x:=by
 unfold dE dd at*;split at h
 . rename_i aW
   rw[bd aW,xh (dc.1 h).1]
 . cases h
def cQ.set{C:bt}{j a:Nat}{s:ao}{x:bR}(h:cQ C j s)(aW:1<=a)(ah:ff a x):cQ C j (dd s a x):=
 ⟨fun b y e => by
  rcases awx aW e with⟨rfl,rfl⟩|e
  . exact⟨aW,ah⟩
  . exact h.aJ b y e,by show(s.aJ.set _ _).length<=_;rw[gn];exact h.na,h.bc,h.Fg,h.notes,h.La,h.ns,h.jW⟩
def cQ.Ae{aD:ao}(h:cQ C j s)(ea:aD.aJ=s.aJ)(el:dM s.bc aD.bc)(db:aD.notes=s.notes)(b:aD.lets=s.lets)(cK:aD.az=s.az)(ay:aD.trace.length<=most)(aV:aD.dead.length<=most):cQ C j aD:=
 ⟨λa x e=>h.aJ a x (by unfold dE at*;rwa[ea]at e),by rw[ea];exact h.na,el.1 h.bc,by rw[el.2,b];exact h.Fg,by rw[db];exact h.notes,by rw[db];exact h.La,⟨ay,aV⟩,by rw[cK];exact h.jW⟩
def dM.same{r:List (Int×Int)}:dM r r:=⟨λh=>h,rfl⟩
theorem dM.from{r:List (Int×Int)}{id w:Int}(O:1<=w/\w<=8):dM r (dg r id w):=⟨λh=>h.from O,Led.yW⟩
theorem dM.F6{r:List (Int×Int)}{id w:Int}:dM r (du r id w):=⟨λh=>h.F6,e8⟩
def jY{o:bU}{k:K}(h:ew j s o k=some y):∃t,s.az[j]?=some t/\t.on=none/\y={s with az:=s.az.set j {t with on:=some (o,k)}}:=by
 unfold ew at h;cases e:s.az[j]?with
 |none=>rw[e]at h;cases h
 |
  some t=>
  rw[e]at h;simp only[bind,Option.bind]at h;split at h
  . rename_i aM
    cases h;refine⟨t,rfl,?_,rfl⟩;cases aK:t.on with
    |none=>rfl
    |some q=>rw[aK]at aM;cases aM
  . cases h
def li{s y:ao}(h:tell e s=some y):s.trace.length<most/\y={s with trace:=s.trace++[e]}:=by
 unfold tell at h;split at h
 . rename_i av;cases h;exact⟨av,rfl⟩
 . cases h
theorem zR{why:Int}{s y:ao}(h:kill id why s=some y):∃l,jX s id=some l/\s.dead.length<most/\s.trace.length<most/\(1<=why/\why<=5)/\y={s with bc:=dg s.bc id 8,dead:=s.dead++[(id,l.to,why)],trace:=s.trace++[({c7 with kind:=6,id:=id,to:=l.to,why:=why}:bX)]}:=by
 unfold kill at h;cases e:jX s id with
 |none=>rw[e]at h;cases h
 |
  some l=>
  rw[e]at h;simp only[bind,Option.bind]at h;split at h
  . rename_i aL
    obtain⟨h1,rfl⟩:=li h;exact⟨l,rfl,aL.1,h1,aL.2,rfl⟩
  . cases h
def zS{s y:ao}{n:c9}{k:K}(h:qQ C j s a n k=some y):s.notes.length<most/\(1<=a/\a<=C.aZ)/\∃t,s.az[j]?=some t/\t.on=none/\y={s with notes:=s.notes++[n],az:=s.az.set j {t with on:=some (.post a (xH s.notes.length),.lh a k)}}:=by
 unfold qQ at h;split at h
 . rename_i a6
   obtain⟨t,h1,h2,rfl⟩:=jY h;exact⟨a6.1,a6.2,t,h1,h2,rfl⟩
 . cases h
def Cm{l:List Int}{w:Int}{k:K}(h:vF C g j s l w k=some y):(0=l.length/\g s dF k=some y)\/∃(b:Nat) (t:bW),0<l.length/\l[0]?=some (b:Int)/\(1<=b/\b<=C.aZ)/\s.az[j]?=some t/\t.on=none/\
 y={s with notes:=s.notes++[⟨w,0,[]⟩],az:=s.az.set j {t with on:=some (.post b (xH s.notes.length),.lh b (.each (.push l w) 0 l.length k))}}:=by
 unfold vF mI at h;split at h
 . rename_i bh;exact .inl ⟨bh,h⟩
 . rename_i bh
   refine .inr ?_;simp only[mH]at h;cases e:l[0]?with
   |none=>rw[e]at h;cases h
   |
    some v=>
    rw[e]at h;obtain⟨h1,h2,t,aN,bu,dW⟩:=zS h;exact⟨v.toNat,t,by omega,by rw[show((v.toNat:Nat):Int)=v by omega],h2,aN,bu,dW⟩
theorem Lc{w:Int}:∀{l:List Int} {s y:ao},jz w l s=some y->(∃a b c,y={s with bc:=a,dead:=b,trace:=c})/\dM s.bc y.bc/\(∀id∈l,∃x,jX s id=some x)/\s.trace.length+l.length=y.trace.length/\s.dead.length+l.length=y.dead.length/\(l≠[]->y.trace.length<=most/\y.dead.length<=most)
 |[],s,y,h=>by cases h;exact⟨⟨_,_,_,rfl⟩,dM.same,(λ_ h=>by cases h),rfl,rfl,λh=>absurd rfl h⟩
 |
  id::l,s,y,h=>by
  simp only[jz,bind]at h;cases e:kill id w s with
  |none=>rw[e]at h;cases h
  |
   some s1=>
   rw[e]at h;obtain⟨x,h1,h2,aN,bu,rfl⟩:=zR e;obtain⟨⟨a,b,c,rfl⟩,Z,d8,gc,hm,G⟩:=Lc (l:=l) h;simp only[eL,iE,lp]at gc hm;refine⟨⟨_,_,_,rfl⟩,⟨λr=>Z.1 (r.from bJ),Z.2.trans Led.yW⟩,λi ak=>?_,by simp only[iE];omega,by simp only[iE];omega,λ_=>?_⟩
   . rcases ku.1 ak with rfl|ak
     . exact⟨x,h1⟩
     . exact d8 i ak
   . cases l with
     |nil=>simp only[lp]at gc hm;constructor<;>(simp only;omega)
     |cons E l=>exact G ga
theorem awy:kill id w (dd s a x)=(kill id w s).map (dd · a x):=by
 unfold kill;have e:jX (dd s a x) id=jX s id:=rfl;rw[e];cases jX s id with
 |none=>rfl
 |
  some l=>
  simp only[bind,Option.bind];show(if s.dead.length<most/\1<=w/\w<=5 then _ else none)=_;split
  . unfold tell
    show(if s.trace.length<most then _ else none)=Option.map _ (if s.trace.length<most then _ else none);split<;>rfl
  . rfl
theorem ajU{w:Int}{a:Nat}{x:bR}:∀{l:List Int} {s:ao},jz w l (dd s a x)=(jz w l s).map (dd · a x)
 |[],s=>rfl
 |
  id::l,s=>by
  simp only[jz,bind];rw[awy];cases kill id w s with
  |none=>rfl
  |some s1=>exact ajU (l:=l)
theorem Ts(w:Int):∀(l:List Int) (s:ao),l.foldl (λs id=>move s id w) s={s with bc:=l.foldl (λr id=>du r id w) s.bc}
 |[],s=>rfl
 |x::l,s=>by rw[yP,yP,Ts w l];rfl
theorem ajV(a w:Int):∀(l:List Int) (s:ao),l.foldl (λs id=>lg s id a w) s={s with bc:=l.foldl (λr id=>if bs r id=a then du r id w else r) s.bc}
 |[],s=>rfl
 |
  x::l,s=>by
  rw[yP,yP,ajV a w l];unfold lg;split<;>rfl
def awz(h:dE s a=some x):dd s a x=s:=by
 unfold dE at h;split at h
 . obtain⟨h1,h2⟩:=dc.1 h
   unfold dd;rw[<-h2,yL h1]
 . cases h
theorem Tt{s1:ao}{l:cW}{c:Bool}{v id:Int}(h:enter s l c (.fV v)=some (s1,id)):id=v/\v=((s.lets.length+1:Nat):Int)/\s.lets.length<most/\s.trace.length<most/\
 s1={s with lets:=s.lets++[l],bc:=dT s.bc v 1,trace:=s.trace++[({c7 with kind:=2,id:=v,cy:=l.cy,to:=l.to,name:=l.tag,n:=l.n,nj:=c}:bX)]}:=by
 unfold enter at h;simp only at h;split at h
 . rename_i a6
   cases R:tell {c7 with kind:=2,id:=v,cy:=l.cy,to:=l.to,name:=l.tag,n:=l.n,nj:=c} {s with lets:=s.lets++[l],bc:=dT s.bc v 1}with
   |none=>rw[R]at h;cases h
   |
    some bP=>
    rw[R]at h;obtain⟨h1,rfl⟩:=li R;cases h;exact⟨rfl,a6.1,a6.2,h1,rfl⟩
 . cases h
theorem cQ.enter(h:cQ C j s)(h1:s.lets.length<most)(h2:s.trace.length<most):cQ C j {s with lets:=s.lets++[l],bc:=dT s.bc v 1,trace:=s.trace++[e]}:=
 ⟨fun a x e => h.aJ a x e, h.na, h.bc.acc, by
  have aN:=Zn (r:=s.bc) (id:=v) (w:=1);have bu:=h.Fg.1;simp only[eL,iE,lp];omega,h.notes,h.La,by simp only[eL,iE,lp];have:=h.ns;omega,h.jW⟩
theorem ajW(h:dE s a=some x):xG s a=some (dd {s with bc:=x.aside.foldl (λr id=>du r id 4) s.bc} a {x with front:=x.front++x.aside.reverse,aside:=[]}):=by
 unfold xG;simp only[h,bind,Option.bind];rw[Ts]
theorem awA{s y:ao}{k:K}{x:bR}{st:fN}(B:dE s a=some x)(hk:x.kids=[])(bf:x.mode=3)(aj:x.kind.states[0]?=some st)(h:p6 g j s a k=some y):
 s.trace.length<most/\g (dd {s with bc:=x.aside.foldl (λr id=>du r id 4) s.bc,trace:=s.trace++[({c7 with kind:=12,dL:=a}:bX)]} a {x with state:=st.name,slots:=[0,0,0,0],cM:=[],front:=x.front++x.aside.reverse,aside:=[],mode:=1}) dF k=some y:=by
 unfold p6 at h;simp only[B,qM,k3]at h;rw[a8 (λe=>e hk),a8 ae,bd bf]at h;simp only[aj,k3]at h;have u:=ajW (Tr (x:=Ej) B);simp only[u,k3]at h;have Z:∀(l:List (Int×Int)) (E w:bR),dE (dd {dd s a E with bc:=l} a w) a=some w:=λl E w=>Tr (E:=E) (Tr B);simp only[Z,k3]at h;have d8:∀(l:List (Int×Int)) (E w v:bR),dd (dd {dd s a E with bc:=l} a w) a v=dd {s with bc:=l} a v:=λl E w v=>by simp[dd,List.set_set]
 simp only[d8]at h;obtain⟨s1,R,ag⟩:=gZ.1 h;obtain⟨h1,rfl⟩:=li R;exact⟨h1,ag⟩
end
section
variable{f:Nat->fU}{C:bt}{P:List b2}{n b5 j:Nat}{s:ao}
theorem ajX(cH:iM f C C.cells)(J:C.ok)(aM:n+1<=bq)(h:Inv f C P n s){t:bW}{o:bU}{k:K}(cK:s.az[j]?=some t)(B:t.on=some (o,k))(I:(acc C s o).2.over=true):
 (cV C P (bk {(acc C s o).1 with az:=s.az.set j {t with on:=none}}) k/\bM {(acc C s o).1 with az:=s.az.set j {t with on:=none}}=bM s/\bx k<=90000/\(∀aC,(acc C s o).2=.eS aC->0<=aC.val/\aC.val<=18446744073709551615))/\
 In f C P (n+1) j (eF k) (eG k) {(acc C s o).1 with az:=s.az.set j {t with on:=none}}/\eE C j {(acc C s o).1 with az:=s.az.set j {t with on:=none}} (acc C s o).2 k:=by
 refine af7 ?_;intro H ak c al N Y hk R z U F;have y:iM f C s.L.length:=Ps;have m:∀{fF},dQ C (bk s) fF j (acc C s o).1.L (acc C s o).2->∀aC,(acc C s o).2=.eS aC->0<=aC.val/\aC.val<=18446744073709551615:=λv aC e=>by
  rw[e]at v;exact v.1.val
 -- the threads behind it
 have az:∀(q:nP) (fF:Nat->Nat) (dk:bW),(∀i,i≠j->q≠.own i)->(∀w,ak w<=fF w)->zN f C (bk s) ak n j q s o (acc C s o).1 (acc C s o).2->sU C P (bk s) fF (acc C s o).1.L j dk->
  ∀i u,(s.az.set j dk)[i]?=some u->sU C P (bk s) fF (acc C s o).1.L i u:=λq fF dk bm cl A M i u e=>by
  by_cases g2:j=i
  . subst g2
    obtain⟨dV,rfl⟩:=dc.1 e;rw[y0];exact M
  . rw[qK g2]at e
    exact ajY cH c A bm cl (λh=>g2 h.symm) (al i u e)
 by_cases L:∃a d,o=.add a d
 . obtain⟨a,d,rfl⟩:=L
   obtain⟨aW,rfl⟩:=Y;have A:=ajg (j:=j) cH aM c aW;have bm:∀i,i≠j->nP.jg≠.own i:=λi _ e=>by cases e
   obtain⟨fF,cl,aQ,D⟩:=A.ex;have T:=Cn C s (.add a 1) Jl;refine⟨⟨by rw[T];exact hk,II _ _ _ _,by omega,m D⟩,?_⟩;have g9:∀p q,p0 C (n+1) p q {(acc C s (.add a 1)).1 with az:=s.az.set j {t with on:=none}}->In f C P (n+1) j p q sv:=λp q E=>by
    exact aev
   have nl:=h.num.nl;have pu:=h.num.pu;have dp:=h.num.dp;have mD:=h.num.mD;have mF:=h.num.mF;have un:∀x:Int,0<=x->x<9223372036854775808->eU x=x:=λx a b=>by rw[zC];omega
   have hlen:2<=s.L.length:=ZY;have Z:∀{p q:Nat},eF k=p->eG k=q->p0 C (n+1) p q sv->eE C j sv (acc C s (.add a 1)).2 k->In f C P (n+1) j (eF k) (eG k) sv/\eE C j sv (acc C s (.add a 1)).2 k:=λay aV E aE=>by
    rw[ay,aV];exact⟨g9 _ _ E,aE⟩
   exact ae4
 . have hH:∀a d,o≠.add a d:=λa d e=>L ⟨a,d,e⟩
   have A:=ajf cH J aM c Y F hH;have bm:∀i,i≠j->nP.own j≠.own i:=λi g2 e=>by cases e;exact g2 rfl
   obtain⟨fF,cl,aQ,D⟩:=A.ex;have gr:(acc C s o).1.L.getD 0 0=s.L.getD 0 0:=A.wr.jg ga cH.en;have ay:(acc C s o).1.L.getD 1 0=s.L.getD 1 0:=A.wr.jg ga cH.c1;have E:∀dk,p0 C (n+1) 0 0 Jo:=λdk=>by
    exact age
   have T:=Cn C s o Jl;have X:eF k=0/\eG k=0:=ZZ;refine adF ?_;intro g9;exact⟨⟨by rw[T];exact hk,II _ _ _ _,by omega,m D⟩,by rw[X.1,X.2];exact g9,ajZ R hH A T rfl⟩
end
def awB(C:bt)(s:ao)(o:bU):(acc C s o).1.aJ=s.aJ:=by cases o<;>rfl
def awC(C:bt)(s:ao)(o:bU):(acc C s o).1.lets=s.lets:=by cases o<;>rfl
section
variable{Z:Nat->ao->Option ao}{n i:Nat}
def awD(h:i<n):(List.range n).drop i=i::(List.range n).drop (i+1):=by
 rw[ta (by rw[u5];exact h)];simp
def Tu(h:i<n)(s:ao):qU Z ((List.range n).drop i) s=(Z i s).bind (qU Z ((List.range n).drop (i+1))):=by
 rw[awD h];rfl
def aj0(s:ao):qU Z ((List.range n).drop n) s=some s:=by
 rw[CP (by rw[u5];exact ei _)];rfl
def Fh{C:bt}{P:List b2}{k:Nat}{s:ao}{E:ao×Bool}(h:rest C P (k+1) s=some E):(quiet C s=true/\E=(s,true))\/(quiet C s=false/\∃s1 bP bZ b,qU (λj s=>stepT C P (er C j) j s) (List.range C.a1) s=some s1/\qU (λi s=>if busy s (C.a1+i)then eh C P (C.a1+i) s else some s) (List.range C.cB) s1=some bP/\ud C P bP=some (bZ,b)/\rest C P k bZ=some E):=by
 unfold rest at h;split at h
 . rename_i bm;cases h;exact .inl ⟨bm,rfl⟩
 . rename_i bm
   refine .inr ⟨by simpa using bm,?_⟩;obtain⟨bZ,h1,h2⟩:=gZ.1 h;unfold round at h1;obtain⟨s1,ay,h1⟩:=gZ.1 h1;obtain⟨bP,aV,h1⟩:=gZ.1 h1;obtain⟨⟨a,b⟩,bz,dh⟩:=kX.1 h1;cases dh;exact⟨s1,bP,_,b,ay,aV,bz,h2⟩
end
section
variable(C:bt)(P:List b2)(s:ao)
abbrev dN(n:Nat)(s:ao):Prop:=hi (bD C) C P n s
def Cp(e:cZ):ao×Bool:=(jq C P s e).getD (s,false)
def Fl(k:Nat)(s:ao):ao×Bool:=(rest C P k s).getD (s,false)
def Lh:ao:=(start C P).getD ⟨[],⟨0,0,[]⟩,[],[],[],[],[],[],0,0,false,[]⟩
end
section
variable{C:bt}{P:List b2}{n:Nat}{s:ao}
def TC(J:C.ok)(cT:hS P)(h:dN C P n s)(aM:n+1<=gM)(e:cZ):jq C P s e=some (Cp C P s e)/\dN C P (n+1) (Cp C P s e).1:=by
 obtain⟨aD,b,ay,r⟩:=xJ (xK J) J cT aM h e;unfold Cp;rw[ay];exact⟨rfl,r⟩
def akj{k n:Nat}{s:ao}(J:C.ok)(cT:hS P)(h:dN C P n s)(aM:n+13*k<=gM):rest C P k s=some (Fl C P k s)/\dN C P (n+13*k) (Fl C P k s).1:=by
 obtain⟨aD,b,ay,r⟩:=Li (xK J) J cT k n s aM h;unfold Fl;rw[ay];exact⟨rfl,r⟩
def awS(J:C.ok)(cT:hS P):start C P=some (Lh C P)/\dN C P 1 (Lh C P):=by
 obtain⟨s,ay,r⟩:=Lj J cT;unfold Lh;rw[ay];exact⟨rfl,r⟩
def jB:bt:=⟨1,1,4,4,2,2,4,4,4⟩
def zT:fv:=⟨1,[115,101,108,102],[],[121],0,0,0⟩
def j8:List b2:=[⟨[97],0,1,none,0,[],none,0,[⟨[115],none,0,[⟨[120],false,0,none,0,[zT]⟩]⟩]⟩]
def ue:jB.ok:=by constructor<;>decide
def xL:hS j8:=⟨by decide,λk hk=>by
 obtain rfl:=rX.1 hk;refine⟨by decide,λt R r aE=>?_⟩;obtain rfl:=rX.1 R;obtain rfl:=rX.1 aE;refine⟨by decide,λe V=>?_⟩;obtain rfl:=rX.1 V;decide⟩
def Cq:ao:=Lh jB j8
def Fm:ao×Bool:=Cp jB j8 Cq ⟨4,0,1,[120],5⟩
def rP:ao×Bool:=Fl jB j8 100 Fm.1
def Fo:ao×Bool:=Cp jB j8 rP.1 ⟨7,0,0,[],0⟩
def xM:ao×Bool:=Fl jB j8 100 Fo.1
def Cr:ao×Bool:=Cp jB j8 xM.1 ⟨4,0,1,[120],0⟩
def TD:start jB j8=some Cq/\dN jB j8 1 Cq:=awS ue xL
def TE:jq jB j8 Cq ⟨4,0,1,[120],5⟩=some Fm/\dN jB j8 2 Fm.1:=TC ue xL TD.2 bJ _
def Lk:rest jB j8 100 Fm.1=some rP/\dN jB j8 1302 rP.1:=akj ue xL TE.2 bJ
def TF:jq jB j8 rP.1 ⟨7,0,0,[],0⟩=some Fo/\dN jB j8 1303 Fo.1:=TC ue xL Lk.2 bJ _
def Ll:rest jB j8 100 Fo.1=some xM/\dN jB j8 2603 xM.1:=akj ue xL TF.2 bJ
def akk:jq jB j8 xM.1 ⟨4,0,1,[120],0⟩=some Cr/\dN jB j8 2604 Cr.1:=TC ue xL Ll.2 bJ _
def Fp:Fm.2=true/\rP.2=true/\Fo.2=true/\xM.2=true/\Cr.2=true:=⟨by kernel_rfl,by kernel_rfl,by kernel_rfl,by kernel_rfl,by kernel_rfl⟩
def Cs:rP.1.trace.length=7/\xM.1.trace.length=9/\Cr.1.trace.length=10:=⟨by kernel_rfl,by kernel_rfl,by kernel_rfl⟩
def Lm:rP.1.trace[1]?=some {c7 with kind:=2,id:=1,cy:=-1,to:=1,name:=[120],n:=5}/\rP.1.trace[3]?=some {c7 with kind:=2,id:=2,cy:=1,to:=1,name:=[121],n:=5}/\rP.1.trace[6]?=some {c7 with kind:=4,dL:=1,id:=2,name:=[115]}/\(Cr.1.trace[9]?).map (·.kind)=some 1:=⟨by kernel_rfl,by kernel_rfl,by kernel_rfl,by kernel_rfl⟩
def Ln:xM.1.aJ.length=1/\(xM.1.aJ[0]?).map (·.mode)=some 5:=⟨by kernel_rfl,by kernel_rfl⟩
def fa(C:bt)(P:List b2)(es:List cZ)(k:Int):Option (ao×Bool):=do
 let s<-start C P
 let s<-(es.take 400).foldlM (λs e=>(jq C P s e).map (·.1)) s
 rest C P (min (max (min k 400) 0) 20000).toNat s
def akl{C:bt}{P:List b2}(J:C.ok)(cT:hS P):∀(es:List cZ) (n:Nat) (s:ao),n+es.length<=gM->dN C P n s->∃aD,es.foldlM (λs e=>(jq C P s e).map (·.1)) s=some aD/\dN C P (n+es.length) aD
 |[],n,s,_,h=>⟨s,rfl,h⟩
 |
  e::es,n,s,aM,h=>by
  simp only[iE]at aM;obtain⟨s1,b,ay,gP⟩:=xJ (xK J) J cT ae h e;obtain⟨bP,aV,lM⟩:=akl J cT es (n+1) s1 ae gP;refine⟨bP,?_,by rw[iE,show n+(es.length+1)=n+1+es.length by omega];exact lM⟩;rw[akm,ay];exact aV
def akn(J:C.ok)(cT:hS P)(es:List cZ)(k:Int):∃E,fa C P es k=some E/\dN C P 6000 E.1:=by
 obtain⟨s,ay,gP⟩:=Lj J cT;have av:(es.take 400).length<=400:=It;have hk:gM=10000000:=rfl;obtain⟨bP,aV,lM⟩:=akl J cT (es.take 400) 1 s ae gP;have bf:(min (max (min k 400) 0) 20000).toNat<=400:=ae;obtain⟨bZ,b,bz,o⟩:=Li (xK J) J cT (min (max (min k 400) 0) 20000).toNat _ bP ae lM;refine⟨(bZ,b),?_,o.aT ae ae⟩;unfold fa;simp only[ay,aV,bind,Option.bind];exact bz
end
end Go.L.Th
namespace Go.Proofs.YtnnhpnccfnghdaaGreat.L.bH
open Go.Proofs.YtnnhpnccfnghdaaGreat.L
open Go.L Go.L.Ring Go.L.dq Go.L.dR Go.L.Whl Go.L.dA Go.L.Lx Go.L.Pg
open Go.L.Led (dg du dT bs av e8)
open Go.L.Th (bt cW c9 bX dt bR bU ev bW ao most dU cQ ff eD dM In cV c6 eE bx bM eF eG bk cG dw go bq Good eb eH dQ acc Inv eh er e3 busy cZ ek dN fa)
attribute[local irreducible] G cE GE cY GT b0 df c4 di Exit.then Exit.inBlock
section
variable{A B:aq}{D:List aq}{h:eA}
def E2(A B:aq):aq:=λh=>A h\/B h
theorem aiO(s:Sat (A::D) h):Sat (E2 A B::D) h:=Sat.head (λ_ x=>.inl x) s
theorem aiP(s:Sat (B::D) h):Sat (E2 A B::D) h:=Sat.head (λ_ x=>.inr x) s
theorem SO(s:Sat (E2 A B::D) h):Sat (A::D) h\/Sat (B::D) h:=by
 obtain⟨h1,h2,d,e,aW|aA,t⟩:=s
 . exact .inl ⟨h1,h2,d,e,aW,t⟩
 . exact .inr ⟨h1,h2,d,e,aA,t⟩
def eW(l:List aq):aq:=dj (bv:=Unit) (λ_=>True) (λ_=>l)
structure cN where
 C:bt
 P:List b2
 h:Nat
 m:Nat
 cX:kQ
 dv:Ck.oF
 bG:Nat
 bo:Nat->Po.nn
 KO:Option Addr
 KP:Nat
 zE:Option Addr
 zF:Nat
 zG:Option Addr
 zH:Nat
 bp:Nat->Nat
 am:Nat
 e6:Nat
 ld:Nat
 da:Nat
 bL:Option Addr
 pc:Nat
structure dn where
 ap:List Nat
 ai:List Nat
 na:Option Addr
 fq:Nat
 cI:Option Addr
 cJ:Nat
 tt:Int
abbrev py(l:cW):List Value:=[af l.cy,af l.to,S l.tag,af l.n,.bool l.p9]
end
section
variable(e:bX)(n:c9)(a:Option Addr)(X:cN)(c:Nat)(z:dn)(l:List bX)(s:ao)
abbrev iz:List Value:=[af n.what,af n.who,S n.reason]
abbrev kq:List Value:=[af e.kind,af e.dL,bw e.id,af e.cy,af e.to,S e.name,af e.n,af e.why,.bool e.nj]
def avr:(iz n).length=3:=rfl
def zI:(kq e).length=9:=rfl
def avs:(l.flatMap kq).all Value.oneCell'=true:=by
 rw[qd];intro x ah;obtain⟨e,_,V⟩:=CM.1 ah;simp only[kq,ku,Ai,or_false]at V;rcases V with rfl|rfl|rfl|rfl|rfl|rfl|rfl|rfl|rfl<;>rfl
abbrev dP:aq:=own (.slice a l.length c) 38 9 l.length (l.flatMap kq)
abbrev fl(l:List c9):aq:=own (.slice a l.length c) 261 3 l.length (l.flatMap iz)
abbrev qE:List Value:=
 [
  af X.C.a1,af X.C.cB,af X.C.aZ,af X.C.hW,af X.C.dY,af X.C.mJ,af X.C.eI,af X.C.iN,af X.C.dG,.slice X.bL X.P.length X.pc,ptr X.m 0,af 0,af 1,af 2,ptr X.cX.c 0,ptr X.dv.c 0,ptr X.bG 0,
  .slice X.KO X.C.aZ X.KP,.map (some X.am),.map (some X.e6),.slice z.na s.notes.length z.fq,ptr X.ld 0,ptr X.da 0,.slice z.cI s.trace.length z.cJ,af s.now,af s.ticks,.bool s.shut,.slice X.zE X.C.a1 X.zF,.slice X.zG X.C.cB X.zH,ptr (X.bp (X.C.a1+X.C.cB)) 0]
abbrev cL:aq:=ab X.h 108 (qE X z s)
def nL:bU->Nat
 |.load _=>314
 |.add _ _=>314
 |.fV _=>314
 |.post _ _=>246
 |.hV _=>392
 |.fx _=>169
 |.eS _=>248
def c3(p:Nat):bU->aq
 |.load c=>tn p X.m c
 |.add c d=>SK p X.m c d
 |.fV v=>dj (bv:=Bool) (λ_=>True) (λw=>[qk p v w])
 |.post a o=>Po.fY (X.bo a) (X.C.box a) p o
 |.hV o=>ob p X.m o
 |.fx o=>gV X.cX X.C.bA p o
 |.eS o=>Ck.iZ X.dv X.C.dH p o
end
section
variable{X:cN}{ap ai:List Nat}{j p f a:Nat}{k:Th.K}{c:List Value}(aP ar U z I:Nat)(M:List Value)
def a7(X:cN)(ap ai:List Nat)(j p:Nat):Th.K->Nat->List Value->aq
 |.nil,f,c=>dj (bv:=Unit) (λ_=>(f=235\/f=289\/f=168\/f=94\/f=159)/\c=[]) (λ_=>[])
 |.polled,f,c=>dj (bv:=Nat×Nat) (fun⟨aP,ar⟩=>f=80/\c=[ptr aP 0,ptr ar 0]) (fun⟨aP,ar⟩=>[ab aP 169 [ptr p 0],ab ar 106 [ptr (X.bp j) 0]])
 |.found,f,c=>dj (bv:=Nat×Nat) (fun⟨aP,ar⟩=>f=83/\c=[ptr aP 0,ptr ar 0]) (fun⟨aP,ar⟩=>[ab aP 169 [ptr p 0],ab ar 106 [ptr (X.bp j) 0]])
 |.oZ,f,c=>dj (bv:=Nat×Nat) (fun⟨aP,ar⟩=>f=87/\c=[ptr aP 0,ptr ar 0]) (fun⟨aP,ar⟩=>[ab aP 169 [ptr p 0],ab ar 106 [ptr (X.bp j) 0]])
 |.mb,f,c=>dj (bv:=Nat×Nat×Nat) (fun⟨aP,ar,U⟩=>f=148/\c=[ptr aP 0,ptr ar 0,ptr U 0]) (fun⟨aP,ar,U⟩=>[ab aP 32 [ptr X.h 0],ab ar 248 [ptr p 0],ab U 106 [ptr (X.bp j) 0]])
 |.run a,f,c=>dj (bv:=Nat×Nat×Nat) (fun⟨aP,ar,z⟩=>f=138/\c=[ptr aP 0,ptr ar 0]/\ap[a -1]?=some z) (fun⟨aP,ar,z⟩=>[ab aP 106 [ptr (X.bp j) 0],ab ar 110 [ptr z 0]])
 |.jk a,f,c=>dj (bv:=Nat×Nat×Nat×Nat) (fun⟨aP,ar,U,z⟩=>f=195/\c=[ptr aP 0,ptr ar 0,ptr U 0]/\ap[a -1]?=some z) (fun⟨aP,ar,U,z⟩=>[ab aP 246 [ptr p 0],ab ar 106 [ptr (X.bp j) 0],ab U 110 [ptr z 0]])
 |.on a,f,c=>dj (bv:=Nat×Nat×Nat) (fun⟨aP,ar,z⟩=>f=198/\c=[ptr aP 0,ptr ar 0]/\ap[a -1]?=some z) (fun⟨aP,ar,z⟩=>[ab aP 110 [ptr z 0],ab ar 106 [ptr (X.bp j) 0]])
 |.again a,f,c=>dj (bv:=Nat×Nat×Nat) (fun⟨aP,ar,z⟩=>f=234/\c=[ptr aP 0,ptr ar 0]/\ap[a -1]?=some z) (fun⟨aP,ar,z⟩=>[ab aP 106 [ptr (X.bp j) 0],ab ar 110 [ptr z 0]])
 |.next a left,f,c=>dj (bv:=Nat×Nat×Nat×Nat) (fun⟨aP,ar,U,z⟩=>f=236/\c=[ptr aP 0,ptr ar 0,ptr U 0]/\ap[a -1]?=some z) (fun⟨aP,ar,U,z⟩=>[ab aP 106 [ptr (X.bp j) 0],ab ar 110 [ptr z 0],ab U 3 [af left]])
 |.nr a left,f,c=>dj (bv:=Nat×Nat×Nat×Nat×Nat×Nat) (fun⟨aP,ar,U,Z,d,z⟩=>f=240/\c=[ptr aP 0,ptr ar 0,ptr U 0,ptr Z 0]/\ap[a -1]?=some z) (fun⟨aP,ar,U,Z,d,z⟩=>[ab aP 246 [ptr p 0],ab ar 106 [ptr (X.bp j) 0],ab U 110 [ptr z 0],ab Z 1 [bj 236 [ptr ar 0,ptr U 0,ptr d 0]],ab d 3 [af left]])
 |.settled a,f,c=>dj (bv:=Nat×Nat×Nat×Nat) (fun⟨aP,ar,U,z⟩=>f=288/\c=[ptr aP 0,ptr ar 0,ptr U 0]/\ap[a -1]?=some z) (fun⟨aP,ar,U,z⟩=>[ab aP 106 [ptr (X.bp j) 0],ab ar 246 [ptr p 0],ab U 110 [ptr z 0]])
 |.ended a id H k,f,c=>dj (bv:=Nat×Nat×Nat×Nat×Nat×Nat×Nat×Nat×List Value×Option Addr×Nat) (fun⟨aP,ar,U,Z,aO,aU,z,I,M,ea,cA⟩=>f=295/\c=[ptr aP 0,ptr ar 0,ptr U 0,ptr Z 0,ptr aO 0,ptr aU 0]/\ap[a -1]?=some z) (fun⟨aP,ar,U,Z,aO,aU,z,I,M,ea,cA⟩=>[ab aP 356 (lS ea cA H),ab ar 110 [ptr z 0],ab U 32 [ptr X.h 0],ab Z 36 [bw id],ab aO 106 [ptr (X.bp j) 0],ab aU 1 [bj I M],kx ea cA H.cw,a7 X ap ai j 0 k I M])
 |.mc l k,f,c=>dj (bv:=Nat×Nat×Nat×Nat×Nat×Nat×Nat×Nat×List Value) (fun⟨aP,ar,U,Z,aO,x,y,I,M⟩=>f=213/\c=[ptr aP 0,ptr ar 0,ptr U 0,ptr Z 0,ptr aO 0]) (fun⟨aP,ar,U,Z,aO,x,y,I,M⟩=>[ab aP 314 [ptr p 0],ab ar 187 (py l),ab U 32 [ptr X.h 0],ab Z 4 [.bool false],ab aO 259 [bj 164 [ptr x 0,ptr y 0]],ab x 106 [ptr (X.bp j) 0],ab y 1 [bj I M],a7 X ap ai j 0 k I M])
 |.gv a l e k,f,c=>dj (bv:=Nat×Nat×Nat×Nat×Nat×Nat×Nat×Nat×Nat×Nat×Nat×List Value) (fun⟨aP,ar,U,Z,aO,x,E,w,y,z,I,M⟩=>f=213/\c=[ptr aP 0,ptr ar 0,ptr U 0,ptr Z 0,ptr aO 0]/\ap[a -1]?=some z) (fun⟨aP,ar,U,Z,aO,x,E,w,y,z,I,M⟩=>[ab aP 314 [ptr p 0],ab ar 187 (py l),ab U 32 [ptr X.h 0],ab Z 4 [.bool true],ab aO 259 [bj 344 [ptr x 0,ptr E 0,ptr w 0,ptr y 0]],ab x 106 [ptr (X.bp j) 0],ab E 110 [ptr z 0],ab w 87 (fO e),ab y 1 [bj I M],a7 X ap ai j 0 k I M])
 |.told id to k,f,c=>dj (bv:=Nat×Nat×Nat×Nat×Nat×Nat×Nat×List Value) (fun⟨aP,ar,U,Z,aO,aU,I,M⟩=>f=210/\c=[ptr aP 0,ptr ar 0,ptr U 0,ptr Z 0,ptr aO 0,ptr aU 0]) (fun⟨aP,ar,U,Z,aO,aU,I,M⟩=>[ab aP 246 [ptr p 0],ab ar 32 [ptr X.h 0],ab U 36 [bw id],ab Z 106 [ptr (X.bp j) 0],ab aO 3 [af to],ab aU 1 [bj I M],a7 X ap ai j 0 k I M])
 |.lh a k,f,c=>dj (bv:=Nat×Nat×Nat×Nat×Nat×List Value) (fun⟨aP,ar,U,Z,I,M⟩=>f=356/\c=[ptr aP 0,ptr ar 0,ptr U 0,ptr Z 0]) (fun⟨aP,ar,U,Z,I,M⟩=>[ab aP 106 [ptr (X.bp j) 0],ab ar 246 [ptr p 0],ab U 3 [af a],ab Z 1 [bj I M],a7 X ap ai j 0 k I M])
 |.me a kind slot k,f,c=>dj (bv:=Nat×Nat×Nat×Nat×Nat×Nat×Nat×Nat×List Value) (fun⟨aP,ar,U,Z,aO,aU,z,I,M⟩=>f=387/\c=[ptr aP 0,ptr ar 0,ptr U 0,ptr Z 0,ptr aO 0,ptr aU 0]/\ap[a -1]?=some z) (fun⟨aP,ar,U,Z,aO,aU,z,I,M⟩=>[ab aP 314 [ptr p 0],ab ar 32 [ptr X.h 0],ab U 110 [ptr z 0],ab Z 9 [S kind],ab aO 3 [af slot],ab aU 1 [bj I M],a7 X ap ai j 0 k I M])
 |.asked id a e k,f,c=>dj (bv:=Nat×Nat×Nat×Nat×Nat×Nat×Nat×Nat×List Value) (fun⟨aP,ar,U,Z,aO,aU,z,I,M⟩=>f=389/\c=[ptr aP 0,ptr ar 0,ptr U 0,ptr Z 0,ptr aO 0,ptr aU 0]/\ap[a -1]?=some z) (fun⟨aP,ar,U,Z,aO,aU,z,I,M⟩=>[ab aP 248 [ptr p 0],ab ar 32 [ptr X.h 0],ab U 36 [bw id],ab Z 110 [ptr z 0],ab aO 87 (fO e),ab aU 1 [bj I M],a7 X ap ai j 0 k I M])
 |.watched a who k,f,c=>dj (bv:=Nat×Nat×Nat×Nat×Nat×Nat×Nat×List Value) (fun⟨aP,ar,U,Z,aO,z,I,M⟩=>f=392/\c=[ptr aP 0,ptr ar 0,ptr U 0,ptr Z 0,ptr aO 0]/\ap[a -1]?=some z) (fun⟨aP,ar,U,Z,aO,z,I,M⟩=>[ab aP 32 [ptr X.h 0],ab ar 3 [af who],ab U 106 [ptr (X.bp j) 0],ab Z 1 [bj I M],ab aO 110 [ptr z 0],a7 X ap ai j 0 k I M])
 |.gone a who k,f,c=>dj (bv:=Nat×Nat×Nat×Nat×Nat×Nat×Nat×List Value) (fun⟨aP,ar,U,Z,aO,z,I,M⟩=>f=394/\c=[ptr aP 0,ptr ar 0,ptr U 0,ptr Z 0,ptr aO 0]/\ap[a -1]?=some z) (fun⟨aP,ar,U,Z,aO,z,I,M⟩=>[ab aP 246 [ptr p 0],ab ar 1 [bj I M],ab U 106 [ptr (X.bp j) 0],ab Z 110 [ptr z 0],ab aO 3 [af who],a7 X ap ai j 0 k I M])
 |.mK x y k,f,c=>dj (bv:=Nat×Nat×Nat×Nat×Nat×Nat×List Value) (fun⟨aP,ar,U,Z,aO,I,M⟩=>f=430/\c=[ptr aP 0,ptr ar 0,ptr U 0,ptr Z 0,ptr aO 0]) (fun⟨aP,ar,U,Z,aO,I,M⟩=>[ab aP 392 [ptr p 0],ab ar 1 [bj I M],ab U 106 [ptr (X.bp j) 0],ab Z 3 [af y],ab aO 3 [af x],a7 X ap ai j 0 k I M])
 |.alone a k,f,c=>E2 (dj (bv:=Nat×Nat×Nat×Nat×Nat×List Value) (fun⟨aP,ar,U,z,I,M⟩=>f=297/\c=[ptr aP 0,ptr ar 0,ptr U 0]/\ap[a -1]?=some z) (fun⟨aP,ar,U,z,I,M⟩=>[ab aP 106 [ptr (X.bp j) 0],ab ar 110 [ptr z 0],ab U 1 [bj I M],a7 X ap ai j 0 k I M])) (dj (bv:=Nat×Nat×Nat×Nat×Nat×List Value) (fun⟨aP,ar,U,z,I,M⟩=>f=244/\c=[ptr aP 0,ptr ar 0,ptr U 0]/\ap[a -1]?=some z) (fun⟨aP,ar,U,z,I,M⟩=>[ab aP 106 [ptr (X.bp j) 0],ab ar 110 [ptr z 0],ab U 1 [bj I M],a7 X ap ai j 0 k I M]))
 |.mf a m k,f,c=>dj (bv:=Nat×Nat×Nat×Nat×Nat×Nat×Nat×Nat×List Value) (fun⟨aP,ar,U,Z,aO,aU,z,I,M⟩=>f=302/\c=[ptr aP 0,ptr ar 0,ptr U 0,ptr Z 0,ptr aO 0,ptr aU 0]/\ap[a -1]?=some z) (fun⟨aP,ar,U,Z,aO,aU,z,I,M⟩=>[ab aP 110 [ptr z 0],ab ar 261 (iz m),ab U 248 [ptr p 0],ab Z 3 [af 2],ab aO 106 [ptr (X.bp j) 0],ab aU 1 [bj I M],a7 X ap ai j 0 k I M])
 |.closed a k,f,c=>dj (bv:=Nat×Nat×Nat×Nat×Nat×List Value) (fun⟨aP,ar,U,z,I,M⟩=>f=359/\c=[ptr aP 0,ptr ar 0,ptr U 0]/\ap[a -1]?=some z) (fun⟨aP,ar,U,z,I,M⟩=>[ab aP 106 [ptr (X.bp j) 0],ab ar 110 [ptr z 0],ab U 1 [bj I M],a7 X ap ai j 0 k I M])
 |.kW a k,f,c=>dj (bv:=Nat×Nat×Nat×Nat×Nat×Nat×List Value) (fun⟨aP,ar,U,Z,z,I,M⟩=>f=401/\c=[ptr aP 0,ptr ar 0,ptr U 0,ptr Z 0]/\ap[a -1]?=some z) (fun⟨aP,ar,U,Z,z,I,M⟩=>[ab aP 246 [ptr p 0],ab ar 1 [bj I M],ab U 106 [ptr (X.bp j) 0],ab Z 110 [ptr z 0],a7 X ap ai j 0 k I M])
 |.shut a k,f,c=>dj (bv:=Nat×Nat×Nat×Nat×Nat×List Value) (fun⟨aP,ar,U,z,I,M⟩=>f=361/\c=[ptr aP 0,ptr ar 0,ptr U 0]/\ap[a -1]?=some z) (fun⟨aP,ar,U,z,I,M⟩=>[ab aP 106 [ptr (X.bp j) 0],ab ar 110 [ptr z 0],ab U 1 [bj I M],a7 X ap ai j 0 k I M])
 |.nS a k,f,c=>dj (bv:=Nat×Nat×Nat×Nat×Nat×List Value) (fun⟨aP,ar,U,z,I,M⟩=>f=363/\c=[ptr aP 0,ptr ar 0,ptr U 0]/\ap[a -1]?=some z) (fun⟨aP,ar,U,z,I,M⟩=>[ab aP 106 [ptr (X.bp j) 0],ab ar 110 [ptr z 0],ab U 1 [bj I M],a7 X ap ai j 0 k I M])
 |.who a k,f,c=>dj (bv:=Nat×Nat×Nat×Nat×Nat×Nat×Nat×List Value) (fun⟨aP,ar,U,Z,aO,z,I,M⟩=>f=402/\c=[ptr aP 0,ptr ar 0,ptr U 0,ptr Z 0,ptr aO 0]/\ap[a -1]?=some z) (fun⟨aP,ar,U,Z,aO,z,I,M⟩=>[ab aP 314 [ptr p 0],ab ar 32 [ptr X.h 0],ab U 106 [ptr (X.bp j) 0],ab Z 110 [ptr z 0],ab aO 1 [bj I M],a7 X ap ai j 0 k I M])
 |.parent a k,f,c=>dj (bv:=Nat×Nat×Nat×Nat×Nat×List Value) (fun⟨aP,ar,U,z,I,M⟩=>f=404/\c=[ptr aP 0,ptr ar 0,ptr U 0]/\ap[a -1]?=some z) (fun⟨aP,ar,U,z,I,M⟩=>[ab aP 110 [ptr z 0],ab ar 1 [bj I M],ab U 106 [ptr (X.bp j) 0],a7 X ap ai j 0 k I M])
 |.ov a,f,c=>dj (bv:=Nat×Nat×Nat) (fun⟨aP,ar,U⟩=>f=166/\c=[ptr aP 0,ptr ar 0,ptr U 0]) (fun⟨aP,ar,U⟩=>[ab aP 106 [ptr (X.bp j) 0],ab ar 246 [ptr p 0],ab U 3 [af a]])
 |.each (.c5 a id H) i n (.ended cD g o k),f,c=>dj (bv:=Nat×Nat×Nat×Nat×Nat×Nat×Nat×Nat×Nat×Nat×Nat×Nat×Nat×Nat×List Value×Nat×Option Addr×Nat) (fun⟨O,dS,d2,cn,d3,aP,ar,U,Z,aO,aU,aS,z,I,M,b,ea,cA⟩=>f=208/\c=[ptr dS 0,ptr O 0]/\ap[a -1]?=some z/\ai[(id -1).toNat]?=some b/\(cD=a/\g=id/\o=H)) (fun⟨O,dS,d2,cn,d3,aP,ar,U,Z,aO,aU,aS,z,I,M,b,ea,cA⟩=>[ab O 3 [af i],ab dS 188 [bj 207 [ptr d2 0,ptr d3 0,ptr cn 0,ptr dS 0]],ab d2 3 [af n],ab cn 255 [bj 293 [ptr aP 0,ptr ar 0,ptr U 0,ptr Z 0]],ab d3 1 [bj 295 [ptr Z 0,ptr ar 0,ptr aO 0,ptr aU 0,ptr aP 0,ptr aS 0]],ab aP 106 [ptr (X.bp j) 0],ab ar 110 [ptr z 0],ab U 311 [ptr b 0],ab Z 356 (lS ea cA H),ab aO 32 [ptr X.h 0],ab aU 36 [bw id],ab aS 1 [bj I M],kx ea cA H.cw,a7 X ap ai j 0 k I M])
 |.each (.l9 a) i n (.parent cD k),f,c=>dj (bv:=Nat×Nat×Nat×Nat×Nat×Nat×Nat×Nat×Nat×Nat×List Value) (fun⟨O,dS,d2,cn,d3,aP,ar,U,z,I,M⟩=>f=208/\c=[ptr dS 0,ptr O 0]/\ap[a -1]?=some z/\cD=a) (fun⟨O,dS,d2,cn,d3,aP,ar,U,z,I,M⟩=>[ab O 3 [af i],ab dS 188 [bj 207 [ptr d2 0,ptr d3 0,ptr cn 0,ptr dS 0]],ab d2 3 [af n],ab cn 255 [bj 403 [ptr aP 0,ptr ar 0]],ab d3 1 [bj 404 [ptr aP 0,ptr U 0,ptr ar 0]],ab aP 110 [ptr z 0],ab ar 106 [ptr (X.bp j) 0],ab U 1 [bj I M],a7 X ap ai j 0 k I M])
 |.each (.cancel ids) i n k,f,c=>dj (bv:=Nat×Nat×Nat×Nat×Nat×Nat×Nat×Nat×Nat×List Value×Option Addr×Nat) (fun⟨O,dS,d2,cn,d3,aP,ar,U,I,M,ea,cA⟩=>f=208/\c=[ptr dS 0,ptr O 0]) (fun⟨O,dS,d2,cn,d3,aP,ar,U,I,M,ea,cA⟩=>[ab O 3 [af i],ab dS 188 [bj 207 [ptr d2 0,ptr d3 0,ptr cn 0,ptr dS 0]],ab d2 3 [af n],ab cn 255 [bj 346 [ptr aP 0,ptr ar 0,ptr U 0]],ab d3 1 [bj I M],ab aP 106 [ptr (X.bp j) 0],ab ar 32 [ptr X.h 0],ab U 49 [ul ea cA ids],fE ea cA ids,a7 X ap ai j 0 k I M])
 |.each (.leave due) i n k,f,c=>dj (bv:=Nat×Nat×Nat×Nat×Nat×Nat×Nat×Nat×List Value×Option Addr×Nat) (fun⟨O,dS,d2,cn,d3,aP,ar,I,M,ea,cA⟩=>f=208/\c=[ptr dS 0,ptr O 0]) (fun⟨O,dS,d2,cn,d3,aP,ar,I,M,ea,cA⟩=>[ab O 3 [af i],ab dS 188 [bj 207 [ptr d2 0,ptr d3 0,ptr cn 0,ptr dS 0]],ab d2 3 [af n],ab cn 255 [bj 157 [ptr aP 0,ptr ar 0]],ab d3 1 [bj I M],ab aP 106 [ptr (X.bp j) 0],ab ar 49 [ul ea cA due],fE ea cA due,a7 X ap ai j 0 k I M])
 |.each (.push l what) i n k,f,c=>dj (bv:=Nat×Nat×Nat×Nat×Nat×Nat×Nat×Nat×Nat×List Value×Option Addr×Nat) (fun⟨O,dS,d2,cn,d3,aP,ar,U,I,M,ea,cA⟩=>f=208/\c=[ptr dS 0,ptr O 0]) (fun⟨O,dS,d2,cn,d3,aP,ar,U,I,M,ea,cA⟩=>[ab O 3 [af i],ab dS 188 [bj 207 [ptr d2 0,ptr d3 0,ptr cn 0,ptr dS 0]],ab d2 3 [af n],ab cn 255 [bj 304 [ptr aP 0,ptr ar 0,ptr U 0]],ab d3 1 [bj I M],ab aP 106 [ptr (X.bp j) 0],ab ar 39 [hN ea cA l],dz ea cA l,ab U 3 [af what],a7 X ap ai j 0 k I M])
 |.each _ _ _ _,_,_=>dj (bv:=Unit) (λ_=>False) (λ_=>[])
def avt(bh:ap[a -1]?=some z):∀D h,Sat ([ab aP 106 [ptr (X.bp j) 0],ab ar 110 [ptr z 0],ab U 1 [bj I M],a7 X ap ai j 0 k I M]++D) h->Sat (a7 X ap ai j p tP 297 l3::D) h:=λD h s=>by
 rw[a7];exact(aiO acG)
def avu(bh:ap[a -1]?=some z):∀D h,Sat ([ab aP 106 [ptr (X.bp j) 0],ab ar 110 [ptr z 0],ab U 1 [bj I M],a7 X ap ai j 0 k I M]++D) h->Sat (a7 X ap ai j p tP 244 l3::D) h:=λD h s=>by
 rw[a7];exact(aiP acG)
def SP{bv:Type}{fM:bv->Prop}{l:bv->List aq}(e:a7 X ap ai j p k f c=dj fM l)(x:bv)(ah:fM x):∀D h,Sat (l x++D) h->Sat (a7 X ap ai j p k f c::D) h:=λD h s=>by
 rw[e];exact cF x ah (λh s=>s) h s
def vt{X:cN}{ap ai H N:List Nat}{j:Nat}(aW:∀i q:Nat,ap[i]?=some q->H[i]?=some q)(av:∀i q:Nat,ai[i]?=some q->N[i]?=some q):∀(k:Th.K) (p f:Nat) (c:List Value) (D:List aq) (h:eA),Sat (a7 X ap ai j p k f c::D) h->Sat (a7 X H N j p k f c::D) h
 |
  .nil,p,f,c,D,h,s|.polled,p,f,c,D,h,s|.found,p,f,c,D,h,s|.oZ,p,f,c,D,h,s|.mb,p,f,c,D,h,s|.run _,p,f,c,D,h,s|.jk _,p,f,c,D,h,s|.on _,p,f,c,D,h,s|.again _,p,f,c,D,h,s|.next _ _,p,f,c,D,h,s|.nr _ _,p,f,c,D,h,s|.settled _,p,f,c,D,h,s|.ov _,p,f,c,D,h,s=>by
  rw[a7]at s⊢;obtain⟨x,ah,G⟩:=hd s;exact cF x ZV kG h G
 |
  .ended _ _ _ k,p,f,c,D,h,s|.mc _ k,p,f,c,D,h,s|.gv _ _ _ k,p,f,c,D,h,s|.told _ _ k,p,f,c,D,h,s|.lh _ k,p,f,c,D,h,s|.me _ _ _ k,p,f,c,D,h,s|.asked _ _ _ k,p,f,c,D,h,s|.watched _ _ k,p,f,c,D,h,s|.gone _ _ k,p,f,c,D,h,s|.mK _ _ k,p,f,c,D,h,s|.mf _ _ k,p,f,c,D,h,s|.closed _ k,p,f,c,D,h,s|.kW _ k,p,f,c,D,h,s|.shut _ k,p,f,c,D,h,s|.nS _ k,p,f,c,D,h,s|.who _ k,p,f,c,D,h,s|.parent _ k,p,f,c,D,h,s|.each (.cancel _) _ _ k,p,f,c,D,h,s|.each (.leave _) _ _ k,p,f,c,D,h,s|.each (.push _ _) _ _ k,p,f,c,D,h,s=>by
  rw[a7]at s⊢;obtain⟨x,ah,G⟩:=hd s;refine cF x ZV (λh s=>?_) h G;clear ah G
  repeat(obtain⟨_,x⟩:_×_:=x)
  simp only[cp,cm]at s⊢
  repeat(first|exact vt aW av k 0 _ _ _ _ s|refine Sat.tail (λh s=>?_) s)
 |
  .alone _ k,p,f,c,D,h,s=>by
  rw[a7]at s⊢;rcases SO s with s|s
  . refine aiO ?_
    obtain⟨x,ah,G⟩:=hd s;refine cF x ZW (λh s=>?_) h G;clear ah G
    repeat(obtain⟨_,x⟩:_×_:=x)
    simp only[cp,cm]at s⊢
    repeat(first|exact vt aW av k 0 _ _ _ _ s|refine Sat.tail (λh s=>?_) s)
  . refine aiP ?_
    obtain⟨x,ah,G⟩:=hd s;refine cF x ZW (λh s=>?_) h G;clear ah G
    repeat(obtain⟨_,x⟩:_×_:=x)
    simp only[cp,cm]at s⊢
    repeat(first|exact vt aW av k 0 _ _ _ _ s|refine Sat.tail (λh s=>?_) s)
 |
  .each (.c5 _ _ _) _ _ k,p,f,c,D,h,s=>by
  cases k with
  |
   ended _ _ _ k=>
   rw[a7]at s⊢;obtain⟨x,ah,G⟩:=hd s;refine cF x (by first|exact⟨ah.1,ah.2.1,aW _ _ ah.2.2.1,av _ _ ah.2.2.2.1,ah.2.2.2.2⟩) (λh s=>?_) h G;clear ah G
   repeat(obtain⟨_,x⟩:_×_:=x)
   simp only[cp,cm]at s⊢
   repeat(first|exact vt aW av k 0 _ _ _ _ s|refine Sat.tail (λh s=>?_) s)
  |_=>exfalso;rw[a7]at s;obtain⟨_,hZ,_⟩:=hd s;exact hZ.elim;all_goals(intros;simp_all)
 |
  .each (.l9 _) _ _ k,p,f,c,D,h,s=>by
  cases k with
  |
   parent _ k=>
   rw[a7]at s⊢;obtain⟨x,ah,G⟩:=hd s;refine cF x (by first|exact⟨ah.1,ah.2.1,aW _ _ ah.2.2.1,ah.2.2.2⟩) (λh s=>?_) h G;clear ah G
   repeat(obtain⟨_,x⟩:_×_:=x)
   simp only[cp,cm]at s⊢
   repeat(first|exact vt aW av k 0 _ _ _ _ s|refine Sat.tail (λh s=>?_) s)
  |_=>exfalso;rw[a7]at s;obtain⟨_,hZ,_⟩:=hd s;exact hZ.elim;all_goals(intros;simp_all)
def avv{S f:Nat}{c:List Value}{k:Th.K}(h:Th.c6 k):a7 X ap ai j p k f c=a7 X ap ai j S k f c:=by
 cases k with
 |each d i n k=>cases d<;>first|rfl|(cases k<;>rfl)
 |_=>first|rfl|exact absurd h id
end
section
variable(X:cN)(y:Nat)(ap ai:List Nat)(x:bR)(j:Nat)
abbrev jT:Int:=if j<X.C.a1 then(j:Int)else-1
def hF(t:bW):aq:=
 match t.on with
 |none=>ab (X.bp j) 128 [ptr X.h 0,af (jT X j),.nilIface,.nilFunc,bw t.draw,.bool t.ij]
 |some (o,k)=>dj (bv:=Nat×Nat×List Value) (λ_=>True) (fun⟨p,f,c⟩=>[ab (X.bp j) 128 [ptr X.h 0,af (jT X j),.iface (nL o) (ptr p 0),bj f c,bw t.draw,.bool t.ij],c3 X p o,a7 X ap ai j p k f c])
abbrev de(l:List bW):List aq:=l.mapIdx λj t=>hF X ap ai j t
abbrev p4:=cC×Option Addr×Nat×List Int
abbrev h9(es:List p4):List (cC×Value):=es.map λp=>(p.1,ul p.2.1 p.2.2.1 p.2.2.2)
abbrev iy(es:List p4):List aq:=es.map λp=>fE p.2.1 p.2.2.1 p.2.2.2
abbrev pz(es:List p4):List (cC×List Int):=es.map λp=>(p.1,p.2.2.2)
structure hR where
 b8:b2
 ka:Option Addr
 kc:Nat
 hP:Option Addr
 hQ:Nat
 gK:Nat
 jx:Nat
 gQ:Nat
 jy:Nat
 es:List p4
abbrev eg(e:hR):List Value:=
 af x.id::af x.parent::S e.b8.name::af e.b8.limit::af e.b8.within::.slice e.b8.ca e.b8.cases.length e.b8.km::.slice e.b8.sa e.b8.states.length e.b8.sc::S x.state::
  [af (x.slots.getD 0 0),af (x.slots.getD 1 0),af (x.slots.getD 2 0),af (x.slots.getD 3 0),hN e.ka e.kc x.kids,af x.mode,ptr e.gK 0,ptr e.jx 0,.map (some e.gQ),hN e.hP e.hQ x.cM,.map (some e.jy),ptr (X.bo x.id).bo 0]
abbrev B8(e:hR):List aq:=
 [
  ab y 118 (eg X x e),dz e.ka e.kc x.kids,dz e.hP e.hQ x.cM,gi e.gK X.C.dY x.aside x.front,h8 e.jx (min (max e.b8.limit 0) 100) (min (max e.b8.within 1) 4095) x.given,
  b3 e.gQ .i64 (x.watched.map λw=>(w,.bool true)),jd e.jy (h9 e.es),ax (iy e.es),gO e.b8]
structure fT(x:bR)(e:hR):Prop where
 b8:dr e.b8=dr x.kind
 lc:q9 e.b8
 es:pz e.es=x.timers
def vu:aq:=dj (fT x) (B8 X y x)
abbrev e5(l:List bR):List aq:=l.mapIdx λi x=>vu X (ap.getD i 0) x
abbrev cf:List (Int×Value):=ap.mapIdx λi q=>(((i+1:Nat):Int),ptr q 0)
abbrev Eg(q:Nat)(l:cW):aq:=ab q 187 (py l)
abbrev gj(l:List cW):List aq:=l.mapIdx λi x=>Eg (ai.getD i 0) x
def xy(a:Nat):aq:=eW [Po.e9 (X.bo a) (X.C.box a),gb ((X.bo a).r false) X.m ((X.C.box a).eR false) ((X.C.box a).fg false),gb ((X.bo a).r true) X.m ((X.C.box a).eR true) ((X.C.box a).fg true)]
abbrev dZ:List aq:=(List.range X.C.aZ).map λi=>xy X (i+1)
def fA:aq:=eW [fS X.cX X.C.bA,cd X.cX X.C.bA,iR X.cX X.C.bA,eM X.cX X.C.bA,ax (lG X.cX X.C.bA)]
def fw(w:fX):aq:=eW [Ck.gm X.dv X.C.dH,gb X.dv.r X.m (X.C.dH.b+1) X.C.dH.n,fJ X.dv.wp w]
def gd:aq:=λh=>∃a,a.map dr=X.P.map dr/\hT h X.bL X.pc a
abbrev fu:aq:=own (.slice X.KO X.C.aZ X.KP) 116 1 X.C.aZ ((List.range X.C.aZ).map λi=>ptr (X.bo (i+1)).bo 0)
abbrev gk:aq:=own (.slice X.zE X.C.a1 X.zF) 106 1 X.C.a1 ((List.range X.C.a1).map λi=>ptr (X.bp i) 0)
abbrev gX:aq:=own (.slice X.zG X.C.cB X.zH) 106 1 X.C.cB ((List.range X.C.cB).map λi=>ptr (X.bp (X.C.a1+i)) 0)
abbrev bl(z:dn)(s:ao):List aq:=
 [
  cL X z s,dP z.cI z.cJ s.trace,fl z.na z.fq s.notes,b3 X.am .i64 (cf z.ap),ax (e5 X z.ap s.aJ),b3 X.e6 .u64 (cf z.ai),ax (gj z.ai s.lets),Lg.ds X.ld s.bc,ez X.da X.C.dG s.dead,
  ch X.m s.L z.tt,fA X,fw X s.bs,eC X.bG X.m X.C.bG X.C.aZ,ax (dZ X),fu X,gk X,gX X,gd X,ax (de X z.ap z.ai s.az)]
structure bE(X:cN)(z:dn)(s:ao):Prop where
 gL:X.cX.m=X.m
 gD:X.dv.m=X.m
 gE:∀a,(X.bo a).m=X.m
 ap:z.ap.length=s.aJ.length
 ai:z.ai.length=s.lets.length
end
end Go.Proofs.YtnnhpnccfnghdaaGreat.L.bH
namespace Go.L
open Go.RowKit
class Bd(P:Program)(t:TypeId):Prop where
 out:∃c,P.underlying t=some (.interface c)
section
variable{P:Program}{F w:World}{n:Nat}{I:eT}{M:List aq}{bD:TypeId}
section
variable{t dk t1:TypeId}{x:Operand}{v:Value}
def Yw{c}(h:P.underlying t=some (.interface c))(d:Nat)(t1:TypeId)(v:Value)(w:World):(Op.equalIn (d+1) t (.iface t1 v) .nilIface).run P w=.ok false w:=by
 simp[Op.equalIn,gH h]
def Yx{c}(h:P.underlying t=some (.interface c))(d:Nat)(w:World):(Op.equalIn (d+1) t .nilIface .nilIface).run P w=.ok true w:=by
 simp[Op.equalIn,gH h]
def Yy[i:Bd P t](ah:ck I x=some (.iface t1 v)):b0 P F n (.binOp .eql t x (.const .nilIface) dk) bD I M gR:=λa w d pos J g aj _=>by
 obtain⟨c,h1⟩:=i.out;simp only[execOp,aj.eval ah,show a.eval (.const .nilIface)=.nilIface from rfl];simp only[binOp];simp[eqGuard,Op.equal,Op.maxDepth,Yw h1 9999]
def Yz[i:Bd P t](ah:ck I x=some (.iface t1 v)):b0 P F n (.binOp .neq t x (.const .nilIface) dk) bD I M h6:=λa w d pos J g aj _=>by
 obtain⟨c,h1⟩:=i.out;simp only[execOp,aj.eval ah,show a.eval (.const .nilIface)=.nilIface from rfl];simp only[binOp];simp[eqGuard,Op.equal,Op.maxDepth,Yw h1 9999]
def aqD[i:Bd P t](ah:ck I x=some .nilIface):b0 P F n (.binOp .eql t x (.const .nilIface) dk) bD I M h6:=λa w d pos J g aj _=>by
 obtain⟨c,h1⟩:=i.out;simp only[execOp,aj.eval ah,show a.eval (.const .nilIface)=.nilIface from rfl];simp only[binOp];simp[eqGuard,Op.equal,Op.maxDepth,Yx h1 9999]
def NZ[i:Bd P t](ah:ck I x=some .nilIface):b0 P F n (.binOp .neq t x (.const .nilIface) dk) bD I M gR:=λa w d pos J g aj _=>by
 obtain⟨c,h1⟩:=i.out;simp only[execOp,aj.eval ah,show a.eval (.const .nilIface)=.nilIface from rfl];simp only[binOp];simp[eqGuard,Op.equal,Op.maxDepth,Yx h1 9999]
end
end
end Go.L
namespace Go.Proofs.YtnnhpnccfnghdaaGreat.L.bH
open Go.Proofs.YtnnhpnccfnghdaaGreat.L
open Go.L Go.L.Ring Go.L.dq Go.L.dR Go.L.Whl Go.L.dA Go.L.Lx Go.L.Pg
open Go.L.Led (dg du dT bs av e8)
open Go.L.Th (bt cW c9 bX dt bR bU ev bW ao most dU cQ ff eD dM In cV c6 eE bx bM eF eG bk cG dw go bq Good eb eH dQ acc Inv eh er e3 busy cZ ek dN fa)
attribute[local irreducible] G cE GE cY GT b0 df c4 di Exit.then Exit.inBlock
section
variable(X:cN){a:Option Addr}(z:dn){c m:Nat}(s:ao)(e:bX)
def mapIdx_set{α z:Type}(g:Nat->α->z)(l:List α)(j:Nat)(x:α):(l.set j x).mapIdx g=(l.mapIdx g).set j (g j x):=by
 apply uW;intro i;by_cases h:j=i
 . subst h;by_cases h2:j<l.length<;>simp[h2]
 . simp[h]
def avw{l:List bX}{e:bX}(h:l.length=m):own (.slice a (m+1) c) 38 9 (m+1) (l.flatMap kq++kq e)=dP a c (l++[e]):=by
 subst h;simp only[dP,re,eL,pG,UT,jr];rfl
def arC{l:List c9}{e:c9}(h:l.length=m):own (.slice a (m+1) c) 261 3 (m+1) (l.flatMap iz++iz e)=fl a c (l++[e]):=by
 subst h;simp only[fl,re,eL,pG,UT,jr];rfl
def avx(a:Option Addr)(c:Nat):cL X {z with cI:=a,cJ:=c} {s with trace:=s.trace++[e]}=ab X.h 108 ((qE X z s).set (0+23) (.slice a (s.trace.length+1) c)):=by
 exact adn
def arD(e:c9)(a:Option Addr)(c:Nat):cL X {z with na:=a,fq:=c} {s with notes:=s.notes++[e]}=ab X.h 108 ((qE X z s).set (0+20) (.slice a (s.notes.length+1) c)):=by
 exact adn
instance:Bd aa 126:=⟨_,Tryz.underlying126⟩
abbrev ki(j:Nat)(x y:Value)(t:bW):aq:=ab (X.bp j) 128 [ptr X.h 0,af (jT X j),x,y,bw t.draw,.bool t.ij]
def l6(av:s.trace.length<most):ad aa 91 [ptr X.h 0,.agg (kq e).toArray] [cL X z s,dP z.cI z.cJ s.trace] (λu H=>u=.tuple #[]/\∃a c,H=[cL X Eh QX,dP a c (s.trace++[e])]):=by
 refine aw Tryz.func91 λF D=>?_;have ip:s.trace.length<1099511627776:=av;refine bb ?_;refine wn λZ=>?_;refine bb ?_;refine cu [6,7] [105,1,202,2,201] [cL X z s,ab Z 38 (kq e)] ?_;refine bi ?_;refine wn λc2=>?_;refine aG ?_;refine gQ λb p=>?_;refine bi ?_;exact aX ⟨rfl,b,p,rfl⟩ (by rw[<-avw rfl,avx];exact(au))
end
section
variable{P:Program}{f:FuncId}{args:List Value}{X:cN}{ap ai:List Nat}{l:List bW}{j p:Nat}{t:bW}
def SQ(h:l[j]?=some t)(R:t.on=none):(de X ap ai l)[j]?=some (ki X j .nilIface .nilFunc t):=by
 simp[sO,h,hF,R]
theorem avy{f:Nat}{c:List Value}{t:bW}{o:bU}{k:Th.K}{D M:List aq}(h:l[j]?=some t)
 (e:∀h,Sat M h->Sat (ki X j w0 (bj f c) t::c3 X p o::a7 X ap ai j p k f c::ax ((de X ap ai l).set j ft)::D) h):
 ∀h,Sat M h->Sat (ax (de X ap ai (l.set j {t with on:=some (o,k)}))::D) h:=λq s=>by
 rw[de,mapIdx_set];refine uU (by rw[KQ];exact(dc.1 h).1) q ?_;exact cF (p,f,c) trivial (λg t=>t) q (e q s)
def pv{L M:List aq}{A:aq}{post:Value->List aq->Prop}(e:∀D h,Sat (L++D) h->Sat (A::D) h)(h:ad P f args (A::M) post):ad P f args (L++M) post:=λF D w s=>
 h F D w (s.imp λg t=>by rw[jE]at t;exact e _ g t)
def iA{f:Nat}{k:Th.K}{c:List Value}{bv:Type}{fM:bv->Prop}{l:bv->List aq}{P:Program}{t:FuncId}{args:List Value}{M L:List aq}{post:Value->List aq->Prop}(e:a7 X ap ai j p k f c=dj fM l)(x:bv)(ah:fM x)(h:ad P t args (a7 X ap ai j p k f c::M) post)(K:l x++M=L:=by simp only[cp,cm];rfl):ad P t args L post:=by
 subst K;exact pv (SP e x ah) h
theorem qL{a:Nat}{Q:Nat->aq}(aW:1<=a/\a<=X.C.aZ)(h:ad P f args [Po.e9 (X.bo a) (X.C.box a)] (λu H=>∃p,u=ptr p 0/\H=[Q p,Po.e9 (X.bo a) (X.C.box a)])):
 ad P f args qD (λu H=>∃p,u=ptr p 0/\H=[Q p,ax (dZ X)]):=λF D w s=>by
 have e:(dZ X)[a -1]?=some (xy X a):=by
  obtain⟨h1,h2⟩:=aW;simp only[dZ,fs,u4 (show a -1<X.C.aZ by omega),nJ,show a -1+1=a by omega]
 have s1:dm F (xy X a::ax ((dZ X).set (a -1) ft)::D) w:=s.imp λg t=>sj e g t;have bP:dm F ([Po.e9 (X.bo a) (X.C.box a)]++(gb ((X.bo a).r false) X.m ((X.C.box a).eR false) ((X.C.box a).fg false)::gb ((X.bo a).r true) X.m ((X.C.box a).eR true) ((X.C.box a).fg true)::ax ((dZ X).set (a -1) ft)::D)) w:=
  s1.imp λg t=>by obtain⟨_,_,dk⟩:=hd t;exact dk
 refine(h F _ w bP).mono ?_;rintro _ _ ⟨v,H,rfl,⟨p,rfl,rfl⟩,bZ⟩;refine⟨_,_,rfl,AJ,bZ.imp λg t=>?_⟩;have av:a -1<(dZ X).length:=by obtain⟨h1,h2⟩:=aW;simp;omega
 refine Sat.tail (λg t=>?_) t;have Y:=uU (A:=xy X a) av g (cF () trivial (λg t=>t) g t);rwa[show(dZ X).set (a -1) (xy X a)=dZ X from by obtain⟨h1,h2⟩:=dc.1 e;rw[<-h2];exact yL h1]at Y
end
section
variable(X:cN){a:Nat}(aW:1<=a/\a<=X.C.aZ)
include aW
theorem avz:ad aa 194 w7 qD (λu H=>∃p,u=ptr p 0/\H=[c3 X p (.post a Th.Ch),ax (dZ X)]):=qL aW (Po.atS _ _)
theorem avA:ad aa 239 w7 qD (λu H=>∃p,u=ptr p 0/\H=[c3 X p (.post a Th.Cj),ax (dZ X)]):=qL aW (Po.atQ _ _)
theorem avB:ad aa 358 w7 qD (λu H=>∃p,u=ptr p 0/\H=[c3 X p (.post a Th.Cl),ax (dZ X)]):=qL aW (Po.atT _ _)
theorem avC:ad aa 400 w7 qD (λu H=>∃p,u=ptr p 0/\H=[c3 X p EE,ax (dZ X)]):=qL aW (Po.atV _ _)
theorem aiQ:ad aa 393 w7 qD (λu H=>∃p,u=ptr p 0/\H=[c3 X p (.post a Th.xE),ax (dZ X)]):=qL aW (Po.atY _ _)
theorem agY(v:Int):ad aa 209 [ptr (X.bo a).bo 0,bw v] qD (λu H=>∃p,u=ptr p 0/\H=[c3 X p (.post a (Th.K7 v)),ax (dZ X)]):=qL aW (Po.atI _ _ v)
theorem aiR(v:Int):ad aa 355 [ptr (X.bo a).bo 0,bw v] qD (λu H=>∃p,u=ptr p 0/\H=[c3 X p (.post a (Th.xH v)),ax (dZ X)]):=qL aW (Po.atJ _ _ v)
theorem aiS(aA:(X.C.box a).b<=65536)(v:Int):ad aa 165 [ptr (X.bo a).bo 0,bw v] qD (λu H=>∃p,u=ptr p 0/\H=[c3 X p (.post a (Th.Fa v)),ax (dZ X)]):=qL aW (Po.atL _ _ aA v)
theorem avD:ad aa 137 w7 qD (λu H=>∃p,u=ptr p 0/\H=[c3 X p (.post a (Th.nR 2)),ax (dZ X)]):=qL aW (Po.atN _ _)
theorem avE:ad aa 233 w7 qD (λu H=>∃p,u=ptr p 0/\H=[c3 X p (.post a (Th.nR 1)),ax (dZ X)]):=qL aW (Po.atO _ _)
theorem avF:ad aa 362 w7 qD (λu H=>∃p,u=ptr p 0/\H=[c3 X p (.post a (Th.nR 4)),ax (dZ X)]):=qL aW (Po.atP _ _)
theorem aiT(held:Bool):ad aa 287 [ptr (X.bo a).bo 0,.bool held] qD (λu H=>∃p,u=ptr p 0/\H=[c3 X p (.post a (Th.Fb held)),ax (dZ X)]):=by
 cases held
 . exact qL aW (Po.at8 _ _)
 . exact qL aW (Po.at2 _ _)
end
section
variable{X:cN}{ap:List Nat}{aJ:List bR}{a q bO:Nat}{x:bR}{v:Value}
theorem KR{b bO i:Nat}{A:aq}{l:List aq}{v:Value}(e:l[i]?=some A)[r:h7 b bO A v]:h7 b bO (ax l) v:=⟨fun{h} t=>by
 obtain⟨h1,h2,_,rfl,aW,_⟩:=sj e h (Sat.one t);obtain⟨l,T,R,W,Z⟩:=r.get aW;exact⟨l,T,R,join_some W,Z⟩⟩
theorem avG(Y:∀e,(eg X x e)[bO]?=some v):h7 q bO (vu X q x) v:=⟨fun{h} t=>by
 obtain⟨e,_,dk⟩:=hd (Sat.one t);obtain⟨h1,h2,_,rfl,aW,_⟩:=dk;exact⟨_,_,_,join_some aW,Y e⟩⟩
structure At(X:cN)(ap:List Nat)(aJ:List bR)(a q:Nat)(x:bR):Prop where
 ap:ap[a -1]?=some q
 ah:aJ[a -1]?=some x
 cx:x.id=a
 aW:1<=a/\a<=X.C.aZ
def At.ax(h:At X ap aJ a q x):(e5 X ap aJ)[a -1]?=some (vu X q x):=by
 simp only[e5,sO,h.ah,nJ,ix,h.ap,KS]
theorem At.rd(h:At X ap aJ a q x)(Y:∀e,(eg X x e)[bO]?=some v):h7 q bO (Go.L.ax (e5 X ap aJ)) v:=by
 haveI:=avG (q:=q) Y;exact KR h.ax
theorem At.box(h:At X ap aJ a q x):h7 q 19 Jw (ptr (X.bo a).bo 0):=h.rd λe=>by rw[<-h.cx];rfl
theorem At.mode(h:At X ap aJ a q x):h7 q 13 Jw (af x.mode):=h.rd λe=>rfl
end
section
variable(X:cN)(ap ai:List Nat)(aJ:List bR)(l:List bW)(j a q:Nat)(x:bR)(t:bW)
def arS{i p:Nat}:(Value.iface i (ptr p 0)).oneCell'=true:=rfl
def jK(p f:Nat)(c:List Value)(t:bW)(o:bU)(k:Th.K)(N:l[j]?=some t)(R:t.on=none):ad aa 79 [ptr (X.bp j) 0,.iface (nL o) (ptr p 0),bj f c] [a7 X ap ai j p k f c,c3 X p o,ax BF] (aH eu [ax (de X ap ai (l.set j {t with on:=some (o,k)}))]):=by
 refine aw Tryz.func79 λF D=>?_;refine u1 ey (SQ N R) ?_;refine cq ?_;refine adL ?_;refine adL ?_;exact aX ⟨rfl,rfl⟩ (avy (p:=p) (f:=f) (c:=c) N (au))
def avH(B:At X ap aJ a q x)(N:l[j]?=some t)(R:t.on=none):ad aa 139 qz adh (aH eu [ax (e5 X ap aJ),ax (dZ X),ax (de X ap ai (l.set j {t with on:=some (.post a Th.Ch,.jk a)}))]):=by
 refine aw Tryz.func139 λF D=>?_;haveI:=B.box;haveI:=B.mode;refine nY ?_;intro U Z;refine bQ ?_;refine br (avz X B.aW) ?_;refine lZ ?_;intro p;refine wn λaO=>?_;refine bi ?_;refine JY ?_;refine aT (iA (a7.eq_7 ..) (aO,U,Z,q) u6 (jK X ap ai l j p 195 [ptr aO 0,ptr U 0,ptr Z 0] t (.post a Th.Ch) (.jk a) N R)) ?_;exact pT
def avI(B:At X ap aJ a q x)(N:l[j]?=some t)(R:t.on=none):ad aa 84 qz adh (aH eu [ax (e5 X ap aJ),ax (dZ X),ax (de X ap ai (l.set j {t with on:=some (.post a (Th.nR 2),.run a)}))]):=by
 refine aw Tryz.func84 λF D=>?_;haveI:=B.box;haveI:=B.mode;refine nY ?_;intro U Z;refine bb ?_;refine hU [5,8] [5] abP [ab U 106 eo,ab Z 110 [ptr q 0],ax (e5 X ap aJ)] mixed gB ?_;refine bi ?_;refine br (avD X B.aW) ?_;refine lZ ?_;intro p;refine aG ?_;refine JP ?_;refine aT (iA (a7.eq_6 ..) (U,Z,q) u6 (jK X ap ai l j p 138 [ptr U 0,ptr Z 0] t (.post a (Th.nR 2)) (.run a) N R)) ?_;exact vY
end
end Go.Proofs.YtnnhpnccfnghdaaGreat.L.bH
