import Derived.Test.YtnnhpnccfnghdaaGreatA19
set_option linter.all false
set_option maxRecDepth 100000
set_option maxHeartbeats 12000000
namespace Go.Proofs.YtnnhpnccfnghdaaGreat.L.bM
open Go.Proofs.YtnnhpnccfnghdaaGreat.L
open Go.L Go.L.Ring Go.L.dD Go.L.ej Go.L.Whl Go.L.dP Go.L.Lx Go.L.Pg
open Go.L.Led (du dH dW bm aw fo)
open Go.L.Th (bO c0 dn bG dE bU b3 e4 b0 aq most dY cS fp eR dZ In cX c9 eS bB bP eT eU bn cI dF go bo Good ei eV ec acc Inv eG e5 fj busy dA eC eh fr)
attribute[local irreducible] G cJ GE c3 GT b1 dk c7 ds Exit.then Exit.inBlock
def az6(X:cO)(z:dw)(s:aq)(j:Nat)(t:b0)(O:s.ax[j]?=some t):ab E 46 eE rr (aH (.bool t.on.isSome) rr):=by
 cases B:t.on with
 |none=>exact xe X z s j t O B
 |some q=>exact By X z s j t q.1 q.2 O B
def az7(X:cO)(z:dw)(s y:aq)(b:Bool)(n:Int)(m r:Nat)(f0:Nat->Th.ga)(N:X.C.ok)(dg:Th.h7 X.P)(cL:Th.iQ f0 X.C X.C.cells)(bf:m=(min (max n 0) 20000).toNat)(aj:bJ X z s)(h:Th.hg f0 X.C X.P r s)(aO:r+13*m<=Th.hh)(ag:Th.rest X.C X.P m s=some (y,b)):ab E 24 [ptr X.h 0,af n] (bh X z s) vf:=by
 refine av Tryz.func24 λH D=>?_;have g:=N.bQ;have a:=N.bA;refine cB ?_;refine aB rfl (s9 (max n 0) ad rfl rfl) ?_;refine aB rfl (ta ((m:Nat):Int) ad rfl rfl) ?_;refine bR ?_;refine hb (bv:=Nat×dw×aq) (λF=>az4 X f0 m r y b F.1 F.2.1 F.2.2) (λF=>[(12,af F.1),(11,af m),(0,ptr X.h 0)]) OU (λF=>m -F.1) (0,z,s) (⟨aj,h,ag,fk _⟩) eb (au) ?_;rintro⟨k,p,s1⟩ bK;replace bK:=bK;have hk:=bK.hk;dsimp only;refine bj ?_;refine ch (λW=>?_) (λW=>?_)
 . have hw:k+1<=m:=by omega
   have aF:=bK.ag;rw[show m -k=(m -(k+1))+1 by omega]at aF;refine bQ ?_;refine aU (Ts (z:=p) N bK.h.inv) ?_;refine bb ?_;refine ch (λM=>?_) (λM=>?_)
   . have bt:Th.quiet X.C s1=true:=by simpa using M
     rcases Th.ai4 aF with⟨_,T⟩|⟨e,_⟩
     rotate_left
     . exfalso;rw[bt]at e;cases e
     cases T;refine fB ?_;exact aQ ⟨rfl,p,bK.aj,rfl⟩
   . have bt:Th.quiet X.C s1=false:=by simpa using M
     rcases Th.ai4 aF with⟨e,_⟩|⟨_,cb,ce,Y,l,aC,aV,bF,dx⟩
     . exfalso;rw[bt]at e;cases e
     refine gd ?_;refine hb (bv:=Nat×dw×aq) (λF=>xI X f0 (Lw X) X.C.bc (r+13*k) cb F.1 F.2.1 F.2.2) (λF=>[(21,af F.1),(20,af X.C.bc),(19,.slice X.zD X.C.bc X.zE),(12,af k),(11,af m),(0,ptr X.h 0)]) OU (λF=>X.C.bc -F.1) (0,p,s1) (⟨bK.aj,bK.h,aC,fk _⟩) eb (au) ?_;rintro⟨i,v,aW⟩ d;replace d:=d;have ak:=d.ak;dsimp only;refine bj ?_;refine ch (λL=>?_) (λL=>?_)
     . obtain⟨f,ba,q⟩:=d.next N dg cL (et _) ad ad
       refine bj ?_;refine ED ?_;refine aB rfl (gF rfl (ady ad)) ?_;refine ct ?_;refine cn rfl (b9 rfl (EM (aj8 N dg cL d.aj d.h ad ad ba)) bN) ?_;exact aeH
     . obtain rfl:i=X.C.bc:=by omega
       obtain rfl:aW=cb:=Zx;refine eY ?_;refine bb ?_;refine hb (bv:=Nat×dw×aq) (λF=>xI X f0 (zU X) X.C.cT (r+13*k+X.C.bc) ce F.1 F.2.1 F.2.2) (λF=>[(35,af F.1),(34,af X.C.cT),(33,.slice X.zF X.C.cT X.zG),(12,af k),(11,af m),(0,ptr X.h 0)]) OU (λF=>X.C.cT -F.1) (0,v,aW) (⟨d.aj,d.h,aV,fk _⟩) eb (au) ?_;rintro⟨i,nm,aW⟩ d;replace d:=d;have ak:=d.ak;dsimp only;refine bj ?_;refine ch (λf9=>?_) (λf9=>?_)
       . obtain⟨f,ba,q⟩:=d.aBR N dg cL ad ad
         obtain⟨t,cQ⟩:=Th.qJ (j:=X.C.bc+i) d.h.inv ad;refine bj ?_;refine ED ?_;refine aB rfl (gF rfl (agE ad)) ?_;refine bj ?_;refine aU (az6 X nm aW (X.C.bc+i) t cQ) ?_;refine bb ?_;refine ch (λw=>?_) (λw=>?_)
         . have c:t.on.isSome=true:=by simpa using w
           obtain⟨⟨o,d9⟩,B⟩:=RG.1 c;rw[show zU X i aW=eG X.C X.P (X.C.bc+i) aW from bg (by rw[rk cQ,c])]at ba;refine bb ?_;refine cn rfl (b9 rfl (EM (az5 N dg cL d.aj d.h ad cQ B ba)) bN) ?_;exact aeH
         . have c:t.on.isSome=false:=by simpa using w
           obtain rfl:f=aW:=by rw[show zU X i aW=some aW from a7 (by rw[rk cQ,c];simp)]at ba;exact(n9 ba).symm
           refine C2 ?_;refine gg (i+1,nm,f) (q nm d.aj) ad eb (au)
       . obtain rfl:i=X.C.cT:=by omega
         obtain rfl:aW=ce:=Zx;refine ct ?_;refine cn rfl (b9 rfl (aj9 N dg cL d.aj d.h ad bF) bN) ?_;rintro _ D ⟨_,⟨rfl,u,I,rfl⟩,rfl⟩;refine fC ?_;have rP:Th.hg f0 X.C X.P (r+13*(k+1)) Y:=by
          obtain⟨J,aL,ho,C⟩:=Th.SQ cL N dg ad d.h;rw[bF]at ho;cases ho;exact C.aU ad ad
         refine bR ?_;refine aB rfl (fy (((k+1:Nat):Int)) ff rfl rfl) ?_;refine bb ?_;refine gg (k+1,u,Y) ⟨I,rP,dx,hw⟩ ad eb (au)
 . obtain rfl:k=m:=by omega
   have T:=bK.ag;rw[xZ]at T;cases T;refine bQ ?_;refine aU (Ts (z:=p) N bK.h.inv) ?_;refine bE ?_;exact aQ ⟨rfl,p,bK.aj,rfl⟩
def xJ(C:bO)(P:List cr):List dA->aq->Nat->Option (aq×Nat)
 |[],s,c=>some (s,c)
 |e::es,s,c=>(Th.nO C P s e).bind λF=>xJ C P es F.1 (c+if F.2 then 1 else 0)
def akh(e:dA):(hR e).length=5:=rfl
structure FE(X:cO)(f0:Nat->Th.ga)(es:List dA)(r:Nat)(F:aq×Nat)(i c:Nat)(z:dw)(s:aq):Prop where
 aj:bJ X z s
 h:Th.hg f0 X.C X.P (r+i) s
 hp:xJ X.C X.P (es.drop i) s c=some F
 ak:i<=es.length
 a6:c<=i
def FE.next{X:cO}{f0:Nat->Th.ga}{es:List dA}{r i c:Nat}{F:aq×Nat}{z:dw}{s:aq}{e:dA}(N:X.C.ok)(dg:Th.h7 X.P)(cL:Th.iQ f0 X.C X.C.cells)(h:FE X f0 es r F i c z s)(Y:es[i]?=some e)(aO:r+i+1<=Th.hh):∃aW l,Th.nO X.C X.P s e=some (aW,l)/\∀cl,bJ X cl aW->FE X f0 es r F (i+1) (c+if l then 1 else 0) cl aW:=by
 have bi:=h.hp;obtain⟨d4,u⟩:=dp.1 Y;rw[s5 d4,u]at bi;obtain⟨⟨aW,l⟩,aC,aV⟩:=ij.1 bi;obtain⟨f,a,bF,o⟩:=Th.Cj cL N dg aO h.h e;rw[bF]at aC;cases aC;exact⟨aW,l,bF,λcl e8=>⟨e8,o,aV,d4,by have:=h.a6;split<;>omega⟩⟩
def az8(X:cO)(z:dw)(s:aq)(z0:aq×Nat)(es:List dA)(a:Option Addr)(ac r:Nat)(a2:al)[gw (.slice a es.length ac) a2 es.length w1](f0:Nat->Th.ga)(N:X.C.ok)(dg:Th.h7 X.P)(cL:Th.iQ f0 X.C X.C.cells)(g:∀e∈es,ab E 92 [S e.tag] [] Er)(aj:bJ X z s)(h:Th.hg f0 X.C X.P r s)(aO:r+es.length<=Th.hh)(hp:xJ X.C X.P es s 0=some z0):ab E 29 [ptr X.h 0,.slice a es.length ac] (a2::bh X z s) (λu I=>u=af z0.2/\∃cl,bJ X cl z0.1/\I=a2::bh X cl z0.1):=by
 refine av Tryz.func29 λH D=>?_;have hw:Th.hh=10000000:=rfl;refine eY ?_;refine bR ?_;refine hb (bv:=Nat×Nat×dw×aq) (λF=>FE X f0 es r z0 F.1 F.2.1 F.2.2.1 F.2.2.2) (λF=>[(10,af F.1),(9,af es.length),(8,.slice a es.length ac),(5,af F.2.1),(0,ptr X.h 0)]) (λF=>a2::cp X F.2.2.1 F.2.2.2::di F.2.2.1.b4 F.2.2.1.b5 F.2.2.2.trace::dX F.2.2.1.na F.2.2.1.dT F.2.2.2.notes::bs X.am .i64 (bD F.2.2.1.ap)::ao (dI X F.2.2.1.ap F.2.2.2.aE)::bs X.dL .u64 (bD F.2.2.1.ae)::ao (eB F.2.2.1.ae F.2.2.2.lets)::Lg.cY X.ld F.2.2.2.a8::dz X.cF X.C.c6 F.2.2.2.dead::bz X.m F.2.2.2.L F.2.2.1.tt::eo X::ee X F.2.2.2.bm::dy X.bl X.m X.C.bl X.C.aT::ao (dd X)::ef X::eL X::e7 X::eO X::ao (cK X F.2.2.1.ap F.2.2.1.ae F.2.2.2.ax)::D) (λF=>es.length -F.1) (0,0,z,s) (⟨aj,h,hp,fk _,fk _⟩) eb (au) ?_;rintro⟨i,c,p,s1⟩ bK;replace bK:FE X f0 es r z0 i c p s1:=bK;have ak:=bK.ak;have v:=bK.a6;refine bj ?_;refine ch (λW=>?_) (λW=>?_)
 . obtain⟨e,U⟩:∃e,es[i]?=some e:=⟨_,cD ad⟩
   obtain⟨aW,l,aS,q⟩:=bK.next N dg cL U ad;refine bj ?_;refine ED ?_;refine aB rfl (kz rfl (kA hR 5 akh U) rfl) ?_;refine wn λbV=>?_;refine ct ?_;refine cn rfl (b9 rfl (akb (e:=e) N dg cL bK.aj bK.h ad (g e Jz) aS) bN) ?_;rintro _ D ⟨_,⟨rfl,cl,e8,rfl⟩,rfl⟩;refine F8 ?_;refine ch (λM=>?_) (λM=>?_)
   . have aA:l=true:=by simpa using M
     refine bb ?_;refine aB rfl (fy (((c+1:Nat):Int)) ff rfl rfl) ?_;refine adv ?_;refine gg (i+1,c+1,cl,aW) Zy ad eb (au)
   . have aA:l=false:=by simpa using M
     refine C2 ?_;refine gg (i+1,c,cl,aW) Zy ad eb (au)
 . obtain rfl:i=es.length:=by omega
   have T:=bK.hp;rw[CI (et _)]at T;cases T;refine fB ?_;exact aQ ⟨rfl,p,bK.aj,rfl⟩
section
variable(C:bO)(k:Nat)(L:List Int)
def xK(b k:Nat):Prop:=∀i,b<=i->i<b+k->L.getD i 0=0
def xK.sub{L:List Int}{b k l Y:Nat}(h:xK L b k)(h1:b<=l)(h2:l+Y<=b+k):xK L l Y:=λi a c=>h i ad ad
def aki{L:List Int}{i:Nat}(h:L.getD i 0=0):L.set i 0=L:=by
 by_cases ak:i<L.length
 . rw[iW,cD ak,KT]at h
   rw[<-h,AW ak]
 . exact List.set_eq_of_length_le ad
def Cv{L:List Int}{b:Nat}:∀{k:Nat},xK L b k->im L b k=L
 |0,_=>rfl
 |k+1,h=>by rw[im,Cv (h.sub (et _) ad),aki (h _ ad ad)]
def akj{L:List Int}{b:Nat}:∀{k:Nat},xK L (b+2) k->mW L b (2+k)=(L.set b 1).set (b+1) 1
 |0,_=>rfl
 |
  k+1,h=>by
  rw[show 2+(k+1)=(2+k)+1 by omega,mW,akj (h.sub (et _) ad),a7 ad];refine aki ?_;rw[Th.la ad,Th.la ad];exact h _ ad ad
def az9:eC C (List.range (k+1)) L=((eC C (List.range k) L).set (C.bC.cq k) 1).set (C.bC.cq k+1) 1:=by
 unfold eC;rw[List.range_succ,ajr];rfl
def akk{C:bO}{L:List Int}(h:xK L 2 (C.cells -2)):∀{k:Nat},k<=C.bc->r9 L C.bC k=eC C (List.range k) L
 |
  0,_=>by
  have e:C.bC.ek+(2+2*C.aT)<=C.cells:=by
   show 2+C.bc+(2+2*C.aT)<=2+(C.bc+(2+2*C.aT)+C.bc*(2+C.eX))+(3+2*C.iS)+C.aT*C.aT+C.aT*C.fh;omega
  rw[r9,Cv (h.sub (l:=C.bC.b) (Y:=C.bC.bX) (et 2) (by show 2+C.bc<=2+(C.cells -2);have:2+C.bc<=C.bC.ek:=et _;omega)),Cv (h.sub (by show 2<=2+C.bc;omega) (by show C.bC.ek+(2+2*C.aT)<=_;omega))];rfl
 |
  k+1,hk=>by
  have e:C.bC.cq k=2+C.bc+(2+2*C.aT)+k*(2+C.eX):=rfl;have aV:k*(2+C.eX)+(2+C.eX)<=C.bc*(2+C.eX):=by
   have:=pN (2+C.eX) hk;rwa[nb,vg]at this
  have bF:C.cells=2+(C.bc+(2+2*C.aT)+C.bc*(2+C.eX))+(3+2*C.iS)+C.aT*C.aT+C.aT*C.fh:=rfl;rw[r9,akk h (Nat.le_of_succ_le hk),az9];refine akj (k:=C.eX) λi h1 h2=>?_;rw[Th.Cq _ _ _ _ λw R=>?_]
  . exact h i ad ad
  . have H:w+1<=k:=pM.1 R
    have dx:C.bC.cq w=2+C.bc+(2+2*C.aT)+w*(2+C.eX):=rfl;have ho:w*(2+C.eX)+(2+C.eX)<=k*(2+C.eX):=by
     have:=pN (2+C.eX) H;rwa[nb,vg]at this
    omega
def vF:List Int:=(List.replicate C.cells 0).set 1 1
def jl:List Int:=eC C (List.range C.bc) (vF C)
def akl:xK (vF C) 2 (C.cells -2):=λi h1 h2=>by unfold vF;rw[Th.la ad,Th.S2]
def Tt:(vF C).length=C.cells:=by simp[vF]
def Cw:(jl C).length=C.cells:=by unfold jl;rw[Th.S0,Tt]
def Tu:xK (jl C) (2+C.bC.size) (C.cells -(2+C.bC.size)):=λi h1 h2=>by
 unfold jl;have gJ:C.bC.size=C.bc+(2+2*C.aT)+C.bc*(2+C.eX):=rfl;rw[Th.Cq _ _ _ _ λw R=>?_]
 . exact akl C i ad ad
 . have H:w+1<=C.bc:=pM.1 R
   have dx:C.bC.cq w=2+C.bc+(2+2*C.aT)+w*(2+C.eX):=rfl;have ho:w*(2+C.eX)+(2+C.eX)<=C.bc*(2+C.eX):=by
    have:=pN (2+C.eX) H;rwa[nb,vg]at this
   omega
end
section
variable(X:cO){C:bO}(z:dw)(s:aq)(id:Nat)(kind st:cG)(O:cr)(kx:fU)
def FF(h:C.ok):C.cells<=65536/\2<=C.cells/\C.gS+C.aT*C.fh=C.cells:=by
 have h1:C.bc*(2+C.eX)<=8*66:=qi h.bQ (by have:=h.d64;omega);have h2:C.aT*C.aT<=16*16:=qi h.hd h.hd;have aN:C.aT*C.fh<=16*214:=qi h.hd (by have:=h.m64;have:=h.hd;unfold bO.fh bO.fK;omega);have e:C.cells=2+(C.bc+(2+2*C.aT)+C.bc*(2+C.eX))+(3+2*C.iS)+C.aT*C.aT+C.aT*C.fh:=rfl;have:=h.bQ;have:=h.hd;have:=h.i64;exact⟨by omega,by omega,rfl⟩
def aAa(N:C.ok)(m:Nat)(t:Int):ab E 65 [ptr m 0,af ((2:Nat):Int),af C.bc,af C.eX,af C.aT] [bz m (vF C) t] (λu I=>∃(X:kN) (dr:Int),X.m=m/\u=.tuple #[ptr X.c 0,af 0]/\I=[bz m (jl C) dr,eW [fG X C.bC,b8 X C.bC,hU X C.bC,ez X C.bC,ao (k5 X C.bC)]]):=by
 have U:=FF N;have e:C.cells=2+C.bC.size+(3+2*C.iS)+C.aT*C.aT+C.aT*C.fh:=rfl;refine qM [] (ao8 m 2 C.bc C.eX C.aT (vF C) t ⟨N.aG,N.bQ,N.d1,N.d64,N.cu,N.hd,by rw[Tt];show 2+C.bC.size<=_;omega,by rw[Tt];exact U.1⟩) kS λu I q=>?_;obtain⟨X,dr,bf,rfl,rfl⟩:=q;refine⟨_,⟨X,dr,bf,rfl,rfl⟩,λh s=>?_⟩;subst bf;rw[show r9 (vF C) (⟨2,C.bc,C.eX,C.aT⟩:fT) C.bc=jl C from akk (akl C) (et _)]at s;exact Sat.tail acp s
def aAb(N:C.ok)(m:Nat)(t:Int):ab E 66 [ptr m 0,af ((2+C.bC.size:Nat):Int),af C.iS] [bz m (jl C) t] (λu I=>∃(X:Ck.oD) (dr:Int),X.m=m/\u=.tuple #[ptr X.c 0,af 0]/\I=[bz m (jl C) dr,eW [Ck.fv X C.df,fs X.r m (C.df.b+1) C.df.n,fw X.wp q7]]):=by
 have U:=FF N;have e:C.cells=2+C.bC.size+(3+2*C.iS)+C.aT*C.aT+C.aT*C.fh:=rfl;refine qM [] (Ck.amS m (2+C.bC.size) C.iS (jl C) t ⟨N.i1,N.i64,by rw[Cw];show 2+C.bC.size+3+2*C.iS<=_;omega,by rw[Cw];exact U.1⟩) kS λu I q=>?_;obtain⟨X,rfl,bf,rfl⟩:=q;refine⟨_,⟨X,jp (3+2*C.iS) t,bf,rfl,rfl⟩,λh s=>?_⟩;subst bf;obtain⟨_,_,s⟩:=ha s;rw[Cv ((Tu C).sub (et _) ad)]at s;exact(au) h (show Sat (bz X.m (jl C) _::eW [Ck.fv X C.df,fs X.r X.m (C.df.b+1) C.df.n,fw X.wp ⟨0,0,[]⟩]::[]) h from Sat.tail (λh s=>cE (D:=[]) () trivial (λh s=>s) h s) ((show∀h,Sat _ h->Sat (bz X.m (jl C) _::[Ck.fv X C.df,fs X.r X.m (C.df.b+1) C.df.n,fw X.wp ⟨0,0,[]⟩]) h from(au)) h s))
def aAc(N:C.ok)(m:Nat)(t:Int):ab E 67 [ptr m 0,af ((C.bl:Nat):Int),af C.aT] [bz m (jl C) t] (λu I=>∃(q:Nat) (dr:Int),u=.tuple #[ptr q 0,af 0]/\I=[bz m (jl C) dr,dy q m C.bl C.aT]):=by
 have U:=FF N;have e:C.cells=C.bl+C.aT*C.aT+C.aT*C.fh:=rfl;have aV:C.bl=2+C.bC.size+(3+2*C.iS):=rfl;refine(ao9 m C.bl C.aT (jl C) t N.cu N.hd (by rw[Cw];omega) (by rw[Cw];exact U.1)).mono λu I q=>?_;obtain⟨q,rfl,rfl⟩:=q;rw[Cv ((Tu C).sub (l:=C.bl) (Y:=C.aT*C.aT) ad ad)];exact⟨q,_,rfl,rfl⟩
def zV(m:Nat)(X:Po.nl)(B:jw):al:=eW [Po.eF X B,fs (X.r false) m (B.ev false) (B.e1 false),fs (X.r true) m (B.ev true) (B.e1 true)]
def aAd(N:C.ok)(m i:Nat)(ak:i<C.aT)(t:Int):ab E 68 [ptr m 0,af ((C.gS+i*C.fh:Nat):Int),af C.hW,af ((C.fK:Nat):Int)] [bz m (jl C) t] (λu I=>∃(X:Po.nl) (dr:Int),X.m=m/\u=.tuple #[ptr X.br 0,af 0]/\I=[bz m (jl C) dr,zV m X (C.box (i+1))]):=by
 have U:=FF N;have e:C.cells=C.gS+C.aT*C.fh:=rfl;have aV:C.gS=2+C.bC.size+(3+2*C.iS)+C.aT*C.aT:=rfl;have bF:C.fh=2+(2+2*C.hW)+(2+2*C.fK):=rfl;have dx:i*C.fh+C.fh<=C.aT*C.fh:=by have:=pN C.fh (show i+1<=C.aT from ak);rwa[nb,vg]at this
 have ho:C.fK=2*C.aT+8:=rfl;have m6:=N.m1;have m3:=N.m64;have aX:=N.hd;refine qM [] (Po.ats m (C.gS+i*C.fh) C.hW C.fK (jl C) t ⟨m6,m3,by show 1<=C.fK;omega,by show C.fK<=64;omega,by rw[Cw];show C.gS+i*C.fh+6+2*C.hW+2*C.fK<=_;omega,by rw[Cw];exact U.1⟩) kS λu I q=>?_;obtain⟨X,rfl,bf,rfl⟩:=q;refine⟨_,⟨X,jp (Po.jw.aZ ⟨C.gS+i*C.fh,C.hW,C.fK⟩) t,bf,rfl,rfl⟩,λh s=>?_⟩;subst bf;obtain⟨_,_,s⟩:=ha s;rw[Cv ((Tu C).sub (l:=C.gS+i*C.fh) (Y:=Po.jw.aZ ⟨C.gS+i*C.fh,C.hW,C.fK⟩) ad (by show C.gS+i*C.fh+(2+(2+2*C.hW)+(2+2*C.fK))<=_;omega))]at s;have cb:=(show∀h,Sat _ h->Sat (bz X.m (jl C) _::[Po.eF X (C.box (i+1)),fs (X.r false) X.m ((C.box (i+1)).ev false) ((C.box (i+1)).e1 false),fs (X.r true) X.m ((C.box (i+1)).ev true) ((C.box (i+1)).e1 true)]) h from(au)) h s;exact Sat.tail acp cb
def aAe(ap:List Nat):dR (bD ap) (0:Int)=none:=KU ad
theorem aAf{X:cO}{z:dw}{s:aq}{id b g j c d:Nat}{bI O:cr}{st:cG}{D:List al}(aj:bJ X z s)(R:dQ bI=dQ O)(cy:id=s.aE.length+1):
 ∀
  h,Sat (aa b 118 (dS X (kR id 0 O st) ⟨bI,none,0,none,0,g,j,c,d,[]⟩)::fJ g X.C.dO [] []::gL j (min (max bI.limit 0) 100) (min (max bI.within 1) 4095) []::eD c (.map #[] 0)::eD d (.map #[] 0)::gb bI::ao (dI X z.ap s.aE)::ao (cK X z.ap z.ae s.ax)::bs X.am .i64 (ew (bD z.ap) (id:Int) (ptr b 0))::D) h->
  Sat (ao (dI X u9 (s.aE++[kR id 0 O st]))::ao Jl::bs X.am .i64 (bD u9)::D) h:=λh F=>by
 have T:qS bI:=by
  have z0:=Sat.drop (Sat.drop (Sat.drop (Sat.drop (Sat.drop F))));obtain⟨h1,h2,_,_,o,_⟩:=z0;exact FY o
 have aC:dI X u9 (s.aE++[kR id 0 O st])=dI X z.ap s.aE++[vr X b (kR id 0 O st)]:=ajD aj.ap;have aV:ew (bD z.ap) (id:Int) (ptr b 0)=bD u9:=Zq;rw[aC,<-aV];refine tw h ?_;refine cE (D:=ao (dI X z.ap s.aE)::ao (cK X (z.ap++[b]) z.ae s.ax)::bs X.am .i64 (ew (bD z.ap) (id:Int) (ptr b 0))::D) (⟨bI,none,0,none,0,g,j,c,d,[]⟩:hS) ⟨R,T,rfl⟩ (λh F=>F) h ?_;have f:∀h,Sat (gb bI::ao (dI X z.ap s.aE)::ao (cK X z.ap z.ae s.ax)::bs X.am .i64 (ew (bD z.ap) (id:Int) (ptr b 0))::D) h->Sat (ao []::gb bI::ao j5::ao Jl::bs X.am .i64 (ew (bD z.ap) (id:Int) (ptr b 0))::D) h:=λh F=>
  wK h (Sat.tail (λh F=>Sat.tail (λh F=>Ls (X:=X) (λi x e=>xF i x e) zl s.ax _ h F) F) F)
 exact Sat.tail aai F
theorem aAg(aj:bJ X z s)(N:X.C.ok)(t:X.P.length<=4611686018427387904)(i6:X.P.find? BD=some O)(r:lL O)(g5:O.states[0]?=some kx)(ge:kx.name=st)(cy:id=s.aE.length+1)(m:id<=X.C.aT)(c2:s.trace.length<most):ab E 69 [ptr X.h 0,af id,af ((0:Nat):Int),S kind] abD (λu I=>u=.tuple #[]/\∃aD aI bI g j c d f,dQ bI=dQ O/\I=(cp X iN {s with trace:=s.trace++Pu}::di aD aI (s.trace++Pu)::bs X.am .i64 Jg::eO X::ef X::aa f 118 (dS X (kR id 0 O st) I7)::aaj)):=by
 refine av Tryz.func69 λH D=>?_;have n:=N.hd;have l:1<=id/\id<=X.C.aT:=⟨by omega,m⟩;have V:¬((0:Nat):Int)=(id:Int):=ad;refine ct ?_;refine bu (ajF t r i6) ?_;rintro _ _ ⟨bI,R,rfl,rfl⟩;refine eM ?_;obtain⟨b,i,pl⟩:=S6 R g5;have g0:0<bI.states.length:=(dp.1 i).1;obtain rfl:b.name=st:=pl.trans ge;refine b2 ?_;refine wn λZ=>?_;refine bR ?_;refine Dh (λact w=>∃(g j c d f:Nat),hl Tryz.f69.ntmps [(0,ptr X.h 0),(1,af id),(2,af ((0:Nat):Int)),(3,S kind)] act/\dt H (aa f 118 (dS X (kR id 0 O b.name) I7)::fJ g X.C.dO [] []::gL j (min (max bI.limit 0) 100) (min (max bI.within 1) 4095) []::eD c pa::eD d pa::gb bI::bs X.am .i64 Jg::cp X z s::di z.b4 z.b5 s.trace::eO X::ef X::D) w) ?_ ?_
 . refine afI ?_
   refine fm ?_ ?_
   . refine zv ?_
     intro g;rw[show(min (max (X.C.dO:Int) 0) 64).toNat=X.C.dO from by have:=N.pJ;omega];refine aG ?_;refine fm ?_ ?_
     . refine xb ?_
       intro j;refine aG ?_;refine fm ?_ ?_
       . refine wn λc=>?_
         exact ae7
       . refine wn λd=>?_
         exact ae6
     . refine fm ?_ ?_
       . refine wn λc=>?_
         exact ad3
       . refine wn λd=>?_
         exact ad2
   . refine fm ?_ ?_
     . refine wn λc=>?_
       refine aG ?_;refine fm ?_ ?_
       . refine zv ?_
         intro g;rw[show(min (max (X.C.dO:Int) 0) 64).toNat=X.C.dO from by have:=N.pJ;omega];exact ad3
       . refine wn λd=>?_
         exact agi
     . refine wn λd=>?_
       refine aG ?_;refine fm ?_ ?_
       . refine zv ?_
         intro g;rw[show(min (max (X.C.dO:Int) 0) 64).toNat=X.C.dO from by have:=N.pJ;omega];exact ad2
       . refine wn λc=>?_
         exact agi
 . rintro act w ⟨g,j,c,d,f,g0,st⟩
   refine Di ?_ g0 st;clear g0 st act w;refine bQ ?_;refine aB rfl (lT fN (by rw[Ot,a7 V];rw[show((0:Nat):Int)=0 from rfl,aAe];rfl) rfl rfl) ?_;refine cB ?_;refine og ?_;refine bQ ?_;refine bu (l3 X z s (abB:bG) c2) ?_;refine l1 ?_;intro aD aI;refine bb ?_;exact aQ ⟨rfl,aD,aI,bI,g,j,c,d,f,R,rfl⟩
theorem aAh(aj:bJ X z s)(N:X.C.ok)(t:X.P.length<=4611686018427387904)(i6:X.P.find? BD=some O)(r:lL O)(g5:O.states[0]?=some kx)(ge:kx.name=st)(cy:id=s.aE.length+1)(m:id<=X.C.aT)(c2:s.trace.length<most):ab E 69 [ptr X.h 0,af id,af ((0:Nat):Int),S kind] (bh X z s) (λu I=>u=.tuple #[]/\∃cl,bJ X cl {s with aE:=s.aE++[kR id 0 O st],trace:=s.trace++[({Th.cz with kind:=7,dc:=id,cf:=(0:Nat),name:=kind}:bG)]}/\I=bh X cl {s with aE:=s.aE++[kR id 0 O st],trace:=s.trace++Pu}):=
 qM [dX z.na z.dT s.notes,ao (dI X z.ap s.aE),bs X.dL .u64 (bD z.ae),ao (eB z.ae s.lets),Lg.cY X.ld s.a8,dz X.cF X.C.c6 s.dead,bz X.m s.L z.tt,eo X,ee X s.bm,dy X.bl X.m X.C.bl X.C.aT,ao (dd X),eL X,e7 X,ao (cK X z.ap z.ae s.ax)] (aAg X z s id kind st O kx aj N t i6 r g5 ge cy m c2) (show∀h,Sat _ h->Sat [cp X z s,di z.b4 z.b5 s.trace,bs X.am .i64 (bD z.ap),eO X,ef X,dX z.na z.dT s.notes,ao (dI X z.ap s.aE),bs X.dL .u64 (bD z.ae),ao (eB z.ae s.lets),Lg.cY X.ld s.a8,dz X.cF X.C.c6 s.dead,bz X.m s.L z.tt,eo X,ee X s.bm,dy X.bl X.m X.C.bl X.C.aT,ao (dd X),eL X,e7 X,ao (cK X z.ap z.ae s.ax)] h from(au)) (λu I n=>by
  obtain⟨rfl,aD,aI,bI,g,j,c,d,f,R,rfl⟩:=n;refine⟨_,⟨rfl,{z with ap:=z.ap++[f],b4:=aD,b5:=aI},⟨aj.gk,aj.fY,aj.fZ,by show(z.ap++[f]).length=(s.aE++[_]).length;rw[eZ,eZ,aj.ap];rfl,aj.ae⟩,rfl⟩,λh F=>?_⟩;have gT:=aAf (X:=X) (z:=z) (s:=s) (id:=id) (b:=f) (st:=st) (O:=O) (bI:=bI) (D:=[cp X {z with b4:=aD,b5:=aI} {s with trace:=s.trace++[({Th.cz with kind:=7,dc:=id,cf:=(0:Nat),name:=kind}:bG)]},di aD aI (s.trace++[({Th.cz with kind:=7,dc:=id,cf:=(0:Nat),name:=kind}:bG)]),eO X,ef X,dX z.na z.dT s.notes,bs X.dL .u64 (bD z.ae),ao (eB z.ae s.lets),Lg.cY X.ld s.a8,dz X.cF X.C.c6 s.dead,bz X.m s.L z.tt,eo X,ee X s.bm,dy X.bl X.m X.C.bl X.C.aT,ao (dd X),eL X,e7 X]) aj R cy h ((show∀h,Sat _ h->Sat (aa f 118 (dS X (kR id 0 O st) ⟨bI,none,0,none,0,g,j,c,d,[]⟩)::fJ g X.C.dO [] []::gL j (min (max bI.limit 0) 100) (min (max bI.within 1) 4095) []::eD c (.map #[] 0)::eD d (.map #[] 0)::gb bI::ao (dI X z.ap s.aE)::ao (cK X z.ap z.ae s.ax)::bs X.am .i64 (ew (bD z.ap) (id:Int) (ptr f 0))::[cp X {z with b4:=aD,b5:=aI} {s with trace:=s.trace++[({Th.cz with kind:=7,dc:=id,cf:=(0:Nat),name:=kind}:bG)]},di aD aI (s.trace++[({Th.cz with kind:=7,dc:=id,cf:=(0:Nat),name:=kind}:bG)]),eO X,ef X,dX z.na z.dT s.notes,bs X.dL .u64 (bD z.ae),ao (eB z.ae s.lets),Lg.cY X.ld s.a8,dz X.cF X.C.c6 s.dead,bz X.m s.L z.tt,eo X,ee X s.bm,dy X.bl X.m X.C.bl X.C.aT,ao (dd X),eL X,e7 X]) h from(au)) h F);exact(show∀h,Sat _ h->Sat (bh X {z with ap:=z.ap++[f],b4:=aD,b5:=aI} {s with aE:=s.aE++[kR id 0 O st],trace:=s.trace++[({Th.cz with kind:=7,dc:=id,cf:=(0:Nat),name:=kind}:bG)]}) h from(au)) h gT)
end
section
variable(C:bO){f:FuncId}(P:List cr){args:List Value}{X:cO}{z:dw}{s:aq}
def l0(h:Nat)(s:aq):al:=dq (bv:=cO×dw) (λF=>F.1.C=C/\F.1.P=P/\F.1.h=h/\bJ F.1 F.2 s) (λF=>bh F.1 F.2 s)
def Em(aj:bJ X z s){D:List al}:∀h,Sat (bh X z s++D) h->Sat (l0 X.C X.P X.h s::D) h:=λh F=>cE (X,z) ⟨rfl,rfl,rfl,aj⟩ qu h F
def zW{C:bO}{P:List cr}{h:Nat}{s:aq}{a2:List al}{post:Value->List al->Prop}(ah:∀X z,bJ X z s->X.C=C->X.P=P->X.h=h->ab E f args (bh X z s++a2) post):ab E f args (l0 C P h s::a2) post:=xG λF T=>ah F.1 F.2 T.2.2.2 T.1 T.2.1 T.2.2.1
def ako{y:aq}{b:Bool}(h:ab E f args (bh X z s) vf):ab E f args (bh X z s++[]) (aH (.bool b) [l0 X.C X.P X.h y]):=
 qM [] h kS λu I ⟨e,cl,aj,cd⟩=>⟨_,⟨e,rfl⟩,λh s=>by subst cd;exact Em (D:=[]) aj h s⟩
abbrev zX(n:Nat)(s:aq):Prop:=Th.hg (Th.bH C) C P n s
end
section
variable{C:bO}{P:List cr}{h n:Nat}{s y:aq}{b:Bool}
def Tv{e:dA}(N:C.ok)(dg:Th.h7 P)(r:zX C P n s)(aO:n+1<=Th.hh)(g:ab E 92 [S e.tag] [] Er)(ag:Th.nO C P s e=some (y,b)):ab E 26 [ptr h 0,.agg (hR e).toArray] w5 (aH (.bool b) [l0 C P h y]):=
 zW λX z aj aC aV bF=>by subst aC aV bF;exact ako (akb N dg (Th.sS N) aj r aO g ag)
def akp{k:Int}{m:Nat}(N:C.ok)(dg:Th.h7 P)(r:zX C P n s)(bf:m=(min (max k 0) 20000).toNat)(aO:n+13*m<=Th.hh)(ag:Th.rest C P m s=some (y,b)):ab E 24 [ptr h 0,af k] w5 (aH (.bool b) [l0 C P h y]):=
 zW λX z aj aC aV bF=>by subst aC aV bF;exact ako (az7 X z s y b k m n _ N dg (Th.sS N) bf aj r aO ag)
def akq(N:C.ok)(r:zX C P n s):ab E 25 [ptr h 0] w5 (aH (.bool (Th.quiet C s)) w5):=
 zW λX z aj aC aV bF=>by
  subst aC aV bF;exact qM [] (Ts (z:=z) N r.inv) kS λu I ⟨e,cd⟩=>⟨_,⟨e,rfl⟩,λh s=>by subst cd;exact Em (D:=[]) aj h s⟩
theorem aAA{es:List dA}{a:Option Addr}{ac:Nat}{a2:al}{c:Nat}[i:gw (.slice a es.length ac) a2 es.length w1](N:C.ok)(dg:Th.h7 P)(r:zX C P n s)(aO:n+es.length<=Th.hh)(g:∀e∈es,ab E 92 [S e.tag] [] Er)(hp:xJ C P es s 0=some (y,c)):
 ab E 29 [ptr h 0,.slice a es.length ac] [l0 C P h s,a2] (aH (af c) [l0 C P h y,a2]):=
 zW λX z aj aC aV bF=>by
  subst aC aV bF;exact qM [] (az8 X z s (y,c) es a ac n a2 _ N dg (Th.sS N) g aj r aO hp) (λh F=>(show∀h,Sat _ h->Sat ((a2::bh X z s)++[]) h from by simp only[ck,ci,jb];exact(au)) h F) λu I ⟨e,cl,e8,cd⟩=>⟨_,⟨e,rfl⟩,λh s=>by
   subst cd;exact Em (D:=[a2]) e8 h ((show∀h,Sat _ h->Sat (bh X cl y++[a2]) h from by simp only[ck,ci,jb];exact(au)) h s)⟩
def aAB{f:FuncId}{args:List Value}{X:cO}{z:dw}{s:aq}{v:Value}{L:List al}(aj:bJ X z s)(h:ab E f args (bh X z s) (aH v (L++bh X z s))):ab E f args (bh X z s++[]) (aH v (L++[l0 X.C X.P X.h s])):=
 qM [] h kS λu I ⟨e,cd⟩=>⟨_,⟨e,rfl⟩,λh s=>by
  subst cd;rw[jb]at s;exact DK P9 L h s⟩
end
section
variable(X:cO){C:bO}(z:dw){P:List cr}(s:aq){h:Nat}
theorem aAC(c2:s.trace.length<=most):ab E 14 [ptr X.h 0] (bh X z s) (λu I=>∃a c,u=.slice a s.trace.length c/\I=di a c s.trace::bh X z s):=by
 refine av Tryz.func14 λH D=>?_;refine c4 ?_;refine cn rfl (b9 rfl (at1 z.b4 z.b5 s.trace.length (s.trace.flatMap kv) (di z.b4 z.b5 s.trace) (kW kv 9 zH s.trace) (auD s.trace) (by have:s.trace.length<=1099511627776:=c2;omega)) bN) ?_;rintro _ D ⟨_,⟨e,S,rfl,rfl⟩,rfl⟩;refine uu ?_;exact aQ ⟨e,S,rfl,rfl⟩
theorem aAD:ab E 30 [ptr X.h 0] (bh X z s) (aH (af s.trace.length) ([]++bh X z s)):=by
 refine av Tryz.func30 λH D=>?_;exact yA
theorem Cy{n:Nat}{s:aq}(r:zX C P n s)(aO:n<=Th.hh):ab E 14 [ptr h 0] w5 (λu I=>∃a c,u=.slice a s.trace.length c/\I=[di a c s.trace,l0 C P h s]):=
 zW λX z aj aC aV bF=>by
  subst aC aV bF;exact qM [] (aAC X z s (by
   have h1:=r.ph;have h2:Th.hh=10000000:=rfl;have aN:Th.hB=90000:=rfl;have bA:s.trace.length+s.dead.length<=Th.bP s:=OP;have d3:Th.hB*n<=90000*10000000:=qi (et _) aO;show _<=1099511627776;omega)) kS λu I ⟨a,c,e,cd⟩=>⟨_,⟨a,c,e,rfl⟩,λh s=>by
   subst cd;rw[jb]at s;exact Sat.tail P9 s⟩
theorem aAE{n:Nat}{s:aq}:ab E 30 [ptr h 0] w5 (aH (af s.trace.length) w5):=
 zW λX z aj aC aV bF=>by subst aC aV bF;exact aAB (L:=[]) aj (aAD X z s)
end
structure l5 where
 bc:Int
 cT:Int
 aT:Int
 hW:Int
 dO:Int
 mB:Int
 eX:Int
 iS:Int
 c6:Int
abbrev sD(c:l5):List Value:=[af c.bc,af c.cT,af c.aT,af c.hW,af c.dO,af c.mB,af c.eX,af c.iS,af c.c6]
section
variable(c:l5)(C:bO)(a F ak:Int)
def fR(a:Int):Bool:=decide (F<=a)&&decide (a<=ak)
def l5.okB:Bool:=fR 1 8 c.bc&&fR 1 4 c.cT&&fR 1 16 c.aT&&fR 1 64 c.hW&&fR 0 64 c.dO&&fR 1 16 c.mB&&fR 1 64 c.eX&&fR 1 64 c.iS&&fR 0 64 c.c6
def l5.nat:bO:=⟨c.bc.toNat,c.cT.toNat,c.aT.toNat,c.hW.toNat,c.dO.toNat,c.mB.toNat,c.eX.toNat,c.iS.toNat,c.c6.toNat⟩
def rq:l5:=⟨C.bc,C.cT,C.aT,C.hW,C.dO,C.mB,C.eX,C.iS,C.c6⟩
def l5.aBS{c:l5}(h:c.okB=true):rq c.nat=c/\c.nat.ok:=by
 obtain⟨v0,v1,u,v3,v4,v5,e,k,p⟩:=c;simp only[l5.okB,fR,iy,ln]at h;refine⟨?_,?_⟩
 . simp only[rq,l5.nat,l5.mk.injEq];omega
 . constructor<;>simp only[l5.nat]<;>omega
def vG:ab E 52 [af a,af F,af ak] [] (aH (.bool (fR F ak a)) []):=by
 unfold fR;by_cases h:F<=a/\a<=ak
 . rw[lM h.1,lM h.2];exact Kw a F ak h
 . have e:(decide (F<=a)&&decide (a<=ak))=false:=by
    cases h1:decide (F<=a)<;>cases h2:decide (a<=ak)<;>first|rfl|exact absurd ⟨of_decide_eq_true h1,of_decide_eq_true h2⟩ h
   rw[e];exact Kt a F ak h
instance:A3 E 66:=⟨_,Tryz.underlying66⟩
abbrev oP:List Value:=[af C.bc,af C.cT,af C.aT,af C.hW,af C.dO,af C.mB,af C.eX,af C.iS,af C.c6]
abbrev ms(p m a M bl F:Value)(am dL ld cF:Nat)(aU aS b:Value):List Value:=
 [af C.bc,af C.cT,af C.aT,af C.hW,af C.dO,af C.mB,af C.eX,af C.iS,af C.c6,p,m,af 0,af 1,af 2,a,M,bl,F,.map (some am),.map (some dL),.slice none 0 0,ptr ld 0,ptr cF 0,.slice none 0 0,af 0,af 0,.bool false,aU,aS,b]
end
section
variable(h:Nat)(bZ:Option Addr){m:Nat}{a:Option Addr}(pc:Nat){C:bO}{c:Nat}{K P J:List cr}{k:cr}{l:List cr}{D:List al}
def ns(l:List cr):al:=λh=>∀k∈l,lg h k
theorem aAl:∀h,Sat D h->Sat (ns []::D) h:=λh s=>Sat.head (λ_ _ r aF=>by cases aF) (xY h s)
theorem aAn:∀h,Sat (gb k::ns l::D) h->Sat (ns (l++[k])::D) h:=
 xW λh1 h2 d o l x ah=>by
  rcases kX.1 ah with ah|ah
  . exact(l x ah).imp λb o e=>vO d e
  . simp at ah;subst ah
    exact o.imp λb o e=>join_some e
theorem aAv(aw:fi (l.length*80)):∀h,Sat (own (.slice a l.length c) 78 5 l.length (l.flatMap eH)::ns l::D) h->Sat ((λh=>h8 h a c l)::D) h:=
 xW λh1 h2 d o l=>⟨(jd.own o).imp λb o e=>join_some e,aw,λk hk=>(l k hk).imp λb o e=>vO d e⟩
theorem aAw{dv O D:List al}:∀h,Sat (ao dv::ao O::D) h->Sat (ao (dv++O)::D) h:=λh s=>by
 refine Sat.flat.2 ?_;have s1:=Sat.flat.1 s;rw[jI];exact DK (λ_ t=>Sat.flat.1 t) dv h s1
abbrev oW(w:Int):List Value:=[ptr h 0,af w,.nilIface,.nilFunc,bx 0,.bool false]
def lK(l:List Nat):List al:=l.mapIdx λj q=>aa q 128 (oW h (j:Int))
def oX(l:List Nat):List al:=l.map λq=>aa q 128 (oW h (-1))
def nP(m:Nat)(C:bO)(l:List Po.nl):List al:=l.mapIdx λi x=>zV m x (C.box (i+1))
theorem aAp{h q:Nat}{l:List Nat}:lK h (l++[q])=lK h l++[aa q 128 (oW h (l.length:Int))]:=XD
theorem aAq{h q:Nat}{l:List Nat}:oX h (l++[q])=oX h l++[aa q 128 (oW h (-1))]:=oY
theorem aAo{l:List Po.nl}{x:Po.nl}:nP m C (l++[x])=nP m C l++[zV m x (C.box (l++[x]).length)]:=by
 rw[eZ];exact XD
def FG(C:bO):aq:=⟨jl C,⟨0,0,[]⟩,[],[],[],[],[],[],0,0,false,List.replicate (C.bc+C.cT+1) ⟨none,0,false⟩⟩
abbrev Ly(t:Int):dw:=⟨[],[],none,0,none,0,t⟩
theorem aAj{s:aq}(h:Th.start C P=some s):∃k O kx,P[0]?=some k/\Th.lf P k.name=some O/\O.states[0]?=some kx/\s={FG C with aE:=[kR 1 0 O kx.name],trace:=[({Th.cz with kind:=7,dc:=(1:Nat),cf:=(0:Nat),name:=k.name}:bG)]}:=by
 unfold Th.start at h;obtain⟨k,h1,h⟩:=ij.1 h;unfold Th.vB at h;obtain⟨O,h2,h⟩:=ij.1 h;obtain⟨kx,aN,h⟩:=ij.1 h;refine⟨k,O,kx,h1,h2,aN,?_⟩;split at h
 . obtain⟨_,rfl⟩:=Th.l8 h
   rfl
 . cases h
def Cx(C:bO)(P:List cr)(h m:Nat)(cN:kN)(db:Ck.oD)(bl:Nat)(F:List Po.nl)(KP:Option Addr)(KQ:Nat)(zD:Option Addr)(zE:Nat)(zF:Option Addr)(zG:Nat)(i:List Nat)(am dL ld cF:Nat)(bZ:Option Addr)(pc:Nat):cO:=
 ⟨C,P,h,m,cN,db,bl,λa=>F.getD (a -1) ⟨0,m,0,0⟩,KP,KQ,zD,zE,zF,zG,λj=>i.getD j 0,am,dL,ld,cF,bZ,pc⟩
theorem afE(c:l5):ab E 54 [.agg (sD c).toArray] [] (aH (.bool c.okB) []):=by
 refine av Tryz.func54 λH D=>?_;refine bb ?_;refine wn λar=>?_;refine ct ?_;refine aU (vG c.bc 1 8) ?_;refine aG ?_;refine mN (d:=10) 4 (.bool (fR 1 8 c.bc&&fR 1 4 c.cT)) ?_ (λb=>?_)
 rotate_left
 . refine hY rfl rfl (λW=>?_) (λW=>?_) rfl
   . have f:=bW W
     refine bR ?_;refine aU (vG c.cT 1 4) ?_;refine aG ?_;exact jo b
   . have f:=bW W
     simp only[iE];refine b2 ?_;exact jo b
 refine aG ?_;refine mN (d:=15) 4 (.bool (fR 1 8 c.bc&&fR 1 4 c.cT&&fR 1 16 c.aT)) ?_ (λa=>?_)
 rotate_left
 . refine hY rfl rfl (λM=>?_) (λM=>?_) rfl
   . have v:=bW M
     refine bR ?_;refine aU (vG c.aT 1 16) ?_;refine aG ?_;exact jo a
   . have v:=bW M
     simp only[iE];refine b2 ?_;exact jo a
 refine aG ?_;refine mN (d:=20) 4 (.bool (fR 1 8 c.bc&&fR 1 4 c.cT&&fR 1 16 c.aT&&fR 1 64 c.hW)) ?_ (λe=>?_)
 rotate_left
 . refine hY rfl rfl (λL=>?_) (λL=>?_) rfl
   . have F:=bW L
     refine bR ?_;refine aU (vG c.hW 1 64) ?_;refine aG ?_;exact jo e
   . have F:=bW L
     simp only[iE];refine b2 ?_;exact jo e
 refine aG ?_;refine mN (d:=25) 4 (.bool (fR 1 8 c.bc&&fR 1 4 c.cT&&fR 1 16 c.aT&&fR 1 64 c.hW&&fR 0 64 c.dO)) ?_ (λg=>?_)
 rotate_left
 . refine hY rfl rfl (λf9=>?_) (λf9=>?_) rfl
   . have Z:=bW f9
     refine bR ?_;refine aU (vG c.dO 0 64) ?_;refine aG ?_;exact jo g
   . have Z:=bW f9
     simp only[iE];refine b2 ?_;exact jo g
 refine aG ?_;refine mN (d:=30) 4 (.bool (fR 1 8 c.bc&&fR 1 4 c.cT&&fR 1 16 c.aT&&fR 1 64 c.hW&&fR 0 64 c.dO&&fR 1 16 c.mB)) ?_ (λh=>?_)
 rotate_left
 . refine hY rfl rfl (λw=>?_) (λw=>?_) rfl
   . have m7:=bW w
     refine bR ?_;refine aU (vG c.mB 1 16) ?_;refine aG ?_;exact jo h
   . have m7:=bW w
     simp only[iE];refine b2 ?_;exact jo h
 refine aG ?_;refine mN (d:=35) 4 (.bool (fR 1 8 c.bc&&fR 1 4 c.cT&&fR 1 16 c.aT&&fR 1 64 c.hW&&fR 0 64 c.dO&&fR 1 16 c.mB&&fR 1 64 c.eX)) ?_ (λn=>?_)
 rotate_left
 . refine hY rfl rfl (λl=>?_) (λl=>?_) rfl
   . have rt:=bW l
     refine bR ?_;refine aU (vG c.eX 1 64) ?_;refine aG ?_;exact jo n
   . have rt:=bW l
     simp only[iE];refine b2 ?_;exact jo n
 refine aG ?_;refine mN (d:=40) 4 (.bool (fR 1 8 c.bc&&fR 1 4 c.cT&&fR 1 16 c.aT&&fR 1 64 c.hW&&fR 0 64 c.dO&&fR 1 16 c.mB&&fR 1 64 c.eX&&fR 1 64 c.iS)) ?_ (λi=>?_)
 rotate_left
 . refine hY rfl rfl (λm=>?_) (λm=>?_) rfl
   . have m8:=bW m
     refine bR ?_;refine aU (vG c.iS 1 64) ?_;refine aG ?_;exact jo i
   . have m8:=bW m
     simp only[iE];refine b2 ?_;exact jo i
 refine aG ?_;refine mN (d:=45) 4 (.bool (fR 1 8 c.bc&&fR 1 4 c.cT&&fR 1 16 c.aT&&fR 1 64 c.hW&&fR 0 64 c.dO&&fR 1 16 c.mB&&fR 1 64 c.eX&&fR 1 64 c.iS&&fR 0 64 c.c6)) ?_ (λj=>?_)
 rotate_left
 . refine hY rfl rfl (λq=>?_) (λq=>?_) rfl
   . have pi:=bW q
     refine bR ?_;refine aU (vG c.c6 0 64) ?_;refine aG ?_;exact jo j
   . have pi:=bW q
     simp only[iE];refine b2 ?_;exact jo j
 refine bE ?_;exact aQ cj
theorem aAx(K:List cr)(a2:al)(c:l5)(h:c.okB=false):ab E 28 [.agg (sD c).toArray,.agg #[.slice bZ K.length pc]] [a2] (λu I=>∃b,u=.tuple #[.pointer none,.iface 131 (ptr b 0)]/\I=[aa b 134 [af 1,.slice none 0 0],a2]):=by
 refine afD ?_;intro H D V ay;refine nI ?_;refine b2 ?_;refine wn λa=>?_;refine aB rfl (jR Tryz.underlying131 rfl rfl) ?_;refine ct ?_;exact aQ ⟨a,rfl,rfl⟩
theorem aAy(K:List cr)(a2:al)(c:l5)(h:c.okB=true)(c5:Nat->al)(LE:ab E 55 Jn [a2] (λu I=>∃b,u=.iface 131 (ptr b 0)/\I=[c5 b,a2])):ab E 28 [.agg (sD c).toArray,.agg #[.slice bZ K.length pc]] [a2] (λu I=>∃b,u=.tuple #[.pointer none,.iface 131 (ptr b 0)]/\I=[c5 b,a2]):=by
 refine afD ?_;intro H D V ay;refine og ?_;refine bj ?_;refine bu (LE) ?_;rintro _ _ ⟨b,rfl,rfl⟩;refine eM ?_;refine bj ?_;refine Qu ?_;refine bb ?_;refine nI ?_;refine dh ?_;exact aQ ⟨b,rfl,rfl⟩
theorem aAk(h:C.ok):(rq C).okB=true:=by
 simp only[l5.okB,fR,iy,ln];dsimp only[rq];have:=h.aG;have:=h.bQ;have:=h.h1;have:=h.bA;have:=h.cu;have:=h.hd;have:=h.m1;have:=h.m64;have:=h.pJ;have:=h.ar;have:=h.Gt;have:=h.d1;have:=h.d64;have:=h.i1;have:=h.i64;have:=h.sQ;omega
theorem aAm{fL Y:cr}(aA:J.map dQ=(K.take J.length).map dQ)(i8:K[J.length]?=some fL)(R:dQ Y=dQ fL):(J++[Y]).map dQ=(K.take (J++[Y]).length).map dQ:=by
 obtain⟨d4,e⟩:=dp.1 i8;rw[oY,aA,eZ,aAz,nv d4,oY,e];simp[R]
theorem akm(aA:J.map dQ=K.map dQ)(mp:(K.map dQ)[0]?=some k):0<J.length:=by
 have h1:=(dp.1 mp).1;rw[o9]at h1;have:=congrArg List.length aA;simp only[o9]at this;omega
theorem aAr{fG:cr}(aA:J.map dQ=K.map dQ)(mp:(K.map dQ)[0]?=some k)(mt:J[0]?=some fG):fG.name=k.name:=by
 rw[<-aA,fD,mt]at mp;cases mp;rfl
theorem aAu{n:cG}{O:cr}(pm:∀k∈K,lL k)(ba:Th.lf pS n=some O):lL O:=by
 have bf:=qT ba;obtain⟨k,hk,rfl⟩:=lN.1 bf;have y:∀s:fU,jm (jm s)=jm s:=λs=>by
  simp only[jm,wN];congr 1
 have aA:dQ (dQ k)=dQ k:=by
  simp only[dQ,wN];congr 1;exact akn λs _=>y s
 exact Tc aA.symm (pm k hk)
theorem aAt{h m:Nat}{cN:kN}{db:Ck.oD}{bl:Nat}{l:List Po.nl}{d f u:Option Addr}{e g v:Nat}{i:List Nat}{am dL ld cF:Nat}{a:Option Addr}{c:Nat}{t:Int}(m9:cN.m=m)(hw:db.m=m)(pp:∀x∈l,x.m=m):bJ (Cx C P h m cN db bl l d e f g u v i am dL ld cF a c) (Ly t) (FG C):=by
 refine⟨m9,hw,λb=>?_,rfl,rfl⟩;show(l.getD (b -1) _).m=m;rw[iW];cases ah:l[b -1]?with
 |none=>rfl
 |some x=>exact pp x y5
theorem aAs{n p r Z ld cF m bl:Nat}{cN:kN}{db:Ck.oD}{l:List Po.nl}{a d f u:Option Addr}{c e g v:Nat}{ws ai:List Nat}{t:Int}{D:List al}(T:J.length=K.length)(aA:J.map dQ=K.map dQ)(m9:cN.m=m)(hw:db.m=m)(pp:∀x∈l,x.m=m)(i9:l.length=C.aT)(m2:ws.length=C.bc)(Fn:ai.length=C.cT)(cV:K.length<=8):
 ∀h,Sat ([aa n 108 (ms C (.slice a J.length c) (ptr m 0) (ptr cN.c 0) (ptr db.c 0) (ptr bl 0) (.slice d l.length e) p r ld cF (.slice f ws.length g) (.slice u ai.length v) (ptr Z 0)),aa Z 128 (oW n (-1)),own (.slice u ai.length v) 106 1 ai.length (ai.map λq=>ptr q 0),ao (oX n ai),own (.slice f ws.length g) 106 1 ws.length (ws.map λq=>ptr q 0),ao (lK n ws),own (.slice d l.length e) 116 1 l.length (l.map λx=>ptr x.br 0),ao (nP m C l),bz m (jl C) t,own (.slice a J.length c) 78 5 J.length (J.flatMap eH),ns J,eW [fG cN C.bC,b8 cN C.bC,hU cN C.bC,ez cN C.bC,ao (k5 cN C.bC)],eW [Ck.fv db C.df,fs db.r m (C.df.b+1) C.df.n,fw db.wp ⟨0,0,[]⟩],dy bl m C.bl C.aT,eD p (.map #[] 0),eD r (.map #[] 0),Lg.cY ld [],dz cF C.c6 []]++D) h->Sat (bh (Cx C (K.map dQ) n m cN db bl l d e f g u v (ws++ai++[Z]) p r ld cF a c) (Ly t) (FG C)++D) h:=λh s=>by
 obtain⟨X,b⟩:∃X,X=(Cx C (K.map dQ) n m cN db bl l d e f g u v (ws++ai++[Z]) p r ld cF a c):=⟨_,rfl⟩;have L:X.C=C:=IC;have M:X.m=m:=IC;have N:∀i,(ak:i<l.length)->X.br (i+1)=l[i]:=λi ak=>by
  rw[b];show l.getD (i+1 -1) _=_;rw[FH,iW,cD ak];rfl
 have O:dd X=nP m C l:=by
  unfold nP dd;rw[L];refine uQ λi=>?_;rw[fD,sF];by_cases ak:i<C.aT
  . rw[uZ ak,cD ad]
    show some (xo X (i+1))=some (zV m l[i] (C.box (i+1)));unfold xo zV;rw[N i ad,L,M]
  . rw[oJ yV,oJ ad];rfl
 have R:((List.range C.aT).map λi=>ptr (X.br (i+1)).br 0)=l.map λx=>ptr x.br 0:=by
  rw[b];refine uQ λi=>?_;rw[fD,fD];by_cases ak:i<C.aT
  . rw[uZ ak,cD ad]
    show some (ptr (l.getD (i+1 -1) _).br 0)=some (ptr l[i].br 0);rw[FH,iW,cD ad];rfl
  . rw[oJ yV,oJ ad];rfl
 have z:∀i,X.bp i=(ws++ai++[Z]).getD i 0:=λi=>by rw[b];rfl
 have Q:((List.range C.bc).map λi=>ptr (X.bp i) 0)=ws.map λq=>ptr q 0:=by
  refine uQ λi=>?_;rw[fD,fD];by_cases ak:i<C.bc
  . rw[uZ ak,cD ad]
    show some (ptr (X.bp i) 0)=_;rw[z,jI,iW,kY ad,cD ad];rfl
  . rw[oJ yV,oJ ad];rfl
 have G:((List.range C.cT).map λi=>ptr (X.bp (C.bc+i)) 0)=ai.map λq=>ptr q 0:=by
  refine uQ λi=>?_;rw[fD,fD];by_cases ak:i<C.cT
  . rw[uZ ak,cD ad]
    show some (ptr (X.bp (C.bc+i)) 0)=_;rw[z,jI,iW,py ad,m2,F4,kY ad,cD ad];rfl
  . rw[oJ yV,oJ ad];rfl
 have cQ:X.bp (C.bc+C.cT)=Z:=by
  rw[z,iW,py (by rw[eZ];omega),eZ,m2,Fn,xZ];rfl
 have A:cK X [] [] (List.replicate (C.bc+C.cT+1) ⟨none,0,false⟩)=lK n ws++oX n ai++[aa Z 128 (oW n (-1))]:=by
  have H:X.C.bc=C.bc:=IC;have I:X.h=n:=IC;refine uQ λi=>?_;rw[sF,S3];by_cases h1:i<C.bc
  . rw[bg ad,jI,kY (by simp[lK];omega)]
    unfold lK;rw[sF,cD ad];show some (aa (X.bp i) _ [ptr X.h 0,af (jV X i),_,_,_,_])=some (aa _ _ _);rw[z,jI,iW,kY ad,cD ad,I];unfold jV;rw[H,bg h1];rfl
  . by_cases h2:i<C.bc+C.cT
    . rw[bg ad,jI,py (by simp[lK];omega),kY (by simp[lK,oX]<;>omega)]
      unfold oX lK;rw[fD,KR,cD ad];show some (aa (X.bp i) _ [ptr X.h 0,af (jV X i),_,_,_,_])=some (aa _ _ _);rw[z,jI,iW,py ad,kY ad,cD ad,I];unfold jV;rw[H,a7 h1];rfl
    . by_cases aN:i=C.bc+C.cT
      . subst aN
        rw[bg ad,py (by simp[lK,oX]<;>omega)];rw[show C.bc+C.cT -(lK n ws++oX n ai).length=0 by simp[lK,oX]<;>omega];show some (aa (X.bp (C.bc+C.cT)) _ [ptr X.h 0,af (jV X (C.bc+C.cT)),_,_,_,_])=some (aa _ _ _);rw[cQ,I];unfold jV;rw[H,a7 h1]
      . rw[a7 ad,oJ];rfl;simp[lK,oX];omega
 have j:J.map dQ=X.P.map dQ:=by
  rw[aA,b];show K.map dQ=(K.map dQ).map dQ;rw[wN];refine akn λk _=>?_;have y:∀s:fU,jm (jm s)=jm s:=λs=>by
   simp only[jm,wN];congr 1
  show dQ k=dQ (dQ k);simp only[dQ,wN];congr 1;exact(akn λs _=>y s).symm
 have S:J.length=(K.map dQ).length:=by rw[o9,T]
 have s1:=(show∀h,Sat _ h->Sat (own (.slice a J.length c) 78 5 J.length (J.flatMap eH)::ns J::aa n 108 (ms C (.slice a J.length c) (ptr m 0) (ptr cN.c 0) (ptr db.c 0) (ptr bl 0) (.slice d l.length e) p r ld cF (.slice f ws.length g) (.slice u ai.length v) (ptr Z 0))::aa Z 128 (oW n (-1))::own (.slice u ai.length v) 106 1 ai.length (ai.map λq=>ptr q 0)::ao (oX n ai)::own (.slice f ws.length g) 106 1 ws.length (ws.map λq=>ptr q 0)::ao (lK n ws)::own (.slice d l.length e) 116 1 l.length (l.map λx=>ptr x.br 0)::ao (nP m C l)::bz m (jl C) t::eW [fG cN C.bC,b8 cN C.bC,hU cN C.bC,ez cN C.bC,ao (k5 cN C.bC)]::eW [Ck.fv db C.df,fs db.r m (C.df.b+1) C.df.n,fw db.wp ⟨0,0,[]⟩]::dy bl m C.bl C.aT::eD p (.map #[] 0)::eD r (.map #[] 0)::Lg.cY ld []::dz cF C.c6 []::D) h from(au)) h s;have cb:=aAv (by unfold fi;omega) h s1;have ce:=Sat.head (B:=eO X) (λh o=>⟨J,j,by rw[b];exact o⟩) cb;have Y:=(show∀h,Sat _ h->Sat (aa Z 128 (oW n (-1))::ao (lK n ws)::ao (oX n ai)::eO X::aa n 108 (ms C (.slice a J.length c) (ptr m 0) (ptr cN.c 0) (ptr db.c 0) (ptr bl 0) (.slice d l.length e) p r ld cF (.slice f ws.length g) (.slice u ai.length v) (ptr Z 0))::own (.slice u ai.length v) 106 1 ai.length (ai.map λq=>ptr q 0)::own (.slice f ws.length g) 106 1 ws.length (ws.map λq=>ptr q 0)::own (.slice d l.length e) 116 1 l.length (l.map λx=>ptr x.br 0)::ao (nP m C l)::bz m (jl C) t::eW [fG cN C.bC,b8 cN C.bC,hU cN C.bC,ez cN C.bC,ao (k5 cN C.bC)]::eW [Ck.fv db C.df,fs db.r m (C.df.b+1) C.df.n,fw db.wp ⟨0,0,[]⟩]::dy bl m C.bl C.aT::eD p (.map #[] 0)::eD r (.map #[] 0)::Lg.cY ld []::dz cF C.c6 []::D) h from(au)) h ce;have E:=tw h (Sat.tail (λh F=>aAw h F) Y);rw[<-A]at E;have U:=Bh (d9:=.i64) h (Sat.tail (λh F=>Bh (d9:=.u64) h F) ((show∀h,Sat _ h->Sat (eD p (.map #[] 0)::eD r (.map #[] 0)::ao (cK X [] [] (List.replicate (C.bc+C.cT+1) ⟨none,0,false⟩))::eO X::aa n 108 (ms C (.slice a J.length c) (ptr m 0) (ptr cN.c 0) (ptr db.c 0) (ptr bl 0) (.slice d l.length e) p r ld cF (.slice f ws.length g) (.slice u ai.length v) (ptr Z 0))::own (.slice u ai.length v) 106 1 ai.length (ai.map λq=>ptr q 0)::own (.slice f ws.length g) 106 1 ws.length (ws.map λq=>ptr q 0)::own (.slice d l.length e) 116 1 l.length (l.map λx=>ptr x.br 0)::ao (nP m C l)::bz m (jl C) t::eW [fG cN C.bC,b8 cN C.bC,hU cN C.bC,ez cN C.bC,ao (k5 cN C.bC)]::eW [Ck.fv db C.df,fs db.r m (C.df.b+1) C.df.n,fw db.wp ⟨0,0,[]⟩]::dy bl m C.bl C.aT::Lg.cY ld []::dz cF C.c6 []::D) h from(au)) h E));have w:=jc (e:=38) (aZ:=9) h (jc (e:=261) (aZ:=3) h (wK h (wK h U)));rw[<-O,<-R,<-Q,<-G,i9,m2,Fn,S,<-cQ]at w;subst b;exact(show∀h,Sat _ h->Sat (bh (Cx C (K.map dQ) n m cN db bl l d e f g u v (ws++ai++[Z]) p r ld cF a c) (Ly t) (FG C)++D) h from by simp only[ck,ci];exact(au)) h w
end
end Go.Proofs.YtnnhpnccfnghdaaGreat.L.bM
namespace Go.Proofs.YtnnhpnccfnghdaaGreat.L.bM
open Go.Proofs.YtnnhpnccfnghdaaGreat.L
open Go.L Go.L.Lx Go.L.Pg Go.RowKit Go.Deep
open Go.L.Th (bO dA)
attribute[local irreducible] G cJ GE c3 GT b1 dk c7 ds Exit.then Exit.inBlock
section
variable{H:Type}{enc:TypeId×Value->H}{P:Program}{w:World}{F:Nat}{D:Nat->Bool}{held:Bool}
theorem ahx{t n k:Nat}{cs:List Value}{y:DataW H×List MemPlace}{bY:Nat}(a6:P.cellsOf t=k)(h:DataW.trod enc P w F D held n t Eo=some y):DataW.trod enc P w F D held n t ((cs.drop bY).take k)=some y:=by rw[a6]at h;exact h
end
def apy{W:World}{a:Option Addr}{c n:Nat}{xs:List Value}(p:jd (fW W) a c n xs):∀h,base W h->jd h a c n xs:=λh aA=>⟨p.1.imp λb o e=>by
 have d4:b<W.heap.size:=by
  rcases rY b W.heap.size with x|x
  . exact x
  . rw[show fW W b=W.heap[b]?from rfl,G6 x]at e;cases e
 rw[aA b d4];exact e,p.2⟩
instance:Inhabited dA:=⟨⟨0,0,0,[],0⟩⟩
def atD{H:Type}{enc:TypeId×Value->H}{w:World}{F:Nat}{D:Nat->Bool}{held:Bool}(n:Nat)(cs:List Value)(d:DataW H×List MemPlace)(h:DataW.trod enc E w F D held n 60 cs=some d)(R:l4 E 60 d.1):∃q,cs=hR q/\fi q.tag.length:=by
 obtain⟨xs,m,_,rfl,aw,hlen,ba⟩:=DataW.trod_struct Tryz.underlying60 h;rw[show E.cellsOf 60=5 by kernel_rfl]at aw;replace hlen:xs.length=5:=hlen;obtain⟨eA,c1,bq,b7,d8,rfl⟩:∃eA c1 bq b7 d8,cs=[eA,c1,bq,b7,d8]:=Ze;obtain⟨b,g⟩:∃y,xs[0]?=some y:=⟨_,cD ad⟩;have f0:=(ba 0 _ rfl).trans g;have l:=ic (i:=0) Tryz.underlying60 R rfl (show(xs.map (·.1))[0]?=some b.1 by rw[fD,g];rfl);obtain⟨a,W⟩:∃y,xs[1]?=some y:=⟨_,cD ad⟩;have f1:=(ba 1 _ rfl).trans W;have aG:=ic (i:=1) Tryz.underlying60 R rfl (show(xs.map (·.1))[1]?=some a.1 by rw[fD,W];rfl);obtain⟨f,cU⟩:∃y,xs[2]?=some y:=⟨_,cD ad⟩;have f2:=(ba 2 _ rfl).trans cU;have bb:=ic (i:=2) Tryz.underlying60 R rfl (show(xs.map (·.1))[2]?=some f.1 by rw[fD,cU];rfl);obtain⟨j,em⟩:∃y,xs[3]?=some y:=⟨_,cD ad⟩;have f3:=(ba 3 _ rfl).trans em;have b2:=ic (i:=3) Tryz.underlying60 R rfl (show(xs.map (·.1))[3]?=some j.1 by rw[fD,em];rfl);obtain⟨t,gc⟩:∃y,xs[4]?=some y:=⟨_,cD ad⟩;have f4:=(ba 4 _ rfl).trans gc;have bR:=ic (i:=4) Tryz.underlying60 R rfl (show(xs.map (·.1))[4]?=some t.1 by rw[fD,gc];rfl);obtain⟨v0,rfl⟩:=lE Tryz.underlying3 (show E.cellsOf 3=1 by kernel_rfl) f0 rfl;obtain⟨v1,rfl⟩:=lE Tryz.underlying3 (show E.cellsOf 3=1 by kernel_rfl) f1 rfl;obtain⟨u,rfl⟩:=lE Tryz.underlying3 (show E.cellsOf 3=1 by kernel_rfl) f2 rfl;obtain⟨v3,rfl,hU⟩:=Go.Proofs.YtnnhpnccfnghdaaGreat.L.ik Tryz.underlying9 (show E.cellsOf 9=1 by kernel_rfl) f3 b2 rfl;obtain⟨v4,rfl⟩:=lE Tryz.underlying3 (show E.cellsOf 3=1 by kernel_rfl) f4 rfl;exact⟨⟨v0,v1,u,v3,v4⟩,rfl,hU⟩
def atE{H:Type}{enc:TypeId×Value->H}{w:World}{F:Nat}{D:Nat->Bool}{held:Bool}(n:Nat)(cs:List Value)(d:DataW H×List MemPlace)(h:DataW.trod enc E w F D held n 23 cs=some d)(R:l4 E 23 d.1):∃q,cs=sD q:=by
 obtain⟨xs,m,_,rfl,aw,hlen,ba⟩:=DataW.trod_struct Tryz.underlying23 h;rw[show E.cellsOf 23=9 by kernel_rfl]at aw;replace hlen:xs.length=9:=hlen;obtain⟨eA,c1,bq,b7,d8,fd,gt,S,c,rfl⟩:∃eA c1 bq b7 d8 fd gt S c,cs=[eA,c1,bq,b7,d8,fd,gt,S,c]:=by match cs,aw with|[eA,c1,bq,b7,d8,fd,gt,S,c],_=>exact⟨_,_,_,_,_,_,_,_,_,rfl⟩
 obtain⟨b,g⟩:∃y,xs[0]?=some y:=⟨_,cD ad⟩;have f0:=(ba 0 _ rfl).trans g;have l:=ic (i:=0) Tryz.underlying23 R rfl (show(xs.map (·.1))[0]?=some b.1 by rw[fD,g];rfl);obtain⟨a,W⟩:∃y,xs[1]?=some y:=⟨_,cD ad⟩;have f1:=(ba 1 _ rfl).trans W;have aG:=ic (i:=1) Tryz.underlying23 R rfl (show(xs.map (·.1))[1]?=some a.1 by rw[fD,W];rfl);obtain⟨f,cU⟩:∃y,xs[2]?=some y:=⟨_,cD ad⟩;have f2:=(ba 2 _ rfl).trans cU;have bb:=ic (i:=2) Tryz.underlying23 R rfl (show(xs.map (·.1))[2]?=some f.1 by rw[fD,cU];rfl);obtain⟨j,em⟩:∃y,xs[3]?=some y:=⟨_,cD ad⟩;have f3:=(ba 3 _ rfl).trans em;have b2:=ic (i:=3) Tryz.underlying23 R rfl (show(xs.map (·.1))[3]?=some j.1 by rw[fD,em];rfl);obtain⟨t,gc⟩:∃y,xs[4]?=some y:=⟨_,cD ad⟩;have f4:=(ba 4 _ rfl).trans gc;have bR:=ic (i:=4) Tryz.underlying23 R rfl (show(xs.map (·.1))[4]?=some t.1 by rw[fD,gc];rfl);obtain⟨o,hm⟩:∃y,xs[5]?=some y:=⟨_,cD ad⟩;have f5:=(ba 5 _ rfl).trans hm;have bE:=ic (i:=5) Tryz.underlying23 R rfl (show(xs.map (·.1))[5]?=some o.1 by rw[fD,hm];rfl);obtain⟨r,G⟩:∃y,xs[6]?=some y:=⟨_,cD ad⟩;have f6:=(ba 6 _ rfl).trans G;have bj:=ic (i:=6) Tryz.underlying23 R rfl (show(xs.map (·.1))[6]?=some r.1 by rw[fD,G];rfl);obtain⟨v,Q⟩:∃y,xs[7]?=some y:=⟨_,cD ad⟩;have f7:=(ba 7 _ rfl).trans Q;have ct:=ic (i:=7) Tryz.underlying23 R rfl (show(xs.map (·.1))[7]?=some v.1 by rw[fD,Q];rfl);obtain⟨x,s⟩:∃y,xs[8]?=some y:=⟨_,cD ad⟩;have f8:=(ba 8 _ rfl).trans s;have bQ:=ic (i:=8) Tryz.underlying23 R rfl (show(xs.map (·.1))[8]?=some x.1 by rw[fD,s];rfl);obtain⟨v0,rfl⟩:=lE Tryz.underlying3 (show E.cellsOf 3=1 by kernel_rfl) f0 rfl;obtain⟨v1,rfl⟩:=lE Tryz.underlying3 (show E.cellsOf 3=1 by kernel_rfl) f1 rfl;obtain⟨u,rfl⟩:=lE Tryz.underlying3 (show E.cellsOf 3=1 by kernel_rfl) f2 rfl;obtain⟨v3,rfl⟩:=lE Tryz.underlying3 (show E.cellsOf 3=1 by kernel_rfl) f3 rfl;obtain⟨v4,rfl⟩:=lE Tryz.underlying3 (show E.cellsOf 3=1 by kernel_rfl) f4 rfl;obtain⟨v5,rfl⟩:=lE Tryz.underlying3 (show E.cellsOf 3=1 by kernel_rfl) f5 rfl;obtain⟨e,rfl⟩:=lE Tryz.underlying3 (show E.cellsOf 3=1 by kernel_rfl) f6 rfl;obtain⟨k,rfl⟩:=lE Tryz.underlying3 (show E.cellsOf 3=1 by kernel_rfl) f7 rfl;obtain⟨p,rfl⟩:=lE Tryz.underlying3 (show E.cellsOf 3=1 by kernel_rfl) f8 rfl;exact⟨⟨v0,v1,u,v3,v4,v5,e,k,p⟩,rfl⟩
def apu{H:Type}{enc:TypeId×Value->H}{w:World}{F:Nat}{D:Nat->Bool}{held:Bool}(n:Nat)(cs:List Value)(d:DataW H×List MemPlace)(h:DataW.trod enc E w F D held n 57 cs=some d)(R:l4 E 57 d.1):∃(q:l5) (bZ:Option Addr) (pc:Nat) (K:List cr) (ea:Option Addr) (cZ:Nat) (es:List dA) (r:Int),cs=sD q++[.slice bZ K.length pc,.slice ea es.length cZ,af r]/\h8 (fW w) bZ pc K/\jd (fW w) ea cZ es.length w1/\fi (es.length*48)/\∀e∈es,fi e.tag.length:=by
 obtain⟨xs,m,_,rfl,aw,hlen,ba⟩:=DataW.trod_struct Tryz.underlying57 h;rw[show E.cellsOf 57=12 by kernel_rfl]at aw;replace hlen:xs.length=4:=hlen;obtain⟨eA,c1,bq,b7,d8,fd,gt,S,c,o,k,p,rfl⟩:∃eA c1 bq b7 d8 fd gt S c o k p,cs=[eA,c1,bq,b7,d8,fd,gt,S,c,o,k,p]:=by match cs,aw with|[eA,c1,bq,b7,d8,fd,gt,S,c,o,k,p],_=>exact⟨_,_,_,_,_,_,_,_,_,_,_,_,rfl⟩
 obtain⟨b,g⟩:∃y,xs[0]?=some y:=⟨_,cD ad⟩;have f0:=(ba 0 _ rfl).trans g;have l:=ic (i:=0) Tryz.underlying57 R rfl (show(xs.map (·.1))[0]?=some b.1 by rw[fD,g];rfl);obtain⟨a,W⟩:∃y,xs[1]?=some y:=⟨_,cD ad⟩;have f1:=(ba 1 _ rfl).trans W;have aG:=ic (i:=1) Tryz.underlying57 R rfl (show(xs.map (·.1))[1]?=some a.1 by rw[fD,W];rfl);obtain⟨f,cU⟩:∃y,xs[2]?=some y:=⟨_,cD ad⟩;have f2:=(ba 2 _ rfl).trans cU;have bb:=ic (i:=2) Tryz.underlying57 R rfl (show(xs.map (·.1))[2]?=some f.1 by rw[fD,cU];rfl);obtain⟨j,em⟩:∃y,xs[3]?=some y:=⟨_,cD ad⟩;have f3:=(ba 3 _ rfl).trans em;have b2:=ic (i:=3) Tryz.underlying57 R rfl (show(xs.map (·.1))[3]?=some j.1 by rw[fD,em];rfl);obtain⟨q,gJ⟩:=atE _ _ _ (ahx (show E.cellsOf 23=9 by kernel_rfl) f0) l;obtain⟨bZ,pc,K,aC,dg⟩:=atC _ _ _ (ahx (show E.cellsOf 26=1 by kernel_rfl) f1) aG;obtain⟨ea,cZ,es,rfl,s,X,lD⟩:=BW hR (λe:dA=>fi e.tag.length) (λ_=>rfl) (λn cs d h w=>atD n cs d h w) Tryz.underlying27 (show E.cellsOf 60=5 by kernel_rfl) bw (show E.bytesOf 60=48 by kernel_rfl) (show E.cellsOf 27=1 by kernel_rfl) f2 bb rfl;obtain⟨v3,rfl⟩:=lE Tryz.underlying3 (show E.cellsOf 3=1 by kernel_rfl) f3 rfl;refine⟨q,bZ,pc,K,ea,cZ,es,v3,?_,dg,lD,X,s⟩;replace gJ:[eA,c1,bq,b7,d8,fd,gt,S,c]=sD q:=gJ;replace aC:[o]=BH:=aC;simp only[List.cons.injEq,and_true]at aC;obtain rfl:=aC;rw[<-gJ];rfl
end Go.Proofs.YtnnhpnccfnghdaaGreat.L.bM
namespace Go.Proofs.YtnnhpnccfnghdaaGreat.L.bM
open Go.Proofs.YtnnhpnccfnghdaaGreat.L
open Go.L Go.L.Ring Go.L.dD Go.L.ej Go.L.Whl Go.L.dP Go.L.Lx Go.L.Pg
open Go.L.Led (du dH dW bm aw fo)
open Go.L.Th (bO c0 dn bG dE bU b3 e4 b0 aq most dY cS fp eR dZ In cX c9 eS bB bP eT eU bn cI dF go bo Good ei eV ec acc Inv eG e5 fj busy dA eC eh fr)
attribute[local irreducible] G cJ GE c3 GT b1 dk c7 ds Exit.then Exit.inBlock
structure Std where
 x:bU
 xL:cG
 sa:Option Addr
 sc:Nat
 ka:Option Addr
 kc:Nat
 b4:Option Addr
 b5:Nat
 Tw:Option Addr
 Tx:Nat
abbrev pZ(F:Std):List Value:=[af F.x.id,af F.x.parent,S F.xL,S F.x.state,af F.x.mode,.slice F.sa 4 F.sc,hE F.ka F.kc F.x.kids,ul F.b4 F.b5 F.x.aside,ul F.Tw F.Tx F.x.front.reverse]
section
variable(F:Std){C:bO}{P:List cr}{n:Nat}{s:aq}
abbrev FI:al:=own (.slice F.sa 4 F.sc) 3 1 4 (iF [F.x.slots.getD 0 0,F.x.slots.getD 1 0,F.x.slots.getD 2 0,F.x.slots.getD 3 0])
def rG:al:=eW [FI F,dj F.ka F.kc F.x.kids,fH F.b4 F.b5 F.x.aside,fH F.Tw F.Tx F.x.front.reverse]
structure FJ(s:aq)(V:List Std):Prop where
 xs:V.map (·.x)=s.aE.take V.length
 xL:∀F∈V,F.xL=F.x.kind.name
 le:V.length<=s.aE.length
def FJ.next{V:List Std}{F:Std}(h:FJ s V)(ah:s.aE[V.length]?=some F.x)(hk:F.xL=F.x.kind.name):FJ s (V++[F]):=by
 obtain⟨d4,e⟩:=dp.1 ah;refine⟨?_,λy ag=>?_,by rw[eZ];exact d4⟩
 . rw[oY,h.xs,eZ,aAz,nv d4,e];rfl
 . rcases kX.1 ag with ag|ag
   . exact h.xL y ag
   . simp at ag;subst ag;exact hk
structure akr(x:bU):Prop where
 slots:x.slots.length=4
 kids:x.kids.length<=most
 aside:x.aside.length<=most
 front:x.front.length<=most
def aAF(X:cO)(z:dw)(s:aq)(aj:bJ X z s)(cy:∀i x,s.aE[i]?=some x->x.id=i+1)(aO:s.aE.length<=X.C.aT)(n:X.C.aT<=16)(O:∀x∈s.aE,akr x):ab E 19 [ptr X.h 0] (bh X z s) (λu I=>∃(a:Option Addr) (c:Nat) (V:List Std),u=.slice a V.length c/\V.map (·.x)=s.aE/\(∀F∈V,F.xL=F.x.kind.name)/\I=own (.slice a V.length c) 51 9 V.length (V.flatMap pZ)::ao (V.map rG)::bh X z s):=by
 refine av Tryz.func19 λH D=>?_;have Id:=aj.ap;refine eY ?_;refine bb ?_;refine hb (bv:=(Option Addr×Nat)×List Std) (λF=>FJ s F.2) (λF=>[(4,af ((F.2.length+1:Nat):Int)),(3,.slice F.1.1 F.2.length F.1.2),(0,ptr X.h 0)]) (λF=>own (.slice F.1.1 F.2.length F.1.2) 51 9 F.2.length (F.2.flatMap pZ)::ao (F.2.map rG)::cp X z s::di z.b4 z.b5 s.trace::dX z.na z.dT s.notes::bs X.am .i64 (bD z.ap)::ao (dI X z.ap s.aE)::bs X.dL .u64 (bD z.ae)::ao (eB z.ae s.lets)::Lg.cY X.ld s.a8::dz X.cF X.C.c6 s.dead::bz X.m s.L z.tt::eo X::ee X s.bm::dy X.bl X.m X.C.bl X.C.aT::ao (dd X)::ef X::eL X::e7 X::eO X::ao (cK X z.ap z.ae s.ax)::D) (λF=>s.aE.length -F.2.length) ((none,0),[]) (⟨rfl,(λF T=>by cases T),fk _⟩) eb (λh s=>jc h (wK h ((au) h s))) ?_;rintro⟨⟨a,c⟩,V⟩ bK;replace bK:FJ s V:=bK;have o:=bK.le;dsimp only;refine bb ?_;rcases rY V.length s.aE.length with d4|N
 . refine bj ?_
   obtain⟨x,ah⟩:∃x,s.aE[V.length]?=some x:=⟨_,cD d4⟩;obtain⟨q,bt⟩:∃q,z.ap[V.length]?=some q:=⟨_,cD ad⟩;have B:At X z.ap s.aE (V.length+1) q x:=⟨by rw[FH];exact bt,by rw[FH];exact ah,cy _ _ ah,by omega⟩;have J:=O x (jH ah);obtain⟨er,s1,cb,ce,ai⟩:∃er s1 cb ce,x.slots=[er,s1,cb,ce]:=by
    match x.slots,J.slots with
    |[er,s1,cb,ce],_=>exact⟨er,s1,cb,ce,rfl⟩
   have mt:x.kids.length<=1099511627776:=J.kids;have M:x.aside.length<=1099511627776:=J.aside;have L:x.front.length<=1099511627776:=J.front;have K:=B.cy;refine aB rfl (lT (ptr q 0) (by rw[zI bt];rfl) rfl rfl) ?_;refine eY ?_;refine aB rfl (lT (ptr q 0) (by rw[zI bt];rfl) rfl rfl) ?_;refine b2 ?_;refine uW (l:=dI X z.ap s.aE) (i:=V.length) (A:=vr X q x) eP (by have bi:=B.ao;rwa[FH]at bi) ?_;refine kK eP (λe Y=>?_);simp only[B3,ck,ci];have md:e.bI.name=x.kind.name:=(ajx Y.bI).2.2;haveI:=sT (q:=q) (X:=X) (e:=e) ai;refine h0 [23,28,33,38,40,41] [23,28,33,38,40] [(0,.bL),(1,.bL),(2,.bL),(3,.bL),(4,.bL),(5,.bL),(6,.bL),(7,.bL),(8,.bL),(9,.bL),(10,.bL),(11,.bL),(12,.bL),(13,.bL),(14,.bL),(15,.bL),(16,.bL),(17,.bL),(18,.bL),(19,.loc),(20,.loc),(21,.loc),(22,.loc),(24,.bL),(25,.bL),(26,.bL),(27,.bL),(29,.bL),(30,.bL),(31,.bL),(32,.bL),(34,.bL),(35,.bL),(36,.bL),(37,.bL),(23,.da),(28,.da),(33,.da),(38,.da),(39,.loc),(40,.da),(41,.da),(42,.loc)] [aa q 118 (dS X x e),dj e.ka e.kc x.kids,fJ e.gp X.C.dO x.aside x.front] mixed hM ?_;refine dh ?_;refine go_vs rfl .none rfl (o_load (v:=S x.kind.name) rfl (by rw[<-md];rfl)) (au) ?_;refine c4 ?_;refine go_v rfl .none rfl (L2 Tryz.underlying111 ⟨_,rfl,rfl⟩ rfl) ?_;refine dB ?_;refine go_c rfl .none rfl (b9 rfl (EP (some ⟨q,8,none⟩) 4 4 (iF [er,s1,cb,ce]) (aa q 118 (dS X x e)) rfl rfl bw) bN) ?_;rintro _ D ⟨_,⟨b,d,rfl,rfl⟩,rfl⟩;refine fC ?_;rw[show own (.slice b 4 d) 3 1 4 (iF [er,s1,cb,ce])=FI ⟨x,x.kind.name,b,d,none,0,none,0,none,0⟩from by simp only[FI,ai];rfl];refine aG ?_;refine go_c rfl .none rfl (b9 rfl (EP e.ka e.kc x.kids.length (iF x.kids) (dj e.ka e.kc x.kids) (RA x.kids) (RB x.kids) ad) bN) ?_;rintro _ D ⟨_,⟨j,m,rfl,rfl⟩,rfl⟩;refine rL ?_;refine bu (ahP e.gp X.C.dO x.aside x.front M L) ?_;rintro _ _ ⟨p,r,rfl,rfl⟩;refine eM ?_;refine aG ?_;refine bu (aul e.gp X.C.dO x.aside x.front M L) ?_;rintro _ _ ⟨y,C,rfl,rfl⟩;refine eM ?_;refine aG ?_;refine go_v rfl .none rfl (ly (cs:=pZ ⟨x,x.kind.name,b,d,j,m,p,r,y,C⟩) rfl (by rw[<-K];rfl)) ?_;refine wn λR=>?_;refine aG ?_;refine gj λf g=>?_;refine ct ?_;refine aB rfl (fy ((V.length+1+1:Nat):Int) ff rfl rfl) ?_;refine bb ?_;obtain⟨F,T⟩:∃F:Std,F=⟨x,x.kind.name,b,d,j,m,p,r,y,C⟩:=⟨_,rfl⟩;refine gg ((f,g),(V++[F])) (bK.next (F:=F) (by rw[T];exact ah) (by rw[T])) (show s.aE.length -(V++[F]).length<s.aE.length -V.length by rw[eZ];show s.aE.length -(V.length+1)<_;omega) (bd.cons uP (bd.cons uP eb)) (λh t=>?_);dsimp only;have t1:=(show∀h,Sat _ h->Sat (FI ⟨x,x.kind.name,b,d,j,m,p,r,y,C⟩::dj j m x.kids::fH p r x.aside::fH y C x.front.reverse::ao (V.map rG)::own (.slice f (V.length+1) g) 51 9 (V.length+1) (V.flatMap pZ++pZ ⟨x,x.kind.name,b,d,j,m,p,r,y,C⟩)::aa q 118 (dS X x e)::dj e.ka e.kc x.kids::dj e.gQ e.gR x.cH::fJ e.gp X.C.dO x.aside x.front::gL e.iB (min (max e.bI.limit 0) 100) (min (max e.bI.within 1) 4095) x.given::bs e.gj .i64 (x.watched.map λw=>(w,.bool true))::ii e.iC (hD e.es)::ao (hV e.es)::gb e.bI::ao ((dI X z.ap s.aE).set V.length eJ)::cp X z s::di z.b4 z.b5 s.trace::dX z.na z.dT s.notes::bs X.am .i64 (bD z.ap)::bs X.dL .u64 (bD z.ae)::ao (eB z.ae s.lets)::Lg.cY X.ld s.a8::dz X.cF X.C.c6 s.dead::bz X.m s.L z.tt::eo X::ee X s.bm::dy X.bl X.m X.C.bl X.C.aT::ao (dd X)::ef X::eL X::e7 X::eO X::ao (cK X z.ap z.ae s.ax)::D) h from(au)) h t;rw[<-T]at t1;rw[show V.length+1=(V++[F]).length from by simp,show V.flatMap pZ++pZ F=(V++[F]).flatMap pZ from by simp]at t1;have i2:=cE (D:=ao (V.map rG)::own (.slice f (V++[F]).length g) 51 9 (V++[F]).length ((V++[F]).flatMap pZ)::aa q 118 (dS X x e)::dj e.ka e.kc x.kids::dj e.gQ e.gR x.cH::fJ e.gp X.C.dO x.aside x.front::gL e.iB (min (max e.bI.limit 0) 100) (min (max e.bI.within 1) 4095) x.given::bs e.gj .i64 (x.watched.map λw=>(w,.bool true))::ii e.iC (hD e.es)::ao (hV e.es)::gb e.bI::ao ((dI X z.ap s.aE).set V.length eJ)::cp X z s::di z.b4 z.b5 s.trace::dX z.na z.dT s.notes::bs X.am .i64 (bD z.ap)::bs X.dL .u64 (bD z.ae)::ao (eB z.ae s.lets)::Lg.cY X.ld s.a8::dz X.cF X.C.c6 s.dead::bz X.m s.L z.tt::eo X::ee X s.bm::dy X.bl X.m X.C.bl X.C.aT::ao (dd X)::ef X::eL X::e7 X::eO X::ao (cK X z.ap z.ae s.ax)::D) (bv:=Unit) (fO:=λ_=>True) (l:=λ_=>[FI F,dj F.ka F.kc F.x.kids,fH F.b4 F.b5 F.x.aside,fH F.Tw F.Tx F.x.front.reverse]) () trivial (λh t=>t) h (by subst T;exact t1);have t3:=tw (A:=rG F) h i2;rw[show V.map rG++[rG F]=(V++[F]).map rG by simp]at t3;have t4:=(show∀h,Sat _ h->Sat (B3 X q x e++(ao ((dI X z.ap s.aE).set V.length eJ)::own (.slice f (V++[F]).length g) 51 9 (V++[F]).length ((V++[F]).flatMap pZ)::ao ((V++[F]).map rG)::cp X z s::di z.b4 z.b5 s.trace::dX z.na z.dT s.notes::bs X.am .i64 (bD z.ap)::bs X.dL .u64 (bD z.ae)::ao (eB z.ae s.lets)::Lg.cY X.ld s.a8::dz X.cF X.C.c6 s.dead::bz X.m s.L z.tt::eo X::ee X s.bm::dy X.bl X.m X.C.bl X.C.aT::ao (dd X)::ef X::eL X::e7 X::eO X::ao (cK X z.ap z.ae s.ax)::D)) h from(au)) h t3;have t5:=ajn (D:=own (.slice f (V++[F]).length g) 51 9 (V++[F]).length ((V++[F]).flatMap pZ)::ao ((V++[F]).map rG)::cp X z s::di z.b4 z.b5 s.trace::dX z.na z.dT s.notes::bs X.am .i64 (bD z.ap)::bs X.dL .u64 (bD z.ae)::ao (eB z.ae s.lets)::Lg.cY X.ld s.a8::dz X.cF X.C.c6 s.dead::bz X.m s.L z.tt::eo X::ee X s.bm::dy X.bl X.m X.C.bl X.C.aT::ao (dd X)::ef X::eL X::e7 X::eO X::ao (cK X z.ap z.ae s.ax)::D) B Y h t4;rw[show s.aE.set (V.length+1 -1) x=s.aE from by rw[FH];obtain⟨W,cU⟩:=dp.1 ah;rw[<-cU,AW W]]at t5;exact(show∀h,Sat _ h->Sat (own (.slice f (V++[F]).length g) 51 9 (V++[F]).length ((V++[F]).flatMap pZ)::ao ((V++[F]).map rG)::cp X z s::di z.b4 z.b5 s.trace::dX z.na z.dT s.notes::bs X.am .i64 (bD z.ap)::ao (dI X z.ap s.aE)::bs X.dL .u64 (bD z.ae)::ao (eB z.ae s.lets)::Lg.cY X.ld s.a8::dz X.cF X.C.c6 s.dead::bz X.m s.L z.tt::eo X::ee X s.bm::dy X.bl X.m X.C.bl X.C.aT::ao (dd X)::ef X::eL X::e7 X::eO X::ao (cK X z.ap z.ae s.ax)::D) h from(au)) h t5
 . refine bj ?_
   refine aB rfl (lT (.pointer none) (by rw[KU (by omega)];rfl) rfl rfl) ?_;refine eY ?_;refine bb ?_;exact aQ ⟨a,c,V,rfl,by rw[bK.xs,yW N],bK.xL,rfl⟩
def aAG(r:zX C P n s)(aO:n<=Th.hh):∀x∈s.aE,akr x:=λx ah=>by
 obtain⟨i,ak⟩:=Fj.1 ah;have B:=r.inv.base.aE i x ak;have h1:=r.ph;have h2:Th.hh=10000000:=rfl;have aN:Th.hB=90000:=rfl;have d3:Th.hB*n<=90000*10000000:=qi (et _) aO;have bA:(s.aE.map Th.iq).sum<=Th.bP s:=OP;have g3:=Th.Lb (n:=1000000000000) (lN.2 ⟨x,ah,rfl⟩:Th.iq x∈s.aE.map Th.iq) ad;unfold Th.iq at g3;exact⟨B.slots,by show _<=1099511627776;omega,by show _<=1099511627776;omega,by show _<=1099511627776;omega⟩
def aAH{h n:Nat}{s:aq}(r:zX C P n s)(aO:n<=Th.hh)(N:C.ok):ab E 19 [ptr h 0] w5 (λu I=>∃(a:Option Addr) (c:Nat) (V:List Std),u=.slice a V.length c/\V.map (·.x)=s.aE/\(∀F∈V,F.xL=F.x.kind.name)/\I=[own (.slice a V.length c) 51 9 V.length (V.flatMap pZ),ao (V.map rG),l0 C P h s]):=
 zW λX z aj aC aV bF=>by
  subst aC aV bF;exact qM [] (aAF X z s aj (λi x ak=>(r.inv.base.aE i x ak).id) r.inv.base.na N.hd (aAG r aO)) kS λu I ⟨a,c,V,e,h1,h2,cd⟩=>⟨_,⟨a,c,V,e,h1,h2,rfl⟩,λh s=>by
   subst cd;rw[jb]at s;exact Sat.tail (λh s=>Sat.tail P9 s) s⟩
end
end Go.Proofs.YtnnhpnccfnghdaaGreat.L.bM
