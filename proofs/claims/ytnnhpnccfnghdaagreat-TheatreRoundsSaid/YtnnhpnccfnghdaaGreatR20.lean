import Derived.Test.YtnnhpnccfnghdaaGreatR19
set_option linter.all false
set_option maxRecDepth 100000
set_option maxHeartbeats 12000000
namespace Go.Proofs.YtnnhpnccfnghdaaGreat.L.bH
open Go.Proofs.YtnnhpnccfnghdaaGreat.L
open Go.L Go.L.Ring Go.L.dq Go.L.dR Go.L.Whl Go.L.dA Go.L.Lx Go.L.Pg
open Go.L.Led (dg du dT bs av e8)
open Go.L.Th (bt cW c9 bX dt bR bU ev bW ao most dU cQ ff eD dM In cV c6 eE bx bM eF eG bk cG dw go bq Good eb eH dQ acc Inv eh er e3 busy cZ ek dN fa)
attribute[local irreducible] G cE GE cY GT b0 df c4 di Exit.then Exit.inBlock
def aBa(X:cN)(z:dn)(s:ao)(j:Nat)(t:bW)(N:s.az[j]?=some t):ad aa 46 eo rG (aH (.bool t.on.isSome) rG):=by
 cases B:t.on with
 |none=>exact xm X z s j t N B
 |some q=>exact BE X z s j t q.1 q.2 N B
def aBb(X:cN)(z:dn)(s y:ao)(b:Bool)(n:Int)(m r:Nat)(f0:Nat->Th.fU)(J:X.C.ok)(cT:Th.hS X.P)(cH:Th.iM f0 X.C X.C.cells)(bf:m=(min (max n 0) 20000).toNat)(al:bE X z s)(h:Th.hi f0 X.C X.P r s)(aM:r+13*m<=Th.gM)(ag:Th.rest X.C X.P m s=some (y,b)):ad aa 24 [ptr X.h 0,af n] (bl X z s) vi:=by
 refine aw Tryz.func24 λF D=>?_;have ut:=J.bQ;have a:=J.bu;refine cv ?_;refine aB rfl (tc (max n 0) ae rfl rfl) ?_;refine aB rfl (td ((m:Nat):Int) ae rfl rfl) ?_;refine bK ?_;refine gG (bv:=Nat×dn×ao) (λE=>aA8 X f0 m r y b E.1 E.2.1 E.2.2) (λE=>[(12,af E.1),(11,af m),(0,ptr X.h 0)]) PC (λE=>m -E.1) (0,z,s) (⟨al,h,ag,eX _⟩) dy (au) ?_;rintro⟨k,p,s1⟩ bC;replace bC:=bC;have hk:=bC.hk;dsimp only;refine bi ?_;refine cg (λW=>?_) (λW=>?_)
 . have hu:k+1<=m:=by omega
   have aE:=bC.ag;rw[show m -k=(m -(k+1))+1 by omega]at aE;refine bQ ?_;refine aT (Uk (z:=p) J bC.h.inv) ?_;refine bb ?_;refine cg (λM=>?_) (λM=>?_)
   . have bm:Th.quiet X.C s1=true:=by simpa using M
     rcases Th.Fh aE with⟨_,T⟩|⟨e,_⟩
     rotate_left
     . exfalso;rw[bm]at e;cases e
     cases T;refine fr ?_;exact aX ⟨rfl,p,bC.al,rfl⟩
   . have bm:Th.quiet X.C s1=false:=by simpa using M
     rcases Th.Fh aE with⟨e,_⟩|⟨_,bP,bZ,i0,l,ay,aV,bz,dh⟩
     . exfalso;rw[bm]at e;cases e
     refine fW ?_;refine gG (bv:=Nat×dn×ao) (λE=>xR X f0 (LD X) X.C.a1 (r+13*k) bP E.1 E.2.1 E.2.2) (λE=>[(21,af E.1),(20,af X.C.a1),(19,.slice X.zE X.C.a1 X.zF),(12,af k),(11,af m),(0,ptr X.h 0)]) PC (λE=>X.C.a1 -E.1) (0,p,s1) (⟨bC.al,bC.h,ay,eX _⟩) dy (au) ?_;rintro⟨i,g,aD⟩ d;replace d:=d;have ak:=d.ak;dsimp only;refine bi ?_;refine cg (λL=>?_) (λL=>?_)
     . obtain⟨f,ba,q⟩:=d.next J cT cH (ei _) ae ae
       refine bi ?_;refine EH ?_;refine aB rfl (gz rfl (aes ae)) ?_;refine cq ?_;refine ci rfl (b1 rfl (EQ (alp J cT cH d.al d.h ae ae ba)) bF) ?_;exact afD
     . obtain rfl:i=X.C.a1:=by omega
       obtain rfl:aD=bP:=aaa;refine eJ ?_;refine bb ?_;refine gG (bv:=Nat×dn×ao) (λE=>xR X f0 (zU X) X.C.cB (r+13*k+X.C.a1) bZ E.1 E.2.1 E.2.2) (λE=>[(35,af E.1),(34,af X.C.cB),(33,.slice X.zG X.C.cB X.zH),(12,af k),(11,af m),(0,ptr X.h 0)]) PC (λE=>X.C.cB -E.1) (0,g,aD) (⟨d.al,d.h,aV,eX _⟩) dy (au) ?_;rintro⟨i,np,aD⟩ d;replace d:=d;have ak:=d.ak;dsimp only;refine bi ?_;refine cg (λfH=>?_) (λfH=>?_)
       . obtain⟨f,ba,q⟩:=d.aCW J cT cH ae ae
         obtain⟨t,cK⟩:=Th.qY (j:=X.C.a1+i) d.h.inv ae;refine bi ?_;refine EH ?_;refine aB rfl (gz rfl (ahA ae)) ?_;refine bi ?_;refine aT (aBa X np aD (X.C.a1+i) t cK) ?_;refine bb ?_;refine cg (λw=>?_) (λw=>?_)
         . have c:t.on.isSome=true:=by simpa using w
           obtain⟨⟨o,d6⟩,B⟩:=Sp.1 c;rw[show zU X i aD=eh X.C X.P (X.C.a1+i) aD from bd (by rw[rB cK,c])]at ba;refine bb ?_;refine ci rfl (b1 rfl (EQ (aA9 J cT cH d.al d.h ae cK B ba)) bF) ?_;exact afD
         . have c:t.on.isSome=false:=by simpa using w
           obtain rfl:f=aD:=by rw[show zU X i aD=some aD from a8 (by rw[rB cK,c];simp)]at ba;exact(od ba).symm
           refine C8 ?_;refine fD (i+1,np,f) (q np d.al) ae dy (au)
       . obtain rfl:i=X.C.cB:=by omega
         obtain rfl:aD=bZ:=aaa;refine cq ?_;refine ci rfl (b1 rfl (alq J cT cH d.al d.h ae bz) bF) ?_;rintro _ D ⟨_,⟨rfl,u,v,rfl⟩,rfl⟩;refine fm ?_;have tk:Th.hi f0 X.C X.P (r+13*(k+1)) i0:=by
          obtain⟨H,aO,gT,C⟩:=Th.TM cH J cT ae d.h;rw[bz]at gT;cases gT;exact C.aT ae ae
         refine bK ?_;refine aB rfl (fk (((k+1:Nat):Int)) eZ rfl rfl) ?_;refine bb ?_;refine fD (k+1,u,i0) ⟨v,tk,dh,hu⟩ ae dy (au)
 . obtain rfl:k=m:=by omega
   have T:=bC.ag;rw[x9]at T;cases T;refine bQ ?_;refine aT (Uk (z:=p) J bC.h.inv) ?_;refine bB ?_;exact aX ⟨rfl,p,bC.al,rfl⟩
def xS(C:bt)(P:List b2):List cZ->ao->Nat->Option (ao×Nat)
 |[],s,c=>some (s,c)
 |e::es,s,c=>(Th.jq C P s e).bind λE=>xS C P es E.1 (c+if E.2 then 1 else 0)
def aei(e:cZ):(gv e).length=5:=rfl
structure FM(X:cN)(f0:Nat->Th.fU)(es:List cZ)(r:Nat)(E:ao×Nat)(i c:Nat)(z:dn)(s:ao):Prop where
 al:bE X z s
 h:Th.hi f0 X.C X.P (r+i) s
 hp:xS X.C X.P (es.drop i) s c=some E
 ak:i<=es.length
 a6:c<=i
def FM.next{X:cN}{f0:Nat->Th.fU}{es:List cZ}{r i c:Nat}{E:ao×Nat}{z:dn}{s:ao}{e:cZ}(J:X.C.ok)(cT:Th.hS X.P)(cH:Th.iM f0 X.C X.C.cells)(h:FM X f0 es r E i c z s)(V:es[i]?=some e)(aM:r+i+1<=Th.gM):∃aD l,Th.jq X.C X.P s e=some (aD,l)/\∀cj,bE X cj aD->FM X f0 es r E (i+1) (c+if l then 1 else 0) cj aD:=by
 have bh:=h.hp;obtain⟨dV,u⟩:=dc.1 V;rw[ta dV,u]at bh;obtain⟨⟨aD,l⟩,ay,aV⟩:=gZ.1 bh;obtain⟨f,a,bz,o⟩:=Th.xJ cH J cT aM h.h e;rw[bz]at ay;cases ay;exact⟨aD,l,bz,λcj d7=>⟨d7,o,aV,dV,by have:=h.a6;split<;>omega⟩⟩
def aBc(X:cN)(z:dn)(s:ao)(z0:ao×Nat)(es:List cZ)(a:Option Addr)(ac r:Nat)(a2:aq)[gl (.slice a es.length ac) a2 es.length (es.flatMap gv)](f0:Nat->Th.fU)(J:X.C.ok)(cT:Th.hS X.P)(cH:Th.iM f0 X.C X.C.cells)(g:∀e∈es,ad aa 92 [S e.tag] [] Eu)(al:bE X z s)(h:Th.hi f0 X.C X.P r s)(aM:r+es.length<=Th.gM)(hp:xS X.C X.P es s 0=some z0):ad aa 29 [ptr X.h 0,.slice a es.length ac] (a2::bl X z s) (λu H=>u=af z0.2/\∃cj,bE X cj z0.1/\H=a2::bl X cj z0.1):=by
 refine aw Tryz.func29 λF D=>?_;have hu:Th.gM=10000000:=rfl;refine eJ ?_;refine bK ?_;refine gG (bv:=Nat×Nat×dn×ao) (λE=>FM X f0 es r z0 E.1 E.2.1 E.2.2.1 E.2.2.2) (λE=>[(10,af E.1),(9,af es.length),(8,.slice a es.length ac),(5,af E.2.1),(0,ptr X.h 0)]) (λE=>a2::cL X E.2.2.1 E.2.2.2::dP E.2.2.1.cI E.2.2.1.cJ E.2.2.2.trace::fl E.2.2.1.na E.2.2.1.fq E.2.2.2.notes::b3 X.am .i64 (cf E.2.2.1.ap)::ax (e5 X E.2.2.1.ap E.2.2.2.aJ)::b3 X.e6 .u64 (cf E.2.2.1.ai)::ax (gj E.2.2.1.ai E.2.2.2.lets)::Lg.ds X.ld E.2.2.2.bc::ez X.da X.C.dG E.2.2.2.dead::ch X.m E.2.2.2.L E.2.2.1.tt::fA X::fw X E.2.2.2.bs::eC X.bG X.m X.C.bG X.C.aZ::ax (dZ X)::fu X::gk X::gX X::gd X::ax (de X E.2.2.1.ap E.2.2.1.ai E.2.2.2.az)::D) (λE=>es.length -E.1) (0,0,z,s) (⟨al,h,hp,eX _,eX _⟩) dy (au) ?_;rintro⟨i,c,p,s1⟩ bC;replace bC:FM X f0 es r z0 i c p s1:=bC;have ak:=bC.ak;have v:=bC.a6;refine bi ?_;refine cg (λW=>?_) (λW=>?_)
 . obtain⟨e,R⟩:∃e,es[i]?=some e:=⟨_,cz ae⟩
   obtain⟨aD,l,aL,q⟩:=bC.next J cT cH R ae;refine bi ?_;refine EH ?_;refine aB rfl (kv rfl (kw gv 5 aei R) rfl) ?_;refine wn λbY=>?_;refine cq ?_;refine ci rfl (b1 rfl (als (e:=e) J cT cH bC.al bC.h ae (g e Jy) aL) bF) ?_;rintro _ D ⟨_,⟨rfl,cj,d7,rfl⟩,rfl⟩;refine Gi ?_;refine cg (λM=>?_) (λM=>?_)
   . have aA:l=true:=by simpa using M
     refine bb ?_;refine aB rfl (fk (((c+1:Nat):Int)) eZ rfl rfl) ?_;refine RC ?_;refine fD (i+1,c+1,cj,aD) aab ae dy (au)
   . have aA:l=false:=by simpa using M
     refine C8 ?_;refine fD (i+1,c,cj,aD) aab ae dy (au)
 . obtain rfl:i=es.length:=by omega
   have T:=bC.hp;rw[CP (ei _)]at T;cases T;refine fr ?_;exact aX ⟨rfl,p,bC.al,rfl⟩
section
variable(C:bt)(k:Nat)(L:List Int)
def xT(b k:Nat):Prop:=∀i,b<=i->i<b+k->L.getD i 0=0
def xT.sub{L:List Int}{b k l V:Nat}(h:xT L b k)(h1:b<=l)(h2:l+V<=b+k):xT L l V:=λi a c=>h i ae ae
def aly{L:List Int}{i:Nat}(h:L.getD i 0=0):L.set i 0=L:=by
 by_cases ak:i<L.length
 . rw[ix,cz ak,KS]at h
   rw[<-h,yL ak]
 . exact List.set_eq_of_length_le ae
def CC{L:List Int}{b:Nat}:∀{k:Nat},xT L b k->iv L b k=L
 |0,_=>rfl
 |k+1,h=>by rw[iv,CC (h.sub (ei _) ae),aly (h _ ae ae)]
def alz{L:List Int}{b:Nat}:∀{k:Nat},xT L (b+2) k->iQ L b (2+k)=(L.set b 1).set (b+1) 1
 |0,_=>rfl
 |
  k+1,h=>by
  rw[show 2+(k+1)=(2+k)+1 by omega,iQ,alz (h.sub (ei _) ae),a8 ae];refine aly ?_;rw[Th.mC ae,Th.mC ae];exact h _ ae ae
def aBd:ek C (List.range (k+1)) L=((ek C (List.range k) L).set (C.bA.cn k) 1).set (C.bA.cn k+1) 1:=by
 unfold ek;rw[List.range_succ,akI];rfl
def alA{C:bt}{L:List Int}(h:xT L 2 (C.cells -2)):∀{k:Nat},k<=C.a1->sm L C.bA k=ek C (List.range k) L
 |
  0,_=>by
  have e:C.bA.ed+(2+2*C.aZ)<=C.cells:=by
   show 2+C.a1+(2+2*C.aZ)<=2+(C.a1+(2+2*C.aZ)+C.a1*(2+C.eI))+(3+2*C.iN)+C.aZ*C.aZ+C.aZ*C.e7;omega
  rw[sm,CC (h.sub (l:=C.bA.b) (V:=C.bA.bV) (ei 2) (by show 2+C.a1<=2+(C.cells -2);have:2+C.a1<=C.bA.ed:=ei _;omega)),CC (h.sub (by show 2<=2+C.a1;omega) (by show C.bA.ed+(2+2*C.aZ)<=_;omega))];rfl
 |
  k+1,hk=>by
  have e:C.bA.cn k=2+C.a1+(2+2*C.aZ)+k*(2+C.eI):=rfl;have aV:k*(2+C.eI)+(2+C.eI)<=C.a1*(2+C.eI):=by
   have:=pW (2+C.eI) hk;rwa[nc,vj]at this
  have bz:C.cells=2+(C.a1+(2+2*C.aZ)+C.a1*(2+C.eI))+(3+2*C.iN)+C.aZ*C.aZ+C.aZ*C.e7:=rfl;rw[sm,alA h (Nat.le_of_succ_le hk),aBd];refine alz (k:=C.eI) λi h1 h2=>?_;rw[Th.Cx _ _ _ _ λw O=>?_]
  . exact h i ae ae
  . have U:w+1<=k:=pV.1 O
    have dh:C.bA.cn w=2+C.a1+(2+2*C.aZ)+w*(2+C.eI):=rfl;have gT:w*(2+C.eI)+(2+C.eI)<=k*(2+C.eI):=by
     have:=pW (2+C.eI) U;rwa[nc,vj]at this
    omega
def vK:List Int:=(List.replicate C.cells 0).set 1 1
def jC:List Int:=ek C (List.range C.a1) (vK C)
def alB:xT (vK C) 2 (C.cells -2):=λi h1 h2=>by unfold vK;rw[Th.mC ae,Th.TW]
def Ul:(vK C).length=C.cells:=by simp[vK]
def CD:(jC C).length=C.cells:=by unfold jC;rw[Th.TU,Ul]
def Um:xT (jC C) (2+C.bA.size) (C.cells -(2+C.bA.size)):=λi h1 h2=>by
 unfold jC;have gr:C.bA.size=C.a1+(2+2*C.aZ)+C.a1*(2+C.eI):=rfl;rw[Th.Cx _ _ _ _ λw O=>?_]
 . exact alB C i ae ae
 . have U:w+1<=C.a1:=pV.1 O
   have dh:C.bA.cn w=2+C.a1+(2+2*C.aZ)+w*(2+C.eI):=rfl;have gT:w*(2+C.eI)+(2+C.eI)<=C.a1*(2+C.eI):=by
    have:=pW (2+C.eI) U;rwa[nc,vj]at this
   omega
end
section
variable(X:cN){C:bt}(z:dn)(s:ao)(id:Nat)(kind st:cC)(N:b2)(kt:fN)
def FN(h:C.ok):C.cells<=65536/\2<=C.cells/\C.gS+C.aZ*C.e7=C.cells:=by
 have h1:C.a1*(2+C.eI)<=8*66:=qq h.bQ (by have:=h.d64;omega);have h2:C.aZ*C.aZ<=16*16:=qq h.hg h.hg;have aN:C.aZ*C.e7<=16*214:=qq h.hg (by have:=h.m64;have:=h.hg;unfold bt.e7 bt.fB;omega);have e:C.cells=2+(C.a1+(2+2*C.aZ)+C.a1*(2+C.eI))+(3+2*C.iN)+C.aZ*C.aZ+C.aZ*C.e7:=rfl;have:=h.bQ;have:=h.hg;have:=h.i64;exact⟨by omega,by omega,rfl⟩
def aBe(J:C.ok)(m:Nat)(t:Int):ad aa 65 [ptr m 0,af ((2:Nat):Int),af C.a1,af C.eI,af C.aZ] [ch m (vK C) t] (λu H=>∃(X:kQ) (dk:Int),X.m=m/\u=.tuple #[ptr X.c 0,af 0]/\H=[ch m (jC C) dk,eW [fS X C.bA,cd X C.bA,iR X C.bA,eM X C.bA,ax (lG X C.bA)]]):=by
 have R:=FN J;have e:C.cells=2+C.bA.size+(3+2*C.iN)+C.aZ*C.aZ+C.aZ*C.e7:=rfl;refine q1 [] (aqs m 2 C.a1 C.eI C.aZ (vK C) t ⟨J.aG,J.bQ,J.d1,J.d64,J.cr,J.hg,by rw[Ul];show 2+C.bA.size<=_;omega,by rw[Ul];exact R.1⟩) kG λu H q=>?_;obtain⟨X,dk,bf,rfl,rfl⟩:=q;refine⟨_,⟨X,dk,bf,rfl,rfl⟩,λh s=>?_⟩;subst bf;rw[show sm (vK C) (⟨2,C.a1,C.eI,C.aZ⟩:fL) C.a1=jC C from alA (alB C) (ei _)]at s;exact Sat.tail ac9 s
def aBf(J:C.ok)(m:Nat)(t:Int):ad aa 66 [ptr m 0,af ((2+C.bA.size:Nat):Int),af C.iN] [ch m (jC C) t] (λu H=>∃(X:Ck.oF) (dk:Int),X.m=m/\u=.tuple #[ptr X.c 0,af 0]/\H=[ch m (jC C) dk,eW [Ck.gm X C.dH,gb X.r m (C.dH.b+1) C.dH.n,fJ X.wp r5]]):=by
 have R:=FN J;have e:C.cells=2+C.bA.size+(3+2*C.iN)+C.aZ*C.aZ+C.aZ*C.e7:=rfl;refine q1 [] (Ck.aoe m (2+C.bA.size) C.iN (jC C) t ⟨J.i1,J.i64,by rw[CD];show 2+C.bA.size+3+2*C.iN<=_;omega,by rw[CD];exact R.1⟩) kG λu H q=>?_;obtain⟨X,rfl,bf,rfl⟩:=q;refine⟨_,⟨X,ju (3+2*C.iN) t,bf,rfl,rfl⟩,λh s=>?_⟩;subst bf;obtain⟨_,_,s⟩:=hd s;rw[CC ((Um C).sub (ei _) ae)]at s;exact(au) h (show Sat (ch X.m (jC C) _::eW [Ck.gm X C.dH,gb X.r X.m (C.dH.b+1) C.dH.n,fJ X.wp ⟨0,0,[]⟩]::[]) h from Sat.tail (λh s=>cF (D:=[]) () trivial (λh s=>s) h s) ((au) h s))
def aBg(J:C.ok)(m:Nat)(t:Int):ad aa 67 [ptr m 0,af ((C.bG:Nat):Int),af C.aZ] [ch m (jC C) t] (λu H=>∃(q:Nat) (dk:Int),u=.tuple #[ptr q 0,af 0]/\H=[ch m (jC C) dk,eC q m C.bG C.aZ]):=by
 have R:=FN J;have e:C.cells=C.bG+C.aZ*C.aZ+C.aZ*C.e7:=rfl;have aV:C.bG=2+C.bA.size+(3+2*C.iN):=rfl;refine(aqt m C.bG C.aZ (jC C) t J.cr J.hg (by rw[CD];omega) (by rw[CD];exact R.1)).mono λu H q=>?_;obtain⟨q,rfl,rfl⟩:=q;rw[CC ((Um C).sub (l:=C.bG) (V:=C.aZ*C.aZ) ae ae)];exact⟨q,_,rfl,rfl⟩
def zV(m:Nat)(X:Po.nn)(B:jn):aq:=eW [Po.e9 X B,gb (X.r false) m (B.eR false) (B.fg false),gb (X.r true) m (B.eR true) (B.fg true)]
def aBh(J:C.ok)(m i:Nat)(ak:i<C.aZ)(t:Int):ad aa 68 [ptr m 0,af ((C.gS+i*C.e7:Nat):Int),af C.hW,af ((C.fB:Nat):Int)] [ch m (jC C) t] (λu H=>∃(X:Po.nn) (dk:Int),X.m=m/\u=.tuple #[ptr X.bo 0,af 0]/\H=[ch m (jC C) dk,zV m X (C.box (i+1))]):=by
 have R:=FN J;have e:C.cells=C.gS+C.aZ*C.e7:=rfl;have aV:C.gS=2+C.bA.size+(3+2*C.iN)+C.aZ*C.aZ:=rfl;have bz:C.e7=2+(2+2*C.hW)+(2+2*C.fB):=rfl;have dh:i*C.e7+C.e7<=C.aZ*C.e7:=by have:=pW C.e7 (show i+1<=C.aZ from ak);rwa[nc,vj]at this
 have gT:C.fB=2*C.aZ+8:=rfl;have n6:=J.m1;have m7:=J.m64;have aW:=J.hg;refine q1 [] (Po.aui m (C.gS+i*C.e7) C.hW C.fB (jC C) t ⟨n6,m7,by show 1<=C.fB;omega,by show C.fB<=64;omega,by rw[CD];show C.gS+i*C.e7+6+2*C.hW+2*C.fB<=_;omega,by rw[CD];exact R.1⟩) kG λu H q=>?_;obtain⟨X,rfl,bf,rfl⟩:=q;refine⟨_,⟨X,ju (Po.jn.aY ⟨C.gS+i*C.e7,C.hW,C.fB⟩) t,bf,rfl,rfl⟩,λh s=>?_⟩;subst bf;obtain⟨_,_,s⟩:=hd s;rw[CC ((Um C).sub (l:=C.gS+i*C.e7) (V:=Po.jn.aY ⟨C.gS+i*C.e7,C.hW,C.fB⟩) ae (by show C.gS+i*C.e7+(2+(2+2*C.hW)+(2+2*C.fB))<=_;omega))]at s;have bP:=(show∀h,Sat _ h->Sat (ch X.m (jC C) _::[Po.e9 X (C.box (i+1)),gb (X.r false) X.m ((C.box (i+1)).eR false) ((C.box (i+1)).fg false),gb (X.r true) X.m ((C.box (i+1)).eR true) ((C.box (i+1)).fg true)]) h from(au)) h s;exact Sat.tail ac9 bP
def aBi(ap:List Nat):dJ (cf ap) (0:Int)=none:=KU ae
theorem aBj{X:cN}{z:dn}{s:ao}{id b d g c j:Nat}{b8 N:b2}{st:cC}{D:List aq}(al:bE X z s)(O:dr b8=dr N)(cx:id=s.aJ.length+1):
 ∀
  h,Sat (ab b 118 (eg X (mA id 0 N st) ⟨b8,none,0,none,0,d,g,c,j,[]⟩)::gi d X.C.dY [] []::h8 g (min (max b8.limit 0) 100) (min (max b8.within 1) 4095) []::eB c (.map #[] 0)::eB j (.map #[] 0)::gO b8::ax (e5 X z.ap s.aJ)::ax (de X z.ap z.ai s.az)::b3 X.am .i64 (eV (cf z.ap) (id:Int) (ptr b 0))::D) h->
  Sat (ax (e5 X vc (s.aJ++[mA id 0 N st]))::ax Jn::b3 X.am .i64 (cf vc)::D) h:=λh E=>by
 have T:q9 b8:=by
  have z0:=Sat.drop (Sat.drop (Sat.drop (Sat.drop (Sat.drop E))));obtain⟨h1,h2,_,_,o,_⟩:=z0;exact F8 o
 have ay:e5 X vc (s.aJ++[mA id 0 N st])=e5 X z.ap s.aJ++[vu X b (mA id 0 N st)]:=akU al.ap;have aV:eV (cf z.ap) (id:Int) (ptr b 0)=cf vc:=Z3;rw[ay,<-aV];refine ty h ?_;refine cF (D:=ax (e5 X z.ap s.aJ)::ax (de X (z.ap++[b]) z.ai s.az)::b3 X.am .i64 (eV (cf z.ap) (id:Int) (ptr b 0))::D) (⟨b8,none,0,none,0,d,g,c,j,[]⟩:hR) ⟨O,T,rfl⟩ (λh E=>E) h ?_;have f:∀h,Sat (gO b8::ax (e5 X z.ap s.aJ)::ax (de X z.ap z.ai s.az)::b3 X.am .i64 (eV (cf z.ap) (id:Int) (ptr b 0))::D) h->Sat (ax []::gO b8::ax jJ::ax Jn::b3 X.am .i64 (eV (cf z.ap) (id:Int) (ptr b 0))::D) h:=λh E=>
  wR h (Sat.tail (λh E=>Sat.tail (λh E=>Ly (X:=X) (λi x e=>xO i x e) zm s.az _ h E) E) E)
 exact Sat.tail aaZ E
theorem aBk(al:bE X z s)(J:X.C.ok)(t:X.P.length<=4611686018427387904)(i4:X.P.find? BJ=some N)(r:lT N)(g4:N.states[0]?=some kt)(f9:kt.name=st)(cx:id=s.aJ.length+1)(m:id<=X.C.aZ)(o:s.trace.length<most):ad aa 69 [ptr X.h 0,af id,af ((0:Nat):Int),S kind] acu (λu H=>u=.tuple #[]/\∃aI aQ b8 d g c j f,dr b8=dr N/\H=(cL X h3 abE::dP aI aQ abZ::b3 X.am .i64 Jh::gd X::fu X::ab f 118 (eg X (mA id 0 N st) I8)::aa0)):=by
 refine aw Tryz.func69 λF D=>?_;have n:=J.hg;have v:1<=id/\id<=X.C.aZ:=⟨by omega,m⟩;have U:¬((0:Nat):Int)=(id:Int):=ae;refine cq ?_;refine br (akW t r i4) ?_;rintro _ _ ⟨b8,O,rfl,rfl⟩;refine et ?_;obtain⟨b,l,pp⟩:=TZ O g4;have g0:0<b8.states.length:=(dc.1 l).1;obtain rfl:b.name=st:=pp.trans f9;refine b6 ?_;refine wn λY=>?_;refine bK ?_;refine Dn (λact i=>∃(d g c j f:Nat),hn Tryz.f69.ntmps [(0,ptr X.h 0),(1,af id),(2,af ((0:Nat):Int)),(3,S kind)] act/\dm F (ab f 118 (eg X (mA id 0 N b.name) I8)::gi d X.C.dY [] []::h8 g (min (max b8.limit 0) 100) (min (max b8.within 1) 4095) []::eB c pj::eB j pj::gO b8::b3 X.am .i64 Jh::cL X z s::dP z.cI z.cJ s.trace::gd X::fu X::D) i) ?_ ?_
 . refine agG ?_
   refine fe ?_ ?_
   . refine zv ?_
     intro d;rw[show(min (max (X.C.dY:Int) 0) 64).toNat=X.C.dY from by have:=J.pS;omega];refine aG ?_;refine fe ?_ ?_
     . refine xj ?_
       intro g;refine aG ?_;refine fe ?_ ?_
       . refine wn λc=>?_
         exact af3
       . refine wn λj=>?_
         exact af2
     . refine fe ?_ ?_
       . refine wn λc=>?_
         exact aeY
       . refine wn λj=>?_
         exact aeX
   . refine fe ?_ ?_
     . refine wn λc=>?_
       refine aG ?_;refine fe ?_ ?_
       . refine zv ?_
         intro d;rw[show(min (max (X.C.dY:Int) 0) 64).toNat=X.C.dY from by have:=J.pS;omega];exact aeY
       . refine wn λj=>?_
         exact ahe
     . refine wn λj=>?_
       refine aG ?_;refine fe ?_ ?_
       . refine zv ?_
         intro d;rw[show(min (max (X.C.dY:Int) 0) 64).toNat=X.C.dY from by have:=J.pS;omega];exact aeX
       . refine wn λc=>?_
         exact ahe
 . rintro act i ⟨d,g,c,j,f,g0,st⟩
   refine Dp ?_ g0 st;clear g0 st act i;refine bQ ?_;refine aB rfl (l0 fP (by rw[O7,a8 U];rw[show((0:Nat):Int)=0 from rfl,aBi];rfl) rfl rfl) ?_;refine cv ?_;refine lL ?_;refine bQ ?_;refine br (l6 X z s (acr:bX) o) ?_;refine l5 ?_;intro aI aQ;refine bb ?_;exact aX ⟨rfl,aI,aQ,b8,d,g,c,j,f,O,rfl⟩
theorem aBl(al:bE X z s)(J:X.C.ok)(t:X.P.length<=4611686018427387904)(i4:X.P.find? BJ=some N)(r:lT N)(g4:N.states[0]?=some kt)(f9:kt.name=st)(cx:id=s.aJ.length+1)(m:id<=X.C.aZ)(o:s.trace.length<most):ad aa 69 [ptr X.h 0,af id,af ((0:Nat):Int),S kind] (bl X z s) (λu H=>u=.tuple #[]/\∃cj,bE X cj {s with aJ:=s.aJ++[mA id 0 N st],trace:=s.trace++[({Th.c7 with kind:=7,dL:=id,cy:=(0:Nat),name:=kind}:bX)]}/\H=bl X cj {s with aJ:=s.aJ++[mA id 0 N st],trace:=s.trace++P5}):=
 q1 (fl z.na z.fq s.notes::ax jJ::aaH) (aBk X z s id kind st N kt al J t i4 r g4 f9 cx m o) (au) (λu H n=>by
  obtain⟨rfl,aI,aQ,b8,d,g,c,j,f,O,rfl⟩:=n;refine⟨_,⟨rfl,{z with ap:=z.ap++[f],cI:=aI,cJ:=aQ},⟨al.gL,al.gD,al.gE,by show(z.ap++[f]).length=(s.aJ++[_]).length;rw[eL,eL,al.ap];rfl,al.ai⟩,rfl⟩,λh E=>?_⟩;have gt:=aBj (X:=X) (z:=z) (s:=s) (id:=id) (b:=f) (st:=st) (N:=N) (b8:=b8) (D:=(cL X h3 abE::dP aI aQ abZ::gd X::fu X::aaI)) al O cx h ((au) h E);exact(au) h gt)
end
section
variable(C:bt){f:FuncId}(P:List b2){args:List Value}{X:cN}{z:dn}{s:ao}
def kF(h:Nat)(s:ao):aq:=dj (bv:=cN×dn) (λE=>E.1.C=C/\E.1.P=P/\E.1.h=h/\bE E.1 E.2 s) (λE=>bl E.1 E.2 s)
def Er(al:bE X z s){D:List aq}:∀h,Sat (bl X z s++D) h->Sat (kF X.C X.P X.h s::D) h:=λh E=>cF (X,z) ⟨rfl,rfl,rfl,al⟩ qB h E
def zW{C:bt}{P:List b2}{h:Nat}{s:ao}{a2:List aq}{post:Value->List aq->Prop}(ah:∀X z,bE X z s->X.C=C->X.P=P->X.h=h->ad aa f args (bl X z s++a2) post):ad aa f args (kF C P h s::a2) post:=xP λE T=>ah E.1 E.2 T.2.2.2 T.1 T.2.1 T.2.2.1
def alE{y:ao}{b:Bool}(h:ad aa f args (bl X z s) vi):ad aa f args (bl X z s++[]) (aH (.bool b) [kF X.C X.P X.h y]):=
 q1 [] h kG λu H ⟨e,cj,al,cb⟩=>⟨_,⟨e,rfl⟩,λh s=>by subst cb;exact Er (D:=[]) al h s⟩
abbrev zX(n:Nat)(s:ao):Prop:=Th.hi (Th.bD C) C P n s
end
section
variable{C:bt}{P:List b2}{h n:Nat}{s y:ao}{b:Bool}
def CE{e:cZ}(J:C.ok)(cT:Th.hS P)(r:zX C P n s)(aM:n+1<=Th.gM)(g:ad aa 92 [S e.tag] [] Eu)(ag:Th.jq C P s e=some (y,b)):ad aa 26 [ptr h 0,.agg (gv e).toArray] xc (aH (.bool b) [kF C P h y]):=
 zW λX z al ay aV bz=>by subst ay aV bz;exact alE (als J cT zo al r aM g ag)
def Uo{k:Int}{m:Nat}(J:C.ok)(cT:Th.hS P)(r:zX C P n s)(bf:m=(min (max k 0) 20000).toNat)(aM:n+13*m<=Th.gM)(ag:Th.rest C P m s=some (y,b)):ad aa 24 [ptr h 0,af k] xc (aH (.bool b) [kF C P h y]):=
 zW λX z al ay aV bz=>by subst ay aV bz;exact alE (aBb X z s y b k m n _ J cT zo bf al r aM ag)
def LG(J:C.ok)(r:zX C P n s):ad aa 25 [ptr h 0] xc (aH (.bool (Th.quiet C s)) xc):=
 zW λX z al ay aV bz=>by
  subst ay aV bz;exact q1 [] (Uk (z:=z) J r.inv) kG λu H ⟨e,cb⟩=>⟨_,⟨e,rfl⟩,λh s=>by subst cb;exact Er (D:=[]) al h s⟩
theorem aBE{es:List cZ}{a:Option Addr}{ac:Nat}{a2:aq}{c:Nat}[i:gl (.slice a es.length ac) a2 es.length (es.flatMap gv)](J:C.ok)(cT:Th.hS P)(r:zX C P n s)(aM:n+es.length<=Th.gM)(g:∀e∈es,ad aa 92 [S e.tag] [] Eu)(hp:xS C P es s 0=some (y,c)):
 ad aa 29 [ptr h 0,.slice a es.length ac] [kF C P h s,a2] (aH (af c) [kF C P h y,a2]):=
 zW λX z al ay aV bz=>by
  subst ay aV bz;exact q1 [] (aBc X z s (y,c) es a ac n a2 _ J cT zo g al r aM hp) EC λu H ⟨e,cj,d7,cb⟩=>⟨_,⟨e,rfl⟩,λh s=>by
   subst cb;exact Er (D:=[a2]) d7 h ((au) h s)⟩
def aBF{f:FuncId}{args:List Value}{X:cN}{z:dn}{s:ao}{v:Value}{L:List aq}(al:bE X z s)(h:ad aa f args (bl X z s) (aH v (L++bl X z s))):ad aa f args (bl X z s++[]) (aH v (L++[kF X.C X.P X.h s])):=
 q1 [] h kG λu H ⟨e,cb⟩=>⟨_,⟨e,rfl⟩,λh s=>by
  subst cb;rw[jr]at s;exact DQ QR L h s⟩
end
section
variable(X:cN){C:bt}(z:dn){P:List b2}(s:ao){h:Nat}
theorem aBG(o:s.trace.length<=most):ad aa 14 [ptr X.h 0] (bl X z s) (λu H=>∃a c,u=.slice a s.trace.length c/\H=dP a c s.trace::bl X z s):=by
 refine aw Tryz.func14 λF D=>?_;refine c0 ?_;refine ci rfl (b1 rfl (auR z.cI z.cJ s.trace.length (s.trace.flatMap kq) (dP z.cI z.cJ s.trace) (k0 kq 9 zI s.trace) (avs s.trace) (by have:s.trace.length<=1099511627776:=o;omega)) bF) ?_;rintro _ D ⟨_,⟨e,S,rfl,rfl⟩,rfl⟩;refine uB ?_;exact aX ⟨e,S,rfl,rfl⟩
theorem aBH:ad aa 30 [ptr X.h 0] (bl X z s) (aH (af s.trace.length) ([]++bl X z s)):=by
 refine aw Tryz.func30 λF D=>?_;exact yE
theorem xU{n:Nat}{s:ao}(r:zX C P n s)(aM:n<=Th.gM):ad aa 14 [ptr h 0] xc (λu H=>∃a c,u=.slice a s.trace.length c/\H=[dP a c s.trace,kF C P h s]):=
 zW λX z al ay aV bz=>by
  subst ay aV bz;exact q1 [] (aBG X z s (by
   have h1:=r.ph;have h2:Th.gM=10000000:=rfl;have aN:Th.hE=90000:=rfl;have bu:s.trace.length+s.dead.length<=Th.bM s:=Px;have dW:Th.hE*n<=90000*10000000:=qq (ei _) aM;show _<=1099511627776;omega)) kG λu H ⟨a,c,e,cb⟩=>⟨_,⟨a,c,e,rfl⟩,λh s=>by
   subst cb;rw[jr]at s;exact Sat.tail QR s⟩
theorem aBI{n:Nat}{s:ao}:ad aa 30 [ptr h 0] xc (aH (af s.trace.length) xc):=
 zW λX z al ay aV bz=>by subst ay aV bz;exact aBF (L:=[]) al (aBH X z s)
end
structure kU where
 a1:Int
 cB:Int
 aZ:Int
 hW:Int
 dY:Int
 mJ:Int
 eI:Int
 iN:Int
 dG:Int
abbrev sM(c:kU):List Value:=[af c.a1,af c.cB,af c.aZ,af c.hW,af c.dY,af c.mJ,af c.eI,af c.iN,af c.dG]
section
variable(c:kU)(C:bt)(a E ak:Int)
def fG(a:Int):Bool:=decide (E<=a)&&decide (a<=ak)
def kU.okB:Bool:=fG 1 8 c.a1&&fG 1 4 c.cB&&fG 1 16 c.aZ&&fG 1 64 c.hW&&fG 0 64 c.dY&&fG 1 16 c.mJ&&fG 1 64 c.eI&&fG 1 64 c.iN&&fG 0 64 c.dG
def kU.nat:bt:=⟨c.a1.toNat,c.cB.toNat,c.aZ.toNat,c.hW.toNat,c.dY.toNat,c.mJ.toNat,c.eI.toNat,c.iN.toNat,c.dG.toNat⟩
def l4:kU:=⟨C.a1,C.cB,C.aZ,C.hW,C.dY,C.mJ,C.eI,C.iN,C.dG⟩
def kU.amf{c:kU}(h:c.okB=true):l4 c.nat=c/\c.nat.ok:=by
 obtain⟨v0,v1,u,v3,v4,v5,e,k,p⟩:=c;simp only[kU.okB,fG,ii,kN]at h;refine⟨?_,?_⟩
 . simp only[l4,kU.nat,kU.mk.injEq];omega
 . constructor<;>simp only[kU.nat]<;>omega
def vL:ad aa 52 [af a,af E,af ak] [] (aH (.bool (fG E ak a)) []):=by
 unfold fG;by_cases h:E<=a/\a<=ak
 . rw[kM h.1,kM h.2];exact Ku a E ak h
 . have e:(decide (E<=a)&&decide (a<=ak))=false:=by
    cases h1:decide (E<=a)<;>cases h2:decide (a<=ak)<;>first|rfl|exact absurd ⟨of_decide_eq_true h1,of_decide_eq_true h2⟩ h
   rw[e];exact Kr a E ak h
instance:Bd aa 66:=⟨_,Tryz.underlying66⟩
abbrev oT:List Value:=[af C.a1,af C.cB,af C.aZ,af C.hW,af C.dY,af C.mJ,af C.eI,af C.iN,af C.dG]
abbrev nh(p m a M bG E:Value)(am e6 ld da:Nat)(aT aL b:Value):List Value:=
 [af C.a1,af C.cB,af C.aZ,af C.hW,af C.dY,af C.mJ,af C.eI,af C.iN,af C.dG,p,m,af 0,af 1,af 2,a,M,bG,E,.map (some am),.map (some e6),.slice none 0 0,ptr ld 0,ptr da 0,.slice none 0 0,af 0,af 0,.bool false,aT,aL,b]
end
section
variable(h:Nat)(bL:Option Addr){m:Nat}{a:Option Addr}(pc:Nat){C:bt}{c:Nat}{K P I:List b2}{k:b2}{l:List b2}{D:List aq}
def nU(l:List b2):aq:=λh=>∀k∈l,lm h k
theorem aBp:∀h,Sat D h->Sat (nU []::D) h:=λh s=>Sat.head (λ_ _ r aE=>by cases aE) (x8 h s)
theorem aBr:∀h,Sat (gO k::nU l::D) h->Sat (nU (l++[k])::D) h:=
 x6 λh1 h2 d o l x ah=>by
  rcases ky.1 ah with ah|ah
  . exact(l x ah).imp λb o e=>vT d e
  . simp at ah;subst ah
    exact o.imp λb o e=>join_some e
theorem aBz(av:eO (l.length*80)):∀h,Sat (own (.slice a l.length c) 78 5 l.length (l.flatMap eK)::nU l::D) h->Sat ((λh=>hT h a c l)::D) h:=
 x6 λh1 h2 d o l=>⟨(iD.own o).imp λb o e=>join_some e,av,λk hk=>(l k hk).imp λb o e=>vT d e⟩
theorem aBA{dp N D:List aq}:∀h,Sat (ax dp::ax N::D) h->Sat (ax (dp++N)::D) h:=λh s=>by
 refine Sat.flat.2 ?_;have s1:=Sat.flat.1 s;rw[jE];exact DQ (λ_ t=>Sat.flat.1 t) dp h s1
abbrev pB(w:Int):List Value:=[ptr h 0,af w,.nilIface,.nilFunc,bw 0,.bool false]
def mg(l:List Nat):List aq:=l.mapIdx λj q=>ab q 128 (pB h (j:Int))
def pC(l:List Nat):List aq:=l.map λq=>ab q 128 (pB h (-1))
def oy(m:Nat)(C:bt)(l:List Po.nn):List aq:=l.mapIdx λi x=>zV m x (C.box (i+1))
theorem aBt{h q:Nat}{l:List Nat}:mg h (l++[q])=mg h l++[ab q 128 (pB h (l.length:Int))]:=Yc
theorem aBu{h q:Nat}{l:List Nat}:pC h (l++[q])=pC h l++[ab q 128 (pB h (-1))]:=o1
theorem aBs{l:List Po.nn}{x:Po.nn}:oy m C (l++[x])=oy m C l++[zV m x (C.box (l++[x]).length)]:=by
 rw[eL];exact Yc
def LF(C:bt):ao:=⟨jC C,⟨0,0,[]⟩,[],[],[],[],[],[],0,0,false,List.replicate (C.a1+C.cB+1) ⟨none,0,false⟩⟩
abbrev Un(t:Int):dn:=⟨[],[],none,0,none,0,t⟩
theorem aBn{s:ao}(h:Th.start C P=some s):∃k N kt,P[0]?=some k/\Th.ll P k.name=some N/\N.states[0]?=some kt/\s={LF C with aJ:=[mA 1 0 N kt.name],trace:=[({Th.c7 with kind:=7,dL:=(1:Nat),cy:=(0:Nat),name:=k.name}:bX)]}:=by
 unfold Th.start at h;obtain⟨k,h1,h⟩:=gZ.1 h;unfold Th.sX at h;obtain⟨N,h2,h⟩:=gZ.1 h;obtain⟨kt,aN,h⟩:=gZ.1 h;refine⟨k,N,kt,h1,h2,aN,?_⟩;split at h
 . obtain⟨_,rfl⟩:=Th.li h
   rfl
 . cases h
def FO(C:bt)(P:List b2)(h m:Nat)(cX:kQ)(dv:Ck.oF)(bG:Nat)(E:List Po.nn)(KO:Option Addr)(KP:Nat)(zE:Option Addr)(zF:Nat)(zG:Option Addr)(zH:Nat)(i:List Nat)(am e6 ld da:Nat)(bL:Option Addr)(pc:Nat):cN:=
 ⟨C,P,h,m,cX,dv,bG,λa=>E.getD (a -1) ⟨0,m,0,0⟩,KO,KP,zE,zF,zG,zH,λj=>i.getD j 0,am,e6,ld,da,bL,pc⟩
theorem agC(c:kU):ad aa 54 [.agg (sM c).toArray] [] (aH (.bool c.okB) []):=by
 refine aw Tryz.func54 λF D=>?_;refine bb ?_;refine wn λar=>?_;refine cq ?_;refine aT (vL c.a1 1 8) ?_;refine aG ?_;refine ls (d:=10) 4 (.bool (fG 1 8 c.a1&&fG 1 4 c.cB)) ?_ (λb=>?_)
 rotate_left
 . refine hx rfl rfl (λW=>?_) (λW=>?_) rfl
   . have f:=bN W
     refine bK ?_;refine aT (vL c.cB 1 4) ?_;refine aG ?_;exact h4 b
   . have f:=bN W
     refine tg ?_;exact h4 b
 refine aG ?_;refine ls (d:=15) 4 (.bool (fG 1 8 c.a1&&fG 1 4 c.cB&&fG 1 16 c.aZ)) ?_ (λa=>?_)
 rotate_left
 . refine hx rfl rfl (λM=>?_) (λM=>?_) rfl
   . have q:=bN M
     refine bK ?_;refine aT (vL c.aZ 1 16) ?_;refine aG ?_;exact h4 a
   . have q:=bN M
     refine tg ?_;exact h4 a
 refine aG ?_;refine ls (d:=20) 4 (.bool (fG 1 8 c.a1&&fG 1 4 c.cB&&fG 1 16 c.aZ&&fG 1 64 c.hW)) ?_ (λe=>?_)
 rotate_left
 . refine hx rfl rfl (λL=>?_) (λL=>?_) rfl
   . have X:=bN L
     refine bK ?_;refine aT (vL c.hW 1 64) ?_;refine aG ?_;exact h4 e
   . have X:=bN L
     refine tg ?_;exact h4 e
 refine aG ?_;refine ls (d:=25) 4 (.bool (fG 1 8 c.a1&&fG 1 4 c.cB&&fG 1 16 c.aZ&&fG 1 64 c.hW&&fG 0 64 c.dY)) ?_ (λg=>?_)
 rotate_left
 . refine hx rfl rfl (λfH=>?_) (λfH=>?_) rfl
   . have m2:=bN fH
     refine bK ?_;refine aT (vL c.dY 0 64) ?_;refine aG ?_;exact h4 g
   . have m2:=bN fH
     refine tg ?_;exact h4 g
 refine aG ?_;refine ls (d:=30) 4 (.bool (fG 1 8 c.a1&&fG 1 4 c.cB&&fG 1 16 c.aZ&&fG 1 64 c.hW&&fG 0 64 c.dY&&fG 1 16 c.mJ)) ?_ (λi=>?_)
 rotate_left
 . refine hx rfl rfl (λw=>?_) (λw=>?_) rfl
   . have I:=bN w
     refine bK ?_;refine aT (vL c.mJ 1 16) ?_;refine aG ?_;exact h4 i
   . have I:=bN w
     refine tg ?_;exact h4 i
 refine aG ?_;refine ls (d:=35) 4 (.bool (fG 1 8 c.a1&&fG 1 4 c.cB&&fG 1 16 c.aZ&&fG 1 64 c.hW&&fG 0 64 c.dY&&fG 1 16 c.mJ&&fG 1 64 c.eI)) ?_ (λn=>?_)
 rotate_left
 . refine hx rfl rfl (λl=>?_) (λl=>?_) rfl
   . have n7:=bN l
     refine bK ?_;refine aT (vL c.eI 1 64) ?_;refine aG ?_;exact h4 n
   . have n7:=bN l
     refine tg ?_;exact h4 n
 refine aG ?_;refine ls (d:=40) 4 (.bool (fG 1 8 c.a1&&fG 1 4 c.cB&&fG 1 16 c.aZ&&fG 1 64 c.hW&&fG 0 64 c.dY&&fG 1 16 c.mJ&&fG 1 64 c.eI&&fG 1 64 c.iN)) ?_ (λj=>?_)
 rotate_left
 . refine hx rfl rfl (λm=>?_) (λm=>?_) rfl
   . have Y:=bN m
     refine bK ?_;refine aT (vL c.iN 1 64) ?_;refine aG ?_;exact h4 j
   . have Y:=bN m
     refine tg ?_;exact h4 j
 refine aG ?_;refine ls (d:=45) 4 (.bool (fG 1 8 c.a1&&fG 1 4 c.cB&&fG 1 16 c.aZ&&fG 1 64 c.hW&&fG 0 64 c.dY&&fG 1 16 c.mJ&&fG 1 64 c.eI&&fG 1 64 c.iN&&fG 0 64 c.dG)) ?_ (λo=>?_)
 rotate_left
 . refine hx rfl rfl (λv=>?_) (λv=>?_) rfl
   . have Z:=bN v
     refine bK ?_;refine aT (vL c.dG 0 64) ?_;refine aG ?_;exact h4 o
   . have Z:=bN v
     refine tg ?_;exact h4 o
 refine bB ?_;exact aX ⟨rfl,rfl⟩
theorem aBB(K:List b2)(a2:aq)(c:kU)(h:c.okB=false):ad aa 28 [.agg (sM c).toArray,.agg #[.slice bL K.length pc]] [a2] (λu H=>∃b,u=.tuple #[.pointer none,.iface 131 (ptr b 0)]/\H=[ab b 134 [af 1,.slice none 0 0],a2]):=by
 refine agB ?_;intro F D U Z;refine nN ?_;refine b6 ?_;refine wn λa=>?_;refine aB rfl (jt Tryz.underlying131 rfl rfl) ?_;refine cq ?_;exact aX ⟨a,rfl,rfl⟩
theorem aBC(K:List b2)(a2:aq)(c:kU)(h:c.okB=true)(cR:Nat->aq)(Pa:ad aa 55 Jp [a2] (λu H=>∃b,u=.iface 131 (ptr b 0)/\H=[cR b,a2])):ad aa 28 [.agg (sM c).toArray,.agg #[.slice bL K.length pc]] [a2] (λu H=>∃b,u=.tuple #[.pointer none,.iface 131 (ptr b 0)]/\H=[cR b,a2]):=by
 refine agB ?_;intro F D U Z;refine lL ?_;refine bi ?_;refine br (Pa) ?_;rintro _ _ ⟨b,rfl,rfl⟩;refine et ?_;refine bi ?_;refine Q7 ?_;refine bb ?_;refine nN ?_;refine c8 ?_;exact aX ⟨b,rfl,rfl⟩
theorem aBo(h:C.ok):(l4 C).okB=true:=by
 simp only[kU.okB,fG,ii,kN];dsimp only[l4];have:=h.aG;have:=h.bQ;have:=h.h1;have:=h.bu;have:=h.cr;have:=h.hg;have:=h.m1;have:=h.m64;have:=h.pS;have:=h.ar;have:=h.GF;have:=h.d1;have:=h.d64;have:=h.i1;have:=h.i64;have:=h.sY;omega
theorem aBq{fd V:b2}(aA:I.map dr=(K.take I.length).map dr)(i7:K[I.length]?=some fd)(O:dr V=dr fd):(I++[V]).map dr=(K.take (I++[V]).length).map dr:=by
 obtain⟨dV,e⟩:=dc.1 i7;rw[o1,aA,eL,aBD,nv dV,o1,e];simp[O]
theorem alC(aA:I.map dr=K.map dr)(lw:(K.map dr)[0]?=some k):0<I.length:=by
 have h1:=(dc.1 lw).1;rw[oQ]at h1;have:=congrArg List.length aA;simp only[oQ]at this;omega
theorem aBv{fS:b2}(aA:I.map dr=K.map dr)(lw:(K.map dr)[0]?=some k)(m3:I[0]?=some fS):fS.name=k.name:=by
 rw[<-aA,fs,m3]at lw;cases lw;rfl
theorem aBy{n:cC}{N:b2}(qr:∀k∈K,lT k)(ba:Th.ll (K.map dr) n=some N):lT N:=by
 have bf:=rb ba;obtain⟨k,hk,rfl⟩:=lU.1 bf;have y:∀s:fN,jf (jf s)=jf s:=λs=>by
  simp only[jf,wU];congr 1
 have aA:dr (dr k)=dr k:=by
  simp only[dr,wU];congr 1;exact alD λs _=>y s
 exact T5 aA.symm (qr k hk)
theorem aBx{h m:Nat}{cX:kQ}{dv:Ck.oF}{bG:Nat}{l:List Po.nn}{d f u:Option Addr}{e g v:Nat}{i:List Nat}{am e6 ld da:Nat}{a:Option Addr}{c:Nat}{t:Int}(ol:cX.m=m)(hu:dv.m=m)(rg:∀x∈l,x.m=m):bE (FO C P h m cX dv bG l d e f g u v i am e6 ld da a c) (Un t) (LF C):=by
 refine⟨ol,hu,λb=>?_,rfl,rfl⟩;show(l.getD (b -1) _).m=m;rw[ix];cases ah:l[b -1]?with
 |none=>rfl
 |some x=>exact rg x y7
theorem aBw{n p r i5 ld da m bG:Nat}{cX:kQ}{dv:Ck.oF}{l:List Po.nn}{a d f u:Option Addr}{c e g v:Nat}{ws aj:List Nat}{t:Int}{D:List aq}(T:I.length=K.length)(aA:I.map dr=K.map dr)(ol:cX.m=m)(hu:dv.m=m)(rg:∀x∈l,x.m=m)(i8:l.length=C.aZ)(m6:ws.length=C.a1)(GW:aj.length=C.cB)(cO:K.length<=8):
 ∀h,Sat ([ab n 108 (nh C (.slice a I.length c) (ptr m 0) (ptr cX.c 0) (ptr dv.c 0) (ptr bG 0) (.slice d l.length e) p r ld da (.slice f ws.length g) (.slice u aj.length v) (ptr i5 0)),ab i5 128 (pB n (-1)),own (.slice u aj.length v) 106 1 aj.length (aj.map λq=>ptr q 0),ax (pC n aj),own (.slice f ws.length g) 106 1 ws.length (ws.map λq=>ptr q 0),ax (mg n ws),own (.slice d l.length e) 116 1 l.length (l.map λx=>ptr x.bo 0),ax (oy m C l),ch m (jC C) t,own (.slice a I.length c) 78 5 I.length (I.flatMap eK),nU I,eW [fS cX C.bA,cd cX C.bA,iR cX C.bA,eM cX C.bA,ax (lG cX C.bA)],eW [Ck.gm dv C.dH,gb dv.r m (C.dH.b+1) C.dH.n,fJ dv.wp ⟨0,0,[]⟩],eC bG m C.bG C.aZ,eB p (.map #[] 0),eB r (.map #[] 0),Lg.ds ld [],ez da C.dG []]++D) h->Sat (bl (FO C (K.map dr) n m cX dv bG l d e f g u v (ws++aj++[i5]) p r ld da a c) (Un t) (LF C)++D) h:=λh s=>by
 obtain⟨X,b⟩:∃X,X=(FO C (K.map dr) n m cX dv bG l d e f g u v (ws++aj++[i5]) p r ld da a c):=⟨_,rfl⟩;have J:X.C=C:=IG;have L:X.m=m:=IG;have M:∀i,(ak:i<l.length)->X.bo (i+1)=l[i]:=λi ak=>by
  rw[b];show l.getD (i+1 -1) _=_;rw[FP,ix,cz ak];rfl
 have N:dZ X=oy m C l:=by
  unfold oy dZ;rw[J];refine uW λi=>?_;rw[fs,sO];by_cases ak:i<C.aZ
  . rw[u4 ak,cz ae]
    show some (xy X (i+1))=some (zV m l[i] (C.box (i+1)));unfold xy zV;rw[M i ae,J,L]
  . rw[oK yY,oK ae];rfl
 have O:((List.range C.aZ).map λi=>ptr (X.bo (i+1)).bo 0)=l.map λx=>ptr x.bo 0:=by
  rw[b];refine uW λi=>?_;rw[fs,fs];by_cases ak:i<C.aZ
  . rw[u4 ak,cz ae]
    show some (ptr (l.getD (i+1 -1) _).bo 0)=some (ptr l[i].bo 0);rw[FP,ix,cz ae];rfl
  . rw[oK yY,oK ae];rfl
 have z:∀i,X.bp i=(ws++aj++[i5]).getD i 0:=λi=>by rw[b];rfl
 have Q:((List.range C.a1).map λi=>ptr (X.bp i) 0)=ws.map λq=>ptr q 0:=by
  refine uW λi=>?_;rw[fs,fs];by_cases ak:i<C.a1
  . rw[u4 ak,cz ae]
    show some (ptr (X.bp i) 0)=_;rw[z,jE,ix,k1 ae,cz ae];rfl
  . rw[oK yY,oK ae];rfl
 have G:((List.range C.cB).map λi=>ptr (X.bp (C.a1+i)) 0)=aj.map λq=>ptr q 0:=by
  refine uW λi=>?_;rw[fs,fs];by_cases ak:i<C.cB
  . rw[u4 ak,cz ae]
    show some (ptr (X.bp (C.a1+i)) 0)=_;rw[z,jE,ix,pH ae,m6,Ge,k1 ae,cz ae];rfl
  . rw[oK yY,oK ae];rfl
 have cK:X.bp (C.a1+C.cB)=i5:=by
  rw[z,ix,pH (by rw[eL];omega),eL,m6,GW,x9];rfl
 have A:de X [] [] (List.replicate (C.a1+C.cB+1) ⟨none,0,false⟩)=mg n ws++pC n aj++[ab i5 128 (pB n (-1))]:=by
  have F:X.C.a1=C.a1:=IG;have H:X.h=n:=IG;refine uW λi=>?_;rw[sO,JL];by_cases h1:i<C.a1
  . rw[bd ae,jE,k1 (by simp[mg];omega)]
    unfold mg;rw[sO,cz ae];show some (ab (X.bp i) _ [ptr X.h 0,af (jT X i),_,_,_,_])=some (ab _ _ _);rw[z,jE,ix,k1 ae,cz ae,H];unfold jT;rw[F,bd h1];rfl
  . by_cases h2:i<C.a1+C.cB
    . rw[bd ae,jE,pH (by simp[mg];omega),k1 (by simp[mg,pC]<;>omega)]
      unfold pC mg;rw[fs,KQ,cz ae];show some (ab (X.bp i) _ [ptr X.h 0,af (jT X i),_,_,_,_])=some (ab _ _ _);rw[z,jE,ix,pH ae,k1 ae,cz ae,H];unfold jT;rw[F,a8 h1];rfl
    . by_cases aN:i=C.a1+C.cB
      . subst aN
        rw[bd ae,pH (by simp[mg,pC]<;>omega)];rw[show C.a1+C.cB -(mg n ws++pC n aj).length=0 by simp[mg,pC]<;>omega];show some (ab (X.bp (C.a1+C.cB)) _ [ptr X.h 0,af (jT X (C.a1+C.cB)),_,_,_,_])=some (ab _ _ _);rw[cK,H];unfold jT;rw[F,a8 h1]
      . rw[a8 ae,oK];rfl;simp[mg,pC];omega
 have j:I.map dr=X.P.map dr:=by
  rw[aA,b];show K.map dr=(K.map dr).map dr;rw[wU];refine alD λk _=>?_;have y:∀s:fN,jf (jf s)=jf s:=λs=>by
   simp only[jf,wU];congr 1
  show dr k=dr (dr k);simp only[dr,wU];congr 1;exact(alD λs _=>y s).symm
 have R:I.length=(K.map dr).length:=by rw[oQ,T]
 have s1:=(show∀h,Sat _ h->Sat (own (.slice a I.length c) 78 5 I.length (I.flatMap eK)::nU I::ab n 108 (nh C (.slice a I.length c) (ptr m 0) (ptr cX.c 0) (ptr dv.c 0) (ptr bG 0) (.slice d l.length e) p r ld da (.slice f ws.length g) (.slice u aj.length v) (ptr i5 0))::ab i5 128 (pB n (-1))::own (.slice u aj.length v) 106 1 aj.length (aj.map λq=>ptr q 0)::ax (pC n aj)::own (.slice f ws.length g) 106 1 ws.length (ws.map λq=>ptr q 0)::ax (mg n ws)::own (.slice d l.length e) 116 1 l.length (l.map λx=>ptr x.bo 0)::ax (oy m C l)::ch m (jC C) t::eW [fS cX C.bA,cd cX C.bA,iR cX C.bA,eM cX C.bA,ax (lG cX C.bA)]::eW [Ck.gm dv C.dH,gb dv.r m (C.dH.b+1) C.dH.n,fJ dv.wp ⟨0,0,[]⟩]::eC bG m C.bG C.aZ::eB p (.map #[] 0)::eB r (.map #[] 0)::Lg.ds ld []::ez da C.dG []::D) h from(au)) h s;have bP:=aBz (by unfold eO;omega) h s1;have bZ:=Sat.head (B:=gd X) (λh o=>⟨I,j,by rw[b];exact o⟩) bP;have i0:=(show∀h,Sat _ h->Sat (ab i5 128 (pB n (-1))::ax (mg n ws)::ax (pC n aj)::gd X::ab n 108 (nh C (.slice a I.length c) (ptr m 0) (ptr cX.c 0) (ptr dv.c 0) (ptr bG 0) (.slice d l.length e) p r ld da (.slice f ws.length g) (.slice u aj.length v) (ptr i5 0))::own (.slice u aj.length v) 106 1 aj.length (aj.map λq=>ptr q 0)::own (.slice f ws.length g) 106 1 ws.length (ws.map λq=>ptr q 0)::own (.slice d l.length e) 116 1 l.length (l.map λx=>ptr x.bo 0)::ax (oy m C l)::ch m (jC C) t::eW [fS cX C.bA,cd cX C.bA,iR cX C.bA,eM cX C.bA,ax (lG cX C.bA)]::eW [Ck.gm dv C.dH,gb dv.r m (C.dH.b+1) C.dH.n,fJ dv.wp ⟨0,0,[]⟩]::eC bG m C.bG C.aZ::eB p (.map #[] 0)::eB r (.map #[] 0)::Lg.ds ld []::ez da C.dG []::D) h from(au)) h bZ;have md:=ty h (Sat.tail (λh E=>aBA h E) i0);rw[<-A]at md;have S:=Br (d6:=.i64) h (Sat.tail (λh E=>Br (d6:=.u64) h E) ((show∀h,Sat _ h->Sat (eB p (.map #[] 0)::eB r (.map #[] 0)::ax (de X [] [] (List.replicate (C.a1+C.cB+1) ⟨none,0,false⟩))::gd X::ab n 108 (nh C (.slice a I.length c) (ptr m 0) (ptr cX.c 0) (ptr dv.c 0) (ptr bG 0) (.slice d l.length e) p r ld da (.slice f ws.length g) (.slice u aj.length v) (ptr i5 0))::own (.slice u aj.length v) 106 1 aj.length (aj.map λq=>ptr q 0)::own (.slice f ws.length g) 106 1 ws.length (ws.map λq=>ptr q 0)::own (.slice d l.length e) 116 1 l.length (l.map λx=>ptr x.bo 0)::ax (oy m C l)::ch m (jC C) t::eW [fS cX C.bA,cd cX C.bA,iR cX C.bA,eM cX C.bA,ax (lG cX C.bA)]::eW [Ck.gm dv C.dH,gb dv.r m (C.dH.b+1) C.dH.n,fJ dv.wp ⟨0,0,[]⟩]::eC bG m C.bG C.aZ::Lg.ds ld []::ez da C.dG []::D) h from(au)) h md));have w:=iV (e:=38) (aY:=9) h (iV (e:=261) (aY:=3) h (wR h (wR h S)));rw[<-N,<-O,<-Q,<-G,i8,m6,GW,R,<-cK]at w;subst b;exact(au) h w
end
end Go.Proofs.YtnnhpnccfnghdaaGreat.L.bH
namespace Go.Proofs.YtnnhpnccfnghdaaGreat.L.bH
open Go.Proofs.YtnnhpnccfnghdaaGreat.L
open Go.L Go.L.Lx Go.L.Pg Go.RowKit Go.Deep
open Go.L.Th (bt cZ)
attribute[local irreducible] G cE GE cY GT b0 df c4 di Exit.then Exit.inBlock
section
variable{F:Type}{enc:TypeId×Value->F}{P:Program}{w:World}{E:Nat}{D:Nat->Bool}{held:Bool}
theorem aiu{t n k:Nat}{cs:List Value}{y:DataW F×List MemPlace}{bO:Nat}(a6:P.cellsOf t=k)(h:DataW.trod enc P w E D held n t ((cs.drop bO).take (P.cellsOf t))=some y):DataW.trod enc P w E D held n t ((cs.drop bO).take k)=some y:=by rw[a6]at h;exact h
end
def Y2{W:World}{a:Option Addr}{c n:Nat}{xs:List Value}(p:iD (fR W) a c n xs):∀h,base W h->iD h a c n xs:=λh aA=>⟨p.1.imp λb o e=>by
 have dV:b<W.heap.size:=by
  rcases r7 b W.heap.size with x|x
  . exact x
  . rw[show fR W b=W.heap[b]?from rfl,Hf x]at e;cases e
 rw[aA b dV];exact e,p.2⟩
instance:Inhabited cZ:=⟨⟨0,0,0,[],0⟩⟩
def aut{F:Type}{enc:TypeId×Value->F}{w:World}{E:Nat}{D:Nat->Bool}{held:Bool}(n:Nat)(cs:List Value)(d:DataW F×List MemPlace)(h:DataW.trod enc aa w E D held n 60 cs=some d)(O:l7 aa 60 d.1):∃q,cs=gv q/\eO q.tag.length:=by
 obtain⟨xs,m,_,rfl,av,hlen,ba⟩:=DataW.trod_struct Tryz.underlying60 h;rw[show aa.cellsOf 60=5 by kernel_rfl]at av;replace hlen:xs.length=5:=hlen;obtain⟨en,c1,bn,b9,d5,rfl⟩:∃en c1 bn b9 d5,cs=[en,c1,bn,b9,d5]:=ZR;obtain⟨b,g⟩:∃y,xs[0]?=some y:=⟨_,cz ae⟩;have f0:=(ba 0 _ rfl).trans g;have l:=ib (i:=0) Tryz.underlying60 O rfl (show(xs.map (·.1))[0]?=some b.1 by rw[fs,g];rfl);obtain⟨a,W⟩:∃y,xs[1]?=some y:=⟨_,cz ae⟩;have f1:=(ba 1 _ rfl).trans W;have aG:=ib (i:=1) Tryz.underlying60 O rfl (show(xs.map (·.1))[1]?=some a.1 by rw[fs,W];rfl);obtain⟨f,Z⟩:∃y,xs[2]?=some y:=⟨_,cz ae⟩;have f2:=(ba 2 _ rfl).trans Z;have bb:=ib (i:=2) Tryz.underlying60 O rfl (show(xs.map (·.1))[2]?=some f.1 by rw[fs,Z];rfl);obtain⟨j,d8⟩:∃y,xs[3]?=some y:=⟨_,cz ae⟩;have f3:=(ba 3 _ rfl).trans d8;have b6:=ib (i:=3) Tryz.underlying60 O rfl (show(xs.map (·.1))[3]?=some j.1 by rw[fs,d8];rfl);obtain⟨t,gc⟩:∃y,xs[4]?=some y:=⟨_,cz ae⟩;have f4:=(ba 4 _ rfl).trans gc;have bK:=ib (i:=4) Tryz.underlying60 O rfl (show(xs.map (·.1))[4]?=some t.1 by rw[fs,gc];rfl);obtain⟨v0,rfl⟩:=lN Tryz.underlying3 (show aa.cellsOf 3=1 by kernel_rfl) f0 rfl;obtain⟨v1,rfl⟩:=lN Tryz.underlying3 (show aa.cellsOf 3=1 by kernel_rfl) f1 rfl;obtain⟨u,rfl⟩:=lN Tryz.underlying3 (show aa.cellsOf 3=1 by kernel_rfl) f2 rfl;obtain⟨v3,rfl,iR⟩:=Go.Proofs.YtnnhpnccfnghdaaGreat.L.ik Tryz.underlying9 (show aa.cellsOf 9=1 by kernel_rfl) f3 b6 rfl;obtain⟨v4,rfl⟩:=lN Tryz.underlying3 (show aa.cellsOf 3=1 by kernel_rfl) f4 rfl;exact⟨⟨v0,v1,u,v3,v4⟩,rfl,iR⟩
def auu{F:Type}{enc:TypeId×Value->F}{w:World}{E:Nat}{D:Nat->Bool}{held:Bool}(n:Nat)(cs:List Value)(d:DataW F×List MemPlace)(h:DataW.trod enc aa w E D held n 23 cs=some d)(O:l7 aa 23 d.1):∃q,cs=sM q:=by
 obtain⟨xs,m,_,rfl,av,hlen,ba⟩:=DataW.trod_struct Tryz.underlying23 h;rw[show aa.cellsOf 23=9 by kernel_rfl]at av;replace hlen:xs.length=9:=hlen;obtain⟨en,c1,bn,b9,d5,d9,ge,S,c,rfl⟩:∃en c1 bn b9 d5 d9 ge S c,cs=[en,c1,bn,b9,d5,d9,ge,S,c]:=by match cs,av with|[en,c1,bn,b9,d5,d9,ge,S,c],_=>exact⟨_,_,_,_,_,_,_,_,_,rfl⟩
 obtain⟨b,g⟩:∃y,xs[0]?=some y:=⟨_,cz ae⟩;have f0:=(ba 0 _ rfl).trans g;have l:=ib (i:=0) Tryz.underlying23 O rfl (show(xs.map (·.1))[0]?=some b.1 by rw[fs,g];rfl);obtain⟨a,W⟩:∃y,xs[1]?=some y:=⟨_,cz ae⟩;have f1:=(ba 1 _ rfl).trans W;have aG:=ib (i:=1) Tryz.underlying23 O rfl (show(xs.map (·.1))[1]?=some a.1 by rw[fs,W];rfl);obtain⟨f,Z⟩:∃y,xs[2]?=some y:=⟨_,cz ae⟩;have f2:=(ba 2 _ rfl).trans Z;have bb:=ib (i:=2) Tryz.underlying23 O rfl (show(xs.map (·.1))[2]?=some f.1 by rw[fs,Z];rfl);obtain⟨j,d8⟩:∃y,xs[3]?=some y:=⟨_,cz ae⟩;have f3:=(ba 3 _ rfl).trans d8;have b6:=ib (i:=3) Tryz.underlying23 O rfl (show(xs.map (·.1))[3]?=some j.1 by rw[fs,d8];rfl);obtain⟨t,gc⟩:∃y,xs[4]?=some y:=⟨_,cz ae⟩;have f4:=(ba 4 _ rfl).trans gc;have bK:=ib (i:=4) Tryz.underlying23 O rfl (show(xs.map (·.1))[4]?=some t.1 by rw[fs,gc];rfl);obtain⟨o,hm⟩:∃y,xs[5]?=some y:=⟨_,cz ae⟩;have f5:=(ba 5 _ rfl).trans hm;have bB:=ib (i:=5) Tryz.underlying23 O rfl (show(xs.map (·.1))[5]?=some o.1 by rw[fs,hm];rfl);obtain⟨r,G⟩:∃y,xs[6]?=some y:=⟨_,cz ae⟩;have f6:=(ba 6 _ rfl).trans G;have bi:=ib (i:=6) Tryz.underlying23 O rfl (show(xs.map (·.1))[6]?=some r.1 by rw[fs,G];rfl);obtain⟨v,L⟩:∃y,xs[7]?=some y:=⟨_,cz ae⟩;have f7:=(ba 7 _ rfl).trans L;have cq:=ib (i:=7) Tryz.underlying23 O rfl (show(xs.map (·.1))[7]?=some v.1 by rw[fs,L];rfl);obtain⟨x,s⟩:∃y,xs[8]?=some y:=⟨_,cz ae⟩;have f8:=(ba 8 _ rfl).trans s;have bQ:=ib (i:=8) Tryz.underlying23 O rfl (show(xs.map (·.1))[8]?=some x.1 by rw[fs,s];rfl);obtain⟨v0,rfl⟩:=lN Tryz.underlying3 (show aa.cellsOf 3=1 by kernel_rfl) f0 rfl;obtain⟨v1,rfl⟩:=lN Tryz.underlying3 (show aa.cellsOf 3=1 by kernel_rfl) f1 rfl;obtain⟨u,rfl⟩:=lN Tryz.underlying3 (show aa.cellsOf 3=1 by kernel_rfl) f2 rfl;obtain⟨v3,rfl⟩:=lN Tryz.underlying3 (show aa.cellsOf 3=1 by kernel_rfl) f3 rfl;obtain⟨v4,rfl⟩:=lN Tryz.underlying3 (show aa.cellsOf 3=1 by kernel_rfl) f4 rfl;obtain⟨v5,rfl⟩:=lN Tryz.underlying3 (show aa.cellsOf 3=1 by kernel_rfl) f5 rfl;obtain⟨e,rfl⟩:=lN Tryz.underlying3 (show aa.cellsOf 3=1 by kernel_rfl) f6 rfl;obtain⟨k,rfl⟩:=lN Tryz.underlying3 (show aa.cellsOf 3=1 by kernel_rfl) f7 rfl;obtain⟨p,rfl⟩:=lN Tryz.underlying3 (show aa.cellsOf 3=1 by kernel_rfl) f8 rfl;exact⟨⟨v0,v1,u,v3,v4,v5,e,k,p⟩,rfl⟩
def YZ{F:Type}{enc:TypeId×Value->F}{w:World}{E:Nat}{D:Nat->Bool}{held:Bool}(n:Nat)(cs:List Value)(d:DataW F×List MemPlace)(h:DataW.trod enc aa w E D held n 57 cs=some d)(O:l7 aa 57 d.1):∃(q:kU) (bL:Option Addr) (pc:Nat) (K:List b2) (ea:Option Addr) (cA:Nat) (es:List cZ) (r:Int),cs=sM q++[.slice bL K.length pc,.slice ea es.length cA,af r]/\hT (fR w) bL pc K/\iD (fR w) ea cA es.length (es.flatMap gv)/\eO (es.length*48)/\∀e∈es,eO e.tag.length:=by
 obtain⟨xs,m,_,rfl,av,hlen,ba⟩:=DataW.trod_struct Tryz.underlying57 h;rw[show aa.cellsOf 57=12 by kernel_rfl]at av;replace hlen:xs.length=4:=hlen;obtain⟨en,c1,bn,b9,d5,d9,ge,S,c,o,k,p,rfl⟩:∃en c1 bn b9 d5 d9 ge S c o k p,cs=[en,c1,bn,b9,d5,d9,ge,S,c,o,k,p]:=by match cs,av with|[en,c1,bn,b9,d5,d9,ge,S,c,o,k,p],_=>exact⟨_,_,_,_,_,_,_,_,_,_,_,_,rfl⟩
 obtain⟨b,g⟩:∃y,xs[0]?=some y:=⟨_,cz ae⟩;have f0:=(ba 0 _ rfl).trans g;have l:=ib (i:=0) Tryz.underlying57 O rfl (show(xs.map (·.1))[0]?=some b.1 by rw[fs,g];rfl);obtain⟨a,W⟩:∃y,xs[1]?=some y:=⟨_,cz ae⟩;have f1:=(ba 1 _ rfl).trans W;have aG:=ib (i:=1) Tryz.underlying57 O rfl (show(xs.map (·.1))[1]?=some a.1 by rw[fs,W];rfl);obtain⟨f,Z⟩:∃y,xs[2]?=some y:=⟨_,cz ae⟩;have f2:=(ba 2 _ rfl).trans Z;have bb:=ib (i:=2) Tryz.underlying57 O rfl (show(xs.map (·.1))[2]?=some f.1 by rw[fs,Z];rfl);obtain⟨j,d8⟩:∃y,xs[3]?=some y:=⟨_,cz ae⟩;have f3:=(ba 3 _ rfl).trans d8;have b6:=ib (i:=3) Tryz.underlying57 O rfl (show(xs.map (·.1))[3]?=some j.1 by rw[fs,d8];rfl);obtain⟨q,gr⟩:=auu _ _ _ (aiu (show aa.cellsOf 23=9 by kernel_rfl) f0) l;obtain⟨bL,pc,K,ay,cT⟩:=aus _ _ _ (aiu (show aa.cellsOf 26=1 by kernel_rfl) f1) aG;obtain⟨ea,cA,es,rfl,s,t,lM⟩:=B1 gv (λe:cZ=>eO e.tag.length) (λ_=>rfl) (λn cs d h w=>aut n cs d h w) Tryz.underlying27 (show aa.cellsOf 60=5 by kernel_rfl) bJ (show aa.bytesOf 60=48 by kernel_rfl) (show aa.cellsOf 27=1 by kernel_rfl) f2 bb rfl;obtain⟨v3,rfl⟩:=lN Tryz.underlying3 (show aa.cellsOf 3=1 by kernel_rfl) f3 rfl;refine⟨q,bL,pc,K,ea,cA,es,v3,?_,cT,lM,t,s⟩;replace gr:[en,c1,bn,b9,d5,d9,ge,S,c]=sM q:=gr;replace ay:[o]=BO:=ay;simp only[List.cons.injEq,and_true]at ay;obtain rfl:=ay;rw[<-gr];rfl
end Go.Proofs.YtnnhpnccfnghdaaGreat.L.bH
namespace Go.Proofs.YtnnhpnccfnghdaaGreat.L.bH
open Go.Proofs.YtnnhpnccfnghdaaGreat.L
open Go.L Go.L.Ring Go.L.dq Go.L.dR Go.L.Whl Go.L.dA Go.L.Lx Go.L.Pg
open Go.L.Led (dg du dT bs av e8)
open Go.L.Th (bt cW c9 bX dt bR bU ev bW ao most dU cQ ff eD dM In cV c6 eE bx bM eF eG bk cG dw go bq Good eb eH dQ acc Inv eh er e3 busy cZ ek dN fa)
attribute[local irreducible] G cE GE cY GT b0 df c4 di Exit.then Exit.inBlock
structure Std where
 x:bR
 xV:cC
 sa:Option Addr
 sc:Nat
 ka:Option Addr
 kc:Nat
 cI:Option Addr
 cJ:Nat
 Up:Option Addr
 Uq:Nat
abbrev q4(E:Std):List Value:=[af E.x.id,af E.x.parent,S E.xV,S E.x.state,af E.x.mode,.slice E.sa 4 E.sc,hN E.ka E.kc E.x.kids,ul E.cI E.cJ E.x.aside,ul E.Up E.Uq E.x.front.reverse]
section
variable(E:Std){C:bt}{P:List b2}{n:Nat}{s:ao}
abbrev FQ:aq:=own (.slice E.sa 4 E.sc) 3 1 4 (iC [E.x.slots.getD 0 0,E.x.slots.getD 1 0,E.x.slots.getD 2 0,E.x.slots.getD 3 0])
def s6:aq:=eW [FQ E,dz E.ka E.kc E.x.kids,fE E.cI E.cJ E.x.aside,fE E.Up E.Uq E.x.front.reverse]
structure FR(s:ao)(U:List Std):Prop where
 xs:U.map (·.x)=s.aJ.take U.length
 xV:∀E∈U,E.xV=E.x.kind.name
 le:U.length<=s.aJ.length
def FR.next{U:List Std}{E:Std}(h:FR s U)(ah:s.aJ[U.length]?=some E.x)(hk:E.xV=E.x.kind.name):FR s (U++[E]):=by
 obtain⟨dV,e⟩:=dc.1 ah;refine⟨?_,λy ag=>?_,by rw[eL];exact dV⟩
 . rw[o1,h.xs,eL,aBD,nv dV,e];rfl
 . rcases ky.1 ag with ag|ag
   . exact h.xV y ag
   . simp at ag;subst ag;exact hk
structure alF(x:bR):Prop where
 slots:x.slots.length=4
 kids:x.kids.length<=most
 aside:x.aside.length<=most
 front:x.front.length<=most
def aBJ(X:cN)(z:dn)(s:ao)(al:bE X z s)(cx:∀i x,s.aJ[i]?=some x->x.id=i+1)(aM:s.aJ.length<=X.C.aZ)(n:X.C.aZ<=16)(N:∀x∈s.aJ,alF x):ad aa 19 [ptr X.h 0] (bl X z s) (λu H=>∃(a:Option Addr) (c:Nat) (U:List Std),u=.slice a U.length c/\U.map (·.x)=s.aJ/\(∀E∈U,E.xV=E.x.kind.name)/\H=own (.slice a U.length c) 51 9 U.length (U.flatMap q4)::ax (U.map s6)::bl X z s):=by
 refine aw Tryz.func19 λF D=>?_;have No:=al.ap;refine eJ ?_;refine bb ?_;refine gG (bv:=(Option Addr×Nat)×List Std) (λE=>FR s E.2) (λE=>[(4,af ((E.2.length+1:Nat):Int)),(3,.slice E.1.1 E.2.length E.1.2),(0,ptr X.h 0)]) (λE=>own (.slice E.1.1 E.2.length E.1.2) 51 9 E.2.length (E.2.flatMap q4)::ax (E.2.map s6)::cL X z s::dP z.cI z.cJ s.trace::fl z.na z.fq s.notes::b3 X.am .i64 (cf z.ap)::ax (e5 X z.ap s.aJ)::b3 X.e6 .u64 (cf z.ai)::ax (gj z.ai s.lets)::Lg.ds X.ld s.bc::ez X.da X.C.dG s.dead::ch X.m s.L z.tt::fA X::fw X s.bs::eC X.bG X.m X.C.bG X.C.aZ::ax (dZ X)::fu X::gk X::gX X::gd X::ax (de X z.ap z.ai s.az)::D) (λE=>s.aJ.length -E.2.length) ((none,0),[]) (⟨rfl,(λE T=>by cases T),eX _⟩) dy (λh s=>iV h (wR h ((au) h s))) ?_;rintro⟨⟨a,c⟩,U⟩ bC;replace bC:FR s U:=bC;have o:=bC.le;dsimp only;refine bb ?_;rcases r7 U.length s.aJ.length with dV|I
 . refine bi ?_
   obtain⟨x,ah⟩:∃x,s.aJ[U.length]?=some x:=⟨_,cz dV⟩;obtain⟨q,bm⟩:∃q,z.ap[U.length]?=some q:=⟨_,cz ae⟩;have B:At X z.ap s.aJ (U.length+1) q x:=⟨by rw[FP];exact bm,by rw[FP];exact ah,cx _ _ ah,by omega⟩;have J:=N x (js ah);obtain⟨ec,s1,bP,bZ,aj⟩:∃ec s1 bP bZ,x.slots=[ec,s1,bP,bZ]:=by
    match x.slots,J.slots with
    |[ec,s1,bP,bZ],_=>exact⟨ec,s1,bP,bZ,rfl⟩
   have m3:x.kids.length<=1099511627776:=J.kids;have M:x.aside.length<=1099511627776:=J.aside;have L:x.front.length<=1099511627776:=J.front;have K:=B.cx;refine aB rfl (l0 (ptr q 0) (by rw[zJ bm];rfl) rfl rfl) ?_;refine eJ ?_;refine aB rfl (l0 (ptr q 0) (by rw[zJ bm];rfl) rfl rfl) ?_;refine b6 ?_;refine u1 (l:=e5 X z.ap s.aJ) (i:=U.length) (A:=vu X q x) ey (by have bh:=B.ax;rwa[FP]at bh) ?_;refine kK ey (λe V=>?_);simp only[B8,cp,cm];have i9:e.b8.name=x.kind.name:=(akO V.b8).2.2;haveI:=sZ (q:=q) (X:=X) (e:=e) aj;refine hU [23,28,33,38,40,41] [23,28,33,38,40] [(0,.bI),(1,.bI),(2,.bI),(3,.bI),(4,.bI),(5,.bI),(6,.bI),(7,.bI),(8,.bI),(9,.bI),(10,.bI),(11,.bI),(12,.bI),(13,.bI),(14,.bI),(15,.bI),(16,.bI),(17,.bI),(18,.bI),(19,.loc),(20,.loc),(21,.loc),(22,.loc),(24,.bI),(25,.bI),(26,.bI),(27,.bI),(29,.bI),(30,.bI),(31,.bI),(32,.bI),(34,.bI),(35,.bI),(36,.bI),(37,.bI),(23,.c5),(28,.c5),(33,.c5),(38,.c5),(39,.loc),(40,.c5),(41,.c5),(42,.loc)] [ab q 118 (eg X x e),dz e.ka e.kc x.kids,gi e.gK X.C.dY x.aside x.front] mixed gB ?_;refine c8 ?_;refine go_vs rfl .none rfl (o_load (v:=S x.kind.name) rfl (by rw[<-i9];rfl)) (au) ?_;refine c0 ?_;refine go_v rfl .none rfl (Ma Tryz.underlying111 ⟨_,rfl,rfl⟩ rfl) ?_;refine dC ?_;refine go_c rfl .none rfl (b1 rfl (ET (some ⟨q,8,none⟩) 4 4 (iC [ec,s1,bP,bZ]) (ab q 118 (eg X x e)) rfl rfl bJ) bF) ?_;rintro _ D ⟨_,⟨b,d,rfl,rfl⟩,rfl⟩;refine fm ?_;rw[show own (.slice b 4 d) 3 1 4 (iC [ec,s1,bP,bZ])=FQ ⟨x,x.kind.name,b,d,none,0,none,0,none,0⟩from by simp only[FQ,aj];rfl];refine aG ?_;refine go_c rfl .none rfl (b1 rfl (ET e.ka e.kc x.kids.length (iC x.kids) (dz e.ka e.kc x.kids) (Si x.kids) (Sj x.kids) ae) bF) ?_;rintro _ D ⟨_,⟨f,g,rfl,rfl⟩,rfl⟩;refine rV ?_;refine br (aiM e.gK X.C.dY x.aside x.front M L) ?_;rintro _ _ ⟨j,m,rfl,rfl⟩;refine et ?_;refine aG ?_;refine br (avb e.gK X.C.dY x.aside x.front M L) ?_;rintro _ _ ⟨p,r,rfl,rfl⟩;refine et ?_;refine aG ?_;refine go_v rfl .none rfl (kE (cs:=q4 ⟨x,x.kind.name,b,d,f,g,j,m,p,r⟩) rfl (by rw[<-K];rfl)) ?_;refine wn λO=>?_;refine aG ?_;refine gQ λy C=>?_;refine cq ?_;refine aB rfl (fk ((U.length+1+1:Nat):Int) eZ rfl rfl) ?_;refine bb ?_;obtain⟨E,T⟩:∃E:Std,E=⟨x,x.kind.name,b,d,f,g,j,m,p,r⟩:=⟨_,rfl⟩;refine fD ((y,C),(U++[E])) (bC.next (E:=E) (by rw[T];exact ah) (by rw[T])) (show s.aJ.length -(U++[E]).length<s.aJ.length -U.length by rw[eL];show s.aJ.length -(U.length+1)<_;omega) (bg.cons uV (bg.cons uV dy)) (λh t=>?_);dsimp only;have t1:=(show∀h,Sat _ h->Sat (FQ ⟨x,x.kind.name,b,d,f,g,j,m,p,r⟩::dz f g x.kids::fE j m x.aside::fE p r x.front.reverse::ax (U.map s6)::own (.slice y (U.length+1) C) 51 9 (U.length+1) (U.flatMap q4++q4 ⟨x,x.kind.name,b,d,f,g,j,m,p,r⟩)::ab q 118 (eg X x e)::dz e.ka e.kc x.kids::dz e.hP e.hQ x.cM::gi e.gK X.C.dY x.aside x.front::h8 e.jx (min (max e.b8.limit 0) 100) (min (max e.b8.within 1) 4095) x.given::b3 e.gQ .i64 (x.watched.map λw=>(w,.bool true))::jd e.jy (h9 e.es)::ax (iy e.es)::gO e.b8::ax ((e5 X z.ap s.aJ).set U.length ft)::cL X z s::dP z.cI z.cJ s.trace::fl z.na z.fq s.notes::b3 X.am .i64 (cf z.ap)::b3 X.e6 .u64 (cf z.ai)::ax (gj z.ai s.lets)::Lg.ds X.ld s.bc::ez X.da X.C.dG s.dead::ch X.m s.L z.tt::fA X::fw X s.bs::eC X.bG X.m X.C.bG X.C.aZ::ax (dZ X)::fu X::gk X::gX X::gd X::ax (de X z.ap z.ai s.az)::D) h from(au)) h t;rw[<-T]at t1;rw[show U.length+1=(U++[E]).length from by simp,show U.flatMap q4++q4 E=(U++[E]).flatMap q4 from by simp]at t1;have Y:=cF (D:=ax (U.map s6)::own (.slice y (U++[E]).length C) 51 9 (U++[E]).length ((U++[E]).flatMap q4)::ab q 118 (eg X x e)::dz e.ka e.kc x.kids::dz e.hP e.hQ x.cM::gi e.gK X.C.dY x.aside x.front::h8 e.jx (min (max e.b8.limit 0) 100) (min (max e.b8.within 1) 4095) x.given::b3 e.gQ .i64 (x.watched.map λw=>(w,.bool true))::jd e.jy (h9 e.es)::ax (iy e.es)::gO e.b8::ax ((e5 X z.ap s.aJ).set U.length ft)::cL X z s::dP z.cI z.cJ s.trace::fl z.na z.fq s.notes::b3 X.am .i64 (cf z.ap)::b3 X.e6 .u64 (cf z.ai)::ax (gj z.ai s.lets)::Lg.ds X.ld s.bc::ez X.da X.C.dG s.dead::ch X.m s.L z.tt::fA X::fw X s.bs::eC X.bG X.m X.C.bG X.C.aZ::ax (dZ X)::fu X::gk X::gX X::gd X::ax (de X z.ap z.ai s.az)::D) (bv:=Unit) (fM:=λ_=>True) (l:=λ_=>[FQ E,dz E.ka E.kc E.x.kids,fE E.cI E.cJ E.x.aside,fE E.Up E.Uq E.x.front.reverse]) () trivial (λh t=>t) h (by subst T;exact t1);have t3:=ty (A:=s6 E) h Y;rw[show U.map s6++[s6 E]=(U++[E]).map s6 by simp]at t3;have t4:=(show∀h,Sat _ h->Sat (B8 X q x e++(ax ((e5 X z.ap s.aJ).set U.length ft)::own (.slice y (U++[E]).length C) 51 9 (U++[E]).length ((U++[E]).flatMap q4)::ax ((U++[E]).map s6)::cL X z s::dP z.cI z.cJ s.trace::fl z.na z.fq s.notes::b3 X.am .i64 (cf z.ap)::b3 X.e6 .u64 (cf z.ai)::ax (gj z.ai s.lets)::Lg.ds X.ld s.bc::ez X.da X.C.dG s.dead::ch X.m s.L z.tt::fA X::fw X s.bs::eC X.bG X.m X.C.bG X.C.aZ::ax (dZ X)::fu X::gk X::gX X::gd X::ax (de X z.ap z.ai s.az)::D)) h from(au)) h t3;have t5:=akE (D:=own (.slice y (U++[E]).length C) 51 9 (U++[E]).length ((U++[E]).flatMap q4)::ax ((U++[E]).map s6)::cL X z s::dP z.cI z.cJ s.trace::fl z.na z.fq s.notes::b3 X.am .i64 (cf z.ap)::b3 X.e6 .u64 (cf z.ai)::ax (gj z.ai s.lets)::Lg.ds X.ld s.bc::ez X.da X.C.dG s.dead::ch X.m s.L z.tt::fA X::fw X s.bs::eC X.bG X.m X.C.bG X.C.aZ::ax (dZ X)::fu X::gk X::gX X::gd X::ax (de X z.ap z.ai s.az)::D) B V h t4;rw[show s.aJ.set (U.length+1 -1) x=s.aJ from by rw[FP];obtain⟨W,Z⟩:=dc.1 ah;rw[<-Z,yL W]]at t5;exact(au) h t5
 . refine bi ?_
   refine aB rfl (l0 (.pointer none) (by rw[KU (by omega)];rfl) rfl rfl) ?_;refine eJ ?_;refine bb ?_;exact aX ⟨a,c,U,rfl,by rw[bC.xs,yZ I],bC.xV,rfl⟩
def aBK(r:zX C P n s)(aM:n<=Th.gM):∀x∈s.aJ,alF x:=λx ah=>by
 obtain⟨i,ak⟩:=Fs.1 ah;have B:=r.inv.base.aJ i x ak;have h1:=r.ph;have h2:Th.gM=10000000:=rfl;have aN:Th.hE=90000:=rfl;have dW:Th.hE*n<=90000*10000000:=qq (ei _) aM;have bu:(s.aJ.map Th.io).sum<=Th.bM s:=Px;have g1:=Th.Lb (n:=1000000000000) (lU.2 ⟨x,ah,rfl⟩:Th.io x∈s.aJ.map Th.io) ae;unfold Th.io at g1;exact⟨B.slots,by show _<=1099511627776;omega,by show _<=1099511627776;omega,by show _<=1099511627776;omega⟩
def aBL{h n:Nat}{s:ao}(r:zX C P n s)(aM:n<=Th.gM)(J:C.ok):ad aa 19 [ptr h 0] xc (λu H=>∃(a:Option Addr) (c:Nat) (U:List Std),u=.slice a U.length c/\U.map (·.x)=s.aJ/\(∀E∈U,E.xV=E.x.kind.name)/\H=[own (.slice a U.length c) 51 9 U.length (U.flatMap q4),ax (U.map s6),kF C P h s]):=
 zW λX z al ay aV bz=>by
  subst ay aV bz;exact q1 [] (aBJ X z s al (λi x ak=>(r.inv.base.aJ i x ak).id) r.inv.base.na J.hg (aBK r aM)) kG λu H ⟨a,c,U,e,h1,h2,cb⟩=>⟨_,⟨a,c,U,e,h1,h2,rfl⟩,λh s=>by
   subst cb;rw[jr]at s;exact Sat.tail (λh s=>Sat.tail QR s) s⟩
end
end Go.Proofs.YtnnhpnccfnghdaaGreat.L.bH
