import Derived.Test.YtnnhpnccfnghdaaGreatK15
import Derived.Laws.IdiomCopy
import Derived.Shelf.Spec.SlicesInsert
import Derived.Shelf.Spec.SlicesInsertGrow
import Derived.Ground.Names2Prog
set_option linter.all false
set_option maxRecDepth 8000
set_option maxHeartbeats 24000000
namespace Go.Proofs.YtnnhpnccfnghdaaGreat.L.bE
open Go.Proofs.YtnnhpnccfnghdaaGreat.L
open Go.L Go.L.Ring Go.L.dr Go.L.dX Go.L.Whl Go.L.dB Go.L.Lx Go.L.Pg
open Go.L.Led (dg du dS bs aw e2)
open Go.L.Th (bK cV da bZ ds bQ bY eE bV ar most dU cM fg eJ dP In cR cZ eK bw bL eL eM bl cB dw go br Good eg eN dT acc Inv eu eS ff busy dG ei ef e9)
attribute[local irreducible] G cz GE cT GT bU c6 cY dc Exit.then Exit.inBlock
structure Std where
 x:bQ
 x1:cy
 sa:Option Addr
 sc:Nat
 ka:Option Addr
 kc:Nat
 cC:Option Addr
 cD:Nat
 TR:Option Addr
 TS:Nat
abbrev oQ(E:Std):List Value:=[af E.x.id,af E.x.parent,S E.x1,S E.x.state,af E.x.mode,.slice E.sa 4 E.sc,hL E.ka E.kc E.x.kids,ul E.cC E.cD E.x.aside,ul E.TR E.TS E.x.front.reverse]
section
variable(E:Std){C:bK}{P:List b1}{n:Nat}{s:ar}
abbrev FM:aq:=own (.slice E.sa 4 E.sc) 3 1 4 (iE [E.x.slots.getD 0 0,E.x.slots.getD 1 0,E.x.slots.getD 2 0,E.x.slots.getD 3 0])
def qa:aq:=eR [FM E,dv E.ka E.kc E.x.kids,fH E.cC E.cD E.x.aside,fH E.TR E.TS E.x.front.reverse]
structure FN(s:ar)(U:List Std):Prop where
 xs:U.map (·.x)=s.aI.take U.length
 x1:∀E∈U,E.x1=E.x.kind.name
 le:U.length<=s.aI.length
def FN.next{U:List Std}{E:Std}(h:FN s U)(ag:s.aI[U.length]?=some E.x)(hk:E.x1=E.x.kind.name):FN s (U++[E]):=by
 obtain⟨d5,e⟩:=dd.1 ag;refine⟨?_,λy ah=>?_,by rw[ep];exact d5⟩
 . rw[o6,h.xs,ep,aBq,ns d5,e];rfl
 . rcases kP.1 ah with ah|ah
   . exact h.x1 y ah
   . simp at ah;subst ah;exact hk
structure akT(x:bQ):Prop where
 slots:x.slots.length=4
 kids:x.kids.length<=most
 aside:x.aside.length<=most
 front:x.front.length<=most
def aBv(X:cJ)(z:dn)(s:ar)(ao:bD X z s)(cv:∀i x,s.aI[i]?=some x->x.id=i+1)(aS:s.aI.length<=X.C.aZ)(mp:X.C.aZ<=16)(N:∀x∈s.aI,akT x):ad aa 19 [ptr X.h 0] (bj X z s) (λu H=>∃(a:Option Addr) (c:Nat) (U:List Std),u=.slice a U.length c/\U.map (·.x)=s.aI/\(∀E∈U,E.x1=E.x.kind.name)/\H=own (.slice a U.length c) 51 9 U.length (U.flatMap oQ)::ay (U.map qa)::bj X z s):=by
 refine ax Tryz.func19 λF D=>?_;have I:=ao.ap;refine eP ?_;refine a7 ?_;refine gO (bx:=(Option Addr×Nat)×List Std) (λE=>FN s E.2) (λE=>[(4,af ((E.2.length+1:Nat):Int)),(3,.slice E.1.1 E.2.length E.1.2),(0,ptr X.h 0)]) (λE=>own (.slice E.1.1 E.2.length E.1.2) 51 9 E.2.length (E.2.flatMap oQ)::ay (E.2.map qa)::cG X z s::dQ z.cC z.cD s.trace::fp z.na z.fv s.notes::b2 X.am .i64 (cf z.ap)::ay (e3 X z.ap s.aI)::b2 X.e5 .u64 (cf z.ai)::ay (gv z.ai s.lets)::Lg.dp X.ld s.bf::ey X.c4 X.C.dF s.dead::cg X.m s.L z.tt::fI X::fC X s.bs::eD X.bG X.m X.C.bG X.C.aZ::ay (ed X)::fy X::gw X::hc X::gk X::ay (c8 X z.ap z.ai s.aC)::D) (λE=>s.aI.length -E.2.length) ((none,0),[]) (⟨rfl,(λE T=>by cases T),fc _⟩) de (λh s=>ii h (w0 h ((au) h s))) ?_;rintro⟨⟨a,c⟩,U⟩ bM;replace bM:FN s U:=bM;have K:=bM.le;dsimp only;refine a7 ?_;rcases sh U.length s.aI.length with d5|n
 . refine bh ?_
   obtain⟨x,ag⟩:∃x,s.aI[U.length]?=some x:=⟨_,cq d5⟩;obtain⟨q,bo⟩:∃q,z.ap[U.length]?=some q:=⟨_,cq ae⟩;have B:At X z.ap s.aI (U.length+1) q x:=⟨by rw[FK];exact bo,by rw[FK];exact ag,cv _ _ ag,by omega⟩;have C:=N x (h0 ag);obtain⟨dY,s1,Z,b9,aj⟩:∃dY s1 Z b9,x.slots=[dY,s1,Z,b9]:=by
    match x.slots,C.slots with
    |[dY,s1,Z,b9],_=>exact⟨dY,s1,Z,b9,rfl⟩
   have md:x.kids.length<=1099511627776:=C.kids;have M:x.aside.length<=1099511627776:=C.aside;have L:x.front.length<=1099511627776:=C.front;have J:=B.cv;refine aA rfl (lA (ptr q 0) (by rw[zJ bo];rfl) rfl rfl) ?_;refine eP ?_;refine aA rfl (lA (ptr q 0) (by rw[zJ bo];rfl) rfl rfl) ?_;refine bX ?_;refine u6 (l:=e3 X z.ap s.aI) (i:=U.length) (A:=vD X q x) ek (by have bn:=B.ay;rwa[FK]at bn) ?_;refine kB ek (λe Y=>?_);simp only[Ca,cn,ci];have mt:e.b5.name=x.kind.name:=(aj3 Y.b5).2.2;haveI:=s7 (q:=q) (X:=X) (e:=e) aj;refine h9 [23,28,33,38,40,41] [23,28,33,38,40] [(0,.bJ),(1,.bJ),(2,.bJ),(3,.bJ),(4,.bJ),(5,.bJ),(6,.bJ),(7,.bJ),(8,.bJ),(9,.bJ),(10,.bJ),(11,.bJ),(12,.bJ),(13,.bJ),(14,.bJ),(15,.bJ),(16,.bJ),(17,.bJ),(18,.bJ),(19,.loc),(20,.loc),(21,.loc),(22,.loc),(24,.bJ),(25,.bJ),(26,.bJ),(27,.bJ),(29,.bJ),(30,.bJ),(31,.bJ),(32,.bJ),(34,.bJ),(35,.bJ),(36,.bJ),(37,.bJ),(23,.c0),(28,.c0),(33,.c0),(38,.c0),(39,.loc),(40,.c0),(41,.c0),(42,.loc)] [ab q 118 (ee X x e),dv e.ka e.kc x.kids,gj e.gJ X.C.dW x.aside x.front] mixed gS ?_;refine cU ?_;refine go_vs rfl .none rfl (o_load (v:=S x.kind.name) rfl (by rw[<-mt];rfl)) (au) ?_;refine cO ?_;refine go_v rfl .none rfl (Md Tryz.underlying111 ⟨_,rfl,rfl⟩ rfl) ?_;refine dx ?_;refine go_c rfl .none rfl (b4 rfl (ES (some ⟨q,8,none⟩) 4 4 (iE [dY,s1,Z,b9]) (ab q 118 (ee X x e)) rfl rfl bN) bI) ?_;rintro _ D ⟨_,⟨b,d,rfl,rfl⟩,rfl⟩;refine fj ?_;rw[show own (.slice b 4 d) 3 1 4 (iE [dY,s1,Z,b9])=FM ⟨x,x.kind.name,b,d,none,0,none,0,none,0⟩from by simp only[FM,aj];rfl];refine aG ?_;refine go_c rfl .none rfl (b4 rfl (ES e.ka e.kc x.kids.length (iE x.kids) (dv e.ka e.kc x.kids) (RT x.kids) (RU x.kids) ae) bI) ?_;rintro _ D ⟨_,⟨f,g,rfl,rfl⟩,rfl⟩;refine th ?_;refine bt (aik e.gJ X.C.dW x.aside x.front M L) ?_;rintro _ _ ⟨j,m,rfl,rfl⟩;refine er ?_;refine aG ?_;refine bt (ave e.gJ X.C.dW x.aside x.front M L) ?_;rintro _ _ ⟨o,p,rfl,rfl⟩;refine er ?_;refine aG ?_;refine go_v rfl .none rfl (kX (cs:=oQ ⟨x,x.kind.name,b,d,f,g,j,m,o,p⟩) rfl (by rw[<-J];rfl)) ?_;refine wn λO=>?_;refine aG ?_;refine gp λr y=>?_;refine ch ?_;refine aA rfl (fo ((U.length+1+1:Nat):Int) eV rfl rfl) ?_;refine a7 ?_;obtain⟨E,T⟩:∃E:Std,E=⟨x,x.kind.name,b,d,f,g,j,m,o,p⟩:=⟨_,rfl⟩;refine fm ((r,y),(U++[E])) (bM.next (E:=E) (by rw[T];exact ag) (by rw[T])) (show s.aI.length -(U++[E]).length<s.aI.length -U.length by rw[ep];show s.aI.length -(U.length+1)<_;omega) (bd.cons A2 (bd.cons A2 de)) (λh t=>?_);dsimp only;have t1:=(show∀h,Sat _ h->Sat (FM ⟨x,x.kind.name,b,d,f,g,j,m,o,p⟩::dv f g x.kids::fH j m x.aside::fH o p x.front.reverse::ay (U.map qa)::own (.slice r (U.length+1) y) 51 9 (U.length+1) (U.flatMap oQ++oQ ⟨x,x.kind.name,b,d,f,g,j,m,o,p⟩)::ab q 118 (ee X x e)::dv e.ka e.kc x.kids::dv e.hP e.hQ x.cF::gj e.gJ X.C.dW x.aside x.front::h4 e.jD (min (max e.b5.limit 0) 100) (min (max e.b5.within 1) 4095) x.given::b2 e.gp .i64 (x.watched.map λw=>(w,.bool true))::jf e.jE (h5 e.es)::ay (iz e.es)::gM e.b5::ay ((e3 X z.ap s.aI).set U.length fu)::cG X z s::dQ z.cC z.cD s.trace::fp z.na z.fv s.notes::b2 X.am .i64 (cf z.ap)::b2 X.e5 .u64 (cf z.ai)::ay (gv z.ai s.lets)::Lg.dp X.ld s.bf::ey X.c4 X.C.dF s.dead::cg X.m s.L z.tt::fI X::fC X s.bs::eD X.bG X.m X.C.bG X.C.aZ::ay (ed X)::fy X::gw X::hc X::gk X::ay (c8 X z.ap z.ai s.aC)::D) h from(au)) h t;rw[<-T]at t1;rw[show U.length+1=(U++[E]).length from by simp,show U.flatMap oQ++oQ E=(U++[E]).flatMap oQ from by simp]at t1;have V:=cA (D:=ay (U.map qa)::own (.slice r (U++[E]).length y) 51 9 (U++[E]).length ((U++[E]).flatMap oQ)::ab q 118 (ee X x e)::dv e.ka e.kc x.kids::dv e.hP e.hQ x.cF::gj e.gJ X.C.dW x.aside x.front::h4 e.jD (min (max e.b5.limit 0) 100) (min (max e.b5.within 1) 4095) x.given::b2 e.gp .i64 (x.watched.map λw=>(w,.bool true))::jf e.jE (h5 e.es)::ay (iz e.es)::gM e.b5::ay ((e3 X z.ap s.aI).set U.length fu)::cG X z s::dQ z.cC z.cD s.trace::fp z.na z.fv s.notes::b2 X.am .i64 (cf z.ap)::b2 X.e5 .u64 (cf z.ai)::ay (gv z.ai s.lets)::Lg.dp X.ld s.bf::ey X.c4 X.C.dF s.dead::cg X.m s.L z.tt::fI X::fC X s.bs::eD X.bG X.m X.C.bG X.C.aZ::ay (ed X)::fy X::gw X::hc X::gk X::ay (c8 X z.ap z.ai s.aC)::D) (bx:=Unit) (fR:=λ_=>True) (l:=λ_=>[FM E,dv E.ka E.kc E.x.kids,fH E.cC E.cD E.x.aside,fH E.TR E.TS E.x.front.reverse]) () trivial (λh t=>t) h (by subst T;exact t1);have t3:=tB (A:=qa E) h V;rw[show U.map qa++[qa E]=(U++[E]).map qa by simp]at t3;have t4:=(show∀h,Sat _ h->Sat (Ca X q x e++(ay ((e3 X z.ap s.aI).set U.length fu)::own (.slice r (U++[E]).length y) 51 9 (U++[E]).length ((U++[E]).flatMap oQ)::ay ((U++[E]).map qa)::cG X z s::dQ z.cC z.cD s.trace::fp z.na z.fv s.notes::b2 X.am .i64 (cf z.ap)::b2 X.e5 .u64 (cf z.ai)::ay (gv z.ai s.lets)::Lg.dp X.ld s.bf::ey X.c4 X.C.dF s.dead::cg X.m s.L z.tt::fI X::fC X s.bs::eD X.bG X.m X.C.bG X.C.aZ::ay (ed X)::fy X::gw X::hc X::gk X::ay (c8 X z.ap z.ai s.aC)::D)) h from(au)) h t3;have t5:=ajT (D:=own (.slice r (U++[E]).length y) 51 9 (U++[E]).length ((U++[E]).flatMap oQ)::ay ((U++[E]).map qa)::cG X z s::dQ z.cC z.cD s.trace::fp z.na z.fv s.notes::b2 X.am .i64 (cf z.ap)::b2 X.e5 .u64 (cf z.ai)::ay (gv z.ai s.lets)::Lg.dp X.ld s.bf::ey X.c4 X.C.dF s.dead::cg X.m s.L z.tt::fI X::fC X s.bs::eD X.bG X.m X.C.bG X.C.aZ::ay (ed X)::fy X::gw X::hc X::gk X::ay (c8 X z.ap z.ai s.aC)::D) B Y h t4;rw[show s.aI.set (U.length+1 -1) x=s.aI from by rw[FK];obtain⟨W,cE⟩:=dd.1 ag;rw[<-cE,A1 W]]at t5;exact(au) h t5
 . refine bh ?_
   refine aA rfl (lA (.pointer none) (by rw[K1 (by omega)];rfl) rfl rfl) ?_;refine eP ?_;refine a7 ?_;exact aW ⟨a,c,U,rfl,by rw[bM.xs,y2 n],bM.x1,rfl⟩
def akU(r:Bm C P n s)(aS:n<=Th.hM):∀x∈s.aI,akT x:=λx ag=>by
 obtain⟨i,al⟩:=Fo.1 ag;have B:=r.inv.base.aI i x al;have h1:=r.ph;have h2:Th.hM=10000000:=rfl;have aH:Th.hD=90000:=rfl;have dk:Th.hD*n<=90000*10000000:=qz (eh _) aS;have bm:(s.aI.map Th.im).sum<=Th.bL s:=O6;have g0:=Th.Lj (n:=1000000000000) (jS.2 ⟨x,ag,rfl⟩:Th.im x∈s.aI.map Th.im) ae;unfold Th.im at g0;exact⟨B.slots,by show _<=1099511627776;omega,by show _<=1099511627776;omega,by show _<=1099511627776;omega⟩
def akV{h n:Nat}{s:ar}(r:Bm C P n s)(aS:n<=Th.hM)(N:C.ok):ad aa 19 [ptr h 0] [kw C P h s] (λu H=>∃(a:Option Addr) (c:Nat) (U:List Std),u=.slice a U.length c/\U.map (·.x)=s.aI/\(∀E∈U,E.x1=E.x.kind.name)/\H=[own (.slice a U.length c) 51 9 U.length (U.flatMap oQ),ay (U.map qa),kw C P h s]):=
 Bn λX z ao aB aU bB=>by
  subst aB aU bB;exact rF [] (aBv X z s ao (λi x al=>(r.inv.base.aI i x al).id) r.inv.base.na N.ha (akU r aS)) kH λu H ⟨a,c,U,e,h1,h2,cc⟩=>⟨_,⟨a,c,U,e,h1,h2,rfl⟩,λh s=>by
   subst cc;rw[jj]at s;exact Sat.tail (λh s=>Sat.tail Ib s) s⟩
end
def aBb(bS:Option Addr)(pc:Nat)(K:List b1)(ba:aq)(C:bK)(N:C.ok)(o:∀h,ba h->hr h bS pc K)(s2:∀k∈K,kh k)(cL:K.length<=8)(a8:∀k∈K,K.find? (λx=>decide (x.name=k.name))=some k)(Pi:ad aa 55 Et [ba] (aF (.nilIface) [ba]))(s:ar)(aj:Th.start C tH=some s):ad aa 28 [.agg (oV C).toArray,.agg #[.slice bS K.length pc]] [ba] (λu H=>∃(X:cJ) (z:dn),X.C=C/\X.P=K.map cN/\bD X z s/\u=.tuple #[ptr X.h 0,.nilIface]/\H=ba::bj X z s):=by
 refine ax Tryz.func28 λF D=>?_;obtain⟨k,e6,ky,i8,i2,g4,rfl⟩:=aBc aj;have R:=FI N;have aB:C.bG=2+C.bA.size+(3+2*C.iO):=rfl;have aU:C.gR=C.bG+C.aZ*C.aZ:=rfl;have bB:C.cells=C.gR+C.aZ*C.eZ:=rfl;have c9:C.eZ=2+(2+2*C.hS)+(2+2*C.fF):=rfl;have fX:C.fF=2*C.aZ+8:=rfl;have ol:=N.m1;have m9:=N.m64;have m6:=N.ck;have Rd:=N.ha;have r:=N.aG;have qr:=N.bH;have b:=N.h1;have aDs:=N.bm;have alA:=N.i1;have lw:=N.i64;have aD:=N.s5;have B:ad aa 59 [af C.bc,af C.ez,af C.aZ] [] (aF (af ((C.bA.size:Nat):Int)) []):=XJ 2 C.bc C.ez C.aZ r qr N.d1 N.d64 m6 Rd;have alB:ad aa 63 [af C.hS,af ((C.fF:Nat):Int)] [] (aF (af ((C.eZ:Nat):Int)) []):=Po.ahZ ⟨ol,m9⟩ uL;haveI:gN (.slice bS K.length pc) ba K.length (K.flatMap dO):=⟨λh=>(o _ h).rd.1⟩;have a2:jk ((C.cells:Nat):Int)=C.cells:=by have:=al7 (C.cells:Int) ae;omega
 refine n0 ?_;intro U Z;refine bH ?_;refine cj rfl (b4 rfl ((by have bn:=af9 (pI C);rw[aBd N]at bn;exact bn)) bI) ?_;refine gP ?_;refine pT ?_;refine lD ?_;refine bh ?_;refine aV (Pi) ?_;refine bh ?_;refine QJ ?_;refine a7 ?_;refine lD ?_;refine a7 ?_;refine Dk (λact i=>∃(n p T ld c4:Nat),hd Tryz.f28.ntmps [(2,ptr U 0),(3,ptr Z 0),(7,ptr n 0)] act/\db F (ab n 108 (ng C eX fS fS fS fS eX p T ld c4 eX eX fS)::ev p ps::ev T ps::Lg.dp ld []::ey c4 C.dF []::ab U 23 (oV C)::ab Z 26 vm::ba::D) i) ?_ ?_
 . refine ir [1,2,3,6,8] [1,2,3,6] [1,17,21,6,10,14,26,28,34,36,3,3,3,3,14,10,26,28,34,36,3,3,3,26,10,28,34,36,3,3,3,3,3,10,6,14,26,28,34,36,3,3,3,3,14,6,26,28,34,36,3,3,3,26,6,28,34,36,3,3,3,3,3,14,6,10,26,28,34,36,3,3,3,26,10,28,34,36,3,3,3,3,10,6,26,28,34,36,3,3,3,26,6,28,34,36,3,3,3,3,26,6,10,28,34,36,3,3,3,10,6,28,34,36] [ab U 23 (oV C)] ?_
   refine bX ?_;refine e8 ?_ ?_
   . refine wn λp=>?_
     refine aG ?_;refine e8 ?_ ?_
     . refine wn λT=>?_
       exact agL
     . refine bt (Lg.Ik) ?_
       rintro _ _ ⟨ld,rfl,rfl⟩;refine er ?_;exact aeC
   . refine e8 ?_ ?_
     . refine wn λT=>?_
       refine aG ?_;refine e8 ?_ ?_
       . refine wn λp=>?_
         exact agL
       . refine bt (Lg.Ik) ?_
         rintro _ _ ⟨ld,rfl,rfl⟩;refine er ?_;exact aeB
     . refine bt (Lg.Ik) ?_
       rintro _ _ ⟨ld,rfl,rfl⟩;refine er ?_;refine aG ?_;refine e8 ?_ ?_
       . refine wn λp=>?_
         exact aeC
       . refine e8 ?_ ?_
         . refine wn λT=>?_
           exact aeB
         . refine Ko ?_
           intro c4;refine aG ?_;refine e8 ?_ ?_
           . refine wn λp=>?_
             exact afI
           . refine wn λT=>?_
             exact afH
 . rintro act i ⟨n,p,T,ld,c4,gY,st⟩
   refine Dl ?_ gY st;clear gY st act i;refine cU ?_;refine gO (bx:=(Option Addr×Nat)×List b1) (λE=>E.2.map cN=(K.take E.2.length).map cN/\E.2.length<=K.length) (λE=>[(38,af E.2.length),(37,af K.length),(36,.slice bS K.length pc),(2,ptr U 0),(3,ptr Z 0),(7,ptr n 0)]) (λE=>own (.slice E.1.1 E.2.length E.1.2) 78 5 E.2.length (E.2.flatMap dO)::jN E.2::ab n 108 (ng C (.slice E.1.1 E.2.length E.1.2) (.pointer none) (.pointer none) (.pointer none) (.pointer none) (.slice none 0 0) p T ld c4 (.slice none 0 0) (.slice none 0 0) (.pointer none))::ev p (.map #[] 0)::ev T (.map #[] 0)::Lg.dp ld []::ey c4 C.dF []::ab U 23 (oV C)::ab Z 26 vm::ba::D) (λE=>K.length -E.2.length) ((none,0),[]) (⟨rfl,fc _⟩) de (λh s=>ii h (aBe h ((au) h s))) ?_;rintro⟨⟨a,c⟩,J⟩ bM;obtain⟨az,aw⟩:J.map cN=(K.take J.length).map cN/\J.length<=K.length:=bM;dsimp only;refine bh ?_;refine b6 (λW=>?_) (λW=>?_)
   . obtain⟨fi,O⟩:∃fi,K[J.length]?=some fi:=⟨_,cq (show J.length<K.length by omega)⟩
     refine bh ?_;refine aA rfl (fA rfl rfl (show J.length<K.length by omega)) ?_;refine Gl ?_;refine wn λcx=>?_;refine bH ?_;refine cj rfl (b4 rfl (Uz K bS pc fi.name fi ae (s2 fi (h0 O)) (a8 fi (h0 O)) ba o) bI) ?_;rintro _ D ⟨_,⟨dj,Y,rfl,rfl⟩,rfl⟩;refine Ah ?_;refine ct [7,8] [106,1,202,3,201] [ab n 108 aai,ab cx 78 (dO dj)] ?_;refine bh ?_;refine go_v rfl .none rfl (zC (M:=dO dj) rfl rfl rfl) ?_;refine wn λaDt=>?_;refine aG ?_;refine gp λEq Fd=>?_;rw[show J.length+1=(J++[dj]).length from by simp,show J.flatMap dO++dO dj=(J++[dj]).flatMap dO from by simp];refine cr ?_;refine aA rfl (fo ((J.length+1:Nat):Int) eV rfl rfl) ?_;refine a7 ?_;refine fm ((Eq,Fd),(J++[dj])) ⟨aBf az O Y,show(J++[dj]).length<=K.length by rw[ep];show J.length+1<=_;omega⟩ (show K.length -(J++[dj]).length<K.length -J.length by rw[ep];show K.length -(J.length+1)<_;omega) EF (λh s=>by
      dsimp only;exact(show∀h,Sat _ h->Sat (own (.slice Eq (J++[dj]).length Fd) 78 5 (J++[dj]).length ((J++[dj]).flatMap dO)::jN (J++[dj])::ab n 108 (ng C (.slice Eq (J++[dj]).length Fd) (.pointer none) (.pointer none) (.pointer none) (.pointer none) (.slice none 0 0) p T ld c4 (.slice none 0 0) (.slice none 0 0) (.pointer none))::ev p (.map #[] 0)::ev T (.map #[] 0)::Lg.dp ld []::ey c4 C.dF []::ab U 23 (oV C)::ab Z 26 [.slice bS K.length pc]::ba::D) h from(au)) h (YE h ((show∀h,Sat _ h->Sat (gM dj::jN J::own (.slice Eq (J++[dj]).length Fd) 78 5 (J++[dj]).length ((J++[dj]).flatMap dO)::ab n 108 (ng C (.slice Eq (J++[dj]).length Fd) (.pointer none) (.pointer none) (.pointer none) (.pointer none) (.slice none 0 0) p T ld c4 (.slice none 0 0) (.slice none 0 0) (.pointer none))::ev p (.map #[] 0)::ev T (.map #[] 0)::Lg.dp ld []::ey c4 C.dF []::ab U 23 (oV C)::ab Z 26 [.slice bS K.length pc]::ba::D) h from(au)) h s)))
   . have he:J.length=K.length:=by omega
     rw[he,l9]at az;refine cU ?_;refine aA rfl (fo ((C.fF:Nat):Int) eV rfl rfl) ?_;refine bF ?_;refine ct [10] [104,6,201,2] aah ?_;refine cU ?_;refine aV (B) ?_;refine aG ?_;refine go_v rfl .none rfl (fo ((2+C.bA.size:Nat):Int) eV rfl rfl) ?_;refine bF ?_;refine h9 [4,8,15,18,21] [4,8,15,18] [(0,.bJ),(1,.bJ),(2,.loc),(3,.loc),(6,.bJ),(7,.bJ),(10,.bJ),(11,.bJ),(12,.bJ),(13,.bJ),(14,.bJ),(4,.c0),(5,.bJ),(8,.c0),(9,.bJ),(15,.c0),(16,.loc),(17,.loc),(18,.c0),(19,.loc),(20,.loc),(21,.c0)] aah mixed gS ?_;refine cO ?_;refine aV (Ck.MR alA lw) ?_;refine aG ?_;refine go_vs rfl .none rfl (fo ((C.bG:Nat):Int) eV rfl rfl) (au) ?_;refine aV (NR C.aZ m6 Rd) ?_;refine aG ?_;refine go_vs rfl .none rfl (fo ((C.gR:Nat):Int) eV rfl rfl) (au) ?_;refine aV (alB) ?_;refine aG ?_;refine go_v rfl .none rfl (rs ((C.aZ*C.eZ:Nat):Int) (by rw[<-DG];exact jv (by omega)) rfl rfl) ?_;refine go_v rfl .none rfl (fo ((C.cells:Nat):Int) eV rfl rfl) ?_;refine bt (al8 _) ?_;rintro _ _ ⟨m,rfl,rfl⟩;refine er ?_;rw[a2];refine ch ?_;refine ct [] [8,201] [] ?_;refine bH ?_;refine go_c rfl .none rfl (b4 rfl (mM m (List.replicate C.cells 0) 0 1 (by rw[UC];omega) 1) bI) ?_;refine gP ?_;refine fj ?_;rw[show(List.replicate C.cells (0:Int)).set 1 1=vR C from rfl];refine bF ?_;refine ct [15,21] Jx [] ?_;refine EH ?_;refine fZ ?_;refine bt (aA3 N m _) ?_;rintro _ _ ⟨cS,t0,pl,rfl,rfl⟩;refine afn ?_;refine bX ?_;refine adK ?_;refine bt (aA4 N m _) ?_;rintro _ _ ⟨dt,V,hw,rfl,rfl⟩;refine afF ?_;refine aV (Ck.MR alA lw) ?_;refine aA rfl (fo ((C.bG:Nat):Int) eV rfl rfl) ?_;refine bF ?_;refine adK ?_;refine bt (aA5 N m _) ?_;rintro _ _ ⟨bG,t3,rfl,rfl⟩;refine afF ?_;refine aV (NR C.aZ m6 Rd) ?_;refine aA rfl (fo ((C.gR:Nat):Int) eV rfl rfl) ?_;refine dx ?_;refine gO (bx:=(Option Addr×Nat)×List Po.nk×Int) (λE=>(∀x∈E.2.1,x.m=m)/\E.2.1.length<=C.aZ) (λE=>((169,af E.2.1.length)::(168,af C.aZ)::(11,af ((C.gR+E.2.1.length*C.eZ:Nat):Int))::PU)) (λE=>own (.slice E.1.1 E.2.1.length E.1.2) 116 1 E.2.1.length (E.2.1.map λx=>ptr x.bp 0)::ay (oz m C E.2.1)::ab n 108 (ng C y8 (ptr m 0) (ptr cS.c 0) (ptr dt.c 0) (ptr bG 0) (.slice E.1.1 E.2.1.length E.1.2) p T ld c4 eX eX fS)::cg m (jH C) E.2.2::own y8 78 5 J.length (J.flatMap dO)::jN J::eR P0::eR PV::eD bG m C.bG C.aZ::ev p ps::ev T ps::Lg.dp ld []::ey c4 C.dF []::ab U 23 (oV C)::ab Z 26 vm::ba::D) (λE=>C.aZ -E.2.1.length) ((none,0),[],_) (⟨qK,fc _⟩) ((bd.cons rfl (bd.cons rfl (bd.cons (show _=some (af ((C.gR+0*C.eZ:Nat):Int)) by rw[YB];rfl) de)))) Qc ?_;rintro⟨⟨d,e⟩,l,t⟩ bM;obtain⟨t2,i9⟩:(∀x∈l,x.m=m)/\l.length<=C.aZ:=bM;dsimp only;refine bh ?_;refine b6 (λI=>?_) (λI=>?_)
     . have NX:l.length*C.eZ+C.eZ<=C.aZ*C.eZ:=by
        have:=p5 C.eZ (show l.length+1<=C.aZ by omega);exact HE
       refine bz ?_;refine ct [] [8,201,5] [] ?_;refine bH ?_;refine go_c rfl .none rfl (b4 rfl (aA6 N m l.length ae t) bI) ?_;rintro _ D ⟨_,⟨x,t1,ol,rfl,rfl⟩,rfl⟩;refine fj ?_;refine nr ?_;refine wn λaDu=>?_;refine gp λFn Fr=>?_;rw[show l.length+1=(l++[x]).length from by simp,show(l.map λx=>ptr x.bp 0)++[ptr x.bp 0]=(l++[x]).map λx=>ptr x.bp 0 from by simp];refine cU ?_;refine aV (alB) ?_;refine aA rfl (fo ((C.gR+(l.length+1)*C.eZ:Nat):Int) (by rw[mX,vt,jv (by omega)];omega) rfl rfl) ?_;refine bz ?_;refine aA rfl (fo ((l.length+1:Nat):Int) eV rfl rfl) ?_;refine a7 ?_;refine fm ((Fn,Fr),(l++[x]),t1) ⟨λy ah=>(kP.1 ah).elim (t2 y) (λah=>by simp at ah;subst ah;exact ol),show(l++[x]).length<=C.aZ by rw[ep];show l.length+1<=_;omega⟩ (show C.aZ -(l++[x]).length<C.aZ -l.length by rw[ep];show C.aZ -(l.length+1)<_;omega) (bd.cons A2 (bd.cons rfl EF)) (λh s=>by
        dsimp only;rw[aBg];exact(show∀h,Sat _ h->Sat (own (.slice Fn (l++[x]).length Fr) 116 1 (l++[x]).length ((l++[x]).map λx=>ptr x.bp 0)::ay (oz m C l++[zV m x (C.box (l++[x]).length)])::ab n 108 (ng C (.slice a J.length c) (ptr m 0) (ptr cS.c 0) (ptr dt.c 0) (ptr bG 0) (.slice Fn (l++[x]).length Fr) p T ld c4 (.slice none 0 0) (.slice none 0 0) (.pointer none))::cg m (jH C) t1::own (.slice a J.length c) 78 5 J.length (J.flatMap dO)::jN J::eR [gr cS C.bA,cd cS C.bA,jo cS C.bA,eB cS C.bA,ay (lz cS C.bA)]::eR [Ck.gn dt C.dC,gf dt.r m (C.dC.b+1) C.dC.n,fO dt.wp ⟨0,0,[]⟩]::eD bG m C.bG C.aZ::ev p (.map #[] 0)::ev T (.map #[] 0)::Lg.dp ld []::ey c4 C.dF []::ab U 23 (oV C)::ab Z 26 [.slice bS K.length pc]::ba::D) h from(au)) h (tB h ((show∀h,Sat _ h->Sat (zV m x (C.box (l++[x]).length)::ay (oz m C l)::own (.slice Fn (l++[x]).length Fr) 116 1 (l++[x]).length ((l++[x]).map λx=>ptr x.bp 0)::ab n 108 (ng C (.slice a J.length c) (ptr m 0) (ptr cS.c 0) (ptr dt.c 0) (ptr bG 0) (.slice Fn (l++[x]).length Fr) p T ld c4 (.slice none 0 0) (.slice none 0 0) (.pointer none))::cg m (jH C) t1::own (.slice a J.length c) 78 5 J.length (J.flatMap dO)::jN J::eR [gr cS C.bA,cd cS C.bA,jo cS C.bA,eB cS C.bA,ay (lz cS C.bA)]::eR [Ck.gn dt C.dC,gf dt.r m (C.dC.b+1) C.dC.n,fO dt.wp ⟨0,0,[]⟩]::eD bG m C.bG C.aZ::ev p (.map #[] 0)::ev T (.map #[] 0)::Lg.dp ld []::ey c4 C.dF []::ab U 23 (oV C)::ab Z 26 [.slice bS K.length pc]::ba::D) h from(au)) h s)))
     . have aC3:l.length=C.aZ:=by omega
       refine fZ ?_;refine gO (bx:=(Option Addr×Nat)×List Nat) (λE=>E.2.length<=C.bc) (λE=>((202,af E.2.length)::(201,af C.bc)::PU)) (λE=>own Jw 106 1 E.2.length (E.2.map λq=>ptr q 0)::ay (l5 n E.2)::ab n 108 (ng C y8 (ptr m 0) (ptr cS.c 0) (ptr dt.c 0) (ptr bG 0) JM p T ld c4 Jw eX fS)::own JM 116 1 l.length (l.map λx=>ptr x.bp 0)::ay (oz m C l)::cg m (jH C) t::own y8 78 5 J.length (J.flatMap dO)::jN J::eR P0::eR PV::eD bG m C.bG C.aZ::ev p ps::ev T ps::Lg.dp ld []::ey c4 C.dF []::ab U 23 (oV C)::ab Z 26 vm::ba::D) (λE=>C.bc -E.2.length) ((none,0),[]) (fc _) de Qc ?_;rintro⟨⟨f,g⟩,ws⟩ bM;replace bM:ws.length<=C.bc:=bM;dsimp only;refine bh ?_;refine b6 (λL=>?_) (λL=>?_)
       . refine eP ?_
         refine bX ?_;refine aA rfl (kX (cs:=pJ n (ws.length:Int)) rfl rfl) ?_;refine wn λw=>?_;refine wn λaDv=>?_;refine JZ ?_;rintro _ _ ⟨F5,F6,rfl,rfl⟩;rw[show ws.length+1=(ws++[w]).length from by simp,show(ws.map λq=>ptr q 0)++[ptr w 0]=(ws++[w]).map λq=>ptr q 0 from by simp];refine ch ?_;refine aA rfl (fo ((ws.length+1:Nat):Int) eV rfl rfl) ?_;refine a7 ?_;refine fm ((F5,F6),(ws++[w])) (show(ws++[w]).length<=C.bc by rw[ep];show ws.length+1<=_;omega) (show C.bc -(ws++[w]).length<C.bc -ws.length by rw[ep];show C.bc -(ws.length+1)<_;omega) EF (λh s=>by
          dsimp only;rw[aBh];exact(show∀h,Sat _ h->Sat (own (.slice F5 (ws++[w]).length F6) 106 1 (ws++[w]).length ((ws++[w]).map λq=>ptr q 0)::ay (l5 n ws++[ab w 128 (pJ n (ws.length:Int))])::ab n 108 (ng C (.slice a J.length c) (ptr m 0) (ptr cS.c 0) (ptr dt.c 0) (ptr bG 0) (.slice d l.length e) p T ld c4 (.slice F5 (ws++[w]).length F6) (.slice none 0 0) (.pointer none))::own (.slice d l.length e) 116 1 l.length (l.map λx=>ptr x.bp 0)::ay (oz m C l)::cg m (jH C) t::own (.slice a J.length c) 78 5 J.length (J.flatMap dO)::jN J::eR [gr cS C.bA,cd cS C.bA,jo cS C.bA,eB cS C.bA,ay (lz cS C.bA)]::eR [Ck.gn dt C.dC,gf dt.r m (C.dC.b+1) C.dC.n,fO dt.wp ⟨0,0,[]⟩]::eD bG m C.bG C.aZ::ev p (.map #[] 0)::ev T (.map #[] 0)::Lg.dp ld []::ey c4 C.dF []::ab U 23 (oV C)::ab Z 26 [.slice bS K.length pc]::ba::D) h from(au)) h (tB h ((show∀h,Sat _ h->Sat (ab w 128 (pJ n (ws.length:Int))::ay (l5 n ws)::own (.slice F5 (ws++[w]).length F6) 106 1 (ws++[w]).length ((ws++[w]).map λq=>ptr q 0)::ab n 108 (ng C (.slice a J.length c) (ptr m 0) (ptr cS.c 0) (ptr dt.c 0) (ptr bG 0) (.slice d l.length e) p T ld c4 (.slice F5 (ws++[w]).length F6) (.slice none 0 0) (.pointer none))::own (.slice d l.length e) 116 1 l.length (l.map λx=>ptr x.bp 0)::ay (oz m C l)::cg m (jH C) t::own (.slice a J.length c) 78 5 J.length (J.flatMap dO)::jN J::eR [gr cS C.bA,cd cS C.bA,jo cS C.bA,eB cS C.bA,ay (lz cS C.bA)]::eR [Ck.gn dt C.dC,gf dt.r m (C.dC.b+1) C.dC.n,fO dt.wp ⟨0,0,[]⟩]::eD bG m C.bG C.aZ::ev p (.map #[] 0)::ev T (.map #[] 0)::Lg.dp ld []::ey c4 C.dF []::ab U 23 (oV C)::ab Z 26 [.slice bS K.length pc]::ba::D) h from(au)) h s)))
       . have m8:ws.length=C.bc:=by omega
         refine fZ ?_;refine gO (bx:=(Option Addr×Nat)×List Nat) (λE=>E.2.length<=C.cK) (λE=>((221,af E.2.length)::(220,af C.cK)::PU)) (λE=>own Jw 106 1 E.2.length (E.2.map λq=>ptr q 0)::ay (pK n E.2)::ab n 108 (ng C y8 (ptr m 0) (ptr cS.c 0) (ptr dt.c 0) (ptr bG 0) JM p T ld c4 (.slice f ws.length g) Jw fS)::own (.slice f ws.length g) 106 1 ws.length (ws.map λq=>ptr q 0)::ay (l5 n ws)::own JM 116 1 l.length (l.map λx=>ptr x.bp 0)::ay (oz m C l)::cg m (jH C) t::own y8 78 5 J.length (J.flatMap dO)::jN J::eR P0::eR PV::eD bG m C.bG C.aZ::ev p ps::ev T ps::Lg.dp ld []::ey c4 C.dF []::ab U 23 (oV C)::ab Z 26 vm::ba::D) (λE=>C.cK -E.2.length) ((none,0),[]) (fc _) de Qc ?_;rintro⟨⟨u,v⟩,aj⟩ bM;replace bM:aj.length<=C.cK:=bM;dsimp only;refine bh ?_;refine b6 (λfV=>?_) (λfV=>?_)
         . refine cO ?_
           refine aA rfl (kX (cs:=pJ n (-1)) rfl rfl) ?_;refine wn λi0=>?_;refine wn λaDw=>?_;refine JZ ?_;rintro _ _ ⟨F7,F8,rfl,rfl⟩;rw[show aj.length+1=(aj++[i0]).length from by simp,show(aj.map λq=>ptr q 0)++[ptr i0 0]=(aj++[i0]).map λq=>ptr q 0 from by simp];refine ch ?_;refine aA rfl (fo ((aj.length+1:Nat):Int) eV rfl rfl) ?_;refine a7 ?_;refine fm ((F7,F8),(aj++[i0])) (show(aj++[i0]).length<=C.cK by rw[ep];show aj.length+1<=_;omega) (show C.cK -(aj++[i0]).length<C.cK -aj.length by rw[ep];show C.cK -(aj.length+1)<_;omega) EF (λh s=>by
            dsimp only;rw[aBi];exact(show∀h,Sat _ h->Sat (own (.slice F7 (aj++[i0]).length F8) 106 1 (aj++[i0]).length ((aj++[i0]).map λq=>ptr q 0)::ay (pK n aj++[ab i0 128 (pJ n (-1))])::ab n 108 (ng C (.slice a J.length c) (ptr m 0) (ptr cS.c 0) (ptr dt.c 0) (ptr bG 0) (.slice d l.length e) p T ld c4 (.slice f ws.length g) (.slice F7 (aj++[i0]).length F8) (.pointer none))::own (.slice f ws.length g) 106 1 ws.length (ws.map λq=>ptr q 0)::ay (l5 n ws)::own (.slice d l.length e) 116 1 l.length (l.map λx=>ptr x.bp 0)::ay (oz m C l)::cg m (jH C) t::own (.slice a J.length c) 78 5 J.length (J.flatMap dO)::jN J::eR [gr cS C.bA,cd cS C.bA,jo cS C.bA,eB cS C.bA,ay (lz cS C.bA)]::eR [Ck.gn dt C.dC,gf dt.r m (C.dC.b+1) C.dC.n,fO dt.wp ⟨0,0,[]⟩]::eD bG m C.bG C.aZ::ev p (.map #[] 0)::ev T (.map #[] 0)::Lg.dp ld []::ey c4 C.dF []::ab U 23 (oV C)::ab Z 26 [.slice bS K.length pc]::ba::D) h from(au)) h (tB h ((show∀h,Sat _ h->Sat (ab i0 128 (pJ n (-1))::ay (pK n aj)::own (.slice F7 (aj++[i0]).length F8) 106 1 (aj++[i0]).length ((aj++[i0]).map λq=>ptr q 0)::ab n 108 (ng C (.slice a J.length c) (ptr m 0) (ptr cS.c 0) (ptr dt.c 0) (ptr bG 0) (.slice d l.length e) p T ld c4 (.slice f ws.length g) (.slice F7 (aj++[i0]).length F8) (.pointer none))::own (.slice f ws.length g) 106 1 ws.length (ws.map λq=>ptr q 0)::ay (l5 n ws)::own (.slice d l.length e) 116 1 l.length (l.map λx=>ptr x.bp 0)::ay (oz m C l)::cg m (jH C) t::own (.slice a J.length c) 78 5 J.length (J.flatMap dO)::jN J::eR [gr cS C.bA,cd cS C.bA,jo cS C.bA,eB cS C.bA,ay (lz cS C.bA)]::eR [Ck.gn dt C.dC,gf dt.r m (C.dC.b+1) C.dC.n,fO dt.wp ⟨0,0,[]⟩]::eD bG m C.bG C.aZ::ev p (.map #[] 0)::ev T (.map #[] 0)::Lg.dp ld []::ey c4 C.dF []::ab U 23 (oV C)::ab Z 26 [.slice bS K.length pc]::ba::D) h from(au)) h s)))
         . have Hx:aj.length=C.cK:=by omega
           obtain⟨d6,md⟩:∃d6,J[0]?=some d6:=⟨_,cq (akQ az i8)⟩;have mt:d6.name=k.name:=aBj az i8 md;have aC4:0<J.length:=akQ az i8;refine cr ?_;refine aA rfl (kX (cs:=pJ n (-1)) rfl rfl) ?_;refine wn λi4=>?_;refine fx ?_;refine aA rfl (fA rfl rfl aC4) ?_;refine aG ?_;refine aA rfl (gy rfl (show(J.flatMap dO)[0]?=some (S k.name) by rw[<-mt];have bn:=lL dO 5 Ay (j:=0) md (v:=S d6.name) rfl;exact bn)) ?_;refine r9 (λh s=>aBk (D:=ba::D) he az pl hw t2 aC3 m8 Hx cL h ((au) h s)) ?_;refine gb ?_;refine cj rfl (b4 rfl (aBa (FJ C (K.map cN) n m cS dt bG l d e f g u v (ws++aj++[i4]) p T ld c4 a c) (TQ t) (LH C) 1 k.name ky.name e6 ky (aBl pl hw t2) N (by show(K.map cN).length<=_;rw[kG];omega) i2 (aBm s2 i2) g4 rfl rfl (by show 1<=C.aZ;omega) (show(0:Nat)<1099511627776 by decide)) bI) ?_;rintro _ D ⟨_,⟨rfl,cu,fd,rfl⟩,rfl⟩;refine fj ?_;refine cO ?_;exact aW ⟨(FJ C tH n m cS dt bG l d e f g u v (ws++aj++[i4]) p T ld c4 a c),cu,rfl,rfl,fd,rfl,rfl⟩
end Go.Proofs.YtnnhpnccfnghdaaGreat.L.bE
namespace Go.Proofs.YtnnhpnccfnghdaaGreat.L
open Go.L Go.L.Lx
attribute[local irreducible] G cz GE cT GT bU c6 cY dc Exit.then Exit.inBlock
attribute[local irreducible] w6 Ip y0
section
variable(c:UInt8)
abbrev KM:Value:=.int .u8 c.toNat
def QO{a b:Bool}(h:a=true↔b=true):Value.bool a=Value.bool b:=by rw[pb.2 h]
def RX(r:cy):lN (c::r)=(w6 c&&decide (ml y0 (c::r)=(c::r).length)&&decide ((c::r).length<=16)):=rfl
def arQ{l:cy}(h:16<l.length):lN l=false:=by
 cases l with
 |nil=>rfl
 |cons c r=>rw[RX,mJ (p:=(c::r).length<=16) ae,Bool.and_false]
def arO{c:UInt8}{r:cy}(h:w6 c=false):lN (c::r)=false:=by rw[RX,h];rfl
def arP{c:UInt8}{r:cy}(h:w6 c=true)(h2:(c::r).length<=16):lN (c::r)=decide (((ml y0 (c::r):Nat):Int)=((c::r).length:Nat)):=by
 rw[RX,h,lM h2,lV,Bool.and_true,pb];simp only[ln];omega
def ahI:ad aa 160 [KM c] [] (aF (.bool (w6 c)) []):=by
 refine ax Tryz.func160 λF D=>?_;refine cU ?_;refine hU rfl rfl (λW=>?_) (λW=>?_) rfl
 . have f:=bR W
   refine bH ?_;exact ac8
 . have f:=bR W
   simp only[iD];refine bh ?_;exact ac8
def atu:ad aa 211 [KM c] [] (aF (.bool (Ip c)) []):=by
 refine ax Tryz.func211 λF D=>?_;refine cU ?_;refine hU rfl rfl (λW=>?_) (λW=>?_) rfl
 . have f:=bR W
   refine bH ?_;exact ac6
 . have f:=bR W
   simp only[iD];refine bh ?_;exact ac6
def atv:ad aa 162 [KM c] [] (aF (.bool (y0 c)) []):=by
 refine ax Tryz.func162 λF D=>?_;refine bH ?_;refine aV (ahI _) ?_;refine aG ?_;refine hU rfl rfl (λW=>?_) (λW=>?_) rfl
 . have f:=bR W
   refine a7 ?_;refine aV (atu _) ?_;refine a7 ?_;refine hU rfl rfl (λI=>?_) (λI=>?_) rfl
   . have p:=bR I
     refine bH ?_;exact QP
   . have p:=bR I
     simp only[iD];refine bh ?_;exact QP
 . have f:=bR W
   simp only[iD];refine cU ?_;exact QP
def atw(q:UInt8->Bool)(M:FuncId)(g:∀c,ad aa M [KM c] [] (aF (.bool (q c)) []))(l:cy)(aw:l.length<=9223372036854775807)(fD:eU aa M:=by exact e7):ad aa 161 [S l,.func (.func M) #[] #[]] [] (aF (af (ml q l)) []):=by
 refine ax Tryz.func161 λF D=>?_;refine dx ?_;refine gO (bx:=Nat) (λx=>x<=l.length/\ml q l=x+ml q (l.drop x)) (λx=>[(5,af x),(0,S l),(1,.func (.func M) #[] #[])]) (λ_=>D) (λx=>l.length -x) 0 (⟨fc _,by rw[List.drop_zero,kR]⟩) de (au) ?_;rintro x ⟨ag,aj⟩;replace ag:x<=l.length:=ag;replace aj:ml q l=x+ml q (l.drop x):=aj;refine bz ?_;refine aA rfl (RY rfl) ?_;refine a7 ?_;refine hU rfl rfl (λW=>?_) (λW=>?_) rfl
 . have f:=bR W
   refine bh ?_;obtain⟨c,aX⟩:∃c,l[x]?=some c:=⟨_,cq (show x<l.length by omega)⟩;refine aA rfl (ahJ rfl rfl (aX)) ?_;refine aG ?_;refine aV (g c) ?_;refine bX ?_;refine b6 (λI=>?_) (λI=>?_)
   . refine bz ?_
     refine aA rfl (fo (((x+1:Nat):Int)) eV rfl rfl) ?_;refine bX ?_;have bo:q c=true:=Zo;refine fm (x+1) ⟨show x+1<=l.length by omega,show ml q l=x+1+ml q (l.drop (x+1)) by rw[aj,arf aX bo];omega⟩ (show l.length -(x+1)<l.length -x by omega) de (au)
   . refine fx ?_
     exact ac1
 . have f:=bR W
   simp only[iD];refine gi ?_;refine aG ?_;exact ac1
def C6(l:cy)(aw:l.length<=9223372036854775807):ad aa 92 [S l] [] (aF (.bool (lN l)) []):=by
 refine ax Tryz.func92 λF D=>?_;refine bH ?_;refine aA rfl wq ?_;refine aG ?_;refine hU rfl rfl (λW=>?_) (λW=>?_) rfl
 . have f:=bR W
   refine a7 ?_;refine aA rfl (RY rfl) ?_;refine bF ?_;refine hU rfl rfl (λI=>?_) (λI=>?_) rfl
   . have p:=bR I
     refine a7 ?_;obtain⟨c,r,rfl⟩:∃c r,l=c::r:=by
      cases l with
      |nil=>simp at*
      |cons c r=>exact⟨c,r,rfl⟩
     refine aA rfl (ahJ rfl rfl (rfl)) ?_;refine aG ?_;refine aV (ahI _) ?_;refine a7 ?_;refine hU rfl rfl (λL=>?_) (λL=>?_) rfl
     . have C:=bR L
       refine a7 ?_;refine cj rfl (b4 rfl (atw y0 162 (λc=>atv c) (_) (by simp only[iY,wb]at*;omega)) bI) ?_;refine gP ?_;refine pT ?_;refine aA rfl (RY rfl) ?_;refine bH ?_;exact J0
     . have C:=bR L
       simp only[iD];refine cU ?_;exact J0
   . have p:=bR I
     simp only[iD];refine eP ?_;exact J0
 . have f:=bR W
   simp only[iD];refine gi ?_;exact J0
end
end Go.Proofs.YtnnhpnccfnghdaaGreat.L
namespace Go.L
section
variable{F w:World}{D:List aq}
section
variable{b j:Nat}{e:TypeId}{l:List Value}
def db.setCells{b:Nat}{e:TypeId}:∀(M l:List Value) (o:Nat) (w:World),db F (ab b e l::D) w->db F (ab b e (jX l o M)::D) (w.setCells b o M)
 |[],l,o,w,s=>by simpa[jX,World.setCells]using s
 |
  v::M,l,o,w,s=>by
  have s1:=s.setCell (b:=b) (bv:=o) (l:=l) v;simpa[jX,World.setCells]using db.setCells M (l.set o v) (o+1) _ s1
def GI(s:db F (ab b e l::D) w){v:Value}(h:l[j]?=some v):w.cell? ⟨b,j,none⟩=some v:=by
 have az:w.heap[b]?=_:=s.heap (b:=b);simp[World.cell?,az,h]
def GJ(s:db F (ab b e l::D) w):w.frozen? ⟨b,j,none⟩=false:=by
 have az:w.heap[b]?=_:=s.heap (b:=b);simp[World.frozen?,az]
def VD(s:db F (ab b e l::D) w):w.shape? b=some (e,l.length):=by
 have az:w.heap[b]?=_:=s.heap (b:=b);simp[World.shape?,az]
def amL{h:dR}{b ce C:Nat}{e:TypeId}{cs rest:List Value}(B:cs.length=ce)(aD:rest.length=C -ce)(n:ce<=C)(bb:C<=maxLen)(co:h b=some (.cells (cs++rest).toArray e (0,0))):oh h (.slice j3 ce C) e 1 ce cs:=
 ⟨by omega,.inr ⟨b,C,rest,rfl,by rw[ep];omega,n,bb,co⟩⟩
def apZ(n:Nat):(Builtin.zeroCells (Value.int .i64 0).cells n).toList.length=n:=by simp[Builtin.zeroCells,Value.cells]
end
end
end Go.L
namespace Go.Proofs
open Go.Shelf
def Tryz.als:Go.Shelf.Ren:=⟨fun|21=>219|27=>271|28=>272|35=>325|39=>376|n=>n,fun|22=>39|3=>3|4=>4|0=>0|n=>n,fun|n=>n⟩
def Tryz.F3:Go.Proofs.Lays2.n21 Tryz.prog Tryz.als:={
 mixed:=by kernel_rfl
 f21:=Tryz.func219.trans (congrArg some (by kernel_rfl))
 f27:=Tryz.func271.trans (congrArg some (by kernel_rfl))
 f28:=Tryz.func272.trans (congrArg some (by kernel_rfl))
 f35:=Tryz.func325.trans (congrArg some (by kernel_rfl))
 f39:=Tryz.func376.trans (congrArg some (by kernel_rfl))
 t0:=Tryz.underlying0
 a0:=Tryz.isAgg0
 z0:=Tryz.sizeOf0
 v0:=Tryz.zeroValue0
 t3:=Tryz.underlying3
 a3:=Tryz.isAgg3
 z3:=Tryz.sizeOf3
 v3:=Tryz.zeroValue3
 t4:=Tryz.underlying4
 a4:=Tryz.isAgg4
 z4:=Tryz.sizeOf4
 v4:=Tryz.zeroValue4
 t22:=Tryz.underlying39
 a22:=Tryz.isAgg39
 z22:=Tryz.sizeOf39
 v22:=Tryz.zeroValue39
 i3:=by kernel_rfl}
end Go.Proofs
namespace Go.Proofs.YtnnhpnccfnghdaaGreat.C
open Go.Proofs.YtnnhpnccfnghdaaGreat.L Go.L Go.L.Lx
attribute[local irreducible] G cz GE cT GT bU c6 cY dc Exit.then Exit.inBlock
section
variable(a:Option Addr)(c:Nat)(xs:List Int)
abbrev o9:aq:=own (.slice a xs.length c) 3 1 xs.length (xs.map af)
def VB:∀v∈xs.map af,v.oneCell'=true:=λv V=>by obtain⟨x,_,rfl⟩:=jS.1 V;rfl
def amn(y:Int)(i:Nat)(aS:xs.length<=1000):ad aa 219 [.slice a xs.length c,af 0,.slice (some ⟨i,0,none⟩) 1 1] [o9 a c xs,ab i 3 [af y]]
 (λu H=>∃aE aK,u=.slice aE (xs.length+1) aK/\H=[o9 aE aK (y::xs)]):=by
 intro F D w s;simp only[cn,ci]at s;have l:∀j v,[af y][j]?=some v->w.cell? ⟨i,0+j,none⟩=some v:=λj v J=>by
  rw[kR];exact GI (s.imp λ_=>Sat.drop) J
 have m:∀v∈[af y],v.oneCell'=true:=λv V=>by simp at V;subst V;rfl
 have fin:∀{X:World} {b C:Nat} {rest:List Value},rest.length=C -(xs.length+1)->xs.length+1<=C->C<=maxLen->db F (ab b 3 ((y::xs).map af++rest)::D) X->db F ([o9 (some ⟨b,0,none⟩) C (y::xs)]++D) X:=λaD n bb aY=>
  aY.imp λ_=>Sat.head λh co=>amL fW aD n bb co
 obtain⟨h1,h2,d,fG,⟨aw,V⟩,K⟩:=s.eI;rcases V with⟨t,o⟩|⟨b,C,dq,V,cd,ia,eB,f⟩
 . obtain rfl:xs=[]:=rn o
   simp only[Value.slice.injEq]at t;obtain⟨rfl,_,rfl⟩:=t;refine(Any2.slices_Insert_int_end_grow Tryz.F3 none 0 0 i 0 1 1 [] [af y] w bN bN bN bN rfl rfl (λ_=>rfl) (λa h=>by cases h) l m).mono λ_ X ⟨Y,O⟩=>?_;exact VC
 . simp only[Value.slice.injEq]at V
   obtain⟨rfl,_,rfl⟩:=V;have s1:db F (ab b 3 (xs.map af++dq)::ab i 3 [af y]::D) w:=⟨s.os,s.tape,s.output,s.size,h1,h2,d,fG,f,K⟩;have Z:db F (ab b 3 (xs.map af++dq)::D) w:=s1.imp λ_=>Sat.tail λ_=>Sat.drop;have i9:(xs.map af).length=xs.length:=fW;rw[rm,ep,i9]at cd;have g7:i≠b:=by
    rintro rfl;obtain⟨W,cE,p,q,hf,M⟩:=s1.eI;obtain⟨d8,f9,S,rfl,dZ,_⟩:=M;rcases(rj.1 p).1 i with h|h
    . have z:W i=some _:=hf;rw[h]at z;cases z
    . have E:d8 i=some _:=dZ;rw[h]at E;cases E
   by_cases bn:xs=[]
   . subst bn
     simp only[lk,mO,ci]at*;by_cases A:1<=c
     . refine(Any2.slices_Insert_int_end_room Tryz.F3 b 0 0 c i 0 1 1 [af y] w bN ae (by unfold maxLen at eB;omega) rfl (λj J=>?_) (λj J=>GJ Z) l m).mono λ_ X ⟨Y,O⟩=>?_
       . obtain⟨v,V⟩:∃v,dq[0+0+j]?=some v:=⟨_,cq ae⟩
         rw[GI Z V];rfl
       . refine GK ?_
         have b9:=Z.setCells [af y] dq 0;rw[r4 _ _ _ hW]at b9;refine fin (rest:=dq.drop 1) hW (by simpa using A) eB ?_;simpa using b9
     . obtain rfl:c=0:=by omega
       refine(Any2.slices_Insert_int_end_grow Tryz.F3 (some ⟨b,0,none⟩) 0 0 i 0 1 1 [] [af y] w bN bN bN bN rfl rfl (λ_=>rfl) (λa h j v J=>by simp at J) l m).mono λ_ X ⟨Y,O⟩=>?_;exact VC
   . have I:0<xs.length:=List.length_pos_iff.2 bn
     have B:∀j v,(xs.map af)[j]?=some v->w.cell? ⟨b,0+j,none⟩=some v:=λj v J=>by
      have d5:=(dd.1 J).1;rw[kR];exact GI Z (by rw[kS d5];exact J)
     by_cases A:xs.length+1<=c
     . refine(Any2.slices_Insert_int_shift Tryz.F3 b 0 xs.length c 0 i 0 1 1 (xs.map af) [af y] w I bN A (by unfold maxLen at eB;omega) g7 i9 rfl B (λj J=>?_) (λj J=>GJ Z) l (VB xs) m
        3 3 1 (xs.map af++dq).length (VD (s1.imp λ_=>Sat.drop)) (VD Z) MD (GJ (s1.imp λ_=>Sat.drop)) (GJ (s1.imp λ_=>Sat.drop))).mono λ_ X ⟨Y,O⟩=>?_
       . obtain⟨v,V⟩:∃v,(xs.map af++dq)[0+j]?=some v:=⟨_,cq MD⟩
         rw[kR]at V⊢;rw[GI Z V];rfl
       . refine GK ?_
         have b9:=(Z.drew.setCells (xs.map af) _ 1).setCells [af y] _ 0;rw[r4 (xs.map af) _ 1 MD,r4 [af y] _ 0 hW]at b9;refine fin (rest:=dq.drop 1) hW A eB ?_;have e:List.take 0 (List.take 1 (xs.map af++dq)++xs.map af++List.drop (1+(xs.map af).length) (xs.map af++dq))++[af y]++List.drop (0+[af y].length) (List.take 1 (xs.map af++dq)++xs.map af++List.drop (1+(xs.map af).length) (xs.map af++dq))=(y::xs).map af++dq.drop 1:=by
          rw[ME 1,<-GL,List.drop_left];obtain⟨x,r,rfl⟩:∃x r,xs=x::r:=by cases xs with
           |nil=>exact absurd rfl bn
           |cons x r=>exact⟨x,r,rfl⟩
          simp
         rw[e]at b9;simpa using b9
     . refine(Any2.slices_Insert_int_grow Tryz.F3 b 0 xs.length c 0 i 0 1 1 (xs.map af) [af y] w I bN ia ae ae i9 rfl B l (VB xs) m).mono λ_ X ⟨Y,O⟩=>?_
       simp only[show Tryz.als.t 3=3 from rfl]at Y O;refine GK ?_;have n:=grownCap_ge w (xs.length+1) c 3;have R:=grownCap_le_maxLen w (xs.length+1) c 3 wu
       generalize grownCap w (xs.length+1) c 3=C at*
       obtain⟨g,N,T⟩:∃g:List Value,(((xs.map af).take 0).toArray++Builtin.zeroCells (Value.int .i64 0).cells (xs.length+1 -0)++Builtin.zeroCells (Value.int .i64 0).cells (C -(xs.length+1)))=g.toArray/\g.length=C:=
        ⟨(((xs.map af).take 0).toArray++Builtin.zeroCells (Value.int .i64 0).cells (xs.length+1 -0)++Builtin.zeroCells (Value.int .i64 0).cells (C -(xs.length+1))).toList,by simp,by simp[Builtin.zeroCells,Value.cells];omega⟩
       rw[N];have b9:=(((s.imp λ_ h=>h.drop.drop).new (.cells g.toArray 3 (0,0))).drew.setCells [af y] g 0).drew.setCells (xs.map af) _ 1;rw[r4 [af y] _ 0 hW,r4 (xs.map af) _ 1 (by rw[ep,ep,pS,wb,i9];simp;omega)]at b9;refine fin (rest:=g.drop (xs.length+1)) hW n R ?_;have e:List.take 1 (List.take 0 g++[af y]++List.drop (0+[af y].length) g)++xs.map af++List.drop (1+(xs.map af).length) (List.take 0 g++[af y]++List.drop (0+[af y].length) g)=(y::xs).map af++g.drop (xs.length+1):=by
        simp[ME]
       rw[e]at b9;exact b9
end
end Go.Proofs.YtnnhpnccfnghdaaGreat.C
namespace Go.Proofs.YtnnhpnccfnghdaaGreat.C
open Go.Proofs.YtnnhpnccfnghdaaGreat.L Go.L Go.L.Lx Go.L.Pg
attribute[local irreducible] G cz GE cT GT bU c6 cY dc Exit.then Exit.inBlock
section
variable(x:Bool×Int)(L:List l7){D:List aq}(a:Option Addr)(c:Nat)(M:FuncId)(z:List Value)(N:List aq)(q:l7->Bool)
def Al:List Value:=[.bool x.1,af x.2]
def amd:(Al x).length=2:=rfl
abbrev BT:TypeId:=134
abbrev Mm(b:Nat):Value:=.iface 131 (ptr b 0)
def qm:ll->List aq->Value->List aq->Prop
 |none,N,u,H=>u=.pointer none/\H=N
 |some (c,ws),N,u,H=>∃b a m,u=ptr b 0/\H=ab b BT [af c,.slice a ws.length m]::o9 a m ws::N
def Mn:ll->List aq->Value->List aq->Prop
 |none,N,u,H=>u=.nilIface/\H=N
 |some (c,ws),N,u,H=>∃b a m,u=Mm b/\H=ab b BT [af c,.slice a ws.length m]::o9 a m ws::N
def uy{D:List aq}:∀{N:List aq},Part N (N++D) D
 |[]=>.nil
 |_::N=>.cons .head (uy (N:=N))
theorem CY{N D:List aq}{v:Value}{n:Nat}{xs:List Value}(aD:∀h,Sat N h->gT h v n xs):iX v (N++D) n xs:=⟨λs=>by
 obtain⟨h1,h2,d,e,a,_⟩:=Sat.split s;rw[e];exact(aD _ a).more⟩
def UG:∀h,Sat D h->Sat (o9 none 0 []::D) h:=ii
def UH{L:List (Bool×Int)}{x:Nat}{t:Bool×Int}(h:L[x]?=some t):oC (L.drop x)=if t.1 then t.2 else oC (L.drop (x+1)):=by
 obtain⟨J,e⟩:=dd.1 h;rw[vY J,e];cases t;rfl
def UI{D:Nat->ll}{i n:Nat}(h:i<n):fst D i (n -i)=Am i (D i) (fst D (i+1) (n -(i+1))):=by
 obtain⟨k,hk⟩:∃k,n -i=k+1:=⟨n -i -1,by omega⟩;rw[hk,show n -(i+1)=k by omega];rfl
def any_none{α:Type}{L:List α}{q:α->Bool}{x:Nat}{t:α}(h:L[x]?=some t)(h1:(L.take x).any q=false)(h2:q t=false):(L.take (x+1)).any q=false:=by
 exact UJ
def Gn{a b:Bool}(h:a=b):Value.bool a=Value.bool b:=by rw[h]
attribute[local irreducible] lN
theorem ame(aS:L.length<=9223372036854775807)(aD:∀h,Sat N h->gT h kQ L.length (L.flatMap ik))
 (hp:∀x∈L,ad aa M Gp N lm)(fD:eU aa M:=by exact e7):ad aa 220 oD N (λu H=>∃r:Int,CZ/\u=af r/\H=N):=by
 refine ax Tryz.func220 λF D=>?_;haveI:=CY (D:=D) aD;refine rZ ?_;intro x ag bo;replace ag:x<=L.length:=ag;replace bo:(L.take x).any q=false:=bo;refine bh ?_;refine b6 (λW=>?_) (λW=>?_)
 . obtain⟨t,R⟩:∃t,L[x]?=some t:=⟨_,cq (show x<L.length by omega)⟩
   refine UK ?_;exact C0
 . exact C1
theorem UL(aS:L.length<=9223372036854775807)(aD:∀h,Sat N h->gT h kQ L.length (L.flatMap ik))
 (hp:∀x∈L,ad aa M Gp N lm)(fD:eU aa M:=by exact e7):ad aa 170 oD N C2:=by
 refine ax Tryz.func170 λF D=>?_;refine cr ?_;refine cj rfl (b4 rfl (ame L a c M z N q aS aD hp) uy) ?_;exact C3
end
section
variable(L:List b1)(a:Option Addr)(c:Nat)(M:FuncId)(z:List Value)(N:List aq)(q:b1->Bool)
theorem amf(aS:L.length<=9223372036854775807)(aD:∀h,Sat N h->gT h kQ L.length (L.flatMap dO))
 (hp:∀x∈L,ad aa M Gq N lm)(fD:eU aa M:=by exact e7):ad aa 100 oD N (λu H=>∃r:Int,CZ/\u=af r/\H=N):=by
 refine ax Tryz.func100 λF D=>?_;haveI:=CY (D:=D) aD;refine rZ ?_;intro x ag bo;replace ag:x<=L.length:=ag;replace bo:(L.take x).any q=false:=bo;refine bh ?_;refine b6 (λW=>?_) (λW=>?_)
 . obtain⟨t,R⟩:∃t,L[x]?=some t:=⟨_,cq (show x<L.length by omega)⟩
   refine UM ?_;exact C0
 . exact C1
theorem UN(aS:L.length<=9223372036854775807)(aD:∀h,Sat N h->gT h kQ L.length (L.flatMap dO))
 (hp:∀x∈L,ad aa M Gq N lm)(fD:eU aa M:=by exact e7):ad aa 174 oD N C2:=by
 refine ax Tryz.func174 λF D=>?_;refine cr ?_;refine cj rfl (b4 rfl (amf L a c M z N q aS aD hp) uy) ?_;exact C3
end
section
variable(L:List fb)(a:Option Addr)(c:Nat)(M:FuncId)(z:List Value)(N:List aq)(q:fb->Bool)
theorem amg(aS:L.length<=9223372036854775807)(aD:∀h,Sat N h->gT h kQ L.length (L.flatMap ft))
 (hp:∀x∈L,ad aa M Gr N lm)(fD:eU aa M:=by exact e7):ad aa 273 oD N (λu H=>∃r:Int,CZ/\u=af r/\H=N):=by
 refine ax Tryz.func273 λF D=>?_;haveI:=CY (D:=D) aD;refine rZ ?_;intro x ag bo;replace ag:x<=L.length:=ag;replace bo:(L.take x).any q=false:=bo;refine bh ?_;refine b6 (λW=>?_) (λW=>?_)
 . obtain⟨t,R⟩:∃t,L[x]?=some t:=⟨_,cq (show x<L.length by omega)⟩
   refine UO ?_;exact C0
 . exact C1
theorem UP(aS:L.length<=9223372036854775807)(aD:∀h,Sat N h->gT h kQ L.length (L.flatMap ft))
 (hp:∀x∈L,ad aa M Gr N lm)(fD:eU aa M:=by exact e7):ad aa 221 oD N C2:=by
 refine ax Tryz.func221 λF D=>?_;refine cr ?_;refine cj rfl (b4 rfl (amg L a c M z N q aS aD hp) uy) ?_;exact C3
end
section
variable(L:List fw)(a:Option Addr)(c:Nat)(M:FuncId)(z:List Value)(N:List aq)(q:fw->Bool)
theorem amh(aS:L.length<=9223372036854775807)(aD:∀h,Sat N h->gT h kQ L.length (L.flatMap fz))
 (hp:∀x∈L,ad aa M ([.agg (fz x).toArray]++z) N lm)(fD:eU aa M:=by exact e7):ad aa 326 oD N (λu H=>∃r:Int,CZ/\u=af r/\H=N):=by
 refine ax Tryz.func326 λF D=>?_;haveI:=CY (D:=D) aD;refine rZ ?_;intro x ag bo;replace ag:x<=L.length:=ag;replace bo:(L.take x).any q=false:=bo;refine bh ?_;refine b6 (λW=>?_) (λW=>?_)
 . obtain⟨t,R⟩:∃t,L[x]?=some t:=⟨_,cq (show x<L.length by omega)⟩
   refine yj ?_;refine aA rfl (kN rfl (kO fz 7 ur R) rfl) ?_;exact C0
 . exact C1
theorem ami(aS:L.length<=9223372036854775807)(aD:∀h,Sat N h->gT h kQ L.length (L.flatMap fz))
 (hp:∀x∈L,ad aa M ([.agg (fz x).toArray]++z) N lm)(fD:eU aa M:=by exact e7):ad aa 274 oD N C2:=by
 refine ax Tryz.func274 λF D=>?_;refine cr ?_;refine cj rfl (b4 rfl (amh L a c M z N q aS aD hp) uy) ?_;exact C3
end
section
variable(L:List Row)(a:Option Addr)(c:Nat)(M:FuncId)(z:List Value)(N:List aq)(q:Row->Bool)
theorem amj(aS:L.length<=9223372036854775807)(aD:∀h,Sat N h->gT h kQ L.length (L.flatMap gh))
 (hp:∀x∈L,ad aa M Gs N lm)(fD:eU aa M:=by exact e7):ad aa 327 oD N (λu H=>∃r:Int,CZ/\u=af r/\H=N):=by
 refine ax Tryz.func327 λF D=>?_;haveI:=CY (D:=D) aD;refine rZ ?_;intro x ag bo;replace ag:x<=L.length:=ag;replace bo:(L.take x).any q=false:=bo;refine bh ?_;refine b6 (λW=>?_) (λW=>?_)
 . obtain⟨t,R⟩:∃t,L[x]?=some t:=⟨_,cq (show x<L.length by omega)⟩
   refine UQ ?_;exact C0
 . exact C1
theorem amk(aS:L.length<=9223372036854775807)(aD:∀h,Sat N h->gT h kQ L.length (L.flatMap gh))
 (hp:∀x∈L,ad aa M Gs N lm)(fD:eU aa M:=by exact e7):ad aa 276 oD N C2:=by
 refine ax Tryz.func276 λF D=>?_;refine cr ?_;refine cj rfl (b4 rfl (amj L a c M z N q aS aD hp) uy) ?_;exact C3
end
section
variable{P:Program}{M:FuncId}{args:List Value}{N:List aq}{r:ll}{c:Int}{ws:List Int}
def C4(L:List (Bool×Int))(b:Nat)(K:L.length<=100):ad aa 96 [.slice j3 L.length L.length] [ab b 191 (L.flatMap Al)] (aF (af (oC L)) [ab b 191 (L.flatMap Al)]):=by
 refine ax Tryz.func96 λF D=>?_;refine fZ ?_;refine gO (bx:=Nat) (λx=>x<=L.length/\oC L=oC (L.drop x)) (λx=>[(7,af x),(6,af L.length),(5,.slice j3 L.length L.length)]) (λ_=>ab b 191 (L.flatMap Al)::D) (λx=>L.length -x) 0 (⟨fc _,rfl⟩) de (au) ?_;rintro x ⟨ag,bo⟩;replace ag:x<=L.length:=ag;replace bo:oC L=oC (L.drop x):=bo;refine bh ?_;refine b6 (λW=>?_) (λW=>?_)
 . obtain⟨t,R⟩:∃t,L[x]?=some t:=⟨_,cq (show x<L.length by omega)⟩
   refine bh ?_;refine aA rfl (fA rfl rfl (show x<L.length by omega)) ?_;refine aA rfl (kN rfl (kO Al 2 amd R) rfl) ?_;refine wn λaN=>?_;refine cr ?_;refine b6 (λI=>?_) (λI=>?_)
   . refine fZ ?_
     exact aW ⟨by rw[bo,UH R,bg I],rfl⟩
   . refine C5 ?_
     refine fm (x+1) ⟨show x+1<=L.length by omega,by rw[bo,UH R,a6 (by rw[I];decide)]⟩ (show L.length -(x+1)<L.length -x by omega) de (au)
 . obtain rfl:x=L.length:=by omega
   rw[Uy]at bo;refine dx ?_;exact aW ⟨by rw[bo];rfl,rfl⟩
def aml(i:Int):ad aa 169 [af i,.pointer none] [] (aF fS []):=by
 refine ax Tryz.func169 λF D=>?_;refine gi ?_;exact yk
def amm(i b:Nat)(a:Option Addr)(m:Nat)(c:Int)(ws:List Int)(O:ws.length<=10)(al:i<9223372036854775807):ad aa 169 [af i,ptr b 0] [ab b BT [af c,.slice a ws.length m],o9 a m ws] (λu H=>∃aE e,u=ptr b 0/\H=[ab b BT [af c,.slice aE (ws.length+1) e],o9 aE e (((i+1:Nat):Int)::ws)]):=by
 refine ax Tryz.func169 λF D=>?_;refine gi ?_;refine An ?_;refine wn λd=>?_;refine cj rfl (b4 rfl (amn a m ws ((i+1:Nat):Int) d ae) bI) ?_;rintro _ D ⟨_,⟨aE,e,rfl,rfl⟩,rfl⟩;refine fj ?_;refine fx ?_;exact aW ⟨_,_,rfl,rfl⟩
def wh(h:ad P M args N (qm r N))(e:r=none):ad P M args N (aF fS N):=by subst e;exact h
def wi(h:ad P M args N (qm r N))(e:r=some (c,ws)):ad P M args N (λu H=>∃b a m,u=ptr b 0/\H=ab b BT [af c,.slice a ws.length m]::o9 a m ws::N):=by subst e;exact h
def Mo(e:r=some (c,ws)){N:List aq}{b:Nat}{a:Option Addr}{m:Nat}:qm r N (ptr b 0) (ab b BT [af c,.slice a ws.length m]::o9 a m ws::N):=by subst e;exact⟨_,_,_,rfl,rfl⟩
def UR(e:r=none){N:List aq}:qm r N fS N:=by subst e;exact dD
theorem wj(own:Int)(n:Nat)(aS:n<=9223372036854775807)(M:FuncId)(z:List Value)(N:List aq)(d:Nat->ll)(aw:∀i c ws,d i=some (c,ws)->ws.length<=10)
 (hp:∀i,i<n->ad aa M ([af i]++z) N (qm (d i) N))(fD:eU aa M:=by exact e7):ad aa 97 [af own,af n,.func (.func M) #[] z.toArray] N (qm (k1 own n d) N):=by
 refine ax Tryz.func97 λF D=>?_;refine dx ?_;refine b6 (λW=>?_) (λW=>?_)
 . have O:k1 own n d=some (own,[]):=by unfold k1;rw[a6 ae]
   refine bF ?_;refine wn λf=>?_;refine bh ?_;exact aW (Mo O) (λ_ h=>Sat.tail (r:=N++D) (S:=o9 none 0 []::(N++D)) (λ_ h=>UG _ h) h)
 . have O:k1 own n d=fst d 0 n:=by unfold k1;rw[bg ae]
   refine cU ?_;refine gO (bx:=Nat) (λx=>x<=n/\k1 own n d=fst d x (n -x)) (λx=>[(15,af x),(14,af n),(2,.func (.func M) #[] z.toArray)]) (λ_=>N++D) (λx=>n -x) 0 (⟨fc _,O⟩) de (λ_ h=>h) ?_;clear O;rintro x ⟨ag,O⟩;replace ag:x<=n:=ag;replace O:k1 own n d=fst d x (n -x):=O;refine bh ?_;refine b6 (λI=>?_) (λI=>?_)
   . refine cO ?_
     rcases K:d x with _|⟨c,ws⟩
     . refine bF ?_
       refine cj rfl (oE rfl rfl (wh (hp x ae) K) uy) ?_;rintro _ D ⟨_,⟨rfl,bb⟩,rfl⟩;refine fj ?_;obtain rfl:=bb.symm;refine aV (aml x) ?_;refine fZ ?_;refine Mp ?_;refine fm (x+1) ⟨show x+1<=n by omega,by rw[O,UI ae,K];rfl⟩ (show n -(x+1)<n -x by omega) de (λ_ h=>h)
     . refine bF ?_
       refine cj rfl (oE rfl rfl (wi (hp x ae) K) uy) ?_;rintro _ D ⟨_,⟨b,a,m,rfl,rfl⟩,rfl⟩;refine fj ?_;refine cj rfl (b4 rfl (amm x b a m c ws (aw x c ws K) ae) bI) ?_;rintro _ D ⟨_,⟨aE,e,rfl,rfl⟩,rfl⟩;refine fj ?_;refine gi ?_;refine bX ?_;exact aW (H:=(ab b BT [af c,.slice aE (((x+1:Nat):Int)::ws).length e]::o9 aE e (((x+1:Nat):Int)::ws)::N)) (Mo (by rw[O,UI (by omega),K];rfl)) (λ_ h=>h)
   . have T:k1 own n d=none:=by rw[O,show n -x=0 by omega];rfl
     refine dx ?_;exact aW (UR T) (λ_ h=>h)
end
end Go.Proofs.YtnnhpnccfnghdaaGreat.C
namespace Go.Proofs.YtnnhpnccfnghdaaGreat.C
open Go.Proofs.YtnnhpnccfnghdaaGreat.L Go.L Go.L.Lx Go.L.Pg
attribute[local irreducible] G cz GE cT GT bU c6 cY dc Exit.then Exit.inBlock
attribute[local irreducible] lN
def wk{A:aq}{r:List aq}{v:Value}{n:Nat}{xs:List Value}(B:∀h,A h->gT h v n xs):∀h,Sat (A::r) h->gT h v n xs:=λ_ ⟨_,_,_,e,a,_⟩=>e▸(B _ a).more
section
variable(A:aq)(L:List cy){br:List b1}(b n:Nat){H:List fb}(d:b1)(x:cy){D:List Row}{z:List fw}{j:Nat}
def amo{e:fw}(h:z[j]?=some e):oF br H z j=if r0 br H e (decide ((j:Int)=(z.length:Int) -1))=0 then none else some (r0 br H e (decide ((j:Int)=(z.length:Int) -1)),[]):=by unfold oF;rw[h]
def amp{r:Row}(h:D[j]?=some r):n2 br H D j=k1 (uz D j r) r.b8.length (oF br H r.b8):=by unfold n2;rw[h]
def amq{s:fb}(h:H[j]?=some s):nu br H j=k1 (wl H j s) s.rows.length (n2 br H s.rows):=by unfold nu;rw[h]
def amr{k:b1}(h:br[j]?=some k):pa br j=k1 (r1 br j k) k.states.length (nu br k.states):=by unfold pa;rw[h]
def Mq{own:Int}{n m:Nat}{D:Nat->ll}(aw:∀i c ws,D i=some (c,ws)->ws.length<=m):∀c ws,k1 own n D=some (c,ws)->ws.length<=m+1:=λc ws h=>by
 rcases ams h with rfl|⟨j,b,_,h2,rfl⟩
 . simp
 . have:=aw _ _ _ h2;simp;omega
def Mr(j:Nat)(c:Int)(ws:List Int)(h:oF br H z j=some (c,ws)):ws.length<=0:=by
 unfold oF at h;split at h
 . split at h
   . cases h
   . simp only[Option.some.injEq,Prod.mk.injEq]at h;rw[<-h.2];simp
 . cases h
def Ms(j:Nat)(c:Int)(ws:List Int)(h:n2 br H D j=some (c,ws)):ws.length<=1:=by
 unfold n2 at h;split at h
 . exact Mq (λi c ws=>Mr i c ws) _ _ h
 . cases h
def Mt(j:Nat)(c:Int)(ws:List Int)(h:nu br H j=some (c,ws)):ws.length<=2:=by
 unfold nu at h;split at h
 . exact Mq (λi c ws=>Ms i c ws) _ _ h
 . cases h
def US(j:Nat)(c:Int)(ws:List Int)(h:pa br j=some (c,ws)):ws.length<=3:=by
 unfold pa at h;split at h
 . exact Mq (λi c ws=>Mt i c ws) _ _ h
 . cases h
def UT{cs:List l7}{x:Nat}{c:l7}(h:cs[x]?=some c):wm cs (x+1)=(wm cs x||(cs.take x).any λd=>decide (d.reason=c.reason)):=by simp[wm,h]
def amt{L:List cy}{i:Nat}{t x:cy}(h:L[i]?=some t)(h1:x∉L.take i)(h2:¬x=t):x∉L.take (i+1):=by
 obtain⟨J,e⟩:=dd.1 h;rw[ns J,e,kP];rintro(h|h)
 . exact h1 h
 . exact h2 (r2.1 h)
def amu(aS:L.length=n)(e:n<=100):ad aa 377 [.slice j3 n n,S x] [ab b 9 (L.map S)] (λu H=>∃r:Int,(0<=r↔x∈L)/\u=af r/\H=[ab b 9 (L.map S)]):=by
 refine ax Tryz.func377 λF D=>?_;subst aS;refine fZ ?_;refine gO (λi=>i<=L.length/\x∉L.take i) (λi=>[(8,af i),(7,af L.length),(0,.slice j3 L.length L.length),(1,S x)]) (λ_=>ab b 9 (L.map S)::D) (λi=>L.length -i) 0 (⟨fc _,by simp⟩) de (au) ?_;rintro i ⟨al,bo⟩;replace al:i<=L.length:=al;replace bo:x∉L.take i:=bo;refine bh ?_;refine b6 (λW=>?_) (λW=>?_)
 . obtain⟨t,R⟩:∃t,L[i]?=some t:=⟨_,cq (show i<L.length by omega)⟩
   refine eP ?_;refine aA rfl (fA rfl rfl (show i<L.length by omega)) ?_;refine aA rfl (gy rfl (show(L.map S)[i*1]?=some (S t) by rw[rm,fe,R];rfl)) ?_;refine aA rfl (pO rfl rfl) ?_;refine a7 ?_;refine b6 (λI=>?_) (λI=>?_)
   . refine fx ?_
     exact aW ⟨_,⟨λ_=>I▸h0 R,λ_=>by omega⟩,rfl,rfl⟩
   . refine Gt ?_
     refine fm (i+1) ⟨show i+1<=L.length by omega,amt R bo I⟩ (show L.length -(i+1)<L.length -i by omega) de (au)
 . obtain rfl:i=L.length:=by omega
   rw[l9]at bo;refine dx ?_;exact aW ⟨-1,⟨λh=>absurd h bN,λh=>absurd h bo⟩,rfl,rfl⟩
def UU(aS:L.length=n)(e:n<=100):ad aa 331 [.slice j3 n n,S x] [ab b 9 (L.map S)] (aF (.bool (decide (x∈L))) [ab b 9 (L.map S)]):=by
 refine ax Tryz.func331 λF D=>?_;refine cr ?_;refine bt (amu L b n x aS e) ?_;rintro _ _ ⟨r,aD,rfl,rfl⟩;refine er ?_;refine bh ?_;exact aW ⟨Gn (by rw[pb,ln,ln];exact aD),rfl⟩
def UW(l:cy)(aw:l.length<=9223372036854775807):ad aa 172 [S l] [] (aF (.bool (named l)) []):=by
 refine ax Tryz.func172 λF D=>?_;refine bH ?_;refine aA rfl (pO rfl rfl) ?_;refine aG ?_;refine hU rfl rfl (λW=>?_) (λW=>?_) rfl
 . have f:=bR W
   refine a7 ?_;refine cj rfl (b4 rfl (C6 (l) ae) bI) ?_;refine gP ?_;refine Ah ?_;exact aW ⟨Gn (by unfold named;simp_all),rfl⟩
 . have f:=bR W
   simp only[iD];refine ch ?_;exact aW ⟨Gn (by unfold named;simp_all),rfl⟩
def amv(c:l7)(a2:eF c.reason.length):ad aa 171 [.agg (ik c).toArray] [A] (aF (.bool (uA c)) [A]):=by
 refine ax Tryz.func171 λF D=>?_;unfold eF at a2;refine a7 ?_;refine wn λav=>?_;refine ch ?_;refine cj rfl (b4 rfl (UW c.reason ae) bI) ?_;refine Ao ?_;refine mN (d:=16) 9 (.bool (uA c)) ?_ (λa=>?_)
 rotate_left
 . refine hU rfl rfl (λW=>?_) (λW=>?_) rfl
   . have f:=bR W
     refine ch ?_;refine hU rfl rfl (λI=>?_) (λI=>?_) rfl
     . have p:=bR I
       refine bh ?_;unfold uA at a;exact jl a
     . have p:=bR I
       simp only[iD];refine bX ?_;unfold uA at a;exact jl a
   . have f:=bR W
     simp only[iD];refine bH ?_;unfold uA at a;exact jl a
 refine bz ?_;exact aW ⟨rfl,rfl⟩
def amw(d c:l7):ad aa 173 [.agg (ik d).toArray,ptr b 0] [A,ab b 89 (ik c)] (aF (.bool (decide (d.reason=c.reason))) [A,ab b 89 (ik c)]):=by
 refine ax Tryz.func173 λF D=>?_;exact C7
def amx(c:b1):ad aa 175 [.agg (dO d).toArray,ptr b 0] [A,ab b 78 (dO c)] (aF Mu [A,ab b 78 (dO c)]):=by
 refine ax Tryz.func175 λF D=>?_;exact C7
def amy(d c:fb):ad aa 222 [.agg (ft d).toArray,ptr b 0] [A,ab b 82 (ft c)] (aF Mu [A,ab b 82 (ft c)]):=by
 refine ax Tryz.func222 λF D=>?_;exact C7
def amz(c:fw):ad aa 329 [.agg (dO d).toArray,ptr b 0] [A,ab b 87 (fz c)] UX:=by
 refine ax Tryz.func329 λF D=>?_;exact C7
def amA(d:fb)(c:fw):ad aa 330 [.agg (ft d).toArray,ptr b 0] [A,ab b 87 (fz c)] UX:=by
 refine ax Tryz.func330 λF D=>?_;exact C7
def amB(e:fw):ad aa 275 [.agg (fz e).toArray] [A] (aF (.bool (decide (e.do'=4))) [A]):=by
 refine ax Tryz.func275 λF D=>?_;refine a7 ?_;refine wn λav=>?_;refine fx ?_;exact aW ⟨rfl,rfl⟩
def amC(d c:Row):ad aa 277 [.agg (gh d).toArray,ptr b 0] [A,ab b 85 (gh c)] (aF (.bool (wo d c)) [A,ab b 85 (gh c)]):=by
 refine ax Tryz.func277 λF D=>?_;refine a7 ?_;refine wn λU=>?_;refine cr ?_;refine aA rfl (pO rfl rfl) ?_;refine aG ?_;refine mN (d:=22) 13 (.bool (wo d c)) ?_ (λa=>?_)
 rotate_left
 . refine hU rfl rfl (λW=>?_) (λW=>?_) rfl
   . have f:=bR W
     refine cO ?_;refine hU rfl rfl (λI=>?_) (λI=>?_) rfl
     . have p:=bR I
       refine cU ?_;unfold wo at a;exact jl a
     . have p:=bR I
       simp only[iD];refine bz ?_;unfold wo at a;exact jl a
   . have f:=bR W
     simp only[iD];refine dx ?_;unfold wo at a;exact jl a
 refine bz ?_;exact aW ⟨rfl,rfl⟩
end
theorem amD{P:Program}{F:World}{n:Nat}{ak:eA}{I D:List aq}{fn:Func}{post:Value->List aq->Prop}{e:Exit}(Y:e=.ret\/e=.normal){t1 V t3 t4 t5:Nat}{v1 u v3 v4 v5:Value}(a8:fn.results=#[.tmp t1,.tmp V,.tmp t3,.tmp t4,.tmp t5])(h1:gL ak t1=some v1)(h2:gL ak V=some u)(aH:gL ak t3=some v3)(bm:gL ak t4=some v4)(dk:gL ak t5=some v5)
 (H:List aq)(hp:post (.tuple #[v1,u,v3,v4,v5]) H)(B:∀h,Sat I h->Sat (H++D) h):GE F n ak I vW:=
 x6 Y (λa w aj _=>by simp[results,a8,aj.val _ _ h1,aj.val _ _ h2,aj.val _ _ aH,aj.val _ _ bm,aj.val _ _ dk]) H hp B
def amE{a b c d e aE l aK p H:Bool}(h1:a=aE)(h2:b=l)(aH:c=aK)(bm:d=p)(dk:e=H):Value.tuple #[.bool a,.bool b,.bool c,.bool d,.bool e]=.tuple #[.bool aE,.bool l,.bool aK,.bool p,.bool H]:=by subst h1 h2 aH bm dk;rfl
def amF(d:Int):ad aa 328 [af d] [] (aF (.tuple #[.bool (Gu d),.bool (Gv d),.bool (C8 d),.bool (Mv d),.bool (Gw d)]) []):=by
 refine ax Tryz.func328 λF D=>?_;refine uq ?_;refine bh ?_;refine b6 (λW=>?_) (λW=>?_)
 . refine gi ?_
   refine bh ?_;exact C9
 . refine cr ?_
   refine b6 (λI=>?_) (λI=>?_)
   . refine gi ?_
     refine bH ?_;exact C9
   . refine cU ?_
     refine b6 (λL=>?_) (λL=>?_)
     . refine a7 ?_
       refine b6 (λfV=>?_) (λfV=>?_)
       . exact Gx
       . refine cr ?_
         refine b6 (λw=>?_) (λw=>?_)
         . exact UY
         . refine cr ?_
           refine b6 (λl=>?_) (λl=>?_)
           . exact Gx
           . refine cr ?_
             refine b6 (λz=>?_) (λz=>?_)
             . refine a7 ?_
               refine b6 (λR=>?_) (λR=>?_)
               . exact Ap
               . exact Aq
             . refine bh ?_
               refine b6 (λX=>?_) (λX=>?_)
               . refine a7 ?_
                 refine b6 (λn=>?_) (λn=>?_)
                 . exact Ap
                 . exact Aq
               . refine bz ?_
                 refine b6 (λo=>?_) (λo=>?_)
                 . exact Ap
                 . exact Aq
     . refine bz ?_
       refine b6 (λq=>?_) (λq=>?_)
       . exact Gx
       . refine cr ?_
         refine b6 (λr=>?_) (λr=>?_)
         . exact UY
         . refine cr ?_
           refine b6 (λi=>?_) (λi=>?_)
           . exact Gx
           . refine cr ?_
             refine b6 (λs=>?_) (λs=>?_)
             . refine a7 ?_
               refine b6 (λv=>?_) (λv=>?_)
               . exact Ap
               . exact Aq
             . refine bh ?_
               refine b6 (λT=>?_) (λT=>?_)
               . refine a7 ?_
                 refine b6 (λU=>?_) (λU=>?_)
                 . exact Ap
                 . exact Aq
               . refine bz ?_
                 refine b6 (λm=>?_) (λm=>?_)
                 . exact Ap
                 . exact Aq
def amG(bS:Option Addr)(pc:Nat)(br:List b1)(A:aq)(B:∀h,A h->hr h bS pc br)(az:∃h,hr h bS pc br)(k:b1)(hk:k∈br)(e:fw)(Y:CP e)(last:Bool):ad aa 279 [.agg #[.slice bS br.length pc],.agg (dO k).toArray,.agg (fz e).toArray,.bool last] [A] (aF (af (r0 br k.states e last)) [A]):=by
 refine ax Tryz.func279 λF D=>?_;haveI t7:gN Gy A br.length (br.flatMap dO):=⟨λh=>(B _ h).rd.1⟩;obtain⟨bn,em⟩:=az;have ro:=em.len;unfold eF at ro;have cc:=em.kinds k hk;have V:=cc.lens;have pi:=cc.ri;have mt:=cc.name;unfold eF at V pi mt;haveI ji:gN Ac A k.states.length CK:=⟨λh=>((B _ h).kinds k hk).qR.1⟩;haveI GP:gN Ab A k.cases.length tf:=⟨λh=>((B _ h).kinds k hk).rP.1⟩;obtain⟨are,t8,arg⟩:=Y;unfold eF at are t8 arg;refine a7 ?_;refine wn λaN=>?_;refine wn λaO=>?_;refine wn λaR=>?_;refine ch ?_;refine aV (amF e.do') ?_;refine eP ?_;refine bX ?_;refine cj rfl (b4 rfl (UN br bS pc 329 [ptr aR 0] [A,ab aR 87 (fz e)] (λd=>decide (d.name=e.name)) ae (wk λh a=>(B h a).rd.1) (λd _=>amz A aR d e)) bI) ?_;refine gP ?_;refine fj ?_;refine bH ?_;refine cj rfl (b4 rfl (UP k.states k.sa k.sc 330 [ptr aR 0] [A,ab aR 87 (fz e)] (λd=>decide (d.name=e.name)) ae (wk λh a=>((B h a).kinds k hk).qR.1) (λd _=>amA A aR d e)) bI) ?_;refine Mw ?_;refine ir [11,14,29,32,49,149,150] [11,14,29,32,49] (0::4::8::12::36::40::109::181::249::333::337::341::405::409::413::477::481::485::545::549::553::17::21::25::29::UZ) [ab aR 87 (fz e)] ?_;refine gi ?_;refine aG ?_;refine qn (d:=44) UZ (.bool (aB e)) ?_ (λUV=>?_)
 rotate_left
 . refine hj (j:=3) rfl rfl (λW=>?_) (λW=>?_)
   . exact U0
   . exact U0
 refine qo (bd.cons (t:=175) rfl (bd.cons (t:=158) rfl (bd.cons (t:=140) rfl (bd.cons (t:=122) rfl (bd.cons (t:=99) rfl (bd.cons (t:=82) rfl (bd.cons (t:=64) rfl (bd.cons (t:=47) rfl (bd.cons (t:=44) rfl U1))))))))) ?_;refine aG ?_;refine qn (d:=62) U2 (.bool (aU e)) ?_ (λb=>?_)
 rotate_left
 . refine hj (j:=10) rfl rfl (λI=>?_) (λI=>?_)
   . have p:=bR I
     refine a7 ?_;refine yl rfl (.yes rfl rfl I) rfl (qp (cs:=Mx.map S) rfl rfl rfl rfl) ?_;rintro _ _ ⟨Id,rfl,rfl⟩;refine aG ?_;refine pR rfl (.yes rfl rfl I) rfl (b4 rfl (UU Mx Id 7 e.ref rfl bN) bI) ?_;refine Ar ?_;refine hj (j:=17) rfl rfl (λL=>?_) (λL=>?_)
     . have C:=bR L
       refine bH ?_;unfold aU at b;exact kt b I L
     . have C:=bR L
       refine bX ?_;refine hj (j:=20) rfl rfl (λfV=>?_) (λfV=>?_)
       . have E:=bR fV
         refine a7 ?_;refine jJ rfl (.yes rfl rfl fV) rfl wq (au) ?_;refine a7 ?_;unfold aU at b;exact qq b I L fV
       . have E:=bR fV
         refine bz ?_;unfold aU at b;exact qq b I L fV
   . have p:=bR I
     refine cU ?_;refine hj (j:=20) rfl rfl (λw=>?_) (λw=>?_)
     . have N:=bR w
       refine a7 ?_;refine jJ rfl (.yes rfl rfl w) rfl wq (au) ?_;refine a7 ?_;unfold aU at b;exact kt b I w
     . have N:=bR w
       refine bz ?_;unfold aU at b;exact kt b I w
 refine qo (bd.cons (t:=175) rfl (bd.cons (t:=158) rfl (bd.cons (t:=140) rfl (bd.cons (t:=122) rfl (bd.cons (t:=99) rfl (bd.cons (t:=82) rfl (bd.cons (t:=64) rfl (bd.cons (t:=62) rfl As)))))))) ?_;refine a7 ?_;refine qn (d:=80) U3 (.bool (bB e)) ?_ (λc=>?_)
 rotate_left
 . refine hj (j:=28) rfl rfl (λl=>?_) (λl=>?_)
   . have ut:=bR l
     refine a7 ?_;refine yl rfl (.yes rfl rfl l) rfl (qp (cs:=My.map S) rfl rfl rfl rfl) ?_;rintro _ _ ⟨atR,rfl,rfl⟩;refine aG ?_;refine pR rfl (.yes rfl rfl l) rfl (b4 rfl (UU My atR 4 e.slot rfl bN) bI) ?_;refine Ar ?_;refine hj (j:=35) rfl rfl (λz=>?_) (λz=>?_)
     . have Z:=bR z
       refine bH ?_;unfold bB at c;exact kt c l z
     . have Z:=bR z
       refine bX ?_;refine hj (j:=38) rfl rfl (λR=>?_) (λR=>?_)
       . have rt:=bR R
         refine a7 ?_;refine jJ rfl (.yes rfl rfl R) rfl wq (au) ?_;refine a7 ?_;unfold bB at c;exact qq c l z R
       . have rt:=bR R
         refine bz ?_;unfold bB at c;exact qq c l z R
   . have ut:=bR l
     refine cU ?_;refine hj (j:=38) rfl rfl (λX=>?_) (λX=>?_)
     . have WF:=bR X
       refine a7 ?_;refine jJ rfl (.yes rfl rfl X) rfl wq (au) ?_;refine a7 ?_;unfold bB at c;exact kt c l X
     . have WF:=bR X
       refine bz ?_;unfold bB at c;exact kt c l X
 refine qo (bd.cons (t:=175) rfl (bd.cons (t:=158) rfl (bd.cons (t:=140) rfl (bd.cons (t:=122) rfl (bd.cons (t:=99) rfl (bd.cons (t:=82) rfl (bd.cons (t:=80) rfl Au))))))) ?_;refine a7 ?_;refine qn (d:=97) U4 (.bool (c9 e)) ?_ (λg=>?_)
 rotate_left
 . refine hj (j:=46) rfl rfl (λn=>?_) (λn=>?_)
   . have WP:=bR n
     refine a7 ?_;refine pR rfl (.yes rfl rfl n) rfl (b4 rfl (C6 (e.name) ae) bI) ?_;refine Ar ?_;refine hj (j:=52) rfl rfl (λo=>?_) (λo=>?_)
     . have aux:=bR o
       refine bH ?_;unfold c9 at g;exact kt g n o
     . have aux:=bR o
       refine bX ?_;refine hj (j:=55) rfl rfl (λq=>?_) (λq=>?_)
       . have aCI:=bR q
         refine a7 ?_;refine tk rfl (.yes rfl rfl q) rfl wq ?_;refine a7 ?_;unfold c9 at g;exact qq g n o q
       . have aCI:=bR q
         refine bz ?_;unfold c9 at g;exact qq g n o q
   . have WP:=bR n
     refine cr ?_;refine hj (j:=55) rfl rfl (λr=>?_) (λr=>?_)
     . have aCJ:=bR r
       refine a7 ?_;refine tk rfl (.yes rfl rfl r) rfl wq ?_;refine a7 ?_;unfold c9 at g;exact kt g n r
     . have aCJ:=bR r
       refine bz ?_;unfold c9 at g;exact kt g n r
 refine qo (bd.cons (t:=175) rfl (bd.cons (t:=158) rfl (bd.cons (t:=140) rfl (bd.cons (t:=122) rfl (bd.cons (t:=99) rfl (bd.cons (t:=97) rfl Av)))))) ?_;refine a7 ?_;refine qn (d:=118) U5 (.bool (fX e)) ?_ (λu=>?_)
 rotate_left
 . refine hj (j:=63) rfl rfl (λi=>?_) (λi=>?_)
   . have aCK:=bR i
     refine bF ?_;refine hj (j:=67) rfl rfl (λs=>?_) (λs=>?_)
     . have aCL:=bR s
       refine fZ ?_;unfold fX at u;exact kt u i s
     . have aCL:=bR s
       refine bh ?_;refine hj (j:=73) rfl rfl (λv=>?_) (λv=>?_)
       . have aCM:=bR v
         refine bH ?_;unfold fX at u;exact qq u i s v
       . have aCM:=bR v
         refine bX ?_;refine hj (j:=76) rfl rfl (λT=>?_) (λT=>?_)
         . exact U6
         . exact U6
   . have aCK:=bR i
     refine fx ?_;refine hj (j:=76) rfl rfl (λU=>?_) (λU=>?_)
     . exact U7
     . exact U7
 refine qo (bd.cons (t:=175) rfl (bd.cons (t:=158) rfl (bd.cons (t:=140) rfl (bd.cons (t:=122) rfl (bd.cons (t:=118) rfl Aw))))) ?_;refine a7 ?_;refine qn (d:=136) U8 (.bool (r3 e)) ?_ (λH=>?_)
 rotate_left
 . refine hj (j:=86) rfl rfl (λm=>?_) (λm=>?_)
   . have aCN:=bR m
     refine fx ?_;unfold r3 at H;exact kt H m m
   . have aCN:=bR m
     refine bz ?_;refine hj (j:=91) rfl rfl (λu8=>?_) (λu8=>?_)
     . have aCO:=bR u8
       refine bH ?_;unfold r3 at H;exact kt H m u8
     . have aCO:=bR u8
       refine bX ?_;refine hj (j:=94) rfl rfl (λIT=>?_) (λIT=>?_)
       . exact U9
       . exact U9
 refine qo (bd.cons (t:=175) rfl (bd.cons (t:=158) rfl (bd.cons (t:=140) rfl (bd.cons (t:=136) rfl Ax)))) ?_;refine a7 ?_;refine qn (d:=154) Va (.bool (uB e)) ?_ (λJ=>?_)
 rotate_left
 . refine hj (j:=104) rfl rfl (λy=>?_) (λy=>?_)
   . have aCP:=bR y
     refine fx ?_;unfold uB at J;exact kt J y y
   . have aCP:=bR y
     refine bz ?_;refine hj (j:=109) rfl rfl (λv2=>?_) (λv2=>?_)
     . have aCQ:=bR v2
       refine bH ?_;unfold uB at J;exact kt J y v2
     . have aCQ:=bR v2
       refine bX ?_;refine hj (j:=112) rfl rfl (λLz=>?_) (λLz=>?_)
       . exact Vb
       . exact Vb
 refine qo (bd.cons (t:=175) rfl (bd.cons (t:=158) rfl (bd.cons (t:=154) rfl Vc))) ?_;refine a7 ?_;refine qn (d:=171) Vd (.bool (uC br k.states e)) ?_ (λK=>?_)
 rotate_left
 . refine hj (j:=122) rfl rfl (λM=>?_) (λM=>?_)
   . have aCR:=bR M
     refine bF ?_;refine hj (j:=126) rfl rfl (λv6=>?_) (λv6=>?_)
     . have aCS:=bR v6
       refine bH ?_;unfold uC qs uD at K;exact kt K M v6
     . have aCS:=bR v6
       refine bF ?_;refine hj (j:=130) rfl rfl (λLE=>?_) (λLE=>?_)
       . exact Ve
       . exact Ve
   . have aCR:=bR M
     refine bH ?_;refine hj (j:=130) rfl rfl (λNm=>?_) (λNm=>?_)
     . exact Vf
     . exact Vf
 refine qo (bd.cons (t:=175) rfl (bd.cons (t:=171) rfl (bd.cons (t:=155) rfl Vc))) ?_;refine a7 ?_;refine qn (d:=184) [592,598,602,604] (.bool (ym e last)) ?_ (λGS=>?_)
 rotate_left
 . refine hj (j:=139) rfl rfl (λO=>?_) (λO=>?_)
   . have aCT:=bR O
     refine bH ?_;unfold ym at GS;exact kt GS O O
   . have aCT:=bR O
     refine bz ?_;refine hj (j:=144) rfl rfl (λNo=>?_) (λNo=>?_)
     . exact Vg
     . exact Vg
 refine qo (bd.cons (t:=184) rfl (bd.cons (t:=172) rfl (bd.cons (t:=155) rfl (bd.cons (t:=137) rfl (bd.cons (t:=119) rfl (bd.cons (t:=98) rfl (bd.cons (t:=81) rfl (bd.cons (t:=63) rfl (bd.cons (t:=45) rfl (bd.cons (t:=36) rfl (bd.cons (t:=35) rfl (bd.cons (t:=34) rfl (bd.cons (t:=33) rfl (bd.cons (t:=32) rfl (bd.cons (t:=31) rfl (bd.cons (t:=30) rfl (bd.cons (t:=29) rfl (bd.cons (t:=28) rfl (bd.cons (t:=27) rfl (bd.cons (t:=26) rfl (bd.cons (t:=25) rfl (bd.cons (t:=24) rfl (bd.cons (t:=23) rfl (bd.cons (t:=22) rfl (bd.cons (t:=21) rfl (bd.cons (t:=20) rfl (bd.cons (t:=19) rfl (bd.cons (t:=18) rfl (bd.cons (t:=17) rfl (bd.cons (t:=16) rfl (bd.cons (t:=15) rfl (bd.cons (t:=14) rfl (bd.cons (t:=13) rfl (bd.cons (t:=12) rfl (bd.cons (t:=11) rfl (bd.cons (t:=10) rfl (bd.cons (t:=9) rfl (bd.cons (t:=8) rfl (bd.cons (t:=6) rfl (bd.cons (t:=5) rfl (bd.cons (t:=4) rfl Vh))))))))))))))))))))))))))))))))))))))))) ?_;refine aG ?_;refine yl rfl .none rfl (qp (cs:=[(aB e,43),(aU e,43),(bB e,43),(c9 e,43),(fX e,43),(r3 e,43),(uB e,43),(uC br k.states e,42),(ym e last,44)].flatMap Al) rfl rfl rfl rfl) ?_;rintro _ _ ⟨aCU,rfl,rfl⟩;refine aG ?_;refine pR rfl .none rfl (b4 rfl (C4 [(aB e,43),(aU e,43),(bB e,43),(c9 e,43),(fX e,43),(r3 e,43),(uB e,43),(uC br k.states e,42),(ym e last,44)] aCU fW) bI) ?_;refine gP ?_;refine Ah ?_;exact aW ⟨rfl,rfl⟩
end Go.Proofs.YtnnhpnccfnghdaaGreat.C
