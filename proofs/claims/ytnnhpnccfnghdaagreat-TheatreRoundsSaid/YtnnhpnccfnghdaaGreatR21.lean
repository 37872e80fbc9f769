import Derived.Test.YtnnhpnccfnghdaaGreatR20
import Derived.Laws.IdiomCopy
import Derived.Shelf.Spec.SlicesInsert
import Derived.Shelf.Spec.SlicesInsertGrow
import Derived.Ground.Names2Prog
set_option linter.all false
set_option maxRecDepth 8000
set_option maxHeartbeats 24000000
namespace Go.Proofs.YtnnhpnccfnghdaaGreat.L.bH
open Go.Proofs.YtnnhpnccfnghdaaGreat.L
open Go.L Go.L.Ring Go.L.dq Go.L.dR Go.L.Whl Go.L.dA Go.L.Lx Go.L.Pg
open Go.L.Led (dg du dT bs av e8)
open Go.L.Th (bt cW c9 bX dt bR bU ev bW ao most dU cQ ff eD dM In cV c6 eE bx bM eF eG bk cG dw go bq Good eb eH dQ acc Inv eh er e3 busy cZ ek dN fa)
attribute[local irreducible] G cE GE cY GT b0 df c4 di Exit.then Exit.inBlock
def aBm(bL:Option Addr)(pc:Nat)(K:List b2)(a2:aq)(C:bt)(J:C.ok)(o:∀h,a2 h->hT h bL pc K)(qr:∀k∈K,lT k)(cO:K.length<=8)(ba:∀k∈K,K.find? (λx=>decide (x.name=k.name))=some k)(Pa:ad aa 55 Jp [a2] (aH (.nilIface) [a2]))(s:ao)(aj:Th.start C ni=some s):ad aa 28 [.agg (oT C).toArray,.agg #[.slice bL K.length pc]] [a2] (λu H=>∃(X:cN) (z:dn),X.C=C/\X.P=K.map dr/\bE X z s/\u=.tuple #[ptr X.h 0,.nilIface]/\H=a2::bl X z s):=by
 refine aw Tryz.func28 λF D=>?_;obtain⟨k,N,kt,lw,i4,g4,rfl⟩:=aBn aj;have R:=FN J;have ay:C.bG=2+C.bA.size+(3+2*C.iN):=rfl;have aV:C.gS=C.bG+C.aZ*C.aZ:=rfl;have bz:C.cells=C.gS+C.aZ*C.e7:=rfl;have dh:C.e7=2+(2+2*C.hW)+(2+2*C.fB):=rfl;have gT:C.fB=2*C.aZ+8:=rfl;have n6:=J.m1;have m7:=J.m64;have m4:=J.cr;have Pi:=J.hg;have hC:=J.aG;have pi:=J.bQ;have b:=J.h1;have aDW:=J.bu;have amh:=J.i1;have m8:=J.i64;have aE:=J.sY;have B:ad aa 59 [af C.a1,af C.eI,af C.aZ] [] (aH (af ((C.bA.size:Nat):Int)) []):=Yi 2 C.a1 C.eI C.aZ hC pi J.d1 J.d64 m4 Pi;have ami:ad aa 63 [af C.hW,af ((C.fB:Nat):Int)] [] (aH (af ((C.e7:Nat):Int)) []):=Po.ais ⟨n6,m7⟩ uF;haveI:gl (.slice bL K.length pc) a2 K.length (K.flatMap eK):=⟨λh=>(o _ h).rd.1⟩;have a6:jg ((C.cells:Nat):Int)=C.cells:=by have:=amV (C.cells:Int) ae;omega
 refine nY ?_;intro U Z;refine bQ ?_;refine ci rfl (b1 rfl ((by have bh:=agC (l4 C);rw[aBo J]at bh;exact bh)) bF) ?_;refine hb ?_;refine o5 ?_;refine lL ?_;refine bi ?_;refine aT (Pa) ?_;refine bi ?_;refine Q7 ?_;refine bb ?_;refine lL ?_;refine bb ?_;refine Dn (λact i=>∃(n p r ld da:Nat),hn Tryz.f28.ntmps [(2,ptr U 0),(3,ptr Z 0),(7,ptr n 0)] act/\dm F (ab n 108 (nh C e2 fP fP fP fP e2 p r ld da e2 e2 fP)::eB p pj::eB r pj::Lg.ds ld []::ez da C.dG []::ab U 23 (oT C)::ab Z 26 BO::a2::D) i) ?_ ?_
 . refine il [1,2,3,6,8] [1,2,3,6] [1,17,21,6,10,14,26,28,34,36,3,3,3,3,14,10,26,28,34,36,3,3,3,26,10,28,34,36,3,3,3,3,3,10,6,14,26,28,34,36,3,3,3,3,14,6,26,28,34,36,3,3,3,26,6,28,34,36,3,3,3,3,3,14,6,10,26,28,34,36,3,3,3,26,10,28,34,36,3,3,3,3,10,6,26,28,34,36,3,3,3,26,6,28,34,36,3,3,3,3,26,6,10,28,34,36,3,3,3,10,6,28,34,36] [ab U 23 (oT C)] ?_
   refine b6 ?_;refine fe ?_ ?_
   . refine wn λp=>?_
     refine aG ?_;refine fe ?_ ?_
     . refine wn λr=>?_
       exact ahd
     . refine br (Lg.Ic) ?_
       rintro _ _ ⟨ld,rfl,rfl⟩;refine et ?_;exact ae2
   . refine fe ?_ ?_
     . refine wn λr=>?_
       refine aG ?_;refine fe ?_ ?_
       . refine wn λp=>?_
         exact ahd
       . refine br (Lg.Ic) ?_
         rintro _ _ ⟨ld,rfl,rfl⟩;refine et ?_;exact ae1
     . refine br (Lg.Ic) ?_
       rintro _ _ ⟨ld,rfl,rfl⟩;refine et ?_;refine aG ?_;refine fe ?_ ?_
       . refine wn λp=>?_
         exact ae2
       . refine fe ?_ ?_
         . refine wn λr=>?_
           exact ae1
         . refine Ki ?_
           intro da;refine aG ?_;refine fe ?_ ?_
           . refine wn λp=>?_
             exact af9
           . refine wn λr=>?_
             exact af8
 . rintro act i ⟨n,p,r,ld,da,g0,st⟩
   refine Dp ?_ g0 st;clear g0 st act i;refine c8 ?_;refine gG (bv:=(Option Addr×Nat)×List b2) (λE=>E.2.map dr=(K.take E.2.length).map dr/\E.2.length<=K.length) (λE=>[(38,af E.2.length),(37,af K.length),(36,.slice bL K.length pc),(2,ptr U 0),(3,ptr Z 0),(7,ptr n 0)]) (λE=>own (.slice E.1.1 E.2.length E.1.2) 78 5 E.2.length (E.2.flatMap eK)::nU E.2::ab n 108 (nh C (.slice E.1.1 E.2.length E.1.2) (.pointer none) (.pointer none) (.pointer none) (.pointer none) (.slice none 0 0) p r ld da (.slice none 0 0) (.slice none 0 0) (.pointer none))::eB p (.map #[] 0)::eB r (.map #[] 0)::Lg.ds ld []::ez da C.dG []::ab U 23 (oT C)::ab Z 26 BO::a2::D) (λE=>K.length -E.2.length) ((none,0),[]) (⟨rfl,eX _⟩) dy (λh s=>iV h (aBp h ((au) h s))) ?_;rintro⟨⟨a,c⟩,I⟩ bC;obtain⟨aA,av⟩:I.map dr=(K.take I.length).map dr/\I.length<=K.length:=bC;dsimp only;refine bi ?_;refine cg (λW=>?_) (λW=>?_)
   . obtain⟨fd,i7⟩:∃fd,K[I.length]?=some fd:=⟨_,cz (show I.length<K.length by omega)⟩
     refine bi ?_;refine aB rfl (fI rfl rfl (show I.length<K.length by omega)) ?_;refine L9 ?_;refine wn λco=>?_;refine bQ ?_;refine ci rfl (b1 rfl (Va K bL pc fd.name fd ae (qr fd (js i7)) (ba fd (js i7)) a2 o) bF) ?_;rintro _ D ⟨_,⟨V,O,rfl,rfl⟩,rfl⟩;refine CT ?_;refine cu [7,8] [106,1,202,3,201] [ab n 108 aaL,ab co 78 (eK V)] ?_;refine bi ?_;refine go_v rfl .none rfl (zB (ce:=eK V) rfl rfl rfl) ?_;refine wn λaDX=>?_;refine aG ?_;refine gQ λu8 v2=>?_;rw[show I.length+1=(I++[V]).length from by simp,show I.flatMap eK++eK V=(I++[V]).flatMap eK from by simp];refine cv ?_;refine aB rfl (fk ((I.length+1:Nat):Int) eZ rfl rfl) ?_;refine bb ?_;refine fD ((u8,v2),(I++[V])) ⟨aBq aA i7 O,show(I++[V]).length<=K.length by rw[eL];show I.length+1<=_;omega⟩ (show K.length -(I++[V]).length<K.length -I.length by rw[eL];show K.length -(I.length+1)<_;omega) (bg.cons uV dy) (λh s=>by
      dsimp only;exact(show∀h,Sat _ h->Sat (own (.slice u8 (I++[V]).length v2) 78 5 (I++[V]).length ((I++[V]).flatMap eK)::nU (I++[V])::ab n 108 (nh C (.slice u8 (I++[V]).length v2) (.pointer none) (.pointer none) (.pointer none) (.pointer none) (.slice none 0 0) p r ld da (.slice none 0 0) (.slice none 0 0) (.pointer none))::eB p (.map #[] 0)::eB r (.map #[] 0)::Lg.ds ld []::ez da C.dG []::ab U 23 (oT C)::ab Z 26 [.slice bL K.length pc]::a2::D) h from(au)) h (aBr h ((show∀h,Sat _ h->Sat (gO V::nU I::own (.slice u8 (I++[V]).length v2) 78 5 (I++[V]).length ((I++[V]).flatMap eK)::ab n 108 (nh C (.slice u8 (I++[V]).length v2) (.pointer none) (.pointer none) (.pointer none) (.pointer none) (.slice none 0 0) p r ld da (.slice none 0 0) (.slice none 0 0) (.pointer none))::eB p (.map #[] 0)::eB r (.map #[] 0)::Lg.ds ld []::ez da C.dG []::ab U 23 (oT C)::ab Z 26 [.slice bL K.length pc]::a2::D) h from(au)) h s)))
   . have T:I.length=K.length:=by omega
     rw[T,nw]at aA;refine c8 ?_;refine aB rfl (fk ((C.fB:Nat):Int) eZ rfl rfl) ?_;refine bK ?_;refine cu [10] [104,6,201,2] aaK ?_;refine c8 ?_;refine aT (B) ?_;refine aG ?_;refine go_v rfl .none rfl (fk ((2+C.bA.size:Nat):Int) eZ rfl rfl) ?_;refine bK ?_;refine hU [4,8,15,18,21] [4,8,15,18] [(0,.bI),(1,.bI),(2,.loc),(3,.loc),(6,.bI),(7,.bI),(10,.bI),(11,.bI),(12,.bI),(13,.bI),(14,.bI),(4,.c5),(5,.bI),(8,.c5),(9,.bI),(15,.c5),(16,.loc),(17,.loc),(18,.c5),(19,.loc),(20,.loc),(21,.c5)] aaK mixed gB ?_;refine c0 ?_;refine aT (Ck.MO amh m8) ?_;refine aG ?_;refine go_vs rfl .none rfl (fk ((C.bG:Nat):Int) eZ rfl rfl) (au) ?_;refine aT (NQ C.aZ m4 Pi) ?_;refine aG ?_;refine go_vs rfl .none rfl (fk ((C.gS:Nat):Int) eZ rfl rfl) (au) ?_;refine aT (ami) ?_;refine aG ?_;refine go_v rfl .none rfl (rm ((C.aZ*C.e7:Nat):Int) (by rw[<-DJ];exact je (by omega)) rfl rfl) ?_;refine go_v rfl .none rfl (fk ((C.cells:Nat):Int) eZ rfl rfl) ?_;refine br (amW _) ?_;rintro _ _ ⟨m,rfl,rfl⟩;refine et ?_;rw[a6];refine cq ?_;refine cu [] [8,201] [] ?_;refine bQ ?_;refine go_c rfl .none rfl (b1 rfl (mR m (List.replicate C.cells 0) 0 1 (by rw[Vd];omega) 1) bF) ?_;refine hb ?_;refine fm ?_;rw[show(List.replicate C.cells (0:Int)).set 1 1=vK C from rfl];refine bK ?_;refine cu [15,21] Jr [] ?_;refine EI ?_;refine fW ?_;refine br (aBe J m _) ?_;rintro _ _ ⟨cX,t0,ol,rfl,rfl⟩;refine afN ?_;refine b6 ?_;refine aed ?_;refine br (aBf J m _) ?_;rintro _ _ ⟨dv,Y,hu,rfl,rfl⟩;refine af6 ?_;refine aT (Ck.MO amh m8) ?_;refine aB rfl (fk ((C.bG:Nat):Int) eZ rfl rfl) ?_;refine bK ?_;refine aed ?_;refine br (aBg J m _) ?_;rintro _ _ ⟨bG,t3,rfl,rfl⟩;refine af6 ?_;refine aT (NQ C.aZ m4 Pi) ?_;refine aB rfl (fk ((C.gS:Nat):Int) eZ rfl rfl) ?_;refine dC ?_;refine gG (bv:=(Option Addr×Nat)×List Po.nn×Int) (λE=>(∀x∈E.2.1,x.m=m)/\E.2.1.length<=C.aZ) (λE=>((169,af E.2.1.length)::(168,af C.aZ)::(11,af ((C.gS+E.2.1.length*C.e7:Nat):Int))::Qi)) (λE=>own (.slice E.1.1 E.2.1.length E.1.2) 116 1 E.2.1.length (E.2.1.map λx=>ptr x.bo 0)::ax (oy m C E.2.1)::ab n 108 (nh C y6 (ptr m 0) (ptr cX.c 0) (ptr dv.c 0) (ptr bG 0) (.slice E.1.1 E.2.1.length E.1.2) p r ld da e2 e2 fP)::ch m (jC C) E.2.2::own y6 78 5 I.length (I.flatMap eK)::nU I::eW Qo::eW Qj::eC bG m C.bG C.aZ::eB p pj::eB r pj::Lg.ds ld []::ez da C.dG []::ab U 23 (oT C)::ab Z 26 BO::a2::D) (λE=>C.aZ -E.2.1.length) ((none,0),[],_) (⟨qA,eX _⟩) ((bg.cons rfl (bg.cons rfl (bg.cons (show _=some (af ((C.gS+0*C.e7:Nat):Int)) by rw[Nat.zero_mul];rfl) dy)))) QA ?_;rintro⟨⟨d,e⟩,l,t⟩ bC;obtain⟨rg,i8⟩:(∀x∈l,x.m=m)/\l.length<=C.aZ:=bC;dsimp only;refine bi ?_;refine cg (λM=>?_) (λM=>?_)
     . have Nm:l.length*C.e7+C.e7<=C.aZ*C.e7:=by
        have:=pW C.e7 (show l.length+1<=C.aZ by omega);exact HB
       refine bB ?_;refine cu [] [8,201,5] [] ?_;refine bQ ?_;refine go_c rfl .none rfl (b1 rfl (aBh J m l.length ae t) bF) ?_;rintro _ D ⟨_,⟨x,t1,n6,rfl,rfl⟩,rfl⟩;refine fm ?_;refine oz ?_;refine wn λaDY=>?_;refine gQ λv6 wf=>?_;rw[show l.length+1=(l++[x]).length from by simp,show(l.map λx=>ptr x.bo 0)++[ptr x.bo 0]=(l++[x]).map λx=>ptr x.bo 0 from by simp];refine c8 ?_;refine aT (ami) ?_;refine aB rfl (fk ((C.gS+(l.length+1)*C.e7:Nat):Int) (by rw[nc,vj,je (by omega)];omega) rfl rfl) ?_;refine bB ?_;refine aB rfl (fk ((l.length+1:Nat):Int) eZ rfl rfl) ?_;refine bb ?_;refine fD ((v6,wf),(l++[x]),t1) ⟨λy ag=>(ky.1 ag).elim (rg y) (λag=>by simp at ag;subst ag;exact n6),show(l++[x]).length<=C.aZ by rw[eL];show l.length+1<=_;omega⟩ (show C.aZ -(l++[x]).length<C.aZ -l.length by rw[eL];show C.aZ -(l.length+1)<_;omega) (bg.cons uV (bg.cons rfl (bg.cons uV dy))) (λh s=>by
        dsimp only;rw[aBs];exact(show∀h,Sat _ h->Sat (own (.slice v6 (l++[x]).length wf) 116 1 (l++[x]).length ((l++[x]).map λx=>ptr x.bo 0)::ax (oy m C l++[zV m x (C.box (l++[x]).length)])::ab n 108 (nh C (.slice a I.length c) (ptr m 0) (ptr cX.c 0) (ptr dv.c 0) (ptr bG 0) (.slice v6 (l++[x]).length wf) p r ld da (.slice none 0 0) (.slice none 0 0) (.pointer none))::ch m (jC C) t1::own (.slice a I.length c) 78 5 I.length (I.flatMap eK)::nU I::eW [fS cX C.bA,cd cX C.bA,iR cX C.bA,eM cX C.bA,ax (lG cX C.bA)]::eW [Ck.gm dv C.dH,gb dv.r m (C.dH.b+1) C.dH.n,fJ dv.wp ⟨0,0,[]⟩]::eC bG m C.bG C.aZ::eB p (.map #[] 0)::eB r (.map #[] 0)::Lg.ds ld []::ez da C.dG []::ab U 23 (oT C)::ab Z 26 [.slice bL K.length pc]::a2::D) h from(au)) h (ty h ((show∀h,Sat _ h->Sat (zV m x (C.box (l++[x]).length)::ax (oy m C l)::own (.slice v6 (l++[x]).length wf) 116 1 (l++[x]).length ((l++[x]).map λx=>ptr x.bo 0)::ab n 108 (nh C (.slice a I.length c) (ptr m 0) (ptr cX.c 0) (ptr dv.c 0) (ptr bG 0) (.slice v6 (l++[x]).length wf) p r ld da (.slice none 0 0) (.slice none 0 0) (.pointer none))::ch m (jC C) t1::own (.slice a I.length c) 78 5 I.length (I.flatMap eK)::nU I::eW [fS cX C.bA,cd cX C.bA,iR cX C.bA,eM cX C.bA,ax (lG cX C.bA)]::eW [Ck.gm dv C.dH,gb dv.r m (C.dH.b+1) C.dH.n,fJ dv.wp ⟨0,0,[]⟩]::eC bG m C.bG C.aZ::eB p (.map #[] 0)::eB r (.map #[] 0)::Lg.ds ld []::ez da C.dG []::ab U 23 (oT C)::ab Z 26 [.slice bL K.length pc]::a2::D) h from(au)) h s)))
     . have aDh:l.length=C.aZ:=by omega
       refine fW ?_;refine gG (bv:=(Option Addr×Nat)×List Nat) (λE=>E.2.length<=C.a1) (λE=>((202,af E.2.length)::(201,af C.a1)::Qi)) (λE=>own Jq 106 1 E.2.length (E.2.map λq=>ptr q 0)::ax (mg n E.2)::ab n 108 (nh C y6 (ptr m 0) (ptr cX.c 0) (ptr dv.c 0) (ptr bG 0) JG p r ld da Jq e2 fP)::own JG 116 1 l.length (l.map λx=>ptr x.bo 0)::ax (oy m C l)::ch m (jC C) t::own y6 78 5 I.length (I.flatMap eK)::nU I::eW Qo::eW Qj::eC bG m C.bG C.aZ::eB p pj::eB r pj::Lg.ds ld []::ez da C.dG []::ab U 23 (oT C)::ab Z 26 BO::a2::D) (λE=>C.a1 -E.2.length) ((none,0),[]) (eX _) dy QA ?_;rintro⟨⟨f,g⟩,ws⟩ bC;replace bC:ws.length<=C.a1:=bC;dsimp only;refine bi ?_;refine cg (λL=>?_) (λL=>?_)
       . refine eJ ?_
         refine b6 ?_;refine aB rfl (kE (cs:=pB n (ws.length:Int)) rfl rfl) ?_;refine wn λw=>?_;refine wn λaDZ=>?_;refine JU ?_;rintro _ _ ⟨z2,Do,rfl,rfl⟩;rw[show ws.length+1=(ws++[w]).length from by simp,show(ws.map λq=>ptr q 0)++[ptr w 0]=(ws++[w]).map λq=>ptr q 0 from by simp];refine cq ?_;refine aB rfl (fk ((ws.length+1:Nat):Int) eZ rfl rfl) ?_;refine bb ?_;refine fD ((z2,Do),(ws++[w])) (show(ws++[w]).length<=C.a1 by rw[eL];show ws.length+1<=_;omega) (show C.a1 -(ws++[w]).length<C.a1 -ws.length by rw[eL];show C.a1 -(ws.length+1)<_;omega) (bg.cons uV dy) (λh s=>by
          dsimp only;rw[aBt];exact(show∀h,Sat _ h->Sat (own (.slice z2 (ws++[w]).length Do) 106 1 (ws++[w]).length ((ws++[w]).map λq=>ptr q 0)::ax (mg n ws++[ab w 128 (pB n (ws.length:Int))])::ab n 108 (nh C (.slice a I.length c) (ptr m 0) (ptr cX.c 0) (ptr dv.c 0) (ptr bG 0) (.slice d l.length e) p r ld da (.slice z2 (ws++[w]).length Do) (.slice none 0 0) (.pointer none))::own (.slice d l.length e) 116 1 l.length (l.map λx=>ptr x.bo 0)::ax (oy m C l)::ch m (jC C) t::own (.slice a I.length c) 78 5 I.length (I.flatMap eK)::nU I::eW [fS cX C.bA,cd cX C.bA,iR cX C.bA,eM cX C.bA,ax (lG cX C.bA)]::eW [Ck.gm dv C.dH,gb dv.r m (C.dH.b+1) C.dH.n,fJ dv.wp ⟨0,0,[]⟩]::eC bG m C.bG C.aZ::eB p (.map #[] 0)::eB r (.map #[] 0)::Lg.ds ld []::ez da C.dG []::ab U 23 (oT C)::ab Z 26 [.slice bL K.length pc]::a2::D) h from(au)) h (ty h ((show∀h,Sat _ h->Sat (ab w 128 (pB n (ws.length:Int))::ax (mg n ws)::own (.slice z2 (ws++[w]).length Do) 106 1 (ws++[w]).length ((ws++[w]).map λq=>ptr q 0)::ab n 108 (nh C (.slice a I.length c) (ptr m 0) (ptr cX.c 0) (ptr dv.c 0) (ptr bG 0) (.slice d l.length e) p r ld da (.slice z2 (ws++[w]).length Do) (.slice none 0 0) (.pointer none))::own (.slice d l.length e) 116 1 l.length (l.map λx=>ptr x.bo 0)::ax (oy m C l)::ch m (jC C) t::own (.slice a I.length c) 78 5 I.length (I.flatMap eK)::nU I::eW [fS cX C.bA,cd cX C.bA,iR cX C.bA,eM cX C.bA,ax (lG cX C.bA)]::eW [Ck.gm dv C.dH,gb dv.r m (C.dH.b+1) C.dH.n,fJ dv.wp ⟨0,0,[]⟩]::eC bG m C.bG C.aZ::eB p (.map #[] 0)::eB r (.map #[] 0)::Lg.ds ld []::ez da C.dG []::ab U 23 (oT C)::ab Z 26 [.slice bL K.length pc]::a2::D) h from(au)) h s)))
       . have m6:ws.length=C.a1:=by omega
         refine fW ?_;refine gG (bv:=(Option Addr×Nat)×List Nat) (λE=>E.2.length<=C.cB) (λE=>((221,af E.2.length)::(220,af C.cB)::Qi)) (λE=>own Jq 106 1 E.2.length (E.2.map λq=>ptr q 0)::ax (pC n E.2)::ab n 108 (nh C y6 (ptr m 0) (ptr cX.c 0) (ptr dv.c 0) (ptr bG 0) JG p r ld da (.slice f ws.length g) Jq fP)::own (.slice f ws.length g) 106 1 ws.length (ws.map λq=>ptr q 0)::ax (mg n ws)::own JG 116 1 l.length (l.map λx=>ptr x.bo 0)::ax (oy m C l)::ch m (jC C) t::own y6 78 5 I.length (I.flatMap eK)::nU I::eW Qo::eW Qj::eC bG m C.bG C.aZ::eB p pj::eB r pj::Lg.ds ld []::ez da C.dG []::ab U 23 (oT C)::ab Z 26 BO::a2::D) (λE=>C.cB -E.2.length) ((none,0),[]) (eX _) dy QA ?_;rintro⟨⟨u,v⟩,aj⟩ bC;replace bC:aj.length<=C.cB:=bC;dsimp only;refine bi ?_;refine cg (λfH=>?_) (λfH=>?_)
         . refine c0 ?_
           refine aB rfl (kE (cs:=pB n (-1)) rfl rfl) ?_;refine wn λi2=>?_;refine wn λaD0=>?_;refine JU ?_;rintro _ _ ⟨Eq,Fd,rfl,rfl⟩;rw[show aj.length+1=(aj++[i2]).length from by simp,show(aj.map λq=>ptr q 0)++[ptr i2 0]=(aj++[i2]).map λq=>ptr q 0 from by simp];refine cq ?_;refine aB rfl (fk ((aj.length+1:Nat):Int) eZ rfl rfl) ?_;refine bb ?_;refine fD ((Eq,Fd),(aj++[i2])) (show(aj++[i2]).length<=C.cB by rw[eL];show aj.length+1<=_;omega) (show C.cB -(aj++[i2]).length<C.cB -aj.length by rw[eL];show C.cB -(aj.length+1)<_;omega) (bg.cons uV dy) (λh s=>by
            dsimp only;rw[aBu];exact(show∀h,Sat _ h->Sat (own (.slice Eq (aj++[i2]).length Fd) 106 1 (aj++[i2]).length ((aj++[i2]).map λq=>ptr q 0)::ax (pC n aj++[ab i2 128 (pB n (-1))])::ab n 108 (nh C (.slice a I.length c) (ptr m 0) (ptr cX.c 0) (ptr dv.c 0) (ptr bG 0) (.slice d l.length e) p r ld da (.slice f ws.length g) (.slice Eq (aj++[i2]).length Fd) (.pointer none))::own (.slice f ws.length g) 106 1 ws.length (ws.map λq=>ptr q 0)::ax (mg n ws)::own (.slice d l.length e) 116 1 l.length (l.map λx=>ptr x.bo 0)::ax (oy m C l)::ch m (jC C) t::own (.slice a I.length c) 78 5 I.length (I.flatMap eK)::nU I::eW [fS cX C.bA,cd cX C.bA,iR cX C.bA,eM cX C.bA,ax (lG cX C.bA)]::eW [Ck.gm dv C.dH,gb dv.r m (C.dH.b+1) C.dH.n,fJ dv.wp ⟨0,0,[]⟩]::eC bG m C.bG C.aZ::eB p (.map #[] 0)::eB r (.map #[] 0)::Lg.ds ld []::ez da C.dG []::ab U 23 (oT C)::ab Z 26 [.slice bL K.length pc]::a2::D) h from(au)) h (ty h ((show∀h,Sat _ h->Sat (ab i2 128 (pB n (-1))::ax (pC n aj)::own (.slice Eq (aj++[i2]).length Fd) 106 1 (aj++[i2]).length ((aj++[i2]).map λq=>ptr q 0)::ab n 108 (nh C (.slice a I.length c) (ptr m 0) (ptr cX.c 0) (ptr dv.c 0) (ptr bG 0) (.slice d l.length e) p r ld da (.slice f ws.length g) (.slice Eq (aj++[i2]).length Fd) (.pointer none))::own (.slice f ws.length g) 106 1 ws.length (ws.map λq=>ptr q 0)::ax (mg n ws)::own (.slice d l.length e) 116 1 l.length (l.map λx=>ptr x.bo 0)::ax (oy m C l)::ch m (jC C) t::own (.slice a I.length c) 78 5 I.length (I.flatMap eK)::nU I::eW [fS cX C.bA,cd cX C.bA,iR cX C.bA,eM cX C.bA,ax (lG cX C.bA)]::eW [Ck.gm dv C.dH,gb dv.r m (C.dH.b+1) C.dH.n,fJ dv.wp ⟨0,0,[]⟩]::eC bG m C.bG C.aZ::eB p (.map #[] 0)::eB r (.map #[] 0)::Lg.ds ld []::ez da C.dG []::ab U 23 (oT C)::ab Z 26 [.slice bL K.length pc]::a2::D) h from(au)) h s)))
         . have GW:aj.length=C.cB:=by omega
           obtain⟨d6,m3⟩:∃d6,I[0]?=some d6:=⟨_,cz (alC aA lw)⟩;have i9:d6.name=k.name:=aBv aA lw m3;have aDi:0<I.length:=alC aA lw;refine cv ?_;refine aB rfl (kE (cs:=pB n (-1)) rfl rfl) ?_;refine wn λi5=>?_;refine fr ?_;refine aB rfl (fI rfl rfl aDi) ?_;refine aG ?_;refine aB rfl (gz rfl (show(I.flatMap eK)[0]?=some (S k.name) by rw[<-i9];have bh:=rT eK 5 Df (j:=0) m3 (v:=S d6.name) rfl;exact bh)) ?_;refine rp (λh s=>aBw (D:=a2::D) T aA ol hu rg aDh m6 GW cO h ((au) h s)) ?_;refine gh ?_;refine ci rfl (b1 rfl (aBl (FO C (K.map dr) n m cX dv bG l d e f g u v (ws++aj++[i5]) p r ld da a c) (Un t) (LF C) 1 k.name kt.name N kt (aBx ol hu rg) J (by show(K.map dr).length<=_;rw[oQ];omega) i4 (aBy qr i4) g4 rfl rfl (by show 1<=C.aZ;omega) (show(0:Nat)<1099511627776 by decide)) bF) ?_;rintro _ D ⟨_,⟨rfl,cj,d7,rfl⟩,rfl⟩;refine fm ?_;refine c0 ?_;exact aX ⟨(FO C ni n m cX dv bG l d e f g u v (ws++aj++[i5]) p r ld da a c),cj,rfl,rfl,d7,rfl,rfl⟩
end Go.Proofs.YtnnhpnccfnghdaaGreat.L.bH
namespace Go.Proofs.YtnnhpnccfnghdaaGreat.L
open Go.L Go.L.Lx
attribute[local irreducible] G cE GE cY GT b0 df c4 di Exit.then Exit.inBlock
attribute[local irreducible] wV Ii yX
section
variable(c:UInt8)
abbrev KF:Value:=.int .u8 c.toNat
def Rc{a b:Bool}(h:a=true↔b=true):Value.bool a=Value.bool b:=by rw[o4.2 h]
def Sm(r:cC):mS (c::r)=(wV c&&decide (mx yX (c::r)=(c::r).length)&&decide ((c::r).length<=16)):=rfl
def arP{l:cC}(h:16<l.length):mS l=false:=by
 cases l with
 |nil=>rfl
 |cons c r=>rw[Sm,mO (p:=(c::r).length<=16) ae,Bool.and_false]
def arN{c:UInt8}{r:cC}(h:wV c=false):mS (c::r)=false:=by rw[Sm,h];rfl
def arO{c:UInt8}{r:cC}(h:wV c=true)(h2:(c::r).length<=16):mS (c::r)=decide (((mx yX (c::r):Nat):Int)=((c::r).length:Nat)):=by
 rw[Sm,h,kM h2,kS,Bool.and_true,o4];simp only[kN];omega
def aia:ad aa 160 [KF c] [] (aH (.bool (wV c)) []):=by
 refine aw Tryz.func160 λF D=>?_;refine c8 ?_;refine hx rfl rfl (λW=>?_) (λW=>?_) rfl
 . have f:=bN W
   refine bQ ?_;exact adD
 . have f:=bN W
   simp only[jD];refine bi ?_;exact adD
def ats:ad aa 211 [KF c] [] (aH (.bool (Ii c)) []):=by
 refine aw Tryz.func211 λF D=>?_;refine c8 ?_;refine hx rfl rfl (λW=>?_) (λW=>?_) rfl
 . have f:=bN W
   refine bQ ?_;exact adB
 . have f:=bN W
   simp only[jD];refine bi ?_;exact adB
def att:ad aa 162 [KF c] [] (aH (.bool (yX c)) []):=by
 refine aw Tryz.func162 λF D=>?_;refine bQ ?_;refine aT (aia _) ?_;refine aG ?_;refine hx rfl rfl (λW=>?_) (λW=>?_) rfl
 . have f:=bN W
   refine bb ?_;refine aT (ats _) ?_;refine bb ?_;refine hx rfl rfl (λM=>?_) (λM=>?_) rfl
   . have q:=bN M
     refine bQ ?_;exact Re
   . have q:=bN M
     simp only[jD];refine bi ?_;exact Re
 . have f:=bN W
   simp only[jD];refine c8 ?_;exact Re
def atu(q:UInt8->Bool)(Z:FuncId)(hZ:∀c,ad aa Z [KF c] [] (aH (.bool (q c)) []))(l:cC)(av:l.length<=9223372036854775807)(fz:e0 aa Z:=by exact fc):ad aa 161 [S l,.func (.func Z) #[] #[]] [] (aH (af (mx q l)) []):=by
 refine aw Tryz.func161 λF D=>?_;refine dC ?_;refine gG (bv:=Nat) (λx=>x<=l.length/\mx q l=x+mx q (l.drop x)) (λx=>[(5,af x),(0,S l),(1,.func (.func Z) #[] #[])]) (λ_=>D) (λx=>l.length -x) 0 (⟨eX _,by rw[List.drop_zero,lu]⟩) dy (au) ?_;rintro x ⟨ah,aj⟩;replace ah:x<=l.length:=ah;replace aj:mx q l=x+mx q (l.drop x):=aj;refine bB ?_;refine aB rfl (Sn rfl) ?_;refine bb ?_;refine hx rfl rfl (λW=>?_) (λW=>?_) rfl
 . have f:=bN W
   refine bi ?_;obtain⟨c,aF⟩:∃c,l[x]?=some c:=⟨_,cz (show x<l.length by omega)⟩;refine aB rfl (aib rfl rfl (aF)) ?_;refine aG ?_;refine aT (hZ c) ?_;refine b6 ?_;refine cg (λM=>?_) (λM=>?_)
   . refine bB ?_
     refine aB rfl (fk (((x+1:Nat):Int)) eZ rfl rfl) ?_;refine b6 ?_;have bm:q c=true:=ZO;refine fD (x+1) ⟨show x+1<=l.length by omega,show mx q l=x+1+mx q (l.drop (x+1)) by rw[aj,ard aF bm];omega⟩ (show l.length -(x+1)<l.length -x by omega) dy (au)
   . refine fr ?_
     exact adw
 . have f:=bN W
   simp only[jD];refine gg ?_;refine aG ?_;exact adw
def C9(l:cC)(av:l.length<=9223372036854775807):ad aa 92 [S l] [] (aH (.bool (mS l)) []):=by
 refine aw Tryz.func92 λF D=>?_;refine bQ ?_;refine aB rfl wg ?_;refine aG ?_;refine hx rfl rfl (λW=>?_) (λW=>?_) rfl
 . have f:=bN W
   refine bb ?_;refine aB rfl (Sn rfl) ?_;refine bK ?_;refine hx rfl rfl (λM=>?_) (λM=>?_) rfl
   . have q:=bN M
     refine bb ?_;obtain⟨c,r,rfl⟩:∃c r,l=c::r:=by
      cases l with
      |nil=>simp at*
      |cons c r=>exact⟨c,r,rfl⟩
     refine aB rfl (aib rfl rfl (rfl)) ?_;refine aG ?_;refine aT (aia _) ?_;refine bb ?_;refine hx rfl rfl (λL=>?_) (λL=>?_) rfl
     . have X:=bN L
       refine bb ?_;refine ci rfl (b1 rfl (atu yX 162 (λc=>att c) (_) (by simp only[iE,vU]at*;omega)) bF) ?_;refine hb ?_;refine o5 ?_;refine aB rfl (Sn rfl) ?_;refine bQ ?_;exact JV
     . have X:=bN L
       simp only[jD];refine c8 ?_;exact JV
   . have q:=bN M
     simp only[jD];refine eJ ?_;exact JV
 . have f:=bN W
   simp only[jD];refine gg ?_;exact JV
end
end Go.Proofs.YtnnhpnccfnghdaaGreat.L
namespace Go.L
section
variable{F w:World}{D:List aq}
section
variable{b j:Nat}{e:TypeId}{l:List Value}
def dm.setCells{b:Nat}{e:TypeId}:∀(ce l:List Value) (o:Nat) (w:World),dm F (ab b e l::D) w->dm F (ab b e (kD l o ce)::D) (w.setCells b o ce)
 |[],l,o,w,s=>by simpa[kD,World.setCells]using s
 |
  v::ce,l,o,w,s=>by
  have s1:=s.setCell (b:=b) (bO:=o) (l:=l) v;simpa[kD,World.setCells]using dm.setCells ce (l.set o v) (o+1) _ s1
def GG(s:dm F (ab b e l::D) w){v:Value}(h:l[j]?=some v):w.cell? ⟨b,j,none⟩=some v:=by
 have aA:w.heap[b]?=_:=s.heap (b:=b);simp[World.cell?,aA,h]
def GH(s:dm F (ab b e l::D) w):w.frozen? ⟨b,j,none⟩=false:=by
 have aA:w.heap[b]?=_:=s.heap (b:=b);simp[World.frozen?,aA]
def Wc(s:dm F (ab b e l::D) w):w.shape? b=some (e,l.length):=by
 have aA:w.heap[b]?=_:=s.heap (b:=b);simp[World.shape?,aA]
def anB{h:eA}{b b5 C:Nat}{e:TypeId}{cs rest:List Value}(B:cs.length=b5)(aE:rest.length=C -b5)(I:b5<=C)(bf:C<=maxLen)(cl:h b=some (.cells (cs++rest).toArray e (0,0))):oh h (.slice j0 b5 C) e 1 b5 cs:=
 ⟨by omega,.inr ⟨b,C,rest,rfl,by rw[eL];omega,I,bf,cl⟩⟩
def aqN(n:Nat):(Builtin.zeroCells (Value.int .i64 0).cells n).toList.length=n:=by simp[Builtin.zeroCells,Value.cells]
end
end
end Go.L
namespace Go.Proofs
open Go.Shelf
def Tryz.ama:Go.Shelf.Ren:=⟨fun|21=>219|27=>271|28=>272|35=>325|39=>376|n=>n,fun|22=>39|3=>3|4=>4|0=>0|n=>n,fun|n=>n⟩
def Tryz.F5:Go.Proofs.Lays2.n21 Tryz.prog Tryz.ama:={
 mixed:=by kernel_rfl
 f21:=Tryz.func219.trans (congrArg some (by kernel_rfl))
 f27:=Tryz.func271.trans (congrArg some (by kernel_rfl))
 f28:=Tryz.func272.trans (congrArg some (by kernel_rfl))
 f35:=Tryz.func325.trans (congrArg some (by kernel_rfl))
 f39:=Tryz.func376.trans (congrArg some (by kernel_rfl))
 t0:=Tryz.underlying0
 a0:=Tryz.isAgg0
 z0:=Tryz.sizeOf0
 v0:=Tryz.zeroValue0
 t3:=Tryz.underlying3
 a3:=Tryz.isAgg3
 z3:=Tryz.sizeOf3
 v3:=Tryz.zeroValue3
 t4:=Tryz.underlying4
 a4:=Tryz.isAgg4
 z4:=Tryz.sizeOf4
 v4:=Tryz.zeroValue4
 t22:=Tryz.underlying39
 a22:=Tryz.isAgg39
 z22:=Tryz.sizeOf39
 v22:=Tryz.zeroValue39
 i3:=by kernel_rfl}
end Go.Proofs
namespace Go.Proofs.YtnnhpnccfnghdaaGreat.C
open Go.Proofs.YtnnhpnccfnghdaaGreat.L Go.L Go.L.Lx
attribute[local irreducible] G cE GE cY GT b0 df c4 di Exit.then Exit.inBlock
section
variable(a:Option Addr)(c:Nat)(xs:List Int)
abbrev o3:aq:=own (.slice a xs.length c) 3 1 xs.length (xs.map af)
def Wa:∀v∈xs.map af,v.oneCell'=true:=λv Y=>by obtain⟨x,_,rfl⟩:=lU.1 Y;rfl
def anb(y:Int)(i:Nat)(aM:xs.length<=1000):ad aa 219 [.slice a xs.length c,af 0,.slice (some ⟨i,0,none⟩) 1 1] [o3 a c xs,ab i 3 [af y]]
 (λu H=>∃aI aQ,u=.slice aI (xs.length+1) aQ/\H=[o3 aI aQ (y::xs)]):=by
 intro F D w s;simp only[cp,cm]at s;have l:∀j v,[af y][j]?=some v->w.cell? ⟨i,0+j,none⟩=some v:=λj v N=>by
  rw[lu];exact GG (s.imp λ_=>Sat.drop) N
 have m:∀v∈[af y],v.oneCell'=true:=λv Y=>by simp at Y;subst Y;rfl
 have fin:∀{X:World} {b C:Nat} {rest:List Value},rest.length=C -(xs.length+1)->xs.length+1<=C->C<=maxLen->dm F (ab b 3 ((y::xs).map af++rest)::D) X->dm F ([o3 (some ⟨b,0,none⟩) C (y::xs)]++D) X:=λaE I bf aD=>
  aD.imp λ_=>Sat.head λh cl=>anB ga aE I bf cl
 obtain⟨h1,h2,d,gr,⟨av,Y⟩,K⟩:=s.e4;rcases Y with⟨t,o⟩|⟨b,C,dx,Y,cd,ir,eM,f⟩
 . obtain rfl:xs=[]:=rY o
   simp only[Value.slice.injEq]at t;obtain⟨rfl,_,rfl⟩:=t;refine(Any2.slices_Insert_int_end_grow Tryz.F5 none 0 0 i 0 1 1 [] [af y] w bJ bJ bJ bJ rfl rfl (λ_=>rfl) (λa h=>by cases h) l m).mono λ_ X ⟨V,O⟩=>?_;exact Wb
 . simp only[Value.slice.injEq]at Y
   obtain⟨rfl,_,rfl⟩:=Y;have s1:dm F (ab b 3 (xs.map af++dx)::ab i 3 [af y]::D) w:=⟨s.os,s.tape,s.output,s.size,h1,h2,d,gr,f,K⟩;have bP:dm F (ab b 3 (xs.map af++dx)::D) w:=s1.imp λ_=>Sat.tail λ_=>Sat.drop;have i8:(xs.map af).length=xs.length:=ga;rw[uu,eL,i8]at cd;have U:i≠b:=by
    rintro rfl;obtain⟨W,Z,p,q,hf,J⟩:=s1.e4;obtain⟨d8,gc,R,rfl,ed,_⟩:=J;rcases(rR.1 p).1 i with h|h
    . have z:W i=some _:=hf;rw[h]at z;cases z
    . have A:d8 i=some _:=ed;rw[h]at A;cases A
   by_cases bh:xs=[]
   . subst bh
     simp only[lp,mT,cm]at*;by_cases n:1<=c
     . refine(Any2.slices_Insert_int_end_room Tryz.F5 b 0 0 c i 0 1 1 [af y] w bJ ae (by unfold maxLen at eM;omega) rfl (λj N=>?_) (λj N=>GH bP) l m).mono λ_ X ⟨V,O⟩=>?_
       . obtain⟨v,Y⟩:∃v,dx[0+0+j]?=some v:=⟨_,cz ae⟩
         rw[GG bP Y];rfl
       . refine GI ?_
         have bZ:=bP.setCells [af y] dx 0;rw[tl _ _ _ h5]at bZ;refine fin (rest:=dx.drop 1) h5 (by simpa using n) eM ?_;simpa using bZ
     . obtain rfl:c=0:=by omega
       refine(Any2.slices_Insert_int_end_grow Tryz.F5 (some ⟨b,0,none⟩) 0 0 i 0 1 1 [] [af y] w bJ bJ bJ bJ rfl rfl (λ_=>rfl) (λa h j v N=>by simp at N) l m).mono λ_ X ⟨V,O⟩=>?_;exact Wb
   . have E:0<xs.length:=List.length_pos_iff.2 bh
     have B:∀j v,(xs.map af)[j]?=some v->w.cell? ⟨b,0+j,none⟩=some v:=λj v N=>by
      have dV:=(dc.1 N).1;rw[lu];exact GG bP (by rw[k1 dV];exact N)
     by_cases n:xs.length+1<=c
     . refine(Any2.slices_Insert_int_shift Tryz.F5 b 0 xs.length c 0 i 0 1 1 (xs.map af) [af y] w E bJ n (by unfold maxLen at eM;omega) U i8 rfl B (λj N=>?_) (λj N=>GH bP) l (Wa xs) m
        3 3 1 (xs.map af++dx).length (Wc (s1.imp λ_=>Sat.drop)) (Wc bP) MA (GH (s1.imp λ_=>Sat.drop)) (GH (s1.imp λ_=>Sat.drop))).mono λ_ X ⟨V,O⟩=>?_
       . obtain⟨v,Y⟩:∃v,(xs.map af++dx)[0+j]?=some v:=⟨_,cz MA⟩
         rw[lu]at Y⊢;rw[GG bP Y];rfl
       . refine GI ?_
         have bZ:=(bP.drew.setCells (xs.map af) _ 1).setCells [af y] _ 0;rw[tl (xs.map af) _ 1 MA,tl [af y] _ 0 h5]at bZ;refine fin (rest:=dx.drop 1) h5 n eM ?_;have e:List.take 0 (List.take 1 (xs.map af++dx)++xs.map af++List.drop (1+(xs.map af).length) (xs.map af++dx))++[af y]++List.drop (0+[af y].length) (List.take 1 (xs.map af++dx)++xs.map af++List.drop (1+(xs.map af).length) (xs.map af++dx))=(y::xs).map af++dx.drop 1:=by
          rw[MB 1,<-GJ,List.drop_left];obtain⟨x,r,rfl⟩:∃x r,xs=x::r:=by cases xs with
           |nil=>exact absurd rfl bh
           |cons x r=>exact⟨x,r,rfl⟩
          simp
         rw[e]at bZ;simpa using bZ
     . refine(Any2.slices_Insert_int_grow Tryz.F5 b 0 xs.length c 0 i 0 1 1 (xs.map af) [af y] w E bJ ir ae ae i8 rfl B l (Wa xs) m).mono λ_ X ⟨V,O⟩=>?_
       simp only[show Tryz.ama.t 3=3 from rfl]at V O;refine GI ?_;have I:=grownCap_ge w (xs.length+1) c 3;have L:=grownCap_le_maxLen w (xs.length+1) c 3 AG
       generalize grownCap w (xs.length+1) c 3=C at*
       obtain⟨g,M,S⟩:∃g:List Value,(((xs.map af).take 0).toArray++Builtin.zeroCells (Value.int .i64 0).cells (xs.length+1 -0)++Builtin.zeroCells (Value.int .i64 0).cells (C -(xs.length+1)))=g.toArray/\g.length=C:=
        ⟨(((xs.map af).take 0).toArray++Builtin.zeroCells (Value.int .i64 0).cells (xs.length+1 -0)++Builtin.zeroCells (Value.int .i64 0).cells (C -(xs.length+1))).toList,by simp,by simp[Builtin.zeroCells,Value.cells];omega⟩
       rw[M];have bZ:=(((s.imp λ_ h=>h.drop.drop).new (.cells g.toArray 3 (0,0))).drew.setCells [af y] g 0).drew.setCells (xs.map af) _ 1;rw[tl [af y] _ 0 h5,tl (xs.map af) _ 1 (by rw[eL,eL,n0,vU,i8];simp;omega)]at bZ;refine fin (rest:=g.drop (xs.length+1)) h5 I L ?_;have e:List.take 1 (List.take 0 g++[af y]++List.drop (0+[af y].length) g)++xs.map af++List.drop (1+(xs.map af).length) (List.take 0 g++[af y]++List.drop (0+[af y].length) g)=(y::xs).map af++g.drop (xs.length+1):=by
        simp[MB]
       rw[e]at bZ;exact bZ
end
end Go.Proofs.YtnnhpnccfnghdaaGreat.C
namespace Go.Proofs.YtnnhpnccfnghdaaGreat.C
open Go.Proofs.YtnnhpnccfnghdaaGreat.L Go.L Go.L.Lx Go.L.Pg
attribute[local irreducible] G cE GE cY GT b0 df c4 di Exit.then Exit.inBlock
section
variable(x:Bool×Int)(L:List mj){D:List aq}(a:Option Addr)(c:Nat)(Z:FuncId)(z:List Value)(I:List aq)(q:mj->Bool)
def Ar:List Value:=[.bool x.1,af x.2]
def am1:(Ar x).length=2:=rfl
abbrev BT:TypeId:=134
abbrev Mi(b:Nat):Value:=.iface 131 (ptr b 0)
def qe:lq->List aq->Value->List aq->Prop
 |none,I,u,H=>u=.pointer none/\H=I
 |some (c,ws),I,u,H=>∃b a p,u=ptr b 0/\H=ab b BT [af c,.slice a ws.length p]::o3 a p ws::I
def Mj:lq->List aq->Value->List aq->Prop
 |none,I,u,H=>u=.nilIface/\H=I
 |some (c,ws),I,u,H=>∃b a p,u=Mi b/\H=ab b BT [af c,.slice a ws.length p]::o3 a p ws::I
def us{D:List aq}:∀{I:List aq},Part I (I++D) D
 |[]=>.nil
 |_::I=>.cons .head (us (I:=I))
theorem CZ{I D:List aq}{v:Value}{n:Nat}{xs:List Value}(aE:∀h,Sat I h->gI h v n xs):iW v (I++D) n xs:=⟨λs=>by
 obtain⟨h1,h2,d,e,a,_⟩:=Sat.split s;rw[e];exact(aE _ a).more⟩
def Vh:∀h,Sat D h->Sat (o3 none 0 []::D) h:=iV
def Vi{L:List (Bool×Int)}{x:Nat}{t:Bool×Int}(h:L[x]?=some t):oC (L.drop x)=if t.1 then t.2 else oC (L.drop (x+1)):=by
 obtain⟨N,e⟩:=dc.1 h;rw[ta N,e];cases t;rfl
def Vj{D:Nat->lq}{i n:Nat}(h:i<n):fst D i (n -i)=As i (D i) (fst D (i+1) (n -(i+1))):=by
 obtain⟨k,hk⟩:∃k,n -i=k+1:=⟨n -i -1,by omega⟩;rw[hk,show n -(i+1)=k by omega];rfl
def any_none{α:Type}{L:List α}{q:α->Bool}{x:Nat}{t:α}(h:L[x]?=some t)(h1:(L.take x).any q=false)(h2:q t=false):(L.take (x+1)).any q=false:=by
 exact Vk
def Gm{a b:Bool}(h:a=b):Value.bool a=Value.bool b:=by rw[h]
attribute[local irreducible] mS
theorem am2(aM:L.length<=9223372036854775807)(aE:∀h,Sat I h->gI h kL L.length (L.flatMap jN))
 (hp:∀x∈L,ad aa Z Gn I lr)(fz:e0 aa Z:=by exact fc):ad aa 220 oD I (λu H=>∃r:Int,C0/\u=af r/\H=I):=by
 refine aw Tryz.func220 λF D=>?_;haveI:=CZ (D:=D) aE;refine rW ?_;intro x ah bm;replace ah:x<=L.length:=ah;replace bm:(L.take x).any q=false:=bm;refine bi ?_;refine cg (λW=>?_) (λW=>?_)
 . obtain⟨t,R⟩:∃t,L[x]?=some t:=⟨_,cz (show x<L.length by omega)⟩
   refine Vl ?_;exact C1
 . exact C2
theorem Vm(aM:L.length<=9223372036854775807)(aE:∀h,Sat I h->gI h kL L.length (L.flatMap jN))
 (hp:∀x∈L,ad aa Z Gn I lr)(fz:e0 aa Z:=by exact fc):ad aa 170 oD I C3:=by
 refine aw Tryz.func170 λF D=>?_;refine cv ?_;refine ci rfl (b1 rfl (am2 L a c Z z I q aM aE hp) us) ?_;exact C4
end
section
variable(L:List b2)(a:Option Addr)(c:Nat)(Z:FuncId)(z:List Value)(I:List aq)(q:b2->Bool)
theorem am3(aM:L.length<=9223372036854775807)(aE:∀h,Sat I h->gI h kL L.length (L.flatMap eK))
 (hp:∀x∈L,ad aa Z Gp I lr)(fz:e0 aa Z:=by exact fc):ad aa 100 oD I (λu H=>∃r:Int,C0/\u=af r/\H=I):=by
 refine aw Tryz.func100 λF D=>?_;haveI:=CZ (D:=D) aE;refine rW ?_;intro x ah bm;replace ah:x<=L.length:=ah;replace bm:(L.take x).any q=false:=bm;refine bi ?_;refine cg (λW=>?_) (λW=>?_)
 . obtain⟨t,R⟩:∃t,L[x]?=some t:=⟨_,cz (show x<L.length by omega)⟩
   refine Vn ?_;exact C1
 . exact C2
theorem Vo(aM:L.length<=9223372036854775807)(aE:∀h,Sat I h->gI h kL L.length (L.flatMap eK))
 (hp:∀x∈L,ad aa Z Gp I lr)(fz:e0 aa Z:=by exact fc):ad aa 174 oD I C3:=by
 refine aw Tryz.func174 λF D=>?_;refine cv ?_;refine ci rfl (b1 rfl (am3 L a c Z z I q aM aE hp) us) ?_;exact C4
end
section
variable(L:List fN)(a:Option Addr)(c:Nat)(Z:FuncId)(z:List Value)(I:List aq)(q:fN->Bool)
theorem am4(aM:L.length<=9223372036854775807)(aE:∀h,Sat I h->gI h kL L.length (L.flatMap gy))
 (hp:∀x∈L,ad aa Z Gq I lr)(fz:e0 aa Z:=by exact fc):ad aa 273 oD I (λu H=>∃r:Int,C0/\u=af r/\H=I):=by
 refine aw Tryz.func273 λF D=>?_;haveI:=CZ (D:=D) aE;refine rW ?_;intro x ah bm;replace ah:x<=L.length:=ah;replace bm:(L.take x).any q=false:=bm;refine bi ?_;refine cg (λW=>?_) (λW=>?_)
 . obtain⟨t,R⟩:∃t,L[x]?=some t:=⟨_,cz (show x<L.length by omega)⟩
   refine Vp ?_;exact C1
 . exact C2
theorem Vq(aM:L.length<=9223372036854775807)(aE:∀h,Sat I h->gI h kL L.length (L.flatMap gy))
 (hp:∀x∈L,ad aa Z Gq I lr)(fz:e0 aa Z:=by exact fc):ad aa 221 oD I C3:=by
 refine aw Tryz.func221 λF D=>?_;refine cv ?_;refine ci rfl (b1 rfl (am4 L a c Z z I q aM aE hp) us) ?_;exact C4
end
section
variable(L:List fv)(a:Option Addr)(c:Nat)(Z:FuncId)(z:List Value)(I:List aq)(q:fv->Bool)
theorem am5(aM:L.length<=9223372036854775807)(aE:∀h,Sat I h->gI h kL L.length (L.flatMap fO))
 (hp:∀x∈L,ad aa Z ([.agg (fO x).toArray]++z) I lr)(fz:e0 aa Z:=by exact fc):ad aa 326 oD I (λu H=>∃r:Int,C0/\u=af r/\H=I):=by
 refine aw Tryz.func326 λF D=>?_;haveI:=CZ (D:=D) aE;refine rW ?_;intro x ah bm;replace ah:x<=L.length:=ah;replace bm:(L.take x).any q=false:=bm;refine bi ?_;refine cg (λW=>?_) (λW=>?_)
 . obtain⟨t,R⟩:∃t,L[x]?=some t:=⟨_,cz (show x<L.length by omega)⟩
   refine yf ?_;refine aB rfl (kv rfl (kw fO 7 x3 R) rfl) ?_;exact C1
 . exact C2
theorem am6(aM:L.length<=9223372036854775807)(aE:∀h,Sat I h->gI h kL L.length (L.flatMap fO))
 (hp:∀x∈L,ad aa Z ([.agg (fO x).toArray]++z) I lr)(fz:e0 aa Z:=by exact fc):ad aa 274 oD I C3:=by
 refine aw Tryz.func274 λF D=>?_;refine cv ?_;refine ci rfl (b1 rfl (am5 L a c Z z I q aM aE hp) us) ?_;exact C4
end
section
variable(L:List Row)(a:Option Addr)(c:Nat)(Z:FuncId)(z:List Value)(I:List aq)(q:Row->Bool)
theorem am7(aM:L.length<=9223372036854775807)(aE:∀h,Sat I h->gI h kL L.length (L.flatMap hs))
 (hp:∀x∈L,ad aa Z Gr I lr)(fz:e0 aa Z:=by exact fc):ad aa 327 oD I (λu H=>∃r:Int,C0/\u=af r/\H=I):=by
 refine aw Tryz.func327 λF D=>?_;haveI:=CZ (D:=D) aE;refine rW ?_;intro x ah bm;replace ah:x<=L.length:=ah;replace bm:(L.take x).any q=false:=bm;refine bi ?_;refine cg (λW=>?_) (λW=>?_)
 . obtain⟨t,R⟩:∃t,L[x]?=some t:=⟨_,cz (show x<L.length by omega)⟩
   refine Vr ?_;exact C1
 . exact C2
theorem am8(aM:L.length<=9223372036854775807)(aE:∀h,Sat I h->gI h kL L.length (L.flatMap hs))
 (hp:∀x∈L,ad aa Z Gr I lr)(fz:e0 aa Z:=by exact fc):ad aa 276 oD I C3:=by
 refine aw Tryz.func276 λF D=>?_;refine cv ?_;refine ci rfl (b1 rfl (am7 L a c Z z I q aM aE hp) us) ?_;exact C4
end
section
variable{P:Program}{Z:FuncId}{args:List Value}{I:List aq}{r:lq}{c:Int}{ws:List Int}
def C5(L:List (Bool×Int))(b:Nat)(K:L.length<=100):ad aa 96 [.slice j0 L.length L.length] [ab b 191 (L.flatMap Ar)] (aH (af (oC L)) [ab b 191 (L.flatMap Ar)]):=by
 refine aw Tryz.func96 λF D=>?_;refine fW ?_;refine gG (bv:=Nat) (λx=>x<=L.length/\oC L=oC (L.drop x)) (λx=>[(7,af x),(6,af L.length),(5,.slice j0 L.length L.length)]) (λ_=>ab b 191 (L.flatMap Ar)::D) (λx=>L.length -x) 0 (⟨eX _,rfl⟩) dy (au) ?_;rintro x ⟨ah,bm⟩;replace ah:x<=L.length:=ah;replace bm:oC L=oC (L.drop x):=bm;refine bi ?_;refine cg (λW=>?_) (λW=>?_)
 . obtain⟨t,R⟩:∃t,L[x]?=some t:=⟨_,cz (show x<L.length by omega)⟩
   refine bi ?_;refine aB rfl (fI rfl rfl (show x<L.length by omega)) ?_;refine aB rfl (kv rfl (kw Ar 2 am1 R) rfl) ?_;refine wn λaO=>?_;refine cv ?_;refine cg (λM=>?_) (λM=>?_)
   . refine fW ?_
     exact aX ⟨by rw[bm,Vi R,bd M],rfl⟩
   . refine C6 ?_
     refine fD (x+1) ⟨show x+1<=L.length by omega,by rw[bm,Vi R,a8 (by rw[M];decide)]⟩ (show L.length -(x+1)<L.length -x by omega) dy (au)
 . obtain rfl:x=L.length:=by omega
   rw[U9]at bm;refine dC ?_;exact aX ⟨by rw[bm];rfl,rfl⟩
def am9(i:Int):ad aa 169 [af i,.pointer none] [] (aH fP []):=by
 refine aw Tryz.func169 λF D=>?_;refine gg ?_;exact vY
def ana(i b:Nat)(a:Option Addr)(p:Nat)(c:Int)(ws:List Int)(O:ws.length<=10)(ak:i<9223372036854775807):ad aa 169 [af i,ptr b 0] [ab b BT [af c,.slice a ws.length p],o3 a p ws] (λu H=>∃aI e,u=ptr b 0/\H=[ab b BT [af c,.slice aI (ws.length+1) e],o3 aI e (((i+1:Nat):Int)::ws)]):=by
 refine aw Tryz.func169 λF D=>?_;refine gg ?_;refine Au ?_;refine wn λd=>?_;refine ci rfl (b1 rfl (anb a p ws ((i+1:Nat):Int) d ae) bF) ?_;rintro _ D ⟨_,⟨aI,e,rfl,rfl⟩,rfl⟩;refine fm ?_;refine fr ?_;exact aX ⟨_,_,rfl,rfl⟩
def vZ(h:ad P Z args I (qe r I))(e:r=none):ad P Z args I (aH fP I):=by subst e;exact h
def v7(h:ad P Z args I (qe r I))(e:r=some (c,ws)):ad P Z args I (λu H=>∃b a p,u=ptr b 0/\H=ab b BT [af c,.slice a ws.length p]::o3 a p ws::I):=by subst e;exact h
def Mk(e:r=some (c,ws)){I:List aq}{b:Nat}{a:Option Addr}{p:Nat}:qe r I (ptr b 0) (ab b BT [af c,.slice a ws.length p]::o3 a p ws::I):=by subst e;exact⟨_,_,_,rfl,rfl⟩
def Vs(e:r=none){I:List aq}:qe r I fP I:=by subst e;exact dI
theorem v8(own:Int)(n:Nat)(aM:n<=9223372036854775807)(Z:FuncId)(z:List Value)(I:List aq)(d:Nat->lq)(av:∀i c ws,d i=some (c,ws)->ws.length<=10)
 (hp:∀i,i<n->ad aa Z ([af i]++z) I (qe (d i) I))(fz:e0 aa Z:=by exact fc):ad aa 97 [af own,af n,.func (.func Z) #[] z.toArray] I (qe (ml own n d) I):=by
 refine aw Tryz.func97 λF D=>?_;refine dC ?_;refine cg (λW=>?_) (λW=>?_)
 . have O:ml own n d=some (own,[]):=by unfold ml;rw[a8 ae]
   refine bK ?_;refine wn λf=>?_;refine bi ?_;exact aX (Mk O) (λ_ h=>Sat.tail (r:=I++D) (m:=o3 none 0 []::(I++D)) (λ_ h=>Vh _ h) h)
 . have O:ml own n d=fst d 0 n:=by unfold ml;rw[bd ae]
   refine c8 ?_;refine gG (bv:=Nat) (λx=>x<=n/\ml own n d=fst d x (n -x)) (λx=>[(15,af x),(14,af n),(2,.func (.func Z) #[] z.toArray)]) (λ_=>I++D) (λx=>n -x) 0 (⟨eX _,O⟩) dy (λ_ h=>h) ?_;clear O;rintro x ⟨ah,O⟩;replace ah:x<=n:=ah;replace O:ml own n d=fst d x (n -x):=O;refine bi ?_;refine cg (λM=>?_) (λM=>?_)
   . refine c0 ?_
     rcases K:d x with _|⟨c,ws⟩
     . refine bK ?_
       refine ci rfl (oE rfl rfl (vZ (hp x ae) K) us) ?_;rintro _ D ⟨_,⟨rfl,bf⟩,rfl⟩;refine fm ?_;obtain rfl:=bf.symm;refine aT (am9 x) ?_;refine fW ?_;refine Ml ?_;refine fD (x+1) ⟨show x+1<=n by omega,by rw[O,Vj ae,K];rfl⟩ (show n -(x+1)<n -x by omega) dy (λ_ h=>h)
     . refine bK ?_
       refine ci rfl (oE rfl rfl (v7 (hp x ae) K) us) ?_;rintro _ D ⟨_,⟨b,a,p,rfl,rfl⟩,rfl⟩;refine fm ?_;refine ci rfl (b1 rfl (ana x b a p c ws (av x c ws K) ae) bF) ?_;rintro _ D ⟨_,⟨aI,e,rfl,rfl⟩,rfl⟩;refine fm ?_;refine gg ?_;refine b6 ?_;exact aX (H:=(ab b BT [af c,.slice aI (((x+1:Nat):Int)::ws).length e]::o3 aI e (((x+1:Nat):Int)::ws)::I)) (Mk (by rw[O,Vj (by omega),K];rfl)) (λ_ h=>h)
   . have T:ml own n d=none:=by rw[O,show n -x=0 by omega];rfl
     refine dC ?_;exact aX (Vs T) (λ_ h=>h)
end
end Go.Proofs.YtnnhpnccfnghdaaGreat.C
namespace Go.Proofs.YtnnhpnccfnghdaaGreat.C
open Go.Proofs.YtnnhpnccfnghdaaGreat.L Go.L Go.L.Lx Go.L.Pg
attribute[local irreducible] G cE GE cY GT b0 df c4 di Exit.then Exit.inBlock
attribute[local irreducible] mS
def wa{A:aq}{r:List aq}{v:Value}{n:Nat}{xs:List Value}(B:∀h,A h->gI h v n xs):∀h,Sat (A::r) h->gI h v n xs:=λ_ ⟨_,_,_,e,a,_⟩=>e▸(B _ a).more
section
variable(A:aq)(L:List cC){bq:List b2}(b n:Nat){z:List fN}(d:b2)(x:cC){E:List Row}{D:List fv}{j:Nat}
def anc{e:fv}(h:D[j]?=some e):rh bq z D j=if wb bq z e (decide ((j:Int)=(D.length:Int) -1))=0 then none else some (wb bq z e (decide ((j:Int)=(D.length:Int) -1)),[]):=by unfold rh;rw[h]
def ane{r:Row}(h:E[j]?=some r):qf bq z E j=ml (C7 E j r) r.cw.length (rh bq z r.cw):=by unfold qf;rw[h]
def anf{s:fN}(h:z[j]?=some s):pI bq z j=ml (Gs z j s) s.rows.length (qf bq z s.rows):=by unfold pI;rw[h]
def ang{k:b2}(h:bq[j]?=some k):ri bq j=ml (yg bq j k) k.states.length (pI bq k.states):=by unfold ri;rw[h]
def Mm{own:Int}{n m:Nat}{D:Nat->lq}(av:∀i c ws,D i=some (c,ws)->ws.length<=m):∀c ws,ml own n D=some (c,ws)->ws.length<=m+1:=λc ws h=>by
 rcases anh h with rfl|⟨j,b,_,h2,rfl⟩
 . simp
 . have:=av _ _ _ h2;simp;omega
def Mn(j:Nat)(c:Int)(ws:List Int)(h:rh bq z D j=some (c,ws)):ws.length<=0:=by
 unfold rh at h;split at h
 . split at h
   . cases h
   . simp only[Option.some.injEq,Prod.mk.injEq]at h;rw[<-h.2];simp
 . cases h
def Mo(j:Nat)(c:Int)(ws:List Int)(h:qf bq z E j=some (c,ws)):ws.length<=1:=by
 unfold qf at h;split at h
 . exact Mm (λi c ws=>Mn i c ws) _ _ h
 . cases h
def Mp(j:Nat)(c:Int)(ws:List Int)(h:pI bq z j=some (c,ws)):ws.length<=2:=by
 unfold pI at h;split at h
 . exact Mm (λi c ws=>Mo i c ws) _ _ h
 . cases h
def Vt(j:Nat)(c:Int)(ws:List Int)(h:ri bq j=some (c,ws)):ws.length<=3:=by
 unfold ri at h;split at h
 . exact Mm (λi c ws=>Mp i c ws) _ _ h
 . cases h
def Vu{cs:List mj}{x:Nat}{c:mj}(h:cs[x]?=some c):wc cs (x+1)=(wc cs x||(cs.take x).any λd=>decide (d.reason=c.reason)):=by simp[wc,h]
def ani{L:List cC}{i:Nat}{t x:cC}(h:L[i]?=some t)(h1:x∉L.take i)(h2:¬x=t):x∉L.take (i+1):=by
 obtain⟨N,e⟩:=dc.1 h;rw[nv N,e,ky];rintro(h|h)
 . exact h1 h
 . exact h2 (rX.1 h)
def anj(aM:L.length=n)(e:n<=100):ad aa 377 [.slice j0 n n,S x] [ab b 9 (L.map S)] (λu H=>∃r:Int,(0<=r↔x∈L)/\u=af r/\H=[ab b 9 (L.map S)]):=by
 refine aw Tryz.func377 λF D=>?_;subst aM;refine fW ?_;refine gG (λi=>i<=L.length/\x∉L.take i) (λi=>[(8,af i),(7,af L.length),(0,.slice j0 L.length L.length),(1,S x)]) (λ_=>ab b 9 (L.map S)::D) (λi=>L.length -i) 0 (⟨eX _,by simp⟩) dy (au) ?_;rintro i ⟨ak,bm⟩;replace ak:i<=L.length:=ak;replace bm:x∉L.take i:=bm;refine bi ?_;refine cg (λW=>?_) (λW=>?_)
 . obtain⟨t,R⟩:∃t,L[i]?=some t:=⟨_,cz (show i<L.length by omega)⟩
   refine eJ ?_;refine aB rfl (fI rfl rfl (show i<L.length by omega)) ?_;refine aB rfl (gz rfl (show(L.map S)[i*1]?=some (S t) by rw[uu,fs,R];rfl)) ?_;refine aB rfl (pF rfl rfl) ?_;refine bb ?_;refine cg (λM=>?_) (λM=>?_)
   . refine fr ?_
     exact aX ⟨_,⟨λ_=>M▸js R,λ_=>by omega⟩,rfl,rfl⟩
   . refine C8 ?_
     refine fD (i+1) ⟨show i+1<=L.length by omega,ani R bm M⟩ (show L.length -(i+1)<L.length -i by omega) dy (au)
 . obtain rfl:i=L.length:=by omega
   rw[nw]at bm;refine dC ?_;exact aX ⟨-1,⟨λh=>absurd h bJ,λh=>absurd h bm⟩,rfl,rfl⟩
def Vv(aM:L.length=n)(e:n<=100):ad aa 331 [.slice j0 n n,S x] [ab b 9 (L.map S)] (aH (.bool (decide (x∈L))) [ab b 9 (L.map S)]):=by
 refine aw Tryz.func331 λF D=>?_;refine cv ?_;refine br (anj L b n x aM e) ?_;rintro _ _ ⟨r,aE,rfl,rfl⟩;refine et ?_;refine bi ?_;exact aX ⟨Gm (by rw[o4,kN,kN];exact aE),rfl⟩
def Vw(l:cC)(av:l.length<=9223372036854775807):ad aa 172 [S l] [] (aH (.bool (named l)) []):=by
 refine aw Tryz.func172 λF D=>?_;refine bQ ?_;refine aB rfl (pF rfl rfl) ?_;refine aG ?_;refine hx rfl rfl (λW=>?_) (λW=>?_) rfl
 . have f:=bN W
   refine bb ?_;refine ci rfl (b1 rfl (C9 (l) ae) bF) ?_;refine hb ?_;refine CT ?_;exact aX ⟨Gm (by unfold named;simp_all),rfl⟩
 . have f:=bN W
   simp only[jD];refine cq ?_;exact aX ⟨Gm (by unfold named;simp_all),rfl⟩
def ank(c:mj)(a6:eO c.reason.length):ad aa 171 [.agg (jN c).toArray] [A] (aH (.bool (uv c)) [A]):=by
 refine aw Tryz.func171 λF D=>?_;unfold eO at a6;refine bb ?_;refine wn λar=>?_;refine cq ?_;refine ci rfl (b1 rfl (Vw c.reason ae) bF) ?_;refine yh ?_;refine ls (d:=16) 9 (.bool (uv c)) ?_ (λa=>?_)
 rotate_left
 . refine hx rfl rfl (λW=>?_) (λW=>?_) rfl
   . have f:=bN W
     refine cq ?_;refine hx rfl rfl (λM=>?_) (λM=>?_) rfl
     . have q:=bN M
       refine bi ?_;unfold uv at a;exact h4 a
     . have q:=bN M
       refine tg ?_;unfold uv at a;exact h4 a
   . have f:=bN W
     simp only[jD];refine bQ ?_;unfold uv at a;exact h4 a
 refine bB ?_;exact aX ⟨rfl,rfl⟩
def anl(d c:mj):ad aa 173 [.agg (jN d).toArray,ptr b 0] [A,ab b 89 (jN c)] (aH (.bool (decide (d.reason=c.reason))) [A,ab b 89 (jN c)]):=by
 refine aw Tryz.func173 λF D=>?_;exact Da
def anm(c:b2):ad aa 175 [.agg (eK d).toArray,ptr b 0] [A,ab b 78 (eK c)] (aH Mq [A,ab b 78 (eK c)]):=by
 refine aw Tryz.func175 λF D=>?_;exact Da
def ann(d c:fN):ad aa 222 [.agg (gy d).toArray,ptr b 0] [A,ab b 82 (gy c)] (aH Mq [A,ab b 82 (gy c)]):=by
 refine aw Tryz.func222 λF D=>?_;exact Da
def ano(c:fv):ad aa 329 [.agg (eK d).toArray,ptr b 0] [A,ab b 87 (fO c)] Vx:=by
 refine aw Tryz.func329 λF D=>?_;exact Da
def anp(d:fN)(c:fv):ad aa 330 [.agg (gy d).toArray,ptr b 0] [A,ab b 87 (fO c)] Vx:=by
 refine aw Tryz.func330 λF D=>?_;exact Da
def anq(e:fv):ad aa 275 [.agg (fO e).toArray] [A] (aH (.bool (decide (e.do'=4))) [A]):=by
 refine aw Tryz.func275 λF D=>?_;refine bb ?_;refine wn λar=>?_;refine fr ?_;exact aX ⟨rfl,rfl⟩
def anr(d c:Row):ad aa 277 [.agg (hs d).toArray,ptr b 0] [A,ab b 85 (hs c)] (aH (.bool (we d c)) [A,ab b 85 (hs c)]):=by
 refine aw Tryz.func277 λF D=>?_;refine bb ?_;refine wn λU=>?_;refine cv ?_;refine aB rfl (pF rfl rfl) ?_;refine aG ?_;refine ls (d:=22) 13 (.bool (we d c)) ?_ (λa=>?_)
 rotate_left
 . refine hx rfl rfl (λW=>?_) (λW=>?_) rfl
   . have f:=bN W
     refine c0 ?_;refine hx rfl rfl (λM=>?_) (λM=>?_) rfl
     . have q:=bN M
       refine c8 ?_;unfold we at a;exact h4 a
     . have q:=bN M
       simp only[jD];refine bB ?_;unfold we at a;exact h4 a
   . have f:=bN W
     simp only[jD];refine dC ?_;unfold we at a;exact h4 a
 refine bB ?_;exact aX ⟨rfl,rfl⟩
end
theorem ans{P:Program}{F:World}{n:Nat}{I:eT}{M D:List aq}{fn:Func}{post:Value->List aq->Prop}{e:Exit}(V:e=.ret\/e=.normal){t1 Y t3 t4 t5:Nat}{v1 u v3 v4 v5:Value}(ba:fn.results=#[.tmp t1,.tmp Y,.tmp t3,.tmp t4,.tmp t5])(h1:gN I t1=some v1)(h2:gN I Y=some u)(aN:gN I t3=some v3)(bu:gN I t4=some v4)(dW:gN I t5=some v5)
 (H:List aq)(hp:post (.tuple #[v1,u,v3,v4,v5]) H)(B:∀h,Sat M h->Sat (H++D) h):GE F n I M vP:=
 x0 V (λa w aj _=>by simp[results,ba,aj.val _ _ h1,aj.val _ _ h2,aj.val _ _ aN,aj.val _ _ bu,aj.val _ _ dW]) H hp B
def ant{a b c d e aI l aQ p y:Bool}(h1:a=aI)(h2:b=l)(aN:c=aQ)(bu:d=p)(dW:e=y):Value.tuple #[.bool a,.bool b,.bool c,.bool d,.bool e]=.tuple #[.bool aI,.bool l,.bool aQ,.bool p,.bool y]:=by subst h1 h2 aN bu dW;rfl
def anu(d:Int):ad aa 328 [af d] [] (aH (.tuple #[.bool (Gt d),.bool (Gu d),.bool (Db d),.bool (Mr d),.bool (Gv d)]) []):=by
 refine aw Tryz.func328 λF D=>?_;refine ui ?_;refine bi ?_;refine cg (λW=>?_) (λW=>?_)
 . refine gg ?_
   refine bi ?_;exact Dc
 . refine cv ?_
   refine cg (λM=>?_) (λM=>?_)
   . refine gg ?_
     refine bQ ?_;exact Dc
   . refine c8 ?_
     refine cg (λL=>?_) (λL=>?_)
     . refine bb ?_
       refine cg (λfH=>?_) (λfH=>?_)
       . exact Gw
       . refine cv ?_
         refine cg (λw=>?_) (λw=>?_)
         . exact Vy
         . refine cv ?_
           refine cg (λl=>?_) (λl=>?_)
           . exact Gw
           . refine cv ?_
             refine cg (λm=>?_) (λm=>?_)
             . refine bb ?_
               refine cg (λv=>?_) (λv=>?_)
               . exact Av
               . exact Aw
             . refine bi ?_
               refine cg (λR=>?_) (λR=>?_)
               . refine bb ?_
                 refine cg (λn=>?_) (λn=>?_)
                 . exact Av
                 . exact Aw
               . refine bB ?_
                 refine cg (λr=>?_) (λr=>?_)
                 . exact Av
                 . exact Aw
     . refine bB ?_
       refine cg (λs=>?_) (λs=>?_)
       . exact Gw
       . refine cv ?_
         refine cg (λy=>?_) (λy=>?_)
         . exact Vy
         . refine cv ?_
           refine cg (λo=>?_) (λo=>?_)
           . exact Gw
           . refine cv ?_
             refine cg (λz=>?_) (λz=>?_)
             . refine bb ?_
               refine cg (λE=>?_) (λE=>?_)
               . exact Av
               . exact Aw
             . refine bi ?_
               refine cg (λro=>?_) (λro=>?_)
               . refine bb ?_
                 refine cg (λrt=>?_) (λrt=>?_)
                 . exact Av
                 . exact Aw
               . refine bB ?_
                 refine cg (λp=>?_) (λp=>?_)
                 . exact Av
                 . exact Aw
def anv(bL:Option Addr)(pc:Nat)(bq:List b2)(A:aq)(B:∀h,A h->hT h bL pc bq)(aA:∃h,hT h bL pc bq)(k:b2)(hk:k∈bq)(e:fv)(V:CQ e)(last:Bool):ad aa 279 [.agg #[.slice bL bq.length pc],.agg (eK k).toArray,.agg (fO e).toArray,.bool last] [A] (aH (af (wb bq k.states e last)) [A]):=by
 refine aw Tryz.func279 λF D=>?_;haveI rx:gl Gx A bq.length (bq.flatMap eK):=⟨λh=>(B _ h).rd.1⟩;obtain⟨bh,g⟩:=aA;have pl:=g.len;unfold eO at pl;have cb:=g.kinds k hk;have H:=cb.lens;have O:=cb.tb;have i9:=cb.name;unfold eO at H O i9;haveI jM:gl CK A k.states.length CL:=⟨λh=>((B _ h).kinds k hk).sJ.1⟩;haveI Fn:gl Ah A k.cases.length vQ:=⟨λh=>((B _ h).kinds k hk).sI.1⟩;obtain⟨and,u,any⟩:=V;unfold eO at and u any;refine bb ?_;refine wn λaO=>?_;refine wn λaU=>?_;refine wn λaS=>?_;refine cq ?_;refine aT (anu e.do') ?_;refine eJ ?_;refine b6 ?_;refine ci rfl (b1 rfl (Vo bq bL pc 329 [ptr aS 0] [A,ab aS 87 (fO e)] (λd=>decide (d.name=e.name)) ae (wa λh a=>(B h a).rd.1) (λd _=>ano A aS d e)) bF) ?_;refine hb ?_;refine fm ?_;refine bQ ?_;refine ci rfl (b1 rfl (Vq k.states k.sa k.sc 330 [ptr aS 0] [A,ab aS 87 (fO e)] (λd=>decide (d.name=e.name)) ae (wa λh a=>((B h a).kinds k hk).sJ.1) (λd _=>anp A aS d e)) bF) ?_;refine Ms ?_;refine il [11,14,29,32,49,149,150] [11,14,29,32,49] (0::4::8::12::36::40::109::181::249::333::337::341::405::409::413::477::481::485::545::549::553::17::21::25::29::Vz) [ab aS 87 (fO e)] ?_;refine gg ?_;refine aG ?_;refine qg (d:=44) Vz (.bool (ay e)) ?_ (λSW=>?_)
 rotate_left
 . refine ho (j:=3) rfl rfl (λW=>?_) (λW=>?_)
   . exact VA
   . exact VA
 refine pJ (bg.cons (t:=175) rfl (bg.cons (t:=158) rfl (bg.cons (t:=140) rfl (bg.cons (t:=122) rfl (bg.cons (t:=99) rfl (bg.cons (t:=82) rfl (bg.cons (t:=64) rfl (bg.cons (t:=47) rfl (bg.cons (t:=44) rfl VB))))))))) ?_;refine aG ?_;refine qg (d:=62) VC (.bool (aV e)) ?_ (λb=>?_)
 rotate_left
 . refine ho (j:=10) rfl rfl (λM=>?_) (λM=>?_)
   . have q:=bN M
     refine bb ?_;refine yi rfl (.yes rfl rfl M) rfl (qh (cs:=Mt.map S) rfl rfl rfl rfl) ?_;rintro _ _ ⟨Hx,rfl,rfl⟩;refine aG ?_;refine pK rfl (.yes rfl rfl M) rfl (b1 rfl (Vv Mt Hx 7 e.ref rfl bJ) bF) ?_;refine Ax ?_;refine ho (j:=17) rfl rfl (λL=>?_) (λL=>?_)
     . have X:=bN L
       refine bQ ?_;unfold aV at b;exact kn b M L
     . have X:=bN L
       refine b6 ?_;refine ho (j:=20) rfl rfl (λfH=>?_) (λfH=>?_)
       . have m2:=bN fH
         refine bb ?_;refine jF rfl (.yes rfl rfl fH) rfl wg (au) ?_;refine bb ?_;unfold aV at b;exact qi b M L fH
       . have m2:=bN fH
         refine bB ?_;unfold aV at b;exact qi b M L fH
   . have q:=bN M
     refine c8 ?_;refine ho (j:=20) rfl rfl (λw=>?_) (λw=>?_)
     . have I:=bN w
       refine bb ?_;refine jF rfl (.yes rfl rfl w) rfl wg (au) ?_;refine bb ?_;unfold aV at b;exact kn b M w
     . have I:=bN w
       refine bB ?_;unfold aV at b;exact kn b M w
 refine pJ (bg.cons (t:=175) rfl (bg.cons (t:=158) rfl (bg.cons (t:=140) rfl (bg.cons (t:=122) rfl (bg.cons (t:=99) rfl (bg.cons (t:=82) rfl (bg.cons (t:=64) rfl (bg.cons (t:=62) rfl Ay)))))))) ?_;refine bb ?_;refine qg (d:=80) VD (.bool (bz e)) ?_ (λc=>?_)
 rotate_left
 . refine ho (j:=28) rfl rfl (λl=>?_) (λl=>?_)
   . have n7:=bN l
     refine bb ?_;refine yi rfl (.yes rfl rfl l) rfl (qh (cs:=Mu.map S) rfl rfl rfl rfl) ?_;rintro _ _ ⟨are,rfl,rfl⟩;refine aG ?_;refine pK rfl (.yes rfl rfl l) rfl (b1 rfl (Vv Mu are 4 e.slot rfl bJ) bF) ?_;refine Ax ?_;refine ho (j:=35) rfl rfl (λm=>?_) (λm=>?_)
     . have Y:=bN m
       refine bQ ?_;unfold bz at c;exact kn c l m
     . have Y:=bN m
       refine b6 ?_;refine ho (j:=38) rfl rfl (λv=>?_) (λv=>?_)
       . have Z:=bN v
         refine bb ?_;refine jF rfl (.yes rfl rfl v) rfl wg (au) ?_;refine bb ?_;unfold bz at c;exact qi c l m v
       . have Z:=bN v
         refine bB ?_;unfold bz at c;exact qi c l m v
   . have n7:=bN l
     refine c8 ?_;refine ho (j:=38) rfl rfl (λR=>?_) (λR=>?_)
     . have UV:=bN R
       refine bb ?_;refine jF rfl (.yes rfl rfl R) rfl wg (au) ?_;refine bb ?_;unfold bz at c;exact kn c l R
     . have UV:=bN R
       refine bB ?_;unfold bz at c;exact kn c l R
 refine pJ (bg.cons (t:=175) rfl (bg.cons (t:=158) rfl (bg.cons (t:=140) rfl (bg.cons (t:=122) rfl (bg.cons (t:=99) rfl (bg.cons (t:=82) rfl (bg.cons (t:=80) rfl Az))))))) ?_;refine bb ?_;refine qg (d:=97) VE (.bool (dh e)) ?_ (λi=>?_)
 rotate_left
 . refine ho (j:=46) rfl rfl (λn=>?_) (λn=>?_)
   . have WF:=bN n
     refine bb ?_;refine pK rfl (.yes rfl rfl n) rfl (b1 rfl (C9 (e.name) ae) bF) ?_;refine Ax ?_;refine ho (j:=52) rfl rfl (λr=>?_) (λr=>?_)
     . have arg:=bN r
       refine bQ ?_;unfold dh at i;exact kn i n r
     . have arg:=bN r
       refine b6 ?_;refine ho (j:=55) rfl rfl (λs=>?_) (λs=>?_)
       . have atR:=bN s
         refine bb ?_;refine th rfl (.yes rfl rfl s) rfl wg ?_;refine bb ?_;unfold dh at i;exact qi i n r s
       . have atR:=bN s
         refine bB ?_;unfold dh at i;exact qi i n r s
   . have WF:=bN n
     refine cv ?_;refine ho (j:=55) rfl rfl (λy=>?_) (λy=>?_)
     . have aux:=bN y
       refine bb ?_;refine th rfl (.yes rfl rfl y) rfl wg ?_;refine bb ?_;unfold dh at i;exact kn i n y
     . have aux:=bN y
       refine bB ?_;unfold dh at i;exact kn i n y
 refine pJ (bg.cons (t:=175) rfl (bg.cons (t:=158) rfl (bg.cons (t:=140) rfl (bg.cons (t:=122) rfl (bg.cons (t:=99) rfl (bg.cons (t:=97) rfl AA)))))) ?_;refine bb ?_;refine qg (d:=118) VF (.bool (gT e)) ?_ (λC=>?_)
 rotate_left
 . refine ho (j:=63) rfl rfl (λo=>?_) (λo=>?_)
   . have aCX:=bN o
     refine bK ?_;refine ho (j:=67) rfl rfl (λz=>?_) (λz=>?_)
     . have aCY:=bN z
       refine fW ?_;unfold gT at C;exact kn C o z
     . have aCY:=bN z
       refine bi ?_;refine ho (j:=73) rfl rfl (λE=>?_) (λE=>?_)
       . have aCZ:=bN E
         refine bQ ?_;unfold gT at C;exact qi C o z E
       . have aCZ:=bN E
         refine b6 ?_;refine ho (j:=76) rfl rfl (λro=>?_) (λro=>?_)
         . exact VG
         . exact VG
   . have aCX:=bN o
     refine fr ?_;refine ho (j:=76) rfl rfl (λrt=>?_) (λrt=>?_)
     . exact VH
     . exact VH
 refine pJ (bg.cons (t:=175) rfl (bg.cons (t:=158) rfl (bg.cons (t:=140) rfl (bg.cons (t:=122) rfl (bg.cons (t:=118) rfl AB))))) ?_;refine bb ?_;refine qg (d:=136) VI (.bool (uw e)) ?_ (λK=>?_)
 rotate_left
 . refine ho (j:=86) rfl rfl (λp=>?_) (λp=>?_)
   . have aC0:=bN p
     refine fr ?_;unfold uw at K;exact kn K p p
   . have aC0:=bN p
     refine bB ?_;refine ho (j:=91) rfl rfl (λs2=>?_) (λs2=>?_)
     . have aC1:=bN s2
       refine bQ ?_;unfold uw at K;exact kn K p s2
     . have aC1:=bN s2
       refine b6 ?_;refine ho (j:=94) rfl rfl (λH1=>?_) (λH1=>?_)
       . exact VJ
       . exact VJ
 refine pJ (bg.cons (t:=175) rfl (bg.cons (t:=158) rfl (bg.cons (t:=140) rfl (bg.cons (t:=136) rfl AC)))) ?_;refine bb ?_;refine qg (d:=154) VK (.bool (pL e)) ?_ (λN=>?_)
 rotate_left
 . refine ho (j:=104) rfl rfl (λJ=>?_) (λJ=>?_)
   . have aC2:=bN J
     refine fr ?_;unfold pL at N;exact kn N J J
   . have aC2:=bN J
     refine bB ?_;refine ho (j:=109) rfl rfl (λt2=>?_) (λt2=>?_)
     . have aC3:=bN t2
       refine bQ ?_;unfold pL at N;exact kn N J t2
     . have aC3:=bN t2
       refine b6 ?_;refine ho (j:=112) rfl rfl (λId=>?_) (λId=>?_)
       . exact VL
       . exact VL
 refine pJ (bg.cons (t:=175) rfl (bg.cons (t:=158) rfl (bg.cons (t:=154) rfl VM))) ?_;refine bb ?_;refine qg (d:=171) VN (.bool (wh bq k.states e)) ?_ (λT=>?_)
 rotate_left
 . refine ho (j:=122) rfl rfl (λU=>?_) (λU=>?_)
   . have aC4:=bN U
     refine bK ?_;refine ho (j:=126) rfl rfl (λt6=>?_) (λt6=>?_)
     . have aC5:=bN t6
       refine bQ ?_;unfold wh ti AD at T;exact kn T U t6
     . have aC5:=bN t6
       refine bK ?_;refine ho (j:=130) rfl rfl (λIT=>?_) (λIT=>?_)
       . exact VO
       . exact VO
   . have aC4:=bN U
     refine bQ ?_;refine ho (j:=130) rfl rfl (λLz=>?_) (λLz=>?_)
     . exact VP
     . exact VP
 refine pJ (bg.cons (t:=175) rfl (bg.cons (t:=171) rfl (bg.cons (t:=155) rfl VM))) ?_;refine bb ?_;refine qg (d:=184) [592,598,602,604] (.bool (yj e last)) ?_ (λFr=>?_)
 rotate_left
 . refine ho (j:=139) rfl rfl (λpm=>?_) (λpm=>?_)
   . have aC6:=bN pm
     refine bQ ?_;unfold yj at Fr;exact kn Fr pm pm
   . have aC6:=bN pm
     refine bB ?_;refine ho (j:=144) rfl rfl (λLE=>?_) (λLE=>?_)
     . exact VQ
     . exact VQ
 refine pJ (bg.cons (t:=184) rfl (bg.cons (t:=172) rfl (bg.cons (t:=155) rfl (bg.cons (t:=137) rfl (bg.cons (t:=119) rfl (bg.cons (t:=98) rfl (bg.cons (t:=81) rfl (bg.cons (t:=63) rfl (bg.cons (t:=45) rfl (bg.cons (t:=36) rfl (bg.cons (t:=35) rfl (bg.cons (t:=34) rfl (bg.cons (t:=33) rfl (bg.cons (t:=32) rfl (bg.cons (t:=31) rfl (bg.cons (t:=30) rfl (bg.cons (t:=29) rfl (bg.cons (t:=28) rfl (bg.cons (t:=27) rfl (bg.cons (t:=26) rfl (bg.cons (t:=25) rfl (bg.cons (t:=24) rfl (bg.cons (t:=23) rfl (bg.cons (t:=22) rfl (bg.cons (t:=21) rfl (bg.cons (t:=20) rfl (bg.cons (t:=19) rfl (bg.cons (t:=18) rfl (bg.cons (t:=17) rfl (bg.cons (t:=16) rfl (bg.cons (t:=15) rfl (bg.cons (t:=14) rfl (bg.cons (t:=13) rfl (bg.cons (t:=12) rfl (bg.cons (t:=11) rfl (bg.cons (t:=10) rfl (bg.cons (t:=9) rfl (bg.cons (t:=8) rfl (bg.cons (t:=6) rfl (bg.cons (t:=5) rfl (bg.cons (t:=4) rfl VR))))))))))))))))))))))))))))))))))))))))) ?_;refine aG ?_;refine yi rfl .none rfl (qh (cs:=[(ay e,43),(aV e,43),(bz e,43),(dh e,43),(gT e,43),(uw e,43),(pL e,43),(wh bq k.states e,42),(yj e last,44)].flatMap Ar) rfl rfl rfl rfl) ?_;rintro _ _ ⟨aC7,rfl,rfl⟩;refine aG ?_;refine pK rfl .none rfl (b1 rfl (C5 [(ay e,43),(aV e,43),(bz e,43),(dh e,43),(gT e,43),(uw e,43),(pL e,43),(wh bq k.states e,42),(yj e last,44)] aC7 ga) bF) ?_;refine hb ?_;refine fm ?_;exact Dd
end Go.Proofs.YtnnhpnccfnghdaaGreat.C
