import Derived.Test.YtnnhpnccfnghdaaGreatA20
import Derived.Laws.IdiomCopy
import Derived.Shelf.Spec.SlicesInsert
import Derived.Shelf.Spec.SlicesInsertGrow
import Derived.Ground.Names2Prog
set_option linter.all false
set_option maxRecDepth 8000
set_option maxHeartbeats 24000000
namespace Go.Proofs.YtnnhpnccfnghdaaGreat.L.bM
open Go.Proofs.YtnnhpnccfnghdaaGreat.L
open Go.L Go.L.Ring Go.L.dD Go.L.ej Go.L.Whl Go.L.dP Go.L.Lx Go.L.Pg
open Go.L.Led (du dH dW bm aw fo)
open Go.L.Th (bO c0 dn bG dE bU b3 e4 b0 aq most dY cS fp eR dZ In cX c9 eS bB bP eT eU bn cI dF go bo Good ei eV ec acc Inv eG e5 fj busy dA eC eh fr)
attribute[local irreducible] G cJ GE c3 GT b1 dk c7 ds Exit.then Exit.inBlock
def aAi(bZ:Option Addr)(pc:Nat)(K:List cr)(a2:al)(C:bO)(N:C.ok)(o:∀h,a2 h->h8 h bZ pc K)(pm:∀k∈K,lL k)(cV:K.length<=8)(ba:∀k∈K,K.find? (λx=>decide (x.name=k.name))=some k)(LE:ab E 55 Jn [a2] (aH (.nilIface) [a2]))(s:aq)(ai:Th.start C pS=some s):ab E 28 [.agg (oP C).toArray,.agg #[.slice bZ K.length pc]] [a2] (λu I=>∃(X:cO) (z:dw),X.C=C/\X.P=K.map dQ/\bJ X z s/\u=.tuple #[ptr X.h 0,.nilIface]/\I=a2::bh X z s):=by
 refine av Tryz.func28 λH D=>?_;obtain⟨k,O,kx,mp,i6,g5,rfl⟩:=aAj ai;have U:=FF N;have aC:C.bl=2+C.bC.size+(3+2*C.iS):=rfl;have aV:C.gS=C.bl+C.aT*C.aT:=rfl;have bF:C.cells=C.gS+C.aT*C.fh:=rfl;have dx:C.fh=2+(2+2*C.hW)+(2+2*C.fK):=rfl;have ho:C.fK=2*C.aT+8:=rfl;have m6:=N.m1;have m3:=N.m64;have m0:=N.cu;have Nm:=N.hd;have hC:=N.aG;have n6:=N.bQ;have b:=N.h1;have aCC:=N.bA;have SW:=N.i1;have m4:=N.i64;have aF:=N.sQ;have B:ab E 59 [af C.bc,af C.eX,af C.aT] [] (aH (af ((C.bC.size:Nat):Int)) []):=XJ 2 C.bc C.eX C.aT hC n6 N.d1 N.d64 m0 Nm;have Th:ab E 63 [af C.hW,af ((C.fK:Nat):Int)] [] (aH (af ((C.fh:Nat):Int)) []):=Po.ahv ⟨m6,m3⟩ uy;haveI:gw (.slice bZ K.length pc) a2 K.length (K.flatMap eH):=⟨λh=>(o _ h).rd.1⟩;have a6:jf ((C.cells:Nat):Int)=C.cells:=by have:=alB (C.cells:Int) ad;omega
 refine nw ?_;intro V ay;refine bQ ?_;refine cn rfl (b9 rfl ((by have bi:=afE (rq C);rw[aAk N]at bi;exact bi)) bN) ?_;refine gU ?_;refine pC ?_;refine og ?_;refine bj ?_;refine aU (LE) ?_;refine bj ?_;refine Qu ?_;refine bb ?_;refine og ?_;refine bb ?_;refine Dh (λact w=>∃(n p r ld cF:Nat),hl Tryz.f28.ntmps [(2,ptr V 0),(3,ptr ay 0),(7,ptr n 0)] act/\dt H (aa n 108 (ms C eK fN fN fN fN eK p r ld cF eK eK fN)::eD p pa::eD r pa::Lg.cY ld []::dz cF C.c6 []::aa V 23 (oP C)::aa ay 26 BH::a2::D) w) ?_ ?_
 . refine iu [1,2,3,6,8] [1,2,3,6] [1,17,21,6,10,14,26,28,34,36,3,3,3,3,14,10,26,28,34,36,3,3,3,26,10,28,34,36,3,3,3,3,3,10,6,14,26,28,34,36,3,3,3,3,14,6,26,28,34,36,3,3,3,26,6,28,34,36,3,3,3,3,3,14,6,10,26,28,34,36,3,3,3,26,10,28,34,36,3,3,3,3,10,6,26,28,34,36,3,3,3,26,6,28,34,36,3,3,3,3,26,6,10,28,34,36,3,3,3,10,6,28,34,36] [aa V 23 (oP C)] ?_
   refine b2 ?_;refine fm ?_ ?_
   . refine wn λp=>?_
     refine aG ?_;refine fm ?_ ?_
     . refine wn λr=>?_
       exact agh
     . refine bu (Lg.H7) ?_
       rintro _ _ ⟨ld,rfl,rfl⟩;refine eM ?_;exact ad7
   . refine fm ?_ ?_
     . refine wn λr=>?_
       refine aG ?_;refine fm ?_ ?_
       . refine wn λp=>?_
         exact agh
       . refine bu (Lg.H7) ?_
         rintro _ _ ⟨ld,rfl,rfl⟩;refine eM ?_;exact ad6
     . refine bu (Lg.H7) ?_
       rintro _ _ ⟨ld,rfl,rfl⟩;refine eM ?_;refine aG ?_;refine fm ?_ ?_
       . refine wn λp=>?_
         exact ad7
       . refine fm ?_ ?_
         . refine wn λr=>?_
           exact ad6
         . refine Kj ?_
           intro cF;refine aG ?_;refine fm ?_ ?_
           . refine wn λp=>?_
             exact afd
           . refine wn λr=>?_
             exact afc
 . rintro act w ⟨n,p,r,ld,cF,g0,st⟩
   refine Di ?_ g0 st;clear g0 st act w;refine dh ?_;refine hb (bv:=(Option Addr×Nat)×List cr) (λF=>F.2.map dQ=(K.take F.2.length).map dQ/\F.2.length<=K.length) (λF=>[(38,af F.2.length),(37,af K.length),(36,.slice bZ K.length pc),(2,ptr V 0),(3,ptr ay 0),(7,ptr n 0)]) (λF=>own (.slice F.1.1 F.2.length F.1.2) 78 5 F.2.length (F.2.flatMap eH)::ns F.2::aa n 108 (ms C (.slice F.1.1 F.2.length F.1.2) (.pointer none) (.pointer none) (.pointer none) (.pointer none) (.slice none 0 0) p r ld cF (.slice none 0 0) (.slice none 0 0) (.pointer none))::eD p (.map #[] 0)::eD r (.map #[] 0)::Lg.cY ld []::dz cF C.c6 []::aa V 23 (oP C)::aa ay 26 BH::a2::D) (λF=>K.length -F.2.length) ((none,0),[]) (⟨rfl,fk _⟩) eb (λh s=>jc h (aAl h ((au) h s))) ?_;rintro⟨⟨a,c⟩,J⟩ bK;obtain⟨aA,aw⟩:J.map dQ=(K.take J.length).map dQ/\J.length<=K.length:=bK;dsimp only;refine bj ?_;refine ch (λW=>?_) (λW=>?_)
   . obtain⟨fL,i8⟩:∃fL,K[J.length]?=some fL:=⟨_,cD (show J.length<K.length by omega)⟩
     refine bj ?_;refine aB rfl (gf rfl rfl (show J.length<K.length by omega)) ?_;refine L1 ?_;refine wn λcA=>?_;refine bQ ?_;refine cn rfl (b9 rfl (Uf K bZ pc fL.name fL ad (pm fL (jH i8)) (ba fL (jH i8)) a2 o) bN) ?_;rintro _ D ⟨_,⟨Y,R,rfl,rfl⟩,rfl⟩;refine Am ?_;refine cw [7,8] [106,1,202,3,201] [aa n 108 Z4,aa cA 78 (eH Y)] ?_;refine bj ?_;refine go_v rfl .none rfl (zB (cg:=eH Y) rfl rfl rfl) ?_;refine wn λaCD=>?_;refine aG ?_;refine gj λt8 ut=>?_;rw[show J.length+1=(J++[Y]).length from by simp,show J.flatMap eH++eH Y=(J++[Y]).flatMap eH from by simp];refine cB ?_;refine aB rfl (fy ((J.length+1:Nat):Int) ff rfl rfl) ?_;refine bb ?_;refine gg ((t8,ut),(J++[Y])) ⟨aAm aA i8 R,show(J++[Y]).length<=K.length by rw[eZ];show J.length+1<=_;omega⟩ (show K.length -(J++[Y]).length<K.length -J.length by rw[eZ];show K.length -(J.length+1)<_;omega) (bd.cons uP eb) (λh s=>by
      dsimp only;exact(show∀h,Sat _ h->Sat (own (.slice t8 (J++[Y]).length ut) 78 5 (J++[Y]).length ((J++[Y]).flatMap eH)::ns (J++[Y])::aa n 108 (ms C (.slice t8 (J++[Y]).length ut) (.pointer none) (.pointer none) (.pointer none) (.pointer none) (.slice none 0 0) p r ld cF (.slice none 0 0) (.slice none 0 0) (.pointer none))::eD p (.map #[] 0)::eD r (.map #[] 0)::Lg.cY ld []::dz cF C.c6 []::aa V 23 (oP C)::aa ay 26 [.slice bZ K.length pc]::a2::D) h from(au)) h (aAn h ((show∀h,Sat _ h->Sat (gb Y::ns J::own (.slice t8 (J++[Y]).length ut) 78 5 (J++[Y]).length ((J++[Y]).flatMap eH)::aa n 108 (ms C (.slice t8 (J++[Y]).length ut) (.pointer none) (.pointer none) (.pointer none) (.pointer none) (.slice none 0 0) p r ld cF (.slice none 0 0) (.slice none 0 0) (.pointer none))::eD p (.map #[] 0)::eD r (.map #[] 0)::Lg.cY ld []::dz cF C.c6 []::aa V 23 (oP C)::aa ay 26 [.slice bZ K.length pc]::a2::D) h from(au)) h s)))
   . have T:J.length=K.length:=by omega
     rw[T,nT]at aA;refine dh ?_;refine aB rfl (fy ((C.fK:Nat):Int) ff rfl rfl) ?_;refine bR ?_;refine cw [10] [104,6,201,2] Z3 ?_;refine dh ?_;refine aU (B) ?_;refine aG ?_;refine go_v rfl .none rfl (fy ((2+C.bC.size:Nat):Int) ff rfl rfl) ?_;refine bR ?_;refine h0 [4,8,15,18,21] [4,8,15,18] [(0,.bL),(1,.bL),(2,.loc),(3,.loc),(6,.bL),(7,.bL),(10,.bL),(11,.bL),(12,.bL),(13,.bL),(14,.bL),(4,.da),(5,.bL),(8,.da),(9,.bL),(15,.da),(16,.loc),(17,.loc),(18,.da),(19,.loc),(20,.loc),(21,.da)] Z3 mixed hM ?_;refine c4 ?_;refine aU (Ck.MD SW m4) ?_;refine aG ?_;refine go_vs rfl .none rfl (fy ((C.bl:Nat):Int) ff rfl rfl) (au) ?_;refine aU (NL C.aT m0 Nm) ?_;refine aG ?_;refine go_vs rfl .none rfl (fy ((C.gS:Nat):Int) ff rfl rfl) (au) ?_;refine aU (Th) ?_;refine aG ?_;refine go_v rfl .none rfl (rT ((C.aT*C.fh:Nat):Int) (by rw[<-DC];exact jz (by omega)) rfl rfl) ?_;refine go_v rfl .none rfl (fy ((C.cells:Nat):Int) ff rfl rfl) ?_;refine bu (alC _) ?_;rintro _ _ ⟨m,rfl,rfl⟩;refine eM ?_;rw[a6];refine ct ?_;refine cw [] [8,201] [] ?_;refine bQ ?_;refine go_c rfl .none rfl (b9 rfl (mM m (List.replicate C.cells 0) 0 1 (by rw[Uj];omega) 1) bN) ?_;refine gU ?_;refine fC ?_;rw[show(List.replicate C.cells (0:Int)).set 1 1=vF C from rfl];refine bR ?_;refine cw [15,21] Jp [] ?_;refine EE ?_;refine gd ?_;refine bu (aAa N m _) ?_;rintro _ _ ⟨cN,t0,m9,rfl,rfl⟩;refine aeR ?_;refine b2 ?_;refine adk ?_;refine bu (aAb N m _) ?_;rintro _ _ ⟨db,i2,hw,rfl,rfl⟩;refine afa ?_;refine aU (Ck.MD SW m4) ?_;refine aB rfl (fy ((C.bl:Nat):Int) ff rfl rfl) ?_;refine bR ?_;refine adk ?_;refine bu (aAc N m _) ?_;rintro _ _ ⟨bl,t3,rfl,rfl⟩;refine afa ?_;refine aU (NL C.aT m0 Nm) ?_;refine aB rfl (fy ((C.gS:Nat):Int) ff rfl rfl) ?_;refine dB ?_;refine hb (bv:=(Option Addr×Nat)×List Po.nl×Int) (λF=>(∀x∈F.2.1,x.m=m)/\F.2.1.length<=C.aT) (λF=>((169,af F.2.1.length)::(168,af C.aT)::(11,af ((C.gS+F.2.1.length*C.fh:Nat):Int))::Px)) (λF=>own (.slice F.1.1 F.2.1.length F.1.2) 116 1 F.2.1.length (F.2.1.map λx=>ptr x.br 0)::ao (nP m C F.2.1)::aa n 108 (ms C y4 (ptr m 0) (ptr cN.c 0) (ptr db.c 0) (ptr bl 0) (.slice F.1.1 F.2.1.length F.1.2) p r ld cF eK eK fN)::bz m (jl C) F.2.2::own y4 78 5 J.length (J.flatMap eH)::ns J::eW PD::eW Py::dy bl m C.bl C.aT::eD p pa::eD r pa::Lg.cY ld []::dz cF C.c6 []::aa V 23 (oP C)::aa ay 26 BH::a2::D) (λF=>C.aT -F.2.1.length) ((none,0),[],_) (⟨qs,fk _⟩) ((bd.cons rfl (bd.cons rfl (bd.cons (show _=some (af ((C.gS+0*C.fh:Nat):Int)) by rw[Nat.zero_mul];rfl) eb)))) PT ?_;rintro⟨⟨d,e⟩,l,t⟩ bK;obtain⟨pp,i9⟩:(∀x∈l,x.m=m)/\l.length<=C.aT:=bK;dsimp only;refine bj ?_;refine ch (λM=>?_) (λM=>?_)
     . have H1:l.length*C.fh+C.fh<=C.aT*C.fh:=by
        have:=pN C.fh (show l.length+1<=C.aT by omega);exact Hs
       refine bE ?_;refine cw [] [8,201,5] [] ?_;refine bQ ?_;refine go_c rfl .none rfl (b9 rfl (aAd N m l.length ad t) bN) ?_;rintro _ D ⟨_,⟨x,t1,m6,rfl,rfl⟩,rfl⟩;refine fC ?_;refine ov ?_;refine wn λaCE=>?_;refine gj λu8 v2=>?_;rw[show l.length+1=(l++[x]).length from by simp,show(l.map λx=>ptr x.br 0)++[ptr x.br 0]=(l++[x]).map λx=>ptr x.br 0 from by simp];refine dh ?_;refine aU (Th) ?_;refine aB rfl (fy ((C.gS+(l.length+1)*C.fh:Nat):Int) (by rw[nb,vg,jz (by omega)];omega) rfl rfl) ?_;refine bE ?_;refine aB rfl (fy ((l.length+1:Nat):Int) ff rfl rfl) ?_;refine bb ?_;refine gg ((u8,v2),(l++[x]),t1) ⟨λy ag=>(kX.1 ag).elim (pp y) (λag=>by simp at ag;subst ag;exact m6),show(l++[x]).length<=C.aT by rw[eZ];show l.length+1<=_;omega⟩ (show C.aT -(l++[x]).length<C.aT -l.length by rw[eZ];show C.aT -(l.length+1)<_;omega) (bd.cons uP (bd.cons rfl (bd.cons uP eb))) (λh s=>by
        dsimp only;rw[aAo];exact(show∀h,Sat _ h->Sat (own (.slice u8 (l++[x]).length v2) 116 1 (l++[x]).length ((l++[x]).map λx=>ptr x.br 0)::ao (nP m C l++[zV m x (C.box (l++[x]).length)])::aa n 108 (ms C (.slice a J.length c) (ptr m 0) (ptr cN.c 0) (ptr db.c 0) (ptr bl 0) (.slice u8 (l++[x]).length v2) p r ld cF (.slice none 0 0) (.slice none 0 0) (.pointer none))::bz m (jl C) t1::own (.slice a J.length c) 78 5 J.length (J.flatMap eH)::ns J::eW [fG cN C.bC,b8 cN C.bC,hU cN C.bC,ez cN C.bC,ao (k5 cN C.bC)]::eW [Ck.fv db C.df,fs db.r m (C.df.b+1) C.df.n,fw db.wp ⟨0,0,[]⟩]::dy bl m C.bl C.aT::eD p (.map #[] 0)::eD r (.map #[] 0)::Lg.cY ld []::dz cF C.c6 []::aa V 23 (oP C)::aa ay 26 [.slice bZ K.length pc]::a2::D) h from(au)) h (tw h ((show∀h,Sat _ h->Sat (zV m x (C.box (l++[x]).length)::ao (nP m C l)::own (.slice u8 (l++[x]).length v2) 116 1 (l++[x]).length ((l++[x]).map λx=>ptr x.br 0)::aa n 108 (ms C (.slice a J.length c) (ptr m 0) (ptr cN.c 0) (ptr db.c 0) (ptr bl 0) (.slice u8 (l++[x]).length v2) p r ld cF (.slice none 0 0) (.slice none 0 0) (.pointer none))::bz m (jl C) t1::own (.slice a J.length c) 78 5 J.length (J.flatMap eH)::ns J::eW [fG cN C.bC,b8 cN C.bC,hU cN C.bC,ez cN C.bC,ao (k5 cN C.bC)]::eW [Ck.fv db C.df,fs db.r m (C.df.b+1) C.df.n,fw db.wp ⟨0,0,[]⟩]::dy bl m C.bl C.aT::eD p (.map #[] 0)::eD r (.map #[] 0)::Lg.cY ld []::dz cF C.c6 []::aa V 23 (oP C)::aa ay 26 [.slice bZ K.length pc]::a2::D) h from(au)) h s)))
     . have aB3:l.length=C.aT:=by omega
       refine gd ?_;refine hb (bv:=(Option Addr×Nat)×List Nat) (λF=>F.2.length<=C.bc) (λF=>((202,af F.2.length)::(201,af C.bc)::Px)) (λF=>own Jo 106 1 F.2.length (F.2.map λq=>ptr q 0)::ao (lK n F.2)::aa n 108 (ms C y4 (ptr m 0) (ptr cN.c 0) (ptr db.c 0) (ptr bl 0) JH p r ld cF Jo eK fN)::own JH 116 1 l.length (l.map λx=>ptr x.br 0)::ao (nP m C l)::bz m (jl C) t::own y4 78 5 J.length (J.flatMap eH)::ns J::eW PD::eW Py::dy bl m C.bl C.aT::eD p pa::eD r pa::Lg.cY ld []::dz cF C.c6 []::aa V 23 (oP C)::aa ay 26 BH::a2::D) (λF=>C.bc -F.2.length) ((none,0),[]) (fk _) eb PT ?_;rintro⟨⟨f,g⟩,ws⟩ bK;replace bK:ws.length<=C.bc:=bK;dsimp only;refine bj ?_;refine ch (λL=>?_) (λL=>?_)
       . refine eY ?_
         refine b2 ?_;refine aB rfl (ly (cs:=oW n (ws.length:Int)) rfl rfl) ?_;refine wn λi=>?_;refine wn λaCF=>?_;refine JV ?_;rintro _ _ ⟨v6,wf,rfl,rfl⟩;rw[show ws.length+1=(ws++[i]).length from by simp,show(ws.map λq=>ptr q 0)++[ptr i 0]=(ws++[i]).map λq=>ptr q 0 from by simp];refine ct ?_;refine aB rfl (fy ((ws.length+1:Nat):Int) ff rfl rfl) ?_;refine bb ?_;refine gg ((v6,wf),(ws++[i])) (show(ws++[i]).length<=C.bc by rw[eZ];show ws.length+1<=_;omega) (show C.bc -(ws++[i]).length<C.bc -ws.length by rw[eZ];show C.bc -(ws.length+1)<_;omega) (bd.cons uP eb) (λh s=>by
          dsimp only;rw[aAp];exact(show∀h,Sat _ h->Sat (own (.slice v6 (ws++[i]).length wf) 106 1 (ws++[i]).length ((ws++[i]).map λq=>ptr q 0)::ao (lK n ws++[aa i 128 (oW n (ws.length:Int))])::aa n 108 (ms C (.slice a J.length c) (ptr m 0) (ptr cN.c 0) (ptr db.c 0) (ptr bl 0) (.slice d l.length e) p r ld cF (.slice v6 (ws++[i]).length wf) (.slice none 0 0) (.pointer none))::own (.slice d l.length e) 116 1 l.length (l.map λx=>ptr x.br 0)::ao (nP m C l)::bz m (jl C) t::own (.slice a J.length c) 78 5 J.length (J.flatMap eH)::ns J::eW [fG cN C.bC,b8 cN C.bC,hU cN C.bC,ez cN C.bC,ao (k5 cN C.bC)]::eW [Ck.fv db C.df,fs db.r m (C.df.b+1) C.df.n,fw db.wp ⟨0,0,[]⟩]::dy bl m C.bl C.aT::eD p (.map #[] 0)::eD r (.map #[] 0)::Lg.cY ld []::dz cF C.c6 []::aa V 23 (oP C)::aa ay 26 [.slice bZ K.length pc]::a2::D) h from(au)) h (tw h ((show∀h,Sat _ h->Sat (aa i 128 (oW n (ws.length:Int))::ao (lK n ws)::own (.slice v6 (ws++[i]).length wf) 106 1 (ws++[i]).length ((ws++[i]).map λq=>ptr q 0)::aa n 108 (ms C (.slice a J.length c) (ptr m 0) (ptr cN.c 0) (ptr db.c 0) (ptr bl 0) (.slice d l.length e) p r ld cF (.slice v6 (ws++[i]).length wf) (.slice none 0 0) (.pointer none))::own (.slice d l.length e) 116 1 l.length (l.map λx=>ptr x.br 0)::ao (nP m C l)::bz m (jl C) t::own (.slice a J.length c) 78 5 J.length (J.flatMap eH)::ns J::eW [fG cN C.bC,b8 cN C.bC,hU cN C.bC,ez cN C.bC,ao (k5 cN C.bC)]::eW [Ck.fv db C.df,fs db.r m (C.df.b+1) C.df.n,fw db.wp ⟨0,0,[]⟩]::dy bl m C.bl C.aT::eD p (.map #[] 0)::eD r (.map #[] 0)::Lg.cY ld []::dz cF C.c6 []::aa V 23 (oP C)::aa ay 26 [.slice bZ K.length pc]::a2::D) h from(au)) h s)))
       . have m2:ws.length=C.bc:=by omega
         refine gd ?_;refine hb (bv:=(Option Addr×Nat)×List Nat) (λF=>F.2.length<=C.cT) (λF=>((221,af F.2.length)::(220,af C.cT)::Px)) (λF=>own Jo 106 1 F.2.length (F.2.map λq=>ptr q 0)::ao (oX n F.2)::aa n 108 (ms C y4 (ptr m 0) (ptr cN.c 0) (ptr db.c 0) (ptr bl 0) JH p r ld cF (.slice f ws.length g) Jo fN)::own (.slice f ws.length g) 106 1 ws.length (ws.map λq=>ptr q 0)::ao (lK n ws)::own JH 116 1 l.length (l.map λx=>ptr x.br 0)::ao (nP m C l)::bz m (jl C) t::own y4 78 5 J.length (J.flatMap eH)::ns J::eW PD::eW Py::dy bl m C.bl C.aT::eD p pa::eD r pa::Lg.cY ld []::dz cF C.c6 []::aa V 23 (oP C)::aa ay 26 BH::a2::D) (λF=>C.cT -F.2.length) ((none,0),[]) (fk _) eb PT ?_;rintro⟨⟨u,v⟩,ai⟩ bK;replace bK:ai.length<=C.cT:=bK;dsimp only;refine bj ?_;refine ch (λf9=>?_) (λf9=>?_)
         . refine c4 ?_
           refine aB rfl (ly (cs:=oW n (-1)) rfl rfl) ?_;refine wn λi4=>?_;refine wn λaCG=>?_;refine JV ?_;rintro _ _ ⟨z2,Ckq,rfl,rfl⟩;rw[show ai.length+1=(ai++[i4]).length from by simp,show(ai.map λq=>ptr q 0)++[ptr i4 0]=(ai++[i4]).map λq=>ptr q 0 from by simp];refine ct ?_;refine aB rfl (fy ((ai.length+1:Nat):Int) ff rfl rfl) ?_;refine bb ?_;refine gg ((z2,Ckq),(ai++[i4])) (show(ai++[i4]).length<=C.cT by rw[eZ];show ai.length+1<=_;omega) (show C.cT -(ai++[i4]).length<C.cT -ai.length by rw[eZ];show C.cT -(ai.length+1)<_;omega) (bd.cons uP eb) (λh s=>by
            dsimp only;rw[aAq];exact(show∀h,Sat _ h->Sat (own (.slice z2 (ai++[i4]).length Ckq) 106 1 (ai++[i4]).length ((ai++[i4]).map λq=>ptr q 0)::ao (oX n ai++[aa i4 128 (oW n (-1))])::aa n 108 (ms C (.slice a J.length c) (ptr m 0) (ptr cN.c 0) (ptr db.c 0) (ptr bl 0) (.slice d l.length e) p r ld cF (.slice f ws.length g) (.slice z2 (ai++[i4]).length Ckq) (.pointer none))::own (.slice f ws.length g) 106 1 ws.length (ws.map λq=>ptr q 0)::ao (lK n ws)::own (.slice d l.length e) 116 1 l.length (l.map λx=>ptr x.br 0)::ao (nP m C l)::bz m (jl C) t::own (.slice a J.length c) 78 5 J.length (J.flatMap eH)::ns J::eW [fG cN C.bC,b8 cN C.bC,hU cN C.bC,ez cN C.bC,ao (k5 cN C.bC)]::eW [Ck.fv db C.df,fs db.r m (C.df.b+1) C.df.n,fw db.wp ⟨0,0,[]⟩]::dy bl m C.bl C.aT::eD p (.map #[] 0)::eD r (.map #[] 0)::Lg.cY ld []::dz cF C.c6 []::aa V 23 (oP C)::aa ay 26 [.slice bZ K.length pc]::a2::D) h from(au)) h (tw h ((show∀h,Sat _ h->Sat (aa i4 128 (oW n (-1))::ao (oX n ai)::own (.slice z2 (ai++[i4]).length Ckq) 106 1 (ai++[i4]).length ((ai++[i4]).map λq=>ptr q 0)::aa n 108 (ms C (.slice a J.length c) (ptr m 0) (ptr cN.c 0) (ptr db.c 0) (ptr bl 0) (.slice d l.length e) p r ld cF (.slice f ws.length g) (.slice z2 (ai++[i4]).length Ckq) (.pointer none))::own (.slice f ws.length g) 106 1 ws.length (ws.map λq=>ptr q 0)::ao (lK n ws)::own (.slice d l.length e) 116 1 l.length (l.map λx=>ptr x.br 0)::ao (nP m C l)::bz m (jl C) t::own (.slice a J.length c) 78 5 J.length (J.flatMap eH)::ns J::eW [fG cN C.bC,b8 cN C.bC,hU cN C.bC,ez cN C.bC,ao (k5 cN C.bC)]::eW [Ck.fv db C.df,fs db.r m (C.df.b+1) C.df.n,fw db.wp ⟨0,0,[]⟩]::dy bl m C.bl C.aT::eD p (.map #[] 0)::eD r (.map #[] 0)::Lg.cY ld []::dz cF C.c6 []::aa V 23 (oP C)::aa ay 26 [.slice bZ K.length pc]::a2::D) h from(au)) h s)))
         . have Fn:ai.length=C.cT:=by omega
           obtain⟨d9,mt⟩:∃d9,J[0]?=some d9:=⟨_,cD (akm aA mp)⟩;have md:d9.name=k.name:=aAr aA mp mt;have aB4:0<J.length:=akm aA mp;refine cB ?_;refine aB rfl (ly (cs:=oW n (-1)) rfl rfl) ?_;refine wn λZ=>?_;refine fB ?_;refine aB rfl (gf rfl rfl aB4) ?_;refine aG ?_;refine aB rfl (gF rfl (show(J.flatMap eH)[0]?=some (S k.name) by rw[<-md];have bi:=rK eH 5 C8 (j:=0) mt (v:=S d9.name) rfl;exact bi)) ?_;refine q6 (λh s=>aAs (D:=a2::D) T aA m9 hw pp aB3 m2 Fn cV h ((show∀h,Sat _ h->Sat ([aa n 108 (ms C (.slice a J.length c) (ptr m 0) (ptr cN.c 0) (ptr db.c 0) (ptr bl 0) (.slice d l.length e) p r ld cF (.slice f ws.length g) (.slice u ai.length v) (ptr Z 0)),aa Z 128 (oW n (-1)),own (.slice u ai.length v) 106 1 ai.length (ai.map λq=>ptr q 0),ao (oX n ai),own (.slice f ws.length g) 106 1 ws.length (ws.map λq=>ptr q 0),ao (lK n ws),own (.slice d l.length e) 116 1 l.length (l.map λx=>ptr x.br 0),ao (nP m C l),bz m (jl C) t,own (.slice a J.length c) 78 5 J.length (J.flatMap eH),ns J,eW [fG cN C.bC,b8 cN C.bC,hU cN C.bC,ez cN C.bC,ao (k5 cN C.bC)],eW [Ck.fv db C.df,fs db.r m (C.df.b+1) C.df.n,fw db.wp ⟨0,0,[]⟩],dy bl m C.bl C.aT,eD p (.map #[] 0),eD r (.map #[] 0),Lg.cY ld [],dz cF C.c6 []]++a2::D) h from(au)) h s)) ?_;refine gh ?_;refine cn rfl (b9 rfl (aAh (Cx C (K.map dQ) n m cN db bl l d e f g u v (ws++ai++[Z]) p r ld cF a c) (Ly t) (FG C) 1 k.name kx.name O kx (aAt m9 hw pp) N (by show(K.map dQ).length<=_;rw[o9];omega) i6 (aAu pm i6) g5 rfl rfl (by show 1<=C.aT;omega) (show(0:Nat)<1099511627776 by decide)) bN) ?_;rintro _ D ⟨_,⟨rfl,cl,e8,rfl⟩,rfl⟩;refine fC ?_;refine c4 ?_;exact aQ ⟨(Cx C pS n m cN db bl l d e f g u v (ws++ai++[Z]) p r ld cF a c),cl,rfl,rfl,e8,rfl,rfl⟩
end Go.Proofs.YtnnhpnccfnghdaaGreat.L.bM
namespace Go.Proofs.YtnnhpnccfnghdaaGreat.L
open Go.L Go.L.Lx
attribute[local irreducible] G cJ GE c3 GT b1 dk c7 ds Exit.then Exit.inBlock
attribute[local irreducible] wO Ic yU
section
variable(c:UInt8)
abbrev vB8:Value:=.int .u8 c.toNat
def Qz{a b:Bool}(h:a=true↔b=true):Value.bool a=Value.bool b:=by rw[o0.2 h]
def RE(r:cG):mc (c::r)=(wO c&&decide (mr yU (c::r)=(c::r).length)&&decide ((c::r).length<=16)):=rfl
def aqZ{l:cG}(h:16<l.length):mc l=false:=by
 cases l with
 |nil=>rfl
 |cons c r=>rw[RE,mJ (p:=(c::r).length<=16) ad,Bool.and_false]
def aqX{c:UInt8}{r:cG}(h:wO c=false):mc (c::r)=false:=by rw[RE,h];rfl
def aqY{c:UInt8}{r:cG}(h:wO c=true)(h2:(c::r).length<=16):mc (c::r)=decide (((mr yU (c::r):Nat):Int)=((c::r).length:Nat)):=by
 rw[RE,h,lM h2,kP,Bool.and_true,o0];simp only[ln];omega
def ahe:ab E 160 [vB8 c] [] (aH (.bool (wO c)) []):=by
 refine av Tryz.func160 λH D=>?_;refine dh ?_;refine hY rfl rfl (λW=>?_) (λW=>?_) rfl
 . have f:=bW W
   refine bQ ?_;exact acP
 . have f:=bW W
   simp only[iE];refine bj ?_;exact acP
def asC:ab E 211 [vB8 c] [] (aH (.bool (Ic c)) []):=by
 refine av Tryz.func211 λH D=>?_;refine dh ?_;refine hY rfl rfl (λW=>?_) (λW=>?_) rfl
 . have f:=bW W
   refine bQ ?_;exact acN
 . have f:=bW W
   simp only[iE];refine bj ?_;exact acN
def asD:ab E 162 [vB8 c] [] (aH (.bool (yU c)) []):=by
 refine av Tryz.func162 λH D=>?_;refine bQ ?_;refine aU (ahe _) ?_;refine aG ?_;refine hY rfl rfl (λW=>?_) (λW=>?_) rfl
 . have f:=bW W
   refine bb ?_;refine aU (asC _) ?_;refine bb ?_;refine hY rfl rfl (λM=>?_) (λM=>?_) rfl
   . have v:=bW M
     refine bQ ?_;exact QA
   . have v:=bW M
     simp only[iE];refine bj ?_;exact QA
 . have f:=bW W
   simp only[iE];refine dh ?_;exact QA
def asE(q:UInt8->Bool)(F:FuncId)(u:∀c,ab E F [vB8 c] [] (aH (.bool (q c)) []))(l:cG)(aw:l.length<=9223372036854775807)(fI:fb E F:=by exact fl):ab E 161 [S l,.func (.func F) #[] #[]] [] (aH (af (mr q l)) []):=by
 refine av Tryz.func161 λH D=>?_;refine dB ?_;refine hb (bv:=Nat) (λx=>x<=l.length/\mr q l=x+mr q (l.drop x)) (λx=>[(5,af x),(0,S l),(1,.func (.func F) #[] #[])]) (λ_=>D) (λx=>l.length -x) 0 (⟨fk _,by rw[List.drop_zero,lo]⟩) eb (au) ?_;rintro x ⟨ah,ai⟩;replace ah:x<=l.length:=ah;replace ai:mr q l=x+mr q (l.drop x):=ai;refine bE ?_;refine aB rfl (RF rfl) ?_;refine bb ?_;refine hY rfl rfl (λW=>?_) (λW=>?_) rfl
 . have f:=bW W
   refine bj ?_;obtain⟨c,aY⟩:∃c,l[x]?=some c:=⟨_,cD (show x<l.length by omega)⟩;refine aB rfl (ahf rfl rfl (aY)) ?_;refine aG ?_;refine aU (u c) ?_;refine b2 ?_;refine ch (λM=>?_) (λM=>?_)
   . refine bE ?_
     refine aB rfl (fy (((x+1:Nat):Int)) ff rfl rfl) ?_;refine b2 ?_;have bt:q c=true:=Zb;refine gg (x+1) ⟨show x+1<=l.length by omega,show mr q l=x+1+mr q (l.drop (x+1)) by rw[ai,aqq aY bt];omega⟩ (show l.length -(x+1)<l.length -x by omega) eb (au)
   . refine fB ?_
     exact acI
 . have f:=bW W
   simp only[iE];refine gq ?_;refine aG ?_;exact acI
def C3(l:cG)(aw:l.length<=9223372036854775807):ab E 92 [S l] [] (aH (.bool (mc l)) []):=by
 refine av Tryz.func92 λH D=>?_;refine bQ ?_;refine aB rfl x9 ?_;refine aG ?_;refine hY rfl rfl (λW=>?_) (λW=>?_) rfl
 . have f:=bW W
   refine bb ?_;refine aB rfl (RF rfl) ?_;refine bR ?_;refine hY rfl rfl (λM=>?_) (λM=>?_) rfl
   . have v:=bW M
     refine bb ?_;obtain⟨c,r,rfl⟩:∃c r,l=c::r:=by
      cases l with
      |nil=>simp at*
      |cons c r=>exact⟨c,r,rfl⟩
     refine aB rfl (ahf rfl rfl (rfl)) ?_;refine aG ?_;refine aU (ahe _) ?_;refine bb ?_;refine hY rfl rfl (λL=>?_) (λL=>?_) rfl
     . have F:=bW L
       refine bb ?_;refine cn rfl (b9 rfl (asE yU 162 (λc=>asD c) (_) (by simp only[iG,vP]at*;omega)) bN) ?_;refine gU ?_;refine pC ?_;refine aB rfl (RF rfl) ?_;refine bQ ?_;exact JW
     . have F:=bW L
       simp only[iE];refine dh ?_;exact JW
   . have v:=bW M
     simp only[iE];refine eY ?_;exact JW
 . have f:=bW W
   simp only[iE];refine gq ?_;exact JW
end
end Go.Proofs.YtnnhpnccfnghdaaGreat.L
namespace Go.L
section
variable{H w:World}{D:List al}
section
variable{b j:Nat}{e:TypeId}{l:List Value}
def dt.setCells{b:Nat}{e:TypeId}:∀(cg l:List Value) (o:Nat) (w:World),dt H (aa b e l::D) w->dt H (aa b e (kE l o cg)::D) (w.setCells b o cg)
 |[],l,o,w,s=>by simpa[kE,World.setCells]using s
 |
  v::cg,l,o,w,s=>by
  have s1:=s.setCell (b:=b) (bY:=o) (l:=l) v;simpa[kE,World.setCells]using dt.setCells cg (l.set o v) (o+1) _ s1
def Gu(s:dt H (aa b e l::D) w){v:Value}(h:l[j]?=some v):w.cell? ⟨b,j,none⟩=some v:=by
 have aA:w.heap[b]?=_:=s.heap (b:=b);simp[World.cell?,aA,h]
def Gv(s:dt H (aa b e l::D) w):w.frozen? ⟨b,j,none⟩=false:=by
 have aA:w.heap[b]?=_:=s.heap (b:=b);simp[World.frozen?,aA]
def Vk(s:dt H (aa b e l::D) w):w.shape? b=some (e,l.length):=by
 have aA:w.heap[b]?=_:=s.heap (b:=b);simp[World.shape?,aA]
def amf{h:eQ}{b V C:Nat}{e:TypeId}{cs rest:List Value}(B:cs.length=V)(aF:rest.length=C -V)(N:V<=C)(bf:C<=maxLen)(co:h b=some (.cells (cs++rest).toArray e (0,0))):oc h (.slice jA V C) e 1 V cs:=
 ⟨by omega,.inr ⟨b,C,rest,rfl,by rw[eZ];omega,N,bf,co⟩⟩
def apt(n:Nat):(Builtin.zeroCells (Value.int .i64 0).cells n).toList.length=n:=by simp[Builtin.zeroCells,Value.cells]
end
end
end Go.L
namespace Go.Proofs
open Go.Shelf
def Tryz.akW:Go.Shelf.Ren:=⟨fun|21=>219|27=>271|28=>272|35=>325|39=>376|n=>n,fun|22=>39|3=>3|4=>4|0=>0|n=>n,fun|n=>n⟩
def Tryz.FU:Go.Proofs.Lays2.n21 Tryz.prog Tryz.akW:={
 mixed:=by kernel_rfl
 f21:=Tryz.func219.trans (congrArg some (by kernel_rfl))
 f27:=Tryz.func271.trans (congrArg some (by kernel_rfl))
 f28:=Tryz.func272.trans (congrArg some (by kernel_rfl))
 f35:=Tryz.func325.trans (congrArg some (by kernel_rfl))
 f39:=Tryz.func376.trans (congrArg some (by kernel_rfl))
 t0:=Tryz.underlying0
 a0:=Tryz.isAgg0
 z0:=Tryz.sizeOf0
 v0:=Tryz.zeroValue0
 t3:=Tryz.underlying3
 a3:=Tryz.isAgg3
 z3:=Tryz.sizeOf3
 v3:=Tryz.zeroValue3
 t4:=Tryz.underlying4
 a4:=Tryz.isAgg4
 z4:=Tryz.sizeOf4
 v4:=Tryz.zeroValue4
 t22:=Tryz.underlying39
 a22:=Tryz.isAgg39
 z22:=Tryz.sizeOf39
 v22:=Tryz.zeroValue39
 i3:=by kernel_rfl}
end Go.Proofs
namespace Go.Proofs.YtnnhpnccfnghdaaGreat.C
open Go.Proofs.YtnnhpnccfnghdaaGreat.L Go.L Go.L.Lx
attribute[local irreducible] G cJ GE c3 GT b1 dk c7 ds Exit.then Exit.inBlock
section
variable(a:Option Addr)(c:Nat)(xs:List Int)
abbrev nV:al:=own (.slice a xs.length c) 3 1 xs.length (xs.map af)
def Vi:∀v∈xs.map af,v.oneCell'=true:=λv Z=>by obtain⟨x,_,rfl⟩:=lN.1 Z;rfl
def alR(y:Int)(i:Nat)(aO:xs.length<=1000):ab E 219 [.slice a xs.length c,af 0,.slice (some ⟨i,0,none⟩) 1 1] [nV a c xs,aa i 3 [af y]]
 (λu I=>∃aD aI,u=.slice aD (xs.length+1) aI/\I=[nV aD aI (y::xs)]):=by
 intro H D w s;simp only[ck,ci]at s;have l:∀j v,[af y][j]?=some v->w.cell? ⟨i,0+j,none⟩=some v:=λj v O=>by
  rw[lo];exact Gu (s.imp λ_=>Sat.drop) O
 have m:∀v∈[af y],v.oneCell'=true:=λv Z=>by simp at Z;subst Z;rfl
 have fin:∀{X:World} {b C:Nat} {rest:List Value},rest.length=C -(xs.length+1)->xs.length+1<=C->C<=maxLen->dt H (aa b 3 ((y::xs).map af++rest)::D) X->dt H ([nV (some ⟨b,0,none⟩) C (y::xs)]++D) X:=λaF N bf aW=>
  aW.imp λ_=>Sat.head λh co=>amf gl aF N bf co
 obtain⟨h1,h2,d,gJ,⟨aw,Z⟩,K⟩:=s.fg;rcases Z with⟨t,o⟩|⟨b,C,dJ,Z,b8,il,ez,f⟩
 . obtain rfl:xs=[]:=rR o
   simp only[Value.slice.injEq]at t;obtain⟨rfl,_,rfl⟩:=t;refine(Any2.slices_Insert_int_end_grow Tryz.FU none 0 0 i 0 1 1 [] [af y] w bw bw bw bw rfl rfl (λ_=>rfl) (λa h=>by cases h) l m).mono λ_ X ⟨Y,R⟩=>?_;exact Vj
 . simp only[Value.slice.injEq]at Z
   obtain⟨rfl,_,rfl⟩:=Z;have s1:dt H (aa b 3 (xs.map af++dJ)::aa i 3 [af y]::D) w:=⟨s.os,s.tape,s.output,s.size,h1,h2,d,gJ,f,K⟩;have cb:dt H (aa b 3 (xs.map af++dJ)::D) w:=s1.imp λ_=>Sat.tail λ_=>Sat.drop;have i9:(xs.map af).length=xs.length:=gl;rw[uo,eZ,i9]at b8;have V:i≠b:=by
    rintro rfl;obtain⟨W,cU,p,q,hc,J⟩:=s1.fg;obtain⟨em,gc,S,rfl,ek,_⟩:=J;rcases(rI.1 p).1 i with h|h
    . have z:W i=some _:=hc;rw[h]at z;cases z
    . have A:em i=some _:=ek;rw[h]at A;cases A
   by_cases bi:xs=[]
   . subst bi
     simp only[lk,mO,ci]at*;by_cases n:1<=c
     . refine(Any2.slices_Insert_int_end_room Tryz.FU b 0 0 c i 0 1 1 [af y] w bw ad (by unfold maxLen at ez;omega) rfl (λj O=>?_) (λj O=>Gv cb) l m).mono λ_ X ⟨Y,R⟩=>?_
       . obtain⟨v,Z⟩:∃v,dJ[0+0+j]?=some v:=⟨_,cD ad⟩
         rw[Gu cb Z];rfl
       . refine Gw ?_
         have ce:=cb.setCells [af y] dJ 0;rw[ti _ _ _ h9]at ce;refine fin (rest:=dJ.drop 1) h9 (by simpa using n) ez ?_;simpa using ce
     . obtain rfl:c=0:=by omega
       refine(Any2.slices_Insert_int_end_grow Tryz.FU (some ⟨b,0,none⟩) 0 0 i 0 1 1 [] [af y] w bw bw bw bw rfl rfl (λ_=>rfl) (λa h j v O=>by simp at O) l m).mono λ_ X ⟨Y,R⟩=>?_;exact Vj
   . have F:0<xs.length:=List.length_pos_iff.2 bi
     have B:∀j v,(xs.map af)[j]?=some v->w.cell? ⟨b,0+j,none⟩=some v:=λj v O=>by
      have d4:=(dp.1 O).1;rw[lo];exact Gu cb (by rw[kY d4];exact O)
     by_cases n:xs.length+1<=c
     . refine(Any2.slices_Insert_int_shift Tryz.FU b 0 xs.length c 0 i 0 1 1 (xs.map af) [af y] w F bw n (by unfold maxLen at ez;omega) V i9 rfl B (λj O=>?_) (λj O=>Gv cb) l (Vi xs) m
        3 3 1 (xs.map af++dJ).length (Vk (s1.imp λ_=>Sat.drop)) (Vk cb) Mr (Gv (s1.imp λ_=>Sat.drop)) (Gv (s1.imp λ_=>Sat.drop))).mono λ_ X ⟨Y,R⟩=>?_
       . obtain⟨v,Z⟩:∃v,(xs.map af++dJ)[0+j]?=some v:=⟨_,cD Mr⟩
         rw[lo]at Z⊢;rw[Gu cb Z];rfl
       . refine Gw ?_
         have ce:=(cb.drew.setCells (xs.map af) _ 1).setCells [af y] _ 0;rw[ti (xs.map af) _ 1 Mr,ti [af y] _ 0 h9]at ce;refine fin (rest:=dJ.drop 1) h9 n ez ?_;have e:List.take 0 (List.take 1 (xs.map af++dJ)++xs.map af++List.drop (1+(xs.map af).length) (xs.map af++dJ))++[af y]++List.drop (0+[af y].length) (List.take 1 (xs.map af++dJ)++xs.map af++List.drop (1+(xs.map af).length) (xs.map af++dJ))=(y::xs).map af++dJ.drop 1:=by
          rw[Ms 1,<-Gx,List.drop_left];obtain⟨x,r,rfl⟩:∃x r,xs=x::r:=by cases xs with
           |nil=>exact absurd rfl bi
           |cons x r=>exact⟨x,r,rfl⟩
          simp
         rw[e]at ce;simpa using ce
     . refine(Any2.slices_Insert_int_grow Tryz.FU b 0 xs.length c 0 i 0 1 1 (xs.map af) [af y] w F bw il ad ad i9 rfl B l (Vi xs) m).mono λ_ X ⟨Y,R⟩=>?_
       simp only[show Tryz.akW.t 3=3 from rfl]at Y R;refine Gw ?_;have N:=grownCap_ge w (xs.length+1) c 3;have L:=grownCap_le_maxLen w (xs.length+1) c 3 AB
       generalize grownCap w (xs.length+1) c 3=C at*
       obtain⟨g,M,T⟩:∃g:List Value,(((xs.map af).take 0).toArray++Builtin.zeroCells (Value.int .i64 0).cells (xs.length+1 -0)++Builtin.zeroCells (Value.int .i64 0).cells (C -(xs.length+1)))=g.toArray/\g.length=C:=
        ⟨(((xs.map af).take 0).toArray++Builtin.zeroCells (Value.int .i64 0).cells (xs.length+1 -0)++Builtin.zeroCells (Value.int .i64 0).cells (C -(xs.length+1))).toList,by simp,by simp[Builtin.zeroCells,Value.cells];omega⟩
       rw[M];have ce:=(((s.imp λ_ h=>h.drop.drop).new (.cells g.toArray 3 (0,0))).drew.setCells [af y] g 0).drew.setCells (xs.map af) _ 1;rw[ti [af y] _ 0 h9,ti (xs.map af) _ 1 (by rw[eZ,eZ,oC,vP,i9];simp;omega)]at ce;refine fin (rest:=g.drop (xs.length+1)) h9 N L ?_;have e:List.take 1 (List.take 0 g++[af y]++List.drop (0+[af y].length) g)++xs.map af++List.drop (1+(xs.map af).length) (List.take 0 g++[af y]++List.drop (0+[af y].length) g)=(y::xs).map af++g.drop (xs.length+1):=by
        simp[Ms]
       rw[e]at ce;exact ce
end
end Go.Proofs.YtnnhpnccfnghdaaGreat.C
namespace Go.Proofs.YtnnhpnccfnghdaaGreat.C
open Go.Proofs.YtnnhpnccfnghdaaGreat.L Go.L Go.L.Lx Go.L.Pg
attribute[local irreducible] G cJ GE c3 GT b1 dk c7 ds Exit.then Exit.inBlock
section
variable(x:Bool×Int)(L:List mb){D:List al}(a:Option Addr)(c:Nat)(F:FuncId)(z:List Value)(J:List al)(q:mb->Bool)
def td:List Value:=[.bool x.1,af x.2]
def alH:(td x).length=2:=rfl
abbrev BT:TypeId:=134
abbrev L9(b:Nat):Value:=.iface 131 (ptr b 0)
def p3:ll->List al->Value->List al->Prop
 |none,J,u,I=>u=.pointer none/\I=J
 |some (c,ws),J,u,I=>∃b a p,u=ptr b 0/\I=aa b BT [af c,.slice a ws.length p]::nV a p ws::J
def Ma:ll->List al->Value->List al->Prop
 |none,J,u,I=>u=.nilIface/\I=J
 |some (c,ws),J,u,I=>∃b a p,u=L9 b/\I=aa b BT [af c,.slice a ws.length p]::nV a p ws::J
def ui{D:List al}:∀{J:List al},Part J (J++D) D
 |[]=>.nil
 |_::J=>.cons .head (ui (J:=J))
theorem CS{J D:List al}{v:Value}{n:Nat}{xs:List Value}(aF:∀h,Sat J h->gI h v n xs):je v (J++D) n xs:=⟨λs=>by
 obtain⟨h1,h2,d,e,a,_⟩:=Sat.split s;rw[e];exact(aF _ a).more⟩
def Up:∀h,Sat D h->Sat (nV none 0 []::D) h:=jc
def Uq{L:List (Bool×Int)}{x:Nat}{t:Bool×Int}(h:L[x]?=some t):oz (L.drop x)=if t.1 then t.2 else oz (L.drop (x+1)):=by
 obtain⟨O,e⟩:=dp.1 h;rw[s5 O,e];cases t;rfl
def Ur{D:Nat->ll}{i n:Nat}(h:i<n):fst D i (n -i)=Ap i (D i) (fst D (i+1) (n -(i+1))):=by
 obtain⟨k,hk⟩:∃k,n -i=k+1:=⟨n -i -1,by omega⟩;rw[hk,show n -(i+1)=k by omega];rfl
def any_none{α:Type}{L:List α}{q:α->Bool}{x:Nat}{t:α}(h:L[x]?=some t)(h1:(L.take x).any q=false)(h2:q t=false):(L.take (x+1)).any q=false:=by
 exact Us
def Gb{a b:Bool}(h:a=b):Value.bool a=Value.bool b:=by rw[h]
attribute[local irreducible] mc
theorem alI(aO:L.length<=9223372036854775807)(aF:∀h,Sat J h->gI h kB L.length (L.flatMap jQ))
 (hp:∀x∈L,ab E F Gc J lm)(fI:fb E F:=by exact fl):ab E 220 oA J (λu I=>∃r:Int,CT/\u=af r/\I=J):=by
 refine av Tryz.func220 λH D=>?_;haveI:=CS (D:=D) aF;refine rM ?_;intro x ah bt;replace ah:x<=L.length:=ah;replace bt:(L.take x).any q=false:=bt;refine bj ?_;refine ch (λW=>?_) (λW=>?_)
 . obtain⟨t,U⟩:∃t,L[x]?=some t:=⟨_,cD (show x<L.length by omega)⟩
   refine Ut ?_;refine CU ?_;exact CV
 . exact CW
theorem Uu(aO:L.length<=9223372036854775807)(aF:∀h,Sat J h->gI h kB L.length (L.flatMap jQ))
 (hp:∀x∈L,ab E F Gc J lm)(fI:fb E F:=by exact fl):ab E 170 oA J CX:=by
 refine av Tryz.func170 λH D=>?_;refine cB ?_;refine cn rfl (b9 rfl (alI L a c F z J q aO aF hp) ui) ?_;exact CY
end
section
variable(L:List cr)(a:Option Addr)(c:Nat)(F:FuncId)(z:List Value)(J:List al)(q:cr->Bool)
theorem alJ(aO:L.length<=9223372036854775807)(aF:∀h,Sat J h->gI h kB L.length (L.flatMap eH))
 (hp:∀x∈L,ab E F Gd J lm)(fI:fb E F:=by exact fl):ab E 100 oA J (λu I=>∃r:Int,CT/\u=af r/\I=J):=by
 refine av Tryz.func100 λH D=>?_;haveI:=CS (D:=D) aF;refine rM ?_;intro x ah bt;replace ah:x<=L.length:=ah;replace bt:(L.take x).any q=false:=bt;refine bj ?_;refine ch (λW=>?_) (λW=>?_)
 . obtain⟨t,U⟩:∃t,L[x]?=some t:=⟨_,cD (show x<L.length by omega)⟩
   refine Uv ?_;refine CU ?_;exact CV
 . exact CW
theorem Uw(aO:L.length<=9223372036854775807)(aF:∀h,Sat J h->gI h kB L.length (L.flatMap eH))
 (hp:∀x∈L,ab E F Gd J lm)(fI:fb E F:=by exact fl):ab E 174 oA J CX:=by
 refine av Tryz.func174 λH D=>?_;refine cB ?_;refine cn rfl (b9 rfl (alJ L a c F z J q aO aF hp) ui) ?_;exact CY
end
section
variable(L:List fU)(a:Option Addr)(c:Nat)(F:FuncId)(z:List Value)(J:List al)(q:fU->Bool)
theorem alK(aO:L.length<=9223372036854775807)(aF:∀h,Sat J h->gI h kB L.length (L.flatMap gB))
 (hp:∀x∈L,ab E F Ge J lm)(fI:fb E F:=by exact fl):ab E 273 oA J (λu I=>∃r:Int,CT/\u=af r/\I=J):=by
 refine av Tryz.func273 λH D=>?_;haveI:=CS (D:=D) aF;refine rM ?_;intro x ah bt;replace ah:x<=L.length:=ah;replace bt:(L.take x).any q=false:=bt;refine bj ?_;refine ch (λW=>?_) (λW=>?_)
 . obtain⟨t,U⟩:∃t,L[x]?=some t:=⟨_,cD (show x<L.length by omega)⟩
   refine Ux ?_;refine CU ?_;exact CV
 . exact CW
theorem Uy(aO:L.length<=9223372036854775807)(aF:∀h,Sat J h->gI h kB L.length (L.flatMap gB))
 (hp:∀x∈L,ab E F Ge J lm)(fI:fb E F:=by exact fl):ab E 221 oA J CX:=by
 refine av Tryz.func221 λH D=>?_;refine cB ?_;refine cn rfl (b9 rfl (alK L a c F z J q aO aF hp) ui) ?_;exact CY
end
section
variable(L:List fF)(a:Option Addr)(c:Nat)(F:FuncId)(z:List Value)(J:List al)(q:fF->Bool)
theorem alL(aO:L.length<=9223372036854775807)(aF:∀h,Sat J h->gI h kB L.length (L.flatMap fM))
 (hp:∀x∈L,ab E F ([.agg (fM x).toArray]++z) J lm)(fI:fb E F:=by exact fl):ab E 326 oA J (λu I=>∃r:Int,CT/\u=af r/\I=J):=by
 refine av Tryz.func326 λH D=>?_;haveI:=CS (D:=D) aF;refine rM ?_;intro x ah bt;replace ah:x<=L.length:=ah;replace bt:(L.take x).any q=false:=bt;refine bj ?_;refine ch (λW=>?_) (λW=>?_)
 . obtain⟨t,U⟩:∃t,L[x]?=some t:=⟨_,cD (show x<L.length by omega)⟩
   refine x5 ?_;refine aB rfl (kz rfl (kA fM 7 xT U) rfl) ?_;refine CU ?_;exact CV
 . exact CW
theorem alM(aO:L.length<=9223372036854775807)(aF:∀h,Sat J h->gI h kB L.length (L.flatMap fM))
 (hp:∀x∈L,ab E F ([.agg (fM x).toArray]++z) J lm)(fI:fb E F:=by exact fl):ab E 274 oA J CX:=by
 refine av Tryz.func274 λH D=>?_;refine cB ?_;refine cn rfl (b9 rfl (alL L a c F z J q aO aF hp) ui) ?_;exact CY
end
section
variable(L:List Row)(a:Option Addr)(c:Nat)(F:FuncId)(z:List Value)(J:List al)(q:Row->Bool)
theorem alN(aO:L.length<=9223372036854775807)(aF:∀h,Sat J h->gI h kB L.length (L.flatMap gY))
 (hp:∀x∈L,ab E F Gf J lm)(fI:fb E F:=by exact fl):ab E 327 oA J (λu I=>∃r:Int,CT/\u=af r/\I=J):=by
 refine av Tryz.func327 λH D=>?_;haveI:=CS (D:=D) aF;refine rM ?_;intro x ah bt;replace ah:x<=L.length:=ah;replace bt:(L.take x).any q=false:=bt;refine bj ?_;refine ch (λW=>?_) (λW=>?_)
 . obtain⟨t,U⟩:∃t,L[x]?=some t:=⟨_,cD (show x<L.length by omega)⟩
   refine Uz ?_;refine CU ?_;exact CV
 . exact CW
theorem alO(aO:L.length<=9223372036854775807)(aF:∀h,Sat J h->gI h kB L.length (L.flatMap gY))
 (hp:∀x∈L,ab E F Gf J lm)(fI:fb E F:=by exact fl):ab E 276 oA J CX:=by
 refine av Tryz.func276 λH D=>?_;refine cB ?_;refine cn rfl (b9 rfl (alN L a c F z J q aO aF hp) ui) ?_;exact CY
end
section
variable{P:Program}{F:FuncId}{args:List Value}{J:List al}{r:ll}{c:Int}{ws:List Int}
def CZ(L:List (Bool×Int))(b:Nat)(K:L.length<=100):ab E 96 [.slice jA L.length L.length] [aa b 191 (L.flatMap td)] (aH (af (oz L)) [aa b 191 (L.flatMap td)]):=by
 refine av Tryz.func96 λH D=>?_;refine gd ?_;refine hb (bv:=Nat) (λx=>x<=L.length/\oz L=oz (L.drop x)) (λx=>[(7,af x),(6,af L.length),(5,.slice jA L.length L.length)]) (λ_=>aa b 191 (L.flatMap td)::D) (λx=>L.length -x) 0 (⟨fk _,rfl⟩) eb (au) ?_;rintro x ⟨ah,bt⟩;replace ah:x<=L.length:=ah;replace bt:oz L=oz (L.drop x):=bt;refine bj ?_;refine ch (λW=>?_) (λW=>?_)
 . obtain⟨t,U⟩:∃t,L[x]?=some t:=⟨_,cD (show x<L.length by omega)⟩
   refine bj ?_;refine aB rfl (gf rfl rfl (show x<L.length by omega)) ?_;refine aB rfl (kz rfl (kA td 2 alH U) rfl) ?_;refine wn λaL=>?_;refine cB ?_;refine ch (λM=>?_) (λM=>?_)
   . refine gd ?_
     exact aQ ⟨by rw[bt,Uq U,bg M],rfl⟩
   . refine C0 ?_
     refine gg (x+1) ⟨show x+1<=L.length by omega,by rw[bt,Uq U,a7 (by rw[M];decide)]⟩ (show L.length -(x+1)<L.length -x by omega) eb (au)
 . obtain rfl:x=L.length:=by omega
   rw[Ue]at bt;refine dB ?_;exact aQ ⟨by rw[bt];rfl,rfl⟩
def alP(i:Int):ab E 169 [af i,.pointer none] [] (aH fN []):=by
 refine av Tryz.func169 λH D=>?_;refine gq ?_;exact uj
def alQ(i b:Nat)(a:Option Addr)(p:Nat)(c:Int)(ws:List Int)(R:ws.length<=10)(ak:i<9223372036854775807):ab E 169 [af i,ptr b 0] [aa b BT [af c,.slice a ws.length p],nV a p ws] (λu I=>∃aD e,u=ptr b 0/\I=[aa b BT [af c,.slice aD (ws.length+1) e],nV aD e (((i+1:Nat):Int)::ws)]):=by
 refine av Tryz.func169 λH D=>?_;refine gq ?_;refine Aq ?_;refine wn λd=>?_;refine cn rfl (b9 rfl (alR a p ws ((i+1:Nat):Int) d ad) bN) ?_;rintro _ D ⟨_,⟨aD,e,rfl,rfl⟩,rfl⟩;refine fC ?_;refine fB ?_;exact aQ ⟨_,_,rfl,rfl⟩
def vT(h:ab P F args J (p3 r J))(e:r=none):ab P F args J (aH fN J):=by subst e;exact h
def vU(h:ab P F args J (p3 r J))(e:r=some (c,ws)):ab P F args J (λu I=>∃b a p,u=ptr b 0/\I=aa b BT [af c,.slice a ws.length p]::nV a p ws::J):=by subst e;exact h
def Mb(e:r=some (c,ws)){J:List al}{b:Nat}{a:Option Addr}{p:Nat}:p3 r J (ptr b 0) (aa b BT [af c,.slice a ws.length p]::nV a p ws::J):=by subst e;exact⟨_,_,_,rfl,rfl⟩
def UA(e:r=none){J:List al}:p3 r J fN J:=by subst e;exact cj
theorem vV(own:Int)(n:Nat)(aO:n<=9223372036854775807)(F:FuncId)(z:List Value)(J:List al)(d:Nat->ll)(aw:∀i c ws,d i=some (c,ws)->ws.length<=10)
 (hp:∀i,i<n->ab E F ([af i]++z) J (p3 (d i) J))(fI:fb E F:=by exact fl):ab E 97 [af own,af n,.func (.func F) #[] z.toArray] J (p3 (me own n d) J):=by
 refine av Tryz.func97 λH D=>?_;refine dB ?_;refine ch (λW=>?_) (λW=>?_)
 . have R:me own n d=some (own,[]):=by unfold me;rw[a7 ad]
   refine bR ?_;refine wn λf=>?_;refine bj ?_;exact aQ (I:=(aa f BT [af own,.slice none 0 0]::nV none 0 []::J)) (Mb R) (λ_ h=>Sat.tail (r:=J++D) (m:=nV none 0 []::(J++D)) (λ_ h=>Up _ h) h)
 . have R:me own n d=fst d 0 n:=by unfold me;rw[bg ad]
   refine dh ?_;refine hb (bv:=Nat) (λx=>x<=n/\me own n d=fst d x (n -x)) (λx=>[(15,af x),(14,af n),(2,.func (.func F) #[] z.toArray)]) (λ_=>J++D) (λx=>n -x) 0 (⟨fk _,R⟩) eb (λ_ h=>h) ?_;clear R;rintro x ⟨ah,R⟩;replace ah:x<=n:=ah;replace R:me own n d=fst d x (n -x):=R;refine bj ?_;refine ch (λM=>?_) (λM=>?_)
   . refine c4 ?_
     rcases K:d x with _|⟨c,ws⟩
     . refine bR ?_
       refine cn rfl (oB rfl rfl (vT (hp x ad) K) ui) ?_;rintro _ D ⟨_,⟨rfl,bf⟩,rfl⟩;refine fC ?_;obtain rfl:=bf.symm;refine aU (alP x) ?_;refine gd ?_;refine Mc ?_;refine gg (x+1) ⟨show x+1<=n by omega,by rw[R,Ur ad,K];rfl⟩ (show n -(x+1)<n -x by omega) eb (λ_ h=>h)
     . refine bR ?_
       refine cn rfl (oB rfl rfl (vU (hp x ad) K) ui) ?_;rintro _ D ⟨_,⟨b,a,p,rfl,rfl⟩,rfl⟩;refine fC ?_;refine cn rfl (b9 rfl (alQ x b a p c ws (aw x c ws K) ad) bN) ?_;rintro _ D ⟨_,⟨aD,e,rfl,rfl⟩,rfl⟩;refine fC ?_;refine gq ?_;refine b2 ?_;exact aQ (I:=(aa b BT [af c,.slice aD (((x+1:Nat):Int)::ws).length e]::nV aD e (((x+1:Nat):Int)::ws)::J)) (Mb (by rw[R,Ur (by omega),K];rfl)) (λ_ h=>h)
   . have T:me own n d=none:=by rw[R,show n -x=0 by omega];rfl
     refine dB ?_;exact aQ (I:=J) (UA T) (λ_ h=>h)
end
end Go.Proofs.YtnnhpnccfnghdaaGreat.C
namespace Go.Proofs.YtnnhpnccfnghdaaGreat.C
open Go.Proofs.YtnnhpnccfnghdaaGreat.L Go.L Go.L.Lx Go.L.Pg
attribute[local irreducible] G cJ GE c3 GT b1 dk c7 ds Exit.then Exit.inBlock
attribute[local irreducible] mc
def vW{A:al}{r:List al}{v:Value}{n:Nat}{xs:List Value}(B:∀h,A h->gI h v n xs):∀h,Sat (A::r) h->gI h v n xs:=λ_ ⟨_,_,_,e,a,_⟩=>e▸(B _ a).more
section
variable(A:al)(L:List cG){bo:List cr}(b n:Nat){z:List fU}(d:cr)(x:cG){Eq9:List Row}{D:List fF}{j:Nat}
def alS{e:fF}(h:D[j]?=some e):qW bo z D j=if uk bo z e (decide ((j:Int)=(D.length:Int) -1))=0 then none else some (uk bo z e (decide ((j:Int)=(D.length:Int) -1)),[]):=by unfold qW;rw[h]
def alT{r:Row}(h:Eq9[j]?=some r):p4 bo z Eq9 j=me (C1 Eq9 j r) r.cx.length (qW bo z r.cx):=by unfold p4;rw[h]
def alU{s:fU}(h:z[j]?=some s):pz bo z j=me (Gg z j s) s.rows.length (p4 bo z s.rows):=by unfold pz;rw[h]
def alV{k:cr}(h:bo[j]?=some k):qX bo j=me (x6 bo j k) k.states.length (pz bo k.states):=by unfold qX;rw[h]
def Md{own:Int}{n m:Nat}{D:Nat->ll}(aw:∀i c ws,D i=some (c,ws)->ws.length<=m):∀c ws,me own n D=some (c,ws)->ws.length<=m+1:=λc ws h=>by
 rcases alW h with rfl|⟨j,b,_,h2,rfl⟩
 . simp
 . have:=aw _ _ _ h2;simp;omega
def Me(j:Nat)(c:Int)(ws:List Int)(h:qW bo z D j=some (c,ws)):ws.length<=0:=by
 unfold qW at h;split at h
 . split at h
   . cases h
   . simp only[Option.some.injEq,Prod.mk.injEq]at h;rw[<-h.2];simp
 . cases h
def Mf(j:Nat)(c:Int)(ws:List Int)(h:p4 bo z Eq9 j=some (c,ws)):ws.length<=1:=by
 unfold p4 at h;split at h
 . exact Md (λi c ws=>Me i c ws) _ _ h
 . cases h
def Mg(j:Nat)(c:Int)(ws:List Int)(h:pz bo z j=some (c,ws)):ws.length<=2:=by
 unfold pz at h;split at h
 . exact Md (λi c ws=>Mf i c ws) _ _ h
 . cases h
def UB(j:Nat)(c:Int)(ws:List Int)(h:qX bo j=some (c,ws)):ws.length<=3:=by
 unfold qX at h;split at h
 . exact Md (λi c ws=>Mg i c ws) _ _ h
 . cases h
def UC{cs:List mb}{x:Nat}{c:mb}(h:cs[x]?=some c):um cs (x+1)=(um cs x||(cs.take x).any λd=>decide (d.reason=c.reason)):=by simp[um,h]
def alX{L:List cG}{i:Nat}{t x:cG}(h:L[i]?=some t)(h1:x∉L.take i)(h2:¬x=t):x∉L.take (i+1):=by
 obtain⟨O,e⟩:=dp.1 h;rw[nv O,e,kX];rintro(h|h)
 . exact h1 h
 . exact h2 (rN.1 h)
def alY(aO:L.length=n)(Y:n<=100):ab E 377 [.slice jA n n,S x] [aa b 9 (L.map S)] (λu I=>∃r:Int,(0<=r↔x∈L)/\u=af r/\I=[aa b 9 (L.map S)]):=by
 refine av Tryz.func377 λH D=>?_;subst aO;refine gd ?_;refine hb (bv:=Nat) (λi=>i<=L.length/\x∉L.take i) (λi=>[(8,af i),(7,af L.length),(0,.slice jA L.length L.length),(1,S x)]) (λ_=>aa b 9 (L.map S)::D) (λi=>L.length -i) 0 (⟨fk _,by simp⟩) eb (au) ?_;rintro i ⟨ak,bt⟩;replace ak:i<=L.length:=ak;replace bt:x∉L.take i:=bt;refine bj ?_;refine ch (λW=>?_) (λW=>?_)
 . obtain⟨t,U⟩:∃t,L[i]?=some t:=⟨_,cD (show i<L.length by omega)⟩
   refine eY ?_;refine aB rfl (gf rfl rfl (show i<L.length by omega)) ?_;refine aB rfl (gF rfl (show(L.map S)[i*1]?=some (S t) by rw[uo,fD,U];rfl)) ?_;refine aB rfl (pw rfl rfl) ?_;refine bb ?_;refine ch (λM=>?_) (λM=>?_)
   . refine fB ?_
     exact aQ ⟨_,⟨λ_=>M▸jH U,λ_=>by omega⟩,rfl,rfl⟩
   . refine C2 ?_
     refine gg (i+1) ⟨show i+1<=L.length by omega,alX U bt M⟩ (show L.length -(i+1)<L.length -i by omega) eb (au)
 . obtain rfl:i=L.length:=by omega
   rw[nT]at bt;refine dB ?_;exact aQ ⟨-1,⟨λh=>absurd h bw,λh=>absurd h bt⟩,rfl,rfl⟩
def UD(aO:L.length=n)(Y:n<=100):ab E 331 [.slice jA n n,S x] [aa b 9 (L.map S)] (aH (.bool (decide (x∈L))) [aa b 9 (L.map S)]):=by
 refine av Tryz.func331 λH D=>?_;refine cB ?_;refine bu (alY L b n x aO Y) ?_;rintro _ _ ⟨r,aF,rfl,rfl⟩;refine eM ?_;refine bj ?_;exact aQ ⟨Gb (by rw[o0,ln,ln];exact aF),rfl⟩
def UE(l:cG)(aw:l.length<=9223372036854775807):ab E 172 [S l] [] (aH (.bool (named l)) []):=by
 refine av Tryz.func172 λH D=>?_;refine bQ ?_;refine aB rfl (pw rfl rfl) ?_;refine aG ?_;refine hY rfl rfl (λW=>?_) (λW=>?_) rfl
 . have f:=bW W
   refine bb ?_;refine cn rfl (b9 rfl (C3 (l) ad) bN) ?_;refine gU ?_;refine Am ?_;exact aQ ⟨Gb (by unfold named;simp_all),rfl⟩
 . have f:=bW W
   simp only[iE];refine ct ?_;exact aQ ⟨Gb (by unfold named;simp_all),rfl⟩
def alZ(c:mb)(a6:fi c.reason.length):ab E 171 [.agg (jQ c).toArray] [A] (aH (.bool (tf c)) [A]):=by
 refine av Tryz.func171 λH D=>?_;unfold fi at a6;refine bb ?_;refine wn λar=>?_;refine ct ?_;refine cn rfl (b9 rfl (UE c.reason ad) bN) ?_;refine x7 ?_;refine mN (d:=16) 9 (.bool (tf c)) ?_ (λa=>?_)
 rotate_left
 . refine hY rfl rfl (λW=>?_) (λW=>?_) rfl
   . have f:=bW W
     refine ct ?_;refine hY rfl rfl (λM=>?_) (λM=>?_) rfl
     . have v:=bW M
       refine bj ?_;unfold tf at a;exact jo a
     . have v:=bW M
       simp only[iE];refine b2 ?_;unfold tf at a;exact jo a
   . have f:=bW W
     simp only[iE];refine bQ ?_;unfold tf at a;exact jo a
 refine bE ?_;exact aQ cj
def al0(d c:mb):ab E 173 [.agg (jQ d).toArray,ptr b 0] [A,aa b 89 (jQ c)] (aH (.bool (decide (d.reason=c.reason))) [A,aa b 89 (jQ c)]):=by
 refine av Tryz.func173 λH D=>?_;exact C4
def al1(c:cr):ab E 175 [.agg (eH d).toArray,ptr b 0] [A,aa b 78 (eH c)] (aH Mh [A,aa b 78 (eH c)]):=by
 refine av Tryz.func175 λH D=>?_;exact C4
def al2(d c:fU):ab E 222 [.agg (gB d).toArray,ptr b 0] [A,aa b 82 (gB c)] (aH Mh [A,aa b 82 (gB c)]):=by
 refine av Tryz.func222 λH D=>?_;exact C4
def al3(c:fF):ab E 329 [.agg (eH d).toArray,ptr b 0] [A,aa b 87 (fM c)] UF:=by
 refine av Tryz.func329 λH D=>?_;exact C4
def al4(d:fU)(c:fF):ab E 330 [.agg (gB d).toArray,ptr b 0] [A,aa b 87 (fM c)] UF:=by
 refine av Tryz.func330 λH D=>?_;exact C4
def al5(e:fF):ab E 275 [.agg (fM e).toArray] [A] (aH (.bool (decide (e.do'=4))) [A]):=by
 refine av Tryz.func275 λH D=>?_;refine bb ?_;refine wn λar=>?_;refine fB ?_;exact aQ cj
def al6(d c:Row):ab E 277 [.agg (gY d).toArray,ptr b 0] [A,aa b 85 (gY c)] (aH (.bool (uq d c)) [A,aa b 85 (gY c)]):=by
 refine av Tryz.func277 λH D=>?_;refine bb ?_;refine wn λV=>?_;refine cB ?_;refine aB rfl (pw rfl rfl) ?_;refine aG ?_;refine mN (d:=22) 13 (.bool (uq d c)) ?_ (λa=>?_)
 rotate_left
 . refine hY rfl rfl (λW=>?_) (λW=>?_) rfl
   . have f:=bW W
     refine c4 ?_;refine hY rfl rfl (λM=>?_) (λM=>?_) rfl
     . have v:=bW M
       refine dh ?_;unfold uq at a;exact jo a
     . have v:=bW M
       simp only[iE];refine bE ?_;unfold uq at a;exact jo a
   . have f:=bW W
     simp only[iE];refine dB ?_;unfold uq at a;exact jo a
 refine bE ?_;exact aQ cj
end
theorem al7{P:Program}{H:World}{n:Nat}{J:e6}{M D:List al}{fn:Func}{post:Value->List al->Prop}{e:Exit}(Y:e=.ret\/e=.normal){t1 i2 t3 t4 t5:Nat}{v1 u v3 v4 v5:Value}(ba:fn.results=#[.tmp t1,.tmp i2,.tmp t3,.tmp t4,.tmp t5])(h1:gN J t1=some v1)(h2:gN J i2=some u)(aN:gN J t3=some v3)(bA:gN J t4=some v4)(d3:gN J t5=some v5)
 (I:List al)(hp:post (.tuple #[v1,u,v3,v4,v5]) I)(B:∀h,Sat M h->Sat (I++D) h):GE H n J M vK:=
 xQ Y (λa w ai _=>by simp[results,ba,ai.val _ _ h1,ai.val _ _ h2,ai.val _ _ aN,ai.val _ _ bA,ai.val _ _ d3]) I hp B
def al8{a b c d e aD l aI p y:Bool}(h1:a=aD)(h2:b=l)(aN:c=aI)(bA:d=p)(d3:e=y):Value.tuple #[.bool a,.bool b,.bool c,.bool d,.bool e]=.tuple #[.bool aD,.bool l,.bool aI,.bool p,.bool y]:=by subst h1 h2 aN bA d3;rfl
def al9(d:Int):ab E 328 [af d] [] (aH (.tuple #[.bool (Gh d),.bool (Gi d),.bool (C5 d),.bool (Mi d),.bool (Gj d)]) []):=by
 refine av Tryz.func328 λH D=>?_;refine s0 ?_;refine bj ?_;refine ch (λW=>?_) (λW=>?_)
 . refine gq ?_
   refine bj ?_;exact C6
 . refine cB ?_
   refine ch (λM=>?_) (λM=>?_)
   . refine gq ?_
     refine bQ ?_;exact C6
   . refine dh ?_
     refine ch (λL=>?_) (λL=>?_)
     . refine bb ?_
       refine ch (λf9=>?_) (λf9=>?_)
       . exact Gk
       . refine cB ?_
         refine ch (λw=>?_) (λw=>?_)
         . exact UG
         . refine cB ?_
           refine ch (λl=>?_) (λl=>?_)
           . exact Gk
           . refine cB ?_
             refine ch (λm=>?_) (λm=>?_)
             . refine bb ?_
               refine ch (λq=>?_) (λq=>?_)
               . exact Ar
               . exact As
             . refine bj ?_
               refine ch (λy=>?_) (λy=>?_)
               . refine bb ?_
                 refine ch (λn=>?_) (λn=>?_)
                 . exact Ar
                 . exact As
               . refine bE ?_
                 refine ch (λr=>?_) (λr=>?_)
                 . exact Ar
                 . exact As
     . refine bE ?_
       refine ch (λs=>?_) (λs=>?_)
       . exact Gk
       . refine cB ?_
         refine ch (λz=>?_) (λz=>?_)
         . exact UG
         . refine cB ?_
           refine ch (λo=>?_) (λo=>?_)
           . exact Gk
           . refine cB ?_
             refine ch (λC=>?_) (λC=>?_)
             . refine bb ?_
               refine ch (λJ=>?_) (λJ=>?_)
               . exact Ar
               . exact As
             . refine bj ?_
               refine ch (λqr=>?_) (λqr=>?_)
               . refine bb ?_
                 refine ch (λrg=>?_) (λrg=>?_)
                 . exact Ar
                 . exact As
               . refine bE ?_
                 refine ch (λp=>?_) (λp=>?_)
                 . exact Ar
                 . exact As
def ama(bZ:Option Addr)(pc:Nat)(bo:List cr)(A:al)(B:∀h,A h->h8 h bZ pc bo)(aA:∃h,h8 h bZ pc bo)(k:cr)(hk:k∈bo)(e:fF)(Y:CJ e)(last:Bool):ab E 279 [.agg #[.slice bZ bo.length pc],.agg (eH k).toArray,.agg (fM e).toArray,.bool last] [A] (aH (af (uk bo k.states e last)) [A]):=by
 refine av Tryz.func279 λH D=>?_;haveI ro:gw Gl A bo.length (bo.flatMap eH):=⟨λh=>(B _ h).rd.1⟩;obtain⟨bi,g⟩:=aA;have ol:=g.len;unfold fi at ol;have cd:=g.kinds k hk;have R:=cd.lens;have X:=cd.s6;have md:=cd.name;unfold fi at R X md;haveI jP:gw CD A k.states.length CE:=⟨λh=>((B _ h).kinds k hk).sA.1⟩;haveI Do:gw Ag A k.cases.length vL:=⟨λh=>((B _ h).kinds k hk).sz.1⟩;obtain⟨UV,u,WF⟩:=Y;unfold fi at UV u WF;refine bb ?_;refine wn λaL=>?_;refine wn λaR=>?_;refine wn λaM=>?_;refine ct ?_;refine aU (al9 e.do') ?_;refine eY ?_;refine b2 ?_;refine cn rfl (b9 rfl (Uw bo bZ pc 329 [ptr aM 0] [A,aa aM 87 (fM e)] (λd=>decide (d.name=e.name)) ad (vW λh a=>(B h a).rd.1) (λd _=>al3 A aM d e)) bN) ?_;refine gU ?_;refine fC ?_;refine bQ ?_;refine cn rfl (b9 rfl (Uy k.states k.sa k.sc 330 [ptr aM 0] [A,aa aM 87 (fM e)] (λd=>decide (d.name=e.name)) ad (vW λh a=>((B h a).kinds k hk).sA.1) (λd _=>al4 A aM d e)) bN) ?_;refine Mj ?_;refine iu [11,14,29,32,49,149,150] [11,14,29,32,49] (0::4::8::12::36::40::109::181::249::333::337::341::405::409::413::477::481::485::545::549::553::17::21::25::29::UH) [aa aM 87 (fM e)] ?_;refine gq ?_;refine aG ?_;refine p5 (d:=44) UH (.bool (aC e)) ?_ (λNo=>?_)
 rotate_left
 . refine hn (j:=3) rfl rfl (λW=>?_) (λW=>?_)
   . exact UI
   . exact UI
 refine pA (bd.cons (t:=175) rfl (bd.cons (t:=158) rfl (bd.cons (t:=140) rfl (bd.cons (t:=122) rfl (bd.cons (t:=99) rfl (bd.cons (t:=82) rfl (bd.cons (t:=64) rfl (bd.cons (t:=47) rfl (bd.cons (t:=44) rfl UJ))))))))) ?_;refine aG ?_;refine p5 (d:=62) UK (.bool (aV e)) ?_ (λb=>?_)
 rotate_left
 . refine hn (j:=10) rfl rfl (λM=>?_) (λM=>?_)
   . have v:=bW M
     refine bb ?_;refine x8 rfl (.yes rfl rfl M) rfl (p6 (cs:=Mk.map S) rfl rfl rfl rfl) ?_;rintro _ _ ⟨DD,rfl,rfl⟩;refine aG ?_;refine pB rfl (.yes rfl rfl M) rfl (b9 rfl (UD Mk DD 7 e.ref rfl bw) bN) ?_;refine Au ?_;refine hn (j:=17) rfl rfl (λL=>?_) (λL=>?_)
     . have F:=bW L
       refine bQ ?_;unfold aV at b;exact kp b M L
     . have F:=bW L
       refine b2 ?_;refine hn (j:=20) rfl rfl (λf9=>?_) (λf9=>?_)
       . have Z:=bW f9
         refine bb ?_;refine jJ rfl (.yes rfl rfl f9) rfl x9 (au) ?_;refine bb ?_;unfold aV at b;exact p7 b M L f9
       . have Z:=bW f9
         refine bE ?_;unfold aV at b;exact p7 b M L f9
   . have v:=bW M
     refine dh ?_;refine hn (j:=20) rfl rfl (λw=>?_) (λw=>?_)
     . have m7:=bW w
       refine bb ?_;refine jJ rfl (.yes rfl rfl w) rfl x9 (au) ?_;refine bb ?_;unfold aV at b;exact kp b M w
     . have m7:=bW w
       refine bE ?_;unfold aV at b;exact kp b M w
 refine pA (bd.cons (t:=175) rfl (bd.cons (t:=158) rfl (bd.cons (t:=140) rfl (bd.cons (t:=122) rfl (bd.cons (t:=99) rfl (bd.cons (t:=82) rfl (bd.cons (t:=64) rfl (bd.cons (t:=62) rfl Av)))))))) ?_;refine bb ?_;refine p5 (d:=80) UL (.bool (bF e)) ?_ (λc=>?_)
 rotate_left
 . refine hn (j:=28) rfl rfl (λl=>?_) (λl=>?_)
   . have rt:=bW l
     refine bb ?_;refine x8 rfl (.yes rfl rfl l) rfl (p6 (cs:=Ml.map S) rfl rfl rfl rfl) ?_;rintro _ _ ⟨WP,rfl,rfl⟩;refine aG ?_;refine pB rfl (.yes rfl rfl l) rfl (b9 rfl (UD Ml WP 4 e.slot rfl bw) bN) ?_;refine Au ?_;refine hn (j:=35) rfl rfl (λm=>?_) (λm=>?_)
     . have m8:=bW m
       refine bQ ?_;unfold bF at c;exact kp c l m
     . have m8:=bW m
       refine b2 ?_;refine hn (j:=38) rfl rfl (λq=>?_) (λq=>?_)
       . have pi:=bW q
         refine bb ?_;refine jJ rfl (.yes rfl rfl q) rfl x9 (au) ?_;refine bb ?_;unfold bF at c;exact p7 c l m q
       . have pi:=bW q
         refine bE ?_;unfold bF at c;exact p7 c l m q
   . have rt:=bW l
     refine dh ?_;refine hn (j:=38) rfl rfl (λy=>?_) (λy=>?_)
     . have NX:=bW y
       refine bb ?_;refine jJ rfl (.yes rfl rfl y) rfl x9 (au) ?_;refine bb ?_;unfold bF at c;exact kp c l y
     . have NX:=bW y
       refine bE ?_;unfold bF at c;exact kp c l y
 refine pA (bd.cons (t:=175) rfl (bd.cons (t:=158) rfl (bd.cons (t:=140) rfl (bd.cons (t:=122) rfl (bd.cons (t:=99) rfl (bd.cons (t:=82) rfl (bd.cons (t:=80) rfl Aw))))))) ?_;refine bb ?_;refine p5 (d:=97) UM (.bool (dx e)) ?_ (λi=>?_)
 rotate_left
 . refine hn (j:=46) rfl rfl (λn=>?_) (λn=>?_)
   . have Ok:=bW n
     refine bb ?_;refine pB rfl (.yes rfl rfl n) rfl (b9 rfl (C3 (e.name) ad) bN) ?_;refine Au ?_;refine hn (j:=52) rfl rfl (λr=>?_) (λr=>?_)
     . have abs:=bW r
       refine bQ ?_;unfold dx at i;exact kp i n r
     . have abs:=bW r
       refine b2 ?_;refine hn (j:=55) rfl rfl (λs=>?_) (λs=>?_)
       . have acl:=bW s
         refine bb ?_;refine tg rfl (.yes rfl rfl s) rfl x9 ?_;refine bb ?_;unfold dx at i;exact p7 i n r s
       . have acl:=bW s
         refine bE ?_;unfold dx at i;exact p7 i n r s
   . have Ok:=bW n
     refine cB ?_;refine hn (j:=55) rfl rfl (λz=>?_) (λz=>?_)
     . have adc:=bW z
       refine bb ?_;refine tg rfl (.yes rfl rfl z) rfl x9 ?_;refine bb ?_;unfold dx at i;exact kp i n z
     . have adc:=bW z
       refine bE ?_;unfold dx at i;exact kp i n z
 refine pA (bd.cons (t:=175) rfl (bd.cons (t:=158) rfl (bd.cons (t:=140) rfl (bd.cons (t:=122) rfl (bd.cons (t:=99) rfl (bd.cons (t:=97) rfl Ax)))))) ?_;refine bb ?_;refine p5 (d:=118) UN (.bool (ho e)) ?_ (λI=>?_)
 rotate_left
 . refine hn (j:=63) rfl rfl (λo=>?_) (λo=>?_)
   . have agg:=bW o
     refine bR ?_;refine hn (j:=67) rfl rfl (λC=>?_) (λC=>?_)
     . have aig:=bW C
       refine gd ?_;unfold ho at I;exact kp I o C
     . have aig:=bW C
       refine bj ?_;refine hn (j:=73) rfl rfl (λJ=>?_) (λJ=>?_)
       . have and:=bW J
         refine bQ ?_;unfold ho at I;exact p7 I o C J
       . have and:=bW J
         refine b2 ?_;refine hn (j:=76) rfl rfl (λqr=>?_) (λqr=>?_)
         . exact UO
         . exact UO
   . have agg:=bW o
     refine fB ?_;refine hn (j:=76) rfl rfl (λrg=>?_) (λrg=>?_)
     . exact UP
     . exact UP
 refine pA (bd.cons (t:=175) rfl (bd.cons (t:=158) rfl (bd.cons (t:=140) rfl (bd.cons (t:=122) rfl (bd.cons (t:=118) rfl Ay))))) ?_;refine bb ?_;refine p5 (d:=136) UQ (.bool (ur e)) ?_ (λN=>?_)
 rotate_left
 . refine hn (j:=86) rfl rfl (λp=>?_) (λp=>?_)
   . have any:=bW p
     refine fB ?_;unfold ur at N;exact kp N p p
   . have any:=bW p
     refine bE ?_;refine hn (j:=91) rfl rfl (λrx=>?_) (λrx=>?_)
     . have are:=bW rx
       refine bQ ?_;unfold ur at N;exact kp N p rx
     . have are:=bW rx
       refine b2 ?_;refine hn (j:=94) rfl rfl (λFr=>?_) (λFr=>?_)
       . exact UR
       . exact UR
 refine pA (bd.cons (t:=175) rfl (bd.cons (t:=158) rfl (bd.cons (t:=140) rfl (bd.cons (t:=136) rfl Az)))) ?_;refine bb ?_;refine p5 (d:=154) US (.bool (qY e)) ?_ (λO=>?_)
 rotate_left
 . refine hn (j:=104) rfl rfl (λK=>?_) (λK=>?_)
   . have arg:=bW K
     refine fB ?_;unfold qY at O;exact kp O K K
   . have arg:=bW K
     refine bE ?_;refine hn (j:=109) rfl rfl (λs2=>?_) (λs2=>?_)
     . have atR:=bW s2
       refine bQ ?_;unfold qY at O;exact kp O K s2
     . have atR:=bW s2
       refine b2 ?_;refine hn (j:=112) rfl rfl (λGP=>?_) (λGP=>?_)
       . exact UT
       . exact UT
 refine pA (bd.cons (t:=175) rfl (bd.cons (t:=158) rfl (bd.cons (t:=154) rfl UU))) ?_;refine bb ?_;refine p5 (d:=171) UW (.bool (vX bo k.states e)) ?_ (λT=>?_)
 rotate_left
 . refine hn (j:=122) rfl rfl (λU=>?_) (λU=>?_)
   . have aux:=bW U
     refine bR ?_;refine hn (j:=126) rfl rfl (λt2=>?_) (λt2=>?_)
     . have aBT:=bW t2
       refine bQ ?_;unfold vX rO ya at T;exact kp T U t2
     . have aBT:=bW t2
       refine bR ?_;refine hn (j:=130) rfl rfl (λGS=>?_) (λGS=>?_)
       . exact UX
       . exact UX
   . have aux:=bW U
     refine bQ ?_;refine hn (j:=130) rfl rfl (λGW=>?_) (λGW=>?_)
     . exact UY
     . exact UY
 refine pA (bd.cons (t:=175) rfl (bd.cons (t:=171) rfl (bd.cons (t:=155) rfl UU))) ?_;refine bb ?_;refine p5 (d:=184) [592,598,602,604] (.bool (yb e last)) ?_ (λEq=>?_)
 rotate_left
 . refine hn (j:=139) rfl rfl (λV=>?_) (λV=>?_)
   . have aBU:=bW V
     refine bQ ?_;unfold yb at Eq;exact kp Eq V V
   . have aBU:=bW V
     refine bE ?_;refine hn (j:=144) rfl rfl (λHx=>?_) (λHx=>?_)
     . exact UZ
     . exact UZ
 refine pA (bd.cons (t:=184) rfl (bd.cons (t:=172) rfl (bd.cons (t:=155) rfl (bd.cons (t:=137) rfl (bd.cons (t:=119) rfl (bd.cons (t:=98) rfl (bd.cons (t:=81) rfl (bd.cons (t:=63) rfl (bd.cons (t:=45) rfl (bd.cons (t:=36) rfl (bd.cons (t:=35) rfl (bd.cons (t:=34) rfl (bd.cons (t:=33) rfl (bd.cons (t:=32) rfl (bd.cons (t:=31) rfl (bd.cons (t:=30) rfl (bd.cons (t:=29) rfl (bd.cons (t:=28) rfl (bd.cons (t:=27) rfl (bd.cons (t:=26) rfl (bd.cons (t:=25) rfl (bd.cons (t:=24) rfl (bd.cons (t:=23) rfl (bd.cons (t:=22) rfl (bd.cons (t:=21) rfl (bd.cons (t:=20) rfl (bd.cons (t:=19) rfl (bd.cons (t:=18) rfl (bd.cons (t:=17) rfl (bd.cons (t:=16) rfl (bd.cons (t:=15) rfl (bd.cons (t:=14) rfl (bd.cons (t:=13) rfl (bd.cons (t:=12) rfl (bd.cons (t:=11) rfl (bd.cons (t:=10) rfl (bd.cons (t:=9) rfl (bd.cons (t:=8) rfl (bd.cons (t:=6) rfl (bd.cons (t:=5) rfl (bd.cons (t:=4) rfl U0))))))))))))))))))))))))))))))))))))))))) ?_;refine aG ?_;refine x8 rfl .none rfl (p6 (cs:=[(aC e,43),(aV e,43),(bF e,43),(dx e,43),(ho e,43),(ur e,43),(qY e,43),(vX bo k.states e,42),(yb e last,44)].flatMap td) rfl rfl rfl rfl) ?_;rintro _ _ ⟨aBV,rfl,rfl⟩;refine aG ?_;refine pB rfl .none rfl (b9 rfl (CZ [(aC e,43),(aV e,43),(bF e,43),(dx e,43),(ho e,43),(ur e,43),(qY e,43),(vX bo k.states e,42),(yb e last,44)] aBV gl) bN) ?_;refine gU ?_;refine Am ?_;exact aQ cj
end Go.Proofs.YtnnhpnccfnghdaaGreat.C
