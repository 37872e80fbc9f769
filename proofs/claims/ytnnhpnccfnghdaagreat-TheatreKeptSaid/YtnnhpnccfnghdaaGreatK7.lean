import Derived.Test.YtnnhpnccfnghdaaGreatK5
set_option linter.all false
set_option maxRecDepth 8000
set_option maxHeartbeats 23200000
namespace Go.Proofs.YtnnhpnccfnghdaaGreat.L
open Go.L Go.L.Whl
section
variable(p:Nat)(w:gd)(id:Int)
theorem aCr(a:Option Addr)(c n:Nat)(l m:List bE)(aS:l.length=n)(hp:l.Perm m)(aj:m.Pairwise (λa b=>a.seq<b.seq))(bo:∀t∈m,t.seq<4611686018427387904)(az:l.length<=1000):
 ad aa 257 xj [own u9 336 3 n (l.flatMap te)] aaP:=by subst aS;exact ali a c l m hp aj bo az
def anb(O:j5 w)(bo:w.seq<4611686018427387904):ad aa 205 [ptr p 0] [fO p w] (λu H=>∃aE aK,u=.slice aE w.T.length aK/\H=[own (.slice aE w.T.length aK) 36 1 w.T.length (w.T.map λt=>bu t.id),fO p w]):=by
 refine ku Tryz.func205 rfl rfl rfl ?_;refine Kr ?_;intro F D z K;replace K:nZ w z:=K;refine atc ?_;intro hlen az T ao Z;refine zv ?_;refine lh (cA (fR:=λ_=>True) (l:=λx:Option Addr×Nat=>[ab Z 282 [.slice x.1 0 x.2],own (.slice x.1 0 x.2) 336 3 0 (((z.flatMap (·.l)).take 0).flatMap te)]) (none,0) trivial YV) ?_;rw[show df (bx:=Option Addr×Nat) (λ_=>True) (λx=>[ab Z 282 [.slice x.1 0 x.2],own (.slice x.1 0 x.2) 336 3 0 (((z.flatMap (·.l)).take 0).flatMap te)])=F0 z Z 0 from rfl];refine zs ?_;refine aA rfl (KN rfl rfl) ?_;refine cj rfl (b4 rfl (T0 [ptr Z 0] (F0 z Z) (λ_=>true) p w.now w.seq z hlen az (λl s i x t aw aj ag R g3=>aCq z l s i _ t Z (by have:=(dd.1 (LW ag R)).1;omega) (LW ag R))) bI) ?_;rintro _ D ⟨_,⟨rfl,k,hk,rfl⟩,rfl⟩;refine fj ?_;obtain rfl:k=w.T.length:=by
  exact ar2
 refine zv ?_;refine kB ek ?_;rintro⟨a,c⟩ -;refine gb ?_;rw[y2 ae];refine jb ?_;refine J1 ?_;refine cj rfl (b4 rfl (aCr a c w.T.length (z.flatMap (·.l)) w.T T K.flat O.x5 (λt R=>by have:=O.sb t R;omega) ae) (.cons (.tail .head) .nil)) ?_;refine ae2 ?_;intro aE aK;refine jm (.inl rfl) rfl rfl [own (.slice aE w.T.length aK) 36 1 w.T.length (w.T.map λt=>bu t.id),fO p w] (⟨aE,aK,rfl,rfl⟩) (λh s=>Sat.swap (xm z K (au) h s))
theorem asJ(d:Int)(O:j5 w)(aS:w.now<3000000000000000000)(bo:w.seq<4611686018427387903):ad aa 312 Dc [fO p w] (aF (af (n3 w id d)) JJ):=by
 refine ku Tryz.func312 rfl rfl rfl ?_;refine YO ?_;intro F D;refine aA rfl (yL rfl rfl) ?_;refine km ?_;refine hU rfl rfl (λW=>?_) (λW=>?_) rfl
 . have f:=W
   replace f:=bR f;refine km ?_;refine o8 rfl rfl W ?_;refine aA rfl (B2 rfl rfl) ?_;refine aA rfl (yX W rfl rfl) ?_;refine oR ?_;refine mR rfl (λI=>?_) (λI=>?_)
   . replace I:=bR I
     exact afW
   . replace I:=bR I
     refine rv ?_;refine aeZ ?_;refine cj rfl (b4 rfl (aCm p w id O) bI) ?_;rintro _ D ⟨_,⟨⟨l,s,i,t,b,rfl,a8⟩,rfl⟩,rfl⟩;refine fj ?_;refine afy ?_;rintro _ _ ⟨c2,rfl,rfl⟩;refine afZ ?_;refine jb ?_;refine Kb ?_;refine mR rfl (λL=>?_) (λL=>?_)
     . replace L:=bR L
       have aX:w.get id=some t:=by
        rcases a8 with⟨_,h,_⟩|⟨h,_⟩
        . exact h
        . rw[h]at L;cases L
       refine Ig ?_;refine jm (.inl rfl) rfl rfl JJ (⟨by rw[alm ae aX],rfl⟩) (by rw[RF (by rw[alm (by omega) aX];decide)];exact(au))
     . replace L:=bR L
       have aX:w.get id=none:=by
        rcases a8 with⟨h,_⟩|⟨_,h,_⟩
        . rw[h]at L;cases L
        . exact h
       refine J7 ?_;refine xq ?_;refine cj rfl (b4 rfl (aCo p w O) bI) ?_;refine gP ?_;refine fj ?_;refine aA rfl (Af rfl rfl) ?_;refine oR ?_;refine mR rfl (λfV=>?_) (λfV=>?_)
       . replace fV:=bR fV
         refine Ig ?_;refine jm (.inl rfl) rfl rfl JJ (⟨by rw[aln ae aX ae],rfl⟩) (by rw[RF (by rw[aln (by omega) aX (by omega)];decide)];exact(au))
       . replace fV:=bR fV
         refine J7 ?_;refine kB ek ?_;rintro z K;replace K:nZ w z:=K;have hlen:=K.hlen;have az:=K.az O;refine gb ?_;refine Rh ?_;refine aA rfl sm ?_;refine aA rfl (fo ((w.seq+1:Nat):Int) eV rfl rfl) ?_;refine adQ ?_;rw[show(oq w.now w.seq z).set (0+1) (af ((w.seq+1:Nat):Int))=oq w.now (w.seq+1) z from rfl];refine zv ?_;refine h9 [13] [] [(0,.loc),(1,.loc),(2,.loc),(3,.loc),(4,.loc),(5,.loc),(6,.loc),(7,.loc),(8,.loc),(9,.loc),(10,.loc),(11,.loc),(12,.loc),(13,.c0)] [] mixed gS ?_;refine Q1 ?_;refine aeT ?_;refine go_v rfl .none rfl (fo ((w.now+d.toNat:Nat):Int) eV rfl rfl) ?_;refine pw ?_;refine go_v rfl .none rfl (lR rfl) ?_;refine Oz ?_;refine go_v rfl .none rfl sm ?_;refine go_v rfl .none rfl (kX rfl rfl) ?_;refine go_c rfl .none rfl (b4 rfl (alh p w.now (w.seq+1) z ⟨id,w.now+d.toNat,w.seq+1⟩ ae (show w.now+d.toNat<4000000000000000000 by omega) hlen az) bI) ?_;rintro _ D ⟨_,⟨rfl,a,J,rfl⟩,rfl⟩;refine fj ?_;refine⟨(λC=>absurd C bN),?_⟩;refine go_nil ?_;refine afA ?_;refine jm (.inl rfl) rfl rfl [fO p ⟨w.now,w.seq+1,w.T++[⟨id,w.now+d.toNat,w.seq+1⟩]⟩] (⟨by rw[alo ae aX ae],by unfold rp;rw[bg (alo ae aX ae)]⟩) (xm a (by rw[J];exact iC.lay K _ (T2 _ _)) (au))
 . have f:=W
   replace f:=bR f;simp only[iD];refine Hh rfl rfl W rfl ?_;refine aA rfl (D3 W rfl rfl) ?_;refine oR ?_;refine wx rfl ?_;exact afW
theorem asZ(O:j5 w):ad aa 313 JQ [fO p w] (aF (.bool (w.get id).isSome) [fO p (r5 w id)]):=by
 refine ku Tryz.func313 rfl rfl rfl ?_;refine Kr ?_;intro F D z K;replace K:nZ w z:=K;have hlen:=K.hlen;have az:=K.az O;refine af3 ?_;refine km ?_;refine cj rfl (b4 rfl (alk p w.now w.seq z id hlen az) bI) ?_;rintro _ D ⟨_,⟨⟨l,s,i,t,b,rfl,a⟩,rfl⟩,rfl⟩;refine fj ?_;have a8:=nZ.found K O a;refine afy ?_;rintro _ _ ⟨V,rfl,rfl⟩;refine afZ ?_;refine xq ?_;refine oR ?_;refine mR rfl (λW=>?_) (λW=>?_)
 . replace W:=bR W
   have aX:w.get id=some t:=by
    rcases a8 with⟨_,h,_⟩|⟨h,_⟩
    . exact h
    . rw[h]at W;cases W
   have cv:=(get_mem aX).2;obtain⟨x,ag,R,d,c⟩:∃x,z[8*l+s]?=some x/\x.l[i]?=some t/\l<4/\s<8:=by
    rcases a with⟨_,h1,h2,⟨x,aH,bm⟩,_⟩|⟨h,_⟩
    . exact⟨x,aH,bm,h1,h2⟩
    . rw[h]at W;cases W
   have al:i<x.l.length:=(dd.1 R).1;refine u6 ek (DT ag) ?_;refine h9 [14,19] [14] [(0,.bJ),(1,.bJ),(2,.bJ),(3,.loc),(4,.loc),(5,.loc),(6,.loc),(7,.loc),(8,.loc),(9,.loc),(10,.loc),(11,.loc),(12,.loc),(13,.loc),(15,.bJ),(16,.bJ),(17,.bJ),(14,.c0),(18,.loc),(19,.c0)] [mq p w.now w.seq z] mixed gS ?_;refine ad9 ?_;refine pw ?_;refine Oy ?_;refine go_v rfl .none rfl (lU rfl rfl d) ?_;refine go_v rfl .none rfl (lU rfl rfl c) ?_;refine go_v rfl .none rfl (o_load rfl (FX ag)) ?_;refine Q1 ?_;refine go_v rfl .none rfl aa6 ?_;refine go_vs rfl .none rfl (lR rfl) (au) ?_;refine QM ?_;refine go_vs rfl .none rfl (lU rfl rfl d) (au) ?_;refine go_c rfl .none rfl (b4 rfl (aCd x.a x.c i x.l al (az x y9)) bI) ?_;refine gP ?_;refine fj ?_;refine⟨vr,?_⟩;refine go_v rfl .none rfl (lU rfl rfl c) ?_;refine acZ ?_;rw[LV OH];refine go_nil ?_;refine uM (gu ek ek hW) ?_;refine KG ?_;refine jm (.inl rfl) rfl rfl [fO p (r5 w id)] (⟨by rw[aX,W];rfl,rfl⟩) (xm (z.set (8*l+s) ⟨x.a,x.c,x.l.eraseIdx i⟩) (by rw[tL];have:=iC.cut K O.nd (by rw[fe,ag];rfl) R;rw[cv]at this;exact this) IM)
 . replace W:=bR W
   have aX:w.get id=none:=by
    rcases a8 with⟨h,_⟩|⟨_,h,_⟩
    . rw[h]at W;cases W
    . exact h
   refine rv ?_;refine KG ?_;refine jm (.inl rfl) rfl rfl [fO p (r5 w id)] (⟨by rw[aX,W];rfl,rfl⟩) (by rw[aCs aX];exact xm z K (au))
def amX(O:j5 w)(aS:w.now<3000000000000000000)(bo:w.seq<4611686018427387904):ad aa 311 [ptr p 0] [fO p w] (λu H=>∃aE aK,u=.slice aE (nw w).length aK/\H=[own (.slice aE (nw w).length aK) 36 1 (nw w).length ((nw w).map λt=>bu t.id),fO p (uH w)]):=by
 refine ku Tryz.func311 rfl rfl rfl ?_;refine Kr ?_;intro F D z K;replace K:nZ w z:=K;have hlen:=K.hlen;have az:=K.az O;refine agw ?_;refine aA rfl sm ?_;refine aA rfl (fo ((w.now+1:Nat):Int) eV rfl rfl) ?_;refine adQ ?_;rw[show(oq w.now w.seq z).set 0 (af ((w.now+1:Nat):Int))=oq (w.now+1) w.seq z from rfl];refine zv ?_;refine Kt ?_;refine tx ?_;refine gO (bx:=Nat×List kL) (λx=>x.1<=3/\iC (q9 (w.now+1) x.1) w.T (x.2.map (·.l))) (λx=>[(3,af x.1),(0,ptr p 0)]) (λx=>mq p (w.now+1) w.seq x.2::om x.2::D) (λx=>x.1) (3,z) (⟨eh _,K⟩) (bd.cons rfl (bd.cons rfl (bd.nil))) (au) ?_;rintro⟨l,a⟩ ⟨r,d⟩;replace r:l<=3:=r;replace d:iC (q9 (w.now+1) l) w.T (a.map (·.l)):=d;have U:a.length=32:=by simpa using d.1
 dsimp only;refine hA ?_;refine xq ?_;refine aA rfl (B2 rfl rfl) ?_;refine oR ?_;refine mR rfl (λW=>?_) (λW=>?_)
 . replace W:=bR W
   refine J7 ?_;refine tx ?_;refine hA ?_;refine h9 [] [] [(0,.loc),(1,.loc),(2,.loc),(3,.loc),(4,.loc),(5,.loc),(6,.loc),(7,.loc),(8,.loc)] [] mixed gS ?_;refine aeT ?_;refine go_v rfl .none rfl (rs ((3*l:Nat):Int) eV rfl rfl) ?_;refine go_v rfl .none rfl (apW ((2^(3*l):Nat):Int) (aCt r) rfl rfl ae Ec) ?_;refine go_v rfl .none rfl (ts (((w.now+1)%2^(3*l):Nat):Int) (Bg _ _) rfl rfl (by have:=Nat.two_pow_pos (3*l);omega)) ?_;refine go_v rfl .none rfl (nb rfl rfl) ?_;refine go_nil ?_;refine hB ?_;refine mR rfl (λI=>?_) (λI=>?_)
   . replace I:=bR I
     have T:(w.now+1)%2^(3*l)=0:=ae;obtain⟨s,aj⟩:∃s,s=kx l (w.now+1)%8:=⟨_,rfl⟩;have c:s<8:=ae;obtain⟨x,ag⟩:∃x,a[8*l+s]?=some x:=⟨_,cq ae⟩;have B:=(iC.jK d (j:=8*l+s) (l:=x.l) (by rw[fe,ag];rfl)).2;have X:x.l.length<=64:=by
      have aH:=B.length_eq;have bm:=qG (λt=>decide (q9 (w.now+1) l t=8*l+s)) w.T;have:=O.len;omega
     have V:pM (q9 (w.now+1) l) (hh (w.now+1)) w.T (8*l+s) x.l 0 ((a.set (8*l+s) ⟨none,0,[]⟩).map (·.l)):=by
      have:=pM.start (g:=hh (w.now+1)) d (E:=8*l+s) ae;rw[je,fe,ag]at this;rw[tL];exact this
     refine hA ?_;refine aeS ?_;refine km ?_;refine aA rfl (rs ((3*l:Nat):Int) eV rfl rfl) ?_;refine aA rfl (H4 ((kx l (w.now+1):Nat):Int) (KI _ _) rfl rfl ae Ec) ?_;refine aA rfl (ts ((kx l (w.now+1)%8:Nat):Int) (Bg _ 8) rfl rfl bN) ?_;rw[<-aj];refine BY ?_;refine afY ?_;refine aA rfl (o_load rfl (FX ag)) ?_;refine BY ?_;refine u6 ek (DT ag) ?_;refine afY ?_;refine iF (mi rfl rfl rfl ZM) ?_;rw[LV (m:=[]) (n:=0) rfl];refine ib ?_;refine uM (ii (e:=336) (aT:=3)) ?_;refine uM (gu (A:=so ⟨none,0,[]⟩) (i:=8*l+s) (l:=a.map so) .head ek hW) ?_;refine hB ?_;refine hA ?_;refine afu ?_;refine gO (bx:=Nat×List kL) (λy=>y.1<=x.l.length/\pM (q9 (w.now+1) l) (hh (w.now+1)) w.T (8*l+s) x.l y.1 (y.2.map (·.l))) (λy=>[(55,af y.1),(54,af x.l.length),(53,FW x),(3,af l),(0,ptr p 0)]) (λy=>mq p (w.now+1) w.seq y.2::om y.2::so x::D) (λy=>x.l.length -y.1) (0,a.set (8*l+s) ⟨none,0,[]⟩) (⟨fc _,V⟩) (bd.cons rfl (bd.cons rfl (bd.cons rfl (bd.cons rfl (bd.cons rfl (bd.nil)))))) IM ?_;rintro⟨k,q⟩ ⟨hk,o⟩;replace hk:k<=x.l.length:=hk;replace o:pM (q9 (w.now+1) l) (hh (w.now+1)) w.T (8*l+s) x.l k (q.map (·.l)):=o;have b:q.length=32:=by simpa using o.1
     dsimp only;refine EQ ?_;refine mR rfl (λL=>?_) (λL=>?_)
     . replace L:=bR L
       obtain⟨t,R⟩:∃t,x.l[k]?=some t:=⟨_,cq ae⟩;have C:t∈w.T:=(oO.1 (B.subset (h0 R))).1;refine Rx ?_;refine aA rfl (fA rfl rfl (show k<x.l.length by omega)) ?_;refine QV ?_;rintro _ _ ⟨bW,rfl,rfl⟩;refine aeR ?_;refine aA rfl (zC rfl (M:=te t) rfl rfl) ?_;refine cj rfl (b4 rfl (alh p (w.now+1) w.seq q t ae (by have:=(O.due t C).2;omega) b (λy ah=>by have h1:=o.short (EU (f:=(·.l)) ah);have h2:=O.len;have aH:=B.length_eq;have bm:=qG (λt=>decide (q9 (w.now+1) l t=8*l+s)) w.T;omega)) bI) ?_;rintro _ D ⟨_,⟨rfl,N,J,rfl⟩,rfl⟩;refine fj ?_;refine ib ?_;refine J8 ?_;refine aA rfl (fo ((k+1:Nat):Int) eV rfl rfl) ?_;refine EJ ?_;refine fm (k+1,N) ⟨show k+1<=x.l.length by omega,by
        show pM (q9 (w.now+1) l) (hh (w.now+1)) w.T (8*l+s) x.l (k+1) (N.map (·.l));rw[J];exact o.step R (T2 _ _)⟩ (show x.l.length -(k+1)<x.l.length -k by omega) (bd.cons rfl (bd.cons rfl (bd.cons rfl (bd.cons rfl (bd.cons rfl (bd.nil)))))) (au)
     . replace L:=bR L
       refine RD ?_;refine aep ?_;obtain rfl:k=x.l.length:=ae;refine fm (l -1,q) ⟨show l -1<=3 by omega,by
        show iC (q9 (w.now+1) (l -1)) w.T (q.map (·.l));rw[alp ae r];exact(o.done B).congr (λt _=>by unfold pass;rw[bg T,aj];rfl)⟩ (show l -1<l by omega) (bd.cons rfl (bd.cons rfl (bd.nil))) (au)
   . replace I:=bR I
     have T:¬(w.now+1)%2^(3*l)=0:=ae;refine rv ?_;refine yw ?_;refine hB ?_;refine aeP ?_;refine fm (l -1,a) ⟨show l -1<=3 by omega,by
      show iC (q9 (w.now+1) (l -1)) w.T (a.map (·.l));rw[alp ae r];exact d.congr (λt _=>by unfold pass;rw[a6 T])⟩ (show l -1<l by omega) (bd.cons rfl (bd.cons rfl (bd.nil))) (au)
 . replace W:=bR W
   refine aeY ?_;obtain rfl:l=0:=ae;obtain⟨s,aj⟩:∃s,s=(w.now+1)%8:=⟨_,rfl⟩;have c:s<8:=ae;obtain⟨x,ag⟩:∃x,a[8*0+s]?=some x:=⟨_,cq ae⟩;have S:iC (λt=>hh (w.now+1) t.due) w.T (a.map (·.l)):=d.congr λt R=>by
    have:=O.due t R;exact aCu ae (show w.now<t.due by omega) (show t.due<=w.now+4095 by omega)
   have hp:=(iC.jK S (j:=s) (l:=x.l) (by rw[fe,show s=8*0+s by omega,ag];rfl)).2;rw[aj]at hp;refine aeS ?_;refine aA rfl (ts (((w.now+1)%8:Nat):Int) (Bg _ 8) rfl rfl bN) ?_;rw[<-aj];refine qP ?_;refine asY ?_;refine aA rfl (lU (j:=0) rfl rfl bN) ?_;refine aA rfl (lU rfl rfl c) ?_;refine aA rfl (o_load rfl (FX (l:=0) ag)) ?_;refine BY ?_;refine u6 ek (DT ag) ?_;refine zs ?_;refine Q9 ?_;refine aA rfl (lU (j:=0) rfl rfl bN) ?_;refine aA rfl (lU rfl rfl c) ?_;refine iF (mi rfl rfl rfl ZM) ?_;rw[LV (l:=0) (m:=[]) (n:=0) rfl];refine ib ?_;refine uM (ii (e:=336) (aT:=3)) ?_;refine uM (gu (A:=so ⟨none,0,[]⟩) (i:=8*0+s) (l:=a.map so) .head ek hW) ?_;refine hB ?_;refine xq ?_;refine cj rfl (b4 rfl (ali x.a x.c x.l (nw w) (hp.trans (FZ (aCv O))) (O.x5.sublist F1) (λt R=>by have:=O.sb t (oO.1 R).1;omega) (by have h1:=hp.length_eq;have h2:=qG (λt=>decide (hh (w.now+1) t.due=(w.now+1)%8)) w.T;have aH:=O.len;omega)) bI) ?_;refine ae2 ?_;intro aE aK;refine jm (.inl rfl) rfl rfl [own (.slice aE (nw w).length aK) 36 1 (nw w).length ((nw w).map λt=>bu t.id),fO p (uH w)] (⟨aE,aK,rfl,rfl⟩) (λh st=>Sat.swap (xm (w:=uH w) (a.set (8*0+s) ⟨none,0,[]⟩) (by have h1:=iC.empty S (E:=s) (by omega);rw[aj,aCw O,<-aj]at h1;rw[tL,show 8*0+s=s by omega];exact h1) IM h st))
end
end Go.Proofs.YtnnhpnccfnghdaaGreat.L
namespace Go.Proofs.YtnnhpnccfnghdaaGreat.L.Ck
open Go.Proofs.YtnnhpnccfnghdaaGreat.L
open Go.L Go.L.Ring Go.L.dr Go.L.dX Go.L.Whl
attribute[local irreducible] G cz GE cT GT bU c6 cY dc Exit.then Exit.inBlock
structure oG where
 c:Nat
 m:Nat
 r:Nat
 wp:Nat
abbrev gn(X:oG)(B:k2):aq:=ab X.c 219 [ptr X.m 0,af B.b,af B.n,ptr X.r 0,ptr X.wp 0]
section
variable(X:oG)(a:Option Addr){D:List aq}(B:k2)(k p q c1 bk b0 left:Nat)(id d:Int)(l:List Int)(ac:hy)(x y:Value)(w:gd)(o:fr)
abbrev fT:Value:=.slice a l.length k
abbrev hz:aq:=own (.slice a l.length k) 36 1 l.length (l.map bu)
abbrev lo(d u r:Value):oH:=⟨310,[ptr X.c 0,d,u,r]⟩
abbrev kT:Value:=.slice none 0 0
abbrev GM:=Nat×Nat×Nat×Nat×Option Addr×Nat×Option Addr×Nat
def tn(cut ref:List Int):wv->aq
 |.put o=>df (bx:=GM) (λ_=>True) (λe=>match e with|(q,c1,bk,b0,ck,cI,cl,cd)=>[cP p (yn q) (bi 426 [ptr c1 0,ptr bk 0]) 0 0 (lo X kT (fT ck cI cut) (fT cl cd ref)),iZ q X.r o,ab c1 248 [ptr p 0],ab bk 326 [ptr q 0],hz ck cI cut,hz cl cd ref])
 |.now=>df (bx:=GM) (λ_=>True) (λe=>match e with|(z,c1,bk,b0,ck,cI,cl,cd)=>[cP p (ma z) (bi 352 [ptr c1 0,ptr bk 0]) 0 0 (lo X kT (fT ck cI cut) (fT cl cd ref)),tp z X.m B.b,ab c1 248 [ptr p 0],ab bk 314 [ptr z 0],hz ck cI cut,hz cl cd ref])
 |.take left o=>df (bx:=GM) (λ_=>True) (λe=>match e with|(q,c1,bk,b0,ck,cI,cl,cd)=>[cP p (yn q) (bi 250 [ptr c1 0,ptr bk 0,ptr b0 0]) 0 0 (lo X kT (fT ck cI cut) (fT cl cd ref)),iZ q X.r o,ab c1 326 [ptr q 0],ab bk 248 [ptr p 0],ab b0 3 [af left],hz ck cI cut,hz cl cd ref])
 |.tick v=>df (bx:=GM) (λ_=>True) (λe=>match e with|(z,c1,bk,b0,ck,cI,cl,cd)=>[cP p (ma z) (bi 310 [ptr c1 0]) 0 0 (lo X kT (fT ck cI cut) (fT cl cd ref)),uF z X.m B.b v,ab c1 248 [ptr p 0],hz ck cI cut,hz cl cd ref])
abbrev VE:=Value×Value×Option Addr×Nat×Option Addr×Nat×Option Addr×Nat
def MF:aq:=df (bx:=VE) (λ_=>True) (λe=>match e with|(x,y,a0,fi,ck,cI,cl,cd)=>[cP p x y ac.out ac.val (lo X (fT a0 fi ac.due) (fT ck cI ac.cut) (fT cl cd ac.ref)),hz a0 fi ac.due,hz ck cI ac.cut,hz cl cd ac.ref])
def ja:aq:=if ac.out=0 then tn X B p ac.cut ac.ref ac.ph else MF X p ac
def yo{X:oG}{B:k2}{p:Nat}{ac:hy}{I D:List aq}(bn:ac.out=0)(h:∀h,Sat I h->Sat (tn X B p ac.cut ac.ref ac.ph::D) h):∀h,Sat I h->Sat (ja X B p ac::D) h:=by
 unfold ja;rw[bg bn];exact h
def MG{X:oG}{B:k2}{p:Nat}{ac:hy}{I D:List aq}(bn:ac.out≠0)(e:VE)(h:∀h,Sat I h->Sat (cP p e.1 e.2.1 ac.out ac.val (lo X (fT e.2.2.1 e.2.2.2.1 ac.due) (fT e.2.2.2.2.1 e.2.2.2.2.2.1 ac.cut) (fT e.2.2.2.2.2.2.1 e.2.2.2.2.2.2.2 ac.ref))::hz e.2.2.1 e.2.2.2.1 ac.due::hz e.2.2.2.2.1 e.2.2.2.2.2.1 ac.cut::hz e.2.2.2.2.2.2.1 e.2.2.2.2.2.2.2 ac.ref::D) h):∀h,Sat I h->Sat (ja X B p ac::D) h:=by
 unfold ja;rw[a6 bn];exact cA e trivial h
def amM:∀h,Sat D h->Sat (hz none 0 []::D) h:=ii
def GN:∀h,Sat D h->Sat (hz none 0 []::hz none 0 []::D) h:=λh s=>ii h (ii h s)
def amN:∀h,Sat D h->Sat (hz none 0 []::hz none 0 []::hz none 0 []::D) h:=λh s=>ii h (GN h s)
def u64_quo{v:Int}(bn:0<=v)(h1:v<=18446744073709551615):IntKind.u64.wrap (v.tdiv 4096)=v/4096:=MH (n:=4096) bn h1 bN
def VF(aS:w.now<3000000000000000000)(ck:Option Addr)(cI:Nat)(cl:Option Addr)(cd:Nat)(cut ref:List Int):ad aa 249 [ptr p 0] yp VG:=by
 refine ax Tryz.func249 λF D=>?_;refine a7 ?_;refine wn λav=>?_;refine a7 ?_;refine h9 [24,27,30] [24,27] [(0,.bJ),(1,.bJ),(2,.bJ),(3,.bJ),(4,.bJ),(5,.bJ),(6,.bJ),(7,.bJ),(8,.bJ),(9,.bJ),(10,.bJ),(11,.bJ),(12,.bJ),(13,.bJ),(14,.bJ),(15,.bJ),(16,.bJ),(17,.loc),(18,.loc),(19,.loc),(20,.loc),(21,.loc),(22,.loc),(23,.loc),(29,.bJ),(24,.c0),(25,.loc),(26,.loc),(27,.c0),(28,.loc),(30,.c0)] [ab av 248 [ptr p 0],cP p x y 0 0 ww,gn X B] mixed gS ?_;refine gi ?_;refine bz ?_;refine aV (amO X.wp w) ?_;refine aG ?_;refine go_v rfl .none rfl (fo ((w.now+1:Nat):Int) eV rfl rfl) ?_;refine go_v rfl .none rfl (pU ((w.now+1:Nat):Int) (tq ae) rfl) ?_;refine bt (GO X.m B.b ((w.now+1:Nat):Int)) ?_;refine GQ ?_;intro z;refine aV (GR p z ww X.m B.b ((w.now+1:Nat):Int) x y _ rfl 0 0) ?_;refine bX ?_;exact aW ⟨rfl,rfl⟩ (cA (z,av,0,0,ck,cI,cl,cd) trivial (au))
def VH(aS:w.now<3000000000000000000)(left:Nat)(aw:left<=64)(ck:Option Addr)(cI:Nat)(cl:Option Addr)(cd:Nat)(cut ref:List Int):ad aa 201 [ptr p 0,af left] yp (aF et (tn X B p cut ref (pV left w)::AA)):=by
 refine ax Tryz.func201 λF D=>?_;refine n0 ?_;intro U Z;refine cr ?_;refine b6 (λW=>?_) (λW=>?_)
 . obtain rfl:left=0:=by omega
   refine bX ?_;refine aV (VF X B p x y w aS ck cI cl cd cut ref) ?_;refine bz ?_;exact aW ⟨rfl,rfl⟩
 . have d:¬left=0:=by omega
   refine cO ?_;refine bt (MI X.r) ?_;refine nv ?_;intro q;refine wn λaN=>?_;refine bX ?_;refine ct [] [6,201] [ab aN 326 [ptr q 0],ab U 248 [ptr p 0]] ?_;refine MJ ?_;refine aV (AB p q X.r ww x y _ rfl 0 0 (gU 5 0) rfl) ?_;refine bX ?_;exact aW dD (by unfold pV;rw[a6 d];exact cA (q,aN,U,Z,ck,cI,cl,cd) trivial (au))
theorem amP(O:mb w)(id d:Int)(aQ:0<=d/\d<=4095)(ck:Option Addr)(cI:Nat)(cl:Option Addr)(cd:Nat)(cut ref:List Int)(l:cut.length<=1000)(a:ref.length<=1000)(h:d≠0)(Y:n3 w id d≠0):ad aa 252 Dc yp (λu H=>∃b f i j,u=.tuple #[]/\H=[cP p x y 0 0 (lo X kT (fT b f cut) (fT i j (ref++[id]))),hz b f cut,hz i j (ref++[id]),gn X B,fO X.wp (rp w id d)]):=by
 refine ax Tryz.func252 λF D=>?_;refine VI ?_;refine aA rfl (fM (c:=true) (by simpa using Y) (mc rfl rfl)) ?_;refine dx ?_;refine wn λT=>?_;refine gp λe g=>?_;rw[show ref.map bu++[bu id]=(ref++[id]).map bu by simp,show ref.length+1=(ref++[id]).length by simp];refine bh ?_;exact GU
theorem amQ(O:mb w)(id d:Int)(aQ:0<=d/\d<=4095)(ck:Option Addr)(cI:Nat)(cl:Option Addr)(cd:Nat)(cut ref:List Int)(l:cut.length<=1000)(a:ref.length<=1000)(h:d≠0)(Y:n3 w id d=0):ad aa 252 Dc yp (λu H=>∃b f i j,u=.tuple #[]/\H=[cP p x y 0 0 (lo X kT (fT b f cut) (fT i j ref)),hz b f cut,hz i j ref,gn X B,fO X.wp (rp w id d)]):=by
 refine ax Tryz.func252 λF D=>?_;refine VI ?_;refine aA rfl (fM (c:=false) (by simpa using Y) (mc rfl rfl)) ?_;refine bH ?_;refine cH ?_;refine eP ?_;refine bX ?_;exact GU
theorem amR(O:mb w)(id d:Int)(aQ:0<=d/\d<=4095)(ck:Option Addr)(cI:Nat)(cl:Option Addr)(cd:Nat)(cut ref:List Int)(l:cut.length<=1000)(a:ref.length<=1000)(h:d=0)(Y:(w.get id).isSome=true):ad aa 252 Dc yp (λu H=>∃b f i j,u=.tuple #[]/\H=[cP p x y 0 0 (lo X kT (fT b f (cut++[id])) (fT i j ref)),hz b f (cut++[id]),hz i j ref,gn X B,fO X.wp (r5 w id)]):=by
 refine VJ ?_;intro F D;refine wx VK ?_;refine ch ?_;refine wn λc=>?_;refine gp λa53 e=>?_;rw[show cut.map bu++[bu id]=(cut++[id]).map bu by simp,show cut.length+1=(cut++[id]).length by simp];refine bh ?_;exact GU
theorem amS(O:mb w)(id d:Int)(aQ:0<=d/\d<=4095)(ck:Option Addr)(cI:Nat)(cl:Option Addr)(cd:Nat)(cut ref:List Int)(l:cut.length<=1000)(a:ref.length<=1000)(h:d=0)(Y:(w.get id).isSome=false):ad aa 252 Dc yp (λu H=>∃b f i j,u=.tuple #[]/\H=[cP p x y 0 0 (lo X kT (fT b f cut) (fT i j ref)),hz b f cut,hz i j ref,gn X B,fO X.wp (r5 w id)]):=by
 refine VJ ?_;intro F D;refine tr VK ?_;refine bX ?_;exact GU
def amT(O:mb w)(v:Int)(V:0<=v)(ck:Option Addr)(cI:Nat)(cl:Option Addr)(cd:Nat)(cut ref:List Int)(l:cut.length<=1000)(a:ref.length<=1000):ad aa 252 [ptr p 0,bu (v/4096),af (v%4096)] yp (λu H=>∃b f i j,u=.tuple #[]/\H=[cP p x y 0 0 (lo X kT (fT b f (cut++rq v w)) (fT i j (ref++rr v w))),hz b f (cut++rq v w),hz i j (ref++rr v w),gn X B,fO X.wp (lO v w)]):=by
 have bb:0<=v%4096/\v%4096<=4095:=ae;unfold lO rq rr;by_cases h:v%4096=0
 . cases Y:(w.get (v/4096)).isSome with
   |
    true=>
    rw[bg h,bg ⟨h,rfl⟩,a6 (λg=>g.1 h),jj];exact amR X B p x y w O _ _ bb ck cI cl cd cut ref l a h Y
   |
    false=>
    rw[bg h,a6 (λg=>by cases g.2),a6 (λg=>g.1 h),jj,jj];exact amS X B p x y w O _ _ bb ck cI cl cd cut ref l a h Y
 . by_cases Y:n3 w (v/4096) (v%4096)=0
   . rw[a6 h,a6 (λg=>h g.1),a6 (λg=>g.2 Y),jj,jj]
     exact amQ X B p x y w O _ _ bb ck cI cl cd cut ref l a h Y
   . rw[a6 h,a6 (λg=>h g.1),bg ⟨h,Y⟩,jj]
     exact amP X B p x y w O _ _ bb ck cI cl cd cut ref l a h Y
def amU(aw:1<=left/\left<=64)(w:gd)(O:mb w)(ck:Option Addr)(cI:Nat)(cl:Option Addr)(cd:Nat)(cut ref:List Int)(aJ:o.out≠1):ad aa 250 yq VL VG:=by
 refine ax Tryz.func250 λF D=>?_;refine bF ?_;refine aV (uG q X.r o) ?_;refine aA rfl (fM (c:=true) GV (mc rfl rfl)) ?_;refine bh ?_;refine aV (VF X B p x y w O.now ck cI cl cd cut ref) ?_;refine bz ?_;exact aW ⟨rfl,rfl⟩
def amV(aw:1<=left/\left<=64)(w:gd)(O:mb w)(ck:Option Addr)(cI:Nat)(cl:Option Addr)(cd:Nat)(cut ref:List Int)(aJ:o.out=1)(r:0<=o.value)(n:o.value<=18446744073709551615)(l:cut.length<=1000)(a:ref.length<=1000)(e:(lO o.value w).now<3000000000000000000):ad aa 250 yq VL (aF et [tn X B p (cut++rq o.value w) (ref++rr o.value w) (pV (left -1) (lO o.value w)),gn X B,fO X.wp (lO o.value w)]):=by
 refine ax Tryz.func250 λF D=>?_;refine bF ?_;refine aV (uG q X.r o) ?_;refine aA rfl (fM (c:=false) GV (mc rfl rfl)) ?_;refine bh ?_;refine h9 [2,5,8] [2,5] [(0,.bJ),(1,.loc),(4,.bJ),(2,.c0),(3,.bJ),(5,.c0),(6,.loc),(7,.loc),(8,.c0)] [ab c1 326 [ptr q 0],ab bk 248 [ptr p 0]] mixed gS ?_;refine bX ?_;refine aV (MK q X.r o) ?_;refine aG ?_;refine go_vs rfl .none rfl (GX (o.value/4096) (u64_quo r n) rfl rfl bN) (au) ?_;refine aV (MK q X.r o) ?_;refine aG ?_;refine go_v rfl .none rfl (ts (o.value%4096) (VM r) rfl rfl bN) ?_;refine go_v rfl .none rfl (pU (o.value%4096) (jv ae) rfl) ?_;refine bt (amT X B p x y w O o.value r ck cI cl cd cut ref l a) ?_;rintro _ _ ⟨b,f,i,j,rfl,rfl⟩;refine er ?_;refine bh ?_;refine aA rfl (ks ((left -1:Nat):Int) eV rfl rfl) ?_;refine cj rfl (b4 rfl (VH X B p x y (lO o.value w) e (left -1) ae b f i j (cut++rq o.value w) (ref++rr o.value w)) bI) ?_;refine Ao ?_;exact aW ⟨rfl,rfl⟩
theorem amW(O:mb w)(ck:Option Addr)(cI:Nat)(cl:Option Addr)(cd:Nat)(cut ref:List Int):ad aa 310 [ptr c1 0] (cP p x y 0 0 ww::ab c1 248 [ptr p 0]::ML) (aF et [MF X p ⟨.now,1,0,((nw w).map (·.id)),cut,ref⟩,gn X B,fO X.wp (uH w)]):=by
 refine ax Tryz.func310 λF D=>?_;refine aG ?_;refine ct [8] [101,7,201,2,201] [ab c1 248 [ptr p 0],gn X B] ?_;refine bH ?_;refine go_c rfl .none rfl (b4 rfl (amX X.wp w O.ok O.now (by have:=O.seq;omega)) bI) ?_;rintro _ D ⟨_,⟨a0,fi,rfl,rfl⟩,rfl⟩;refine fj ?_;rw[show(nw w).length=((nw w).map (·.id)).length by simp,show((nw w).map λt=>bu t.id)=((nw w).map (·.id)).map bu by simp];refine cU ?_;refine aV (me p (lo X (fT a0 fi ((nw w).map (·.id))) (fT ck cI cut) (fT cl cd ref)) x y 0 0 1 0) ?_;refine a7 ?_;exact aW ⟨rfl,rfl⟩ (cA (x,y,a0,fi,ck,cI,cl,cd) trivial (au))
def amY(B:k2)(p q c1 bk:Nat)(x y:Value)(o:fr)(bp:oH):ad aa 426 [ptr c1 0,ptr bk 0] [cP p x y 0 0 bp,iZ q X.r o,ab c1 248 [ptr p 0],ab bk 326 [ptr q 0]] (aF et [cP p x y o.out 0 bp]):=by
 refine ax Tryz.func426 λF D=>?_;refine ct [4] [103,1,202] [ab c1 248 [ptr p 0],ab bk 326 [ptr q 0]] ?_;refine bF ?_;refine aV (uG q X.r o) ?_;refine aG ?_;refine aV (me p bp x y 0 0 o.out 0) ?_;exact yk
def amZ(X:oG)(B:k2)(p z c1 bk:Nat)(x y:Value)(v:Int)(fP:Bool)(bp:oH):ad aa 352 [ptr c1 0,ptr bk 0] [cP p x y 0 0 bp,qt z v fP,ab c1 248 [ptr p 0],ab bk 314 [ptr z 0]] (aF et [cP p x y 1 v bp]):=by
 refine ax Tryz.func352 λF D=>?_;refine yr ?_;intro f;refine ct [] [7,201] [ab c1 248 [ptr p 0],ab bk 314 [ptr z 0],pe z f true v fP] ?_;refine ch ?_;refine aV (me p bp x y 0 0 1 v) ?_;exact yk
theorem am0:ad aa 390 [ptr X.c 0,bu id,af d,.bool false] [gn X B] VN:=by
 refine MM ?_;intro F D f cx;refine dx ?_;exact VO
theorem am1(h:1125899906842624<id):ad aa 390 [ptr X.c 0,bu id,af d,.bool true] [gn X B] VN:=by
 refine MM ?_;intro F D f cx;refine bF ?_;refine cH ?_;refine cr ?_;exact VO
theorem am2(cv:0<=id)(h:id<=1125899906842624)(aQ:0<=d/\d<=4095):ad aa 390 [ptr X.c 0,bu id,af d,.bool true] [gn X B] (λu H=>∃p,u=ptr p 0/\H=[ja X B p (pf (.put (gU 0 (id*4096+d)))),gn X B]):=by
 refine MM ?_;intro F D f cx;refine bF ?_;refine cH ?_;refine fx ?_;refine aA rfl (rs (id*4096) (tq ae) rfl rfl) ?_;refine aG ?_;refine aA rfl (pU d (tq ae) rfl) ?_;refine aA rfl (fo (id*4096+d) (tq ae) rfl rfl) ?_;refine bt (VP X.r (id*4096+d)) ?_;refine nv ?_;intro q;refine wn λc2=>?_;refine bF ?_;refine ct [] [6,201] [ab cx 248 [ptr f 0],ab c2 326 [ptr q 0]] ?_;refine MJ ?_;refine aV (AB f q X.r (lo X kT kT kT) _ _ _ rfl 0 0 (gU 0 (id*4096+d)) rfl) ?_;refine cO ?_;exact aW ⟨f,rfl,rfl⟩ (yo rfl (cA (q,cx,c2,0,none,0,none,0) trivial (λh s=>Sat.tail (λh s=>Sat.tail (λh s=>Sat.tail (λh s=>Sat.tail (λh s=>GN h s) s) s) s) ((au) h s))))
theorem VQ(a:Bool)(cv:0<=id)(aQ:a=true->0<=d/\d<=4095):ad aa 390 [ptr X.c 0,bu id,af d,.bool a] [gn X B] (λu H=>∃p,u=ptr p 0/\H=[ja X B p (if a=true/\id<=1125899906842624 then pf (.put (gU 0 (id*4096+d)))else{pf .now with out:=4}),gn X B]):=by
 cases a with
 |false=>exact(am0 X B id d).mono λv H h=>by rw[a6 (λg=>by cases g.1)];exact h
 |
  true=>
  by_cases h:id<=1125899906842624
  . exact(am2 X B id d cv h (aQ rfl)).mono λv H g=>by rw[bg ⟨rfl,h⟩];exact g
  . exact(am1 X B id d ae).mono λv H g=>by rw[a6 (λq=>h q.2)];exact g
theorem am3{id d:Int}:r6 id d=if(decide (1<=d)&&decide (d<=4095))=true/\id<=1125899906842624 then pf (.put (gU 0 (id*4096+d)))else{pf .now with out:=4}:=by
 unfold r6;by_cases h:d<1\/4095<d\/1125899906842624<id
 . rw[bg h,a6 hW]
 . rw[a6 h,bg hW]
theorem am4{id:Int}:r7 id=if true=true/\id<=1125899906842624 then pf (.put (gU 0 (id*4096+0)))else{pf .now with out:=4}:=by
 unfold r7;by_cases h:1125899906842624<id
 . rw[bg h,a6 (λg=>absurd g.2 ae)]
 . rw[a6 h,bg ⟨rfl,by omega⟩,Int.add_zero]
theorem am5(cv:0<=id):ad aa 388 [ptr X.c 0,bu id,af d] [gn X B] (λu H=>∃p,u=ptr p 0/\H=[ja X B p ((r6 id d)),gn X B]):=by
 refine ax Tryz.func388 λF D=>?_;refine fx ?_;refine mN (d:=15) 3 (.bool (decide (1<=d)&&decide (d<=4095))) ?_ (λa=>?_)
 rotate_left
 . refine hU rfl rfl (λW=>?_) (λW=>?_) rfl
   . have f:=bR W
     refine bF ?_;exact jl a
   . have f:=bR W
     simp only[iD];refine a7 ?_;exact jl a
 refine cj rfl (b4 rfl (VQ X B id d (decide (1<=d)&&decide (d<=4095)) cv (λh=>by simp at h;omega)) bI) ?_;rintro _ D ⟨_,⟨p,rfl,rfl⟩,rfl⟩;refine r8 ?_;exact aW AC (by rw[am3];exact(au))
theorem am6(cv:0<=id):ad aa 390 [ptr X.c 0,bu id,af 0,.bool true] [gn X B] VR:=(VQ X B id 0 true cv (λ_=>by decide)).mono λv H h=>by rw[am4];exact h
theorem am7(cv:0<=id):ad aa 347 [ptr X.c 0,bu id] [gn X B] VR:=by
 refine ax Tryz.func347 λF D=>?_;refine cr ?_;refine bt (am6 X B id cv) ?_;exact ru
def am8:ad aa 301 [ptr X.c 0] [gn X B] (λu H=>∃p,u=ptr p 0/\H=[ja X B p (uI),gn X B]):=by
 refine ax Tryz.func301 λF D=>?_;refine cr ?_;refine wn λbW=>?_;refine wn λZ=>?_;refine bF ?_;refine ir [8,9,10] [9] wy [gn X B] ?_;refine bH ?_;refine e8 ?_ ?_
 . refine GY ?_
   intro z;refine aG ?_;refine wn λaN=>?_;exact VS
 . refine wn λaN=>?_
   refine aG ?_;refine GY ?_;intro z;exact VS
def am9(cc:B.n<=64)(w:gd)(aS:w.now<3000000000000000000):ad aa 147 [ptr X.c 0] AA (λu H=>∃p,u=ptr p 0/\H=(ja X B p (ys B w)::AA)):=by
 refine ax Tryz.func147 λF D=>?_;refine cr ?_;refine wn λaR=>?_;refine cU ?_;refine r9 (λh s=>Sat.tail (λh s=>GN h s) ((au) h s)) ?_;refine aV (VH X B aR _ _ w aS B.n cc none 0 none 0 [] []) ?_;refine cU ?_;exact aW ⟨aR,rfl,rfl⟩ (yo rfl (au))
def ana(O:mb w):ad aa 152 [ptr X.c 0] AA (λu H=>∃aE aK,u=.slice aE w.T.length aK/\H=[own (.slice aE w.T.length aK) 36 1 w.T.length (w.T.map λt=>bu t.id),fO X.wp w,gn X B]):=by
 refine ax Tryz.func152 λF D=>?_;refine cO ?_;refine cj rfl (b4 rfl (anb X.wp w O.ok (by have:=O.seq;omega)) bI) ?_;rintro _ D ⟨_,⟨aE,aK,rfl,rfl⟩,rfl⟩;refine r8 ?_;exact aW ⟨_,_,rfl,rfl⟩
end
section
variable(X:oG)(B:k2)(p:Nat)(L:List Int)(t:Int)(w:gd)(ac:hy)
def pW:aq:=df (bx:=Unit) (λ_=>True) (λ_=>[gn X B,cg X.m L t,gf X.r X.m (B.b+1) B.n,fO X.wp w])
def Dd{X:oG}{B:k2}{p:Nat}{ac:hy}(h:ac.out=0):ja X B p ac=tn X B p ac.cut ac.ref ac.ph:=by unfold ja;rw[bg h]
def De{X:oG}{B:k2}{p:Nat}{ac:hy}(h:ac.out≠0):ja X B p ac=MF X p ac:=by unfold ja;rw[a6 h]
theorem MN(hp:ac.out=0->ac.val=0)(f:FuncId)(R:Value)(h:∀(bp:oH) (x y:Value),ad aa f [ptr p 0] [cP p x y ac.out ac.val bp] (aF R [cP p x y ac.out ac.val bp])):
 ad aa f [ptr p 0] sd (aF R sd):=by
 by_cases aJ:ac.out=0
 . rw[Dd aJ]
   have V:=hp aJ;rw[aJ,V]at h;cases d2:ac.ph<;>exact kC (λx _=>ki (h _ _ _) nx tu)
 . rw[De aJ]
   exact kC (λx _=>ki (h _ _ _) nx tu)
def Df(hp:ac.out=0->ac.val=0):ad aa 254 [ptr p 0] sd (aF (.bool ac.over) sd):=MN X B p ac hp _ _ (λbp x y=>tv p bp x y ac.out ac.val)
def VT(hp:ac.out=0->ac.val=0):ad aa 81 [ptr p 0] sd (aF (af ac.out) sd):=MN X B p ac hp _ _ (λbp x y=>GZ p bp x y ac.out ac.val)
def anc(hp:ac.out=0->ac.val=0):ad aa 85 [ptr p 0] sd (aF (bu ac.val) sd):=MN X B p ac hp _ _ (λbp x y=>G0 p bp x y ac.out ac.val)
def _root_.Go.L.dX.se.iq{B:k2}{L:List Int}(h:se B L):wz (B.b+1) B.n L:=⟨h.m1,h.m64,by have:=h.len;omega,h.dE⟩
def ane(cc:se B L)(O:mb w)(cut ref:List Int)(ac:hy)(o:fr)(al:iG o)(aJ:o.out=0)(m:o.pc<=9)(U:(dL (B.b+1) B.n L o).over=false):ad aa 474 [ptr p 0] [tn X B p cut ref (.put o),pW X B L t w] (aF gQ [ja X B p ⟨.put Dg,0,0,[],cut,ref⟩,pW X B wA (ga t) (w)]):=by
 refine eW .head (λe _=>?_);obtain⟨q,c1,bk,b0,ck,cI,cl,cd⟩:=e;refine gb ?_;refine eW (bx:=Unit) ek (λ_ _=>?_);refine gb ?_;have b:o.over=false:=mP;have i:=mQ q X.r X.m (B.b+1) B.n L t o cc.iq al;rw[U,b]at i;simp only[eH,eo]at i;refine qu i (λD=>?_);refine VU ?_;refine λh s=>(hG.from (A:=ja X B p ⟨.put (dL (B.b+1) B.n L o),0,0,[],cut,ref⟩) (.tail (.tail (.tail (.tail .head))))) (yo (ac:=⟨.put (dL (B.b+1) B.n L o),0,0,[],cut,ref⟩) rfl (cA (q,c1,bk,b0,ck,cI,cl,cd) trivial (au)) h s)
def anf(cc:se B L)(O:mb w)(cut ref:List Int)(ac:hy)(o:fr)(al:iG o)(aJ:o.out=0)(m:o.pc<=9)(U:(dL (B.b+1) B.n L o).over=true):ad aa 474 [ptr p 0] [tn X B p cut ref (.put o),pW X B L t w] (aF iu [ja X B p VV,pW X B wA (ga t) (w)]):=by
 refine eW .head (λe _=>?_);obtain⟨q,c1,bk,b0,ck,cI,cl,cd⟩:=e;refine gb ?_;refine eW (bx:=Unit) ek (λ_ _=>?_);refine gb ?_;have b:o.over=false:=mP;have i:=mQ q X.r X.m (B.b+1) B.n L t o cc.iq al;rw[U,b]at i;simp only[eH,eo]at i;have d:(dL (B.b+1) B.n L o).out≠0:=qv;exact pX [gn X B,cg X.m wA (ga t),gf X.r X.m (B.b+1) B.n,fO X.wp w]
  ((Df X B p VV (λh=>absurd h d)).mono λv H h=>by rw[h.1,h.2];exact⟨by simp[hy.over,d],rfl⟩)
  i (amY X B p q c1 bk _ _ Dg ww) (g:=λD=>by simp only[cn,ci];exact MG d (_,_,none,0,ck,cI,cl,cd) VW) (q:=λD=>by simp only[cn,ci];exact λh s=>Sat.swap G1)
def ang(cc:se B L)(O:mb w)(cut ref:List Int)(ac:hy)(left:Nat)(aw:1<=left/\left<=64)(o:fr)(al:iG o)(aJ:o.out=0)(m:o.pc<=9)(U:(dL (B.b+1) B.n L o).over=false):ad aa 474 [ptr p 0] MO (aF gQ [ja X B p VX,pW X B wA (ga t) (w)]):=by
 refine eW .head (λe _=>?_);obtain⟨q,c1,bk,b0,ck,cI,cl,cd⟩:=e;refine gb ?_;refine eW (bx:=Unit) ek (λ_ _=>?_);refine gb ?_;have b:o.over=false:=mP;have i:=mQ q X.r X.m (B.b+1) B.n L t o cc.iq al;rw[U,b]at i;simp only[eH,eo]at i;refine qu i (λD=>?_);refine VU ?_;refine λh s=>(hG.from (A:=ja X B p ⟨.take left (dL (B.b+1) B.n L o),0,0,[],cut,ref⟩) (.tail (.tail (.tail (.tail .head))))) (yo (ac:=⟨.take left (dL (B.b+1) B.n L o),0,0,[],cut,ref⟩) rfl (cA (q,c1,bk,b0,ck,cI,cl,cd) trivial (au)) h s)
def anh(cc:se B L)(O:mb w)(cut ref:List Int)(ac:hy)(left:Nat)(aw:1<=left/\left<=64)(o:fr)(al:iG o)(aJ:o.out=0)(m:o.pc<=9)(U:(dL (B.b+1) B.n L o).over=true)(h1:(dL (B.b+1) B.n L o).out≠1):ad aa 474 [ptr p 0] MO (aF gQ [ja X B p VY,pW X B wA (ga t) (w)]):=by
 refine eW .head (λe _=>?_);obtain⟨q,c1,bk,b0,ck,cI,cl,cd⟩:=e;refine gb ?_;refine eW (bx:=Unit) ek (λ_ _=>?_);refine gb ?_;have b:o.over=false:=mP;have i:=mQ q X.r X.m (B.b+1) B.n L t o cc.iq al;rw[U,b]at i;simp only[eH,eo]at i;have d:(dL (B.b+1) B.n L o).out≠0:=qv;exact pX [gn X B,cg X.m wA (ga t),gf X.r X.m (B.b+1) B.n,fO X.wp (w)]
  ((Df X B p ⟨.tick ((w.now+1:Nat):Int),0,0,[],cut,ref⟩ (λ_=>rfl)).mono λv H h=>h)
  i (amU X B p q c1 bk b0 left _ _ Dg aw w O ck cI cl cd cut ref h1) (g:=λD=>by simp only[cn,ci];exact yo (ac:=⟨.tick ((w.now+1:Nat):Int),0,0,[],cut,ref⟩) rfl (au)) (q:=λD=>by simp only[cn,ci];exact λh s=>Sat.swap (cA () trivial (au) h s))
def ani(cc:se B L)(O:mb w)(cut ref:List Int)(ac:hy)(left:Nat)(aw:1<=left/\left<=64)(o:fr)(al:iG o)(aJ:o.out=0)(m:o.pc<=9)(U:(dL (B.b+1) B.n L o).over=true)(h1:(dL (B.b+1) B.n L o).out=1)(r:0<=(dL (B.b+1) B.n L o).value)(n:(dL (B.b+1) B.n L o).value<=18446744073709551615)(l:cut.length<=1000)(a:ref.length<=1000):ad aa 474 [ptr p 0] MO (aF gQ [ja X B p VZ,pW X B wA (ga t) G2]):=by
 refine eW .head (λe _=>?_);obtain⟨q,c1,bk,b0,ck,cI,cl,cd⟩:=e;refine gb ?_;refine eW (bx:=Unit) ek (λ_ _=>?_);refine gb ?_;have b:o.over=false:=mP;have i:=mQ q X.r X.m (B.b+1) B.n L t o cc.iq al;rw[U,b]at i;simp only[eH,eo]at i;have d:(dL (B.b+1) B.n L o).out≠0:=qv;exact pX [gn X B,cg X.m wA (ga t),gf X.r X.m (B.b+1) B.n,fO X.wp G2]
  ((Df X B p ⟨pV (left -1) G2,0,0,[],cut++rq (dL (B.b+1) B.n L o).value w,ref++rr (dL (B.b+1) B.n L o).value w⟩ (λ_=>rfl)).mono λv H h=>h)
  i (amV X B p q c1 bk b0 left _ _ (dL (B.b+1) B.n L o) aw w O ck cI cl cd cut ref h1 r n l a (by rw[V0];exact O.now)) (g:=λD=>by simp only[cn,ci];exact yo (ac:=⟨pV (left -1) (lO (dL (B.b+1) B.n L o).value w),0,0,[],cut++rq (dL (B.b+1) B.n L o).value w,ref++rr (dL (B.b+1) B.n L o).value w⟩) rfl (au)) (q:=λD=>by simp only[cn,ci];exact λh s=>Sat.swap (cA () trivial (au) h s))
def anj(cc:se B L)(K:iv L)(O:mb w)(a2:tw ac):ad aa 474 [ptr p 0] [ja X B p ac,pW X B L t w] (aF (.bool (j4 B L w ac).2.2.over) [ja X B p (j4 B L w ac).2.2,pW X B (j4 B L w ac).1 (if ac.over then t else ga t) (j4 B L w ac).2.1]):=by
 obtain⟨ph,out,val,due,cut,ref⟩:=ac;have l:cut.length<=1000:=V1;have a:ref.length<=1000:=V1;by_cases aJ:out=0
 . subst aJ
   obtain⟨d2,V,aQ⟩:=a2.run rfl;obtain rfl:val=0:=V;obtain rfl:due=[]:=aQ;rw[Dd rfl];have j:(⟨ph,0,0,[],cut,ref⟩:hy).over=false:=rfl;have aB:j4 B L w ⟨ph,0,0,[],cut,ref⟩=n4 B L w ⟨ph,0,0,[],cut,ref⟩:=by unfold j4;rw[j];rfl
   rw[aB,j];simp only[eH,eo];cases ph with
   |
    put o=>
    obtain⟨al,T,m⟩:=d2;cases U:(dL (B.b+1) B.n L o).over with
    |
     false=>
     have rx:(dL (B.b+1) B.n L o).out=0:=qv;have:=ane X B p L t w cc O cut ref Dh o al T m U;simp only[n4,rx];exact this
    |
     true=>
     have rx:(dL (B.b+1) B.n L o).out≠0:=qv;have:=anf X B p L t w cc O cut ref Dh o al T m U;rw[<-U]at this;exact this
   |
    now=>
    have f:B.b<L.length:=oI;refine eW .head (λe _=>?_);obtain⟨q,c1,bk,b0,ck,cI,cl,cd⟩:=e;simp only[cn,ci];refine eW (bx:=Unit) ek (λ_ _=>?_);simp only[cn,ci];exact pX [gn X B,cg X.m L (ga t),gf X.r X.m (B.b+1) B.n,fO X.wp w]
     ((Df X B p ⟨.now,1,L.getD B.b 0,[],cut,ref⟩ wB).mono λv H h=>h)
     (G3 q X.m B.b L t f) (amZ X B p q c1 bk _ _ (L.getD B.b 0) true ww) (g:=λD=>by simp only[cn,ci];exact MG (ac:=⟨.now,1,L.getD B.b 0,[],cut,ref⟩) (show(1:Int)≠0 by decide) (_,_,none,0,ck,cI,cl,cd) VW) (q:=λD=>by simp only[cn,ci];exact λh s=>Sat.swap G1)
   |
    take left o=>
    obtain⟨al,T,m,aw⟩:=d2;have lw:=AD (b:=B.b+1) (n:=B.n) K al;cases U:(dL (B.b+1) B.n L o).over with
    |
     false=>
     have:=ang X B p L t w cc O cut ref Dh left aw o al T m U;simp only[n4,U,eH,eo];exact this
    |
     true=>
     by_cases h1:(dL (B.b+1) B.n L o).out=1
     . have V:0<=(dL (B.b+1) B.n L o).value/\(dL (B.b+1) B.n L o).value<=18446744073709551615:=by unfold fr.value;rw[bg h1];exact⟨lw.v0,lw.v1⟩
       have:=ani X B p L t w cc O cut ref Dh left aw o al T m U h1 V.1 V.2 l a;simp only[n4,U,fk,h1];exact this
     . have:=anh X B p L t w cc O cut ref Dh left aw o al T m U h1
       simp only[n4,U,fk,h1,eo];exact this
   |
    tick v=>
    have f:B.b<L.length:=oI;refine eW .head (λe _=>?_);obtain⟨q,c1,bk,b0,ck,cI,cl,cd⟩:=e;simp only[cn,ci];refine eW (bx:=Unit) ek (λ_ _=>?_);simp only[cn,ci];exact pX [gn X B,cg X.m (L.set B.b v) (ga t),gf X.r X.m (B.b+1) B.n,fO X.wp (uH w)]
     ((Df X B p ⟨.tick v,1,0,(nw w).map (·.id),cut,ref⟩ wB).mono λv H h=>h)
     (G4 q X.m B.b L t f v) (amW X B p c1 _ _ w O ck cI cl cd cut ref) (g:=λD=>by simp only[cn,ci];exact(au)) (q:=λD=>by simp only[cn,ci];exact λh s=>Sat.swap G1)
 . have U:(MP:hy).over=true:=by simp[hy.over,aJ]
   have aB:j4 B L w MP=(L,w,MP):=by unfold j4;rw[bg U]
   rw[aB,U,De aJ];simp only[fk];exact kC (λx _=>ki (MQ p _ _ _ out val aJ) nx tu)
end
section
variable(s:Int)(X:oG){n:Nat}(B:k2)(p:Nat)(J z oJ:Value)(bp:oH)(ac:hy)(x y v:Value)(l:List Int)(a0:Option Addr)(fi:Nat)(ck:Option Addr)(cI:Nat)(cl:Option Addr)(cd:Nat)
def Di:Int:=if lP s=0 then 0 else 1+lP s
def ank:0<=lP s/\lP s<=130:=by unfold lP;split<;>omega
def anl:Di s=if 1<=s/\s<=64 then 3+2*s else 0:=by unfold Di lP;(repeat' split)<;>omega
def V2(L:List Int)(b i:Nat):∀j,iw (iw L b i) (b+i) j=iw L b (i+j)
 |0=>rfl
 |j+1=>by rw[iw,V2 L b i j,<-ny,iw,ny]
def anm{X:oG}{B:k2}{L:List Int}{t:Int}{w:gd}{I D:List aq}(h:∀h,Sat I h->Sat (gn X B::cg X.m L t::gf X.r X.m (B.b+1) B.n::fO X.wp w::D) h):∀h,Sat I h->Sat (pW X B L t w::D) h:=cA () trivial h
def lQ:List Int:=if ac.out=0 then[]else l
def ann:ad aa 61 [af s] [] (aF (af (Di s)) []):=by
 refine ax Tryz.func61 λF D=>?_;have aj:=ank s;refine bH ?_;refine aV (G5 s) ?_;refine cU ?_;refine b6 (λW=>?_) (λW=>?_)
 . refine bH ?_
   exact V3
 . refine bz ?_
   refine aA rfl (fo (1+lP s) (jv ae) rfl rfl) ?_;refine bz ?_;exact V3
def ano(h1:1<=n)(h2:n<=64):Di (n:Int)=((3+2*n:Nat):Int):=by rw[anl,bg ae];omega
def MR(h1:1<=n)(h2:n<=64):ad aa 61 [af n] [] (aF (af ((3+2*n:Nat):Int)) []):=by rw[<-ano h1 h2];exact ann n
def V4(i:Nat)(t:Int):∀j,jx j (jx i t)=jx (i+j) t
 |0=>rfl
 |j+1=>by rw[jx,V4 i t j,<-ny,jx]
def anp(m b n:Nat)(L:List Int)(t:Int)(K:se ⟨b,n⟩ L):ad aa 66 AE wC (λu H=>∃X:oG,u=.tuple #[ptr X.c 0,af 0]/\X.m=m/\H=[pW X ⟨b,n⟩ (iw L b (3+2*n)) (jx (3+2*n) t) sf]):=by
 refine ax Tryz.func66 λF D=>?_;have h1:1<=n:=K.m1;have h2:n<=64:=K.m64;have dk:b+3+2*n<=L.length:=K.len;have g0:=K.dE;refine cr ?_;refine aV (MR h1 h2) ?_;refine dx ?_;refine cH ?_;refine bz ?_;refine cH ?_;refine ch ?_;refine aV (Mg m L t) ?_;refine bX ?_;refine aA rfl (ks ((L.length:Int) -((3+2*n:Nat):Int)) (jv ae) rfl rfl) ?_;refine aG ?_;refine cH ?_;refine cU ?_;refine cj rfl (b4 rfl (mM m L t b ae 0) bI) ?_;refine gP ?_;refine Ah ?_;refine MS ?_;refine aG ?_;refine cj rfl (b4 rfl (MT m (b+1) n (L.set b 0) _ ⟨h1,h2,by rw[gq];omega,by rw[gq];omega⟩) bI) ?_;rintro _ D ⟨_,⟨gZ,rfl,rfl⟩,rfl⟩;refine fj ?_;refine fx ?_;refine bt (anq) ?_;rintro _ _ ⟨wp,rfl,rfl⟩;refine er ?_;refine aG ?_;refine wn λId=>?_;refine bh ?_;exact aW ⟨⟨Id,m,gZ,wp⟩,rfl,rfl,rfl⟩ (anm (by rw[show iw L b (3+2*n)=iw (iw L b 1) (b+1) (2+2*n) by rw[V2,show 1+(2+2*n)=3+2*n by omega],show jx (3+2*n) t=jx (2+2*n) (jx 1 t) by rw[V4,show 1+(2+2*n)=3+2*n by omega]];exact(au)))
def MU(a:Option Addr)(c:Nat)(l:List Int)(aw:l.length<=1000):ad aa 76 [fT a c l] [hz a c l] (λu H=>∃aE aK,u=fT aE aK l/\H=[hz aE aK l,hz a c l]):=by
 refine ax Tryz.func76 λF D=>?_;refine dx ?_;refine b6 (λW=>?_) (λW=>?_)
 . obtain rfl:a=none:=by simpa using W
   refine yt (λ_ s=>V5 (l:=l.length) (c:=c) s) ?_;rintro⟨d,g,-,-⟩;obtain rfl:l=[]:=rn d;subst g;exact V6
 . refine bF ?_
   refine wn λaO=>?_;refine aG ?_;refine iQ rfl (Dj rfl rfl ek rfl fW (by simp[V7];intro x _;rfl) ae wu) ?_;exact V8
def anr(bn:ac.out≠0)(aw:ac.due.length<=1000):ad aa 202 [ptr p 0,fT a0 fi ac.due] uJ V9:=by
 refine MV ?_;intro F D;refine bt (MU a0 fi ac.due aw) ?_;exact AF
def ans(bn:ac.out≠0)(aw:ac.due.length<=1000):ad aa 155 [ptr p 0] uJ V9:=by
 refine ax Tryz.func155 λF D=>?_;refine dx ?_;refine bt (anr X p ac x y a0 fi ck cI cl cd bn aw) ?_;exact AF
def ant:ad aa 202 [ptr p 0,v] AG (aF kT AG):=by
 exact MW
def anu(az:J.oneCell'=true/\z.oneCell'=true/\oJ.oneCell'=true):ad aa 155 [ptr p 0] G6 MX:=by
 refine ax Tryz.func155 λF D=>?_;refine dx ?_;refine aV (ant p (lo X J z oJ) x y _) ?_;refine bz ?_;exact aW ⟨rfl,rfl⟩
def anv(V:ac.out=0->ac.val=0)(aw:ac.due.length<=1000):ad aa 155 [ptr p 0] sd (λu H=>∃aE aK,u=fT aE aK (lQ ac ac.due)/\H=[hz aE aK (lQ ac ac.due),ja X B p ac]):=by
 by_cases aJ:ac.out=0
 . have e:lQ ac ac.due=[]:=by unfold lQ;rw[bg aJ]
   rw[Dd aJ,e];have co:ad aa 155 [ptr p 0] G7 MY:=by
    cases d2:ac.ph<;>exact kC (λx _=>ki (anu X p _ _ _ _ _ ⟨rfl,rfl,rfl⟩) nx (λD=>cA x trivial (λh s=>s)))
   exact MZ
 . have e:lQ ac ac.due=ac.due:=by unfold lQ;rw[a6 aJ]
   rw[De aJ,e];refine kC (λx _=>?_);obtain⟨x,y,a0,fi,ck,cI,cl,cd⟩:=x;refine(ans X p ac x y a0 fi ck cI cl cd aJ aw).aV λv H h=>?_;exact M0
def anw(bn:ac.out≠0)(aw:ac.cut.length<=1000):ad aa 202 [ptr p 0,fT ck cI ac.cut] uJ Wa:=by
 refine MV ?_;intro F D;refine bt (MU ck cI ac.cut aw) ?_;exact AF
def anx(bn:ac.out≠0)(aw:ac.cut.length<=1000):ad aa 151 [ptr p 0] uJ Wa:=by
 refine ax Tryz.func151 λF D=>?_;refine dx ?_;refine bt (anw X p ac x y a0 fi ck cI cl cd bn aw) ?_;exact AF
def anz:ad aa 202 [ptr p 0,v] AG (aF kT AG):=by
 exact MW
def anA(az:J.oneCell'=true/\z.oneCell'=true/\oJ.oneCell'=true):ad aa 151 [ptr p 0] G6 MX:=by
 refine ax Tryz.func151 λF D=>?_;refine dx ?_;refine aV (anz p (lo X J z oJ) x y _) ?_;refine bz ?_;exact aW ⟨rfl,rfl⟩
def anB(V:ac.out=0->ac.val=0)(aw:ac.cut.length<=1000):ad aa 151 [ptr p 0] sd (λu H=>∃aE aK,u=fT aE aK (lQ ac ac.cut)/\H=[hz aE aK (lQ ac ac.cut),ja X B p ac]):=by
 by_cases aJ:ac.out=0
 . have e:lQ ac ac.cut=[]:=by unfold lQ;rw[bg aJ]
   rw[Dd aJ,e];have co:ad aa 151 [ptr p 0] G7 MY:=by
    cases d2:ac.ph<;>exact kC (λx _=>ki (anA X p _ _ _ _ _ ⟨rfl,rfl,rfl⟩) nx (λD=>cA x trivial (λh s=>s)))
   exact MZ
 . have e:lQ ac ac.cut=ac.cut:=by unfold lQ;rw[a6 aJ]
   rw[De aJ,e];refine kC (λx _=>?_);obtain⟨x,y,a0,fi,ck,cI,cl,cd⟩:=x;refine(anx X p ac x y a0 fi ck cI cl cd aJ aw).aV λv H h=>?_;exact M0
def anC(bn:ac.out≠0)(aw:ac.ref.length<=1000):ad aa 202 [ptr p 0,fT cl cd ac.ref] uJ Wb:=by
 refine MV ?_;intro F D;refine bt (MU cl cd ac.ref aw) ?_;exact AF
def anD(bn:ac.out≠0)(aw:ac.ref.length<=1000):ad aa 149 [ptr p 0] uJ Wb:=by
 refine ax Tryz.func149 λF D=>?_;refine dx ?_;refine bt (anC X p ac x y a0 fi ck cI cl cd bn aw) ?_;exact AF
def anE:ad aa 202 [ptr p 0,v] AG (aF kT AG):=by
 exact MW
def anF(az:J.oneCell'=true/\z.oneCell'=true/\oJ.oneCell'=true):ad aa 149 [ptr p 0] G6 MX:=by
 refine ax Tryz.func149 λF D=>?_;refine dx ?_;refine aV (anE p (lo X J z oJ) x y _) ?_;refine bz ?_;exact aW ⟨rfl,rfl⟩
def anG(V:ac.out=0->ac.val=0)(aw:ac.ref.length<=1000):ad aa 149 [ptr p 0] sd (λu H=>∃aE aK,u=fT aE aK (lQ ac ac.ref)/\H=[hz aE aK (lQ ac ac.ref),ja X B p ac]):=by
 by_cases aJ:ac.out=0
 . have e:lQ ac ac.ref=[]:=by unfold lQ;rw[bg aJ]
   rw[Dd aJ,e];have co:ad aa 149 [ptr p 0] G7 MY:=by
    cases d2:ac.ph<;>exact kC (λx _=>ki (anF X p _ _ _ _ _ ⟨rfl,rfl,rfl⟩) nx (λD=>cA x trivial (λh s=>s)))
   exact MZ
 . have e:lQ ac ac.ref=ac.ref:=by unfold lQ;rw[a6 aJ]
   rw[De aJ,e];refine kC (λx _=>?_);obtain⟨x,y,a0,fi,ck,cI,cl,cd⟩:=x;refine(anD X p ac x y a0 fi ck cI cl cd aJ aw).aV λv H h=>?_;exact M0
end
end Go.Proofs.YtnnhpnccfnghdaaGreat.L.Ck
namespace Go.Proofs.YtnnhpnccfnghdaaGreat.L
open Go.L Go.L.Ring Go.L.dr Go.L.dB
attribute[local irreducible] G cz GE cT GT bU c6 cY dc Exit.then Exit.inBlock
section
variable(k p q m b n:Nat)(o:hI)
def Hn:Nat:=match k with|0=>199|1=>200|2=>186|3=>375|4=>421|_=>0
def Ho:Nat:=match k with|0=>322|1=>374|2=>420|3=>443|4=>188|5=>226|6=>280|7=>332|8=>378|9=>333|10=>191|11=>227|12=>281|13=>335|_=>0
def Hp:Nat:=match k with|0=>427|1=>446|2=>397|3=>432|4=>447|_=>0
def an8:Value:=.func (.func (Hn k)) #[] #[]
def an9:Value:=.func (.func (Ho k)) #[ptr p 0] #[]
def aoa:Value:=.func (.func (Hp k)) #[ptr p 0] #[]
abbrev mV:aq:=ab q 275 [ptr m 0,af b,af n]
abbrev jU(o:hN):aq:=ab p 295 [ptr q 0,an8 o.k,af o.w,af o.out]
abbrev nD:aq:=ab q 279 [ptr m 0,af b,bu n]
abbrev ig(o:ic):aq:=ab p 299 [ptr q 0,an9 o.pc p,af o.out,bu o.v,bu o.t,bu o.b,.bool o.fP]
abbrev kU:aq:=ab q 277 [ptr m 0,af b,bu n]
abbrev jd:aq:=ab p 302 [ptr q 0,af o.jK,af (n5 b o.eb),bu (Hj o.eb),bu o.t,bu o.v,af o.out]
abbrev eD:aq:=ab q 221 [ptr m 0,af b,af n]
abbrev oc(o:k5):aq:=ab p 409 [ptr m 0,af o.cell,bu o.seen,aoa o.pc p,af o.out]
structure Hq(b n:Nat)(L:List Int):Prop where
 n8:n<=8
 len:b+n<=L.length
 dE:L.length<=65536
structure yF(b n:Nat)(L:List Int):Prop where
 ec:1<=n
 jV:n<=64
 len:b+2+n<=L.length
 dE:L.length<=65536
structure sl(b n:Nat)(L:List Int):Prop where
 ec:1<=n
 jV:n<=64
 len:b+2+2*n<=L.length
 dE:L.length<=65536
def Hr{n:Nat}(t:Int)(aS:1<=n):(t%(n:Int)).toNat<n:=by
 have:=Nf t (show(0:Int)<n by omega);omega
def Wu{n:Nat}{t:Int}(R:0<=t)(aS:1<=n):t.tmod n=((t%(n:Int)).toNat:Int):=by
 exact Wv
def yF.lt{b n:Nat}{L:List Int}(h:yF b n L)(t:Int):kj b n t<L.length:=by
 have h1:=h.ec;have h2:=h.len;have:=Hr t h1;unfold kj;omega
def sl.lt{b n:Nat}{L:List Int}(h:sl b n L)(t:Int):ls b n t+1<L.length:=by
 have h1:=h.ec;have h2:=h.len;have:=Hr t h1;unfold ls;omega
def Ww(o:hN)(O:o.w<n)(aS:n<=8)(hk:o.k=3):ad aa 422 [ptr p 0] [mV q m b n,jU p q o] (aF et [mV q m b n,jU p q (AQ n o)]):=by
 refine ax Tryz.func422 λF D=>?_;obtain⟨k,w,out⟩:=o;obtain rfl:k=3:=hk;replace O:w<n:=O;unfold jU;dsimp only;refine bh ?_;refine aA rfl (fo ((w+1:Nat):Int) eV rfl rfl) ?_;refine bh ?_;refine ct [] [12] [] ?_;refine fZ ?_;refine b6 (λW=>?_) (λW=>?_)
 . refine ch ?_
   exact aW dD (by simp only[AQ];rw[bg (by omega)];exact(au))
 . refine a7 ?_
   exact aW dD (by simp only[AQ];rw[a6 (by omega)];exact(au))
def AT(o:hN):ad aa 475 [ptr p 0] [jU p q o] (aF (.bool o.over) [jU p q o]):=by
 refine ax Tryz.func475 λF D=>?_;exact yG
def aob(o:hN):ad aa 128 [ptr p 0] [jU p q o] (aF (af o.out) [jU p q o]):=by
 refine ax Tryz.func128 λF D=>?_;exact rA
def Dv(o:ic):ad aa 477 [ptr p 0] [ig p q o] (aF (.bool o.over) [ig p q o]):=by
 refine ax Tryz.func477 λF D=>?_;exact yG
def Wx(o:ic):ad aa 269 [ptr p 0] [ig p q o] (aF (af o.out) [ig p q o]):=by
 refine ax Tryz.func269 λF D=>?_;exact rA
def aoc(o:ic):ad aa 479 [ptr p 0] [ig p q o] (aF (bu o.value) [ig p q o]):=by
 refine ax Tryz.func479 λF D=>?_;refine eP ?_;refine b6 (λW=>?_) (λW=>?_)
 . refine bH ?_
   exact aW ⟨by simp[ic.value,W],rfl⟩
 . refine fx ?_
   exact aW ⟨by simp[ic.value,W],rfl⟩
def Ng:ad aa 480 [ptr p 0] wO (aF (.bool o.over) wO):=by
 exact Wy
def Nh:ad aa 143 [ptr p 0] wO (aF (af o.out) wO):=by
 refine ax Tryz.func143 λF D=>?_;exact rA
def Wz:ad aa 146 [ptr p 0] wO (aF (bu o.value) wO):=by
 refine ax Tryz.func146 λF D=>?_;refine fZ ?_;refine mN (d:=14) 6 (.bool ((!decide (o.out=1))||decide (Hj o.eb=0))) ?_ (λe=>?_)
 rotate_left
 . refine hU rfl rfl (λW=>?_) (λW=>?_) rfl
   . have f:=bR W
     refine cU ?_;exact jl e
   . have f:=bR W
     simp only[iD];refine bz ?_;exact jl e
 refine a7 ?_;refine b6 (λI=>?_) (λI=>?_)
 . replace I:=I
   refine bH ?_;exact WA
 . replace I:=I
   refine fx ?_;exact WA
def WB(o:k5):ad aa 488 [ptr p 0] [oc p q o] (aF (.bool o.over) [oc p q o]):=by
 refine ax Tryz.func488 λF D=>?_;exact yG
def WC(o:k5):ad aa 431 [ptr p 0] [oc p q o] (aF (af o.out) [oc p q o]):=by
 refine ax Tryz.func431 λF D=>?_;exact rA
def WD(L:List Int)(t:Int)(K:yF b n L)(c i:Nat)(a2:c<=1)(al:i=b+c):ad aa 225 [ptr q 0,af c] [cg m L t,nD q m b n] (aF (bu (L.getD i 0)) [cg m L (ga t),nD q m b n]):=by
 refine ax Tryz.func225 λF D=>?_;have em:=K.len;have a:=K.ec;have d:=K.dE;subst al;have o:b+c<L.length:=ae;refine bh ?_;refine ct [] [10,201,5] [] ?_;refine cr ?_;refine go_v rfl .none rfl (fo ((b+c:Nat):Int) eV rfl rfl) ?_;refine aV (nt _ _ _ (b+c) (o)) ?_;exact rA
def Ni(aS:1<=n)(e:n<=64)(az:b<=65536)(t:Int)(R:0<=t):ad aa 334 [ptr q 0,bu t] [nD q m b n] (aF (af (kj b n t)) [nD q m b n]):=by
 refine ax Tryz.func334 λF D=>?_;have bb:=Hr t aS;refine bh ?_;refine ct [] [14] [] ?_;refine cU ?_;refine go_v rfl .none rfl (ts _ (Wu R aS) rfl rfl ae) ?_;refine ch ?_;exact aW ⟨by unfold kj;first|rfl|(congr 1;omega),rfl⟩
def WE(aS:1<=n)(o:hI)(h1:oa o):ad aa 483 [ptr p 0] Hs (aF (bu (yA n o.t o.eb)) Hs):=by
 refine ax Tryz.func483 λF D=>?_;have R:=h1.t;refine bh ?_;refine ct [] [19] [] ?_;refine cO ?_;refine go_v rfl .none rfl (GX (o.t/n) (MH R.1 R.2 aS) rfl rfl ae) ?_;refine go_v rfl .none rfl (Nj rfl rfl) ?_;refine bF ?_;refine go_v rfl .none rfl (n1 rfl rfl) ?_;refine bz ?_;exact aW ⟨rfl,rfl⟩
def aod(aS:1<=n)(o:hI)(h1:oa o)(s:Int):ad aa 482 [ptr p 0,bu s] Hs (aF et [kU q m b n,jd p q b (if s=yA n o.t o.eb then{o with jK:=2}else if yA n o.t o.eb<s then{o with jK:=0}else if o.eb then{o with out:=4}else{o with out:=2})]):=by
 refine ax Tryz.func482 λF D=>?_;refine bX ?_;refine aV (WE p q m b n aS o h1) ?_;refine dx ?_;refine b6 (λW=>?_) (λW=>?_)
 . refine bH ?_
   exact aW ⟨rfl,by rw[bg W]⟩
 . refine bH ?_
   refine b6 (λI=>?_) (λI=>?_)
   . refine bH ?_
     exact aW ⟨rfl,by rw[a6 W,bg I]⟩
   . refine cU ?_
     refine b6 (λL=>?_) (λL=>?_)
     . have d:o.eb=false:=by cases h:o.eb with|false=>rfl|true=>rw[h]at L;exact absurd L bN
       refine bH ?_;exact aW (H:=[kU q m b n,jd p q b ({o with out:=2})]) ⟨rfl,by rw[a6 W,a6 (Dw.2 I),d,a6 bN]⟩
     . have d:o.eb=true:=by cases h:o.eb with|true=>rfl|false=>rw[h]at L;exact absurd rfl L
       refine bH ?_;exact aW (H:=[kU q m b n,jd p q b ({o with out:=4})]) ⟨rfl,by rw[a6 W,a6 (Dw.2 I),d,bg rfl]⟩
end
section
variable(s:Int)(p q m b n x w y:Nat){k:Nat}(L:List Int)(t:Int)(eb:Bool)(o:hI)(tt v:Int)
theorem aoe(h:k<=4):eU aa (Hn k):=by
 match k,h with
 |0,_|1,_|2,_|3,_|4,_=>simp only[Hn];exact e7
 |k+5,h=>omega
def aof(o:hN)(K:Hq b n L)(hk:o.k<=4)(O:o.w<n):ad aa (Hn o.k) [ptr p 0] [cg m L t,mV q m b n,jU p q o] (aF et [cg m (wI b n L o) (ga t),mV q m b n,jU p q (wJ b n L o)]):=by
 obtain⟨k,M⟩:∃k,k=o.k:=⟨_,rfl⟩;rw[<-M]at hk⊢
 match k,hk with
 |
  0,_=>
  have hk:o.k=0:=M.symm;refine ax Tryz.func199 λF D=>?_;obtain⟨k,w,out⟩:=o;obtain rfl:k=0:=hk;replace O:w<n:=O;have em:=K.len;have a:=K.n8;have d:=K.dE;have c:b+w<L.length:=ae;unfold jU;dsimp only;refine aG ?_;refine ct [] [19,201] [] ?_;refine eP ?_;refine bX ?_;refine go_v rfl .none rfl Dx ?_;refine aV (mM _ _ _ (b+w) (c) _) ?_;refine cU ?_;exact aW dD WG
 |
  1,_=>
  have hk:o.k=1:=M.symm;refine ax Tryz.func200 λF D=>?_;obtain⟨k,w,out⟩:=o;obtain rfl:k=1:=hk;replace O:w<n:=O;have em:=K.len;have a:=K.n8;have d:=K.dE;have c:b+w<L.length:=ae;unfold jU;dsimp only;refine aG ?_;refine ct [] [19,201] [] ?_;refine eP ?_;refine bX ?_;refine go_v rfl .none rfl Dx ?_;refine aV (mM _ _ _ (b+w) (c) _) ?_;refine cU ?_;exact aW dD WG
 |
  2,_=>
  have hk:o.k=2:=M.symm;refine ax Tryz.func186 λF D=>?_;obtain⟨k,w,out⟩:=o;obtain rfl:k=2:=hk;replace O:w<n:=O;have em:=K.len;have a:=K.n8;have d:=K.dE;have c:b+w<L.length:=ae;unfold jU;dsimp only;refine cr ?_;refine ct [] [19,201,5] [] ?_;refine eP ?_;refine bX ?_;refine go_v rfl .none rfl Dx ?_;refine aV (nt _ _ _ (b+w) (c)) ?_;refine fZ ?_;refine b6 (λW=>?_) (λW=>?_)
  ·
   refine ch ?_;exact aW dD Nk
  ·
   refine a7 ?_;exact aW dD Nl
 |
  3,_=>
  have hk:o.k=3:=M.symm;refine ax Tryz.func375 λF D=>?_;obtain⟨k,w,out⟩:=o;obtain rfl:k=3:=hk;replace O:w<n:=O;have em:=K.len;have a:=K.n8;have d:=K.dE;have c:b+w<L.length:=ae;unfold jU;dsimp only;refine a7 ?_;refine ct [] [19,201,5] [] ?_;refine eP ?_;refine bX ?_;refine go_v rfl .none rfl Dx ?_;refine aV (nt _ _ _ (b+w) (c)) ?_;refine fZ ?_;refine b6 (λW=>?_) (λW=>?_)
  ·
   refine cO ?_;exact aW dD Nk
  ·
   refine bF ?_;refine aV (Ww p q m b n ⟨3,w,out⟩ O K.n8 rfl) ?_;refine a7 ?_;exact aW dD Nl
 |
  4,_=>
  have hk:o.k=4:=M.symm;refine ax Tryz.func421 λF D=>?_;obtain⟨k,w,out⟩:=o;obtain rfl:k=4:=hk;replace O:w<n:=O;have em:=K.len;have a:=K.n8;have d:=K.dE;have c:b+w<L.length:=ae;unfold jU;dsimp only;refine a7 ?_;refine ct [] [19,201,5] [] ?_;refine eP ?_;refine bX ?_;refine go_v rfl .none rfl Dx ?_;refine aV (tj _ _ _ (b+w) (c) _ _) ?_;refine fx ?_;refine b6 (λW=>?_) (λW=>?_)
  ·
   refine cO ?_;exact aW dD Nk
  ·
   refine dx ?_;refine aV (Ww p q m b n ⟨3,w,out⟩ O K.n8 rfl) ?_;refine a7 ?_;exact aW dD Nl
 |k+5,h=>omega
theorem aog(h:k<=13):eU aa (Ho k):=by
 match k,h with
 |0,_|1,_|2,_|3,_|4,_|5,_|6,_|7,_|8,_|9,_|10,_|11,_|12,_|13,_=>simp only[Ho];exact e7
 |k+14,h=>omega
def aoh(o:ic)(K:yF b n L)(h1:qx o):ad aa (Ho o.pc) [ptr p 0] [cg m L t,nD q m b n,ig p q o] (aF et [cg m (kv b n L o) (ga t),nD q m b n,ig p q (kD b n L o)]):=by
 obtain⟨k,M⟩:∃k,k=o.pc:=⟨_,rfl⟩;have hk:=h1.pc;rw[<-M]at hk⊢
 match k,hk with
 |
  0,_=>
  have hk:o.pc=0:=M.symm;refine ax Tryz.func322 λF D=>?_;have em:=K.len;have a:=K.ec;have d:=K.dE;have g:=K.jV;have c:b<L.length:=ae;have f:b+1<L.length:=ae;have V:=h1.v;have R:=h1.t;have r:=h1.b;obtain⟨pc,out,v,tt,e,fP⟩:=o;obtain rfl:pc=0:=hk;unfold ig;dsimp only;refine ch ?_;refine cj rfl Nn ?_;rintro _ D ⟨_,⟨rfl,rfl⟩,rfl⟩
  try simp only[cn,ci]
  refine cU ?_;exact aW dD wP
 |
  1,_=>
  have hk:o.pc=1:=M.symm;refine ax Tryz.func374 λF D=>?_;have em:=K.len;have a:=K.ec;have d:=K.dE;have g:=K.jV;have c:b<L.length:=ae;have f:b+1<L.length:=ae;have V:=h1.v;have R:=h1.t;have r:=h1.b;obtain⟨pc,out,v,tt,e,fP⟩:=o;obtain rfl:pc=1:=hk;unfold ig;dsimp only;refine bH ?_;refine cj rfl Np ?_;rintro _ D ⟨_,⟨rfl,rfl⟩,rfl⟩
  try simp only[cn,ci]
  refine cO ?_;refine ct [] [17] [] ?_;refine bH ?_;refine go_v rfl .none rfl (yH rfl rfl) ?_;refine cU ?_;refine b6 (λW=>?_) (λW=>?_)
  ·
   refine ch ?_;exact aW dD Dy
  ·
   refine a7 ?_;exact aW dD WH
 |
  2,_=>
  have hk:o.pc=2:=M.symm;refine ax Tryz.func420 λF D=>?_;have em:=K.len;have a:=K.ec;have d:=K.dE;have g:=K.jV;have c:b<L.length:=ae;have f:b+1<L.length:=ae;have V:=h1.v;have R:=h1.t;have r:=h1.b;obtain⟨pc,out,v,tt,e,fP⟩:=o;obtain rfl:pc=2:=hk;unfold ig;dsimp only;refine aG ?_;refine h9 [15,20] [15] [(0,.bJ),(1,.bJ),(2,.bJ),(3,.bJ),(4,.bJ),(5,.bJ),(6,.bJ),(7,.loc),(8,.loc),(9,.loc),(10,.loc),(11,.loc),(12,.loc),(13,.loc),(14,.loc),(16,.bJ),(17,.bJ),(18,.bJ),(19,.bJ),(15,.c0),(20,.c0)] [nD q m b n,ig p q ⟨2,out,v,tt,e,fP⟩] mixed gS ?_;refine eP ?_;refine bF ?_;refine go_c rfl .none rfl (b4 rfl (Ni q m b n a g ae (e) (r.1)) bI) ?_;rintro _ D ⟨_,⟨rfl,rfl⟩,rfl⟩
  try simp only[cn,ci]
  refine aG ?_;refine aV (mM _ _ _ (kj b n e) (K.lt e) _) ?_;refine dx ?_;exact aW dD wP
 |
  3,_=>
  have hk:o.pc=3:=M.symm;refine ax Tryz.func443 λF D=>?_;have em:=K.len;have a:=K.ec;have d:=K.dE;have g:=K.jV;have c:b<L.length:=ae;have f:b+1<L.length:=ae;have V:=h1.v;have R:=h1.t;have r:=h1.b;obtain⟨pc,out,v,tt,e,fP⟩:=o;obtain rfl:pc=3:=hk;unfold ig;dsimp only;refine aG ?_;refine ct [] [20,201] [] ?_;refine fZ ?_;refine go_v rfl .none rfl Nq ?_;refine bF ?_;refine go_v rfl .none rfl (n1 rfl rfl) ?_;refine aV (mM _ _ _ (b+1) (f) _) ?_;refine fZ ?_;exact aW dD wP
 |
  4,_=>
  have hk:o.pc=4:=M.symm;refine ax Tryz.func188 λF D=>?_;have em:=K.len;have a:=K.ec;have d:=K.dE;have g:=K.jV;have c:b<L.length:=ae;have f:b+1<L.length:=ae;have V:=h1.v;have R:=h1.t;have r:=h1.b;obtain⟨pc,out,v,tt,e,fP⟩:=o;obtain rfl:pc=4:=hk;unfold ig;dsimp only;refine ch ?_;refine cj rfl Nn ?_;rintro _ D ⟨_,⟨rfl,rfl⟩,rfl⟩
  try simp only[cn,ci]
  refine cU ?_;exact aW dD wP
 |
  5,_=>
  have hk:o.pc=5:=M.symm;refine ax Tryz.func226 λF D=>?_;have em:=K.len;have a:=K.ec;have d:=K.dE;have g:=K.jV;have c:b<L.length:=ae;have f:b+1<L.length:=ae;have V:=h1.v;have R:=h1.t;have r:=h1.b;obtain⟨pc,out,v,tt,e,fP⟩:=o;obtain rfl:pc=5:=hk;unfold ig;dsimp only;refine aG ?_;refine ct [] [20,201] [] ?_;refine fZ ?_;refine go_v rfl .none rfl Nq ?_;refine bF ?_;refine go_v rfl .none rfl (yH rfl rfl) ?_;refine aV (mM _ _ _ (b+1) (f) _) ?_;refine dx ?_;exact aW dD wP
 |
  6,_=>
  have hk:o.pc=6:=M.symm;refine ax Tryz.func280 λF D=>?_;have em:=K.len;have a:=K.ec;have d:=K.dE;have g:=K.jV;have c:b<L.length:=ae;have f:b+1<L.length:=ae;have V:=h1.v;have R:=h1.t;have r:=h1.b;obtain⟨pc,out,v,tt,e,fP⟩:=o;obtain rfl:pc=6:=hk;unfold ig;dsimp only;refine ch ?_;refine cj rfl Np ?_;rintro _ D ⟨_,⟨rfl,rfl⟩,rfl⟩
  try simp only[cn,ci]
  refine eP ?_;refine aG ?_;refine ct [] [10] [] ?_;refine bH ?_;refine go_v rfl .none rfl (yH rfl rfl) ?_;refine bX ?_;refine b6 (λW=>?_) (λW=>?_)
  ·
   refine cr ?_;exact aW dD Dy
  ·
   refine a7 ?_;exact aW dD WI
 |
  7,_=>
  have hk:o.pc=7:=M.symm;refine ax Tryz.func332 λF D=>?_;have em:=K.len;have a:=K.ec;have d:=K.dE;have g:=K.jV;have c:b<L.length:=ae;have f:b+1<L.length:=ae;have V:=h1.v;have R:=h1.t;have r:=h1.b;obtain⟨pc,out,v,tt,e,fP⟩:=o;obtain rfl:pc=7:=hk;unfold ig;dsimp only;refine aG ?_;refine ct [17,18,24] [108,9,202,2,101,2,201] [nD q m b n,Dz p 299 0 (ptr q 0)] ?_;refine go_vs rfl .none rfl pk hl ?_;refine go_vs rfl .none rfl pk hl ?_;refine go_vs rfl .none rfl (lR rfl) hl ?_
  first|refine go_vs rfl .none rfl wQ hl ?_|refine go_vs rfl .none rfl (nE rfl) hl ?_
  first|refine go_vs rfl .none rfl sm hl ?_|refine go_vs rfl .none rfl wR hl ?_|refine go_vs rfl .none rfl wS hl ?_
  refine go_vs rfl .none rfl (lR rfl) hl ?_
  first|refine go_vs rfl .none rfl wQ hl ?_|refine go_vs rfl .none rfl (nE rfl) hl ?_
  first|refine go_vs rfl .none rfl sm hl ?_|refine go_vs rfl .none rfl wR hl ?_|refine go_vs rfl .none rfl wS hl ?_
  refine bH ?_;refine go_v rfl .none rfl (yH rfl rfl) ?_;refine go_c rfl .none rfl (b4 rfl (Ni q m b n a g ae (e0 (e -1)) ((AR _).1)) bI) ?_;rintro _ D ⟨_,⟨rfl,rfl⟩,rfl⟩
  try simp only[cn,ci]
  refine⟨rB,?_⟩;refine aV (nt _ _ _ (kj b n (e0 (e -1))) (K.lt _)) ?_;refine⟨rB,?_⟩;refine a7 ?_;refine go_vs rfl .none rfl uP hl ?_;refine a7 ?_
  first|refine go_u rfl .none pY rB ?_|refine go_u rfl .none pZ rB ?_
  refine fx ?_;refine ct [] [10] [] ?_;refine bH ?_;refine go_v rfl .none rfl (yH rfl rfl) ?_;refine bX ?_;refine b6 (λW=>?_) (λW=>?_)
  ·
   refine ch ?_;exact aW dD Dy
  ·
   refine a7 ?_;exact aW dD WI
 |
  8,_=>
  have hk:o.pc=8:=M.symm;refine ax Tryz.func378 λF D=>?_;have em:=K.len;have a:=K.ec;have d:=K.dE;have g:=K.jV;have c:b<L.length:=ae;have f:b+1<L.length:=ae;have V:=h1.v;have R:=h1.t;have r:=h1.b;obtain⟨pc,out,v,tt,e,fP⟩:=o;obtain rfl:pc=8:=hk;unfold ig;dsimp only;refine aG ?_;refine ct [25,31] (101::24::uQ) [] ?_;refine go_vs rfl .none rfl pk pn ?_;refine fZ ?_;refine go_v rfl .none rfl (fo (b:Int) eV rfl rfl) ?_;refine bH ?_;refine go_v rfl .none rfl (n1 rfl rfl) ?_;refine aV (tj _ _ _ (b) (c) _ _) ?_;refine⟨nF,?_⟩;refine a7 ?_;refine go_vs rfl .none rfl uP pn ?_;refine a7 ?_
  first|refine go_u rfl .none pY nF ?_|refine go_u rfl .none pZ nF ?_
  refine cO ?_;exact aW dD wP
 |
  9,_=>
  have hk:o.pc=9:=M.symm;refine ax Tryz.func333 λF D=>?_;have em:=K.len;have a:=K.ec;have d:=K.dE;have g:=K.jV;have c:b<L.length:=ae;have f:b+1<L.length:=ae;have V:=h1.v;have R:=h1.t;have r:=h1.b;obtain⟨pc,out,v,tt,e,fP⟩:=o;obtain rfl:pc=9:=hk;unfold ig;dsimp only;refine aG ?_;refine ct [] [19,201] [] ?_;refine fZ ?_;refine go_v rfl .none rfl Nq ?_;refine bF ?_;refine aV (mM _ _ _ (b+1) (f) _) ?_;refine eP ?_;refine bF ?_;refine b6 (λW=>?_) (λW=>?_)
  ·
   refine ch ?_;exact aW dD (by simp only[kv,kD,W,fk];exact(au))
  ·
   refine a7 ?_;exact aW dD (by simp only[kv,kD,W,eH,eo];exact(au))
 |
  10,_=>
  have hk:o.pc=10:=M.symm;refine ax Tryz.func191 λF D=>?_;have em:=K.len;have a:=K.ec;have d:=K.dE;have g:=K.jV;have c:b<L.length:=ae;have f:b+1<L.length:=ae;have V:=h1.v;have R:=h1.t;have r:=h1.b;obtain⟨pc,out,v,tt,e,fP⟩:=o;obtain rfl:pc=10:=hk;unfold ig;dsimp only;refine ch ?_;refine cj rfl Np ?_;rintro _ D ⟨_,⟨rfl,rfl⟩,rfl⟩
  try simp only[cn,ci]
  refine cU ?_;exact aW dD wP
 |
  11,_=>
  have hk:o.pc=11:=M.symm;refine ax Tryz.func227 λF D=>?_;have em:=K.len;have a:=K.ec;have d:=K.dE;have g:=K.jV;have c:b<L.length:=ae;have f:b+1<L.length:=ae;have V:=h1.v;have R:=h1.t;have r:=h1.b;obtain⟨pc,out,v,tt,e,fP⟩:=o;obtain rfl:pc=11:=hk;unfold ig;dsimp only;refine bH ?_;refine cj rfl Nn ?_;rintro _ D ⟨_,⟨rfl,rfl⟩,rfl⟩
  try simp only[cn,ci]
  refine cO ?_;refine ct [] [9] [] ?_;refine cO ?_;refine b6 (λW=>?_) (λW=>?_)
  ·
   refine ch ?_;exact aW dD Dy
  ·
   refine a7 ?_;exact aW dD WH
 |
  12,_=>
  have hk:o.pc=12:=M.symm;refine ax Tryz.func281 λF D=>?_;have em:=K.len;have a:=K.ec;have d:=K.dE;have g:=K.jV;have c:b<L.length:=ae;have f:b+1<L.length:=ae;have V:=h1.v;have R:=h1.t;have r:=h1.b;obtain⟨pc,out,v,tt,e,fP⟩:=o;obtain rfl:pc=12:=hk;unfold ig;dsimp only;refine aG ?_;refine ct [16,17,23] [108,8,202,2,101,2,201] [nD q m b n,Dz p 299 0 (ptr q 0)] ?_;refine go_vs rfl .none rfl pk hl ?_;refine go_vs rfl .none rfl pk hl ?_;refine go_vs rfl .none rfl (lR rfl) hl ?_
  first|refine go_vs rfl .none rfl wQ hl ?_|refine go_vs rfl .none rfl (nE rfl) hl ?_
  first|refine go_vs rfl .none rfl sm hl ?_|refine go_vs rfl .none rfl wR hl ?_|refine go_vs rfl .none rfl wS hl ?_
  refine go_vs rfl .none rfl (lR rfl) hl ?_
  first|refine go_vs rfl .none rfl wQ hl ?_|refine go_vs rfl .none rfl (nE rfl) hl ?_
  first|refine go_vs rfl .none rfl sm hl ?_|refine go_vs rfl .none rfl wR hl ?_|refine go_vs rfl .none rfl wS hl ?_
  refine bH ?_;refine go_c rfl .none rfl (b4 rfl (Ni q m b n a g ae (tt) (R.1)) bI) ?_;rintro _ D ⟨_,⟨rfl,rfl⟩,rfl⟩
  try simp only[cn,ci]
  refine⟨rB,?_⟩;refine aV (nt _ _ _ (kj b n tt) (K.lt _)) ?_;refine⟨rB,?_⟩;refine a7 ?_;refine go_vs rfl .none rfl uP hl ?_;refine a7 ?_
  first|refine go_u rfl .none pY rB ?_|refine go_u rfl .none pZ rB ?_
  refine cO ?_;exact aW dD wP
 |
  13,_=>
  have hk:o.pc=13:=M.symm;refine ax Tryz.func335 λF D=>?_;have em:=K.len;have a:=K.ec;have d:=K.dE;have g:=K.jV;have c:b<L.length:=ae;have f:b+1<L.length:=ae;have V:=h1.v;have R:=h1.t;have r:=h1.b;obtain⟨pc,out,v,tt,e,fP⟩:=o;obtain rfl:pc=13:=hk;unfold ig;dsimp only;refine cr ?_;refine ct [] [24,201,5] [] ?_;refine fZ ?_;refine go_v rfl .none rfl (fo (b:Int) eV rfl rfl) ?_;refine bH ?_;refine go_v rfl .none rfl (n1 rfl rfl) ?_;refine aV (tj _ _ _ (b) (c) _ _) ?_;refine fx ?_;refine b6 (λW=>?_) (λW=>?_)
  ·
   refine ch ?_;exact aW dD Dy
  ·
   refine a7 ?_;exact aW dD (by simp only[kv,kD,a6 W];exact(au))
 |k+14,h=>omega
theorem aoi(h:k<=4):eU aa (Hp k):=by
 match k,h with
 |0,_|1,_|2,_|3,_|4,_=>simp only[Hp];exact e7
 |k+5,h=>omega
def aoj(o:k5)(hk:o.pc<=4)(a2:o.cell<L.length):ad aa (Hp o.pc) [ptr p 0] [cg m L t,oc p m o] (aF et [cg m (yD L o) (ga t),oc p m (wL L o)]):=by
 obtain⟨k,M⟩:∃k,k=o.pc:=⟨_,rfl⟩;rw[<-M]at hk⊢
 match k,hk with
 |
  0,_=>
  have hk:o.pc=0:=M.symm;refine ax Tryz.func427 λF D=>?_;obtain⟨pc,cell,seen,out⟩:=o;obtain rfl:pc=0:=hk;replace a2:cell<L.length:=a2;unfold oc;dsimp only;refine aG ?_;refine ct [9,15] (101::8::uQ) [] ?_;refine go_vs rfl .none rfl pk pn ?_;refine bH ?_;refine aV (nt _ _ _ (cell) (a2)) ?_;refine⟨nF,?_⟩;refine a7 ?_;refine go_vs rfl .none rfl uP pn ?_;refine a7 ?_
  first|refine go_u rfl .none pY nF ?_|refine go_u rfl .none pZ nF ?_
  refine gi ?_;refine aG ?_;refine b6 (λW=>?_) (λW=>?_)
  ·
   refine ch ?_;exact aW dD DA
  ·
   refine a7 ?_;exact aW dD DB
 |
  1,_=>
  have hk:o.pc=1:=M.symm;refine ax Tryz.func446 λF D=>?_;obtain⟨pc,cell,seen,out⟩:=o;obtain rfl:pc=1:=hk;replace a2:cell<L.length:=a2;unfold oc;dsimp only;refine cO ?_;refine ct [] [12,201,5] [] ?_;refine dx ?_;refine aV (tj _ _ _ (cell) (a2) _ _) ?_;refine fx ?_;refine b6 (λW=>?_) (λW=>?_)
  ·
   refine ch ?_;exact aW dD DA
  ·
   refine a7 ?_;exact aW dD DB
 |
  2,_=>
  have hk:o.pc=2:=M.symm;refine ax Tryz.func397 λF D=>?_;obtain⟨pc,cell,seen,out⟩:=o;obtain rfl:pc=2:=hk;replace a2:cell<L.length:=a2;unfold oc;dsimp only;refine aG ?_;refine ct [9,15] (101::8::uQ) [] ?_;refine go_vs rfl .none rfl pk pn ?_;refine bH ?_;refine aV (nt _ _ _ (cell) (a2)) ?_;refine⟨nF,?_⟩;refine a7 ?_;refine go_vs rfl .none rfl uP pn ?_;refine a7 ?_
  first|refine go_u rfl .none pY nF ?_|refine go_u rfl .none pZ nF ?_
  refine gi ?_;refine aG ?_;refine b6 (λW=>?_) (λW=>?_)
  ·
   refine ch ?_;exact aW dD DB
  ·
   refine a7 ?_;exact aW dD DA
 |
  3,_=>
  have hk:o.pc=3:=M.symm;refine ax Tryz.func432 λF D=>?_;obtain⟨pc,cell,seen,out⟩:=o;obtain rfl:pc=3:=hk;replace a2:cell<L.length:=a2;unfold oc;dsimp only;refine cO ?_;refine ct [] [8,201,5] [] ?_;refine bH ?_;refine aV (tj _ _ _ (cell) (a2) _ _) ?_;refine fx ?_;refine b6 (λW=>?_) (λW=>?_)
  ·
   refine ch ?_;exact aW dD DA
  ·
   refine a7 ?_;exact aW dD DB
 |
  4,_=>
  have hk:o.pc=4:=M.symm;refine ax Tryz.func447 λF D=>?_;obtain⟨pc,cell,seen,out⟩:=o;obtain rfl:pc=4:=hk;replace a2:cell<L.length:=a2;unfold oc;dsimp only;refine cr ?_;refine ct [] [8,201,5] [] ?_;refine bH ?_;refine aV (tj _ _ _ (cell) (a2) _ _) ?_;refine fx ?_;refine b6 (λW=>?_) (λW=>?_)
  ·
   refine ch ?_;exact aW dD DA
  ·
   refine a7 ?_;exact aW dD DB
 |k+5,h=>omega
def DC(o:hN)(K:Hq b n L)(hk:o.k<=4)(O:o.w<n):ad aa 476 [ptr p 0] [cg m L t,mV q m b n,jU p q o] (aF (.bool (j6 b n L o).over) [cg m (qy b n L o) DE,mV q m b n,jU p q (j6 b n L o)]):=by
 refine ax Tryz.func476 λF D=>?_;haveI:=aoe hk;refine cr ?_;refine aV (AT _ _ _) ?_;refine bX ?_;refine b6 (λW=>?_) (λW=>?_)
 . have U:o.over=false:=W
   refine bh ?_;refine aV (aof p q m b n L t o K hk O) ?_;exact WJ
 . have U:o.over=true:=W
   exact WJ
def Ht(o:ic)(K:yF b n L)(h1:qx o):ad aa 478 [ptr p 0] [cg m L t,nD q m b n,ig p q o] (aF (.bool (jc b n L o).over) [cg m (mf b n L o) DE,nD q m b n,ig p q (jc b n L o)]):=by
 refine ax Tryz.func478 λF D=>?_;haveI:=aog h1.pc;refine cr ?_;refine aV (Dv _ _ _) ?_;refine bX ?_;refine b6 (λW=>?_) (λW=>?_)
 . have U:o.over=false:=W
   refine bz ?_;refine aV (aoh p q m b n L t o K h1) ?_;exact WK
 . have U:o.over=true:=W
   exact WK
def aok(o:k5)(hk:o.pc<=4)(a2:o.cell<L.length):ad aa 489 [ptr p 0] [cg m L t,oc p m o] (aF (.bool (sk L o).over) [cg m (sj L o) DE,oc p m (sk L o)]):=by
 refine ax Tryz.func489 λF D=>?_;haveI:=aoi hk;refine cr ?_;refine aV (WB _ _ _) ?_;refine bX ?_;refine b6 (λW=>?_) (λW=>?_)
 . have U:o.over=false:=W
   refine bz ?_;refine aV (aoj p m L t o hk a2) ?_;exact WL
 . have U:o.over=true:=W
   exact WL
def Hu(O:w<n)(M:Nat):ad aa 185 [ptr q 0,af w,.func (.func M) #[] #[]] [mV q m b n] (λu H=>∃p,u=ptr p 0/\H=[ab p 295 [ptr q 0,.func (.func M) #[] #[],af w,af 0],mV q m b n]):=by
 refine ax Tryz.func185 λF D=>?_;refine cO ?_;refine wn λE=>?_;refine ch ?_;refine cH ?_;refine dx ?_;refine cH ?_;refine fZ ?_;exact uR
def aol(O:w<n):ad aa 140 [ptr q 0,af w] [mV q m b n] (λu H=>∃p,u=ptr p 0/\H=[jU p q (kk 0 w),mV q m b n]):=by
 refine ax Tryz.func140 λF D=>?_;refine cr ?_;refine bt (Hu q m b n w O 199) ?_;exact ru
def aom(O:w<n):ad aa 144 [ptr q 0,af w] [mV q m b n] (λu H=>∃p,u=ptr p 0/\H=[jU p q (kk 1 w),mV q m b n]):=by
 refine ax Tryz.func144 λF D=>?_;refine cr ?_;refine bt (Hu q m b n w O 200) ?_;exact ru
def aon(O:w<n):ad aa 124 [ptr q 0,af w] [mV q m b n] (λu H=>∃p,u=ptr p 0/\H=[jU p q (kk 2 w),mV q m b n]):=by
 refine ax Tryz.func124 λF D=>?_;refine cr ?_;refine bt (Hu q m b n w O 186) ?_;exact ru
def aoo(O:0<n):ad aa 323 [ptr q 0] [mV q m b n] (λu H=>∃p,u=ptr p 0/\H=[jU p q (kk 3 0),mV q m b n]):=by
 refine ax Tryz.func323 λF D=>?_;refine bH ?_;refine bt (Hu q m b n 0 O 375) ?_;exact ru
def WM:ad aa 267 [ptr q 0,bu v] [] (λu H=>∃p,u=ptr p 0/\H=[ig p q (mS 0 v)]):=by
 refine ax Tryz.func267 λF D=>?_;exact WN
def aop:ad aa 130 [ptr q 0] [] (λu H=>∃p,u=ptr p 0/\H=[ig p q (mS 4 0)]):=by
 refine ax Tryz.func130 λF D=>?_;exact WO
def aoq:ad aa 135 [ptr q 0] [] (λu H=>∃p,u=ptr p 0/\H=[ig p q (mS 10 0)]):=by
 refine ax Tryz.func135 λF D=>?_;exact WO
def WQ(az:b<=65536)(v:Int):ad aa 320 [ptr q 0,bu v] [kU q m b n] (λu H=>∃p,u=ptr p 0/\H=[jd p q b (k4 false v),kU q m b n]):=by
 refine ax Tryz.func320 λF D=>?_;refine fZ ?_;refine wn λE=>?_;exact Nr
def WR(az:b<=65536):ad aa 132 [ptr q 0] [kU q m b n] (λu H=>∃p,u=ptr p 0/\H=[jd p q b (k4 true 0),kU q m b n]):=by
 refine ax Tryz.func132 λF D=>?_;refine dx ?_;refine MS ?_;refine aG ?_;refine wn λc2=>?_;exact Nr
def WS(ej c1 bk b0 d9 eT:Value)(out:Int):ad aa 480 [ptr p 0] [ab p 302 [ej,c1,bk,b0,d9,eT,af out]] (aF (.bool (!decide (out=0))) [ab p 302 [ej,c1,bk,b0,d9,eT,af out]]):=by
 exact Wy
def aor(K:sl b n L)(R:jn tt)(V:jn v):ad aa 481 [ptr p 0] [cg m L t,kU q m b n,jd p q b ⟨0,eb,tt,v,0⟩] (aF (.bool (jT b n L ⟨0,eb,tt,v,0⟩).over) [cg m (lu b n L ⟨0,eb,tt,v,0⟩) (ga t),kU q m b n,jd p q b (jT b n L ⟨0,eb,tt,v,0⟩)]):=by
 refine AU ?_;intro F D em a d g bb aj g4;have f:n5 b eb<L.length:=AV;refine WT ?_;refine dx ?_;refine aV (nt _ _ _ (n5 b eb) (f)) ?_;refine eP ?_;refine bF ?_;refine Hv ?_;exact WU
def aos(K:sl b n L)(R:jn tt)(V:jn v):ad aa 481 [ptr p 0] [cg m L t,kU q m b n,jd p q b DF] (aF (.bool (jT b n L DF).over) [cg m (lu b n L DF) (ga t),kU q m b n,jd p q b (jT b n L DF)]):=by
 refine AU ?_;intro F D em a d g bb aj g4;have f:n5 b eb<L.length:=AV;refine WV ?_;refine bH ?_;refine aV (nt _ _ _ (ls b n tt) (g4)) ?_;refine cU ?_;refine aV (aod p q m b n a DF ⟨Dq rfl,R,V⟩ _) ?_;exact WW
def aot(K:sl b n L)(R:jn tt)(V:jn v):ad aa 481 [ptr p 0] [cg m L t,kU q m b n,jd p q b ⟨2,eb,tt,v,0⟩] (aF (.bool (jT b n L ⟨2,eb,tt,v,0⟩).over) [cg m (lu b n L ⟨2,eb,tt,v,0⟩) (ga t),kU q m b n,jd p q b (jT b n L ⟨2,eb,tt,v,0⟩)]):=by
 refine AU ?_;intro F D em a d g bb aj g4;have f:n5 b eb<L.length:=AV;refine WX ?_;refine fx ?_;refine ct [] [14,201,5] [] ?_;refine fx ?_;refine go_v rfl .none rfl (n1 rfl rfl) ?_;refine aV (tj _ _ _ (n5 b eb) f _ _) ?_;refine fx ?_;refine b6 (λW=>?_) (λW=>?_)
 . refine cO ?_
   refine Hv ?_;exact aW ⟨by simp only[jT,bg W];rfl,rfl⟩ (by simp only[lu,jT,bg W];exact(au))
 . refine Ns ?_
   exact aW ⟨by simp only[jT,a6 W];rfl,rfl⟩ (by simp only[lu,jT,a6 W];exact(au))
def aou(K:sl b n L)(R:jn tt)(V:jn v):ad aa 481 [ptr p 0] [cg m L t,kU q m b n,jd p q b Hw] (aF (.bool (jT b n L Hw).over) [cg m (lu b n L Hw) (ga t),kU q m b n,jd p q b (jT b n L Hw)]):=by
 refine AU ?_;intro F D em a d g bb aj g4;have f:n5 b false<L.length:=AV;refine WY ?_;refine bh ?_;refine aA rfl (fo ((ls b n tt+1:Nat):Int) eV rfl rfl) ?_;refine bF ?_;refine aV (mM _ _ _ (ls b n tt+1) aj _) ?_;refine Ns ?_;exact aW dD (by simp only[lu,jT,eH,eo];exact(au))
def aov(K:sl b n L)(R:jn tt)(V:jn v):ad aa 481 [ptr p 0] [cg m L t,kU q m b n,jd p q b Hy] (aF (.bool (jT b n L Hy).over) [cg m (lu b n L Hy) (ga t),kU q m b n,jd p q b (jT b n L Hy)]):=by
 refine AU ?_;intro F D em a d g bb aj g4;have f:n5 b true<L.length:=AV;refine WY ?_;refine ch ?_;refine aA rfl (fo ((ls b n tt+1:Nat):Int) eV rfl rfl) ?_;refine aV (nt _ _ _ (ls b n tt+1) (aj)) ?_;refine dx ?_;refine Hv ?_;exact aW dD (by simp only[lu,jT,fk];exact(au))
def aow(K:sl b n L)(R:jn tt)(V:jn v):ad aa 481 [ptr p 0] [cg m L t,kU q m b n,jd p q b ⟨4,eb,tt,v,0⟩] (aF (.bool (jT b n L ⟨4,eb,tt,v,0⟩).over) [cg m (lu b n L ⟨4,eb,tt,v,0⟩) (ga t),kU q m b n,jd p q b (jT b n L ⟨4,eb,tt,v,0⟩)]):=by
 refine AU ?_;intro F D em a d g bb aj g4;have f:n5 b eb<L.length:=AV;refine WZ ?_;refine Hz ?_;refine nr ?_;refine aV (WE p q m b n a ⟨4,eb,tt,v,1⟩ ⟨Dq rfl,R,V⟩) ?_;refine aA rfl (n1 rfl rfl) ?_;refine aV (mM _ _ _ (ls b n tt) g4 _) ?_;exact WW
def aox(aJ:o.over=true):ad aa 481 [ptr p 0] wO (aF iu wO):=by
 refine ax Tryz.func481 λF D=>?_;refine cr ?_;refine aV (Ng _ _ _ _) ?_;refine a7 ?_;refine wx W0 ?_;refine bH ?_;exact aW ⟨rfl,rfl⟩
def AW(K:sl b n L)(h1:oa o):ad aa 481 [ptr p 0] (cg m L t::Hs) (aF (.bool (ix b n L o).over) [cg m (n9 b n L o) DE,kU q m b n,jd p q b (ix b n L o)]):=by
 cases aJ:o.over with
 |
  true=>
  have aB:ix b n L o=o:=by unfold ix;rw[bg aJ]
  have aU:n9 b n L o=L:=by unfold n9;rw[bg aJ]
  rw[aB,aU,aJ];exact ki (aox p q b o aJ) bI (λD=>by simp only[cn,ci];exact au)
 |
  false=>
  have aB:ix b n L o=jT b n L o:=by unfold ix;rw[a6 yI]
  have aU:n9 b n L o=lu b n L o:=by unfold n9;rw[a6 yI]
  rw[aB,aU];simp only[eH,eo];obtain⟨k,eb,tt,v,out⟩:=o;obtain rfl:out=0:=by simpa[hI.over]using aJ
  obtain⟨hk,R,V⟩:=h1
  match k,hk with
  |0,_=>exact aor p q m b n L t eb tt v K R V
  |1,_=>exact aos p q m b n L t eb tt v K R V
  |2,_=>exact aot p q m b n L t eb tt v K R V
  |3,_=>
   cases eb
   . exact aou p q m b n L t tt v K R V
   . exact aov p q m b n L t tt v K R V
  |4,_=>exact aow p q m b n L t eb tt v K R V
  |k+5,h=>exact absurd h (by dsimp only;omega)
def aoy(aS:n<=16)(az:b<=65536)(ag:1<=x/\x<=n)(ah:1<=y/\y<=n):ad aa 396 HA [eD q m b n] (λu H=>∃p,u=ptr p 0/\H=[ab p 409 [ptr m 0,af (ly b n x y),bu 0,.nilFunc,af 0],eD q m b n]):=by
 refine ax Tryz.func396 λF D=>?_;have c:(x -1)*n<=256:=by have:=qz (show x -1<=16 by omega) (show n<=16 by omega);omega
 have a:(((x -1)*n:Nat):Int)=((x -1:Nat):Int)*(n:Int):=by rw[DG]
 unfold ly;refine dx ?_;refine wn λf=>?_;refine ch ?_;refine cH ?_;refine dx ?_;refine cH ?_;refine bz ?_;refine cH ?_;refine fx ?_;refine cH ?_;refine ch ?_;refine ct [] [18,201] [] ?_;refine bh ?_;refine go_v rfl .none rfl (ks ((x -1:Nat):Int) eV rfl rfl) ?_;refine bF ?_;refine go_v rfl .none rfl (rs (((x -1)*n:Nat):Int) (by rw[<-a,jv (by omega)]) rfl rfl) ?_;refine go_v rfl .none rfl (fo ((b+(x -1)*n:Nat):Int) eV rfl rfl) ?_;refine aG ?_;refine go_v rfl .none rfl (fo ((b+(x -1)*n+y:Nat):Int) eV rfl rfl) ?_;refine go_v rfl .none rfl (ks ((b+(x -1)*n+y -1:Nat):Int) eV rfl rfl) ?_;refine fx ?_;exact uR
def aoz(aS:n<=16)(az:b<=65536)(ag:1<=x/\x<=n)(ah:1<=y/\y<=n):ad aa 391 HA [eD q m b n] (λu H=>∃p,u=ptr p 0/\H=[oc p m (nC 0 (ly b n x y)),eD q m b n]):=by
 refine ax Tryz.func391 λF D=>?_;exact Nt
def aoA(aS:n<=16)(az:b<=65536)(ag:1<=x/\x<=n)(ah:1<=y/\y<=n):ad aa 349 HA [eD q m b n] (λu H=>∃p,u=ptr p 0/\H=[oc p m (nC 2 (ly b n x y)),eD q m b n]):=by
 refine ax Tryz.func349 λF D=>?_;exact Nt
def aoB(aS:n<=16)(az:b<=65536)(ag:1<=x/\x<=n)(ah:1<=y/\y<=n):ad aa 429 HA [eD q m b n] (λu H=>∃p,u=ptr p 0/\H=[oc p m (nC 4 (ly b n x y)),eD q m b n]):=by
 refine ax Tryz.func429 λF D=>?_;exact Nt
def aoC:ad aa 103 [af s] [] (aF (af (if 1<=s/\s<=8 then s else 0)) []):=by
 refine ax Tryz.func103 λF D=>?_;refine cO ?_;refine hU rfl rfl (λW=>?_) (λW=>?_) rfl
 . have f:=bR W
   refine bh ?_;refine b6 (λI=>?_) (λI=>?_)
   . exact Nu
   . refine cU ?_
     exact DH
 . exact Nv
def aoD:ad aa 104 [af s] [] (aF (af (if 1<=s/\s<=64 then 2+2*s else 0)) []):=by
 refine ax Tryz.func104 λF D=>?_;refine cO ?_;refine hU rfl rfl (λW=>?_) (λW=>?_) rfl
 . have f:=bR W
   refine bh ?_;refine b6 (λI=>?_) (λI=>?_)
   . exact Nu
   . refine dx ?_
     exact DH
 . exact Nv
def aoE:ad aa 105 [af s] [] (aF (af (if 1<=s/\s<=64 then 2+s else 0)) []):=by
 refine ax Tryz.func105 λF D=>?_;refine cO ?_;refine hU rfl rfl (λW=>?_) (λW=>?_) rfl
 . have f:=bR W
   refine bh ?_;refine b6 (λI=>?_) (λI=>?_)
   . exact Nu
   . refine cO ?_
     exact DH
 . exact Nv
end
end Go.Proofs.YtnnhpnccfnghdaaGreat.L
