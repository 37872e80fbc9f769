import Derived.Test.YtnnhpnccfnghdaaGreatR7
set_option linter.all false
set_option maxRecDepth 8000
set_option maxHeartbeats 8000000
namespace Go.Proofs.YtnnhpnccfnghdaaGreat.L
open Go.L Go.L.Whl
section
variable(p:Nat)(w:fX)(id:Int)
theorem aCH(a:Option Addr)(c n:Nat)(l m:List bH)(aM:l.length=n)(hp:l.Perm m)(aj:m.Pairwise (λa b=>a.seq<b.seq))(bm:∀t∈m,t.seq<4611686018427387904)(aA:l.length<=1000):
 ad aa 257 w9 [own w8 336 3 n (l.flatMap te)] abh:=by subst aM;exact al1 a c l m hp aj bm aA
def an1(O:j2 w)(bm:w.seq<4611686018427387904):ad aa 205 [ptr p 0] [fJ p w] (λu H=>∃aI aQ,u=.slice aI w.T.length aQ/\H=[own (.slice aI w.T.length aQ) 36 1 w.T.length (w.T.map λt=>bw t.id),fJ p w]):=by
 refine ko Tryz.func205 rfl rfl rfl ?_;refine Kk ?_;intro F D z K;replace K:nX w z:=K;refine ata ?_;intro hlen aA T al Z;refine zu ?_;refine nu (cF (fM:=λ_=>True) (l:=λx:Option Addr×Nat=>[ab Z 282 [.slice x.1 0 x.2],own (.slice x.1 0 x.2) 336 3 0 (((z.flatMap (·.l)).take 0).flatMap te)]) (none,0) trivial Zk) ?_;rw[show dj (bv:=Option Addr×Nat) (λ_=>True) (λx=>[ab Z 282 [.slice x.1 0 x.2],own (.slice x.1 0 x.2) 336 3 0 (((z.flatMap (·.l)).take 0).flatMap te)])=F2 z Z 0 from rfl];refine zs ?_;refine aB rfl (KG rfl rfl) ?_;refine ci rfl (b1 rfl (UC [ptr Z 0] (F2 z Z) (λ_=>true) p w.now w.seq z hlen aA (λl s i x t av aj ah R g3=>aCG z l s i _ t Z (by have:=(dc.1 (LV ah R)).1;omega) (LV ah R))) bF) ?_;rintro _ D ⟨_,⟨rfl,k,hk,rfl⟩,rfl⟩;refine fm ?_;obtain rfl:k=w.T.length:=by
  exact ar1
 refine zu ?_;refine kK ey ?_;rintro⟨a,c⟩ -;refine gh ?_;rw[yZ ae];refine ja ?_;refine JW ?_;refine ci rfl (b1 rfl (aCH a c w.T.length (z.flatMap (·.l)) w.T T K.flat O.xZ (λt R=>by have:=O.sb t R;omega) ae) (.cons (.tail .head) .nil)) ?_;refine afs ?_;intro aI aQ;refine jh (.inl rfl) rfl rfl [own (.slice aI w.T.length aQ) 36 1 w.T.length (w.T.map λt=>bw t.id),fJ p w] (⟨aI,aQ,rfl,rfl⟩) (λh s=>Sat.swap (xd z K (au) h s))
theorem asJ(d:Int)(O:j2 w)(aM:w.now<3000000000000000000)(bm:w.seq<4611686018427387903):ad aa 312 Dg [fJ p w] (aH (af (n1 w id d)) JD):=by
 refine ko Tryz.func312 rfl rfl rfl ?_;refine Zd ?_;intro F D;refine aB rfl (yJ rfl rfl) ?_;refine kh ?_;refine hx rfl rfl (λW=>?_) (λW=>?_) rfl
 . have f:=W
   replace f:=bN f;refine kh ?_;refine o2 rfl rfl W ?_;refine aB rfl (B0 rfl rfl) ?_;refine aB rfl (yU W rfl rfl) ?_;refine oO ?_;refine mW rfl (λM=>?_) (λM=>?_)
   . replace M:=bN M
     exact ago
   . replace M:=bN M
     refine rq ?_;refine afp ?_;refine ci rfl (b1 rfl (aCC p w id O) bF) ?_;rintro _ D ⟨_,⟨⟨l,s,i,t,b,rfl,ba⟩,rfl⟩,rfl⟩;refine fm ?_;refine afY ?_;rintro _ _ ⟨c2,rfl,rfl⟩;refine agr ?_;refine ja ?_;refine J5 ?_;refine mW rfl (λL=>?_) (λL=>?_)
     . replace L:=bN L
       have aF:w.get id=some t:=by
        rcases ba with⟨_,h,_⟩|⟨h,_⟩
        . exact h
        . rw[h]at L;cases L
       refine H8 ?_;refine jh (.inl rfl) rfl rfl JD (⟨by rw[al4 ae aF],rfl⟩) (by rw[R4 (by rw[al4 (by omega) aF];decide)];exact(au))
     . replace L:=bN L
       have aF:w.get id=none:=by
        rcases ba with⟨h,_⟩|⟨_,h,_⟩
        . rw[h]at L;cases L
        . exact h
       refine J1 ?_;refine xi ?_;refine ci rfl (b1 rfl (aCE p w O) bF) ?_;refine hb ?_;refine fm ?_;refine aB rfl (Ak rfl rfl) ?_;refine oO ?_;refine mW rfl (λfH=>?_) (λfH=>?_)
       . replace fH:=bN fH
         refine H8 ?_;refine jh (.inl rfl) rfl rfl JD (⟨by rw[al5 ae aF ae],rfl⟩) (by rw[R4 (by rw[al5 (by omega) aF (by omega)];decide)];exact(au))
       . replace fH:=bN fH
         refine J1 ?_;refine kK ey ?_;rintro z K;replace K:nX w z:=K;have hlen:=K.hlen;have aA:=K.aA O;refine gh ?_;refine RG ?_;refine aB rfl se ?_;refine aB rfl (fk ((w.seq+1:Nat):Int) eZ rfl rfl) ?_;refine aek ?_;rw[show(oo w.now w.seq z).set (0+1) (af ((w.seq+1:Nat):Int))=oo w.now (w.seq+1) z from rfl];refine zu ?_;refine hU [13] [] [(0,.loc),(1,.loc),(2,.loc),(3,.loc),(4,.loc),(5,.loc),(6,.loc),(7,.loc),(8,.loc),(9,.loc),(10,.loc),(11,.loc),(12,.loc),(13,.c5)] [] mixed gB ?_;refine Rp ?_;refine afk ?_;refine go_v rfl .none rfl (fk ((w.now+d.toNat:Nat):Int) eZ rfl rfl) ?_;refine po ?_;refine go_v rfl .none rfl (lY rfl) ?_;refine OX ?_;refine go_v rfl .none rfl se ?_;refine go_v rfl .none rfl (kE rfl rfl) ?_;refine go_c rfl .none rfl (b1 rfl (al0 p w.now (w.seq+1) z ⟨id,w.now+d.toNat,w.seq+1⟩ ae (show w.now+d.toNat<4000000000000000000 by omega) hlen aA) bF) ?_;rintro _ D ⟨_,⟨rfl,c,I,rfl⟩,rfl⟩;refine fm ?_;refine⟨(λC=>absurd C bJ),?_⟩;refine go_nil ?_;refine af1 ?_;refine jh (.inl rfl) rfl rfl [fJ p ⟨w.now,w.seq+1,w.T++[⟨id,w.now+d.toNat,w.seq+1⟩]⟩] (⟨by rw[al6 ae aF ae],by unfold rj;rw[bd (al6 ae aF ae)]⟩) (xd c (by rw[I];exact iB.lay K _ (UE _ _)) (au))
 . have f:=W
   replace f:=bN f;simp only[jD];refine He rfl rfl W rfl ?_;refine aB rfl (D0 W rfl rfl) ?_;refine oO ?_;refine wk rfl ?_;exact ago
theorem asZ(O:j2 w):ad aa 313 JK [fJ p w] (aH (.bool (w.get id).isSome) [fJ p (rZ w id)]):=by
 refine ko Tryz.func313 rfl rfl rfl ?_;refine Kk ?_;intro F D z K;replace K:nX w z:=K;have hlen:=K.hlen;have aA:=K.aA O;refine agw ?_;refine kh ?_;refine ci rfl (b1 rfl (al3 p w.now w.seq z id hlen aA) bF) ?_;rintro _ D ⟨_,⟨⟨l,s,i,t,b,rfl,a⟩,rfl⟩,rfl⟩;refine fm ?_;have ba:=nX.found K O a;refine afY ?_;rintro _ _ ⟨Y,rfl,rfl⟩;refine agr ?_;refine xi ?_;refine oO ?_;refine mW rfl (λW=>?_) (λW=>?_)
 . replace W:=bN W
   have aF:w.get id=some t:=by
    rcases ba with⟨_,h,_⟩|⟨h,_⟩
    . exact h
    . rw[h]at W;cases W
   have cx:=(get_mem aF).2;obtain⟨x,ah,R,e,c⟩:∃x,z[8*l+s]?=some x/\x.l[i]?=some t/\l<4/\s<8:=by
    rcases a with⟨_,h1,h2,⟨x,aN,bu⟩,_⟩|⟨h,_⟩
    . exact⟨x,aN,bu,h1,h2⟩
    . rw[h]at W;cases W
   have ak:i<x.l.length:=(dc.1 R).1;refine u1 ey (DV ah) ?_;refine hU [14,19] [14] [(0,.bI),(1,.bI),(2,.bI),(3,.loc),(4,.loc),(5,.loc),(6,.loc),(7,.loc),(8,.loc),(9,.loc),(10,.loc),(11,.loc),(12,.loc),(13,.loc),(15,.bI),(16,.bI),(17,.bI),(14,.c5),(18,.loc),(19,.c5)] [mB p w.now w.seq z] mixed gB ?_;refine aez ?_;refine po ?_;refine OW ?_;refine go_v rfl .none rfl (l1 rfl rfl e) ?_;refine go_v rfl .none rfl (l1 rfl rfl c) ?_;refine go_v rfl .none rfl (o_load rfl (FZ ah)) ?_;refine Rp ?_;refine go_v rfl .none rfl abB ?_;refine go_vs rfl .none rfl (lY rfl) (au) ?_;refine Ra ?_;refine go_vs rfl .none rfl (l1 rfl rfl e) (au) ?_;refine go_c rfl .none rfl (b1 rfl (aCt x.a x.c i x.l ak (aA x y7)) bF) ?_;refine hb ?_;refine fm ?_;refine⟨vh,?_⟩;refine go_v rfl .none rfl (l1 rfl rfl c) ?_;refine adu ?_;rw[LU O5];refine go_nil ?_;refine uG (gp ey ey h5) ?_;refine Kz ?_;refine jh (.inl rfl) rfl rfl [fJ p (rZ w id)] (⟨by rw[aF,W];rfl,rfl⟩) (xd (z.set (8*l+s) ⟨x.a,x.c,x.l.eraseIdx i⟩) (by rw[tE];have:=iB.cut K O.nd (by rw[fs,ah];rfl) R;rw[cx]at this;exact this) IH)
 . replace W:=bN W
   have aF:w.get id=none:=by
    rcases ba with⟨h,_⟩|⟨_,h,_⟩
    . rw[h]at W;cases W
    . exact h
   refine rq ?_;refine Kz ?_;refine jh (.inl rfl) rfl rfl [fJ p (rZ w id)] (⟨by rw[aF,W];rfl,rfl⟩) (by rw[aCI aF];exact xd z K (au))
def anN(O:j2 w)(aM:w.now<3000000000000000000)(bm:w.seq<4611686018427387904):ad aa 311 [ptr p 0] [fJ p w] (λu H=>∃aI aQ,u=.slice aI (nz w).length aQ/\H=[own (.slice aI (nz w).length aQ) 36 1 (nz w).length ((nz w).map λt=>bw t.id),fJ p (uA w)]):=by
 refine ko Tryz.func311 rfl rfl rfl ?_;refine Kk ?_;intro F D z K;replace K:nX w z:=K;have hlen:=K.hlen;have aA:=K.aA O;refine agZ ?_;refine aB rfl se ?_;refine aB rfl (fk ((w.now+1:Nat):Int) eZ rfl rfl) ?_;refine aek ?_;rw[show(oo w.now w.seq z).set 0 (af ((w.now+1:Nat):Int))=oo (w.now+1) w.seq z from rfl];refine zu ?_;refine Km ?_;refine tv ?_;refine gG (bv:=Nat×List kJ) (λx=>x.1<=3/\iB (q7 (w.now+1) x.1) w.T (x.2.map (·.l))) (λx=>[(3,af x.1),(0,ptr p 0)]) (λx=>mB p (w.now+1) w.seq x.2::oj x.2::D) (λx=>x.1) (3,z) (⟨ei _,K⟩) (bg.cons rfl (bg.cons rfl (bg.nil))) (au) ?_;rintro⟨l,a⟩ ⟨r,d⟩;replace r:l<=3:=r;replace d:iB (q7 (w.now+1) l) w.T (a.map (·.l)):=d;have S:a.length=32:=by simpa using d.1
 dsimp only;refine hA ?_;refine xi ?_;refine aB rfl (B0 rfl rfl) ?_;refine oO ?_;refine mW rfl (λW=>?_) (λW=>?_)
 . replace W:=bN W
   refine J1 ?_;refine tv ?_;refine hA ?_;refine hU [] [] [(0,.loc),(1,.loc),(2,.loc),(3,.loc),(4,.loc),(5,.loc),(6,.loc),(7,.loc),(8,.loc)] [] mixed gB ?_;refine afk ?_;refine go_v rfl .none rfl (rm ((3*l:Nat):Int) eZ rfl rfl) ?_;refine go_v rfl .none rfl (aqK ((2^(3*l):Nat):Int) (aCJ r) rfl rfl ae Ea) ?_;refine go_v rfl .none rfl (r0 (((w.now+1)%2^(3*l):Nat):Int) (Bm _ _) rfl rfl (by have:=Nat.two_pow_pos (3*l);omega)) ?_;refine go_v rfl .none rfl (my rfl rfl) ?_;refine go_nil ?_;refine hB ?_;refine mW rfl (λM=>?_) (λM=>?_)
   . replace M:=bN M
     have T:(w.now+1)%2^(3*l)=0:=ae;obtain⟨s,aj⟩:∃s,s=kr l (w.now+1)%8:=⟨_,rfl⟩;have c:s<8:=ae;obtain⟨x,ah⟩:∃x,a[8*l+s]?=some x:=⟨_,cz ae⟩;have B:=(iB.jG d (j:=8*l+s) (l:=x.l) (by rw[fs,ah];rfl)).2;have V:x.l.length<=64:=by
      have aN:=B.length_eq;have bu:=qw (λt=>decide (q7 (w.now+1) l t=8*l+s)) w.T;have:=O.len;omega
     have U:pE (q7 (w.now+1) l) (hj (w.now+1)) w.T (8*l+s) x.l 0 ((a.set (8*l+s) ⟨none,0,[]⟩).map (·.l)):=by
      have:=pE.start (g:=hj (w.now+1)) d (E:=8*l+s) ae;rw[ix,fs,ah]at this;rw[tE];exact this
     refine hA ?_;refine afj ?_;refine kh ?_;refine aB rfl (rm ((3*l:Nat):Int) eZ rfl rfl) ?_;refine aB rfl (H2 ((kr l (w.now+1):Nat):Int) (KB _ _) rfl rfl ae Ea) ?_;refine aB rfl (r0 ((kr l (w.now+1)%8:Nat):Int) (Bm _ 8) rfl rfl bJ) ?_;rw[<-aj];refine BV ?_;refine agq ?_;refine aB rfl (o_load rfl (FZ ah)) ?_;refine BV ?_;refine u1 ey (DV ah) ?_;refine agq ?_;refine kb (mv rfl rfl rfl aaf) ?_;rw[LU (m:=[]) (n:=0) rfl];refine ic ?_;refine uG (iV (e:=336) (aY:=3)) ?_;refine uG (gp (A:=so ⟨none,0,[]⟩) (i:=8*l+s) (l:=a.map so) .head ey h5) ?_;refine hB ?_;refine hA ?_;refine afU ?_;refine gG (bv:=Nat×List kJ) (λy=>y.1<=x.l.length/\pE (q7 (w.now+1) l) (hj (w.now+1)) w.T (8*l+s) x.l y.1 (y.2.map (·.l))) (λy=>[(55,af y.1),(54,af x.l.length),(53,FY x),(3,af l),(0,ptr p 0)]) (λy=>mB p (w.now+1) w.seq y.2::oj y.2::so x::D) (λy=>x.l.length -y.1) (0,a.set (8*l+s) ⟨none,0,[]⟩) (⟨eX _,U⟩) (bg.cons rfl (bg.cons rfl (bg.cons rfl (bg.cons rfl (bg.cons rfl (bg.nil)))))) IH ?_;rintro⟨k,q⟩ ⟨hk,o⟩;replace hk:k<=x.l.length:=hk;replace o:pE (q7 (w.now+1) l) (hj (w.now+1)) w.T (8*l+s) x.l k (q.map (·.l)):=o;have b:q.length=32:=by simpa using o.1
     dsimp only;refine ER ?_;refine mW rfl (λL=>?_) (λL=>?_)
     . replace L:=bN L
       obtain⟨t,R⟩:∃t,x.l[k]?=some t:=⟨_,cz ae⟩;have C:t∈w.T:=(oM.1 (B.subset (js R))).1;refine RW ?_;refine aB rfl (fI rfl rfl (show k<x.l.length by omega)) ?_;refine Rk ?_;rintro _ _ ⟨bY,rfl,rfl⟩;refine afi ?_;refine aB rfl (zB rfl (ce:=te t) rfl rfl) ?_;refine ci rfl (b1 rfl (al0 p (w.now+1) w.seq q t ae (by have:=(O.due t C).2;omega) b (λy ag=>by have h1:=o.short (EV (f:=(·.l)) ag);have h2:=O.len;have aN:=B.length_eq;have bu:=qw (λt=>decide (q7 (w.now+1) l t=8*l+s)) w.T;omega)) bF) ?_;rintro _ D ⟨_,⟨rfl,J,I,rfl⟩,rfl⟩;refine fm ?_;refine ic ?_;refine J2 ?_;refine aB rfl (fk ((k+1:Nat):Int) eZ rfl rfl) ?_;refine EK ?_;refine fD (k+1,J) ⟨show k+1<=x.l.length by omega,by
        show pE (q7 (w.now+1) l) (hj (w.now+1)) w.T (8*l+s) x.l (k+1) (J.map (·.l));rw[I];exact o.step R (UE _ _)⟩ (show x.l.length -(k+1)<x.l.length -k by omega) (bg.cons rfl (bg.cons rfl (bg.cons rfl (bg.cons rfl (bg.cons rfl (bg.nil)))))) (au)
     . replace L:=bN L
       refine R2 ?_;refine aeP ?_;obtain rfl:k=x.l.length:=ae;refine fD (l -1,q) ⟨show l -1<=3 by omega,by
        show iB (q7 (w.now+1) (l -1)) w.T (q.map (·.l));rw[al7 ae r];exact(o.done B).congr (λt _=>by unfold pass;rw[bd T,aj];rfl)⟩ (show l -1<l by omega) (bg.cons rfl (bg.cons rfl (bg.nil))) (au)
   . replace M:=bN M
     have T:¬(w.now+1)%2^(3*l)=0:=ae;refine rq ?_;refine yt ?_;refine hB ?_;refine afe ?_;refine fD (l -1,a) ⟨show l -1<=3 by omega,by
      show iB (q7 (w.now+1) (l -1)) w.T (a.map (·.l));rw[al7 ae r];exact d.congr (λt _=>by unfold pass;rw[a8 T])⟩ (show l -1<l by omega) (bg.cons rfl (bg.cons rfl (bg.nil))) (au)
 . replace W:=bN W
   refine afo ?_;obtain rfl:l=0:=ae;obtain⟨s,aj⟩:∃s,s=(w.now+1)%8:=⟨_,rfl⟩;have c:s<8:=ae;obtain⟨x,ah⟩:∃x,a[8*0+s]?=some x:=⟨_,cz ae⟩;have N:iB (λt=>hj (w.now+1) t.due) w.T (a.map (·.l)):=d.congr λt R=>by
    have:=O.due t R;exact aCK ae (show w.now<t.due by omega) (show t.due<=w.now+4095 by omega)
   have hp:=(iB.jG N (j:=s) (l:=x.l) (by rw[fs,show s=8*0+s by omega,ah];rfl)).2;rw[aj]at hp;refine afj ?_;refine aB rfl (r0 (((w.now+1)%8:Nat):Int) (Bm _ 8) rfl rfl bJ) ?_;rw[<-aj];refine qF ?_;refine asY ?_;refine aB rfl (l1 (j:=0) rfl rfl bJ) ?_;refine aB rfl (l1 rfl rfl c) ?_;refine aB rfl (o_load rfl (FZ (l:=0) ah)) ?_;refine BV ?_;refine u1 ey (DV ah) ?_;refine zs ?_;refine Rz ?_;refine aB rfl (l1 (j:=0) rfl rfl bJ) ?_;refine aB rfl (l1 rfl rfl c) ?_;refine kb (mv rfl rfl rfl aaf) ?_;rw[LU (l:=0) (m:=[]) (n:=0) rfl];refine ic ?_;refine uG (iV (e:=336) (aY:=3)) ?_;refine uG (gp (A:=so ⟨none,0,[]⟩) (i:=8*0+s) (l:=a.map so) .head ey h5) ?_;refine hB ?_;refine xi ?_;refine ci rfl (b1 rfl (al1 x.a x.c x.l (nz w) (hp.trans (F1 (aCL O))) (O.xZ.sublist F3) (λt R=>by have:=O.sb t (oM.1 R).1;omega) (by have h1:=hp.length_eq;have h2:=qw (λt=>decide (hj (w.now+1) t.due=(w.now+1)%8)) w.T;have aN:=O.len;omega)) bF) ?_;refine afs ?_;intro aI aQ;refine jh (.inl rfl) rfl rfl [own (.slice aI (nz w).length aQ) 36 1 (nz w).length ((nz w).map λt=>bw t.id),fJ p (uA w)] (⟨aI,aQ,rfl,rfl⟩) (λh st=>Sat.swap (xd (w:=uA w) (a.set (8*0+s) ⟨none,0,[]⟩) (by have h1:=iB.empty N (E:=s) (by omega);rw[aj,aCM O,<-aj]at h1;rw[tE,show 8*0+s=s by omega];exact h1) IH h st))
end
end Go.Proofs.YtnnhpnccfnghdaaGreat.L
namespace Go.Proofs.YtnnhpnccfnghdaaGreat.L.Ck
open Go.Proofs.YtnnhpnccfnghdaaGreat.L
open Go.L Go.L.Ring Go.L.dq Go.L.dR Go.L.Whl
attribute[local irreducible] G cE GE cY GT b0 df c4 di Exit.then Exit.inBlock
structure oF where
 c:Nat
 m:Nat
 r:Nat
 wp:Nat
abbrev gm(X:oF)(B:k2):aq:=ab X.c 219 [ptr X.m 0,af B.b,af B.n,ptr X.r 0,ptr X.wp 0]
section
variable(X:oF)(a:Option Addr){D:List aq}(B:k2)(k p q c1 bn b9 left:Nat)(id d:Int)(l:List Int)(aC:hy)(x y:Value)(w:fX)(o:fo)
abbrev fQ:Value:=.slice a l.length k
abbrev hz:aq:=own (.slice a l.length k) 36 1 l.length (l.map bw)
abbrev lv(d u r:Value):oG:=⟨310,[ptr X.c 0,d,u,r]⟩
abbrev kO:Value:=.slice none 0 0
abbrev GK:=Nat×Nat×Nat×Nat×Option Addr×Nat×Option Addr×Nat
def tm(cut ref:List Int):wi->aq
 |.put o=>dj (bv:=GK) (λ_=>True) (λe=>match e with|(q,c1,bn,b9,cr,cS,cD,cd)=>[cU p (yk q) (bj 426 [ptr c1 0,ptr bn 0]) 0 0 (lv X kO (fQ cr cS cut) (fQ cD cd ref)),iY q X.r o,ab c1 248 [ptr p 0],ab bn 326 [ptr q 0],hz cr cS cut,hz cD cd ref])
 |.now=>dj (bv:=GK) (λ_=>True) (λe=>match e with|(z,c1,bn,b9,cr,cS,cD,cd)=>[cU p (mm z) (bj 352 [ptr c1 0,ptr bn 0]) 0 0 (lv X kO (fQ cr cS cut) (fQ cD cd ref)),tn z X.m B.b,ab c1 248 [ptr p 0],ab bn 314 [ptr z 0],hz cr cS cut,hz cD cd ref])
 |.take left o=>dj (bv:=GK) (λ_=>True) (λe=>match e with|(q,c1,bn,b9,cr,cS,cD,cd)=>[cU p (yk q) (bj 250 [ptr c1 0,ptr bn 0,ptr b9 0]) 0 0 (lv X kO (fQ cr cS cut) (fQ cD cd ref)),iY q X.r o,ab c1 326 [ptr q 0],ab bn 248 [ptr p 0],ab b9 3 [af left],hz cr cS cut,hz cD cd ref])
 |.tick v=>dj (bv:=GK) (λ_=>True) (λe=>match e with|(z,c1,bn,b9,cr,cS,cD,cd)=>[cU p (mm z) (bj 310 [ptr c1 0]) 0 0 (lv X kO (fQ cr cS cut) (fQ cD cd ref)),uy z X.m B.b v,ab c1 248 [ptr p 0],hz cr cS cut,hz cD cd ref])
abbrev Wd:=Value×Value×Option Addr×Nat×Option Addr×Nat×Option Addr×Nat
def MC:aq:=dj (bv:=Wd) (λ_=>True) (λe=>match e with|(x,y,a0,fd,cr,cS,cD,cd)=>[cU p x y aC.out aC.val (lv X (fQ a0 fd aC.due) (fQ cr cS aC.cut) (fQ cD cd aC.ref)),hz a0 fd aC.due,hz cr cS aC.cut,hz cD cd aC.ref])
def iZ:aq:=if aC.out=0 then tm X B p aC.cut aC.ref aC.ph else MC X p aC
def yl{X:oF}{B:k2}{p:Nat}{aC:hy}{M D:List aq}(bh:aC.out=0)(h:∀h,Sat M h->Sat (tm X B p aC.cut aC.ref aC.ph::D) h):∀h,Sat M h->Sat (iZ X B p aC::D) h:=by
 unfold iZ;rw[bd bh];exact h
def MD{X:oF}{B:k2}{p:Nat}{aC:hy}{M D:List aq}(bh:aC.out≠0)(e:Wd)(h:∀h,Sat M h->Sat (cU p e.1 e.2.1 aC.out aC.val (lv X (fQ e.2.2.1 e.2.2.2.1 aC.due) (fQ e.2.2.2.2.1 e.2.2.2.2.2.1 aC.cut) (fQ e.2.2.2.2.2.2.1 e.2.2.2.2.2.2.2 aC.ref))::hz e.2.2.1 e.2.2.2.1 aC.due::hz e.2.2.2.2.1 e.2.2.2.2.2.1 aC.cut::hz e.2.2.2.2.2.2.1 e.2.2.2.2.2.2.2 aC.ref::D) h):∀h,Sat M h->Sat (iZ X B p aC::D) h:=by
 unfold iZ;rw[a8 bh];exact cF e trivial h
def anC:∀h,Sat D h->Sat (hz none 0 []::D) h:=iV
def GL:∀h,Sat D h->Sat (hz none 0 []::hz none 0 []::D) h:=λh s=>iV h (iV h s)
def anD:∀h,Sat D h->Sat (hz none 0 []::hz none 0 []::hz none 0 []::D) h:=λh s=>iV h (GL h s)
def u64_quo{v:Int}(bh:0<=v)(h1:v<=18446744073709551615):IntKind.u64.wrap (v.tdiv 4096)=v/4096:=ME (n:=4096) bh h1 bJ
def We(aM:w.now<3000000000000000000)(cr:Option Addr)(cS:Nat)(cD:Option Addr)(cd:Nat)(cut ref:List Int):ad aa 249 [ptr p 0] ym Wf:=by
 refine aw Tryz.func249 λF D=>?_;refine bb ?_;refine wn λar=>?_;refine bb ?_;refine hU [24,27,30] [24,27] [(0,.bI),(1,.bI),(2,.bI),(3,.bI),(4,.bI),(5,.bI),(6,.bI),(7,.bI),(8,.bI),(9,.bI),(10,.bI),(11,.bI),(12,.bI),(13,.bI),(14,.bI),(15,.bI),(16,.bI),(17,.loc),(18,.loc),(19,.loc),(20,.loc),(21,.loc),(22,.loc),(23,.loc),(29,.bI),(24,.c5),(25,.loc),(26,.loc),(27,.c5),(28,.loc),(30,.c5)] [ab ar 248 [ptr p 0],cU p x y 0 0 wj,gm X B] mixed gB ?_;refine gg ?_;refine bB ?_;refine aT (anE X.wp w) ?_;refine aG ?_;refine go_v rfl .none rfl (fk ((w.now+1:Nat):Int) eZ rfl rfl) ?_;refine go_v rfl .none rfl (o6 ((w.now+1:Nat):Int) (tp ae) rfl) ?_;refine br (GM X.m B.b ((w.now+1:Nat):Int)) ?_;refine GN ?_;intro z;refine aT (GO p z wj X.m B.b ((w.now+1:Nat):Int) x y _ rfl 0 0) ?_;refine b6 ?_;exact aX ⟨rfl,rfl⟩ (cF (z,ar,0,0,cr,cS,cD,cd) trivial (au))
def Wg(aM:w.now<3000000000000000000)(left:Nat)(av:left<=64)(cr:Option Addr)(cS:Nat)(cD:Option Addr)(cd:Nat)(cut ref:List Int):ad aa 201 [ptr p 0,af left] ym (aH eu (tm X B p cut ref (pM left w)::AH)):=by
 refine aw Tryz.func201 λF D=>?_;refine nY ?_;intro U Z;refine cv ?_;refine cg (λW=>?_) (λW=>?_)
 . obtain rfl:left=0:=by omega
   refine b6 ?_;refine aT (We X B p x y w aM cr cS cD cd cut ref) ?_;refine bB ?_;exact aX ⟨rfl,rfl⟩
 . have d:¬left=0:=by omega
   refine c0 ?_;refine br (MF X.r) ?_;refine ny ?_;intro q;refine wn λaO=>?_;refine b6 ?_;refine cu [] [6,201] [ab aO 326 [ptr q 0],ab U 248 [ptr p 0]] ?_;refine MG ?_;refine aT (AI p q X.r wj x y _ rfl 0 0 (gU 5 0) rfl) ?_;refine b6 ?_;exact aX dI (by unfold pM;rw[a8 d];exact cF (q,aO,U,Z,cr,cS,cD,cd) trivial (au))
theorem anF(O:mn w)(id d:Int)(aL:0<=d/\d<=4095)(cr:Option Addr)(cS:Nat)(cD:Option Addr)(cd:Nat)(cut ref:List Int)(l:cut.length<=1000)(a:ref.length<=1000)(h:d≠0)(V:n1 w id d≠0):ad aa 252 Dg ym (λu H=>∃b f i j,u=.tuple #[]/\H=[cU p x y 0 0 (lv X kO (fQ b f cut) (fQ i j (ref++[id]))),hz b f cut,hz i j (ref++[id]),gm X B,fJ X.wp (rj w id d)]):=by
 refine aw Tryz.func252 λF D=>?_;refine Wh ?_;refine aB rfl (fC (c:=true) (by simpa using V) (mo rfl rfl)) ?_;refine dC ?_;refine wn λr=>?_;refine gQ λe g=>?_;rw[show ref.map bw++[bw id]=(ref++[id]).map bw by simp,show ref.length+1=(ref++[id]).length by simp];refine bi ?_;exact GQ
theorem anG(O:mn w)(id d:Int)(aL:0<=d/\d<=4095)(cr:Option Addr)(cS:Nat)(cD:Option Addr)(cd:Nat)(cut ref:List Int)(l:cut.length<=1000)(a:ref.length<=1000)(h:d≠0)(V:n1 w id d=0):ad aa 252 Dg ym (λu H=>∃b f i j,u=.tuple #[]/\H=[cU p x y 0 0 (lv X kO (fQ b f cut) (fQ i j ref)),hz b f cut,hz i j ref,gm X B,fJ X.wp (rj w id d)]):=by
 refine aw Tryz.func252 λF D=>?_;refine Wh ?_;refine aB rfl (fC (c:=false) (by simpa using V) (mo rfl rfl)) ?_;refine bQ ?_;refine cP ?_;refine eJ ?_;refine b6 ?_;exact GQ
theorem anH(O:mn w)(id d:Int)(aL:0<=d/\d<=4095)(cr:Option Addr)(cS:Nat)(cD:Option Addr)(cd:Nat)(cut ref:List Int)(l:cut.length<=1000)(a:ref.length<=1000)(h:d=0)(V:(w.get id).isSome=true):ad aa 252 Dg ym (λu H=>∃b f i j,u=.tuple #[]/\H=[cU p x y 0 0 (lv X kO (fQ b f (cut++[id])) (fQ i j ref)),hz b f (cut++[id]),hz i j ref,gm X B,fJ X.wp (rZ w id)]):=by
 refine Wi ?_;intro F D;refine wk Wj ?_;refine cq ?_;refine wn λc=>?_;refine gQ λa53 e=>?_;rw[show cut.map bw++[bw id]=(cut++[id]).map bw by simp,show cut.length+1=(cut++[id]).length by simp];refine bi ?_;exact GQ
theorem anI(O:mn w)(id d:Int)(aL:0<=d/\d<=4095)(cr:Option Addr)(cS:Nat)(cD:Option Addr)(cd:Nat)(cut ref:List Int)(l:cut.length<=1000)(a:ref.length<=1000)(h:d=0)(V:(w.get id).isSome=false):ad aa 252 Dg ym (λu H=>∃b f i j,u=.tuple #[]/\H=[cU p x y 0 0 (lv X kO (fQ b f cut) (fQ i j ref)),hz b f cut,hz i j ref,gm X B,fJ X.wp (rZ w id)]):=by
 refine Wi ?_;intro F D;refine tq Wj ?_;refine b6 ?_;exact GQ
def anJ(O:mn w)(v:Int)(Y:0<=v)(cr:Option Addr)(cS:Nat)(cD:Option Addr)(cd:Nat)(cut ref:List Int)(l:cut.length<=1000)(a:ref.length<=1000):ad aa 252 [ptr p 0,bw (v/4096),af (v%4096)] ym (λu H=>∃b f i j,u=.tuple #[]/\H=[cU p x y 0 0 (lv X kO (fQ b f (cut++rk v w)) (fQ i j (ref++rl v w))),hz b f (cut++rk v w),hz i j (ref++rl v w),gm X B,fJ X.wp (lV v w)]):=by
 have bf:0<=v%4096/\v%4096<=4095:=ae;unfold lV rk rl;by_cases h:v%4096=0
 . cases V:(w.get (v/4096)).isSome with
   |
    true=>
    rw[bd h,bd ⟨h,rfl⟩,a8 (λg=>g.1 h),jr];exact anH X B p x y w O _ _ bf cr cS cD cd cut ref l a h V
   |
    false=>
    rw[bd h,a8 (λg=>by cases g.2),a8 (λg=>g.1 h),jr,jr];exact anI X B p x y w O _ _ bf cr cS cD cd cut ref l a h V
 . by_cases V:n1 w (v/4096) (v%4096)=0
   . rw[a8 h,a8 (λg=>h g.1),a8 (λg=>g.2 V),jr,jr]
     exact anG X B p x y w O _ _ bf cr cS cD cd cut ref l a h V
   . rw[a8 h,a8 (λg=>h g.1),bd ⟨h,V⟩,jr]
     exact anF X B p x y w O _ _ bf cr cS cD cd cut ref l a h V
def anK(av:1<=left/\left<=64)(w:fX)(O:mn w)(cr:Option Addr)(cS:Nat)(cD:Option Addr)(cd:Nat)(cut ref:List Int)(aK:o.out≠1):ad aa 250 yn Wk Wf:=by
 refine aw Tryz.func250 λF D=>?_;refine bK ?_;refine aT (uz q X.r o) ?_;refine aB rfl (fC (c:=true) (by simpa using aK) (mo rfl rfl)) ?_;refine bi ?_;refine aT (We X B p x y w O.now cr cS cD cd cut ref) ?_;refine bB ?_;exact aX ⟨rfl,rfl⟩
def anL(av:1<=left/\left<=64)(w:fX)(O:mn w)(cr:Option Addr)(cS:Nat)(cD:Option Addr)(cd:Nat)(cut ref:List Int)(aK:o.out=1)(r:0<=o.value)(n:o.value<=18446744073709551615)(l:cut.length<=1000)(a:ref.length<=1000)(e:(lV o.value w).now<3000000000000000000):ad aa 250 yn Wk (aH eu [tm X B p (cut++rk o.value w) (ref++rl o.value w) (pM (left -1) (lV o.value w)),gm X B,fJ X.wp (lV o.value w)]):=by
 refine aw Tryz.func250 λF D=>?_;refine bK ?_;refine aT (uz q X.r o) ?_;refine aB rfl (fC (c:=false) (by simpa using aK) (mo rfl rfl)) ?_;refine bi ?_;refine hU [2,5,8] [2,5] [(0,.bI),(1,.loc),(4,.bI),(2,.c5),(3,.bI),(5,.c5),(6,.loc),(7,.loc),(8,.c5)] [ab c1 326 [ptr q 0],ab bn 248 [ptr p 0]] mixed gB ?_;refine b6 ?_;refine aT (MH q X.r o) ?_;refine aG ?_;refine go_vs rfl .none rfl (GR (o.value/4096) (u64_quo r n) rfl rfl bJ) (au) ?_;refine aT (MH q X.r o) ?_;refine aG ?_;refine go_v rfl .none rfl (r0 (o.value%4096) (Wl r) rfl rfl bJ) ?_;refine go_v rfl .none rfl (o6 (o.value%4096) (je ae) rfl) ?_;refine br (anJ X B p x y w O o.value r cr cS cD cd cut ref l a) ?_;rintro _ _ ⟨b,f,i,j,rfl,rfl⟩;refine et ?_;refine bi ?_;refine aB rfl (kl ((left -1:Nat):Int) eZ rfl rfl) ?_;refine ci rfl (b1 rfl (Wg X B p x y (lV o.value w) e (left -1) ae b f i j (cut++rk o.value w) (ref++rl o.value w)) bF) ?_;refine yh ?_;exact aX ⟨rfl,rfl⟩
theorem anM(O:mn w)(cr:Option Addr)(cS:Nat)(cD:Option Addr)(cd:Nat)(cut ref:List Int):ad aa 310 [ptr c1 0] (cU p x y 0 0 wj::ab c1 248 [ptr p 0]::MI) (aH eu [MC X p ⟨.now,1,0,((nz w).map (·.id)),cut,ref⟩,gm X B,fJ X.wp (uA w)]):=by
 refine aw Tryz.func310 λF D=>?_;refine aG ?_;refine cu [8] [101,7,201,2,201] [ab c1 248 [ptr p 0],gm X B] ?_;refine bQ ?_;refine go_c rfl .none rfl (b1 rfl (anN X.wp w O.ok O.now (by have:=O.seq;omega)) bF) ?_;rintro _ D ⟨_,⟨a0,fd,rfl,rfl⟩,rfl⟩;refine fm ?_;rw[show(nz w).length=((nz w).map (·.id)).length by simp,show((nz w).map λt=>bw t.id)=((nz w).map (·.id)).map bw by simp];refine c8 ?_;refine aT (mq p (lv X (fQ a0 fd ((nz w).map (·.id))) (fQ cr cS cut) (fQ cD cd ref)) x y 0 0 1 0) ?_;refine bb ?_;exact aX ⟨rfl,rfl⟩ (cF (x,y,a0,fd,cr,cS,cD,cd) trivial (au))
def anO(B:k2)(p q c1 bn:Nat)(x y:Value)(o:fo)(bo:oG):ad aa 426 [ptr c1 0,ptr bn 0] [cU p x y 0 0 bo,iY q X.r o,ab c1 248 [ptr p 0],ab bn 326 [ptr q 0]] (aH eu [cU p x y o.out 0 bo]):=by
 refine aw Tryz.func426 λF D=>?_;refine cu [4] [103,1,202] [ab c1 248 [ptr p 0],ab bn 326 [ptr q 0]] ?_;refine bK ?_;refine aT (uz q X.r o) ?_;refine aG ?_;refine aT (mq p bo x y 0 0 o.out 0) ?_;exact vY
def anP(X:oF)(B:k2)(p z c1 bn:Nat)(x y:Value)(v:Int)(fK:Bool)(bo:oG):ad aa 352 [ptr c1 0,ptr bn 0] [cU p x y 0 0 bo,qk z v fK,ab c1 248 [ptr p 0],ab bn 314 [ptr z 0]] (aH eu [cU p x y 1 v bo]):=by
 refine aw Tryz.func352 λF D=>?_;refine yo ?_;intro f;refine cu [] [7,201] [ab c1 248 [ptr p 0],ab bn 314 [ptr z 0],o7 z f true v fK] ?_;refine cq ?_;refine aT (mq p bo x y 0 0 1 v) ?_;exact vY
theorem anQ:ad aa 390 [ptr X.c 0,bw id,af d,.bool false] [gm X B] Wm:=by
 refine MJ ?_;intro F D f co;refine dC ?_;exact Wn
theorem anR(h:1125899906842624<id):ad aa 390 [ptr X.c 0,bw id,af d,.bool true] [gm X B] Wm:=by
 refine MJ ?_;intro F D f co;refine bK ?_;refine cP ?_;refine cv ?_;exact Wn
theorem anS(cx:0<=id)(h:id<=1125899906842624)(aL:0<=d/\d<=4095):ad aa 390 [ptr X.c 0,bw id,af d,.bool true] [gm X B] (λu H=>∃p,u=ptr p 0/\H=[iZ X B p (o8 (.put (gU 0 (id*4096+d)))),gm X B]):=by
 refine MJ ?_;intro F D f co;refine bK ?_;refine cP ?_;refine fr ?_;refine aB rfl (rm (id*4096) (tp ae) rfl rfl) ?_;refine aG ?_;refine aB rfl (o6 d (tp ae) rfl) ?_;refine aB rfl (fk (id*4096+d) (tp ae) rfl rfl) ?_;refine br (Wo X.r (id*4096+d)) ?_;refine ny ?_;intro q;refine wn λc2=>?_;refine bK ?_;refine cu [] [6,201] [ab co 248 [ptr f 0],ab c2 326 [ptr q 0]] ?_;refine MG ?_;refine aT (AI f q X.r (lv X kO kO kO) _ _ _ rfl 0 0 (gU 0 (id*4096+d)) rfl) ?_;refine c0 ?_;exact aX ⟨f,rfl,rfl⟩ (yl rfl (cF (q,co,c2,0,none,0,none,0) trivial (λh s=>Sat.tail (λh s=>Sat.tail (λh s=>Sat.tail (λh s=>Sat.tail (λh s=>GL h s) s) s) s) ((au) h s))))
theorem Wp(a:Bool)(cx:0<=id)(aL:a=true->0<=d/\d<=4095):ad aa 390 [ptr X.c 0,bw id,af d,.bool a] [gm X B] (λu H=>∃p,u=ptr p 0/\H=[iZ X B p (if a=true/\id<=1125899906842624 then o8 (.put (gU 0 (id*4096+d)))else{o8 .now with out:=4}),gm X B]):=by
 cases a with
 |false=>exact(anQ X B id d).mono λv H h=>by rw[a8 (λg=>by cases g.1)];exact h
 |
  true=>
  by_cases h:id<=1125899906842624
  . exact(anS X B id d cx h (aL rfl)).mono λv H g=>by rw[bd ⟨rfl,h⟩];exact g
  . exact(anR X B id d ae).mono λv H g=>by rw[a8 (λq=>h q.2)];exact g
theorem anT{id d:Int}:r1 id d=if(decide (1<=d)&&decide (d<=4095))=true/\id<=1125899906842624 then o8 (.put (gU 0 (id*4096+d)))else{o8 .now with out:=4}:=by
 unfold r1;by_cases h:d<1\/4095<d\/1125899906842624<id
 . rw[bd h,a8 h5]
 . rw[a8 h,bd h5]
theorem anU{id:Int}:r2 id=if true=true/\id<=1125899906842624 then o8 (.put (gU 0 (id*4096+0)))else{o8 .now with out:=4}:=by
 unfold r2;by_cases h:1125899906842624<id
 . rw[bd h,a8 (λg=>absurd g.2 ae)]
 . rw[a8 h,bd ⟨rfl,by omega⟩,Int.add_zero]
theorem anV(cx:0<=id):ad aa 388 [ptr X.c 0,bw id,af d] [gm X B] (λu H=>∃p,u=ptr p 0/\H=[iZ X B p ((r1 id d)),gm X B]):=by
 refine aw Tryz.func388 λF D=>?_;refine fr ?_;refine ls (d:=15) 3 (.bool (decide (1<=d)&&decide (d<=4095))) ?_ (λa=>?_)
 rotate_left
 . refine hx rfl rfl (λW=>?_) (λW=>?_) rfl
   . have f:=bN W
     refine bK ?_;exact h4 a
   . have f:=bN W
     simp only[jD];refine bb ?_;exact h4 a
 refine ci rfl (b1 rfl (Wp X B id d (decide (1<=d)&&decide (d<=4095)) cx (λh=>by simp at h;omega)) bF) ?_;rintro _ D ⟨_,⟨p,rfl,rfl⟩,rfl⟩;refine uB ?_;exact aX AJ (by rw[anT];exact(au))
theorem anW(cx:0<=id):ad aa 390 [ptr X.c 0,bw id,af 0,.bool true] [gm X B] Wq:=(Wp X B id 0 true cx (λ_=>by decide)).mono λv H h=>by rw[anU];exact h
theorem anX(cx:0<=id):ad aa 347 [ptr X.c 0,bw id] [gm X B] Wq:=by
 refine aw Tryz.func347 λF D=>?_;refine cv ?_;refine br (anW X B id cx) ?_;exact rn
def anY:ad aa 301 [ptr X.c 0] [gm X B] (λu H=>∃p,u=ptr p 0/\H=[iZ X B p (uC),gm X B]):=by
 refine aw Tryz.func301 λF D=>?_;refine cv ?_;refine wn λbY=>?_;refine wn λZ=>?_;refine bK ?_;refine il [8,9,10] [9] wl [gm X B] ?_;refine bQ ?_;refine fe ?_ ?_
 . refine GU ?_
   intro z;refine aG ?_;refine wn λaO=>?_;exact Wr
 . refine wn λaO=>?_
   refine aG ?_;refine GU ?_;intro z;exact Wr
def anZ(cb:B.n<=64)(w:fX)(aM:w.now<3000000000000000000):ad aa 147 [ptr X.c 0] AH (λu H=>∃p,u=ptr p 0/\H=(iZ X B p (yp B w)::AH)):=by
 refine aw Tryz.func147 λF D=>?_;refine cv ?_;refine wn λaS=>?_;refine c8 ?_;refine rp (λh s=>Sat.tail (λh s=>GL h s) ((au) h s)) ?_;refine aT (Wg X B aS _ _ w aM B.n cb none 0 none 0 [] []) ?_;refine c8 ?_;exact aX ⟨aS,rfl,rfl⟩ (yl rfl (au))
def an0(O:mn w):ad aa 152 [ptr X.c 0] AH (λu H=>∃aI aQ,u=.slice aI w.T.length aQ/\H=[own (.slice aI w.T.length aQ) 36 1 w.T.length (w.T.map λt=>bw t.id),fJ X.wp w,gm X B]):=by
 refine aw Tryz.func152 λF D=>?_;refine c0 ?_;refine ci rfl (b1 rfl (an1 X.wp w O.ok (by have:=O.seq;omega)) bF) ?_;rintro _ D ⟨_,⟨aI,aQ,rfl,rfl⟩,rfl⟩;refine uB ?_;exact aX ⟨_,_,rfl,rfl⟩
end
section
variable(X:oF)(B:k2)(p:Nat)(L:List Int)(t:Int)(w:fX)(aC:hy)
def pN:aq:=dj (bv:=Unit) (λ_=>True) (λ_=>[gm X B,ch X.m L t,gb X.r X.m (B.b+1) B.n,fJ X.wp w])
def Dh{X:oF}{B:k2}{p:Nat}{aC:hy}(h:aC.out=0):iZ X B p aC=tm X B p aC.cut aC.ref aC.ph:=by unfold iZ;rw[bd h]
def Di{X:oF}{B:k2}{p:Nat}{aC:hy}(h:aC.out≠0):iZ X B p aC=MC X p aC:=by unfold iZ;rw[a8 h]
theorem MK(hp:aC.out=0->aC.val=0)(f:FuncId)(J:Value)(h:∀(bo:oG) (x y:Value),ad aa f [ptr p 0] [cU p x y aC.out aC.val bo] (aH J [cU p x y aC.out aC.val bo])):
 ad aa f [ptr p 0] r3 (aH J r3):=by
 by_cases aK:aC.out=0
 . rw[Dh aK]
   have Y:=hp aK;rw[aK,Y]at h;cases V:aC.ph<;>exact kz (λx _=>kd (h _ _ _) nA tr)
 . rw[Di aK]
   exact kz (λx _=>kd (h _ _ _) nA tr)
def Dj(hp:aC.out=0->aC.val=0):ad aa 254 [ptr p 0] r3 (aH (.bool aC.over) r3):=MK X B p aC hp _ _ (λbo x y=>ts p bo x y aC.out aC.val)
def Ws(hp:aC.out=0->aC.val=0):ad aa 81 [ptr p 0] r3 (aH (af aC.out) r3):=MK X B p aC hp _ _ (λbo x y=>GV p bo x y aC.out aC.val)
def an2(hp:aC.out=0->aC.val=0):ad aa 85 [ptr p 0] r3 (aH (bw aC.val) r3):=MK X B p aC hp _ _ (λbo x y=>GX p bo x y aC.out aC.val)
def _root_.Go.L.dR.r4.iq{B:k2}{L:List Int}(h:r4 B L):wm (B.b+1) B.n L:=⟨h.m1,h.m64,by have:=h.len;omega,h.dB⟩
def an3(cb:r4 B L)(O:mn w)(cut ref:List Int)(aC:hy)(o:fo)(ak:iF o)(aK:o.out=0)(m:o.pc<=9)(I:(dO (B.b+1) B.n L o).over=false):ad aa 474 [ptr p 0] [tm X B p cut ref (.put o),pN X B L t w] (aH gR [iZ X B p ⟨.put Dk,0,0,[],cut,ref⟩,pN X B wo (fZ t) (w)]):=by
 refine e1 .head (λe _=>?_);obtain⟨q,c1,bn,b9,cr,cS,cD,cd⟩:=e;refine gh ?_;refine e1 (bv:=Unit) ey (λ_ _=>?_);refine gh ?_;have b:o.over=false:=mU;have cc:=mV q X.r X.m (B.b+1) B.n L t o cb.iq ak;rw[I,b]at cc;simp only[eP,ep]at cc;refine ql cc (λD=>?_);refine Wt ?_;refine λh s=>(hI.from (A:=iZ X B p ⟨.put (dO (B.b+1) B.n L o),0,0,[],cut,ref⟩) (.tail (.tail (.tail (.tail .head))))) (yl (aC:=⟨.put (dO (B.b+1) B.n L o),0,0,[],cut,ref⟩) rfl (cF (q,c1,bn,b9,cr,cS,cD,cd) trivial (au)) h s)
def an4(cb:r4 B L)(O:mn w)(cut ref:List Int)(aC:hy)(o:fo)(ak:iF o)(aK:o.out=0)(m:o.pc<=9)(I:(dO (B.b+1) B.n L o).over=true):ad aa 474 [ptr p 0] [tm X B p cut ref (.put o),pN X B L t w] (aH h6 [iZ X B p Wu,pN X B wo (fZ t) (w)]):=by
 refine e1 .head (λe _=>?_);obtain⟨q,c1,bn,b9,cr,cS,cD,cd⟩:=e;refine gh ?_;refine e1 (bv:=Unit) ey (λ_ _=>?_);refine gh ?_;have b:o.over=false:=mU;have cc:=mV q X.r X.m (B.b+1) B.n L t o cb.iq ak;rw[I,b]at cc;simp only[eP,ep]at cc;have d:(dO (B.b+1) B.n L o).out≠0:=qm;exact pO [gm X B,ch X.m wo (fZ t),gb X.r X.m (B.b+1) B.n,fJ X.wp w]
  ((Dj X B p Wu (λh=>absurd h d)).mono λv H h=>by rw[h.1,h.2];exact⟨by simp[hy.over,d],rfl⟩)
  cc (anO X B p q c1 bn _ _ Dk wj) (g:=λD=>by simp only[cp,cm];exact MD d (_,_,none,0,cr,cS,cD,cd) Wv) (q:=λD=>by simp only[cp,cm];exact λh s=>Sat.swap GY)
def an5(cb:r4 B L)(O:mn w)(cut ref:List Int)(aC:hy)(left:Nat)(av:1<=left/\left<=64)(o:fo)(ak:iF o)(aK:o.out=0)(m:o.pc<=9)(I:(dO (B.b+1) B.n L o).over=false):ad aa 474 [ptr p 0] ML (aH gR [iZ X B p Ww,pN X B wo (fZ t) (w)]):=by
 refine e1 .head (λe _=>?_);obtain⟨q,c1,bn,b9,cr,cS,cD,cd⟩:=e;refine gh ?_;refine e1 (bv:=Unit) ey (λ_ _=>?_);refine gh ?_;have b:o.over=false:=mU;have cc:=mV q X.r X.m (B.b+1) B.n L t o cb.iq ak;rw[I,b]at cc;simp only[eP,ep]at cc;refine ql cc (λD=>?_);refine Wt ?_;refine λh s=>(hI.from (A:=iZ X B p ⟨.take left (dO (B.b+1) B.n L o),0,0,[],cut,ref⟩) (.tail (.tail (.tail (.tail .head))))) (yl (aC:=⟨.take left (dO (B.b+1) B.n L o),0,0,[],cut,ref⟩) rfl (cF (q,c1,bn,b9,cr,cS,cD,cd) trivial (au)) h s)
def an6(cb:r4 B L)(O:mn w)(cut ref:List Int)(aC:hy)(left:Nat)(av:1<=left/\left<=64)(o:fo)(ak:iF o)(aK:o.out=0)(m:o.pc<=9)(I:(dO (B.b+1) B.n L o).over=true)(h1:(dO (B.b+1) B.n L o).out≠1):ad aa 474 [ptr p 0] ML (aH gR [iZ X B p Wx,pN X B wo (fZ t) (w)]):=by
 refine e1 .head (λe _=>?_);obtain⟨q,c1,bn,b9,cr,cS,cD,cd⟩:=e;refine gh ?_;refine e1 (bv:=Unit) ey (λ_ _=>?_);refine gh ?_;have b:o.over=false:=mU;have cc:=mV q X.r X.m (B.b+1) B.n L t o cb.iq ak;rw[I,b]at cc;simp only[eP,ep]at cc;have d:(dO (B.b+1) B.n L o).out≠0:=qm;exact pO [gm X B,ch X.m wo (fZ t),gb X.r X.m (B.b+1) B.n,fJ X.wp (w)]
  ((Dj X B p ⟨.tick ((w.now+1:Nat):Int),0,0,[],cut,ref⟩ (λ_=>rfl)).mono λv H h=>h)
  cc (anK X B p q c1 bn b9 left _ _ Dk av w O cr cS cD cd cut ref h1) (g:=λD=>by simp only[cp,cm];exact yl (aC:=⟨.tick ((w.now+1:Nat):Int),0,0,[],cut,ref⟩) rfl (au)) (q:=λD=>by simp only[cp,cm];exact λh s=>Sat.swap (cF () trivial (au) h s))
def an7(cb:r4 B L)(O:mn w)(cut ref:List Int)(aC:hy)(left:Nat)(av:1<=left/\left<=64)(o:fo)(ak:iF o)(aK:o.out=0)(m:o.pc<=9)(I:(dO (B.b+1) B.n L o).over=true)(h1:(dO (B.b+1) B.n L o).out=1)(r:0<=(dO (B.b+1) B.n L o).value)(n:(dO (B.b+1) B.n L o).value<=18446744073709551615)(l:cut.length<=1000)(a:ref.length<=1000):ad aa 474 [ptr p 0] ML (aH gR [iZ X B p Wy,pN X B wo (fZ t) GZ]):=by
 refine e1 .head (λe _=>?_);obtain⟨q,c1,bn,b9,cr,cS,cD,cd⟩:=e;refine gh ?_;refine e1 (bv:=Unit) ey (λ_ _=>?_);refine gh ?_;have b:o.over=false:=mU;have cc:=mV q X.r X.m (B.b+1) B.n L t o cb.iq ak;rw[I,b]at cc;simp only[eP,ep]at cc;have d:(dO (B.b+1) B.n L o).out≠0:=qm;exact pO [gm X B,ch X.m wo (fZ t),gb X.r X.m (B.b+1) B.n,fJ X.wp GZ]
  ((Dj X B p ⟨pM (left -1) GZ,0,0,[],cut++rk (dO (B.b+1) B.n L o).value w,ref++rl (dO (B.b+1) B.n L o).value w⟩ (λ_=>rfl)).mono λv H h=>h)
  cc (anL X B p q c1 bn b9 left _ _ (dO (B.b+1) B.n L o) av w O cr cS cD cd cut ref h1 r n l a (by rw[Wz];exact O.now)) (g:=λD=>by simp only[cp,cm];exact yl (aC:=⟨pM (left -1) (lV (dO (B.b+1) B.n L o).value w),0,0,[],cut++rk (dO (B.b+1) B.n L o).value w,ref++rl (dO (B.b+1) B.n L o).value w⟩) rfl (au)) (q:=λD=>by simp only[cp,cm];exact λh s=>Sat.swap (cF () trivial (au) h s))
def an8(cb:r4 B L)(K:iu L)(O:mn w)(a6:tu aC):ad aa 474 [ptr p 0] [iZ X B p aC,pN X B L t w] (aH (.bool (j1 B L w aC).2.2.over) [iZ X B p (j1 B L w aC).2.2,pN X B (j1 B L w aC).1 (if aC.over then t else fZ t) (j1 B L w aC).2.1]):=by
 obtain⟨ph,out,val,due,cut,ref⟩:=aC;have l:cut.length<=1000:=WA;have a:ref.length<=1000:=WA;by_cases aK:out=0
 . subst aK
   obtain⟨V,Y,aL⟩:=a6.run rfl;obtain rfl:val=0:=Y;obtain rfl:due=[]:=aL;rw[Dh rfl];have i:(⟨ph,0,0,[],cut,ref⟩:hy).over=false:=rfl;have ay:j1 B L w ⟨ph,0,0,[],cut,ref⟩=n2 B L w ⟨ph,0,0,[],cut,ref⟩:=by unfold j1;rw[i];rfl
   rw[ay,i];simp only[eP,ep];cases ph with
   |
    put o=>
    obtain⟨ak,T,m⟩:=V;cases I:(dO (B.b+1) B.n L o).over with
    |
     false=>
     have j:(dO (B.b+1) B.n L o).out=0:=qm;have:=an3 X B p L t w cb O cut ref Dl o ak T m I;simp only[n2,j];exact this
    |
     true=>
     have j:(dO (B.b+1) B.n L o).out≠0:=qm;have:=an4 X B p L t w cb O cut ref Dl o ak T m I;rw[<-I]at this;exact this
   |
    now=>
    have f:B.b<L.length:=oH;refine e1 .head (λe _=>?_);obtain⟨q,c1,bn,b9,cr,cS,cD,cd⟩:=e;simp only[cp,cm];refine e1 (bv:=Unit) ey (λ_ _=>?_);simp only[cp,cm];exact pO [gm X B,ch X.m L (fZ t),gb X.r X.m (B.b+1) B.n,fJ X.wp w]
     ((Dj X B p ⟨.now,1,L.getD B.b 0,[],cut,ref⟩ wq).mono λv H h=>h)
     (G0 q X.m B.b L t f) (anP X B p q c1 bn _ _ (L.getD B.b 0) true wj) (g:=λD=>by simp only[cp,cm];exact MD (aC:=⟨.now,1,L.getD B.b 0,[],cut,ref⟩) (show(1:Int)≠0 by decide) (_,_,none,0,cr,cS,cD,cd) Wv) (q:=λD=>by simp only[cp,cm];exact λh s=>Sat.swap GY)
   |
    take left o=>
    obtain⟨ak,T,m,av⟩:=V;have m8:=AK (b:=B.b+1) (n:=B.n) K ak;cases I:(dO (B.b+1) B.n L o).over with
    |
     false=>
     have:=an5 X B p L t w cb O cut ref Dl left av o ak T m I;simp only[n2,I,eP,ep];exact this
    |
     true=>
     by_cases h1:(dO (B.b+1) B.n L o).out=1
     . have Y:0<=(dO (B.b+1) B.n L o).value/\(dO (B.b+1) B.n L o).value<=18446744073709551615:=by unfold fo.value;rw[bd h1];exact⟨m8.v0,m8.v1⟩
       have:=an7 X B p L t w cb O cut ref Dl left av o ak T m I h1 Y.1 Y.2 l a;simp only[n2,I,fi,h1];exact this
     . have:=an6 X B p L t w cb O cut ref Dl left av o ak T m I h1
       simp only[n2,I,fi,h1,ep];exact this
   |
    tick v=>
    have f:B.b<L.length:=oH;refine e1 .head (λe _=>?_);obtain⟨q,c1,bn,b9,cr,cS,cD,cd⟩:=e;simp only[cp,cm];refine e1 (bv:=Unit) ey (λ_ _=>?_);simp only[cp,cm];exact pO [gm X B,ch X.m (L.set B.b v) (fZ t),gb X.r X.m (B.b+1) B.n,fJ X.wp (uA w)]
     ((Dj X B p ⟨.tick v,1,0,(nz w).map (·.id),cut,ref⟩ wq).mono λv H h=>h)
     (G1 q X.m B.b L t f v) (anM X B p c1 _ _ w O cr cS cD cd cut ref) (g:=λD=>by simp only[cp,cm];exact(au)) (q:=λD=>by simp only[cp,cm];exact λh s=>Sat.swap GY)
 . have I:(MM:hy).over=true:=by simp[hy.over,aK]
   have ay:j1 B L w MM=(L,w,MM):=by unfold j1;rw[bd I]
   rw[ay,I,Di aK];simp only[fi];exact kz (λx _=>kd (MN p _ _ _ out val aK) nA tr)
end
section
variable(s:Int)(X:oF){n:Nat}(B:k2)(p:Nat)(E z lx:Value)(bo:oG)(aC:hy)(x y v:Value)(l:List Int)(a0:Option Addr)(fd:Nat)(cr:Option Addr)(cS:Nat)(cD:Option Addr)(cd:Nat)
def Dm:Int:=if lW s=0 then 0 else 1+lW s
def an9:0<=lW s/\lW s<=130:=by unfold lW;split<;>omega
def aoa:Dm s=if 1<=s/\s<=64 then 3+2*s else 0:=by unfold Dm lW;(repeat' split)<;>omega
def WB(L:List Int)(b i:Nat):∀j,iv (iv L b i) (b+i) j=iv L b (i+j)
 |0=>rfl
 |j+1=>by rw[iv,WB L b i j,<-n3,iv,n3]
def aob{X:oF}{B:k2}{L:List Int}{t:Int}{w:fX}{M D:List aq}(h:∀h,Sat M h->Sat (gm X B::ch X.m L t::gb X.r X.m (B.b+1) B.n::fJ X.wp w::D) h):∀h,Sat M h->Sat (pN X B L t w::D) h:=cF () trivial h
def lX:List Int:=if aC.out=0 then[]else l
def aoc:ad aa 61 [af s] [] (aH (af (Dm s)) []):=by
 refine aw Tryz.func61 λF D=>?_;have aj:=an9 s;refine bQ ?_;refine aT (G2 s) ?_;refine c8 ?_;refine cg (λW=>?_) (λW=>?_)
 . refine bQ ?_
   exact WC
 . refine bB ?_
   refine aB rfl (fk (1+lW s) (je ae) rfl rfl) ?_;refine bB ?_;exact WC
def aod(h1:1<=n)(h2:n<=64):Dm (n:Int)=((3+2*n:Nat):Int):=by rw[aoa,bd ae];omega
def MO(h1:1<=n)(h2:n<=64):ad aa 61 [af n] [] (aH (af ((3+2*n:Nat):Int)) []):=by rw[<-aod h1 h2];exact aoc n
def WD(i:Nat)(t:Int):∀j,ju j (ju i t)=ju (i+j) t
 |0=>rfl
 |j+1=>by rw[ju,WD i t j,<-n3,ju]
def aoe(m b n:Nat)(L:List Int)(t:Int)(J:r4 ⟨b,n⟩ L):ad aa 66 AL wu (λu H=>∃X:oF,u=.tuple #[ptr X.c 0,af 0]/\X.m=m/\H=[pN X ⟨b,n⟩ (iv L b (3+2*n)) (ju (3+2*n) t) r5]):=by
 refine aw Tryz.func66 λF D=>?_;have h1:1<=n:=J.m1;have h2:n<=64:=J.m64;have dW:b+3+2*n<=L.length:=J.len;have g1:=J.dB;refine cv ?_;refine aT (MO h1 h2) ?_;refine dC ?_;refine cP ?_;refine bB ?_;refine cP ?_;refine cq ?_;refine aT (Mc m L t) ?_;refine b6 ?_;refine aB rfl (kl ((L.length:Int) -((3+2*n:Nat):Int)) (je ae) rfl rfl) ?_;refine aG ?_;refine cP ?_;refine c8 ?_;refine ci rfl (b1 rfl (mR m L t b ae 0) bF) ?_;refine hb ?_;refine CT ?_;refine MP ?_;refine aG ?_;refine ci rfl (b1 rfl (MQ m (b+1) n (L.set b 0) _ ⟨h1,h2,by rw[gn];omega,by rw[gn];omega⟩) bF) ?_;rintro _ D ⟨_,⟨gP,rfl,rfl⟩,rfl⟩;refine fm ?_;refine fr ?_;refine br (aof) ?_;rintro _ _ ⟨wp,rfl,rfl⟩;refine et ?_;refine aG ?_;refine wn λHx=>?_;refine bi ?_;exact aX ⟨⟨Hx,m,gP,wp⟩,rfl,rfl,rfl⟩ (aob (by rw[show iv L b (3+2*n)=iv (iv L b 1) (b+1) (2+2*n) by rw[WB,show 1+(2+2*n)=3+2*n by omega],show ju (3+2*n) t=ju (2+2*n) (ju 1 t) by rw[WD,show 1+(2+2*n)=3+2*n by omega]];exact(au)))
def MR(a:Option Addr)(c:Nat)(l:List Int)(av:l.length<=1000):ad aa 76 [fQ a c l] [hz a c l] (λu H=>∃aI aQ,u=fQ aI aQ l/\H=[hz aI aQ l,hz a c l]):=by
 refine aw Tryz.func76 λF D=>?_;refine dC ?_;refine cg (λW=>?_) (λW=>?_)
 . obtain rfl:a=none:=by simpa using W
   refine yq (λ_ s=>WE (l:=l.length) (c:=c) s) ?_;rintro⟨d,g,-,-⟩;obtain rfl:l=[]:=rY d;subst g;exact WG
 . refine bK ?_
   refine wn λaU=>?_;refine aG ?_;refine iX rfl (MS rfl rfl ey rfl ga (by simp[WH];intro x _;rfl) ae AG) ?_;exact WI
def aog(bh:aC.out≠0)(av:aC.due.length<=1000):ad aa 202 [ptr p 0,fQ a0 fd aC.due] uD WJ:=by
 refine MT ?_;intro F D;refine br (MR a0 fd aC.due av) ?_;exact AM
def aoh(bh:aC.out≠0)(av:aC.due.length<=1000):ad aa 155 [ptr p 0] uD WJ:=by
 refine aw Tryz.func155 λF D=>?_;refine dC ?_;refine br (aog X p aC x y a0 fd cr cS cD cd bh av) ?_;exact AM
def aoi:ad aa 202 [ptr p 0,v] AN (aH kO AN):=by
 exact MU
def aoj(aA:E.oneCell'=true/\z.oneCell'=true/\lx.oneCell'=true):ad aa 155 [ptr p 0] G3 MV:=by
 refine aw Tryz.func155 λF D=>?_;refine dC ?_;refine aT (aoi p (lv X E z lx) x y _) ?_;refine bB ?_;exact aX ⟨rfl,rfl⟩
def aok(Y:aC.out=0->aC.val=0)(av:aC.due.length<=1000):ad aa 155 [ptr p 0] r3 (λu H=>∃aI aQ,u=fQ aI aQ (lX aC aC.due)/\H=[hz aI aQ (lX aC aC.due),iZ X B p aC]):=by
 by_cases aK:aC.out=0
 . have e:lX aC aC.due=[]:=by unfold lX;rw[bd aK]
   rw[Dh aK,e];have cl:ad aa 155 [ptr p 0] G4 MW:=by
    cases V:aC.ph<;>exact kz (λx _=>kd (aoj X p _ _ _ _ _ ⟨rfl,rfl,rfl⟩) nA (λD=>cF x trivial (λh s=>s)))
   exact MX
 . have e:lX aC aC.due=aC.due:=by unfold lX;rw[a8 aK]
   rw[Di aK,e];refine kz (λx _=>?_);obtain⟨x,y,a0,fd,cr,cS,cD,cd⟩:=x;refine(aoh X p aC x y a0 fd cr cS cD cd aK av).aT λv H h=>?_;exact MY
def aol(bh:aC.out≠0)(av:aC.cut.length<=1000):ad aa 202 [ptr p 0,fQ cr cS aC.cut] uD WK:=by
 refine MT ?_;intro F D;refine br (MR cr cS aC.cut av) ?_;exact AM
def aom(bh:aC.out≠0)(av:aC.cut.length<=1000):ad aa 151 [ptr p 0] uD WK:=by
 refine aw Tryz.func151 λF D=>?_;refine dC ?_;refine br (aol X p aC x y a0 fd cr cS cD cd bh av) ?_;exact AM
def aon:ad aa 202 [ptr p 0,v] AN (aH kO AN):=by
 exact MU
def aoo(aA:E.oneCell'=true/\z.oneCell'=true/\lx.oneCell'=true):ad aa 151 [ptr p 0] G3 MV:=by
 refine aw Tryz.func151 λF D=>?_;refine dC ?_;refine aT (aon p (lv X E z lx) x y _) ?_;refine bB ?_;exact aX ⟨rfl,rfl⟩
def aop(Y:aC.out=0->aC.val=0)(av:aC.cut.length<=1000):ad aa 151 [ptr p 0] r3 (λu H=>∃aI aQ,u=fQ aI aQ (lX aC aC.cut)/\H=[hz aI aQ (lX aC aC.cut),iZ X B p aC]):=by
 by_cases aK:aC.out=0
 . have e:lX aC aC.cut=[]:=by unfold lX;rw[bd aK]
   rw[Dh aK,e];have cl:ad aa 151 [ptr p 0] G4 MW:=by
    cases V:aC.ph<;>exact kz (λx _=>kd (aoo X p _ _ _ _ _ ⟨rfl,rfl,rfl⟩) nA (λD=>cF x trivial (λh s=>s)))
   exact MX
 . have e:lX aC aC.cut=aC.cut:=by unfold lX;rw[a8 aK]
   rw[Di aK,e];refine kz (λx _=>?_);obtain⟨x,y,a0,fd,cr,cS,cD,cd⟩:=x;refine(aom X p aC x y a0 fd cr cS cD cd aK av).aT λv H h=>?_;exact MY
def aoq(bh:aC.out≠0)(av:aC.ref.length<=1000):ad aa 202 [ptr p 0,fQ cD cd aC.ref] uD WL:=by
 refine MT ?_;intro F D;refine br (MR cD cd aC.ref av) ?_;exact AM
def aor(bh:aC.out≠0)(av:aC.ref.length<=1000):ad aa 149 [ptr p 0] uD WL:=by
 refine aw Tryz.func149 λF D=>?_;refine dC ?_;refine br (aoq X p aC x y a0 fd cr cS cD cd bh av) ?_;exact AM
def aos:ad aa 202 [ptr p 0,v] AN (aH kO AN):=by
 exact MU
def aot(aA:E.oneCell'=true/\z.oneCell'=true/\lx.oneCell'=true):ad aa 149 [ptr p 0] G3 MV:=by
 refine aw Tryz.func149 λF D=>?_;refine dC ?_;refine aT (aos p (lv X E z lx) x y _) ?_;refine bB ?_;exact aX ⟨rfl,rfl⟩
def aou(Y:aC.out=0->aC.val=0)(av:aC.ref.length<=1000):ad aa 149 [ptr p 0] r3 (λu H=>∃aI aQ,u=fQ aI aQ (lX aC aC.ref)/\H=[hz aI aQ (lX aC aC.ref),iZ X B p aC]):=by
 by_cases aK:aC.out=0
 . have e:lX aC aC.ref=[]:=by unfold lX;rw[bd aK]
   rw[Dh aK,e];have cl:ad aa 149 [ptr p 0] G4 MW:=by
    cases V:aC.ph<;>exact kz (λx _=>kd (aot X p _ _ _ _ _ ⟨rfl,rfl,rfl⟩) nA (λD=>cF x trivial (λh s=>s)))
   exact MX
 . have e:lX aC aC.ref=aC.ref:=by unfold lX;rw[a8 aK]
   rw[Di aK,e];refine kz (λx _=>?_);obtain⟨x,y,a0,fd,cr,cS,cD,cd⟩:=x;refine(aor X p aC x y a0 fd cr cS cD cd aK av).aT λv H h=>?_;exact MY
end
end Go.Proofs.YtnnhpnccfnghdaaGreat.L.Ck
namespace Go.Proofs.YtnnhpnccfnghdaaGreat.L
open Go.L Go.L.Ring Go.L.dq Go.L.dA
attribute[local irreducible] G cE GE cY GT b0 df c4 di Exit.then Exit.inBlock
section
variable(k p q m b n:Nat)(o:hJ)
def Hk:Nat:=match k with|0=>199|1=>200|2=>186|3=>375|4=>421|_=>0
def Hl:Nat:=match k with|0=>322|1=>374|2=>420|3=>443|4=>188|5=>226|6=>280|7=>332|8=>378|9=>333|10=>191|11=>227|12=>281|13=>335|_=>0
def Hm:Nat:=match k with|0=>427|1=>446|2=>397|3=>432|4=>447|_=>0
def aoW:Value:=.func (.func (Hk k)) #[] #[]
def aoX:Value:=.func (.func (Hl k)) #[ptr p 0] #[]
def aoY:Value:=.func (.func (Hm k)) #[ptr p 0] #[]
abbrev mZ:aq:=ab q 275 [ptr m 0,af b,af n]
abbrev jP(o:hL):aq:=ab p 295 [ptr q 0,aoW o.k,af o.w,af o.out]
abbrev nF:aq:=ab q 279 [ptr m 0,af b,bw n]
abbrev ih(o:ie):aq:=ab p 299 [ptr q 0,aoX o.pc p,af o.out,bw o.v,bw o.t,bw o.b,.bool o.fK]
abbrev kP:aq:=ab q 277 [ptr m 0,af b,bw n]
abbrev jc:aq:=ab p 302 [ptr q 0,af o.jG,af (n4 b o.ee),bw (Hg o.ee),bw o.t,bw o.v,af o.out]
abbrev eC:aq:=ab q 221 [ptr m 0,af b,af n]
abbrev ob(o:k5):aq:=ab p 409 [ptr m 0,af o.cell,bw o.seen,aoY o.pc p,af o.out]
structure Hn(b n:Nat)(L:List Int):Prop where
 n8:n<=8
 len:b+n<=L.length
 dB:L.length<=65536
structure yD(b n:Nat)(L:List Int):Prop where
 ef:1<=n
 jQ:n<=64
 len:b+2+n<=L.length
 dB:L.length<=65536
structure sd(b n:Nat)(L:List Int):Prop where
 ef:1<=n
 jQ:n<=64
 len:b+2+2*n<=L.length
 dB:L.length<=65536
def Ho{n:Nat}(t:Int)(aM:1<=n):(t%(n:Int)).toNat<n:=by
 have:=Nd t (show(0:Int)<n by omega);omega
def W5{n:Nat}{t:Int}(R:0<=t)(aM:1<=n):t.tmod n=((t%(n:Int)).toNat:Int):=by
 exact W6
def yD.lt{b n:Nat}{L:List Int}(h:yD b n L)(t:Int):ke b n t<L.length:=by
 have h1:=h.ef;have h2:=h.len;have:=Ho t h1;unfold ke;omega
def sd.lt{b n:Nat}{L:List Int}(h:sd b n L)(t:Int):lB b n t+1<L.length:=by
 have h1:=h.ef;have h2:=h.len;have:=Ho t h1;unfold lB;omega
def W7(o:hL)(O:o.w<n)(aM:n<=8)(hk:o.k=3):ad aa 422 [ptr p 0] [mZ q m b n,jP p q o] (aH eu [mZ q m b n,jP p q (AX n o)]):=by
 refine aw Tryz.func422 λF D=>?_;obtain⟨k,w,out⟩:=o;obtain rfl:k=3:=hk;replace O:w<n:=O;unfold jP;dsimp only;refine bi ?_;refine aB rfl (fk ((w+1:Nat):Int) eZ rfl rfl) ?_;refine bi ?_;refine cu [] [12] [] ?_;refine fW ?_;refine cg (λW=>?_) (λW=>?_)
 . refine cq ?_
   exact aX dI (by simp only[AX];rw[bd (by omega)];exact(au))
 . refine bb ?_
   exact aX dI (by simp only[AX];rw[a8 (by omega)];exact(au))
def A0(o:hL):ad aa 475 [ptr p 0] [jP p q o] (aH (.bool o.over) [jP p q o]):=by
 refine aw Tryz.func475 λF D=>?_;exact yE
def aoZ(o:hL):ad aa 128 [ptr p 0] [jP p q o] (aH (af o.out) [jP p q o]):=by
 refine aw Tryz.func128 λF D=>?_;exact ru
def Dy(o:ie):ad aa 477 [ptr p 0] [ih p q o] (aH (.bool o.over) [ih p q o]):=by
 refine aw Tryz.func477 λF D=>?_;exact yE
def W8(o:ie):ad aa 269 [ptr p 0] [ih p q o] (aH (af o.out) [ih p q o]):=by
 refine aw Tryz.func269 λF D=>?_;exact ru
def ao0(o:ie):ad aa 479 [ptr p 0] [ih p q o] (aH (bw o.value) [ih p q o]):=by
 refine aw Tryz.func479 λF D=>?_;refine eJ ?_;refine cg (λW=>?_) (λW=>?_)
 . refine bQ ?_
   exact aX ⟨by simp[ie.value,W],rfl⟩
 . refine fr ?_
   exact aX ⟨by simp[ie.value,W],rfl⟩
def Nf:ad aa 480 [ptr p 0] wF (aH (.bool o.over) wF):=by
 exact W9
def Ng:ad aa 143 [ptr p 0] wF (aH (af o.out) wF):=by
 refine aw Tryz.func143 λF D=>?_;exact ru
def Xa:ad aa 146 [ptr p 0] wF (aH (bw o.value) wF):=by
 refine aw Tryz.func146 λF D=>?_;refine fW ?_;refine ls (d:=14) 6 (.bool ((!decide (o.out=1))||decide (Hg o.ee=0))) ?_ (λe=>?_)
 rotate_left
 . refine hx rfl rfl (λW=>?_) (λW=>?_) rfl
   . have f:=bN W
     refine c8 ?_;exact h4 e
   . have f:=bN W
     simp only[jD];refine bB ?_;exact h4 e
 refine bb ?_;refine cg (λM=>?_) (λM=>?_)
 . replace M:=M
   refine bQ ?_;exact Xb
 . replace M:=M
   refine fr ?_;exact Xb
def Xc(o:k5):ad aa 488 [ptr p 0] [ob p q o] (aH (.bool o.over) [ob p q o]):=by
 refine aw Tryz.func488 λF D=>?_;exact yE
def Xd(o:k5):ad aa 431 [ptr p 0] [ob p q o] (aH (af o.out) [ob p q o]):=by
 refine aw Tryz.func431 λF D=>?_;exact ru
def Xe(L:List Int)(t:Int)(J:yD b n L)(c i:Nat)(a6:c<=1)(ak:i=b+c):ad aa 225 [ptr q 0,af c] [ch m L t,nF q m b n] (aH (bw (L.getD i 0)) [ch m L (fZ t),nF q m b n]):=by
 refine aw Tryz.func225 λF D=>?_;have g:=J.len;have a:=J.ef;have d:=J.dB;subst ak;have o:b+c<L.length:=ae;refine bi ?_;refine cu [] [10,201,5] [] ?_;refine cv ?_;refine go_v rfl .none rfl (fk ((b+c:Nat):Int) eZ rfl rfl) ?_;refine aT (nx _ _ _ (b+c) (o)) ?_;exact ru
def Nh(aM:1<=n)(e:n<=64)(aA:b<=65536)(t:Int)(R:0<=t):ad aa 334 [ptr q 0,bw t] [nF q m b n] (aH (af (ke b n t)) [nF q m b n]):=by
 refine aw Tryz.func334 λF D=>?_;have bf:=Ho t aM;refine bi ?_;refine cu [] [14] [] ?_;refine c8 ?_;refine go_v rfl .none rfl (r0 _ (W5 R aM) rfl rfl ae) ?_;refine cq ?_;exact aX ⟨by unfold ke;first|rfl|(congr 1;omega),rfl⟩
def Xf(aM:1<=n)(o:hJ)(h1:n9 o):ad aa 483 [ptr p 0] Hp (aH (bw (yy n o.t o.ee)) Hp):=by
 refine aw Tryz.func483 λF D=>?_;have R:=h1.t;refine bi ?_;refine cu [] [19] [] ?_;refine c0 ?_;refine go_v rfl .none rfl (GR (o.t/n) (ME R.1 R.2 aM) rfl rfl ae) ?_;refine go_v rfl .none rfl (Ni rfl rfl) ?_;refine bK ?_;refine go_v rfl .none rfl (nZ rfl rfl) ?_;refine bB ?_;exact aX ⟨rfl,rfl⟩
def ao1(aM:1<=n)(o:hJ)(h1:n9 o)(s:Int):ad aa 482 [ptr p 0,bw s] Hp (aH eu [kP q m b n,jc p q b (if s=yy n o.t o.ee then{o with jG:=2}else if yy n o.t o.ee<s then{o with jG:=0}else if o.ee then{o with out:=4}else{o with out:=2})]):=by
 refine aw Tryz.func482 λF D=>?_;refine b6 ?_;refine aT (Xf p q m b n aM o h1) ?_;refine dC ?_;refine cg (λW=>?_) (λW=>?_)
 . refine bQ ?_
   exact aX ⟨rfl,by rw[bd W]⟩
 . refine bQ ?_
   refine cg (λM=>?_) (λM=>?_)
   . refine bQ ?_
     exact aX ⟨rfl,by rw[a8 W,bd M]⟩
   . refine c8 ?_
     refine cg (λL=>?_) (λL=>?_)
     . have d:o.ee=false:=by cases h:o.ee with|false=>rfl|true=>rw[h]at L;exact absurd L bJ
       refine bQ ?_;exact aX (H:=[kP q m b n,jc p q b ({o with out:=2})]) ⟨rfl,by rw[a8 W,a8 (Dz.2 M),d,a8 bJ]⟩
     . have d:o.ee=true:=by cases h:o.ee with|true=>rfl|false=>rw[h]at L;exact absurd rfl L
       refine bQ ?_;exact aX (H:=[kP q m b n,jc p q b ({o with out:=4})]) ⟨rfl,by rw[a8 W,a8 (Dz.2 M),d,bd rfl]⟩
end
end Go.Proofs.YtnnhpnccfnghdaaGreat.L
