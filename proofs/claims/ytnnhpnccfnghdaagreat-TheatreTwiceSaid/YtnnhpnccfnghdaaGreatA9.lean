import Derived.Test.YtnnhpnccfnghdaaGreatA7
set_option linter.all false
set_option maxRecDepth 8000
set_option maxHeartbeats 8000000
namespace Go.Proofs.YtnnhpnccfnghdaaGreat.L
open Go.L Go.L.Whl
section
variable(p:Nat)(w:gm)(id:Int)
theorem aBC(a:Option Addr)(c n:Nat)(l m:List bM)(aO:l.length=n)(hp:l.Perm m)(ai:m.Pairwise Jy)(bt:∀t∈m,t.seq<4611686018427387904)(aA:l.length<=1000):
 ab E 257 w2 [own qt 336 3 n (l.flatMap te)] aaz:=by subst aO;exact akN a c l m hp ai bt aA
def amF(R:jZ w)(bt:w.seq<4611686018427387904):ab E 205 [ptr p 0] [fw p w] (λu I=>∃aD aI,u=.slice aD w.T.length aI/\I=[own (.slice aD w.T.length aI) 36 1 w.T.length (w.T.map λt=>bx t.id),fw p w]):=by
 refine kq Tryz.func205 rfl rfl rfl ?_;refine Kl ?_;intro H D z K;replace K:nS w z:=K;refine asj ?_;intro hlen aA T aj ay;refine zu ?_;refine nu (cE (fO:=λ_=>True) (l:=λx:Option Addr×Nat=>[aa ay 282 [.slice x.1 0 x.2],own (.slice x.1 0 x.2) 336 3 0 (((z.flatMap (·.l)).take 0).flatMap te)]) (D:=lZ p w.now w.seq z::nF z::D) (none,0) trivial YH) ?_;rw[show dq (bv:=Option Addr×Nat) (λ_=>True) (λx=>[aa ay 282 [.slice x.1 0 x.2],own (.slice x.1 0 x.2) 336 3 0 (((z.flatMap (·.l)).take 0).flatMap te)])=FQ z ay 0 from rfl];refine zq ?_;refine aB rfl (KH (xs:=[]) (V:=[.tmp 3]) rfl rfl) ?_;refine cn rfl (b9 rfl (TH (g:=256) [ptr ay 0] (FQ z ay) (λ_=>true) p w.now w.seq z hlen aA (λl s i x t aw ai ah U g2=>aBB z l s i _ t ay (by have:=(dp.1 (LM ah U)).1;omega) (LM ah U))) bN) ?_;rintro _ D ⟨_,⟨rfl,k,hk,rfl⟩,rfl⟩;refine fC ?_;obtain rfl:k=w.T.length:=by
  exact arb
 refine zu ?_;refine kK (fO:=λ_=>True) (l:=λx:Option Addr×Nat=>[aa ay 282 [.slice x.1 w.T.length x.2],own (.slice x.1 w.T.length x.2) 336 3 w.T.length (((z.flatMap (·.l)).take w.T.length).flatMap te)]) eP ?_;rintro⟨a,c⟩ -;refine gh ?_;rw[yW ad];refine jg ?_;refine JX ?_;refine cn rfl (b9 rfl (aBC a c w.T.length (z.flatMap (·.l)) w.T T K.flat R.xP (λt U=>by have:=R.sb t U;omega) ad) (.cons (.tail .head) .nil)) ?_;refine aew ?_;intro aD aI;refine jq (.inl rfl) rfl rfl [own (.slice aD w.T.length aI) 36 1 w.T.length (w.T.map λt=>bx t.id),fw p w] (⟨aD,aI,rfl,rfl⟩) (λh s=>Sat.swap (w6 z K (au) h s))
theorem arR(d:Int)(R:jZ w)(aO:w.now<3000000000000000000)(bt:w.seq<4611686018427387903):ab E 312 Da [fw p w] (aH (af (nW w id d)) JE):=by
 refine kq Tryz.func312 rfl rfl rfl ?_;refine YA ?_;intro H D;refine aB rfl (yF rfl rfl) ?_;refine ke ?_;refine hY rfl rfl (λW=>?_) (λW=>?_) rfl
 . have f:=W
   replace f:=bW f;refine ke ?_;refine oZ rfl rfl W ?_;refine aB rfl (BV rfl rfl) ?_;refine aB rfl (yR W rfl rfl) ?_;refine oN ?_;refine mT rfl (λM=>?_) (λM=>?_)
   . replace M:=bW M
     exact afu
   . replace M:=bW M
     refine q8 ?_;refine aet ?_;refine cn rfl (b9 rfl (aBx p w id R) bN) ?_;rintro _ D ⟨_,⟨⟨l,s,i,t,b,rfl,ba⟩,rfl⟩,rfl⟩;refine fC ?_;refine ae3 ?_;rintro _ _ ⟨dm,rfl,rfl⟩;refine afr ?_;refine jg ?_;refine J7 ?_;refine mT rfl (λL=>?_) (λL=>?_)
     . replace L:=bW L
       have aY:w.get id=some t:=by
        rcases ba with⟨_,h,_⟩|⟨h,_⟩
        . exact h
        . rw[h]at L;cases L
       refine H3 ?_;refine jq (.inl rfl) rfl rfl JE (⟨by rw[akQ (w:=w) (id:=id) (d:=d) ad aY],rfl⟩) (by rw[Rn (by rw[akQ (w:=w) (id:=id) (d:=d) (by omega) aY];decide)];exact(au))
     . replace L:=bW L
       have aY:w.get id=none:=by
        rcases ba with⟨h,_⟩|⟨_,h,_⟩
        . rw[h]at L;cases L
        . exact h
       refine J3 ?_;refine xa ?_;refine cn rfl (b9 rfl (aBz p w R) bN) ?_;refine gU ?_;refine fC ?_;refine aB rfl (Aj rfl rfl) ?_;refine oN ?_;refine mT rfl (λf9=>?_) (λf9=>?_)
       . replace f9:=bW f9
         refine H3 ?_;refine jq (.inl rfl) rfl rfl JE (⟨by rw[akR (w:=w) (id:=id) (d:=d) ad aY ad],rfl⟩) (by rw[Rn (by rw[akR (w:=w) (id:=id) (d:=d) (by omega) aY (by omega)];decide)];exact(au))
       . replace f9:=bW f9
         refine J3 ?_;refine kK eP ?_;rintro z K;replace K:nS w z:=K;have hlen:=K.hlen;have aA:=K.aA R;refine gh ?_;refine QX ?_;refine aB rfl (o_load rfl (l:=l2 w.now w.seq z) (v:=af w.seq) rfl) ?_;refine aB rfl (fy ((w.seq+1:Nat):Int) ff rfl rfl) ?_;refine ado ?_;rw[show(l2 w.now w.seq z).set (0+1) (af ((w.seq+1:Nat):Int))=l2 w.now (w.seq+1) z from rfl];refine zu ?_;refine h0 [13] [] [(0,.loc),(1,.loc),(2,.loc),(3,.loc),(4,.loc),(5,.loc),(6,.loc),(7,.loc),(8,.loc),(9,.loc),(10,.loc),(11,.loc),(12,.loc),(13,.da)] [] mixed hM ?_;refine aem ?_;refine go_v rfl .none rfl (o_load rfl (l:=l2 w.now (w.seq+1) z) (v:=af w.now) rfl) ?_;refine oh ?_;refine go_v rfl .none rfl (fy ((w.now+d.toNat:Nat):Int) ff rfl rfl) ?_;refine oh ?_;refine QJ ?_;refine go_v rfl .none rfl (o_load rfl (l:=l2 w.now (w.seq+1) z) (v:=af ((w.seq+1:Nat):Int)) rfl) ?_;refine go_v rfl .none rfl (ly rfl rfl) ?_;refine go_c rfl .none rfl (b9 rfl (akM p w.now (w.seq+1) z ⟨id,w.now+d.toNat,w.seq+1⟩ ad (show w.now+d.toNat<4000000000000000000 by omega) hlen aA) bN) ?_;rintro _ D ⟨_,⟨rfl,c,J,rfl⟩,rfl⟩;refine fC ?_;refine⟨(λC=>absurd C bw),?_⟩;refine go_nil ?_;refine ae5 ?_;refine jq (.inl rfl) rfl rfl [fw p ⟨w.now,w.seq+1,w.T++[⟨id,w.now+d.toNat,w.seq+1⟩]⟩] (⟨by rw[akS ad aY ad],by unfold q0;rw[bg (akS ad aY ad)]⟩) (w6 c (by rw[J];exact iD.lay K _ (TJ _ _)) (au))
 . have f:=W
   replace f:=bW f;simp only[iE];refine G5 rfl rfl W rfl ?_;refine aB rfl (DU W rfl rfl) ?_;refine oN ?_;refine v8 rfl ?_;exact afu
theorem ar7(R:jZ w):ab E 313 JM [fw p w] (aH (.bool (w.get id).isSome) [fw p (q1 w id)]):=by
 refine kq Tryz.func313 rfl rfl rfl ?_;refine Kl ?_;intro H D z K;replace K:nS w z:=K;have hlen:=K.hlen;have aA:=K.aA R;refine afy ?_;refine ke ?_;refine cn rfl (b9 rfl (akP p w.now w.seq z id hlen aA) bN) ?_;rintro _ D ⟨_,⟨⟨l,s,i,t,b,rfl,a⟩,rfl⟩,rfl⟩;refine fC ?_;have ba:=nS.found K R a;refine ae3 ?_;rintro _ _ ⟨Z,rfl,rfl⟩;refine afr ?_;refine xa ?_;refine oN ?_;refine mT rfl (λW=>?_) (λW=>?_)
 . replace W:=bW W
   have aY:w.get id=some t:=by
    rcases ba with⟨_,h,_⟩|⟨h,_⟩
    . exact h
    . rw[h]at W;cases W
   have cy:=(get_mem aY).2;obtain⟨x,ah,U,e,c⟩:∃x,z[8*l+s]?=some x/\x.l[i]?=some t/\l<4/\s<8:=by
    rcases a with⟨_,h1,h2,⟨x,aN,bA⟩,_⟩|⟨h,_⟩
    . exact⟨x,aN,bA,h1,h2⟩
    . rw[h]at W;cases W
   have ak:i<x.l.length:=(dp.1 U).1;refine uW eP (DP ah) ?_;refine h0 [14,19] [14] [(0,.bL),(1,.bL),(2,.bL),(3,.loc),(4,.loc),(5,.loc),(6,.loc),(7,.loc),(8,.loc),(9,.loc),(10,.loc),(11,.loc),(12,.loc),(13,.loc),(15,.bL),(16,.bL),(17,.bL),(14,.da),(18,.loc),(19,.da)] [lZ p w.now w.seq z] mixed hM ?_;refine adF ?_;refine aem ?_;refine go_v rfl .none rfl (lU rfl rfl e) ?_;refine go_v rfl .none rfl (lU rfl rfl c) ?_;refine go_v rfl .none rfl (o_load rfl (FN ah)) ?_;refine oh ?_;refine oh ?_;refine go_v rfl .none rfl aaP ?_;refine go_vs rfl .none rfl (mm rfl) (au) ?_;refine Qx ?_;refine go_vs rfl .none rfl (lU rfl rfl e) (au) ?_;refine go_c rfl .none rfl (b9 rfl (aBo x.a x.c i x.l ak (aA x y5)) bN) ?_;refine gU ?_;refine fC ?_;refine⟨ve,?_⟩;refine go_v rfl .none rfl (lU rfl rfl c) ?_;refine acG ?_;rw[LL (m:=x.l.eraseIdx i) Oo];refine go_nil ?_;refine uz (gu (A:=so ⟨x.a,x.c,x.l.eraseIdx i⟩) (i:=8*l+s) (l:=z.map so) eP eP h9) ?_;refine KB ?_;refine jq (.inl rfl) rfl rfl [fw p (q1 w id)] (⟨by rw[aY,W];rfl,rfl⟩) (w6 (w:=q1 w id) (z.set (8*l+s) ⟨x.a,x.c,x.l.eraseIdx i⟩) (by rw[tA];have:=iD.cut K R.nd (j:=8*l+s) (i:=i) (l:=x.l) (t:=t) (by rw[fD,ah];rfl) U;rw[cy]at this;exact this) IE)
 . replace W:=bW W
   have aY:w.get id=none:=by
    rcases ba with⟨h,_⟩|⟨_,h,_⟩
    . rw[h]at W;cases W
    . exact h
   refine q8 ?_;refine KB ?_;refine jq (.inl rfl) rfl rfl [fw p (q1 w id)] (⟨by rw[aY,W];rfl,rfl⟩) (by rw[aBD aY];exact w6 z K (au))
def amr(R:jZ w)(aO:w.now<3000000000000000000)(bt:w.seq<4611686018427387904):ab E 311 [ptr p 0] [fw p w] (λu I=>∃aD aI,u=.slice aD (mP w).length aI/\I=[own (.slice aD (mP w).length aI) 36 1 (mP w).length ((mP w).map λt=>bx t.id),fw p (tn w)]):=by
 refine kq Tryz.func311 rfl rfl rfl ?_;refine Kl ?_;intro H D z K;replace K:nS w z:=K;have hlen:=K.hlen;have aA:=K.aA R;refine af5 ?_;refine aB rfl (fy ((w.now+1:Nat):Int) ff rfl rfl) ?_;refine ado ?_;rw[show(l2 w.now w.seq z).set 0 (af ((w.now+1:Nat):Int))=l2 (w.now+1) w.seq z from rfl];refine zu ?_;refine Ko ?_;refine ts ?_;refine hb (bv:=Nat×List kJ) (λx=>x.1<=3/\iD (qR (w.now+1) x.1) w.T (x.2.map (·.l))) (λx=>[(3,af x.1),(0,ptr p 0)]) (λx=>lZ p (w.now+1) w.seq x.2::nF x.2::D) (λx=>x.1) (3,z) (⟨et _,K⟩) (bd.cons rfl (bd.cons rfl (bd.nil))) (au) ?_;rintro⟨l,a⟩ ⟨r,d⟩;replace r:l<=3:=r;replace d:iD (qR (w.now+1) l) w.T (a.map (·.l)):=d;have S:a.length=32:=by simpa using d.1
 dsimp only;refine hy ?_;refine xa ?_;refine aB rfl (BV rfl rfl) ?_;refine oN ?_;refine mT rfl (λW=>?_) (λW=>?_)
 . replace W:=bW W
   refine J3 ?_;refine ts ?_;refine hy ?_;refine h0 [] [] [(0,.loc),(1,.loc),(2,.loc),(3,.loc),(4,.loc),(5,.loc),(6,.loc),(7,.loc),(8,.loc)] [] mixed hM ?_;refine adC ?_;refine go_v rfl .none rfl (o_load rfl (l:=l2 (w.now+1) w.seq a) (v:=af ((w.now+1:Nat):Int)) rfl) ?_;refine ac0 ?_;refine go_v rfl .none rfl (apq ((2^(3*l):Nat):Int) (aBE r) rfl rfl ad D4) ?_;refine go_v rfl .none rfl (tm (((w.now+1)%2^(3*l):Nat):Int) (Bb _ _) rfl rfl (by have:=Nat.two_pow_pos (3*l);omega)) ?_;refine go_v rfl .none rfl (mY rfl rfl) ?_;refine go_nil ?_;refine hz ?_;refine mT rfl (λM=>?_) (λM=>?_)
   . replace M:=bW M
     have T:(w.now+1)%2^(3*l)=0:=ad;obtain⟨s,ai⟩:∃s,s=kw l (w.now+1)%8:=⟨_,rfl⟩;have c:s<8:=ad;obtain⟨x,ah⟩:∃x,a[8*l+s]?=some x:=⟨_,cD ad⟩;have B:=(iD.jr d (j:=8*l+s) (l:=x.l) (by rw[fD,ah];rfl)).2;have X:x.l.length<=64:=by
      have aN:=B.length_eq;have bA:=qm (λt=>decide (qR (w.now+1) l t=8*l+s)) w.T;have:=R.len;omega
     have V:pu (qR (w.now+1) l) (hi (w.now+1)) w.T (8*l+s) x.l 0 ((a.set (8*l+s) ⟨none,0,[]⟩).map (·.l)):=by
      have:=pu.start (g:=hi (w.now+1)) d (F:=8*l+s) ad;rw[iW,fD,ah]at this;rw[tA];exact this
     refine hy ?_;refine aen ?_;refine ke ?_;refine aB rfl (rT ((3*l:Nat):Int) ff rfl rfl) ?_;refine aB rfl (HW ((kw l (w.now+1):Nat):Int) (KD _ _) rfl rfl ad D4) ?_;refine aB rfl (tm ((kw l (w.now+1)%8:Nat):Int) (Bb _ 8) rfl rfl bw) ?_;rw[<-ai];refine BQ ?_;refine afp ?_;refine aB rfl (o_load rfl (FN ah)) ?_;refine BQ ?_;refine uW eP (DP ah) ?_;refine afp ?_;refine ko (mo rfl rfl rfl ZB) ?_;rw[LL (m:=[]) (n:=0) rfl];refine ie ?_;refine uz (jc (e:=336) (aZ:=3)) ?_;refine uz (gu (A:=so ⟨none,0,[]⟩) (i:=8*l+s) (l:=a.map so) .head eP h9) ?_;refine hz ?_;refine hy ?_;refine aeZ ?_;refine hb (bv:=Nat×List kJ) (λy=>y.1<=x.l.length/\pu (qR (w.now+1) l) (hi (w.now+1)) w.T (8*l+s) x.l y.1 (y.2.map (·.l))) (λy=>[(55,af y.1),(54,af x.l.length),(53,FM x),(3,af l),(0,ptr p 0)]) (λy=>lZ p (w.now+1) w.seq y.2::nF y.2::so x::D) (λy=>x.l.length -y.1) (0,a.set (8*l+s) ⟨none,0,[]⟩) (⟨fk _,V⟩) (bd.cons rfl (bd.cons rfl (bd.cons rfl (bd.cons rfl (bd.cons rfl (bd.nil)))))) IE ?_;rintro⟨k,q⟩ ⟨hk,o⟩;replace hk:k<=x.l.length:=hk;replace o:pu (qR (w.now+1) l) (hi (w.now+1)) w.T (8*l+s) x.l k (q.map (·.l)):=o;have b:q.length=32:=by simpa using o.1
     dsimp only;refine EN ?_;refine mT rfl (λL=>?_) (λL=>?_)
     . replace L:=bW L
       obtain⟨t,U⟩:∃t,x.l[k]?=some t:=⟨_,cD ad⟩;have C:t∈w.T:=(oL.1 (B.subset (jH U))).1;refine Re ?_;refine aB rfl (gf rfl rfl (show k<x.l.length by omega)) ?_;refine QD ?_;rintro _ _ ⟨bV,rfl,rfl⟩;refine ael ?_;refine aB rfl (zB rfl (cg:=te t) rfl rfl) ?_;refine cn rfl (b9 rfl (akM p (w.now+1) w.seq q t ad (by have:=(R.due t C).2;omega) b (λy ag=>by have h1:=o.short (ER (f:=(·.l)) ag);have h2:=R.len;have aN:=B.length_eq;have bA:=qm (λt=>decide (qR (w.now+1) l t=8*l+s)) w.T;omega)) bN) ?_;rintro _ D ⟨_,⟨rfl,N,J,rfl⟩,rfl⟩;refine fC ?_;refine ie ?_;refine J4 ?_;refine aB rfl (fy ((k+1:Nat):Int) ff rfl rfl) ?_;refine EG ?_;refine gg (k+1,N) ⟨show k+1<=x.l.length by omega,by
        show pu (qR (w.now+1) l) (hi (w.now+1)) w.T (8*l+s) x.l (k+1) (N.map (·.l));rw[J];exact o.step U (TJ _ _)⟩ (show x.l.length -(k+1)<x.l.length -k by omega) (bd.cons rfl (bd.cons rfl (bd.cons rfl (bd.cons rfl (bd.cons rfl (bd.nil)))))) (au)
     . replace L:=bW L
       refine Rk ?_;refine adV ?_;obtain rfl:k=x.l.length:=ad;refine gg (l -1,q) ⟨show l -1<=3 by omega,by
        show iD (qR (w.now+1) (l -1)) w.T (q.map (·.l));rw[akT ad r];exact(o.done B).congr (λt _=>by unfold pass;rw[bg T,ai];rfl)⟩ (show l -1<l by omega) (bd.cons rfl (bd.cons rfl (bd.nil))) (au)
   . replace M:=bW M
     have T:¬(w.now+1)%2^(3*l)=0:=ad;refine q8 ?_;refine yq ?_;refine hz ?_;refine aej ?_;refine gg (l -1,a) ⟨show l -1<=3 by omega,by
      show iD (qR (w.now+1) (l -1)) w.T (a.map (·.l));rw[akT ad r];exact d.congr (λt _=>by unfold pass;rw[a7 T])⟩ (show l -1<l by omega) (bd.cons rfl (bd.cons rfl (bd.nil))) (au)
 . replace W:=bW W
   refine aes ?_;obtain rfl:l=0:=ad;obtain⟨s,ai⟩:∃s,s=(w.now+1)%8:=⟨_,rfl⟩;have c:s<8:=ad;obtain⟨x,ah⟩:∃x,a[8*0+s]?=some x:=⟨_,cD ad⟩;have O:iD (λt=>hi (w.now+1) t.due) w.T (a.map (·.l)):=d.congr λt U=>by
    have:=R.due t U;exact aBF ad (show w.now<t.due by omega) (show t.due<=w.now+4095 by omega)
   have hp:=(iD.jr O (j:=s) (l:=x.l) (by rw[fD,show s=8*0+s by omega,ah];rfl)).2;rw[ai]at hp;refine aen ?_;refine aB rfl (tm (((w.now+1)%8:Nat):Int) (Bb _ 8) rfl rfl bw) ?_;rw[<-ai];refine qy ?_;refine ar6 ?_;refine aB rfl (lU (j:=0) rfl rfl bw) ?_;refine aB rfl (lU rfl rfl c) ?_;refine aB rfl (o_load rfl (FN (l:=0) ah)) ?_;refine BQ ?_;refine uW eP (DP ah) ?_;refine zq ?_;refine QR ?_;refine aB rfl (lU (j:=0) rfl rfl bw) ?_;refine aB rfl (lU rfl rfl c) ?_;refine ko (mo rfl rfl rfl ZB) ?_;rw[LL (l:=0) (m:=[]) (n:=0) rfl];refine ie ?_;refine uz (jc (e:=336) (aZ:=3)) ?_;refine uz (gu (A:=so ⟨none,0,[]⟩) (i:=8*0+s) (l:=a.map so) .head eP h9) ?_;refine hz ?_;refine xa ?_;refine cn rfl (b9 rfl (akN x.a x.c x.l (mP w) (hp.trans (FP (aBG R))) (R.xP.sublist FR) (λt U=>by have:=R.sb t (oL.1 U).1;omega) (by have h1:=hp.length_eq;have h2:=qm (λt=>decide (hi (w.now+1) t.due=(w.now+1)%8)) w.T;have aN:=R.len;omega)) bN) ?_;refine aew ?_;intro aD aI;refine jq (.inl rfl) rfl rfl [own (.slice aD (mP w).length aI) 36 1 (mP w).length ((mP w).map λt=>bx t.id),fw p (tn w)] (⟨aD,aI,rfl,rfl⟩) (λh st=>Sat.swap (w6 (w:=tn w) (a.set (8*0+s) ⟨none,0,[]⟩) (by have h1:=iD.empty O (F:=s) (by omega);rw[ai,aBH R,<-ai]at h1;rw[tA,show 8*0+s=s by omega];exact h1) IE h st))
end
end Go.Proofs.YtnnhpnccfnghdaaGreat.L
namespace Go.Proofs.YtnnhpnccfnghdaaGreat.L.Ck
open Go.Proofs.YtnnhpnccfnghdaaGreat.L
open Go.L Go.L.Ring Go.L.dD Go.L.ej Go.L.Whl
attribute[local irreducible] G cJ GE c3 GT b1 dk c7 ds Exit.then Exit.inBlock
structure oD where
 c:Nat
 m:Nat
 r:Nat
 wp:Nat
abbrev fv(X:oD)(B:kZ):al:=aa X.c 219 [ptr X.m 0,af B.b,af B.n,ptr X.r 0,ptr X.wp 0]
section
variable(X:oD)(a:Option Addr){D:List al}(B:kZ)(k p q c1 bq b7 left:Nat)(id d:Int)(l:List Int)(az:hx)(x y:Value)(w:gm)(o:fz)
abbrev fV:Value:=.slice a l.length k
abbrev gZ:al:=own (.slice a l.length k) 36 1 l.length (l.map bx)
abbrev kL(d u r:Value):oE:=⟨310,[ptr X.c 0,d,u,r]⟩
abbrev jK:Value:=.slice none 0 0
abbrev Gy:=Nat×Nat×Nat×Nat×Option Addr×Nat×Option Addr×Nat
def rS(cut ref:List Int):vZ->al
 |.put o=>dq (bv:=Gy) (λ_=>True) (λe=>match e with|(q,c1,bq,b7,cu,cR,cC,b8)=>[cW p (yc q) (bk 426 [ptr c1 0,ptr bq 0]) 0 0 (kL X jK (fV cu cR cut) (fV cC b8 ref)),h3 q X.r o,aa c1 248 [ptr p 0],aa bq 326 [ptr q 0],gZ cu cR cut,gZ cC b8 ref])
 |.now=>dq (bv:=Gy) (λ_=>True) (λe=>match e with|(z,c1,bq,b7,cu,cR,cC,b8)=>[cW p (mf z) (bk 352 [ptr c1 0,ptr bq 0]) 0 0 (kL X jK (fV cu cR cut) (fV cC b8 ref)),qZ z X.m B.b,aa c1 248 [ptr p 0],aa bq 314 [ptr z 0],gZ cu cR cut,gZ cC b8 ref])
 |.take left o=>dq (bv:=Gy) (λ_=>True) (λe=>match e with|(q,c1,bq,b7,cu,cR,cC,b8)=>[cW p (yc q) (bk 250 [ptr c1 0,ptr bq 0,ptr b7 0]) 0 0 (kL X jK (fV cu cR cut) (fV cC b8 ref)),h3 q X.r o,aa c1 326 [ptr q 0],aa bq 248 [ptr p 0],aa b7 3 [af left],gZ cu cR cut,gZ cC b8 ref])
 |.tick v=>dq (bv:=Gy) (λ_=>True) (λe=>match e with|(z,c1,bq,b7,cu,cR,cC,b8)=>[cW p (mf z) (bk 310 [ptr c1 0]) 0 0 (kL X jK (fV cu cR cut) (fV cC b8 ref)),tj z X.m B.b v,aa c1 248 [ptr p 0],gZ cu cR cut,gZ cC b8 ref])
abbrev Vl:=Value×Value×Option Addr×Nat×Option Addr×Nat×Option Addr×Nat
def Gz:al:=dq (bv:=Vl) (λ_=>True) (λe=>match e with|(x,y,a0,fL,cu,cR,cC,b8)=>[cW p x y az.out az.val (kL X (fV a0 fL az.due) (fV cu cR az.cut) (fV cC b8 az.ref)),gZ a0 fL az.due,gZ cu cR az.cut,gZ cC b8 az.ref])
def hT:al:=if az.out=0 then rS X B p az.cut az.ref az.ph else Gz X p az
def yd{X:oD}{B:kZ}{p:Nat}{az:hx}{M D:List al}(bi:az.out=0)(h:∀h,Sat M h->Sat (rS X B p az.cut az.ref az.ph::D) h):∀h,Sat M h->Sat (hT X B p az::D) h:=by
 unfold hT;rw[bg bi];exact h
def GA{X:oD}{B:kZ}{p:Nat}{az:hx}{M D:List al}(bi:az.out≠0)(e:Vl)(h:∀h,Sat M h->Sat (cW p e.1 e.2.1 az.out az.val (kL X (fV e.2.2.1 e.2.2.2.1 az.due) (fV e.2.2.2.2.1 e.2.2.2.2.2.1 az.cut) (fV e.2.2.2.2.2.2.1 e.2.2.2.2.2.2.2 az.ref))::gZ e.2.2.1 e.2.2.2.1 az.due::gZ e.2.2.2.2.1 e.2.2.2.2.2.1 az.cut::gZ e.2.2.2.2.2.2.1 e.2.2.2.2.2.2.2 az.ref::D) h):∀h,Sat M h->Sat (hT X B p az::D) h:=by
 unfold hT;rw[a7 bi];exact cE e trivial h
def amg:∀h,Sat D h->Sat (gZ none 0 []::D) h:=jc
def GB:∀h,Sat D h->Sat (gZ none 0 []::gZ none 0 []::D) h:=λh s=>jc h (jc h s)
def amh:∀h,Sat D h->Sat (gZ none 0 []::gZ none 0 []::gZ none 0 []::D) h:=λh s=>jc h (GB h s)
def u64_quo{v:Int}(bi:0<=v)(h1:v<=18446744073709551615):IntKind.u64.wrap (v.tdiv 4096)=v/4096:=Mt (n:=4096) bi h1 bw
def Vm(aO:w.now<3000000000000000000)(cu:Option Addr)(cR:Nat)(cC:Option Addr)(b8:Nat)(cut ref:List Int):ab E 249 [ptr p 0] ye Vn:=by
 refine av Tryz.func249 λH D=>?_;refine bb ?_;refine wn λar=>?_;refine bb ?_;refine h0 [24,27,30] [24,27] [(0,.bL),(1,.bL),(2,.bL),(3,.bL),(4,.bL),(5,.bL),(6,.bL),(7,.bL),(8,.bL),(9,.bL),(10,.bL),(11,.bL),(12,.bL),(13,.bL),(14,.bL),(15,.bL),(16,.bL),(17,.loc),(18,.loc),(19,.loc),(20,.loc),(21,.loc),(22,.loc),(23,.loc),(29,.bL),(24,.da),(25,.loc),(26,.loc),(27,.da),(28,.loc),(30,.da)] [aa ar 248 [ptr p 0],cW p x y 0 0 v7,fv X B] mixed hM ?_;refine gq ?_;refine bE ?_;refine aU (ami X.wp w) ?_;refine aG ?_;refine go_v rfl .none rfl (fy ((w.now+1:Nat):Int) ff rfl rfl) ?_;refine go_v rfl .none rfl (pD ((w.now+1:Nat):Int) (tk ad) rfl) ?_;refine bu (GC X.m B.b ((w.now+1:Nat):Int)) ?_;refine GD ?_;intro z;refine aU (GF p z v7 X.m B.b ((w.now+1:Nat):Int) x y _ rfl 0 0) ?_;refine b2 ?_;exact aQ (I:=[rS X B p cut ref (.tick ((w.now+1:Nat):Int)),fv X B,fw X.wp w]) ⟨rfl,rfl⟩ (cE (z,ar,0,0,cu,cR,cC,b8) trivial (au))
def Vo(aO:w.now<3000000000000000000)(left:Nat)(aw:left<=64)(cu:Option Addr)(cR:Nat)(cC:Option Addr)(b8:Nat)(cut ref:List Int):ab E 201 [ptr p 0,af left] ye (aH eN Vp):=by
 refine av Tryz.func201 λH D=>?_;refine nw ?_;intro V ay;refine cB ?_;refine ch (λW=>?_) (λW=>?_)
 . obtain rfl:left=0:=by omega
   refine b2 ?_;refine aU (Vm X B p x y w aO cu cR cC b8 cut ref) ?_;refine bE ?_;exact aQ cj
 . have d:¬left=0:=by omega
   refine c4 ?_;refine bu (Mu X.r) ?_;refine ny ?_;intro q;refine wn λaL=>?_;refine b2 ?_;refine cw [] [6,201] [aa aL 326 [ptr q 0],aa V 248 [ptr p 0]] ?_;refine Mv ?_;refine aU (AC p q X.r v7 x y _ rfl 0 0 (gi 5 0) rfl) ?_;refine b2 ?_;exact aQ (I:=Vp) cj (by unfold pE;rw[a7 d];exact cE (q,aL,V,ay,cu,cR,cC,b8) trivial (au))
theorem amj(R:mg w)(id d:Int)(aS:0<=d/\d<=4095)(cu:Option Addr)(cR:Nat)(cC:Option Addr)(b8:Nat)(cut ref:List Int)(j:cut.length<=1000)(a:ref.length<=1000)(h:d≠0)(Y:nW w id d≠0):ab E 252 Da ye (λu I=>∃b e f i,u=.tuple #[]/\I=[cW p x y 0 0 (kL X jK (fV b e cut) (fV f i (ref++[id]))),gZ b e cut,gZ f i (ref++[id]),fv X B,fw X.wp (q0 w id d)]):=by
 refine av Tryz.func252 λH D=>?_;refine Vq ?_;refine aB rfl (fS (c:=true) (by simpa using Y) (mh rfl rfl)) ?_;refine dB ?_;refine wn λr=>?_;refine gj λg l=>?_;rw[show ref.map bx++[bx id]=(ref++[id]).map bx by simp,show ref.length+1=(ref++[id]).length by simp];refine bj ?_;exact GG
theorem amk(R:mg w)(id d:Int)(aS:0<=d/\d<=4095)(cu:Option Addr)(cR:Nat)(cC:Option Addr)(b8:Nat)(cut ref:List Int)(j:cut.length<=1000)(a:ref.length<=1000)(h:d≠0)(Y:nW w id d=0):ab E 252 Da ye (λu I=>∃b e f i,u=.tuple #[]/\I=[cW p x y 0 0 (kL X jK (fV b e cut) (fV f i ref)),gZ b e cut,gZ f i ref,fv X B,fw X.wp (q0 w id d)]):=by
 refine av Tryz.func252 λH D=>?_;refine Vq ?_;refine aB rfl (fS (c:=false) (by simpa using Y) (mh rfl rfl)) ?_;refine bQ ?_;refine cP ?_;refine eY ?_;refine b2 ?_;exact GG
theorem aml(R:mg w)(id d:Int)(aS:0<=d/\d<=4095)(cu:Option Addr)(cR:Nat)(cC:Option Addr)(b8:Nat)(cut ref:List Int)(j:cut.length<=1000)(a:ref.length<=1000)(h:d=0)(Y:(w.get id).isSome=true):ab E 252 Da ye (λu I=>∃b e f i,u=.tuple #[]/\I=[cW p x y 0 0 (kL X jK (fV b e (cut++[id])) (fV f i ref)),gZ b e (cut++[id]),gZ f i ref,fv X B,fw X.wp (q1 w id)]):=by
 refine Vr ?_;intro H D;refine v8 Vs ?_;refine ct ?_;refine wn λc=>?_;refine gj λa53 g=>?_;rw[show cut.map bx++[bx id]=(cut++[id]).map bx by simp,show cut.length+1=(cut++[id]).length by simp];refine bj ?_;exact GG
theorem amm(R:mg w)(id d:Int)(aS:0<=d/\d<=4095)(cu:Option Addr)(cR:Nat)(cC:Option Addr)(b8:Nat)(cut ref:List Int)(j:cut.length<=1000)(a:ref.length<=1000)(h:d=0)(Y:(w.get id).isSome=false):ab E 252 Da ye (λu I=>∃b e f i,u=.tuple #[]/\I=[cW p x y 0 0 (kL X jK (fV b e cut) (fV f i ref)),gZ b e cut,gZ f i ref,fv X B,fw X.wp (q1 w id)]):=by
 refine Vr ?_;intro H D;refine tl Vs ?_;refine b2 ?_;exact GG
def amn(R:mg w)(v:Int)(Z:0<=v)(cu:Option Addr)(cR:Nat)(cC:Option Addr)(b8:Nat)(cut ref:List Int)(j:cut.length<=1000)(a:ref.length<=1000):ab E 252 [ptr p 0,bx (v/4096),af (v%4096)] ye (λu I=>∃b e f i,u=.tuple #[]/\I=[cW p x y 0 0 (kL X jK (fV b e (cut++q2 v w)) (fV f i (ref++q3 v w))),gZ b e (cut++q2 v w),gZ f i (ref++q3 v w),fv X B,fw X.wp (lO v w)]):=by
 have bf:0<=v%4096/\v%4096<=4095:=ad;unfold lO q2 q3;by_cases h:v%4096=0
 . cases Y:(w.get (v/4096)).isSome with
   |
    true=>
    rw[bg h,bg ⟨h,rfl⟩,a7 (λg=>g.1 h),jb];exact aml X B p x y w R _ _ bf cu cR cC b8 cut ref j a h Y
   |
    false=>
    rw[bg h,a7 (λg=>by cases g.2),a7 (λg=>g.1 h),jb,jb];exact amm X B p x y w R _ _ bf cu cR cC b8 cut ref j a h Y
 . by_cases Y:nW w (v/4096) (v%4096)=0
   . rw[a7 h,a7 (λg=>h g.1),a7 (λg=>g.2 Y),jb,jb]
     exact amk X B p x y w R _ _ bf cu cR cC b8 cut ref j a h Y
   . rw[a7 h,a7 (λg=>h g.1),bg ⟨h,Y⟩,jb]
     exact amj X B p x y w R _ _ bf cu cR cC b8 cut ref j a h Y
def amo(aw:1<=left/\left<=64)(w:gm)(R:mg w)(cu:Option Addr)(cR:Nat)(cC:Option Addr)(b8:Nat)(cut ref:List Int)(aJ:o.out≠1):ab E 250 yf Vt Vn:=by
 refine av Tryz.func250 λH D=>?_;refine bR ?_;refine aU (us q X.r o) ?_;refine aB rfl (fS (c:=true) (by simpa using aJ) (mh rfl rfl)) ?_;refine bj ?_;refine aU (Vm X B p x y w R.now cu cR cC b8 cut ref) ?_;refine bE ?_;exact aQ cj
def amp(aw:1<=left/\left<=64)(w:gm)(R:mg w)(cu:Option Addr)(cR:Nat)(cC:Option Addr)(b8:Nat)(cut ref:List Int)(aJ:o.out=1)(l:0<=o.value)(n:o.value<=18446744073709551615)(j:cut.length<=1000)(a:ref.length<=1000)(Y:(lO o.value w).now<3000000000000000000):ab E 250 yf Vt (aH eN [rS X B p (cut++q2 o.value w) (ref++q3 o.value w) (pE (left -1) (lO o.value w)),fv X B,fw X.wp (lO o.value w)]):=by
 refine av Tryz.func250 λH D=>?_;refine bR ?_;refine aU (us q X.r o) ?_;refine aB rfl (fS (c:=false) (by simpa using aJ) (mh rfl rfl)) ?_;refine bj ?_;refine h0 [2,5,8] [2,5] [(0,.bL),(1,.loc),(4,.bL),(2,.da),(3,.bL),(5,.da),(6,.loc),(7,.loc),(8,.da)] [aa c1 326 [ptr q 0],aa bq 248 [ptr p 0]] mixed hM ?_;refine b2 ?_;refine aU (Mw q X.r o) ?_;refine aG ?_;refine go_vs rfl .none rfl (GH (o.value/4096) (u64_quo l n) rfl rfl bw) (au) ?_;refine aU (Mw q X.r o) ?_;refine aG ?_;refine go_v rfl .none rfl (tm (o.value%4096) (Vu l) rfl rfl bw) ?_;refine go_v rfl .none rfl (pD (o.value%4096) (jz ad) rfl) ?_;refine bu (amn X B p x y w R o.value l cu cR cC b8 cut ref j a) ?_;rintro _ _ ⟨b,e,f,i,rfl,rfl⟩;refine eM ?_;refine bj ?_;refine aB rfl (kl ((left -1:Nat):Int) ff rfl rfl) ?_;refine cn rfl (b9 rfl (Vo X B p x y (lO o.value w) Y (left -1) ad b e f i (cut++q2 o.value w) (ref++q3 o.value w)) bN) ?_;refine x7 ?_;exact aQ cj
theorem amq(R:mg w)(cu:Option Addr)(cR:Nat)(cC:Option Addr)(b8:Nat)(cut ref:List Int):ab E 310 [ptr c1 0] (cW p x y 0 0 v7::aa c1 248 [ptr p 0]::Mx) (aH eN [Gz X p ⟨.now,1,0,((mP w).map (·.id)),cut,ref⟩,fv X B,fw X.wp (tn w)]):=by
 refine av Tryz.func310 λH D=>?_;refine aG ?_;refine cw [8] [101,7,201,2,201] [aa c1 248 [ptr p 0],fv X B] ?_;refine bQ ?_;refine go_c rfl .none rfl (b9 rfl (amr X.wp w R.ok R.now (by have:=R.seq;omega)) bN) ?_;rintro _ D ⟨_,⟨a0,fL,rfl,rfl⟩,rfl⟩;refine fC ?_;rw[show(mP w).length=((mP w).map (·.id)).length by simp,show((mP w).map λt=>bx t.id)=((mP w).map (·.id)).map bx by simp];refine dh ?_;refine aU (mQ p (kL X (fV a0 fL ((mP w).map (·.id))) (fV cu cR cut) (fV cC b8 ref)) x y 0 0 1 0) ?_;refine bb ?_;exact aQ (I:=[Gz X p ⟨.now,1,0,((mP w).map (·.id)),cut,ref⟩,fv X B,fw X.wp (tn w)]) ⟨rfl,rfl⟩ (cE (x,y,a0,fL,cu,cR,cC,b8) trivial (au))
def ams(B:kZ)(p q c1 bq:Nat)(x y:Value)(o:fz)(br:oE):ab E 426 [ptr c1 0,ptr bq 0] [cW p x y 0 0 br,h3 q X.r o,aa c1 248 [ptr p 0],aa bq 326 [ptr q 0]] (aH eN [cW p x y o.out 0 br]):=by
 refine av Tryz.func426 λH D=>?_;refine cw [4] [103,1,202] [aa c1 248 [ptr p 0],aa bq 326 [ptr q 0]] ?_;refine bR ?_;refine aU (us q X.r o) ?_;refine aG ?_;refine aU (mQ p br x y 0 0 o.out 0) ?_;exact uj
def amt(X:oD)(B:kZ)(p z c1 bq:Nat)(x y:Value)(v:Int)(ep:Bool)(br:oE):ab E 352 [ptr c1 0,ptr bq 0] [cW p x y 0 0 br,nX z v ep,aa c1 248 [ptr p 0],aa bq 314 [ptr z 0]] (aH eN [cW p x y 1 v br]):=by
 refine av Tryz.func352 λH D=>?_;refine yg ?_;intro f;refine cw [] [7,201] [aa c1 248 [ptr p 0],aa bq 314 [ptr z 0],o1 z f true v ep] ?_;refine ct ?_;refine aU (mQ p br x y 0 0 1 v) ?_;exact uj
theorem amu:ab E 390 [ptr X.c 0,bx id,af d,.bool false] [fv X B] Vv:=by
 refine My ?_;intro H D f cA;refine dB ?_;refine aU (mQ f (kL X jK jK jK) _ _ 0 0 4 0) ?_;refine c4 ?_;exact aQ (I:=[hT X B f AD,fv X B]) ⟨f,rfl,rfl⟩ (GA bw (_,_,none,0,none,0,none,0) Vw)
theorem amv(h:1125899906842624<id):ab E 390 [ptr X.c 0,bx id,af d,.bool true] [fv X B] Vv:=by
 refine My ?_;intro H D f cA;refine bR ?_;refine cP ?_;refine cB ?_;refine aU (mQ f (kL X jK jK jK) _ _ 0 0 4 0) ?_;refine c4 ?_;exact aQ (I:=[hT X B f AD,fv X B]) ⟨f,rfl,rfl⟩ (GA bw (_,_,none,0,none,0,none,0) Vw)
theorem amw(cy:0<=id)(h:id<=1125899906842624)(aS:0<=d/\d<=4095):ab E 390 [ptr X.c 0,bx id,af d,.bool true] [fv X B] (λu I=>∃p,u=ptr p 0/\I=[hT X B p (p8 (.put (gi 0 (id*4096+d)))),fv X B]):=by
 refine My ?_;intro H D f cA;refine bR ?_;refine cP ?_;refine fB ?_;refine aB rfl (rT (id*4096) (tk ad) rfl rfl) ?_;refine aG ?_;refine aB rfl (pD d (tk ad) rfl) ?_;refine aB rfl (fy (id*4096+d) (tk ad) rfl rfl) ?_;refine bu (Vx X.r (id*4096+d)) ?_;refine ny ?_;intro q;refine wn λdm=>?_;refine bR ?_;refine cw [] [6,201] [aa cA 248 [ptr f 0],aa dm 326 [ptr q 0]] ?_;refine Mv ?_;refine aU (AC f q X.r (kL X jK jK jK) _ _ _ rfl 0 0 (gi 0 (id*4096+d)) rfl) ?_;refine c4 ?_;exact aQ (I:=[hT X B f (p8 (.put (gi 0 (id*4096+d)))),fv X B]) ⟨f,rfl,rfl⟩ (yd rfl (cE (q,cA,dm,0,none,0,none,0) trivial (λh s=>Sat.tail (λh s=>Sat.tail (λh s=>Sat.tail (λh s=>Sat.tail (λh s=>GB h s) s) s) s) ((au) h s))))
theorem Vy(a:Bool)(cy:0<=id)(aS:a=true->0<=d/\d<=4095):ab E 390 [ptr X.c 0,bx id,af d,.bool a] [fv X B] (λu I=>∃p,u=ptr p 0/\I=[hT X B p (if a=true/\id<=1125899906842624 then p8 (.put (gi 0 (id*4096+d)))else AD),fv X B]):=by
 cases a with
 |false=>exact(amu X B id d).mono λv I h=>by rw[a7 (λg=>by cases g.1)];exact h
 |
  true=>
  by_cases h:id<=1125899906842624
  . exact(amw X B id d cy h (aS rfl)).mono λv I g=>by rw[bg ⟨rfl,h⟩];exact g
  . exact(amv X B id d ad).mono λv I g=>by rw[a7 (λq=>h q.2)];exact g
theorem amx{id d:Int}:q4 id d=if(decide (1<=d)&&decide (d<=4095))=true/\id<=1125899906842624 then p8 (.put (gi 0 (id*4096+d)))else AD:=by
 unfold q4;by_cases h:d<1\/4095<d\/1125899906842624<id
 . rw[bg h,a7 h9]
 . rw[a7 h,bg h9]
theorem amy{id:Int}:rU id=if true=true/\id<=1125899906842624 then p8 (.put (gi 0 (id*4096+0)))else AD:=by
 unfold rU;by_cases h:1125899906842624<id
 . rw[bg h,a7 (λg=>absurd g.2 ad)]
 . rw[a7 h,bg ⟨rfl,by omega⟩,Int.add_zero]
theorem amz(cy:0<=id):ab E 388 [ptr X.c 0,bx id,af d] [fv X B] (λu I=>∃p,u=ptr p 0/\I=[hT X B p ((q4 id d)),fv X B]):=by
 refine av Tryz.func388 λH D=>?_;refine fB ?_;refine mN (d:=15) 3 (.bool (decide (1<=d)&&decide (d<=4095))) ?_ (λa=>?_)
 rotate_left
 . refine hY rfl rfl (λW=>?_) (λW=>?_) rfl
   . have f:=bW W
     refine bR ?_;exact jo a
   . have f:=bW W
     simp only[iE];refine bb ?_;exact jo a
 refine cn rfl (b9 rfl (Vy X B id d (decide (1<=d)&&decide (d<=4095)) cy (λh=>by simp at h;omega)) bN) ?_;rintro _ D ⟨_,⟨p,rfl,rfl⟩,rfl⟩;refine uu ?_;exact aQ (I:=[hT X B p (q4 id d),fv X B]) ⟨p,rfl,rfl⟩ (by rw[amx];exact(au))
theorem amA(cy:0<=id):ab E 390 [ptr X.c 0,bx id,af 0,.bool true] [fv X B] Vz:=(Vy X B id 0 true cy (λ_=>by decide)).mono λv I h=>by rw[amy];exact h
theorem amB(cy:0<=id):ab E 347 [ptr X.c 0,bx id] [fv X B] Vz:=by
 refine av Tryz.func347 λH D=>?_;refine cB ?_;refine bu (amA X B id cy) ?_;exact q5
def amC:ab E 301 [ptr X.c 0] [fv X B] (λu I=>∃p,u=ptr p 0/\I=[hT X B p (o2),fv X B]):=by
 refine av Tryz.func301 λH D=>?_;refine cB ?_;refine wn λbV=>?_;refine wn λay=>?_;refine bR ?_;refine iu [8,9,10] [9] wa [fv X B] ?_;refine bQ ?_;refine fm ?_ ?_
 . refine GI ?_
   intro z;refine aG ?_;refine wn λaL=>?_;exact VA
 . refine wn λaL=>?_
   refine aG ?_;refine GI ?_;intro z;exact VA
def amD(cd:B.n<=64)(w:gm)(aO:w.now<3000000000000000000):ab E 147 [ptr X.c 0] yh (λu I=>∃p,u=ptr p 0/\I=(hT X B p (uv B w)::yh)):=by
 refine av Tryz.func147 λH D=>?_;refine cB ?_;refine wn λaM=>?_;refine dh ?_;refine q6 (I:=cW aM _ _ 0 0 (kL X jK jK jK)::gZ none 0 []::gZ none 0 []::fv X B::fw X.wp w::D) (λh s=>Sat.tail (λh s=>GB h s) ((au) h s)) ?_;refine aU (Vo X B aM _ _ w aO B.n cd none 0 none 0 [] []) ?_;refine dh ?_;exact aQ (I:=(hT X B aM (uv B w)::yh)) ⟨aM,rfl,rfl⟩ (yd rfl (au))
def amE(R:mg w):ab E 152 [ptr X.c 0] yh (λu I=>∃aD aI,u=.slice aD w.T.length aI/\I=[own (.slice aD w.T.length aI) 36 1 w.T.length (w.T.map λt=>bx t.id),fw X.wp w,fv X B]):=by
 refine av Tryz.func152 λH D=>?_;refine c4 ?_;refine cn rfl (b9 rfl (amF X.wp w R.ok (by have:=R.seq;omega)) bN) ?_;rintro _ D ⟨_,⟨aD,aI,rfl,rfl⟩,rfl⟩;refine uu ?_;exact aQ ⟨_,_,rfl,rfl⟩
end
section
variable(X:oD)(B:kZ)(p:Nat)(L:List Int)(t:Int)(w:gm)(az:hx)
def o3:al:=dq (bv:=Unit) (λ_=>True) (λ_=>[fv X B,bz X.m L t,fs X.r X.m (B.b+1) B.n,fw X.wp w])
def Db{X:oD}{B:kZ}{p:Nat}{az:hx}(h:az.out=0):hT X B p az=rS X B p az.cut az.ref az.ph:=by unfold hT;rw[bg h]
def Dc{X:oD}{B:kZ}{p:Nat}{az:hx}(h:az.out≠0):hT X B p az=Gz X p az:=by unfold hT;rw[a7 h]
theorem Mz(hp:az.out=0->az.val=0)(f:FuncId)(N:Value)(h:∀(br:oE) (x y:Value),ab E f [ptr p 0] [cW p x y az.out az.val br] (aH N [cW p x y az.out az.val br])):
 ab E f [ptr p 0] rV (aH N rV):=by
 by_cases aJ:az.out=0
 . rw[Db aJ]
   have Z:=hp aJ;rw[aJ,Z]at h;cases Y:az.ph<;>exact kC (λx _=>j9 (h _ _ _) nz tp)
 . rw[Dc aJ]
   exact kC (λx _=>j9 (h _ _ _) nz tp)
def Dd(hp:az.out=0->az.val=0):ab E 254 [ptr p 0] rV (aH (.bool az.over) rV):=Mz X B p az hp _ _ (λbr x y=>tq p br x y az.out az.val)
def VB(hp:az.out=0->az.val=0):ab E 81 [ptr p 0] rV (aH (af az.out) rV):=Mz X B p az hp _ _ (λbr x y=>GJ p br x y az.out az.val)
def amG(hp:az.out=0->az.val=0):ab E 85 [ptr p 0] rV (aH (bx az.val) rV):=Mz X B p az hp _ _ (λbr x y=>GK p br x y az.out az.val)
def _root_.Go.L.ej.rW.ir{B:kZ}{L:List Int}(h:rW B L):wb (B.b+1) B.n L:=⟨h.m1,h.m64,by have:=h.len;omega,h.dG⟩
def amH(cd:rW B L)(R:mg w)(cut ref:List Int)(az:hx)(o:fz)(ak:iH o)(aJ:o.out=0)(m:o.pc<=9)(J:(dC (B.b+1) B.n L o).over=false):ab E 474 [ptr p 0] [rS X B p cut ref (.put o),o3 X B L t w] (aH gP [hT X B p ⟨.put De,0,0,[],cut,ref⟩,o3 X B wc (dV t) (w)]):=by
 refine fc .head (λe _=>?_);obtain⟨q,c1,bq,b7,cu,cR,cC,b8⟩:=e;refine gh ?_;refine fc (bv:=Unit) eP (λ_ _=>?_);refine gh ?_;have b:o.over=false:=mR;have i:=mS q X.r X.m (B.b+1) B.n L t o cd.ir ak;rw[J,b]at i;simp only[e2,eI]at i;refine p9 i (λD=>?_);refine gh ?_;refine λh s=>Sat.swap (cE () trivial (M:=_) (D:=hT X B p ⟨.put (dC (B.b+1) B.n L o),0,0,[],cut,ref⟩::D) ?_ h s);refine gh ?_;refine λh s=>(hJ.from (A:=hT X B p ⟨.put (dC (B.b+1) B.n L o),0,0,[],cut,ref⟩) (.tail (.tail (.tail (.tail .head))))) (yd (az:=⟨.put (dC (B.b+1) B.n L o),0,0,[],cut,ref⟩) rfl (cE (q,c1,bq,b7,cu,cR,cC,b8) trivial (au)) h s)
def amI(cd:rW B L)(R:mg w)(cut ref:List Int)(az:hx)(o:fz)(ak:iH o)(aJ:o.out=0)(m:o.pc<=9)(J:(dC (B.b+1) B.n L o).over=true):ab E 474 [ptr p 0] [rS X B p cut ref (.put o),o3 X B L t w] (aH hI [hT X B p VC,o3 X B wc (dV t) (w)]):=by
 refine fc .head (λe _=>?_);obtain⟨q,c1,bq,b7,cu,cR,cC,b8⟩:=e;refine gh ?_;refine fc (bv:=Unit) eP (λ_ _=>?_);refine gh ?_;have b:o.over=false:=mR;have i:=mS q X.r X.m (B.b+1) B.n L t o cd.ir ak;rw[J,b]at i;simp only[e2,eI]at i;have d:(dC (B.b+1) B.n L o).out≠0:=qa;exact pF [fv X B,bz X.m wc (dV t),fs X.r X.m (B.b+1) B.n,fw X.wp w]
  ((Dd X B p VC (λh=>absurd h d)).mono λv I h=>by rw[h.1,h.2];exact⟨by simp[hx.over,d],rfl⟩)
  i (ams X B p q c1 bq _ _ De v7) (g:=λD=>by simp only[ck,ci];exact GA d (_,_,none,0,cu,cR,cC,b8) VD) (q:=λD=>by simp only[ck,ci];exact λh s=>Sat.swap GL)
def amJ(cd:rW B L)(R:mg w)(cut ref:List Int)(az:hx)(left:Nat)(aw:1<=left/\left<=64)(o:fz)(ak:iH o)(aJ:o.out=0)(m:o.pc<=9)(J:(dC (B.b+1) B.n L o).over=false):ab E 474 [ptr p 0] MA (aH gP [hT X B p VE,o3 X B wc (dV t) (w)]):=by
 refine fc .head (λe _=>?_);obtain⟨q,c1,bq,b7,cu,cR,cC,b8⟩:=e;refine gh ?_;refine fc (bv:=Unit) eP (λ_ _=>?_);refine gh ?_;have b:o.over=false:=mR;have i:=mS q X.r X.m (B.b+1) B.n L t o cd.ir ak;rw[J,b]at i;simp only[e2,eI]at i;refine p9 i (λD=>?_);refine gh ?_;refine λh s=>Sat.swap (cE () trivial (M:=_) (D:=hT X B p ⟨.take left (dC (B.b+1) B.n L o),0,0,[],cut,ref⟩::D) ?_ h s);refine gh ?_;refine λh s=>(hJ.from (A:=hT X B p ⟨.take left (dC (B.b+1) B.n L o),0,0,[],cut,ref⟩) (.tail (.tail (.tail (.tail .head))))) (yd (az:=⟨.take left (dC (B.b+1) B.n L o),0,0,[],cut,ref⟩) rfl (cE (q,c1,bq,b7,cu,cR,cC,b8) trivial (au)) h s)
def amK(cd:rW B L)(R:mg w)(cut ref:List Int)(az:hx)(left:Nat)(aw:1<=left/\left<=64)(o:fz)(ak:iH o)(aJ:o.out=0)(m:o.pc<=9)(J:(dC (B.b+1) B.n L o).over=true)(h1:(dC (B.b+1) B.n L o).out≠1):ab E 474 [ptr p 0] MA (aH gP [hT X B p VF,o3 X B wc (dV t) (w)]):=by
 refine fc .head (λe _=>?_);obtain⟨q,c1,bq,b7,cu,cR,cC,b8⟩:=e;refine gh ?_;refine fc (bv:=Unit) eP (λ_ _=>?_);refine gh ?_;have b:o.over=false:=mR;have i:=mS q X.r X.m (B.b+1) B.n L t o cd.ir ak;rw[J,b]at i;simp only[e2,eI]at i;have d:(dC (B.b+1) B.n L o).out≠0:=qa;exact pF [fv X B,bz X.m wc (dV t),fs X.r X.m (B.b+1) B.n,fw X.wp (w)]
  ((Dd X B p ⟨.tick ((w.now+1:Nat):Int),0,0,[],cut,ref⟩ (λ_=>rfl)).mono λv I h=>h)
  i (amo X B p q c1 bq b7 left _ _ De aw w R cu cR cC b8 cut ref h1) (g:=λD=>by simp only[ck,ci];exact yd (az:=⟨.tick ((w.now+1:Nat):Int),0,0,[],cut,ref⟩) rfl (au)) (q:=λD=>by simp only[ck,ci];exact λh s=>Sat.swap (cE () trivial (au) h s))
def amL(cd:rW B L)(R:mg w)(cut ref:List Int)(az:hx)(left:Nat)(aw:1<=left/\left<=64)(o:fz)(ak:iH o)(aJ:o.out=0)(m:o.pc<=9)(J:(dC (B.b+1) B.n L o).over=true)(h1:(dC (B.b+1) B.n L o).out=1)(l:0<=(dC (B.b+1) B.n L o).value)(n:(dC (B.b+1) B.n L o).value<=18446744073709551615)(j:cut.length<=1000)(a:ref.length<=1000):ab E 474 [ptr p 0] MA (aH gP [hT X B p VG,o3 X B wc (dV t) GM]):=by
 refine fc .head (λe _=>?_);obtain⟨q,c1,bq,b7,cu,cR,cC,b8⟩:=e;refine gh ?_;refine fc (bv:=Unit) eP (λ_ _=>?_);refine gh ?_;have b:o.over=false:=mR;have i:=mS q X.r X.m (B.b+1) B.n L t o cd.ir ak;rw[J,b]at i;simp only[e2,eI]at i;have d:(dC (B.b+1) B.n L o).out≠0:=qa;exact pF [fv X B,bz X.m wc (dV t),fs X.r X.m (B.b+1) B.n,fw X.wp GM]
  ((Dd X B p ⟨pE (left -1) GM,0,0,[],cut++q2 (dC (B.b+1) B.n L o).value w,ref++q3 (dC (B.b+1) B.n L o).value w⟩ (λ_=>rfl)).mono λv I h=>h)
  i (amp X B p q c1 bq b7 left _ _ (dC (B.b+1) B.n L o) aw w R cu cR cC b8 cut ref h1 l n j a (by rw[VH];exact R.now)) (g:=λD=>by simp only[ck,ci];exact yd (az:=⟨pE (left -1) (lO (dC (B.b+1) B.n L o).value w),0,0,[],cut++q2 (dC (B.b+1) B.n L o).value w,ref++q3 (dC (B.b+1) B.n L o).value w⟩) rfl (au)) (q:=λD=>by simp only[ck,ci];exact λh s=>Sat.swap (cE () trivial (au) h s))
def amM(cd:rW B L)(K:iv L)(R:mg w)(a6:tr az):ab E 474 [ptr p 0] [hT X B p az,o3 X B L t w] (aH (.bool (jY B L w az).2.2.over) [hT X B p (jY B L w az).2.2,o3 X B (jY B L w az).1 (if az.over then t else dV t) (jY B L w az).2.1]):=by
 obtain⟨ph,out,val,due,cut,ref⟩:=az;have j:cut.length<=1000:=VI;have a:ref.length<=1000:=VI;by_cases aJ:out=0
 . subst aJ
   obtain⟨Y,Z,aS⟩:=a6.run rfl;obtain rfl:val=0:=Z;obtain rfl:due=[]:=aS;rw[Db rfl];have k:(⟨ph,0,0,[],cut,ref⟩:hx).over=false:=rfl;have aC:jY B L w ⟨ph,0,0,[],cut,ref⟩=nY B L w ⟨ph,0,0,[],cut,ref⟩:=by unfold jY;rw[k];rfl
   rw[aC,k];simp only[e2,eI];cases ph with
   |
    put o=>
    obtain⟨ak,T,m⟩:=Y;cases J:(dC (B.b+1) B.n L o).over with
    |
     false=>
     have z:(dC (B.b+1) B.n L o).out=0:=qa;have:=amH X B p L t w cd R cut ref Df o ak T m J;simp only[nY,z];exact this
    |
     true=>
     have z:(dC (B.b+1) B.n L o).out≠0:=qa;have:=amI X B p L t w cd R cut ref Df o ak T m J;rw[<-J]at this;exact this
   |
    now=>
    have f:B.b<L.length:=oF;refine fc .head (λe _=>?_);obtain⟨q,c1,bq,b7,cu,cR,cC,b8⟩:=e;simp only[ck,ci];refine fc (bv:=Unit) eP (λ_ _=>?_);simp only[ck,ci];exact pF [fv X B,bz X.m L (dV t),fs X.r X.m (B.b+1) B.n,fw X.wp w]
     ((Dd X B p ⟨.now,1,L.getD B.b 0,[],cut,ref⟩ we).mono λv I h=>h)
     (GN q X.m B.b L t f) (amt X B p q c1 bq _ _ (L.getD B.b 0) true v7) (g:=λD=>by simp only[ck,ci];exact GA (az:=⟨.now,1,L.getD B.b 0,[],cut,ref⟩) (show(1:Int)≠0 by decide) (_,_,none,0,cu,cR,cC,b8) VD) (q:=λD=>by simp only[ck,ci];exact λh s=>Sat.swap GL)
   |
    take left o=>
    obtain⟨ak,T,m,aw⟩:=Y;have m4:=AE (b:=B.b+1) (n:=B.n) K ak;cases J:(dC (B.b+1) B.n L o).over with
    |
     false=>
     have:=amJ X B p L t w cd R cut ref Df left aw o ak T m J;simp only[nY,J,e2,eI];exact this
    |
     true=>
     by_cases h1:(dC (B.b+1) B.n L o).out=1
     . have Z:0<=(dC (B.b+1) B.n L o).value/\(dC (B.b+1) B.n L o).value<=18446744073709551615:=by unfold fz.value;rw[bg h1];exact⟨m4.v0,m4.v1⟩
       have:=amL X B p L t w cd R cut ref Df left aw o ak T m J h1 Z.1 Z.2 j a;simp only[nY,J,fu,h1];exact this
     . have:=amK X B p L t w cd R cut ref Df left aw o ak T m J h1
       simp only[nY,J,fu,h1,eI];exact this
   |
    tick v=>
    have f:B.b<L.length:=oF;refine fc .head (λe _=>?_);obtain⟨q,c1,bq,b7,cu,cR,cC,b8⟩:=e;simp only[ck,ci];refine fc (bv:=Unit) eP (λ_ _=>?_);simp only[ck,ci];exact pF [fv X B,bz X.m (L.set B.b v) (dV t),fs X.r X.m (B.b+1) B.n,fw X.wp (tn w)]
     ((Dd X B p ⟨.tick v,1,0,(mP w).map (·.id),cut,ref⟩ we).mono λv I h=>h)
     (GO q X.m B.b L t f v) (amq X B p c1 _ _ w R cu cR cC b8 cut ref) (g:=λD=>by simp only[ck,ci];exact(au)) (q:=λD=>by simp only[ck,ci];exact λh s=>Sat.swap GL)
 . have J:(MB:hx).over=true:=by simp[hx.over,aJ]
   have aC:jY B L w MB=(L,w,MB):=by unfold jY;rw[bg J]
   rw[aC,J,Dc aJ];simp only[fu];exact kC (λx _=>j9 (MC p _ _ _ out val aJ) nz tp)
end
section
variable(s:Int)(X:oD){n:Nat}(B:kZ)(p:Nat)(F z oG:Value)(br:oE)(az:hx)(x y v:Value)(l:List Int)(a0:Option Addr)(fL:Nat)(cu:Option Addr)(cR:Nat)(cC:Option Addr)(b8:Nat)
def Dg:Int:=if lP s=0 then 0 else 1+lP s
def amN:0<=lP s/\lP s<=130:=by unfold lP;split<;>omega
def amO:Dg s=if 1<=s/\s<=64 then 3+2*s else 0:=by unfold Dg lP;(repeat' split)<;>omega
def VJ(L:List Int)(b i:Nat):∀j,im (im L b i) (b+i) j=im L b (i+j)
 |0=>rfl
 |j+1=>by rw[im,VJ L b i j,<-nZ,im,nZ]
def amP{X:oD}{B:kZ}{L:List Int}{t:Int}{w:gm}{M D:List al}(h:∀h,Sat M h->Sat (fv X B::bz X.m L t::fs X.r X.m (B.b+1) B.n::fw X.wp w::D) h):∀h,Sat M h->Sat (o3 X B L t w::D) h:=cE () trivial h
def lQ:List Int:=if az.out=0 then[]else l
def amQ:ab E 61 [af s] [] (aH (af (Dg s)) []):=by
 refine av Tryz.func61 λH D=>?_;have ai:=amN s;refine bQ ?_;refine aU (GQ s) ?_;refine dh ?_;refine ch (λW=>?_) (λW=>?_)
 . refine bQ ?_
   exact VK
 . refine bE ?_
   refine aB rfl (fy (1+lP s) (jz ad) rfl rfl) ?_;refine bE ?_;exact VK
def amR(h1:1<=n)(h2:n<=64):Dg (n:Int)=((3+2*n:Nat):Int):=by rw[amO,bg ad];omega
def MD(h1:1<=n)(h2:n<=64):ab E 61 [af n] [] (aH (af ((3+2*n:Nat):Int)) []):=by rw[<-amR h1 h2];exact amQ n
def VL(i:Nat)(t:Int):∀j,jp j (jp i t)=jp (i+j) t
 |0=>rfl
 |j+1=>by rw[jp,VL i t j,<-nZ,jp]
def amS(m b n:Nat)(L:List Int)(t:Int)(K:rW ⟨b,n⟩ L):ab E 66 AF wg (λu I=>∃X:oD,u=.tuple #[ptr X.c 0,af 0]/\X.m=m/\I=[o3 X ⟨b,n⟩ (im L b (3+2*n)) (jp (3+2*n) t) q7]):=by
 refine av Tryz.func66 λH D=>?_;have h1:1<=n:=K.m1;have h2:n<=64:=K.m64;have d3:b+3+2*n<=L.length:=K.len;have g3:=K.dG;refine cB ?_;refine aU (MD h1 h2) ?_;refine dB ?_;refine cP ?_;refine bE ?_;refine cP ?_;refine ct ?_;refine aU (L5 m L t) ?_;refine b2 ?_;refine aB rfl (kl ((L.length:Int) -((3+2*n:Nat):Int)) (jz ad) rfl rfl) ?_;refine aG ?_;refine cP ?_;refine dh ?_;refine cn rfl (b9 rfl (mM m L t b ad 0) bN) ?_;refine gU ?_;refine Am ?_;refine ME ?_;refine aG ?_;refine cn rfl (b9 rfl (MF m (b+1) n (L.set b 0) _ ⟨h1,h2,by rw[gr];omega,by rw[gr];omega⟩) bN) ?_;rintro _ D ⟨_,⟨gO,rfl,rfl⟩,rfl⟩;refine fC ?_;refine fB ?_;refine bu (amT) ?_;rintro _ _ ⟨wp,rfl,rfl⟩;refine eM ?_;refine aG ?_;refine wn λDD=>?_;refine bj ?_;exact aQ (I:=[o3 ⟨DD,m,gO,wp⟩ ⟨b,n⟩ (im L b (3+2*n)) (jp (3+2*n) t) q7]) ⟨⟨DD,m,gO,wp⟩,rfl,rfl,rfl⟩ (amP (by rw[show im L b (3+2*n)=im (im L b 1) (b+1) (2+2*n) by rw[VJ,show 1+(2+2*n)=3+2*n by omega],show jp (3+2*n) t=jp (2+2*n) (jp 1 t) by rw[VL,show 1+(2+2*n)=3+2*n by omega]];exact(au)))
def MG(a:Option Addr)(c:Nat)(l:List Int)(aw:l.length<=1000):ab E 76 [fV a c l] [gZ a c l] (λu I=>∃aD aI,u=fV aD aI l/\I=[gZ aD aI l,gZ a c l]):=by
 refine av Tryz.func76 λH D=>?_;refine dB ?_;refine ch (λW=>?_) (λW=>?_)
 . obtain rfl:a=none:=by simpa using W
   refine yi (λ_ s=>VM (l:=l.length) (c:=c) s) ?_;rintro⟨d,f,-,-⟩;obtain rfl:l=[]:=rR d;subst f;refine bQ ?_;exact aQ (I:=[gZ none 0 [],gZ none 0 []]) wh wi
 . refine bR ?_
   refine wn λaR=>?_;refine aG ?_;refine jn rfl (MH rfl rfl eP rfl gl (by simp[VN];intro x _;rfl) ad AB) ?_;exact VO
def amU(bi:az.out≠0)(aw:az.due.length<=1000):ab E 202 [ptr p 0,fV a0 fL az.due] uw VP:=by
 refine MI ?_;intro H D;refine bu (MG a0 fL az.due aw) ?_;exact AG
def amV(bi:az.out≠0)(aw:az.due.length<=1000):ab E 155 [ptr p 0] uw VP:=by
 refine av Tryz.func155 λH D=>?_;refine dB ?_;refine bu (amU X p az x y a0 fL cu cR cC b8 bi aw) ?_;exact AG
def amW:ab E 202 [ptr p 0,v] AH (aH jK AH):=by
 exact MJ
def amX(aA:F.oneCell'=true/\z.oneCell'=true/\oG.oneCell'=true):ab E 155 [ptr p 0] GR MK:=by
 refine av Tryz.func155 λH D=>?_;refine dB ?_;refine aU (amW p (kL X F z oG) x y _) ?_;refine bE ?_;exact aQ cj
def amY(Z:az.out=0->az.val=0)(aw:az.due.length<=1000):ab E 155 [ptr p 0] rV (λu I=>∃aD aI,u=fV aD aI (lQ az az.due)/\I=[gZ aD aI (lQ az az.due),hT X B p az]):=by
 by_cases aJ:az.out=0
 . have e:lQ az az.due=[]:=by unfold lQ;rw[bg aJ]
   rw[Db aJ,e];have co:ab E 155 [ptr p 0] GU ML:=by
    cases Y:az.ph<;>exact kC (λx _=>j9 (amX X p _ _ _ _ _ ⟨rfl,rfl,rfl⟩) nz (λD=>cE x trivial (λh s=>s)))
   exact MM
 . have e:lQ az az.due=az.due:=by unfold lQ;rw[a7 aJ]
   rw[Dc aJ,e];refine kC (λx _=>?_);obtain⟨x,y,a0,fL,cu,cR,cC,b8⟩:=x;refine(amV X p az x y a0 fL cu cR cC b8 aJ aw).aU λv I h=>?_;exact MN
def amZ(bi:az.out≠0)(aw:az.cut.length<=1000):ab E 202 [ptr p 0,fV cu cR az.cut] uw VQ:=by
 refine MI ?_;intro H D;refine bu (MG cu cR az.cut aw) ?_;exact AG
def am0(bi:az.out≠0)(aw:az.cut.length<=1000):ab E 151 [ptr p 0] uw VQ:=by
 refine av Tryz.func151 λH D=>?_;refine dB ?_;refine bu (amZ X p az x y a0 fL cu cR cC b8 bi aw) ?_;exact AG
def am1:ab E 202 [ptr p 0,v] AH (aH jK AH):=by
 exact MJ
def am2(aA:F.oneCell'=true/\z.oneCell'=true/\oG.oneCell'=true):ab E 151 [ptr p 0] GR MK:=by
 refine av Tryz.func151 λH D=>?_;refine dB ?_;refine aU (am1 p (kL X F z oG) x y _) ?_;refine bE ?_;exact aQ cj
def am3(Z:az.out=0->az.val=0)(aw:az.cut.length<=1000):ab E 151 [ptr p 0] rV (λu I=>∃aD aI,u=fV aD aI (lQ az az.cut)/\I=[gZ aD aI (lQ az az.cut),hT X B p az]):=by
 by_cases aJ:az.out=0
 . have e:lQ az az.cut=[]:=by unfold lQ;rw[bg aJ]
   rw[Db aJ,e];have co:ab E 151 [ptr p 0] GU ML:=by
    cases Y:az.ph<;>exact kC (λx _=>j9 (am2 X p _ _ _ _ _ ⟨rfl,rfl,rfl⟩) nz (λD=>cE x trivial (λh s=>s)))
   exact MM
 . have e:lQ az az.cut=az.cut:=by unfold lQ;rw[a7 aJ]
   rw[Dc aJ,e];refine kC (λx _=>?_);obtain⟨x,y,a0,fL,cu,cR,cC,b8⟩:=x;refine(am0 X p az x y a0 fL cu cR cC b8 aJ aw).aU λv I h=>?_;exact MN
def am4(bi:az.out≠0)(aw:az.ref.length<=1000):ab E 202 [ptr p 0,fV cC b8 az.ref] uw VR:=by
 refine MI ?_;intro H D;refine bu (MG cC b8 az.ref aw) ?_;exact AG
def am5(bi:az.out≠0)(aw:az.ref.length<=1000):ab E 149 [ptr p 0] uw VR:=by
 refine av Tryz.func149 λH D=>?_;refine dB ?_;refine bu (am4 X p az x y a0 fL cu cR cC b8 bi aw) ?_;exact AG
def am6:ab E 202 [ptr p 0,v] AH (aH jK AH):=by
 exact MJ
def am7(aA:F.oneCell'=true/\z.oneCell'=true/\oG.oneCell'=true):ab E 149 [ptr p 0] GR MK:=by
 refine av Tryz.func149 λH D=>?_;refine dB ?_;refine aU (am6 p (kL X F z oG) x y _) ?_;refine bE ?_;exact aQ cj
def am8(Z:az.out=0->az.val=0)(aw:az.ref.length<=1000):ab E 149 [ptr p 0] rV (λu I=>∃aD aI,u=fV aD aI (lQ az az.ref)/\I=[gZ aD aI (lQ az az.ref),hT X B p az]):=by
 by_cases aJ:az.out=0
 . have e:lQ az az.ref=[]:=by unfold lQ;rw[bg aJ]
   rw[Db aJ,e];have co:ab E 149 [ptr p 0] GU ML:=by
    cases Y:az.ph<;>exact kC (λx _=>j9 (am7 X p _ _ _ _ _ ⟨rfl,rfl,rfl⟩) nz (λD=>cE x trivial (λh s=>s)))
   exact MM
 . have e:lQ az az.ref=az.ref:=by unfold lQ;rw[a7 aJ]
   rw[Dc aJ,e];refine kC (λx _=>?_);obtain⟨x,y,a0,fL,cu,cR,cC,b8⟩:=x;refine(am5 X p az x y a0 fL cu cR cC b8 aJ aw).aU λv I h=>?_;exact MN
end
end Go.Proofs.YtnnhpnccfnghdaaGreat.L.Ck
namespace Go.Proofs.YtnnhpnccfnghdaaGreat.L
open Go.L Go.L.Ring Go.L.dD Go.L.dP
attribute[local irreducible] G cJ GE c3 GT b1 dk c7 ds Exit.then Exit.inBlock
section
variable(k p q m b n:Nat)(o:hK)
def Hb:Nat:=match k with|0=>199|1=>200|2=>186|3=>375|4=>421|_=>0
def Hc:Nat:=match k with|0=>322|1=>374|2=>420|3=>443|4=>188|5=>226|6=>280|7=>332|8=>378|9=>333|10=>191|11=>227|12=>281|13=>335|_=>0
def Hd:Nat:=match k with|0=>427|1=>446|2=>397|3=>432|4=>447|_=>0
def anC:Value:=.func (.func (Hb k)) #[] #[]
def anD:Value:=.func (.func (Hc k)) #[ptr p 0] #[]
def anE:Value:=.func (.func (Hd k)) #[ptr p 0] #[]
abbrev ks:al:=aa q 275 [ptr m 0,af b,af n]
abbrev ix(o:hN):al:=aa p 295 [ptr q 0,anC o.k,af o.w,af o.out]
abbrev js:al:=aa q 279 [ptr m 0,af b,bx n]
abbrev gD(o:ig):al:=aa p 299 [ptr q 0,anD o.pc p,af o.out,bx o.v,bx o.t,bx o.b,.bool o.ep]
abbrev kt:al:=aa q 277 [ptr m 0,af b,bx n]
abbrev iI:al:=aa p 302 [ptr q 0,af o.jr,af (n1 b o.en),bx (G7 o.en),bx o.t,bx o.v,af o.out]
abbrev dy:al:=aa q 221 [ptr m 0,af b,af n]
abbrev k3(o:k2):al:=aa p 409 [ptr m 0,af o.cell,bx o.seen,anE o.pc p,af o.out]
structure He(b n:Nat)(L:List Int):Prop where
 n8:n<=8
 len:b+n<=L.length
 dG:L.length<=65536
structure yz(b n:Nat)(L:List Int):Prop where
 ed:1<=n
 jT:n<=64
 len:b+2+n<=L.length
 dG:L.length<=65536
structure r1(b n:Nat)(L:List Int):Prop where
 ed:1<=n
 jT:n<=64
 len:b+2+2*n<=L.length
 dG:L.length<=65536
def Hf{n:Nat}(t:Int)(aO:1<=n):(t%(n:Int)).toNat<n:=by
 have:=M3 t (show(0:Int)<n by omega);omega
def Wa{n:Nat}{t:Int}(U:0<=t)(aO:1<=n):t.tmod n=((t%(n:Int)).toNat:Int):=by
 exact Wb
def yz.lt{b n:Nat}{L:List Int}(h:yz b n L)(t:Int):kb b n t<L.length:=by
 have h1:=h.ed;have h2:=h.len;have:=Hf t h1;unfold kb;omega
def r1.lt{b n:Nat}{L:List Int}(h:r1 b n L)(t:Int):ls b n t+1<L.length:=by
 have h1:=h.ed;have h2:=h.len;have:=Hf t h1;unfold ls;omega
def Wc(o:hN)(R:o.w<n)(aO:n<=8)(hk:o.k=3):ab E 422 [ptr p 0] [ks q m b n,ix p q o] (aH eN [ks q m b n,ix p q (wq n o)]):=by
 refine av Tryz.func422 λH D=>?_;obtain⟨k,w,out⟩:=o;obtain rfl:k=3:=hk;replace R:w<n:=R;unfold ix;dsimp only;refine bj ?_;refine aB rfl (fy ((w+1:Nat):Int) ff rfl rfl) ?_;refine bj ?_;refine cw [] [12] [] ?_;refine gd ?_;refine ch (λW=>?_) (λW=>?_)
 . refine ct ?_
   exact aQ (I:=[ks q m b n,ix p q (wq n AN)]) cj (by simp only[wq];rw[bg (by omega)];exact(au))
 . refine bb ?_
   exact aQ (I:=[ks q m b n,ix p q (wq n AN)]) cj (by simp only[wq];rw[a7 (by omega)];exact(au))
def AO(o:hN):ab E 475 [ptr p 0] [ix p q o] (aH (.bool o.over) [ix p q o]):=by
 refine av Tryz.func475 λH D=>?_;exact yA
def anF(o:hN):ab E 128 [ptr p 0] [ix p q o] (aH (af o.out) [ix p q o]):=by
 refine av Tryz.func128 λH D=>?_;exact re
def Ds(o:ig):ab E 477 [ptr p 0] [gD p q o] (aH (.bool o.over) [gD p q o]):=by
 refine av Tryz.func477 λH D=>?_;exact yA
def Wd(o:ig):ab E 269 [ptr p 0] [gD p q o] (aH (af o.out) [gD p q o]):=by
 refine av Tryz.func269 λH D=>?_;exact re
def anG(o:ig):ab E 479 [ptr p 0] [gD p q o] (aH (bx o.value) [gD p q o]):=by
 refine av Tryz.func479 λH D=>?_;refine eY ?_;refine ch (λW=>?_) (λW=>?_)
 . refine bQ ?_
   exact aQ ⟨by simp[ig.value,W],rfl⟩
 . refine fB ?_
   exact aQ ⟨by simp[ig.value,W],rfl⟩
def M4:ab E 480 [ptr p 0] wx (aH (.bool o.over) wx):=by
 exact We
def M5:ab E 143 [ptr p 0] wx (aH (af o.out) wx):=by
 refine av Tryz.func143 λH D=>?_;exact re
def Wf:ab E 146 [ptr p 0] wx (aH (bx o.value) wx):=by
 refine av Tryz.func146 λH D=>?_;refine gd ?_;refine mN (d:=14) 6 (.bool ((!decide (o.out=1))||decide (G7 o.en=0))) ?_ (λe=>?_)
 rotate_left
 . refine hY rfl rfl (λW=>?_) (λW=>?_) rfl
   . have f:=bW W
     refine dh ?_;exact jo e
   . have f:=bW W
     simp only[iE];refine bE ?_;exact jo e
 refine bb ?_;refine ch (λM=>?_) (λM=>?_)
 . replace M:=M
   refine bQ ?_;exact Wg
 . replace M:=M
   refine fB ?_;exact Wg
def Wh(o:k2):ab E 488 [ptr p 0] [k3 p q o] (aH (.bool o.over) [k3 p q o]):=by
 refine av Tryz.func488 λH D=>?_;exact yA
def Wi(o:k2):ab E 431 [ptr p 0] [k3 p q o] (aH (af o.out) [k3 p q o]):=by
 refine av Tryz.func431 λH D=>?_;exact re
def Wj(L:List Int)(t:Int)(K:yz b n L)(c i:Nat)(a6:c<=1)(ak:i=b+c):ab E 225 [ptr q 0,af c] [bz m L t,js q m b n] (aH (bx (L.getD i 0)) [bz m L (dV t),js q m b n]):=by
 refine av Tryz.func225 λH D=>?_;have g:=K.len;have a:=K.ed;have e:=K.dG;subst ak;have r:b+c<L.length:=ad;refine bj ?_;refine cw [] [10,201,5] [] ?_;refine cB ?_;refine go_v rfl .none rfl (fy ((b+c:Nat):Int) ff rfl rfl) ?_;refine aU (nx _ _ _ (b+c) (r)) ?_;exact re
def M6(aO:1<=n)(Y:n<=64)(aA:b<=65536)(t:Int)(U:0<=t):ab E 334 [ptr q 0,bx t] [js q m b n] (aH (af (kb b n t)) [js q m b n]):=by
 refine av Tryz.func334 λH D=>?_;have bf:=Hf t aO;refine bj ?_;refine cw [] [14] [] ?_;refine dh ?_;refine go_v rfl .none rfl (tm _ (Wa U aO) rfl rfl ad) ?_;refine ct ?_;exact aQ ⟨by unfold kb;first|rfl|(congr 1;omega),rfl⟩
def Wk(aO:1<=n)(o:hK)(h1:n3 o):ab E 483 [ptr p 0] Hg (aH (bx (yv n o.t o.en)) Hg):=by
 refine av Tryz.func483 λH D=>?_;have U:=h1.t;refine bj ?_;refine cw [] [19] [] ?_;refine c4 ?_;refine go_v rfl .none rfl (GH (o.t/n) (Mt U.1 U.2 aO) rfl rfl ad) ?_;refine go_v rfl .none rfl (M7 rfl rfl) ?_;refine bR ?_;refine go_v rfl .none rfl (nU rfl rfl) ?_;refine bE ?_;exact aQ cj
def anH(aO:1<=n)(o:hK)(h1:n3 o)(s:Int):ab E 482 [ptr p 0,bx s] Hg (aH eN [kt q m b n,iI p q b (if s=yv n o.t o.en then{o with jr:=2}else if yv n o.t o.en<s then{o with jr:=0}else if o.en then{o with out:=4}else{o with out:=2})]):=by
 refine av Tryz.func482 λH D=>?_;refine b2 ?_;refine aU (Wk p q m b n aO o h1) ?_;refine dB ?_;refine ch (λW=>?_) (λW=>?_)
 . refine bQ ?_
   exact aQ (I:=[kt q m b n,iI p q b ({o with jr:=2})]) ⟨rfl,by rw[bg W]⟩
 . refine bQ ?_
   refine ch (λM=>?_) (λM=>?_)
   . refine bQ ?_
     exact aQ (I:=[kt q m b n,iI p q b ({o with jr:=0})]) ⟨rfl,by rw[a7 W,bg M]⟩
   . refine dh ?_
     refine ch (λL=>?_) (λL=>?_)
     . have d:o.en=false:=by cases h:o.en with|false=>rfl|true=>rw[h]at L;exact absurd L bw
       refine bQ ?_;exact aQ (I:=[kt q m b n,iI p q b ({o with out:=2})]) ⟨rfl,by rw[a7 W,a7 (Dt.2 M),d,a7 bw]⟩
     . have d:o.en=true:=by cases h:o.en with|true=>rfl|false=>rw[h]at L;exact absurd rfl L
       refine bQ ?_;exact aQ (I:=[kt q m b n,iI p q b ({o with out:=4})]) ⟨rfl,by rw[a7 W,a7 (Dt.2 M),d,bg rfl]⟩
end
end Go.Proofs.YtnnhpnccfnghdaaGreat.L
