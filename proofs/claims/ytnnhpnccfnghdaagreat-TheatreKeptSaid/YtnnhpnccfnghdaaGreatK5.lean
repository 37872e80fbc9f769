import Derived.Test.YtnnhpnccfnghdaaGreatK4
import Derived.Shelf.Abstract
import Derived.OwnWalkIn
import Derived.TacticsInMore
import Derived.LoopNIn
import Derived.LoopIn
set_option linter.all false
set_option maxRecDepth 100000
set_option maxHeartbeats 4000000
namespace Go.Proofs.YtnnhpnccfnghdaaGreat.L
open Go.L
attribute[local irreducible] G cz GE cT GT bU c6 cY dc Exit.then Exit.inBlock
section
variable(n:Int)(p:Nat)(L:List Int)(t:Int)(i:Nat)
def cg:aq:=
 df (bx:=Option Addr×Nat) (λ_=>True) (λx=>[ab p 181 [.slice x.1 L.length x.2,af t],own (.slice x.1 L.length x.2) 36 1 L.length (L.map bu)])
theorem Ak{p:Nat}{L Z:List Int}{t dh:Int}{I D:List aq}(a:Option Addr)(c:Nat)(e:Z=L)(H:dh=t)
 (h:∀h,Sat I h->Sat (ab p 181 [.slice a L.length c,af t]::own (.slice a L.length c) 36 1 L.length (L.map bu)::D) h):∀h,Sat I h->Sat (cg p Z dh::D) h:=by
 subst e H;exact cA (a,c) trivial h
def jk:Nat:=(if 65536<(if n<0 then 0 else n)then 65536 else(if n<0 then 0 else n)).toNat
def UB:jk n<=65536:=by unfold jk;split<;>split<;>omega
def al7(h:0<=n/\n<=65536):(jk n:Int)=n:=by unfold jk;split<;>split<;>omega
def ga:Int:=IntKind.i64.wrap (t+1)
def al8:ad aa 60 [af n] [] (λu H=>∃p,u=ptr p 0/\H=[cg p (List.replicate (jk n) 0) 0]):=by
 refine ax Tryz.func60 λF D=>?_;refine bH ?_;refine aA rfl (ti _ rfl rfl rfl) ?_;refine aA rfl (uw (jk n) (by unfold jk;split<;>split<;>omega) rfl rfl) ?_;refine iQ rfl (Mf rfl rfl (by have:=UB n;unfold maxLen;omega) (by have:=UB n;omega)) ?_;rintro _ _ ⟨a,ge,rfl,rfl⟩;refine aG ?_;refine wn λV=>?_;refine bz ?_;exact aW ⟨_,rfl,rfl⟩ (Ak a ge rfl rfl (by rw[al9 bu,UC];exact(au)))
def Mg:ad aa 108 [ptr p 0] ux (aF (af L.length) ux):=by
 refine ax Tryz.func108 λF D=>?_;refine kB ek ?_;rintro⟨a,c⟩ -;refine gb ?_;refine eP ?_;refine a7 ?_;exact Mh
def ama(al:i<L.length):ad aa 107 [ptr p 0,af i] ux
 (λu H=>∃a c,u=.tuple #[el kQ (i*1),.bool true]/\H=[ab p 181 [.slice a L.length c,af (ga t)],own kQ 36 1 L.length (L.map bu)]):=by
 refine ax Tryz.func107 λF D=>?_;refine kB ek ?_;rintro⟨a,c⟩ -;refine gb ?_;refine dx ?_;refine UD ?_;refine o8 rfl rfl fW ?_;refine aG ?_;refine UE ?_;refine bH ?_;refine aA rfl (n1 rfl rfl) ?_;refine eP ?_;refine bF ?_;exact aW ⟨_,_,rfl,rfl⟩
def nt(al:i<L.length):ad aa 187 [ptr p 0,af i] ux
 (aF (.tuple #[bu (L.getD i 0),af 0]) [cg p L (ga t)]):=by
 refine ax Tryz.func187 λF D=>?_;refine UF ?_;intro a c;refine bh ?_;exact Mh
def mM(al:i<L.length)(v:Int):ad aa 64 [ptr p 0,af i,bu v] ux
 (aF (af 0) [cg p (L.set i v) (ga t)]):=by
 refine ax Tryz.func64 λF D=>?_;refine cr ?_;refine Mi ?_;intro a c;refine ch ?_;refine Mj ?_;refine cr ?_;exact aW ⟨rfl,rfl⟩ (Ak a c rfl rfl Mk)
def tj(al:i<L.length)(x v:Int):ad aa 262 [ptr p 0,af i,bu x,bu v] ux
 (aF (.tuple #[.bool (decide (L.getD i 0=x)),af 0]) [cg p Ml (ga t)]):=by
 refine ax Tryz.func262 λF D=>?_;refine cU ?_;refine Mi ?_;intro a c;refine ch ?_;refine aA rfl (gy rfl (CV (d:=0) al)) ?_;refine bF ?_;refine b6 (λW=>?_) (λW=>?_)
 . refine cr ?_
   exact aW ⟨by rw[mJ W],rfl⟩ (Ak a c (a6 W) rfl (au))
 . refine ch ?_
   refine Mj ?_;refine cU ?_;exact aW ⟨by rw[lM W],rfl⟩ (Ak a c (bg W) rfl Mk)
def amb(al:i<L.length)(d:Int):ad aa 260 [ptr p 0,af i,bu d] ux
 (aF (.tuple #[bu (IntKind.u64.wrap (L.getD i 0+d)),af 0]) [cg p (L.set i (IntKind.u64.wrap (L.getD i 0+d))) (ga t)]):=by
 refine ax Tryz.func260 λF D=>?_;refine UF ?_;intro a c;refine aG ?_;refine aA rfl (n1 rfl rfl) ?_;refine aG ?_;refine Mj ?_;refine bh ?_;refine aA rfl (gy rfl (CV (f:=bu) (l:=L.set i (IntKind.u64.wrap (L.getD i 0+d))) (d:=0) CW)) ?_;refine bh ?_;exact aW ⟨by rw[CX _ _ _ _ _ al,bg rfl],rfl⟩ (Ak a c rfl rfl Mk)
def amc(al:i<L.length):ad aa 51 [ptr p 0,af i] ux
 (aF (bu (L.getD i 0)) ux):=by
 refine ax Tryz.func51 λF D=>?_;refine kB ek ?_;rintro⟨a,c⟩ -;refine gb ?_;refine cr ?_;refine cH ?_;refine fZ ?_;refine cH ?_;refine fZ ?_;refine aA rfl (gy rfl (CV (d:=0) al)) ?_;refine bz ?_;exact Mh
end
end Go.Proofs.YtnnhpnccfnghdaaGreat.L
namespace Go.Proofs.YtnnhpnccfnghdaaGreat.L
open Go.L Go.L.Ring
attribute[local irreducible] G cz GE cT GT bU c6 cY dc Exit.then Exit.inBlock
section
variable(pc p r m b n:Nat)(L:List Int)(t:Int)(o:fr)
def KQ:Nat:=match pc with|0=>316|1=>372|2=>419|3=>442|4=>452|5=>286|6=>336|7=>380|8=>423|9=>444|10=>450|11=>454|12=>425|13=>445|14=>434|15=>448|_=>0
def B4:Value:=.func (.func (KQ pc)) #[ptr p 0] #[]
abbrev gf:aq:=ab r 281 [ptr m 0,af b,bu n]
abbrev iZ:aq:=ab p 367 [ptr r 0,B4 o.pc p,af o.out,bu o.val,bu o.tick,bu o.c5]
structure wz(b n:Nat)(L:List Int):Prop where
 ec:1<=n
 jV:n<=64
 len:b+2+2*n<=L.length
 dE:L.length<=65536
def B5{b n:Nat}{L:List Int}(h:wz b n L)(t:Int):jt b n t+1<L.length:=by
 have h1:=h.ec;have h2:=h.len;unfold jt;have:(t%(n:Int)).toNat<n:=by have:=Nf t (show(0:Int)<n by omega);omega
 omega
def auI{n:Nat}{t:Int}(R:0<=t)(aS:1<=n):t.tmod n=((t%(n:Int)).toNat:Int):=by
 exact Wv
def auJ{n:Nat}(t:Int)(aS:1<=n):(t%(n:Int)).toNat<n:=by
 have:=Nf t (show(0:Int)<n by omega);omega
def B6(aS:1<=n)(e:n<=64)(az:b<=65536)(t:Int)(R:0<=t):ad aa 379 [ptr r 0,bu t] [gf r m b n] (aF (af (jt b n t)) [gf r m b n]):=by
 refine ax Tryz.func379 λF D=>?_;have bb:=auJ t aS;refine bh ?_;refine ct [] [15] [gf r m b n] ?_;refine cU ?_;refine go_v rfl .none rfl (ts _ (auI R aS) rfl rfl ae) ?_;refine bH ?_;exact aW ⟨by unfold jt;first|rfl|(congr 1;omega),rfl⟩
def KR(aS:1<=n)(t:Int)(R:0<=t)(q:t<=18446744073709551615):ad aa 381 [ptr r 0,bu t] [gf r m b n] (aF (bu (xE n t)) [gf r m b n]):=by
 refine ax Tryz.func381 λF D=>?_;refine dx ?_;refine aA rfl (GX (t/n) (MH R q aS) rfl rfl ae) ?_;refine aA rfl (Nj rfl rfl) ?_;refine bz ?_;exact aW ⟨rfl,rfl⟩
def Kg:ad aa 453 [ptr p 0] [iZ p r o] (aF (.bool o.over) [iZ p r o]):=by
 refine ax Tryz.func453 λF D=>?_;exact yG
def uG:ad aa 251 [ptr p 0] [iZ p r o] (aF (af o.out) [iZ p r o]):=by
 refine ax Tryz.func251 λF D=>?_;exact rA
def MK:ad aa 253 [ptr p 0] [iZ p r o] (aF (bu o.value) [iZ p r o]):=by
 refine ax Tryz.func253 λF D=>?_;refine eP ?_;refine b6 (λW=>?_) (λW=>?_)
 . refine bH ?_
   exact aW ⟨by simp[fr.value,W],rfl⟩
 . refine fx ?_
   exact aW ⟨by simp[fr.value,W],rfl⟩
def R9(K:wz b n L)(h1:iG o):ad aa 286 [ptr p 0] Jp
 (aF et [cg m (L) (ga t),gf r m b n,iZ p r (uK b L o)]):=by
 refine ax Tryz.func286 λF D=>?_;have em:=K.len;have a:=K.ec;have d:=K.dE;have c:b<L.length:=ae;have f:b+1<L.length:=ae;refine aG ?_;refine ct [16,22] (101::15::uQ) [] ?_;refine EH ?_;refine eP ?_;refine aV (nt _ _ _ (b+1) f) ?_;refine aeU ?_;refine cO ?_;exact aW ⟨rfl,rfl⟩
def ah3(K:wz b n L)(h1:iG o):ad aa 336 [ptr p 0] Jp
 (aF et [cg m (L) (ga t),gf r m b n,iZ p r (sg b n L o)]):=by
 refine ax Tryz.func336 λF D=>?_;have R:=h1.fG;have w:=h1.aB;have g:=B5 K o.c5;have e:jt b n o.c5<L.length:=ae;refine aG ?_;refine ct [15] [107,8,202,5] zg ?_;refine eP ?_;refine go_c rfl .none rfl (b4 rfl (B6 r m b n K.ec K.jV Bx _ R) bI) ?_;refine gP ?_;refine aG ?_;refine aV (nt _ _ _ (jt b n o.c5) e) ?_;refine eP ?_;refine bF ?_;refine ct [9] [101,8,201,2] [gf r m b n,iZ p r {o with pc:=7}] ?_;refine cr ?_;refine aV (KR r m b n K.ec _ R w) ?_;refine aG ?_;refine go_v rfl .none rfl (n1 rfl rfl) ?_;refine bX ?_;refine b6 (λW=>?_) (λW=>?_)
 . refine ch ?_
   exact aW dD (by simp only[sg,a6 W];exact(au))
 . refine a7 ?_
   exact aW dD (by simp only[sg,bg W];exact(au))
end
section
variable(p r m b n:Nat)(L:List Int)(t:Int)(o:fr)
theorem auK{o:fr}(h:iG o):eU aa (KQ o.pc):=by
 obtain⟨k,hk⟩:∃k,k=o.pc:=⟨_,rfl⟩;have hp:=h.pc;rw[<-hk]at hp⊢
 match k,hp with
 |0,_|1,_|2,_|3,_|4,_|5,_|6,_|7,_|8,_|9,_|10,_|11,_|12,_|13,_|14,_|15,_=>simp only[KQ];exact e7
 |k+16,h=>omega
def auL(K:wz b n L)(h1:iG o):ad aa (KQ o.pc) [ptr p 0] Jp
 (aF et [cg m (l2 b n L o) (ga t),gf r m b n,iZ p r (lq b n L o)]):=by
 obtain⟨k,hk⟩:∃k,k=o.pc:=⟨_,rfl⟩;have hp:=h1.pc;rw[<-hk]at hp⊢;unfold l2 lq;rw[<-hk]
 match k,hp with
 |
  0,_=>
  refine ax Tryz.func316 λF D=>?_;have em:=K.len;have a:=K.ec;have d:=K.dE;have c:b<L.length:=ae;have f:b+1<L.length:=ae;refine aG ?_;refine ct [15,21] Jx [] ?_;refine go_vs rfl .none rfl pk pn ?_;refine fZ ?_;refine aV (nt _ _ _ (b) c) ?_;refine⟨nF,?_⟩;refine a7 ?_;refine go_vs rfl .none rfl uP pn ?_;refine a7 ?_
  first|refine go_u rfl .none pY nF ?_|refine go_u rfl .none pZ nF ?_
  refine gi ?_;refine aG ?_;refine b6 (λW=>?_) (λW=>?_)
  ·
   refine ch ?_;exact aW dD (by simp only[AH,bg W];exact(au))
  ·
   refine a7 ?_;exact aW dD (by simp only[AH,a6 (O8.2 W)];exact(au))
 |
  1,_=>
  refine ax Tryz.func372 λF D=>?_;have em:=K.len;have a:=K.ec;have d:=K.dE;have c:b<L.length:=ae;have f:b+1<L.length:=ae;have R:=h1.t0;have w:=h1.t1;have g:=B5 K o.tick;have e:jt b n o.tick<L.length:=ae;refine aG ?_;refine ct [15] [107,8,202,5] zg ?_;refine eP ?_;refine go_c rfl .none rfl (b4 rfl (B6 r m b n K.ec K.jV Bx _ R) bI) ?_;rintro _ D ⟨_,⟨rfl,rfl⟩,rfl⟩
  try simp only[cn,ci]
  refine aG ?_;refine aV (nt _ _ _ (jt b n o.tick) e) ?_;refine cr ?_;refine ct [] [8,201,1] zg ?_;refine bH ?_;refine aV (KR r m b n K.ec _ R w) ?_;refine fx ?_;refine b6 (λW=>?_) (λW=>?_)
  ·
   refine cU ?_;exact aW dD (by simp only[yu,bg W];exact(au))
  ·
   refine bH ?_;refine b6 (λI=>?_) (λI=>?_)
   ·
    refine bH ?_;exact aW dD (by simp only[yu,a6 (Dw.2 W),bg I];exact(au))
   ·
    refine cU ?_;exact aW dD (by simp only[yu,a6 (Dw.2 W),a6 (Dw.2 I)];exact(au))
 |
  2,_=>
  refine ax Tryz.func419 λF D=>?_;have em:=K.len;have a:=K.ec;have d:=K.dE;have c:b<L.length:=ae;have f:b+1<L.length:=ae;refine cO ?_;refine ct [] [23,201,5] [] ?_;refine gi ?_;refine a7 ?_;refine go_v rfl .none rfl (n1 rfl rfl) ?_;refine aV (tj _ _ _ b c _ _) ?_;refine fx ?_;refine b6 (λW=>?_) (λW=>?_)
  ·
   refine cr ?_;exact aW dD (by simp only[EY,AI,bg W];exact(au))
  ·
   refine a7 ?_;exact aW dD (by simp only[EY,AI,a6 W];exact(au))
 |
  3,_=>
  refine ax Tryz.func442 λF D=>?_;have em:=K.len;have a:=K.ec;have d:=K.dE;have c:b<L.length:=ae;have f:b+1<L.length:=ae;have R:=h1.t0;have w:=h1.t1;have g:=B5 K o.tick;have e:jt b n o.tick<L.length:=ae;refine aG ?_;refine h9 [15,21] [15] [(0,.bJ),(1,.bJ),(2,.bJ),(3,.bJ),(4,.bJ),(5,.bJ),(6,.bJ),(7,.loc),(8,.loc),(9,.loc),(10,.loc),(11,.loc),(12,.loc),(13,.loc),(14,.loc),(17,.bJ),(18,.bJ),(19,.bJ),(20,.bJ),(15,.c0),(16,.loc),(21,.c0)] zg mixed gS ?_;refine eP ?_;refine bF ?_;refine go_c rfl .none rfl (b4 rfl (B6 r m b n K.ec K.jV Bx _ R) bI) ?_;rintro _ D ⟨_,⟨rfl,rfl⟩,rfl⟩
  try simp only[cn,ci]
  refine a7 ?_;refine aV (mM _ _ _ (jt b n o.tick+1) g _) ?_;refine dx ?_;exact aW ⟨rfl,rfl⟩
 |
  4,_=>
  refine ax Tryz.func452 λF D=>?_;have em:=K.len;have a:=K.ec;have d:=K.dE;have c:b<L.length:=ae;have f:b+1<L.length:=ae;have R:=h1.t0;have w:=h1.t1;have g:=B5 K o.tick;have e:jt b n o.tick<L.length:=ae;refine aG ?_;refine h9 [15,24,26] [15,24] Z4 zg mixed gS ?_;refine gi ?_;refine bX ?_;refine go_c rfl .none rfl (b4 rfl (B6 r m b n K.ec K.jV Bx _ R) bI) ?_;rintro _ D ⟨_,⟨rfl,rfl⟩,rfl⟩
  try simp only[cn,ci]
  refine aG ?_;refine aV (KR r m b n K.ec _ R w) ?_;refine aG ?_;refine go_v rfl .none rfl (n1 rfl rfl) ?_;refine aV (mM _ _ _ (jt b n o.tick) e _) ?_;refine fZ ?_;exact aW ⟨rfl,rfl⟩
 |5,_=>exact R9 p r m b n L t o K h1
 |6,_=>exact ah3 p r m b n L t o K h1
 |
  7,_=>
  refine ax Tryz.func380 λF D=>?_;have em:=K.len;have a:=K.ec;have d:=K.dE;have c:b<L.length:=ae;have f:b+1<L.length:=ae;have R:=h1.fG;have w:=h1.aB;have g:=B5 K o.c5;have e:jt b n o.c5<L.length:=ae;refine aG ?_;refine ct [16,18,24] (108::8::201::1::uQ) [gf r m b n,Dz p 367 0 (ptr r 0)] ?_;refine go_vs rfl .none rfl pk hl ?_;refine go_vs rfl .none rfl pk hl ?_;refine go_vs rfl .none rfl (lR rfl) hl ?_
  first|refine go_vs rfl .none rfl wQ hl ?_|refine go_vs rfl .none rfl (nE rfl) hl ?_
  first|refine go_vs rfl .none rfl sm hl ?_|refine go_vs rfl .none rfl wR hl ?_|refine go_vs rfl .none rfl wS hl ?_
  refine go_vs rfl .none rfl (lR rfl) hl ?_
  first|refine go_vs rfl .none rfl wQ hl ?_|refine go_vs rfl .none rfl (nE rfl) hl ?_
  first|refine go_vs rfl .none rfl sm hl ?_|refine go_vs rfl .none rfl wR hl ?_|refine go_vs rfl .none rfl wS hl ?_
  refine bH ?_;refine go_c rfl .none rfl (b4 rfl (B6 r m b n K.ec K.jV Bx _ R) bI) ?_;rintro _ D ⟨_,⟨rfl,rfl⟩,rfl⟩
  try simp only[cn,ci]
  refine⟨rB,?_⟩;refine aG ?_;refine aV (nt _ _ _ (jt b n o.c5+1) g) ?_;refine⟨rB,?_⟩;refine a7 ?_;refine go_vs rfl .none rfl uP hl ?_;refine a7 ?_
  first|refine go_u rfl .none pY rB ?_|refine go_u rfl .none pZ rB ?_
  refine cO ?_;exact aW ⟨rfl,rfl⟩
 |
  8,_=>
  refine ax Tryz.func423 λF D=>?_;have em:=K.len;have a:=K.ec;have d:=K.dE;have c:b<L.length:=ae;have f:b+1<L.length:=ae;have R:=h1.fG;have w:=h1.aB;have g:=B5 K o.c5;have e:jt b n o.c5<L.length:=ae;refine aG ?_;refine h9 [15,24,26] [15,24] Z4 zg mixed gS ?_;refine gi ?_;refine bX ?_;refine go_c rfl .none rfl (b4 rfl (B6 r m b n K.ec K.jV Bx _ R) bI) ?_;rintro _ D ⟨_,⟨rfl,rfl⟩,rfl⟩
  try simp only[cn,ci]
  refine aG ?_;refine aV (KR r m b n K.ec _ R w) ?_;refine aG ?_;refine go_v rfl .none rfl (n1 rfl rfl) ?_;refine aV (mM _ _ _ (jt b n o.c5) e _) ?_;refine dx ?_;exact aW ⟨rfl,rfl⟩
 |
  9,_=>
  refine ax Tryz.func444 λF D=>?_;have em:=K.len;have a:=K.ec;have d:=K.dE;have c:b<L.length:=ae;have f:b+1<L.length:=ae;refine aG ?_;refine ct [] [20,201] [] ?_;refine eP ?_;refine bF ?_;refine go_v rfl .none rfl (n1 rfl rfl) ?_;refine aV (mM _ _ _ (b+1) f _) ?_;refine cU ?_;exact aW ⟨rfl,rfl⟩
 |
  10,_=>
  refine ax Tryz.func450 λF D=>?_;have em:=K.len;have a:=K.ec;have d:=K.dE;have c:b<L.length:=ae;have f:b+1<L.length:=ae;refine aG ?_;refine ct [15,21] Jx [] ?_;refine go_vs rfl .none rfl pk pn ?_;refine fZ ?_;refine aV (nt _ _ _ (b) c) ?_;refine⟨nF,?_⟩;refine a7 ?_;refine go_vs rfl .none rfl uP pn ?_;refine a7 ?_
  first|refine go_u rfl .none pY nF ?_|refine go_u rfl .none pZ nF ?_
  refine cO ?_;exact aW ⟨rfl,rfl⟩
 |
  11,_=>
  refine ax Tryz.func454 λF D=>?_;have em:=K.len;have a:=K.ec;have d:=K.dE;have c:b<L.length:=ae;have f:b+1<L.length:=ae;refine bX ?_;refine aV (R9 _ _ _ _ _ _ _ _ K h1) ?_;refine bX ?_;refine ct [] [10] [] ?_;refine bH ?_;refine go_v rfl .none rfl (n1 rfl rfl) ?_;refine bX ?_;refine b6 (λW=>?_) (λW=>?_)
  ·
   refine ch ?_;exact aW dD (by simp only[AJ,bg (show o.val=e0 (L.getD (b+1) 0+dE)from W)];exact(au))
  ·
   refine a7 ?_;exact aW dD (by simp only[AJ,a6 (show¬o.val=e0 (L.getD (b+1) 0+dE)from W)];exact(au))
 |
  12,_=>
  refine ax Tryz.func425 λF D=>?_;have em:=K.len;have a:=K.ec;have d:=K.dE;have c:b<L.length:=ae;have f:b+1<L.length:=ae;refine bX ?_;refine aV (R9 _ _ _ _ _ _ _ _ K h1) ?_;refine cO ?_;exact aW ⟨rfl,rfl⟩
 |
  13,_=>
  refine ax Tryz.func445 λF D=>?_;have em:=K.len;have a:=K.ec;have d:=K.dE;have c:b<L.length:=ae;have f:b+1<L.length:=ae;refine bX ?_;refine aV (ah3 _ _ _ _ _ _ _ _ K h1) ?_;refine bz ?_;refine aV (Kg _ _ _) ?_;refine bX ?_;refine b6 (λW=>?_) (λW=>?_)
  ·
   refine ch ?_;exact aW dD Zs
  ·
   refine a7 ?_;exact aW dD Zs
 |
  14,_=>
  refine ax Tryz.func434 λF D=>?_;have em:=K.len;have a:=K.ec;have d:=K.dE;have c:b<L.length:=ae;have f:b+1<L.length:=ae;refine aG ?_;refine ct [15,21] Jx [] ?_;refine go_vs rfl .none rfl pk pn ?_;refine fZ ?_;refine aV (nt _ _ _ (b) c) ?_;refine⟨nF,?_⟩;refine a7 ?_;refine go_vs rfl .none rfl uP pn ?_;refine a7 ?_
  first|refine go_u rfl .none pY nF ?_|refine go_u rfl .none pZ nF ?_
  refine gi ?_;refine aG ?_;refine b6 (λW=>?_) (λW=>?_)
  ·
   refine cO ?_;exact aW dD (by simp only[AL,bg W];exact(au))
  ·
   refine a7 ?_;exact aW dD (by simp only[AL,a6 (O8.2 W)];exact(au))
 |
  15,_=>
  refine ax Tryz.func448 λF D=>?_;have em:=K.len;have a:=K.ec;have d:=K.dE;have c:b<L.length:=ae;have f:b+1<L.length:=ae;refine cO ?_;refine ct [] [23,201,5] [] ?_;refine gi ?_;refine a7 ?_;refine go_v rfl .none rfl (n1 rfl rfl) ?_;refine aV (tj _ _ _ b c _ _) ?_;refine fx ?_;refine b6 (λW=>?_) (λW=>?_)
  ·
   refine cO ?_;exact aW dD (by simp only[EZ,AM,bg W];exact(au))
  ·
   refine a7 ?_;exact aW dD (by simp only[EZ,AM,a6 W];exact(au))
 |k+16,h=>omega
def mQ(K:wz b n L)(h1:iG o):ad aa 487 [ptr p 0] Jp
 (aF (.bool (dL b n L o).over) [cg m (lp b n L o) DE,gf r m b n,iZ p r (dL b n L o)]):=by
 refine ax Tryz.func487 λF D=>?_;haveI:=auK h1;refine cr ?_;refine aV (Kg _ _ _) ?_;refine bX ?_;refine b6 (λW=>?_) (λW=>?_)
 . have U:o.over=false:=W
   refine bz ?_;refine aV (auL p r m b n L t o K h1) ?_;exact aeq
 . have U:o.over=true:=W
   exact aeq
def VP(v:Int):ad aa 263 [ptr r 0,bu v] [] (λu H=>∃p,u=ptr p 0/\H=[iZ p r ⟨0,0,v,0,0⟩]):=by
 refine ax Tryz.func263 λF D=>?_;exact WN
def KS(f k:Nat)(a8:∀p,ad aa f [ptr p 0] [] (aF (B4 k p) []))(fD:eU aa f:=by exact e7):ad aa 284 [ptr r 0,.func (.func f) #[] #[]] []
 (λu H=>∃p,u=ptr p 0/\H=[iZ p r ⟨k,0,0,0,0⟩]):=by
 refine ax Tryz.func284 λF D=>?_;refine cr ?_;refine wn λV=>?_;refine bH ?_;refine aV (a8 _) ?_;refine fx ?_;exact uR
def auM:ad aa 285 [ptr p 0] [] (aF (B4 5 p) []):=by
 refine ax Tryz.func285 λF D=>?_;exact J2
def MI:ad aa 231 [ptr r 0] [] (λu H=>∃p,u=ptr p 0/\H=[iZ p r ⟨5,0,0,0,0⟩]):=by
 refine ax Tryz.func231 λF D=>?_;refine bH ?_;refine bt (KS r 285 5 auM) ?_;exact Ki
def auN:ad aa 449 [ptr p 0] [] (aF (B4 10 p) []):=by
 refine ax Tryz.func449 λF D=>?_;exact J2
def atZ:ad aa 435 [ptr r 0] [] (λu H=>∃p,u=ptr p 0/\H=[iZ p r ⟨10,0,0,0,0⟩]):=by
 refine ax Tryz.func435 λF D=>?_;refine bH ?_;refine bt (KS r 449 10 auN) ?_;exact Ki
def auO:ad aa 433 [ptr p 0] [] (aF (B4 14 p) []):=by
 refine ax Tryz.func433 λF D=>?_;exact J2
def atX:ad aa 399 [ptr r 0] [] (λu H=>∃p,u=ptr p 0/\H=[iZ p r ⟨14,0,0,0,0⟩]):=by
 refine ax Tryz.func399 λF D=>?_;refine bH ?_;refine bt (KS r 433 14 auO) ?_;exact Ki
def auP:ad aa 424 [ptr p 0] [] (aF (B4 12 p) []):=by
 refine ax Tryz.func424 λF D=>?_;exact J2
def agZ:ad aa 382 [ptr r 0] [] (λu H=>∃p,u=ptr p 0/\H=[iZ p r ⟨12,0,0,0,0⟩]):=by
 refine ax Tryz.func382 λF D=>?_;refine bH ?_;refine bt (KS r 424 12 auP) ?_;exact Ki
def G5(s:Int):ad aa 106 [af s] [] (aF (af (lP s)) []):=by
 refine ax Tryz.func106 λF D=>?_;refine cO ?_;refine hU rfl rfl (λW=>?_) (λW=>?_) rfl
 . have f:=bR W
   refine bh ?_;refine b6 (λI=>?_) (λI=>?_)
   . refine bH ?_
     exact QK
   . refine dx ?_
     exact QK
 . have f:=bR W
   simp only[iD];refine fx ?_;exact QK
end
def ah0(n:Nat)(h1:1<=n)(h2:n<=64):ad aa 106 [af n] [] (aF (af ((2+2*n:Nat):Int)) []):=by
 have h:=G5 (n:Int);rw[R6 h1 h2]at h;exact h
def jx:Nat->Int->Int
 |0,t=>t
 |k+1,t=>ga (jx k t)
def MT(m b n:Nat)(L:List Int)(t:Int)(K:wz b n L):ad aa 112 AE wC
 (λu H=>∃r,u=.tuple #[ptr r 0,af 0]/\H=[cg m (iw L b (2+2*n)) (jx (2+2*n) t),gf r m b n]):=by
 refine ax Tryz.func112 λF D=>?_;have em:=K.len;have a:=K.ec;have e:=K.jV;have d:=K.dE;refine cr ?_;refine aV (ah0 n a e) ?_;refine agA ?_;refine aV (Mg _ _ _) ?_;refine UE ?_;refine cU ?_;refine XG ?_;intro k hk;refine b6 (λW=>?_) (λW=>?_)
 . refine adi ?_
   refine gP ?_;refine ch ?_;refine fm (k+1) ae ae de (au)
 . exact XH
instance:k6 aa 314 "Step" 486:=p0
instance:k6 aa 314 "Over" 485:=p0
instance:k6 aa 326 "Step" 487:=p0
instance:k6 aa 326 "Over" 453:=p0
structure oH where
 T:Nat
 l:List Value
abbrev cP(p:Nat)(a E:Value)(out val:Int)(bp:oH):aq:=ab p bp.T (a::E::af out::bu val::bp.l)
section
variable(p q z aB aU bB m i:Nat)(f:Value)(bp:oH)(L:List Int)(v t:Int)(x y E:Value)(fP:Bool)(out val:Int)
abbrev pe(a:Bool)(v:Int)(fP:Bool):aq:=ab z 317 [f,.bool a,bu v,.bool fP]
abbrev ma:Value:=.iface 314 (ptr z 0)
abbrev yn:Value:=.iface 326 (ptr q 0)
abbrev bi(f:Nat)(z:List Value):Value:=.func (.func f) [].toArray z.toArray
def tp:aq:=df (bx:=Nat×Nat×Nat) (λ_=>True) (λe=>[pe z (bi 373 [ptr e.1 0,ptr e.2.1 0,ptr e.2.2 0]) false 0 false,ab e.1 95 [ptr m 0],ab e.2.1 3 [af i],ab e.2.2 314 [ptr z 0]])
def Sj(d:Int):aq:=df (bx:=Nat×Nat×Nat×Nat) (λ_=>True) (λe=>[pe z (bi 259 [ptr e.1 0,ptr e.2.1 0,ptr e.2.2.1 0,ptr e.2.2.2 0]) false 0 false,ab e.1 95 [ptr m 0],ab e.2.1 3 [af i],ab e.2.2.1 36 [bu d],ab e.2.2.2 314 [ptr z 0]])
def vA(o v:Int):aq:=df (bx:=Nat×Nat×Nat×Nat) (λ_=>True) (λe=>[pe z (bi 261 [ptr e.1 0,ptr e.2.1 0,ptr e.2.2.1 0,ptr e.2.2.2 0]) false 0 false,ab e.1 95 [ptr m 0],ab e.2.1 3 [af i],ab e.2.2.1 36 [bu o],ab e.2.2.2 36 [bu v]])
def uF:aq:=df (bx:=Nat×Nat×Nat) (λ_=>True) (λe=>[pe z (bi 282 [ptr e.1 0,ptr e.2.1 0,ptr e.2.2 0]) false 0 false,ab e.1 95 [ptr m 0],ab e.2.1 3 [af i],ab e.2.2 36 [bu v]])
def qt:aq:=df (bx:=Value) (λ_=>True) (λf=>[pe z f true v fP])
def Ka:ad aa 317 [ptr m 0,af i] [] (λu H=>∃z,u=ptr z 0/\H=[tp z m i]):=by
 refine ax Tryz.func317 λF D=>?_;refine n0 ?_;intro U Z;refine bh ?_;refine wn λbW=>?_;refine wn λaO=>?_;refine gi ?_;exact aW ⟨_,rfl,rfl⟩ (cA (U,Z,aO) trivial (au))
def xx(x v:Int):ad aa 215 [ptr m 0,af i,bu x,bu v] [] (λu H=>∃z,u=ptr z 0/\H=[vA z m i x v]):=by
 refine ax Tryz.func215 λF D=>?_;refine xw ?_;intro aN aO aR bW;refine ch ?_;refine wn λb=>?_;refine bz ?_;exact aW ⟨_,rfl,rfl⟩ (cA (aN,aO,aR,bW) trivial (au))
def GO:ad aa 228 [ptr m 0,af i,bu v] [] (λu H=>∃z,u=ptr z 0/\H=[uF z m i v]):=by
 refine ax Tryz.func228 λF D=>?_;refine sM ?_;intro Z aN aO;refine ch ?_;refine wn λcx=>?_;refine bz ?_;exact aW ⟨_,rfl,rfl⟩ (cA (Z,aN,aO) trivial (au))
def avh(al:i<L.length)(f:Value)(a fP:Bool)(v0:Int):ad aa 373 Jy [ab aB 95 [ptr m 0],ab aU 3 [af i],ab bB 314 [ptr z 0],pe z f a v0 fP,cg m L t]
 (aF iu [pe z f a (L.getD i 0) fP,cg m L (ga t)]):=by
 refine ax Tryz.func373 λF D=>?_;refine bh ?_;refine ct [3,9] (101::2::uQ) [ab bB 314 [ptr z 0]] ?_;refine bX ?_;refine aV (nt m L t i al) ?_;exact rA
def avi(c9 m i:Nat)(L:List Int)(t:Int)(al:i<L.length)(x v:Int):ad aa 261 Jn [ab aB 95 [ptr m 0],ab aU 3 [af i],ab bB 36 [bu x],ab c9 36 [bu v],cg m L t]
 (aF (.bool (decide (L.getD i 0=x))) [cg m Ml (ga t)]):=by
 refine ax Tryz.func261 λF D=>?_;refine cO ?_;refine aV (tj m L t i al x v) ?_;refine eP ?_;exact aW ⟨rfl,rfl⟩
def avj(al:i<L.length)(v:Int):ad aa 282 Jy [ab aB 95 [ptr m 0],ab aU 3 [af i],ab bB 36 [bu v],cg m L t]
 (aF iu [cg m (L.set i v) (ga t)]):=by
 refine ax Tryz.func282 λF D=>?_;refine cU ?_;refine aV (mM m L t i al v) ?_;refine aA rfl NA ?_;refine bz ?_;exact aW ⟨rfl,rfl⟩
def G3(al:i<L.length):ad aa 486 [ptr z 0] [tp z m i,cg m L t] (aF iu [qt z (L.getD i 0) true,cg m L (ga t)]):=by
 refine ax Tryz.func486 λF D=>?_;refine kB ek ?_;rintro⟨aB,aU,bB⟩ -;refine Kk ?_;refine aV (avh z aB aU bB m i L t al _ false false 0) ?_;refine eP ?_;refine bF ?_;exact aW ⟨rfl,rfl⟩ (cA (bi 373 Jy) trivial (au))
def R3(al:i<L.length)(x v:Int):ad aa 486 [ptr z 0] [vA z m i x v,cg m L t] (aF iu [qt z 0 (decide (L.getD i 0=x)),cg m Ml (ga t)]):=by
 refine ax Tryz.func486 λF D=>?_;refine kB ek ?_;rintro⟨aB,aU,bB,c9⟩ -;refine Kk ?_;refine aV (avi aB aU bB c9 m i L t al x v) ?_;refine eP ?_;refine bF ?_;exact aW ⟨rfl,rfl⟩ (cA (bi 261 Jn) trivial (au))
def G4(al:i<L.length)(v:Int):ad aa 486 [ptr z 0] [uF z m i v,cg m L t] (aF iu [qt z 0 true,cg m (L.set i v) (ga t)]):=by
 refine ax Tryz.func486 λF D=>?_;refine kB ek ?_;rintro⟨aB,aU,bB⟩ -;refine Kk ?_;refine aV (avj aB aU bB m i L t al v) ?_;refine eP ?_;refine bF ?_;exact aW ⟨rfl,rfl⟩ (cA (bi 282 Jy) trivial (au))
def avk:ad aa 485 [ptr z 0] [pe z f false v fP] (aF gQ [pe z f false v fP]):=by
 refine ax Tryz.func485 λF D=>?_;exact rA
def asp(d:E.oneCell'=true)(out val v:Int)(f:Value)(fP:Bool):ad aa 125 [ptr p 0,ma z,E] [cP p x y out val bp,pe z f false v fP] (aF et [cP p (ma z) E out val bp,pe z f false v fP]):=by
 refine ax Tryz.func125 λF D=>?_;refine bF ?_;refine cj rfl (wU rfl rfl (avk z f v fP) bI) ?_;exact agj
def AB(r:Nat)(bp:oH)(x y E:Value)(d:E.oneCell'=true)(out val:Int)(o:fr)(aJ:o.over=false):ad aa 125 [ptr p 0,yn q,E] [cP p x y out val bp,iZ q r o] (aF et [cP p (yn q) E out val bp,iZ q r o]):=by
 refine ax Tryz.func125 λF D=>?_;refine bF ?_;refine cj rfl (wU rfl rfl (Kg q r o) bI) ?_;refine Ao ?_;refine tr W0 ?_;exact afc
def me(s u:Int):ad aa 127 [ptr p 0,af s,bu u] vo (aF et [cP p x y s u bp]):=by
 refine ax Tryz.func127 λF D=>?_;refine fx ?_;exact aW ⟨rfl,rfl⟩
def tv:ad aa 254 [ptr p 0] vo (aF (.bool (!decide (out=0))) vo):=by
 refine ax Tryz.func254 λF D=>?_;exact yG
def GZ:ad aa 81 [ptr p 0] vo (aF (af out) vo):=by
 refine ax Tryz.func81 λF D=>?_;exact rA
def G0:ad aa 85 [ptr p 0] vo (aF (bu val) vo):=by
 refine ax Tryz.func85 λF D=>?_;exact rA
def MQ(aJ:out≠0):ad aa 474 [ptr p 0] vo (aF iu vo):=by
 refine ax Tryz.func474 λF D=>?_;refine cr ?_;refine aV (tv p bp x y out val) ?_;refine aA rfl (fM (c:=false) yI (qF rfl)) ?_;refine eP ?_;refine aV (tv p bp x y out val) ?_;refine bz ?_;exact aW ⟨by simp[aJ],rfl⟩
end
section
variable{P:Program}{f:FuncId}{args:List Value}
def ki{I a M J b:List aq}{R:Value}(h:ad P f args I (aF R J))(p:Part I a M)(k:∀D h,Sat (J++(M++D)) h->Sat (b++D) h):ad P f args a (aF R b):=
 λF D w s=>(h F (M++D) w (s.imp λh s=>by
  obtain⟨h1,h2,d,rfl,s1,Z⟩:=Sat.split s;have:=Sat.append d (p.to s1) Z;rwa[jI]at this)).mono λ_ _ ⟨v,_,e,⟨aU,rfl⟩,s⟩=>⟨v,b,e,wY,s.imp (k D)⟩
def kC{bx:Type}{fR:bx->Prop}{l:bx->List aq}{I:List aq}{post:Value->List aq->Prop}(h:∀x,fR x->ad P f args (l x++I) post):ad P f args (df fR l::I) post:=
 λF D w s=>by
  obtain⟨x,hp,ag⟩:=hb s.eI;exact h x hp F D w ⟨s.os,s.tape,s.output,s.size,by rw[jI];exact ag⟩
end
section
variable(p z:Nat)(bp:oH)(T m ih i:Nat)(J:Value)(L:List Int)(a t:Int)(x y E:Value)
def avl[k6 aa T "Step" ih](X Y:aq)(i:ad aa ih [J] [X] (aF gQ [Y]))(fD:eU aa ih:=by exact e7):ad aa 474 [ptr p 0] [cP p qM E 0 0 bp,X] (aF gQ [cP p qM E 0 0 bp,Y]):=by
 refine af4 ?_;intro F D;refine lD ?_;refine bz ?_;refine aV (tv p bp _ _ 0 0) ?_;refine bz ?_;exact aW ⟨rfl,rfl⟩
def avm(M:Nat)(J:Value)(z:List Value)[k6 aa T "Step" ih](X Y K:aq)(a:Bool)(i:ad aa ih [J] [X] (aF iu [Y]))(ao:ad aa M z [cP p qM xl 0 0 bp,Y] (aF et [K]))(c:ad aa 254 [ptr p 0] [K] (aF (.bool a) [K]))(fD:eU aa ih:=by exact e7)(i1:eU aa M:=by exact e7):ad aa 474 [ptr p 0] [cP p qM xl 0 0 bp,X] (aF (.bool a) [K]):=by
 refine af4 ?_;intro F D;refine nQ ?_;refine bz ?_;refine aV (ao) ?_;refine bz ?_;refine aV (c) ?_;refine bz ?_;exact aW ⟨rfl,rfl⟩
def Q5(d:E.oneCell'=true)(out val:Int):ad aa 125 [ptr p 0,ma z,E] [cP p x y out val bp,tp z m i] (aF et [cP p (ma z) E out val bp,tp z m i]):=by
 refine ki (I:=[tp z m i,cP p x y out val bp]) (M:=[]) (J:=[cP p (ma z) E out val bp,tp z m i]) (kC (λe _=>?_)) Ql (λD h s=>s);exact Rl
def J9(b:Int)(x y E:Value)(d:E.oneCell'=true)(out val:Int):ad aa 125 [ptr p 0,ma z,E] [cP p x y out val bp,vA z m i a b] (aF et [cP p (ma z) E out val bp,vA z m i a b]):=by
 refine ki (I:=[vA z m i a b,cP p x y out val bp]) (M:=[]) (J:=[cP p (ma z) E out val bp,vA z m i a b]) (kC (λe _=>?_)) Ql (λD h s=>s);exact Rl
def GR(d:E.oneCell'=true)(out val:Int):ad aa 125 [ptr p 0,ma z,E] [cP p x y out val bp,uF z m i a] (aF et [cP p (ma z) E out val bp,uF z m i a]):=by
 refine ki (I:=[uF z m i a,cP p x y out val bp]) (M:=[]) (J:=[cP p (ma z) E out val bp,uF z m i a]) (kC (λe _=>?_)) Ql (λD h s=>s);exact Rl
def avn(d:Int):ad aa 212 [ptr m 0,af i,bu d] [] (λu H=>∃z,u=ptr z 0/\H=[Sj z m i d]):=by
 refine ax Tryz.func212 λF D=>?_;refine sM ?_;intro Z aN aO;refine bh ?_;refine wn λcx=>?_;refine wn λbW=>?_;refine gi ?_;exact aW ⟨_,rfl,rfl⟩ (cA (Z,aN,aO,bW) trivial (au))
def avo(aB aU bB c9 m i:Nat)(L:List Int)(t:Int)(al:i<L.length)(f:Value)(a fP:Bool)(v0 d:Int):ad aa 259 Jn [ab aB 95 [ptr m 0],ab aU 3 [af i],ab bB 36 [bu d],ab c9 314 [ptr z 0],pe z f a v0 fP,cg m L t]
 (aF iu [pe z f a (e0 (L.getD i 0+d)) fP,cg m (L.set i (e0 (L.getD i 0+d))) (ga t)]):=by
 refine ax Tryz.func259 λF D=>?_;refine bh ?_;refine ct [4,10] (101::3::uQ) [ab c9 314 [ptr z 0]] ?_;refine bF ?_;refine aV (amb m L t i al d) ?_;exact rA
def avp(al:i<L.length)(d:Int):ad aa 486 [ptr z 0] [Sj z m i d,cg m L t] (aF iu [qt z (e0 (L.getD i 0+d)) true,cg m (L.set i (e0 (L.getD i 0+d))) (ga t)]):=by
 refine ax Tryz.func486 λF D=>?_;refine kB ek ?_;rintro⟨aB,aU,bB,c9⟩ -;refine Kk ?_;refine aV (avo z aB aU bB c9 m i L t al _ false false 0 d) ?_;refine eP ?_;refine bF ?_;exact aW ⟨rfl,rfl⟩ (cA (bi 259 Jn) trivial (au))
def uS(a b:Nat)(bp:oH)(J x y E:Value)(d:E.oneCell'=true)(out val:Int)(X:aq)[k6 aa a "Over" b](c:ad aa b [J] [X] (aF gQ [X]))(fD:eU aa b:=by exact e7):ad aa 125 [ptr p 0,.iface a J,E] [cP p x y out val bp,X] (aF et [cP p (.iface a J) E out val bp,X]):=by
 refine ax Tryz.func125 λF D=>?_;refine bF ?_;refine cj rfl (wU rfl rfl (c) bI) ?_;exact agj
end
section
variable{P:Program}{f:FuncId}{args:List Value}
section
variable{I J:List aq}{A C:aq}{R:Value}
def eW{bx:Type}{fR:bx->Prop}{l:bx->List aq}{I D:List aq}{post:Value->List aq->Prop}(s:hG (df fR l) I D)(h:∀x,fR x->ad P f args (l x++D) post):ad P f args I post:=
 λF R' w st=>kC h F R' w (st.imp λh dY=>by
  obtain⟨h1,h2,d,rfl,s1,Z⟩:=Sat.split dY;exact Sat.append (l:=df fR l::D) d (s.to s1) Z)
def sR(l:List aq):aq:=df (bx:=Unit) (λ_=>True) (λ_=>l)
def Sk(h:ad P f args I (aF R J)):ad P f args [sR I] (aF R [sR J]):=
 kC λx _=>by
  rw[jj];refine λF D w s=>(h F D w s).mono λ_ _ ⟨v,H,e,⟨aU,bB⟩,s⟩=>⟨v,_,e,wY,s.imp λh s=>?_⟩;subst bB;exact cA () trivial (λ_ s=>s) _ s
def avq(h:ad P f args [A,sR I] (aF R [C,sR J])):ad P f args (A::I) (aF R (C::J)):=
 λF D w s=>(h F D w abQ).mono λ_ _ ⟨v,H,e,⟨aU,bB⟩,s⟩=>⟨v,_,e,wY,s.imp λh s=>by
  subst bB;exact Sat.tail (λh s=>by obtain⟨_,_,s⟩:=hb s;exact s) s⟩
def avr(h:ad P f args (A::I) (aF R (C::J))):ad P f args [A,sR I] (aF R [sR (C::J)]):=
 eW (.tail .head) λx _=>λF D w s=>(h F D w (s.imp λh s=>by
  have:Sat (I++A::D) h:=Iy;revert h;intro h _ Z;obtain⟨h1,h2,d,rfl,s1,b9⟩:=Sat.split Z;obtain⟨aH,bm,t,rfl,m2,Q⟩:=b9;refine⟨aH,join h1 bm,?_,?_,m2,?_⟩
  . obtain⟨o,a⟩:=rj.1 d;exact rj.2 ⟨o.symm,t⟩
  . obtain⟨o,a⟩:=rj.1 d;rw[<-join_assoc,join_comm o,join_assoc]
  . obtain⟨o,a⟩:=rj.1 d;exact Sat.append a s1 Q)).mono λ_ _ ⟨v,H,e,⟨aU,bB⟩,s⟩=>⟨v,_,e,wY,s.imp λh s=>by
  subst bB;exact cA () trivial kH h s⟩
end
end
section
variable{p:Nat}{P:Program}{bp:oH}{f:FuncId}{T ih M:Nat}{args:List Value}{J:Value}{I:List aq}{z:List Value}
theorem ail(bp:oH)(T ih M:Nat)(J:Value)(z:List Value)[k6 aa T "Step" ih](l b f:List aq)(A:aq)(a:Bool)
 (c:ad aa 254 [ptr p 0] [A] (aF (.bool a) [A]))
 (i:ad aa ih [J] l (aF iu b))(ao:ad aa M z (cP p qM xl 0 0 bp::b) (aF et (A::f)))(fD:eU aa ih:=by exact e7)(i1:eU aa M:=by exact e7):
 ad aa 474 [ptr p 0] (cP p qM xl 0 0 bp::l) (aF (.bool a) (A::f)):=by
 have h:=avm p bp T ih M J z (sR l) (sR b) (sR (A::f)) a (Sk i) (avr ao) (Sk (ki c nx (λD h s=>s)));exact λF D w s=>(h F D w abQ).mono λ_ _ ⟨v,H,e,⟨aU,bB⟩,s⟩=>⟨v,_,e,wY,s.imp λh s=>by
  subst bB;obtain⟨_,_,s⟩:=hb s;exact s⟩
theorem avs(bp:oH)(T ih:Nat)(J E:Value)[k6 aa T "Step" ih](l b:List aq)
 (i:ad aa ih [J] l (aF gQ b))(fD:eU aa ih:=by exact e7):
 ad aa 474 [ptr p 0] (cP p qM E 0 0 bp::l) (aF gQ (cP p qM E 0 0 bp::b)):=
 avq (avl p bp T ih J E (sR l) (sR b) (Sk i))
def Sl{A:aq}{I D:List aq}{post:Value->List aq->Prop}(s:hG A I D)(h:ad P f args (A::D) post):ad P f args I post:=
 λF R' w st=>h F R' w (st.imp λh dY=>by
  obtain⟨h1,h2,d,rfl,s1,Z⟩:=Sat.split dY;exact Sat.append (l:=A::D) d (s.to s1) Z)
def Sm{J b:List aq}{R:Value}(h:ad P f args I (aF R J))(k:∀D h,Sat (J++D) h->Sat (b++D) h):ad P f args I (aF R b):=
 λF D w s=>(h F D w s).mono λ_ _ ⟨v,_,e,⟨aU,rfl⟩,s⟩=>⟨v,b,e,wY,s.imp (k D)⟩
def pC[k6 aa T "Step" ih]{N l d bN j e k g b:List aq}{A:aq}{a:Bool}(c:ad aa 254 [ptr p 0] [A] (aF (.bool a) [A]))(i:ad aa ih [J] d (aF iu bN))(ao:ad aa M z j (aF et (A::g)))(X:hG (cP p qM xl 0 0 bp) N l:=by exact ek)(gH:Part d l e:=by exact bI)(U:Part j (cP p qM xl 0 0 bp::(bN++e)) k:=by simp only[cn,ci];exact bI)(q:∀D h,Sat (A::(g++(k++D))) h->Sat (b++D) h:=by intro D;simp only[cn,ci];exact λh s=>Sat.swap G1)(fD:eU aa ih:=by exact e7)(i1:eU aa M:=by exact e7):ad aa 474 [ptr p 0] N (aF (.bool a) b):=
 Sl X (Sm (ail bp T ih M J z l (bN++e) (g++k) A a c P8 (ki ao U (λD h s=>by simpa using s))) (λD h s=>q D h Iy))
def qu{E:Value}[k6 aa T "Step" ih]{N l d bN e b:List aq}(i:ad aa ih [J] d (aF gQ bN))(q:∀D h,Sat (cP p (.iface T J) E 0 0 bp::(bN++(e++D))) h->Sat (b++D) h)(X:hG (cP p qM E 0 0 bp) N l:=by exact ek)(gH:Part d l e:=by exact bI)(fD:eU aa ih:=by exact e7):ad aa 474 [ptr p 0] N (aF gQ b):=
 Sl X (Sm (avs bp T ih J E l (bN++e) P8) (λD h s=>q D h Iy))
def pX[k6 aa T "Step" ih]{N l d bN j e k m b:List aq}{A:aq}{a:Bool}(f:List aq)(c:ad aa 254 [ptr p 0] [A] (aF (.bool a) [A]))(i:ad aa ih [J] d (aF iu bN))(ao:ad aa M z j (aF et m))(X:hG (cP p qM xl 0 0 bp) N l:=by exact ek)(gH:Part d l e:=by exact bI)(U:Part j (cP p qM xl 0 0 bp::(bN++e)) k:=by simp only[cn,ci];exact bI)(g:∀D h,Sat (m++(k++D)) h->Sat (A::(f++D)) h)(q:∀D h,Sat (A::(f++D)) h->Sat (b++D) h)(fD:eU aa ih:=by exact e7)(i1:eU aa M:=by exact e7):ad aa 474 [ptr p 0] N (aF (.bool a) b):=
 Sl X (Sm (ail bp T ih M J z l (bN++e) f A a c P8 (ki ao U (λD h s=>by simpa using g D h s))) (λD h s=>q D h Iy))
end
end Go.Proofs.YtnnhpnccfnghdaaGreat.L
namespace Go.Proofs.YtnnhpnccfnghdaaGreat.L
open Go.L Go.RowKit Go.Shelf
attribute[local irreducible] G cz GE cT GT bU c6 cY dc Exit.then Exit.inBlock
attribute[local go_sem] Oper.semAt_some
section
variable{F:World}{ce:Nat}{ak:eA}{g:Operand}{gH U:Nat}{assign body:Code}{Q:Exit->Act->World->Prop}
theorem al4(n:Nat)(aS:1<=n)(l bp b c:Nat)(ck:Option Addr)(xs:List Int)(f:0<xs.length->ck=some ⟨b,0,none⟩)(m:Nat->World->Prop)(hlen:xs.length<=1099511627776)
 (N:∀k W,m k W->W.cell? ⟨bp,0,none⟩=some (.slice ck xs.length c)/\∀i x,xs[i]?=some x->W.cell? ⟨b,i,none⟩=some (bu x))
 (a:∀k i x W,m k W->i+1+k=xs.length->xs[i]?=some x->YieldAt Fence.wide (n -1) aa l #[.int .i64 i,bu x] W λe o=>e=.returned (.bool true)/\m (k+1) o)
 (W:World)(bn:m 0 W):
 CallsIn Fence.wide n aa 436 #[.func (.yield l) #[] #[],.pointer (some ⟨bp,0,none⟩)] W λe o=>(∃v,e=.returned v)/\m xs.length o:=by
 refine callsIn_of_wp Tryz.func436 rfl trivial ?_ rfl;simp only[Tryz.ntmps436,yg,iY,lk,Nat.reduceAdd,Nat.reduceSub,Array.replicate_succ,Array.replicate_zero,List.push_toArray,List.append_toArray,ci,cn];have g:=(N 0 W bn).1
 gi_wp2
 gi_loopw [3] (λp wr=>∃k:Nat,k<=xs.length/\p=.int .i64 ((xs.length:Int) -1 -k)/\m k wr) (λp wr=>match p with
  |.int _ E=>(E+1).toNat
  |_=>0)
 case atStart=>
  exact⟨0,fc _,by simp,bn⟩
 case round=>
  obtain⟨k,hk,rfl,d⟩:=hrel;by_cases Y:k=xs.length
  . subst Y
    have aB:((xs.length:Int) -1 -xs.length)=-1:=ae;rw[aB]
    gi_wp2
    go_end0
    exact⟨⟨_,rfl⟩,d⟩
  . obtain rfl:=f ae
    obtain⟨i,al⟩:∃i:Nat,i+1+k=xs.length:=⟨xs.length -1 -k,by omega⟩;have aB:((xs.length:Int) -1 -k)=(i:Int):=ae;rw[aB];obtain⟨x,ag⟩:∃x,xs[i]?=some x:=⟨_,cq (show i<xs.length by omega)⟩;obtain⟨q,j⟩:=N k wr d;have s:=j i x ag;obtain⟨fn,tmps,assign,body,ah,K⟩:=a k i x wr d al ag;have t:(i:Int)<xs.length:=ae
    gi_wp2
    refine K.mono ?_;rintro e u ⟨rfl,r⟩
    gi_wp2
    go_roundw
    case rel=>exact⟨k+1,by omega,by congr 1;omega,r⟩
    case measure=>simp
theorem al5{a:Act}{w:World}{bp b c:Nat}{ck:Option Addr}{xs:List Int}(Inv:Nat->List aq)(hlen:xs.length<=1099511627776)(f:0<xs.length->ck=some ⟨b,0,none⟩)
 (aj:hd ce ak a)(aX:cb ak g=some (bi 436 [ptr bp 0]))
 (N:∀k W d j,db F (d::j::Inv k) W->W.cell? ⟨bp,0,none⟩=some (.slice ck xs.length c)/\∀i x,xs[i]?=some x->W.cell? ⟨b,i,none⟩=some (bu x))
 (s:db F (Inv 0) w)
 (H : ∀ (l z k i : Nat) (x : Int) (rec : Loop) (W : World) (m : Nat), db F (ev l (.loop rec) :: ev z (.deferred (some [])) :: Inv k) W → i + 1 + k = xs.length → xs[i]? = some x →
  assign.wpIn (Fence.wide.inRound l) m aa (Exit.then (λp q=>db F (ev l (.loop rec)::ev z (.deferred (some []))::Inv k) q/\∀D o,db F (ev l (.loop D)::ev z (.deferred (some []))::Inv k) o->body.wpIn (Fence.wide.inRound l) m aa (λe _ B=>e=.normal/\db F (ev l (.loop D)::ev z (.deferred (some []))::Inv (k+1)) B) p o) (λ_ _ _=>False)) {tmps:=(a.tmps.setIfInBounds gH (.int .i64 i)).setIfInBounds U (bu x),defers:=[]} W)
 (J:∀z W,db F (ev z (.deferred (some []))::Inv xs.length) W->Q .normal {a with defers:=[{target:=.collected z,args:=#[]}]} W):
 (Code.rangeFunc g #[gH,U] assign body).wp aa Q a w:=by
 refine(wpIn_wide (n:=3)).1 (wpIn_rangeFunc ?_);intro fn K;have E:=aj.eval aX;obtain⟨rec,u⟩:∃rec:LoopState->Option Code->Loop,rec=λst G=>{state:=st,pending:=G,fn,tmps:=a.tmps,params:=#[gH,U],assign,body,defers:=w.heap.size}:=⟨_,rfl⟩;have s1:db F (ev (w.heap.size+1) Aj::ev w.heap.size yh::Inv 0) ((w.alloc yh).alloc Aj):=by
  have:=(s.new yh).new Aj;dsimp only at this;rw[Array.size_push]at this;exact this
 obtain⟨y,I⟩:∃y,(w.alloc (.deferred (some []))).alloc Aj=y:=⟨_,rfl⟩;rw[I]at s1;refine⟨w.heap.size+1,[{target:=.collected w.heap.size,args:=#[]}],y,{target:=.fn (.func 436) #[ptr bp 0],args:=#[.func (.yield (w.heap.size+1)) #[] #[]]},y,436,
  #[.func (.yield (w.heap.size+1)) #[] #[]]++#[ptr bp 0],y,?_,?_,?_,?_,λ_=>by decide,?_⟩
 . rw[<-I,u];exact run_enterLoop_outer _ _ _ _ _
 . simp only[resolve,E]
   simp[go_sem]
 . intro t L;trivial
 . simp[invoke,go_sem,enters_of Tryz.func436 gS rfl]
 . refine(al4 2 bN (w.heap.size+1) bp b c ck xs f (λk W=>db F (ev (w.heap.size+1) Aj::ev w.heap.size yh::Inv k) W) hlen (λk W h=>N k W _ _ h) ?_ y s1).mono ?_
   . intro k i x W h C ag
     have aw:=h.heap (b:=w.heap.size+1);have ah:=run_yield (P:=aa) (args:=#[.int .i64 i,bu x]) aw (by rw[u];rfl);rw[u]at ah;simp at ah;refine⟨fn,_,assign,body,ah,roundIn_of_wpIn trivial (wpIn_mono (H _ _ k i x _ W (2 -1) h C ag) ?_)⟩;intro e p q Y;cases e with
     |
      normal=>
      simp only[Exit.then]at Y⊢;obtain⟨h,az⟩:=Y;have aw:=h.heap (b:=w.heap.size+1);refine⟨_,run_beginRound aw (by rw[u]),?_⟩;have h2:=db.set h (b:=w.heap.size+1) (.loop {rec .ready none with state:=.busy});refine wpIn_mono (az _ _ h2) ?_;rintro aU cl a7 ⟨rfl,aH⟩;have r:=aH.heap (b:=w.heap.size+1);refine⟨_,_,run_endRound none r,rfl,?_⟩;have bm:=db.set aH (b:=w.heap.size+1) Aj;rw[u]at bm⊢;exact bm
     |_=>simp only[Exit.then]at Y
   . rintro e M ⟨⟨v,rfl⟩,h⟩
     have aw:=h.heap (b:=w.heap.size+1);refine⟨none,_,by have:=run_endLoop (P:=aa) aw (by rw[u];simp);rw[u]at this;exact this,?_⟩;have h2:=db.set h (b:=w.heap.size+1) (.loop {rec .ready none with state:=.exhausted});have aH:=J w.heap.size _ (h2.imp λ_ s=>Sat.drop s);rw[aj.defers];rw[u]at aH;exact aH
theorem al6{I:List aq}{g:Operand}{gH U:Nat}{assign body:Code}{Q:Exit->Act->World->Prop}{bp b c:Nat}{ck:Option Addr}{xs:List Int}(Inv:Nat->List aq)(n:Nat->Int->eA)(B:∀h,Sat I h->Sat (Inv 0) h)(hlen:xs.length<=1099511627776)(f:0<xs.length->ck=some ⟨b,0,none⟩)
 (t:Nat.blt gH ce=true)(u:Nat.blt U ce=true)(aX:cb ak g=some (bi 436 [ptr bp 0]))
 (N:∀k W d j,db F (d::j::Inv k) W->W.cell? ⟨bp,0,none⟩=some (.slice ck xs.length c)/\∀i x,xs[i]?=some x->W.cell? ⟨b,i,none⟩=some (bu x))
 (p:∀(r m i:Nat) (x:Int) (I:List aq),wg r m aa F ce assign ((U,bu x)::(gH,.int .i64 i)::ak) I (λe a w=>e=.normal/\hd ce (n i x) a/\db F I w))
 (H:∀(l z m k i:Nat) (x:Int) (rec:Loop),i+1+k=xs.length->xs[i]?=some x->wg l m aa F ce body (n i x) (ev l (.loop rec)::ev z (.deferred (some []))::Inv k) (yi F (ev l (.loop rec)::ev z (.deferred (some []))::Inv (k+1))))
 (J:∀z,DD.GE [{target:=.collected z,args:=#[]}] F ce ak (ev z (.deferred (some []))::Inv xs.length) (Q .normal)):G aa F ce (.rangeFunc g #[gH,U] assign body) ak I Q:=by
 delta G;intro a w aj s
 refine al5 Inv hlen f aj aX N (s.imp B) ?_ ?_
 . intro l z k i x rec W m b7 C ag
   have h1:hd ce ((U,bu x)::(gH,.int .i64 i)::ak) {tmps:=(a.tmps.setIfInBounds gH (.int .i64 i)).setIfInBounds U (bu x),defers:=[]}:=by
    have:=(aj.put (.int .i64 i) t).put (bu x) u;have aQ:=aj.defers;cases a;simp at aQ;subst aQ;exact this
   refine wpIn_mono (p l m i x _ _ _ h1 b7) ?_;rintro e ck aG ⟨rfl,h2,aH⟩;simp only[Exit.then];exact⟨aH,λD o aY=>H l z m k i x D C ag _ _ h2 aY⟩
 . intro z W aY
   refine J z _ W ⟨?_,rfl⟩ aY;have aQ:=aj.defers;cases a;simp at aQ;subst aQ;exact aj
end
end Go.Proofs.YtnnhpnccfnghdaaGreat.L
namespace Go.Proofs.YtnnhpnccfnghdaaGreat.L
open Go.L Go.L.Lx Go.L.Pg
attribute[local irreducible] G cz GE cT GT bU c6 cY dc Exit.then Exit.inBlock
def aBW{l:List Int}{i k:Nat}{x:Int}(h:i+1+k=l.length)(ag:l[i]?=some x):l.reverse.take (k+1)=l.reverse.take k++[x]:=by
 have hk:k<l.reverse.length:=hW;rw[ns hk]
 congr 2
 rw[List.getElem_reverse];have e:l.length -1 -k=i:=ae;obtain⟨_,aU⟩:=dd.1 ag;simp only[e,aU]
def aBX(v:Value)(V:v.oneCell'=true):ad aa 405 [v] [] (λu H=>∃bp,u=bi 436 [ptr bp 0]/\H=[ab bp 49 [v]]):=by
 refine ax Tryz.func405 λF D=>?_;refine a7 ?_;refine iQ rfl (R0 rfl V) ?_;rintro _ _ ⟨av,rfl,rfl⟩;refine cO ?_;exact aW ⟨av,rfl,rfl⟩
def alb(q E:Nat)(v:Value)(M:List Int):aq:=df (bx:=Option Addr×Nat) (λ_=>True) (λe=>[ab q 164 [af E,v,ul e.1 e.2 M],fH e.1 e.2 M])
def aBY{q E:Nat}{v:Value}{a:Option Addr}{c:Nat}{l:List Int}{D:List aq}:∀h,Sat (ab q 164 [af E,v,ul a c l]::fH a c l::D) h->Sat (alb q E v l::D) h:=cA (D:=D) (a,c) trivial kH
def aw8(q E:Nat)(di M:List Int)(h1:di.length<=1099511627776)(h2:M.length<=1099511627776):ad aa 365 [ptr q 0] EE (aF (af di.length) [gj q E [] (M++di.reverse)]):=by
 refine auE Tryz.func365 rfl rfl rfl ?_;intro F D;refine BX ?_;intro ck c1 cl bk;refine yt (p:=∃b,0<di.length->ck=some qA) (λh s=>?_) ?_
 . rcases HM di.length with bn|bn
   . exact⟨0,λh=>by omega⟩
   . obtain⟨b,e,_⟩:=A3 bn h (hG.to (A:=fH ck c1 di) ek s);exact⟨b,λ_=>e⟩
 rintro⟨b,f⟩;refine a7 ?_;refine wn λav=>?_;refine gi ?_;refine bt (aBX (ul ck c1 di) rfl) ?_;rintro _ _ ⟨bp,rfl,rfl⟩;refine er ?_;refine bX ?_;refine al6 (ck:=ck) (c:=c1) (b:=b) (xs:=di) (bp:=bp) (λk=>[alb q E (ul ck c1 di) JF,ab av 112 [ptr q 0],ab bp 49 [ul ck c1 di],fH ck c1 di]++D) (λi x=>[(5,bu x),(1,ptr av 0)]) (λh s=>by rw[O3,jj];exact cA (cl,bk) trivial (au) h s) h1 f rfl rfl rfl ?_ ?_ ?_ ?_
 . intro k W d j h
   simp only[cn,ci]at h;refine⟨by have:=h.heap (b:=bp);simp[World.cell?,this],λi x ag=>?_⟩;obtain rfl:=f (by have:=(dd.1 ag).1;omega);have d7:gT (fE W) (ul j3 c1 di) di.length (iT di):=iX.get h.eI;have:=OO (m:=i) (x:=bu x) d7 (by simp[iT,ag]);simpa[p8,p9]using this
 . intro r m i x I
   exact gi_reg (by rintro⟨_,_,h⟩;cases h.1) rfl (aA rfl (mj rfl) (ib (by delta GE;intro a w aj s;exact⟨rfl,aj.jM de,s⟩)))
 . intro l z m k i x rec C ag
   refine gi_open ek ?_;rintro⟨a3,b0⟩ -;refine gi_block ?_;refine gi_drw [6,7,10] [6,7] [(0,.bJ),(1,.bJ),(2,.bJ),(3,.bJ),(4,.bJ),(5,.loc),(6,.c0),(7,.c0),(8,.loc),(9,.loc),(10,.c0)] [ab av 112 [ptr q 0],ab q 164 [af E,ul ck c1 di,ul a3 b0 JF]] mixed gS rfl ?_;refine bh ?_;refine wn λn=>?_;refine aG ?_;refine go_n rfl .none rfl (D6 rfl rfl bI rfl rfl rfl hW (by unfold maxLen;simp;omega)) ?_;rintro _ _ ⟨a25,g,rfl,rfl⟩;refine bh ?_;rw[aBW C ag,<-jI];refine uM (H:=ev l (.loop rec)::ev z yh::ab q 164 [af E,ul ck c1 di,ul a25 g (JF++[x])]::fH a25 g (JF++[x])::ab av 112 [ptr q 0]::ab bp 49 [ul ck c1 di]::fH ck c1 di::D) (by
    rw[<-KU rfl,show ul a25 g ((M++di.reverse.take k)++[x])=.slice a25 ((M++di.reverse.take k).length+1) g from by simp[ul];omega];exact(au)) ?_
   exact auH (λh s=>Sat.tail (λh s=>Sat.tail aBY s) s)
 . intro z
   simp only[cn,ci,y2 (show di.reverse.length<=di.length by simp)];refine DD.yw ?_;refine DD.hB ?_;refine DD.hA ?_;refine DD.kB ek ?_;rintro⟨a3,b0⟩ -;refine gb ?_;refine DD.jb ?_
   first|refine DD.aA rfl sm ?_|refine DD.aA rfl wR ?_|refine DD.aA rfl wS ?_
   refine DD.aA rfl (lR rfl) ?_
   first|refine DD.aA rfl wQ ?_|refine DD.aA rfl (nE rfl) ?_
   first|refine DD.iF pY ?_|refine DD.iF pZ ?_
   refine DD.ib ?_;refine DD.hB ?_;refine DD.hA ?_;refine DD.jb ?_;refine DD.aA rfl pk ?_;refine DD.aA rfl (mj rfl) ?_;refine DD.ib ?_;refine DD.hB ?_;refine DD.oL ?_;refine DD.uM (H:=ev z yh::ab q 164 [af E,.slice none 0 0,ul a3 b0 (M++di.reverse)]::fH a3 b0 (M++di.reverse)::D) (au) ?_;exact auF (.inl rfl) (λa w aj=>by rw[results_tmp rfl,Hf aj rfl]) [gj q E [] (M++di.reverse)] dD (cA (none,0,a3,b0) trivial (λh s=>Sat.tail (λh s=>ii h s) s))
end Go.Proofs.YtnnhpnccfnghdaaGreat.L
namespace Go.L.dX
open Go.L Go.L.Ring Go.L.Whl Go.L.dr
structure k2 where
 b:Nat
 n:Nat
inductive wv
 |put(o:fr)
 |now
 |take(left:Nat)(o:fr)
 |tick(v:Int)
structure hy where
 ph:wv
 out:Int
 val:Int
 due:List Int
 cut:List Int
 ref:List Int
def hy.over(c:hy):Bool:=!decide (c.out=0)
section
variable(B:k2)(id v:Int){k:Nat}(L:List Int)(w:gd)(c:hy)
def lO:gd:=if v%4096=0 then r5 w (v/4096)else rp w (v/4096) (v%4096)
def rq:List Int:=if v%4096=0/\(w.get (v/4096)).isSome=true then[v/4096]else[]
def rr:List Int:=if v%4096≠0/\n3 w (v/4096) (v%4096)≠0 then[v/4096]else[]
def pV(left:Nat)(w:gd):wv:=if left=0 then .tick ((w.now+1:Nat):Int)else .take left (gU 5 0)
def n4:List Int×gd×hy:=
 match c.ph with
 |
  .put o=>
  let S:=dL (B.b+1) B.n L o
  (lp (B.b+1) B.n L o,w,{c with ph:=.put S,out:=S.out})
 |.now=>(L,w,{c with out:=1,val:=L.getD B.b 0})
 |
  .take left o=>
  let S:=dL (B.b+1) B.n L o
  let Z:=lp (B.b+1) B.n L o
  if S.over then
   if S.out=1 then(Z,lO S.value w,{c with ph:=pV (left -1) (lO S.value w),cut:=c.cut++rq S.value w,ref:=c.ref++rr S.value w})
   else(Z,w,{c with ph:=.tick ((w.now+1:Nat):Int)})
  else(Z,w,{c with ph:=.take left S})
 |.tick v=>(L.set B.b v,uH w,{c with out:=1,due:=(nw w).map (·.id)})
def j4:List Int×gd×hy:=if c.over then(L,w,c)else n4 B L w c
def pf(ph:wv):hy:=⟨ph,0,0,[],[],[]⟩
def r6(d:Int):hy:=if d<1\/4095<d\/1125899906842624<id then{pf .now with out:=4}else pf (.put (gU 0 (id*4096+d)))
def r7:hy:=if 1125899906842624<id then{pf .now with out:=4}else pf (.put (gU 0 (id*4096)))
def uI:hy:=pf .now
def ys:hy:=pf (pV B.n w)
structure se(B:k2)(L:List Int):Prop where
 m1:1<=B.n
 m64:B.n<=64
 len:B.b+3+2*B.n<=L.length
 dE:L.length<=65536
structure mb(w:gd):Prop where
 ok:j5 w
 now:w.now<3000000000000000000
 seq:w.seq<4611686018427387903
def Wc:wv->Prop
 |.put o=>iG o/\o.out=0/\o.pc<=9
 |.now=>True
 |.take left o=>iG o/\o.out=0/\o.pc<=9/\1<=left/\left<=64
 |.tick v=>0<=v/\v<=18446744073709551615
def leftOf:wv->Nat
 |.take left _=>left
 |_=>0
structure tw(c:hy):Prop where
 run:c.out=0->Wc c.ph/\c.val=0/\c.due=[]
 M1:c.cut.length+c.ref.length+leftOf c.ph<=64
 val:0<=c.val/\c.val<=18446744073709551615
structure wD(k:Nat)(w:gd):Prop where
 ok:j5 w
 now:w.now+k<3000000000000000000
 seq:w.seq+k<4611686018427387903
def wD.fL{w:gd}(h:wD k w):mb w:=⟨h.ok,by have:=h.now;omega,by have:=h.seq;omega⟩
def wD.le{j:Nat}{w:gd}(h:wD k w)(J:j<=k):wD j w:=⟨h.ok,by have:=h.now;omega,by have:=h.seq;omega⟩
def V0:(lO v w).now=w.now:=by
 unfold lO r5 rp;split
 . rfl
 . split<;>rfl
def anH:(lO v w).seq<=w.seq+1:=by
 unfold lO r5 rp;split
 . exact il _
 . split
   . exact eh _
   . exact il _
def anI{w:gd}(h:j5 w):j5 (lO v w):=by
 unfold lO;split
 . exact h.cut _
 . exact h.add _ _
def anJ:(rq v w).length+(rr v w).length<=1:=by
 unfold rq rr;by_cases h:v%4096=0
 . rw[a6 (show¬(v%4096≠0/\_)from λg=>g.1 h)];split<;>simp
 . rw[a6 (show¬(v%4096=0/\_)from λg=>h g.1)];split<;>simp
def Wd{b n:Nat}{L:List Int}{o:fr}(h:o.pc<=9):(dL b n L o).pc<=9:=by
 unfold dL;split
 . exact h
 . unfold lq;split<;>(try exact h)<;>simp only[AH,yu,AI,G8,G9,uK,sg,Ha,Hb,Hc,Hd,AJ,He,AK,AL,AM]<;>(repeat' split)<;>first|exact h|((try dsimp only);omega)
def We{pc:Nat}(h:pc<=9){v:Int}(V:0<=v/\v<=18446744073709551615):iG (gU pc v)/\(gU pc v).out=0/\(gU pc v).pc<=9:=⟨AN ae V,rfl,h⟩
def Wf{left:Nat}(h:left<=64){w:gd}(aS:w.now<3000000000000000000):Wc (pV left w)/\leftOf (pV left w)=left:=by
 unfold pV;split
 . rename_i e;subst e;exact⟨uL,rfl⟩
 . rename_i e
   obtain⟨a,b,c⟩:=We (pc:=5) bN (v:=0) bN;exact⟨⟨a,b,c,by omega,h⟩,rfl⟩
def anK{B:k2}{L:List Int}{k:Nat}{w:gd}{c:hy}(K:iv L)(O:wD (k+1) w)(a2:tw c):iv (j4 B L w c).1/\wD k (j4 B L w c).2.1/\tw (j4 B L w c).2.2:=by
 unfold j4;cases U:c.over with
 |true=>exact⟨K,O.le (il k),a2⟩
 |
  false=>
  simp only[eH,eo];obtain⟨ph,out,val,due,cut,ref⟩:=c;have aJ:out=0:=by simpa[hy.over]using U
  subst aJ;obtain⟨d2,V,aQ⟩:=a2.run rfl;have R:=a2.M1;have fD:(0:Int)<=0/\(0:Int)<=18446744073709551615:=bN;obtain rfl:val=0:=V;obtain rfl:due=[]:=aQ;cases ph with
  |
   put o=>
   obtain⟨h1,h2,aH⟩:=d2;exact⟨yv K h1,O.le (il k),⟨λh=>⟨⟨AD K h1,h,Wd aH⟩,rfl,rfl⟩,R,fD⟩⟩
  |now=>exact⟨K,O.le (il k),⟨wB,R,K.get _⟩⟩
  |
   take left o=>
   obtain⟨h1,h2,aH,bm,dk⟩:=d2;have g:=AD (b:=B.b+1) (n:=B.n) K h1;simp only[leftOf]at R;cases d:(dL (B.b+1) B.n L o).over with
   |
    false=>
    have e:n4 B L w M2=(lp (B.b+1) B.n L o,w,VX):=by simp only[n4,d,eH,eo]
    rw[e];have T:(dL (B.b+1) B.n L o).out=0:=M3;exact⟨yv K h1,O.le (il k),⟨λ_=>⟨⟨g,T,Wd aH,bm,dk⟩,rfl,rfl⟩,R,fD⟩⟩
   |
    true=>
    by_cases g0:(dL (B.b+1) B.n L o).out=1
    . have e:n4 B L w M2=(lp (B.b+1) B.n L o,lO (dL (B.b+1) B.n L o).value w,VZ):=by simp only[n4,d,fk,g0]
      rw[e];have aS:=V0 (dL (B.b+1) B.n L o).value w;have aj:=anH (dL (B.b+1) B.n L o).value w;have aw:=anJ (dL (B.b+1) B.n L o).value w;have q:=O.now;have f:=O.seq;obtain⟨a,b⟩:=Wf (left:=left -1) ae (w:=lO (dL (B.b+1) B.n L o).value w) (by rw[aS];omega);refine⟨yv K h1,⟨anI _ O.ok,by rw[aS];omega,by show(lO (dL (B.b+1) B.n L o).value w).seq+k<_;omega⟩,⟨λ_=>⟨a,rfl,rfl⟩,?_,fD⟩⟩;simp only[ep];rw[b];omega
    . have e:n4 B L w M2=(lp (B.b+1) B.n L o,w,VY):=by simp only[n4,d,fk,g0,eo]
      rw[e];refine⟨yv K h1,O.le (il k),⟨λ_=>⟨⟨by omega,by have:=O.now;omega⟩,rfl,rfl⟩,?_,fD⟩⟩;simp only[leftOf];omega
  |
   tick v=>
   exact⟨K.set _ _ d2,⟨O.ok.tick,by have:=O.now;show w.now+1+k<_;omega,by have:=O.seq;show w.seq+k<_;omega⟩,⟨wB,R,fD⟩⟩
theorem anL{id d:Int}(cv:0<=id):tw (r6 id d):=by
 have fD:(0:Int)<=0/\(0:Int)<=18446744073709551615:=bN;unfold r6;split
 . exact⟨wB,by decide,fD⟩
 . rename_i h
   exact Wg
theorem anM{id:Int}(cv:0<=id):tw (r7 id):=by
 have fD:(0:Int)<=0/\(0:Int)<=18446744073709551615:=bN;unfold r7;split
 . exact⟨wB,by decide,fD⟩
 . exact Wg
def anN:tw uI:=⟨λ_=>⟨trivial,rfl,rfl⟩,by decide,by decide⟩
def anO{B:k2}(h:B.n<=64){w:gd}(aS:w.now<3000000000000000000):tw (ys B w):=by
 obtain⟨a,b⟩:=Wf h aS;exact⟨λ_=>⟨a,rfl,rfl⟩,by show 0+0+leftOf (pV B.n w)<=64;omega,(show(0:Int)<=0/\(0:Int)<=18446744073709551615 by decide)⟩
end
end Go.L.dX
namespace Go.L.Led
open Go.L
section
variable(r:List (Int×Int))(z v:Value)(id w:Int)(cs:List Int)(k:Nat)(x:Int)
abbrev j7:Value:=.int .i64 x
abbrev rG:Value:=.int .u64 x
def YL(h:k<cs.length):(z::v::cs.map j7)[2+k*1]?=some (j7 (cs.getD k 0)):=by
 rw[show 2+k*1=k+1+1 by omega];simp[je,cq h]
def YM:(z::v::cs.map j7).set (2+k*1) (j7 x)=z::v::(cs.set k x).map j7:=by
 rw[show 2+k*1=k+1+1 by omega];simp[tL]
def bump(d:Int):List Int:=cs.set k (IntKind.i64.wrap (cs.getD k 0+d))
def bs:Int:=(dH r id).getD 0
def tM:Nat:=(r.filter λq=>decide (q.2=w)).length
def aw:Bool:=decide (1<=w/\w<=6)
def dg(j:Int):List (Int×Int):=if aw (bs r id)then eQ r id j else r
def Bp:Int:=if aw (bs r id)then 0 else 2
def du:List (Int×Int):=if aw w then dg r id w else r
def OC:Int:=if aw w then Bp r id else 1
def dS:List (Int×Int):=if aw w/\bs r id=0 then r++[(id,w)]else r
def Ih:Int:=if aw w then(if bs r id=0 then 0 else 3)else 1
structure kW(r:List (Int×Int)):Prop where
 nd:(r.map (·.1)).Nodup
 jK:∀q∈r,1<=q.2/\q.2<=8
structure qE(r:List (Int×Int))(cs:List Int):Prop where
 len:cs.length=9
 zero:cs.getD 0 0=-(r.length:Int)
 jk:∀w:Nat,1<=w->w<9->cs.getD w 0=tM r w
end
section
variable(cs:List Int){r:List (Int×Int)}(k j:Nat){id w x:Int}(d:Int)
theorem aq5(h:dH r id=some x):(id,x)∈r:=by
 induction r with
 |nil=>cases h
 |
  cons q r L=>
  simp only[dH]at h;split at h
  . rename_i e;cases h;rw[e];exact OF
  . exact D0 _ (L h)
theorem aq6(h:dH r id=none):id∉r.map (·.1):=by
 induction r with
 |nil=>simp
 |
  cons q r L=>
  simp only[dH]at h;split at h
  . cases h
  . rename_i e;simp only[gz,kf,not_or];exact⟨e,L h⟩
theorem aq4(h:dH r id=none):eQ r id w=r++[(id,w)]:=by
 induction r with
 |nil=>rfl
 |
  cons q r L=>
  simp only[dH]at h;split at h
  . cases h
  . rename_i e;simp[eQ,e,L h]
theorem Ox(h:dH r id=some x):(eQ r id w).map (·.1)=r.map (·.1):=by
 induction r with
 |nil=>cases h
 |
  cons q r L=>
  simp only[dH]at h;simp only[eQ];split at h
  . rename_i e;simp[e]
  . rename_i e;simp[e,L h]
theorem OB(h:dH r id=some x):(eQ r id w).length=r.length:=by
 have:=congrArg List.length (Ox (w:=w) h);simpa using this
theorem aq7:∀q∈eQ r id w,q∈r\/q=(id,w):=by
 induction r with
 |nil=>intro q h;simp[eQ]at h;exact .inr h
 |
  cons p r L=>
  intro q h;simp only[eQ]at h;split at h
  . rcases kf.1 h with h|h
    . exact .inr h
    . exact .inl (D0 _ h)
  . rcases kf.1 h with h|h
    . exact .inl (h▸OF)
    . exact(L q h).imp (D0 _) (λh=>h)
def Il(q:Int×Int)(r:List (Int×Int))(w:Int):tM (q::r) w=(if q.2=w then 1 else 0)+tM r w:=by
 unfold tM;rw[OG];by_cases h:q.2=w<;>simp[h];omega
theorem aq8(h:dH r id=some x)(y:Int):(tM (eQ r id w) y:Int)=tM r y -(if x=y then 1 else 0)+(if w=y then 1 else 0):=by
 induction r with
 |nil=>cases h
 |
  cons q r L=>
  simp only[dH]at h;simp only[eQ];split at h
  . rename_i e;cases h
    rw[bg e,Il,Il];split<;>split<;>simp_all<;>omega
  . rename_i e
    rw[a6 e,Il,Il];have:=L h;split<;>simp_all<;>omega
def aq9(r:List w3)(w:Int):tM r w<=r.length:=qG _ _
theorem ara(r:List (Int×Int))(id w y:Int):tM (r++[(id,w)]) y=tM r y+if w=y then 1 else 0:=by
 unfold tM;rw[yY,ep];by_cases h:w=y<;>simp[h]
def arb(x:Int)(h:k<cs.length):(cs.set k x).getD j 0=if j=k then x else cs.getD j 0:=by
 simp only[je,List.getElem?_set];by_cases e:k=j
 . subst e;simp[h]
 . rw[a6 e,a6 (Ne.symm e)]
def Im(h:k<cs.length)(az:-9223372036854775808<=cs.getD k 0+d/\cs.getD k 0+d<=9223372036854775807):(bump cs k d).getD j 0=cs.getD j 0+if j=k then d else 0:=by
 unfold bump;rw[arb _ _ _ _ h,jv az];by_cases e:j=k
 . subst e;simp
 . simp[e]
def Io:(bump cs k d).length=cs.length:=by simp[bump]
theorem qE.move{cs:List Int}(l:qE r cs){id:Int}{k j:Nat}(hk:dH r id=some (k:Int))(md:1<=k)(a:k<9)(v:1<=j)(J:j<9)(aD:r.length<=1099511627776):qE (eQ r id j) (bump (bump cs k (-1)) j 1):=by
 refine YW ?_;intro bn;have av:∀w,(bump cs k (-1)).getD w 0=cs.getD w 0+if w=k then-1 else 0:=λw=>Im _ _ _ _ (by rw[l.len];exact a) (by have:=bn k a;omega)
 have U:∀w,(bump (bump cs k (-1)) j 1).getD w 0=(bump cs k (-1)).getD w 0+if w=j then 1 else 0:=λw=>Im _ _ _ _ (by rw[Io,l.len];exact J) YX
 refine⟨by simp[Io,l.len],?_,λw h1 p=>?_⟩
 . rw[U,av,l.zero,OB hk];rw[a6 ae,a6 ae];omega
 . rw[U,av,l.jk w h1 p,aq8 hk]
   have aB:((k:Int)=(w:Int))↔w=k:=ae;have aU:((j:Int)=(w:Int))↔w=j:=ae;simp only[aB,aU];split<;>split<;>omega
theorem qE.accept{cs:List Int}(l:qE r cs){id:Int}{j:Nat}(v:1<=j)(J:j<9)(aD:r.length<=1099511627776):qE (r++[(id,(j:Int))]) (bump (bump cs 0 (-1)) j 1):=by
 refine YW ?_;intro bn;have av:∀w,(bump cs 0 (-1)).getD w 0=cs.getD w 0+if w=0 then-1 else 0:=λw=>Im _ _ _ _ (by rw[l.len];omega) (by have:=bn 0 (by omega);omega)
 have U:∀w,(bump (bump cs 0 (-1)) j 1).getD w 0=(bump cs 0 (-1)).getD w 0+if w=j then 1 else 0:=λw=>Im _ _ _ _ (by rw[Io,l.len];exact J) YX
 refine⟨by simp[Io,l.len],?_,λw h1 p=>?_⟩
 . rw[U,av,l.zero];rw[bg rfl,a6 ae];simp;omega
 . rw[U,av,l.jk w h1 p,ara]
   have aU:((j:Int)=(w:Int))↔w=j:=ae;simp only[aU];rw[a6 ae];split<;>omega
theorem kW.alu(h:kW r){id:Int}:bs r id=0↔dH r id=none:=by
 unfold Led.bs;constructor
 . intro e
   cases bb:dH r id with
   |none=>rfl
   |some x=>rw[bb]at e;have:=h.jK _ (aq5 bb);simp at e this;omega
 . intro e;rw[e];rfl
theorem kW.put(h:kW r){id w x:Int}(bb:dH r id=some x)(O:1<=w/\w<=8):kW (eQ r id w):=
 ⟨by rw[Ox bb];exact h.nd,λq bo=>by rcases aq7 q bo with bo|rfl;exact h.jK q bo;exact O⟩
theorem kW.snoc(h:kW r){id w:Int}(bb:dH r id=none)(O:1<=w/\w<=8):kW (r++[(id,w)]):=
 ⟨by
  rw[o6,List.nodup_append];refine⟨h.nd,by simp,λa aP b az e=>?_⟩;simp at az;subst az;subst e;exact aq6 bb aP,λq bo=>by
  rcases kP.1 bo with bo|bo
  . exact h.jK q bo
  . simp at bo;subst bo;exact O⟩
def tK:aw w=true↔1<=w/\w<=6:=by simp[aw]
theorem kW.from(h:kW r){id j:Int}(J:1<=j/\j<=8):kW (dg r id j):=by
 unfold dg;split
 . rename_i co
   cases bb:dH r id with
   |none=>rw[tK]at co;simp[Led.bs,bb]at co
   |some x=>exact h.put bb J
 . exact h
theorem kW.F4(h:kW r){id w:Int}:kW (du r id w):=by
 unfold du;split
 . rename_i co;rw[tK]at co;exact h.from ⟨co.1,by omega⟩
 . exact h
theorem kW.acc(h:kW r){id w:Int}:kW (dS r id w):=by
 unfold dS;split
 . rename_i co;have:=tK.1 co.1;exact h.snoc (h.alu.1 co.2) ⟨this.1,by omega⟩
 . exact h
theorem yZ{j:Int}:(dg r id j).length=r.length:=by
 unfold dg;split
 . rename_i co
   cases bb:dH r id with
   |none=>rw[tK]at co;simp[Led.bs,bb]at co
   |some x=>exact OB bb
 . rfl
theorem e2:(du r id w).length=r.length:=by
 unfold du;split;exact yZ;rfl
theorem YY:(dS r id w).length<=r.length+1:=by
 unfold dS;split<;>simp
end
end Go.L.Led
namespace Go.L.Th
open Go.L Go.L.Lx Go.L.Pg Go.L.Ring Go.L.dr Go.L.dX Go.L.Whl Go.L.dB Go.L.Led
structure bK where
 bc:Nat
 cK:Nat
 aZ:Nat
 hS:Nat
 dW:Nat
 mB:Nat
 ez:Nat
 iO:Nat
 dF:Nat
def bK.fF(C:bK):Nat:=2*C.aZ+8
def bK.bA(C:bK):fQ:=⟨2,C.bc,C.ez,C.aZ⟩
section
variable(C:bK)
def bK.dC:k2:=⟨2+C.bA.size,C.iO⟩
def bK.bG:Nat:=2+C.bA.size+(3+2*C.iO)
def bK.gR:Nat:=C.bG+C.aZ*C.aZ
def bK.eZ:Nat:=2+(2+2*C.hS)+(2+2*C.fF)
def bK.box(a:Nat):js:=⟨C.gR+(a -1)*C.eZ,C.hS,C.fF⟩
def bK.cells:Nat:=C.gR+C.aZ*C.eZ
structure bK.ok(C:bK):Prop where
 aG:1<=C.bc
 bH:C.bc<=8
 h1:1<=C.cK
 bm:C.cK<=4
 ck:1<=C.aZ
 ha:C.aZ<=16
 m1:1<=C.hS
 m64:C.hS<=64
 p1:C.dW<=64
 av:1<=C.mB
 GG:C.mB<=16
 d1:1<=C.ez
 d64:C.ez<=64
 i1:1<=C.iO
 i64:C.iO<=64
 s5:C.dF<=64
structure cV where
 cw:Int
 to:Int
 tag:cy
 n:Int
 qi:Bool
structure da where
 what:Int
 who:Int
 reason:cy
structure bZ where
 kind:Int
 dK:Int
 id:Int
 cw:Int
 to:Int
 name:cy
 n:Int
 why:Int
 nN:Bool
deriving DecidableEq
def c3:bZ:=⟨0,0,0,0,0,[],0,0,false⟩
structure ds where
 dW:Bool
 b8:List fw
 state:cy
 stop:Bool
 fail:cy
structure bQ where
 id:Nat
 parent:Nat
 kind:b1
 state:cy
 slots:List Int
 kids:List Int
 mode:Int
 aside:List Int
 front:List Int
 given:List (Int×List Int)
 watched:List Int
 cF:List Int
 timers:List (cy×List Int)
inductive bY
 |load(c:Nat)
 |add(c:Nat)(d:Int)
 |gm(v:Int)
 |post(a:Nat)(p:gA)
 |hZ(o:k5)
 |fJ(o:gD)
 |eY(o:hy)
inductive eE
 |c0(a:Nat)(l:Int)(p:ds)
 |cancel(ids:List Int)
 |leave(due:List Int)
 |push(l:List Int)(what:Int)
 |mz(a:Nat)
inductive K
 |nil
 |polled|found|pG|mC
 |run(a:Nat)|jB(a:Nat)|on(a:Nat)|again(a:Nat)
 |next(a left:Nat)|nX(a left:Nat)|settled(a:Nat)
 |ended(a:Nat)(id:Int)(p:ds)(k:K)
 |mD(l:cV)(k:K)
 |h8(a:Nat)(l:cV)(e:fw)(k:K)
 |told(id to:Int)(k:K)
 |lJ(a:Nat)(k:K)
 |mE(a:Nat)(kind:cy)(slot:Nat)(k:K)
 |asked(id:Int)(a:Nat)(e:fw)(k:K)
 |watched(a who:Nat)(k:K)|gone(a who:Nat)(k:K)|nn(x y:Nat)(k:K)
 |alone(a:Nat)(k:K)
 |mF(a:Nat)(n:da)(k:K)
 |closed(a:Nat)(k:K)|lc(a:Nat)(k:K)|shut(a:Nat)(k:K)|ow(a:Nat)(k:K)|who(a:Nat)(k:K)|parent(a:Nat)(k:K)
 |each(d:eE)(i n:Nat)(k:K)
 |o2(a:Nat)
structure bV where
 on:Option (bY×K)
 draw:Int
 jg:Bool
structure ar where
 L:List Int
 bs:gd
 aI:List bQ
 lets:List cV
 bf:List (Int×Int)
 dead:List (Int×Int×Int)
 notes:List da
 trace:List bZ
 now:Nat
 ticks:Nat
 shut:Bool
 aC:List bV
abbrev most:Nat:=1099511627776
end
section
variable(C:bK)(v:Int)(k:b1)(l:List Int)(j:Nat)(state tag:cy)(g:List (Int×List Int))(x n c:Int)(s:ar)(a:Nat)(id w:Int)
def bY.over:bY->Bool
 |.load _=>false
 |.add _ _=>false
 |.gm _=>true
 |.post _ p=>p.over
 |.hZ o=>o.over
 |.fJ o=>o.over
 |.eY o=>o.over
def acc:bY->ar×bY
 |.load c=>(s,.gm (s.L.getD c 0))
 |.add c d=>({s with L:=s.L.set c (e0 (s.L.getD c 0+d))},.gm (e0 (s.L.getD c 0+d)))
 |.gm v=>(s,.gm v)
 |.post a p=>({s with L:=qe (C.box a) s.L p},.post a (oY (C.box a) s.L p))
 |.hZ o=>({s with L:=sj s.L o},.hZ (sk s.L o))
 |.fJ o=>({s with L:=nA C.bA s.L o},.fJ (lx C.bA s.L o))
 |.eY o=>({s with L:=(j4 C.dC s.L s.bs o).1,bs:=(j4 C.dC s.L s.bs o).2.1},.eY (j4 C.dC s.L s.bs o).2.2)
def Le:gA:=⟨.put false (gU 0 v),0,0⟩
def xS:gA:=⟨.put true (gU 0 v),0,0⟩
def E9:gA:=⟨.ask v,0,0⟩
def nU:gA:=⟨.set v,0,0⟩
def Cn:gA:=⟨.of false (gU 5 0),0,0⟩
def Cj:gA:=⟨.of true (gU 5 0),0,0⟩
def Co:gA:=⟨.of false (gU 14 0),0,0⟩
def xT:gA:=⟨.of false (gU 10 0),0,0⟩
def xN:gA:=⟨.gone,0,0⟩
def Fa(held:Bool):gA:=⟨.xC held,0,0⟩
def iM(e:bZ)(s:ar):Option ar:=if s.trace.length<most then some {s with trace:=s.trace++[e]}else none
def kq:Option cV:=if 1<=id then s.lets[(id -1).toNat]?else none
def dz:Option bQ:=if 1<=a then s.aI[a -1]?else none
def c7(x:bQ):ar:={s with aI:=s.aI.set (a -1) x}
def move:ar:={s with bf:=du s.bf id w}
def mA(a w:Int):ar:=if bs s.bf id=a then move s id w else s
def kill(why:Int)(s:ar):Option ar:=do
 let l<-kq s id
 if s.dead.length<most/\1<=why/\why<=5 then
  iM {c3 with kind:=6,id:=id,to:=l.to,why:=why} {s with bf:=dg s.bf id 8,dead:=s.dead++[(id,l.to,why)]}
 else none
def kK(why:Int):List Int->ar->Option ar
 |[],s=>some s
 |id::r,s=>do kK why r (<-kill id why s)
def hq(o:bY)(k:K):Option ar:=do
 let t<-s.aC[j]?
 if t.on.isNone then some {s with aC:=s.aC.set j {t with on:=some (o,k)}}else none
def sleep(b:Bool):Option ar:=do
 let t<-s.aC[j]?
 some {s with aC:=s.aC.set j {t with jg:=b}}
def sZ:Option Nat:=if j<C.bc then some j else none
def mem:Bool:=l.contains x
def del:List Int:=l.filter (λy=>decide (y≠x))
def ou:List Int:=if mem l x then l else l++[x]
def gG:List (cy×List Int)->cy->List Int
 |[],_=>[]
 |(k,l)::r,n=>if n=k then l else gG r n
def ov:List (cy×List Int)->cy->List (cy×List Int)
 |[],_=>[]
 |(k,l)::r,n=>if n=k then r else(k,l)::ov r n
def l3:List (cy×List Int)->cy->Int->List (cy×List Int)
 |[],n,x=>[(n,[x])]
 |(k,l)::r,n,x=>if n=k then(n,l++[x])::r else(k,l)::l3 r n x
def qd:List (Int×List Int)->Int->List (Int×List Int)
 |[],_=>[]
 |(k,l)::r,n=>if n=k then r else(k,l)::qd r n
def lf(P:List b1)(n:cy):Option b1:=P.find? (λk=>decide (k.name=n))
def qk(r:Row):Bool:=decide (r.tag=[])||(decide (r.tag=tag)&&(!r.only||decide (r.n=n)))
def rowOf:Option Row:=do
 let s<-k.states.find? (λs=>decide (s.name=state))
 s.rows.find? (qk tag n)
def o4(e:fw)(n:Int):Int:=if e.value=0 then n else if e.value=1 then(if n<1 then 0 else n -1)else e.n
def mI(n:Int):Nat->List fw->ds->ds
 |_,[],p=>p
 |
  i,e::r,p=>
  if e.do'=4 then(if i=0 then⟨true,[],p.state,false,[]⟩else mI n (i+1) r p)
  else if e.do'=3 then mI n (i+1) r {p with state:=e.name}
  else if e.do'=11 then{p with stop:=true}
  else if e.do'=12 then{p with fail:=e.name}
  else if e.do'=1\/e.do'=8 then mI n (i+1) r {p with b8:=p.b8++[{e with n:=o4 e n,value:=2}]}
  else mI n (i+1) r {p with b8:=p.b8++[e]}
def kZ:ds:=
 match rowOf k state tag n with
 |none=>⟨false,[],state,false,[]⟩
 |some r=>mI n 0 r.b8 ⟨false,[],state,false,[]⟩
def nq(s:cy):Option Nat:=if s=[97]then some 0 else if s=[98]then some 1 else if s=[99]then some 2 else if s=[100]then some 3 else none
def hi(ref:cy)(self b parent:Int)(slots:List Int):Int:=
 if ref=[115,101,108,102]then self else if ref=[115,101,110,100,101,114]then b else if ref=[112,97,114,101,110,116]then parent
 else match nq ref with
  |some i=>slots.getD i 0
  |none=>0
def direct(reason:cy):Int:=
 match k.cases.find? (λc=>decide (c.reason=reason))with
 |some c=>c.do'
 |
  none=>match k.cases.find? (λc=>decide (c.reason=[]))with
  |some c=>c.do'
  |none=>3
def q0:Int:=(x+9223372036854775808)%18446744073709551616 -9223372036854775808
def ht:Int:=min (max n 0) 1099511627776
def dU:List Int:=(dH g c).getD []
def SR(now:Int):Int:=
 max (min (max k.limit 0) 100 -(((dU g c).filter (λt=>!decide (t<=ht now -min (max k.within 1) 4095))).length:Int)) 0
end
section
variable(C:bK)(P:List b1)(g:ar->bY->K->Option ar)(j:Nat)
section
variable(s:ar)(r:bY)(d:eE)(a i:Nat)(n:da)(l:cV)(id:Int)(e:fw)(cancel:ar->List Int->K->Option ar)(k:K)
def dA:bY:=.gm 0
def pF:Option ar:=
 match r with
 |.post _ p=>if p.out=7\/p.out=8 then hq j s (.fJ (wK C.bA (sZ C j) a)) k else g s dA k
 |_=>none
def ug:Option ar:=do
 let l<-kq s id
 if l.to=0 then g (<-kill id 3 s) dA k
 else if 1<=l.to/\l.to<=C.aZ then hq j s (.post l.to.toNat (Le id)) (.told id l.to k)else none
def Cg:Option ar:=hq j s (.add 0 1) (.mD l k)
def s0:Option ar:=
 if s.notes.length<most/\1<=a/\a<=C.aZ then hq j {s with notes:=s.notes++[n]} (.post a (xS s.notes.length)) (.lJ a k)else none
def xO(x y:Nat)(k:K):Option ar:=
 if 1<=x/\x<=C.aZ/\1<=y/\y<=C.aZ then hq j s (.hZ (nC 4 (ly C.bG C.aZ x y))) (.nn x y k)else none
def Ld:Option ar:=hq j s (.eY (r6 id e.vy)) (.asked id a e k)
def zO:Option ar:=do
 let x<-dz s a
 if x.mode=5 then some s else hq j s (.post a (Fa (!decide (x.mode=1)))) (.settled a)
def Ci:Option ar:=hq j s (.post a Cj) (.jB a)
def Cl(who:Nat)(k:K):Option ar:=do
 let x<-dz s a
 if 1<=who/\who<=C.aZ then hq j (c7 s a {x with watched:=ou x.watched who}) (.hZ (nC 0 (ly C.bG C.aZ a who))) (.watched a who k)else none
def Cm:Option ar:=do
 let x<-dz s a
 some (c7 (x.aside.foldl (λs id=>move s id 4) s) a {x with front:=x.front++x.aside.reverse,aside:=[]})
def zP(x:bQ)(e:fw)(b who:Int)(slot:Nat)(cancel:ar->List Int->K->Option ar)(k:K):Option ar:=
 if e.do'=1 then Cg j s ⟨a,who,e.name,e.n,false⟩ k
 else if e.do'=2 then hq j s (.add 1 1) (.mE a e.name slot k)
 else if e.do'=10 then g (c7 s a {x with slots:=x.slots.set slot b}) dA k
 else if e.do'=5 then(Cm s a).bind λs=>g s dA k
 else if e.do'=8 then hq j s (.add 0 1) (.h8 a ⟨a,a,e.name,e.n,false⟩ e k)
 else if e.do'=9 then cancel (c7 s a {x with timers:=ov x.timers e.name}) (gG x.timers e.name) k
 else if e.do'=6\/e.do'=7 then
  if who=0\/who=a then g s dA k
  else if e.do'=6 then Cl C j s a who.toNat k
  else if 1<=who/\who<=C.aZ then hq j (c7 s a {x with watched:=x.watched.erase who}) (.hZ (nC 2 (ly C.bG C.aZ a who.toNat))) k else none
 else none
def Fc:Option ar:=do
 let x<-dz s a
 zP C g j s a x e (max l.cw 0) (hi e.ref a (max l.cw 0) x.parent x.slots) ((nq e.slot).getD 0) cancel k
def nV(zQ:ar->List Int->K->Option ar)(s:ar)(d:eE)(i:Nat)(k:K):Option ar:=
 match d with
 |.c0 a id p=>do Fc C g j s a (<-kq s id) (<-p.b8[i]?) zQ k
 |.cancel ids=>do hq j s (.eY (r7 (<-ids[i]?))) k
 |.leave due=>do ug C g j s (<-due[i]?) k
 |.push l what=>do s0 C j s (<-l[i]?).toNat ⟨what,0,[]⟩ k
 |.mz a=>if i+1=a then g s dA k else xO C j s (i+1) a k
def Fe(n:Nat)(k:K):Option ar:=
 if i=n then g s dA k else nV C g j (λ_ _ _=>none) s d i (.each d i n k)
def zQ(ids:List Int)(k:K):Option ar:=Fe C g j s (.cancel ids) 0 ids.length k
def nW(n:Nat)(k:K):Option ar:=
 if i=n then g s dA k else nV C g j (zQ C g j) s d i (.each d i n k)
def xP(l:List Int)(what:Int)(k:K):Option ar:=nW C g j s (.push l what) 0 l.length k
def s3:Option ar:=do
 let x<-dz s a
 if x.mode=4\/x.mode=5 then g s dA k
 else xP C g j (<-iM {c3 with kind:=13,dK:=a} (c7 s a {x with mode:=4})) x.kids 0 (.alone a k)
def uh(reason:cy)(k:K):Option ar:=do
 let x<-dz s a
 let s<-iM {c3 with kind:=9,dK:=a,name:=reason} (c7 s a {x with mode:=2})
 if x.parent=0 then s3 C g j s a k else s0 C j s x.parent ⟨1,a,reason⟩ k
def Fg:Option ar:=do
 let x<-dz s a
 let s<-kK 2 (x.front.reverse++x.aside) (c7 s a {x with front:=[],aside:=[]})
 hq j s (.post a Co) (.closed a k)
def rU:Option ar:=do
 let x<-dz s a
 if x.kids≠[]then g s dA k
 else if x.mode=4 then Fg j s a k
 else if x.mode=3 then do
  let st<-x.kind.states[0]?
  let s<-Cm (c7 s a {x with state:=st.name,slots:=[0,0,0,0],cF:=[]}) a
  let x<-dz s a
  g (<-iM {c3 with kind:=12,dK:=a} (c7 s a {x with mode:=1})) dA k
 else g s dA k
def rV(d:Int)(k:K):Option ar:=do
 let s<-iM {c3 with kind:=10,dK:=n.who,cw:=a,why:=d,name:=n.reason} s
 if d=1 then s0 C j s n.who.toNat ⟨2,0,[]⟩ k
 else if d=2 then s0 C j s n.who.toNat ⟨3,0,[]⟩ k
 else if d=3 then s0 C j s n.who.toNat ⟨0,0,[]⟩ k
 else do
  let x<-dz s a
  let s:=c7 s a {x with cF:=ou x.cF n.who}
  if x.mode=1 then uh C g j s a n.reason k else g s dA k
def xQ:Option ar:=do
 let x<-dz s a
 if !mem x.kids n.who\/x.mode=3\/x.mode=4 then g s dA k
 else if direct x.kind n.reason≠2 then rV C g j s a n (direct x.kind n.reason) k
 else hq j s (.eY uI) (.mF a n k)
def vM:Option ar:=do
 let x<-dz s a
 if n.what=0 then s3 C g j s a k
 else if n.what=1 then xQ C g j s a n k
 else if n.what=2 then
  if x.mode≠2 then g s dA k
  else xP C g j (<-iM {c3 with kind:=11,dK:=a} (c7 s a {x with mode:=1,cF:=[]})) x.cF 2 k
 else if n.what=3 then
  if x.mode≠2 then g s dA k else xP C g j (c7 s a {x with mode:=3}) x.kids 0 (.alone a k)
 else if n.what=4 then
  rU g j (c7 s a {x with kids:=del x.kids n.who,cF:=del x.cF n.who,given:=qd x.given n.who}) a k
 else none
def s4:Option ar:=do
 let x<-dz s a
 let l<-kq s id
 if l.qi=true/\mem x.watched l.cw=false then g (<-kill id 5 s) dA k
 else
  let p:=kZ x.kind x.state l.tag l.n
  if p.dW then
   if C.dW<=x.aside.length then g (<-kill id 1 s) dA k
   else g (<-iM {c3 with kind:=5,dK:=a,id:=id} (move (c7 s a {x with aside:=x.aside++[id]}) id 3)) dA k
  else do
   let s<-iM {c3 with kind:=3,dK:=a,id:=id} {s with bf:=dg s.bf id 7}
   nW C g j (c7 s a (if l.qi then{x with watched:=x.watched.erase l.cw}else x)) (.c0 a id p) 0 p.b8.length (.ended a id p k)
def rW(left:Nat):Option ar:=do
 let x<-dz s a
 if x.mode≠1 then zO j s a
 else if left=0 then hq j s (.post a (nU 1)) (.again a)
 else match x.front.getLast? with
  |some id=>s4 C g j (c7 s a {x with front:=x.front.dropLast}) a id (.next a left)
  |none=>hq j s (.post a Cn) (.nX a left)
def vN(id parent:Nat)(kind:cy):Option ar:=do
 let k<-lf P kind
 let st<-k.states[0]?
 if id=s.aI.length+1/\id<=C.aZ then
  let x:bQ:=⟨id,parent,k,st.name,[0,0,0,0],[],1,[],[],[],[],[],[]⟩
  let s:={s with aI:=(match dz s parent with
   |some u=>s.aI.set (parent -1) {u with kids:=u.kids++[(id:Int)]}
   |none=>s.aI)++[x]}
  iM {c3 with kind:=7,dK:=id,cw:=parent,name:=kind} s
 else none
def xR(v:Int):Option ar:=if 1<=v/\v<=s.aI.length then hq j s (.post v.toNat (nU 2)) (.run v.toNat)else none
def enter(nN:Bool)(r:bY):Option (ar×Int):=
 match r with
 |.gm v=>if v=((s.lets.length+1:Nat):Int)/\s.lets.length<most then
  (iM {c3 with kind:=2,id:=v,cw:=l.cw,to:=l.to,name:=l.tag,n:=l.n,nN:=nN} {s with lets:=s.lets++[l],bf:=dS s.bf v 1}).map (·,v)else none
 |_=>none
def dw:K->Option ar
 |.nil=>some s
 |
  .polled=>match r with
  |.fJ c=>sleep j s (!decide (c.out=1))
  |_=>none
 |
  .found=>match r with
  |.fJ c=>if c.out=1 then xR j s c.val else hq j s (.fJ (yC j)) .pG
  |_=>none
 |
  .pG=>match r with
  |.fJ c=>if c.out=1 then xR j s c.val else sleep j s true
  |_=>none
 |
  .mC=>match r with
  |
   .eY c=>do
   let s<-iM {c3 with kind:=15,n:=((s.now+1:Nat):Int)} {s with now:=s.now+1}
   let s<-kK 1 c.ref s
   let s<-kK 4 c.cut s
   let s:=(s.bs.T.map (·.id)).foldl (λs id=>mA s id 5 6) s
   let s:=c.due.foldl (λs id=>move s id 1) s
   nW C g j s (.leave c.due) 0 c.due.length .nil
  |_=>none
 |.run a=>Ci j s a
 |
  .jB a=>match r with
  |.post _ p=>if p.out≠1 then rW C g j s a C.mB else do vM C g j s a (<-s.notes[p.val.toNat]?) (.on a)
  |_=>none
 |.on a=>do if(<-dz s a).mode≠5 then Ci j s a else some s
 |.again a=>hq j s (.fJ (wK C.bA (sZ C j) a)) .nil
 |.next a left=>rW C g j s a (left -1)
 |
  .nX a left=>match r with
  |.post _ p=>if p.out≠1 then zO j s a else s4 C g j s a p.val (.next a left)
  |_=>none
 |.settled a=>pF C g j s r a .nil
 |
  .ended a id p k=>do
  let x<-dz s a
  let s<-iM {c3 with kind:=4,dK:=a,id:=id,name:=p.state} (c7 s a {x with state:=p.state})
  if p.stop then s3 C g j s a k else if p.fail≠[]then uh C g j s a p.fail k else g s dA k
 |
  .mD l k=>do
  let(s,id)<-enter s l false r
  ug C g j s id k
 |
  .h8 a l e k=>do
  let(s,id)<-enter s l true r
  Ld j s a id e k
 |
  .told id to k=>match r with
  |
   .post _ p=>
   if p.out=2 then do g (<-kill id 1 s) dA k
   else if p.out=3 then do g (<-kill id 2 s) dA k
   else pF C g j (mA s id 1 2) r to.toNat k
  |_=>none
 |.lJ a k=>pF C g j s r a k
 |
  .mE a kind slot k=>match r with
  |
   .gm v=>do
   let(s,m)<-if(C.aZ:Int)<v then(iM {c3 with kind:=8,dK:=a,name:=kind} s).map (·,(0:Int))else(vN C P s v.toNat a kind).map (·,v)
   let x<-dz s a
   g (c7 s a {x with slots:=x.slots.set slot m}) dA k
  |_=>none
 |
  .asked id a e k=>match r with
  |
   .eY c=>
   if c.out=2 then do g (<-kill id 1 s) dA k
   else do
    let s:=mA s id 1 5
    let x<-dz s a
    g (c7 s a {x with timers:=l3 x.timers e.name id}) dA k
  |_=>none
 |.watched a who k=>hq j s (.post who xN) (.gone a who k)
 |
  .gone a who k=>match r with
  |.post _ p=>if p.out≠1 then g s dA k else xO C j s a who k
  |_=>none
 |
  .nn x y k=>match r with
  |.hZ o=>if o.out≠1 then g s dA k else Cg j s ⟨y,x,[103,111,110,101],0,true⟩ k
  |_=>none
 |.alone a k=>rU g j s a k
 |
  .mF a n k=>match r with
  |
   .eY c=>do
   let x<-dz s a
   if SR x.kind x.given n.who (q0 c.val)=0 then rV C g j s a n 3 k
   else rV C g j (c7 s a {x with given:=eQ x.given n.who (dU x.given n.who++[ht (q0 c.val)])}) a n 2 k
  |_=>none
 |.closed a k=>hq j s (.post a xT) (.lc a (.shut a k))
 |
  .lc a k=>match r with
  |
   .post _ p=>
   if p.out=5 then g s dA k
   else do
    let s<-if p.out=1 then kill p.val 2 s else some s
    hq j s (.post a xT) (.lc a k)
  |_=>none
 |.shut a k=>hq j s (.post a (nU 4)) (.ow a k)
 |
  .ow a k=>do
  let x<-dz s a
  hq j (<-iM {c3 with kind:=14,dK:=a} (c7 s a {x with mode:=5})) (.load 1) (.who a k)
 |
  .who a k=>match r with
  |.gm v=>if v<4611686018427387904 then nW C g j s (.mz a) 0 (min v.toNat C.aZ) (.parent a k)else none
  |_=>none
 |
  .parent a k=>do
  let x<-dz s a
  if x.parent=0 then g s dA k else s0 C j s x.parent ⟨4,a,[]⟩ k
 |.each d i n k=>nW C g j s d (i+1) n k
 |.o2 a=>pF C g j s r a .nil
end
end
section
variable(C:bK)(P:List b1)(j:Nat)(s:ar)
def go(C:bK)(P:List b1):Nat->Nat->ar->bY->K->Option ar
 |0,_,_,_,_=>none
 |n+1,j,s,r,k=>dw C P (go C P n j) j s r k
abbrev zB:Nat:=1000000
def eS:Option ar:=do
 let t<-s.aC[j]?
 if t.jg then hq j s (.fJ (Du j)) .polled else hq j s (.fJ (yB C.bA j t.draw.toNat)) .found
def ff:Option ar:=hq j {s with ticks:=s.ticks -1} (.eY (ys C.dC s.bs)) .mC
def eu:Option ar:=do
 let t<-s.aC[j]?
 let(o,k)<-t.on
 let(s,o):=acc C s o
 if o.over then go C P zB j {s with aC:=s.aC.set j {t with on:=none}} o k
 else some {s with aC:=s.aC.set j {t with on:=some (o,k)}}
def busy(j:Nat):Bool:=((s.aC[j]?).bind (·.on)).isSome
def stepT(a:ar->Option ar)(j:Nat)(s:ar):Option ar:=
 if busy s j then eu C P j s else do eu C P j (<-a s)
structure dG where
 kind:Int
 a:Int
 b:Int
 tag:cy
 n:Int
def quiet:Bool:=
 (List.range C.cK).all (λi=>!busy s (C.bc+i))&&!busy s (C.bc+C.cK)&&decide (s.ticks=0)&&
 (List.range C.bc).all (λi=>!busy s i&&((s.aC[i]?).map (·.jg)).getD false&&!decide (s.L.getD (2+i) 0=0))
def zR:Option (ar×Bool):=
 if !busy s (C.bc+C.cK)/\s.ticks=0 then some (s,false)
 else(stepT C P (ff C (C.bc+C.cK)) (C.bc+C.cK) s).map (·,true)
def ask(a:Nat):Option ar:=
 if s.notes.length<most/\1<=a/\a<=C.aZ then hq j {s with notes:=s.notes++[⟨0,0,[]⟩]} (.post a (E9 s.notes.length)) (.o2 a)else none
def hand(e:dG):Option (ar×Bool):=
 if e.a<0\/(C.cK:Int)<=e.a then some (s,false)
 else
  let j:=C.bc+e.a.toNat
  let gone:=s.shut||!decide (1<=e.b/\e.b<=s.aI.length)
  if e.kind=2 then(if busy s j then(eu C P j s).map (·,true)else some (s,false))
  else if busy s j then some (s,false)
  else if e.kind=4 then
   if !lN e.tag\/e.n<0\/255<e.n then some (s,false)
   else if gone then(iM {c3 with kind:=1,cw:=-1 -e.a,to:=e.b,name:=e.tag,n:=e.n} s).map (·,true)
   else(Cg j s ⟨-1 -e.a,e.b,e.tag,e.n,false⟩ .nil).map (·,true)
  else if e.kind=5 then
   if gone then(iM {c3 with kind:=1,cw:=-1 -e.a,to:=e.b} s).map (·,true)
   else(ask C j s e.b.toNat).map (·,true)
  else if e.kind=7/\s.shut=false then(ask C j {s with shut:=true} 1).map (·,true)
  else some (s,false)
def pH(e:dG):Option (ar×Bool):=
 if e.kind=1 then
  if e.a<0\/(C.bc:Int)<=e.a then some (s,false)
  else do
   let t<-s.aC[e.a.toNat]?
   let s:={s with aC:=s.aC.set e.a.toNat {t with draw:=e0 e.n}}
   (stepT C P (eS C e.a.toNat) e.a.toNat s).map (·,true)
 else if e.kind=3 then zR C P s
 else if e.kind=6 then(if 64<=s.ticks then some (s,false)else some ({s with ticks:=s.ticks+1},true))
 else hand C P s e
def s6(f:Nat->ar->Option ar):List Nat->ar->Option ar
 |[],s=>some s
 |i::r,s=>do s6 f r (<-f i s)
def round:Option ar:=do
 let s<-s6 (λj s=>stepT C P (eS C j) j s) (List.range C.bc) s
 let s<-s6 (λi s=>if busy s (C.bc+i)then eu C P (C.bc+i) s else some s) (List.range C.cK) s
 (zR C P s).map (·.1)
def rest(C:bK)(P:List b1):Nat->ar->Option (ar×Bool)
 |0,s=>some (s,quiet C s)
 |n+1,s=>if quiet C s then some (s,true)else do rest C P n (<-round C P s)
def start:Option ar:=do
 let a:=List.replicate C.cells 0
 let b:=a.set 1 1
 let F:=(List.range C.bc).foldl (λL w=>(L.set (C.bA.cm w) 1).set (C.bA.cm w+1) 1) b
 let k<-P[0]?
 vN C P ⟨F,⟨0,0,[]⟩,[],[],[],[],[],[],0,0,false,List.replicate (C.bc+C.cK+1) ⟨none,0,false⟩⟩ 1 0 k.name
end
end Go.L.Th
