import Derived.Test.YtnnhpnccfnghdaaGreatA21
set_option linter.all false
set_option maxRecDepth 8000
set_option maxHeartbeats 16000000
namespace Go.Proofs.YtnnhpnccfnghdaaGreat.C
open Go.Proofs.YtnnhpnccfnghdaaGreat.L Go.L Go.L.Lx Go.L.Pg
attribute[local irreducible] G cJ GE c3 GT b1 dk c7 ds Exit.then Exit.inBlock
attribute[local irreducible] mc
section
variable(bZ:Option Addr)(pc:Nat)(bo:List cr)(A:al)
theorem amb(L:List mb)(i:Nat)(ak:i<=L.length)(a:Option Addr)(c:Nat)(F:FuncId)(z:List Value)(J:List al)(q:mb->Bool)(aO:L.length<=9223372036854775807)(aF:∀h,Sat J h->gI h kB L.length (L.flatMap jQ))
 (hp:∀x∈L,ab E F Gc J lm)(fI:fb E F:=by exact fl):ab E 170 Gm J Gn:=by
 have h:=Uu (L.take i) a c F z J q h9 (λh s=>by
  have e:=gI.to (aZ:=2) (aF h s) ak;rw[AA jQ 2 Al]at e;rwa[oC,C7 ak]) Gp
 exact Gq
theorem amc(L:List cr)(i:Nat)(ak:i<=L.length)(a:Option Addr)(c:Nat)(F:FuncId)(z:List Value)(J:List al)(q:cr->Bool)(aO:L.length<=9223372036854775807)(aF:∀h,Sat J h->gI h kB L.length (L.flatMap eH))
 (hp:∀x∈L,ab E F Gd J lm)(fI:fb E F:=by exact fl):ab E 174 Gm J Gn:=by
 have h:=Uw (L.take i) a c F z J q h9 (λh s=>by
  have e:=gI.to (aZ:=5) (aF h s) ak;rw[AA eH 5 C8]at e;rwa[oC,C7 ak]) Gp
 exact Gq
theorem amd(L:List fU)(i:Nat)(ak:i<=L.length)(a:Option Addr)(c:Nat)(F:FuncId)(z:List Value)(J:List al)(q:fU->Bool)(aO:L.length<=9223372036854775807)(aF:∀h,Sat J h->gI h kB L.length (L.flatMap gB))
 (hp:∀x∈L,ab E F Ge J lm)(fI:fb E F:=by exact fl):ab E 221 Gm J Gn:=by
 have h:=Uy (L.take i) a c F z J q h9 (λh s=>by
  have e:=gI.to (aZ:=2) (aF h s) ak;rw[AA gB 2 qV]at e;rwa[oC,C7 ak]) Gp
 exact Gq
theorem ame(L:List Row)(i:Nat)(ak:i<=L.length)(a:Option Addr)(c:Nat)(F:FuncId)(z:List Value)(J:List al)(q:Row->Bool)(aO:L.length<=9223372036854775807)(aF:∀h,Sat J h->gI h kB L.length (L.flatMap gY))
 (hp:∀x∈L,ab E F Gf J lm)(fI:fb E F:=by exact fl):ab E 276 Gm J Gn:=by
 have h:=alO (L.take i) a c F z J q h9 (λh s=>by
  have e:=gI.to (aZ:=4) (aF h s) ak;rw[AA gY 4 ue]at e;rwa[oC,C7 ak]) Gp
 exact Gq
def U1(B:∀h,A h->h8 h bZ pc bo)(aA:∃h,h8 h bZ pc bo)(k:cr)(hk:k∈bo)(s:fU)(ai:s∈k.states)(r:Row)(aF:r∈s.rows)(d f F j:Nat)(O:j<r.cx.length):ab E 278 [af j,ptr d 0,ptr f 0,ptr F 0] Mm (p3 (qW bo k.states r.cx j) Mm):=by
 refine av Tryz.func278 λH D=>?_;obtain⟨bi,g⟩:=id aA;have ol:=g.len;have Fd:=g.rd.2;haveI ro:gw Gl A bo.length (bo.flatMap eH):=⟨λh=>(B _ h).rd.1⟩;refine Gr ?_;intro C t6 U R X md;haveI jP:gw CD A k.states.length CE:=⟨λh=>((B _ h).kinds k hk).sA.1⟩;haveI Do:gw Ag A k.cases.length vL:=⟨λh=>((B _ h).kinds k hk).sz.1⟩;have N:=C.states s ai;have V:=N.rd.2;have Pa:=N.len;have pl:=N.name;haveI Pg:gw LU A s.rows.length (s.rows.flatMap gY):=⟨λh=>(((B _ h).kinds k hk).states s ai).rd.1⟩;have S:=N.rows r aF;have aBW:=S.len;have T:=S.tag;haveI aBX:gw (.slice r.ea r.cx.length r.cZ) A r.cx.length (r.cx.flatMap fM):=⟨λh=>((((B _ h).kinds k hk).states s ai).rows r aF).rd.1⟩;obtain⟨e,Y⟩:∃e,r.cx[j]?=some e:=⟨_,cD O⟩;have a:=S.cx e (jH Y);have u:=alS (bo:=bo) (z:=k.states) Y;unfold fi at*;refine ct ?_;refine cw [] [13,201,1] [] ?_;refine bE ?_;refine go_v rfl .none rfl (gf rfl rfl O) ?_;refine go_v rfl .none rfl (kz rfl (kA fM 7 xT Y) rfl) ?_;refine bR ?_;refine go_v rfl .none rfl (kl (((r.cx.length:Int) -1)) (by rw[jz (by omega)]) rfl rfl) ?_;refine aG ?_;refine aU (ama bZ pc bo A B aA k hk e a (decide ((j:Int)=(r.cx.length:Int) -1))) ?_;refine dh ?_;refine ch (λW=>?_) (λW=>?_)
 . have ba:qW bo k.states r.cx j=some ((uk bo k.states e (decide ((j:Int)=(r.cx.length:Int) -1))),[]):=by rw[u,a7 ad]
   refine bR ?_;refine wn λn=>?_;refine bj ?_;exact aQ (I:=[aa n BT [af (uk bo k.states e (decide ((j:Int)=(r.cx.length:Int) -1))),.slice none 0 0],nV none 0 [],aa d 26 ([.slice bZ bo.length pc]),aa f 78 (eH k),aa F 85 (gY r),A]) (Mb (J:=[aa d 26 ([.slice bZ bo.length pc]),aa f 78 (eH k),aa F 85 (gY r),A]) ba) (λ_ h=>Sat.tail (r:=(aa d 26 ([.slice bZ bo.length pc])::aa f 78 (eH k)::aa F 85 (gY r)::A::D)) (m:=nV none 0 []::(aa d 26 ([.slice bZ bo.length pc])::aa f 78 (eH k)::aa F 85 (gY r)::A::D)) (λ_ h=>Up _ h) ((au) _ h))
 . have ba:qW bo k.states r.cx j=none:=by rw[u,bg ad]
   refine cB ?_;exact aQ (I:=Mm) (UA ba)
def U2(B:∀h,A h->h8 h bZ pc bo)(aA:∃h,h8 h bZ pc bo)(k:cr)(hk:k∈bo)(s:fU)(ai:s∈k.states)(i:Nat)(ak:i<s.rows.length):ab E 224 [.agg #[.slice bZ bo.length pc],.agg (eH k).toArray,.agg (gB s).toArray,af i] [A] (p3 (p4 bo k.states s.rows i) [A]):=by
 refine av Tryz.func224 λH D=>?_;obtain⟨bi,g⟩:=id aA;have ol:=g.len;have Fd:=g.rd.2;haveI ro:gw (.slice bZ bo.length pc) A bo.length (bo.flatMap eH):=⟨λh=>(B _ h).rd.1⟩;refine Gr ?_;intro C t6 U R X md;haveI jP:gw (.slice k.sa k.states.length k.sc) A k.states.length (k.states.flatMap gB):=⟨λh=>((B _ h).kinds k hk).sA.1⟩;haveI Do:gw (.slice k.ca k.cases.length k.kn) A k.cases.length (k.cases.flatMap jQ):=⟨λh=>((B _ h).kinds k hk).sz.1⟩;have N:=C.states s ai;have V:=N.rd.2;have Pa:=N.len;have pl:=N.name;haveI Pg:gw (.slice s.ra s.rows.length s.rc) A s.rows.length (s.rows.flatMap gY):=⟨λh=>(((B _ h).kinds k hk).states s ai).rd.1⟩;obtain⟨r,J⟩:∃r,s.rows[i]?=some r:=⟨_,cD ak⟩;have aF:=jH J;have S:=N.rows r aF;have aBW:=S.len;have T:=S.tag;haveI aBX:gw (.slice r.ea r.cx.length r.cZ) A r.cx.length (r.cx.flatMap fM):=⟨λh=>((((B _ h).kinds k hk).states s ai).rows r aF).rd.1⟩;have u:=alT (bo:=bo) (z:=k.states) J;unfold fi at*;refine bb ?_;refine wn λaL=>?_;refine wn λaR=>?_;refine wn λaM=>?_;refine bQ ?_;refine aB rfl (gf rfl rfl ak) ?_;refine aB rfl (kz rfl (kA gY 4 ue J) rfl) ?_;refine wn λcA=>?_;refine ct ?_;refine cn rfl (b9 rfl (alM r.cx r.ea r.cZ 275 [] [A] (λe=>decide (e.do'=4)) ad (vW λh a=>((((B h a).kinds k hk).states s ai).rows r aF).rd.1) (λd _=>al5 A d)) bN) ?_;refine Au ?_;refine iu [2,39,54,55] [2,39] [0,4,137,141,145,149,153,165,169,173,177,181,185,10,12,16,20,24,28,32,36,40,44,48,52,56,60,64,68,72,76,80,84,88,92,96,100,104,108,113,117,121,125,129,133,158,160,188,192,196,200,204,208,212,218,222,224] [aa aM 82 (gB s),aa cA 85 (gY r)] ?_;refine bE ?_;refine jJ rfl .none rfl (th rfl rfl (show i<=s.rc by omega)) (au) ?_;refine ct ?_;refine pB rfl .none rfl (b9 rfl (UE r.tag ad) bN) ?_;refine gU ?_;refine pC ?_;refine p5 (d:=52) [133,158,160,188,192,196,200,204,208,212,218,222,224] (.bool (gO r)) ?_ (λx=>?_)
 rotate_left
 . refine hn (j:=4) rfl rfl (λW=>?_) (λW=>?_)
   . have f:=bW W
     refine gq ?_;refine bQ ?_;unfold gO at x;exact kp x W W
   . have f:=bW W
     refine b2 ?_;refine hn (j:=7) rfl rfl (λM=>?_) (λM=>?_)
     . have v:=bW M
       refine bb ?_;refine tg rfl (.yes rfl rfl M) rfl (pw rfl rfl) ?_;refine b2 ?_;refine hn (j:=13) rfl rfl (λL=>?_) (λL=>?_)
       . have F:=bW L
         refine eY ?_;refine bR ?_;unfold gO at x;exact p7 x W M L
       . have F:=bW L
         refine bE ?_;refine hn (j:=18) rfl rfl (λf9=>?_) (λf9=>?_)
         . have Z:=bW f9
           refine gd ?_;unfold gO at x;exact Gs x W M L f9
         . have Z:=bW f9
           refine bE ?_;refine hn (j:=23) rfl rfl (λw=>?_) (λw=>?_)
           . have m7:=bW w
             refine cB ?_;unfold gO at x;exact U3 x W M L f9 w
           . have m7:=bW w
             refine bR ?_;refine hn (j:=27) rfl rfl (λl=>?_) (λl=>?_)
             . exact U4
             . exact U4
     . have v:=bW M
       refine c4 ?_;refine hn (j:=18) rfl rfl (λm=>?_) (λm=>?_)
       . have m8:=bW m
         refine gd ?_;unfold gO at x;exact p7 x W M m
       . have m8:=bW m
         refine bE ?_;refine hn (j:=23) rfl rfl (λq=>?_) (λq=>?_)
         . have pi:=bW q
           refine cB ?_;unfold gO at x;exact Gs x W M m q
         . have pi:=bW q
           refine bR ?_;refine hn (j:=27) rfl rfl (λy=>?_) (λy=>?_)
           . exact U5
           . exact U5
 refine pA (bd.cons (t:=66) rfl (bd.cons (t:=65) rfl (bd.cons (t:=58) rfl (bd.cons (t:=57) rfl (bd.cons (t:=52) rfl (bd.cons (t:=19) rfl (bd.cons (t:=18) rfl (bd.cons (t:=17) rfl (bd.cons (t:=16) rfl (bd.cons (t:=15) rfl (bd.cons (t:=14) rfl (bd.cons (t:=13) rfl (bd.cons (t:=12) rfl (bd.cons (t:=10) rfl (bd.cons (t:=9) rfl (bd.cons (t:=8) rfl (bd.cons (t:=6) rfl (bd.cons (t:=5) rfl (bd.cons (t:=4) rfl (bd.cons (t:=3) rfl (bd.cons (t:=2) rfl (bd.cons (t:=1) rfl (bd.cons (t:=0) rfl (bd.nil)))))))))))))))))))))))) ?_;refine aG ?_;refine pB rfl .none rfl (b9 rfl (ame s.rows i ad s.ra s.rc 277 [ptr cA 0] [A,aa cA 85 (gY r)] (λo=>uq o r) ad (vW λh a=>(((B h a).kinds k hk).states s ai).rd.1) (λd _=>al6 A cA d r)) bN) ?_;refine gU ?_;refine pC ?_;refine p5 (d:=72) [212,218,222,224] (.bool (rP r)) ?_ (λI=>?_)
 rotate_left
 . refine hn (j:=47) rfl rfl (λn=>?_) (λn=>?_)
   . exact U6
   . exact U6
 refine pA (bd.cons (t:=72) rfl (bd.cons (t:=65) rfl (bd.cons (t:=60) rfl (bd.cons (t:=53) rfl (bd.cons (t:=19) rfl (bd.cons (t:=18) rfl (bd.cons (t:=17) rfl (bd.cons (t:=16) rfl (bd.cons (t:=15) rfl (bd.cons (t:=14) rfl (bd.cons (t:=13) rfl (bd.cons (t:=12) rfl (bd.cons (t:=10) rfl (bd.cons (t:=9) rfl (bd.cons (t:=8) rfl (bd.cons (t:=6) rfl (bd.cons (t:=5) rfl (bd.cons (t:=4) rfl (bd.cons (t:=3) rfl (bd.cons (t:=2) rfl (bd.cons (t:=1) rfl (bd.cons (t:=0) rfl (bd.nil))))))))))))))))))))))) ?_;refine aG ?_;refine x8 rfl .none rfl (p6 (cs:=[(gO r,43),((s.rows.take i).any (λo=>uq o r),41),(decide (8<(r.cx.length:Int)),40),(rP r,45)].flatMap td) rfl rfl rfl rfl) ?_;rintro _ _ ⟨Y,rfl,rfl⟩;refine aG ?_;refine pB rfl .none rfl (b9 rfl (CZ [(gO r,43),((s.rows.take i).any (λo=>uq o r),41),(decide (8<(r.cx.length:Int)),40),(rP r,45)] Y gl) bN) ?_;refine vY ?_;rcases K:p4 bo k.states s.rows i with _|⟨c,ws⟩
 . refine bj ?_
   refine cn rfl (b9 rfl (vT (vV (C1 s.rows i r) r.cx.length ad 278 [ptr aL 0,ptr aR 0,ptr cA 0] [aa aL 26 [.slice bZ bo.length pc],aa aR 78 (eH k),aa cA 85 (gY r),A] (qW bo k.states r.cx) (λi c ws h=>by have:=Me i c ws h;omega) (λj O=>U1 bZ pc bo A B aA k hk s ai r aF aL aR cA j O)) (u▸K)) bN) ?_;exact Mn
 . refine bj ?_
   refine cn rfl (b9 rfl (vU (vV (C1 s.rows i r) r.cx.length ad 278 [ptr aL 0,ptr aR 0,ptr cA 0] [aa aL 26 [.slice bZ bo.length pc],aa aR 78 (eH k),aa cA 85 (gY r),A] (qW bo k.states r.cx) (λi c ws h=>by have:=Me i c ws h;omega) (λj O=>U1 bZ pc bo A B aA k hk s ai r aF aL aR cA j O)) (u▸K)) bN) ?_;exact Mo
def U7(B:∀h,A h->h8 h bZ pc bo)(aA:∃h,h8 h bZ pc bo)(k:cr)(hk:k∈bo)(s:fU)(ai:s∈k.states)(d f F j:Nat)(O:j<s.rows.length):ab E 223 [af j,ptr d 0,ptr f 0,ptr F 0] U8 (p3 (p4 bo k.states s.rows j) U8):=by
 refine av Tryz.func223 λH D=>?_;refine bj ?_;rcases K:p4 bo k.states s.rows j with _|⟨c,ws⟩
 . refine bE ?_
   refine aU (vT (U2 bZ pc bo A B aA k hk s ai j O) K) ?_;refine bE ?_;exact aQ cj
 . refine bE ?_
   refine bu (vU (U2 bZ pc bo A B aA k hk s ai j O) K) ?_;exact Mp
def U9(B:∀h,A h->h8 h bZ pc bo)(aA:∃h,h8 h bZ pc bo)(k:cr)(hk:k∈bo)(i:Nat)(ak:i<k.states.length):ab E 177 [.agg #[.slice bZ bo.length pc],.agg (eH k).toArray,af i] [A] (p3 (pz bo k.states i) [A]):=by
 refine av Tryz.func177 λH D=>?_;obtain⟨bi,g⟩:=id aA;have ol:=g.len;have Fd:=g.rd.2;haveI ro:gw Gl A bo.length (bo.flatMap eH):=⟨λh=>(B _ h).rd.1⟩;refine Gr ?_;intro C t6 U R X md;haveI jP:gw CD A k.states.length CE:=⟨λh=>((B _ h).kinds k hk).sA.1⟩;haveI Do:gw Ag A k.cases.length vL:=⟨λh=>((B _ h).kinds k hk).sz.1⟩;obtain⟨s,l⟩:∃s,k.states[i]?=some s:=⟨_,cD ak⟩;have ai:=jH l;have N:=C.states s ai;have V:=N.rd.2;have Pa:=N.len;have pl:=N.name;haveI Pg:gw LU A s.rows.length (s.rows.flatMap gY):=⟨λh=>(((B _ h).kinds k hk).states s ai).rd.1⟩;have u:=alU (bo:=bo) l;unfold fi at*;refine bb ?_;refine wn λay=>?_;refine wn λaL=>?_;refine bQ ?_;refine aB rfl (gf rfl rfl ak) ?_;refine aB rfl (kz rfl (kA gB 2 qV l) rfl) ?_;refine wn λbV=>?_;refine bR ?_;refine h0 [2,10,17,18] [2,10] [(0,.loc),(1,.loc),(5,.bL),(6,.bL),(7,.bL),(8,.bL),(9,.bL),(12,.bL),(13,.bL),(14,.bL),(15,.bL),(16,.bL),(2,.da),(3,.bL),(4,.bL),(10,.da),(11,.loc),(17,.da),(18,.da),(19,.loc)] [aa aL 78 (eH k),aa bV 82 (gB s)] mixed hM ?_;refine bE ?_;refine go_vs rfl .none rfl (th rfl rfl (show i<=k.sc by omega)) (au) ?_;refine bj ?_;refine go_c rfl .none rfl (b9 rfl (C3 (s.name) ad) bN) ?_;refine gU ?_;refine pC ?_;refine go_c rfl .none rfl (b9 rfl (amd k.states i ad k.sa k.sc 222 [ptr bV 0] [A,aa bV 82 (gB s)] (λd=>decide (d.name=s.name)) ad (vW λh a=>((B h a).kinds k hk).sA.1) (λd _=>al2 A bV d s)) bN) ?_;refine x7 ?_;refine go_n rfl .none rfl (p6 (cs:=[(!mc s.name,43),(ya (k.states.take i) s.name,41),(decide (16<(s.rows.length:Int)),40)].flatMap td) rfl rfl rfl rfl) ?_;rintro _ _ ⟨f,rfl,rfl⟩;refine aG ?_;refine go_c rfl .none rfl (b9 rfl (CZ [(!mc s.name,43),(ya (k.states.take i) s.name,41),(decide (16<(s.rows.length:Int)),40)] f gl) bN) ?_;refine vY ?_;rcases K:pz bo k.states i with _|⟨c,ws⟩
 . refine bj ?_
   refine cn rfl (b9 rfl (vT (vV (Gg k.states i s) s.rows.length ad 223 [ptr ay 0,ptr aL 0,ptr bV 0] [aa ay 26 [.slice bZ bo.length pc],aa aL 78 (eH k),aa bV 82 (gB s),A] (p4 bo k.states s.rows) (λi c ws h=>by have:=Mf i c ws h;omega) (λj O=>U7 bZ pc bo A B aA k hk s ai ay aL bV j O)) (u▸K)) bN) ?_;exact Mn
 . refine bj ?_
   refine cn rfl (b9 rfl (vU (vV (Gg k.states i s) s.rows.length ad 223 [ptr ay 0,ptr aL 0,ptr bV 0] [aa ay 26 [.slice bZ bo.length pc],aa aL 78 (eH k),aa bV 82 (gB s),A] (p4 bo k.states s.rows) (λi c ws h=>by have:=Mf i c ws h;omega) (λj O=>U7 bZ pc bo A B aA k hk s ai ay aL bV j O)) (u▸K)) bN) ?_;exact Mo
def Va(B:∀h,A h->h8 h bZ pc bo)(aA:∃h,h8 h bZ pc bo)(k:cr)(hk:k∈bo)(d f j:Nat)(O:j<k.states.length):ab E 176 [af j,ptr d 0,ptr f 0] Vb (p3 (pz bo k.states j) Vb):=by
 refine av Tryz.func176 λH D=>?_;refine bj ?_;rcases K:pz bo k.states j with _|⟨c,ws⟩
 . refine bR ?_
   refine aU (vT (U9 bZ pc bo A B aA k hk j O) K) ?_;refine bE ?_;exact aQ cj
 . refine bR ?_
   refine bu (vU (U9 bZ pc bo A B aA k hk j O) K) ?_;exact Mp
def Vc(B:∀h,A h->h8 h bZ pc bo)(aA:∃h,h8 h bZ pc bo)(i:Nat)(ak:i<bo.length):ab E 99 [.agg #[.slice bZ bo.length pc],af i] [A] (p3 (qX bo i) [A]):=by
 refine av Tryz.func99 λH D=>?_;obtain⟨bi,g⟩:=id aA;have ol:=g.len;have Fd:=g.rd.2;haveI ro:gw (.slice bZ bo.length pc) A bo.length (bo.flatMap eH):=⟨λh=>(B _ h).rd.1⟩;obtain⟨k,i8⟩:∃k,bo[i]?=some k:=⟨_,cD ak⟩;have hk:=jH i8;refine Gr ?_;intro C t6 U R X md;haveI jP:gw (.slice k.sa k.states.length k.sc) A k.states.length (k.states.flatMap gB):=⟨λh=>((B _ h).kinds k hk).sA.1⟩;haveI Do:gw (.slice k.ca k.cases.length k.kn) A k.cases.length (k.cases.flatMap jQ):=⟨λh=>((B _ h).kinds k hk).sz.1⟩;have u:=alV i8;unfold fi at*;refine bb ?_;refine wn λV=>?_;refine bQ ?_;refine aB rfl (gf rfl rfl ak) ?_;refine L1 ?_;refine wn λaR=>?_;refine ct ?_;refine cn rfl (b9 rfl (Uu k.cases k.ca k.kn 171 [] [A] tf ad (vW λh a=>((B h a).kinds k hk).sz.1) (λd aS=>alZ A d (C.cases d aS))) bN) ?_;refine gU ?_;refine fC ?_;refine eY ?_;refine b2 ?_;refine hb (bv:=Nat) (λx=>x<=k.cases.length) (λx=>[(22,af x),(21,af k.cases.length),(20,.slice k.ca k.cases.length k.kn),(7,.bool (um k.cases x)),(6,.bool (k.cases.any tf)),(5,ptr aR 0),(2,ptr V 0),(1,af i)]) (λ_=>aa aR 78 (eH k)::aa V 26 [.slice bZ bo.length pc]::A::D) (λx=>k.cases.length -x) 0 (fk _) eb (au) ?_;rintro x ah;replace ah:x<=k.cases.length:=ah;refine bj ?_;refine ch (λW=>?_) (λW=>?_)
 . obtain⟨c,a6⟩:∃c,k.cases[x]?=some c:=⟨_,cD (show x<k.cases.length by omega)⟩
   refine ct ?_;refine aB rfl (gf rfl rfl (show x<k.cases.length by omega)) ?_;refine aB rfl (kz rfl (kA jQ 2 Al a6) rfl) ?_;refine wn λcA=>?_;refine ct ?_;refine mN (d:=35) 7 (.bool (um k.cases (x+1))) ?_ (λn=>?_)
   rotate_left
   . refine hY rfl rfl (λM=>?_) (λM=>?_) rfl
     . have v:=bW M
       refine bj ?_;refine aB rfl (th rfl rfl (show x<=k.kn by omega)) ?_;refine b2 ?_;refine cn rfl (b9 rfl (amb k.cases x ad k.ca k.kn 173 [ptr cA 0] [A,aa cA 89 (jQ c)] (λd=>decide (d.reason=c.reason)) ad (vW λh a=>((B h a).kinds k hk).sz.1) (λd _=>al0 A cA d c)) bN) ?_;refine gU ?_;refine rL ?_;exact Vd
     . have v:=bW M
       simp only[iE];refine bj ?_;exact Vd
   refine bE ?_;refine Mc ?_;refine gg (x+1) (show x+1<=k.cases.length by omega) (show k.cases.length -(x+1)<k.cases.length -x by omega) eb (au)
 . obtain rfl:x=k.cases.length:=by omega
   refine bj ?_;refine iu [2,30,53,54] [2,30] [0,4,101,105,109,113,117,129,133,137,141,197,201,205,209,10,12,16,20,24,28,32,36,40,44,48,52,56,60,64,68,72,76,81,85,89,93,97,122,124,144,148,152,156,160,164,168,172,176,180,184,188,192,214,218,220] [aa V 26 [.slice bZ bo.length pc],aa aR 78 (eH k)] ?_;refine bE ?_;refine jJ rfl .none rfl (th rfl rfl (show i<=pc by omega)) (au) ?_;refine cB ?_;refine pB rfl .none rfl (b9 rfl (C3 (k.name) ad) bN) ?_;refine gU ?_;refine pC ?_;refine p5 (d:=60) [97,122,124,144,148,152,156,160,164,168,172,176,180,184,188,192,214,218,220] (.bool (cR k)) ?_ (λe=>?_)
   rotate_left
   . refine hn (j:=4) rfl rfl (λL=>?_) (λL=>?_)
     . have F:=bW L
       refine eY ?_;refine bR ?_;unfold cR at e;exact kp e L L
     . have F:=bW L
       refine bE ?_;refine hn (j:=9) rfl rfl (λf9=>?_) (λf9=>?_)
       . have Z:=bW f9
         refine gd ?_;unfold cR at e;exact kp e L f9
       . have Z:=bW f9
         refine bE ?_;refine hn (j:=14) rfl rfl (λw=>?_) (λw=>?_)
         . have m7:=bW w
           refine cB ?_;unfold cR at e;exact p7 e L f9 w
         . have m7:=bW w
           refine bE ?_;refine hn (j:=19) rfl rfl (λl=>?_) (λl=>?_)
           . exact Ve
           . exact Ve
   refine pA (bd.cons (t:=89) rfl (bd.cons (t:=87) rfl (bd.cons (t:=72) rfl (bd.cons (t:=66) rfl (bd.cons (t:=65) rfl (bd.cons (t:=60) rfl (bd.cons (t:=23) rfl (bd.cons (t:=22) rfl (bd.cons (t:=21) rfl (bd.cons (t:=20) rfl (bd.cons (t:=7) rfl (bd.cons (t:=6) rfl (bd.cons (t:=5) rfl (bd.cons (t:=2) rfl (bd.cons (t:=1) rfl (bd.nil)))))))))))))))) ?_;refine aG ?_;refine pB rfl .none rfl (b9 rfl (amc bo i ad bZ pc 175 [ptr aR 0] [A,aa aR 78 (eH k)] (λd=>decide (d.name=k.name)) ad (vW λh a=>(B h a).rd.1) (λd _=>al1 A aR d k)) bN) ?_;refine gU ?_;refine pC ?_;refine p5 (d:=84) [192,214,218,220] (.bool (il k)) ?_ (λf=>?_)
   rotate_left
   . refine hn (j:=36) rfl rfl (λm=>?_) (λm=>?_)
     . have m8:=bW m
       refine c4 ?_;unfold il at f;exact kp f m m
     . have m8:=bW m
       refine bj ?_;refine hn (j:=42) rfl rfl (λq=>?_) (λq=>?_)
       . exact Vf
       . exact Vf
   refine pA (bd.cons (t:=89) rfl (bd.cons (t:=87) rfl (bd.cons (t:=84) rfl (bd.cons (t:=68) rfl (bd.cons (t:=61) rfl (bd.cons (t:=23) rfl (bd.cons (t:=22) rfl (bd.cons (t:=21) rfl (bd.cons (t:=20) rfl (bd.cons (t:=7) rfl (bd.cons (t:=6) rfl (bd.cons (t:=5) rfl (bd.cons (t:=2) rfl (bd.cons (t:=1) rfl (bd.nil))))))))))))))) ?_;refine aG ?_;refine x8 rfl .none rfl (p6 (cs:=[(cR k,43),(rO (bo.take i) k.name,41),(il k,40),(k.cases.any tf,43),(um k.cases k.cases.length,41)].flatMap td) rfl rfl rfl rfl) ?_;rintro _ _ ⟨o,rfl,rfl⟩;refine aG ?_;refine pB rfl .none rfl (b9 rfl (CZ [(cR k,43),(rO (bo.take i) k.name,41),(il k,40),(k.cases.any tf,43),(um k.cases k.cases.length,41)] o gl) bN) ?_;refine vY ?_;rcases K:qX bo i with _|⟨c,ws⟩
   . refine bj ?_
     refine cn rfl (b9 rfl (vT (vV (x6 bo i k) k.states.length ad 176 [ptr V 0,ptr aR 0] [aa V 26 [.slice bZ bo.length pc],aa aR 78 (eH k),A] (pz bo k.states) (λi c ws h=>by have:=Mg i c ws h;omega) (λj O=>Va bZ pc bo A B aA k hk V aR j O)) (u▸K)) bN) ?_;exact Mn
   . refine bj ?_
     refine cn rfl (b9 rfl (vU (vV (x6 bo i k) k.states.length ad 176 [ptr V 0,ptr aR 0] [aa V 26 [.slice bZ bo.length pc],aa aR 78 (eH k),A] (pz bo k.states) (λi c ws h=>by have:=Mg i c ws h;omega) (λj O=>Va bZ pc bo A B aA k hk V aR j O)) (u▸K)) bN) ?_;exact Mo
def Vg(B:∀h,A h->h8 h bZ pc bo)(aA:∃h,h8 h bZ pc bo)(d j:Nat)(O:j<bo.length):ab E 98 [af j,ptr d 0] [aa d 26 C9,A] (p3 (qX bo j) [aa d 26 C9,A]):=by
 refine av Tryz.func98 λH D=>?_;refine bj ?_;rcases K:qX bo j with _|⟨c,ws⟩
 . refine b2 ?_
   refine aU (vT (Vc bZ pc bo A B aA j O) K) ?_;refine bE ?_;exact aQ cj
 . refine b2 ?_
   refine bu (vU (Vc bZ pc bo A B aA j O) K) ?_;exact Mp
def Vh(B:∀h,A h->h8 h bZ pc bo)(aA:∃h,h8 h bZ pc bo):ab E 55 [.agg #[.slice bZ bo.length pc]] [A] (Ma (rQ bo) [A]):=by
 refine av Tryz.func55 λH D=>?_;obtain⟨bi,g⟩:=id aA;have ol:=g.len;have Fd:=g.rd.2;haveI ro:gw Gl A bo.length (bo.flatMap eH):=⟨λh=>(B _ h).rd.1⟩;unfold fi at*;refine bb ?_;refine wn λar=>?_;refine dh ?_;refine mN (d:=14) 5 (.bool (decide ((bo.length:Int)<1)||decide (8<(bo.length:Int)))) ?_ (λe=>?_)
 rotate_left
 . refine hY rfl rfl (λW=>?_) (λW=>?_) rfl
   . have f:=bW W
     refine bQ ?_;exact jo e
   . have f:=bW W
     simp only[iE];refine bR ?_;exact jo e
 refine aG ?_;refine jn rfl (p6 (cs:=[(decide ((bo.length:Int)<1)||decide (8<(bo.length:Int)),40)].flatMap td) rfl rfl rfl rfl) ?_;rintro _ _ ⟨Gt,rfl,rfl⟩;refine cn rfl (b9 rfl (CZ [(decide ((bo.length:Int)<1)||decide (8<(bo.length:Int)),40)] Gt gl) bN) ?_;refine vY ?_;rcases K:rQ bo with _|⟨c,ws⟩
 . refine bj ?_
   refine cn rfl (b9 rfl (vT (vV (Mq bo) bo.length ad 98 [ptr ar 0] [aa ar 26 [.slice bZ bo.length pc],A] (qX bo) (λi c ws h=>by have:=UB i c ws h;omega) (λj O=>Vg bZ pc bo A B aA ar j O)) K) bN) ?_;refine gU ?_;refine fC ?_;refine eY ?_;refine bR ?_;exact aQ cj
 . refine bj ?_
   refine cn rfl (b9 rfl (vU (vV (Mq bo) bo.length ad 98 [ptr ar 0] [aa ar 26 [.slice bZ bo.length pc],A] (qX bo) (λi c ws h=>by have:=UB i c ws h;omega) (λj O=>Vg bZ pc bo A B aA ar j O)) K) bN) ?_;rintro _ D ⟨_,⟨b,a,p,rfl,rfl⟩,rfl⟩;refine fC ?_;refine fB ?_;refine aB rfl (jR Tryz.underlying131 rfl rfl) ?_;refine bj ?_;exact aQ ⟨_,_,_,rfl,rfl⟩
end
end Go.Proofs.YtnnhpnccfnghdaaGreat.C
namespace Go.L.Th
open Go.L Go.L.Lx Go.L.Pg Go.L.Ring Go.L.dD Go.L.ej Go.L.Whl Go.L.dP Go.L.Led
section
variable{b:Bool}{K:List cr}{n:cG}
def avS{i:Nat}{r k:ll}(h:Ap i r k=none):r=none/\k=none:=by
 cases r with
 |none=>exact⟨rfl,h⟩
 |some x=>cases h
def ai8{D:Nat->ll}:∀{n i:Nat},fst D i n=none->∀j,i<=j->j<i+n->D j=none
 |0,i,_,j,h1,h2=>absurd h2 ad
 |
  n+1,i,h,j,h1,h2=>by
  obtain⟨aN,bA⟩:=avS (show Ap i (D i) (fst D (i+1) n)=none from h);by_cases e:j=i
  . rw[e];exact aN
  . exact ai8 bA j ad ad
def Lk{own:Int}{n:Nat}{D:Nat->ll}(h:me own n D=none):own=0/\∀j,j<n->D j=none:=by
 unfold me at h;split at h
 . rename_i bi;exact⟨bi,λj O=>ai8 h j (fk _) ad⟩
 . cases h
def oq{c:Int}{l:List (Bool×Int)}(h:oz ((b,c)::l)=0)(a6:c≠0):b=false/\oz l=0:=by
 unfold oz at h;cases b with
 |true=>exact absurd h a6
 |false=>exact⟨rfl,h⟩
def avT(h:rO K n=true):(lf K n).isSome=true:=by
 unfold rO at h;unfold lf;rw[List.find?_isSome];obtain⟨x,ah,e⟩:=zs.1 h;exact⟨x,ah,e⟩
def avU(h:rO K n=false):lf K n=none:=by
 unfold rO at h;unfold lf;rw[RD];intro x ah e;rw[EQ]at h;exact h x ah e
def avV{S:List fU}{e:fF}{b:Bool}(h:uk K S e b=0):1<=e.do'/\e.do'<=12/\(e.do'=2->(lf K e.name).isSome=true)/\(0<=e.n/\e.n<=255):=by
 unfold uk at h;obtain⟨h1,h⟩:=oq h bw;obtain⟨_,h⟩:=oq h bw;obtain⟨_,h⟩:=oq h bw;obtain⟨_,h⟩:=oq h bw;obtain⟨_,h⟩:=oq h bw;obtain⟨_,h⟩:=oq h bw;obtain⟨l,h⟩:=oq h bw;obtain⟨c,-⟩:=oq h bw;unfold aC at h1;unfold qY at l;unfold vX at c;simp only[SK,tL]at h1 l;rw[SK]at c;refine⟨by omega,by omega,λh2=>?_,by omega⟩;have:=c.1;rw[lM h2,kP]at this;exact avT (by simpa using this)
def Ll(h:rQ K=none):K.length<=8/\K≠[]/\(∀k∈K,K.find? (λx=>decide (x.name=k.name))=some k)/\h7 K:=by
 obtain⟨bi,h1⟩:=Lk h;obtain⟨bi,-⟩:=oq bi bw;simp only[SK,tL]at bi;have V:K≠[]:=λe=>by subst e;simp at bi
 have key:∀j k,K[j]?=some k->x6 K j k=0/\∀i s,k.states[i]?=some s->pz K k.states i=none:=λj k O=>by
  have h2:=h1 j (dp.1 O).1;unfold qX at h2;rw[O]at h2;obtain⟨aN,bA⟩:=Lk h2;exact⟨aN,λi s ak=>bA i (dp.1 ak).1⟩
 refine⟨by omega,V,λk hk=>?_,V,λk hk=>?_⟩
 . obtain⟨j,O⟩:=Fj.1 hk
   obtain⟨h2,-⟩:=key j k O;unfold x6 at h2;obtain⟨_,h2⟩:=oq h2 bw;obtain⟨aN,_⟩:=oq h2 bw;have bA:=avU aN;obtain⟨d4,e⟩:=dp.1 O;have aV:K=K.take j++k::K.drop (j+1):=by
    rw[<-e,<-s5 d4,CL]
   unfold lf at bA;rw[aV,List.find?_append,bA];simp
 . obtain⟨j,O⟩:=Fj.1 hk
   obtain⟨h2,aN⟩:=key j k O;unfold x6 at h2;obtain⟨_,h2⟩:=oq h2 bw;obtain⟨_,h2⟩:=oq h2 bw;obtain⟨bA,_⟩:=oq h2 bw;unfold il at bA;simp only[SK,tL]at bA;refine⟨λe=>by rw[e]at bA;simp at bA,λt U r aF=>?_⟩;obtain⟨i,ak⟩:=Fj.1 U;have d3:=aN i t ak;unfold pz at d3;rw[ak]at d3;obtain⟨-,g3⟩:=Lk d3;obtain⟨m,bf⟩:=Fj.1 aF;have l:=g3 m (dp.1 bf).1;unfold p4 at l;rw[bf]at l;obtain⟨c,p⟩:=Lk l;unfold C1 at c;obtain⟨_,c⟩:=oq c bw;obtain⟨_,c⟩:=oq c bw;obtain⟨d,_⟩:=oq c bw;simp only[tL]at d;refine⟨by omega,λe Y=>?_⟩;obtain⟨q,bt⟩:=Fj.1 Y;have a:=p q (dp.1 bt).1;unfold qW at a;rw[bt]at a;simp only at a;split at a
   . rename_i b;exact avV b
   . cases a
end
end Go.L.Th
namespace Go.Proofs.YtnnhpnccfnghdaaGreat.L.bM
open Go.Proofs.YtnnhpnccfnghdaaGreat.L
open Go.L Go.L.Ring Go.L.dD Go.L.ej Go.L.Whl Go.L.dP Go.L.Lx Go.L.Pg
open Go.L.Led (du dH dW bm aw fo)
open Go.L.Th (bO c0 dn bG dE bU b3 e4 b0 aq most dY cS fp eR dZ In cX c9 eS bB bP eT eU bn cI dF go bo Good ei eV ec acc Inv eG e5 fj busy dA eC eh fr)
open Go.Proofs.YtnnhpnccfnghdaaGreat.C (Ma L9 nV)
attribute[local irreducible] G cJ GE c3 GT b1 dk c7 ds Exit.then Exit.inBlock
abbrev aAI:TypeId:=134
def LA{P:Program}{F:FuncId}{args:List Value}{A:al}{post:Value->List al->Prop}{p:Prop}(h:∀h,A h->p)(f:p->ab P F args [A] post):ab P F args [A] post:=λH D w s=>f (by
 obtain⟨h1,_,_,_,a,_⟩:=s.fg;exact h _ a) H D w s
def aks(c:Int)(ws:List Int)(b:Nat):al:=dq (bv:=Option Addr×Nat) (λ_=>True) (λF=>[aa b aAI [af c,.slice F.1 ws.length F.2],nV F.1 F.2 ws])
section
variable{bZ:Option Addr}{pc:Nat}{K:List cr}{a2:al}
def aAJ(o:∀h,a2 h->h8 h bZ pc K)(h:rQ K=none):ab E 55 Jn [a2] (aH (.nilIface) [a2]):=
 LA (λh a=>⟨h,o h a⟩) λaA=>(C.Vh bZ pc K a2 o aA).mono λu I q=>by rw[h]at q;exact q
def aAK(o:∀h,a2 h->h8 h bZ pc K){c:Int}{ws:List Int}(h:rQ K=some (c,ws)):ab E 55 Jn [a2] (λu I=>∃b,u=.iface 131 (ptr b 0)/\I=[aks c ws b,a2]):=
 LA (λh a=>⟨h,o h a⟩) λaA=>qM [] (C.Vh bZ pc K a2 o aA) kS λu I q=>by
  rw[h]at q;obtain⟨b,a,p,rfl,rfl⟩:=q;exact⟨_,⟨b,rfl,rfl⟩,λh s=>cE (D:=[a2]) (a,p) trivial kS h s⟩
def Ty{P:List cr}(h:Th.h7 P):Th.h7 (P.map dQ):=by
 have ba:∀n,(Th.lf P n).isSome=true->(Th.lf (P.map dQ) n).isSome=true:=λn aO=>by
  unfold Th.lf at*;rw[List.find?_isSome]at*;obtain⟨x,ah,e⟩:=aO;exact⟨dQ x,lN.2 ⟨x,ah,rfl⟩,e⟩
 refine⟨λe=>h.ne (List.map_eq_nil_iff.1 e),λk hk=>?_⟩;obtain⟨fL,mp,rfl⟩:=lN.1 hk;have g:=h.kinds fL mp;refine⟨λe=>g.st (List.map_eq_nil_iff.1 (show fL.states.map jm=[]from e)),λt U r aF=>?_⟩;obtain⟨t0,hO,rfl⟩:=lN.1 (show t∈fL.states.map jm from U);obtain⟨l,a,rfl⟩:=lN.1 (show r∈t0.rows.map mK from aF);obtain⟨h1,h2⟩:=g.cx t0 hO l a;exact⟨h1,λe Y=>⟨(h2 e Y).1,(h2 e Y).2.1,λd=>ba _ ((h2 e Y).2.2.1 d),(h2 e Y).2.2.2⟩⟩
def LB{C:bO}(N:C.ok)(o:∀h,a2 h->h8 h bZ pc K)(cV:rQ K=none){s:aq}(ai:Th.start C pS=some s):ab E 28 [.agg (sD (rq C)).toArray,.agg #[.slice bZ K.length pc]] [a2] (λu I=>∃h,u=.tuple #[ptr h 0,.nilIface]/\I=[l0 C pS h s,a2]):=by
 obtain⟨h1,_,aN,_⟩:=Th.Ll cV;refine LA (λh a=>show∀k∈K,lL k from λk hk=>T5 ((o h a).kinds k hk)) λhk=>?_;refine qM [] (aAi bZ pc K a2 C N o hk h1 aN (aAJ o cV) s ai) kS λu I ⟨X,z,aC,aV,aj,bF,cd⟩=>⟨_,⟨X.h,bF,rfl⟩,λh s=>?_⟩;subst cd;rw[<-aC,<-aV];exact Em (D:=[a2]) aj h ((show∀h,Sat ((a2::bh X z _)++[]) h->Sat (bh X z _++[a2]) h from by simp only[ck,ci,jb];exact(au)) h s)
end
section
variable(C:bO)(bZ:Option Addr)(pc:Nat)(K:List cr)(ea:Option Addr)(cZ:Nat)(es:List dA)(r:Int)(a2:al)(c:l5)
abbrev aAL:Prop:=∀l:cG,fi l.length->ab E 92 [S l] [] (aH (.bool (mc l)) [])
def PF:aAL:=λl aw=>by
 unfold fi at aw;exact C3 l ad
def ac7(x:bG):qn (kv x) (kv x)=true:=by
 simp[qn,kv]
abbrev Bc(C:l5)(bZ:Option Addr)(pc:Nat)(K:List cr)(ea:Option Addr)(cZ:Nat)(es:List dA)(r:Int):List Value:=sD C++[.slice bZ K.length pc,.slice ea es.length cZ,af r]
abbrev Tz(P:List cr)(s:aq)(e:dA):Option aq:=(Th.nO C P s e).map (·.1)
structure zY(C:bO)(P:List cr)(es:List dA)(y:aq)(i:Nat)(s:aq):Prop where
 r:eh C P (1+i) s
 hp:(es.drop i).foldlM (Tz C P) s=some y
 ak:i<=es.length
def zY.next{C:bO}{P:List cr}{es:List dA}{y s:aq}{i:Nat}{e:dA}(N:C.ok)(dg:Th.h7 P)(h:zY C P es y i s)(Y:es[i]?=some e)(aw:es.length<=400):∃aW l,Th.nO C P s e=some (aW,l)/\zY C P es y (i+1) aW:=by
 obtain⟨d4,u⟩:=dp.1 Y;have hk:Th.hh=10000000:=rfl;obtain⟨aW,l,aC,gO⟩:=Th.Cj (Th.sS N) N dg ad h.r e;refine⟨aW,l,aC,⟨gO,?_,d4⟩⟩;have bi:=h.hp;rw[s5 d4,u,List.foldlM_cons]at bi;rw[show Tz C P s e=some aW by unfold Tz;rw[aC];rfl]at bi;exact bi
def zY.fin{C:bO}{P:List cr}{es:List dA}{y s:aq}(h:zY C P es y es.length s):y=s:=by
 exact ade
def akt(l:List bG)(a aD:Option Addr)(c aI:Nat)(aw:l.length<=most):ab E 27 [.slice a l.length c,.slice aD l.length aI] [di a c l,di aD aI l] (aH hI [di a c l,di aD aI l]):=by
 refine av Tryz.func27 λH D=>?_;have ip:l.length<=1099511627776:=aw;refine dB ?_;refine aB rfl (fS (c:=false) gl (mh rfl rfl)) ?_;refine dB ?_;refine hb (bv:=Nat) (λF=>F<=l.length) (λF=>[(5,af F),(0,.slice a l.length c),(1,.slice aD l.length aI)]) (λF=>di a c l::di aD aI l::D) (λF=>l.length -F) 0 (fk _) eb (au) ?_;intro i ak;replace ak:i<=l.length:=ak;refine cB ?_;refine ch (λW=>?_) (λW=>?_)
 . obtain⟨e,U⟩:∃e,l[i]?=some e:=⟨_,cD (show i<l.length by omega)⟩
   refine bE ?_;refine cw [] [9] [di a c l,di aD aI l] ?_;refine bb ?_;refine Qt ?_;refine go_v rfl .none rfl (kz rfl (kA kv 9 zH U) rfl) ?_;refine bb ?_;refine go_v rfl .none rfl (gf (v:=.slice aD l.length aI) rfl rfl (show i<l.length by omega)) ?_;refine go_v rfl .none rfl (kz rfl (kA kv 9 zH U) rfl) ?_;refine go_v rfl .none rfl (fS (c:=false) (by show(!qn (kv e) (kv e))=false;rw[ac7];rfl) (YV rfl rfl rfl rfl)) ?_;refine T2 ?_;refine gg (i+1) (show i+1<=l.length by omega) (show l.length -(i+1)<l.length -i by omega) eb (au)
 . refine dB ?_
   exact aQ cj
def aAM(N:C.ok)(o:∀h,a2 h->h8 h bZ pc K)(q:∀h,a2 h->jd h ea cZ es.length w1)(y:fi (es.length*48))(g:∀e∈es,fi e.tag.length)(cV:rQ K=none)(F:aq×Bool)(T:fr C pS es r=some F):ab E 23 [.agg (Bc (rq C) bZ pc K ea cZ es r).toArray] [a2] (λu I=>∃h,u=ptr h 0/\I=[l0 C pS h F.1,a2]):=by
 refine av Tryz.func23 λH D=>?_;have dg:=Ty (Th.Ll cV).2.2.2;haveI:gw (.slice ea es.length cZ) a2 es.length w1:=⟨λh=>(q _ h).1⟩;unfold fi at y;obtain⟨er,aC,z⟩:=ij.1 T;obtain⟨a,aV,bF⟩:=ij.1 z;have l:eh C pS (1+0) er:=by
  obtain⟨m,L,l⟩:=Th.Le N dg;rw[aC]at L;cases L;exact l
 have hw:Th.hh=10000000:=rfl;have aw:(es.take 400).length=min 400 es.length:=oC;refine bb ?_;refine wn λar=>?_;refine cB ?_;refine bu (LB N o cV aC) ?_;rintro _ _ ⟨h,rfl,rfl⟩;refine adK ?_;refine og ?_;refine cB ?_;refine hb (bv:=Nat×aq) (λF=>zY C (K.map dQ) (es.take 400) a F.1 F.2) (λF=>[(5,af F.1),(3,ptr h 0),(1,ptr ar 0)]) (λF=>l0 C (K.map dQ) h F.2::aa ar 57 Qh::a2::D) (λF=>(es.take 400).length -F.1) (0,er) (⟨l,aV,fk _⟩) eb (au) ?_;rintro⟨i,aW⟩ bK;replace bK:zY C pS (es.take 400) a i aW:=bK;have ak:=bK.ak;dsimp only;refine cB ?_;refine mN (d:=24) 3 (.bool (decide ((i:Int)<(es.length:Int))&&decide ((i:Int)<400))) ?_ (λb=>?_)
 rotate_left
 . refine hY rfl rfl (λW=>?_) (λW=>?_) rfl
   . have f:=bW W
     refine bR ?_;exact jo b
   . have f:=bW W
     simp only[iE];refine bb ?_;exact jo b
 refine bb ?_;refine ch (λM=>?_) (λM=>?_)
 . obtain⟨e,Y⟩:∃e,(es.take 400)[i]?=some e:=⟨_,cD (by have p:=M;simp only[iy,ln]at p;omega)⟩
   have c:es[i]?=some e:=by rw[ahk]at Y;split at Y;exact Y;cases Y
   obtain⟨cb,V,aS,j⟩:=bK.next N dg Y ad;have d4:i<es.length:=(dp.1 c).1;have v:i<(es.take 400).length:=(dp.1 Y).1;refine cB ?_;refine aB rfl (gf rfl rfl (show i<es.length by omega)) ?_;refine aB rfl (kz rfl (kA hR 5 akh c) rfl) ?_;refine cn rfl (b9 rfl (Tv N dg bK.r ad abQ aS) bN) ?_;refine vY ?_;refine vM ?_;refine gg (i+1,cb) j (show(es.take 400).length -(i+1)<(es.take 400).length -i by omega) eb (au)
 . obtain rfl:i=(es.take 400).length:=by
    have p:=M;simp only[Bool.and_eq_false_iff,tL]at p;omega
   obtain rfl:=bK.fin;refine dh ?_;refine aB rfl (ta (min r 400) (by rw[Int.min_def];split<;>split<;>omega) rfl rfl) ?_;refine cn rfl (b9 rfl (akp (k:=min r 400) N dg bK.r rfl ad bF) bN) ?_;refine gU ?_;refine fC ?_;refine dh ?_;exact aQ ⟨h,rfl,rfl⟩
def aku(a6:c.okB=false):ab E 23 Ek [a2] (aH fN [a2]):=by
 refine av Tryz.func23 λH D=>?_;refine bb ?_;refine wn λar=>?_;refine cB ?_;refine bu (aAx bZ pc K a2 c a6) ?_;exact afo
def akv(a6:c.okB=true)(o:∀h,a2 h->h8 h bZ pc K)(f:Int×List Int)(ba:rQ K=some f):ab E 23 Ek [a2] (aH fN [a2]):=by
 refine av Tryz.func23 λH D=>?_;refine bb ?_;refine wn λar=>?_;refine cB ?_;refine bu (aAy bZ pc K a2 c a6 (aks f.1 f.2) (aAK o ba)) ?_;exact afo
end
end Go.Proofs.YtnnhpnccfnghdaaGreat.L.bM
namespace Go.Proofs.YtnnhpnccfnghdaaGreat.L.bM
open Go.Proofs.YtnnhpnccfnghdaaGreat.L
open Go.L Go.L.Ring Go.L.dD Go.L.ej Go.L.Whl Go.L.dP Go.L.Lx Go.L.Pg
open Go.L.Led (du dH dW bm aw fo)
open Go.L.Th (bO c0 dn bG dE bU b3 e4 b0 aq most dY cS fp eR dZ In cX c9 eS bB bP eT eU bn cI dF go bo Good ei eV ec acc Inv eG e5 fj busy dA eC eh fr)
open Go.Proofs.YtnnhpnccfnghdaaGreat.C (Ma L9)
attribute[local irreducible] G cJ GE c3 GT b1 dk c7 ds Exit.then Exit.inBlock
section
variable(aM Z dm J:Nat){n h:Nat}{s:aq}{y:aq×Bool}
def D8:List Row:=[⟨[120],false,0,some ⟨aM,0,none⟩,1,[Th.zT]⟩]
def D7:List fU:=[⟨[115],some ⟨Z,0,none⟩,1,D8 aM⟩]
def D6:List cr:=[⟨[97],0,1,none,0,[],some ⟨dm,0,none⟩,1,D7 aM Z⟩]
def LC:al:=MU [aa J 78 ((D6 aM Z dm).flatMap eH),aa dm 82 ((D7 aM Z).flatMap gB),aa Z 85 ((D8 aM).flatMap gY),aa aM 87 ([Th.zT].flatMap fM)]
def aAN:∀h,LC aM Z dm J h->h8 h Ey 1 (D6 aM Z dm):=λh s=>by
 have h1:fi 1:=ID;have a:gI h (.slice Ey 1 1) 1 ((D6 aM Z dm).flatMap eH):=je.get s;have w:=je.get (v:=.slice (some ⟨dm,0,none⟩) 1 1) (n:=1) (xs:=(D7 aM Z).flatMap gB) s;have E:=je.get (v:=.slice (some ⟨Z,0,none⟩) 1 1) (n:=1) (xs:=(D8 aM).flatMap gY) s;have b:=je.get (v:=.slice (some ⟨aM,0,none⟩) 1 1) (n:=1) (xs:=[Th.zT].flatMap fM) s;refine⟨⟨a,et _⟩,(show fi (1*80) by unfold fi;decide),λk hk=>?_⟩;obtain rfl:=rN.1 hk;refine⟨h1,⟨.inl ⟨rfl,rfl,rfl⟩,et _⟩,(show fi (0*24) by unfold fi;decide),(λc a6=>absurd a6 Ah),⟨w,et _⟩,(show fi (1*40) by unfold fi;decide),λx ah=>?_⟩;obtain rfl:=rN.1 ah;refine⟨h1,⟨E,et _⟩,(show fi (1*56) by unfold fi;decide),λr aF=>?_⟩;obtain rfl:=rN.1 aF;refine⟨h1,⟨b,et _⟩,(show fi (1*80) by unfold fi;decide),λe Y=>?_⟩;obtain rfl:=rN.1 Y;exact⟨by unfold fi;decide,by unfold fi;decide,by unfold fi;decide⟩
def aAO:ab E 28 [.agg (sD (rq Th.jG)).toArray,.agg #[.slice Ey 1 1]] [LC aM Z dm J] (λu I=>∃h,u=.tuple #[ptr h 0,.nilIface]/\I=[l0 Th.jG Th.j7 h Th.Cl,LC aM Z dm J]):=by
 have bi:=LB (K:=D6 aM Z dm) Th.ua (aAN aM Z dm J) r2 (s:=Th.Cl) Th.SH.1;exact bi
def TA{e:dA}(r:eh Th.jG Th.j7 n s)(aO:n+1<=Th.hh)(aw:fi e.tag.length)(ag:Th.nO Th.jG Th.j7 s e=some y)(aA:y.2=true):ab E 26 [ptr h 0,.agg (hR e).toArray] [l0 Th.jG Th.j7 h s] (aH hI [l0 Th.jG Th.j7 h y.1]):=by
 have bi:=Tv (h:=h) Th.ua Th.xD r aO (PF e.tag aw) ag;rw[aA]at bi;exact bi
def akw(r:eh Th.jG Th.j7 n s)(aO:n+13*100<=Th.hh)(ag:Th.rest Th.jG Th.j7 100 s=some y)(aA:y.2=true):ab E 24 [ptr h 0,af 100] [l0 Th.jG Th.j7 h s] (aH hI [l0 Th.jG Th.j7 h y.1]):=by
 have bi:=akp (h:=h) (k:=100) Th.ua Th.xD r bw aO ag;rw[aA]at bi;exact bi
def aAP{α z:Type}{l:List α}{f:α->z}{i:Nat}{y:z}(h:(l[i]?).map f=some y):∃x,l[i]?=some x/\f x=y:=oV.1 h
def akx{V:List Std}{l:List bU}{m:Int}(h:V.map (·.x)=l)(aw:l.length=1)(bf:(l[0]?).map (·.mode)=some m):0<V.length/\(V.flatMap pZ)[4]?=some (af m):=by
 subst h;rw[o9]at aw;obtain⟨F,rfl⟩:=List.length_eq_one_iff.1 aw;simp at bf;subst bf;exact⟨by simp,rfl⟩
def aAQ:ab E 43 [] [] (aH (.agg (sD (rq Th.jG)).toArray) []):=by
 refine av Tryz.func43 λH D=>?_;refine bb ?_;refine wn λaK=>?_;refine bR ?_;refine aB rfl (ly (cs:=sD (rq Th.jG)) rfl rfl) ?_;refine bR ?_;refine xV (.inl rfl) rfl rfl rfl rfl [] (cj) (au)
def afP:ab E 22 [] [] wZ:=by
 refine av Tryz.func22 λH D=>?_;refine ct ?_;refine aB rfl (ly (cs:=fM Th.zT) rfl rfl) ?_;refine wn λaM=>?_;refine aB rfl (ly (cs:=gY ⟨[120],false,0,some ⟨aM,0,none⟩,1,[Th.zT]⟩) rfl rfl) ?_;refine wn λZ=>?_;refine aB rfl (ly (cs:=gB ⟨[115],some ⟨Z,0,none⟩,1,D8 aM⟩) rfl rfl) ?_;refine wn λdm=>?_;refine aB rfl (ly (cs:=eH ⟨[97],0,1,none,0,[],some ⟨dm,0,none⟩,1,D7 aM Z⟩) rfl rfl) ?_;refine wn λJ=>?_;refine aG ?_;refine wn λar=>?_;refine bR ?_;refine nu (λh s=>Sat.tail (λh s=>(Sat.flat (l:=aaf)).2 s) ((show∀h,Sat _ h->Sat (aa ar 26 [.slice Ey 1 1]::(aaf++D)) h from by simp only[ck,ci];exact(au)) h s)) ?_;rw[<-LC];refine h0 [0,2] [0] [(1,.bL),(0,.da),(2,.da),(3,.loc),(4,.loc),(5,.loc),(6,.loc),(7,.loc)] [aa ar 26 [.slice Ey 1 1]] mixed hM ?_;refine aG ?_;refine aU (aAQ) ?_;refine aG ?_;refine bu (aAO aM Z dm J) ?_;rintro _ _ ⟨h,rfl,rfl⟩;refine eM ?_;refine dB ?_;refine aB rfl (NS rfl) ?_;refine dh ?_;refine aB rfl (ly (cs:=hR ⟨4,0,1,[120],5⟩) rfl rfl) ?_;refine aG ?_;refine cn rfl (b9 rfl (TA Th.SH.2 bw ID Th.SI.1 Th.Fi.1) bN) ?_;refine EJ ?_;refine cn rfl (b9 rfl (akw Th.SI.2 bw Th.Lf.1 Th.Fi.2.1) bN) ?_;refine gU ?_;refine fC ?_;refine c4 ?_;refine cn rfl (b9 rfl (Cy (h:=h) Th.Lf.2 bw) bN) ?_;rintro _ D ⟨_,⟨d,e,rfl,rfl⟩,rfl⟩;refine fC ?_;refine bQ ?_;refine aB rfl (fS (c:=false) (by rw[Th.Cn.1];rfl) (mh rfl rfl)) ?_;refine bR ?_;refine aB rfl (gf (j:=1) rfl rfl (show 1<Th.rF.1.trace.length by rw[Th.Cn.1];decide)) ?_;refine aG ?_;refine aB rfl (kz rfl (kA kv 9 zH Th.Li.1) rfl) ?_;refine aG ?_;refine aB rfl (ly (cs:=kv {Th.cz with kind:=2,id:=1,cf:=-1,to:=1,name:=[120],n:=5}) rfl rfl) ?_;refine QI ?_;refine bE ?_;refine aB rfl (gf (j:=3) rfl rfl (show 3<Th.rF.1.trace.length by rw[Th.Cn.1];decide)) ?_;refine aG ?_;refine aB rfl (kz rfl (kA kv 9 zH Th.Li.2.1) rfl) ?_;refine aG ?_;refine aB rfl (ly (cs:=kv {Th.cz with kind:=2,id:=2,cf:=1,to:=1,name:=[121],n:=5}) rfl rfl) ?_;refine QI ?_;refine bE ?_;refine aB rfl (gf (j:=6) rfl rfl (show 6<Th.rF.1.trace.length by rw[Th.Cn.1];decide)) ?_;refine aG ?_;refine aB rfl (kz rfl (kA kv 9 zH Th.Li.2.2.1) rfl) ?_;refine aG ?_;refine aB rfl (ly (cs:=kv {Th.cz with kind:=4,dc:=1,id:=2,name:=[115]}) rfl rfl) ?_;refine QI ?_;refine cB ?_;refine aB rfl (ly (cs:=hR ⟨7,0,0,[],0⟩) rfl rfl) ?_;refine cn rfl (b9 rfl (TA Th.Lf.2 bw ID Th.SJ.1 Th.Fi.2.2.1) bN) ?_;refine Au ?_;refine cn rfl (b9 rfl (akw Th.SJ.2 bw Th.Lh.1 Th.Fi.2.2.2.1) bN) ?_;refine vY ?_;refine aU (aAE (h:=h) (n:=0)) ?_;refine aG ?_;refine aB rfl (fS (c:=true) (by rw[Th.Cn.2.1];rfl) (mY rfl rfl)) ?_;refine bE ?_;refine cn rfl (b9 rfl (aAH (h:=h) Th.Lh.2 bw Th.ua) bN) ?_;rintro _ D ⟨_,⟨a77,f,V,rfl,T,-,rfl⟩,rfl⟩;refine rL ?_;refine aB rfl (gf (j:=0) rfl rfl (akx T Th.Lj.1 Th.Lj.2).1) ?_;refine b2 ?_;refine aB rfl (gF rfl (akx T Th.Lj.1 Th.Lj.2).2) ?_;refine aG ?_;refine aB rfl (fS (c:=true) bw (mY rfl rfl)) ?_;refine bE ?_;refine aB rfl (ly (cs:=hR ⟨4,0,1,[120],0⟩) rfl rfl) ?_;refine aG ?_;refine cn rfl (b9 rfl (TA Th.Lh.2 bw ID Th.ai6.1 Th.Fi.2.2.2.2) bN) ?_;refine vY ?_;refine cn rfl (b9 rfl (Cy (h:=h) Th.ai6.2 bw) bN) ?_;rintro _ D ⟨_,⟨g,i,rfl,rfl⟩,rfl⟩;refine rL ?_;obtain⟨yb,b,a⟩:=aAP Th.Li.2.2.2;refine aB rfl (gf (j:=9) rfl rfl (show 9<Th.Cm.1.trace.length by rw[Th.Cn.2.2];decide)) ?_;refine b2 ?_;refine aB rfl (gF rfl (rK kv 9 zH b (j:=0) rfl)) ?_;refine aG ?_;refine aB rfl (fS (c:=true) (by rw[a];rfl) (mY rfl rfl)) ?_;refine bj ?_;exact aQ cj
end
end Go.Proofs.YtnnhpnccfnghdaaGreat.L.bM
namespace Go.Proofs.YtnnhpnccfnghdaaGreat.L.bM
open Go.Proofs.YtnnhpnccfnghdaaGreat.L
open Go.L Go.L.Ring Go.L.dD Go.L.ej Go.L.Whl Go.L.dP Go.L.Lx Go.L.Pg
open Go.L.Led (du dH dW bm aw fo)
open Go.L.Th (bO c0 dn bG dE bU b3 e4 b0 aq most dY cS fp eR dZ In cX c9 eS bB bP eT eU bn cI dF go bo Good ei eV ec acc Inv eG e5 fj busy dA eC eh fr)
attribute[local irreducible] G cJ GE c3 GT b1 dk c7 ds Exit.then Exit.inBlock
structure zZ(C:bO)(P:List cr)(es:List dA)(F:aq×Nat)(i c:Nat)(s:aq):Prop where
 r:eh C P (1+i) s
 hp:xJ C P (es.drop i) s c=some F
 ak:i<=es.length
 a6:c<=i
section
variable{C:bO}{P:List cr}{es:List dA}{F:aq×Nat}{s:aq}{c:Nat}
def zZ.next{i c:Nat}{e:dA}(N:C.ok)(dg:Th.h7 P)(h:zZ C P es F i c s)(Y:es[i]?=some e)(aw:es.length<=400):∃aW l,Th.nO C P s e=some (aW,l)/\zZ C P es F (i+1) (c+if l then 1 else 0) aW:=by
 obtain⟨d4,u⟩:=dp.1 Y;have hk:Th.hh=10000000:=rfl;obtain⟨aW,l,aC,gO⟩:=Th.Cj (Th.sS N) N dg ad h.r e;have bi:=h.hp;rw[s5 d4,u]at bi;unfold xJ at bi;rw[aC]at bi;exact⟨aW,l,aC,gO,bi,d4,by have:=h.a6;split<;>omega⟩
def zZ.fin(h:zZ C P es F es.length c s):F=(s,c):=by
 exact ade
def aky{C:bO}{P:List cr}(N:C.ok)(dg:Th.h7 P):∀(es:List dA) (n c:Nat) (s:aq),n+es.length<=Th.hh->eh C P n s->∃F,xJ C P es s c=some F/\eh C P (n+es.length) F.1
 |[],n,c,s,_,h=>⟨(s,c),rfl,h⟩
 |
  e::es,n,c,s,aO,h=>by
  simp only[iG]at aO;obtain⟨s1,b,aC,gO⟩:=Th.Cj (Th.sS N) N dg ad h e;obtain⟨F,aV,lD⟩:=aky N dg es (n+1) (c+if b then 1 else 0) s1 ad gO;refine⟨F,?_,by rw[iG,show n+(es.length+1)=n+1+es.length by omega];exact lD⟩;unfold xJ;rw[aC];exact aV
def akz{n:Nat}{s:aq}(r:eh C P n s)(aO:n<=Th.hh):s.trace.length<=most:=by
 have h1:=r.ph;have h2:Th.hh=10000000:=rfl;have aN:Th.hB=90000:=rfl;have bA:s.trace.length+s.dead.length<=Th.bP s:=OP;have d3:Th.hB*n<=90000*10000000:=qi (et _) aO;show _<=1099511627776;omega
end
section
variable(bZ:Option Addr)(pc:Nat)(K:List cr)(ea:Option Addr)(cZ:Nat)(es:List dA)(r:Int)(a2:al)(c:l5)
def aAR(a6:c.okB=false):ab E 7 Ek [a2] (aH hI [a2]):=by
 refine afO ?_;intro H D ar;refine aU (aku bZ pc K ea cZ es r a2 c a6) ?_;refine aG ?_;refine aU (aku bZ pc K ea cZ es r a2 c a6) ?_;refine s0 ?_;exact uj
def aAS(a6:c.okB=true)(o:∀h,a2 h->h8 h bZ pc K)(f:Int×List Int)(ba:rQ K=some f):ab E 7 Ek [a2] (aH hI [a2]):=by
 refine afO ?_;intro H D ar;refine aU (akv bZ pc K ea cZ es r a2 c a6 o f ba) ?_;refine aG ?_;refine aU (akv bZ pc K ea cZ es r a2 c a6 o f ba) ?_;refine s0 ?_;exact uj
def aAT(C:bO)(bZ:Option Addr)(pc:Nat)(K:List cr)(ea:Option Addr)(cZ:Nat)(es:List dA)(r:Int)(a2:al)(N:C.ok)(o:∀h,a2 h->h8 h bZ pc K)(q:∀h,a2 h->jd h ea cZ es.length w1)(y:fi (es.length*48))(g:∀e∈es,fi e.tag.length)(cV:rQ K=none)(p:es.length<=cZ):ab E 7 [.agg (Bc (rq C) bZ pc K ea cZ es r).toArray] [a2] (aH hI [a2]):=by
 refine av Tryz.func7 λH D=>?_;have dg:=Ty (Th.Ll cV).2.2.2;haveI:gw (.slice ea es.length cZ) a2 es.length w1:=⟨λh=>(q _ h).1⟩;have f:∀h,a2 h->gI h (.slice ea (es.take 400).length cZ) (es.take 400).length ((es.take 400).flatMap hR):=λh m=>by
  have bi:=gI.to (aZ:=5) (q h m).1 (Nat.min_le_right 400 es.length);rw[AA hR 5 (λ_=>rfl),<-List.take_eq_take_min]at bi;rw[oC];exact bi
 haveI:gw (.slice ea (es.take 400).length cZ) a2 (es.take 400).length ((es.take 400).flatMap hR):=⟨λh=>f _ h⟩;obtain⟨er,aC,l⟩:=Th.Le N (Ty (Th.Ll cV).2.2.2);replace l:eh C pS (1+0) er:=l;obtain⟨F,T,a⟩:=Th.avR N dg es r;have hw:Th.hh=10000000:=rfl;have aw:(es.take 400).length=min 400 es.length:=oC;unfold fi at y;obtain⟨d,s,n⟩:=aky N dg (es.take 400) 1 0 er ad l;have b:=akz a ad;have w:=akz n ad;have t:=aAM C bZ pc K ea cZ es r a2 N o q (by unfold fi;omega) g cV F T;refine bb ?_;refine wn λar=>?_;refine bj ?_;refine aU (afP) ?_;refine b2 ?_;refine zp ?_;refine h0 [1,3] [1] abZ [aa ar 57 Qh] mixed hM ?_;refine bb ?_;refine bu (t) ?_;rintro _ _ ⟨h1,rfl,rfl⟩;refine eM ?_;refine aG ?_;refine bu (t) ?_;rintro _ _ ⟨h2,rfl,rfl⟩;refine eM ?_;refine gq ?_;refine bE ?_;refine cn rfl (b9 rfl (Cy (h:=h1) a ad) bN) ?_;rintro _ D ⟨_,⟨cu,c1,rfl,rfl⟩,rfl⟩;refine rL ?_;refine cn rfl (b9 rfl (Cy (h:=h2) a ad) bN) ?_;rintro _ D ⟨_,⟨cC,bq,rfl,rfl⟩,rfl⟩;refine fC ?_;refine aU (akt F.1.trace cu cC c1 bq b) ?_;refine bE ?_;refine aU (akq (h:=h1) N a) ?_;refine b2 ?_;refine aU (akq (h:=h2) N a) ?_;refine aG ?_;refine aB rfl (fS (c:=false) gl (ahj rfl rfl)) ?_;refine dB ?_;refine bu (LB N o cV aC) ?_;rintro _ _ ⟨aN,rfl,rfl⟩;refine eM ?_;refine fB ?_;refine bu (LB N o cV aC) ?_;rintro _ _ ⟨bA,rfl,rfl⟩;refine eM ?_;refine gd ?_;refine aB rfl (ta (((es.take 400).length:Nat):Int) Io rfl rfl) ?_;refine aB rfl (th (i:=(es.take 400).length) rfl rfl ad) ?_;refine eY ?_;refine hb (bv:=Nat×Nat×aq) (λF=>zZ C pS (es.take 400) d F.1 F.2.1 F.2.2) (λF=>[(11,af F.1),(10,af F.2.1),(9,.slice ea (es.take 400).length cZ),(7,ptr bA 0),(5,ptr aN 0),(1,ptr ar 0)]) (λF=>l0 C pS aN F.2.2::l0 C pS bA er::aa ar 57 Qh::a2::D) (λF=>(es.take 400).length -F.1) (0,0,er) (⟨l,s,fk _,et _⟩) eb (au) ?_;rintro⟨i,c,aW⟩ bK;replace bK:zZ C pS (es.take 400) d i c aW:=bK;have ak:=bK.ak;have v:=bK.a6;dsimp only;refine cB ?_;refine ch (λW=>?_) (λW=>?_)
 . obtain⟨e,Y⟩:∃e,(es.take 400)[i]?=some e:=⟨_,cD (show i<(es.take 400).length by omega)⟩
   obtain⟨cb,V,aS,j⟩:=bK.next N dg Y ad;refine cB ?_;refine aB rfl (gf rfl rfl (show i<(es.take 400).length by omega)) ?_;refine aB rfl (kz rfl (kA hR 5 (λ_=>rfl) Y) rfl) ?_;refine cn rfl (b9 rfl (Tv (h:=aN) N dg bK.r ad abQ aS) bN) ?_;refine x7 ?_;refine ch (λM=>?_) (λM=>?_)
   . have aA:V=true:=by simpa using M
     refine bb ?_;refine aB rfl (fy (((c+1:Nat):Int)) ff rfl rfl) ?_;refine bj ?_;refine vM ?_;refine gg (i+1,c+1,cb) Zz (show(es.take 400).length -(i+1)<(es.take 400).length -i by omega) eb (au)
   . have aA:V=false:=by simpa using M
     refine adv ?_;refine gg (i+1,c,cb) Zz (show(es.take 400).length -(i+1)<(es.take 400).length -i by omega) eb (au)
 . obtain rfl:i=(es.take 400).length:=by omega
   have qY:=bK.fin;obtain rfl:aW=d.1:=by rw[qY]
   obtain rfl:c=d.2:=by rw[qY]
   refine cB ?_;refine cn rfl (b9 rfl (aAA (h:=bA) (a2:=a2) (ac:=cZ) N dg l ad (λe Y=>PF e.tag (g e (abR Y))) s) bN) ?_;refine gU ?_;refine rL ?_;refine aB rfl (fS (c:=true) gl (mY rfl rfl)) ?_;refine bR ?_;refine cn rfl (b9 rfl (Cy (h:=aN) n ad) bN) ?_;rintro _ D ⟨_,⟨a3,b7,rfl,rfl⟩,rfl⟩;refine pC ?_;refine cn rfl (b9 rfl (Cy (h:=bA) n ad) bN) ?_;rintro _ D ⟨_,⟨a4,d8,rfl,rfl⟩,rfl⟩;refine fC ?_;refine aG ?_;refine aU (akt d.1.trace a3 a4 b7 d8 w) ?_;refine bj ?_;exact aQ cj
end
theorem apw(c:l5)(bZ:Option Addr)(pc:Nat)(K:List cr)(ea:Option Addr)(cZ:Nat)(es:List dA)(r:Int)(a2:al)(o:∀h,a2 h->h8 h bZ pc K)(q:∀h,a2 h->jd h ea cZ es.length w1)(y:fi (es.length*48))(g:∀e∈es,fi e.tag.length):
 ab E 7 Ek [a2] (aH hI [a2]):=by
 cases a6:c.okB with
 |false=>exact aAR bZ pc K ea cZ es r a2 c a6
 |
  true=>
  cases ba:rQ K with
  |some f=>exact aAS bZ pc K ea cZ es r a2 c a6 o f ba
  |
   none=>
   obtain⟨e,N⟩:=l5.aBS a6;rw[<-e];exact LA (λh m=>(q h m).2) λp=>aAT _ bZ pc K ea cZ es r a2 N o q y g ba p
end Go.Proofs.YtnnhpnccfnghdaaGreat.L.bM
