import Derived.Test.YtnnhpnccfnghdaaGreatR21
set_option linter.all false
set_option maxRecDepth 8000
set_option maxHeartbeats 16000000
namespace Go.Proofs.YtnnhpnccfnghdaaGreat.C
open Go.Proofs.YtnnhpnccfnghdaaGreat.L Go.L Go.L.Lx Go.L.Pg
attribute[local irreducible] G cE GE cY GT b0 df c4 di Exit.then Exit.inBlock
attribute[local irreducible] mS
section
variable(bL:Option Addr)(pc:Nat)(bq:List b2)(A:aq)
theorem anw(L:List mj)(i:Nat)(ak:i<=L.length)(a:Option Addr)(c:Nat)(Z:FuncId)(z:List Value)(I:List aq)(q:mj->Bool)(aM:L.length<=9223372036854775807)(aE:∀h,Sat I h->gI h kL L.length (L.flatMap jN))
 (hp:∀x∈L,ad aa Z Gn I lr)(fz:e0 aa Z:=by exact fc):ad aa 170 Gy I Gz:=by
 have h:=Vm (L.take i) a c Z z I q h5 (λh s=>by
  have e:=gI.to (aY:=2) (aE h s) ak;rw[AE jN 2 Am]at e;rwa[n0,De ak]) GA
 exact GB
theorem anx(L:List b2)(i:Nat)(ak:i<=L.length)(a:Option Addr)(c:Nat)(Z:FuncId)(z:List Value)(I:List aq)(q:b2->Bool)(aM:L.length<=9223372036854775807)(aE:∀h,Sat I h->gI h kL L.length (L.flatMap eK))
 (hp:∀x∈L,ad aa Z Gp I lr)(fz:e0 aa Z:=by exact fc):ad aa 174 Gy I Gz:=by
 have h:=Vo (L.take i) a c Z z I q h5 (λh s=>by
  have e:=gI.to (aY:=5) (aE h s) ak;rw[AE eK 5 Df]at e;rwa[n0,De ak]) GA
 exact GB
theorem anz(L:List fN)(i:Nat)(ak:i<=L.length)(a:Option Addr)(c:Nat)(Z:FuncId)(z:List Value)(I:List aq)(q:fN->Bool)(aM:L.length<=9223372036854775807)(aE:∀h,Sat I h->gI h kL L.length (L.flatMap gy))
 (hp:∀x∈L,ad aa Z Gq I lr)(fz:e0 aa Z:=by exact fc):ad aa 221 Gy I Gz:=by
 have h:=Vq (L.take i) a c Z z I q h5 (λh s=>by
  have e:=gI.to (aY:=2) (aE h s) ak;rw[AE gy 2 rf]at e;rwa[n0,De ak]) GA
 exact GB
theorem anA(L:List Row)(i:Nat)(ak:i<=L.length)(a:Option Addr)(c:Nat)(Z:FuncId)(z:List Value)(I:List aq)(q:Row->Bool)(aM:L.length<=9223372036854775807)(aE:∀h,Sat I h->gI h kL L.length (L.flatMap hs))
 (hp:∀x∈L,ad aa Z Gr I lr)(fz:e0 aa Z:=by exact fc):ad aa 276 Gy I Gz:=by
 have h:=am8 (L.take i) a c Z z I q h5 (λh s=>by
  have e:=gI.to (aY:=4) (aE h s) ak;rw[AE hs 4 uj]at e;rwa[n0,De ak]) GA
 exact GB
def VS(B:∀h,A h->hT h bL pc bq)(aA:∃h,hT h bL pc bq)(k:b2)(hk:k∈bq)(s:fN)(aj:s∈k.states)(r:Row)(aE:r∈s.rows)(d f E j:Nat)(N:j<r.cw.length):ad aa 278 [af j,ptr d 0,ptr f 0,ptr E 0] Mv (qe (rh bq k.states r.cw j) Mv):=by
 refine aw Tryz.func278 λF D=>?_;obtain⟨bh,g⟩:=id aA;have pl:=g.len;have GP:=g.rd.2;haveI rx:gl Gx A bq.length (bq.flatMap eK):=⟨λh=>(B _ h).rd.1⟩;refine GC ?_;intro y t7 J H O i9;haveI jM:gl CK A k.states.length CL:=⟨λh=>((B _ h).kinds k hk).sJ.1⟩;haveI Fn:gl Ah A k.cases.length vQ:=⟨λh=>((B _ h).kinds k hk).sI.1⟩;have C:=y.states s aj;have U:=C.rd.2;have WP:=C.len;have pp:=C.name;haveI abs:gl L2 A s.rows.length (s.rows.flatMap hs):=⟨λh=>(((B _ h).kinds k hk).states s aj).rd.1⟩;have S:=C.rows r aE;have aC8:=S.len;have T:=S.tag;haveI aC9:gl (.slice r.ea r.cw.length r.cA) A r.cw.length (r.cw.flatMap fO):=⟨λh=>((((B _ h).kinds k hk).states s aj).rows r aE).rd.1⟩;obtain⟨e,V⟩:∃e,r.cw[j]?=some e:=⟨_,cz N⟩;have a:=S.cw e (js V);have hZ:=anc (bq:=bq) (z:=k.states) V;unfold eO at*;refine cq ?_;refine cu [] [13,201,1] [] ?_;refine bB ?_;refine go_v rfl .none rfl (fI rfl rfl N) ?_;refine go_v rfl .none rfl (kv rfl (kw fO 7 x3 V) rfl) ?_;refine bK ?_;refine go_v rfl .none rfl (kl (((r.cw.length:Int) -1)) (by rw[je (by omega)]) rfl rfl) ?_;refine aG ?_;refine aT (anv bL pc bq A B aA k hk e a (decide ((j:Int)=(r.cw.length:Int) -1))) ?_;refine c8 ?_;refine cg (λW=>?_) (λW=>?_)
 . have ba:rh bq k.states r.cw j=some ((wb bq k.states e (decide ((j:Int)=(r.cw.length:Int) -1))),[]):=by rw[hZ,a8 ae]
   refine bK ?_;refine wn λn=>?_;refine bi ?_;exact aX (Mk (I:=Mv) ba) (λ_ h=>Sat.tail (r:=VT) (m:=o3 none 0 []::VT) (λ_ h=>Vh _ h) ((au) _ h))
 . have ba:rh bq k.states r.cw j=none:=by rw[hZ,bd ae]
   refine cv ?_;exact aX (Vs ba)
def VU(B:∀h,A h->hT h bL pc bq)(aA:∃h,hT h bL pc bq)(k:b2)(hk:k∈bq)(s:fN)(aj:s∈k.states)(i:Nat)(ak:i<s.rows.length):ad aa 224 [.agg #[.slice bL bq.length pc],.agg (eK k).toArray,.agg (gy s).toArray,af i] [A] (qe (qf bq k.states s.rows i) [A]):=by
 refine aw Tryz.func224 λF D=>?_;obtain⟨bh,g⟩:=id aA;have pl:=g.len;have GP:=g.rd.2;haveI rx:gl (.slice bL bq.length pc) A bq.length (bq.flatMap eK):=⟨λh=>(B _ h).rd.1⟩;refine GC ?_;intro y t7 J H O i9;haveI jM:gl (.slice k.sa k.states.length k.sc) A k.states.length (k.states.flatMap gy):=⟨λh=>((B _ h).kinds k hk).sJ.1⟩;haveI Fn:gl (.slice k.ca k.cases.length k.km) A k.cases.length (k.cases.flatMap jN):=⟨λh=>((B _ h).kinds k hk).sI.1⟩;have C:=y.states s aj;have U:=C.rd.2;have WP:=C.len;have pp:=C.name;haveI abs:gl (.slice s.ra s.rows.length s.rc) A s.rows.length (s.rows.flatMap hs):=⟨λh=>(((B _ h).kinds k hk).states s aj).rd.1⟩;obtain⟨r,x⟩:∃r,s.rows[i]?=some r:=⟨_,cz ak⟩;have aE:=js x;have S:=C.rows r aE;have aC8:=S.len;have T:=S.tag;haveI aC9:gl (.slice r.ea r.cw.length r.cA) A r.cw.length (r.cw.flatMap fO):=⟨λh=>((((B _ h).kinds k hk).states s aj).rows r aE).rd.1⟩;have hZ:=ane (bq:=bq) (z:=k.states) x;unfold eO at*;refine bb ?_;refine wn λaO=>?_;refine wn λaU=>?_;refine wn λaS=>?_;refine bQ ?_;refine aB rfl (fI rfl rfl ak) ?_;refine aB rfl (kv rfl (kw hs 4 uj x) rfl) ?_;refine wn λco=>?_;refine cq ?_;refine ci rfl (b1 rfl (am6 r.cw r.ea r.cA 275 [] [A] (λe=>decide (e.do'=4)) ae (wa λh a=>((((B h a).kinds k hk).states s aj).rows r aE).rd.1) (λd _=>anq A d)) bF) ?_;refine Ax ?_;refine il [2,39,54,55] [2,39] [0,4,137,141,145,149,153,165,169,173,177,181,185,10,12,16,20,24,28,32,36,40,44,48,52,56,60,64,68,72,76,80,84,88,92,96,100,104,108,113,117,121,125,129,133,158,160,188,192,196,200,204,208,212,218,222,224] [ab aS 82 (gy s),ab co 85 (hs r)] ?_;refine bB ?_;refine jF rfl .none rfl (tj rfl rfl (show i<=s.rc by omega)) (au) ?_;refine cq ?_;refine pK rfl .none rfl (b1 rfl (Vw r.tag ae) bF) ?_;refine hb ?_;refine o5 ?_;refine qg (d:=52) [133,158,160,188,192,196,200,204,208,212,218,222,224] (.bool (gP r)) ?_ (λu=>?_)
 rotate_left
 . refine ho (j:=4) rfl rfl (λW=>?_) (λW=>?_)
   . have f:=bN W
     refine gg ?_;refine bQ ?_;unfold gP at u;exact kn u W W
   . have f:=bN W
     refine b6 ?_;refine ho (j:=7) rfl rfl (λM=>?_) (λM=>?_)
     . have q:=bN M
       refine bb ?_;refine th rfl (.yes rfl rfl M) rfl (pF rfl rfl) ?_;refine b6 ?_;refine ho (j:=13) rfl rfl (λL=>?_) (λL=>?_)
       . have X:=bN L
         refine eJ ?_;refine bK ?_;unfold gP at u;exact qi u W M L
       . have X:=bN L
         refine bB ?_;refine ho (j:=18) rfl rfl (λfH=>?_) (λfH=>?_)
         . have m2:=bN fH
           refine fW ?_;unfold gP at u;exact GD u W M L fH
         . have m2:=bN fH
           refine bB ?_;refine ho (j:=23) rfl rfl (λw=>?_) (λw=>?_)
           . have I:=bN w
             refine cv ?_;unfold gP at u;exact VV u W M L fH w
           . have I:=bN w
             refine bK ?_;refine ho (j:=27) rfl rfl (λl=>?_) (λl=>?_)
             . exact VW
             . exact VW
     . have q:=bN M
       refine c0 ?_;refine ho (j:=18) rfl rfl (λm=>?_) (λm=>?_)
       . have Y:=bN m
         refine fW ?_;unfold gP at u;exact qi u W M m
       . have Y:=bN m
         refine bB ?_;refine ho (j:=23) rfl rfl (λv=>?_) (λv=>?_)
         . have Z:=bN v
           refine cv ?_;unfold gP at u;exact GD u W M m v
         . have Z:=bN v
           refine bK ?_;refine ho (j:=27) rfl rfl (λR=>?_) (λR=>?_)
           . exact VX
           . exact VX
 refine pJ (bg.cons (t:=66) rfl (bg.cons (t:=65) rfl (bg.cons (t:=58) rfl (bg.cons (t:=57) rfl (bg.cons (t:=52) rfl (bg.cons (t:=19) rfl (bg.cons (t:=18) rfl (bg.cons (t:=17) rfl (bg.cons (t:=16) rfl (bg.cons (t:=15) rfl (bg.cons (t:=14) rfl (bg.cons (t:=13) rfl (bg.cons (t:=12) rfl (bg.cons (t:=10) rfl (bg.cons (t:=9) rfl (bg.cons (t:=8) rfl (bg.cons (t:=6) rfl (bg.cons (t:=5) rfl (bg.cons (t:=4) rfl (bg.cons (t:=3) rfl (bg.cons (t:=2) rfl (bg.cons (t:=1) rfl (bg.cons (t:=0) rfl (bg.nil)))))))))))))))))))))))) ?_;refine aG ?_;refine pK rfl .none rfl (b1 rfl (anA s.rows i ae s.ra s.rc 277 [ptr co 0] [A,ab co 85 (hs r)] (λo=>we o r) ae (wa λh a=>(((B h a).kinds k hk).states s aj).rd.1) (λd _=>anr A co d r)) bF) ?_;refine hb ?_;refine o5 ?_;refine qg (d:=72) [212,218,222,224] (.bool (tk r)) ?_ (λE=>?_)
 rotate_left
 . refine ho (j:=47) rfl rfl (λn=>?_) (λn=>?_)
   . exact VY
   . exact VY
 refine pJ (bg.cons (t:=72) rfl (bg.cons (t:=65) rfl (bg.cons (t:=60) rfl (bg.cons (t:=53) rfl (bg.cons (t:=19) rfl (bg.cons (t:=18) rfl (bg.cons (t:=17) rfl (bg.cons (t:=16) rfl (bg.cons (t:=15) rfl (bg.cons (t:=14) rfl (bg.cons (t:=13) rfl (bg.cons (t:=12) rfl (bg.cons (t:=10) rfl (bg.cons (t:=9) rfl (bg.cons (t:=8) rfl (bg.cons (t:=6) rfl (bg.cons (t:=5) rfl (bg.cons (t:=4) rfl (bg.cons (t:=3) rfl (bg.cons (t:=2) rfl (bg.cons (t:=1) rfl (bg.cons (t:=0) rfl (bg.nil))))))))))))))))))))))) ?_;refine aG ?_;refine yi rfl .none rfl (qh rfl rfl rfl rfl) ?_;rintro _ _ ⟨V,rfl,rfl⟩;refine aG ?_;refine pK rfl .none rfl (b1 rfl (C5 [(gP r,43),((s.rows.take i).any (λo=>we o r),41),(decide (8<(r.cw.length:Int)),40),(tk r,45)] V ga) bF) ?_;refine ux ?_;rcases K:qf bq k.states s.rows i with _|⟨c,ws⟩
 . refine bi ?_
   refine ci rfl (b1 rfl (vZ (v8 (C7 s.rows i r) r.cw.length ae 278 [ptr aO 0,ptr aU 0,ptr co 0] [ab aO 26 [.slice bL bq.length pc],ab aU 78 (eK k),ab co 85 (hs r),A] (rh bq k.states r.cw) (λi c ws h=>by have:=Mn i c ws h;omega) (λj N=>VS bL pc bq A B aA k hk s aj r aE aO aU co j N)) (hZ▸K)) bF) ?_;exact Mw
 . refine bi ?_
   refine ci rfl (b1 rfl (v7 (v8 (C7 s.rows i r) r.cw.length ae 278 [ptr aO 0,ptr aU 0,ptr co 0] [ab aO 26 [.slice bL bq.length pc],ab aU 78 (eK k),ab co 85 (hs r),A] (rh bq k.states r.cw) (λi c ws h=>by have:=Mn i c ws h;omega) (λj N=>VS bL pc bq A B aA k hk s aj r aE aO aU co j N)) (hZ▸K)) bF) ?_;exact Mx
def VZ(B:∀h,A h->hT h bL pc bq)(aA:∃h,hT h bL pc bq)(k:b2)(hk:k∈bq)(s:fN)(aj:s∈k.states)(d f E j:Nat)(N:j<s.rows.length):ad aa 223 [af j,ptr d 0,ptr f 0,ptr E 0] V0 (qe (qf bq k.states s.rows j) V0):=by
 refine aw Tryz.func223 λF D=>?_;refine bi ?_;rcases K:qf bq k.states s.rows j with _|⟨c,ws⟩
 . refine bB ?_
   refine aT (vZ (VU bL pc bq A B aA k hk s aj j N) K) ?_;refine bB ?_;exact aX ⟨rfl,rfl⟩
 . refine bB ?_
   refine br (v7 (VU bL pc bq A B aA k hk s aj j N) K) ?_;exact My
def V1(B:∀h,A h->hT h bL pc bq)(aA:∃h,hT h bL pc bq)(k:b2)(hk:k∈bq)(i:Nat)(ak:i<k.states.length):ad aa 177 [.agg #[.slice bL bq.length pc],.agg (eK k).toArray,af i] [A] (qe (pI bq k.states i) [A]):=by
 refine aw Tryz.func177 λF D=>?_;obtain⟨bh,g⟩:=id aA;have pl:=g.len;have GP:=g.rd.2;haveI rx:gl Gx A bq.length (bq.flatMap eK):=⟨λh=>(B _ h).rd.1⟩;refine GC ?_;intro y t7 J H O i9;haveI jM:gl CK A k.states.length CL:=⟨λh=>((B _ h).kinds k hk).sJ.1⟩;haveI Fn:gl Ah A k.cases.length vQ:=⟨λh=>((B _ h).kinds k hk).sI.1⟩;obtain⟨s,l⟩:∃s,k.states[i]?=some s:=⟨_,cz ak⟩;have aj:=js l;have C:=y.states s aj;have U:=C.rd.2;have WP:=C.len;have pp:=C.name;haveI abs:gl L2 A s.rows.length (s.rows.flatMap hs):=⟨λh=>(((B _ h).kinds k hk).states s aj).rd.1⟩;have hZ:=anf (bq:=bq) l;unfold eO at*;refine bb ?_;refine wn λZ=>?_;refine wn λaO=>?_;refine bQ ?_;refine aB rfl (fI rfl rfl ak) ?_;refine aB rfl (kv rfl (kw gy 2 rf l) rfl) ?_;refine wn λbY=>?_;refine bK ?_;refine hU [2,10,17,18] [2,10] [(0,.loc),(1,.loc),(5,.bI),(6,.bI),(7,.bI),(8,.bI),(9,.bI),(12,.bI),(13,.bI),(14,.bI),(15,.bI),(16,.bI),(2,.c5),(3,.bI),(4,.bI),(10,.c5),(11,.loc),(17,.c5),(18,.c5),(19,.loc)] [ab aO 78 (eK k),ab bY 82 (gy s)] mixed gB ?_;refine bB ?_;refine go_vs rfl .none rfl (tj rfl rfl (show i<=k.sc by omega)) (au) ?_;refine bi ?_;refine go_c rfl .none rfl (b1 rfl (C9 (s.name) ae) bF) ?_;refine hb ?_;refine o5 ?_;refine go_c rfl .none rfl (b1 rfl (anz k.states i ae k.sa k.sc 222 [ptr bY 0] [A,ab bY 82 (gy s)] (λd=>decide (d.name=s.name)) ae (wa λh a=>((B h a).kinds k hk).sJ.1) (λd _=>ann A bY d s)) bF) ?_;refine yh ?_;refine go_n rfl .none rfl (qh rfl rfl rfl rfl) ?_;rintro _ _ ⟨f,rfl,rfl⟩;refine aG ?_;refine go_c rfl .none rfl (b1 rfl (C5 [(!mS s.name,43),(AD (k.states.take i) s.name,41),(decide (16<(s.rows.length:Int)),40)] f ga) bF) ?_;refine ux ?_;rcases K:pI bq k.states i with _|⟨c,ws⟩
 . refine bi ?_
   refine ci rfl (b1 rfl (vZ (v8 (Gs k.states i s) s.rows.length ae 223 [ptr Z 0,ptr aO 0,ptr bY 0] [ab Z 26 [.slice bL bq.length pc],ab aO 78 (eK k),ab bY 82 (gy s),A] (qf bq k.states s.rows) (λi c ws h=>by have:=Mo i c ws h;omega) (λj N=>VZ bL pc bq A B aA k hk s aj Z aO bY j N)) (hZ▸K)) bF) ?_;exact Mw
 . refine bi ?_
   refine ci rfl (b1 rfl (v7 (v8 (Gs k.states i s) s.rows.length ae 223 [ptr Z 0,ptr aO 0,ptr bY 0] [ab Z 26 [.slice bL bq.length pc],ab aO 78 (eK k),ab bY 82 (gy s),A] (qf bq k.states s.rows) (λi c ws h=>by have:=Mo i c ws h;omega) (λj N=>VZ bL pc bq A B aA k hk s aj Z aO bY j N)) (hZ▸K)) bF) ?_;exact Mx
def V2(B:∀h,A h->hT h bL pc bq)(aA:∃h,hT h bL pc bq)(k:b2)(hk:k∈bq)(d f j:Nat)(N:j<k.states.length):ad aa 176 [af j,ptr d 0,ptr f 0] V3 (qe (pI bq k.states j) V3):=by
 refine aw Tryz.func176 λF D=>?_;refine bi ?_;rcases K:pI bq k.states j with _|⟨c,ws⟩
 . refine bK ?_
   refine aT (vZ (V1 bL pc bq A B aA k hk j N) K) ?_;refine bB ?_;exact aX ⟨rfl,rfl⟩
 . refine bK ?_
   refine br (v7 (V1 bL pc bq A B aA k hk j N) K) ?_;exact My
def V4(B:∀h,A h->hT h bL pc bq)(aA:∃h,hT h bL pc bq)(i:Nat)(ak:i<bq.length):ad aa 99 [.agg #[.slice bL bq.length pc],af i] [A] (qe (ri bq i) [A]):=by
 refine aw Tryz.func99 λF D=>?_;obtain⟨bh,g⟩:=id aA;have pl:=g.len;have GP:=g.rd.2;haveI rx:gl (.slice bL bq.length pc) A bq.length (bq.flatMap eK):=⟨λh=>(B _ h).rd.1⟩;obtain⟨k,i7⟩:∃k,bq[i]?=some k:=⟨_,cz ak⟩;have hk:=js i7;refine GC ?_;intro y t7 J H O i9;haveI jM:gl (.slice k.sa k.states.length k.sc) A k.states.length (k.states.flatMap gy):=⟨λh=>((B _ h).kinds k hk).sJ.1⟩;haveI Fn:gl (.slice k.ca k.cases.length k.km) A k.cases.length (k.cases.flatMap jN):=⟨λh=>((B _ h).kinds k hk).sI.1⟩;have hZ:=ang i7;unfold eO at*;refine bb ?_;refine wn λU=>?_;refine bQ ?_;refine aB rfl (fI rfl rfl ak) ?_;refine L9 ?_;refine wn λaU=>?_;refine cq ?_;refine ci rfl (b1 rfl (Vm k.cases k.ca k.km 171 [] [A] uv ae (wa λh a=>((B h a).kinds k hk).sI.1) (λd aL=>ank A d (y.cases d aL))) bF) ?_;refine hb ?_;refine fm ?_;refine eJ ?_;refine b6 ?_;refine gG (bv:=Nat) (λx=>x<=k.cases.length) (λx=>[(22,af x),(21,af k.cases.length),(20,.slice k.ca k.cases.length k.km),(7,.bool (wc k.cases x)),(6,.bool (k.cases.any uv)),(5,ptr aU 0),(2,ptr U 0),(1,af i)]) (λ_=>ab aU 78 (eK k)::ab U 26 [.slice bL bq.length pc]::A::D) (λx=>k.cases.length -x) 0 (eX _) dy (au) ?_;rintro x ah;replace ah:x<=k.cases.length:=ah;refine bi ?_;refine cg (λW=>?_) (λW=>?_)
 . obtain⟨c,a6⟩:∃c,k.cases[x]?=some c:=⟨_,cz (show x<k.cases.length by omega)⟩
   refine cq ?_;refine aB rfl (fI rfl rfl (show x<k.cases.length by omega)) ?_;refine aB rfl (kv rfl (kw jN 2 Am a6) rfl) ?_;refine wn λco=>?_;refine cq ?_;refine ls (d:=35) 7 (.bool (wc k.cases (x+1))) ?_ (λn=>?_)
   rotate_left
   . refine hx rfl rfl (λM=>?_) (λM=>?_) rfl
     . have q:=bN M
       refine bi ?_;refine aB rfl (tj rfl rfl (show x<=k.km by omega)) ?_;refine b6 ?_;refine ci rfl (b1 rfl (anw k.cases x ae k.ca k.km 173 [ptr co 0] [A,ab co 89 (jN c)] (λd=>decide (d.reason=c.reason)) ae (wa λh a=>((B h a).kinds k hk).sI.1) (λd _=>anl A co d c)) bF) ?_;refine hb ?_;refine rV ?_;exact V5
     . have q:=bN M
       simp only[jD];refine bi ?_;exact V5
   refine bB ?_;refine Ml ?_;refine fD (x+1) (show x+1<=k.cases.length by omega) (show k.cases.length -(x+1)<k.cases.length -x by omega) dy (au)
 . obtain rfl:x=k.cases.length:=by omega
   refine bi ?_;refine il [2,30,53,54] [2,30] [0,4,101,105,109,113,117,129,133,137,141,197,201,205,209,10,12,16,20,24,28,32,36,40,44,48,52,56,60,64,68,72,76,81,85,89,93,97,122,124,144,148,152,156,160,164,168,172,176,180,184,188,192,214,218,220] [ab U 26 [.slice bL bq.length pc],ab aU 78 (eK k)] ?_;refine bB ?_;refine jF rfl .none rfl (tj rfl rfl (show i<=pc by omega)) (au) ?_;refine cv ?_;refine pK rfl .none rfl (b1 rfl (C9 (k.name) ae) bF) ?_;refine hb ?_;refine o5 ?_;refine qg (d:=60) [97,122,124,144,148,152,156,160,164,168,172,176,180,184,188,192,214,218,220] (.bool (cS k)) ?_ (λe=>?_)
   rotate_left
   . refine ho (j:=4) rfl rfl (λL=>?_) (λL=>?_)
     . have X:=bN L
       refine eJ ?_;refine bK ?_;unfold cS at e;exact kn e L L
     . have X:=bN L
       refine bB ?_;refine ho (j:=9) rfl rfl (λfH=>?_) (λfH=>?_)
       . have m2:=bN fH
         refine fW ?_;unfold cS at e;exact kn e L fH
       . have m2:=bN fH
         refine bB ?_;refine ho (j:=14) rfl rfl (λw=>?_) (λw=>?_)
         . have I:=bN w
           refine cv ?_;unfold cS at e;exact qi e L fH w
         . have I:=bN w
           refine bB ?_;refine ho (j:=19) rfl rfl (λl=>?_) (λl=>?_)
           . exact V6
           . exact V6
   refine pJ (bg.cons (t:=89) rfl (bg.cons (t:=87) rfl (bg.cons (t:=72) rfl (bg.cons (t:=66) rfl (bg.cons (t:=65) rfl (bg.cons (t:=60) rfl (bg.cons (t:=23) rfl (bg.cons (t:=22) rfl (bg.cons (t:=21) rfl (bg.cons (t:=20) rfl (bg.cons (t:=7) rfl (bg.cons (t:=6) rfl (bg.cons (t:=5) rfl (bg.cons (t:=2) rfl (bg.cons (t:=1) rfl (bg.nil)))))))))))))))) ?_;refine aG ?_;refine pK rfl .none rfl (b1 rfl (anx bq i ae bL pc 175 [ptr aU 0] [A,ab aU 78 (eK k)] (λd=>decide (d.name=k.name)) ae (wa λh a=>(B h a).rd.1) (λd _=>anm A aU d k)) bF) ?_;refine hb ?_;refine o5 ?_;refine qg (d:=84) [192,214,218,220] (.bool (ir k)) ?_ (λf=>?_)
   rotate_left
   . refine ho (j:=36) rfl rfl (λm=>?_) (λm=>?_)
     . have Y:=bN m
       refine c0 ?_;unfold ir at f;exact kn f m m
     . have Y:=bN m
       refine bi ?_;refine ho (j:=42) rfl rfl (λv=>?_) (λv=>?_)
       . exact V7
       . exact V7
   refine pJ (bg.cons (t:=89) rfl (bg.cons (t:=87) rfl (bg.cons (t:=84) rfl (bg.cons (t:=68) rfl (bg.cons (t:=61) rfl (bg.cons (t:=23) rfl (bg.cons (t:=22) rfl (bg.cons (t:=21) rfl (bg.cons (t:=20) rfl (bg.cons (t:=7) rfl (bg.cons (t:=6) rfl (bg.cons (t:=5) rfl (bg.cons (t:=2) rfl (bg.cons (t:=1) rfl (bg.nil))))))))))))))) ?_;refine aG ?_;refine yi rfl .none rfl (qh rfl rfl rfl rfl) ?_;rintro _ _ ⟨o,rfl,rfl⟩;refine aG ?_;refine pK rfl .none rfl (b1 rfl (C5 [(cS k,43),(ti (bq.take i) k.name,41),(ir k,40),(k.cases.any uv,43),(wc k.cases k.cases.length,41)] o ga) bF) ?_;refine ux ?_;rcases K:ri bq i with _|⟨c,ws⟩
   . refine bi ?_
     refine ci rfl (b1 rfl (vZ (v8 (yg bq i k) k.states.length ae 176 [ptr U 0,ptr aU 0] [ab U 26 [.slice bL bq.length pc],ab aU 78 (eK k),A] (pI bq k.states) (λi c ws h=>by have:=Mp i c ws h;omega) (λj N=>V2 bL pc bq A B aA k hk U aU j N)) (hZ▸K)) bF) ?_;exact Mw
   . refine bi ?_
     refine ci rfl (b1 rfl (v7 (v8 (yg bq i k) k.states.length ae 176 [ptr U 0,ptr aU 0] [ab U 26 [.slice bL bq.length pc],ab aU 78 (eK k),A] (pI bq k.states) (λi c ws h=>by have:=Mp i c ws h;omega) (λj N=>V2 bL pc bq A B aA k hk U aU j N)) (hZ▸K)) bF) ?_;exact Mx
def V8(B:∀h,A h->hT h bL pc bq)(aA:∃h,hT h bL pc bq)(d j:Nat)(N:j<bq.length):ad aa 98 [af j,ptr d 0] [ab d 26 AF,A] (qe (ri bq j) [ab d 26 AF,A]):=by
 refine aw Tryz.func98 λF D=>?_;refine bi ?_;rcases K:ri bq j with _|⟨c,ws⟩
 . refine b6 ?_
   refine aT (vZ (V4 bL pc bq A B aA j N) K) ?_;refine bB ?_;exact aX ⟨rfl,rfl⟩
 . refine b6 ?_
   refine br (v7 (V4 bL pc bq A B aA j N) K) ?_;exact My
def V9(B:∀h,A h->hT h bL pc bq)(aA:∃h,hT h bL pc bq):ad aa 55 [.agg #[.slice bL bq.length pc]] [A] (Mj (qj bq) [A]):=by
 refine aw Tryz.func55 λF D=>?_;obtain⟨bh,g⟩:=id aA;have pl:=g.len;have GP:=g.rd.2;haveI rx:gl Gx A bq.length (bq.flatMap eK):=⟨λh=>(B _ h).rd.1⟩;unfold eO at*;refine bb ?_;refine wn λar=>?_;refine c8 ?_;refine ls (d:=14) 5 (.bool (decide ((bq.length:Int)<1)||decide (8<(bq.length:Int)))) ?_ (λe=>?_)
 rotate_left
 . refine hx rfl rfl (λW=>?_) (λW=>?_) rfl
   . have f:=bN W
     refine bQ ?_;exact h4 e
   . have f:=bN W
     simp only[jD];refine bK ?_;exact h4 e
 refine aG ?_;refine iX rfl (qh rfl rfl rfl rfl) ?_;rintro _ _ ⟨GF,rfl,rfl⟩;refine ci rfl (b1 rfl (C5 [(decide ((bq.length:Int)<1)||decide (8<(bq.length:Int)),40)] GF ga) bF) ?_;refine ux ?_;rcases K:qj bq with _|⟨c,ws⟩
 . refine bi ?_
   refine ci rfl (b1 rfl (vZ (v8 (Mz bq) bq.length ae 98 [ptr ar 0] [ab ar 26 [.slice bL bq.length pc],A] (ri bq) (λi c ws h=>by have:=Vt i c ws h;omega) (λj N=>V8 bL pc bq A B aA ar j N)) K) bF) ?_;refine hb ?_;refine fm ?_;refine eJ ?_;refine bK ?_;exact aX ⟨rfl,rfl⟩
 . refine bi ?_
   refine ci rfl (b1 rfl (v7 (v8 (Mz bq) bq.length ae 98 [ptr ar 0] [ab ar 26 [.slice bL bq.length pc],A] (ri bq) (λi c ws h=>by have:=Vt i c ws h;omega) (λj N=>V8 bL pc bq A B aA ar j N)) K) bF) ?_;rintro _ D ⟨_,⟨b,a,p,rfl,rfl⟩,rfl⟩;refine fm ?_;refine fr ?_;refine aB rfl (jt Tryz.underlying131 rfl rfl) ?_;refine bi ?_;exact aX ⟨_,_,_,rfl,rfl⟩
end
end Go.Proofs.YtnnhpnccfnghdaaGreat.C
namespace Go.L.Th
open Go.L Go.L.Lx Go.L.Pg Go.L.Ring Go.L.dq Go.L.dR Go.L.Whl Go.L.dA Go.L.Led
section
variable{b:Bool}{K:List b2}{n:cC}
def awT{i:Nat}{r k:lq}(h:As i r k=none):r=none/\k=none:=by
 cases r with
 |none=>exact⟨rfl,h⟩
 |some x=>cases h
def ako{D:Nat->lq}:∀{n i:Nat},fst D i n=none->∀j,i<=j->j<i+n->D j=none
 |0,i,_,j,h1,h2=>absurd h2 ae
 |
  n+1,i,h,j,h1,h2=>by
  obtain⟨aN,bu⟩:=awT (show As i (D i) (fst D (i+1) n)=none from h);by_cases e:j=i
  . rw[e];exact aN
  . exact ako bu j ae ae
def Lo{own:Int}{n:Nat}{D:Nat->lq}(h:ml own n D=none):own=0/\∀j,j<n->D j=none:=by
 unfold ml at h;split at h
 . rename_i bh;exact⟨bh,λj N=>ako h j (eX _) ae⟩
 . cases h
def ow{c:Int}{l:List (Bool×Int)}(h:oC ((b,c)::l)=0)(a6:c≠0):b=false/\oC l=0:=by
 unfold oC at h;cases b with
 |true=>exact absurd h a6
 |false=>exact⟨rfl,h⟩
def awU(h:ti K n=true):(ll K n).isSome=true:=by
 unfold ti at h;unfold ll;rw[List.find?_isSome];obtain⟨x,ah,e⟩:=zt.1 h;exact⟨x,ah,e⟩
def awV(h:ti K n=false):ll K n=none:=by
 unfold ti at h;unfold ll;rw[Sl];intro x ah e;rw[EU]at h;exact h x ah e
def awW{S:List fN}{e:fv}{b:Bool}(h:wb K S e b=0):1<=e.do'/\e.do'<=12/\(e.do'=2->(ll K e.name).isSome=true)/\(0<=e.n/\e.n<=255):=by
 unfold wb at h;obtain⟨h1,h⟩:=ow h bJ;obtain⟨_,h⟩:=ow h bJ;obtain⟨_,h⟩:=ow h bJ;obtain⟨_,h⟩:=ow h bJ;obtain⟨_,h⟩:=ow h bJ;obtain⟨_,h⟩:=ow h bJ;obtain⟨l,h⟩:=ow h bJ;obtain⟨O,-⟩:=ow h bJ;unfold ay at h1;unfold pL at l;unfold wh at O;simp only[TG,sE]at h1 l;rw[TG]at O;refine⟨by omega,by omega,λh2=>?_,by omega⟩;have:=O.1;rw[kM h2,kS]at this;exact awU (by simpa using this)
def Fq(h:qj K=none):K.length<=8/\K≠[]/\(∀k∈K,K.find? (λx=>decide (x.name=k.name))=some k)/\hS K:=by
 obtain⟨bh,h1⟩:=Lo h;obtain⟨bh,-⟩:=ow bh bJ;simp only[TG,sE]at bh;have U:K≠[]:=λe=>by subst e;simp at bh
 have key:∀j k,K[j]?=some k->yg K j k=0/\∀i s,k.states[i]?=some s->pI K k.states i=none:=λj k N=>by
  have h2:=h1 j (dc.1 N).1;unfold ri at h2;rw[N]at h2;obtain⟨aN,bu⟩:=Lo h2;exact⟨aN,λi s ak=>bu i (dc.1 ak).1⟩
 refine⟨by omega,U,λk hk=>?_,U,λk hk=>?_⟩
 . obtain⟨j,N⟩:=Fs.1 hk
   obtain⟨h2,-⟩:=key j k N;unfold yg at h2;obtain⟨_,h2⟩:=ow h2 bJ;obtain⟨aN,_⟩:=ow h2 bJ;have bu:=awV aN;obtain⟨dV,e⟩:=dc.1 N;have aV:K=K.take j++k::K.drop (j+1):=by
    rw[<-e,<-ta dV,CS]
   unfold ll at bu;rw[aV,List.find?_append,bu];simp
 . obtain⟨j,N⟩:=Fs.1 hk
   obtain⟨h2,aN⟩:=key j k N;unfold yg at h2;obtain⟨_,h2⟩:=ow h2 bJ;obtain⟨_,h2⟩:=ow h2 bJ;obtain⟨bu,_⟩:=ow h2 bJ;unfold ir at bu;simp only[TG,sE]at bu;refine⟨λe=>by rw[e]at bu;simp at bu,λt R r aE=>?_⟩;obtain⟨i,ak⟩:=Fs.1 R;have dW:=aN i t ak;unfold pI at dW;rw[ak]at dW;obtain⟨-,g1⟩:=Lo dW;obtain⟨m,bf⟩:=Fs.1 aE;have l:=g1 m (dc.1 bf).1;unfold qf at l;rw[bf]at l;obtain⟨O,p⟩:=Lo l;unfold C7 at O;obtain⟨_,O⟩:=ow O bJ;obtain⟨_,O⟩:=ow O bJ;obtain⟨c,_⟩:=ow O bJ;simp only[sE]at c;refine⟨by omega,λe V=>?_⟩;obtain⟨q,bm⟩:=Fs.1 V;have a:=p q (dc.1 bm).1;unfold rh at a;rw[bm]at a;simp only at a;split at a
   . rename_i b;exact awW b
   . cases a
end
end Go.L.Th
namespace Go.Proofs.YtnnhpnccfnghdaaGreat.L.bH
open Go.Proofs.YtnnhpnccfnghdaaGreat.L
open Go.L Go.L.Ring Go.L.dq Go.L.dR Go.L.Whl Go.L.dA Go.L.Lx Go.L.Pg
open Go.L.Led (dg du dT bs av e8)
open Go.L.Th (bt cW c9 bX dt bR bU ev bW ao most dU cQ ff eD dM In cV c6 eE bx bM eF eG bk cG dw go bq Good eb eH dQ acc Inv eh er e3 busy cZ ek dN fa)
open Go.Proofs.YtnnhpnccfnghdaaGreat.C (Mj Mi o3)
attribute[local irreducible] G cE GE cY GT b0 df c4 di Exit.then Exit.inBlock
abbrev aBM:TypeId:=134
def LH{P:Program}{Z:FuncId}{args:List Value}{A:aq}{post:Value->List aq->Prop}{p:Prop}(h:∀h,A h->p)(f:p->ad P Z args [A] post):ad P Z args [A] post:=λF D w s=>f (by
 obtain⟨h1,_,_,_,a,_⟩:=s.e4;exact h _ a) F D w s
def alG(c:Int)(ws:List Int)(b:Nat):aq:=dj (bv:=Option Addr×Nat) (λ_=>True) (λE=>[ab b aBM [af c,.slice E.1 ws.length E.2],o3 E.1 E.2 ws])
section
variable{bL:Option Addr}{pc:Nat}{K:List b2}{a2:aq}
def aBN(o:∀h,a2 h->hT h bL pc K)(h:qj K=none):ad aa 55 Jp [a2] (aH (.nilIface) [a2]):=
 LH (λh a=>⟨h,o h a⟩) λaA=>(C.V9 bL pc K a2 o aA).mono λu H q=>by rw[h]at q;exact q
def aBO(o:∀h,a2 h->hT h bL pc K){c:Int}{ws:List Int}(h:qj K=some (c,ws)):ad aa 55 Jp [a2] (λu H=>∃b,u=.iface 131 (ptr b 0)/\H=[alG c ws b,a2]):=
 LH (λh a=>⟨h,o h a⟩) λaA=>q1 [] (C.V9 bL pc K a2 o aA) kG λu H q=>by
  rw[h]at q;obtain⟨b,a,p,rfl,rfl⟩:=q;exact⟨_,⟨b,rfl,rfl⟩,λh s=>cF (D:=[a2]) (a,p) trivial kG h s⟩
def LI{P:List b2}(h:Th.hS P):Th.hS (P.map dr):=by
 have ba:∀n,(Th.ll P n).isSome=true->(Th.ll (P.map dr) n).isSome=true:=λn aM=>by
  unfold Th.ll at*;rw[List.find?_isSome]at*;obtain⟨x,ah,e⟩:=aM;exact⟨dr x,lU.2 ⟨x,ah,rfl⟩,e⟩
 refine⟨λe=>h.ne (List.map_eq_nil_iff.1 e),λk hk=>?_⟩;obtain⟨fd,lw,rfl⟩:=lU.1 hk;have g:=h.kinds fd lw;refine⟨λe=>g.st (List.map_eq_nil_iff.1 (show fd.states.map jf=[]from e)),λt R r aE=>?_⟩;obtain⟨t0,hO,rfl⟩:=lU.1 (show t∈fd.states.map jf from R);obtain⟨l,a,rfl⟩:=lU.1 (show r∈t0.rows.map mP from aE);obtain⟨h1,h2⟩:=g.cw t0 hO l a;exact⟨h1,λe V=>⟨(h2 e V).1,(h2 e V).2.1,λd=>ba _ ((h2 e V).2.2.1 d),(h2 e V).2.2.2⟩⟩
def LJ{C:bt}(J:C.ok)(o:∀h,a2 h->hT h bL pc K)(cO:qj K=none){s:ao}(aj:Th.start C ni=some s):ad aa 28 [.agg (sM (l4 C)).toArray,.agg #[.slice bL K.length pc]] [a2] (λu H=>∃h,u=.tuple #[ptr h 0,.nilIface]/\H=[kF C ni h s,a2]):=by
 obtain⟨h1,_,aN,_⟩:=Th.Fq cO;refine LH (λh a=>show∀k∈K,lT k from λk hk=>U0 ((o h a).kinds k hk)) λhk=>?_;refine q1 [] (aBm bL pc K a2 C J o hk h1 aN (aBN o cO) s aj) kG λu H ⟨X,z,ay,aV,al,bz,cb⟩=>⟨_,⟨X.h,bz,rfl⟩,λh s=>?_⟩;subst cb;rw[<-ay,<-aV];exact Er (D:=[a2]) al h ((show∀h,Sat ((a2::bl X z _)++[]) h->Sat (bl X z _++[a2]) h from by simp only[cp,cm,jr];exact(au)) h s)
end
section
variable(C:bt)(bL:Option Addr)(pc:Nat)(K:List b2)(ea:Option Addr)(cA:Nat)(es:List cZ)(r:Int)(a2:aq)(c:kU)
abbrev aBP:Prop:=∀l:cC,eO l.length->ad aa 92 [S l] [] (aH (.bool (mS l)) [])
def zY:aBP:=λl av=>by
 unfold eO at av;exact C9 l ae
def ad0(x:bX):qx (kq x) (kq x)=true:=by
 simp[qx,kq]
abbrev pY(C:kU)(bL:Option Addr)(pc:Nat)(K:List b2)(ea:Option Addr)(cA:Nat)(es:List cZ)(r:Int):List Value:=sM C++[.slice bL K.length pc,.slice ea es.length cA,af r]
abbrev Ur(P:List b2)(s:ao)(e:cZ):Option ao:=(Th.jq C P s e).map (·.1)
structure zZ(C:bt)(P:List b2)(es:List cZ)(y:ao)(i:Nat)(s:ao):Prop where
 r:dN C P (1+i) s
 hp:(es.drop i).foldlM (Ur C P) s=some y
 ak:i<=es.length
def zZ.next{C:bt}{P:List b2}{es:List cZ}{y s:ao}{i:Nat}{e:cZ}(J:C.ok)(cT:Th.hS P)(h:zZ C P es y i s)(V:es[i]?=some e)(av:es.length<=400):∃aD l,Th.jq C P s e=some (aD,l)/\zZ C P es y (i+1) aD:=by
 obtain⟨dV,u⟩:=dc.1 V;have hk:Th.gM=10000000:=rfl;obtain⟨aD,l,ay,gP⟩:=Th.xJ zo J cT ae h.r e;refine⟨aD,l,ay,⟨gP,?_,dV⟩⟩;have bh:=h.hp;rw[ta dV,u,akm]at bh;rw[show Ur C P s e=some aD by unfold Ur;rw[ay];rfl]at bh;exact bh
def zZ.fin{C:bt}{P:List b2}{es:List cZ}{y s:ao}(h:zZ C P es y es.length s):y=s:=by
 exact ad6
def Us(l:List bX)(a aI:Option Addr)(c aQ:Nat)(av:l.length<=most):ad aa 27 [.slice a l.length c,.slice aI l.length aQ] [dP a c l,dP aI aQ l] (aH h6 [dP a c l,dP aI aQ l]):=by
 refine aw Tryz.func27 λF D=>?_;have ip:l.length<=1099511627776:=av;refine dC ?_;refine aB rfl (fC (c:=false) ga (mo rfl rfl)) ?_;refine dC ?_;refine gG (bv:=Nat) (λE=>E<=l.length) (λE=>[(5,af E),(0,.slice a l.length c),(1,.slice aI l.length aQ)]) (λE=>dP a c l::dP aI aQ l::D) (λE=>l.length -E) 0 (eX _) dy (au) ?_;intro i ak;replace ak:i<=l.length:=ak;refine cv ?_;refine cg (λW=>?_) (λW=>?_)
 . obtain⟨e,R⟩:∃e,l[i]?=some e:=⟨_,cz (show i<l.length by omega)⟩
   refine bB ?_;refine cu [] [9] [dP a c l,dP aI aQ l] ?_;refine bb ?_;refine Q6 ?_;refine go_v rfl .none rfl (kv rfl (kw kq 9 zI R) rfl) ?_;refine bb ?_;refine go_v rfl .none rfl (fI (v:=.slice aI l.length aQ) rfl rfl (show i<l.length by omega)) ?_;refine go_v rfl .none rfl (kv rfl (kw kq 9 zI R) rfl) ?_;refine go_v rfl .none rfl (fC (c:=false) (by show(!qx (kq e) (kq e))=false;rw[ad0];rfl) (Zy rfl rfl rfl rfl)) ?_;refine UX ?_;refine fD (i+1) (show i+1<=l.length by omega) (show l.length -(i+1)<l.length -i by omega) dy (au)
 . refine dC ?_
   exact aX ⟨rfl,rfl⟩
def alH(J:C.ok)(o:∀h,a2 h->hT h bL pc K)(I:∀h,a2 h->iD h ea cA es.length (es.flatMap gv))(Y:eO (es.length*48))(b:∀e∈es,eO e.tag.length)(cO:qj K=none)(E:ao×Bool)(T:fa C (K.map dr) es r=some E):ad aa 23 [.agg (pY (l4 C) bL pc K ea cA es r).toArray] [a2] (λu H=>∃h,u=ptr h 0/\H=[kF C (K.map dr) h E.1,a2]):=by
 refine aw Tryz.func23 λF D=>?_;have cT:=LI (Th.Fq cO).2.2.2;haveI:gl (.slice ea es.length cA) a2 es.length (es.flatMap gv):=⟨λh=>(I _ h).1⟩;unfold eO at Y;obtain⟨ec,ay,j⟩:=gZ.1 T;obtain⟨a,aV,bz⟩:=gZ.1 j;have l:dN C (K.map dr) (1+0) ec:=by
  obtain⟨g,L,l⟩:=Th.Lj J cT;rw[ay]at L;cases L;exact l
 have hu:Th.gM=10000000:=rfl;have av:(es.take 400).length=min 400 es.length:=n0;refine bb ?_;refine wn λar=>?_;refine cv ?_;refine br (LJ J o cO ay) ?_;rintro _ _ ⟨h,rfl,rfl⟩;refine aeE ?_;refine lL ?_;refine cv ?_;refine gG (bv:=Nat×ao) (λE=>zZ C (K.map dr) (es.take 400) a E.1 E.2) (λE=>[(5,af E.1),(3,ptr h 0),(1,ptr ar 0)]) (λE=>kF C (K.map dr) h E.2::ab ar 57 (pY (l4 C) bL pc K ea cA es r)::a2::D) (λE=>(es.take 400).length -E.1) (0,ec) (⟨l,aV,eX _⟩) dy (au) ?_;rintro⟨i,aD⟩ bC;replace bC:zZ C (K.map dr) (es.take 400) a i aD:=bC;have ak:=bC.ak;dsimp only;refine cv ?_;refine ls (d:=24) 3 (.bool (decide ((i:Int)<(es.length:Int))&&decide ((i:Int)<400))) ?_ (λc=>?_)
 rotate_left
 . refine hx rfl rfl (λW=>?_) (λW=>?_) rfl
   . have f:=bN W
     refine bK ?_;exact h4 c
   . have f:=bN W
     simp only[jD];refine bb ?_;exact h4 c
 refine bb ?_;refine cg (λM=>?_) (λM=>?_)
 . obtain⟨e,V⟩:∃e,(es.take 400)[i]?=some e:=⟨_,cz aac⟩
   have z:es[i]?=some e:=by rw[Sq]at V;split at V;exact V;cases V
   obtain⟨bP,U,aL,n⟩:=bC.next J cT V ae;have dV:i<es.length:=(dc.1 z).1;have Ok:i<(es.take 400).length:=(dc.1 V).1;refine aeh ?_;refine ci rfl (b1 rfl (CE J cT bC.r ae (zY e.tag (b e (QC (js V)))) aL) bF) ?_;refine afh ?_;refine fD (i+1,bP) n (show(es.take 400).length -(i+1)<(es.take 400).length -i by omega) dy (au)
 . obtain rfl:i=(es.take 400).length:=by
    have p:=M;exact adG
   obtain rfl:=bC.fin;refine c8 ?_;refine aB rfl (td (min r 400) (by rw[Int.min_def];split<;>split<;>omega) rfl rfl) ?_;refine ci rfl (b1 rfl (Uo (k:=min r 400) J cT bC.r rfl ae bz) bF) ?_;refine Rw ?_;exact aX ⟨h,rfl,rfl⟩
def Ut(a6:c.okB=false):ad aa 23 Eo [a2] (aH fP [a2]):=by
 refine aw Tryz.func23 λF D=>?_;refine bb ?_;refine wn λar=>?_;refine cv ?_;refine br (aBB bL pc K a2 c a6) ?_;exact agl
def Uu(a6:c.okB=true)(o:∀h,a2 h->hT h bL pc K)(f:Int×List Int)(ba:qj K=some f):ad aa 23 Eo [a2] (aH fP [a2]):=by
 refine aw Tryz.func23 λF D=>?_;refine bb ?_;refine wn λar=>?_;refine cv ?_;refine br (aBC bL pc K a2 c a6 (alG f.1 f.2) (aBO o ba)) ?_;exact agl
end
end Go.Proofs.YtnnhpnccfnghdaaGreat.L.bH
namespace Go.Proofs.YtnnhpnccfnghdaaGreat.L.bH
open Go.Proofs.YtnnhpnccfnghdaaGreat.L
open Go.L Go.L.Ring Go.L.dq Go.L.dR Go.L.Whl Go.L.dA Go.L.Lx Go.L.Pg
open Go.L.Led (dg du dT bs av e8)
open Go.L.Th (bt cW c9 bX dt bR bU ev bW ao most dU cQ ff eD dM In cV c6 eE bx bM eF eG bk cG dw go bq Good eb eH dQ acc Inv eh er e3 busy cZ ek dN fa)
open Go.Proofs.YtnnhpnccfnghdaaGreat.C (Mj Mi)
attribute[local irreducible] G cE GE cY GT b0 df c4 di Exit.then Exit.inBlock
section
variable(aS Y c2 E:Nat){n h:Nat}{s:ao}{y:ao×Bool}
def FT:List Row:=[⟨[120],false,0,some ⟨aS,0,none⟩,1,[Th.zT]⟩]
def FU:List fN:=[⟨[115],some ⟨Y,0,none⟩,1,FT aS⟩]
def FV:List b2:=[⟨[97],0,1,none,0,[],some ⟨c2,0,none⟩,1,FU aS Y⟩]
def LK:aq:=M5 [ab E 78 ((FV aS Y c2).flatMap eK),ab c2 82 ((FU aS Y).flatMap gy),ab Y 85 ((FT aS).flatMap hs),ab aS 87 ([Th.zT].flatMap fO)]
def aBQ:∀h,LK aS Y c2 E h->hT h JH 1 (FV aS Y c2):=λh s=>by
 have h1:eO 1:=y5;have a:gI h (.slice JH 1 1) 1 ((FV aS Y c2).flatMap eK):=iW.get s;have w:=iW.get (v:=.slice (some ⟨c2,0,none⟩) 1 1) (n:=1) (xs:=(FU aS Y).flatMap gy) s;have md:=iW.get (v:=.slice (some ⟨Y,0,none⟩) 1 1) (n:=1) (xs:=(FT aS).flatMap hs) s;have b:=iW.get (v:=.slice (some ⟨aS,0,none⟩) 1 1) (n:=1) (xs:=[Th.zT].flatMap fO) s;refine⟨⟨a,ei _⟩,(show eO (1*80) by unfold eO;decide),λk hk=>?_⟩;obtain rfl:=rX.1 hk;refine⟨h1,⟨.inl ⟨rfl,rfl,rfl⟩,ei _⟩,(show eO (0*24) by unfold eO;decide),(λc a6=>absurd a6 Ai),⟨w,ei _⟩,(show eO (1*40) by unfold eO;decide),λx ah=>?_⟩;obtain rfl:=rX.1 ah;refine⟨h1,⟨md,ei _⟩,(show eO (1*56) by unfold eO;decide),λr aE=>?_⟩;obtain rfl:=rX.1 aE;refine⟨h1,⟨b,ei _⟩,(show eO (1*80) by unfold eO;decide),λe V=>?_⟩;obtain rfl:=rX.1 V;exact⟨by unfold eO;decide,by unfold eO;decide,by unfold eO;decide⟩
def aBR:ad aa 28 [.agg (sM (l4 Th.jB)).toArray,.agg #[.slice JH 1 1]] [LK aS Y c2 E] (λu H=>∃h,u=.tuple #[ptr h 0,.nilIface]/\H=[kF Th.jB Th.j8 h Th.Cq,LK aS Y c2 E]):=by
 have bh:=LJ (K:=FV aS Y c2) Th.ue (aBQ aS Y c2 E) ry (s:=Th.Cq) Th.TD.1;exact bh
def Uv{e:cZ}(r:dN Th.jB Th.j8 n s)(aM:n+1<=Th.gM)(av:eO e.tag.length)(ag:Th.jq Th.jB Th.j8 s e=some y)(aA:y.2=true):ad aa 26 [ptr h 0,.agg (gv e).toArray] [kF Th.jB Th.j8 h s] (aH h6 [kF Th.jB Th.j8 h y.1]):=by
 have bh:=CE (h:=h) Th.ue Th.xL r aM (zY e.tag av) ag;rw[aA]at bh;exact bh
def alI(r:dN Th.jB Th.j8 n s)(aM:n+13*100<=Th.gM)(ag:Th.rest Th.jB Th.j8 100 s=some y)(aA:y.2=true):ad aa 24 [ptr h 0,af 100] [kF Th.jB Th.j8 h s] (aH h6 [kF Th.jB Th.j8 h y.1]):=by
 have bh:=Uo (h:=h) (k:=100) Th.ue Th.xL r bJ aM ag;rw[aA]at bh;exact bh
def aBS{α z:Type}{l:List α}{f:α->z}{i:Nat}{y:z}(h:(l[i]?).map f=some y):∃x,l[i]?=some x/\f x=y:=kX.1 h
def alJ{U:List Std}{l:List bR}{m:Int}(h:U.map (·.x)=l)(av:l.length=1)(bf:(l[0]?).map (·.mode)=some m):0<U.length/\(U.flatMap q4)[4]?=some (af m):=by
 subst h;rw[oQ]at av;obtain⟨E,rfl⟩:=List.length_eq_one_iff.1 av;simp at bf;subst bf;exact⟨by simp,rfl⟩
def aBT:ad aa 43 [] [] (aH (.agg (sM (l4 Th.jB)).toArray) []):=by
 refine aw Tryz.func43 λF D=>?_;refine bb ?_;refine wn λaP=>?_;refine bK ?_;refine aB rfl (kE (cs:=sM (l4 Th.jB)) rfl rfl) ?_;refine bK ?_;refine x5 (.inl rfl) rfl rfl rfl rfl [] (dI) (au)
def asn:ad aa 22 [] [] w6:=by
 refine aw Tryz.func22 λF D=>?_;refine cq ?_;refine aB rfl (kE (cs:=fO Th.zT) rfl rfl) ?_;refine wn λaS=>?_;refine aB rfl (kE (cs:=hs ⟨[120],false,0,some ⟨aS,0,none⟩,1,[Th.zT]⟩) rfl rfl) ?_;refine wn λY=>?_;refine aB rfl (kE (cs:=gy ⟨[115],some ⟨Y,0,none⟩,1,FT aS⟩) rfl rfl) ?_;refine wn λc2=>?_;refine aB rfl (kE (cs:=eK ⟨[97],0,1,none,0,[],some ⟨c2,0,none⟩,1,FU aS Y⟩) rfl rfl) ?_;refine wn λE=>?_;refine aG ?_;refine wn λar=>?_;refine bK ?_;refine nu (λh s=>Sat.tail (λh s=>(Sat.flat (l:=[ab E 78 ((FV aS Y c2).flatMap eK),ab c2 82 ((FU aS Y).flatMap gy),ab Y 85 ((FT aS).flatMap hs),ab aS 87 ([Th.zT].flatMap fO)])).2 s) ((au) h s)) ?_;rw[<-LK];refine hU [0,2] [0] [(1,.bI),(0,.c5),(2,.c5),(3,.loc),(4,.loc),(5,.loc),(6,.loc),(7,.loc)] [ab ar 26 [.slice JH 1 1]] mixed gB ?_;refine aG ?_;refine aT (aBT) ?_;refine aG ?_;refine br (aBR aS Y c2 E) ?_;rintro _ _ ⟨h,rfl,rfl⟩;refine et ?_;refine dC ?_;refine aB rfl (NZ rfl) ?_;refine c8 ?_;refine aB rfl (kE (cs:=gv ⟨4,0,1,[120],5⟩) rfl rfl) ?_;refine aG ?_;refine ci rfl (b1 rfl (Uv Th.TD.2 bJ y5 Th.TE.1 Th.Fp.1) bF) ?_;refine EN ?_;refine ci rfl (b1 rfl (alI Th.TE.2 bJ Th.Lk.1 Th.Fp.2.1) bF) ?_;refine hb ?_;refine fm ?_;refine c0 ?_;refine ci rfl (b1 rfl (xU (h:=h) Th.Lk.2 bJ) bF) ?_;rintro _ D ⟨_,⟨d,e,rfl,rfl⟩,rfl⟩;refine fm ?_;refine bQ ?_;refine aB rfl (fC (c:=false) (by rw[Th.Cs.1];rfl) (mo rfl rfl)) ?_;refine bK ?_;refine aB rfl (fI (j:=1) rfl rfl (show 1<Th.rP.1.trace.length by rw[Th.Cs.1];decide)) ?_;refine aG ?_;refine aB rfl (kv rfl (kw kq 9 zI Th.Lm.1) rfl) ?_;refine aG ?_;refine aB rfl (kE (cs:=kq {Th.c7 with kind:=2,id:=1,cy:=-1,to:=1,name:=[120],n:=5}) rfl rfl) ?_;refine Ro ?_;refine bB ?_;refine aB rfl (fI (j:=3) rfl rfl (show 3<Th.rP.1.trace.length by rw[Th.Cs.1];decide)) ?_;refine aG ?_;refine aB rfl (kv rfl (kw kq 9 zI Th.Lm.2.1) rfl) ?_;refine aG ?_;refine aB rfl (kE (cs:=kq {Th.c7 with kind:=2,id:=2,cy:=1,to:=1,name:=[121],n:=5}) rfl rfl) ?_;refine Ro ?_;refine bB ?_;refine aB rfl (fI (j:=6) rfl rfl (show 6<Th.rP.1.trace.length by rw[Th.Cs.1];decide)) ?_;refine aG ?_;refine aB rfl (kv rfl (kw kq 9 zI Th.Lm.2.2.1) rfl) ?_;refine aG ?_;refine aB rfl (kE (cs:=kq {Th.c7 with kind:=4,dL:=1,id:=2,name:=[115]}) rfl rfl) ?_;refine Ro ?_;refine cv ?_;refine aB rfl (kE (cs:=gv ⟨7,0,0,[],0⟩) rfl rfl) ?_;refine ci rfl (b1 rfl (Uv Th.Lk.2 bJ y5 Th.TF.1 Th.Fp.2.2.1) bF) ?_;refine Ax ?_;refine ci rfl (b1 rfl (alI Th.TF.2 bJ Th.Ll.1 Th.Fp.2.2.2.1) bF) ?_;refine ux ?_;refine aT (aBI (h:=h) (n:=0)) ?_;refine aG ?_;refine aB rfl (fC (c:=true) (by rw[Th.Cs.2.1];rfl) (my rfl rfl)) ?_;refine bB ?_;refine ci rfl (b1 rfl (aBL (h:=h) Th.Ll.2 bJ Th.ue) bF) ?_;rintro _ D ⟨_,⟨a77,f,U,rfl,T,-,rfl⟩,rfl⟩;refine rV ?_;refine aB rfl (fI (j:=0) rfl rfl (alJ T Th.Ln.1 Th.Ln.2).1) ?_;refine b6 ?_;refine aB rfl (gz rfl (alJ T Th.Ln.1 Th.Ln.2).2) ?_;refine aG ?_;refine aB rfl (fC (c:=true) bJ (my rfl rfl)) ?_;refine bB ?_;refine aB rfl (kE (cs:=gv ⟨4,0,1,[120],0⟩) rfl rfl) ?_;refine aG ?_;refine ci rfl (b1 rfl (Uv Th.Ll.2 bJ y5 Th.akk.1 Th.Fp.2.2.2.2) bF) ?_;refine ux ?_;refine ci rfl (b1 rfl (xU (h:=h) Th.akk.2 bJ) bF) ?_;rintro _ D ⟨_,⟨g,i,rfl,rfl⟩,rfl⟩;refine rV ?_;obtain⟨yj,b,a⟩:=aBS Th.Lm.2.2.2;refine aB rfl (fI (j:=9) rfl rfl (show 9<Th.Cr.1.trace.length by rw[Th.Cs.2.2];decide)) ?_;refine b6 ?_;refine aB rfl (gz rfl (rT kq 9 zI b (j:=0) rfl)) ?_;refine aG ?_;refine aB rfl (fC (c:=true) (by rw[a];rfl) (my rfl rfl)) ?_;refine bi ?_;exact aX ⟨rfl,rfl⟩
end
end Go.Proofs.YtnnhpnccfnghdaaGreat.L.bH
namespace Go.L.Th
open Go.L Go.L.Lx Go.L.Pg Go.L.Ring Go.L.dq Go.L.dR Go.L.Whl Go.L.dA Go.L.Led
inductive nT(j:Nat):ao->ao->Prop
 |tell {s:ao} (e:bX) (h2:e.kind≠2) (aN:e.kind≠3) (g1:e.kind≠6):nT j s {s with trace:=s.trace++[e]}
 |kill {s:ao} {id why:Int} {l:cW} (av:jX s id=some l) (O:1<=why/\why<=5):nT j s {s with bc:=dg s.bc id 8,dead:=s.dead++[(id,l.to,why)],trace:=s.trace++[({c7 with kind:=6,id:=id,to:=l.to,why:=why}:bX)]}
 |start {s:ao} (a:Nat) {id:Int} {l:cW} (av:jX s id=some l):nT j s {s with bc:=dg s.bc id 7,trace:=s.trace++[({c7 with kind:=3,dL:=a,id:=id}:bX)]}
 |enter {s:ao} (l:cW) (c:Bool):nT j s {s with lets:=s.lets++[l],bc:=dT s.bc ((s.lets.length+1:Nat):Int) 1,trace:=s.trace++[({c7 with kind:=2,id:=((s.lets.length+1:Nat):Int),cy:=l.cy,to:=l.to,name:=l.tag,n:=l.n,nj:=c}:bX)]}
 |az {s:ao} {t:bW} (on:Option (bU×K)) (b:Bool) (h:s.az[j]?=some t):nT j s {s with az:=s.az.set j {t with on:=on,ij:=b}}
 |aJ {s:ao} (l:List bR):nT j s {s with aJ:=l}
 |bc {s:ao} (id w:Int) (h:1<=w/\w<=6):nT j s {s with bc:=du s.bc id w}
 |notes {s:ao} (l:List c9):nT j s {s with notes:=l}
 |clock {s:ao} (n m:Nat):nT j s {s with now:=n,ticks:=m}
 |cells {s:ao} (L:List Int) (w:fX):nT j s {s with L:=L,bs:=w}
 |shut {s:ao}:nT j s {s with shut:=true}
inductive ks(j:Nat):ao->ao->Prop
 |nil {s:ao}:ks j s s
 |cons {s s1 bP:ao}:nT j s s1->ks j s1 bP->ks j s bP
def ks.one{j:Nat}{s y:ao}(h:nT j s y):ks j s y:=.cons h .nil
def ks.trans{j:Nat}{s s1 bP:ao}(h:ks j s s1)(h2:ks j s1 bP):ks j s bP:=by
 induction h with
 |nil=>exact h2
 |cons m _ K=>exact .cons m (K h2)
def fb(j:Nat)(s:ao)(x:Option ao):Prop:=∀y,x=some y->ks j s y
section
variable{j:Nat}{s s1:ao}
def fb.bind{α:Type}{x:Option α}{f:α->Option ao}(h:∀a,x=some a->fb j s (f a)):fb j s (x>>=f):=λy e=>by
 obtain⟨a,h1,h2⟩:=gZ.1 e;exact h a h1 y h2
def fb.lk{x:Option ao}{f:ao->Option ao}(h1:fb j s x)(h:∀a,x=some a->fb j a (f a)):fb j s (x>>=f):=λy e=>by
 obtain⟨a,ay,aV⟩:=gZ.1 e;exact(h1 a ay).trans (h a ay y aV)
def fb.ite{p:Prop}[Decidable p]{a b:Option ao}(h1:p->fb j s a)(h2:¬p->fb j s b):fb j s (if p then a else b):=by
 by_cases h:p
 . rw[bd h];exact h1 h
 . rw[a8 h];exact h2 h
def fb.no:fb j s none:=λ_ e=>by cases e
def fb.ret:fb j s (some s):=λ_ e=>by cases e;exact .nil
def fb.step{x:Option ao}(m:nT j s s1)(h:fb j s1 x):fb j s x:=λy e=>.cons m (h y e)
def fb.steps{x:Option ao}(m:ks j s s1)(h:fb j s1 x):fb j s x:=λy e=>m.trans (h y e)
def fb.tell(e:bX)(h:e.kind≠2/\e.kind≠3/\e.kind≠6):fb j s (tell e s):=λy q=>by obtain⟨_,rfl⟩:=li q;exact .one (.tell e h.1 h.2.1 h.2.2)
def fb.kill(id why:Int):fb j s (kill id why s):=λy h=>by obtain⟨l,h1,_,_,h2,rfl⟩:=zR h;exact .one (.kill h1 h2)
def fb.jz(why:Int):∀(l:List Int) {s:ao},fb j s (jz why l s)
 |[],_=>.ret
 |_::l,_=>.lk (.kill _ _) λ_ _=>fb.jz why l
def fb.ew(o:bU)(k:K):fb j s (ew j s o k):=λy h=>by obtain⟨t,h1,_,rfl⟩:=jY h;exact .one (.az (some (o,k)) t.ij h1)
def awE{j:Nat}{s y:ao}{b:Bool}(h:sleep j s b=some y):∃t,s.az[j]?=some t/\y={s with az:=s.az.set j {t with ij:=b}}:=by
 unfold sleep at h;cases e:s.az[j]?with
 |none=>rw[e]at h;cases h
 |some t=>rw[e]at h;cases h;exact⟨t,rfl,rfl⟩
def fb.sleep(b:Bool):fb j s (sleep j s b):=λy h=>by obtain⟨t,h1,rfl⟩:=awE h;exact .one (.az t.on b h1)
def Tv{id w:Int}(h:1<=w/\w<=6):ks j s (move s id w):=.one (.bc id w h)
def Tw{id f w:Int}(h:1<=w/\w<=6):ks j s (lg s id f w):=by unfold lg;split;exact Tv h;exact .nil
def lj{a:Nat}{x:bR}:ks j s (dd s a x):=.one (.aJ _)
def Tx{w:Int}(h:1<=w/\w<=6):∀(l:List Int) {s:ao},ks j s (l.foldl (λs id=>move s id w) s)
 |[],_=>.nil
 |_::l,_=>(Tv h).trans (Tx h l)
def aj1{f w:Int}(h:1<=w/\w<=6):∀(l:List Int) {s:ao},ks j s (l.foldl (λs id=>lg s id f w) s)
 |[],_=>.nil
 |_::l,_=>(Tw h).trans (aj1 h l)
def fb.enter(l:cW)(c:Bool)(r:bU){f:ao×Int->Option ao}(h:∀s1 id,enter s l c r=some (s1,id)->fb j s1 (f (s1,id))):fb j s (enter s l c r>>=f):=λy e=>by
 obtain⟨⟨s1,id⟩,ay,aV⟩:=gZ.1 e;cases r with
 |
  fV v=>
  have bz:=ay;obtain⟨rfl,rfl,_,_,rfl⟩:=Tt bz;exact .cons (.enter l c) (h _ _ ay y aV)
 |_=>cases ay
def fb.ame(a:Nat):fb j s (xG s a):=by
 unfold xG;exact .bind λx _=>.steps ((Tx bJ _).trans lj) .ret
variable{C:bt}{P:List b2}{g:ao->bU->K->Option ao}(aF:∀s r k,fb j s (g s r k))
include aF
theorem Ld(s:ao)(r:bU)(a:Nat)(k:K):fb j s (ot C g j s r a k):=by
 unfold ot;cases r with
 |post aI p=>exact .ite (λ_=>.ew _ _) λ_=>aF _ _ _
 |_=>exact .no
theorem aj2(s:ao)(id:Int)(k:K):fb j s (rN C g j s id k):=by
 unfold rN;exact .bind λl _=>.ite (λ_=>.lk (.kill _ _) λ_ _=>aF _ _ _) λ_=>.ite (λ_=>.ew _ _) λ_=>.no
omit aF in
theorem Co(s:ao)(a:Nat)(n:c9)(k:K):fb j s (qQ C j s a n k):=by
 unfold qQ;exact .ite (λ_=>.step (.notes _) (.ew _ _)) λ_=>.no
omit aF in
theorem aj3(s:ao)(x y:Nat)(k:K):fb j s (ua C j s x y k):=by
 unfold ua;exact .ite (λ_=>.ew _ _) λ_=>.no
omit aF in
theorem aj4(s:ao)(a:Nat):fb j s (vD j s a):=by
 unfold vD;exact .bind λx _=>.ite (λ_=>.ret) λ_=>.ew _ _
omit aF in
theorem awF(s:ao)(a who:Nat)(k:K):fb j s (xF C j s a who k):=by
 unfold xF;exact .bind λx _=>.ite (λ_=>.steps lj (.ew _ _)) λ_=>.no
theorem awG{s:ao}{a:Nat}{x:bR}{e:fv}{b who:Int}{slot:Nat}{c:ao->List Int->K->Option ao}{k:K}(a6:∀s l k,fb j s (c s l k)):fb j s (vE C g j s a x e b who slot c k):=by
 unfold vE;refine .ite (λ_=>.ew _ _) λ_=>.ite (λ_=>.ew _ _) λ_=>.ite (λ_=>.steps lj (aF _ _ _)) λ_=>.ite (λ_=>.lk (.ame a) λ_ _=>aF _ _ _) λ_=>.ite (λ_=>.ew _ _) λ_=>
  .ite (λ_=>.steps lj (a6 _ _ _)) λ_=>.ite (λ_=>.ite (λ_=>aF _ _ _) λ_=>.ite (λ_=>awF _ _ _ _) λ_=>.ite (λ_=>.steps lj (.ew _ _)) λ_=>.no) λ_=>.no
theorem aj5{c:ao->List Int->K->Option ao}(a6:∀s l k,fb j s (c s l k))(s:ao)(d:ev)(i:Nat)(k:K):fb j s (mH C g j c s d i k):=by
 unfold mH;cases d with
 |c5 a id p=>exact .bind λl _=>.bind λe _=>by unfold Ci;exact .bind λx _=>awG aF a6
 |cancel ids=>exact .bind λ_ _=>.ew _ _
 |leave due=>exact .bind λ_ _=>aj2 aF _ _ _
 |push l w=>exact .bind λ_ _=>Co _ _ _ _
 |l9 a=>exact .ite (λ_=>aF _ _ _) λ_=>aj3 _ _ _ _
theorem awH(s:ao)(d:ev)(i n:Nat)(k:K):fb j s (zP C g j s d i n k):=by
 unfold zP;exact .ite (λ_=>aF _ _ _) λ_=>aj5 aF (λ_ _ _=>.no) _ _ _ _
theorem Fi(s:ao)(d:ev)(i n:Nat)(k:K):fb j s (mI C g j s d i n k):=by
 unfold mI;exact .ite (λ_=>aF _ _ _) λ_=>aj5 aF (λ_ _ _=>awH aF _ _ _ _ _) _ _ _ _
theorem Ty(s:ao)(l:List Int)(w:Int)(k:K):fb j s (vF C g j s l w k):=Fi aF _ _ _ _ _
theorem Tz(s:ao)(a:Nat)(k:K):fb j s (qR C g j s a k):=by
 unfold qR;exact .bind λx _=>.ite (λ_=>aF _ _ _) λ_=>.steps lj (.lk (.tell _ (by show(13:Int)≠2/\(13:Int)≠3/\(13:Int)≠6;decide)) λ_ _=>Ty aF _ _ _ _)
theorem aj6(s:ao)(a:Nat)(r:cC)(k:K):fb j s (rO C g j s a r k):=by
 unfold rO;exact .bind λx _=>.steps lj (.lk (.tell _ (by show(9:Int)≠2/\(9:Int)≠3/\(9:Int)≠6;decide)) λ_ _=>.ite (λ_=>Tz aF _ _ _) λ_=>Co _ _ _ _)
omit aF in
theorem awI(s:ao)(a:Nat)(k:K):fb j s (zQ j s a k):=by
 unfold zQ;exact .bind λx _=>.steps lj (.lk (.jz _ _) λ_ _=>.ew _ _)
theorem aj7(s:ao)(a:Nat)(k:K):fb j s (p6 g j s a k):=by
 unfold p6;exact .bind λx _=>.ite (λ_=>aF _ _ _) λ_=>.ite (λ_=>awI _ _ _) λ_=>.ite (λ_=>.bind λst _=>.steps lj (.lk (.ame a) λs1 _=>.bind λx _=>.steps lj (.lk (.tell _ (by show(12:Int)≠2/\(12:Int)≠3/\(12:Int)≠6;decide)) λ_ _=>aF _ _ _))) λ_=>aF _ _ _
theorem TA(s:ao)(a:Nat)(n:c9)(d:Int)(k:K):fb j s (p7 C g j s a n d k):=by
 unfold p7;exact .lk (.tell _ (by show(10:Int)≠2/\(10:Int)≠3/\(10:Int)≠6;decide)) λs _=>.ite (λ_=>Co _ _ _ _) λ_=>.ite (λ_=>Co _ _ _ _) λ_=>.ite (λ_=>Co _ _ _ _) λ_=>.bind λx _=>.steps lj (.ite (λ_=>aj6 aF _ _ _ _) λ_=>aF _ _ _)
theorem awJ(s:ao)(a:Nat)(n:c9)(k:K):fb j s (ub C g j s a n k):=by
 unfold ub;exact .bind λx _=>.ite (λ_=>aF _ _ _) λ_=>.ite (λ_=>TA aF _ _ _ _ _) λ_=>.ew _ _
theorem awK(s:ao)(a:Nat)(n:c9)(k:K):fb j s (sW C g j s a n k):=by
 unfold sW;exact .bind λx _=>.ite (λ_=>Tz aF _ _ _) λ_=>.ite (λ_=>awJ aF _ _ _ _) λ_=>.ite (λ_=>.ite (λ_=>aF _ _ _) λ_=>.steps lj (.lk (.tell _ (by show(11:Int)≠2/\(11:Int)≠3/\(11:Int)≠6;decide)) λ_ _=>Ty aF _ _ _ _)) λ_=>
  .ite (λ_=>.ite (λ_=>aF _ _ _) λ_=>.steps lj (Ty aF _ _ _ _)) λ_=>.ite (λ_=>.steps lj (aj7 aF _ _ _)) λ_=>.no
theorem aj8(s:ao)(a:Nat)(id:Int)(k:K):fb j s (qS C g j s a id k):=by
 unfold qS;refine .bind λx _=>.bind λl av=>.ite (λ_=>.lk (.kill _ _) λ_ _=>aF _ _ _) λ_=>.ite (λ_=>.ite (λ_=>.lk (.kill _ _) λ_ _=>aF _ _ _) λ_=>.steps (lj.trans (Tv bJ)) (.lk (.tell _ (by show(5:Int)≠2/\(5:Int)≠3/\(5:Int)≠6;decide)) λ_ _=>aF _ _ _)) λ_=>.bind λs1 R=>?_;obtain⟨_,rfl⟩:=li R;exact .step (.start a av) (.steps lj (Fi aF _ _ _ _ _))
theorem aj9(s:ao)(a left:Nat):fb j s (p8 C g j s a left):=by
 unfold p8;refine .bind λx _=>.ite (λ_=>aj4 _ _) λ_=>.ite (λ_=>.ew _ _) λ_=>?_;cases x.front.getLast? with
 |none=>exact .ew _ _
 |some id=>exact .steps lj (aj8 aF _ _ _ _)
omit aF in
theorem aka{s:ao}(id parent:Nat)(kind:cC):fb j s (sX C P s id parent kind):=by
 unfold sX;exact .bind λk _=>.bind λst _=>.ite (λ_=>.step (.aJ _) (.tell _ (by show(7:Int)≠2/\(7:Int)≠3/\(7:Int)≠6;decide))) λ_=>.no
omit aF in
theorem akb(s:ao)(v:Int):fb j s (uc j s v):=by
 unfold uc;exact .ite (λ_=>.ew _ _) λ_=>.no
theorem awL(s:ao)(r:bU)(k:K):fb j s (dw C P g j s r k):=by
 cases k with
 |nil=>exact .ret
 |
  polled=>
  cases r with
  |fx c=>exact .sleep _
  |_=>exact .no
 |
  found=>
  cases r with
  |fx c=>exact .ite (λ_=>akb _ _) λ_=>.ew _ _
  |_=>exact .no
 |
  oZ=>
  cases r with
  |fx c=>exact .ite (λ_=>akb _ _) λ_=>.sleep _
  |_=>exact .no
 |
  mb=>
  cases r with
  |
   eS c=>
   refine .step (.clock (s.now+1) s.ticks) (.lk (.tell _ (by show(15:Int)≠2/\(15:Int)≠3/\(15:Int)≠6;decide)) λs1 _=>.lk (.jz _ _) λbP _=>.lk (.jz _ _) λbZ _=>?_);exact .steps ((aj1 bJ _).trans (Tx bJ _)) (Fi aF _ _ _ _ _)
  |_=>exact .no
 |run a=>exact .ew _ _
 |
  jk a=>
  cases r with
  |post aI p=>exact .ite (λ_=>aj9 aF _ _ _) λ_=>.bind λ_ _=>awK aF _ _ _ _
  |_=>exact .no
 |on a=>exact .bind λx _=>.ite (λ_=>.ew _ _) λ_=>.ret
 |again a=>exact .ew _ _
 |next a left=>exact aj9 aF _ _ _
 |
  nr a left=>
  cases r with
  |post aI p=>exact .ite (λ_=>aj4 _ _) λ_=>aj8 aF _ _ _ _
  |_=>exact .no
 |settled a=>exact Ld aF _ _ _ _
 |ended a id p k=>exact .bind λx _=>.steps lj (.lk (.tell _ (by show(4:Int)≠2/\(4:Int)≠3/\(4:Int)≠6;decide)) λ_ _=>.ite (λ_=>Tz aF _ _ _) λ_=>.ite (λ_=>aj6 aF _ _ _ _) λ_=>aF _ _ _)
 |mc l k=>exact .enter l false r λs1 id _=>aj2 aF _ _ _
 |gv a l e k=>exact .enter l true r λs1 id _=>.ew _ _
 |
  told id to k=>
  cases r with
  |post aI p=>exact .ite (λ_=>.lk (.kill _ _) λ_ _=>aF _ _ _) λ_=>.ite (λ_=>.lk (.kill _ _) λ_ _=>aF _ _ _) λ_=>.steps (Tw bJ) (Ld aF _ _ _ _)
  |_=>exact .no
 |lh a k=>exact Ld aF _ _ _ _
 |
  me a kind slot k=>
  cases r with
  |
   fV v=>
   refine .ite (λ_=>?_) (λ_=>?_)
   . refine .bind λE T=>?_
     obtain⟨s1,ay,rfl⟩:=kX.1 T;exact .steps (fb.tell (j:=j) _ (by show(8:Int)≠2/\(8:Int)≠3/\(8:Int)≠6;decide) _ ay) (.bind λx _=>.steps lj (aF _ _ _))
   . refine .bind λE T=>?_
     obtain⟨s1,ay,rfl⟩:=kX.1 T;exact .steps (aka (j:=j) _ _ _ _ ay) (.bind λx _=>.steps lj (aF _ _ _))
  |_=>exact .no
 |
  asked id a e k=>
  cases r with
  |eS c=>exact .ite (λ_=>.lk (.kill _ _) λ_ _=>aF _ _ _) λ_=>.steps (Tw bJ) (.bind λ_ _=>.steps lj (aF _ _ _))
  |_=>exact .no
 |watched a who k=>exact .ew _ _
 |
  gone a who k=>
  cases r with
  |post aI p=>exact .ite (λ_=>aF _ _ _) λ_=>aj3 _ _ _ _
  |_=>exact .no
 |
  mK x y k=>
  cases r with
  |hV o=>exact .ite (λ_=>aF _ _ _) λ_=>.ew _ _
  |_=>exact .no
 |alone a k=>exact aj7 aF _ _ _
 |
  mf a n k=>
  cases r with
  |eS c=>exact .bind λ_ _=>.ite (λ_=>TA aF _ _ _ _ _) λ_=>.steps lj (TA aF _ _ _ _ _)
  |_=>exact .no
 |closed a k=>exact .ew _ _
 |
  kW a k=>
  cases r with
  |post aI p=>exact .ite (λ_=>aF _ _ _) λ_=>.ite (λ_=>.lk (.kill _ _) λ_ _=>.ew _ _) λ_=>.ew _ _
  |_=>exact .no
 |shut a k=>exact .ew _ _
 |nS a k=>exact .bind λx _=>.steps lj (.lk (.tell _ (by show(14:Int)≠2/\(14:Int)≠3/\(14:Int)≠6;decide)) λ_ _=>.ew _ _)
 |
  who a k=>
  cases r with
  |fV v=>exact .ite (λ_=>Fi aF _ _ _ _ _) λ_=>.no
  |_=>exact .no
 |parent a k=>exact .bind λ_ _=>.ite (λ_=>aF _ _ _) λ_=>Co _ _ _ _
 |each d i n k=>exact Fi aF _ _ _ _ _
 |ov a=>exact Ld aF _ _ _ _
end
def akc(C:bt)(P:List b2)(j:Nat):∀(n:Nat) (s:ao) (r:bU) (k:K),fb j s (go C P n j s r k)
 |0,_,_,_=>.no
 |n+1,s,r,k=>awL (λs r k=>akc C P j n s r k) s r k
def awM{C:bt}{j:Nat}{s:ao}(o:bU):ks j s (acc C s o).1:=by
 cases o<;>first|exact .nil|exact .one (.cells _ _)
def Fj{C:bt}{P:List b2}{j:Nat}{s:ao}:fb j s (eh C P j s):=by
 unfold eh;refine .bind λt R=>.bind λq bm=>?_;obtain⟨o,k⟩:=q;have e:(acc C s o).1.az=s.az:=D9;have a:(acc C s o).1.az[j]?=some t:=by rw[e];exact R
 refine .steps (awM (C:=C) o) (.ite (λ_=>.step (.az none t.ij a) (akc _ _ _ _ _ _ _)) λ_=>.step (.az (some ((acc C s o).2,k)) t.ij a) .ret)
def Fk{C:bt}{P:List b2}{j:Nat}{s:ao}{b:ao->Option ao}(aA:fb j s (b s)):fb j s (stepT C P b j s):=by
 unfold stepT;exact .ite (λ_=>Fj) λ_=>.lk aA λ_ _=>Fj
def Le{C:bt}{j:Nat}{s:ao}:fb j s (er C j s):=by
 unfold er;exact .bind λt _=>.ite (λ_=>.ew _ _) λ_=>.ew _ _
def awN{C:bt}{j:Nat}{s:ao}:fb j s (e3 C j s):=by
 unfold e3;exact .step (.clock s.now (s.ticks -1)) (.ew _ _)
def Lf{C:bt}{P:List b2}{s aD:ao}{b:Bool}(h:ud C P s=some (aD,b)):ks (C.a1+C.cB) s aD:=by
 unfold ud at h;split at h
 . cases h;exact .nil
 . obtain⟨s1,h1,h2⟩:=kX.1 h
   cases h2;exact Fk awN _ h1
def akd{C:bt}{j a:Nat}{s:ao}:fb j s (ask C j s a):=by
 unfold ask;exact .ite (λ_=>.step (.notes _) (.ew _ _)) λ_=>.no
def ake{C:bt}{P:List b2}{s aD:ao}{e:cZ}{b:Bool}(h:hand C P s e=some (aD,b)):ks (C.a1+e.a.toNat) s aD:=by
 have a:∀{x:Option ao},x.map (·,true)=some (aD,b)->fb (C.a1+e.a.toNat) s x->ks (C.a1+e.a.toNat) s aD:=λh m=>by
  obtain⟨s1,h1,h2⟩:=kX.1 h;cases h2;exact m _ h1
 unfold hand at h;dsimp only at h
 repeat' split at h
 all_goals first|(cases h;exact .nil)|exact a h Fj|exact a h (.tell _ (by show(1:Int)≠2/\(1:Int)≠3/\(1:Int)≠6;decide))|exact a h (.ew _ _)|exact a h akd|exact a h (.step .shut akd)
def qW(s:ao)(i:Nat):Option Int:=(s.az[i]?).map (·.draw)
def nT.qW{j i:Nat}{s aD:ao}(h:nT j s aD):qW aD i=qW s i:=by
 cases h with
 |
  @az t on b h=>
  show Option.map _ ((s.az.set j _)[i]?)=Option.map _ (s.az[i]?);rw[Og];split
  . rename_i e;subst e
    rw[h];split
    . rfl
    . rename_i aM;exact absurd (dc.1 h).1 aM
  . rfl
 |_=>rfl
def ks.qW{j i:Nat}{s aD:ao}(h:ks j s aD):Th.qW aD i=Th.qW s i:=by
 induction h with
 |nil=>rfl
 |cons m _ K=>rw[K,m.qW]
def akf(e:bX):Option (Int×Int×Int):=if e.kind=6 then some (e.id,e.to,e.why)else none
structure vG(s:ao):Prop where
 eq:s.trace.filterMap akf=s.dead
 why:∀e∈s.trace,e.kind=6->1<=e.why/\e.why<=5
def vG.add{s aD:ao}{e:bX}(h:vG s)(g1:e.kind≠6)(cK:aD.trace=s.trace++[e])(a:aD.dead=s.dead):vG aD:=by
 refine⟨?_,λx ah=>?_⟩
 . rw[cK,a,awO,h.eq]
   have:akf e=none:=a8 g1;simp[this]
 . rw[cK]at ah
   rcases ky.1 ah with ah|ah
   . exact h.why x ah
   . simp at ah;subst ah;exact λk=>absurd k g1
def nT.dead{j:Nat}{s aD:ao}(m:nT j s aD)(h:vG s):vG aD:=by
 cases m with
 |tell e h2 aN g1=>exact h.add g1 rfl rfl
 |
  @kill id why l av O=>
  refine⟨?_,λx ah=>?_⟩
  . show List.filterMap _ (s.trace++[_])=s.dead++[_]
    rw[awO,h.eq];rfl
  . rcases ky.1 ah with ah|ah
    . exact h.why x ah
    . simp at ah;subst ah;exact λ_=>O
 |start a av=>exact h.add (by show(3:Int)≠6;decide) rfl rfl
 |enter l c=>exact h.add (by show(2:Int)≠6;decide) rfl rfl
 |_=>exact⟨h.eq,h.why⟩
def ks.dead{j:Nat}{s aD:ao}(m:ks j s aD)(h:vG s):vG aD:=by
 induction m with
 |nil=>exact h
 |cons m _ K=>exact K (m.dead h)
def pA(C:bt)(d:List Int)(e:cZ):List Int:=if e.kind=1/\0<=e.a/\e.a<(C.a1:Int)then d.set e.a.toNat e.n else d
def qa(C:bt)(d:List Int)(s:ao):Prop:=∀k,k<C.a1->qW s k=some (eU (d.getD k 0))
def qa.CJ{C:bt}{d:List Int}{s aD:ao}{j:Nat}(h:qa C d s)(m:ks j s aD):qa C d aD:=λk hk=>by rw[m.qW];exact h k hk
def awP{C:bt}{P:List b2}{d:List Int}{s aD:ao}{e:cZ}{b:Bool}(aL:C.a1<=d.length)(h:qa C d s)(V:jq C P s e=some (aD,b)):qa C (pA C d e) aD:=by
 unfold jq at V;split at V
 . rename_i hk
   split at V
   . rename_i aE
     cases V;unfold pA;rw[a8 ae];exact h
   . rename_i aE
     obtain⟨t,R,V⟩:=gZ.1 V;obtain⟨s1,h1,h2⟩:=kX.1 V;cases h2;have m:=Fk (C:=C) (P:=P) (Le) _ h1;unfold pA;rw[bd ae];intro k hk;rw[m.qW];show Option.map _ ((s.az.set e.a.toNat _)[k]?)=_;rw[Og];split
     . rename_i ay;subst ay
       rw[bd (dc.1 R).1,ix,xh ae];rfl
     . rename_i ay
       have:=h k hk;rw[ix,qK ay,<-ix];exact this
 . rename_i hk
   have gr:pA C d e=d:=by unfold pA;rw[a8 (λg=>hk g.1)]
   rw[gr];split at V
   . exact h.CJ (Lf V)
   . split at V
     . split at V<;>(cases V;exact h)
     . exact h.CJ (ake V)
def akg{C:bt}{d:List Int}{e:cZ}:(pA C d e).length=d.length:=by unfold pA;split<;>simp
def aDt{C:bt}{P:List b2}{s aD:ao}{e:cZ}{b:Bool}(h:vG s)(V:jq C P s e=some (aD,b)):vG aD:=by
 unfold jq at V;split at V
 . split at V
   . cases V;exact h
   . obtain⟨t,R,V⟩:=gZ.1 V
     obtain⟨s1,h1,h2⟩:=kX.1 V;cases h2;exact(Fk (C:=C) (P:=P) (Le) _ h1).dead ⟨h.eq,h.why⟩
 . split at V
   . exact(Lf V).dead h
   . split at V
     . split at V<;>(cases V;exact⟨h.eq,h.why⟩)
     . exact(ake V).dead h
def awQ{C:bt}{P:List b2}{s:ao}{k:Nat}{n:Int}(hk:k<C.a1)(aL:qW s k=some (eU n)):jq C P s ⟨1,k,0,[],n⟩=(stepT C P (er C k) k s).map (·,true):=by
 unfold jq;rw[bd rfl,a8 (by simp only;omega)];obtain⟨t,R,aM⟩:=kX.1 aL;have e:s.az.set k {t with draw:=eU n}=s.az:=by
  obtain⟨h1,h2⟩:=dc.1 R;have:({t with draw:=eU n}:bW)=t:=by rw[<-aM]
  rw[this,<-h2,yL h1]
 simp only[BW,R,bind,Option.bind,e]
def awR{C:bt}{P:List b2}{s:ao}{k:Nat}(hk:k<C.cB):jq C P s ⟨2,k,0,[],0⟩=if busy s (C.a1+k)then(eh C P (C.a1+k) s).map (·,true)else some (s,false):=by
 unfold jq hand;rw[a8 (show¬(2:Int)=1 by decide),a8 (show¬(2:Int)=3 by decide),a8 (show¬(2:Int)=6 by decide),a8 (by simp only;omega)];simp only[BW,fi]
def akh{C:bt}{P:List b2}{s:ao}:jq C P s ⟨3,0,0,[],0⟩=ud C P s:=by
 unfold jq;rw[a8 bJ,bd rfl]
def TB{Z:Nat->ao->Option ao}{D:ao->Prop}(hZ:∀i s aD,Z i s=some aD->D s->D aD):∀(l:List Nat) (s aD:ao),qU Z l s=some aD->D s->D aD
 |[],s,aD,h,r=>by cases h;exact r
 |
  i::l,s,aD,h,r=>by
  obtain⟨s1,h1,h2⟩:=gZ.1 h;exact TB hZ l s1 aD h2 (hZ i s s1 h1 r)
def aki{C:bt}{P:List b2}{D:ao->Prop}(K:∀j s aD,ks j s aD->D s->D aD):∀(n:Nat) (s y:ao) (b:Bool),rest C P n s=some (y,b)->D s->D y
 |0,s,y,b,h,r=>by cases h;exact r
 |
  n+1,s,y,b,h,r=>by
  rcases Fh h with⟨_,e⟩|⟨_,s1,bP,bZ,l,ay,aV,bz,dh⟩
  . cases e;exact r
  . refine aki K n bZ y b dh (K _ _ _ (Lf bz) ?_)
    refine TB (D:=D) (λi s aD h r=>?_) _ _ _ aV (TB (D:=D) (λi s aD h r=>?_) _ _ _ ay r)
    . split at h
      . exact K _ _ _ (Fj _ h) r
      . cases h;exact r
    . exact K _ _ _ (Fk Le _ h) r
section
variable{C:bt}{P:List b2}{d:List Int}{s y:ao}{q:Bool}{n i k m b5:Nat}
def awX(h:start C P=some s)(O:C.a1<=8):qa C (List.replicate 8 0) s:=by
 obtain⟨fd,_,h2⟩:=gZ.1 (show(P[0]?.bind _)=some s from h);intro k hk;rw[(aka (j:=0) _ _ _ _ h2).qW];have e:(List.replicate 8 (0:Int)).getD k 0=0:=by
  exact adm
 rw[e];unfold qW;rw[show∀(x:bW) (E:Nat),(ao.mk (List.foldl (λL w=>(L.set (C.bA.cn w) 1).set (C.bA.cn w+1) 1) ((List.replicate C.cells 0).set 1 1) (List.range C.a1)) ⟨0,0,[]⟩ [] [] [] [] [] [] 0 0 false (List.replicate E x)).az=List.replicate E x from λ_ _=>rfl,JL,bd ae];rfl
def akp:∀(es:List cZ) (d:List Int) (s aD:ao),qa C d s->C.a1<=d.length->es.foldlM (λs e=>(jq C P s e).map (·.1)) s=some aD->qa C (es.foldl (pA C) d) aD
 |[],d,s,aD,h,_,e=>by cases e;exact h
 |
  x::es,d,s,aD,h,av,e=>by
  rw[akm]at e;obtain⟨s1,ay,aV⟩:=gZ.1 e;obtain⟨⟨c,b⟩,bz,dh⟩:=kX.1 ay;cases dh;exact akp es _ _ aD (awP av h bz) (by rw[akg];exact av) aV
def awY{es:List cZ}{r:Int}{E:ao×Bool}(h:fa C P es r=some E)(O:C.a1<=8):qa C ((es.take 400).foldl (pA C) (List.replicate 8 0)) E.1:=by
 obtain⟨ec,ay,h⟩:=gZ.1 h;obtain⟨s1,aV,h⟩:=gZ.1 h;exact aki (λ_ _ _ m h=>qa.CJ h m) _ _ _ E.2 h (akp _ _ _ _ (awX ay O) (by simpa using O) aV)
structure qX(C:bt)(P:List b2)(d:List Int)(cR:Nat->cZ)(Z:Nat->ao->Option ao)(b5 m:Nat)(y:ao)(k:Nat)(s:ao):Prop where
 r:dN C P (m+k) s
 lx:qa C d s
 hp:qU Z ((List.range b5).drop k) s=some y
 hk:k<=b5
 hZ:∀k s aD,k<b5->qa C d s->Z k s=some aD->qa C d aD/\∃b,jq C P s (cR k)=some (aD,b)
variable{cR:Nat->cZ}{Z:Nat->ao->Option ao}
def qX.next(J:C.ok)(cT:hS P)(h:qX C P d cR Z b5 m y k s)(hk:k<b5)(bf:m+b5<=gM):∃aD b,jq C P s (cR k)=some (aD,b)/\qX C P d cR Z b5 m y (k+1) aD:=by
 have e:=h.hp;rw[Tu hk]at e;obtain⟨aD,ay,aV⟩:=gZ.1 e;obtain⟨h1,b,h2⟩:=h.hZ k s aD hk h.lx ay;obtain⟨bP,U,bz,r⟩:=xJ (xK J) J cT ae h.r (cR k);rw[h2]at bz;cases bz;exact⟨aD,b,h2,r,h1,aV,hk,h.hZ⟩
def qX.fin(h:qX C P d cR Z b5 m y b5 s):s=y:=by
 have e:=h.hp;rw[aj0]at e;cases e;rfl
structure xN(C:bt)(P:List b2)(d:List Int)(n:Nat)(y:ao)(q:Bool)(i:Nat)(s:ao):Prop where
 r:dN C P (6000+13*i) s
 lx:qa C d s
 hp:rest C P (n -i) s=some (y,q)
 ak:i<=n
def xN.fin(h:xN C P d n y q i s)(ah:i=n\/quiet C s=true):s=y/\quiet C s=q:=by
 have e:=h.hp;cases hk:n -i with
 |zero=>rw[hk]at e;cases e;exact dI
 |
  succ k=>
  rw[hk]at e;rcases Fh e with⟨bm,e⟩|⟨bm,_⟩
  . cases e;exact⟨rfl,bm⟩
  . rcases ah with ah|ah
    . omega
    . rw[ah]at bm;cases bm
abbrev Ct(d:List Int)(k:Nat):cZ:=⟨1,k,0,[],d.getD k 0⟩
abbrev Cu(k:Nat):cZ:=⟨2,k,0,[],0⟩
abbrev Lp:cZ:=⟨3,0,0,[],0⟩
abbrev Lq(C:bt)(P:List b2)(j:Nat)(s:ao):Option ao:=stepT C P (er C j) j s
abbrev Ft(C:bt)(P:List b2)(i:Nat)(s:ao):Option ao:=if busy s (C.a1+i)then eh C P (C.a1+i) s else some s
def xN.go(J:C.ok)(cT:hS P)(aM:n<=60)(h:xN C P d n y q i s)(ah:i<n)(bm:quiet C s=false):∃s1 bP,qX C P d (Ct d) (Lq C P) C.a1 (6000+13*i) s1 0 s/\
 (qX C P d (Ct d) (Lq C P) C.a1 (6000+13*i) s1 C.a1 s1->qX C P d Cu (Ft C P) C.cB (6000+13*i+C.a1) bP 0 s1)/\
 (qX C P d Cu (Ft C P) C.cB (6000+13*i+C.a1) bP C.cB bP->∃bZ b,jq C P bP Lp=some (bZ,b)/\xN C P d n y q (i+1) bZ):=by
 obtain⟨k,hk⟩:∃k,n -i=k+1:=⟨n -i -1,by omega⟩;have e:=h.hp;rw[hk]at e;rcases Fh e with⟨h2,_⟩|⟨_,s1,bP,bZ,b,ay,aV,bz,dh⟩
 . rw[h2]at bm;cases bm
 have O:=J.bQ;have cl:=J.bu;have hu:gM=10000000:=rfl;refine⟨s1,bP,⟨h.r,h.lx,ay,eX _,λk s aD hk aL e=>⟨aL.CJ (Fk Le _ e),true,?_⟩⟩,λh1=>⟨h1.r,h1.lx,aV,eX _,λk s aD hk aL e=>?_⟩,λh2=>⟨bZ,b,?_,?_,h2.lx.CJ (Lf bz),by rw[show n -(i+1)=k by omega];exact dh,ah⟩⟩
 . rw[awQ hk (aL k hk),show stepT C P (er C k) k s=some aD from e];rfl
 . rw[awR hk]
   unfold Ft at e;split at e
   . rename_i aA
     rw[bd aA,e];exact⟨aL.CJ (Fj _ e),true,rfl⟩
   . rename_i aA
     cases e;rw[a8 aA];exact⟨aL,false,rfl⟩
 . rw[akh];exact bz
 . obtain⟨i0,aO,gT,r⟩:=xJ (xK J) J cT ae h2.r Lp
   rw[akh,bz]at gT;cases gT;exact r.aT ae ae
end
end Go.L.Th
