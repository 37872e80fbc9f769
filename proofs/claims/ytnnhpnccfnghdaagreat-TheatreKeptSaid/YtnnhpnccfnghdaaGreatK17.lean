import Derived.Test.YtnnhpnccfnghdaaGreatK16
set_option linter.all false
set_option maxRecDepth 8000
set_option maxHeartbeats 24000000
namespace Go.Proofs.YtnnhpnccfnghdaaGreat.C
open Go.Proofs.YtnnhpnccfnghdaaGreat.L Go.L Go.L.Lx Go.L.Pg
attribute[local irreducible] G cz GE cT GT bU c6 cY dc Exit.then Exit.inBlock
attribute[local irreducible] lN
section
variable(bS:Option Addr)(pc:Nat)(br:List b1)(A:aq)
theorem amH(L:List l7)(i:Nat)(al:i<=L.length)(a:Option Addr)(c:Nat)(M:FuncId)(z:List Value)(N:List aq)(q:l7->Bool)(aS:L.length<=9223372036854775807)(aD:∀h,Sat N h->gT h kQ L.length (L.flatMap ik))
 (hp:∀x∈L,ad aa M Gp N lm)(fD:eU aa M:=by exact e7):ad aa 170 Gz N GA:=by
 have h:=UL (L.take i) a c M z N q hW (λh s=>by
  have e:=gT.to (aT:=2) (aD h s) al;rw[Da ik 2 wa]at e;rwa[pS,Db al]) GB
 exact GC
theorem amI(L:List b1)(i:Nat)(al:i<=L.length)(a:Option Addr)(c:Nat)(M:FuncId)(z:List Value)(N:List aq)(q:b1->Bool)(aS:L.length<=9223372036854775807)(aD:∀h,Sat N h->gT h kQ L.length (L.flatMap dO))
 (hp:∀x∈L,ad aa M Gq N lm)(fD:eU aa M:=by exact e7):ad aa 174 Gz N GA:=by
 have h:=UN (L.take i) a c M z N q hW (λh s=>by
  have e:=gT.to (aT:=5) (aD h s) al;rw[Da dO 5 Ay]at e;rwa[pS,Db al]) GB
 exact GC
theorem amJ(L:List fb)(i:Nat)(al:i<=L.length)(a:Option Addr)(c:Nat)(M:FuncId)(z:List Value)(N:List aq)(q:fb->Bool)(aS:L.length<=9223372036854775807)(aD:∀h,Sat N h->gT h kQ L.length (L.flatMap ft))
 (hp:∀x∈L,ad aa M Gr N lm)(fD:eU aa M:=by exact e7):ad aa 221 Gz N GA:=by
 have h:=UP (L.take i) a c M z N q hW (λh s=>by
  have e:=gT.to (aT:=2) (aD h s) al;rw[Da ft 2 o7]at e;rwa[pS,Db al]) GB
 exact GC
theorem amK(L:List Row)(i:Nat)(al:i<=L.length)(a:Option Addr)(c:Nat)(M:FuncId)(z:List Value)(N:List aq)(q:Row->Bool)(aS:L.length<=9223372036854775807)(aD:∀h,Sat N h->gT h kQ L.length (L.flatMap gh))
 (hp:∀x∈L,ad aa M Gs N lm)(fD:eU aa M:=by exact e7):ad aa 276 Gz N GA:=by
 have h:=amk (L.take i) a c M z N q hW (λh s=>by
  have e:=gT.to (aT:=4) (aD h s) al;rw[Da gh 4 rh]at e;rwa[pS,Db al]) GB
 exact GC
def Vi(B:∀h,A h->hr h bS pc br)(az:∃h,hr h bS pc br)(k:b1)(hk:k∈br)(s:fb)(aj:s∈k.states)(r:Row)(aD:r∈s.rows)(d f E j:Nat)(J:j<r.b8.length):ad aa 278 [af j,ptr d 0,ptr f 0,ptr E 0] Mz (qm (oF br k.states r.b8 j) Mz):=by
 refine ax Tryz.func278 λF D=>?_;obtain⟨bn,em⟩:=id az;have ro:=em.len;have GW:=em.rd.2;haveI t7:gN Gy A br.length (br.flatMap dO):=⟨λh=>(B _ h).rd.1⟩;refine GD ?_;intro u wf y V pi mt;haveI ji:gN Ac A k.states.length CK:=⟨λh=>((B _ h).kinds k hk).qR.1⟩;haveI GP:gN Ab A k.cases.length tf:=⟨λh=>((B _ h).kinds k hk).rP.1⟩;have v:=u.states s aj;have z2:=v.rd.2;have abs:=v.len;have O:=v.name;haveI acl:gN L2 A s.rows.length (s.rows.flatMap gh):=⟨λh=>(((B _ h).kinds k hk).states s aj).rd.1⟩;have U:=v.rows r aD;have aCV:=U.len;have T:=U.tag;haveI aCW:gN (.slice r.ea r.b8.length r.cQ) A r.b8.length (r.b8.flatMap fz):=⟨λh=>((((B _ h).kinds k hk).states s aj).rows r aD).rd.1⟩;obtain⟨e,Y⟩:∃e,r.b8[j]?=some e:=⟨_,cq J⟩;have a:=U.b8 e (h0 Y);have g:=amo (br:=br) (H:=k.states) Y;unfold eF at*;refine ch ?_;refine ct [] [13,201,1] [] ?_;refine bz ?_;refine go_v rfl .none rfl (fA rfl rfl J) ?_;refine go_v rfl .none rfl (kN rfl (kO fz 7 ur Y) rfl) ?_;refine bF ?_;refine go_v rfl .none rfl (ks (((r.b8.length:Int) -1)) (by rw[jv (by omega)]) rfl rfl) ?_;refine aG ?_;refine aV (amG bS pc br A B az k hk e a (decide ((j:Int)=(r.b8.length:Int) -1))) ?_;refine cU ?_;refine b6 (λW=>?_) (λW=>?_)
 . have a8:oF br k.states r.b8 j=some ((r0 br k.states e (decide ((j:Int)=(r.b8.length:Int) -1))),[]):=by rw[g,a6 ae]
   refine bF ?_;refine wn λn=>?_;refine bh ?_;exact aW (Mo (N:=Mz) a8) (λ_ h=>Sat.tail (r:=Vj) (S:=o9 none 0 []::Vj) (λ_ h=>UG _ h) ((au) _ h))
 . have a8:oF br k.states r.b8 j=none:=by rw[g,bg ae]
   refine cr ?_;exact aW (UR a8)
def Vk(B:∀h,A h->hr h bS pc br)(az:∃h,hr h bS pc br)(k:b1)(hk:k∈br)(s:fb)(aj:s∈k.states)(i:Nat)(al:i<s.rows.length):ad aa 224 [.agg #[.slice bS br.length pc],.agg (dO k).toArray,.agg (ft s).toArray,af i] [A] (qm (n2 br k.states s.rows i) [A]):=by
 refine ax Tryz.func224 λF D=>?_;obtain⟨bn,em⟩:=id az;have ro:=em.len;have GW:=em.rd.2;haveI t7:gN (.slice bS br.length pc) A br.length (br.flatMap dO):=⟨λh=>(B _ h).rd.1⟩;refine GD ?_;intro u wf y V pi mt;haveI ji:gN (.slice k.sa k.states.length k.sc) A k.states.length (k.states.flatMap ft):=⟨λh=>((B _ h).kinds k hk).qR.1⟩;haveI GP:gN (.slice k.ca k.cases.length k.kg) A k.cases.length (k.cases.flatMap ik):=⟨λh=>((B _ h).kinds k hk).rP.1⟩;have v:=u.states s aj;have z2:=v.rd.2;have abs:=v.len;have O:=v.name;haveI acl:gN (.slice s.ra s.rows.length s.rc) A s.rows.length (s.rows.flatMap gh):=⟨λh=>(((B _ h).kinds k hk).states s aj).rd.1⟩;obtain⟨r,M⟩:∃r,s.rows[i]?=some r:=⟨_,cq al⟩;have aD:=h0 M;have U:=v.rows r aD;have aCV:=U.len;have T:=U.tag;haveI aCW:gN (.slice r.ea r.b8.length r.cQ) A r.b8.length (r.b8.flatMap fz):=⟨λh=>((((B _ h).kinds k hk).states s aj).rows r aD).rd.1⟩;have g:=amp (br:=br) (H:=k.states) M;unfold eF at*;refine a7 ?_;refine wn λaN=>?_;refine wn λaO=>?_;refine wn λaR=>?_;refine bH ?_;refine aA rfl (fA rfl rfl al) ?_;refine aA rfl (kN rfl (kO gh 4 rh M) rfl) ?_;refine wn λcx=>?_;refine ch ?_;refine cj rfl (b4 rfl (ami r.b8 r.ea r.cQ 275 [] [A] (λe=>decide (e.do'=4)) ae (wk λh a=>((((B h a).kinds k hk).states s aj).rows r aD).rd.1) (λd _=>amB A d)) bI) ?_;refine Ar ?_;refine ir [2,39,54,55] [2,39] [0,4,137,141,145,149,153,165,169,173,177,181,185,10,12,16,20,24,28,32,36,40,44,48,52,56,60,64,68,72,76,80,84,88,92,96,100,104,108,113,117,121,125,129,133,158,160,188,192,196,200,204,208,212,218,222,224] [ab aR 82 (ft s),ab cx 85 (gh r)] ?_;refine bz ?_;refine jJ rfl .none rfl (uE rfl rfl (show i<=s.rc by omega)) (au) ?_;refine ch ?_;refine pR rfl .none rfl (b4 rfl (UW r.tag ae) bI) ?_;refine gP ?_;refine pT ?_;refine qn (d:=52) [133,158,160,188,192,196,200,204,208,212,218,222,224] (.bool (gZ r)) ?_ (λq=>?_)
 rotate_left
 . refine hj (j:=4) rfl rfl (λW=>?_) (λW=>?_)
   . have f:=bR W
     refine gi ?_;refine bH ?_;unfold gZ at q;exact kt q W W
   . have f:=bR W
     refine bX ?_;refine hj (j:=7) rfl rfl (λI=>?_) (λI=>?_)
     . have p:=bR I
       refine a7 ?_;refine tk rfl (.yes rfl rfl I) rfl (pO rfl rfl) ?_;refine bX ?_;refine hj (j:=13) rfl rfl (λL=>?_) (λL=>?_)
       . have C:=bR L
         refine eP ?_;refine bF ?_;unfold gZ at q;exact qq q W I L
       . have C:=bR L
         refine bz ?_;refine hj (j:=18) rfl rfl (λfV=>?_) (λfV=>?_)
         . have E:=bR fV
           refine fZ ?_;unfold gZ at q;exact GF q W I L fV
         . have E:=bR fV
           refine bz ?_;refine hj (j:=23) rfl rfl (λw=>?_) (λw=>?_)
           . have N:=bR w
             refine cr ?_;unfold gZ at q;exact Vl q W I L fV w
           . have N:=bR w
             refine bF ?_;refine hj (j:=27) rfl rfl (λl=>?_) (λl=>?_)
             . exact Vm
             . exact Vm
     . have p:=bR I
       refine cO ?_;refine hj (j:=18) rfl rfl (λz=>?_) (λz=>?_)
       . have Z:=bR z
         refine fZ ?_;unfold gZ at q;exact qq q W I z
       . have Z:=bR z
         refine bz ?_;refine hj (j:=23) rfl rfl (λR=>?_) (λR=>?_)
         . have rt:=bR R
           refine cr ?_;unfold gZ at q;exact GF q W I z R
         . have rt:=bR R
           refine bF ?_;refine hj (j:=27) rfl rfl (λX=>?_) (λX=>?_)
           . exact Vn
           . exact Vn
 refine qo (bd.cons (t:=66) rfl (bd.cons (t:=65) rfl (bd.cons (t:=58) rfl (bd.cons (t:=57) rfl (bd.cons (t:=52) rfl (bd.cons (t:=19) rfl (bd.cons (t:=18) rfl (bd.cons (t:=17) rfl (bd.cons (t:=16) rfl (bd.cons (t:=15) rfl (bd.cons (t:=14) rfl (bd.cons (t:=13) rfl (bd.cons (t:=12) rfl (bd.cons (t:=10) rfl (bd.cons (t:=9) rfl (bd.cons (t:=8) rfl (bd.cons (t:=6) rfl (bd.cons (t:=5) rfl (bd.cons (t:=4) rfl (bd.cons (t:=3) rfl (bd.cons (t:=2) rfl (bd.cons (t:=1) rfl (bd.cons (t:=0) rfl (bd.nil)))))))))))))))))))))))) ?_;refine aG ?_;refine pR rfl .none rfl (b4 rfl (amK s.rows i ae s.ra s.rc 277 [ptr cx 0] [A,ab cx 85 (gh r)] (λo=>wo o r) ae (wk λh a=>(((B h a).kinds k hk).states s aj).rd.1) (λd _=>amC A cx d r)) bI) ?_;refine gP ?_;refine pT ?_;refine qn (d:=72) [212,218,222,224] (.bool (tl r)) ?_ (λx=>?_)
 rotate_left
 . refine hj (j:=47) rfl rfl (λn=>?_) (λn=>?_)
   . exact Vo
   . exact Vo
 refine qo (bd.cons (t:=72) rfl (bd.cons (t:=65) rfl (bd.cons (t:=60) rfl (bd.cons (t:=53) rfl (bd.cons (t:=19) rfl (bd.cons (t:=18) rfl (bd.cons (t:=17) rfl (bd.cons (t:=16) rfl (bd.cons (t:=15) rfl (bd.cons (t:=14) rfl (bd.cons (t:=13) rfl (bd.cons (t:=12) rfl (bd.cons (t:=10) rfl (bd.cons (t:=9) rfl (bd.cons (t:=8) rfl (bd.cons (t:=6) rfl (bd.cons (t:=5) rfl (bd.cons (t:=4) rfl (bd.cons (t:=3) rfl (bd.cons (t:=2) rfl (bd.cons (t:=1) rfl (bd.cons (t:=0) rfl (bd.nil))))))))))))))))))))))) ?_;refine aG ?_;refine yl rfl .none rfl (qp rfl rfl rfl rfl) ?_;rintro _ _ ⟨S,rfl,rfl⟩;refine aG ?_;refine pR rfl .none rfl (b4 rfl (C4 [(gZ r,43),((s.rows.take i).any (λo=>wo o r),41),(decide (8<(r.b8.length:Int)),40),(tl r,45)] S fW) bI) ?_;refine tm ?_;rcases K:n2 br k.states s.rows i with _|⟨c,ws⟩
 . refine bh ?_
   refine cj rfl (b4 rfl (wh (wj (uz s.rows i r) r.b8.length ae 278 [ptr aN 0,ptr aO 0,ptr cx 0] [ab aN 26 [.slice bS br.length pc],ab aO 78 (dO k),ab cx 85 (gh r),A] (oF br k.states r.b8) (λi c ws h=>by have:=Mr i c ws h;omega) (λj J=>Vi bS pc br A B az k hk s aj r aD aN aO cx j J)) (g▸K)) bI) ?_;exact MA
 . refine bh ?_
   refine cj rfl (b4 rfl (wi (wj (uz s.rows i r) r.b8.length ae 278 [ptr aN 0,ptr aO 0,ptr cx 0] [ab aN 26 [.slice bS br.length pc],ab aO 78 (dO k),ab cx 85 (gh r),A] (oF br k.states r.b8) (λi c ws h=>by have:=Mr i c ws h;omega) (λj J=>Vi bS pc br A B az k hk s aj r aD aN aO cx j J)) (g▸K)) bI) ?_;exact MB
def Vp(B:∀h,A h->hr h bS pc br)(az:∃h,hr h bS pc br)(k:b1)(hk:k∈br)(s:fb)(aj:s∈k.states)(d f E j:Nat)(J:j<s.rows.length):ad aa 223 [af j,ptr d 0,ptr f 0,ptr E 0] Vq (qm (n2 br k.states s.rows j) Vq):=by
 refine ax Tryz.func223 λF D=>?_;refine bh ?_;rcases K:n2 br k.states s.rows j with _|⟨c,ws⟩
 . refine bz ?_
   refine aV (wh (Vk bS pc br A B az k hk s aj j J) K) ?_;refine bz ?_;exact aW ⟨rfl,rfl⟩
 . refine bz ?_
   refine bt (wi (Vk bS pc br A B az k hk s aj j J) K) ?_;exact MC
def Vr(B:∀h,A h->hr h bS pc br)(az:∃h,hr h bS pc br)(k:b1)(hk:k∈br)(i:Nat)(al:i<k.states.length):ad aa 177 [.agg #[.slice bS br.length pc],.agg (dO k).toArray,af i] [A] (qm (nu br k.states i) [A]):=by
 refine ax Tryz.func177 λF D=>?_;obtain⟨bn,em⟩:=id az;have ro:=em.len;have GW:=em.rd.2;haveI t7:gN Gy A br.length (br.flatMap dO):=⟨λh=>(B _ h).rd.1⟩;refine GD ?_;intro u wf y V pi mt;haveI ji:gN Ac A k.states.length CK:=⟨λh=>((B _ h).kinds k hk).qR.1⟩;haveI GP:gN Ab A k.cases.length tf:=⟨λh=>((B _ h).kinds k hk).rP.1⟩;obtain⟨s,p⟩:∃s,k.states[i]?=some s:=⟨_,cq al⟩;have aj:=h0 p;have v:=u.states s aj;have z2:=v.rd.2;have abs:=v.len;have O:=v.name;haveI acl:gN L2 A s.rows.length (s.rows.flatMap gh):=⟨λh=>(((B _ h).kinds k hk).states s aj).rd.1⟩;have g:=amq (br:=br) p;unfold eF at*;refine a7 ?_;refine wn λZ=>?_;refine wn λaN=>?_;refine bH ?_;refine aA rfl (fA rfl rfl al) ?_;refine aA rfl (kN rfl (kO ft 2 o7 p) rfl) ?_;refine wn λbW=>?_;refine bF ?_;refine h9 [2,10,17,18] [2,10] [(0,.loc),(1,.loc),(5,.bJ),(6,.bJ),(7,.bJ),(8,.bJ),(9,.bJ),(12,.bJ),(13,.bJ),(14,.bJ),(15,.bJ),(16,.bJ),(2,.c0),(3,.bJ),(4,.bJ),(10,.c0),(11,.loc),(17,.c0),(18,.c0),(19,.loc)] [ab aN 78 (dO k),ab bW 82 (ft s)] mixed gS ?_;refine bz ?_;refine go_vs rfl .none rfl (uE rfl rfl (show i<=k.sc by omega)) (au) ?_;refine bh ?_;refine go_c rfl .none rfl (b4 rfl (C6 (s.name) ae) bI) ?_;refine gP ?_;refine pT ?_;refine go_c rfl .none rfl (b4 rfl (amJ k.states i ae k.sa k.sc 222 [ptr bW 0] [A,ab bW 82 (ft s)] (λd=>decide (d.name=s.name)) ae (wk λh a=>((B h a).kinds k hk).qR.1) (λd _=>amy A bW d s)) bI) ?_;refine Ao ?_;refine go_n rfl .none rfl (qp rfl rfl rfl rfl) ?_;rintro _ _ ⟨f,rfl,rfl⟩;refine aG ?_;refine go_c rfl .none rfl (b4 rfl (C4 [(!lN s.name,43),(uD (k.states.take i) s.name,41),(decide (16<(s.rows.length:Int)),40)] f fW) bI) ?_;refine tm ?_;rcases K:nu br k.states i with _|⟨c,ws⟩
 . refine bh ?_
   refine cj rfl (b4 rfl (wh (wj (wl k.states i s) s.rows.length ae 223 [ptr Z 0,ptr aN 0,ptr bW 0] [ab Z 26 [.slice bS br.length pc],ab aN 78 (dO k),ab bW 82 (ft s),A] (n2 br k.states s.rows) (λi c ws h=>by have:=Ms i c ws h;omega) (λj J=>Vp bS pc br A B az k hk s aj Z aN bW j J)) (g▸K)) bI) ?_;exact MA
 . refine bh ?_
   refine cj rfl (b4 rfl (wi (wj (wl k.states i s) s.rows.length ae 223 [ptr Z 0,ptr aN 0,ptr bW 0] [ab Z 26 [.slice bS br.length pc],ab aN 78 (dO k),ab bW 82 (ft s),A] (n2 br k.states s.rows) (λi c ws h=>by have:=Ms i c ws h;omega) (λj J=>Vp bS pc br A B az k hk s aj Z aN bW j J)) (g▸K)) bI) ?_;exact MB
def Vs(B:∀h,A h->hr h bS pc br)(az:∃h,hr h bS pc br)(k:b1)(hk:k∈br)(d f j:Nat)(J:j<k.states.length):ad aa 176 [af j,ptr d 0,ptr f 0] Vt (qm (nu br k.states j) Vt):=by
 refine ax Tryz.func176 λF D=>?_;refine bh ?_;rcases K:nu br k.states j with _|⟨c,ws⟩
 . refine bF ?_
   refine aV (wh (Vr bS pc br A B az k hk j J) K) ?_;refine bz ?_;exact aW ⟨rfl,rfl⟩
 . refine bF ?_
   refine bt (wi (Vr bS pc br A B az k hk j J) K) ?_;exact MC
def Vu(B:∀h,A h->hr h bS pc br)(az:∃h,hr h bS pc br)(i:Nat)(al:i<br.length):ad aa 99 [.agg #[.slice bS br.length pc],af i] [A] (qm (pa br i) [A]):=by
 refine ax Tryz.func99 λF D=>?_;obtain⟨bn,em⟩:=id az;have ro:=em.len;have GW:=em.rd.2;haveI t7:gN (.slice bS br.length pc) A br.length (br.flatMap dO):=⟨λh=>(B _ h).rd.1⟩;obtain⟨k,O⟩:∃k,br[i]?=some k:=⟨_,cq al⟩;have hk:=h0 O;refine GD ?_;intro u wf y V pi mt;haveI ji:gN (.slice k.sa k.states.length k.sc) A k.states.length (k.states.flatMap ft):=⟨λh=>((B _ h).kinds k hk).qR.1⟩;haveI GP:gN (.slice k.ca k.cases.length k.kg) A k.cases.length (k.cases.flatMap ik):=⟨λh=>((B _ h).kinds k hk).rP.1⟩;have g:=amr O;unfold eF at*;refine a7 ?_;refine wn λU=>?_;refine bH ?_;refine aA rfl (fA rfl rfl al) ?_;refine Gl ?_;refine wn λaO=>?_;refine ch ?_;refine cj rfl (b4 rfl (UL k.cases k.ca k.kg 171 [] [A] uA ae (wk λh a=>((B h a).kinds k hk).rP.1) (λd aQ=>amv A d (u.cases d aQ))) bI) ?_;refine gP ?_;refine fj ?_;refine eP ?_;refine bX ?_;refine gO (bx:=Nat) (λx=>x<=k.cases.length) (λx=>[(22,af x),(21,af k.cases.length),(20,.slice k.ca k.cases.length k.kg),(7,.bool (wm k.cases x)),(6,.bool (k.cases.any uA)),(5,ptr aO 0),(2,ptr U 0),(1,af i)]) (λ_=>ab aO 78 (dO k)::ab U 26 [.slice bS br.length pc]::A::D) (λx=>k.cases.length -x) 0 (fc _) de (au) ?_;rintro x ag;replace ag:x<=k.cases.length:=ag;refine bh ?_;refine b6 (λW=>?_) (λW=>?_)
 . obtain⟨c,a2⟩:∃c,k.cases[x]?=some c:=⟨_,cq (show x<k.cases.length by omega)⟩
   refine ch ?_;refine aA rfl (fA rfl rfl (show x<k.cases.length by omega)) ?_;refine aA rfl (kN rfl (kO ik 2 wa a2) rfl) ?_;refine wn λcx=>?_;refine ch ?_;refine mN (d:=35) 7 (.bool (wm k.cases (x+1))) ?_ (λn=>?_)
   rotate_left
   . refine hU rfl rfl (λI=>?_) (λI=>?_) rfl
     . have p:=bR I
       refine bh ?_;refine aA rfl (uE rfl rfl (show x<=k.kg by omega)) ?_;refine bX ?_;refine cj rfl (b4 rfl (amH k.cases x ae k.ca k.kg 173 [ptr cx 0] [A,ab cx 89 (ik c)] (λd=>decide (d.reason=c.reason)) ae (wk λh a=>((B h a).kinds k hk).rP.1) (λd _=>amw A cx d c)) bI) ?_;refine gP ?_;refine th ?_;exact Vv
     . have p:=bR I
       simp only[iD];refine bh ?_;exact Vv
   exact Vw
 . obtain rfl:x=k.cases.length:=by omega
   refine bh ?_;refine ir [2,30,53,54] [2,30] [0,4,101,105,109,113,117,129,133,137,141,197,201,205,209,10,12,16,20,24,28,32,36,40,44,48,52,56,60,64,68,72,76,81,85,89,93,97,122,124,144,148,152,156,160,164,168,172,176,180,184,188,192,214,218,220] [ab U 26 [.slice bS br.length pc],ab aO 78 (dO k)] ?_;refine bz ?_;refine jJ rfl .none rfl (uE rfl rfl (show i<=pc by omega)) (au) ?_;refine cr ?_;refine pR rfl .none rfl (b4 rfl (C6 (k.name) ae) bI) ?_;refine gP ?_;refine pT ?_;refine qn (d:=60) [97,122,124,144,148,152,156,160,164,168,172,176,180,184,188,192,214,218,220] (.bool (cI k)) ?_ (λe=>?_)
   rotate_left
   . refine hj (j:=4) rfl rfl (λL=>?_) (λL=>?_)
     . have C:=bR L
       refine eP ?_;refine bF ?_;unfold cI at e;exact kt e L L
     . have C:=bR L
       refine bz ?_;refine hj (j:=9) rfl rfl (λfV=>?_) (λfV=>?_)
       . have E:=bR fV
         refine fZ ?_;unfold cI at e;exact kt e L fV
       . have E:=bR fV
         refine bz ?_;refine hj (j:=14) rfl rfl (λw=>?_) (λw=>?_)
         . have N:=bR w
           refine cr ?_;unfold cI at e;exact qq e L fV w
         . have N:=bR w
           refine bz ?_;refine hj (j:=19) rfl rfl (λl=>?_) (λl=>?_)
           . exact Vx
           . exact Vx
   refine qo (bd.cons (t:=89) rfl (bd.cons (t:=87) rfl (bd.cons (t:=72) rfl (bd.cons (t:=66) rfl (bd.cons (t:=65) rfl (bd.cons (t:=60) rfl (bd.cons (t:=23) rfl (bd.cons (t:=22) rfl (bd.cons (t:=21) rfl (bd.cons (t:=20) rfl (bd.cons (t:=7) rfl (bd.cons (t:=6) rfl (bd.cons (t:=5) rfl (bd.cons (t:=2) rfl (bd.cons (t:=1) rfl (bd.nil)))))))))))))))) ?_;refine aG ?_;refine pR rfl .none rfl (b4 rfl (amI br i ae bS pc 175 [ptr aO 0] [A,ab aO 78 (dO k)] (λd=>decide (d.name=k.name)) ae (wk λh a=>(B h a).rd.1) (λd _=>amx A aO d k)) bI) ?_;refine gP ?_;refine pT ?_;refine qn (d:=84) [192,214,218,220] (.bool (ia k)) ?_ (λf=>?_)
   rotate_left
   . refine hj (j:=36) rfl rfl (λz=>?_) (λz=>?_)
     . have Z:=bR z
       refine cO ?_;unfold ia at f;exact kt f z z
     . have Z:=bR z
       refine bh ?_;refine hj (j:=42) rfl rfl (λR=>?_) (λR=>?_)
       . exact Vy
       . exact Vy
   refine qo (bd.cons (t:=89) rfl (bd.cons (t:=87) rfl (bd.cons (t:=84) rfl (bd.cons (t:=68) rfl (bd.cons (t:=61) rfl (bd.cons (t:=23) rfl (bd.cons (t:=22) rfl (bd.cons (t:=21) rfl (bd.cons (t:=20) rfl (bd.cons (t:=7) rfl (bd.cons (t:=6) rfl (bd.cons (t:=5) rfl (bd.cons (t:=2) rfl (bd.cons (t:=1) rfl (bd.nil))))))))))))))) ?_;refine aG ?_;refine yl rfl .none rfl (qp rfl rfl rfl rfl) ?_;rintro _ _ ⟨o,rfl,rfl⟩;refine aG ?_;refine pR rfl .none rfl (b4 rfl (C4 [(cI k,43),(qs (br.take i) k.name,41),(ia k,40),(k.cases.any uA,43),(wm k.cases k.cases.length,41)] o fW) bI) ?_;refine tm ?_;rcases K:pa br i with _|⟨c,ws⟩
   . refine bh ?_
     refine cj rfl (b4 rfl (wh (wj (r1 br i k) k.states.length ae 176 [ptr U 0,ptr aO 0] [ab U 26 [.slice bS br.length pc],ab aO 78 (dO k),A] (nu br k.states) (λi c ws h=>by have:=Mt i c ws h;omega) (λj J=>Vs bS pc br A B az k hk U aO j J)) (g▸K)) bI) ?_;exact MA
   . refine bh ?_
     refine cj rfl (b4 rfl (wi (wj (r1 br i k) k.states.length ae 176 [ptr U 0,ptr aO 0] [ab U 26 [.slice bS br.length pc],ab aO 78 (dO k),A] (nu br k.states) (λi c ws h=>by have:=Mt i c ws h;omega) (λj J=>Vs bS pc br A B az k hk U aO j J)) (g▸K)) bI) ?_;exact MB
def Vz(B:∀h,A h->hr h bS pc br)(az:∃h,hr h bS pc br)(d j:Nat)(J:j<br.length):ad aa 98 [af j,ptr d 0] [ab d 26 Az,A] (qm (pa br j) [ab d 26 Az,A]):=by
 refine ax Tryz.func98 λF D=>?_;refine bh ?_;rcases K:pa br j with _|⟨c,ws⟩
 . refine bX ?_
   refine aV (wh (Vu bS pc br A B az j J) K) ?_;refine bz ?_;exact aW ⟨rfl,rfl⟩
 . refine bX ?_
   refine bt (wi (Vu bS pc br A B az j J) K) ?_;exact MC
def VA(B:∀h,A h->hr h bS pc br)(az:∃h,hr h bS pc br):ad aa 55 [.agg #[.slice bS br.length pc]] [A] (Mn (pd br) [A]):=by
 refine ax Tryz.func55 λF D=>?_;obtain⟨bn,em⟩:=id az;have ro:=em.len;have GW:=em.rd.2;haveI t7:gN Gy A br.length (br.flatMap dO):=⟨λh=>(B _ h).rd.1⟩;unfold eF at*;refine a7 ?_;refine wn λav=>?_;refine cU ?_;refine mN (d:=14) 5 (.bool (decide ((br.length:Int)<1)||decide (8<(br.length:Int)))) ?_ (λe=>?_)
 rotate_left
 . refine hU rfl rfl (λW=>?_) (λW=>?_) rfl
   . have f:=bR W
     refine bH ?_;exact jl e
   . have f:=bR W
     simp only[iD];refine bF ?_;exact jl e
 refine aG ?_;refine iQ rfl (qp rfl rfl rfl rfl) ?_;rintro _ _ ⟨GG,rfl,rfl⟩;refine cj rfl (b4 rfl (C4 [(decide ((br.length:Int)<1)||decide (8<(br.length:Int)),40)] GG fW) bI) ?_;refine tm ?_;rcases K:pd br with _|⟨c,ws⟩
 . refine bh ?_
   refine cj rfl (b4 rfl (wh (wj (GH br) br.length ae 98 [ptr av 0] [ab av 26 [.slice bS br.length pc],A] (pa br) (λi c ws h=>by have:=US i c ws h;omega) (λj J=>Vz bS pc br A B az av j J)) K) bI) ?_;refine gP ?_;refine fj ?_;refine eP ?_;refine bF ?_;exact aW ⟨rfl,rfl⟩
 . refine bh ?_
   refine cj rfl (b4 rfl (wi (wj (GH br) br.length ae 98 [ptr av 0] [ab av 26 [.slice bS br.length pc],A] (pa br) (λi c ws h=>by have:=US i c ws h;omega) (λj J=>Vz bS pc br A B az av j J)) K) bI) ?_;rintro _ D ⟨_,⟨b,a,m,rfl,rfl⟩,rfl⟩;refine fj ?_;refine fx ?_;refine aA rfl (jw Tryz.underlying131 rfl rfl) ?_;refine bh ?_;exact aW ⟨_,_,_,rfl,rfl⟩
end
end Go.Proofs.YtnnhpnccfnghdaaGreat.C
namespace Go.L.Th
open Go.L Go.L.Lx Go.L.Pg Go.L.Ring Go.L.dr Go.L.dX Go.L.Whl Go.L.dB Go.L.Led
section
variable{b:Bool}{K:List b1}{n:cy}
def awK{i:Nat}{r k:ll}(h:Am i r k=none):r=none/\k=none:=by
 cases r with
 |none=>exact⟨rfl,h⟩
 |some x=>cases h
def ajE{D:Nat->ll}:∀{n i:Nat},fst D i n=none->∀j,i<=j->j<i+n->D j=none
 |0,i,_,j,h1,h2=>absurd h2 ae
 |
  n+1,i,h,j,h1,h2=>by
  obtain⟨aH,bm⟩:=awK (show Am i (D i) (fst D (i+1) n)=none from h);by_cases e:j=i
  . rw[e];exact aH
  . exact ajE bm j ae ae
def Ls{own:Int}{n:Nat}{D:Nat->ll}(h:k1 own n D=none):own=0/\∀j,j<n->D j=none:=by
 unfold k1 at h;split at h
 . rename_i bn;exact⟨bn,λj J=>ajE h j (fc _) ae⟩
 . cases h
def ox{c:Int}{l:List (Bool×Int)}(h:oC ((b,c)::l)=0)(a2:c≠0):b=false/\oC l=0:=by
 unfold oC at h;cases b with
 |true=>exact absurd h a2
 |false=>exact⟨rfl,h⟩
def awL(h:qs K n=true):(lf K n).isSome=true:=by
 unfold qs at h;unfold lf;rw[List.find?_isSome];obtain⟨x,ag,e⟩:=zt.1 h;exact⟨x,ag,e⟩
def awM(h:qs K n=false):lf K n=none:=by
 unfold qs at h;unfold lf;rw[RW];intro x ag e;rw[ET]at h;exact h x ag e
def awN{S:List fb}{e:fw}{b:Bool}(h:r0 K S e b=0):1<=e.do'/\e.do'<=12/\(e.do'=2->(lf K e.name).isSome=true)/\(0<=e.n/\e.n<=255):=by
 unfold r0 at h;obtain⟨h1,h⟩:=ox h bN;obtain⟨_,h⟩:=ox h bN;obtain⟨_,h⟩:=ox h bN;obtain⟨_,h⟩:=ox h bN;obtain⟨_,h⟩:=ox h bN;obtain⟨_,h⟩:=ox h bN;obtain⟨u,h⟩:=ox h bN;obtain⟨L,-⟩:=ox h bN;unfold aB at h1;unfold uB at u;unfold uC at L;simp only[S6,tV]at h1 u;rw[S6]at L;refine⟨by omega,by omega,λh2=>?_,by omega⟩;have:=L.1;rw[lM h2,lV]at this;exact awL (by simpa using this)
def S7(h:pd K=none):K.length<=8/\K≠[]/\(∀k∈K,K.find? (λx=>decide (x.name=k.name))=some k)/\iN K:=by
 obtain⟨bn,h1⟩:=Ls h;obtain⟨bn,-⟩:=ox bn bN;simp only[S6,tV]at bn;have g7:K≠[]:=λe=>by subst e;simp at bn
 have key:∀j k,K[j]?=some k->r1 K j k=0/\∀i s,k.states[i]?=some s->nu K k.states i=none:=λj k J=>by
  have h2:=h1 j (dd.1 J).1;unfold pa at h2;rw[J]at h2;obtain⟨aH,bm⟩:=Ls h2;exact⟨aH,λi s al=>bm i (dd.1 al).1⟩
 refine⟨by omega,g7,λk hk=>?_,g7,λk hk=>?_⟩
 . obtain⟨j,J⟩:=Fo.1 hk
   obtain⟨h2,-⟩:=key j k J;unfold r1 at h2;obtain⟨_,h2⟩:=ox h2 bN;obtain⟨aH,_⟩:=ox h2 bN;have bm:=awM aH;obtain⟨d5,e⟩:=dd.1 J;have aU:K=K.take j++k::K.drop (j+1):=by
    rw[<-e,<-vY d5,CR]
   unfold lf at bm;rw[aU,List.find?_append,bm];simp
 . obtain⟨j,J⟩:=Fo.1 hk
   obtain⟨h2,aH⟩:=key j k J;unfold r1 at h2;obtain⟨_,h2⟩:=ox h2 bN;obtain⟨_,h2⟩:=ox h2 bN;obtain⟨bm,_⟩:=ox h2 bN;unfold ia at bm;simp only[S6,tV]at bm;refine⟨λe=>by rw[e]at bm;simp at bm,λt R r aD=>?_⟩;obtain⟨i,al⟩:=Fo.1 R;have dk:=aH i t al;unfold nu at dk;rw[al]at dk;obtain⟨-,g0⟩:=Ls dk;obtain⟨m,bb⟩:=Fo.1 aD;have u:=g0 m (dd.1 bb).1;unfold n2 at u;rw[bb]at u;obtain⟨L,p⟩:=Ls u;unfold uz at L;obtain⟨_,L⟩:=ox L bN;obtain⟨_,L⟩:=ox L bN;obtain⟨c,_⟩:=ox L bN;simp only[tV]at c;refine⟨by omega,λe Y=>?_⟩;obtain⟨q,bo⟩:=Fo.1 Y;have b:=p q (dd.1 bo).1;unfold oF at b;rw[bo]at b;simp only at b;split at b
   . rename_i a;exact awN a
   . cases b
end
end Go.L.Th
namespace Go.Proofs.YtnnhpnccfnghdaaGreat.L.bE
open Go.Proofs.YtnnhpnccfnghdaaGreat.L
open Go.L Go.L.Ring Go.L.dr Go.L.dX Go.L.Whl Go.L.dB Go.L.Lx Go.L.Pg
open Go.L.Led (dg du dS bs aw e2)
open Go.L.Th (bK cV da bZ ds bQ bY eE bV ar most dU cM fg eJ dP In cR cZ eK bw bL eL eM bl cB dw go br Good eg eN dT acc Inv eu eS ff busy dG ei ef e9)
open Go.Proofs.YtnnhpnccfnghdaaGreat.C (Mn Mm o9)
attribute[local irreducible] G cz GE cT GT bU c6 cY dc Exit.then Exit.inBlock
abbrev aBw:TypeId:=134
def LK{P:Program}{M:FuncId}{args:List Value}{A:aq}{post:Value->List aq->Prop}{p:Prop}(h:∀h,A h->p)(f:p->ad P M args [A] post):ad P M args [A] post:=λF D w s=>f (by
 obtain⟨h1,_,_,_,a,_⟩:=s.eI;exact h _ a) F D w s
def akW(c:Int)(ws:List Int)(b:Nat):aq:=df (bx:=Option Addr×Nat) (λ_=>True) (λE=>[ab b aBw [af c,.slice E.1 ws.length E.2],o9 E.1 E.2 ws])
section
variable{bS:Option Addr}{pc:Nat}{K:List b1}{ba:aq}
def aBx(o:∀h,ba h->hr h bS pc K)(h:pd K=none):ad aa 55 Et [ba] (aF (.nilIface) [ba]):=
 LK (λh a=>⟨h,o h a⟩) λaz=>(C.VA bS pc K ba o az).mono λu H q=>by rw[h]at q;exact q
def aBy(o:∀h,ba h->hr h bS pc K){c:Int}{ws:List Int}(h:pd K=some (c,ws)):ad aa 55 Et [ba] (λu H=>∃b,u=.iface 131 (ptr b 0)/\H=[akW c ws b,ba]):=
 LK (λh a=>⟨h,o h a⟩) λaz=>rF [] (C.VA bS pc K ba o az) kH λu H q=>by
  rw[h]at q;obtain⟨b,a,m,rfl,rfl⟩:=q;exact⟨_,⟨b,rfl,rfl⟩,λh s=>cA (D:=[ba]) (a,m) trivial kH h s⟩
def akX{P:List b1}(h:Th.iN P):Th.iN (P.map cN):=by
 have a8:∀n,(Th.lf P n).isSome=true->(Th.lf (P.map cN) n).isSome=true:=λn aS=>by
  unfold Th.lf at*;rw[List.find?_isSome]at*;obtain⟨x,ag,e⟩:=aS;exact⟨cN x,jS.2 ⟨x,ag,rfl⟩,e⟩
 refine⟨λe=>h.ne (List.map_eq_nil_iff.1 e),λk hk=>?_⟩;obtain⟨fi,i8,rfl⟩:=jS.1 hk;have g:=h.kinds fi i8;refine⟨λe=>g.st (List.map_eq_nil_iff.1 (show fi.states.map fN=[]from e)),λt R r aD=>?_⟩;obtain⟨t0,hO,rfl⟩:=jS.1 (show t∈fi.states.map fN from R);obtain⟨L,a,rfl⟩:=jS.1 (show r∈t0.rows.map iP from aD);obtain⟨h1,h2⟩:=g.b8 t0 hO L a;exact⟨h1,λe Y=>⟨(h2 e Y).1,(h2 e Y).2.1,λd=>a8 _ ((h2 e Y).2.2.1 d),(h2 e Y).2.2.2⟩⟩
def akY{C:bK}(N:C.ok)(o:∀h,ba h->hr h bS pc K)(cL:pd K=none){s:ar}(aj:Th.start C tH=some s):ad aa 28 [.agg (sQ (pI C)).toArray,.agg #[.slice bS K.length pc]] [ba] (λu H=>∃h,u=.tuple #[ptr h 0,.nilIface]/\H=[kw C tH h s,ba]):=by
 obtain⟨h1,_,aH,_⟩:=Th.S7 cL;refine LK (λh a=>show∀k∈K,kh k from λk hk=>L9 ((o h a).kinds k hk)) λhk=>?_;refine rF [] (aBb bS pc K ba C N o hk h1 aH (aBx o cL) s aj) kH λu H ⟨X,z,aB,aU,ao,bB,cc⟩=>⟨_,⟨X.h,bB,rfl⟩,λh s=>?_⟩;subst cc;rw[<-aB,<-aU];exact Qq (D:=[ba]) ao h ((show∀h,Sat ((ba::bj X z _)++[]) h->Sat (bj X z _++[ba]) h from by simp only[cn,ci,jj];exact(au)) h s)
end
section
variable(C:bK)(bS:Option Addr)(pc:Nat)(K:List b1)(ea:Option Addr)(cQ:Nat)(es:List dG)(r:Int)(ba:aq)(c:l1)
abbrev aBz:Prop:=∀l:cy,eF l.length->ad aa 92 [S l] [] (aF (.bool (lN l)) [])
def LL:aBz:=λl aw=>by
 unfold eF at aw;exact C6 l ae
def adw(x:bZ):qH (kb x) (kb x)=true:=by
 simp[qH,kb]
abbrev vb(C:l1)(bS:Option Addr)(pc:Nat)(K:List b1)(ea:Option Addr)(cQ:Nat)(es:List dG)(r:Int):List Value:=sQ C++[.slice bS K.length pc,.slice ea es.length cQ,af r]
abbrev TT(P:List b1)(s:ar)(e:dG):Option ar:=(Th.pH C P s e).map (·.1)
structure zW(C:bK)(P:List b1)(es:List dG)(y:ar)(i:Nat)(s:ar):Prop where
 r:ef C P (1+i) s
 hp:(es.drop i).foldlM (TT C P) s=some y
 al:i<=es.length
def zW.next{C:bK}{P:List b1}{es:List dG}{y s:ar}{i:Nat}{e:dG}(N:C.ok)(dm:Th.iN P)(h:zW C P es y i s)(Y:es[i]?=some e)(aw:es.length<=400):∃aY l,Th.pH C P s e=some (aY,l)/\zW C P es y (i+1) aY:=by
 obtain⟨d5,t8⟩:=dd.1 Y;have hk:Th.hM=10000000:=rfl;obtain⟨aY,l,aB,gZ⟩:=Th.Lm (Th.ui N) N dm ae h.r e;refine⟨aY,l,aB,⟨gZ,?_,d5⟩⟩;have bn:=h.hp;rw[vY d5,t8,List.foldlM_cons]at bn;rw[show TT C P s e=some aY by unfold TT;rw[aB];rfl]at bn;exact bn
def zW.fin{C:bK}{P:List b1}{es:List dG}{y s:ar}(h:zW C P es y es.length s):y=s:=by
 have bn:=h.hp;rw[Ge (eh _)]at bn;cases bn;rfl
def aBA(l:List bZ)(a aE:Option Addr)(c aK:Nat)(aw:l.length<=most):ad aa 27 [.slice a l.length c,.slice aE l.length aK] [dQ a c l,dQ aE aK l] (aF iu [dQ a c l,dQ aE aK l]):=by
 refine ax Tryz.func27 λF D=>?_;have ip:l.length<=1099511627776:=aw;refine dx ?_;refine aA rfl (fM (c:=false) fW (mc rfl rfl)) ?_;refine dx ?_;refine gO (bx:=Nat) (λE=>E<=l.length) (λE=>[(5,af E),(0,.slice a l.length c),(1,.slice aE l.length aK)]) (λE=>dQ a c l::dQ aE aK l::D) (λE=>l.length -E) 0 (fc _) de (au) ?_;intro i al;replace al:i<=l.length:=al;refine cr ?_;refine b6 (λW=>?_) (λW=>?_)
 . obtain⟨e,R⟩:∃e,l[i]?=some e:=⟨_,cq (show i<l.length by omega)⟩
   refine bz ?_;refine ct [] [9] [dQ a c l,dQ aE aK l] ?_;refine a7 ?_;refine QI ?_;refine go_v rfl .none rfl (kN rfl (kO kb 9 zI R) rfl) ?_;refine a7 ?_;refine go_v rfl .none rfl (fA (v:=.slice aE l.length aK) rfl rfl (show i<l.length by omega)) ?_;refine go_v rfl .none rfl (kN rfl (kO kb 9 zI R) rfl) ?_;refine go_v rfl .none rfl (fM (c:=false) (by show(!qH (kb e) (kb e))=false;rw[adw];rfl) (Y9 rfl rfl rfl rfl)) ?_;refine L6 ?_;refine fm (i+1) (show i+1<=l.length by omega) (show l.length -(i+1)<l.length -i by omega) de (au)
 . refine dx ?_
   exact aW ⟨rfl,rfl⟩
def akZ(N:C.ok)(o:∀h,ba h->hr h bS pc K)(g2:∀h,ba h->ij h ea cQ es.length (es.flatMap h8))(m3:eF (es.length*48))(t6:∀e∈es,eF e.tag.length)(cL:pd K=none)(E:ar×Bool)(T:e9 C (K.map cN) es r=some E):ad aa 23 [.agg (vb (pI C) bS pc K ea cQ es r).toArray] [ba] (λu H=>∃h,u=ptr h 0/\H=[kw C (K.map cN) h E.1,ba]):=by
 refine ax Tryz.func23 λF D=>?_;have dm:=akX (Th.S7 cL).2.2.2;haveI:gN (.slice ea es.length cQ) ba es.length (es.flatMap h8):=⟨λh=>(g2 _ h).1⟩;unfold eF at m3;obtain⟨dY,aB,rx⟩:=io.1 T;obtain⟨a,aU,bB⟩:=io.1 rx;have L:ef C (K.map cN) (1+0) dY:=by
  obtain⟨j,J,L⟩:=Th.S2 N dm;rw[aB]at J;cases J;exact L
 have hw:Th.hM=10000000:=rfl;have aw:(es.take 400).length=min 400 es.length:=pS;refine a7 ?_;refine wn λav=>?_;refine cr ?_;refine bt (akY N o cL aB) ?_;rintro _ _ ⟨h,rfl,rfl⟩;refine aee ?_;refine lD ?_;refine cr ?_;refine gO (bx:=Nat×ar) (λE=>zW C (K.map cN) (es.take 400) a E.1 E.2) (λE=>[(5,af E.1),(3,ptr h 0),(1,ptr av 0)]) (λE=>kw C (K.map cN) h E.2::ab av 57 (vb (pI C) bS pc K ea cQ es r)::ba::D) (λE=>(es.take 400).length -E.1) (0,dY) (⟨L,aU,fc _⟩) de (au) ?_;rintro⟨i,aY⟩ bM;replace bM:zW C (K.map cN) (es.take 400) a i aY:=bM;have al:=bM.al;dsimp only;refine cr ?_;refine mN (d:=24) 3 (.bool (decide ((i:Int)<(es.length:Int))&&decide ((i:Int)<400))) ?_ (λb=>?_)
 rotate_left
 . refine hU rfl rfl (λW=>?_) (λW=>?_) rfl
   . have f:=bR W
     refine bF ?_;exact jl b
   . have f:=bR W
     simp only[iD];refine a7 ?_;exact jl b
 refine a7 ?_;refine b6 (λI=>?_) (λI=>?_)
 . obtain⟨e,Y⟩:∃e,(es.take 400)[i]?=some e:=⟨_,cq (by have p:=I;simp only[iy,ln]at p;omega)⟩
   have c:es[i]?=some e:=by rw[ahO]at Y;split at Y;exact Y;cases Y
   obtain⟨Z,U,aQ,g⟩:=bM.next N dm Y ae;have d5:i<es.length:=(dd.1 c).1;have v:i<(es.take 400).length:=(dd.1 Y).1;refine cr ?_;refine aA rfl (fA rfl rfl (show i<es.length by omega)) ?_;refine aA rfl (kN rfl (kO h8 5 (λ_=>rfl) c) rfl) ?_;refine cj rfl (b4 rfl (LI N dm bM.r ae (LL e.tag (t6 e (List.mem_of_mem_take (h0 Y)))) aQ) bI) ?_;refine tm ?_;refine ya ?_;refine fm (i+1,Z) g (show(es.take 400).length -(i+1)<(es.take 400).length -i by omega) de (au)
 . obtain rfl:i=(es.take 400).length:=by
    have p:=I;simp only[Bool.and_eq_false_iff,tV]at p;omega
   obtain rfl:=bM.fin;refine cU ?_;refine aA rfl (uw (min r 400) (by rw[Int.min_def];split<;>split<;>omega) rfl rfl) ?_;refine cj rfl (b4 rfl (LJ (k:=min r 400) N dm bM.r rfl ae bB) bI) ?_;refine gP ?_;refine fj ?_;refine cU ?_;exact aW ⟨h,rfl,rfl⟩
def aBB(a2:c.okB=false):ad aa 23 Jj [ba] (aF fS [ba]):=by
 refine ax Tryz.func23 λF D=>?_;refine a7 ?_;refine wn λav=>?_;refine cr ?_;refine bt (aBo bS pc K ba c a2) ?_;exact afT
def aBC(a2:c.okB=true)(o:∀h,ba h->hr h bS pc K)(f:Int×List Int)(a8:pd K=some f):ad aa 23 Jj [ba] (aF fS [ba]):=by
 refine ax Tryz.func23 λF D=>?_;refine a7 ?_;refine wn λav=>?_;refine cr ?_;refine bt (aBp bS pc K ba c a2 (akW f.1 f.2) (aBy o a8)) ?_;exact afT
end
end Go.Proofs.YtnnhpnccfnghdaaGreat.L.bE
namespace Go.Proofs.YtnnhpnccfnghdaaGreat.L.bE
open Go.Proofs.YtnnhpnccfnghdaaGreat.L
open Go.L Go.L.Ring Go.L.dr Go.L.dX Go.L.Whl Go.L.dB Go.L.Lx Go.L.Pg
open Go.L.Led (dg du dS bs aw e2)
open Go.L.Th (bK cV da bZ ds bQ bY eE bV ar most dU cM fg eJ dP In cR cZ eK bw bL eL eM bl cB dw go br Good eg eN dT acc Inv eu eS ff busy dG ei ef e9)
attribute[local irreducible] G cz GE cT GT bU c6 cY dc Exit.then Exit.inBlock
instance:eG aa 57 (dM::dM::dM::dM::dM::dM::dM::dM::dM::eX::Oc):=e1
instance:eG aa 43 Ic:=e1
instance:jy aa 40 43 2:=lT
instance:jz aa 40 43 2 16 Ic:=mh
instance:jR aa 43 2:=nI
instance:hs aa 43 [(0,1),(1,1)] Ic:=hK Tryz.underlying43
instance:bO aa 51 5 5:=bP
instance:bO aa 51 6 6:=bP
section
variable{h k:dR}{a:Option Addr}{j c n:Nat}{x:Value}{D:List aq}{U:List Std}
def Ot(o:mZ h a j x)(f:∀b o,h b=some o->k b=some o):mZ k a j x:=
 let⟨b,bv,cs,e,aB,aU,bB⟩:=o
 ⟨b,bv,cs,e,aB,f _ _ aU,bB⟩
def YA(o:oi h a j)(f:∀b o,h b=some o->k b=some o):oi k a j:=
 let⟨x,o,e⟩:=o
 ⟨x,Ot o f,e⟩
def Ou{e:TypeId}{aT:Nat}{xs:List Value}(o:own (.slice a n c) e aT n xs h)(ag:xs[j]?=some x):mZ h a j x:=by
 obtain⟨aw,⟨_,rfl⟩|⟨b,C,dq,aB,_,_,_,fX⟩⟩:=o
 . rw[YB]at aw
   rw[rn aw]at ag;cases ag
 . simp only[Value.slice.injEq]at aB
   exact⟨b,0,_,e,aB.1,fX,by
    have J:=(dd.1 ag).1;simp[kS J,ag]⟩
def YC{e:TypeId}{aT:Nat}{xs:List Value}(o:own u9 e aT n xs h)(J:j<xs.length)(aj:∀x∈xs,nK x=false):oi h a j:=⟨_,Ou o (cq J),aj _ (sz J)⟩
def Bo(o:oi h a j):∃q E,mZ h a q E:=⟨_,_,o.choose_spec.1⟩
def va(a:Option Addr)(U:List Std):aq:=λh=>∀i E,U[i]?=some E->mZ h a (i*9+5) (.slice E.sa 4 E.sc)/\mZ h a (i*9+6) (hL E.ka E.kc E.x.kids)/\(∀j,j<4->oi h E.sa (j*1))/\∀j,j<E.x.kids.length->oi h E.ka (j*1)
instance:H8 (va a U)where
 st:=λs v i E e=>by
  obtain⟨h1,h2,aH,bm⟩:=s i E e;exact⟨v.ak h1,v.ak h2,λj J=>v.ot (aH j J),λj J=>v.ot (bm j J)⟩
def aqa:∀h,Sat (own (.slice a U.length c) 51 9 U.length (U.flatMap oQ)::ay (U.map qa)::D) h->Sat (va a U::D) h:=
 v7 λh1 h2 d o f i E e=>by
  obtain⟨aH,bm,t,rfl,⟨_,_,dk,g0,R,rfl,k,u,L,r,rfl,s,_⟩,_⟩:=rD (D:=[]) (show(U.map qa)[i]?=some (qa E) by rw[fe,e];rfl) h2 (Sat.one f);have f0:∀b o,dk b=some o->join h1 (join (join dk (join u L)) bm) b=some o:=λb o e=>rl d (join_some (join_some e));have f1:∀b o,u b=some o->join h1 (join (join dk (join u L)) bm) b=some o:=λb o e=>rl d (join_some (rl R (join_some e)));refine⟨Ot (Ou o (lL oQ 9 (λ_=>rfl) e rfl)) λb o e=>join_some e,Ot (Ou o (lL oQ 9 (λ_=>rfl) e rfl)) λb o e=>join_some e,λj J=>YA (YC k (by rw[rm];exact J) λx ag=>?_) f0,λj J=>YA (YC s (by rw[rm,kG];exact J) λx ag=>?_) f1⟩<;>
  . obtain⟨_,_,rfl⟩:=jS.1 ag;rfl
end
section
variable{A B:aq}{D:List aq}{p:dR->Prop}
def aqb:∀h,Sat (A::B::D) h->Sat (wF [A,B]::D) h:=λh s=>Sat.flat.2 s
def aqc:∀h,Sat (wF [A,B]::D) h->Sat (A::B::D) h:=λh s=>Sat.flat.1 s
def aqd(mono:∀h k,p h->Ol->p k)(f:∀h,A h->p h):∀h,wF [A,B] h->p h:=λh ⟨h1,h2,d,e,a,_⟩=>by
 subst e;exact mono _ _ (f _ a) λb o e=>join_some e
def YD(mono:∀h k,p h->Ol->p k)(f:∀h,B h->p h):∀h,wF [A,B] h->p h:=λh ⟨h1,h2,d,e,_,aH,bm,t,aU,b,_⟩=>by
 subst e aU;exact mono _ _ (f _ b) λb o e=>rl d (join_some e)
end
section
variable{a ck cl:Option Addr}{c c1 bk:Nat}{D:List aq}{r:Row}{aF:List Row}{s:fb}{z:List fb}{k:b1}{l:List b1}
def Ov{A:aq}(aP:A (λ_=>none)):∀h,Sat D h->Sat (wr A::D) h:=λh s=>⟨λ_=>none,h,λ_=>.inl rfl,by funext b;simp[join],⟨aP,λ_ _ h=>by cases h⟩,s⟩
def aqe(ok:CO r):∀h,Sat (own (.slice a r.b8.length c) 87 7 r.b8.length (r.b8.flatMap fz)::wr (rk aF)::D) h->Sat (wr (rk (aF++[{r with ea:=a,cQ:=c}]))::D) h:=λh s=>
 DX (L:=[_,_]) Ow (Ul (D:=[]) ok) h (Bj h s)
def aqf(aS:eF s.name.length)(aw:eF (aF.length*56)):∀h,Sat (own (.slice a aF.length c) 85 4 aF.length (aF.flatMap gh)::wr (rk aF)::wr (mK z)::D) h->Sat (wr (mK (z++[⟨s.name,a,c,aF⟩]))::D) h:=λh s=>
 DX (L:=[_,_,_]) Ow (Um (D:=[]) aS aw) h (Bj h s)
def aqg(ok:kh k)(aw:z.length=k.states.length):∀h,Sat (own (.slice ck k.cases.length c1) 89 2 k.cases.length (k.cases.flatMap ik)::own (.slice cl z.length bk) 82 2 z.length (z.flatMap ft)::wr (mK z)::wr (jN l)::D) h->Sat (wr (jN (l++[CQ]))::D) h:=λh s=>
 DX (L:=[_,_]) Ow (YE (D:=[])) h (DX (L:=[_,_,_]) (λh k a f=>kM.imp a f) (Un (D:=[]) ok aw) h (Bj h (Sat.tail Bj s)))
def aqh(aw:eF (l.length*80)):∀h,Sat (own (.slice a l.length c) 78 5 l.length (l.flatMap dO)::wr (jN l)::D) h->Sat (u7 a c l::D) h:=λh s=>
 DX (L:=[_,_]) (λh k a f=>hr.imp a f) (YF (D:=[]) aw) h (Bj h s)
end
section
variable{P:Program}{F:World}{n:Nat}{ak:eA}{I:List aq}{Q:Exit->Act->World->Prop}{c:Code}
def tI(m:Nat)(d:Nat->eA)(hk:bd (d 0) ak)(round:∀i,i<=m->G P F n c (d i) I (Exit.then (λa w=>∃y,y<=m/\m -y<m -i/\hd n (d y) a/\db F I w) Q)):G P F n (.loop c) ak I Q:=
 gO (bx:=Nat) (λi=>i<=m) d (λ_=>I) (λi=>m -i) 0 (fc _) hk (λ_ s=>s) round
end
end Go.Proofs.YtnnhpnccfnghdaaGreat.L.bE
namespace Go.Proofs.YtnnhpnccfnghdaaGreat.L.bE
open Go.Proofs.YtnnhpnccfnghdaaGreat.L
open Go.L Go.L.Ring Go.L.dr Go.L.dX Go.L.Whl Go.L.dB Go.L.Lx Go.L.Pg
open Go.L.Led (dg du dS bs aw e2)
open Go.L.Th (bK cV da bZ ds bQ bY eE bV ar most ei dG ef e9)
attribute[local irreducible] G cz GE cT GT bU c6 cY dc Exit.then Exit.inBlock
def as9(bS:Option Addr)(pc:Nat)(K:List b1)(ba:aq)(o:∀h,ba h->hr h bS pc K)(hk:∀k∈K,kh k)(cL:eF (K.length*80)):ad aa 31 Et [ba] (λu H=>∃a c fq,fq.map cN=K.map cN/\u=.agg #[.slice a fq.length c]/\H=[u7 a c fq,ba]):=by
 refine ax Tryz.func31 λF D=>?_;haveI:gN (.slice bS K.length pc) ba K.length (K.flatMap dO):=⟨λh=>(o _ h).rd.1⟩;have m7:K.length*80<=140737488351232:=cL;refine a7 ?_;refine wn λav=>?_;refine wn λU=>?_;refine bF ?_;refine wn λZ=>?_;refine cr ?_;refine gO (bx:=Nat×Option Addr×Nat×List b1) (λE=>l8 cN K E.2.2.2 E.1) (λE=>((4,af (E.1:Int))::(3,ptr Z 0)::I5)) (λE=>ab Z 26 [.slice E.2.1 E.2.2.2.length E.2.2.1]::own Qt 78 5 E.2.2.2.length (E.2.2.2.flatMap dO)::wr (jN E.2.2.2)::ab av 26 vm::ab U 26 [.slice none 0 0]::ba::D) (λE=>K.length -E.1) (0,none,0,[]) (l8.start _) de (λh s=>(au) h (ii (e:=78) (aT:=5) h (Ov (A:=jN []) JH h s))) ?_;rintro⟨i,a,c,l⟩ bM;replace bM:l8 cN K l i:=bM;have B:=bM.ql;have he:=bM.len;dsimp only;refine cU ?_;refine b6 (λW=>?_) (λW=>?_)
 . obtain⟨k,O⟩:∃k,K[i]?=some k:=⟨_,cq (show i<K.length by omega)⟩
   have hw:k∈K:=h0 O;have ok:=hk k hw;have X:∀h,ba h->kM h k:=λh m=>(o h m).kinds k hw;haveI:=T4 X;haveI:=CL X;have and:k.cases.length*24<=140737488351232:=ok.ri;have any:k.states.length*40<=140737488351232:=ok.lens;refine cr ?_;refine aA rfl (fA rfl rfl (show i<K.length by omega)) ?_;refine Gl ?_;refine wn λaO=>?_;refine bz ?_;refine wn λadc=>?_;refine a7 ?_;refine iQ rfl (Dj rfl rfl ek rfl (kz ik 2 wa _) (Us _) ae wu) ?_;rintro _ _ ⟨b,f,rfl,rfl⟩;simp only[kR,ci];refine nr ?_;refine gO (bx:=Nat×Option Addr×Nat×List fb) (λE=>l8 fN k.states E.2.2.2 E.1) (λE=>((7,af (E.1:Int))::(6,.slice E.2.1 E.2.2.2.length E.2.2.1)::abW)) (λE=>own Qt 82 2 E.2.2.2.length (E.2.2.2.flatMap ft)::wr (mK E.2.2.2)::ab aO 78 abj::own (.slice b k.cases.length f) 89 2 k.cases.length tf::ab Z 26 [.slice a l.length c]::own (.slice a l.length c) 78 5 l.length (l.flatMap dO)::wr (jN l)::ab av 26 vm::ab U 26 [.slice none 0 0]::ba::D) (λE=>k.states.length -E.1) (0,none,0,[]) (l8.start _) de (λh s=>(au) h (ii (e:=82) (aT:=2) h (Ov (A:=mK []) JH h s))) ?_;rintro⟨j,cl,bk,z⟩ d;replace d:l8 fN k.states z j:=d;have v:=d.ql;have gY:=d.len;dsimp only;refine cU ?_;refine b6 (λI=>?_) (λI=>?_)
   . obtain⟨s,p⟩:∃s,k.states[j]?=some s:=⟨_,cq (show j<k.states.length by omega)⟩
     have g5:s∈k.states:=h0 p;haveI:=F9 X g5;have y:s.rows.length*56<=140737488351232:=(ok.states s g5).len;refine aeO ?_;refine wn λV=>?_;refine cU ?_;refine gO (bx:=Nat×Option Addr×Nat×List Row) (λE=>l8 iP s.rows E.2.2.2 E.1) (λE=>((9,af (E.1:Int))::(8,ptr V 0)::(7,af (j:Int))::(6,.slice cl z.length bk)::abW)) (λE=>ab V 82 [S s.name,.slice E.2.1 E.2.2.2.length E.2.2.1]::own Qt 85 4 E.2.2.2.length (E.2.2.2.flatMap gh)::wr (rk E.2.2.2)::own (.slice cl z.length bk) 82 2 z.length (z.flatMap ft)::wr (mK z)::ab aO 78 abj::own (.slice b k.cases.length f) 89 2 k.cases.length tf::ab Z 26 [.slice a l.length c]::own (.slice a l.length c) 78 5 l.length (l.flatMap dO)::wr (jN l)::ab av 26 vm::ab U 26 [.slice none 0 0]::ba::D) (λE=>s.rows.length -E.1) (0,none,0,[]) (l8.start _) de (λh s=>(au) h (ii (e:=85) (aT:=4) h (Ov (A:=rk []) JH h s))) ?_;rintro⟨q,a3,b0,aF⟩ C;replace C:l8 iP s.rows aF q:=C;have w:=C.ql;have R:=C.len;dsimp only;refine ch ?_;refine adP ?_;refine bF ?_;refine b6 (λL=>?_) (λL=>?_)
     . obtain⟨r,M⟩:∃r,s.rows[q]?=some r:=⟨_,cq (show q<s.rows.length by omega)⟩
       have g:r∈s.rows:=h0 M;haveI:=L3 X g5 g;have m3:r.b8.length*80<=140737488351232:=((ok.states s g5).rows r g).len;refine aeO ?_;refine aA rfl (fA rfl rfl (show q<s.rows.length by omega)) ?_;refine aA rfl (kN rfl (kO gh 4 rh M) rfl) ?_;refine wn λc2=>?_;refine bz ?_;refine wn λaDx=>?_;refine a7 ?_;refine iQ rfl (Dj rfl rfl ek rfl (kz fz 7 ur _) (L4 _) ae wu) ?_;rintro _ _ ⟨Y,H1,rfl,rfl⟩;simp only[kR,ci];refine bH ?_;refine wn λaC2=>?_;refine gp λn J=>?_;refine ch ?_;refine aA rfl (fo (((q+1:Nat):Int)) eV rfl rfl) ?_;refine a7 ?_;refine fm (q+1,n,J,aF++[({r with ea:=Y,cQ:=H1}:Row)]) (C.next M rfl) (show s.rows.length -(q+1)<s.rows.length -q by omega) de (λh t=>?_);dsimp only;rw[ep,o5];exact((au)) h (aqe (r:=r) (D:=ab V 82 [S s.name,.slice n (aF.length+1) J]::own (.slice n (aF.length+1) J) 85 4 (aF.length+1) (aF.flatMap gh++gh ({r with ea:=Y,cQ:=H1}:Row))::own (.slice cl z.length bk) 82 2 z.length (z.flatMap ft)::wr (mK z)::ab aO 78 [S k.name,af k.limit,af k.within,.slice b k.cases.length f,.slice k.sa k.states.length k.sc]::own (.slice b k.cases.length f) 89 2 k.cases.length (k.cases.flatMap ik)::ab Z 26 [.slice a l.length c]::own (.slice a l.length c) 78 5 l.length (l.flatMap dO)::wr (jN l)::ab av 26 [.slice bS K.length pc]::ab U 26 [.slice none 0 0]::ba::D) ((ok.states s g5).rows r g) h ((show∀h,Sat _ h->Sat (own (.slice Y r.b8.length H1) 87 7 r.b8.length (r.b8.flatMap fz)::wr (rk aF)::ab V 82 [S s.name,.slice n (aF.length+1) J]::own (.slice n (aF.length+1) J) 85 4 (aF.length+1) (aF.flatMap gh++gh ({r with ea:=Y,cQ:=H1}:Row))::own (.slice cl z.length bk) 82 2 z.length (z.flatMap ft)::wr (mK z)::ab aO 78 [S k.name,af k.limit,af k.within,.slice b k.cases.length f,.slice k.sa k.states.length k.sc]::own (.slice b k.cases.length f) 89 2 k.cases.length (k.cases.flatMap ik)::ab Z 26 [.slice a l.length c]::own (.slice a l.length c) 78 5 l.length (l.flatMap dO)::wr (jN l)::ab av 26 [.slice bS K.length pc]::ab U 26 [.slice none 0 0]::ba::D) h from(au)) h t))
     . obtain rfl:q=s.rows.length:=by omega
       have aU:fN (Gk:fb)=fN s:=(by have:=C.eq;rw[l9]at this;simp[fN,this]);refine bH ?_;refine wn λaDy=>?_;refine gp λa76 So=>?_;refine adG ?_;refine fm (j+1,a76,So,z++[(Gk:fb)]) (d.next p aU) (show k.states.length -(j+1)<k.states.length -j by omega) (bd.cons rfl EF) (λh t=>?_);dsimp only;rw[ep,o5];exact((au)) h (aqf (s:=s) (D:=own (.slice a76 (z.length+1) So) 82 2 (z.length+1) (z.flatMap ft++ft (⟨s.name,a3,b0,aF⟩:fb))::ab aO 78 [S k.name,af k.limit,af k.within,.slice b k.cases.length f,.slice k.sa k.states.length k.sc]::own (.slice b k.cases.length f) 89 2 k.cases.length (k.cases.flatMap ik)::ab Z 26 [.slice a l.length c]::own (.slice a l.length c) 78 5 l.length (l.flatMap dO)::wr (jN l)::ab av 26 [.slice bS K.length pc]::ab U 26 [.slice none 0 0]::ba::D) (ok.states s g5).name (by rw[C.len];exact y) h ((show∀h,Sat _ h->Sat (own (.slice a3 aF.length b0) 85 4 aF.length (aF.flatMap gh)::wr (rk aF)::wr (mK z)::own (.slice a76 (z.length+1) So) 82 2 (z.length+1) (z.flatMap ft++ft (⟨s.name,a3,b0,aF⟩:fb))::ab aO 78 [S k.name,af k.limit,af k.within,.slice b k.cases.length f,.slice k.sa k.states.length k.sc]::own (.slice b k.cases.length f) 89 2 k.cases.length (k.cases.flatMap ik)::ab Z 26 [.slice a l.length c]::own (.slice a l.length c) 78 5 l.length (l.flatMap dO)::wr (jN l)::ab av 26 [.slice bS K.length pc]::ab U 26 [.slice none 0 0]::ba::D) h from(au)) h t))
   . obtain rfl:j=k.states.length:=by omega
     have bB:cN (acM:b1)=cN k:=(by have:=d.eq;rw[l9]at this;simp[cN,this]);refine nr ?_;refine wn λaDz=>?_;refine gp λN T=>?_;refine Ux ?_;refine fm (i+1,N,T,l++[(acM:b1)]) (bM.next O bB) (show K.length -(i+1)<K.length -i by omega) de (λh t=>?_);dsimp only;rw[ep,o5];exact((au)) h (aqg (D:=ab Z 26 [.slice N (l.length+1) T]::own (.slice N (l.length+1) T) 78 5 (l.length+1) (l.flatMap dO++dO (⟨k.name,k.limit,k.within,b,f,k.cases,cl,bk,z⟩:b1))::ab av 26 [.slice bS K.length pc]::ab U 26 [.slice none 0 0]::ba::D) ok d.len h ((show∀h,Sat _ h->Sat (own (.slice b k.cases.length f) 89 2 k.cases.length (k.cases.flatMap ik)::own (.slice cl z.length bk) 82 2 z.length (z.flatMap ft)::wr (mK z)::wr (jN l)::ab Z 26 [.slice N (l.length+1) T]::own (.slice N (l.length+1) T) 78 5 (l.length+1) (l.flatMap dO++dO (⟨k.name,k.limit,k.within,b,f,k.cases,cl,bk,z⟩:b1))::ab av 26 [.slice bS K.length pc]::ab U 26 [.slice none 0 0]::ba::D) h from(au)) h t))
 . obtain rfl:i=K.length:=by omega
   refine dx ?_;refine vZ (.inl rfl) rfl rfl rfl rfl [u7 a c l,ba] (⟨a,c,l,by have:=bM.eq;rwa[l9]at this,rfl,rfl⟩) (λh t=>aqh (D:=ba::D) (by rw[bM.len];exact cL) h (((au)) h t))
end Go.Proofs.YtnnhpnccfnghdaaGreat.L.bE
namespace Go.Proofs.YtnnhpnccfnghdaaGreat.L.bE
open Go.Proofs.YtnnhpnccfnghdaaGreat.L
open Go.L Go.L.Ring Go.L.dr Go.L.dX Go.L.Whl Go.L.dB Go.L.Lx Go.L.Pg
open Go.L.Led (dg du dS bs aw e2)
open Go.L.Th (bK cV da bZ ds bQ bY eE bV ar most dU cM fg eJ dP In cR cZ eK bw bL eL eM bl cB dw go br Good eg eN dT acc Inv eu eS ff busy dG ei ef e9)
open Go.Proofs.YtnnhpnccfnghdaaGreat.C (Mn Mm)
attribute[local irreducible] G cz GE cT GT bU c6 cY dc Exit.then Exit.inBlock
section
variable(aR V c2 E:Nat){n h:Nat}{s:ar}{y:ar×Bool}
def FO:List Row:=[⟨[120],false,0,some ⟨aR,0,none⟩,1,[Th.zT]⟩]
def FP:List fb:=[⟨[115],some ⟨V,0,none⟩,1,FO aR⟩]
def FQ:List b1:=[⟨[97],0,1,none,0,[],some ⟨c2,0,none⟩,1,FP aR V⟩]
def LM:aq:=wF [ab E 78 ((FQ aR V c2).flatMap dO),ab c2 82 ((FP aR V).flatMap ft),ab V 85 ((FO aR).flatMap gh),ab aR 87 ([Th.zT].flatMap fz)]
def aBD:∀h,LM aR V c2 E h->hr h JN 1 (FQ aR V c2):=λh s=>by
 have h1:eF 1:=BA;have a:gT h (.slice JN 1 1) 1 ((FQ aR V c2).flatMap dO):=iX.get s;have w:=iX.get (v:=.slice (some ⟨c2,0,none⟩) 1 1) (n:=1) (xs:=(FP aR V).flatMap ft) s;have Q:=iX.get (v:=.slice (some ⟨V,0,none⟩) 1 1) (n:=1) (xs:=(FO aR).flatMap gh) s;have b:=iX.get (v:=.slice (some ⟨aR,0,none⟩) 1 1) (n:=1) (xs:=[Th.zT].flatMap fz) s;refine⟨⟨a,eh _⟩,(show eF (1*80) by unfold eF;decide),λk hk=>?_⟩;obtain rfl:=r2.1 hk;refine⟨h1,⟨.inl ⟨rfl,rfl,rfl⟩,eh _⟩,(show eF (0*24) by unfold eF;decide),(λc a2=>absurd a2 vX),⟨w,eh _⟩,(show eF (1*40) by unfold eF;decide),λx ag=>?_⟩;obtain rfl:=r2.1 ag;refine⟨h1,⟨Q,eh _⟩,(show eF (1*56) by unfold eF;decide),λr aD=>?_⟩;obtain rfl:=r2.1 aD;refine⟨h1,⟨b,eh _⟩,(show eF (1*80) by unfold eF;decide),λe Y=>?_⟩;obtain rfl:=r2.1 Y;exact⟨by unfold eF;decide,by unfold eF;decide,by unfold eF;decide⟩
def aBE:ad aa 28 [.agg (sQ (pI Th.jG)).toArray,.agg #[.slice JN 1 1]] [LM aR V c2 E] (λu H=>∃h,u=.tuple #[ptr h 0,.nilIface]/\H=[kw Th.jG Th.ke h Th.Ct,LM aR V c2 E]):=by
 have bn:=akY (K:=FQ aR V c2) Th.uj (aBD aR V c2 E) rC (s:=Th.Ct) Th.S3.1;exact bn
def TU{e:dG}(r:ef Th.jG Th.ke n s)(aS:n+1<=Th.hM)(aw:eF e.tag.length)(ah:Th.pH Th.jG Th.ke s e=some y)(az:y.2=true):ad aa 26 [ptr h 0,.agg (h8 e).toArray] [kw Th.jG Th.ke h s] (aF iu [kw Th.jG Th.ke h y.1]):=by
 have bn:=LI (h:=h) Th.uj Th.xU r aS (LL e.tag aw) ah;rw[az]at bn;exact bn
def ak0(r:ef Th.jG Th.ke n s)(aS:n+13*100<=Th.hM)(ah:Th.rest Th.jG Th.ke 100 s=some y)(az:y.2=true):ad aa 24 [ptr h 0,af 100] [kw Th.jG Th.ke h s] (aF iu [kw Th.jG Th.ke h y.1]):=by
 have bn:=LJ (h:=h) (k:=100) Th.uj Th.xU r bN aS ah;rw[az]at bn;exact bn
def aBF{α z:Type}{l:List α}{f:α->z}{i:Nat}{y:z}(h:(l[i]?).map f=some y):∃x,l[i]?=some x/\f x=y:=o3.1 h
def ak1{U:List Std}{l:List bQ}{m:Int}(h:U.map (·.x)=l)(aw:l.length=1)(bb:(l[0]?).map (·.mode)=some m):0<U.length/\(U.flatMap oQ)[4]?=some (af m):=by
 subst h;rw[kG]at aw;obtain⟨E,rfl⟩:=List.length_eq_one_iff.1 aw;simp at bb;subst bb;exact⟨by simp,rfl⟩
def aBG:ad aa 43 [] [] (aF (.agg (sQ (pI Th.jG)).toArray) []):=by
 refine ax Tryz.func43 λF D=>?_;refine a7 ?_;refine wn λaM=>?_;refine bF ?_;refine aA rfl (kX (cs:=sQ (pI Th.jG)) rfl rfl) ?_;refine bF ?_;refine vZ (.inl rfl) rfl rfl rfl rfl [] (dD) (au)
def as8:ad aa 22 [] [] xh:=by
 refine ax Tryz.func22 λF D=>?_;refine ch ?_;refine aA rfl (kX (cs:=fz Th.zT) rfl rfl) ?_;refine wn λaR=>?_;refine aA rfl (kX (cs:=gh ⟨[120],false,0,some ⟨aR,0,none⟩,1,[Th.zT]⟩) rfl rfl) ?_;refine wn λV=>?_;refine aA rfl (kX (cs:=ft ⟨[115],some ⟨V,0,none⟩,1,FO aR⟩) rfl rfl) ?_;refine wn λc2=>?_;refine aA rfl (kX (cs:=dO ⟨[97],0,1,none,0,[],some ⟨c2,0,none⟩,1,FP aR V⟩) rfl rfl) ?_;refine wn λE=>?_;refine aG ?_;refine wn λav=>?_;refine bF ?_;refine lh (λh s=>Sat.tail (λh s=>(Sat.flat (l:=[ab E 78 ((FQ aR V c2).flatMap dO),ab c2 82 ((FP aR V).flatMap ft),ab V 85 ((FO aR).flatMap gh),ab aR 87 ([Th.zT].flatMap fz)])).2 s) ((au) h s)) ?_;rw[<-LM];refine h9 [0,2] [0] [(1,.bJ),(0,.c0),(2,.c0),(3,.loc),(4,.loc),(5,.loc),(6,.loc),(7,.loc)] [ab av 26 [.slice JN 1 1]] mixed gS ?_;refine aG ?_;refine aV (aBG) ?_;refine aG ?_;refine bt (aBE aR V c2 E) ?_;rintro _ _ ⟨h,rfl,rfl⟩;refine er ?_;refine dx ?_;refine aA rfl (N0 rfl) ?_;refine cU ?_;refine aA rfl (kX (cs:=h8 ⟨4,0,1,[120],5⟩) rfl rfl) ?_;refine aG ?_;refine cj rfl (b4 rfl (TU Th.S3.2 bN BA Th.S4.1 Th.Fm.1) bI) ?_;refine EM ?_;refine cj rfl (b4 rfl (ak0 Th.S4.2 bN Th.Lo.1 Th.Fm.2.1) bI) ?_;refine gP ?_;refine fj ?_;refine cO ?_;refine cj rfl (b4 rfl (FL (h:=h) Th.Lo.2 bN) bI) ?_;rintro _ D ⟨_,⟨d,e,rfl,rfl⟩,rfl⟩;refine fj ?_;refine bH ?_;refine aA rfl (fM (c:=false) (by rw[Th.Cv.1];rfl) (mc rfl rfl)) ?_;refine bF ?_;refine aA rfl (fA (j:=1) rfl rfl (show 1<Th.rX.1.trace.length by rw[Th.Cv.1];decide)) ?_;refine aG ?_;refine aA rfl (kN rfl (kO kb 9 zI Th.Lq.1) rfl) ?_;refine aG ?_;refine aA rfl (kX (cs:=kb {Th.c3 with kind:=2,id:=1,cw:=-1,to:=1,name:=[120],n:=5}) rfl rfl) ?_;refine Q0 ?_;refine bz ?_;refine aA rfl (fA (j:=3) rfl rfl (show 3<Th.rX.1.trace.length by rw[Th.Cv.1];decide)) ?_;refine aG ?_;refine aA rfl (kN rfl (kO kb 9 zI Th.Lq.2.1) rfl) ?_;refine aG ?_;refine aA rfl (kX (cs:=kb {Th.c3 with kind:=2,id:=2,cw:=1,to:=1,name:=[121],n:=5}) rfl rfl) ?_;refine Q0 ?_;refine bz ?_;refine aA rfl (fA (j:=6) rfl rfl (show 6<Th.rX.1.trace.length by rw[Th.Cv.1];decide)) ?_;refine aG ?_;refine aA rfl (kN rfl (kO kb 9 zI Th.Lq.2.2.1) rfl) ?_;refine aG ?_;refine aA rfl (kX (cs:=kb {Th.c3 with kind:=4,dK:=1,id:=2,name:=[115]}) rfl rfl) ?_;refine Q0 ?_;refine cr ?_;refine aA rfl (kX (cs:=h8 ⟨7,0,0,[],0⟩) rfl rfl) ?_;refine cj rfl (b4 rfl (TU Th.Lo.2 bN BA Th.S5.1 Th.Fm.2.2.1) bI) ?_;refine Ar ?_;refine cj rfl (b4 rfl (ak0 Th.S5.2 bN Th.Lp.1 Th.Fm.2.2.2.1) bI) ?_;refine tm ?_;refine aV (aBu (h:=h) (n:=0)) ?_;refine aG ?_;refine aA rfl (fM (c:=true) (by rw[Th.Cv.2.1];rfl) (nb rfl rfl)) ?_;refine bz ?_;refine cj rfl (b4 rfl (akV (h:=h) Th.Lp.2 bN Th.uj) bI) ?_;rintro _ D ⟨_,⟨a77,f,U,rfl,y,-,rfl⟩,rfl⟩;refine th ?_;refine aA rfl (fA (j:=0) rfl rfl (ak1 y Th.Lr.1 Th.Lr.2).1) ?_;refine bX ?_;refine aA rfl (gy rfl (ak1 y Th.Lr.1 Th.Lr.2).2) ?_;refine aG ?_;refine aA rfl (fM (c:=true) bN (nb rfl rfl)) ?_;refine bz ?_;refine aA rfl (kX (cs:=h8 ⟨4,0,1,[120],0⟩) rfl rfl) ?_;refine aG ?_;refine cj rfl (b4 rfl (TU Th.Lp.2 bN BA Th.ajC.1 Th.Fm.2.2.2.2) bI) ?_;refine tm ?_;refine cj rfl (b4 rfl (FL (h:=h) Th.ajC.2 bN) bI) ?_;rintro _ D ⟨_,⟨g,i,rfl,rfl⟩,rfl⟩;refine th ?_;obtain⟨ym,b,a⟩:=aBF Th.Lq.2.2.2;refine aA rfl (fA (j:=9) rfl rfl (show 9<Th.Cu.1.trace.length by rw[Th.Cv.2.2];decide)) ?_;refine bX ?_;refine aA rfl (gy rfl (lL kb 9 zI b (j:=0) rfl)) ?_;refine aG ?_;refine aA rfl (fM (c:=true) (by rw[a];rfl) (nb rfl rfl)) ?_;refine bh ?_;exact aW ⟨rfl,rfl⟩
end
end Go.Proofs.YtnnhpnccfnghdaaGreat.L.bE
namespace Go.Proofs.YtnnhpnccfnghdaaGreat.L.bE
open Go.Proofs.YtnnhpnccfnghdaaGreat.L
open Go.L Go.L.Ring Go.L.dr Go.L.dX Go.L.Whl Go.L.dB Go.L.Lx Go.L.Pg
open Go.L.Led (dg du dS bs aw e2 qE)
open Go.L.Th (bK cV da bZ ds bQ bY eE bV ar most ei dG ef e9)
attribute[local irreducible] G cz GE cT GT bU c6 cY dc Exit.then Exit.inBlock
def ap7(p:Nat)(r:List w3)(aD:r.length<=1099511627776):ad aa 35 [ptr p 0] [Lg.dp p r] (λu H=>∃a c m,m<=1099511627776/\u=.slice a m c/\H=[tF a (m*2),Lg.dp p r]):=by
 refine ax Tryz.func35 λF D=>?_;refine dx ?_;refine kB ek ?_;rintro⟨z,⟨a,c⟩,cs⟩ K;replace K:qE r cs:=K;refine gb ?_;refine cU ?_;refine gO (bx:=Nat×Option Addr×Nat×Nat×List Value) (λx=>x.1<=r.length/\x.2.2.2.1<=x.1/\∀v∈x.2.2.2.2,nK v=false) (λx=>[(12,af (x.1:Int)),(3,.slice x.2.1 x.2.2.2.1 x.2.2.1),(11,af r.length),(10,.slice a r.length c),(0,ptr p 0)]) (λx=>own (.slice x.2.1 x.2.2.2.1 x.2.2.1) 43 2 x.2.2.2.1 x.2.2.2.2::ab p 161 (.map (some z)::.slice a r.length c::cs.map af)::b2 z .u64 (r.map λq=>(q.1,af q.2))::own (.slice a r.length c) 36 1 r.length (r.map λq=>bu q.1)::D) (λx=>r.length -x.1) (0,none,0,0,[]) (⟨fc _,eh _,λ_ h=>by cases h⟩) de (λh s=>ii h ((au) h s)) ?_;rintro⟨k,aE,aK,m,xs⟩ ⟨md,M,d⟩;replace md:k<=r.length:=md;replace M:m<=k:=M;replace d:∀v∈xs,nK v=false:=d;dsimp only;refine bh ?_;refine b6 (λW=>?_) (λW=>?_)
 . obtain⟨q,bo⟩:∃q,r[k]?=some q:=⟨_,cq ae⟩
   refine bh ?_;refine aA rfl (fA rfl rfl (show k<r.length by omega)) ?_;refine aA rfl (gy rfl (show(r.map λq=>bu q.1)[k*1]?=some (bu q.1) by rw[rm,fe,bo];rfl)) ?_;refine cU ?_;refine aA rfl (lA (af (bs r q.1)) (Lg.D2 r q.1) rfl rfl) ?_;refine bh ?_;refine aV (Lg.Ie _) ?_;refine a7 ?_;refine b6 (λI=>?_) (λI=>?_)
   . refine bz ?_
     refine wn λT=>?_;refine gp λe g=>?_;refine bH ?_;refine fm (k+1,e,g,m+1,xs++[bu q.1,af (bs r q.1)]) ⟨by show k+1<=_;omega,by show m+1<=k+1;omega,λv V=>by
      rcases kP.1 V with V|V
      . exact d v V
      . simp only[kf,vX,or_false]at V;rcases V with rfl|rfl<;>rfl⟩ Yz de (au)
   . refine ch ?_
     refine fm (k+1,aE,aK,m,xs) ⟨by show k+1<=_;omega,by show m<=k+1;omega,d⟩ Yz de (au)
 . refine fx ?_
   exact aW (H:=[tF aE (m*2),Lg.dp p r]) ⟨aE,aK,m,by omega,rfl,rfl⟩ (λh s=>Ys d rfl h (Sat.tail (Lg.w4 z a c cs K rfl (au)) ((show∀h,Sat _ h->Sat (own (.slice aE m aK) 43 2 m xs::ab p 161 (.map (some z)::.slice a r.length c::cs.map af)::b2 z .u64 (r.map λq=>(q.1,af q.2))::own (.slice a r.length c) 36 1 r.length (r.map λq=>bu q.1)::D) h from(au)) h s)))
def ap8(X:cJ)(z:dn)(s:ar)(aD:s.bf.length<=most):ad aa 15 [ptr X.h 0] (bj X z s) (λu H=>∃a c m,m<=1099511627776/\u=.slice a m c/\H=tF a (m*2)::bj X z s):=by
 refine ax Tryz.func15 λF D=>?_;refine cO ?_;refine bt (ap7 X.ld s.bf aD) ?_;rintro _ _ ⟨a,c,m,bb,rfl,rfl⟩;refine er ?_;refine bz ?_;exact aW ⟨a,c,m,bb,rfl,rfl⟩
def ap9{C:bK}{P:List b1}{h n:Nat}{s:ar}(r:Bm C P n s)(aS:n<=Th.hM):ad aa 15 [ptr h 0] [kw C P h s] (λu H=>∃a c m,m<=1099511627776/\u=.slice a m c/\H=[tF a (m*2),kw C P h s]):=
 Bn λX z ao aB aU bB=>by
  subst aB aU bB;exact rF [] (ap8 X z s (by
   have h1:=r.inv.base.bf.2;have h2:=r.inv.num.oW;have aH:Th.hM=10000000:=rfl;show _<=1099511627776;omega)) kH λu H ⟨a,c,m,bb,e,cc⟩=>⟨_,⟨a,c,m,bb,e,rfl⟩,λh s=>by
   subst cc;rw[jj]at s;exact Sat.tail Ib s⟩
end Go.Proofs.YtnnhpnccfnghdaaGreat.L.bE
namespace Go.Proofs.YtnnhpnccfnghdaaGreat.L.bE
open Go.Proofs.YtnnhpnccfnghdaaGreat.L
open Go.L Go.L.Ring Go.L.dr Go.L.dX Go.L.Whl Go.L.dB Go.L.Lx Go.L.Pg
open Go.L.Led (dg du dS bs aw e2)
open Go.L.Th (bK cV da bZ ds bQ bY eE bV ar most ei dG ef e9)
attribute[local irreducible] G cz GE cT GT bU c6 cY dc Exit.then Exit.inBlock
def ak2{C:bK}{P:List b1}{n:Nat}{s:ar}(r:ef C P n s)(aS:n<=Th.hM):s.trace.length<=most:=by
 have h1:=r.ph;have h2:Th.hM=10000000:=rfl;have aH:Th.hD=90000:=rfl;have bm:s.trace.length+s.dead.length<=Th.bL s:=O6;have dk:Th.hD*n<=90000*10000000:=qz (eh _) aS;show _<=1099511627776;omega
abbrev FR:dG:=⟨4,0,1,[103,111],1⟩
def aBH(l:List bZ):∀x∈l.flatMap kb,nK x=false:=λx ag=>by
 obtain⟨e,_,Y⟩:=Ad.1 ag;simp only[kb,kf,vX,or_false]at Y;rcases Y with rfl|rfl|rfl|rfl|rfl|rfl|rfl|rfl|rfl<;>rfl
def ak3(c:l1)(bS:Option Addr)(pc:Nat)(K:List b1)(ea:Option Addr)(cQ:Nat)(es:List dG)(r:Int)(ba:aq)(o:∀h,ba h->hr h bS pc K)(hk:∀k∈K,kh k)(pp:eF (K.length*80))(d:∀(a:Option Addr) (n:Nat) (fq:List b1) (b:aq),fq.map cN=K.map cN->(∀h,b h->hr h a n fq)->ad aa 23 [.agg (vb c a n fq ea cQ es r).toArray] [b] (λu H=>u=.pointer none/\H=[b])):ad aa 9 Jj [ba] Qo:=by
 refine ax Tryz.func9 λF D=>?_;refine agz ?_;intro av Z aE aK fq az;refine ch ?_;refine aV (d aE aK fq (u7 aE aK fq) az (λh p=>p.1)) ?_;refine bh ?_;refine aV (d bS pc K ba rfl o) ?_;refine uq ?_;refine aG ?_;exact aW ⟨rfl,rfl⟩
def aBI(C:bK)(bS:Option Addr)(pc:Nat)(K:List b1)(ea:Option Addr)(cQ:Nat)(es:List dG)(r:Int)(ba:aq)(o:∀h,ba h->hr h bS pc K)(hk:∀k∈K,kh k)(pp:eF (K.length*80))(N:C.ok)(g2:∀h,ba h->ij h ea cQ es.length (es.flatMap h8))(m3:eF (es.length*48))(t6:∀e∈es,eF e.tag.length)(cL:pd K=none):ad aa 9 [.agg (vb (pI C) bS pc K ea cQ es r).toArray] [ba] Qo:=by
 refine ax Tryz.func9 λF D=>?_;have dm:=akX (Th.S7 cL).2.2.2;obtain⟨E,T,a⟩:=Th.awJ N dm es r;have hw:Th.hM=10000000:=rfl;obtain⟨s1,g8,aQ,gZ⟩:=Th.Lm (Th.ui N) N dm (show 6000+1<=_ by omega) a FR;obtain⟨y,q,ah,ST⟩:=Th.Ln (Th.ui N) N dm 50 6001 s1 ae gZ;have d:=ak2 ST ae;have hO:E.1.trace.length<=1099511627776:=ak2 a ae;have m7:K.length*80<=140737488351232:=pp;refine agz ?_;intro av Z aE aK fq az;have i6:=YD (A:=u7 aE aK fq) (λ_ _=>ij.imp) g2;have alC:=akZ C aE aK fq ea cQ es r _ N (aqd (B:=ba) (λ_ _=>hr.imp) λh (p:u7 aE aK fq h)=>p.1) i6 m3 t6 (by rw[Yy az];exact cL) E (by rw[az];exact T);have aC5:=akZ C bS pc K ea cQ es r _ N (YD (A:=u7 aE aK fq) (λ_ _=>hr.imp) o) i6 m3 t6 cL E T;rw[az]at alC;have aDA:fq.length=K.length:=by have:=congrArg List.length az;simpa using this
 refine bz ?_;refine lh (H:=(wF [u7 aE aK fq,ba])::ab av 57 (vb (pI C) bS pc K ea cQ es r)::ab Z 57 (vb (pI C) aE aK fq ea cQ es r)::D) (λh t=>aqb h ((au) h t)) ?_;refine a7 ?_;refine bt (alC) ?_;rintro _ _ ⟨h,rfl,rfl⟩;refine er ?_;refine bh ?_;refine bt (aC5) ?_;rintro _ _ ⟨g,rfl,rfl⟩;refine er ?_;refine gi ?_;refine aG ?_;refine lh (H:=nL aE fq::ba::kw C tH h E.1::kw C tH g E.1::ab Z 57 (vb (pI C) aE aK fq ea cQ es r)::D) (λh t=>ap2 h (aqc h ((au) h t))) ?_;refine bz ?_;refine tI (fq.length) (λu=>[(6,af (u:Int)),(5,ptr g 0),(4,ptr h 0),(3,ptr Z 0)]) de ?_;intro i al;refine cO ?_;refine b6 (λW=>?_) (λW=>?_)
 . obtain⟨k,O⟩:∃v,fq[i]?=some v:=⟨_,cq (show i<fq.length by omega)⟩
   obtain⟨di,M,aly⟩:=ap6 az hk (h0 O);refine cO ?_;refine tI (k.states.length) (λu=>((7,af (u:Int))::Pz)) de ?_;intro j J;refine bH ?_;refine adV ?_;refine bF ?_;refine b6 (λI=>?_) (λI=>?_)
   . obtain⟨s,i7⟩:∃v,k.states[j]?=some v:=⟨_,cq (show j<k.states.length by omega)⟩
     obtain⟨aDB,aC6⟩:=aly s (h0 i7);refine cU ?_;refine adV ?_;refine aG ?_;refine aA rfl (tG (nL aE fq) rfl rfl (show j<k.states.length by omega) (λh t=>⟨_,_,((t i k O).2.2.2.2 j s i7).2.1⟩)) ?_;refine cU ?_;refine tI (s.rows.length) (λu=>((9,af (u:Int))::aaJ)) de ?_;intro q bo;refine ch ?_;refine aA rfl (yV (nL aE fq) rfl (λh t=>((t i k O).2.2.2.2 j s i7).2.1)) ?_;refine bF ?_;refine b6 (λL=>?_) (λL=>?_)
     . obtain⟨S,f⟩:∃v,s.rows[q]?=some v:=⟨_,cq (show q<s.rows.length by omega)⟩
       have aDC:=aC6 S (h0 f);refine cO ?_;refine tI (S.b8.length) (λu=>((10,af (u:Int))::(9,af (q:Int))::aaJ)) de ?_;intro x Y;refine ch ?_;refine aeV ?_;refine bF ?_;refine b6 (λfV=>?_) (λfV=>?_)
       . have ag:x<S.b8.length:=by omega
         refine bH ?_;refine aeV ?_;refine a7 ?_;refine aA rfl (tG (nL aE fq) rfl rfl ag (λh t=>Bo ((((t i k O).2.2.2.2 j s i7).2.2 q S f).2.2 x ag 0 bN))) ?_;refine iF (Oo (nL aE fq) rfl rfl rfl rfl rfl bN (λh t=>(((t i k O).2.2.2.2 j s i7).2.2 q S f).2.2 x ag)) ?_;refine Kc ?_;refine fm (x+1) (show x+1<=S.b8.length by omega) (show S.b8.length -(x+1)<S.b8.length -x by omega) de (au)
       . obtain rfl:x=S.b8.length:=by omega
         refine cr ?_;refine aet ?_;refine iF (Bl (nL aE fq) rfl rfl rfl rfl (λh t=>(((t i k O).2.2.2.2 j s i7).2.2 q S f).1)) ?_;refine bz ?_;refine aA rfl (fo (((q+1:Nat):Int)) eV rfl rfl) ?_;refine a7 ?_;refine fm (q+1) (show q+1<=s.rows.length by omega) (show s.rows.length -(q+1)<s.rows.length -q by omega) de (au)
     . obtain rfl:q=s.rows.length:=by omega
       refine cr ?_;refine iF (Bl (nL aE fq) rfl rfl rfl rfl (λh t=>((t i k O).2.2.2.2 j s i7).1)) ?_;refine adF ?_;refine fm (j+1) (show j+1<=k.states.length by omega) (show k.states.length -(j+1)<k.states.length -j by omega) de (au)
   . obtain rfl:j=k.states.length:=by omega
     refine dx ?_;refine tI (k.cases.length) (λu=>((11,af (u:Int))::Pz)) de ?_;intro x Y;refine bH ?_;refine adU ?_;refine bF ?_;refine b6 (λw=>?_) (λw=>?_)
     . have ag:x<k.cases.length:=by omega
       refine cr ?_;refine adU ?_;refine aG ?_;refine aA rfl (tG (nL aE fq) rfl rfl ag (λh t=>Bo ((t i k O).2.2.2.1 x ag))) ?_;refine aG ?_;refine iF (Bl (nL aE fq) rfl rfl rfl rfl (λh t=>(t i k O).2.2.2.1 x ag)) ?_;exact Vw
     . obtain rfl:x=k.cases.length:=by omega
       refine cU ?_;refine QZ ?_;refine iF (Bl (nL aE fq) rfl rfl rfl rfl (λh t=>(t i k O).1)) ?_;refine Rc ?_;refine fm (i+1) (show i+1<=fq.length by omega) (show fq.length -(i+1)<fq.length -i by omega) de (au)
 . obtain rfl:i=fq.length:=by omega
   refine bH ?_;refine cj rfl (b4 rfl (FL (h:=h) a ae) bI) ?_;rintro _ D ⟨_,⟨ck,c1,rfl,rfl⟩,rfl⟩;refine r8 ?_;refine lh (Ys (aBH _) rfl) ?_;refine bz ?_;refine tI (E.1.trace.length) (λu=>[(13,af (u:Int)),(12,.slice ck E.1.trace.length c1),(5,ptr g 0),(4,ptr h 0)]) de ?_;intro i al;refine cr ?_;refine b6 (λl=>?_) (λl=>?_)
   . have lw:i<E.1.trace.length:=by omega
     refine bH ?_;refine aA rfl (tG (tF ck (E.1.trace.length*9)) rfl rfl lw (λh t=>Bo (t 0 ae))) ?_;refine iF (Oo (tF ck (E.1.trace.length*9)) rfl rfl rfl rfl rfl bN (λh t q bo=>t (i*9+q) (by have SW:q<9:=bo;omega))) ?_;refine Rc ?_;refine fm (i+1) (show i+1<=E.1.trace.length by omega) (show E.1.trace.length -(i+1)<E.1.trace.length -i by omega) de (au)
   . obtain rfl:i=E.1.trace.length:=by omega
     refine bH ?_;refine cj rfl (b4 rfl (akV (h:=h) a ae N) bI) ?_;rintro _ D ⟨_,⟨cl,bk,U,rfl,n6,rx,rfl⟩,rfl⟩;refine r8 ?_;refine lh aqa ?_;have aDD:U.length=E.1.aI.length:=by have:=congrArg List.length n6;simpa using this
     have aDE:=a.inv.base.na;have mp:=N.ha;refine bz ?_;refine tI (U.length) (λu=>((15,af (u:Int))::abY)) de ?_;intro i al;refine cr ?_;refine b6 (λz=>?_) (λz=>?_)
     . obtain⟨v,b⟩:∃v,U[i]?=some v:=⟨_,cq (show i<U.length by omega)⟩
       have V:v.x.kids.length<=1099511627776:=(akU a ae v.x (by rw[<-n6];exact jS.2 ⟨v,h0 b,rfl⟩)).kids;refine cO ?_;refine tI (4) (λu=>((16,af (u:Int))::abX)) de ?_;intro x Y;refine bh ?_;refine adS ?_;refine bF ?_;refine b6 (λR=>?_) (λR=>?_)
       . have ag:x<4:=by omega
         refine ch ?_;refine adS ?_;refine aG ?_;refine aA rfl (tG (va cl U) rfl rfl ag (λh t=>Bo ((t i v b).2.2.1 x ag))) ?_;refine iF (Bl (va cl U) rfl rfl rfl rfl (λh t=>(t i v b).2.2.1 x ag)) ?_;refine Kc ?_;refine fm (x+1) (show x+1<=4 by omega) (show 4 -(x+1)<4 -x by omega) de (au)
       . obtain rfl:x=4:=by omega
         refine cO ?_;refine tI (v.x.kids.length) (λu=>((17,af (u:Int))::abX)) de ?_;intro x Y;refine bh ?_;refine adT ?_;refine bF ?_;refine b6 (λX=>?_) (λX=>?_)
         . have ag:x<v.x.kids.length:=by omega
           refine ch ?_;refine adT ?_;refine aG ?_;refine aA rfl (tG (va cl U) rfl rfl ag (λh t=>Bo ((t i v b).2.2.2 x ag))) ?_;refine iF (Bl (va cl U) rfl rfl rfl rfl (λh t=>(t i v b).2.2.2 x ag)) ?_;refine Kc ?_;refine fm (x+1) (show x+1<=v.x.kids.length by omega) (show v.x.kids.length -(x+1)<v.x.kids.length -x by omega) de (au)
         . obtain rfl:x=v.x.kids.length:=by omega
           refine L6 ?_;refine fm (i+1) (show i+1<=U.length by omega) (show U.length -(i+1)<U.length -i by omega) de (au)
     . obtain rfl:i=U.length:=by omega
       refine bH ?_;refine cj rfl (b4 rfl (ap9 (h:=h) a ae) bI) ?_;rintro _ D ⟨_,⟨a3,b0,m,bb,rfl,rfl⟩,rfl⟩;refine fj ?_;refine cU ?_;refine tI (m) (λu=>[(19,af (u:Int)),(18,.slice a3 m b0),(5,ptr g 0),(4,ptr h 0)]) de ?_;intro i al;refine cr ?_;refine b6 (λn=>?_) (λn=>?_)
       . have lw:i<m:=by omega
         refine bH ?_;refine aA rfl (tG (tF a3 (m*2)) rfl rfl lw (λh t=>Bo (t 0 ae))) ?_;refine iF (Oo (tF a3 (m*2)) rfl rfl rfl rfl rfl bN (λh t q bo=>t (i*2+q) (by have SW:q<2:=bo;omega))) ?_;refine Rc ?_;refine fm (i+1) (show i+1<=m by omega) (show m -(i+1)<m -i by omega) de (au)
       . obtain rfl:i=m:=by omega
         refine bH ?_;refine aA rfl (kX (cs:=h8 FR) rfl rfl) ?_;refine cj rfl (b4 rfl (LI (h:=h) (e:=FR) N dm a ae (LL [103,111] BA) aQ) bI) ?_;refine tm ?_;refine aA rfl (kX (cs:=h8 FR) rfl rfl) ?_;refine cj rfl (b4 rfl (LI (h:=g) (e:=FR) N dm a ae (LL [103,111] BA) aQ) bI) ?_;refine tm ?_;refine cj rfl (b4 rfl (LJ (h:=h) (k:=50) (m:=50) N dm gZ rfl ae ah) bI) ?_;refine gP ?_;refine th ?_;refine cj rfl (b4 rfl (LJ (h:=g) (k:=50) (m:=50) N dm gZ rfl ae ah) bI) ?_;refine gP ?_;refine fj ?_;refine aA rfl (fM (c:=true) fW (ahN rfl rfl)) ?_;refine bF ?_;refine cj rfl (b4 rfl (FL (h:=h) ST ae) bI) ?_;rintro _ D ⟨_,⟨a4,d9,rfl,rfl⟩,rfl⟩;refine pT ?_;refine cj rfl (b4 rfl (FL (h:=g) ST ae) bI) ?_;rintro _ D ⟨_,⟨a5,eT,rfl,rfl⟩,rfl⟩;refine fj ?_;refine aG ?_;refine aV (aBA y.trace a4 a5 d9 eT d) ?_;refine bh ?_;exact aW ⟨rfl,rfl⟩
def aqk(c:l1)(bS:Option Addr)(pc:Nat)(K:List b1)(ea:Option Addr)(cQ:Nat)(es:List dG)(r:Int)(ba:aq)(o:∀h,ba h->hr h bS pc K)(g2:∀h,ba h->ij h ea cQ es.length (es.flatMap h8))(m3:eF (es.length*48))(t6:∀e∈es,eF e.tag.length):ad aa 9 Jj [ba] Qo:=
 LK (p:=(∀k∈K,kh k)/\eF (K.length*80)) (λh a=>⟨λk hk=>L9 ((o h a).kinds k hk),(o h a).len⟩) fun⟨hk,pp⟩=>by
  cases a2:c.okB with
  |false=>exact ak3 c bS pc K ea cQ es r ba o hk pp λa n fq b _ _=>aBB a n fq ea cQ es r b c a2
  |
   true=>
   cases a8:pd K with
   |some f=>exact ak3 c bS pc K ea cQ es r ba o hk pp λa n fq b az d=>aBC a n fq ea cQ es r b c a2 d f (by rw[Yy az];exact a8)
   |
    none=>
    obtain⟨e,N⟩:=l1.aCH a2;rw[<-e];exact aBI _ bS pc K ea cQ es r ba o hk pp N g2 m3 t6 a8
end Go.Proofs.YtnnhpnccfnghdaaGreat.L.bE
