import Derived.Test.YtnnhpnccfnghdaaGreatK7
set_option linter.all false
set_option maxRecDepth 8000
set_option maxHeartbeats 8000000
namespace Go.Proofs.YtnnhpnccfnghdaaGreat.L
open Go.L Go.L.Ring Go.L.dr Go.L.dB
attribute[local irreducible] G cz GE cT GT bU c6 cY dc Exit.then Exit.inBlock
instance:k6 aa 238 "Step" 478:=p0
instance:k6 aa 238 "Over" 477:=p0
instance:k6 aa 238 "Outcome" 269:=p0
instance:k6 aa 238 "Value" 479:=p0
instance:k6 aa 241 "Step" 481:=p0
instance:k6 aa 241 "Over" 480:=p0
instance:k6 aa 241 "Outcome" 143:=p0
instance:k6 aa 241 "Value" 146:=p0
instance:k6 aa 232 "Step" 476:=p0
instance:k6 aa 232 "Over" 475:=p0
structure kV where
 c:Nat
 m:Nat
 be:Nat
 hf:Nat
 fB:Nat
 iH:Nat
 hJ:Nat->Nat
abbrev gI(X:kV):oH:=⟨175,[ptr X.c 0]⟩
section
variable(X:kV)(q n:Nat)(B:fQ)(p:Nat)(x y:Value)(w:Nat)
abbrev yJ:Value:=.iface 238 (ptr q 0)
abbrev yK:Value:=.iface 241 (ptr q 0)
abbrev HB:Value:=.iface 232 (ptr q 0)
abbrev W1:Value:=.slice (some ⟨X.fB,0,none⟩) B.bT X.iH
def AX:List Value:=(List.range B.bT).map λw=>ptr (X.hJ w) 0
def lz:List aq:=(List.range B.bT).map λw=>nD (X.hJ w) X.m (B.cm w) B.eC
abbrev gr:aq:=ab X.c 205 [ptr X.be 0,ptr X.hf 0,W1 X B]
abbrev cd:aq:=mV X.be X.m B.b B.bT
abbrev jo:aq:=kU X.hf X.m B.dZ B.na
abbrev eB:aq:=own (W1 X B) 210 1 B.bT (AX X B)
def W2{X:kV}{B:fQ}{w:Nat}(h:w<B.bT):(AX X B)[w*1]?=some (ptr (X.hJ w) 0):=by
 unfold AX;simp[h]
structure kl(B:fQ)(L:List Int):Prop where
 aG:1<=B.bT
 bH:B.bT<=8
 s1:1<=B.eC
 p1:B.eC<=64
 ck:1<=B.na
 ha:B.na<=16
 len:B.b+B.size<=L.length
 dE:L.length<=65536
def DI(h:dR)(X:kV)(n:Nat)(s:Src)(v:Value):Prop:=
 match s with
 |.pop w=>w<n/\∃bB c9:Nat,v=bi 129 [ptr bB 0,ptr c9 0]/\h bB=some (.cells [ptr X.c 0].toArray 96 (0,0))/\h c9=some (.cells [af w].toArray 3 (0,0))
 |.take=>∃bB:Nat,v=bi 131 [ptr bB 0]/\h bB=some (.cells [ptr X.c 0].toArray 96 (0,0))
 |.mg w=>w<n/\∃bB c9:Nat,v=bi 134 [ptr bB 0,ptr c9 0]/\h bB=some (.cells [ptr X.c 0].toArray 96 (0,0))/\h c9=some (.cells [af w].toArray 3 (0,0))
def kE(a:Option Addr)(c:Nat)(l:List Src)(M:List Value):aq:=λh=>Pg.ij h a c l.length M/\M.length=l.length/\∀(i:Nat) (s:Src) (v:Value),l[i]?=some s->M[i]?=some v->DI h X n s v
instance{X:kV}{n:Nat}{a:Option Addr}{c:Nat}{l:List Src}{M:List Value}:gN (.slice a l.length c) (kE X n a c l M) l.length M:=⟨λh=>h.1.1⟩
abbrev W3:=Nat×Nat×Nat×Nat×Option Addr×Nat×List Value×Src
def kF:tA->aq
 |.push w o v=>df (bx:=Nat×Nat×Nat×Nat) (λ_=>True) (λe=>match e with|(q,c1,bk,b0)=>[cP p (yJ q) (bi 268 [ptr c1 0,ptr bk 0,ptr b0 0]) 0 0 (gI X),ig q (X.hJ w) o,ab c1 238 [ptr q 0],ab bk 169 [ptr p 0],ab b0 36 [bu v]])
 |.enter o v=>df (bx:=Nat×Nat×Nat×Nat) (λ_=>True) (λe=>match e with|(q,c1,bk,b0)=>[cP p (yK q) (bi 321 [ptr c1 0,ptr bk 0,ptr b0 0]) 0 0 (gI X),jd q X.hf B.dZ o,ab c1 241 [ptr q 0],ab bk 169 [ptr p 0],ab b0 36 [bu v]])
 |.ring o=>df (bx:=Nat×Nat) (λ_=>True) (λe=>match e with|(q,c1)=>[cP p (HB q) (bi 324 [ptr c1 0]) 0 0 (gI X),jU q X.be o,ab c1 169 [ptr p 0]])
 |.ie w o l=>df (bx:=W3) (λ_=>True) (λe=>match e with|(q,c1,bk,b0,a,c,M,s)=>[cP p (yJ q) (bi 192 [ptr c1 0,ptr bk 0,ptr b0 0]) 0 0 (gI X),ig q (X.hJ w) o,ab c1 237 [yJ q],ab bk 169 [ptr p 0],ab b0 243 [.slice a (l.length+1) c],kE X B.bT a c (s::l) M])
 |.mT o l=>df (bx:=W3) (λ_=>True) (λe=>match e with|(q,c1,bk,b0,a,c,M,s)=>[cP p (yK q) (bi 192 [ptr c1 0,ptr bk 0,ptr b0 0]) 0 0 (gI X),jd q X.hf B.dZ o,ab c1 237 [yK q],ab bk 169 [ptr p 0],ab b0 243 [.slice a (l.length+1) c],kE X B.bT a c (s::l) M])
 |.rz w o=>df (bx:=Nat×Nat×Nat×Nat) (λ_=>True) (λe=>match e with|(q,c1,bk,b0)=>[cP p (HB q) (bi 141 [ptr c1 0,ptr bk 0,ptr b0 0]) 0 0 (gI X),jU q X.be o,ab c1 96 [ptr X.c 0],ab bk 169 [ptr p 0],ab b0 3 [af w]])
 |.lv w o=>df (bx:=Nat×Nat×Nat×Nat×Nat) (λ_=>True) (λe=>match e with|(q,ej,c1,bk,b0)=>[cP p (yK q) (bi 142 [ptr ej 0,ptr bk 0,ptr c1 0,ptr b0 0]) 0 0 (gI X),jd q X.hf B.dZ o,ab ej 241 [ptr q 0],ab c1 96 [ptr X.c 0],ab bk 169 [ptr p 0],ab b0 3 [af w]])
 |.up w v o=>df (bx:=Nat×Nat×Nat×Nat×hI) (λe=>e.2.2.2.2.value=v) (λe=>match e with|(q,z,ej,bk,g)=>[cP p (HB q) (bi 145 [ptr bk 0,ptr ej 0]) 0 0 (gI X),jU q X.be o,jd z X.hf B.dZ g,ab ej 241 [ptr z 0],ab bk 169 [ptr p 0]])
 |.pg o=>df (bx:=Nat×Nat×Nat) (λ_=>True) (λe=>match e with|(q,c1,bk)=>[cP p (HB q) (bi 126 [ptr c1 0,ptr bk 0]) 0 0 (gI X),jU q X.be o,ab c1 169 [ptr p 0],ab bk 232 [ptr q 0]])
def DJ(out val:Int):aq:=df (bx:=Value×Value) (λ_=>True) (λe=>[cP p e.1 e.2 out val (gI X)])
def gV(c:gD):aq:=if c.out=0 then kF X B p c.ph else DJ X p c.out c.val
def sn{X:kV}{B:fQ}{p:Nat}{ph:tA}{v:Int}{I D:List aq}(h:∀h,Sat I h->Sat (kF X B p ph::D) h):∀h,Sat I h->Sat (gV X B p ⟨ph,0,v⟩::D) h:=by
 unfold gV;rw[bg (show((⟨ph,0,v⟩:gD).out=0)from rfl)];exact h
def AY{X:kV}{B:fQ}{p:Nat}{ph:tA}{out v:Int}{I D:List aq}(aJ:out≠0)(x y:Value)(h:∀h,Sat I h->Sat (cP p x y out v (gI X)::D) h):∀h,Sat I h->Sat (gV X B p ⟨ph,out,v⟩::D) h:=by
 unfold gV;rw[a6 (show¬((⟨ph,out,v⟩:gD).out=0)from aJ)];exact cA (x,y) trivial h
def aoF(aS:0<B.bT):ad aa 270 [ptr p 0] (cP p x y 0 0 (gI X)::sp) (aF et (kF X B p (.ring (kk 3 0))::sp)):=by
 refine ax Tryz.func270 λF D=>?_;refine a7 ?_;refine wn λav=>?_;refine a7 ?_;refine h9 [10,13] [10] ((0,.bJ)::(1,.bJ)::(2,.bJ)::W4) [gr X B,cP p x y 0 0 (gI X),ab av 169 [ptr p 0]] mixed gS ?_;refine cO ?_;refine bt (aoo X.be X.m B.b B.bT aS) ?_;refine Nw ?_;intro q;refine aV (uS p 232 475 (gI X) (ptr q 0) _ _ _ rfl 0 0 (jU q X.be (kk 3 0)) (AT q X.be (kk 3 0))) ?_;refine bX ?_;exact aW ⟨rfl,rfl⟩ (cA (q,av) trivial (au))
def aoG(B:fQ)(p:Nat)(x y:Value)(c1:Nat):ad aa 324 [ptr c1 0] [cP p x y 0 0 (gI X),ab c1 169 [ptr p 0]] (aF et [cP p x y 1 0 (gI X)]):=by
 refine ax Tryz.func324 λF D=>?_;refine bF ?_;refine aV (me p (gI X) x y 0 0 1 0) ?_;exact p2
def W5(K:B.dZ<=65536)(v:Int):ad aa 266 [ptr p 0,bu v] (cP p x y 0 0 (gI X)::sp) (aF et (kF X B p (.enter (k4 false v) v)::sp)):=by
 refine ax Tryz.func266 λF D=>?_;refine n0 ?_;intro U Z;refine bX ?_;refine ir [8,9,10] [9] wy [gr X B,cP p x y 0 0 (gI X),ab U 169 [ptr p 0],ab Z 36 [bu v]] ?_;refine bH ?_;refine e8 ?_ ?_
 . refine bt (WQ X.hf X.m B.dZ B.na K v) ?_
   refine nv ?_;intro q;refine aG ?_;refine wn λaN=>?_;exact W6
 . refine wn λaN=>?_
   refine aG ?_;refine bt (WQ X.hf X.m B.dZ B.na K v) ?_;refine nv ?_;intro q;exact W6
def aoH(K:B.dZ<=65536)(aS:0<B.bT)(v:Int)(q d c1 bk b0:Nat)(o:ic):ad aa 268 yq (cP p x y 0 0 (gI X)::ig q d o::ab c1 238 [ptr q 0]::W7) W8:=by
 refine ax Tryz.func268 λF D=>?_;refine bF ?_;refine aV (Wx q d o) ?_;exact W9
def aoI(K:B.dZ<=65536)(aS:0<B.bT)(v:Int)(q d c1 bk b0:Nat)(o:hI):ad aa 321 yq (cP p x y 0 0 (gI X)::jd q d B.dZ o::ab c1 241 [ptr q 0]::W7) W8:=by
 refine ax Tryz.func321 λF D=>?_;refine bF ?_;refine aV (Nh q d B.dZ o) ?_;exact W9
def aoJ(O:w<B.bT)(v:Int):ad aa 218 [ptr X.c 0,af w,bu v] jW (λu H=>∃p,u=ptr p 0/\H=(kF X B p (.push w (mS 0 v) v)::jW)):=by
 refine ax Tryz.func218 λF D=>?_;refine a7 ?_;refine wn λaO=>?_;refine ch ?_;refine wn λb=>?_;refine wn λbW=>?_;refine ch ?_;refine cH ?_;refine fZ ?_;refine cH ?_;refine ch ?_;refine ir [8,9,10] [9] wy [gr X B,eB X B,ab aO 36 [bu v]] ?_;refine bz ?_;refine jJ rfl .none rfl (fA rfl rfl O) (au) ?_;refine jJ rfl .none rfl (gy rfl (W2 O)) (au) ?_;refine aG ?_;refine e8 ?_ ?_
 . refine bt (WM (X.hJ w) v) ?_
   refine nv ?_;intro q;refine aG ?_;refine wn λV=>?_;exact Xa
 . refine wn λV=>?_
   refine aG ?_;refine bt (WM (X.hJ w) v) ?_;refine nv ?_;intro q;exact Xa
def aoK(K:B.dZ<=65536)(v:Int):ad aa 218 [ptr X.c 0,af (-1),bu v] jW (λu H=>∃p,u=ptr p 0/\H=(kF X B p (.enter (k4 false v) v)::jW)):=by
 refine ax Tryz.func218 λF D=>?_;refine a7 ?_;refine wn λaO=>?_;refine ch ?_;refine wn λb=>?_;refine wn λbW=>?_;refine ch ?_;refine aA rfl (fM (c:=true) rC (yL rfl rfl)) ?_;refine nr ?_;refine aV (W5 X B b _ _ K v) ?_;refine cO ?_;exact uR
def Nx(O:w<B.bT):ad aa 123 [ptr X.c 0,af w] jW (λu H=>∃p,u=.tuple #[ptr p 0,.bool true]/\H=(cP p .nilIface .nilFunc 0 0 (gI X)::jW)):=by
 refine ax Tryz.func123 λF D=>?_;refine cU ?_;refine wn λc2=>?_;refine nG ?_;refine fZ ?_;refine cH ?_;refine gi ?_;refine bF ?_;exact uR
def aoL(O:w<B.bT):ad aa 78 [ptr X.c 0,af w] jW (λu H=>∃p,u=ptr p 0/\H=(kF X B p (.pg (kk 2 w))::jW)):=by
 refine ax Tryz.func78 λF D=>?_;refine cr ?_;refine bt (Nx X B w O) ?_;refine lS ?_;intro p;refine bX ?_;refine wn λaO=>?_;refine bH ?_;refine cH ?_;refine dx ?_;refine bt (aon X.be X.m B.b B.bT w O) ?_;refine nv ?_;intro q;refine wn λbW=>?_;refine bF ?_;refine ct [] [6,201] [ab aO 169 [ptr p 0],ab bW 232 [ptr q 0]] ?_;refine bF ?_;refine go_v rfl .none rfl (jw Tryz.underlying232 rfl rfl) ?_;refine aG ?_;refine aV (uS p 232 475 (gI X) (ptr q 0) _ _ _ rfl 0 0 (jU q X.be (kk 2 w)) (AT q X.be (kk 2 w))) ?_;refine cO ?_;exact aW ⟨_,rfl,rfl⟩ (cA (q,aO,bW) trivial (au))
def aoM(B:fQ)(p:Nat)(x y:Value)(c1 bk q:Nat)(o:hN):ad aa 126 [ptr c1 0,ptr bk 0] [cP p x y 0 0 (gI X),jU q X.be o,ab c1 169 [ptr p 0],ab bk 232 [ptr q 0]] (aF et [cP p x y o.out 0 (gI X)]):=by
 refine ax Tryz.func126 λF D=>?_;refine ct [4] [103,1,202] [ab c1 169 [ptr p 0],ab bk 232 [ptr q 0]] ?_;refine bF ?_;refine aV (aob q X.be o) ?_;refine aG ?_;refine aV (me p (gI X) x y 0 0 o.out 0) ?_;exact yk
def aoN(O:w<B.bT):ad aa 86 [ptr X.c 0,af w] jW (λu H=>∃p,u=ptr p 0/\H=(kF X B p (.rz w (kk 0 w))::jW)):=by
 refine ax Tryz.func86 λF D=>?_;refine n0 ?_;intro U Z;refine ch ?_;refine bt (Nx X B w O) ?_;refine lS ?_;intro p;refine bX ?_;refine wn λaO=>?_;refine bH ?_;refine cH ?_;refine bh ?_;refine h9 [8,11] [8] Xb [gr X B,ab U 96 [ptr X.c 0],ab Z 3 [af w],ab aO 169 [ptr p 0]] mixed gS ?_;refine cr ?_;refine bt (aol X.be X.m B.b B.bT w O) ?_;refine Nw ?_;intro q;refine aV (uS p 232 475 (gI X) (ptr q 0) _ _ _ rfl 0 0 (jU q X.be (kk 0 w)) (AT q X.be (kk 0 w))) ?_;refine cO ?_;exact aW ⟨_,rfl,rfl⟩ (cA (q,U,aO,Z) trivial (au))
def aoO(K:B.dZ<=65536)(c1 bk b0 w:Nat):ad aa 141 yq (cP p x y 0 0 (gI X)::Xc) (aF et (kF X B p (.lv w (k4 true 0))::sp)):=by
 refine ax Tryz.func141 λF D=>?_;refine bh ?_;refine bt (WR X.hf X.m B.dZ B.na K) ?_;refine nv ?_;intro q;refine wn λZ=>?_;refine bX ?_;refine ct [] [6,201] [ab bk 169 [ptr p 0],ab Z 241 [ptr q 0]] ?_;refine bF ?_;refine go_v rfl .none rfl (jw Tryz.underlying241 rfl rfl) ?_;refine aG ?_;refine Xd ?_;exact aW ⟨rfl,rfl⟩ (cA (q,Z,c1,bk,b0) trivial (au))
def aoP(O:w<B.bT)(z ej c1 bk b0:Nat)(g:hI):ad aa 142 [ptr ej 0,ptr bk 0,ptr c1 0,ptr b0 0] (cP p x y 0 0 (gI X)::jd z X.hf B.dZ g::ab ej 241 [ptr z 0]::Xc) (aF et (gV X B p (if g.out=1 then⟨.up w g.value (kk 1 w),0,0⟩else⟨.lv w g,4,0⟩)::sp)):=by
 refine ax Tryz.func142 λF D=>?_;refine bF ?_;refine aV (Nh z X.hf B.dZ g) ?_;refine bX ?_;refine b6 (λW=>?_) (λW=>?_)
 . refine bz ?_
   refine aV (me p (gI X) x y 0 0 4 0) ?_;refine bz ?_;exact aW dD (by rw[a6 W];exact AY (by decide) x y (au))
 . refine a7 ?_
   refine h9 [8,11] [8] Xb [gr X B,ab c1 96 [ptr X.c 0],ab b0 3 [af w],ab bk 169 [ptr p 0]] mixed gS ?_;refine cr ?_;refine bt (aom X.be X.m B.b B.bT w O) ?_;refine Nw ?_;intro q;refine aV (uS p 232 475 (gI X) (ptr q 0) _ _ _ rfl 0 0 (jU q X.be (kk 1 w)) (AT q X.be (kk 1 w))) ?_;refine bX ?_;exact aW dD (by rw[bg W];exact sn (cA (q,z,ej,bk,g) rfl (au)))
def aoQ(z ej bk:Nat)(g:hI):ad aa 145 [ptr bk 0,ptr ej 0] [cP p x y 0 0 (gI X),jd z X.hf B.dZ g,ab ej 241 [ptr z 0],ab bk 169 [ptr p 0]] (aF et [cP p x y 1 g.value (gI X)]):=by
 refine ax Tryz.func145 λF D=>?_;refine ct [4] [103,1,202] [ab bk 169 [ptr p 0],ab ej 241 [ptr z 0]] ?_;refine bF ?_;refine aV (Wz z X.hf B.dZ g) ?_;refine aG ?_;refine aV (me p (gI X) x y 0 0 1 g.value) ?_;exact yk
end
abbrev p3(bB c9:Nat):Value:=bi 129 [ptr bB 0,ptr c9 0]
abbrev uT(bB:Nat):Value:=bi 131 [ptr bB 0]
abbrev sq(bB c9:Nat):Value:=bi 134 [ptr bB 0,ptr c9 0]
def HC{P:Program}{f:FuncId}{args:List Value}{I:List aq}{post:Value->List aq->Prop}{Q:Prop}(g:∀D h,Sat (I++D) h->Q)(k:Q->ad P f args I post):ad P f args I post:=λF D w s=>k (g D _ s.eI) F D w s
section
variable{X:kV}{n:Nat}{a:Option Addr}{c:Nat}{l:List Src}{M:List Value}{w bB c9:Nat}
section
variable{D:List aq}
def aoR:∀h,Sat (kE X n a c (.pop w::l) M::D) h->∃bB c9 d,M=p3 bB c9::d/\w<n:=λh s=>by
 obtain⟨_,_,_,_,⟨_,aw,aj⟩,_⟩:=s;obtain⟨v,d,rfl⟩:∃v d,M=v::d:=HD;obtain⟨O,bB,c9,rfl,_⟩:=aj 0 _ _ rfl rfl;exact⟨bB,c9,d,rfl,O⟩
def aoS:∀h,Sat (kE X n a c (.take::l) M::D) h->∃bB d,M=uT bB::d:=λh s=>by
 obtain⟨_,_,_,_,⟨_,aw,aj⟩,_⟩:=s;obtain⟨v,d,rfl⟩:∃v d,M=v::d:=HD;obtain⟨bB,rfl,_⟩:=aj 0 _ _ rfl rfl;exact⟨bB,d,rfl⟩
def aoT:∀h,Sat (kE X n a c (.mg w::l) M::D) h->∃bB c9 d,M=sq bB c9::d/\w<n:=λh s=>by
 obtain⟨_,_,_,_,⟨_,aw,aj⟩,_⟩:=s;obtain⟨v,d,rfl⟩:∃v d,M=v::d:=HD;obtain⟨O,bB,c9,rfl,_⟩:=aj 0 _ _ rfl rfl;exact⟨bB,c9,d,rfl,O⟩
instance:h3 bB 0 (kE X n a c (.pop w::l) (p3 bB c9::M)) (ptr X.c 0):=⟨fun⟨_,_,aj⟩=>by
 obtain⟨_,_,_,e,aH,_⟩:=aj 0 _ _ rfl rfl;cases e;exact⟨_,_,_,aH,rfl⟩⟩
instance:h3 c9 0 (kE X n a c (.pop w::l) (p3 bB c9::M)) (af w):=⟨fun⟨_,_,aj⟩=>by
 obtain⟨_,_,_,e,_,bm⟩:=aj 0 _ _ rfl rfl;cases e;exact⟨_,_,_,bm,rfl⟩⟩
instance:h3 bB 0 (kE X n a c (.mg w::l) (sq bB c9::M)) (ptr X.c 0):=⟨fun⟨_,_,aj⟩=>by
 obtain⟨_,_,_,e,aH,_⟩:=aj 0 _ _ rfl rfl;cases e;exact⟨_,_,_,aH,rfl⟩⟩
instance:h3 c9 0 (kE X n a c (.mg w::l) (sq bB c9::M)) (af w):=⟨fun⟨_,_,aj⟩=>by
 obtain⟨_,_,_,e,_,bm⟩:=aj 0 _ _ rfl rfl;cases e;exact⟨_,_,_,bm,rfl⟩⟩
instance:h3 bB 0 (kE X n a c (.take::l) (uT bB::M)) (ptr X.c 0):=⟨fun⟨_,_,aj⟩=>by
 obtain⟨_,e,aH⟩:=aj 0 _ _ rfl rfl;cases e;exact⟨_,_,_,aH,rfl⟩⟩
def aoU{s:Src}{D:List aq}:∀h,Sat (kE X n a c (s::l) M::D) h->Sat (kE X n Xe (c -1) l M.tail::D) h:=λ_=>Sat.head λg co=>by
 obtain⟨h1,aw,aj⟩:=co;obtain⟨v,d,rfl⟩:∃v d,M=v::d:=HD;simp only[iY]at aw;exact⟨ij.fT (x:=v) (xs:=d) h1 (λe=>rn ae),by simpa using aw,λi s v h2 aH=>aj (i+1) s v (by simpa using h2) (by simpa using aH)⟩
end
end
def aoV{P:Program}{F:World}{n:Nat}{ej:Code}{ak:eA}{I r:List aq}{Q:Exit->Act->World->Prop}{X:kV}{m:Nat}{a:Option Addr}{c:Nat}{s:Src}{l:List Src}{M:List Value}(h:hG (kE X m a c (s::l) M) I r)(k:G P F n ej ak (kE X m Xe (c -1) l M.tail::r) Q):G P F n ej ak I Q:=lh (λ_ s=>aoU _ (h.to s)) k
def Ny{A B C:aq}{D:List aq}(f:∀h1 h2,li h1 h2->A h1->B h2->C (join h1 h2)):∀h,Sat (A::B::D) h->Sat (C::D) h:=λh ⟨h1,h2,d,e,aP,aH,bm,p,H,az,aD⟩=>by
 subst H;have t:=wG.1 d.symm;exact⟨join h1 aH,bm,wG.2 ⟨t.2.symm,p⟩,by rw[e,join_assoc],f h1 aH t.1.symm aP az,aD⟩
def Nz{h1 h2:dR}(d:li h1 h2){b:Nat}{o:Obj}(e:h2 b=some o):join h1 h2 b=some o:=by rw[join_comm d];exact join_some e
def DI.mono{h k:dR}{X:kV}{n:Nat}{s:Src}{v:Value}(f:∀b o,h b=some o->k b=some o)(o:DI h X n s v):DI k X n s v:=by
 cases s with
 |pop w=>obtain⟨O,bB,c9,h1,h2,aH⟩:=o;exact⟨O,bB,c9,h1,f _ _ h2,f _ _ aH⟩
 |take=>obtain⟨bB,h1,h2⟩:=o;exact⟨bB,h1,f _ _ h2⟩
 |mg w=>obtain⟨O,bB,c9,h1,h2,aH⟩:=o;exact⟨O,bB,c9,h1,f _ _ h2,f _ _ aH⟩
def DK(X:kV)(n:Nat)(l:List Src)(M:List Value):aq:=λh=>M.length=l.length/\∀(i:Nat) (s:Src) (v:Value),l[i]?=some s->M[i]?=some v->DI h X n s v
section
variable{X:kV}{n:Nat}{a:Option Addr}{c:Nat}{l:List Src}{M:List Value}{w bB c9:Nat}{D:List aq}
def aoW(O:w<n):∀h,Sat (ab bB 96 [ptr X.c 0]::ab c9 3 [af w]::D) h->Sat (DK X n [.pop w,.take] [p3 bB c9,uT bB]::D) h:=Ny λh1 h2 d gr cd=>⟨rfl,λi s v aj V=>by
 match i with
 |0=>cases aj;cases V;exact⟨O,bB,c9,rfl,join_some gr,Nz d cd⟩
 |1=>cases aj;cases V;exact⟨bB,rfl,join_some gr⟩
 |i+2=>cases aj⟩
def aoX{y fX:Nat}(ah:y<n)(bn:l[0]?=some (.pop w))(h1:M[0]?=some (p3 bB c9)):∀h,Sat (DK X n l M::ab fX 3 [af y]::D) h->Sat (DK X n (l++[.mg y]) (M++[sq bB fX])::D) h:=Ny λW cE d gr cd=>⟨by simp[gr.1],λi s v aj V=>by
 obtain⟨aw,k⟩:=gr;rcases sh i l.length with al|al
 . rw[kS al]at aj;rw[kS ae]at V
   exact(k i s v aj V).mono λb o e=>join_some e
 . obtain⟨_,a,c,e,jo,_⟩:=k 0 _ _ bn h1
   cases e;obtain rfl:i=l.length:=by
    have:=(dd.1 aj).1;simp at this;omega
   rw[pQ (eh _),yd]at aj;rw[<-aw,pQ (eh _),yd]at V;cases aj;cases V;exact⟨ah,bB,fX,rfl,join_some jo,Nz d cd⟩⟩
def aoY{e:TypeId}{k:Nat}(hk:k=l.length):∀h,Sat (own (.slice a k c) e 1 k M::DK X n l M::D) h->Sat (kE X n a c l M::D) h:=by
 subst hk;exact Ny λW cE d gr cd=>⟨(ij.own gr).imp λb o e=>join_some e,cd.1,λi s v aj V=>(cd.2 i s v aj V).mono λb o e=>Nz d e⟩
end
section
variable(X:kV)(B:fQ)(p:Nat)(x y:Value)(a:Option Addr)(c w:Nat)
def Xf:∀(k d:Nat) (l:List Nat) (y:Nat),y∈ob k d l->y∈l
 |0,_,_,_,h=>by cases h
 |
  k+1,d,l,y,h=>by
  rw[ob]at h;split at h
  . cases h
  . next x ag=>
     rcases kf.1 h with rfl|h
     . exact h0 ag
     . exact aoZ (Xf _ _ _ _ h)
def ao0{d n self y:Nat}(h:y∈order d n self):y<n:=by
 have:=Xf _ _ _ _ h;exact p4.1 (oO.1 this).1
def Xg:∀(k d:Nat) (l:List Nat),(ob k d l).length<=k
 |0,_,_=>eh _
 |
  k+1,d,l=>by
  rw[ob];split
  . simp
  . have:=Xg k (d/(k+1)) (l.eraseIdx (d%(k+1)));simp;omega
abbrev wT(l:List Nat):List Src:=.pop w::.take::l.map .mg
def ao1{w k y:Nat}{l:List Nat}(h:l[k]?=some y):wT w (l.take (k+1))=wT w (l.take k)++[.mg y]:=by
 obtain⟨hk,rfl⟩:=dd.1 h;rw[wT,wT,ns hk,o6];rfl
def ao2(O:w<B.bT)(bB c9:Nat)(ba:aq)[h3 bB 0 ba (ptr X.c 0)][h3 c9 0 ba (af w)]:ad aa 129 [ptr bB 0,ptr c9 0] [ba,gr X B,eB X B] (λu H=>∃q,u=yJ q/\H=[ig q (X.hJ w) (mS 4 0),ba,gr X B,eB X B]):=by
 refine ax Tryz.func129 λF D=>?_;refine Xh ?_;refine bt (aop (X.hJ w)) ?_;exact Xi
def ao3(O:w<B.bT)(bB c9:Nat)(ba:aq)[h3 bB 0 ba (ptr X.c 0)][h3 c9 0 ba (af w)]:ad aa 134 [ptr bB 0,ptr c9 0] [ba,gr X B,eB X B] (λu H=>∃q,u=yJ q/\H=[ig q (X.hJ w) (mS 10 0),ba,gr X B,eB X B]):=by
 refine ax Tryz.func134 λF D=>?_;refine Xh ?_;refine bt (aoq (X.hJ w)) ?_;exact Xi
def ao4(K:B.dZ<=65536)(bB:Nat)(ba:aq)[h3 bB 0 ba (ptr X.c 0)]:ad aa 131 [ptr bB 0] (ba::sp) (λu H=>∃q,u=yK q/\H=(jd q X.hf B.dZ (k4 true 0)::ba::sp)):=by
 refine ax Tryz.func131 λF D=>?_;refine cO ?_;refine bt (WR X.hf X.m B.dZ B.na K) ?_;refine nv ?_;intro q;refine aA rfl (jw Tryz.underlying241 rfl rfl) ?_;refine bz ?_;exact aW ⟨q,rfl,rfl⟩
def ao5:ad aa 136 [ptr p 0,.slice a (([]:List Src)).length c] (cP p x y 0 0 (gI X)::kE X B.bT a c (([]:List Src)) []::jW) (aF et (gV X B p (nz (([]:List Src)))::jW)):=by
 refine ax Tryz.func136 λF D=>?_;refine n0 ?_;intro U Z;refine ch ?_;refine aA rfl NA ?_;refine bH ?_;refine aV (me p (gI X) x y 0 0 4 0) ?_;refine bz ?_;exact aW ⟨rfl,rfl⟩ (AY bN x y (au))
def ao6(O:w<B.bT)(bB c9:Nat)(l:List Src)(d:List Value):ad aa 136 [ptr p 0,.slice a (.pop w::l).length c] (cP p x y 0 0 (gI X)::kE X B.bT a c (.pop w::l) (p3 bB c9::d)::jW) (aF et (gV X B p (nz (.pop w::l))::jW)):=by
 refine NB ?_;intro F D U Z;refine aA rfl (gy rfl (show(p3 bB c9::d)[0*1]?=some (p3 bB c9)from rfl)) ?_;refine bt (ao2 X B w O bB c9 (kE X B.bT a c (.pop w::l) (p3 bB c9::d))) ?_;refine NC ?_;intro q aN;refine aV (uS p 238 477 (gI X) (ptr q 0) _ _ _ rfl 0 0 (ig q (X.hJ w) (mS 4 0)) (Dv q (X.hJ w) (mS 4 0))) ?_;refine bX ?_;exact aW ⟨rfl,rfl⟩ (sn (cA (q,aN,U,Z,a,c,p3 bB c9::d,.pop w) trivial (au)))
def ao7(K:B.dZ<=65536)(bB:Nat)(l:List Src)(d:List Value):ad aa 136 [ptr p 0,.slice a (.take::l).length c] (cP p x y 0 0 (gI X)::kE X B.bT a c (.take::l) (uT bB::d)::jW) (aF et (gV X B p (nz (.take::l))::jW)):=by
 refine NB ?_;intro F D U Z;refine aA rfl (gy rfl (show(uT bB::d)[0*1]?=some (uT bB)from rfl)) ?_;refine bt (ao4 X B K bB (kE X B.bT a c (.take::l) (uT bB::d))) ?_;refine NC ?_;intro q aN;refine Xd ?_;exact aW ⟨rfl,rfl⟩ (sn (cA (q,aN,U,Z,a,c,uT bB::d,.take) trivial (au)))
def ao8(O:w<B.bT)(bB c9:Nat)(l:List Src)(d:List Value):ad aa 136 [ptr p 0,.slice a (.mg w::l).length c] (cP p x y 0 0 (gI X)::kE X B.bT a c (.mg w::l) (sq bB c9::d)::jW) (aF et (gV X B p (nz (.mg w::l))::jW)):=by
 refine NB ?_;intro F D U Z;refine aA rfl (gy rfl (show(sq bB c9::d)[0*1]?=some (sq bB c9)from rfl)) ?_;refine bt (ao3 X B w O bB c9 (kE X B.bT a c (.mg w::l) (sq bB c9::d))) ?_;refine NC ?_;intro q aN;refine aV (uS p 238 477 (gI X) (ptr q 0) _ _ _ rfl 0 0 (ig q (X.hJ w) (mS 10 0)) (Dv q (X.hJ w) (mS 10 0))) ?_;refine bX ?_;exact aW ⟨rfl,rfl⟩ (sn (cA (q,aN,U,Z,a,c,sq bB c9::d,.mg w) trivial (au)))
def Xj(K:B.dZ<=65536)(a:Option Addr)(c:Nat)(l:List Src)(M:List Value):ad aa 136 [ptr p 0,.slice a l.length c] (cP p x y 0 0 (gI X)::kE X B.bT a c l M::jW) (aF et (gV X B p (nz l)::jW)):=by
 cases l with
 |nil=>refine HC (λD h s=>show M=[]from by obtain⟨_,_,_,_,⟨_,aw,_⟩,_⟩:=Sat.drop s;exact rn aw) ?_;rintro rfl;exact ao5 X B p x y a c
 |
  cons s l=>
  cases s with
  |pop w=>refine HC (λD h s=>aoR h uN) ?_;rintro⟨bB,c9,d,rfl,O⟩;exact ao6 X B p x y a c w O bB c9 l d
  |take=>refine HC (λD h s=>aoS h uN) ?_;rintro⟨bB,d,rfl⟩;exact ao7 X B p x y a c K bB l d
  |mg w=>refine HC (λD h s=>aoT h uN) ?_;rintro⟨bB,c9,d,rfl,O⟩;exact ao8 X B p x y a c w O bB c9 l d
def ao9(K:B.dZ<=65536)(a:Option Addr)(c:Nat)(l:List Src)(M:List Value)(dY:Src)(w q c1 bk b0:Nat)(o:ic):ad aa 192 yq (cP p x y 0 0 (gI X)::ig q (X.hJ w) o::ab c1 237 [yJ q]::Xk) (aF et (gV X B p (if o.out=1 then⟨.ie w o l,1,o.value⟩else nz l)::jW)):=by
 refine ax Tryz.func192 λF D=>?_;refine bF ?_;refine cj rfl (wU rfl rfl (Wx q (X.hJ w) o) bI) ?_;refine gP ?_;refine pT ?_;refine b6 (λW=>?_) (λW=>?_)
 . refine aG ?_
   refine ct [4] [103,1,202] [ab c1 237 [yJ q],ab bk 169 [ptr p 0],ig q (X.hJ w) o] ?_;refine bF ?_;refine go_c rfl .none rfl (wU rfl rfl (aoc q (X.hJ w) o) bI) ?_;exact Xl
 . exact Xm
def apa(K:B.dZ<=65536)(a:Option Addr)(c:Nat)(l:List Src)(M:List Value)(dY:Src)(w q c1 bk b0:Nat)(o:hI):ad aa 192 yq (cP p x y 0 0 (gI X)::jd q X.hf B.dZ o::ab c1 237 [yK q]::Xk) (aF et (gV X B p (if o.out=1 then⟨.mT o l,1,o.value⟩else nz l)::jW)):=by
 refine ax Tryz.func192 λF D=>?_;refine bF ?_;refine cj rfl (wU rfl rfl (Nh q X.hf B.dZ o) bI) ?_;refine gP ?_;refine pT ?_;refine b6 (λW=>?_) (λW=>?_)
 . refine aG ?_
   refine ct [4] [103,1,202] [ab c1 237 [yK q],ab bk 169 [ptr p 0],jd q X.hf B.dZ o] ?_;refine bF ?_;refine go_c rfl .none rfl (wU rfl rfl (Wz q X.hf B.dZ o) bI) ?_;exact Xl
 . exact Xm
def apb(K:B.dZ<=65536)(f:B.bT<=8)(w:Nat)(O:w<B.bT)(d:Nat)(aQ:d<18446744073709551616):ad aa 82 [ptr X.c 0,af w,bu d] jW (λu H=>∃p,u=ptr p 0/\H=(gV X B p (yB B w d)::jW)):=by
 refine ax Tryz.func82 λF D=>?_;refine a7 ?_;refine wn λZ=>?_;refine wn λaN=>?_;refine ch ?_;refine bt (Nx X B w O) ?_;refine lS ?_;intro p;refine cO ?_;refine cH ?_;refine cr ?_;refine wn λadc=>?_;refine bz ?_;refine h9 [7] [7] [(0,.loc),(1,.loc),(2,.loc),(3,.loc),(4,.loc),(5,.loc),(6,.loc),(9,.bJ),(7,.c0),(8,.loc)] [gr X B,ab Z 96 [ptr X.c 0],ab aN 3 [af w]] mixed gS ?_;refine bH ?_;refine bt (apc d B.bT w aQ f O) ?_;rintro _ _ ⟨a,c,rfl,rfl⟩;refine er ?_;refine bz ?_;refine gO (bx:=Nat×List Value×Option Addr×Nat) (λe=>e.1<=(order d B.bT w).length/\e.2.1[0]?=some (p3 Z aN)) (λe=>[(33,af e.1),(32,af (order d B.bT w).length),(31,.slice a (order d B.bT w).length c),(9,.slice e.2.2.1 (e.1+2) e.2.2.2),(3,ptr Z 0),(7,ptr p 0)]) (λe=>own (.slice e.2.2.1 (e.1+2) e.2.2.2) 240 1 (e.1+2) e.2.1::DK X B.bT (wT w ((order d B.bT w).take e.1)) e.2.1::jL a c (order d B.bT w)::cP p .nilIface .nilFunc 0 0 (gI X)::gr X B::cd X B::jo X B::eB X B::D) (λe=>(order d B.bT w).length -e.1) (0,[p3 Z aN,uT Z],some ⟨adc,0,none⟩,2) (⟨fc _,rfl⟩) de (λh s=>apd rC wu h (Sat.tail (aoW O) ((au) h s))) ?_;rintro⟨k,M,cl,bk⟩ ⟨hk,bn⟩;replace hk:k<=(order d B.bT w).length:=hk;replace bn:M[0]?=some (p3 Z aN):=bn;have j:(order d B.bT w).length<=7:=mW (Xg _ _ _) ae;dsimp only;refine bh ?_;refine b6 (λW=>?_) (λW=>?_)
 . obtain⟨y,ah⟩:∃y,(order d B.bT w)[k]?=some y:=⟨_,cq ae⟩
   refine bh ?_;refine aA rfl (fA rfl rfl (show k<(order d B.bT w).length by omega)) ?_;refine aA rfl (gy rfl (Xn ah)) ?_;refine wn λb=>?_;refine bh ?_;refine wn λm=>?_;refine gp λi l=>?_;refine bH ?_;refine fm (k+1,M++[sq Z b],i,l) ⟨show k+1<=(order d B.bT w).length by omega,by show(M++[sq Z b])[0]?=some (p3 Z aN);rw[kS (dd.1 bn).1];exact bn⟩ (show(order d B.bT w).length -(k+1)<(order d B.bT w).length -k by omega) de (λh s=>Sat.tail (λg t=>by dsimp only;rw[ao1 ah];exact aoX (w:=w) (ao0 (h0 ah)) rfl bn g t) ((au) h s))
 . refine bh ?_
   obtain rfl:k=(order d B.bT w).length:=ae;have gY:(wT w (order d B.bT w)).length=(order d B.bT w).length+2:=by simp[wT]
   rw[l9,<-gY];refine lh (aoY rfl) ?_;refine bX ?_;refine aV (Xj X B p _ _ K cl bk (wT w (order d B.bT w)) M) ?_;refine cU ?_;exact aW AC
end
end Go.Proofs.YtnnhpnccfnghdaaGreat.L
namespace Go.L.dB
open Go.L Go.L.Ring Go.L.dr
variable{b n:Nat}{L:List Int}
section
variable(B:fQ){o:hI}
def Wq{o:ic}(h:iv L)(aJ:qx o):qx (jc b n L o):=by
 obtain⟨ck,cl,a3,a4⟩:=aJ;unfold jc;split
 . exact⟨ck,cl,a3,a4⟩
 . obtain⟨pc,out,v,t,l,fP⟩:=o
   unfold kD;split<;>(constructor<;>first|assumption|exact h.get _|(simp only;omega)|(simp only;split<;>omega)|exact⟨by simp,by simp⟩|(constructor<;>simp))
def Wr{o:ic}(h:iv L)(aJ:qx o):iv (mf b n L o):=by
 unfold mf;split
 . exact h
 . unfold kv
   split<;>(try split)<;>first|exact h|exact h.set _ _ aJ.v|exact h.set _ _ (AR _)|exact h.set _ _ aJ.b
def an1{o:ic}:(mf b n L o).length=L.length:=by
 unfold mf;split
 . rfl
 . unfold kv;split<;>(try split)<;>first|rfl|exact gq
def M8(h:iv L)(aJ:oa o):oa (ix b n L o):=by
 obtain⟨ck,cl,a3⟩:=aJ;unfold ix;split
 . exact⟨ck,cl,a3⟩
 . obtain⟨k,eb,t,v,out⟩:=o
   unfold jT;split<;>(try split)<;>(try split)<;>(try split)<;>(constructor<;>first|assumption|exact h.get _|(simp only;omega)|(simp only;split<;>omega)|(simp only;split<;>first|exact h.get _|assumption))
def M9(h:iv L)(aJ:oa o):iv (n9 b n L o):=by
 unfold n9;split
 . exact h
 . unfold lu
   split<;>(try split)<;>first|exact h|exact h.set _ _ aJ.v|exact h.set _ _ (AR _)
def an2:(n9 b n L o).length=L.length:=by
 unfold n9;split
 . rfl
 . unfold lu;split<;>(try split)<;>first|rfl|exact gq
def Hk{o:hN}(h:iv L):iv (qy b n L o):=by
 unfold qy;split
 . exact h
 . unfold wI;split<;>(try split)<;>first|exact h|exact h.set _ _ Hl
def an3{o:hN}:(qy b n L o).length=L.length:=by
 unfold qy;split
 . rfl
 . unfold wI;split<;>(try split)<;>first|rfl|exact gq
def AS:Src->Prop
 |.pop w=>w<B.bT
 |.take=>True
 |.mg w=>w<B.bT
def Ws:tA->Prop
 |.push w o v=>w<B.bT/\qx o/\o.out=0/\jn v
 |.enter o v=>oa o/\o.out=0/\jn v
 |.ring o=>o.k<=4/\o.w<B.bT/\o.out=0
 |.ie w o l=>w<B.bT/\qx o/\o.out=0/\∀s∈l,AS B s
 |.mT o l=>oa o/\o.out=0/\∀s∈l,AS B s
 |.rz w o=>w<B.bT/\o.k=0/\o.w<B.bT/\o.out=0
 |.lv w o=>w<B.bT/\oa o/\o.out=0
 |.up w _ o=>w<B.bT/\o.k=1/\o.w<B.bT/\o.out=0
 |.pg o=>o.k=2/\o.w<B.bT/\o.out=0
def wN(c:gD):Prop:=c.out=0->Ws B c.ph/\c.val=0
end
def Hm{b n:Nat}{L:List Int}{o:hN}(hk:o.k<=2)(aJ:o.out=0):(j6 b n L o).over=true:=by
 have e:j6 b n L o=wJ b n L o:=by unfold j6 hN.over;rw[aJ];rfl
 rw[e];unfold wJ hN.over;obtain⟨k,M⟩:∃k,k=o.k:=⟨_,rfl⟩;rw[<-M]at hk⊢
 match k,hk with
 |0,_=>rfl
 |1,_=>rfl
 |2,_=>simp only;split<;>rfl
def yE:jn 0:=Hl
def Na{k:Nat}(hk:k<=13){v:Int}(V:jn v):qx (mS k v):=⟨hk,V,yE,yE⟩
def Nb{eb:Bool}{v:Int}(V:jn v):oa (k4 eb v):=⟨fc _,yE,V⟩
def Nc{B:fQ}{l:List Src}(h:∀s∈l,AS B s):wN B (nz l):=by
 cases l with
 |nil=>intro e;exact absurd (show(4:Int)=0 from e) bN
 |
  cons s l=>
  have h1:=h s (.head _);have h2:∀s∈l,AS B s:=λx ag=>h x (.tail _ ag);cases s with
  |pop w=>exact λ_=>⟨⟨h1,Na bN yE,rfl,h2⟩,rfl⟩
  |take=>exact λ_=>⟨⟨Nb yE,rfl,h2⟩,rfl⟩
  |mg w=>exact λ_=>⟨⟨h1,Na bN yE,rfl,h2⟩,rfl⟩
def an4{b n:Nat}{L:List Int}{o:hN}(hk:o.k<=4)(O:o.w<n)(T:(j6 b n L o).out=0):(j6 b n L o).k<=4/\(j6 b n L o).w<n:=by
 revert T;unfold j6;split
 . exact λ_=>⟨hk,O⟩
 . obtain⟨k,w,out⟩:=o
   replace hk:k<=4:=hk;replace O:w<n:=O;unfold wJ AQ;intro T
   match k,hk with
   |0,_=>exact⟨show(0:Nat)<=4 by decide,O⟩
   |1,_=>exact⟨show(1:Nat)<=4 by decide,O⟩
   |2,_=>exact⟨show(2:Nat)<=4 by decide,O⟩
   |
    3,_=>
    simp only at T⊢;split at T
    . rename_i ag;rw[bg ag];exact⟨eh _,O⟩
    . rename_i ag;rw[a6 ag];refine⟨show(3:Nat)<=4 by decide,?_⟩
      by_cases e:w+1=n
      . simp[e]at T
      . show w+1<n;omega
   |
    4,_=>
    simp only at T⊢;split at T
    . exact absurd (show(7:Int)=0 from T) bN
    . rename_i ag;rw[a6 ag];refine⟨show(3:Nat)<=4 by decide,?_⟩
      by_cases e:w+1=n
      . simp[e]at T
      . show w+1<n;omega
def an5{B:fQ}{L:List Int}{c:gD}(aS:0<B.bT)(K:iv L)(a2:wN B c):wN B (lx B L c):=by
 obtain⟨ph,out,val⟩:=c;by_cases aJ:out=0
 . subst aJ
   obtain⟨d2,V⟩:=a2 rfl;have aB:lx B L uO=(hX B L uO).2:=by unfold lx;rw[show(⟨ph,0,val⟩:gD).over=false from rfl];rfl
   rw[aB];have aD:Ws B (.ring (kk 3 0)):=⟨by decide,aS,rfl⟩;refine Wt ?_;intro mU u;have a:∀{b n:Nat} {o:hN},¬(j6 b n L o).over=true->(j6 b n L o).out=0:=λh=>by simpa[hN.over]using h
   cases ph with
   |
    push w o v=>
    obtain⟨O,al,T,d7⟩:=d2;simp only[hX];split
    . split
      . exact λ_=>Nd
      . exact λ_=>⟨aD,rfl⟩
    . rename_i ag;exact λ_=>⟨⟨O,Wq K al,mU ag,d7⟩,rfl⟩
   |
    enter o v=>
    obtain⟨al,T,d7⟩:=d2;simp only[hX];split
    . split
      . exact λ_=>Nd
      . exact λ_=>⟨aD,rfl⟩
    . rename_i ag;exact λ_=>⟨⟨M8 K al,u ag,d7⟩,rfl⟩
   |
    ring o=>
    obtain⟨hk,O,T⟩:=d2;simp only[hX];split
    . intro e;exact absurd (show(1:Int)=0 from e) bN
    . rename_i ag
      have:=an4 (b:=B.b) (L:=L) hk O (a ag);exact λ_=>⟨⟨this.1,this.2,a ag⟩,rfl⟩
   |
    ie w o l=>
    obtain⟨O,al,T,aw⟩:=d2;simp only[hX];split
    . split
      . intro e;exact absurd (show(1:Int)=0 from e) bN
      . exact Nc aw
    . rename_i ag;exact λ_=>⟨⟨O,Wq K al,mU ag,aw⟩,rfl⟩
   |
    mT o l=>
    obtain⟨al,T,aw⟩:=d2;simp only[hX];split
    . split
      . intro e;exact absurd (show(1:Int)=0 from e) bN
      . exact Nc aw
    . rename_i ag;exact λ_=>⟨⟨M8 K al,u ag,aw⟩,rfl⟩
   |rz w o=>exact λ_=>⟨⟨d2.1,Nb yE,rfl⟩,rfl⟩
   |
    lv w o=>
    obtain⟨O,al,T⟩:=d2;simp only[hX];split
    . split
      . exact λ_=>⟨⟨O,rfl,O,rfl⟩,rfl⟩
      . intro e;exact absurd (show(4:Int)=0 from e) bN
    . rename_i ag;exact λ_=>⟨⟨O,M8 K al,u ag⟩,rfl⟩
   |up w v o=>intro e;exact absurd (show(1:Int)=0 from e) bN
   |
    pg o=>
    have:=Hm (b:=B.b) (n:=B.bT) (L:=L) (o:=o) (by have:=d2.1;omega) d2.2.2;intro e;rw[show(hX B L ⟨.pg o,0,val⟩).2.out=(j6 B.b B.bT L o).out from rfl]at e;simp[hN.over,e]at this
 . have aB:lx B L pj=pj:=by unfold lx;rw[bg (by simp[gD.over,aJ])]
   rw[aB];exact a2
def an6{B:fQ}{L:List Int}{c:gD}(K:iv L)(a2:wN B c):iv (nA B L c):=by
 unfold nA;split
 . exact K
 . rename_i ag
   obtain⟨ph,out,val⟩:=c;obtain⟨d2,_⟩:=a2 (by simpa[gD.over]using ag);cases ph with
   |push w o v=>exact Wr K d2.2.1
   |enter o v=>exact M9 K d2.1
   |ring o=>exact Hk K
   |ie w o l=>exact Wr K d2.2.1
   |mT o l=>exact M9 K d2.1
   |rz w o=>exact Hk K
   |lv w o=>exact M9 K d2.2.1
   |up w v o=>exact Hk K
   |pg o=>exact Hk K
def an7{B:fQ}{L:List Int}{c:gD}:(nA B L c).length=L.length:=by
 unfold nA;split
 . rfl
 . obtain⟨ph,out,val⟩:=c
   cases ph<;>first|exact an1|exact an2|exact an3
end Go.L.dB
namespace Go.Proofs.YtnnhpnccfnghdaaGreat.L
open Go.L Go.L.Ring Go.L.dr Go.L.dB
attribute[local irreducible] G cz GE cT GT bU c6 cY dc Exit.then Exit.inBlock
section
variable{B:fQ}{L:List Int}{w:Nat}
def _root_.Go.L.dB.fQ.alt(O:w<B.bT):w*(2+B.eC)+(2+B.eC)<=B.bT*(2+B.eC):=by
 have:=p5 (2+B.eC) (show w+1<=B.bT from O);exact HE
def kl.be(h:kl B L):Hq B.b B.bT L:=⟨h.bH,by have:=h.len;unfold fQ.size at this;omega,h.dE⟩
def kl.hf(h:kl B L):sl B.dZ B.na L:=⟨h.ck,by have:=h.ha;omega,by have:=h.len;unfold fQ.size at this;unfold fQ.dZ;omega,h.dE⟩
def kl.hJ(h:kl B L)(O:w<B.bT):yF (B.cm w) B.eC L:=⟨h.s1,h.p1,by have:=h.len;have:=fQ.alt O;unfold fQ.size at*;unfold fQ.cm;omega,h.dE⟩
end
section
variable(X:kV)(B:fQ)(p:Nat)(L:List Int)(c:gD)(t:Int)
def kl.dZ{B:fQ}{L:List Int}(h:kl B L):B.dZ<=65536:=by have:=h.len;have:=h.dE;unfold fQ.size at*;unfold fQ.dZ;omega
def ape(l:List Src):(nz l).val=0:=by
 cases l with
 |nil=>rfl
 |cons s l=>cases s<;>rfl
theorem ND(hp:c.out=0->c.val=0)(f:FuncId)(R:Value)(h:∀(x y:Value),ad aa f [ptr p 0] [cP p x y c.out c.val (gI X)] (aF R [cP p x y c.out c.val (gI X)])):
 ad aa f [ptr p 0] wV (aF R wV):=by
 by_cases aJ:c.out=0
 . have V:=hp aJ
   rw[aJ,V]at h;have e:gV X B p c=kF X B p c.ph:=by unfold gV;rw[bg aJ]
   rw[e];cases d2:c.ph<;>exact kC (λx ag=>ki (h _ _) nx NE)
 . have e:gV X B p c=DJ X p c.out c.val:=by unfold gV;rw[a6 aJ]
   rw[e];exact kC (λx ag=>ki (h _ _) nx NE)
def uU(hp:c.out=0->c.val=0):ad aa 254 [ptr p 0] wV (aF (.bool c.over) wV):=ND X B p c hp _ _ (λx y=>tv p _ x y c.out c.val)
def Xo(hp:c.out=0->c.val=0):ad aa 81 [ptr p 0] wV (aF (af c.out) wV):=ND X B p c hp _ _ (λx y=>GZ p _ x y c.out c.val)
def apf(hp:c.out=0->c.val=0):ad aa 85 [ptr p 0] wV (aF (bu c.val) wV):=ND X B p c hp _ _ (λx y=>G0 p _ x y c.out c.val)
def apg(cc:kl B L)(w:Nat)(O:w<B.bT)(v:Int)(o:ic)(al:qx o)(aJ:o.out=0)(U:(jc (B.cm w) B.eC L o).over=false):ad aa 474 [ptr p 0] Xp (aF gQ (gV X B p ⟨.push w DL v,0,0⟩::AZ)):=by
 refine eW .head (λe Y=>?_);obtain⟨q,c1,bk,b0⟩:=e;refine gb ?_;have b:o.over=false:=HF;have i:=Ht q (X.hJ w) X.m (B.cm w) B.eC L t o (cc.hJ O) al;exact Xq
def aph(cc:kl B L)(w:Nat)(O:w<B.bT)(v:Int)(o:ic)(al:qx o)(aJ:o.out=0)(U:(jc (B.cm w) B.eC L o).over=true):ad aa 474 [ptr p 0] Xp (aF gQ (gV X B p Xr::AZ)):=by
 refine eW .head (λe Y=>?_);obtain⟨q,c1,bk,b0⟩:=e;refine gb ?_;have b:o.over=false:=HF;have i:=Ht q (X.hJ w) X.m (B.cm w) B.eC L t o (cc.hJ O) al;rw[U,b]at i;simp only[eH,eo]at i;refine pX AZ
  ((uU X B p Xr ?_).mono λv H h=>?_)
  i (aoH X B p _ _ cc.dZ (show 0<B.bT from cc.aG) v q (X.hJ w) c1 bk b0 DL) (g:=λD=>by simp only[cn,ci];exact(sn (au))) (q:=λD=>by simp only[cn,ci];exact(au))
 . exact uV
 . exact uW
def api(cc:kl B L)(v:Int)(o:hI)(al:oa o)(aJ:o.out=0)(U:(ix B.dZ B.na L o).over=false):ad aa 474 [ptr p 0] Xs (aF gQ (gV X B p ⟨.enter wW v,0,0⟩::uX)):=by
 refine eW .head (λe Y=>?_);obtain⟨q,c1,bk,b0⟩:=e;refine gb ?_;have b:o.over=false:=A0;have i:=AW q X.hf X.m B.dZ B.na L t o cc.hf al;exact Xq
def apj(cc:kl B L)(v:Int)(o:hI)(al:oa o)(aJ:o.out=0)(U:(ix B.dZ B.na L o).over=true):ad aa 474 [ptr p 0] Xs (aF gQ (gV X B p Xt::uX)):=by
 refine eW .head (λe Y=>?_);obtain⟨q,c1,bk,b0⟩:=e;refine gb ?_;have b:o.over=false:=A0;have i:=AW q X.hf X.m B.dZ B.na L t o cc.hf al;rw[U,b]at i;simp only[eH,eo]at i;refine pX uX
  ((uU X B p Xt ?_).mono λv H h=>?_)
  i (aoI X B p _ _ cc.dZ (show 0<B.bT from cc.aG) v q X.hf c1 bk b0 wW) (g:=λD=>by simp only[cn,ci];exact(sn (au))) (q:=λD=>by simp only[cn,ci];exact(au))
 . exact uV
 . exact uW
def apk(cc:kl B L)(o:hN)(hk:o.k<=4)(r:o.w<B.bT)(aJ:o.out=0)(U:(j6 B.b B.bT L o).over=false):ad aa 474 [ptr p 0] Xu (aF gQ (gV X B p ⟨.ring sr,0,0⟩::uY)):=by
 refine eW .head (λe Y=>?_);obtain⟨q,c1⟩:=e;refine gb ?_;have b:o.over=false:=DM;have i:=DC q X.be X.m B.b B.bT L t o cc.be hk r;rw[U,b]at i;simp only[eH,eo]at i;refine qu i (λD=>?_);refine gb ?_;exact sn (cA (q,c1) Y (au))
def apl(cc:kl B L)(o:hN)(hk:o.k<=4)(r:o.w<B.bT)(aJ:o.out=0)(U:(j6 B.b B.bT L o).over=true):ad aa 474 [ptr p 0] Xu (aF iu (gV X B p ⟨.ring sr,1,0⟩::uY)):=by
 refine eW .head (λe Y=>?_);obtain⟨q,c1⟩:=e;refine gb ?_;have b:o.over=false:=DM;have i:=DC q X.be X.m B.b B.bT L t o cc.be hk r;rw[U,b]at i;simp only[eH,eo]at i;refine pX uY
  ((uU X B p ⟨.ring sr,1,0⟩ ?_).mono λv H h=>?_)
  i ((fun(_:hN)=>aoG X B p _ _ c1) sr) (g:=λD=>by simp only[cn,ci];exact(AY bN _ _ (au))) (q:=λD=>by simp only[cn,ci];exact(au))
 . exact uV
 . exact uW
def apm(cc:kl B L)(w:Nat)(O:w<B.bT)(l:List Src)(o:ic)(al:qx o)(aJ:o.out=0)(U:(jc (B.cm w) B.eC L o).over=false):ad aa 474 [ptr p 0] Xv (aF gQ (gV X B p ⟨.ie w DL l,0,0⟩::AZ)):=by
 refine eW .head (λe Y=>?_);obtain⟨q,c1,bk,b0,a,c,M,s⟩:=e;refine gb ?_;have b:o.over=false:=HF;have i:=Ht q (X.hJ w) X.m (B.cm w) B.eC L t o (cc.hJ O) al;exact Xw
def apn(cc:kl B L)(w:Nat)(O:w<B.bT)(l:List Src)(o:ic)(al:qx o)(aJ:o.out=0)(U:(jc (B.cm w) B.eC L o).over=true):ad aa 474 [ptr p 0] Xv (aF (.bool (gD.over NF)) (gV X B p NF::AZ)):=by
 refine eW .head (λe Y=>?_);obtain⟨q,c1,bk,b0,a,c,M,s⟩:=e;refine gb ?_;have b:o.over=false:=HF;have i:=Ht q (X.hJ w) X.m (B.cm w) B.eC L t o (cc.hJ O) al;rw[U,b]at i;simp only[eH,eo]at i;refine pX AZ
  ((uU X B p NF ?_).mono λv H h=>?_)
  i (ao9 X B p _ _ cc.dZ a c l M s w q c1 bk b0 DL) (g:=λD=>by simp only[cn,ci];exact(au)) (q:=λD=>by simp only[cn,ci];exact(au))
 . exact uV
 . exact uW
def apo(cc:kl B L)(l:List Src)(o:hI)(al:oa o)(aJ:o.out=0)(U:(ix B.dZ B.na L o).over=false):ad aa 474 [ptr p 0] Xx (aF gQ (gV X B p ⟨.mT wW l,0,0⟩::uX)):=by
 refine eW .head (λe Y=>?_);obtain⟨q,c1,bk,b0,a,c,M,s⟩:=e;refine gb ?_;have b:o.over=false:=A0;have i:=AW q X.hf X.m B.dZ B.na L t o cc.hf al;exact Xw
def app(cc:kl B L)(l:List Src)(o:hI)(al:oa o)(aJ:o.out=0)(U:(ix B.dZ B.na L o).over=true):ad aa 474 [ptr p 0] Xx (aF (.bool (gD.over NG)) (gV X B p NG::uX)):=by
 refine eW .head (λe Y=>?_);obtain⟨q,c1,bk,b0,a,c,M,s⟩:=e;refine gb ?_;have b:o.over=false:=A0;have i:=AW q X.hf X.m B.dZ B.na L t o cc.hf al;rw[U,b]at i;simp only[eH,eo]at i;refine pX uX
  ((uU X B p NG ?_).mono λv H h=>?_)
  i (apa X B p _ _ cc.dZ a c l M s 0 q c1 bk b0 wW) (g:=λD=>by simp only[cn,ci];exact(au)) (q:=λD=>by simp only[cn,ci];exact(au))
 . exact uV
 . exact uW
def apq(cc:kl B L)(w:Nat)(O:w<B.bT)(o:hN)(hk:o.k<=4)(r:o.w<B.bT)(aJ:o.out=0)(U:(j6 B.b B.bT L o).over=true):ad aa 474 [ptr p 0] (kF X B p (.rz w o)::wX) (aF gQ (gV X B p ⟨.lv w (k4 true 0),0,0⟩::uY)):=by
 refine eW .head (λe Y=>?_);obtain⟨q,c1,bk,b0⟩:=e;refine gb ?_;have b:o.over=false:=DM;have i:=DC q X.be X.m B.b B.bT L t o cc.be hk r;rw[U,b]at i;simp only[eH,eo]at i;refine pX uY
  ((uU X B p ⟨.lv w (k4 true 0),0,0⟩ ?_).mono λv H h=>?_)
  i ((fun(_:hN)=>aoO X B p _ _ cc.dZ c1 bk b0 w) sr) (g:=λD=>by simp only[cn,ci];exact(sn (au))) (q:=λD=>by simp only[cn,ci];exact(au))
 . exact uV
 . exact uW
def apr(cc:kl B L)(w:Nat)(O:w<B.bT)(o:hI)(al:oa o)(aJ:o.out=0)(U:(ix B.dZ B.na L o).over=false):ad aa 474 [ptr p 0] Xy (aF gQ (gV X B p ⟨.lv w wW,0,0⟩::uX)):=by
 refine eW .head (λe Y=>?_);obtain⟨q,ej,c1,bk,b0⟩:=e;refine gb ?_;have b:o.over=false:=A0;have i:=AW q X.hf X.m B.dZ B.na L t o cc.hf al;rw[U,b]at i;simp only[eH,eo]at i;refine qu i (λD=>?_);refine gb ?_;exact sn (cA (q,ej,c1,bk,b0) Y (au))
def aps(cc:kl B L)(w:Nat)(O:w<B.bT)(o:hI)(al:oa o)(aJ:o.out=0)(U:(ix B.dZ B.na L o).over=true):ad aa 474 [ptr p 0] Xy (aF (.bool (gD.over NH)) (gV X B p NH::uX)):=by
 refine eW .head (λe Y=>?_);obtain⟨q,ej,c1,bk,b0⟩:=e;refine gb ?_;have b:o.over=false:=A0;have i:=AW q X.hf X.m B.dZ B.na L t o cc.hf al;rw[U,b]at i;simp only[eH,eo]at i;refine pX uX
  ((uU X B p NH ?_).mono λv H h=>?_)
  i (aoP X B p _ _ w O q ej c1 bk b0 wW) (g:=λD=>by simp only[cn,ci];exact(au)) (q:=λD=>by simp only[cn,ci];exact(au))
 . exact uV
 . exact uW
def apt(cc:kl B L)(w:Nat)(O:w<B.bT)(v:Int)(o:hN)(hk:o.k<=4)(r:o.w<B.bT)(aJ:o.out=0)(U:(j6 B.b B.bT L o).over=true):ad aa 474 [ptr p 0] (kF X B p (.up w v o)::wX) (aF iu (gV X B p ⟨.up w v sr,1,v⟩::uY)):=by
 refine eW .head (λe Y=>?_);obtain⟨q,z,ej,bk,g⟩:=e;refine gb ?_;have b:o.over=false:=DM;have i:=DC q X.be X.m B.b B.bT L t o cc.be hk r;rw[U,b]at i;simp only[eH,eo]at i;replace Y:g.value=v:=Y;refine pX uY
  ((uU X B p ⟨.up w v sr,1,v⟩ ?_).mono λv H h=>?_)
  i ((fun(_:hN)=>aoQ X B p _ _ z ej bk g) sr) (g:=λD=>by simp only[cn,ci];exact(by rw[Y];exact(AY (by decide) _ _ (au)))) (q:=λD=>by simp only[cn,ci];exact(au))
 . exact uV
 . exact uW
def apu(cc:kl B L)(o:hN)(hk:o.k<=4)(r:o.w<B.bT)(aJ:o.out=0)(U:(j6 B.b B.bT L o).over=true):ad aa 474 [ptr p 0] (kF X B p (.pg o)::wX) (aF iu (gV X B p Xz::uY)):=by
 refine eW .head (λe Y=>?_);obtain⟨q,c1,bk⟩:=e;refine gb ?_;have b:o.over=false:=DM;have i:=DC q X.be X.m B.b B.bT L t o cc.be hk r;rw[U,b]at i;simp only[eH,eo]at i;have d:(j6 B.b B.bT L o).out≠0:=by simpa[hN.over]using U
 refine pX uY
  ((uU X B p Xz ?_).mono λv H h=>?_)
  i (aoM X B p _ _ c1 bk q sr) (g:=λD=>by simp only[cn,ci];exact(AY d _ _ (au))) (q:=λD=>by simp only[cn,ci];exact(au))
 . exact uV
 . exact uW
abbrev yM:List aq:=[cg X.m L t,gr X B,cd X B,jo X B,eB X B,ay (lz X B)]
def DN{D R':List aq}(f:∀h,Sat D h->Sat R' h):∀(l:List aq) (h:dR),Sat (l++D) h->Sat (l++R') h
 |[],h,s=>f h s
 |_::l,_,s=>Sat.tail (DN f l) s
def apv{P:Program}{f:FuncId}{args:List Value}{I J us:List aq}{z:aq}{R:Value}{i:Nat}(e:us[i]?=some z)(h:ad P f args (I++[z]) (aF R (J++[z]))):ad P f args (I++[ay us]) (aF R (J++[ay us])):=λF D w s=>
 (h F (ay (us.set i fu) :: D) w (s.imp fun g t => by rw [jI] at t ⊢; exact DN (rD e) I g t)).mono fun _ _ ⟨v, H, aB, ⟨aU, bB⟩, s⟩ => ⟨v, _, aB, wY, s.imp fun g t => by
  subst bB;rw[jI]at t⊢;obtain⟨al,rfl⟩:=dd.1 e;refine DN (λg t=>?_) J g t;have:=uZ al g t;rwa[A1]at this⟩
def apw{X:kV}{B:fQ}{w:Nat}(O:w<B.bT):(lz X B)[w]?=some (nD (X.hJ w) X.m (B.cm w) B.eC):=by simp[lz,O]
end
section
variable{X:kV}{B:fQ}{p w:Nat}{L F:List Int}{t:Int}{ph:tA}{z:gD}{R:Value}
theorem HG(O:w<B.bT)(h:ad aa 474 [ptr p 0] (kF X B p ph::NI) (aF R (gV X B p z::cg X.m F (ga t)::NJ))):
 ad aa 474 [ptr p 0] (kF X B p ph::yM X B L t) (aF R (gV X B p z::yM X B F (ga t))):=
 apv (I:=XA) (J:=XB) (apw O) h
theorem ss(h:ad aa 474 [ptr p 0] XA (aF R XB)):
 ad aa 474 [ptr p 0] (kF X B p ph::yM X B L t) (aF R (gV X B p z::yM X B F (ga t))):=
 ki h bI XC
end
def apx(X:kV)(B:fQ)(p:Nat)(L:List Int)(t:Int)(c:gD)(cc:kl B L)(a2:wN B c):ad aa 474 [ptr p 0] (gV X B p c::yM X B L t)
 (aF (.bool (lx B L c).over) (gV X B p (lx B L c)::yM X B (nA B L c) (if c.over then t else ga t))):=by
 obtain⟨ph,out,val⟩:=c;by_cases aJ:out=0
 . subst aJ
   obtain⟨d2,V⟩:=a2 rfl;obtain rfl:val=0:=V;have j:(su:gD).over=false:=rfl;have aB:lx B L su=(hX B L su).2:=by unfold lx;rw[j];rfl
   have aU:nA B L su=(hX B L su).1:=by unfold nA;rw[j];rfl
   have bB:gV X B p su=kF X B p ph:=rfl;rw[aB,aU,bB,j];simp only[eH,eo];cases ph with
   |
    push w o v=>
    obtain⟨O,al,T,_⟩:=d2;cases U:(jc (B.cm w) B.eC L o).over with
    |false=>have:=HG O (apg X B p L t cc w O v o al T U);simp only[hX,U,eH,eo];exact this
    |
     true=>
     have:=HG O (aph X B p L t cc w O v o al T U);simp only[hX,U,fk];split<;>rename_i ag
     . rw[bg ag]at this;exact this
     . rw[a6 ag]at this;exact this
   |
    enter o v=>
    obtain⟨al,T,_⟩:=d2;cases U:(ix B.dZ B.na L o).over with
    |false=>have:=ss (api X B p L t cc v o al T U);simp only[hX,U,eH,eo];exact this
    |
     true=>
     have:=ss (apj X B p L t cc v o al T U);simp only[hX,U,fk];split<;>rename_i ag
     . rw[bg ag]at this;exact this
     . rw[a6 ag]at this;exact this
   |
    ring o=>
    obtain⟨hk,O,T⟩:=d2;cases U:(j6 B.b B.bT L o).over with
    |false=>have:=ss (apk X B p L t cc o hk O T U);simp only[hX,U,eH,eo];exact this
    |true=>have:=ss (apl X B p L t cc o hk O T U);simp only[hX,U,fk];exact this
   |
    ie w o l=>
    obtain⟨O,al,T,_⟩:=d2;cases U:(jc (B.cm w) B.eC L o).over with
    |false=>have:=HG O (apm X B p L t cc w O l o al T U);simp only[hX,U,eH,eo];exact this
    |true=>have:=HG O (apn X B p L t cc w O l o al T U);simp only[hX,U,fk];exact this
   |
    mT o l=>
    obtain⟨al,T,_⟩:=d2;cases U:(ix B.dZ B.na L o).over with
    |false=>have:=ss (apo X B p L t cc l o al T U);simp only[hX,U,eH,eo];exact this
    |true=>have:=ss (app X B p L t cc l o al T U);simp only[hX,U,fk];exact this
   |
    rz w o=>
    obtain⟨O,hk,r,T⟩:=d2;exact ss (apq X B p L t cc w O o ae r T (Hm ae T))
   |
    lv w o=>
    obtain⟨O,al,T⟩:=d2;cases U:(ix B.dZ B.na L o).over with
    |false=>have:=ss (apr X B p L t cc w O o al T U);simp only[hX,U,eH,eo];exact this
    |true=>have:=ss (aps X B p L t cc w O o al T U);simp only[hX,U,fk];exact this
   |
    up w v o=>
    obtain⟨O,hk,r,T⟩:=d2;exact ss (apt X B p L t cc w O v o ae r T (Hm ae T))
   |
    pg o=>
    obtain⟨hk,r,T⟩:=d2;have U:=Hm (b:=B.b) (n:=B.bT) (L:=L) ae T;have:=ss (apu X B p L t cc o ae r T U);have e:(gD.mk (.pg sr) (j6 B.b B.bT L o).out 0).over=true:=U;simp only[hX];rw[e];exact this
 . have U:(pj:gD).over=true:=by simp[gD.over,aJ]
   have aB:lx B L pj=pj:=by unfold lx;rw[bg U]
   have aU:nA B L pj=L:=by unfold nA;rw[bg U]
   have bB:gV X B p pj=DJ X p out val:=by unfold gV;rw[a6 aJ]
   rw[aB,aU,U,bB];simp only[fk];have h:ad aa 474 [ptr p 0] [DJ X p out val] (aF iu [DJ X p out val]):=kC (λx ag=>ki (MQ p _ _ _ out val aJ) nx NE);exact ki h bI XC
section
variable(m b bT n eC na:Nat){X:kV}(L:List Int){B:fQ}(t:Int){J:List Nat}
def mU(L:List Int)(b:Nat):Nat->List Int
 |0=>L
 |i+1=>(mU L b i).set (b+i) (if i<2 then 1 else 0)
def NK(L:List Int)(b:Nat):∀i,(mU L b i).length=L.length
 |0=>rfl
 |i+1=>by rw[mU,gq,NK L b i]
def NL(h1:1<=n)(h2:n<=8):ad aa 103 [af n] [] (aF (af (n:Nat)) []):=by
 have:=aoC (n:Int);rwa[bg ae]at this
def NM(h1:1<=n)(h2:n<=64):ad aa 104 [af n] [] (aF (af ((2+2*n:Nat):Int)) []):=by
 have:=aoD (n:Int);rw[bg ae]at this;rwa[show((2+2*n:Nat):Int)=2+2*(n:Int) by omega]
def NN(h1:1<=n)(h2:n<=64):ad aa 105 [af n] [] (aF (af ((2+n:Nat):Int)) []):=by
 have:=aoE (n:Int);rw[bg ae]at this;rwa[show((2+n:Nat):Int)=2+(n:Int) by omega]
def sv(L:List Int)(B:fQ):Nat->List Int
 |0=>iw (iw L B.b B.bT) B.dZ (2+2*B.na)
 |k+1=>mU (sv L B k) (B.cm k) (2+B.eC)
def NO(L:List Int)(B:fQ):∀k,(sv L B k).length=L.length
 |0=>by rw[sv,wZ,wZ]
 |k+1=>by rw[sv,NK,NO L B k]
def yN(B:fQ)(J:List Nat):List aq:=J.mapIdx λw q=>nD q m (B.cm w) B.eC
def apy{m:Nat}{B:fQ}{J:List Nat}{q:Nat}:yN m B (J++[q])=yN m B J++[nD q m (B.cm J.length) B.eC]:=XD
def apz(aw:J.length=B.bT)(ag:X.hJ=λw=>J.getD w 0):lz X B=yN X.m B J:=by
 unfold lz yN;rw[ag,<-aw];exact XE
def apA(aw:J.length=B.bT)(ag:X.hJ=λw=>J.getD w 0):AX X B=J.map λq=>ptr q 0:=by
 unfold AX;rw[ag,<-aw];exact XE
def apB(K:Hq b n L)(h1:1<=n):ad aa 109 AE wC (λu H=>∃q,u=.tuple #[ptr q 0,af 0]/\H=[cg m (iw L b (n)) (jx (n) t),mV q m b n]):=by
 refine ax Tryz.func109 λF D=>?_;have h2:=K.n8;have hlen:=K.len;have j:=K.dE;refine cr ?_;refine aV (NL n h1 h2) ?_;refine HH ?_;refine gO (bx:=Nat) (λx=>x<=n) (λx=>((31,af x)::(30,af ((n:Nat):Int))::HI)) (λx=>cg m (iw L b x) (jx x t)::D) (λx=>n -x) 0 (fc _) de (au) ?_;intro k hk;refine bh ?_;refine b6 (λW=>?_) (λW=>?_)
 . exact NP
 . obtain rfl:k=n:=by omega
   exact XF
def apC(K:sl b n L):ad aa 110 AE wC (λu H=>∃q,u=.tuple #[ptr q 0,af 0]/\H=[cg m (iw L b (2+2*n)) (jx (2+2*n) t),kU q m b n]):=by
 refine ax Tryz.func110 λF D=>?_;have h1:=K.ec;have h2:=K.jV;have hlen:=K.len;have j:=K.dE;refine cr ?_;refine aV (NM n h1 h2) ?_;refine HH ?_;refine XG ?_;intro k hk;refine b6 (λW=>?_) (λW=>?_)
 . exact NP
 . exact XH
def apD(K:yF b n L):ad aa 111 AE wC (λu H=>∃q,u=.tuple #[ptr q 0,af 0]/\H=[cg m (mU L b (2+n)) (jx (2+n) t),nD q m b n]):=by
 refine ax Tryz.func111 λF D=>?_;have h1:=K.ec;have h2:=K.jV;have hlen:=K.len;have j:=K.dE;refine cr ?_;refine aV (NN n h1 h2) ?_;refine HH ?_;refine gO (bx:=Nat) (λx=>x<=2+n) (λx=>((32,af x)::(31,af ((2+n:Nat):Int))::HI)) (λx=>cg m (mU L b x) (jx x t)::D) (λx=>2+n -x) 0 (fc _) de (au) ?_;intro k hk;refine bh ?_;refine b6 (λW=>?_) (λW=>?_)
 . refine gi ?_
   refine a7 ?_;refine b6 (λI=>?_) (λI=>?_)
   . refine cU ?_
     refine XI ?_;refine fm (k+1) (show k+1<=_ by omega) ae de (by rw[mU,bg (by omega)];exact(au))
   . refine bH ?_
     refine XI ?_;refine fm (k+1) (show k+1<=_ by omega) ae de (by rw[mU,a6 (by omega)];exact(au))
 . obtain rfl:k=2+n:=by omega
   refine dx ?_;refine wn λa=>?_;exact NQ
def XJ(h1:1<=bT)(h2:bT<=8)(aH:1<=eC)(bm:eC<=64)(dk:1<=na)(g0:na<=16):ad aa 59 [af bT,af eC,af na] [] (aF (af ((fQ.size ⟨b,bT,eC,na⟩:Nat):Int)) []):=by
 refine ax Tryz.func59 λF D=>?_;have bb:bT*(2+eC)<=8*66:=qz h2 ae;refine bH ?_;refine aV (NL bT h1 h2) ?_;refine aG ?_;refine cj rfl (b4 rfl (NM na dk ae) bI) ?_;refine gP ?_;refine th ?_;refine aV (NN eC aH bm) ?_;refine cO ?_;refine o8 rfl rfl hW ?_;refine XK ?_;refine o8 rfl rfl hW ?_;refine XL ?_;refine aA rfl (fo ((bT+(2+2*na):Nat):Int) eV rfl rfl) ?_;refine a7 ?_;refine aA rfl (rs ((bT*(2+eC):Nat):Int) (by rw[<-DG];exact jv (by generalize bT*(2+eC)=E at bb⊢;omega)) rfl rfl) ?_;refine aA rfl (fo ((bT+(2+2*na)+bT*(2+eC):Nat):Int) (by generalize bT*(2+eC)=E at bb⊢;rw[jv (by omega)];omega) rfl rfl) ?_;refine bz ?_;exact aW ⟨rfl,rfl⟩
def apE(K:kl ⟨b,bT,eC,na⟩ L):ad aa 65 [ptr m 0,af b,af bT,af eC,af na] wC (λu H=>∃(X:kV) (dh:Int),X.m=m/\u=.tuple #[ptr X.c 0,af 0]/\H=yM X (⟨b,bT,eC,na⟩:fQ) (sv L (⟨b,bT,eC,na⟩:fQ) bT) dh):=by
 refine ax Tryz.func65 λF D=>?_;have h1:1<=bT:=K.aG;have h2:bT<=8:=K.bH;have aH:1<=eC:=K.s1;have bm:eC<=64:=K.p1;have dk:1<=na:=K.ck;have g0:na<=16:=K.ha;have hlen:b+(bT+(2+2*na)+bT*(2+eC))<=L.length:=K.len;have j:=K.dE;obtain⟨aT,l⟩:∃E,E=fQ.size ⟨b,bT,eC,na⟩:=⟨_,rfl⟩;have i:=XJ b bT eC na h1 h2 aH bm dk g0;rw[<-l]at i;have n6:1<=aT:=by rw[l];show 1<=bT+(2+2*na)+bT*(2+eC);omega
 have rx:b+aT<=L.length:=by rw[l];exact hlen
 refine cO ?_;refine aV (i) ?_;refine XM ?_;refine bz ?_;refine wn λf=>?_;refine cr ?_;refine cj rfl (b4 rfl (apB m b bT L _ ⟨h2,by omega,j⟩ h1) bI) ?_;rintro _ D ⟨_,⟨be,rfl,rfl⟩,rfl⟩;refine Gd ?_;refine aV (NL bT h1 h2) ?_;refine aA rfl (fo ((b+bT:Nat):Int) eV rfl rfl) ?_;refine cr ?_;refine cj rfl (b4 rfl (apC m (b+bT) na (iw L b bT) _ ⟨dk,by omega,by rw[wZ];omega,by rw[wZ];omega⟩) bI) ?_;rintro _ D ⟨_,⟨hf,rfl,rfl⟩,rfl⟩;refine Gd ?_;refine cj rfl (b4 rfl (NM na dk ae) bI) ?_;refine gP ?_;refine fj ?_;refine aA rfl (fo ((b+bT+(2+2*na):Nat):Int) eV rfl rfl) ?_;refine bz ?_;refine lh (ii (e:=210) (aT:=1)) ?_;refine lh w0 ?_;refine bh ?_;refine gO (bx:=List Nat×(Option Addr×Nat)×Int) (λe=>e.1.length<=bT) (λe=>[(70,af e.1.length),(69,af bT),(13,ptr f 0),(0,ptr m 0),(1,af ((b+bT+(2+2*na):Nat):Int)),(3,af eC)]) (λe=>cg m (sv L (⟨b,bT,eC,na⟩:fQ) e.1.length) e.2.2::ab f 205 [ptr be 0,ptr hf 0,.slice e.2.1.1 e.1.length e.2.1.2]::own (.slice e.2.1.1 e.1.length e.2.1.2) 210 1 e.1.length (e.1.map λq=>ptr q 0)::ay (yN m (⟨b,bT,eC,na⟩:fQ) e.1)::mV be m b bT::kU hf m (b+bT) na::D) (λe=>bT -e.1.length) ([],(none,0),_) (fc _) de (au) ?_;rintro⟨J,⟨a,c⟩,V⟩ hk;replace hk:J.length<=bT:=hk;dsimp only;refine bh ?_;refine b6 (λW=>?_) (λW=>?_)
 . have bb:J.length*(2+eC)+(2+eC)<=bT*(2+eC):=fQ.alt (B:=(⟨b,bT,eC,na⟩:fQ)) (show J.length<bT by omega)
   refine nr ?_;refine aV (NN eC aH bm) ?_;refine aA rfl (rs ((J.length*(2+eC):Nat):Int) (by rw[<-DG];exact jv (by generalize J.length*(2+eC)=E at bb⊢;omega)) rfl rfl) ?_;refine aA rfl (fo ((b+bT+(2+2*na)+J.length*(2+eC):Nat):Int) (by generalize J.length*(2+eC)=E at bb⊢;rw[jv (by omega)];omega) rfl rfl) ?_;refine aG ?_;refine cj rfl (b4 rfl (apD m (b+bT+(2+2*na)+J.length*(2+eC)) eC (sv L (⟨b,bT,eC,na⟩:fQ) J.length) _ ⟨aH,bm,by rw[NO];omega,by rw[NO];omega⟩) bI) ?_;rintro _ D ⟨_,⟨q,rfl,rfl⟩,rfl⟩;refine fj ?_;refine fZ ?_;refine wn λp=>?_;refine gp λn o=>?_;refine cU ?_;refine fm (J++[q],(n,o),_) (show(J++[q]).length<=bT by rw[ep];show J.length+1<=bT;omega) (show bT -(J++[q]).length<bT -J.length by rw[ep];show bT -(J.length+1)<bT -J.length;omega) (bd.cons A2 de) (λh s=>by dsimp only;rw[apy,ep,o6];exact(hG.from (A:=ay (yN m (⟨b,bT,eC,na⟩:fQ) J++[nD q m (fQ.cm (⟨b,bT,eC,na⟩:fQ) J.length) eC])) (.tail (.tail (.tail .head)))) (tB h ((au) h s)))
 . have g:J.length=bT:=by omega
   refine bh ?_;refine yt (λh s=>A3 (show 0<J.length by omega) h (hG.to (A:=own (.slice a J.length c) 210 1 J.length (J.map λq=>ptr q 0)) ek s)) ?_;rintro⟨d,rfl,-⟩;have aB:yN m (⟨b,bT,eC,na⟩:fQ) J=lz ⟨f,m,be,hf,d,c,λw=>J.getD w 0⟩ (⟨b,bT,eC,na⟩:fQ):=(apz (X:=⟨f,m,be,hf,d,c,λw=>J.getD w 0⟩) (B:=(⟨b,bT,eC,na⟩:fQ)) g rfl).symm;have aU:(J.map λq=>ptr q 0)=AX ⟨f,m,be,hf,d,c,λw=>J.getD w 0⟩ (⟨b,bT,eC,na⟩:fQ):=(apA (X:=⟨f,m,be,hf,d,c,λw=>J.getD w 0⟩) (B:=(⟨b,bT,eC,na⟩:fQ)) g rfl).symm;rw[aB,aU,g];refine bH ?_;exact aW ⟨⟨f,m,be,hf,d,c,λw=>J.getD w 0⟩,V,rfl,rfl,rfl⟩
def NR(h1:1<=n)(h2:n<=16):ad aa 62 [af n] [] (aF (af ((n*n:Nat):Int)) []):=by
 refine ax Tryz.func62 λF D=>?_;have bb:n*n<=16*16:=qz h2 h2;refine cO ?_;refine o8 rfl rfl hW ?_;refine XL ?_;refine aA rfl (rs ((n*n:Nat):Int) (by rw[<-DG];exact jv (by generalize n*n=E at bb⊢;omega)) rfl rfl) ?_;refine bz ?_;exact aW ⟨rfl,rfl⟩
def apF(h1:1<=n)(h2:n<=16)(hlen:b+n*n<=L.length)(j:L.length<=65536):ad aa 67 AE wC (λu H=>∃q,u=.tuple #[ptr q 0,af 0]/\H=[cg m (iw L b (n*n)) (jx (n*n) t),eD q m b n]):=by
 refine ax Tryz.func67 λF D=>?_;obtain⟨aT,l⟩:∃E,E=n*n:=⟨_,rfl⟩;have n6:1<=aT:=by rw[l];exact qz h1 h1
 rw[<-l]at hlen⊢;have i:=NR n h1 h2;rw[<-l]at i;refine cr ?_;refine aV (i) ?_;refine HH ?_;refine gO (bx:=Nat) (λx=>x<=aT) (λx=>((31,af x)::(30,af ((aT:Nat):Int))::HI)) (λx=>cg m (iw L b x) (jx x t)::D) (λx=>aT -x) 0 (fc _) de (au) ?_;intro k hk;refine bh ?_;refine b6 (λW=>?_) (λW=>?_)
 . exact NP
 . obtain rfl:k=aT:=by omega
   exact XF
end
end Go.Proofs.YtnnhpnccfnghdaaGreat.L
namespace Go.Proofs.YtnnhpnccfnghdaaGreat.L.Lg
open Go.Proofs.YtnnhpnccfnghdaaGreat.L
open Go.L Go.L.Led
section
variable(p z:Nat)(r:List (Int×Int))(id w:Int)(j:Nat)
def dp:aq:=
 df (bx:=Nat×(Option Addr×Nat)×List Int) (λx=>qE r x.2.2) (λx=>[ab p 161 (.map (some x.1)::.slice x.2.1.1 r.length x.2.1.2::x.2.2.map j7),b2 x.1 .u64 (r.map λq=>(q.1,j7 q.2)),own (.slice x.2.1.1 r.length x.2.1.2) 36 1 r.length (r.map λq=>rG q.1)])
theorem w4{p:Nat}{r S:List (Int×Int)}{I D:List aq}(z:Nat)(a:Option Addr)(c:Nat)(cs:List Int)(K:qE r cs)(e:S=r)
 (t:∀h,Sat I h->Sat (ab p 161 (.map (some z)::.slice a r.length c::cs.map j7)::b2 z .u64 (r.map λq=>(q.1,j7 q.2))::own (.slice a r.length c) 36 1 r.length (r.map λq=>rG q.1)::D) h):∀h,Sat I h->Sat (dp p S::D) h:=by
 subst e;exact cA (z,(a,c),cs) K t
theorem D2:(dH (r.map λq=>(q.1,j7 q.2)) id).getD (.int .i64 0)=j7 (bs r id):=by
 rw[yW];unfold bs;cases dH r id<;>rfl
theorem aqV{r:List (Int×Int)}{id:Int}(h:1<=bs r id):dH r id=some (bs r id):=by
 unfold bs at h⊢;cases bb:dH r id with
 |none=>rw[bb]at h;simp at h
 |some x=>simp
theorem aqW{r:List (Int×Int)}{id w x:Int}(h:dH r id=some x):(eQ r id w).map (λq=>rG q.1)=r.map (λq=>rG q.1):=by
 have:=congrArg (List.map rG) (Ox (w:=w) h);rw[w5,w5]at this;exact this
def Ie(x:Int):ad aa 75 [j7 x] [] (λv H=>v=.bool (decide (1<=x/\x<=6))/\H=[]):=by
 refine ku Tryz.func75 rfl rfl rfl ?_;refine YG ?_;intro F D;refine aA rfl (Af rfl rfl) ?_;refine km ?_;refine hU rfl rfl (λW=>?_) (λW=>?_) rfl
 . have f:=W
   replace f:=bR f;refine km ?_;refine o8 rfl rfl W ?_;refine aA rfl (If rfl rfl) ?_;refine aA rfl (D3 W rfl rfl) ?_;exact YH
 . have f:=W
   replace f:=bR f;simp only[iD];refine Hh rfl rfl W rfl ?_;refine aA rfl (yX W rfl rfl) ?_;exact YH
theorem YI(v:Value)(cs:List Int)(m:List (Int×Int))(id:Int)(k j:Nat)(B:cs.length=9)(hk:bs m id=k)(a:k<9)(J:j<9):
 ad aa 258 [ptr p 0,rG id,j7 j] [ab p 161 (.map (some z)::v::cs.map j7),b2 z .u64 (m.map λp=>(p.1,j7 p.2))]
  (aF (.tuple #[]) [ab p 161 (.map (some z)::v::(bump (bump cs k (-1)) j 1).map j7),b2 z .u64 ((eQ m id j).map λp=>(p.1,j7 p.2))]):=by
 refine ku Tryz.func258 rfl rfl rfl ?_;refine YJ ?_;intro F D;refine h9 [15] [] [(0,.loc),(1,.loc),(2,.loc),(3,.loc),(4,.loc),(5,.loc),(6,.loc),(7,.loc),(8,.loc),(9,.loc),(10,.loc),(11,.loc),(12,.loc),(13,.loc),(14,.loc),(15,.c0)] [] mixed gS ?_;refine Oy ?_
 first|refine go_v rfl .none rfl (o_load rfl rfl) ?_|refine go_v rfl .none rfl (gy rfl rfl) ?_|refine go_v rfl .none rfl (vc rfl) ?_
 refine go_v rfl .none rfl (j8 rfl) ?_;refine go_v rfl .none rfl (lA (j7 k) (by rw[D2,hk]) rfl rfl) ?_;refine YK ?_;refine go_v rfl .none rfl (o_load rfl (YL _ _ _ _ ae)) ?_;refine go_v rfl .none rfl (yH rfl rfl) ?_;refine YK ?_;refine go_u rfl .none (mi rfl rfl rfl (by simp[B];omega)) (λC=>absurd C bN) ?_;rw[YM];change cT _ _ _ _ _ _ _ (ab p _ (_::_::(bump cs k (-1)).map j7)::_) _ _;refine go_nil ?_;refine hB ?_;refine aqX ?_;refine km ?_;refine iF (YN rfl rfl rfl) ?_;rw[D4];refine oR ?_;refine h9 [10] [] [(0,.loc),(1,.loc),(2,.loc),(3,.loc),(4,.loc),(5,.loc),(6,.loc),(7,.loc),(8,.loc),(9,.loc),(10,.c0)] [] mixed gS ?_;refine Oy ?_;refine go_v rfl .none rfl (lU rfl rfl J) ?_;refine go_v rfl .none rfl (o_load rfl (YL _ _ _ _ (by simp[bump];omega))) ?_;refine go_v rfl .none rfl (n1 rfl rfl) ?_;refine go_v rfl .none rfl (lR rfl) ?_;refine Oz ?_;refine go_v rfl .none rfl (lU rfl rfl J) ?_;refine go_u rfl .none (mi rfl rfl rfl (by simp[bump,B];omega)) (λC=>absurd C bN) ?_;rw[YM];refine go_nil ?_;refine Ds (.inr rfl) rfl _ (⟨rfl,rfl⟩) (au)
theorem OA(aD:r.length<=1099511627776)(v:1<=j)(J:j<9):
 ad aa 206 [ptr p 0,rG id,j7 j] [dp p r] (aF (j7 (Bp r id)) [dp p (dg r id j)]):=by
 refine ku Tryz.func206 rfl rfl rfl ?_;intro F D;simp only[wE,D5,gz,mO,kR,Nat.reduceAdd,cn,ci];refine kB ek ?_;rintro⟨z,⟨a,c⟩,cs⟩ K;have K:qE r cs:=K;simp only[cn,ci];refine hA ?_;refine jb ?_;refine aA rfl (mj rfl) ?_;refine ib ?_;refine hB ?_;refine hA ?_;refine hA ?_;refine jb ?_;refine aA rfl (j8 rfl) ?_;refine aA rfl (lR rfl) ?_
 first|refine aA rfl (tJ rfl) ?_|refine aA rfl (nE rfl) ?_
 first|refine aA rfl (o_load rfl rfl) ?_|refine aA rfl (gy rfl rfl) ?_|refine aA rfl (vc rfl) ?_
 refine aA rfl (j8 rfl) ?_;refine aA rfl (lA _ (D2 r id) rfl rfl) ?_;refine cj rfl (b4 rfl (Ie _) bI) ?_;rintro _ D ⟨_,⟨rfl,rfl⟩,rfl⟩
 try simp only[cn,ci]
 refine aA rfl (qF rfl) ?_;refine ib ?_;refine hB ?_;refine mR rfl (λW=>?_) (λW=>?_)
 ·
  replace W:=bR W;have co:aw (bs r id)=false:=by simpa[aw]using W
  refine hA ?_;refine jb ?_;refine aA rfl (mj rfl) ?_;refine ib ?_;refine hB ?_;refine oL ?_;refine yx ?_;refine jm (.inl rfl) rfl rfl [dp p (dg r id j)] (⟨by simp[Bp,co],rfl⟩) (w4 z a c cs K (by simp[dg,co]) (au))
 ·
  replace W:=bR W;have co:aw (bs r id)=true:=by simpa[aw]using W
  obtain⟨k,hk⟩:∃k:Nat,bs r id=k:=⟨(bs r id).toNat,by rw[tK]at co;omega⟩;have b:1<=k/\k<=6:=by rw[tK]at co;omega
  have bb:=aqV (r:=r) (id:=id) (by omega);refine rv ?_;refine hB ?_;refine hA ?_;refine jb ?_;refine aA rfl (j8 rfl) ?_;refine aA rfl (j8 rfl) ?_;refine aA rfl (j8 rfl) ?_;refine cj rfl (b4 rfl (YI p z _ cs r id k j K.len hk (by omega) J) bI) ?_;rintro _ D ⟨_,⟨rfl,rfl⟩,rfl⟩
  try simp only[cn,ci]
  refine ib ?_;refine hB ?_;refine hA ?_;refine jb ?_;refine aA rfl (mj rfl) ?_;refine ib ?_;refine hB ?_;refine oL ?_;refine jm (.inl rfl) rfl rfl [dp p (dg r id j)] (⟨by simp[Bp,co],rfl⟩) (w4 z a c _ (K.move (id:=id) (by rw[bb,hk]) b.1 (by omega) v J aD) (by simp[dg,co]) (by rw[aqW bb,OB bb];exact(au)))
theorem Bq(aD:r.length<=1099511627776):
 ad aa 154 [ptr p 0,rG id,j7 w] [dp p r] (aF (j7 (OC r id w)) [dp p (du r id w)]):=by
 refine ku Tryz.func154 rfl rfl rfl ?_;refine YO ?_;intro F D;refine aqY ?_;refine mR rfl (λW=>?_) (λW=>?_)
 . replace W:=bR W
   have co:aw w=false:=YP;refine Ig ?_;refine jm (.inl rfl) rfl rfl _ (by rw[show du r id w=r by simp[du,co]];exact⟨by simp[OC,co],rfl⟩) (au)
 . replace W:=bR W
   have co:aw w=true:=YP;obtain⟨j,rfl⟩:∃k:Nat,w=k:=⟨w.toNat,by rw[tK]at co;omega⟩;have b:1<=j/\j<=6:=aqZ;refine aq0 ?_;refine cj rfl (b4 rfl (OA p r id j aD b.1 ae) bI) ?_;refine YQ ?_;refine jm (.inl rfl) rfl rfl _ (by rw[show du r id j=dg r id j by simp[du,co]];exact⟨by simp[OC,co],rfl⟩) (au)
theorem aq1(aD:r.length<=1099511627776):
 ad aa 292 YR [dp p r] (aF (j7 (Bp r id)) [dp p (dg r id 7)]):=by
 refine ku Tryz.func292 rfl rfl rfl ?_;refine YS ?_;intro F D;refine cj rfl (b4 rfl (OA p r id 7 aD ae ae) bI) ?_;exact YT
theorem aq2(aD:r.length<=1099511627776):
 ad aa 203 YR [dp p r] (aF (j7 (Bp r id)) [dp p (dg r id 8)]):=by
 refine ku Tryz.func203 rfl rfl rfl ?_;refine YS ?_;intro F D;refine cj rfl (b4 rfl (OA p r id 8 aD ae ae) bI) ?_;exact YT
theorem OD:
 ad aa 153 [ptr p 0,rG id] [dp p r] (aF (j7 (bs r id)) [dp p r]):=by
 refine ku Tryz.func153 rfl rfl rfl ?_;intro F D;simp only[wE,D5,gz,mO,kR,Nat.reduceAdd,cn,ci];refine kB ek ?_;rintro⟨z,⟨a,c⟩,cs⟩ K;have K:qE r cs:=K;simp only[cn,ci];refine hA ?_;refine jb ?_;refine aA rfl (mj rfl) ?_;refine ib ?_;refine hB ?_;refine hA ?_;refine jb ?_;refine aA rfl (j8 rfl) ?_;refine aA rfl (lR rfl) ?_
 first|refine aA rfl (tJ rfl) ?_|refine aA rfl (nE rfl) ?_
 first|refine aA rfl (o_load rfl rfl) ?_|refine aA rfl (gy rfl rfl) ?_|refine aA rfl (vc rfl) ?_
 refine aA rfl (j8 rfl) ?_;refine aA rfl (lA _ (D2 r id) rfl rfl) ?_;refine aA rfl (mj rfl) ?_;refine ib ?_;refine hB ?_;refine oL ?_;refine jm (.inl rfl) rfl rfl [dp p r] (⟨rfl,rfl⟩) (w4 z a c cs K rfl (au))
theorem aq3(aD:r.length<=1099511627776)(hk:kW r):
 ad aa 214 [ptr p 0,rG id,j7 w] [dp p r] (aF (j7 (Ih r id w)) [dp p (dS r id w)]):=by
 refine ku Tryz.func214 rfl rfl rfl ?_;intro F D;simp only[wE,D5,gz,mO,kR,Nat.reduceAdd,cn,ci];refine kB ek ?_;rintro⟨z,⟨a,c⟩,cs⟩ K;have K:qE r cs:=K;simp only[cn,ci];refine hA ?_;refine jb ?_;refine aA rfl (mj rfl) ?_;refine ib ?_;refine hB ?_;refine hA ?_;refine tx ?_;refine hA ?_;refine jb ?_;refine aA rfl (j8 rfl) ?_;refine cj rfl (b4 rfl (Ie _) bI) ?_;rintro _ D ⟨_,⟨rfl,rfl⟩,rfl⟩
 try simp only[cn,ci]
 refine aA rfl (qF rfl) ?_;refine aA rfl (mj rfl) ?_;refine ib ?_;refine hB ?_;refine mR rfl (λW=>?_) (λW=>?_)
 ·
  replace W:=bR W;have co:aw w=false:=by simpa[aw]using W
  refine hA ?_;refine jb ?_;refine aA rfl (mj rfl) ?_;refine ib ?_;refine hB ?_;refine oL ?_;refine Dm ?_;refine yx ?_;refine jm (.inl rfl) rfl rfl [dp p (dS r id w)] (⟨by simp[Ih,co],rfl⟩) (w4 z a c cs K (by simp[dS,co]) (au))
 ·
  replace W:=bR W;have co:aw w=true:=by simpa[aw]using W
  refine hA ?_;refine jb ?_;refine aA rfl (j8 rfl) ?_;refine aA rfl (lR rfl) ?_
  first|refine aA rfl (tJ rfl) ?_|refine aA rfl (nE rfl) ?_
  first|refine aA rfl (o_load rfl rfl) ?_|refine aA rfl (gy rfl rfl) ?_|refine aA rfl (vc rfl) ?_
  refine aA rfl (j8 rfl) ?_;refine aA rfl (lA _ (D2 r id) rfl rfl) ?_;refine aA rfl (mc rfl rfl) ?_;refine aA rfl (mj rfl) ?_;refine ib ?_;refine hB ?_;refine mR rfl (λI=>?_) (λI=>?_)
  ·
   replace I:=bR I;refine hA ?_;refine jb ?_;refine aA rfl (mj rfl) ?_;refine ib ?_;refine hB ?_;refine oL ?_;refine Dm ?_;refine yx ?_;refine jm (.inl rfl) rfl rfl [dp p (dS r id w)] (⟨by simp[Ih,co,I],rfl⟩) (w4 z a c cs K (by simp[dS,I]) (au))
  ·
   replace I:=bR I;have bb:dH r id=none:=hk.alu.1 I;obtain⟨j,rfl⟩:∃k:Nat,w=k:=⟨w.toNat,by rw[tK]at co;omega⟩;have b:1<=j/\j<=6:=by rw[tK]at co;omega
   refine rv ?_;refine yw ?_;refine hB ?_;refine hA ?_;refine jb ?_;refine aA rfl (j8 rfl) ?_;refine aA rfl (j8 rfl) ?_;refine aA rfl (j8 rfl) ?_;refine cj rfl (b4 rfl (YI p z _ cs r id 0 j K.len I (by omega) (by omega)) bI) ?_;rintro _ D ⟨_,⟨rfl,rfl⟩,rfl⟩
   try simp only[cn,ci]
   refine ib ?_;refine hB ?_;refine hA ?_;refine jb ?_;refine aA rfl (j8 rfl) ?_;refine aA rfl (j8 rfl) ?_;refine aA rfl (lR rfl) ?_
   first|refine aA rfl (tJ rfl) ?_|refine aA rfl (nE rfl) ?_
   first|refine aA rfl (o_load rfl rfl) ?_|refine aA rfl (gy rfl rfl) ?_|refine aA rfl (vc rfl) ?_
   refine aA rfl (j8 rfl) ?_
   first|refine iQ rfl (Ii rfl rfl rfl) ?_|refine iQ rfl (Ij rfl rfl rfl rfl) ?_|refine iQ rfl (qp rfl rfl rfl rfl) ?_
   rintro _ _ ⟨g,rfl,rfl⟩;refine iQ rfl (D6 rfl rfl bI rfl rfl rfl (by omega) (by unfold maxLen;omega)) ?_;rintro _ _ ⟨d,e,rfl,rfl⟩;refine aA rfl (lR rfl) ?_
   first|refine aA rfl (tJ rfl) ?_|refine aA rfl (nE rfl) ?_
   first|refine iF (mi rfl rfl rfl rfl) ?_|refine iF (tg rfl rfl rfl (by first|assumption|omega|simp)) ?_
   refine ib ?_;refine hB ?_;refine hA ?_;refine jb ?_;refine aA rfl (mj rfl) ?_;refine ib ?_;refine hB ?_;refine oL ?_;refine jm (.inl rfl) rfl rfl [dp p (dS r id j)] (⟨by simp[Ih,co,I],rfl⟩) (w4 z d e _ (K.accept (id:=id) (j:=j) b.1 (by omega) aD) (by simp[dS,co,I]) (by rw[aq4 bb,o6 (f:=λq:Int×Int=>rG q.1),ep];exact(au)))
def Ik:ad aa 56 [] [] (λu H=>∃p,u=ptr p 0/\H=[dp p []]):=by
 refine ku Tryz.func56 rfl rfl rfl ?_;refine OE ?_;intro F D;refine iQ rfl (YU) ?_;rintro _ _ ⟨z,rfl,rfl⟩;refine aA rfl (kX rfl rfl) ?_;refine iQ rfl (Br rfl) ?_;rintro _ _ ⟨p,rfl,rfl⟩;refine Bs ?_;refine jm (.inl rfl) rfl rfl [dp p []] (AC) (w4 z none 0 [0,0,0,0,0,0,0,0,0] ⟨rfl,rfl,λw h1 h2=>by match w,h1,h2 with|1,_,_|2,_,_|3,_,_|4,_,_|5,_,_|6,_,_|7,_,_|8,_,_=>rfl⟩ rfl (λh s=>Sat.tail (λh s=>YV _ (Bt _ s)) s))
end
end Go.Proofs.YtnnhpnccfnghdaaGreat.L.Lg
namespace Go.L.Th
open Go.L Go.L.Lx Go.L.Pg Go.L.Ring Go.L.dr Go.L.dX Go.L.Whl Go.L.dB Go.L.Led
inductive qX
 |act|ju|zK|ask
structure gB where
 na:Nat
 hL:Nat
 fF:Nat
def dI(E:gB):qX->Int->Prop
 |.act,x=>1<=x/\x<=E.na
 |.ju,x=>1<=x/\x<=E.hL
 |.zK,x=>0<=x/\x<E.fF
 |.ask,x=>1<=x/4096/\x/4096<=E.hL
structure gB.le(E y:gB):Prop where
 a:E.na<=y.na
 l:E.hL<=y.hL
 n:E.fF<=y.fF
def dI.mono{E y:gB}(h:E.le y){c:qX}{x:Int}(v:dI E c x):dI y c x:=by
 have h1:=h.a;have h2:=h.l;have aH:=h.n;cases c<;>simp only[dI]at*<;>omega
inductive gl
 |jk|none|val(c:qX)|rS(c:qX)|K2(w:Nat)|K3(w:Nat)
def gs(L:List Int)(i k:Nat)(x:Int):(L.set i x).getD k 0=if k=i/\i<L.length then x else L.getD k 0:=by
 grind
section
variable(f:Nat->gl)(E:gB)(L:List Int)
def ms{L:List Int}{i k:Nat}{x:Int}(h:k≠i):(L.set i x).getD k 0=L.getD k 0:=by grind
def rI{L:List Int}{i:Nat}{x:Int}(h:i<L.length):(L.set i x).getD i 0=x:=by grind
inductive nS
 |no|own(w:Nat)|jk
def Su(j:nS)(L:List Int)(i:Nat)(x:Int):gl->Prop
 |.jk=>j=.jk
 |.none=>True
 |.val c=>dI E c x
 |.rS c=>x≠0->dI E c (L.getD (i+1) 0)
 |.K2 _=>1<=x
 |.K3 w=>j=.own w
def gX(j:nS)(L Z:List Int):Prop:=Z=L\/∃i x,Z=L.set i x/\Su E j L i x (f i)
def sT:Prop:=∀i c,f i=.rS c->L.getD i 0≠0->dI E c (L.getD (i+1) 0)
end
section
variable{f:Nat->gl}{E:gB}{j:nS}{L Z:List Int}
def gX.same:gX f E j L L:=.inl rfl
def gX.put{i:Nat}{x:Int}{t:gl}(e:f i=t)(h:Su E j L i x t):gX f E j L (L.set i x):=.inr ⟨i,x,rfl,by rw[e];exact h⟩
def gX.iff{p:Prop}[Decidable p]{A B:List Int}(h1:p->gX f E j L A)(h2:¬p->gX f E j L B):gX f E j L (if p then A else B):=by
 grind
def gX.v(h:gX f E j L Z){i:Nat}{c:qX}(al:f i=.val c)(V:dI E c (L.getD i 0)):dI E c (Z.getD i 0):=by
 exact adN
def gX.jk(h:gX f E j L Z)(J:j≠.jk){i:Nat}(al:f i=.jk):Z.getD i 0=L.getD i 0:=by
 rcases h with rfl|⟨k,x,rfl,ag⟩
 . rfl
 . rw[gs];split
   . rename_i e;obtain⟨rfl,_⟩:=e;rw[al]at ag;exact absurd ag J
   grind
def gX.dE(h:gX f E j L Z){i w:Nat}(al:f i=.K2 w)(V:1<=L.getD i 0):1<=Z.getD i 0:=by
 exact adN
def gX.iL(h:gX f E j L Z){i w:Nat}(al:f i=.K3 w)(O:j≠.own w):Z.getD i 0=L.getD i 0:=by
 rcases h with rfl|⟨k,x,rfl,ag⟩
 . rfl
 . rw[gs];split
   . rename_i e;obtain⟨rfl,_⟩:=e;rw[al]at ag;exact absurd ag O
   grind
def gX.any(h:gX f E .no L Z):gX f E j L Z:=by
 rcases h with rfl|⟨k,x,rfl,ag⟩
 . exact .inl rfl
 . refine .inr ⟨k,x,rfl,?_⟩
   revert ag;cases f k<;>intro ag<;>first|exact ag|cases ag
def gX.rc(a8:∀i c,f i=.rS c->f (i+1)=.val c)(h:gX f E j L Z)(r:sT f E L):sT f E Z:=by
 rcases h with rfl|⟨k,x,rfl,ag⟩
 . grind
 . intro i c al aS
   by_cases h1:i=k
   . subst h1
     rw[ms ae];rw[al]at ag;by_cases h2:i<L.length
     . rw[rI h2]at aS;exact ag aS
     grind
   . rw[ms h1]at aS
     rw[gs];split
     . rename_i e;obtain⟨rfl,_⟩:=e;rw[a8 i c al]at ag;exact ag
     . exact r i c al aS
def sT.mono{y:gB}(h:E.le y)(r:sT f E L):sT f y L:=λi c a b=>(r i c a b).mono h
end
structure nT(f:Nat->gl)(b n:Nat)(c:qX)(len:Nat):Prop where
 ec:1<=n
 fG:f b=.none
 aB:f (b+1)=.none
 t:∀k,k<n->f (b+2+2*k)=.rS c
 v:∀k,k<n->f (b+2+2*k+1)=.val c
 len:b+2+2*n<=len
def mod_lt{n:Nat}(h:1<=n)(t:Int):(t%(n:Int)).toNat<n:=by
 have h2:=Nf t (show(0:Int)<n by omega);omega
section
variable{f:Nat->gl}{E:gB}{j:nS}{b n:Nat}{c:qX}{L Z:List Int}
def nT.tt(D:nT f b n c L.length)(t:Int):f (jt b n t)=.rS c:=D.t _ (mod_lt D.ec t)
def nT.o0(D:nT f b n c L.length)(t:Int):f (jt b n t+1)=.val c:=D.v _ (mod_lt D.ec t)
def nT.fT(D:nT f b n c L.length)(t:Int):jt b n t+1<L.length:=by
 have:=mod_lt D.ec t;have:=D.len;unfold jt;omega
def aiy(x:Int):e0 (e0 (x*2)+1)≠0:=by rw[xF,xF];omega
structure aiz(R:Int->Prop)(b n:Nat)(L:List Int)(o:fr):Prop where
 sP:o.pc<=3->R o.val
 xD:o.pc=4->R (L.getD (jt b n o.tick+1) 0)
 E3:o.pc=7\/o.pc=8->R (L.getD (jt b n o.c5+1) 0)
 Cc:o.pc=8\/o.pc=9->R o.val
def lF(R:Int->Prop)(b n:Nat)(L:List Int)(o:fr):Prop:=o.out=0->aiz R b n L o
def BN(pc:Nat):Nat:=if pc<=4 then 0 else if pc<=11 then 1 else if pc<=13 then 2 else 3
def lF.stay{o:fr}(D:nT f b n c L.length)(w:gX f E j L Z)(h:lF (dI E c) b n L o):lF (dI E c) b n Z o:=λaJ=>
 have g:=h aJ
 ⟨g.sP,λe=>w.v (D.o0 _) (g.xD e),λe=>w.v (D.o0 _) (g.E3 e),g.Cc⟩
def lF.mono{y:gB}(l:E.le y){o:fr}(h:lF (dI E c) b n L o):lF (dI y c) b n L o:=λaJ=>
 have g:=h aJ
 ⟨λe=>(g.sP e).mono l,λe=>(g.xD e).mono l,λe=>(g.E3 e).mono l,λe=>(g.Cc e).mono l⟩
theorem E4{o:fr}(D:nT f b n c L.length)(rc:sT f E L)(al:iG o)(aJ:o.out=0)(V:aiz (dI E c) b n L o):
 gX f E j L (lp b n L o)/\lF (dI E c) b n (lp b n L o) (dL b n L o)/\((dL b n L o).out=1->BN o.pc=1->dI E c (dL b n L o).val)/\((dL b n L o).out=0->BN (dL b n L o).pc=BN o.pc):=by
 obtain⟨pc,out,val,tick,c5⟩:=o;have m:pc<=15:=al.pc;obtain rfl:out=0:=aJ;obtain⟨v3,v4,k,p⟩:=V;simp only at v3 v4 k p;have aB:lp b n L JK=l2 b n L JK:=rfl;have aU:dL b n L JK=lq b n L JK:=rfl;rw[aB,aU]
 match pc,m with
 |
  0,_=>
  have g:=v3 gW;simp only[l2,lq,AH];exact⟨.same,λ_=>aaz,xa,λ_=>rfl⟩
 |
  1,_=>
  have g:=v3 gW;simp only[l2,lq,yu];refine⟨.same,?_⟩;split
  . exact IX
  . split
    . exact⟨hg,xa,hg⟩
    . exact IX
 |
  2,_=>
  have g:=v3 gW;simp only[l2,lq,AI,EY];refine⟨.iff (λ_=>.put D.fG trivial) zn,?_⟩;by_cases h:L.getD b 0=tick
  . simp only[h,fk]
    exact IX
  . simp only[h,eo]
    exact IX
 |
  3,_=>
  have g:=v3 gW;simp only[l2,lq,G8,Sa];exact⟨.put (D.o0 _) g,λ_=>⟨hg,λ_=>by simp only[];rw[rI (D.fT _)];exact g,hg,hg⟩,xa,λ_=>rfl⟩
 |
  4,_=>
  have g:=v4 rfl;simp only[l2,lq,G9,Sb];exact⟨.put (D.tt _) λ_=>g,hg,xa,hg⟩
 |
  5,_=>
  simp only[l2,lq,uK];exact aat
 |
  6,_=>
  simp only[l2,lq,sg];refine⟨.same,?_⟩;by_cases h:L.getD (jt b n c5) 0=e0 (xE n c5+1)
  . simp only[h,fk]
    have g:dI E c (L.getD (jt b n c5+1) 0):=rc _ _ (D.tt c5) (by rw[h];exact aiy _);exact⟨λ_=>⟨hg,hg,λ_=>g,hg⟩,hg,λ_=>rfl⟩
  . simp only[h,eo]
    exact⟨hg,hg,hg⟩
 |
  7,_=>
  have g:=k (.inl rfl);simp only[l2,lq,Ha];exact⟨.same,λ_=>⟨hg,hg,λ_=>g,λ_=>g⟩,hg,λ_=>rfl⟩
 |
  8,_=>
  have g:=k (.inr rfl);have cE:=p (.inl rfl);simp only[l2,lq,Hb,Sc];exact⟨.put (D.tt _) λ_=>g,λ_=>⟨hg,hg,hg,λ_=>cE⟩,hg,λ_=>rfl⟩
 |
  9,_=>
  have cE:=p (.inr rfl);simp only[l2,lq,Hc,Sd];exact⟨.put D.aB trivial,hg,λ_ _=>cE,hg⟩
 |
  10,_=>
  simp only[l2,lq,Hd];exact aat
 |
  11,_=>
  simp only[l2,lq,AJ,uK];refine⟨.same,λ_=>IV,(λh=>?_),λ_=>rfl⟩;exfalso;revert h;split<;>decide
 |
  12,_=>
  simp only[l2,lq,He,uK];exact aaq
 |
  13,_=>
  have T:(AK b n L ⟨13,0,val,tick,c5⟩).out≠0:=by
   unfold AK sg fr.over;simp only[];split<;>rename_i h
   . intro e;revert e;by_cases ag:L.getD (jt b n c5) 0=e0 (xE n c5+1)<;>simp[ag,-List.getD_eq_getElem?_getD]
   . decide
  simp only[l2,lq];exact⟨.same,λh=>absurd h T,xa,λh=>absurd h T⟩
 |
  14,_=>
  simp only[l2,lq,AL];exact aaq
 |
  15,_=>
  simp only[l2,lq,AM,EZ];refine⟨.iff (λ_=>.put D.fG trivial) zn,λ_=>IV,xa,λ_=>rfl⟩
def xI{R:Int->Prop}{pc:Nat}{v:Int}(aH:pc<=3->R v)(h:pc<=3\/pc=5\/10<=pc):lF R b n L (gU pc v):=λ_=>
 ⟨aH,Qj,Qj,Qj⟩
end
structure aiA(E:gB)(b n:Nat)(L:List Int)(o:hI):Prop where
 v:o.eb=false->dI E .act o.v
 xD:o.eb=false->o.jK=4->dI E .act (L.getD (ls b n o.t+1) 0)
 pt:o.eb=true->2<=o.jK->dI E .act (L.getD (ls b n o.t+1) 0)
 zL:o.eb=true->o.jK=4->dI E .act o.v
def sU(E:gB)(b n:Nat)(L:List Int)(o:hI):Prop:=o.out=0->aiA E b n L o
section
variable{f:Nat->gl}{E:gB}{j:nS}{b n:Nat}{L Z:List Int}
def sU.stay{o:hI}(D:nT f b n .act L.length)(w:gX f E j L Z)(h:sU E b n L o):sU E b n Z o:=λaJ=>
 have g:=h aJ
 ⟨g.v,λa e=>w.v (D.o0 _) (g.xD a e),λa e=>w.v (D.o0 _) (g.pt a e),g.zL⟩
def sU.mono{y:gB}(l:E.le y){o:hI}(h:sU E b n L o):sU y b n L o:=λaJ=>
 have g:=h aJ
 ⟨λa=>(g.v a).mono l,λa e=>(g.xD a e).mono l,λa e=>(g.pt a e).mono l,λa e=>(g.zL a e).mono l⟩
theorem Sv{o:hI}(D:nT f b n .act L.length)(rc:sT f E L)(al:oa o)(aJ:o.out=0)(V:aiA E b n L o):
 gX f E j L (n9 b n L o)/\sU E b n (n9 b n L o) (ix b n L o)/\((ix b n L o).out=1->o.eb=true->dI E .act (ix b n L o).v)/\(ix b n L o).eb=o.eb:=by
 obtain⟨jK,eb,t,v,out⟩:=o;have m:jK<=4:=al.jK;obtain rfl:out=0:=aJ;obtain⟨v1,v4,d,v5⟩:=V;simp only at v1 v4 d v5;have aB:n9 b n L JP=lu b n L JP:=rfl;have aU:ix b n L JP=jT b n L JP:=rfl;rw[aB,aU];have tt:f (ls b n t)=.rS .act:=D.tt t;have o0:f (ls b n t+1)=.val .act:=D.o0 t;have fT:ls b n t+1<L.length:=D.fT t;have q:f (n5 b eb)=.none:=by cases eb;exact D.fG;exact D.aB
 match jK,m with
 |
  0,_=>
  simp only[lu,jT];exact⟨.same,λ_=>aaM,hg,by trivial⟩
 |
  1,_=>
  simp only[lu,jT];refine⟨.same,?_⟩;by_cases h:L.getD (ls b n t) 0=yA n t eb
  . rw[bg h]
    refine⟨λ_=>⟨v1,za,(λe _=>?_),za⟩,hg,by trivial⟩;replace e:eb=true:=e;subst e;exact rc _ _ tt (by rw[h];exact aiy _)
  . rw[a6 h];split
    . exact aaL
    . cases eb
      . exact acC
      . exact acC
 |
  2,_=>
  simp only[lu,jT];refine⟨.iff (λ_=>.put q trivial) zn,?_⟩;by_cases h:L.getD (n5 b eb) 0=t
  . simp only[h,fk]
    refine⟨λ_=>⟨v1,za,(λe _=>?_),za⟩,hg,by trivial⟩;exact(gX.put (f:=f) (j:=j) q (show Su E j L (n5 b eb) (e0 (t+1)) .none from trivial)).v o0 (d e gW)
  . simp only[h,eo]
    exact aaL
 |
  3,_=>
  cases eb
  . have g:=v1 rfl
    simp only[lu,jT,eH,eo];exact⟨.put o0 g,λ_=>⟨λ_=>g,λ_ _=>by simp only[];rw[rI fT];exact g,hg,hg⟩,hg,by simp⟩
  . have g:=d rfl gW
    simp only[lu,jT,fk];exact⟨.same,λ_=>⟨hg,hg,λ_ _=>g,λ_ _=>g⟩,hg,by simp⟩
 |
  4,_=>
  simp only[lu,jT];refine⟨.put tt λ_=>?_,hg,λ_ e=>v5 e rfl,by trivial⟩;cases eb
  . exact v4 rfl rfl
  . exact d rfl gW
end
structure xJ(f:Nat->gl)(b n w:Nat)(len:Nat):Prop where
 ec:1<=n
 dE:f b=.K2 w
 iL:f (b+1)=.K3 w
 v:∀k,k<n->f (b+2+k)=.val .act
 len:b+2+n<=len
structure vE(E:gB)(b n al:Nat)(L:List Int):Prop where
 t1:1<=L.getD b 0
 av:L.getD (b+1) 0<=al
 v:∀i:Int,1<=i->i<al->dI E .act (L.getD (kj b n i) 0)
structure aiB(E:gB)(b n al:Nat)(L:List Int)(o:ic):Prop where
 v:o.pc<=3->dI E .act o.v
 gH:1<=o.pc->o.pc<=3->o.b<=al
 sP:o.pc=3->dI E .act (L.getD (kj b n o.b) 0)
 zL:5<=o.pc->o.pc<=9->1<=o.b/\o.b<=al
 aiC:o.pc=6\/o.pc=7->L.getD (b+1) 0=o.b -1
 E3:o.pc=7->1<=o.t/\o.t<=o.b -1
 Cc:o.pc=8->dI E .act o.v/\o.t=o.b -1
 aiD:o.pc=9->o.fP=true->dI E .act o.v
 aiE:o.pc<=8->o.fP=false
 aiF:11<=o.pc->1<=o.t
 Sw:12<=o.pc->o.t<o.b/\o.b<=al
 aiG:o.pc=13->dI E .act o.v
def ub(E:gB)(b n al:Nat)(L:List Int)(o:ic):Prop:=o.out=0->aiB E b n al L o
def E5(o:ic):Prop:=o.out=0/\6<=o.pc/\o.pc<=9
def uc(pc:Nat):Nat:=if pc<=3 then 0 else if pc<=9 then 1 else 2
def K4{k l:Nat}(h:uc k=uc l):(k<=3↔l<=3)/\(k<=9↔l<=9):=by
 grind [uc]
section
variable{f:Nat->gl}{E:gB}{j:nS}{b n w al:Nat}{L Z:List Int}
def xJ.o0(D:xJ f b n w L.length)(t:Int):f (kj b n t)=.val .act:=D.v _ (mod_lt D.ec t)
def xJ.fT(D:xJ f b n w L.length)(t:Int):kj b n t<L.length:=by
 have:=mod_lt D.ec t;have:=D.len;unfold kj;omega
def vE.stay{fK:Nat}(D:xJ f b n w L.length)(wr:gX f E j L Z)(O:j≠.own w)(h:vE E b n al L)(co:fK=al):vE E b n fK Z:=by
 subst co;exact⟨wr.dE D.dE h.t1,by rw[wr.iL D.iL O];exact h.av,λi a b=>wr.v (D.o0 _) (h.v i a b)⟩
def vE.mono{y:gB}(l:E.le y)(h:vE E b n al L):vE y b n al L:=⟨h.t1,h.av,λi a b=>(h.v i a b).mono l⟩
def ub.stay{fK:Nat}{o:ic}(D:xJ f b n w L.length)(wr:gX f E j L Z)(O:o.pc<=9->j≠.own w)(h:ub E b n al L o)(co:al<=fK):ub E b n fK Z o:=λaJ=>
 have g:=h aJ
 ⟨
  g.v,λa b=>aiH (g.gH a b) ae,λa=>wr.v (D.o0 _) (g.sP a),λa b=>⟨(g.zL a b).1,aiH (g.zL a b).2 ae⟩,
  λa=>by rw[wr.iL D.iL (O ae)];exact g.aiC a,g.E3,g.Cc,g.aiD,g.aiE,g.aiF,λa=>⟨(g.Sw a).1,aiH (g.Sw a).2 ae⟩,g.aiG⟩
def ub.mono{y:gB}(l:E.le y){o:ic}(h:ub E b n al L o):ub y b n al L o:=λaJ=>
 have g:=h aJ
 ⟨λa=>(g.v a).mono l,g.gH,λa=>(g.sP a).mono l,g.zL,g.aiC,g.E3,λa=>⟨(g.Cc a).1.mono l,(g.Cc a).2⟩,λa b=>(g.aiD a b).mono l,g.aiE,g.aiF,g.Sw,λa=>(g.aiG a).mono l⟩
theorem aiI{o:ic}(D:xJ f b n w L.length)(K:iv L)(iH:vE E b n al L)(az:al<4611686018427387904)(bM:qx o)(aJ:o.out=0)(V:aiB E b n al L o)(y:o.pc<=9->E5 o\/1<=L.getD (b+1) 0):
 gX f E (if o.pc<=9 then .own w else .no) L (mf b n L o)/\(∃fK,al<=fK/\fK<=al+1/\vE E b n fK (mf b n L o)/\ub E b n fK (mf b n L o) (jc b n L o))/\
 ((jc b n L o).out=1->uc o.pc≠0->dI E .act (jc b n L o).v)/\((jc b n L o).out=0->uc (jc b n L o).pc=uc o.pc)/\(o.pc<=9->E5 (jc b n L o)\/1<=(mf b n L o).getD (b+1) 0):=by
 obtain⟨pc,out,v,t,e,fP⟩:=o;have m:pc<=13:=bM.pc;have z:jn e:=bM.b;obtain rfl:out=0:=aJ;obtain⟨v1,g8,T,d,l,C,F,G,k,u,B,H⟩:=V;simp only at v1 g8 T d l C F G k u B H y;have aB:mf b n L JL=kv b n L JL:=rfl;have aU:jc b n L JL=kD b n L JL:=rfl;rw[aB,aU];have aw:=D.len;have un:∀x:Int,0<=x->x<9223372036854775808->e0 x=x:=λx a b=>by rw[xF];omega
 match pc,m with
 |
  0,_=>
  have p:=(y gW).resolve_left (λh=>by have:=h.2.1;simp at this);simp only[kv,kD];refine⟨.same,⟨al,eh _,il _,iH,λ_=>⟨λ_=>v1 gW,λ_ _=>iH.av,?_,?_,?_,?_,?_,?_,λ_=>k gW,?_,?_,?_⟩⟩,?_,λ_=>rfl,λ_=>.inr p⟩<;>simp
 |
  1,_=>
  have p:=(y gW).resolve_left (λh=>by have:=h.2.1;simp at this);simp only[kv,kD];refine⟨.same,⟨al,eh _,il _,iH,λ_=>⟨λ_=>v1 gW,λ_ _=>g8 gW gW,?_,?_,?_,?_,?_,?_,λ_=>k gW,?_,?_,?_⟩⟩,?_,λ_=>rfl,λ_=>.inr p⟩<;>simp[uc]
 |
  2,_=>
  have p:=(y gW).resolve_left (λh=>by have:=h.2.1;simp at this);have g:=v1 gW;simp only[kv,kD];have g7:∀t,b≠kj b n t/\b+1≠kj b n t:=λt=>by unfold kj;omega
  have wr:gX f E (.own w) L (L.set (kj b n e) v):=.put (D.o0 _) g;refine⟨wr,⟨al,eh _,il _,⟨by rw[ms (g7 _).1];exact iH.t1,by rw[ms (g7 _).2];exact iH.av,λi a b=>wr.v (D.o0 _) (iH.v i a b)⟩,λ_=>⟨λ_=>g,λ_ _=>g8 gW gW,λ_=>by simp only[];rw[rI (D.fT _)];exact g,?_,?_,?_,?_,?_,λ_=>k gW,?_,?_,?_⟩⟩,?_,λ_=>rfl,λ_=>.inr gW⟩<;>simp
 |
  3,_=>
  have g:=T rfl;have dZ:=g8 gW gW;have d7:=un (e+1) gW ae;simp only[kv,kD];rw[d7];have g7:∀t,kj b n t≠b+1:=λt=>by unfold kj;omega
  have ag:(L.set (b+1) (e+1)).getD (b+1) 0=e+1:=rI ae;refine⟨.put D.iL rfl,⟨max al (e+1).toNat,Nat.le_max_left _ _,by have:=z.1;omega,⟨by rw[ms ae];exact iH.t1,by rw[ag];have:=z.1;omega,λi a c=>?_⟩,λh=>by simp at h⟩,(λ_ h=>by simp[uc]at h),hg,λ_=>.inr gW⟩;rw[ms (g7 _)];by_cases a2:i<al
  . exact iH.v i a a2
  . obtain rfl:i=e:=by have:=z.1;omega
    exact g
 |
  4,_=>
  have p:=(y gW).resolve_left (λh=>by have:=h.2.1;simp at this);simp only[kv,kD];refine⟨.same,⟨al,eh _,il _,iH,λ_=>⟨?_,?_,?_,λ_ _=>⟨p,iH.av⟩,?_,?_,?_,?_,λ_=>k gW,?_,?_,?_⟩⟩,?_,λ_=>rfl,λ_=>.inr p⟩<;>simp
 |
  5,_=>
  obtain⟨W,cE⟩:=d gW gW;have d7:=un (e -1) ae ae;simp only[kv,kD];rw[d7];have g7:∀t,kj b n t≠b+1:=λt=>by unfold kj;omega
  have ag:(L.set (b+1) (e -1)).getD (b+1) 0=e -1:=rI ae;refine⟨.put D.iL rfl,⟨al,eh _,il _,⟨by rw[ms ae];exact iH.t1,by rw[ag];omega,λi a c=>by rw[ms (g7 _)];exact iH.v i a c⟩,λ_=>⟨?_,?_,?_,λ_ _=>⟨W,cE⟩,λ_=>ag,?_,?_,?_,λ_=>k gW,?_,?_,?_⟩⟩,?_,λ_=>rfl,λ_=>.inl Ez⟩<;>simp
 |
  6,_=>
  obtain⟨W,cE⟩:=d gW gW;have d8:=l (.inl rfl);have d7:=un (e -1) ae ae;have R:=iH.t1;have q:=k gW;subst q;simp only[kv,kD];rw[d7];by_cases a2:e -1<L.getD b 0
  . rw[bg a2]
    refine⟨.same,⟨al,eh _,il _,iH,λ_=>⟨?_,?_,?_,λ_ _=>⟨W,cE⟩,?_,?_,?_,?_,?_,?_,?_,?_⟩⟩,?_,λ_=>rfl,λ_=>.inl Ez⟩<;>simp
  . rw[a6 a2]
    refine⟨.same,⟨al,eh _,il _,iH,λ_=>⟨?_,?_,?_,λ_ _=>⟨W,cE⟩,λ_=>d8,λ_=>⟨R,by simp only[];omega⟩,?_,?_,?_,?_,?_,?_⟩⟩,?_,λ_=>rfl,λ_=>.inl Ez⟩<;>simp
 |
  7,_=>
  obtain⟨W,cE⟩:=d gW gW;have d8:=l (.inr rfl);obtain⟨f9,Z⟩:=C rfl;have d7:=un (e -1) ae ae;have q:=k gW;subst q;have s:=iH.v (e -1) ae ae;simp only[kv,kD];rw[d7];by_cases a2:t<e -1
  . simp only[a2,fk]
    exact⟨.same,⟨al,eh _,il _,iH,λh=>by simp at h⟩,λ_ _=>s,hg,λ_=>.inr gW⟩
  . simp only[a2,eo]
    refine⟨.same,⟨al,eh _,il _,iH,λ_=>⟨?_,?_,?_,λ_ _=>⟨W,cE⟩,?_,?_,λ_=>⟨s,by simp only[];omega⟩,?_,?_,?_,?_,?_⟩⟩,?_,λ_=>rfl,λ_=>.inl Ez⟩<;>simp
 |
  8,_=>
  obtain⟨W,cE⟩:=d gW gW;obtain⟨d8,f9⟩:=F rfl;have d7:=un (t+1) ae ae;simp only[kv,kD];rw[d7];have g7:∀t,kj b n t≠b:=λt=>by unfold kj;omega
  have wr:∀j,gX f E j L (if L.getD b 0=t then L.set b (t+1)else L):=λ_=>.iff (λ_=>.put D.dE (show 1<=t+1 by omega)) zn;have r:(if L.getD b 0=t then L.set b (t+1)else L).getD (b+1) 0=L.getD (b+1) 0:=by grind
  refine⟨wr _,⟨al,eh _,il _,⟨(wr .no).dE D.dE iH.t1,by rw[r];exact iH.av,λi a c=>(wr .no).v (D.o0 _) (iH.v i a c)⟩,λ_=>⟨?_,?_,?_,λ_ _=>⟨W,cE⟩,?_,?_,?_,λ_ _=>d8,?_,?_,?_,?_⟩⟩,?_,λ_=>rfl,λ_=>.inl Ez⟩<;>simp
 |
  9,_=>
  obtain⟨W,cE⟩:=d gW gW;have d8:=G rfl;simp only[kv,kD];have g7:∀t,kj b n t≠b+1:=λt=>by unfold kj;omega
  have ag:(L.set (b+1) e).getD (b+1) 0=e:=rI ae;refine⟨.put D.iL rfl,⟨al,eh _,il _,⟨by rw[ms ae];exact iH.t1,by rw[ag];exact cE,λi a c=>by rw[ms (g7 _)];exact iH.v i a c⟩,λh=>?_⟩,λh _=>?_,λh=>?_,λ_=>.inr gW⟩
  . exfalso;cases fP<;>simp at h
  . cases fP
    . simp at h
    . exact d8 rfl
  . exfalso;cases fP<;>simp at h
 |
  10,_=>
  simp only[kv,kD];refine⟨.same,⟨al,eh _,il _,iH,λ_=>⟨?_,?_,?_,?_,?_,?_,?_,?_,?_,λ_=>iH.t1,?_,?_⟩⟩,?_,λ_=>rfl,?_⟩<;>simp
 |
  11,_=>
  have g:=u gW;simp only[kv,kD];by_cases a2:L.getD (b+1) 0<=t
  . simp only[a2,fk]
    refine⟨.same,⟨al,eh _,il _,iH,λh=>by simp at h⟩,?_,?_,?_⟩<;>simp
  . simp only[a2,eo]
    refine⟨.same,⟨al,eh _,il _,iH,λ_=>⟨?_,?_,?_,?_,?_,?_,?_,?_,?_,λ_=>g,λ_=>⟨by simp only[];omega,iH.av⟩,?_⟩⟩,?_,λ_=>rfl,?_⟩<;>simp
 |
  12,_=>
  have g:=u gW;obtain⟨W,cE⟩:=B gW;have s:=iH.v t g ae;simp only[kv,kD];refine⟨.same,⟨al,eh _,il _,iH,λ_=>⟨?_,?_,?_,?_,?_,?_,?_,?_,?_,λ_=>g,λ_=>⟨W,cE⟩,λ_=>s⟩⟩,?_,λ_=>rfl,?_⟩<;>simp
 |
  13,_=>
  have I:¬(1:Int)=0:=gW;have J:¬(6:Int)=0:=gW;have g:=u gW;obtain⟨W,cE⟩:=B gW;have s:=H rfl;have d7:=un (t+1) ae ae;simp only[kv,kD];rw[d7];have wr:∀j,gX f E j L (if L.getD b 0=t then L.set b (t+1)else L):=λ_=>.iff (λ_=>.put D.dE (show 1<=t+1 by omega)) zn;have r:(if L.getD b 0=t then L.set b (t+1)else L).getD (b+1) 0=L.getD (b+1) 0:=by grind
  refine⟨wr _,⟨al,eh _,il _,⟨(wr .no).dE D.dE iH.t1,by rw[r];exact iH.av,λi a c=>(wr .no).v (D.o0 _) (iH.v i a c)⟩,λh=>?_⟩,λ_ _=>s,λh=>?_,hg⟩
  . exfalso;revert h;split;exact I;exact J
  . exfalso;revert h;split;exact I;exact J
def Sx{v:Int}{pc:Nat}(aH:pc<=3->dI E .act v)(h:pc=0\/pc=4\/pc=10):ub E b n al L (mS pc v):=λ_=>by
 rcases h with rfl|rfl|rfl<;>(constructor<;>simp[mS]<;>first|exact aH bN|done)
end
end Go.L.Th
