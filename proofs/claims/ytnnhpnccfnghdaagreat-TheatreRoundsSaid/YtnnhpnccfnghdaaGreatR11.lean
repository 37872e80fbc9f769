import Derived.Test.YtnnhpnccfnghdaaGreatR10
set_option linter.all false
set_option maxRecDepth 8000
set_option maxHeartbeats 8000000
namespace Go.Proofs.YtnnhpnccfnghdaaGreat.L
open Go.L Go.L.Ring Go.L.dq Go.L.dA
attribute[local irreducible] G cE GE cY GT b0 df c4 di Exit.then Exit.inBlock
section
variable{B:fL}{L:List Int}{w:Nat}
def _root_.Go.L.dA.fL.amb(O:w<B.bV):w*(2+B.eN)+(2+B.eN)<=B.bV*(2+B.eN):=by
 have:=pW (2+B.eN) (show w+1<=B.bV from O);exact HB
def kg.be(h:kg B L):Hn B.b B.bV L:=⟨h.bQ,by have:=h.len;unfold fL.size at this;omega,h.dB⟩
def kg.hf(h:kg B L):sd B.ed B.na L:=⟨h.cr,by have:=h.hg;omega,by have:=h.len;unfold fL.size at this;unfold fL.ed;omega,h.dB⟩
def kg.hK(h:kg B L)(O:w<B.bV):yD (B.cn w) B.eN L:=⟨h.s1,h.pS,by have:=h.len;have:=fL.amb O;unfold fL.size at*;unfold fL.cn;omega,h.dB⟩
end
section
variable(X:kQ)(B:fL)(p:Nat)(L:List Int)(c:gC)(t:Int)
def kg.ed{B:fL}{L:List Int}(h:kg B L):B.ed<=65536:=by have:=h.len;have:=h.dB;unfold fL.size at*;unfold fL.ed;omega
def ap2(l:List Src):(nB l).val=0:=by
 cases l with
 |nil=>rfl
 |cons s l=>cases s<;>rfl
theorem NC(hp:c.out=0->c.val=0)(f:FuncId)(J:Value)(h:∀(x y:Value),ad aa f [ptr p 0] [cU p x y c.out c.val (gJ X)] (aH J [cU p x y c.out c.val (gJ X)])):
 ad aa f [ptr p 0] wM (aH J wM):=by
 by_cases aK:c.out=0
 . have Y:=hp aK
   rw[aK,Y]at h;have e:gV X B p c=kC X B p c.ph:=by unfold gV;rw[bd aK]
   rw[e];cases V:c.ph<;>exact kz (λx ah=>kd (h _ _) nA ND)
 . have e:gV X B p c=DM X p c.out c.val:=by unfold gV;rw[a8 aK]
   rw[e];exact kz (λx ah=>kd (h _ _) nA ND)
def uP(hp:c.out=0->c.val=0):ad aa 254 [ptr p 0] wM (aH (.bool c.over) wM):=NC X B p c hp _ _ (λx y=>ts p _ x y c.out c.val)
def XX(hp:c.out=0->c.val=0):ad aa 81 [ptr p 0] wM (aH (af c.out) wM):=NC X B p c hp _ _ (λx y=>GV p _ x y c.out c.val)
def ap3(hp:c.out=0->c.val=0):ad aa 85 [ptr p 0] wM (aH (bw c.val) wM):=NC X B p c hp _ _ (λx y=>GX p _ x y c.out c.val)
def ap4(cb:kg B L)(w:Nat)(O:w<B.bV)(v:Int)(o:ie)(ak:qo o)(aK:o.out=0)(I:(jb (B.cn w) B.eN L o).over=false):ad aa 474 [ptr p 0] XY (aH gR (gV X B p ⟨.push w DO v,0,0⟩::A6)):=by
 refine e1 .head (λe V=>?_);obtain⟨q,c1,bn,b9⟩:=e;refine gh ?_;have b:o.over=false:=HC;have cc:=Hq q (X.hK w) X.m (B.cn w) B.eN L t o (cb.hK O) ak;exact XZ
def ap5(cb:kg B L)(w:Nat)(O:w<B.bV)(v:Int)(o:ie)(ak:qo o)(aK:o.out=0)(I:(jb (B.cn w) B.eN L o).over=true):ad aa 474 [ptr p 0] XY (aH gR (gV X B p X0::A6)):=by
 refine e1 .head (λe V=>?_);obtain⟨q,c1,bn,b9⟩:=e;refine gh ?_;have b:o.over=false:=HC;have cc:=Hq q (X.hK w) X.m (B.cn w) B.eN L t o (cb.hK O) ak;rw[I,b]at cc;simp only[eP,ep]at cc;refine pO A6
  ((uP X B p X0 ?_).mono λv H h=>?_)
  cc (apv X B p _ _ cb.ed (show 0<B.bV from cb.aG) v q (X.hK w) c1 bn b9 DO) (g:=λD=>by simp only[cp,cm];exact(sf (au))) (q:=λD=>by simp only[cp,cm];exact(au))
 . exact uQ
 . exact uR
def ap6(cb:kg B L)(v:Int)(o:hJ)(ak:n9 o)(aK:o.out=0)(I:(iw B.ed B.na L o).over=false):ad aa 474 [ptr p 0] X1 (aH gR (gV X B p ⟨.enter wN v,0,0⟩::uS)):=by
 refine e1 .head (λe V=>?_);obtain⟨q,c1,bn,b9⟩:=e;refine gh ?_;have b:o.over=false:=A7;have cc:=A3 q X.hf X.m B.ed B.na L t o cb.hf ak;exact XZ
def ap7(cb:kg B L)(v:Int)(o:hJ)(ak:n9 o)(aK:o.out=0)(I:(iw B.ed B.na L o).over=true):ad aa 474 [ptr p 0] X1 (aH gR (gV X B p X2::uS)):=by
 refine e1 .head (λe V=>?_);obtain⟨q,c1,bn,b9⟩:=e;refine gh ?_;have b:o.over=false:=A7;have cc:=A3 q X.hf X.m B.ed B.na L t o cb.hf ak;rw[I,b]at cc;simp only[eP,ep]at cc;refine pO uS
  ((uP X B p X2 ?_).mono λv H h=>?_)
  cc (apw X B p _ _ cb.ed (show 0<B.bV from cb.aG) v q X.hf c1 bn b9 wN) (g:=λD=>by simp only[cp,cm];exact(sf (au))) (q:=λD=>by simp only[cp,cm];exact(au))
 . exact uQ
 . exact uR
def ap8(cb:kg B L)(o:hL)(hk:o.k<=4)(hC:o.w<B.bV)(aK:o.out=0)(I:(j4 B.b B.bV L o).over=false):ad aa 474 [ptr p 0] X3 (aH gR (gV X B p ⟨.ring si,0,0⟩::uT)):=by
 refine e1 .head (λe V=>?_);obtain⟨q,c1⟩:=e;refine gh ?_;have b:o.over=false:=DP;have cc:=DG q X.be X.m B.b B.bV L t o cb.be hk hC;rw[I,b]at cc;simp only[eP,ep]at cc;refine ql cc (λD=>?_);refine gh ?_;exact sf (cF (q,c1) V (au))
def ap9(cb:kg B L)(o:hL)(hk:o.k<=4)(hC:o.w<B.bV)(aK:o.out=0)(I:(j4 B.b B.bV L o).over=true):ad aa 474 [ptr p 0] X3 (aH h6 (gV X B p ⟨.ring si,1,0⟩::uT)):=by
 refine e1 .head (λe V=>?_);obtain⟨q,c1⟩:=e;refine gh ?_;have b:o.over=false:=DP;have cc:=DG q X.be X.m B.b B.bV L t o cb.be hk hC;rw[I,b]at cc;simp only[eP,ep]at cc;refine pO uT
  ((uP X B p ⟨.ring si,1,0⟩ ?_).mono λv H h=>?_)
  cc ((fun(_:hL)=>apu X B p _ _ c1) si) (g:=λD=>by simp only[cp,cm];exact(A5 bJ _ _ (au))) (q:=λD=>by simp only[cp,cm];exact(au))
 . exact uQ
 . exact uR
def aqa(cb:kg B L)(w:Nat)(O:w<B.bV)(l:List Src)(o:ie)(ak:qo o)(aK:o.out=0)(I:(jb (B.cn w) B.eN L o).over=false):ad aa 474 [ptr p 0] X4 (aH gR (gV X B p ⟨.ig w DO l,0,0⟩::A6)):=by
 refine e1 .head (λe V=>?_);obtain⟨q,c1,bn,b9,a,c,ce,s⟩:=e;refine gh ?_;have b:o.over=false:=HC;have cc:=Hq q (X.hK w) X.m (B.cn w) B.eN L t o (cb.hK O) ak;exact X5
def aqb(cb:kg B L)(w:Nat)(O:w<B.bV)(l:List Src)(o:ie)(ak:qo o)(aK:o.out=0)(I:(jb (B.cn w) B.eN L o).over=true):ad aa 474 [ptr p 0] X4 (aH (.bool (gC.over NE)) (gV X B p NE::A6)):=by
 refine e1 .head (λe V=>?_);obtain⟨q,c1,bn,b9,a,c,ce,s⟩:=e;refine gh ?_;have b:o.over=false:=HC;have cc:=Hq q (X.hK w) X.m (B.cn w) B.eN L t o (cb.hK O) ak;rw[I,b]at cc;simp only[eP,ep]at cc;refine pO A6
  ((uP X B p NE ?_).mono λv H h=>?_)
  cc (apX X B p _ _ cb.ed a c l ce s w q c1 bn b9 DO) (g:=λD=>by simp only[cp,cm];exact(au)) (q:=λD=>by simp only[cp,cm];exact(au))
 . exact uQ
 . exact uR
def aqc(cb:kg B L)(l:List Src)(o:hJ)(ak:n9 o)(aK:o.out=0)(I:(iw B.ed B.na L o).over=false):ad aa 474 [ptr p 0] X6 (aH gR (gV X B p ⟨.mY wN l,0,0⟩::uS)):=by
 refine e1 .head (λe V=>?_);obtain⟨q,c1,bn,b9,a,c,ce,s⟩:=e;refine gh ?_;have b:o.over=false:=A7;have cc:=A3 q X.hf X.m B.ed B.na L t o cb.hf ak;exact X5
def aqd(cb:kg B L)(l:List Src)(o:hJ)(ak:n9 o)(aK:o.out=0)(I:(iw B.ed B.na L o).over=true):ad aa 474 [ptr p 0] X6 (aH (.bool (gC.over NF)) (gV X B p NF::uS)):=by
 refine e1 .head (λe V=>?_);obtain⟨q,c1,bn,b9,a,c,ce,s⟩:=e;refine gh ?_;have b:o.over=false:=A7;have cc:=A3 q X.hf X.m B.ed B.na L t o cb.hf ak;rw[I,b]at cc;simp only[eP,ep]at cc;refine pO uS
  ((uP X B p NF ?_).mono λv H h=>?_)
  cc (apY X B p _ _ cb.ed a c l ce s 0 q c1 bn b9 wN) (g:=λD=>by simp only[cp,cm];exact(au)) (q:=λD=>by simp only[cp,cm];exact(au))
 . exact uQ
 . exact uR
def aqe(cb:kg B L)(w:Nat)(O:w<B.bV)(o:hL)(hk:o.k<=4)(hC:o.w<B.bV)(aK:o.out=0)(I:(j4 B.b B.bV L o).over=true):ad aa 474 [ptr p 0] (kC X B p (.rs w o)::wO) (aH gR (gV X B p ⟨.lD w (k4 true 0),0,0⟩::uT)):=by
 refine e1 .head (λe V=>?_);obtain⟨q,c1,bn,b9⟩:=e;refine gh ?_;have b:o.over=false:=DP;have cc:=DG q X.be X.m B.b B.bV L t o cb.be hk hC;rw[I,b]at cc;simp only[eP,ep]at cc;refine pO uT
  ((uP X B p ⟨.lD w (k4 true 0),0,0⟩ ?_).mono λv H h=>?_)
  cc ((fun(_:hL)=>apC X B p _ _ cb.ed c1 bn b9 w) si) (g:=λD=>by simp only[cp,cm];exact(sf (au))) (q:=λD=>by simp only[cp,cm];exact(au))
 . exact uQ
 . exact uR
def aqf(cb:kg B L)(w:Nat)(O:w<B.bV)(o:hJ)(ak:n9 o)(aK:o.out=0)(I:(iw B.ed B.na L o).over=false):ad aa 474 [ptr p 0] X7 (aH gR (gV X B p ⟨.lD w wN,0,0⟩::uS)):=by
 refine e1 .head (λe V=>?_);obtain⟨q,en,c1,bn,b9⟩:=e;refine gh ?_;have b:o.over=false:=A7;have cc:=A3 q X.hf X.m B.ed B.na L t o cb.hf ak;rw[I,b]at cc;simp only[eP,ep]at cc;refine ql cc (λD=>?_);refine gh ?_;exact sf (cF (q,en,c1,bn,b9) V (au))
def aqg(cb:kg B L)(w:Nat)(O:w<B.bV)(o:hJ)(ak:n9 o)(aK:o.out=0)(I:(iw B.ed B.na L o).over=true):ad aa 474 [ptr p 0] X7 (aH (.bool (gC.over NG)) (gV X B p NG::uS)):=by
 refine e1 .head (λe V=>?_);obtain⟨q,en,c1,bn,b9⟩:=e;refine gh ?_;have b:o.over=false:=A7;have cc:=A3 q X.hf X.m B.ed B.na L t o cb.hf ak;rw[I,b]at cc;simp only[eP,ep]at cc;refine pO uS
  ((uP X B p NG ?_).mono λv H h=>?_)
  cc (apD X B p _ _ w O q en c1 bn b9 wN) (g:=λD=>by simp only[cp,cm];exact(au)) (q:=λD=>by simp only[cp,cm];exact(au))
 . exact uQ
 . exact uR
def aqh(cb:kg B L)(w:Nat)(O:w<B.bV)(v:Int)(o:hL)(hk:o.k<=4)(hC:o.w<B.bV)(aK:o.out=0)(I:(j4 B.b B.bV L o).over=true):ad aa 474 [ptr p 0] (kC X B p (.up w v o)::wO) (aH h6 (gV X B p ⟨.up w v si,1,v⟩::uT)):=by
 refine e1 .head (λe V=>?_);obtain⟨q,z,en,bn,g⟩:=e;refine gh ?_;have b:o.over=false:=DP;have cc:=DG q X.be X.m B.b B.bV L t o cb.be hk hC;rw[I,b]at cc;simp only[eP,ep]at cc;replace V:g.value=v:=V;refine pO uT
  ((uP X B p ⟨.up w v si,1,v⟩ ?_).mono λv H h=>?_)
  cc ((fun(_:hL)=>apE X B p _ _ z en bn g) si) (g:=λD=>by simp only[cp,cm];exact(by rw[V];exact(A5 (by decide) _ _ (au)))) (q:=λD=>by simp only[cp,cm];exact(au))
 . exact uQ
 . exact uR
def aqi(cb:kg B L)(o:hL)(hk:o.k<=4)(hC:o.w<B.bV)(aK:o.out=0)(I:(j4 B.b B.bV L o).over=true):ad aa 474 [ptr p 0] (kC X B p (.o9 o)::wO) (aH h6 (gV X B p X8::uT)):=by
 refine e1 .head (λe V=>?_);obtain⟨q,c1,bn⟩:=e;refine gh ?_;have b:o.over=false:=DP;have cc:=DG q X.be X.m B.b B.bV L t o cb.be hk hC;rw[I,b]at cc;simp only[eP,ep]at cc;have d:(j4 B.b B.bV L o).out≠0:=by simpa[hL.over]using I
 refine pO uT
  ((uP X B p X8 ?_).mono λv H h=>?_)
  cc (apA X B p _ _ c1 bn q si) (g:=λD=>by simp only[cp,cm];exact(A5 d _ _ (au))) (q:=λD=>by simp only[cp,cm];exact(au))
 . exact uQ
 . exact uR
abbrev yK:List aq:=[ch X.m L t,fS X B,cd X B,iR X B,eM X B,ax (lG X B)]
def DQ{D R':List aq}(f:∀h,Sat D h->Sat R' h):∀(l:List aq) (h:eA),Sat (l++D) h->Sat (l++R') h
 |[],h,s=>f h s
 |_::l,_,s=>Sat.tail (DQ f l) s
def aqj{P:Program}{f:FuncId}{args:List Value}{M N uk:List aq}{z:aq}{J:Value}{i:Nat}(e:uk[i]?=some z)(h:ad P f args (M++[z]) (aH J (N++[z]))):ad P f args (M++[ax uk]) (aH J (N++[ax uk])):=λF D w s=>
 (h F (ax (uk.set i ft) :: D) w (s.imp fun g t => by rw [jE] at t ⊢; exact DQ (sj e) M g t)).mono fun _ _ ⟨v, H, ay, ⟨aV, bz⟩, s⟩ => ⟨v, _, ay, wP, s.imp fun g t => by
  subst bz;rw[jE]at t⊢;obtain⟨ak,rfl⟩:=dc.1 e;refine DQ (λg t=>?_) N g t;have:=uU ak g t;rwa[yL]at this⟩
def aqk{X:kQ}{B:fL}{w:Nat}(O:w<B.bV):(lG X B)[w]?=some (nF (X.hK w) X.m (B.cn w) B.eN):=by simp[lG,O]
end
section
variable{X:kQ}{B:fL}{p w:Nat}{L F:List Int}{t:Int}{ph:tx}{z:gC}{J:Value}
theorem HD(O:w<B.bV)(h:ad aa 474 [ptr p 0] (kC X B p ph::NH) (aH J (gV X B p z::ch X.m F (fZ t)::NI))):
 ad aa 474 [ptr p 0] (kC X B p ph::yK X B L t) (aH J (gV X B p z::yK X B F (fZ t))):=
 aqj (M:=X9) (N:=Ya) (aqk O) h
theorem sk(h:ad aa 474 [ptr p 0] X9 (aH J Ya)):
 ad aa 474 [ptr p 0] (kC X B p ph::yK X B L t) (aH J (gV X B p z::yK X B F (fZ t))):=
 kd h bF Yb
end
def aql(X:kQ)(B:fL)(p:Nat)(L:List Int)(t:Int)(c:gC)(cb:kg B L)(a6:wE B c):ad aa 474 [ptr p 0] (gV X B p c::yK X B L t)
 (aH (.bool (lE B L c).over) (gV X B p (lE B L c)::yK X B (nC B L c) (if c.over then t else fZ t))):=by
 obtain⟨ph,out,val⟩:=c;by_cases aK:out=0
 . subst aK
   obtain⟨V,Y⟩:=a6 rfl;obtain rfl:val=0:=Y;have i:(sl:gC).over=false:=rfl;have ay:lE B L sl=(h0 B L sl).2:=by unfold lE;rw[i];rfl
   have aV:nC B L sl=(h0 B L sl).1:=by unfold nC;rw[i];rfl
   have bz:gV X B p sl=kC X B p ph:=rfl;rw[ay,aV,bz,i];simp only[eP,ep];cases ph with
   |
    push w o v=>
    obtain⟨O,ak,T,_⟩:=V;cases I:(jb (B.cn w) B.eN L o).over with
    |false=>have:=HD O (ap4 X B p L t cb w O v o ak T I);simp only[h0,I,eP,ep];exact this
    |
     true=>
     have:=HD O (ap5 X B p L t cb w O v o ak T I);simp only[h0,I,fi];split<;>rename_i ah
     . rw[bd ah]at this;exact this
     . rw[a8 ah]at this;exact this
   |
    enter o v=>
    obtain⟨ak,T,_⟩:=V;cases I:(iw B.ed B.na L o).over with
    |false=>have:=sk (ap6 X B p L t cb v o ak T I);simp only[h0,I,eP,ep];exact this
    |
     true=>
     have:=sk (ap7 X B p L t cb v o ak T I);simp only[h0,I,fi];split<;>rename_i ah
     . rw[bd ah]at this;exact this
     . rw[a8 ah]at this;exact this
   |
    ring o=>
    obtain⟨hk,O,T⟩:=V;cases I:(j4 B.b B.bV L o).over with
    |false=>have:=sk (ap8 X B p L t cb o hk O T I);simp only[h0,I,eP,ep];exact this
    |true=>have:=sk (ap9 X B p L t cb o hk O T I);simp only[h0,I,fi];exact this
   |
    ig w o l=>
    obtain⟨O,ak,T,_⟩:=V;cases I:(jb (B.cn w) B.eN L o).over with
    |false=>have:=HD O (aqa X B p L t cb w O l o ak T I);simp only[h0,I,eP,ep];exact this
    |true=>have:=HD O (aqb X B p L t cb w O l o ak T I);simp only[h0,I,fi];exact this
   |
    mY o l=>
    obtain⟨ak,T,_⟩:=V;cases I:(iw B.ed B.na L o).over with
    |false=>have:=sk (aqc X B p L t cb l o ak T I);simp only[h0,I,eP,ep];exact this
    |true=>have:=sk (aqd X B p L t cb l o ak T I);simp only[h0,I,fi];exact this
   |
    rs w o=>
    obtain⟨O,hk,hC,T⟩:=V;exact sk (aqe X B p L t cb w O o ae hC T (Hj ae T))
   |
    lD w o=>
    obtain⟨O,ak,T⟩:=V;cases I:(iw B.ed B.na L o).over with
    |false=>have:=sk (aqf X B p L t cb w O o ak T I);simp only[h0,I,eP,ep];exact this
    |true=>have:=sk (aqg X B p L t cb w O o ak T I);simp only[h0,I,fi];exact this
   |
    up w v o=>
    obtain⟨O,hk,hC,T⟩:=V;exact sk (aqh X B p L t cb w O v o ae hC T (Hj ae T))
   |
    o9 o=>
    obtain⟨hk,hC,T⟩:=V;have I:=Hj (b:=B.b) (n:=B.bV) (L:=L) ae T;have:=sk (aqi X B p L t cb o ae hC T I);have e:(gC.mk (.o9 si) (j4 B.b B.bV L o).out 0).over=true:=I;simp only[h0];rw[e];exact this
 . have I:(pa:gC).over=true:=by simp[gC.over,aK]
   have ay:lE B L pa=pa:=by unfold lE;rw[bd I]
   have aV:nC B L pa=L:=by unfold nC;rw[bd I]
   have bz:gV X B p pa=DM X p out val:=by unfold gV;rw[a8 aK]
   rw[ay,aV,I,bz];simp only[fi];have h:ad aa 474 [ptr p 0] [DM X p out val] (aH h6 [DM X p out val]):=kz (λx ah=>kd (MN p _ _ _ out val aK) nA ND);exact kd h bF Yb
section
variable(m b bV n eN na:Nat){X:kQ}(L:List Int){B:fL}(t:Int){N:List Nat}
def iQ(L:List Int)(b:Nat):Nat->List Int
 |0=>L
 |i+1=>(iQ L b i).set (b+i) (if i<2 then 1 else 0)
def NJ(L:List Int)(b:Nat):∀i,(iQ L b i).length=L.length
 |0=>rfl
 |i+1=>by rw[iQ,gn,NJ L b i]
def NK(h1:1<=n)(h2:n<=8):ad aa 103 [af n] [] (aH (af (n:Nat)) []):=by
 have:=apq (n:Int);rwa[bd ae]at this
def NL(h1:1<=n)(h2:n<=64):ad aa 104 [af n] [] (aH (af ((2+2*n:Nat):Int)) []):=by
 have:=apr (n:Int);rw[bd ae]at this;rwa[show((2+2*n:Nat):Int)=2+2*(n:Int) by omega]
def NM(h1:1<=n)(h2:n<=64):ad aa 105 [af n] [] (aH (af ((2+n:Nat):Int)) []):=by
 have:=aps (n:Int);rw[bd ae]at this;rwa[show((2+n:Nat):Int)=2+(n:Int) by omega]
def sm(L:List Int)(B:fL):Nat->List Int
 |0=>iv (iv L B.b B.bV) B.ed (2+2*B.na)
 |k+1=>iQ (sm L B k) (B.cn k) (2+B.eN)
def NN(L:List Int)(B:fL):∀k,(sm L B k).length=L.length
 |0=>by rw[sm,wQ,wQ]
 |k+1=>by rw[sm,NJ,NN L B k]
def yM(B:fL)(N:List Nat):List aq:=N.mapIdx λw q=>nF q m (B.cn w) B.eN
def aqm{m:Nat}{B:fL}{N:List Nat}{q:Nat}:yM m B (N++[q])=yM m B N++[nF q m (B.cn N.length) B.eN]:=Yc
def aqn(av:N.length=B.bV)(ah:X.hK=λw=>N.getD w 0):lG X B=yM X.m B N:=by
 unfold lG yM;rw[ah,<-av];exact Yd
def aqo(av:N.length=B.bV)(ah:X.hK=λw=>N.getD w 0):A4 X B=N.map λq=>ptr q 0:=by
 unfold A4;rw[ah,<-av];exact Yd
def aqp(J:Hn b n L)(h1:1<=n):ad aa 109 AL wu (λu H=>∃q,u=.tuple #[ptr q 0,af 0]/\H=[ch m (iv L b (n)) (ju (n) t),mZ q m b n]):=by
 refine aw Tryz.func109 λF D=>?_;have h2:=J.n8;have hlen:=J.len;have g:=J.dB;refine cv ?_;refine aT (NK n h1 h2) ?_;refine HE ?_;refine gG (bv:=Nat) (λx=>x<=n) (λx=>((31,af x)::(30,af ((n:Nat):Int))::HF)) (λx=>ch m (iv L b x) (ju x t)::D) (λx=>n -x) 0 (eX _) dy (au) ?_;intro k hk;refine bi ?_;refine cg (λW=>?_) (λW=>?_)
 . exact NO
 . obtain rfl:k=n:=by omega
   exact Ye
def aqq(J:sd b n L):ad aa 110 AL wu (λu H=>∃q,u=.tuple #[ptr q 0,af 0]/\H=[ch m (iv L b (2+2*n)) (ju (2+2*n) t),kP q m b n]):=by
 refine aw Tryz.func110 λF D=>?_;have h1:=J.ef;have h2:=J.jQ;have hlen:=J.len;have g:=J.dB;refine cv ?_;refine aT (NL n h1 h2) ?_;refine HE ?_;refine Yf ?_;intro k hk;refine cg (λW=>?_) (λW=>?_)
 . exact NO
 . exact Yg
def aqr(J:yD b n L):ad aa 111 AL wu (λu H=>∃q,u=.tuple #[ptr q 0,af 0]/\H=[ch m (iQ L b (2+n)) (ju (2+n) t),nF q m b n]):=by
 refine aw Tryz.func111 λF D=>?_;have h1:=J.ef;have h2:=J.jQ;have hlen:=J.len;have g:=J.dB;refine cv ?_;refine aT (NM n h1 h2) ?_;refine HE ?_;refine gG (bv:=Nat) (λx=>x<=2+n) (λx=>((32,af x)::(31,af ((2+n:Nat):Int))::HF)) (λx=>ch m (iQ L b x) (ju x t)::D) (λx=>2+n -x) 0 (eX _) dy (au) ?_;intro k hk;refine bi ?_;refine cg (λW=>?_) (λW=>?_)
 . refine gg ?_
   refine bb ?_;refine cg (λM=>?_) (λM=>?_)
   . refine c8 ?_
     refine Yh ?_;refine fD (k+1) (show k+1<=_ by omega) ae dy (by rw[iQ,bd (by omega)];exact(au))
   . refine bQ ?_
     refine Yh ?_;refine fD (k+1) (show k+1<=_ by omega) ae dy (by rw[iQ,a8 (by omega)];exact(au))
 . obtain rfl:k=2+n:=by omega
   refine dC ?_;refine wn λa=>?_;exact NP
def Yi(h1:1<=bV)(h2:bV<=8)(aN:1<=eN)(bu:eN<=64)(dW:1<=na)(g1:na<=16):ad aa 59 [af bV,af eN,af na] [] (aH (af ((fL.size ⟨b,bV,eN,na⟩:Nat):Int)) []):=by
 refine aw Tryz.func59 λF D=>?_;have bf:bV*(2+eN)<=8*66:=qq h2 ae;refine bQ ?_;refine aT (NK bV h1 h2) ?_;refine aG ?_;refine ci rfl (b1 rfl (NL na dW ae) bF) ?_;refine hb ?_;refine rV ?_;refine aT (NM eN aN bu) ?_;refine c0 ?_;refine o2 rfl rfl h5 ?_;refine Yj ?_;refine o2 rfl rfl h5 ?_;refine Yk ?_;refine aB rfl (fk ((bV+(2+2*na):Nat):Int) eZ rfl rfl) ?_;refine bb ?_;refine aB rfl (rm ((bV*(2+eN):Nat):Int) (by rw[<-DJ];exact je (by generalize bV*(2+eN)=E at bf⊢;omega)) rfl rfl) ?_;refine aB rfl (fk ((bV+(2+2*na)+bV*(2+eN):Nat):Int) (by generalize bV*(2+eN)=E at bf⊢;rw[je (by omega)];omega) rfl rfl) ?_;refine bB ?_;exact aX ⟨rfl,rfl⟩
def aqs(J:kg ⟨b,bV,eN,na⟩ L):ad aa 65 [ptr m 0,af b,af bV,af eN,af na] wu (λu H=>∃(X:kQ) (dk:Int),X.m=m/\u=.tuple #[ptr X.c 0,af 0]/\H=yK X (⟨b,bV,eN,na⟩:fL) (sm L (⟨b,bV,eN,na⟩:fL) bV) dk):=by
 refine aw Tryz.func65 λF D=>?_;have h1:1<=bV:=J.aG;have h2:bV<=8:=J.bQ;have aN:1<=eN:=J.s1;have bu:eN<=64:=J.pS;have dW:1<=na:=J.cr;have g1:na<=16:=J.hg;have hlen:b+(bV+(2+2*na)+bV*(2+eN))<=L.length:=J.len;have g:=J.dB;obtain⟨aY,l⟩:∃E,E=fL.size ⟨b,bV,eN,na⟩:=⟨_,rfl⟩;have cc:=Yi b bV eN na h1 h2 aN bu dW g1;rw[<-l]at cc;have K:1<=aY:=by rw[l];show 1<=bV+(2+2*na)+bV*(2+eN);omega
 have j:b+aY<=L.length:=by rw[l];exact hlen
 refine c0 ?_;refine aT (cc) ?_;refine Yl ?_;refine bB ?_;refine wn λf=>?_;refine cv ?_;refine ci rfl (b1 rfl (aqp m b bV L _ ⟨h2,by omega,g⟩ h1) bF) ?_;rintro _ D ⟨_,⟨be,rfl,rfl⟩,rfl⟩;refine Gb ?_;refine aT (NK bV h1 h2) ?_;refine aB rfl (fk ((b+bV:Nat):Int) eZ rfl rfl) ?_;refine cv ?_;refine ci rfl (b1 rfl (aqq m (b+bV) na (iv L b bV) _ ⟨dW,by omega,by rw[wQ];omega,by rw[wQ];omega⟩) bF) ?_;rintro _ D ⟨_,⟨hf,rfl,rfl⟩,rfl⟩;refine Gb ?_;refine ci rfl (b1 rfl (NL na dW ae) bF) ?_;refine hb ?_;refine fm ?_;refine aB rfl (fk ((b+bV+(2+2*na):Nat):Int) eZ rfl rfl) ?_;refine bB ?_;refine nu (iV (e:=210) (aY:=1)) ?_;refine nu wR ?_;refine bi ?_;refine gG (bv:=List Nat×(Option Addr×Nat)×Int) (λe=>e.1.length<=bV) (λe=>[(70,af e.1.length),(69,af bV),(13,ptr f 0),(0,ptr m 0),(1,af ((b+bV+(2+2*na):Nat):Int)),(3,af eN)]) (λe=>ch m (sm L (⟨b,bV,eN,na⟩:fL) e.1.length) e.2.2::ab f 205 [ptr be 0,ptr hf 0,.slice e.2.1.1 e.1.length e.2.1.2]::own (.slice e.2.1.1 e.1.length e.2.1.2) 210 1 e.1.length (e.1.map λq=>ptr q 0)::ax (yM m (⟨b,bV,eN,na⟩:fL) e.1)::mZ be m b bV::kP hf m (b+bV) na::D) (λe=>bV -e.1.length) ([],(none,0),_) (eX _) dy (au) ?_;rintro⟨N,⟨a,c⟩,Y⟩ hk;replace hk:N.length<=bV:=hk;dsimp only;refine bi ?_;refine cg (λW=>?_) (λW=>?_)
 . have bf:N.length*(2+eN)+(2+eN)<=bV*(2+eN):=fL.amb (B:=(⟨b,bV,eN,na⟩:fL)) (show N.length<bV by omega)
   refine oz ?_;refine aT (NM eN aN bu) ?_;refine aB rfl (rm ((N.length*(2+eN):Nat):Int) (by rw[<-DJ];exact je (by generalize N.length*(2+eN)=E at bf⊢;omega)) rfl rfl) ?_;refine aB rfl (fk ((b+bV+(2+2*na)+N.length*(2+eN):Nat):Int) (by generalize N.length*(2+eN)=E at bf⊢;rw[je (by omega)];omega) rfl rfl) ?_;refine aG ?_;refine ci rfl (b1 rfl (aqr m (b+bV+(2+2*na)+N.length*(2+eN)) eN (sm L (⟨b,bV,eN,na⟩:fL) N.length) _ ⟨aN,bu,by rw[NN];omega,by rw[NN];omega⟩) bF) ?_;rintro _ D ⟨_,⟨q,rfl,rfl⟩,rfl⟩;refine fm ?_;refine fW ?_;refine wn λp=>?_;refine gQ λn o=>?_;refine c8 ?_;refine fD (N++[q],(n,o),_) (show(N++[q]).length<=bV by rw[eL];show N.length+1<=bV;omega) (show bV -(N++[q]).length<bV -N.length by rw[eL];show bV -(N.length+1)<bV -N.length;omega) (bg.cons uV dy) (λh s=>by dsimp only;rw[aqm,eL,o1];exact(hI.from (A:=ax (yM m (⟨b,bV,eN,na⟩:fL) N++[nF q m (fL.cn (⟨b,bV,eN,na⟩:fL) N.length) eN])) (.tail (.tail (.tail .head)))) (ty h ((au) h s)))
 . have i:N.length=bV:=by omega
   refine bi ?_;refine yq (λh s=>A8 (show 0<N.length by omega) h (hI.to (A:=own (.slice a N.length c) 210 1 N.length (N.map λq=>ptr q 0)) ey s)) ?_;rintro⟨d,rfl,-⟩;have ay:yM m (⟨b,bV,eN,na⟩:fL) N=lG ⟨f,m,be,hf,d,c,λw=>N.getD w 0⟩ (⟨b,bV,eN,na⟩:fL):=(aqn (X:=⟨f,m,be,hf,d,c,λw=>N.getD w 0⟩) (B:=(⟨b,bV,eN,na⟩:fL)) i rfl).symm;have aV:(N.map λq=>ptr q 0)=A4 ⟨f,m,be,hf,d,c,λw=>N.getD w 0⟩ (⟨b,bV,eN,na⟩:fL):=(aqo (X:=⟨f,m,be,hf,d,c,λw=>N.getD w 0⟩) (B:=(⟨b,bV,eN,na⟩:fL)) i rfl).symm;rw[ay,aV,i];refine bQ ?_;exact aX ⟨⟨f,m,be,hf,d,c,λw=>N.getD w 0⟩,Y,rfl,rfl,rfl⟩
def NQ(h1:1<=n)(h2:n<=16):ad aa 62 [af n] [] (aH (af ((n*n:Nat):Int)) []):=by
 refine aw Tryz.func62 λF D=>?_;have bf:n*n<=16*16:=qq h2 h2;refine c0 ?_;refine o2 rfl rfl h5 ?_;refine Yk ?_;refine aB rfl (rm ((n*n:Nat):Int) (by rw[<-DJ];exact je (by generalize n*n=E at bf⊢;omega)) rfl rfl) ?_;refine bB ?_;exact aX ⟨rfl,rfl⟩
def aqt(h1:1<=n)(h2:n<=16)(hlen:b+n*n<=L.length)(g:L.length<=65536):ad aa 67 AL wu (λu H=>∃q,u=.tuple #[ptr q 0,af 0]/\H=[ch m (iv L b (n*n)) (ju (n*n) t),eC q m b n]):=by
 refine aw Tryz.func67 λF D=>?_;obtain⟨aY,l⟩:∃E,E=n*n:=⟨_,rfl⟩;have K:1<=aY:=by rw[l];exact qq h1 h1
 rw[<-l]at hlen⊢;have cc:=NQ n h1 h2;rw[<-l]at cc;refine cv ?_;refine aT (cc) ?_;refine HE ?_;refine gG (bv:=Nat) (λx=>x<=aY) (λx=>((31,af x)::(30,af ((aY:Nat):Int))::HF)) (λx=>ch m (iv L b x) (ju x t)::D) (λx=>aY -x) 0 (eX _) dy (au) ?_;intro k hk;refine bi ?_;refine cg (λW=>?_) (λW=>?_)
 . exact NO
 . obtain rfl:k=aY:=by omega
   exact Ye
end
end Go.Proofs.YtnnhpnccfnghdaaGreat.L
namespace Go.Proofs.YtnnhpnccfnghdaaGreat.L.Lg
open Go.Proofs.YtnnhpnccfnghdaaGreat.L
open Go.L Go.L.Led
section
variable(p z:Nat)(r:List (Int×Int))(id w:Int)(j:Nat)
def ds:aq:=
 dj (bv:=Nat×(Option Addr×Nat)×List Int) (λx=>sr r x.2.2) (λx=>[ab p 161 (.map (some x.1)::.slice x.2.1.1 r.length x.2.1.2::x.2.2.map j5),b3 x.1 .u64 (r.map λq=>(q.1,j5 q.2)),own (.slice x.2.1.1 r.length x.2.1.2) 36 1 r.length (r.map λq=>rA q.1)])
theorem yS{p:Nat}{r m:List (Int×Int)}{M D:List aq}(z:Nat)(a:Option Addr)(c:Nat)(cs:List Int)(K:sr r cs)(e:m=r)
 (t:∀h,Sat M h->Sat (ab p 161 (.map (some z)::.slice a r.length c::cs.map j5)::b3 z .u64 (r.map λq=>(q.1,j5 q.2))::own (.slice a r.length c) 36 1 r.length (r.map λq=>rA q.1)::D) h):∀h,Sat M h->Sat (ds p m::D) h:=by
 subst e;exact cF (z,(a,c),cs) K t
theorem H6:(dJ (r.map λq=>(q.1,j5 q.2)) id).getD (.int .i64 0)=j5 (bs r id):=by
 rw[yT];unfold bs;cases dJ r id<;>rfl
theorem aqU{r:List (Int×Int)}{id:Int}(h:1<=bs r id):dJ r id=some (bs r id):=by
 unfold bs at h⊢;cases bf:dJ r id with
 |none=>rw[bf]at h;simp at h
 |some x=>simp
theorem aqV{r:List (Int×Int)}{id w x:Int}(h:dJ r id=some x):(eV r id w).map (λq=>rA q.1)=r.map (λq=>rA q.1):=by
 have:=congrArg (List.map rA) (OU (w:=w) h);rw[wU,wU]at this;exact this
def OV(x:Int):ad aa 75 [j5 x] [] (λv H=>v=.bool (decide (1<=x/\x<=6))/\H=[]):=by
 refine ko Tryz.func75 rfl rfl rfl ?_;refine Y5 ?_;intro F D;refine aB rfl (Ak rfl rfl) ?_;refine kh ?_;refine hx rfl rfl (λW=>?_) (λW=>?_) rfl
 . have f:=W
   replace f:=bN f;refine kh ?_;refine o2 rfl rfl W ?_;refine aB rfl (H7 rfl rfl) ?_;refine aB rfl (D0 W rfl rfl) ?_;exact Y6
 . have f:=W
   replace f:=bN f;simp only[jD];refine He rfl rfl W rfl ?_;refine aB rfl (yU W rfl rfl) ?_;exact Y6
theorem Y7(v:Value)(cs:List Int)(m:List (Int×Int))(id:Int)(k j:Nat)(B:cs.length=9)(hk:bs m id=k)(a:k<9)(N:j<9):
 ad aa 258 [ptr p 0,rA id,j5 j] [ab p 161 (.map (some z)::v::cs.map j5),b3 z .u64 (m.map λp=>(p.1,j5 p.2))]
  (aH (.tuple #[]) [ab p 161 (.map (some z)::v::(bump (bump cs k (-1)) j 1).map j5),b3 z .u64 ((eV m id j).map λp=>(p.1,j5 p.2))]):=by
 refine ko Tryz.func258 rfl rfl rfl ?_;refine Y8 ?_;intro F D;refine hU [15] [] [(0,.loc),(1,.loc),(2,.loc),(3,.loc),(4,.loc),(5,.loc),(6,.loc),(7,.loc),(8,.loc),(9,.loc),(10,.loc),(11,.loc),(12,.loc),(13,.loc),(14,.loc),(15,.c5)] [] mixed gB ?_;refine OW ?_
 first|refine go_v rfl .none rfl (o_load rfl rfl) ?_|refine go_v rfl .none rfl (gz rfl rfl) ?_|refine go_v rfl .none rfl (u2 rfl) ?_
 refine go_v rfl .none rfl (j6 rfl) ?_;refine go_v rfl .none rfl (l0 (j5 k) (by rw[H6,hk]) rfl rfl) ?_;refine Y9 ?_;refine go_v rfl .none rfl (o_load rfl (Za _ _ _ _ ae)) ?_;refine go_v rfl .none rfl (yF rfl rfl) ?_;refine Y9 ?_;refine go_u rfl .none (mv rfl rfl rfl (by simp[B];omega)) (λC=>absurd C bJ) ?_;rw[Zb];change cY _ _ _ _ _ _ _ (ab p _ (_::_::(bump cs k (-1)).map j5)::_) _ _;refine go_nil ?_;refine hB ?_;refine aqW ?_;refine kh ?_;refine kb (Zc rfl rfl rfl) ?_;rw[D1];refine oO ?_;refine hU [10] [] [(0,.loc),(1,.loc),(2,.loc),(3,.loc),(4,.loc),(5,.loc),(6,.loc),(7,.loc),(8,.loc),(9,.loc),(10,.c5)] [] mixed gB ?_;refine OW ?_;refine go_v rfl .none rfl (l1 rfl rfl N) ?_;refine go_v rfl .none rfl (o_load rfl (Za _ _ _ _ (by simp[bump];omega))) ?_;refine go_v rfl .none rfl (nZ rfl rfl) ?_;refine go_v rfl .none rfl (lY rfl) ?_;refine OX ?_;refine go_v rfl .none rfl (l1 rfl rfl N) ?_;refine go_u rfl .none (mv rfl rfl rfl (by simp[bump,B];omega)) (λC=>absurd C bJ) ?_;rw[Zb];refine go_nil ?_;refine Dv (.inr rfl) rfl _ (⟨rfl,rfl⟩) (au)
theorem OY(aE:r.length<=1099511627776)(g:1<=j)(N:j<9):
 ad aa 206 [ptr p 0,rA id,j5 j] [ds p r] (aH (j5 (Bn r id)) [ds p (dg r id j)]):=by
 refine ko Tryz.func206 rfl rfl rfl ?_;intro F D;simp only[ww,D2,gu,mT,lu,Nat.reduceAdd,cp,cm];refine kK ey ?_;rintro⟨z,⟨a,c⟩,cs⟩ K;have K:sr r cs:=K;simp only[cp,cm];refine hA ?_;refine ja ?_;refine aB rfl (mw rfl) ?_;refine ic ?_;refine hB ?_;refine hA ?_;refine hA ?_;refine ja ?_;refine aB rfl (j6 rfl) ?_;refine aB rfl (lY rfl) ?_
 first|refine aB rfl (tC rfl) ?_|refine aB rfl (nG rfl) ?_
 first|refine aB rfl (o_load rfl rfl) ?_|refine aB rfl (gz rfl rfl) ?_|refine aB rfl (u2 rfl) ?_
 refine aB rfl (j6 rfl) ?_;refine aB rfl (l0 _ (H6 r id) rfl rfl) ?_;refine ci rfl (b1 rfl (OV _) bF) ?_;rintro _ D ⟨_,⟨rfl,rfl⟩,rfl⟩
 try simp only[cp,cm]
 refine aB rfl (qv rfl) ?_;refine ic ?_;refine hB ?_;refine mW rfl (λW=>?_) (λW=>?_)
 ·
  replace W:=bN W;have cl:av (bs r id)=false:=by simpa[av]using W
  refine hA ?_;refine ja ?_;refine aB rfl (mw rfl) ?_;refine ic ?_;refine hB ?_;refine oJ ?_;refine yu ?_;refine jh (.inl rfl) rfl rfl [ds p (dg r id j)] (⟨by simp[Bn,cl],rfl⟩) (yS z a c cs K (by simp[dg,cl]) (au))
 ·
  replace W:=bN W;have cl:av (bs r id)=true:=by simpa[av]using W
  obtain⟨k,hk⟩:∃k:Nat,bs r id=k:=⟨(bs r id).toNat,by rw[tD]at cl;omega⟩;have b:1<=k/\k<=6:=by rw[tD]at cl;omega
  have bf:=aqU (r:=r) (id:=id) (by omega);refine rq ?_;refine hB ?_;refine hA ?_;refine ja ?_;refine aB rfl (j6 rfl) ?_;refine aB rfl (j6 rfl) ?_;refine aB rfl (j6 rfl) ?_;refine ci rfl (b1 rfl (Y7 p z _ cs r id k j K.len hk (by omega) N) bF) ?_;rintro _ D ⟨_,⟨rfl,rfl⟩,rfl⟩
  try simp only[cp,cm]
  refine ic ?_;refine hB ?_;refine hA ?_;refine ja ?_;refine aB rfl (mw rfl) ?_;refine ic ?_;refine hB ?_;refine oJ ?_;refine jh (.inl rfl) rfl rfl [ds p (dg r id j)] (⟨by simp[Bn,cl],rfl⟩) (yS z a c _ (K.move (id:=id) (by rw[bf,hk]) b.1 (by omega) g N aE) (by simp[dg,cl]) (by rw[aqV bf,OZ bf];exact(au)))
theorem Bo(aE:r.length<=1099511627776):
 ad aa 154 [ptr p 0,rA id,j5 w] [ds p r] (aH (j5 (O0 r id w)) [ds p (du r id w)]):=by
 refine ko Tryz.func154 rfl rfl rfl ?_;refine Zd ?_;intro F D;refine aqX ?_;refine mW rfl (λW=>?_) (λW=>?_)
 . replace W:=bN W
   have cl:av w=false:=Ze;refine H8 ?_;refine jh (.inl rfl) rfl rfl _ (by rw[show du r id w=r by simp[du,cl]];exact⟨by simp[O0,cl],rfl⟩) (au)
 . replace W:=bN W
   have cl:av w=true:=Ze;obtain⟨j,rfl⟩:∃k:Nat,w=k:=⟨w.toNat,by rw[tD]at cl;omega⟩;have b:1<=j/\j<=6:=aqY;refine aqZ ?_;refine ci rfl (b1 rfl (OY p r id j aE b.1 ae) bF) ?_;refine Zf ?_;refine jh (.inl rfl) rfl rfl _ (by rw[show du r id j=dg r id j by simp[du,cl]];exact⟨by simp[O0,cl],rfl⟩) (au)
theorem aq0(aE:r.length<=1099511627776):
 ad aa 292 Zg [ds p r] (aH (j5 (Bn r id)) [ds p (dg r id 7)]):=by
 refine ko Tryz.func292 rfl rfl rfl ?_;refine Zh ?_;intro F D;refine ci rfl (b1 rfl (OY p r id 7 aE ae ae) bF) ?_;exact Zi
theorem aq1(aE:r.length<=1099511627776):
 ad aa 203 Zg [ds p r] (aH (j5 (Bn r id)) [ds p (dg r id 8)]):=by
 refine ko Tryz.func203 rfl rfl rfl ?_;refine Zh ?_;intro F D;refine ci rfl (b1 rfl (OY p r id 8 aE ae ae) bF) ?_;exact Zi
theorem O1:
 ad aa 153 [ptr p 0,rA id] [ds p r] (aH (j5 (bs r id)) [ds p r]):=by
 refine ko Tryz.func153 rfl rfl rfl ?_;intro F D;simp only[ww,D2,gu,mT,lu,Nat.reduceAdd,cp,cm];refine kK ey ?_;rintro⟨z,⟨a,c⟩,cs⟩ K;have K:sr r cs:=K;simp only[cp,cm];refine hA ?_;refine ja ?_;refine aB rfl (mw rfl) ?_;refine ic ?_;refine hB ?_;refine hA ?_;refine ja ?_;refine aB rfl (j6 rfl) ?_;refine aB rfl (lY rfl) ?_
 first|refine aB rfl (tC rfl) ?_|refine aB rfl (nG rfl) ?_
 first|refine aB rfl (o_load rfl rfl) ?_|refine aB rfl (gz rfl rfl) ?_|refine aB rfl (u2 rfl) ?_
 refine aB rfl (j6 rfl) ?_;refine aB rfl (l0 _ (H6 r id) rfl rfl) ?_;refine aB rfl (mw rfl) ?_;refine ic ?_;refine hB ?_;refine oJ ?_;refine jh (.inl rfl) rfl rfl [ds p r] (⟨rfl,rfl⟩) (yS z a c cs K rfl (au))
theorem aq2(aE:r.length<=1099511627776)(hk:kR r):
 ad aa 214 [ptr p 0,rA id,j5 w] [ds p r] (aH (j5 (H9 r id w)) [ds p (dT r id w)]):=by
 refine ko Tryz.func214 rfl rfl rfl ?_;intro F D;simp only[ww,D2,gu,mT,lu,Nat.reduceAdd,cp,cm];refine kK ey ?_;rintro⟨z,⟨a,c⟩,cs⟩ K;have K:sr r cs:=K;simp only[cp,cm];refine hA ?_;refine ja ?_;refine aB rfl (mw rfl) ?_;refine ic ?_;refine hB ?_;refine hA ?_;refine tv ?_;refine hA ?_;refine ja ?_;refine aB rfl (j6 rfl) ?_;refine ci rfl (b1 rfl (OV _) bF) ?_;rintro _ D ⟨_,⟨rfl,rfl⟩,rfl⟩
 try simp only[cp,cm]
 refine aB rfl (qv rfl) ?_;refine aB rfl (mw rfl) ?_;refine ic ?_;refine hB ?_;refine mW rfl (λW=>?_) (λW=>?_)
 ·
  replace W:=bN W;have cl:av w=false:=by simpa[av]using W
  refine hA ?_;refine ja ?_;refine aB rfl (mw rfl) ?_;refine ic ?_;refine hB ?_;refine oJ ?_;refine Dq ?_;refine yu ?_;refine jh (.inl rfl) rfl rfl [ds p (dT r id w)] (⟨by simp[H9,cl],rfl⟩) (yS z a c cs K (by simp[dT,cl]) (au))
 ·
  replace W:=bN W;have cl:av w=true:=by simpa[av]using W
  refine hA ?_;refine ja ?_;refine aB rfl (j6 rfl) ?_;refine aB rfl (lY rfl) ?_
  first|refine aB rfl (tC rfl) ?_|refine aB rfl (nG rfl) ?_
  first|refine aB rfl (o_load rfl rfl) ?_|refine aB rfl (gz rfl rfl) ?_|refine aB rfl (u2 rfl) ?_
  refine aB rfl (j6 rfl) ?_;refine aB rfl (l0 _ (H6 r id) rfl rfl) ?_;refine aB rfl (mo rfl rfl) ?_;refine aB rfl (mw rfl) ?_;refine ic ?_;refine hB ?_;refine mW rfl (λM=>?_) (λM=>?_)
  ·
   replace M:=bN M;refine hA ?_;refine ja ?_;refine aB rfl (mw rfl) ?_;refine ic ?_;refine hB ?_;refine oJ ?_;refine Dq ?_;refine yu ?_;refine jh (.inl rfl) rfl rfl [ds p (dT r id w)] (⟨by simp[H9,cl,M],rfl⟩) (yS z a c cs K (by simp[dT,M]) (au))
  ·
   replace M:=bN M;have bf:dJ r id=none:=hk.amc.1 M;obtain⟨j,rfl⟩:∃k:Nat,w=k:=⟨w.toNat,by rw[tD]at cl;omega⟩;have b:1<=j/\j<=6:=by rw[tD]at cl;omega
   refine rq ?_;refine yt ?_;refine hB ?_;refine hA ?_;refine ja ?_;refine aB rfl (j6 rfl) ?_;refine aB rfl (j6 rfl) ?_;refine aB rfl (j6 rfl) ?_;refine ci rfl (b1 rfl (Y7 p z _ cs r id 0 j K.len M (by omega) (by omega)) bF) ?_;rintro _ D ⟨_,⟨rfl,rfl⟩,rfl⟩
   try simp only[cp,cm]
   refine ic ?_;refine hB ?_;refine hA ?_;refine ja ?_;refine aB rfl (j6 rfl) ?_;refine aB rfl (j6 rfl) ?_;refine aB rfl (lY rfl) ?_
   first|refine aB rfl (tC rfl) ?_|refine aB rfl (nG rfl) ?_
   first|refine aB rfl (o_load rfl rfl) ?_|refine aB rfl (gz rfl rfl) ?_|refine aB rfl (u2 rfl) ?_
   refine aB rfl (j6 rfl) ?_
   first|refine iX rfl (Ia rfl rfl rfl) ?_|refine iX rfl (Ib rfl rfl rfl rfl) ?_|refine iX rfl (qh rfl rfl rfl rfl) ?_
   rintro _ _ ⟨g,rfl,rfl⟩;refine iX rfl (D3 rfl rfl bF rfl rfl rfl (by omega) (by unfold maxLen;omega)) ?_;rintro _ _ ⟨d,e,rfl,rfl⟩;refine aB rfl (lY rfl) ?_
   first|refine aB rfl (tC rfl) ?_|refine aB rfl (nG rfl) ?_
   first|refine kb (mv rfl rfl rfl rfl) ?_|refine kb (rU rfl rfl rfl (by first|assumption|omega|simp)) ?_
   refine ic ?_;refine hB ?_;refine hA ?_;refine ja ?_;refine aB rfl (mw rfl) ?_;refine ic ?_;refine hB ?_;refine oJ ?_;refine jh (.inl rfl) rfl rfl [ds p (dT r id j)] (⟨by simp[H9,cl,M],rfl⟩) (yS z d e _ (K.accept (id:=id) (j:=j) b.1 (by omega) aE) (by simp[dT,cl,M]) (by rw[aq3 bf,o1 (f:=λq:Int×Int=>rA q.1),eL];exact(au)))
def Ic:ad aa 56 [] [] (λu H=>∃p,u=ptr p 0/\H=[ds p []]):=by
 refine ko Tryz.func56 rfl rfl rfl ?_;refine O2 ?_;intro F D;refine iX rfl (Zj) ?_;rintro _ _ ⟨z,rfl,rfl⟩;refine aB rfl (kE rfl rfl) ?_;refine iX rfl (Bp rfl) ?_;rintro _ _ ⟨p,rfl,rfl⟩;refine Bq ?_;refine jh (.inl rfl) rfl rfl [ds p []] (AJ) (yS z none 0 [0,0,0,0,0,0,0,0,0] ⟨rfl,rfl,λw h1 h2=>by match w,h1,h2 with|1,_,_|2,_,_|3,_,_|4,_,_|5,_,_|6,_,_|7,_,_|8,_,_=>rfl⟩ rfl (λh s=>Sat.tail (λh s=>Zk _ (Br _ s)) s))
end
end Go.Proofs.YtnnhpnccfnghdaaGreat.L.Lg
namespace Go.L.Th
open Go.L Go.L.Lx Go.L.Pg Go.L.Ring Go.L.dq Go.L.dR Go.L.Whl Go.L.dA Go.L.Led
inductive qN
 |act|jp|zK|ask
structure gx where
 na:Nat
 hN:Nat
 fB:Nat
def dK(E:gx):qN->Int->Prop
 |.act,x=>1<=x/\x<=E.na
 |.jp,x=>1<=x/\x<=E.hN
 |.zK,x=>0<=x/\x<E.fB
 |.ask,x=>1<=x/4096/\x/4096<=E.hN
structure gx.le(E y:gx):Prop where
 a:E.na<=y.na
 l:E.hN<=y.hN
 n:E.fB<=y.fB
def dK.mono{E y:gx}(h:E.le y){c:qN}{x:Int}(v:dK E c x):dK y c x:=by
 have h1:=h.a;have h2:=h.l;have aN:=h.n;cases c<;>simp only[dK]at*<;>omega
inductive fU
 |jg|none|val(c:qN)|rL(c:qN)|KV(w:Nat)|KW(w:Nat)
def gs(L:List Int)(i k:Nat)(x:Int):(L.set i x).getD k 0=if k=i/\i<L.length then x else L.getD k 0:=by
 grind
section
variable(f:Nat->fU)(E:gx)(L:List Int)
def mC{L:List Int}{i k:Nat}{x:Int}(h:k≠i):(L.set i x).getD k 0=L.getD k 0:=by grind
def rC{L:List Int}{i:Nat}{x:Int}(h:i<L.length):(L.set i x).getD i 0=x:=by grind
inductive nP
 |no|own(w:Nat)|jg
def SV(j:nP)(L:List Int)(i:Nat)(x:Int):fU->Prop
 |.jg=>j=.jg
 |.none=>True
 |.val c=>dK E c x
 |.rL c=>x≠0->dK E c (L.getD (i+1) 0)
 |.KV _=>1<=x
 |.KW w=>j=.own w
def ha(j:nP)(L U:List Int):Prop:=U=L\/∃i x,U=L.set i x/\SV E j L i x (f i)
def sP:Prop:=∀i c,f i=.rL c->L.getD i 0≠0->dK E c (L.getD (i+1) 0)
end
section
variable{f:Nat->fU}{E:gx}{j:nP}{L U:List Int}
def ha.same:ha f E j L L:=.inl rfl
def ha.put{i:Nat}{x:Int}{t:fU}(e:f i=t)(h:SV E j L i x t):ha f E j L (L.set i x):=.inr ⟨i,x,rfl,by rw[e];exact h⟩
def ha.iff{p:Prop}[Decidable p]{A B:List Int}(h1:p->ha f E j L A)(h2:¬p->ha f E j L B):ha f E j L (if p then A else B):=by
 grind
def ha.v(h:ha f E j L U){i:Nat}{c:qN}(ak:f i=.val c)(Y:dK E c (L.getD i 0)):dK E c (U.getD i 0):=by
 exact aeg
def ha.jg(h:ha f E j L U)(N:j≠.jg){i:Nat}(ak:f i=.jg):U.getD i 0=L.getD i 0:=by
 rcases h with rfl|⟨k,x,rfl,ah⟩
 . rfl
 . rw[gs];split
   . rename_i e;obtain⟨rfl,_⟩:=e;rw[ak]at ah;exact absurd ah N
   grind
def ha.dB(h:ha f E j L U){i w:Nat}(ak:f i=.KV w)(Y:1<=L.getD i 0):1<=U.getD i 0:=by
 exact aeg
def ha.iL(h:ha f E j L U){i w:Nat}(ak:f i=.KW w)(O:j≠.own w):U.getD i 0=L.getD i 0:=by
 rcases h with rfl|⟨k,x,rfl,ah⟩
 . rfl
 . rw[gs];split
   . rename_i e;obtain⟨rfl,_⟩:=e;rw[ak]at ah;exact absurd ah O
   grind
def ha.any(h:ha f E .no L U):ha f E j L U:=by
 rcases h with rfl|⟨k,x,rfl,ah⟩
 . exact .inl rfl
 . refine .inr ⟨k,x,rfl,?_⟩
   revert ah;cases f k<;>intro ah<;>first|exact ah|cases ah
def ha.rc(ba:∀i c,f i=.rL c->f (i+1)=.val c)(h:ha f E j L U)(r:sP f E L):sP f E U:=by
 rcases h with rfl|⟨k,x,rfl,ah⟩
 . grind
 . intro i c ak aM
   by_cases h1:i=k
   . subst h1
     rw[mC ae];rw[ak]at ah;by_cases h2:i<L.length
     . rw[rC h2]at aM;exact ah aM
     grind
   . rw[mC h1]at aM
     rw[gs];split
     . rename_i e;obtain⟨rfl,_⟩:=e;rw[ba i c ak]at ah;exact ah
     . exact r i c ak aM
def sP.mono{y:gx}(h:E.le y)(r:sP f E L):sP f y L:=λi c a b=>(r i c a b).mono h
end
structure nQ(f:Nat->fU)(b n:Nat)(c:qN)(len:Nat):Prop where
 ef:1<=n
 gr:f b=.none
 ay:f (b+1)=.none
 t:∀k,k<n->f (b+2+2*k)=.rL c
 v:∀k,k<n->f (b+2+2*k+1)=.val c
 len:b+2+2*n<=len
def mod_lt{n:Nat}(h:1<=n)(t:Int):(t%(n:Int)).toNat<n:=by
 have h2:=Nd t (show(0:Int)<n by omega);omega
section
variable{f:Nat->fU}{E:gx}{j:nP}{b n:Nat}{c:qN}{L U:List Int}
def nQ.tt(D:nQ f b n c L.length)(t:Int):f (jo b n t)=.rL c:=D.t _ (mod_lt D.ef t)
def nQ.oX(D:nQ f b n c L.length)(t:Int):f (jo b n t+1)=.val c:=D.v _ (mod_lt D.ef t)
def nQ.fQ(D:nQ f b n c L.length)(t:Int):jo b n t+1<L.length:=by
 have:=mod_lt D.ef t;have:=D.len;unfold jo;omega
def ai0(x:Int):eU (eU (x*2)+1)≠0:=by rw[zC,zC];omega
structure ai1(J:Int->Prop)(b n:Nat)(L:List Int)(o:fo):Prop where
 sL:o.pc<=3->J o.val
 xv:o.pc=4->J (L.getD (jo b n o.tick+1) 0)
 E4:o.pc=7\/o.pc=8->J (L.getD (jo b n o.db+1) 0)
 Ca:o.pc=8\/o.pc=9->J o.val
def lO(J:Int->Prop)(b n:Nat)(L:List Int)(o:fo):Prop:=o.out=0->ai1 J b n L o
def BK(pc:Nat):Nat:=if pc<=4 then 0 else if pc<=11 then 1 else if pc<=13 then 2 else 3
def lO.stay{o:fo}(D:nQ f b n c L.length)(w:ha f E j L U)(h:lO (dK E c) b n L o):lO (dK E c) b n U o:=λaK=>
 have g:=h aK
 ⟨g.sL,λe=>w.v (D.oX _) (g.xv e),λe=>w.v (D.oX _) (g.E4 e),g.Ca⟩
def lO.mono{y:gx}(l:E.le y){o:fo}(h:lO (dK E c) b n L o):lO (dK y c) b n L o:=λaK=>
 have g:=h aK
 ⟨λe=>(g.sL e).mono l,λe=>(g.xv e).mono l,λe=>(g.E4 e).mono l,λe=>(g.Ca e).mono l⟩
theorem E5{o:fo}(D:nQ f b n c L.length)(rc:sP f E L)(ak:iF o)(aK:o.out=0)(Y:ai1 (dK E c) b n L o):
 ha f E j L (ly b n L o)/\lO (dK E c) b n (ly b n L o) (dO b n L o)/\((dO b n L o).out=1->BK o.pc=1->dK E c (dO b n L o).val)/\((dO b n L o).out=0->BK (dO b n L o).pc=BK o.pc):=by
 obtain⟨pc,out,val,tick,db⟩:=o;have m:pc<=15:=ak.pc;obtain rfl:out=0:=aK;obtain⟨v3,v4,k,p⟩:=Y;simp only at v3 v4 k p;have ay:ly b n L JE=l8 b n L JE:=rfl;have aV:dO b n L JE=lz b n L JE:=rfl;rw[ay,aV]
 match pc,m with
 |
  0,_=>
  have g:=v3 gW;simp only[l8,lz,AO];exact⟨.same,λ_=>aa2,wZ,λ_=>rfl⟩
 |
  1,_=>
  have g:=v3 gW;simp only[l8,lz,yr];refine⟨.same,?_⟩;split
  . exact IR
  . split
    . exact⟨hh,wZ,hh⟩
    . exact IR
 |
  2,_=>
  have g:=v3 gW;simp only[l8,lz,AP,EZ];refine⟨.iff (λ_=>.put D.gr trivial) zl,?_⟩;by_cases h:L.getD b 0=tick
  . simp only[h,fi]
    exact IR
  . simp only[h,ep]
    exact IR
 |
  3,_=>
  have g:=v3 gW;simp only[l8,lz,G5,SB];exact⟨.put (D.oX _) g,λ_=>⟨hh,λ_=>by simp only[];rw[rC (D.fQ _)];exact g,hh,hh⟩,wZ,λ_=>rfl⟩
 |
  4,_=>
  have g:=v4 rfl;simp only[l8,lz,G6,SC];exact⟨.put (D.tt _) λ_=>g,hh,wZ,hh⟩
 |
  5,_=>
  simp only[l8,lz,uE];exact aaW
 |
  6,_=>
  simp only[l8,lz,r6];refine⟨.same,?_⟩;by_cases h:L.getD (jo b n db) 0=eU (xw n db+1)
  . simp only[h,fi]
    have g:dK E c (L.getD (jo b n db+1) 0):=rc _ _ (D.tt db) (by rw[h];exact ai0 _);exact⟨λ_=>⟨hh,hh,λ_=>g,hh⟩,hh,λ_=>rfl⟩
  . simp only[h,ep]
    exact⟨hh,hh,hh⟩
 |
  7,_=>
  have g:=k (.inl rfl);simp only[l8,lz,G7];exact⟨.same,λ_=>⟨hh,hh,λ_=>g,λ_=>g⟩,hh,λ_=>rfl⟩
 |
  8,_=>
  have g:=k (.inr rfl);have Z:=p (.inl rfl);simp only[l8,lz,G8,SD];exact⟨.put (D.tt _) λ_=>g,λ_=>⟨hh,hh,hh,λ_=>Z⟩,hh,λ_=>rfl⟩
 |
  9,_=>
  have Z:=p (.inr rfl);simp only[l8,lz,G9,SE];exact⟨.put D.ay trivial,hh,λ_ _=>Z,hh⟩
 |
  10,_=>
  simp only[l8,lz,Ha];exact aaW
 |
  11,_=>
  simp only[l8,lz,AQ,uE];refine⟨.same,λ_=>IP,(λh=>?_),λ_=>rfl⟩;exfalso;revert h;split<;>decide
 |
  12,_=>
  simp only[l8,lz,Hb,uE];exact aaT
 |
  13,_=>
  have T:(AR b n L ⟨13,0,val,tick,db⟩).out≠0:=by
   unfold AR r6 fo.over;simp only[];split<;>rename_i h
   . intro e;revert e;by_cases ah:L.getD (jo b n db) 0=eU (xw n db+1)<;>simp[ah,-List.getD_eq_getElem?_getD]
   . decide
  simp only[l8,lz];exact⟨.same,λh=>absurd h T,wZ,λh=>absurd h T⟩
 |
  14,_=>
  simp only[l8,lz,AS];exact aaT
 |
  15,_=>
  simp only[l8,lz,AT,E0];refine⟨.iff (λ_=>.put D.gr trivial) zl,λ_=>IP,wZ,λ_=>rfl⟩
def xz{J:Int->Prop}{pc:Nat}{v:Int}(aN:pc<=3->J v)(h:pc<=3\/pc=5\/10<=pc):lO J b n L (gU pc v):=λ_=>
 ⟨aN,QI,QI,QI⟩
end
structure ai2(E:gx)(b n:Nat)(L:List Int)(o:hJ):Prop where
 v:o.ee=false->dK E .act o.v
 xv:o.ee=false->o.jG=4->dK E .act (L.getD (lB b n o.t+1) 0)
 pt:o.ee=true->2<=o.jG->dK E .act (L.getD (lB b n o.t+1) 0)
 zL:o.ee=true->o.jG=4->dK E .act o.v
def sQ(E:gx)(b n:Nat)(L:List Int)(o:hJ):Prop:=o.out=0->ai2 E b n L o
section
variable{f:Nat->fU}{E:gx}{j:nP}{b n:Nat}{L U:List Int}
def sQ.stay{o:hJ}(D:nQ f b n .act L.length)(w:ha f E j L U)(h:sQ E b n L o):sQ E b n U o:=λaK=>
 have g:=h aK
 ⟨g.v,λa e=>w.v (D.oX _) (g.xv a e),λa e=>w.v (D.oX _) (g.pt a e),g.zL⟩
def sQ.mono{y:gx}(l:E.le y){o:hJ}(h:sQ E b n L o):sQ y b n L o:=λaK=>
 have g:=h aK
 ⟨λa=>(g.v a).mono l,λa e=>(g.xv a e).mono l,λa e=>(g.pt a e).mono l,λa e=>(g.zL a e).mono l⟩
theorem SX{o:hJ}(D:nQ f b n .act L.length)(rc:sP f E L)(ak:n9 o)(aK:o.out=0)(Y:ai2 E b n L o):
 ha f E j L (n5 b n L o)/\sQ E b n (n5 b n L o) (iw b n L o)/\((iw b n L o).out=1->o.ee=true->dK E .act (iw b n L o).v)/\(iw b n L o).ee=o.ee:=by
 obtain⟨jG,ee,t,v,out⟩:=o;have m:jG<=4:=ak.jG;obtain rfl:out=0:=aK;obtain⟨v1,v4,d,v5⟩:=Y;simp only at v1 v4 d v5;have ay:n5 b n L JJ=lC b n L JJ:=rfl;have aV:iw b n L JJ=jO b n L JJ:=rfl;rw[ay,aV];have tt:f (lB b n t)=.rL .act:=D.tt t;have oX:f (lB b n t+1)=.val .act:=D.oX t;have fQ:lB b n t+1<L.length:=D.fQ t;have q:f (n4 b ee)=.none:=by cases ee;exact D.gr;exact D.ay
 match jG,m with
 |
  0,_=>
  simp only[lC,jO];exact⟨.same,λ_=>abe,hh,by trivial⟩
 |
  1,_=>
  simp only[lC,jO];refine⟨.same,?_⟩;by_cases h:L.getD (lB b n t) 0=yy n t ee
  . rw[bd h]
    refine⟨λ_=>⟨v1,y8,(λe _=>?_),y8⟩,hh,by trivial⟩;replace e:ee=true:=e;subst e;exact rc _ _ tt (by rw[h];exact ai0 _)
  . rw[a8 h];split
    . exact abd
    . cases ee
      . exact ac4
      . exact ac4
 |
  2,_=>
  simp only[lC,jO];refine⟨.iff (λ_=>.put q trivial) zl,?_⟩;by_cases h:L.getD (n4 b ee) 0=t
  . simp only[h,fi]
    refine⟨λ_=>⟨v1,y8,(λe _=>?_),y8⟩,hh,by trivial⟩;exact(ha.put (f:=f) (j:=j) q (show SV E j L (n4 b ee) (eU (t+1)) .none from trivial)).v oX (d e gW)
  . simp only[h,ep]
    exact abd
 |
  3,_=>
  cases ee
  . have g:=v1 rfl
    simp only[lC,jO,eP,ep];exact⟨.put oX g,λ_=>⟨λ_=>g,λ_ _=>by simp only[];rw[rC fQ];exact g,hh,hh⟩,hh,by simp⟩
  . have g:=d rfl gW
    simp only[lC,jO,fi];exact⟨.same,λ_=>⟨hh,hh,λ_ _=>g,λ_ _=>g⟩,hh,by simp⟩
 |
  4,_=>
  simp only[lC,jO];refine⟨.put tt λ_=>?_,hh,λ_ e=>v5 e rfl,by trivial⟩;cases ee
  . exact v4 rfl rfl
  . exact d rfl gW
end
structure xA(f:Nat->fU)(b n w:Nat)(len:Nat):Prop where
 ef:1<=n
 dB:f b=.KV w
 iL:f (b+1)=.KW w
 v:∀k,k<n->f (b+2+k)=.val .act
 len:b+2+n<=len
structure vv(E:gx)(b n ak:Nat)(L:List Int):Prop where
 t1:1<=L.getD b 0
 ar:L.getD (b+1) 0<=ak
 v:∀i:Int,1<=i->i<ak->dK E .act (L.getD (ke b n i) 0)
structure ai3(E:gx)(b n ak:Nat)(L:List Int)(o:ie):Prop where
 v:o.pc<=3->dK E .act o.v
 gA:1<=o.pc->o.pc<=3->o.b<=ak
 sL:o.pc=3->dK E .act (L.getD (ke b n o.b) 0)
 zL:5<=o.pc->o.pc<=9->1<=o.b/\o.b<=ak
 ai4:o.pc=6\/o.pc=7->L.getD (b+1) 0=o.b -1
 E4:o.pc=7->1<=o.t/\o.t<=o.b -1
 Ca:o.pc=8->dK E .act o.v/\o.t=o.b -1
 ai5:o.pc=9->o.fK=true->dK E .act o.v
 ai6:o.pc<=8->o.fK=false
 ai7:11<=o.pc->1<=o.t
 SY:12<=o.pc->o.t<o.b/\o.b<=ak
 ai8:o.pc=13->dK E .act o.v
def tV(E:gx)(b n ak:Nat)(L:List Int)(o:ie):Prop:=o.out=0->ai3 E b n ak L o
def E6(o:ie):Prop:=o.out=0/\6<=o.pc/\o.pc<=9
def tW(pc:Nat):Nat:=if pc<=3 then 0 else if pc<=9 then 1 else 2
def KX{k l:Nat}(h:tW k=tW l):(k<=3↔l<=3)/\(k<=9↔l<=9):=by
 grind [tW]
section
variable{f:Nat->fU}{E:gx}{j:nP}{b n w ak:Nat}{L U:List Int}
def xA.oX(D:xA f b n w L.length)(t:Int):f (ke b n t)=.val .act:=D.v _ (mod_lt D.ef t)
def xA.fQ(D:xA f b n w L.length)(t:Int):ke b n t<L.length:=by
 have:=mod_lt D.ef t;have:=D.len;unfold ke;omega
def vv.stay{fF:Nat}(D:xA f b n w L.length)(wr:ha f E j L U)(O:j≠.own w)(h:vv E b n ak L)(cl:fF=ak):vv E b n fF U:=by
 subst cl;exact⟨wr.dB D.dB h.t1,by rw[wr.iL D.iL O];exact h.ar,λi a b=>wr.v (D.oX _) (h.v i a b)⟩
def vv.mono{y:gx}(l:E.le y)(h:vv E b n ak L):vv y b n ak L:=⟨h.t1,h.ar,λi a b=>(h.v i a b).mono l⟩
def tV.stay{fF:Nat}{o:ie}(D:xA f b n w L.length)(wr:ha f E j L U)(O:o.pc<=9->j≠.own w)(h:tV E b n ak L o)(cl:ak<=fF):tV E b n fF U o:=λaK=>
 have g:=h aK
 ⟨
  g.v,λa b=>ai9 (g.gA a b) ae,λa=>wr.v (D.oX _) (g.sL a),λa b=>⟨(g.zL a b).1,ai9 (g.zL a b).2 ae⟩,
  λa=>by rw[wr.iL D.iL (O ae)];exact g.ai4 a,g.E4,g.Ca,g.ai5,g.ai6,g.ai7,λa=>⟨(g.SY a).1,ai9 (g.SY a).2 ae⟩,g.ai8⟩
def tV.mono{y:gx}(l:E.le y){o:ie}(h:tV E b n ak L o):tV y b n ak L o:=λaK=>
 have g:=h aK
 ⟨λa=>(g.v a).mono l,g.gA,λa=>(g.sL a).mono l,g.zL,g.ai4,g.E4,λa=>⟨(g.Ca a).1.mono l,(g.Ca a).2⟩,λa b=>(g.ai5 a b).mono l,g.ai6,g.ai7,g.SY,λa=>(g.ai8 a).mono l⟩
theorem aja{o:ie}(D:xA f b n w L.length)(K:iu L)(iG:vv E b n ak L)(aA:ak<4611686018427387904)(bC:qo o)(aK:o.out=0)(Y:ai3 E b n ak L o)(F:o.pc<=9->E6 o\/1<=L.getD (b+1) 0):
 ha f E (if o.pc<=9 then .own w else .no) L (mr b n L o)/\(∃fF,ak<=fF/\fF<=ak+1/\vv E b n fF (mr b n L o)/\tV E b n fF (mr b n L o) (jb b n L o))/\
 ((jb b n L o).out=1->tW o.pc≠0->dK E .act (jb b n L o).v)/\((jb b n L o).out=0->tW (jb b n L o).pc=tW o.pc)/\(o.pc<=9->E6 (jb b n L o)\/1<=(mr b n L o).getD (b+1) 0):=by
 obtain⟨pc,out,v,t,e,fK⟩:=o;have m:pc<=13:=bC.pc;have s:ji e:=bC.b;obtain rfl:out=0:=aK;obtain⟨v1,g5,T,l,C,z,B,G,d,q,u,H⟩:=Y;simp only at v1 g5 T l C z B G d q u H F;have ay:mr b n L JF=kp b n L JF:=rfl;have aV:jb b n L JF=kA b n L JF:=rfl;rw[ay,aV];have av:=D.len;have un:∀x:Int,0<=x->x<9223372036854775808->eU x=x:=λx a b=>by rw[zC];omega
 match pc,m with
 |
  0,_=>
  have k:=(F gW).resolve_left (λh=>by have:=h.2.1;simp at this);simp only[kp,kA];refine⟨.same,⟨ak,ei _,im _,iG,λ_=>⟨λ_=>v1 gW,λ_ _=>iG.ar,?_,?_,?_,?_,?_,?_,λ_=>d gW,?_,?_,?_⟩⟩,?_,λ_=>rfl,λ_=>.inr k⟩<;>simp
 |
  1,_=>
  have k:=(F gW).resolve_left (λh=>by have:=h.2.1;simp at this);simp only[kp,kA];refine⟨.same,⟨ak,ei _,im _,iG,λ_=>⟨λ_=>v1 gW,λ_ _=>g5 gW gW,?_,?_,?_,?_,?_,?_,λ_=>d gW,?_,?_,?_⟩⟩,?_,λ_=>rfl,λ_=>.inr k⟩<;>simp[tW]
 |
  2,_=>
  have k:=(F gW).resolve_left (λh=>by have:=h.2.1;simp at this);have g:=v1 gW;simp only[kp,kA];have U:∀t,b≠ke b n t/\b+1≠ke b n t:=λt=>by unfold ke;omega
  have wr:ha f E (.own w) L (L.set (ke b n e) v):=.put (D.oX _) g;refine⟨wr,⟨ak,ei _,im _,⟨by rw[mC (U _).1];exact iG.t1,by rw[mC (U _).2];exact iG.ar,λi a b=>wr.v (D.oX _) (iG.v i a b)⟩,λ_=>⟨λ_=>g,λ_ _=>g5 gW gW,λ_=>by simp only[];rw[rC (D.fQ _)];exact g,?_,?_,?_,?_,?_,λ_=>d gW,?_,?_,?_⟩⟩,?_,λ_=>rfl,λ_=>.inr gW⟩<;>simp
 |
  3,_=>
  have g:=T rfl;have ed:=g5 gW gW;have d4:=un (e+1) gW ae;simp only[kp,kA];rw[d4];have U:∀t,ke b n t≠b+1:=λt=>by unfold ke;omega
  have ah:(L.set (b+1) (e+1)).getD (b+1) 0=e+1:=rC ae;refine⟨.put D.iL rfl,⟨max ak (e+1).toNat,Nat.le_max_left _ _,by have:=s.1;omega,⟨by rw[mC ae];exact iG.t1,by rw[ah];have:=s.1;omega,λi a c=>?_⟩,λh=>by simp at h⟩,(λ_ h=>by simp[tW]at h),hh,λ_=>.inr gW⟩;rw[mC (U _)];by_cases a6:i<ak
  . exact iG.v i a a6
  . obtain rfl:i=e:=by have:=s.1;omega
    exact g
 |
  4,_=>
  have k:=(F gW).resolve_left (λh=>by have:=h.2.1;simp at this);simp only[kp,kA];refine⟨.same,⟨ak,ei _,im _,iG,λ_=>⟨?_,?_,?_,λ_ _=>⟨k,iG.ar⟩,?_,?_,?_,?_,λ_=>d gW,?_,?_,?_⟩⟩,?_,λ_=>rfl,λ_=>.inr k⟩<;>simp
 |
  5,_=>
  obtain⟨W,Z⟩:=l gW gW;have d4:=un (e -1) ae ae;simp only[kp,kA];rw[d4];have U:∀t,ke b n t≠b+1:=λt=>by unfold ke;omega
  have ah:(L.set (b+1) (e -1)).getD (b+1) 0=e -1:=rC ae;refine⟨.put D.iL rfl,⟨ak,ei _,im _,⟨by rw[mC ae];exact iG.t1,by rw[ah];omega,λi a c=>by rw[mC (U _)];exact iG.v i a c⟩,λ_=>⟨?_,?_,?_,λ_ _=>⟨W,Z⟩,λ_=>ah,?_,?_,?_,λ_=>d gW,?_,?_,?_⟩⟩,?_,λ_=>rfl,λ_=>.inl Ez⟩<;>simp
 |
  6,_=>
  obtain⟨W,Z⟩:=l gW gW;have d8:=C (.inl rfl);have d4:=un (e -1) ae ae;have R:=iG.t1;have p:=d gW;subst p;simp only[kp,kA];rw[d4];by_cases a6:e -1<L.getD b 0
  . rw[bd a6]
    refine⟨.same,⟨ak,ei _,im _,iG,λ_=>⟨?_,?_,?_,λ_ _=>⟨W,Z⟩,?_,?_,?_,?_,?_,?_,?_,?_⟩⟩,?_,λ_=>rfl,λ_=>.inl Ez⟩<;>simp
  . rw[a8 a6]
    refine⟨.same,⟨ak,ei _,im _,iG,λ_=>⟨?_,?_,?_,λ_ _=>⟨W,Z⟩,λ_=>d8,λ_=>⟨R,by simp only[];omega⟩,?_,?_,?_,?_,?_,?_⟩⟩,?_,λ_=>rfl,λ_=>.inl Ez⟩<;>simp
 |
  7,_=>
  obtain⟨W,Z⟩:=l gW gW;have d8:=C (.inr rfl);obtain⟨gc,hm⟩:=z rfl;have d4:=un (e -1) ae ae;have p:=d gW;subst p;have r:=iG.v (e -1) ae ae;simp only[kp,kA];rw[d4];by_cases a6:t<e -1
  . simp only[a6,fi]
    exact⟨.same,⟨ak,ei _,im _,iG,λh=>by simp at h⟩,λ_ _=>r,hh,λ_=>.inr gW⟩
  . simp only[a6,ep]
    refine⟨.same,⟨ak,ei _,im _,iG,λ_=>⟨?_,?_,?_,λ_ _=>⟨W,Z⟩,?_,?_,λ_=>⟨r,by simp only[];omega⟩,?_,?_,?_,?_,?_⟩⟩,?_,λ_=>rfl,λ_=>.inl Ez⟩<;>simp
 |
  8,_=>
  obtain⟨W,Z⟩:=l gW gW;obtain⟨d8,gc⟩:=B rfl;have d4:=un (t+1) ae ae;simp only[kp,kA];rw[d4];have U:∀t,ke b n t≠b:=λt=>by unfold ke;omega
  have wr:∀j,ha f E j L (if L.getD b 0=t then L.set b (t+1)else L):=λ_=>.iff (λ_=>.put D.dB (show 1<=t+1 by omega)) zl;have y:(if L.getD b 0=t then L.set b (t+1)else L).getD (b+1) 0=L.getD (b+1) 0:=by grind
  refine⟨wr _,⟨ak,ei _,im _,⟨(wr .no).dB D.dB iG.t1,by rw[y];exact iG.ar,λi a c=>(wr .no).v (D.oX _) (iG.v i a c)⟩,λ_=>⟨?_,?_,?_,λ_ _=>⟨W,Z⟩,?_,?_,?_,λ_ _=>d8,?_,?_,?_,?_⟩⟩,?_,λ_=>rfl,λ_=>.inl Ez⟩<;>simp
 |
  9,_=>
  obtain⟨W,Z⟩:=l gW gW;have d8:=G rfl;simp only[kp,kA];have U:∀t,ke b n t≠b+1:=λt=>by unfold ke;omega
  have ah:(L.set (b+1) e).getD (b+1) 0=e:=rC ae;refine⟨.put D.iL rfl,⟨ak,ei _,im _,⟨by rw[mC ae];exact iG.t1,by rw[ah];exact Z,λi a c=>by rw[mC (U _)];exact iG.v i a c⟩,λh=>?_⟩,λh _=>?_,λh=>?_,λ_=>.inr gW⟩
  . exfalso;cases fK<;>simp at h
  . cases fK
    . simp at h
    . exact d8 rfl
  . exfalso;cases fK<;>simp at h
 |
  10,_=>
  simp only[kp,kA];refine⟨.same,⟨ak,ei _,im _,iG,λ_=>⟨?_,?_,?_,?_,?_,?_,?_,?_,?_,λ_=>iG.t1,?_,?_⟩⟩,?_,λ_=>rfl,?_⟩<;>simp
 |
  11,_=>
  have g:=q gW;simp only[kp,kA];by_cases a6:L.getD (b+1) 0<=t
  . simp only[a6,fi]
    refine⟨.same,⟨ak,ei _,im _,iG,λh=>by simp at h⟩,?_,?_,?_⟩<;>simp
  . simp only[a6,ep]
    refine⟨.same,⟨ak,ei _,im _,iG,λ_=>⟨?_,?_,?_,?_,?_,?_,?_,?_,?_,λ_=>g,λ_=>⟨by simp only[];omega,iG.ar⟩,?_⟩⟩,?_,λ_=>rfl,?_⟩<;>simp
 |
  12,_=>
  have g:=q gW;obtain⟨W,Z⟩:=u gW;have r:=iG.v t g ae;simp only[kp,kA];refine⟨.same,⟨ak,ei _,im _,iG,λ_=>⟨?_,?_,?_,?_,?_,?_,?_,?_,?_,λ_=>g,λ_=>⟨W,Z⟩,λ_=>r⟩⟩,?_,λ_=>rfl,?_⟩<;>simp
 |
  13,_=>
  have I:¬(1:Int)=0:=gW;have J:¬(6:Int)=0:=gW;have g:=q gW;obtain⟨W,Z⟩:=u gW;have r:=H rfl;have d4:=un (t+1) ae ae;simp only[kp,kA];rw[d4];have wr:∀j,ha f E j L (if L.getD b 0=t then L.set b (t+1)else L):=λ_=>.iff (λ_=>.put D.dB (show 1<=t+1 by omega)) zl;have y:(if L.getD b 0=t then L.set b (t+1)else L).getD (b+1) 0=L.getD (b+1) 0:=by grind
  refine⟨wr _,⟨ak,ei _,im _,⟨(wr .no).dB D.dB iG.t1,by rw[y];exact iG.ar,λi a c=>(wr .no).v (D.oX _) (iG.v i a c)⟩,λh=>?_⟩,λ_ _=>r,λh=>?_,hh⟩
  . exfalso;revert h;split;exact I;exact J
  . exfalso;revert h;split;exact I;exact J
def SZ{v:Int}{pc:Nat}(aN:pc<=3->dK E .act v)(h:pc=0\/pc=4\/pc=10):tV E b n ak L (mX pc v):=λ_=>by
 rcases h with rfl|rfl|rfl<;>(constructor<;>simp[mX]<;>first|exact aN bJ|done)
end
end Go.L.Th
