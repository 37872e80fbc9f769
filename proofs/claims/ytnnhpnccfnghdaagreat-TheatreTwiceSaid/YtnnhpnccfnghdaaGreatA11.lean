import Derived.Test.YtnnhpnccfnghdaaGreatA10
set_option linter.all false
set_option maxRecDepth 8000
set_option maxHeartbeats 8000000
namespace Go.Proofs.YtnnhpnccfnghdaaGreat.L
open Go.L Go.L.Ring Go.L.dD Go.L.dP
attribute[local irreducible] G cJ GE c3 GT b1 dk c7 ds Exit.then Exit.inBlock
section
variable{B:fT}{L:List Int}{w:Nat}
def _root_.Go.L.dP.fT.akX(R:w<B.bX):w*(2+B.e0)+(2+B.e0)<=B.bX*(2+B.e0):=by
 have:=pN (2+B.e0) (show w+1<=B.bX from R);exact Hs
def kd.be(h:kd B L):He B.b B.bX L:=⟨h.bQ,by have:=h.len;unfold fT.size at this;omega,h.dG⟩
def kd.hc(h:kd B L):r1 B.ek B.na L:=⟨h.cu,by have:=h.hd;omega,by have:=h.len;unfold fT.size at this;unfold fT.ek;omega,h.dG⟩
def kd.hL(h:kd B L)(R:w<B.bX):yz (B.cq w) B.e0 L:=⟨h.s1,h.pJ,by have:=h.len;have:=fT.akX R;unfold fT.size at*;unfold fT.cq;omega,h.dG⟩
end
section
variable(X:kN)(B:fT)(p:Nat)(L:List Int)(c:gC)(t:Int)
def kd.ek{B:fT}{L:List Int}(h:kd B L):B.ek<=65536:=by have:=h.len;have:=h.dG;unfold fT.size at*;unfold fT.ek;omega
def aoI(l:List Src):(lv l).val=0:=by
 cases l with
 |nil=>rfl
 |cons s l=>cases s<;>rfl
theorem Nx(hp:c.out=0->c.val=0)(f:FuncId)(N:Value)(h:∀(x y:Value),ab E f [ptr p 0] [cW p x y c.out c.val (gK X)] (aH N [cW p x y c.out c.val (gK X)])):
 ab E f [ptr p 0] wF (aH N wF):=by
 by_cases aJ:c.out=0
 . have Z:=hp aJ
   rw[aJ,Z]at h;have e:gy X B p c=jt X B p c.ph:=by unfold gy;rw[bg aJ]
   rw[e];cases Y:c.ph<;>exact kC (λx ah=>j9 (h _ _) nz Ny)
 . have e:gy X B p c=DG X p c.out c.val:=by unfold gy;rw[a7 aJ]
   rw[e];exact kC (λx ah=>j9 (h _ _) nz Ny)
def uJ(hp:c.out=0->c.val=0):ab E 254 [ptr p 0] wF (aH (.bool c.over) wF):=Nx X B p c hp _ _ (λx y=>tq p _ x y c.out c.val)
def Xo(hp:c.out=0->c.val=0):ab E 81 [ptr p 0] wF (aH (af c.out) wF):=Nx X B p c hp _ _ (λx y=>GJ p _ x y c.out c.val)
def aoJ(hp:c.out=0->c.val=0):ab E 85 [ptr p 0] wF (aH (bx c.val) wF):=Nx X B p c hp _ _ (λx y=>GK p _ x y c.out c.val)
def aoK(cd:kd B L)(w:Nat)(R:w<B.bX)(v:Int)(o:ig)(ak:qc o)(aJ:o.out=0)(J:(ji (B.cq w) B.e0 L o).over=false):ab E 474 [ptr p 0] Xp (aH gP (gy X B p ⟨.push w DI v,0,0⟩::AU)):=by
 refine fc .head (λe Y=>?_);obtain⟨q,c1,bq,b7⟩:=e;refine gh ?_;have b:o.over=false:=Ht;have i:=Hh q (X.hL w) X.m (B.cq w) B.e0 L t o (cd.hL R) ak;exact Xq
def aoL(cd:kd B L)(w:Nat)(R:w<B.bX)(v:Int)(o:ig)(ak:qc o)(aJ:o.out=0)(J:(ji (B.cq w) B.e0 L o).over=true):ab E 474 [ptr p 0] Xp (aH gP (gy X B p Xr::AU)):=by
 refine fc .head (λe Y=>?_);obtain⟨q,c1,bq,b7⟩:=e;refine gh ?_;have b:o.over=false:=Ht;have i:=Hh q (X.hL w) X.m (B.cq w) B.e0 L t o (cd.hL R) ak;rw[J,b]at i;simp only[e2,eI]at i;refine pF AU
  ((uJ X B p Xr ?_).mono λv I h=>?_)
  i (aob X B p _ _ cd.ek (show 0<B.bX from cd.aG) v q (X.hL w) c1 bq b7 DI) (g:=λD=>by simp only[ck,ci];exact(r3 (au))) (q:=λD=>by simp only[ck,ci];exact(au))
 . exact uK
 . exact uL
def aoM(cd:kd B L)(v:Int)(o:hK)(ak:n3 o)(aJ:o.out=0)(J:(iw B.ek B.na L o).over=false):ab E 474 [ptr p 0] Xs (aH gP (gy X B p ⟨.enter wG v,0,0⟩::uM)):=by
 refine fc .head (λe Y=>?_);obtain⟨q,c1,bq,b7⟩:=e;refine gh ?_;have b:o.over=false:=AV;have i:=AR q X.hc X.m B.ek B.na L t o cd.hc ak;exact Xq
def aoN(cd:kd B L)(v:Int)(o:hK)(ak:n3 o)(aJ:o.out=0)(J:(iw B.ek B.na L o).over=true):ab E 474 [ptr p 0] Xs (aH gP (gy X B p Xt::uM)):=by
 refine fc .head (λe Y=>?_);obtain⟨q,c1,bq,b7⟩:=e;refine gh ?_;have b:o.over=false:=AV;have i:=AR q X.hc X.m B.ek B.na L t o cd.hc ak;rw[J,b]at i;simp only[e2,eI]at i;refine pF uM
  ((uJ X B p Xt ?_).mono λv I h=>?_)
  i (aoc X B p _ _ cd.ek (show 0<B.bX from cd.aG) v q X.hc c1 bq b7 wG) (g:=λD=>by simp only[ck,ci];exact(r3 (au))) (q:=λD=>by simp only[ck,ci];exact(au))
 . exact uK
 . exact uL
def aoO(cd:kd B L)(o:hN)(hk:o.k<=4)(hC:o.w<B.bX)(aJ:o.out=0)(J:(j1 B.b B.bX L o).over=false):ab E 474 [ptr p 0] Xu (aH gP (gy X B p ⟨.ring r5,0,0⟩::uN)):=by
 refine fc .head (λe Y=>?_);obtain⟨q,c1⟩:=e;refine gh ?_;have b:o.over=false:=DJ;have i:=Dz q X.be X.m B.b B.bX L t o cd.be hk hC;rw[J,b]at i;simp only[e2,eI]at i;refine p9 i (λD=>?_);refine gh ?_;exact r3 (cE (q,c1) Y (au))
def aoP(cd:kd B L)(o:hN)(hk:o.k<=4)(hC:o.w<B.bX)(aJ:o.out=0)(J:(j1 B.b B.bX L o).over=true):ab E 474 [ptr p 0] Xu (aH hI (gy X B p ⟨.ring r5,1,0⟩::uN)):=by
 refine fc .head (λe Y=>?_);obtain⟨q,c1⟩:=e;refine gh ?_;have b:o.over=false:=DJ;have i:=Dz q X.be X.m B.b B.bX L t o cd.be hk hC;rw[J,b]at i;simp only[e2,eI]at i;refine pF uN
  ((uJ X B p ⟨.ring r5,1,0⟩ ?_).mono λv I h=>?_)
  i ((fun(_:hN)=>aoa X B p _ _ c1) r5) (g:=λD=>by simp only[ck,ci];exact(AT bw _ _ (au))) (q:=λD=>by simp only[ck,ci];exact(au))
 . exact uK
 . exact uL
def aoQ(cd:kd B L)(w:Nat)(R:w<B.bX)(l:List Src)(o:ig)(ak:qc o)(aJ:o.out=0)(J:(ji (B.cq w) B.e0 L o).over=false):ab E 474 [ptr p 0] Xv (aH gP (gy X B p ⟨.ih w DI l,0,0⟩::AU)):=by
 refine fc .head (λe Y=>?_);obtain⟨q,c1,bq,b7,a,c,cg,s⟩:=e;refine gh ?_;have b:o.over=false:=Ht;have i:=Hh q (X.hL w) X.m (B.cq w) B.e0 L t o (cd.hL R) ak;exact Xw
def aoR(cd:kd B L)(w:Nat)(R:w<B.bX)(l:List Src)(o:ig)(ak:qc o)(aJ:o.out=0)(J:(ji (B.cq w) B.e0 L o).over=true):ab E 474 [ptr p 0] Xv (aH (.bool (gC.over Nz)) (gy X B p Nz::AU)):=by
 refine fc .head (λe Y=>?_);obtain⟨q,c1,bq,b7,a,c,cg,s⟩:=e;refine gh ?_;have b:o.over=false:=Ht;have i:=Hh q (X.hL w) X.m (B.cq w) B.e0 L t o (cd.hL R) ak;rw[J,b]at i;simp only[e2,eI]at i;refine pF AU
  ((uJ X B p Nz ?_).mono λv I h=>?_)
  i (aoD X B p _ _ cd.ek a c l cg s w q c1 bq b7 DI) (g:=λD=>by simp only[ck,ci];exact(au)) (q:=λD=>by simp only[ck,ci];exact(au))
 . exact uK
 . exact uL
def aoS(cd:kd B L)(l:List Src)(o:hK)(ak:n3 o)(aJ:o.out=0)(J:(iw B.ek B.na L o).over=false):ab E 474 [ptr p 0] Xx (aH gP (gy X B p ⟨.mU wG l,0,0⟩::uM)):=by
 refine fc .head (λe Y=>?_);obtain⟨q,c1,bq,b7,a,c,cg,s⟩:=e;refine gh ?_;have b:o.over=false:=AV;have i:=AR q X.hc X.m B.ek B.na L t o cd.hc ak;exact Xw
def aoT(cd:kd B L)(l:List Src)(o:hK)(ak:n3 o)(aJ:o.out=0)(J:(iw B.ek B.na L o).over=true):ab E 474 [ptr p 0] Xx (aH (.bool (gC.over NA)) (gy X B p NA::uM)):=by
 refine fc .head (λe Y=>?_);obtain⟨q,c1,bq,b7,a,c,cg,s⟩:=e;refine gh ?_;have b:o.over=false:=AV;have i:=AR q X.hc X.m B.ek B.na L t o cd.hc ak;rw[J,b]at i;simp only[e2,eI]at i;refine pF uM
  ((uJ X B p NA ?_).mono λv I h=>?_)
  i (aoE X B p _ _ cd.ek a c l cg s 0 q c1 bq b7 wG) (g:=λD=>by simp only[ck,ci];exact(au)) (q:=λD=>by simp only[ck,ci];exact(au))
 . exact uK
 . exact uL
def aoU(cd:kd B L)(w:Nat)(R:w<B.bX)(o:hN)(hk:o.k<=4)(hC:o.w<B.bX)(aJ:o.out=0)(J:(j1 B.b B.bX L o).over=true):ab E 474 [ptr p 0] (jt X B p (.qg w o)::wH) (aH gP (gy X B p ⟨.k1 w (kr true 0),0,0⟩::uN)):=by
 refine fc .head (λe Y=>?_);obtain⟨q,c1,bq,b7⟩:=e;refine gh ?_;have b:o.over=false:=DJ;have i:=Dz q X.be X.m B.b B.bX L t o cd.be hk hC;rw[J,b]at i;simp only[e2,eI]at i;refine pF uN
  ((uJ X B p ⟨.k1 w (kr true 0),0,0⟩ ?_).mono λv I h=>?_)
  i ((fun(_:hN)=>aoi X B p _ _ cd.ek c1 bq b7 w) r5) (g:=λD=>by simp only[ck,ci];exact(r3 (au))) (q:=λD=>by simp only[ck,ci];exact(au))
 . exact uK
 . exact uL
def aoV(cd:kd B L)(w:Nat)(R:w<B.bX)(o:hK)(ak:n3 o)(aJ:o.out=0)(J:(iw B.ek B.na L o).over=false):ab E 474 [ptr p 0] Xy (aH gP (gy X B p ⟨.k1 w wG,0,0⟩::uM)):=by
 refine fc .head (λe Y=>?_);obtain⟨q,eA,c1,bq,b7⟩:=e;refine gh ?_;have b:o.over=false:=AV;have i:=AR q X.hc X.m B.ek B.na L t o cd.hc ak;rw[J,b]at i;simp only[e2,eI]at i;refine p9 i (λD=>?_);refine gh ?_;exact r3 (cE (q,eA,c1,bq,b7) Y (au))
def aoW(cd:kd B L)(w:Nat)(R:w<B.bX)(o:hK)(ak:n3 o)(aJ:o.out=0)(J:(iw B.ek B.na L o).over=true):ab E 474 [ptr p 0] Xy (aH (.bool (gC.over NB)) (gy X B p NB::uM)):=by
 refine fc .head (λe Y=>?_);obtain⟨q,eA,c1,bq,b7⟩:=e;refine gh ?_;have b:o.over=false:=AV;have i:=AR q X.hc X.m B.ek B.na L t o cd.hc ak;rw[J,b]at i;simp only[e2,eI]at i;refine pF uM
  ((uJ X B p NB ?_).mono λv I h=>?_)
  i (aoj X B p _ _ w R q eA c1 bq b7 wG) (g:=λD=>by simp only[ck,ci];exact(au)) (q:=λD=>by simp only[ck,ci];exact(au))
 . exact uK
 . exact uL
def aoX(cd:kd B L)(w:Nat)(R:w<B.bX)(v:Int)(o:hN)(hk:o.k<=4)(hC:o.w<B.bX)(aJ:o.out=0)(J:(j1 B.b B.bX L o).over=true):ab E 474 [ptr p 0] (jt X B p (.up w v o)::wH) (aH hI (gy X B p ⟨.up w v r5,1,v⟩::uN)):=by
 refine fc .head (λe Y=>?_);obtain⟨q,z,eA,bq,g⟩:=e;refine gh ?_;have b:o.over=false:=DJ;have i:=Dz q X.be X.m B.b B.bX L t o cd.be hk hC;rw[J,b]at i;simp only[e2,eI]at i;replace Y:g.value=v:=Y;refine pF uN
  ((uJ X B p ⟨.up w v r5,1,v⟩ ?_).mono λv I h=>?_)
  i ((fun(_:hN)=>aok X B p _ _ z eA bq g) r5) (g:=λD=>by simp only[ck,ci];exact(by rw[Y];exact(AT (by decide) _ _ (au)))) (q:=λD=>by simp only[ck,ci];exact(au))
 . exact uK
 . exact uL
def aoY(cd:kd B L)(o:hN)(hk:o.k<=4)(hC:o.w<B.bX)(aJ:o.out=0)(J:(j1 B.b B.bX L o).over=true):ab E 474 [ptr p 0] (jt X B p (.oK o)::wH) (aH hI (gy X B p Xz::uN)):=by
 refine fc .head (λe Y=>?_);obtain⟨q,c1,bq⟩:=e;refine gh ?_;have b:o.over=false:=DJ;have i:=Dz q X.be X.m B.b B.bX L t o cd.be hk hC;rw[J,b]at i;simp only[e2,eI]at i;have d:(j1 B.b B.bX L o).out≠0:=by simpa[hN.over]using J
 refine pF uN
  ((uJ X B p Xz ?_).mono λv I h=>?_)
  i (aog X B p _ _ c1 bq q r5) (g:=λD=>by simp only[ck,ci];exact(AT d _ _ (au))) (q:=λD=>by simp only[ck,ci];exact(au))
 . exact uK
 . exact uL
abbrev yG:List al:=[bz X.m L t,fG X B,b8 X B,hU X B,ez X B,ao (k5 X B)]
def DK{D R':List al}(f:∀h,Sat D h->Sat R' h):∀(l:List al) (h:eQ),Sat (l++D) h->Sat (l++R') h
 |[],h,s=>f h s
 |_::l,_,s=>Sat.tail (r:=l++D) (m:=l++R') (DK f l) s
def aoZ{P:Program}{f:FuncId}{args:List Value}{M O s4:List al}{z:al}{N:Value}{i:Nat}(e:s4[i]?=some z)(h:ab P f args (M++[z]) (aH N (O++[z]))):ab P f args (M++[ao s4]) (aH N (O++[ao s4])):=λH D w s=>
 (h H (ao (s4.set i eJ) :: D) w (s.imp fun g t => by rw [jI] at t ⊢; exact DK (r6 e) M g t)).mono fun _ _ ⟨v, I, aC, ⟨aV, bF⟩, s⟩ => ⟨v, _, aC, wI, s.imp fun g t => by
  subst bF;rw[jI]at t⊢;obtain⟨ak,rfl⟩:=dp.1 e;refine DK (λg t=>?_) O g t;have:=uO (A:=s4[i]) ak g t;rwa[AW]at this⟩
def ao0{X:kN}{B:fT}{w:Nat}(R:w<B.bX):(k5 X B)[w]?=some (js (X.hL w) X.m (B.cq w) B.e0):=by simp[k5,R]
end
section
variable{X:kN}{B:fT}{p w:Nat}{L H:List Int}{t:Int}{ph:tv}{z:gC}{N:Value}
theorem Hu(R:w<B.bX)(h:ab E 474 [ptr p 0] (jt X B p ph::NC) (aH N (gy X B p z::bz X.m H (dV t)::ND))):
 ab E 474 [ptr p 0] (jt X B p ph::yG X B L t) (aH N (gy X B p z::yG X B H (dV t))):=
 aoZ (M:=XA) (O:=XB) (ao0 R) h
theorem r7(h:ab E 474 [ptr p 0] XA (aH N XB)):
 ab E 474 [ptr p 0] (jt X B p ph::yG X B L t) (aH N (gy X B p z::yG X B H (dV t))):=
 j9 h bN XC
end
def ao1(X:kN)(B:fT)(p:Nat)(L:List Int)(t:Int)(c:gC)(cd:kd B L)(a6:ww B c):ab E 474 [ptr p 0] (gy X B p c::yG X B L t)
 (aH (.bool (lx B L c).over) (gy X B p (lx B L c)::yG X B (nA B L c) (if c.over then t else dV t))):=by
 obtain⟨ph,out,val⟩:=c;by_cases aJ:out=0
 . subst aJ
   obtain⟨Y,Z⟩:=a6 rfl;obtain rfl:val=0:=Z;have k:(r8:gC).over=false:=rfl;have aC:lx B L r8=(h5 B L r8).2:=by unfold lx;rw[k];rfl
   have aV:nA B L r8=(h5 B L r8).1:=by unfold nA;rw[k];rfl
   have bF:gy X B p r8=jt X B p ph:=rfl;rw[aC,aV,bF,k];simp only[e2,eI];cases ph with
   |
    push w o v=>
    obtain⟨R,ak,T,_⟩:=Y;cases J:(ji (B.cq w) B.e0 L o).over with
    |false=>have:=Hu R (aoK X B p L t cd w R v o ak T J);simp only[h5,J,e2,eI];exact this
    |
     true=>
     have:=Hu R (aoL X B p L t cd w R v o ak T J);simp only[h5,J,fu];split<;>rename_i ah
     . rw[bg ah]at this;exact this
     . rw[a7 ah]at this;exact this
   |
    enter o v=>
    obtain⟨ak,T,_⟩:=Y;cases J:(iw B.ek B.na L o).over with
    |false=>have:=r7 (aoM X B p L t cd v o ak T J);simp only[h5,J,e2,eI];exact this
    |
     true=>
     have:=r7 (aoN X B p L t cd v o ak T J);simp only[h5,J,fu];split<;>rename_i ah
     . rw[bg ah]at this;exact this
     . rw[a7 ah]at this;exact this
   |
    ring o=>
    obtain⟨hk,R,T⟩:=Y;cases J:(j1 B.b B.bX L o).over with
    |false=>have:=r7 (aoO X B p L t cd o hk R T J);simp only[h5,J,e2,eI];exact this
    |true=>have:=r7 (aoP X B p L t cd o hk R T J);simp only[h5,J,fu];exact this
   |
    ih w o l=>
    obtain⟨R,ak,T,_⟩:=Y;cases J:(ji (B.cq w) B.e0 L o).over with
    |false=>have:=Hu R (aoQ X B p L t cd w R l o ak T J);simp only[h5,J,e2,eI];exact this
    |true=>have:=Hu R (aoR X B p L t cd w R l o ak T J);simp only[h5,J,fu];exact this
   |
    mU o l=>
    obtain⟨ak,T,_⟩:=Y;cases J:(iw B.ek B.na L o).over with
    |false=>have:=r7 (aoS X B p L t cd l o ak T J);simp only[h5,J,e2,eI];exact this
    |true=>have:=r7 (aoT X B p L t cd l o ak T J);simp only[h5,J,fu];exact this
   |
    qg w o=>
    obtain⟨R,hk,hC,T⟩:=Y;exact r7 (aoU X B p L t cd w R o ad hC T (Ha ad T))
   |
    k1 w o=>
    obtain⟨R,ak,T⟩:=Y;cases J:(iw B.ek B.na L o).over with
    |false=>have:=r7 (aoV X B p L t cd w R o ak T J);simp only[h5,J,e2,eI];exact this
    |true=>have:=r7 (aoW X B p L t cd w R o ak T J);simp only[h5,J,fu];exact this
   |
    up w v o=>
    obtain⟨R,hk,hC,T⟩:=Y;exact r7 (aoX X B p L t cd w R v o ad hC T (Ha ad T))
   |
    oK o=>
    obtain⟨hk,hC,T⟩:=Y;have J:=Ha (b:=B.b) (n:=B.bX) (L:=L) (o:=o) ad T;have:=r7 (aoY X B p L t cd o ad hC T J);have e:(gC.mk (.oK r5) (j1 B.b B.bX L o).out 0).over=true:=J;simp only[h5];rw[e];exact this
 . have J:(o4:gC).over=true:=by simp[gC.over,aJ]
   have aC:lx B L o4=o4:=by unfold lx;rw[bg J]
   have aV:nA B L o4=L:=by unfold nA;rw[bg J]
   have bF:gy X B p o4=DG X p out val:=by unfold gy;rw[a7 aJ]
   rw[aC,aV,J,bF];simp only[fu];have h:ab E 474 [ptr p 0] [DG X p out val] (aH hI [DG X p out val]):=kC (λx ah=>j9 (MC p _ _ _ out val aJ) nz Ny);exact j9 h bN XC
section
variable(m b bX n e0 na:Nat){X:kN}(L:List Int){B:fT}(t:Int){O:List Nat}
def mW(L:List Int)(b:Nat):Nat->List Int
 |0=>L
 |i+1=>(mW L b i).set (b+i) (if i<2 then 1 else 0)
def NE(L:List Int)(b:Nat):∀i,(mW L b i).length=L.length
 |0=>rfl
 |i+1=>by rw[mW,gr,NE L b i]
def NF(h1:1<=n)(h2:n<=8):ab E 103 [af n] [] (aH (af (n:Nat)) []):=by
 have:=an6 (n:Int);rwa[bg ad]at this
def NG(h1:1<=n)(h2:n<=64):ab E 104 [af n] [] (aH (af ((2+2*n:Nat):Int)) []):=by
 have:=an7 (n:Int);rw[bg ad]at this;rwa[show((2+2*n:Nat):Int)=2+2*(n:Int) by omega]
def NH(h1:1<=n)(h2:n<=64):ab E 105 [af n] [] (aH (af ((2+n:Nat):Int)) []):=by
 have:=an8 (n:Int);rw[bg ad]at this;rwa[show((2+n:Nat):Int)=2+(n:Int) by omega]
def r9(L:List Int)(B:fT):Nat->List Int
 |0=>im (im L B.b B.bX) B.ek (2+2*B.na)
 |k+1=>mW (r9 L B k) (B.cq k) (2+B.e0)
def NI(L:List Int)(B:fT):∀k,(r9 L B k).length=L.length
 |0=>by rw[r9,wJ,wJ]
 |k+1=>by rw[r9,NE,NI L B k]
def yH(B:fT)(O:List Nat):List al:=O.mapIdx λw q=>js q m (B.cq w) B.e0
def ao2{m:Nat}{B:fT}{O:List Nat}{q:Nat}:yH m B (O++[q])=yH m B O++[js q m (B.cq O.length) B.e0]:=XD
def ao3(aw:O.length=B.bX)(ah:X.hL=λw=>O.getD w 0):k5 X B=yH X.m B O:=by
 unfold k5 yH;rw[ah,<-aw];exact XE
def ao4(aw:O.length=B.bX)(ah:X.hL=λw=>O.getD w 0):AS X B=O.map λq=>ptr q 0:=by
 unfold AS;rw[ah,<-aw];exact XE
def ao5(K:He b n L)(h1:1<=n):ab E 109 AF wg (λu I=>∃q,u=.tuple #[ptr q 0,af 0]/\I=[bz m (im L b (n)) (jp (n) t),ks q m b n]):=by
 refine av Tryz.func109 λH D=>?_;have h2:=K.n8;have hlen:=K.len;have g:=K.dG;refine cB ?_;refine aU (NF n h1 h2) ?_;refine Hv ?_;refine hb (bv:=Nat) (λx=>x<=n) (λx=>((31,af x)::(30,af ((n:Nat):Int))::Hw)) (λx=>bz m (im L b x) (jp x t)::D) (λx=>n -x) 0 (fk _) eb (au) ?_;intro k hk;refine bj ?_;refine ch (λW=>?_) (λW=>?_)
 . exact NJ
 . obtain rfl:k=n:=by omega
   exact XF
def ao6(K:r1 b n L):ab E 110 AF wg (λu I=>∃q,u=.tuple #[ptr q 0,af 0]/\I=[bz m (im L b (2+2*n)) (jp (2+2*n) t),kt q m b n]):=by
 refine av Tryz.func110 λH D=>?_;have h1:=K.ed;have h2:=K.jT;have hlen:=K.len;have g:=K.dG;refine cB ?_;refine aU (NG n h1 h2) ?_;refine Hv ?_;refine XG ?_;intro k hk;refine ch (λW=>?_) (λW=>?_)
 . exact NJ
 . exact XH
def ao7(K:yz b n L):ab E 111 AF wg (λu I=>∃q,u=.tuple #[ptr q 0,af 0]/\I=[bz m (mW L b (2+n)) (jp (2+n) t),js q m b n]):=by
 refine av Tryz.func111 λH D=>?_;have h1:=K.ed;have h2:=K.jT;have hlen:=K.len;have g:=K.dG;refine cB ?_;refine aU (NH n h1 h2) ?_;refine Hv ?_;refine hb (bv:=Nat) (λx=>x<=2+n) (λx=>((32,af x)::(31,af ((2+n:Nat):Int))::Hw)) (λx=>bz m (mW L b x) (jp x t)::D) (λx=>2+n -x) 0 (fk _) eb (au) ?_;intro k hk;refine bj ?_;refine ch (λW=>?_) (λW=>?_)
 . refine gq ?_
   refine bb ?_;refine ch (λM=>?_) (λM=>?_)
   . refine dh ?_
     refine XI ?_;refine gg (k+1) (show k+1<=_ by omega) ad eb (by rw[mW,bg (by omega)];exact(au))
   . refine bQ ?_
     refine XI ?_;refine gg (k+1) (show k+1<=_ by omega) ad eb (by rw[mW,a7 (by omega)];exact(au))
 . obtain rfl:k=2+n:=by omega
   refine dB ?_;refine wn λa=>?_;exact NK
def XJ(h1:1<=bX)(h2:bX<=8)(aN:1<=e0)(bA:e0<=64)(d3:1<=na)(g3:na<=16):ab E 59 [af bX,af e0,af na] [] (aH (af ((fT.size ⟨b,bX,e0,na⟩:Nat):Int)) []):=by
 refine av Tryz.func59 λH D=>?_;have bf:bX*(2+e0)<=8*66:=qi h2 ad;refine bQ ?_;refine aU (NF bX h1 h2) ?_;refine aG ?_;refine cn rfl (b9 rfl (NG na d3 ad) bN) ?_;refine gU ?_;refine rL ?_;refine aU (NH e0 aN bA) ?_;refine c4 ?_;refine oZ rfl rfl h9 ?_;refine XK ?_;refine oZ rfl rfl h9 ?_;refine XL ?_;refine aB rfl (fy ((bX+(2+2*na):Nat):Int) ff rfl rfl) ?_;refine bb ?_;refine aB rfl (rT ((bX*(2+e0):Nat):Int) (by rw[<-DC];exact jz (by generalize bX*(2+e0)=F at bf⊢;omega)) rfl rfl) ?_;refine aB rfl (fy ((bX+(2+2*na)+bX*(2+e0):Nat):Int) (by generalize bX*(2+e0)=F at bf⊢;rw[jz (by omega)];omega) rfl rfl) ?_;refine bE ?_;exact aQ cj
def ao8(K:kd ⟨b,bX,e0,na⟩ L):ab E 65 [ptr m 0,af b,af bX,af e0,af na] wg (λu I=>∃(X:kN) (dr:Int),X.m=m/\u=.tuple #[ptr X.c 0,af 0]/\I=yG X (⟨b,bX,e0,na⟩:fT) (r9 L (⟨b,bX,e0,na⟩:fT) bX) dr):=by
 refine av Tryz.func65 λH D=>?_;have h1:1<=bX:=K.aG;have h2:bX<=8:=K.bQ;have aN:1<=e0:=K.s1;have bA:e0<=64:=K.pJ;have d3:1<=na:=K.cu;have g3:na<=16:=K.hd;have hlen:b+(bX+(2+2*na)+bX*(2+e0))<=L.length:=K.len;have g:=K.dG;obtain⟨aZ,l⟩:∃F,F=fT.size ⟨b,bX,e0,na⟩:=⟨_,rfl⟩;have i:=XJ b bX e0 na h1 h2 aN bA d3 g3;rw[<-l]at i;have o:1<=aZ:=by rw[l];show 1<=bX+(2+2*na)+bX*(2+e0);omega
 have z:b+aZ<=L.length:=by rw[l];exact hlen
 refine c4 ?_;refine aU (i) ?_;refine XM ?_;refine bE ?_;refine wn λf=>?_;refine cB ?_;refine cn rfl (b9 rfl (ao5 m b bX L _ ⟨h2,by omega,g⟩ h1) bN) ?_;rintro _ D ⟨_,⟨be,rfl,rfl⟩,rfl⟩;refine F1 ?_;refine aU (NF bX h1 h2) ?_;refine aB rfl (fy ((b+bX:Nat):Int) ff rfl rfl) ?_;refine cB ?_;refine cn rfl (b9 rfl (ao6 m (b+bX) na (im L b bX) _ ⟨d3,by omega,by rw[wJ];omega,by rw[wJ];omega⟩) bN) ?_;rintro _ D ⟨_,⟨hc,rfl,rfl⟩,rfl⟩;refine F1 ?_;refine cn rfl (b9 rfl (NG na d3 ad) bN) ?_;refine gU ?_;refine fC ?_;refine aB rfl (fy ((b+bX+(2+2*na):Nat):Int) ff rfl rfl) ?_;refine bE ?_;refine nu (jc (e:=210) (aZ:=1)) ?_;refine nu wK ?_;refine bj ?_;refine hb (bv:=List Nat×(Option Addr×Nat)×Int) (λe=>e.1.length<=bX) (λe=>[(70,af e.1.length),(69,af bX),(13,ptr f 0),(0,ptr m 0),(1,af ((b+bX+(2+2*na):Nat):Int)),(3,af e0)]) (λe=>bz m (r9 L (⟨b,bX,e0,na⟩:fT) e.1.length) e.2.2::aa f 205 [ptr be 0,ptr hc 0,.slice e.2.1.1 e.1.length e.2.1.2]::own (.slice e.2.1.1 e.1.length e.2.1.2) 210 1 e.1.length (e.1.map λq=>ptr q 0)::ao (yH m (⟨b,bX,e0,na⟩:fT) e.1)::ks be m b bX::kt hc m (b+bX) na::D) (λe=>bX -e.1.length) ([],(none,0),_) (fk _) eb (au) ?_;rintro⟨O,⟨a,c⟩,i2⟩ hk;replace hk:O.length<=bX:=hk;dsimp only;refine bj ?_;refine ch (λW=>?_) (λW=>?_)
 . have bf:O.length*(2+e0)+(2+e0)<=bX*(2+e0):=fT.akX (B:=(⟨b,bX,e0,na⟩:fT)) (show O.length<bX by omega)
   refine ov ?_;refine aU (NH e0 aN bA) ?_;refine aB rfl (rT ((O.length*(2+e0):Nat):Int) (by rw[<-DC];exact jz (by generalize O.length*(2+e0)=F at bf⊢;omega)) rfl rfl) ?_;refine aB rfl (fy ((b+bX+(2+2*na)+O.length*(2+e0):Nat):Int) (by generalize O.length*(2+e0)=F at bf⊢;rw[jz (by omega)];omega) rfl rfl) ?_;refine aG ?_;refine cn rfl (b9 rfl (ao7 m (b+bX+(2+2*na)+O.length*(2+e0)) e0 (r9 L (⟨b,bX,e0,na⟩:fT) O.length) _ ⟨aN,bA,by rw[NI];omega,by rw[NI];omega⟩) bN) ?_;rintro _ D ⟨_,⟨q,rfl,rfl⟩,rfl⟩;refine fC ?_;refine gd ?_;refine wn λr=>?_;refine gj λn p=>?_;refine dh ?_;refine gg (O++[q],(n,p),_) (show(O++[q]).length<=bX by rw[eZ];show O.length+1<=bX;omega) (show bX -(O++[q]).length<bX -O.length by rw[eZ];show bX -(O.length+1)<bX -O.length;omega) (bd.cons uP eb) (λh s=>by dsimp only;rw[ao2,eZ,oY];exact(hJ.from (A:=ao (yH m (⟨b,bX,e0,na⟩:fT) O++[js q m (fT.cq (⟨b,bX,e0,na⟩:fT) O.length) e0])) (.tail (.tail (.tail .head)))) (tw h ((au) h s)))
 . have j:O.length=bX:=by omega
   refine bj ?_;refine yi (λh s=>AX (show 0<O.length by omega) h (hJ.to (A:=own (.slice a O.length c) 210 1 O.length (O.map λq=>ptr q 0)) eP s)) ?_;rintro⟨d,rfl,-⟩;have aC:yH m (⟨b,bX,e0,na⟩:fT) O=k5 ⟨f,m,be,hc,d,c,λw=>O.getD w 0⟩ (⟨b,bX,e0,na⟩:fT):=(ao3 (X:=⟨f,m,be,hc,d,c,λw=>O.getD w 0⟩) (B:=(⟨b,bX,e0,na⟩:fT)) j rfl).symm;have aV:(O.map λq=>ptr q 0)=AS ⟨f,m,be,hc,d,c,λw=>O.getD w 0⟩ (⟨b,bX,e0,na⟩:fT):=(ao4 (X:=⟨f,m,be,hc,d,c,λw=>O.getD w 0⟩) (B:=(⟨b,bX,e0,na⟩:fT)) j rfl).symm;rw[aC,aV,j];refine bQ ?_;exact aQ ⟨⟨f,m,be,hc,d,c,λw=>O.getD w 0⟩,i2,rfl,rfl,rfl⟩
def NL(h1:1<=n)(h2:n<=16):ab E 62 [af n] [] (aH (af ((n*n:Nat):Int)) []):=by
 refine av Tryz.func62 λH D=>?_;have bf:n*n<=16*16:=qi h2 h2;refine c4 ?_;refine oZ rfl rfl h9 ?_;refine XL ?_;refine aB rfl (rT ((n*n:Nat):Int) (by rw[<-DC];exact jz (by generalize n*n=F at bf⊢;omega)) rfl rfl) ?_;refine bE ?_;exact aQ cj
def ao9(h1:1<=n)(h2:n<=16)(hlen:b+n*n<=L.length)(g:L.length<=65536):ab E 67 AF wg (λu I=>∃q,u=.tuple #[ptr q 0,af 0]/\I=[bz m (im L b (n*n)) (jp (n*n) t),dy q m b n]):=by
 refine av Tryz.func67 λH D=>?_;obtain⟨aZ,l⟩:∃F,F=n*n:=⟨_,rfl⟩;have o:1<=aZ:=by rw[l];exact qi h1 h1
 rw[<-l]at hlen⊢;have i:=NL n h1 h2;rw[<-l]at i;refine cB ?_;refine aU (i) ?_;refine Hv ?_;refine hb (bv:=Nat) (λx=>x<=aZ) (λx=>((31,af x)::(30,af ((aZ:Nat):Int))::Hw)) (λx=>bz m (im L b x) (jp x t)::D) (λx=>aZ -x) 0 (fk _) eb (au) ?_;intro k hk;refine bj ?_;refine ch (λW=>?_) (λW=>?_)
 . exact NJ
 . obtain rfl:k=aZ:=by omega
   exact XF
end
end Go.Proofs.YtnnhpnccfnghdaaGreat.L
namespace Go.Proofs.YtnnhpnccfnghdaaGreat.L.Lg
open Go.Proofs.YtnnhpnccfnghdaaGreat.L
open Go.L Go.L.Led
section
variable(p z:Nat)(r:List (Int×Int))(id w:Int)(j:Nat)
def cY:al:=
 dq (bv:=Nat×(Option Addr×Nat)×List Int) (λx=>sg r x.2.2) (λx=>[aa p 161 (.map (some x.1)::.slice x.2.1.1 r.length x.2.1.2::x.2.2.map j2),bs x.1 .u64 (r.map λq=>(q.1,j2 q.2)),own (.slice x.2.1.1 r.length x.2.1.2) 36 1 r.length (r.map λq=>rj q.1)])
theorem yP{p:Nat}{r m:List (Int×Int)}{M D:List al}(z:Nat)(a:Option Addr)(c:Nat)(cs:List Int)(K:sg r cs)(e:m=r)
 (t:∀h,Sat M h->Sat (aa p 161 (.map (some z)::.slice a r.length c::cs.map j2)::bs z .u64 (r.map λq=>(q.1,j2 q.2))::own (.slice a r.length c) 36 1 r.length (r.map λq=>rj q.1)::D) h):∀h,Sat M h->Sat (cY p m::D) h:=by
 subst e;exact cE (z,(a,c),cs) K t
theorem H0:(dR (r.map λq=>(q.1,j2 q.2)) id).getD eu=j2 (bm r id):=by
 rw[yQ];unfold bm;cases dR r id<;>rfl
theorem ap7{r:List sh}{id:Int}(h:1<=bm r id):dR r id=some (bm r id):=by
 unfold bm at h⊢;cases bf:dR r id with
 |none=>rw[bf]at h;simp at h
 |some x=>simp
theorem ap8{r:List (Int×Int)}{id w x:Int}(h:dR r id=some x):(ew r id w).map (λq=>rj q.1)=r.map (λq=>rj q.1):=by
 have:=congrArg (List.map rj) (Od (w:=w) h);rw[wN,wN]at this;exact this
def Oe(x:Int):ab E 75 [j2 x] [] (λv I=>v=.bool (decide (1<=x/\x<=6))/\I=[]):=by
 refine kq Tryz.func75 rfl rfl rfl ?_;refine Ys ?_;intro H D;refine aB rfl (Aj rfl rfl) ?_;refine ke ?_;refine hY rfl rfl (λW=>?_) (λW=>?_) rfl
 . have f:=W
   replace f:=bW f;refine ke ?_;refine oZ rfl rfl W ?_;refine aB rfl (H2 rfl rfl) ?_;refine aB rfl (DU W rfl rfl) ?_;exact Yt
 . have f:=W
   replace f:=bW f;simp only[iE];refine G5 rfl rfl W rfl ?_;refine aB rfl (yR W rfl rfl) ?_;exact Yt
theorem Yu(v:Value)(cs:List Int)(m:List (Int×Int))(id:Int)(k j:Nat)(B:cs.length=9)(hk:bm m id=k)(a:k<9)(O:j<9):
 ab E 258 [ptr p 0,rj id,j2 j] [aa p 161 (.map (some z)::v::cs.map j2),bs z .u64 (m.map λp=>(p.1,j2 p.2))]
  (aH (.tuple #[]) [aa p 161 (.map (some z)::v::(bump (bump cs k (-1)) j 1).map j2),bs z .u64 ((ew m id j).map λp=>(p.1,j2 p.2))]):=by
 refine kq Tryz.func258 rfl rfl rfl ?_;refine Yv ?_;intro H D;refine h0 [15] [] [(0,.loc),(1,.loc),(2,.loc),(3,.loc),(4,.loc),(5,.loc),(6,.loc),(7,.loc),(8,.loc),(9,.loc),(10,.loc),(11,.loc),(12,.loc),(13,.loc),(14,.loc),(15,.da)] [] mixed hM ?_;refine Of ?_
 first|refine go_v rfl .none rfl (o_load rfl rfl) ?_|refine go_v rfl .none rfl (gF rfl rfl) ?_|refine go_v rfl .none rfl (uX rfl) ?_
 refine go_v rfl .none rfl (j3 rfl) ?_;refine go_v rfl .none rfl (lT (j2 k) (by rw[H0,hk]) rfl rfl) ?_;refine Yw ?_;refine go_v rfl .none rfl (o_load rfl (Yx _ _ _ _ ad)) ?_;refine go_v rfl .none rfl (yB rfl rfl) ?_;refine Yw ?_;refine go_u rfl .none (mo rfl rfl rfl (by simp[B];omega)) (λC=>absurd C bw) ?_;rw[Yy];change c3 _ _ _ _ _ _ _ (aa p _ (_::_::(bump cs k (-1)).map j2)::_) _ _;refine go_nil ?_;refine hz ?_;refine ap9 ?_;refine ke ?_;refine ko (Yz rfl rfl rfl) ?_;rw[DV];refine oN ?_;refine h0 [10] [] [(0,.loc),(1,.loc),(2,.loc),(3,.loc),(4,.loc),(5,.loc),(6,.loc),(7,.loc),(8,.loc),(9,.loc),(10,.da)] [] mixed hM ?_;refine Of ?_;refine go_v rfl .none rfl (lU rfl rfl O) ?_;refine go_v rfl .none rfl (o_load rfl (Yx _ _ _ _ (by simp[bump];omega))) ?_;refine go_v rfl .none rfl (nU rfl rfl) ?_;refine go_v rfl .none rfl (mm rfl) ?_
 first|refine go_v rfl .none rfl (si rfl) ?_|refine go_v rfl .none rfl (mX rfl) ?_
 refine go_v rfl .none rfl (lU rfl rfl O) ?_;refine go_u rfl .none (mo rfl rfl rfl (by simp[bump,B];omega)) (λC=>absurd C bw) ?_;rw[Yy];refine go_nil ?_;refine Dp (.inr rfl) rfl _ (⟨rfl,rfl⟩) (au)
theorem Og(aF:r.length<=1099511627776)(g:1<=j)(O:j<9):
 ab E 206 [ptr p 0,rj id,j2 j] [cY p r] (aH (j2 (Bd r id)) [cY p (du r id j)]):=by
 refine kq Tryz.func206 rfl rfl rfl ?_;intro H D;simp only[wl,DW,gx,mO,lo,Nat.reduceAdd,ck,ci];refine kK eP ?_;rintro⟨z,⟨a,c⟩,cs⟩ K;have K:sg r cs:=K;simp only[ck,ci];refine hy ?_;refine jg ?_;refine aB rfl (mq rfl) ?_;refine ie ?_;refine hz ?_;refine hy ?_;refine hy ?_;refine jg ?_;refine aB rfl (j3 rfl) ?_;refine aB rfl (mm rfl) ?_
 first|refine aB rfl (si rfl) ?_|refine aB rfl (mX rfl) ?_
 first|refine aB rfl (o_load rfl rfl) ?_|refine aB rfl (gF rfl rfl) ?_|refine aB rfl (uX rfl) ?_
 refine aB rfl (j3 rfl) ?_;refine aB rfl (lT _ (H0 r id) rfl rfl) ?_;refine cn rfl (b9 rfl (Oe _) bN) ?_;rintro _ D ⟨_,⟨rfl,rfl⟩,rfl⟩
 try simp only[ck,ci]
 refine aB rfl (ql rfl) ?_;refine ie ?_;refine hz ?_;refine mT rfl (λW=>?_) (λW=>?_)
 ·
  replace W:=bW W;have co:aw (bm r id)=false:=by simpa[aw]using W
  refine hy ?_;refine jg ?_;refine aB rfl (mq rfl) ?_;refine ie ?_;refine hz ?_;refine oI ?_;refine yr ?_;refine jq (.inl rfl) rfl rfl [cY p (du r id j)] (⟨by simp[Bd,co],rfl⟩) (yP z a c cs K (by simp[du,co]) (au))
 ·
  replace W:=bW W;have co:aw (bm r id)=true:=by simpa[aw]using W
  obtain⟨k,hk⟩:∃k:Nat,bm r id=k:=⟨(bm r id).toNat,by rw[tz]at co;omega⟩;have b:1<=k/\k<=6:=by rw[tz]at co;omega
  have bf:=ap7 (r:=r) (id:=id) (by omega);refine q8 ?_;refine hz ?_;refine hy ?_;refine jg ?_;refine aB rfl (j3 rfl) ?_;refine aB rfl (j3 rfl) ?_;refine aB rfl (j3 rfl) ?_;refine cn rfl (b9 rfl (Yu p z _ cs r id k j K.len hk (by omega) O) bN) ?_;rintro _ D ⟨_,⟨rfl,rfl⟩,rfl⟩
  try simp only[ck,ci]
  refine ie ?_;refine hz ?_;refine hy ?_;refine jg ?_;refine aB rfl (mq rfl) ?_;refine ie ?_;refine hz ?_;refine oI ?_;refine jq (.inl rfl) rfl rfl [cY p (du r id j)] (⟨by simp[Bd,co],rfl⟩) (yP z a c _ (K.move (id:=id) (by rw[bf,hk]) b.1 (by omega) g O aF) (by simp[du,co]) (by rw[ap8 bf,Oh bf];exact(au)))
theorem Be(aF:r.length<=1099511627776):
 ab E 154 [ptr p 0,rj id,j2 w] [cY p r] (aH (j2 (Oi r id w)) [cY p (dH r id w)]):=by
 refine kq Tryz.func154 rfl rfl rfl ?_;refine YA ?_;intro H D;refine aqa ?_;refine mT rfl (λW=>?_) (λW=>?_)
 . replace W:=bW W
   have co:aw w=false:=YB;refine H3 ?_;refine jq (.inl rfl) rfl rfl _ (by rw[show dH r id w=r by simp[dH,co]];exact⟨by simp[Oi,co],rfl⟩) (au)
 . replace W:=bW W
   have co:aw w=true:=YB;obtain⟨j,rfl⟩:∃k:Nat,w=k:=⟨w.toNat,by rw[tz]at co;omega⟩;have b:1<=j/\j<=6:=aqb;refine aqc ?_;refine cn rfl (b9 rfl (Og p r id j aF b.1 ad) bN) ?_;refine YC ?_;refine jq (.inl rfl) rfl rfl _ (by rw[show dH r id j=du r id j by simp[dH,co]];exact⟨by simp[Oi,co],rfl⟩) (au)
theorem aqd(aF:r.length<=1099511627776):
 ab E 292 YD [cY p r] (aH (j2 (Bd r id)) [cY p (du r id 7)]):=by
 refine kq Tryz.func292 rfl rfl rfl ?_;refine YE ?_;intro H D;refine cn rfl (b9 rfl (Og p r id 7 aF ad ad) bN) ?_;exact YF
theorem aqe(aF:r.length<=1099511627776):
 ab E 203 YD [cY p r] (aH (j2 (Bd r id)) [cY p (du r id 8)]):=by
 refine kq Tryz.func203 rfl rfl rfl ?_;refine YE ?_;intro H D;refine cn rfl (b9 rfl (Og p r id 8 aF ad ad) bN) ?_;exact YF
theorem Oj:
 ab E 153 [ptr p 0,rj id] [cY p r] (aH (j2 (bm r id)) [cY p r]):=by
 refine kq Tryz.func153 rfl rfl rfl ?_;intro H D;simp only[wl,DW,gx,mO,lo,Nat.reduceAdd,ck,ci];refine kK eP ?_;rintro⟨z,⟨a,c⟩,cs⟩ K;have K:sg r cs:=K;simp only[ck,ci];refine hy ?_;refine jg ?_;refine aB rfl (mq rfl) ?_;refine ie ?_;refine hz ?_;refine hy ?_;refine jg ?_;refine aB rfl (j3 rfl) ?_;refine aB rfl (mm rfl) ?_
 first|refine aB rfl (si rfl) ?_|refine aB rfl (mX rfl) ?_
 first|refine aB rfl (o_load rfl rfl) ?_|refine aB rfl (gF rfl rfl) ?_|refine aB rfl (uX rfl) ?_
 refine aB rfl (j3 rfl) ?_;refine aB rfl (lT _ (H0 r id) rfl rfl) ?_;refine aB rfl (mq rfl) ?_;refine ie ?_;refine hz ?_;refine oI ?_;refine jq (.inl rfl) rfl rfl [cY p r] (⟨rfl,rfl⟩) (yP z a c cs K rfl (au))
theorem aqf(aF:r.length<=1099511627776)(hk:kO r):
 ab E 214 [ptr p 0,rj id,j2 w] [cY p r] (aH (j2 (H4 r id w)) [cY p (dW r id w)]):=by
 refine kq Tryz.func214 rfl rfl rfl ?_;intro H D;simp only[wl,DW,gx,mO,lo,Nat.reduceAdd,ck,ci];refine kK eP ?_;rintro⟨z,⟨a,c⟩,cs⟩ K;have K:sg r cs:=K;simp only[ck,ci];refine hy ?_;refine jg ?_;refine aB rfl (mq rfl) ?_;refine ie ?_;refine hz ?_;refine hy ?_;refine ts ?_;refine hy ?_;refine jg ?_;refine aB rfl (j3 rfl) ?_;refine cn rfl (b9 rfl (Oe _) bN) ?_;rintro _ D ⟨_,⟨rfl,rfl⟩,rfl⟩
 try simp only[ck,ci]
 refine aB rfl (ql rfl) ?_;refine aB rfl (mq rfl) ?_;refine ie ?_;refine hz ?_;refine mT rfl (λW=>?_) (λW=>?_)
 ·
  replace W:=bW W;have co:aw w=false:=by simpa[aw]using W
  refine hy ?_;refine jg ?_;refine aB rfl (mq rfl) ?_;refine ie ?_;refine hz ?_;refine oI ?_;refine Dj ?_;refine yr ?_;refine jq (.inl rfl) rfl rfl [cY p (dW r id w)] (⟨by simp[H4,co],rfl⟩) (yP z a c cs K (by simp[dW,co]) (au))
 ·
  replace W:=bW W;have co:aw w=true:=by simpa[aw]using W
  refine hy ?_;refine jg ?_;refine aB rfl (j3 rfl) ?_;refine aB rfl (mm rfl) ?_
  first|refine aB rfl (si rfl) ?_|refine aB rfl (mX rfl) ?_
  first|refine aB rfl (o_load rfl rfl) ?_|refine aB rfl (gF rfl rfl) ?_|refine aB rfl (uX rfl) ?_
  refine aB rfl (j3 rfl) ?_;refine aB rfl (lT _ (H0 r id) rfl rfl) ?_;refine aB rfl (mh rfl rfl) ?_;refine aB rfl (mq rfl) ?_;refine ie ?_;refine hz ?_;refine mT rfl (λM=>?_) (λM=>?_)
  ·
   replace M:=bW M;refine hy ?_;refine jg ?_;refine aB rfl (mq rfl) ?_;refine ie ?_;refine hz ?_;refine oI ?_;refine Dj ?_;refine yr ?_;refine jq (.inl rfl) rfl rfl [cY p (dW r id w)] (⟨by simp[H4,co,M],rfl⟩) (yP z a c cs K (by simp[dW,M]) (au))
  ·
   replace M:=bW M;have bf:dR r id=none:=hk.akY.1 M;obtain⟨j,rfl⟩:∃k:Nat,w=k:=⟨w.toNat,by rw[tz]at co;omega⟩;have b:1<=j/\j<=6:=by rw[tz]at co;omega
   refine q8 ?_;refine yq ?_;refine hz ?_;refine hy ?_;refine jg ?_;refine aB rfl (j3 rfl) ?_;refine aB rfl (j3 rfl) ?_;refine aB rfl (j3 rfl) ?_;refine cn rfl (b9 rfl (Yu p z _ cs r id 0 j K.len M (by omega) (by omega)) bN) ?_;rintro _ D ⟨_,⟨rfl,rfl⟩,rfl⟩
   try simp only[ck,ci]
   refine ie ?_;refine hz ?_;refine hy ?_;refine jg ?_;refine aB rfl (j3 rfl) ?_;refine aB rfl (j3 rfl) ?_;refine aB rfl (mm rfl) ?_
   first|refine aB rfl (si rfl) ?_|refine aB rfl (mX rfl) ?_
   first|refine aB rfl (o_load rfl rfl) ?_|refine aB rfl (gF rfl rfl) ?_|refine aB rfl (uX rfl) ?_
   refine aB rfl (j3 rfl) ?_
   first|refine jn rfl (H5 rfl rfl rfl) ?_|refine jn rfl (H6 rfl rfl rfl rfl) ?_|refine jn rfl (p6 rfl rfl rfl rfl) ?_
   rintro _ _ ⟨g,rfl,rfl⟩;refine jn rfl (DX rfl rfl bN rfl rfl rfl (by omega) (by unfold maxLen;omega)) ?_;rintro _ _ ⟨d,e,rfl,rfl⟩;refine aB rfl (mm rfl) ?_
   first|refine aB rfl (si rfl) ?_|refine aB rfl (mX rfl) ?_
   first|refine ko (mo rfl rfl rfl rfl) ?_|refine ko (s7 rfl rfl rfl (by first|assumption|omega|simp)) ?_
   refine ie ?_;refine hz ?_;refine hy ?_;refine jg ?_;refine aB rfl (mq rfl) ?_;refine ie ?_;refine hz ?_;refine oI ?_;refine jq (.inl rfl) rfl rfl [cY p (dW r id j)] (⟨by simp[H4,co,M],rfl⟩) (yP z d e _ (K.accept (id:=id) (j:=j) b.1 (by omega) aF) (by simp[dW,co,M]) (by rw[aqg bf,oY (f:=λq:Int×Int=>rj q.1),eZ];exact(au)))
def H7:ab E 56 [] [] (λu I=>∃p,u=ptr p 0/\I=[cY p []]):=by
 refine kq Tryz.func56 rfl rfl rfl ?_;refine Ol ?_;intro H D;refine jn rfl (YG) ?_;rintro _ _ ⟨z,rfl,rfl⟩;refine aB rfl (ly rfl rfl) ?_;refine jn rfl (Bf rfl) ?_;rintro _ _ ⟨p,rfl,rfl⟩;refine Bg ?_;refine jq (.inl rfl) rfl rfl [cY p []] (⟨p,rfl,rfl⟩) (yP z none 0 [0,0,0,0,0,0,0,0,0] ⟨rfl,rfl,λw h1 h2=>by match w,h1,h2 with|1,_,_|2,_,_|3,_,_|4,_,_|5,_,_|6,_,_|7,_,_|8,_,_=>rfl⟩ rfl (λh s=>Sat.tail (λh s=>YH _ (Bh _ s)) s))
end
end Go.Proofs.YtnnhpnccfnghdaaGreat.L.Lg
namespace Go.L.Th
open Go.L Go.L.Lx Go.L.Pg Go.L.Ring Go.L.dD Go.L.ej Go.L.Whl Go.L.dP Go.L.Led
inductive qE
 |act|jy|zJ|ask
structure gA where
 na:Nat
 hE:Nat
 fK:Nat
def dU(F:gA):qE->Int->Prop
 |.act,x=>1<=x/\x<=F.na
 |.jy,x=>1<=x/\x<=F.hE
 |.zJ,x=>0<=x/\x<F.fK
 |.ask,x=>1<=x/4096/\x/4096<=F.hE
structure gA.le(F y:gA):Prop where
 a:F.na<=y.na
 l:F.hE<=y.hE
 n:F.fK<=y.fK
def dU.mono{F y:gA}(h:F.le y){c:qE}{x:Int}(v:dU F c x):dU y c x:=by
 have h1:=h.a;have h2:=h.l;have aN:=h.n;cases c<;>simp only[dU]at*<;>omega
inductive ga
 |jf|none|val(c:qE)|rA(c:qE)|KV(w:Nat)|KW(w:Nat)
def gs(L:List Int)(i k:Nat)(x:Int):(L.set i x).getD k 0=if k=i/\i<L.length then x else L.getD k 0:=by
 simp only[iW,Yn];by_cases e:i=k
 . subst e
   by_cases h:i<L.length<;>simp[h]
 . rw[a7 e,a7 (λg=>e g.1.symm)]
section
variable(f:Nat->ga)(F:gA)(L:List Int)
def la{L:List Int}{i k:Nat}{x:Int}(h:k≠i):(L.set i x).getD k 0=L.getD k 0:=by rw[gs,a7 (λg=>h g.1)]
def rl{L:List Int}{i:Nat}{x:Int}(h:i<L.length):(L.set i x).getD i 0=x:=by rw[gs,bg ⟨rfl,h⟩]
inductive nK
 |no|own(w:Nat)|jf
def R9(j:nK)(L:List Int)(i:Nat)(x:Int):ga->Prop
 |.jf=>j=.jf
 |.none=>True
 |.val c=>dU F c x
 |.rA c=>x≠0->dU F c (L.getD (i+1) 0)
 |.KV _=>1<=x
 |.KW w=>j=.own w
def gX(j:nK)(L E:List Int):Prop:=E=L\/∃i x,E=L.set i x/\R9 F j L i x (f i)
def sG:Prop:=∀i c,f i=.rA c->L.getD i 0≠0->dU F c (L.getD (i+1) 0)
end
section
variable{f:Nat->ga}{F:gA}{j:nK}{L E:List Int}
def gX.same:gX f F j L L:=.inl rfl
def gX.put{i:Nat}{x:Int}{t:ga}(e:f i=t)(h:R9 F j L i x t):gX f F j L (L.set i x):=.inr ⟨i,x,rfl,by rw[e];exact h⟩
def gX.iff{p:Prop}[Decidable p]{A B:List Int}(h1:p->gX f F j L A)(h2:¬p->gX f F j L B):gX f F j L (if p then A else B):=by
 by_cases h:p
 . rw[bg h];exact h1 h
 . rw[a7 h];exact h2 h
def gX.v(h:gX f F j L E){i:Nat}{c:qE}(ak:f i=.val c)(Z:dU F c (L.getD i 0)):dU F c (E.getD i 0):=by
 exact adn
def gX.jf(h:gX f F j L E)(O:j≠.jf){i:Nat}(ak:f i=.jf):E.getD i 0=L.getD i 0:=by
 rcases h with rfl|⟨k,x,rfl,ah⟩
 . rfl
 . rw[gs];split
   . rename_i e;obtain⟨rfl,_⟩:=e;rw[ak]at ah;exact absurd ah O
   . rfl
def gX.dG(h:gX f F j L E){i w:Nat}(ak:f i=.KV w)(Z:1<=L.getD i 0):1<=E.getD i 0:=by
 exact adn
def gX.iP(h:gX f F j L E){i w:Nat}(ak:f i=.KW w)(R:j≠.own w):E.getD i 0=L.getD i 0:=by
 rcases h with rfl|⟨k,x,rfl,ah⟩
 . rfl
 . rw[gs];split
   . rename_i e;obtain⟨rfl,_⟩:=e;rw[ak]at ah;exact absurd ah R
   . rfl
def gX.any(h:gX f F .no L E):gX f F j L E:=by
 rcases h with rfl|⟨k,x,rfl,ah⟩
 . exact .inl rfl
 . refine .inr ⟨k,x,rfl,?_⟩
   revert ah;cases f k<;>intro ah<;>first|exact ah|cases ah
def gX.rc(ba:∀i c,f i=.rA c->f (i+1)=.val c)(h:gX f F j L E)(r:sG f F L):sG f F E:=by
 rcases h with rfl|⟨k,x,rfl,ah⟩
 . exact r
 . intro i c ak aO
   by_cases h1:i=k
   . subst h1
     rw[la ad];rw[ak]at ah;by_cases h2:i<L.length
     . rw[rl h2]at aO;exact ah aO
     . rw[gs,a7 (λg=>h2 g.2)]at aO;exact r i c ak aO
   . rw[la h1]at aO
     rw[gs];split
     . rename_i e;obtain⟨rfl,_⟩:=e;rw[ba i c ak]at ah;exact ah
     . exact r i c ak aO
def sG.mono{y:gA}(h:F.le y)(r:sG f F L):sG f y L:=λi c a b=>(r i c a b).mono h
end
structure nL(f:Nat->ga)(b n:Nat)(c:qE)(len:Nat):Prop where
 ed:1<=n
 gJ:f b=.none
 aC:f (b+1)=.none
 t:∀k,k<n->f (b+2+2*k)=.rA c
 v:∀k,k<n->f (b+2+2*k+1)=.val c
 len:b+2+2*n<=len
def mod_lt{n:Nat}(h:1<=n)(t:Int):(t%(n:Int)).toNat<n:=by
 have h1:=Int.emod_nonneg t (show(n:Int)≠0 by omega);have h2:=M3 t (show(0:Int)<n by omega);omega
section
variable{f:Nat->ga}{F:gA}{j:nK}{b n:Nat}{c:qE}{L E:List Int}
def nL.tt(D:nL f b n c L.length)(t:Int):f (jx b n t)=.rA c:=D.t _ (mod_lt D.ed t)
def nL.oS(D:nL f b n c L.length)(t:Int):f (jx b n t+1)=.val c:=D.v _ (mod_lt D.ed t)
def nL.fV(D:nL f b n c L.length)(t:Int):jx b n t+1<L.length:=by
 have:=mod_lt D.ed t;have:=D.len;unfold jx;omega
def ah1(x:Int):fe (fe (x*2)+1)≠0:=by rw[xm,xm];omega
structure ah2(N:Int->Prop)(b n:Nat)(L:List Int)(o:fz):Prop where
 sC:o.pc<=3->N o.val
 xk:o.pc=4->N (L.getD (jx b n o.tick+1) 0)
 EZ:o.pc=7\/o.pc=8->N (L.getD (jx b n o.de+1) 0)
 B5:o.pc=8\/o.pc=9->N o.val
def lF(N:Int->Prop)(b n:Nat)(L:List Int)(o:fz):Prop:=o.out=0->ah2 N b n L o
def BE(pc:Nat):Nat:=if pc<=4 then 0 else if pc<=11 then 1 else if pc<=13 then 2 else 3
def lF.stay{o:fz}(D:nL f b n c L.length)(w:gX f F j L E)(h:lF (dU F c) b n L o):lF (dU F c) b n E o:=λaJ=>
 have g:=h aJ
 ⟨g.sC,λe=>w.v (D.oS _) (g.xk e),λe=>w.v (D.oS _) (g.EZ e),g.B5⟩
def lF.mono{y:gA}(l:F.le y){o:fz}(h:lF (dU F c) b n L o):lF (dU y c) b n L o:=λaJ=>
 have g:=h aJ
 ⟨λe=>(g.sC e).mono l,λe=>(g.xk e).mono l,λe=>(g.EZ e).mono l,λe=>(g.B5 e).mono l⟩
theorem E0{o:fz}(D:nL f b n c L.length)(rc:sG f F L)(ak:iH o)(aJ:o.out=0)(Z:ah2 (dU F c) b n L o):
 gX f F j L (lp b n L o)/\lF (dU F c) b n (lp b n L o) (dC b n L o)/\((dC b n L o).out=1->BE o.pc=1->dU F c (dC b n L o).val)/\((dC b n L o).out=0->BE (dC b n L o).pc=BE o.pc):=by
 obtain⟨pc,out,val,tick,de⟩:=o;have m:pc<=15:=ak.pc;obtain rfl:out=0:=aJ;obtain⟨v3,v4,k,p⟩:=Z;simp only at v3 v4 k p;have aC:lp b n L JF=l6 b n L JF:=rfl;have aV:dC b n L JF=lq b n L JF:=rfl;rw[aC,aV]
 match pc,m with
 |
  0,_=>
  have g:=v3 bw;simp only[l6,lq,yj];exact⟨.same,λ_=>aal,wS,λ_=>rfl⟩
 |
  1,_=>
  have g:=v3 bw;simp only[l6,lq,wk];refine⟨.same,?_⟩;split
  . exact IN
  . split
    . exact⟨hf,wS,hf⟩
    . exact IN
 |
  2,_=>
  have g:=v3 bw;simp only[l6,lq,yk,Bv];refine⟨.iff (λ_=>.put D.gJ trivial) zk,?_⟩;by_cases h:L.getD b 0=tick
  . simp only[h,fu]
    exact IN
  . simp only[h,eI]
    exact IN
 |
  3,_=>
  have g:=v3 bw;simp only[l6,lq,GV,RR];exact⟨.put (D.oS _) g,λ_=>⟨hf,λ_=>by simp only[];rw[rl (D.fV _)];exact g,hf,hf⟩,wS,λ_=>rfl⟩
 |
  4,_=>
  have g:=v4 rfl;simp only[l6,lq,GX,RS];exact⟨.put (D.tt _) λ_=>g,hf,wS,hf⟩
 |
  5,_=>
  simp only[l6,lq,ux];exact aae
 |
  6,_=>
  simp only[l6,lq,rX];refine⟨.same,?_⟩;by_cases h:L.getD (jx b n de) 0=fe (xl n de+1)
  . simp only[h,fu]
    have g:dU F c (L.getD (jx b n de+1) 0):=rc _ _ (D.tt de) (by rw[h];exact ah1 _);exact⟨λ_=>⟨hf,hf,λ_=>g,hf⟩,hf,λ_=>rfl⟩
  . simp only[h,eI]
    exact⟨hf,hf,hf⟩
 |
  7,_=>
  have g:=k (.inl rfl);simp only[l6,lq,GY];exact⟨.same,λ_=>⟨hf,hf,λ_=>g,λ_=>g⟩,hf,λ_=>rfl⟩
 |
  8,_=>
  have g:=k (.inr rfl);have cU:=p (.inl rfl);simp only[l6,lq,GZ,RT];exact⟨.put (D.tt _) λ_=>g,λ_=>⟨hf,hf,hf,λ_=>cU⟩,hf,λ_=>rfl⟩
 |
  9,_=>
  have cU:=p (.inr rfl);simp only[l6,lq,G0,RU];exact⟨.put D.aC trivial,hf,λ_ _=>cU,hf⟩
 |
  10,_=>
  simp only[l6,lq,G1];exact aae
 |
  11,_=>
  simp only[l6,lq,yl,ux];refine⟨.same,λ_=>IL,(λh=>?_),λ_=>rfl⟩;exfalso;revert h;split<;>decide
 |
  12,_=>
  simp only[l6,lq,G2,ux];exact aab
 |
  13,_=>
  have T:(ym b n L ⟨13,0,val,tick,de⟩).out≠0:=by
   unfold ym rX fz.over;simp only[];split<;>rename_i h
   . intro e;revert e;by_cases ah:L.getD (jx b n de) 0=fe (xl n de+1)<;>simp[ah,-List.getD_eq_getElem?_getD]
   . decide
  simp only[l6,lq];exact⟨.same,λh=>absurd h T,wS,λh=>absurd h T⟩
 |
  14,_=>
  simp only[l6,lq,yn];exact aab
 |
  15,_=>
  simp only[l6,lq,yo,Bt];refine⟨.iff (λ_=>.put D.gJ trivial) zk,λ_=>IL,wS,λ_=>rfl⟩
def xp{N:Int->Prop}{pc:Nat}{v:Int}(aN:pc<=3->N v)(h:pc<=3\/pc=5\/10<=pc):lF N b n L (gi pc v):=λ_=>
 ⟨aN,P0,P0,P0⟩
end
structure ah3(F:gA)(b n:Nat)(L:List Int)(o:hK):Prop where
 v:o.en=false->dU F .act o.v
 xk:o.en=false->o.jr=4->dU F .act (L.getD (ls b n o.t+1) 0)
 pt:o.en=true->2<=o.jr->dU F .act (L.getD (ls b n o.t+1) 0)
 zK:o.en=true->o.jr=4->dU F .act o.v
def sH(F:gA)(b n:Nat)(L:List Int)(o:hK):Prop:=o.out=0->ah3 F b n L o
section
variable{f:Nat->ga}{F:gA}{j:nK}{b n:Nat}{L E:List Int}
def sH.stay{o:hK}(D:nL f b n .act L.length)(w:gX f F j L E)(h:sH F b n L o):sH F b n E o:=λaJ=>
 have g:=h aJ
 ⟨g.v,λa e=>w.v (D.oS _) (g.xk a e),λa e=>w.v (D.oS _) (g.pt a e),g.zK⟩
def sH.mono{y:gA}(l:F.le y){o:hK}(h:sH F b n L o):sH y b n L o:=λaJ=>
 have g:=h aJ
 ⟨λa=>(g.v a).mono l,λa e=>(g.xk a e).mono l,λa e=>(g.pt a e).mono l,λa e=>(g.zK a e).mono l⟩
theorem Sa{o:hK}(D:nL f b n .act L.length)(rc:sG f F L)(ak:n3 o)(aJ:o.out=0)(Z:ah3 F b n L o):
 gX f F j L (n2 b n L o)/\sH F b n (n2 b n L o) (iw b n L o)/\((iw b n L o).out=1->o.en=true->dU F .act (iw b n L o).v)/\(iw b n L o).en=o.en:=by
 obtain⟨jr,en,t,v,out⟩:=o;have m:jr<=4:=ak.jr;obtain rfl:out=0:=aJ;obtain⟨v1,v4,d,v5⟩:=Z;simp only at v1 v4 d v5;have aC:n2 b n L JL=lu b n L JL:=rfl;have aV:iw b n L JL=jS b n L JL:=rfl;rw[aC,aV];have tt:f (ls b n t)=.rA .act:=D.tt t;have oS:f (ls b n t+1)=.val .act:=D.oS t;have fV:ls b n t+1<L.length:=D.fV t;have q:f (n1 b en)=.none:=by cases en;exact D.gJ;exact D.aC
 match jr,m with
 |
  0,_=>
  simp only[lu,jS];exact⟨.same,λ_=>aav,hf,by trivial⟩
 |
  1,_=>
  simp only[lu,jS];refine⟨.same,?_⟩;by_cases h:L.getD (ls b n t) 0=yv n t en
  . rw[bg h]
    refine⟨λ_=>⟨v1,y6,(λe _=>?_),y6⟩,hf,by trivial⟩;replace e:en=true:=e;subst e;exact rc _ _ tt (by rw[h];exact ah1 _)
  . rw[a7 h];split
    . exact aau
    . cases en
      . exact ach
      . exact ach
 |
  2,_=>
  simp only[lu,jS];refine⟨.iff (λ_=>.put q trivial) zk,?_⟩;by_cases h:L.getD (n1 b en) 0=t
  . simp only[h,fu]
    refine⟨λ_=>⟨v1,y6,(λe _=>?_),y6⟩,hf,by trivial⟩;exact(gX.put (f:=f) (j:=j) q (show R9 F j L (n1 b en) (fe (t+1)) .none from trivial)).v oS (d e bw)
  . simp only[h,eI]
    exact aau
 |
  3,_=>
  cases en
  . have g:=v1 rfl
    simp only[lu,jS,e2,eI];exact⟨.put oS g,λ_=>⟨λ_=>g,λ_ _=>by simp only[];rw[rl fV];exact g,hf,hf⟩,hf,by simp⟩
  . have g:=d rfl bw
    simp only[lu,jS,fu];exact⟨.same,λ_=>⟨hf,hf,λ_ _=>g,λ_ _=>g⟩,hf,by simp⟩
 |
  4,_=>
  simp only[lu,jS];refine⟨.put tt λ_=>?_,hf,λ_ e=>v5 e rfl,by trivial⟩;cases en
  . exact v4 rfl rfl
  . exact d rfl bw
end
structure xq(f:Nat->ga)(b n w:Nat)(len:Nat):Prop where
 ed:1<=n
 dG:f b=.KV w
 iP:f (b+1)=.KW w
 v:∀k,k<n->f (b+2+k)=.val .act
 len:b+2+n<=len
structure vs(F:gA)(b n ak:Nat)(L:List Int):Prop where
 t1:1<=L.getD b 0
 ar:L.getD (b+1) 0<=ak
 v:∀i:Int,1<=i->i<ak->dU F .act (L.getD (kb b n i) 0)
structure ah4(F:gA)(b n ak:Nat)(L:List Int)(o:ig):Prop where
 v:o.pc<=3->dU F .act o.v
 gH:1<=o.pc->o.pc<=3->o.b<=ak
 sC:o.pc=3->dU F .act (L.getD (kb b n o.b) 0)
 zK:5<=o.pc->o.pc<=9->1<=o.b/\o.b<=ak
 ah5:o.pc=6\/o.pc=7->L.getD (b+1) 0=o.b -1
 EZ:o.pc=7->1<=o.t/\o.t<=o.b -1
 B5:o.pc=8->dU F .act o.v/\o.t=o.b -1
 ah6:o.pc=9->o.ep=true->dU F .act o.v
 ah7:o.pc<=8->o.ep=false
 ah8:11<=o.pc->1<=o.t
 Sb:12<=o.pc->o.t<o.b/\o.b<=ak
 ah9:o.pc=13->dU F .act o.v
def tT(F:gA)(b n ak:Nat)(L:List Int)(o:ig):Prop:=o.out=0->ah4 F b n ak L o
def E1(o:ig):Prop:=o.out=0/\6<=o.pc/\o.pc<=9
def tU(pc:Nat):Nat:=if pc<=3 then 0 else if pc<=9 then 1 else 2
def KX{k l:Nat}(h:tU k=tU l):(k<=3↔l<=3)/\(k<=9↔l<=9):=by
 unfold tU at h;by_cases a:k<=3<;>by_cases b:k<=9<;>by_cases c:l<=3<;>by_cases d:l<=9<;>simp[a,b,c,d]at h⊢<;>omega
section
variable{f:Nat->ga}{F:gA}{j:nK}{b n w ak:Nat}{L E:List Int}
def xq.oS(D:xq f b n w L.length)(t:Int):f (kb b n t)=.val .act:=D.v _ (mod_lt D.ed t)
def xq.fV(D:xq f b n w L.length)(t:Int):kb b n t<L.length:=by
 have:=mod_lt D.ed t;have:=D.len;unfold kb;omega
def vs.stay{fP:Nat}(D:xq f b n w L.length)(wr:gX f F j L E)(R:j≠.own w)(h:vs F b n ak L)(co:fP=ak):vs F b n fP E:=by
 subst co;exact⟨wr.dG D.dG h.t1,by rw[wr.iP D.iP R];exact h.ar,λi a b=>wr.v (D.oS _) (h.v i a b)⟩
def vs.mono{y:gA}(l:F.le y)(h:vs F b n ak L):vs y b n ak L:=⟨h.t1,h.ar,λi a b=>(h.v i a b).mono l⟩
def tT.stay{fP:Nat}{o:ig}(D:xq f b n w L.length)(wr:gX f F j L E)(R:o.pc<=9->j≠.own w)(h:tT F b n ak L o)(co:ak<=fP):tT F b n fP E o:=λaJ=>
 have g:=h aJ
 ⟨
  g.v,λa b=>aia (g.gH a b) ad,λa=>wr.v (D.oS _) (g.sC a),λa b=>⟨(g.zK a b).1,aia (g.zK a b).2 ad⟩,
  λa=>by rw[wr.iP D.iP (R ad)];exact g.ah5 a,g.EZ,g.B5,g.ah6,g.ah7,g.ah8,λa=>⟨(g.Sb a).1,aia (g.Sb a).2 ad⟩,g.ah9⟩
def tT.mono{y:gA}(l:F.le y){o:ig}(h:tT F b n ak L o):tT y b n ak L o:=λaJ=>
 have g:=h aJ
 ⟨λa=>(g.v a).mono l,g.gH,λa=>(g.sC a).mono l,g.zK,g.ah5,g.EZ,λa=>⟨(g.B5 a).1.mono l,(g.B5 a).2⟩,λa b=>(g.ah6 a b).mono l,g.ah7,g.ah8,g.Sb,λa=>(g.ah9 a).mono l⟩
theorem aib{o:ig}(D:xq f b n w L.length)(K:iv L)(iJ:vs F b n ak L)(aA:ak<4611686018427387904)(bK:qc o)(aJ:o.out=0)(Z:ah4 F b n ak L o)(E:o.pc<=9->E1 o\/1<=L.getD (b+1) 0):
 gX f F (if o.pc<=9 then .own w else .no) L (mi b n L o)/\(∃fP,ak<=fP/\fP<=ak+1/\vs F b n fP (mi b n L o)/\tT F b n fP (mi b n L o) (ji b n L o))/\
 ((ji b n L o).out=1->tU o.pc≠0->dU F .act (ji b n L o).v)/\((ji b n L o).out=0->tU (ji b n L o).pc=tU o.pc)/\(o.pc<=9->E1 (ji b n L o)\/1<=(mi b n L o).getD (b+1) 0):=by
 obtain⟨pc,out,v,t,d,ep⟩:=o;have m:pc<=13:=bK.pc;have s:jh d:=bK.b;have it:jh t:=bK.t;obtain rfl:out=0:=aJ;obtain⟨v1,T,i0,e,r,C,G,H,l,z,B,I⟩:=Z;simp only at v1 T i0 e r C G H l z B I E;have aC:mi b n L JG=h4 b n L JG:=rfl;have aV:ji b n L JG=ia b n L JG:=rfl;rw[aC,aV];have aw:=D.len;have aO:=D.ed;have un:∀x:Int,0<=x->x<9223372036854775808->fe x=x:=λx a b=>by rw[xm];omega
 have d5:∀{k},6<=k->k<=9->True:=λ_ _=>trivial
 match pc,m with
 |
  0,_=>
  have p:=(E bw).resolve_left (λh=>by have:=h.2.1;simp at this);simp only[h4,ia];refine⟨.same,⟨ak,et _,io _,iJ,λ_=>⟨λ_=>v1 bw,λ_ _=>iJ.ar,?_,?_,?_,?_,?_,?_,λ_=>l bw,?_,?_,?_⟩⟩,?_,λ_=>rfl,λ_=>.inr p⟩<;>simp
 |
  1,_=>
  have p:=(E bw).resolve_left (λh=>by have:=h.2.1;simp at this);simp only[h4,ia];refine⟨.same,⟨ak,et _,io _,iJ,λ_=>⟨λ_=>v1 bw,λ_ _=>T bw bw,?_,?_,?_,?_,?_,?_,λ_=>l bw,?_,?_,?_⟩⟩,?_,λ_=>rfl,λ_=>.inr p⟩<;>simp[tU]
 |
  2,_=>
  have p:=(E bw).resolve_left (λh=>by have:=h.2.1;simp at this);have g:=v1 bw;simp only[h4,ia];have V:∀t,b≠kb b n t/\b+1≠kb b n t:=λt=>by unfold kb;omega
  have wr:gX f F (.own w) L (L.set (kb b n d) v):=.put (D.oS _) g;refine⟨wr,⟨ak,et _,io _,⟨by rw[la (V _).1];exact iJ.t1,by rw[la (V _).2];exact iJ.ar,λi a b=>wr.v (D.oS _) (iJ.v i a b)⟩,λ_=>⟨λ_=>g,λ_ _=>T bw bw,λ_=>by simp only[];rw[rl (D.fV _)];exact g,?_,?_,?_,?_,?_,λ_=>l bw,?_,?_,?_⟩⟩,?_,λ_=>rfl,λ_=>.inr (by rw[la (V _).2];exact p)⟩<;>simp
 |
  3,_=>
  have g:=i0 rfl;have ek:=T bw bw;have d7:=un (d+1) (by have:=s.1;omega) ad;simp only[h4,ia];rw[d7];have V:∀t,kb b n t≠b+1:=λt=>by unfold kb;omega
  have ah:(L.set (b+1) (d+1)).getD (b+1) 0=d+1:=rl ad;refine⟨.put D.iP rfl,⟨max ak (d+1).toNat,Nat.le_max_left _ _,by have:=s.1;omega,⟨by rw[la ad];exact iJ.t1,by rw[ah];have:=s.1;omega,λi a c=>?_⟩,λh=>by simp at h⟩,(λ_ h=>by simp[tU]at h),hf,λ_=>.inr (by rw[ah];have:=s.1;omega)⟩;rw[la (V _)];by_cases a6:i<ak
  . exact iJ.v i a a6
  . obtain rfl:i=d:=by have:=s.1;omega
    exact g
 |
  4,_=>
  have p:=(E bw).resolve_left (λh=>by have:=h.2.1;simp at this);simp only[h4,ia];refine⟨.same,⟨ak,et _,io _,iJ,λ_=>⟨?_,?_,?_,λ_ _=>⟨p,iJ.ar⟩,?_,?_,?_,?_,λ_=>l bw,?_,?_,?_⟩⟩,?_,λ_=>rfl,λ_=>.inr p⟩<;>simp
 |
  5,_=>
  obtain⟨W,cU⟩:=e bw bw;have d7:=un (d -1) ad ad;simp only[h4,ia];rw[d7];have V:∀t,kb b n t≠b+1:=λt=>by unfold kb;omega
  have ah:(L.set (b+1) (d -1)).getD (b+1) 0=d -1:=rl ad;refine⟨.put D.iP rfl,⟨ak,et _,io _,⟨by rw[la ad];exact iJ.t1,by rw[ah];omega,λi a c=>by rw[la (V _)];exact iJ.v i a c⟩,λ_=>⟨?_,?_,?_,λ_ _=>⟨W,cU⟩,λ_=>ah,?_,?_,?_,λ_=>l bw,?_,?_,?_⟩⟩,?_,λ_=>rfl,λ_=>.inl Ex⟩<;>simp
 |
  6,_=>
  obtain⟨W,cU⟩:=e bw bw;have em:=r (.inl rfl);have d7:=un (d -1) ad ad;have U:=iJ.t1;have u:=l bw;subst u;simp only[h4,ia];rw[d7];by_cases a6:d -1<L.getD b 0
  . rw[bg a6]
    refine⟨.same,⟨ak,et _,io _,iJ,λ_=>⟨?_,?_,?_,λ_ _=>⟨W,cU⟩,?_,?_,?_,?_,?_,?_,?_,?_⟩⟩,?_,λ_=>rfl,λ_=>.inl Ex⟩<;>simp
  . rw[a7 a6]
    refine⟨.same,⟨ak,et _,io _,iJ,λ_=>⟨?_,?_,?_,λ_ _=>⟨W,cU⟩,λ_=>em,λ_=>⟨U,by simp only[];omega⟩,?_,?_,?_,?_,?_,?_⟩⟩,?_,λ_=>rfl,λ_=>.inl Ex⟩<;>simp
 |
  7,_=>
  obtain⟨W,cU⟩:=e bw bw;have em:=r (.inr rfl);obtain⟨gc,hm⟩:=C rfl;have d7:=un (d -1) ad ad;have u:=l bw;subst u;have q:=iJ.v (d -1) ad ad;simp only[h4,ia];rw[d7];by_cases a6:t<d -1
  . simp only[a6,fu]
    exact⟨.same,⟨ak,et _,io _,iJ,λh=>by simp at h⟩,λ_ _=>q,hf,λ_=>.inr (by rw[em];omega)⟩
  . simp only[a6,eI]
    refine⟨.same,⟨ak,et _,io _,iJ,λ_=>⟨?_,?_,?_,λ_ _=>⟨W,cU⟩,?_,?_,λ_=>⟨q,by simp only[];omega⟩,?_,?_,?_,?_,?_⟩⟩,?_,λ_=>rfl,λ_=>.inl Ex⟩<;>simp
 |
  8,_=>
  obtain⟨W,cU⟩:=e bw bw;obtain⟨em,gc⟩:=G rfl;have d7:=un (t+1) ad ad;simp only[h4,ia];rw[d7];have V:∀t,kb b n t≠b:=λt=>by unfold kb;omega
  have wr:∀j,gX f F j L (if L.getD b 0=t then L.set b (t+1)else L):=λ_=>.iff (λ_=>.put D.dG (show 1<=t+1 by omega)) zk;have y:(if L.getD b 0=t then L.set b (t+1)else L).getD (b+1) 0=L.getD (b+1) 0:=by split;exact la ad;rfl
  refine⟨wr _,⟨ak,et _,io _,⟨(wr .no).dG D.dG iJ.t1,by rw[y];exact iJ.ar,λi a c=>(wr .no).v (D.oS _) (iJ.v i a c)⟩,λ_=>⟨?_,?_,?_,λ_ _=>⟨W,cU⟩,?_,?_,?_,λ_ _=>em,?_,?_,?_,?_⟩⟩,?_,λ_=>rfl,λ_=>.inl Ex⟩<;>simp
 |
  9,_=>
  obtain⟨W,cU⟩:=e bw bw;have em:=H rfl;simp only[h4,ia];have V:∀t,kb b n t≠b+1:=λt=>by unfold kb;omega
  have ah:(L.set (b+1) d).getD (b+1) 0=d:=rl ad;refine⟨.put D.iP rfl,⟨ak,et _,io _,⟨by rw[la ad];exact iJ.t1,by rw[ah];exact cU,λi a c=>by rw[la (V _)];exact iJ.v i a c⟩,λh=>?_⟩,λh _=>?_,λh=>?_,λ_=>.inr (by rw[ah];exact W)⟩
  . exfalso;cases ep<;>simp at h
  . cases ep
    . simp at h
    . exact em rfl
  . exfalso;cases ep<;>simp at h
 |
  10,_=>
  simp only[h4,ia];refine⟨.same,⟨ak,et _,io _,iJ,λ_=>⟨?_,?_,?_,?_,?_,?_,?_,?_,?_,λ_=>iJ.t1,?_,?_⟩⟩,?_,λ_=>rfl,?_⟩<;>simp
 |
  11,_=>
  have g:=z bw;simp only[h4,ia];by_cases a6:L.getD (b+1) 0<=t
  . simp only[a6,fu]
    refine⟨.same,⟨ak,et _,io _,iJ,λh=>by simp at h⟩,?_,?_,?_⟩<;>simp
  . simp only[a6,eI]
    refine⟨.same,⟨ak,et _,io _,iJ,λ_=>⟨?_,?_,?_,?_,?_,?_,?_,?_,?_,λ_=>g,λ_=>⟨by simp only[];omega,iJ.ar⟩,?_⟩⟩,?_,λ_=>rfl,?_⟩<;>simp
 |
  12,_=>
  have g:=z bw;obtain⟨W,cU⟩:=B bw;have q:=iJ.v t g ad;simp only[h4,ia];refine⟨.same,⟨ak,et _,io _,iJ,λ_=>⟨?_,?_,?_,?_,?_,?_,?_,?_,?_,λ_=>g,λ_=>⟨W,cU⟩,λ_=>q⟩⟩,?_,λ_=>rfl,?_⟩<;>simp
 |
  13,_=>
  have J:¬(1:Int)=0:=bw;have M:¬(6:Int)=0:=bw;have g:=z bw;obtain⟨W,cU⟩:=B bw;have q:=I rfl;have d7:=un (t+1) ad ad;simp only[h4,ia];rw[d7];have wr:∀j,gX f F j L (if L.getD b 0=t then L.set b (t+1)else L):=λ_=>.iff (λ_=>.put D.dG (show 1<=t+1 by omega)) zk;have y:(if L.getD b 0=t then L.set b (t+1)else L).getD (b+1) 0=L.getD (b+1) 0:=by split;exact la ad;rfl
  refine⟨wr _,⟨ak,et _,io _,⟨(wr .no).dG D.dG iJ.t1,by rw[y];exact iJ.ar,λi a c=>(wr .no).v (D.oS _) (iJ.v i a c)⟩,λh=>?_⟩,λ_ _=>q,λh=>?_,hf⟩
  . exfalso;revert h;split;exact J;exact M
  . exfalso;revert h;split;exact J;exact M
def Sc{v:Int}{pc:Nat}(aN:pc<=3->dU F .act v)(h:pc=0\/pc=4\/pc=10):tT F b n ak L (mj pc v):=λ_=>by
 rcases h with rfl|rfl|rfl<;>(constructor<;>simp[mj]<;>first|exact aN bw|done)
end
end Go.L.Th
