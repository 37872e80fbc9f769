import Derived.Test.YtnnhpnccfnghdaaGreatA9
set_option linter.all false
set_option maxRecDepth 8000
set_option maxHeartbeats 23200000
namespace Go.Proofs.YtnnhpnccfnghdaaGreat.L
open Go.L Go.L.Ring Go.L.dD Go.L.dP
attribute[local irreducible] G cJ GE c3 GT b1 dk c7 ds Exit.then Exit.inBlock
section
variable(s:Int)(p q m b n x w y:Nat){k:Nat}(L:List Int)(t:Int)(en:Bool)(o:hK)(tt v:Int)
theorem anI(h:k<=4):fb E (Hb k):=by
 match k,h with
 |0,_|1,_|2,_|3,_|4,_=>simp only[Hb];exact fl
 |k+5,h=>omega
def anJ(o:hN)(K:He b n L)(hk:o.k<=4)(R:o.w<n):ab E (Hb o.k) [ptr p 0] [bz m L t,ks q m b n,ix p q o] (aH eN [bz m (qd b n L o) (dV t),ks q m b n,ix p q (qe b n L o)]):=by
 obtain⟨k,M⟩:∃k,k=o.k:=⟨_,rfl⟩;rw[<-M]at hk⊢
 match k,hk with
 |
  0,_=>
  have hk:o.k=0:=M.symm;refine av Tryz.func199 λH D=>?_;obtain⟨k,w,out⟩:=o;obtain rfl:k=0:=hk;replace R:w<n:=R;have g:=K.len;have a:=K.n8;have e:=K.dG;have c:b+w<L.length:=ad;unfold ix;dsimp only;refine aG ?_;refine cw [] [19,201] [] ?_;refine eY ?_;refine b2 ?_;refine go_v rfl .none rfl Du ?_;refine aU (mM _ _ _ (b+w) (c) _) ?_;refine dh ?_;exact aQ (I:=[bz m (qd b n L ⟨0,w,out⟩) (dV t),ks q m b n,ix p q (qe b n L ⟨0,w,out⟩)]) cj Wl
 |
  1,_=>
  have hk:o.k=1:=M.symm;refine av Tryz.func200 λH D=>?_;obtain⟨k,w,out⟩:=o;obtain rfl:k=1:=hk;replace R:w<n:=R;have g:=K.len;have a:=K.n8;have e:=K.dG;have c:b+w<L.length:=ad;unfold ix;dsimp only;refine aG ?_;refine cw [] [19,201] [] ?_;refine eY ?_;refine b2 ?_;refine go_v rfl .none rfl Du ?_;refine aU (mM _ _ _ (b+w) (c) _) ?_;refine dh ?_;exact aQ (I:=[bz m (qd b n L ⟨1,w,out⟩) (dV t),ks q m b n,ix p q (qe b n L ⟨1,w,out⟩)]) cj Wl
 |
  2,_=>
  have hk:o.k=2:=M.symm;refine av Tryz.func186 λH D=>?_;obtain⟨k,w,out⟩:=o;obtain rfl:k=2:=hk;replace R:w<n:=R;have g:=K.len;have a:=K.n8;have e:=K.dG;have c:b+w<L.length:=ad;unfold ix;dsimp only;refine cB ?_;refine cw [] [19,201,5] [] ?_;refine eY ?_;refine b2 ?_;refine go_v rfl .none rfl Du ?_;refine aU (nx _ _ _ (b+w) (c)) ?_;refine gd ?_;refine ch (λW=>?_) (λW=>?_)
  ·
   refine ct ?_;exact aQ (I:=Wm) cj M8
  ·
   refine bb ?_;exact aQ (I:=Wm) cj M9
 |
  3,_=>
  have hk:o.k=3:=M.symm;refine av Tryz.func375 λH D=>?_;obtain⟨k,w,out⟩:=o;obtain rfl:k=3:=hk;replace R:w<n:=R;have g:=K.len;have a:=K.n8;have e:=K.dG;have c:b+w<L.length:=ad;unfold ix;dsimp only;refine bb ?_;refine cw [] [19,201,5] [] ?_;refine eY ?_;refine b2 ?_;refine go_v rfl .none rfl Du ?_;refine aU (nx _ _ _ (b+w) (c)) ?_;refine gd ?_;refine ch (λW=>?_) (λW=>?_)
  ·
   refine c4 ?_;exact aQ (I:=Wn) cj M8
  ·
   refine bR ?_;refine aU (Wc p q m b n AN R K.n8 rfl) ?_;refine bb ?_;exact aQ (I:=Wn) cj M9
 |
  4,_=>
  have hk:o.k=4:=M.symm;refine av Tryz.func421 λH D=>?_;obtain⟨k,w,out⟩:=o;obtain rfl:k=4:=hk;replace R:w<n:=R;have g:=K.len;have a:=K.n8;have e:=K.dG;have c:b+w<L.length:=ad;unfold ix;dsimp only;refine bb ?_;refine cw [] [19,201,5] [] ?_;refine eY ?_;refine b2 ?_;refine go_v rfl .none rfl Du ?_;refine aU (tc _ _ _ (b+w) (c) _ _) ?_;refine fB ?_;refine ch (λW=>?_) (λW=>?_)
  ·
   refine c4 ?_;exact aQ (I:=Wo) cj M8
  ·
   refine dB ?_;refine aU (Wc p q m b n AN R K.n8 rfl) ?_;refine bb ?_;exact aQ (I:=Wo) cj M9
 |k+5,h=>omega
theorem anK(h:k<=13):fb E (Hc k):=by
 match k,h with
 |0,_|1,_|2,_|3,_|4,_|5,_|6,_|7,_|8,_|9,_|10,_|11,_|12,_|13,_=>simp only[Hc];exact fl
 |k+14,h=>omega
def anL(o:ig)(K:yz b n L)(h1:qc o):ab E (Hc o.pc) [ptr p 0] [bz m L t,js q m b n,gD p q o] (aH eN [bz m (h4 b n L o) (dV t),js q m b n,gD p q (ia b n L o)]):=by
 obtain⟨k,M⟩:∃k,k=o.pc:=⟨_,rfl⟩;have hk:=h1.pc;rw[<-M]at hk⊢
 match k,hk with
 |
  0,_=>
  have hk:o.pc=0:=M.symm;refine av Tryz.func322 λH D=>?_;have g:=K.len;have a:=K.ed;have e:=K.dG;have i:=K.jT;have c:b<L.length:=ad;have f:b+1<L.length:=ad;have Z:=h1.v;have U:=h1.t;have y:=h1.b;obtain⟨pc,out,v,tt,d,ep⟩:=o;obtain rfl:pc=0:=hk;unfold gD;dsimp only;refine ct ?_;refine cn rfl Na ?_;rintro _ D ⟨_,⟨rfl,rfl⟩,rfl⟩
  try simp only[ck,ci]
  refine dh ?_;exact aQ (I:=[bz m (h4 b n L ⟨0,out,v,tt,d,ep⟩) (dV t),js q m b n,gD p q (ia b n L ⟨0,out,v,tt,d,ep⟩)]) cj wy
 |
  1,_=>
  have hk:o.pc=1:=M.symm;refine av Tryz.func374 λH D=>?_;have g:=K.len;have a:=K.ed;have e:=K.dG;have i:=K.jT;have c:b<L.length:=ad;have f:b+1<L.length:=ad;have Z:=h1.v;have U:=h1.t;have y:=h1.b;obtain⟨pc,out,v,tt,d,ep⟩:=o;obtain rfl:pc=1:=hk;unfold gD;dsimp only;refine bQ ?_;refine cn rfl Nb ?_;rintro _ D ⟨_,⟨rfl,rfl⟩,rfl⟩
  try simp only[ck,ci]
  refine c4 ?_;refine cw [] [17] [] ?_;refine bQ ?_;refine go_v rfl .none rfl (yB rfl rfl) ?_;refine dh ?_;refine ch (λW=>?_) (λW=>?_)
  ·
   refine ct ?_;exact aQ (I:=Wp) cj Dv
  ·
   refine bb ?_;exact aQ (I:=Wp) cj Wq
 |
  2,_=>
  have hk:o.pc=2:=M.symm;refine av Tryz.func420 λH D=>?_;have g:=K.len;have a:=K.ed;have e:=K.dG;have i:=K.jT;have c:b<L.length:=ad;have f:b+1<L.length:=ad;have Z:=h1.v;have U:=h1.t;have y:=h1.b;obtain⟨pc,out,v,tt,d,ep⟩:=o;obtain rfl:pc=2:=hk;unfold gD;dsimp only;refine aG ?_;refine h0 [15,20] [15] [(0,.bL),(1,.bL),(2,.bL),(3,.bL),(4,.bL),(5,.bL),(6,.bL),(7,.loc),(8,.loc),(9,.loc),(10,.loc),(11,.loc),(12,.loc),(13,.loc),(14,.loc),(16,.bL),(17,.bL),(18,.bL),(19,.bL),(15,.da),(20,.da)] [js q m b n,gD p q ⟨2,out,v,tt,d,ep⟩] mixed hM ?_;refine eY ?_;refine bR ?_;refine go_c rfl .none rfl (b9 rfl (M6 q m b n a i ad (d) (y.1)) bN) ?_;rintro _ D ⟨_,⟨rfl,rfl⟩,rfl⟩
  try simp only[ck,ci]
  refine aG ?_;refine aU (mM _ _ _ (kb b n d) (K.lt d) _) ?_;refine dB ?_;exact aQ (I:=[bz m (h4 b n L ⟨2,out,v,tt,d,ep⟩) (dV t),js q m b n,gD p q (ia b n L ⟨2,out,v,tt,d,ep⟩)]) cj wy
 |
  3,_=>
  have hk:o.pc=3:=M.symm;refine av Tryz.func443 λH D=>?_;have g:=K.len;have a:=K.ed;have e:=K.dG;have i:=K.jT;have c:b<L.length:=ad;have f:b+1<L.length:=ad;have Z:=h1.v;have U:=h1.t;have y:=h1.b;obtain⟨pc,out,v,tt,d,ep⟩:=o;obtain rfl:pc=3:=hk;unfold gD;dsimp only;refine aG ?_;refine cw [] [20,201] [] ?_;refine gd ?_;refine go_v rfl .none rfl Nc ?_;refine bR ?_;refine go_v rfl .none rfl (nU rfl rfl) ?_;refine aU (mM _ _ _ (b+1) (f) _) ?_;refine gd ?_;exact aQ (I:=[bz m (h4 b n L ⟨3,out,v,tt,d,ep⟩) (dV t),js q m b n,gD p q (ia b n L ⟨3,out,v,tt,d,ep⟩)]) cj wy
 |
  4,_=>
  have hk:o.pc=4:=M.symm;refine av Tryz.func188 λH D=>?_;have g:=K.len;have a:=K.ed;have e:=K.dG;have i:=K.jT;have c:b<L.length:=ad;have f:b+1<L.length:=ad;have Z:=h1.v;have U:=h1.t;have y:=h1.b;obtain⟨pc,out,v,tt,d,ep⟩:=o;obtain rfl:pc=4:=hk;unfold gD;dsimp only;refine ct ?_;refine cn rfl Na ?_;rintro _ D ⟨_,⟨rfl,rfl⟩,rfl⟩
  try simp only[ck,ci]
  refine dh ?_;exact aQ (I:=[bz m (h4 b n L ⟨4,out,v,tt,d,ep⟩) (dV t),js q m b n,gD p q (ia b n L ⟨4,out,v,tt,d,ep⟩)]) cj wy
 |
  5,_=>
  have hk:o.pc=5:=M.symm;refine av Tryz.func226 λH D=>?_;have g:=K.len;have a:=K.ed;have e:=K.dG;have i:=K.jT;have c:b<L.length:=ad;have f:b+1<L.length:=ad;have Z:=h1.v;have U:=h1.t;have y:=h1.b;obtain⟨pc,out,v,tt,d,ep⟩:=o;obtain rfl:pc=5:=hk;unfold gD;dsimp only;refine aG ?_;refine cw [] [20,201] [] ?_;refine gd ?_;refine go_v rfl .none rfl Nc ?_;refine bR ?_;refine go_v rfl .none rfl (yB rfl rfl) ?_;refine aU (mM _ _ _ (b+1) (f) _) ?_;refine dB ?_;exact aQ (I:=[bz m (h4 b n L ⟨5,out,v,tt,d,ep⟩) (dV t),js q m b n,gD p q (ia b n L ⟨5,out,v,tt,d,ep⟩)]) cj wy
 |
  6,_=>
  have hk:o.pc=6:=M.symm;refine av Tryz.func280 λH D=>?_;have g:=K.len;have a:=K.ed;have e:=K.dG;have i:=K.jT;have c:b<L.length:=ad;have f:b+1<L.length:=ad;have Z:=h1.v;have U:=h1.t;have y:=h1.b;obtain⟨pc,out,v,tt,d,ep⟩:=o;obtain rfl:pc=6:=hk;unfold gD;dsimp only;refine ct ?_;refine cn rfl Nb ?_;rintro _ D ⟨_,⟨rfl,rfl⟩,rfl⟩
  try simp only[ck,ci]
  refine eY ?_;refine aG ?_;refine cw [] [10] [] ?_;refine bQ ?_;refine go_v rfl .none rfl (yB rfl rfl) ?_;refine b2 ?_;refine ch (λW=>?_) (λW=>?_)
  ·
   refine cB ?_;exact aQ (I:=Wr) cj Dv
  ·
   refine bb ?_;exact aQ (I:=Wr) cj Ws
 |
  7,_=>
  have hk:o.pc=7:=M.symm;refine av Tryz.func332 λH D=>?_;have g:=K.len;have a:=K.ed;have e:=K.dG;have i:=K.jT;have c:b<L.length:=ad;have f:b+1<L.length:=ad;have Z:=h1.v;have U:=h1.t;have y:=h1.b;obtain⟨pc,out,v,tt,d,ep⟩:=o;obtain rfl:pc=7:=hk;unfold gD;dsimp only;refine aG ?_;refine cw [17,18,24] [108,9,202,2,101,2,201] [js q m b n,Dw p 299 0 (ptr q 0)] ?_;refine go_vs rfl .none rfl o5 hq ?_;refine go_vs rfl .none rfl o5 hq ?_;refine go_vs rfl .none rfl (mm rfl) hq ?_
  first|refine go_vs rfl .none rfl wz hq ?_|refine go_vs rfl .none rfl (mX rfl) hq ?_
  first|refine go_vs rfl .none rfl wA hq ?_|refine go_vs rfl .none rfl wB hq ?_|refine go_vs rfl .none rfl wC hq ?_
  refine go_vs rfl .none rfl (mm rfl) hq ?_
  first|refine go_vs rfl .none rfl wz hq ?_|refine go_vs rfl .none rfl (mX rfl) hq ?_
  first|refine go_vs rfl .none rfl wA hq ?_|refine go_vs rfl .none rfl wB hq ?_|refine go_vs rfl .none rfl wC hq ?_
  refine bQ ?_;refine go_v rfl .none rfl (yB rfl rfl) ?_;refine go_c rfl .none rfl (b9 rfl (M6 q m b n a i ad (fe (d -1)) ((AL _).1)) bN) ?_;rintro _ D ⟨_,⟨rfl,rfl⟩,rfl⟩
  try simp only[ck,ci]
  refine⟨rf,?_⟩;refine aU (nx _ _ _ (kb b n (fe (d -1))) (K.lt _)) ?_;refine⟨rf,?_⟩;refine bb ?_;refine go_vs rfl .none rfl uD hq ?_;refine bb ?_
  first|refine go_u rfl .none pG rf ?_|refine go_u rfl .none pH rf ?_
  refine fB ?_;refine cw [] [10] [] ?_;refine bQ ?_;refine go_v rfl .none rfl (yB rfl rfl) ?_;refine b2 ?_;refine ch (λW=>?_) (λW=>?_)
  ·
   refine ct ?_;exact aQ (I:=Wt) cj Dv
  ·
   refine bb ?_;exact aQ (I:=Wt) cj Ws
 |
  8,_=>
  have hk:o.pc=8:=M.symm;refine av Tryz.func378 λH D=>?_;have g:=K.len;have a:=K.ed;have e:=K.dG;have i:=K.jT;have c:b<L.length:=ad;have f:b+1<L.length:=ad;have Z:=h1.v;have U:=h1.t;have y:=h1.b;obtain⟨pc,out,v,tt,d,ep⟩:=o;obtain rfl:pc=8:=hk;unfold gD;dsimp only;refine aG ?_;refine cw [25,31] (101::24::uE) [] ?_;refine go_vs rfl .none rfl o5 o6 ?_;refine gd ?_;refine go_v rfl .none rfl (fy (b:Int) ff rfl rfl) ?_;refine bQ ?_;refine go_v rfl .none rfl (nU rfl rfl) ?_;refine aU (tc _ _ _ (b) (c) _ _) ?_;refine⟨nB,?_⟩;refine bb ?_;refine go_vs rfl .none rfl uD o6 ?_;refine bb ?_
  first|refine go_u rfl .none pG nB ?_|refine go_u rfl .none pH nB ?_
  refine c4 ?_;exact aQ (I:=[bz m (h4 b n L ⟨8,out,v,tt,d,ep⟩) (dV t),js q m b n,gD p q (ia b n L ⟨8,out,v,tt,d,ep⟩)]) cj wy
 |
  9,_=>
  have hk:o.pc=9:=M.symm;refine av Tryz.func333 λH D=>?_;have g:=K.len;have a:=K.ed;have e:=K.dG;have i:=K.jT;have c:b<L.length:=ad;have f:b+1<L.length:=ad;have Z:=h1.v;have U:=h1.t;have y:=h1.b;obtain⟨pc,out,v,tt,d,ep⟩:=o;obtain rfl:pc=9:=hk;unfold gD;dsimp only;refine aG ?_;refine cw [] [19,201] [] ?_;refine gd ?_;refine go_v rfl .none rfl Nc ?_;refine bR ?_;refine aU (mM _ _ _ (b+1) (f) _) ?_;refine eY ?_;refine bR ?_;refine ch (λW=>?_) (λW=>?_)
  ·
   refine ct ?_;exact aQ (I:=Wu) cj (by simp only[h4,ia,W,fu];exact(au))
  ·
   refine bb ?_;exact aQ (I:=Wu) cj (by simp only[h4,ia,W,e2,eI];exact(au))
 |
  10,_=>
  have hk:o.pc=10:=M.symm;refine av Tryz.func191 λH D=>?_;have g:=K.len;have a:=K.ed;have e:=K.dG;have i:=K.jT;have c:b<L.length:=ad;have f:b+1<L.length:=ad;have Z:=h1.v;have U:=h1.t;have y:=h1.b;obtain⟨pc,out,v,tt,d,ep⟩:=o;obtain rfl:pc=10:=hk;unfold gD;dsimp only;refine ct ?_;refine cn rfl Nb ?_;rintro _ D ⟨_,⟨rfl,rfl⟩,rfl⟩
  try simp only[ck,ci]
  refine dh ?_;exact aQ (I:=[bz m (h4 b n L ⟨10,out,v,tt,d,ep⟩) (dV t),js q m b n,gD p q (ia b n L ⟨10,out,v,tt,d,ep⟩)]) cj wy
 |
  11,_=>
  have hk:o.pc=11:=M.symm;refine av Tryz.func227 λH D=>?_;have g:=K.len;have a:=K.ed;have e:=K.dG;have i:=K.jT;have c:b<L.length:=ad;have f:b+1<L.length:=ad;have Z:=h1.v;have U:=h1.t;have y:=h1.b;obtain⟨pc,out,v,tt,d,ep⟩:=o;obtain rfl:pc=11:=hk;unfold gD;dsimp only;refine bQ ?_;refine cn rfl Na ?_;rintro _ D ⟨_,⟨rfl,rfl⟩,rfl⟩
  try simp only[ck,ci]
  refine c4 ?_;refine cw [] [9] [] ?_;refine c4 ?_;refine ch (λW=>?_) (λW=>?_)
  ·
   refine ct ?_;exact aQ (I:=Wv) cj Dv
  ·
   refine bb ?_;exact aQ (I:=Wv) cj Wq
 |
  12,_=>
  have hk:o.pc=12:=M.symm;refine av Tryz.func281 λH D=>?_;have g:=K.len;have a:=K.ed;have e:=K.dG;have i:=K.jT;have c:b<L.length:=ad;have f:b+1<L.length:=ad;have Z:=h1.v;have U:=h1.t;have y:=h1.b;obtain⟨pc,out,v,tt,d,ep⟩:=o;obtain rfl:pc=12:=hk;unfold gD;dsimp only;refine aG ?_;refine cw [16,17,23] [108,8,202,2,101,2,201] [js q m b n,Dw p 299 0 (ptr q 0)] ?_;refine go_vs rfl .none rfl o5 hq ?_;refine go_vs rfl .none rfl o5 hq ?_;refine go_vs rfl .none rfl (mm rfl) hq ?_
  first|refine go_vs rfl .none rfl wz hq ?_|refine go_vs rfl .none rfl (mX rfl) hq ?_
  first|refine go_vs rfl .none rfl wA hq ?_|refine go_vs rfl .none rfl wB hq ?_|refine go_vs rfl .none rfl wC hq ?_
  refine go_vs rfl .none rfl (mm rfl) hq ?_
  first|refine go_vs rfl .none rfl wz hq ?_|refine go_vs rfl .none rfl (mX rfl) hq ?_
  first|refine go_vs rfl .none rfl wA hq ?_|refine go_vs rfl .none rfl wB hq ?_|refine go_vs rfl .none rfl wC hq ?_
  refine bQ ?_;refine go_c rfl .none rfl (b9 rfl (M6 q m b n a i ad (tt) (U.1)) bN) ?_;rintro _ D ⟨_,⟨rfl,rfl⟩,rfl⟩
  try simp only[ck,ci]
  refine⟨rf,?_⟩;refine aU (nx _ _ _ (kb b n tt) (K.lt _)) ?_;refine⟨rf,?_⟩;refine bb ?_;refine go_vs rfl .none rfl uD hq ?_;refine bb ?_
  first|refine go_u rfl .none pG rf ?_|refine go_u rfl .none pH rf ?_
  refine c4 ?_;exact aQ (I:=[bz m (h4 b n L ⟨12,out,v,tt,d,ep⟩) (dV t),js q m b n,gD p q (ia b n L ⟨12,out,v,tt,d,ep⟩)]) cj wy
 |
  13,_=>
  have hk:o.pc=13:=M.symm;refine av Tryz.func335 λH D=>?_;have g:=K.len;have a:=K.ed;have e:=K.dG;have i:=K.jT;have c:b<L.length:=ad;have f:b+1<L.length:=ad;have Z:=h1.v;have U:=h1.t;have y:=h1.b;obtain⟨pc,out,v,tt,d,ep⟩:=o;obtain rfl:pc=13:=hk;unfold gD;dsimp only;refine cB ?_;refine cw [] [24,201,5] [] ?_;refine gd ?_;refine go_v rfl .none rfl (fy (b:Int) ff rfl rfl) ?_;refine bQ ?_;refine go_v rfl .none rfl (nU rfl rfl) ?_;refine aU (tc _ _ _ (b) (c) _ _) ?_;refine fB ?_;refine ch (λW=>?_) (λW=>?_)
  ·
   refine ct ?_;exact aQ (I:=Ww) cj Dv
  ·
   refine bb ?_;exact aQ (I:=Ww) cj (by simp only[h4,ia,a7 W];exact(au))
 |k+14,h=>omega
theorem anM(h:k<=4):fb E (Hd k):=by
 match k,h with
 |0,_|1,_|2,_|3,_|4,_=>simp only[Hd];exact fl
 |k+5,h=>omega
def anN(o:k2)(hk:o.pc<=4)(a6:o.cell<L.length):ab E (Hd o.pc) [ptr p 0] [bz m L t,k3 p m o] (aH eN [bz m (rb L o) (dV t),k3 p m (qh L o)]):=by
 obtain⟨k,M⟩:∃k,k=o.pc:=⟨_,rfl⟩;rw[<-M]at hk⊢
 match k,hk with
 |
  0,_=>
  have hk:o.pc=0:=M.symm;refine av Tryz.func427 λH D=>?_;obtain⟨pc,cell,seen,out⟩:=o;obtain rfl:pc=0:=hk;replace a6:cell<L.length:=a6;unfold k3;dsimp only;refine aG ?_;refine cw [9,15] (101::8::uE) [] ?_;refine go_vs rfl .none rfl o5 o6 ?_;refine bQ ?_;refine aU (nx _ _ _ (cell) (a6)) ?_;refine⟨nB,?_⟩;refine bb ?_;refine go_vs rfl .none rfl uD o6 ?_;refine bb ?_
  first|refine go_u rfl .none pG nB ?_|refine go_u rfl .none pH nB ?_
  refine gq ?_;refine aG ?_;refine ch (λW=>?_) (λW=>?_)
  ·
   refine ct ?_;exact aQ (I:=Wx) cj Dx
  ·
   refine bb ?_;exact aQ (I:=Wx) cj Dy
 |
  1,_=>
  have hk:o.pc=1:=M.symm;refine av Tryz.func446 λH D=>?_;obtain⟨pc,cell,seen,out⟩:=o;obtain rfl:pc=1:=hk;replace a6:cell<L.length:=a6;unfold k3;dsimp only;refine c4 ?_;refine cw [] [12,201,5] [] ?_;refine dB ?_;refine aU (tc _ _ _ (cell) (a6) _ _) ?_;refine fB ?_;refine ch (λW=>?_) (λW=>?_)
  ·
   refine ct ?_;exact aQ (I:=Wy) cj Dx
  ·
   refine bb ?_;exact aQ (I:=Wy) cj Dy
 |
  2,_=>
  have hk:o.pc=2:=M.symm;refine av Tryz.func397 λH D=>?_;obtain⟨pc,cell,seen,out⟩:=o;obtain rfl:pc=2:=hk;replace a6:cell<L.length:=a6;unfold k3;dsimp only;refine aG ?_;refine cw [9,15] (101::8::uE) [] ?_;refine go_vs rfl .none rfl o5 o6 ?_;refine bQ ?_;refine aU (nx _ _ _ (cell) (a6)) ?_;refine⟨nB,?_⟩;refine bb ?_;refine go_vs rfl .none rfl uD o6 ?_;refine bb ?_
  first|refine go_u rfl .none pG nB ?_|refine go_u rfl .none pH nB ?_
  refine gq ?_;refine aG ?_;refine ch (λW=>?_) (λW=>?_)
  ·
   refine ct ?_;exact aQ (I:=Wz) cj Dy
  ·
   refine bb ?_;exact aQ (I:=Wz) cj Dx
 |
  3,_=>
  have hk:o.pc=3:=M.symm;refine av Tryz.func432 λH D=>?_;obtain⟨pc,cell,seen,out⟩:=o;obtain rfl:pc=3:=hk;replace a6:cell<L.length:=a6;unfold k3;dsimp only;refine c4 ?_;refine cw [] [8,201,5] [] ?_;refine bQ ?_;refine aU (tc _ _ _ (cell) (a6) _ _) ?_;refine fB ?_;refine ch (λW=>?_) (λW=>?_)
  ·
   refine ct ?_;exact aQ (I:=WA) cj Dx
  ·
   refine bb ?_;exact aQ (I:=WA) cj Dy
 |
  4,_=>
  have hk:o.pc=4:=M.symm;refine av Tryz.func447 λH D=>?_;obtain⟨pc,cell,seen,out⟩:=o;obtain rfl:pc=4:=hk;replace a6:cell<L.length:=a6;unfold k3;dsimp only;refine cB ?_;refine cw [] [8,201,5] [] ?_;refine bQ ?_;refine aU (tc _ _ _ (cell) (a6) _ _) ?_;refine fB ?_;refine ch (λW=>?_) (λW=>?_)
  ·
   refine ct ?_;exact aQ (I:=WB) cj Dx
  ·
   refine bb ?_;exact aQ (I:=WB) cj Dy
 |k+5,h=>omega
def Dz(o:hN)(K:He b n L)(hk:o.k<=4)(R:o.w<n):ab E 476 [ptr p 0] [bz m L t,ks q m b n,ix p q o] (aH (.bool (j1 b n L o).over) WC):=by
 refine av Tryz.func476 λH D=>?_;haveI:=anI hk;refine cB ?_;refine aU (AO _ _ _) ?_;refine b2 ?_;refine ch (λW=>?_) (λW=>?_)
 . have J:o.over=false:=W
   refine bj ?_;refine aU (anJ p q m b n L t o K hk R) ?_;exact WD
 . have J:o.over=true:=W
   exact WD
def Hh(o:ig)(K:yz b n L)(h1:qc o):ab E 478 [ptr p 0] [bz m L t,js q m b n,gD p q o] (aH (.bool (ji b n L o).over) WE):=by
 refine av Tryz.func478 λH D=>?_;haveI:=anK h1.pc;refine cB ?_;refine aU (Ds _ _ _) ?_;refine b2 ?_;refine ch (λW=>?_) (λW=>?_)
 . have J:o.over=false:=W
   refine bE ?_;refine aU (anL p q m b n L t o K h1) ?_;exact WG
 . have J:o.over=true:=W
   exact WG
def anO(o:k2)(hk:o.pc<=4)(a6:o.cell<L.length):ab E 489 [ptr p 0] [bz m L t,k3 p m o] (aH (.bool (r0 L o).over) WH):=by
 refine av Tryz.func489 λH D=>?_;haveI:=anM hk;refine cB ?_;refine aU (Wh _ _ _) ?_;refine b2 ?_;refine ch (λW=>?_) (λW=>?_)
 . have J:o.over=false:=W
   refine bE ?_;refine aU (anN p m L t o hk a6) ?_;exact WI
 . have J:o.over=true:=W
   exact WI
def Hi(R:w<n)(F:Nat):ab E 185 [ptr q 0,af w,.func (.func F) #[] #[]] [ks q m b n] (λu I=>∃p,u=ptr p 0/\I=[aa p 295 [ptr q 0,.func (.func F) #[] #[],af w,af 0],ks q m b n]):=by
 refine av Tryz.func185 λH D=>?_;refine c4 ?_;refine wn λJ=>?_;refine ct ?_;refine cP ?_;refine dB ?_;refine cP ?_;refine gd ?_;exact uF
def anP(R:w<n):ab E 140 [ptr q 0,af w] [ks q m b n] (λu I=>∃p,u=ptr p 0/\I=[ix p q (jL 0 w),ks q m b n]):=by
 refine av Tryz.func140 λH D=>?_;refine cB ?_;refine bu (Hi q m b n w R 199) ?_;exact q5
def anQ(R:w<n):ab E 144 [ptr q 0,af w] [ks q m b n] (λu I=>∃p,u=ptr p 0/\I=[ix p q (jL 1 w),ks q m b n]):=by
 refine av Tryz.func144 λH D=>?_;refine cB ?_;refine bu (Hi q m b n w R 200) ?_;exact q5
def anR(R:w<n):ab E 124 [ptr q 0,af w] [ks q m b n] (λu I=>∃p,u=ptr p 0/\I=[ix p q (jL 2 w),ks q m b n]):=by
 refine av Tryz.func124 λH D=>?_;refine cB ?_;refine bu (Hi q m b n w R 186) ?_;exact q5
def anS(R:0<n):ab E 323 [ptr q 0] [ks q m b n] (λu I=>∃p,u=ptr p 0/\I=[ix p q (jL 3 0),ks q m b n]):=by
 refine av Tryz.func323 λH D=>?_;refine bQ ?_;refine bu (Hi q m b n 0 R 375) ?_;exact q5
def WJ:ab E 267 [ptr q 0,bx v] [] (λu I=>∃p,u=ptr p 0/\I=[gD p q (mj 0 v)]):=by
 refine av Tryz.func267 λH D=>?_;exact WK
def anT:ab E 130 [ptr q 0] [] (λu I=>∃p,u=ptr p 0/\I=[gD p q (mj 4 0)]):=by
 refine av Tryz.func130 λH D=>?_;exact WL
def anU:ab E 135 [ptr q 0] [] (λu I=>∃p,u=ptr p 0/\I=[gD p q (mj 10 0)]):=by
 refine av Tryz.func135 λH D=>?_;exact WL
def WM(aA:b<=65536)(v:Int):ab E 320 [ptr q 0,bx v] [kt q m b n] (λu I=>∃p,u=ptr p 0/\I=[iI p q b (kr false v),kt q m b n]):=by
 refine av Tryz.func320 λH D=>?_;refine gd ?_;refine wn λJ=>?_;exact Nd
def WN(aA:b<=65536):ab E 132 [ptr q 0] [kt q m b n] (λu I=>∃p,u=ptr p 0/\I=[iI p q b (kr true 0),kt q m b n]):=by
 refine av Tryz.func132 λH D=>?_;refine dB ?_;refine ME ?_;refine aG ?_;refine wn λdm=>?_;exact Nd
def WO(eA c1 bq b7 d8 fd:Value)(out:Int):ab E 480 [ptr p 0] [aa p 302 [eA,c1,bq,b7,d8,fd,af out]] (aH (.bool (!decide (out=0))) [aa p 302 [eA,c1,bq,b7,d8,fd,af out]]):=by
 exact We
def anV(K:r1 b n L)(U:jh tt)(Z:jh v):ab E 481 [ptr p 0] [bz m L t,kt q m b n,iI p q b ⟨0,en,tt,v,0⟩] (aH (.bool (jS b n L ⟨0,en,tt,v,0⟩).over) WQ):=by
 refine AP ?_;intro H D g a e i bf ai g5;have d:n1 b en<L.length:=AQ;refine WR ?_;refine uG ?_;refine dB ?_;refine aU (nx _ _ _ (n1 b en) (d)) ?_;refine eY ?_;refine bR ?_;refine Hj ?_;exact aQ (I:=WQ) cj Nf
def anW(K:r1 b n L)(U:jh tt)(Z:jh v):ab E 481 [ptr p 0] [bz m L t,kt q m b n,iI p q b DA] (aH (.bool (jS b n L DA).over) WS):=by
 refine AP ?_;intro H D g a e i bf ai g5;have d:n1 b en<L.length:=AQ;refine WT ?_;refine uG ?_;refine bQ ?_;refine aU (nx _ _ _ (ls b n tt) (g5)) ?_;refine dh ?_;refine aU (anH p q m b n a DA ⟨Dm rfl,U,Z⟩ _) ?_;refine Hk ?_;exact aQ (I:=WS) cj Nf
def anX(K:r1 b n L)(U:jh tt)(Z:jh v):ab E 481 [ptr p 0] [bz m L t,kt q m b n,iI p q b ⟨2,en,tt,v,0⟩] (aH (.bool (jS b n L ⟨2,en,tt,v,0⟩).over) Ng):=by
 refine AP ?_;intro H D g a e i bf ai g5;have d:n1 b en<L.length:=AQ;refine WU ?_;refine uG ?_;refine fB ?_;refine cw [] [14,201,5] [] ?_;refine fB ?_;refine go_v rfl .none rfl (nU rfl rfl) ?_;refine aU (tc _ _ _ (n1 b en) d _ _) ?_;refine fB ?_;refine ch (λW=>?_) (λW=>?_)
 . refine c4 ?_
   refine Hj ?_;exact aQ (I:=Ng) ⟨by simp only[jS,bg W];rfl,rfl⟩ (by simp only[lu,jS,bg W];exact(au))
 . refine Hk ?_
   exact aQ (I:=Ng) ⟨by simp only[jS,a7 W];rfl,rfl⟩ (by simp only[lu,jS,a7 W];exact(au))
def anY(K:r1 b n L)(U:jh tt)(Z:jh v):ab E 481 [ptr p 0] [bz m L t,kt q m b n,iI p q b Hl] (aH (.bool (jS b n L Hl).over) WV):=by
 refine AP ?_;intro H D g a e i bf ai g5;have d:n1 b false<L.length:=AQ;refine WW ?_;refine uG ?_;refine bj ?_;refine aB rfl (fy ((ls b n tt+1:Nat):Int) ff rfl rfl) ?_;refine bR ?_;refine aU (mM _ _ _ (ls b n tt+1) ai _) ?_;refine Hk ?_;exact aQ (I:=WV) cj (by simp only[lu,jS,e2,eI];exact(au))
def anZ(K:r1 b n L)(U:jh tt)(Z:jh v):ab E 481 [ptr p 0] [bz m L t,kt q m b n,iI p q b Hm] (aH (.bool (jS b n L Hm).over) WX):=by
 refine AP ?_;intro H D g a e i bf ai g5;have d:n1 b true<L.length:=AQ;refine WW ?_;refine aB rfl (fS (c:=false) r2 (mY rfl rfl)) ?_;refine ct ?_;refine aB rfl (fy ((ls b n tt+1:Nat):Int) ff rfl rfl) ?_;refine aU (nx _ _ _ (ls b n tt+1) (ai)) ?_;refine dB ?_;refine Hj ?_;exact aQ (I:=WX) cj (by simp only[lu,jS,fu];exact(au))
def an0(K:r1 b n L)(U:jh tt)(Z:jh v):ab E 481 [ptr p 0] [bz m L t,kt q m b n,iI p q b ⟨4,en,tt,v,0⟩] (aH (.bool (jS b n L ⟨4,en,tt,v,0⟩).over) WY):=by
 refine AP ?_;intro H D g a e i bf ai g5;have d:n1 b en<L.length:=AQ;refine WZ ?_;refine Hn ?_;refine uG ?_;refine ov ?_;refine aU (Wk p q m b n a ⟨4,en,tt,v,1⟩ ⟨Dm rfl,U,Z⟩) ?_;refine aB rfl (nU rfl rfl) ?_;refine aU (mM _ _ _ (ls b n tt) g5 _) ?_;refine Hk ?_;exact aQ (I:=WY) cj Nf
def an1(aJ:o.over=true):ab E 481 [ptr p 0] wx (aH hI wx):=by
 refine av Tryz.func481 λH D=>?_;refine cB ?_;refine aU (M4 _ _ _ _) ?_;refine bb ?_;refine v8 W0 ?_;refine bQ ?_;exact aQ cj
def AR(K:r1 b n L)(h1:n3 o):ab E 481 [ptr p 0] (bz m L t::Hg) (aH (.bool (iw b n L o).over) [bz m (n2 b n L o) DB,kt q m b n,iI p q b (iw b n L o)]):=by
 cases aJ:o.over with
 |
  true=>
  have aC:iw b n L o=o:=by unfold iw;rw[bg aJ]
  have aV:n2 b n L o=L:=by unfold n2;rw[bg aJ]
  rw[aC,aV,aJ];exact j9 (an1 p q b o aJ) bN (λD=>by simp only[ck,ci];exact au)
 |
  false=>
  have aC:iw b n L o=jS b n L o:=by unfold iw;rw[a7 yC]
  have aV:n2 b n L o=lu b n L o:=by unfold n2;rw[a7 yC]
  rw[aC,aV];simp only[e2,eI];obtain⟨k,en,tt,v,out⟩:=o;obtain rfl:out=0:=by simpa[hK.over]using aJ
  obtain⟨hk,U,Z⟩:=h1
  match k,hk with
  |0,_=>exact anV p q m b n L t en tt v K U Z
  |1,_=>exact anW p q m b n L t en tt v K U Z
  |2,_=>exact anX p q m b n L t en tt v K U Z
  |3,_=>
   cases en
   . exact anY p q m b n L t tt v K U Z
   . exact anZ p q m b n L t tt v K U Z
  |4,_=>exact an0 p q m b n L t en tt v K U Z
  |k+5,h=>exact absurd h (by dsimp only;omega)
def an2(aO:n<=16)(aA:b<=65536)(ah:1<=x/\x<=n)(ag:1<=y/\y<=n):ab E 396 Ho [dy q m b n] (λu I=>∃p,u=ptr p 0/\I=[aa p 409 [ptr m 0,af (kM b n x y),bx 0,.nilFunc,af 0],dy q m b n]):=by
 refine av Tryz.func396 λH D=>?_;have c:(x -1)*n<=256:=by have:=qi (show x -1<=16 by omega) (show n<=16 by omega);omega
 have a:(((x -1)*n:Nat):Int)=((x -1:Nat):Int)*(n:Int):=by rw[DC]
 unfold kM;refine dB ?_;refine wn λf=>?_;refine ct ?_;refine cP ?_;refine dB ?_;refine cP ?_;refine bE ?_;refine cP ?_;refine fB ?_;refine cP ?_;refine ct ?_;refine cw [] [18,201] [] ?_;refine bj ?_;refine go_v rfl .none rfl (kl ((x -1:Nat):Int) ff rfl rfl) ?_;refine bR ?_;refine go_v rfl .none rfl (rT (((x -1)*n:Nat):Int) (by rw[<-a,jz (by omega)]) rfl rfl) ?_;refine go_v rfl .none rfl (fy ((b+(x -1)*n:Nat):Int) ff rfl rfl) ?_;refine aG ?_;refine go_v rfl .none rfl (fy ((b+(x -1)*n+y:Nat):Int) ff rfl rfl) ?_;refine go_v rfl .none rfl (kl ((b+(x -1)*n+y -1:Nat):Int) ff rfl rfl) ?_;refine fB ?_;exact uF
def an3(aO:n<=16)(aA:b<=65536)(ah:1<=x/\x<=n)(ag:1<=y/\y<=n):ab E 391 Ho [dy q m b n] (λu I=>∃p,u=ptr p 0/\I=[k3 p m (ml 0 (kM b n x y)),dy q m b n]):=by
 refine av Tryz.func391 λH D=>?_;exact Nh
def an4(aO:n<=16)(aA:b<=65536)(ah:1<=x/\x<=n)(ag:1<=y/\y<=n):ab E 349 Ho [dy q m b n] (λu I=>∃p,u=ptr p 0/\I=[k3 p m (ml 2 (kM b n x y)),dy q m b n]):=by
 refine av Tryz.func349 λH D=>?_;exact Nh
def an5(aO:n<=16)(aA:b<=65536)(ah:1<=x/\x<=n)(ag:1<=y/\y<=n):ab E 429 Ho [dy q m b n] (λu I=>∃p,u=ptr p 0/\I=[k3 p m (ml 4 (kM b n x y)),dy q m b n]):=by
 refine av Tryz.func429 λH D=>?_;exact Nh
def an6:ab E 103 [af s] [] (aH (af (if 1<=s/\s<=8 then s else 0)) []):=by
 refine av Tryz.func103 λH D=>?_;refine c4 ?_;refine hY rfl rfl (λW=>?_) (λW=>?_) rfl
 . have f:=bW W
   refine bj ?_;refine ch (λM=>?_) (λM=>?_)
   . exact Ni
   . refine dh ?_
     exact DE
 . exact Nj
def an7:ab E 104 [af s] [] (aH (af (if 1<=s/\s<=64 then 2+2*s else 0)) []):=by
 refine av Tryz.func104 λH D=>?_;refine c4 ?_;refine hY rfl rfl (λW=>?_) (λW=>?_) rfl
 . have f:=bW W
   refine bj ?_;refine ch (λM=>?_) (λM=>?_)
   . exact Ni
   . refine dB ?_
     exact DE
 . exact Nj
def an8:ab E 105 [af s] [] (aH (af (if 1<=s/\s<=64 then 2+s else 0)) []):=by
 refine av Tryz.func105 λH D=>?_;refine c4 ?_;refine hY rfl rfl (λW=>?_) (λW=>?_) rfl
 . have f:=bW W
   refine bj ?_;refine ch (λM=>?_) (λM=>?_)
   . exact Ni
   . refine c4 ?_
     exact DE
 . exact Nj
end
instance:k4 E 238 "Step" 478:=pI
instance:k4 E 238 "Over" 477:=pI
instance:k4 E 238 "Outcome" 269:=pI
instance:k4 E 238 "Value" 479:=pI
instance:k4 E 241 "Step" 481:=pI
instance:k4 E 241 "Over" 480:=pI
instance:k4 E 241 "Outcome" 143:=pI
instance:k4 E 241 "Value" 146:=pI
instance:k4 E 232 "Step" 476:=pI
instance:k4 E 232 "Over" 475:=pI
structure kN where
 c:Nat
 m:Nat
 be:Nat
 hc:Nat
 hP:Nat
 iJ:Nat
 hL:Nat->Nat
abbrev gK(X:kN):oE:=⟨175,[ptr X.c 0]⟩
section
variable(X:kN)(q n:Nat)(B:fT)(p:Nat)(x y:Value)(w:Nat)
abbrev yD:Value:=.iface 238 (ptr q 0)
abbrev yE:Value:=.iface 241 (ptr q 0)
abbrev Hp:Value:=.iface 232 (ptr q 0)
abbrev W1:Value:=.slice (some ⟨X.hP,0,none⟩) B.bX X.iJ
def AS:List Value:=(List.range B.bX).map λw=>ptr (X.hL w) 0
def k5:List al:=(List.range B.bX).map λw=>js (X.hL w) X.m (B.cq w) B.e0
abbrev fG:al:=aa X.c 205 [ptr X.be 0,ptr X.hc 0,W1 X B]
abbrev b8:al:=ks X.be X.m B.b B.bX
abbrev hU:al:=kt X.hc X.m B.ek B.na
abbrev ez:al:=own (W1 X B) 210 1 B.bX (AS X B)
def W2{X:kN}{B:fT}{w:Nat}(h:w<B.bX):(AS X B)[w*1]?=some (ptr (X.hL w) 0):=by
 unfold AS;simp[h]
structure kd(B:fT)(L:List Int):Prop where
 aG:1<=B.bX
 bQ:B.bX<=8
 s1:1<=B.e0
 pJ:B.e0<=64
 cu:1<=B.na
 hd:B.na<=16
 len:B.b+B.size<=L.length
 dG:L.length<=65536
def DF(h:eQ)(X:kN)(n:Nat)(s:Src)(v:Value):Prop:=
 match s with
 |.pop w=>w<n/\∃bF dx:Nat,v=bk 129 [ptr bF 0,ptr dx 0]/\h bF=some (.cells [ptr X.c 0].toArray 96 (0,0))/\h dx=some (.cells [af w].toArray 3 (0,0))
 |.take=>∃bF:Nat,v=bk 131 [ptr bF 0]/\h bF=some (.cells [ptr X.c 0].toArray 96 (0,0))
 |.lR w=>w<n/\∃bF dx:Nat,v=bk 134 [ptr bF 0,ptr dx 0]/\h bF=some (.cells [ptr X.c 0].toArray 96 (0,0))/\h dx=some (.cells [af w].toArray 3 (0,0))
def kD(a:Option Addr)(c:Nat)(l:List Src)(cg:List Value):al:=λh=>Pg.jd h a c l.length cg/\cg.length=l.length/\∀(i:Nat) (s:Src) (v:Value),l[i]?=some s->cg[i]?=some v->DF h X n s v
instance{X:kN}{n:Nat}{a:Option Addr}{c:Nat}{l:List Src}{cg:List Value}:gw (.slice a l.length c) (kD X n a c l cg) l.length cg:=⟨λh=>h.1.1⟩
abbrev W3:=Nat×Nat×Nat×Nat×Option Addr×Nat×List Value×Src
def jt:tv->al
 |.push w o v=>dq (bv:=Nat×Nat×Nat×Nat) (λ_=>True) (λe=>match e with|(q,c1,bq,b7)=>[cW p (yD q) (bk 268 [ptr c1 0,ptr bq 0,ptr b7 0]) 0 0 (gK X),gD q (X.hL w) o,aa c1 238 [ptr q 0],aa bq 169 [ptr p 0],aa b7 36 [bx v]])
 |.enter o v=>dq (bv:=Nat×Nat×Nat×Nat) (λ_=>True) (λe=>match e with|(q,c1,bq,b7)=>[cW p (yE q) (bk 321 [ptr c1 0,ptr bq 0,ptr b7 0]) 0 0 (gK X),iI q X.hc B.ek o,aa c1 241 [ptr q 0],aa bq 169 [ptr p 0],aa b7 36 [bx v]])
 |.ring o=>dq (bv:=Nat×Nat) (λ_=>True) (λe=>match e with|(q,c1)=>[cW p (Hp q) (bk 324 [ptr c1 0]) 0 0 (gK X),ix q X.be o,aa c1 169 [ptr p 0]])
 |.ih w o l=>dq (bv:=W3) (λ_=>True) (λe=>match e with|(q,c1,bq,b7,a,c,cg,s)=>[cW p (yD q) (bk 192 [ptr c1 0,ptr bq 0,ptr b7 0]) 0 0 (gK X),gD q (X.hL w) o,aa c1 237 [yD q],aa bq 169 [ptr p 0],aa b7 243 [.slice a (l.length+1) c],kD X B.bX a c (s::l) cg])
 |.mU o l=>dq (bv:=W3) (λ_=>True) (λe=>match e with|(q,c1,bq,b7,a,c,cg,s)=>[cW p (yE q) (bk 192 [ptr c1 0,ptr bq 0,ptr b7 0]) 0 0 (gK X),iI q X.hc B.ek o,aa c1 237 [yE q],aa bq 169 [ptr p 0],aa b7 243 [.slice a (l.length+1) c],kD X B.bX a c (s::l) cg])
 |.qg w o=>dq (bv:=Nat×Nat×Nat×Nat) (λ_=>True) (λe=>match e with|(q,c1,bq,b7)=>[cW p (Hp q) (bk 141 [ptr c1 0,ptr bq 0,ptr b7 0]) 0 0 (gK X),ix q X.be o,aa c1 96 [ptr X.c 0],aa bq 169 [ptr p 0],aa b7 3 [af w]])
 |.k1 w o=>dq (bv:=Nat×Nat×Nat×Nat×Nat) (λ_=>True) (λe=>match e with|(q,eA,c1,bq,b7)=>[cW p (yE q) (bk 142 [ptr eA 0,ptr bq 0,ptr c1 0,ptr b7 0]) 0 0 (gK X),iI q X.hc B.ek o,aa eA 241 [ptr q 0],aa c1 96 [ptr X.c 0],aa bq 169 [ptr p 0],aa b7 3 [af w]])
 |.up w v o=>dq (bv:=Nat×Nat×Nat×Nat×hK) (λe=>e.2.2.2.2.value=v) (λe=>match e with|(q,z,eA,bq,g)=>[cW p (Hp q) (bk 145 [ptr bq 0,ptr eA 0]) 0 0 (gK X),ix q X.be o,iI z X.hc B.ek g,aa eA 241 [ptr z 0],aa bq 169 [ptr p 0]])
 |.oK o=>dq (bv:=Nat×Nat×Nat) (λ_=>True) (λe=>match e with|(q,c1,bq)=>[cW p (Hp q) (bk 126 [ptr c1 0,ptr bq 0]) 0 0 (gK X),ix q X.be o,aa c1 169 [ptr p 0],aa bq 232 [ptr q 0]])
def DG(out val:Int):al:=dq (bv:=Value×Value) (λ_=>True) (λe=>[cW p e.1 e.2 out val (gK X)])
def gy(c:gC):al:=if c.out=0 then jt X B p c.ph else DG X p c.out c.val
def r3{X:kN}{B:fT}{p:Nat}{ph:tv}{v:Int}{M D:List al}(h:∀h,Sat M h->Sat (jt X B p ph::D) h):∀h,Sat M h->Sat (gy X B p ⟨ph,0,v⟩::D) h:=by
 unfold gy;rw[bg (show((⟨ph,0,v⟩:gC).out=0)from rfl)];exact h
def AT{X:kN}{B:fT}{p:Nat}{ph:tv}{out v:Int}{M D:List al}(aJ:out≠0)(x y:Value)(h:∀h,Sat M h->Sat (cW p x y out v (gK X)::D) h):∀h,Sat M h->Sat (gy X B p ⟨ph,out,v⟩::D) h:=by
 unfold gy;rw[a7 (show¬((⟨ph,out,v⟩:gC).out=0)from aJ)];exact cE (x,y) trivial h
def an9(aO:0<B.bX):ab E 270 [ptr p 0] (cW p x y 0 0 (gK X)::rh) (aH eN (jt X B p (.ring (jL 3 0))::rh)):=by
 refine av Tryz.func270 λH D=>?_;refine bb ?_;refine wn λar=>?_;refine bb ?_;refine h0 [10,13] [10] ((0,.bL)::(1,.bL)::(2,.bL)::W4) [fG X B,cW p x y 0 0 (gK X),aa ar 169 [ptr p 0]] mixed hM ?_;refine c4 ?_;refine bu (anS X.be X.m B.b B.bX aO) ?_;refine Nk ?_;intro q;refine aU (uH p 232 475 (gK X) (ptr q 0) _ _ _ rfl 0 0 (ix q X.be (jL 3 0)) (AO q X.be (jL 3 0))) ?_;refine b2 ?_;exact aQ (I:=(jt X B p (.ring (jL 3 0))::rh)) cj (cE (q,ar) trivial (au))
def aoa(B:fT)(p:Nat)(x y:Value)(c1:Nat):ab E 324 [ptr c1 0] [cW p x y 0 0 (gK X),aa c1 169 [ptr p 0]] (aH eN [cW p x y 1 0 (gK X)]):=by
 refine av Tryz.func324 λH D=>?_;refine bR ?_;refine aU (mQ p (gK X) x y 0 0 1 0) ?_;exact pK
def W5(K:B.ek<=65536)(v:Int):ab E 266 [ptr p 0,bx v] (cW p x y 0 0 (gK X)::rh) (aH eN (jt X B p (.enter (kr false v) v)::rh)):=by
 refine av Tryz.func266 λH D=>?_;refine nw ?_;intro V ay;refine b2 ?_;refine iu [8,9,10] [9] wa [fG X B,cW p x y 0 0 (gK X),aa V 169 [ptr p 0],aa ay 36 [bx v]] ?_;refine bQ ?_;refine fm ?_ ?_
 . refine bu (WM X.hc X.m B.ek B.na K v) ?_
   refine ny ?_;intro q;refine aG ?_;refine wn λaL=>?_;refine W6 ?_;exact aQ (I:=[jt X B p (.enter (kr false v) v),fG X B,b8 X B,hU X B]) ⟨rfl,rfl⟩ (cE (q,aL,V,ay) trivial (au))
 . refine wn λaL=>?_
   refine aG ?_;refine bu (WM X.hc X.m B.ek B.na K v) ?_;refine ny ?_;intro q;refine W6 ?_;exact aQ (I:=[jt X B p (.enter (kr false v) v),fG X B,b8 X B,hU X B]) ⟨rfl,rfl⟩ (cE (q,aL,V,ay) trivial (au))
def aob(K:B.ek<=65536)(aO:0<B.bX)(v:Int)(q d c1 bq b7:Nat)(o:ig):ab E 268 yf (cW p x y 0 0 (gK X)::gD q d o::aa c1 238 [ptr q 0]::W7) W8:=by
 refine av Tryz.func268 λH D=>?_;refine bR ?_;refine aU (Wd q d o) ?_;exact W9
def aoc(K:B.ek<=65536)(aO:0<B.bX)(v:Int)(q d c1 bq b7:Nat)(o:hK):ab E 321 yf (cW p x y 0 0 (gK X)::iI q d B.ek o::aa c1 241 [ptr q 0]::W7) W8:=by
 refine av Tryz.func321 λH D=>?_;refine bR ?_;refine aU (M5 q d B.ek o) ?_;exact W9
def aod(R:w<B.bX)(v:Int):ab E 218 [ptr X.c 0,af w,bx v] jB (λu I=>∃p,u=ptr p 0/\I=(jt X B p (.push w (mj 0 v) v)::jB)):=by
 refine av Tryz.func218 λH D=>?_;refine bb ?_;refine wn λaR=>?_;refine ct ?_;refine wn λb=>?_;refine wn λbV=>?_;refine ct ?_;refine cP ?_;refine gd ?_;refine cP ?_;refine ct ?_;refine iu [8,9,10] [9] wa [fG X B,ez X B,aa aR 36 [bx v]] ?_;refine bE ?_;refine jJ rfl .none rfl (gf rfl rfl R) (au) ?_;refine jJ rfl .none rfl (gF rfl (W2 R)) (au) ?_;refine aG ?_;refine fm ?_ ?_
 . refine bu (WJ (X.hL w) v) ?_
   refine ny ?_;intro q;refine aG ?_;refine wn λZ=>?_;exact Xa
 . refine wn λZ=>?_
   refine aG ?_;refine bu (WJ (X.hL w) v) ?_;refine ny ?_;intro q;exact Xa
def aoe(K:B.ek<=65536)(v:Int):ab E 218 [ptr X.c 0,af (-1),bx v] jB (λu I=>∃p,u=ptr p 0/\I=(jt X B p (.enter (kr false v) v)::jB)):=by
 refine av Tryz.func218 λH D=>?_;refine bb ?_;refine wn λaR=>?_;refine ct ?_;refine wn λb=>?_;refine wn λbV=>?_;refine ct ?_;refine aB rfl (fS (c:=true) r2 (yF rfl rfl)) ?_;refine ov ?_;refine aU (W5 X B b _ _ K v) ?_;refine c4 ?_;exact uF
def Nl(R:w<B.bX):ab E 123 [ptr X.c 0,af w] jB (λu I=>∃p,u=.tuple #[ptr p 0,.bool true]/\I=(cW p .nilIface .nilFunc 0 0 (gK X)::jB)):=by
 refine av Tryz.func123 λH D=>?_;refine dh ?_;refine wn λdm=>?_;refine nC ?_;refine gd ?_;refine cP ?_;refine gq ?_;refine bR ?_;exact uF
def aof(R:w<B.bX):ab E 78 [ptr X.c 0,af w] jB (λu I=>∃p,u=ptr p 0/\I=(jt X B p (.oK (jL 2 w))::jB)):=by
 refine av Tryz.func78 λH D=>?_;refine cB ?_;refine bu (Nl X B w R) ?_;refine lS ?_;intro p;refine b2 ?_;refine wn λaR=>?_;refine bQ ?_;refine cP ?_;refine dB ?_;refine bu (anR X.be X.m B.b B.bX w R) ?_;refine ny ?_;intro q;refine wn λbV=>?_;refine bR ?_;refine cw [] [6,201] [aa aR 169 [ptr p 0],aa bV 232 [ptr q 0]] ?_;refine bR ?_;refine go_v rfl .none rfl (jR Tryz.underlying232 rfl rfl) ?_;refine aG ?_;refine aU (uH p 232 475 (gK X) (ptr q 0) _ _ _ rfl 0 0 (ix q X.be (jL 2 w)) (AO q X.be (jL 2 w))) ?_;refine c4 ?_;exact aQ (I:=[jt X B p (.oK (jL 2 w)),fG X B,b8 X B,hU X B,ez X B]) ⟨_,rfl,rfl⟩ (cE (q,aR,bV) trivial (au))
def aog(B:fT)(p:Nat)(x y:Value)(c1 bq q:Nat)(o:hN):ab E 126 [ptr c1 0,ptr bq 0] [cW p x y 0 0 (gK X),ix q X.be o,aa c1 169 [ptr p 0],aa bq 232 [ptr q 0]] (aH eN [cW p x y o.out 0 (gK X)]):=by
 refine av Tryz.func126 λH D=>?_;refine cw [4] [103,1,202] [aa c1 169 [ptr p 0],aa bq 232 [ptr q 0]] ?_;refine bR ?_;refine aU (anF q X.be o) ?_;refine aG ?_;refine aU (mQ p (gK X) x y 0 0 o.out 0) ?_;exact uj
def aoh(R:w<B.bX):ab E 86 [ptr X.c 0,af w] jB (λu I=>∃p,u=ptr p 0/\I=(jt X B p (.qg w (jL 0 w))::jB)):=by
 refine av Tryz.func86 λH D=>?_;refine nw ?_;intro V ay;refine ct ?_;refine bu (Nl X B w R) ?_;refine lS ?_;intro p;refine b2 ?_;refine wn λaR=>?_;refine bQ ?_;refine cP ?_;refine bj ?_;refine h0 [8,11] [8] Xb [fG X B,aa V 96 [ptr X.c 0],aa ay 3 [af w],aa aR 169 [ptr p 0]] mixed hM ?_;refine cB ?_;refine bu (anP X.be X.m B.b B.bX w R) ?_;refine Nk ?_;intro q;refine aU (uH p 232 475 (gK X) (ptr q 0) _ _ _ rfl 0 0 (ix q X.be (jL 0 w)) (AO q X.be (jL 0 w))) ?_;refine c4 ?_;exact aQ (I:=[jt X B p (.qg w (jL 0 w)),fG X B,b8 X B,hU X B,ez X B]) ⟨_,rfl,rfl⟩ (cE (q,V,aR,ay) trivial (au))
def aoi(K:B.ek<=65536)(c1 bq b7 w:Nat):ab E 141 yf (cW p x y 0 0 (gK X)::Xc) (aH eN (jt X B p (.k1 w (kr true 0))::rh)):=by
 refine av Tryz.func141 λH D=>?_;refine bj ?_;refine bu (WN X.hc X.m B.ek B.na K) ?_;refine ny ?_;intro q;refine wn λay=>?_;refine b2 ?_;refine cw [] [6,201] [aa bq 169 [ptr p 0],aa ay 241 [ptr q 0]] ?_;refine bR ?_;refine go_v rfl .none rfl (jR Tryz.underlying241 rfl rfl) ?_;refine aG ?_;refine Xd ?_;exact aQ (I:=[jt X B p (.k1 w (kr true 0)),fG X B,b8 X B,hU X B]) ⟨rfl,rfl⟩ (cE (q,ay,c1,bq,b7) trivial (au))
def aoj(R:w<B.bX)(z eA c1 bq b7:Nat)(g:hK):ab E 142 [ptr eA 0,ptr bq 0,ptr c1 0,ptr b7 0] (cW p x y 0 0 (gK X)::iI z X.hc B.ek g::aa eA 241 [ptr z 0]::Xc) (aH eN Nn):=by
 refine av Tryz.func142 λH D=>?_;refine bR ?_;refine aU (M5 z X.hc B.ek g) ?_;refine b2 ?_;refine ch (λW=>?_) (λW=>?_)
 . refine bE ?_
   refine aU (mQ p (gK X) x y 0 0 4 0) ?_;refine bE ?_;exact aQ (I:=Nn) cj (by rw[a7 W];exact AT (by decide) x y (au))
 . refine bb ?_
   refine h0 [8,11] [8] Xb [fG X B,aa c1 96 [ptr X.c 0],aa b7 3 [af w],aa bq 169 [ptr p 0]] mixed hM ?_;refine cB ?_;refine bu (anQ X.be X.m B.b B.bX w R) ?_;refine Nk ?_;intro q;refine aU (uH p 232 475 (gK X) (ptr q 0) _ _ _ rfl 0 0 (ix q X.be (jL 1 w)) (AO q X.be (jL 1 w))) ?_;refine b2 ?_;exact aQ (I:=Nn) cj (by rw[bg W];exact r3 (cE (q,z,eA,bq,g) rfl (au)))
def aok(z eA bq:Nat)(g:hK):ab E 145 [ptr bq 0,ptr eA 0] [cW p x y 0 0 (gK X),iI z X.hc B.ek g,aa eA 241 [ptr z 0],aa bq 169 [ptr p 0]] (aH eN [cW p x y 1 g.value (gK X)]):=by
 refine av Tryz.func145 λH D=>?_;refine cw [4] [103,1,202] [aa bq 169 [ptr p 0],aa eA 241 [ptr z 0]] ?_;refine bR ?_;refine aU (Wf z X.hc B.ek g) ?_;refine aG ?_;refine aU (mQ p (gK X) x y 0 0 1 g.value) ?_;exact uj
end
abbrev pL(bF dx:Nat):Value:=bk 129 [ptr bF 0,ptr dx 0]
abbrev uI(bF:Nat):Value:=bk 131 [ptr bF 0]
abbrev r4(bF dx:Nat):Value:=bk 134 [ptr bF 0,ptr dx 0]
def Hq{P:Program}{f:FuncId}{args:List Value}{M:List al}{post:Value->List al->Prop}{Q:Prop}(g:∀D h,Sat (M++D) h->Q)(k:Q->ab P f args M post):ab P f args M post:=λH D w s=>k (g D _ s.fg) H D w s
section
variable{X:kN}{n:Nat}{a:Option Addr}{c:Nat}{l:List Src}{cg:List Value}{w bF dx:Nat}
section
variable{D:List al}
def aol:∀h,Sat (kD X n a c (.pop w::l) cg::D) h->∃bF dx d,cg=pL bF dx::d/\w<n:=λh s=>by
 obtain⟨_,_,_,_,⟨_,aw,ai⟩,_⟩:=s;obtain⟨v,d,rfl⟩:∃v d,cg=v::d:=Hr;obtain⟨R,bF,dx,rfl,_⟩:=ai 0 _ _ rfl rfl;exact⟨bF,dx,d,rfl,R⟩
def aom:∀h,Sat (kD X n a c (.take::l) cg::D) h->∃bF d,cg=uI bF::d:=λh s=>by
 obtain⟨_,_,_,_,⟨_,aw,ai⟩,_⟩:=s;obtain⟨v,d,rfl⟩:∃v d,cg=v::d:=Hr;obtain⟨bF,rfl,_⟩:=ai 0 _ _ rfl rfl;exact⟨bF,d,rfl⟩
def aon:∀h,Sat (kD X n a c (.lR w::l) cg::D) h->∃bF dx d,cg=r4 bF dx::d/\w<n:=λh s=>by
 obtain⟨_,_,_,_,⟨_,aw,ai⟩,_⟩:=s;obtain⟨v,d,rfl⟩:∃v d,cg=v::d:=Hr;obtain⟨R,bF,dx,rfl,_⟩:=ai 0 _ _ rfl rfl;exact⟨bF,dx,d,rfl,R⟩
instance:ib bF 0 (kD X n a c (.pop w::l) (pL bF dx::cg)) (ptr X.c 0):=⟨fun⟨_,_,ai⟩=>by
 obtain⟨_,_,_,e,aN,_⟩:=ai 0 _ _ rfl rfl;cases e;exact⟨_,_,_,aN,rfl⟩⟩
instance:ib dx 0 (kD X n a c (.pop w::l) (pL bF dx::cg)) (af w):=⟨fun⟨_,_,ai⟩=>by
 obtain⟨_,_,_,e,_,bA⟩:=ai 0 _ _ rfl rfl;cases e;exact⟨_,_,_,bA,rfl⟩⟩
instance:ib bF 0 (kD X n a c (.lR w::l) (r4 bF dx::cg)) (ptr X.c 0):=⟨fun⟨_,_,ai⟩=>by
 obtain⟨_,_,_,e,aN,_⟩:=ai 0 _ _ rfl rfl;cases e;exact⟨_,_,_,aN,rfl⟩⟩
instance:ib dx 0 (kD X n a c (.lR w::l) (r4 bF dx::cg)) (af w):=⟨fun⟨_,_,ai⟩=>by
 obtain⟨_,_,_,e,_,bA⟩:=ai 0 _ _ rfl rfl;cases e;exact⟨_,_,_,bA,rfl⟩⟩
instance:ib bF 0 (kD X n a c (.take::l) (uI bF::cg)) (ptr X.c 0):=⟨fun⟨_,_,ai⟩=>by
 obtain⟨_,e,aN⟩:=ai 0 _ _ rfl rfl;cases e;exact⟨_,_,_,aN,rfl⟩⟩
def aoo{s:Src}{D:List al}:∀h,Sat (kD X n a c (s::l) cg::D) h->Sat (kD X n Np (c -1) l cg.tail::D) h:=λ_=>Sat.head λg co=>by
 obtain⟨h1,aw,ai⟩:=co;obtain⟨v,d,rfl⟩:∃v d,cg=v::d:=Hr;simp only[iG]at aw;exact⟨jd.fV (x:=v) (xs:=d) h1 (λe=>rR ad),by simpa using aw,λi s v h2 aN=>ai (i+1) s v (by simpa using h2) (by simpa using aN)⟩
end
end
def aop{P:Program}{H:World}{n:Nat}{eA:Code}{J:e6}{M r:List al}{Q:Exit->Act->World->Prop}{X:kN}{m:Nat}{a:Option Addr}{c:Nat}{s:Src}{l:List Src}{cg:List Value}(h:hJ (kD X m a c (s::l) cg) M r)(k:G P H n eA J (kD X m Np (c -1) l cg.tail::r) Q):G P H n eA J M Q:=nu (λ_ s=>aoo _ (h.to s)) k
def Nq{A B C:al}{D:List al}(f:∀h1 h2,ma h1 h2->A h1->B h2->C (join h1 h2)):∀h,Sat (A::B::D) h->Sat (C::D) h:=λh ⟨h1,h2,d,e,aX,aN,bA,p,y,aA,aF⟩=>by
 subst y;have o:=yt.1 d.symm;exact⟨join h1 aN,bA,yt.2 ⟨o.2.symm,p⟩,by rw[e,join_assoc],f h1 aN o.1.symm aX aA,aF⟩
def Nr{h1 h2:eQ}(d:ma h1 h2){b:Nat}{o:Obj}(e:h2 b=some o):join h1 h2 b=some o:=by rw[join_comm d];exact join_some e
def DF.mono{h k:eQ}{X:kN}{n:Nat}{s:Src}{v:Value}(f:∀b o,h b=some o->k b=some o)(o:DF h X n s v):DF k X n s v:=by
 cases s with
 |pop w=>obtain⟨R,bF,dx,h1,h2,aN⟩:=o;exact⟨R,bF,dx,h1,f _ _ h2,f _ _ aN⟩
 |take=>obtain⟨bF,h1,h2⟩:=o;exact⟨bF,h1,f _ _ h2⟩
 |lR w=>obtain⟨R,bF,dx,h1,h2,aN⟩:=o;exact⟨R,bF,dx,h1,f _ _ h2,f _ _ aN⟩
def DH(X:kN)(n:Nat)(l:List Src)(cg:List Value):al:=λh=>cg.length=l.length/\∀(i:Nat) (s:Src) (v:Value),l[i]?=some s->cg[i]?=some v->DF h X n s v
section
variable{X:kN}{n:Nat}{a:Option Addr}{c:Nat}{l:List Src}{cg:List Value}{w bF dx:Nat}{D:List al}
def aoq(R:w<n):∀h,Sat (aa bF 96 [ptr X.c 0]::aa dx 3 [af w]::D) h->Sat (DH X n [.pop w,.take] [pL bF dx,uI bF]::D) h:=Nq λh1 h2 d fG b8=>⟨rfl,λi s v ai Z=>by
 match i with
 |0=>cases ai;cases Z;exact⟨R,bF,dx,rfl,join_some fG,Nr d b8⟩
 |1=>cases ai;cases Z;exact⟨bF,rfl,join_some fG⟩
 |i+2=>cases ai⟩
def aor{y ho:Nat}(ag:y<n)(bi:l[0]?=some (.pop w))(h1:cg[0]?=some (pL bF dx)):∀h,Sat (DH X n l cg::aa ho 3 [af y]::D) h->Sat (DH X n (l++[.lR y]) (cg++[r4 bF ho])::D) h:=Nq λW cU d fG b8=>⟨by simp[fG.1],λi s v ai Z=>by
 obtain⟨aw,k⟩:=fG;rcases rY i l.length with ak|ak
 . rw[kY ak]at ai;rw[kY ad]at Z
   exact(k i s v ai Z).mono λb o e=>join_some e
 . obtain⟨_,a,c,e,hU,_⟩:=k 0 _ _ bi h1
   cases e;obtain rfl:i=l.length:=by
    have:=(dp.1 ai).1;simp at this;omega
   rw[py (et _),xZ]at ai;rw[<-aw,py (et _),xZ]at Z;cases ai;cases Z;exact⟨ag,bF,ho,rfl,join_some hU,Nr d b8⟩⟩
def aos{e:TypeId}{k:Nat}(hk:k=l.length):∀h,Sat (own (.slice a k c) e 1 k cg::DH X n l cg::D) h->Sat (kD X n a c l cg::D) h:=by
 subst hk;exact Nq λW cU d fG b8=>⟨(jd.own fG).imp λb o e=>join_some e,b8.1,λi s v ai Z=>(b8.2 i s v ai Z).mono λb o e=>Nr d e⟩
end
section
variable(X:kN)(B:fT)(p:Nat)(x y:Value)(a:Option Addr)(c w:Nat)
def Xe:∀(k d:Nat) (l:List Nat) (y:Nat),y∈n4 k d l->y∈l
 |0,_,_,_,h=>by cases h
 |
  k+1,d,l,y,h=>by
  rw[n4]at h;split at h
  . cases h
  . next x ah=>
     rcases ky.1 h with rfl|h
     . exact jH ah
     . exact aot (Xe _ _ _ _ h)
def aou{d n self y:Nat}(h:y∈order d n self):y<n:=by
 have:=Xe _ _ _ _ h;exact pM.1 (oL.1 this).1
def Xf:∀(k d:Nat) (l:List Nat),(n4 k d l).length<=k
 |0,_,_=>et _
 |
  k+1,d,l=>by
  rw[n4];split
  . simp
  . have:=Xf k (d/(k+1)) (l.eraseIdx (d%(k+1)));simp;omega
abbrev wD(l:List Nat):List Src:=.pop w::.take::l.map .lR
def aov{w k y:Nat}{l:List Nat}(h:l[k]?=some y):wD w (l.take (k+1))=wD w (l.take k)++[.lR y]:=by
 obtain⟨hk,rfl⟩:=dp.1 h;rw[wD,wD,nv hk,oY];rfl
def aow(R:w<B.bX)(bF dx:Nat)(a2:al)[ib bF 0 a2 (ptr X.c 0)][ib dx 0 a2 (af w)]:ab E 129 [ptr bF 0,ptr dx 0] [a2,fG X B,ez X B] (λu I=>∃q,u=yD q/\I=[gD q (X.hL w) (mj 4 0),a2,fG X B,ez X B]):=by
 refine av Tryz.func129 λH D=>?_;refine Xg ?_;refine bu (anT (X.hL w)) ?_;exact Xh
def aox(R:w<B.bX)(bF dx:Nat)(a2:al)[ib bF 0 a2 (ptr X.c 0)][ib dx 0 a2 (af w)]:ab E 134 [ptr bF 0,ptr dx 0] [a2,fG X B,ez X B] (λu I=>∃q,u=yD q/\I=[gD q (X.hL w) (mj 10 0),a2,fG X B,ez X B]):=by
 refine av Tryz.func134 λH D=>?_;refine Xg ?_;refine bu (anU (X.hL w)) ?_;exact Xh
def aoy(K:B.ek<=65536)(bF:Nat)(a2:al)[ib bF 0 a2 (ptr X.c 0)]:ab E 131 [ptr bF 0] (a2::rh) (λu I=>∃q,u=yE q/\I=(iI q X.hc B.ek (kr true 0)::a2::rh)):=by
 refine av Tryz.func131 λH D=>?_;refine c4 ?_;refine bu (WN X.hc X.m B.ek B.na K) ?_;refine ny ?_;intro q;refine aB rfl (jR Tryz.underlying241 rfl rfl) ?_;refine bE ?_;exact aQ ⟨q,rfl,rfl⟩
def aoz:ab E 136 [ptr p 0,.slice a (([]:List Src)).length c] (cW p x y 0 0 (gK X)::kD X B.bX a c (([]:List Src)) []::jB) (aH eN (gy X B p (lv (([]:List Src)))::jB)):=by
 refine av Tryz.func136 λH D=>?_;refine nw ?_;intro V ay;refine ct ?_;refine uG ?_;refine bQ ?_;refine aU (mQ p (gK X) x y 0 0 4 0) ?_;refine bE ?_;exact aQ (I:=(gy X B p (lv [])::jB)) cj (AT bw x y (au))
def aoA(R:w<B.bX)(bF dx:Nat)(l:List Src)(d:List Value):ab E 136 [ptr p 0,.slice a (.pop w::l).length c] (cW p x y 0 0 (gK X)::kD X B.bX a c (.pop w::l) (pL bF dx::d)::jB) (aH eN (gy X B p (lv (.pop w::l))::jB)):=by
 refine Ns ?_;intro H D V ay;refine aB rfl (gF rfl (show(pL bF dx::d)[0*1]?=some (pL bF dx)from rfl)) ?_;refine bu (aow X B w R bF dx (kD X B.bX a c (.pop w::l) (pL bF dx::d))) ?_;refine Nt ?_;intro q aL;refine aU (uH p 238 477 (gK X) (ptr q 0) _ _ _ rfl 0 0 (gD q (X.hL w) (mj 4 0)) (Ds q (X.hL w) (mj 4 0))) ?_;refine b2 ?_;exact aQ (I:=[gy X B p (lv (.pop w::l)),fG X B,b8 X B,hU X B,ez X B]) ⟨rfl,rfl⟩ (r3 (cE (q,aL,V,ay,a,c,pL bF dx::d,.pop w) trivial (au)))
def aoB(K:B.ek<=65536)(bF:Nat)(l:List Src)(d:List Value):ab E 136 [ptr p 0,.slice a (.take::l).length c] (cW p x y 0 0 (gK X)::kD X B.bX a c (.take::l) (uI bF::d)::jB) (aH eN (gy X B p (lv (.take::l))::jB)):=by
 refine Ns ?_;intro H D V ay;refine aB rfl (gF rfl (show(uI bF::d)[0*1]?=some (uI bF)from rfl)) ?_;refine bu (aoy X B K bF (kD X B.bX a c (.take::l) (uI bF::d))) ?_;refine Nt ?_;intro q aL;refine Xd ?_;exact aQ (I:=[gy X B p (lv (.take::l)),fG X B,b8 X B,hU X B,ez X B]) ⟨rfl,rfl⟩ (r3 (cE (q,aL,V,ay,a,c,uI bF::d,.take) trivial (au)))
def aoC(R:w<B.bX)(bF dx:Nat)(l:List Src)(d:List Value):ab E 136 [ptr p 0,.slice a (.lR w::l).length c] (cW p x y 0 0 (gK X)::kD X B.bX a c (.lR w::l) (r4 bF dx::d)::jB) (aH eN (gy X B p (lv (.lR w::l))::jB)):=by
 refine Ns ?_;intro H D V ay;refine aB rfl (gF rfl (show(r4 bF dx::d)[0*1]?=some (r4 bF dx)from rfl)) ?_;refine bu (aox X B w R bF dx (kD X B.bX a c (.lR w::l) (r4 bF dx::d))) ?_;refine Nt ?_;intro q aL;refine aU (uH p 238 477 (gK X) (ptr q 0) _ _ _ rfl 0 0 (gD q (X.hL w) (mj 10 0)) (Ds q (X.hL w) (mj 10 0))) ?_;refine b2 ?_;exact aQ (I:=[gy X B p (lv (.lR w::l)),fG X B,b8 X B,hU X B,ez X B]) ⟨rfl,rfl⟩ (r3 (cE (q,aL,V,ay,a,c,r4 bF dx::d,.lR w) trivial (au)))
def Xi(K:B.ek<=65536)(a:Option Addr)(c:Nat)(l:List Src)(cg:List Value):ab E 136 [ptr p 0,.slice a l.length c] (cW p x y 0 0 (gK X)::kD X B.bX a c l cg::jB) (aH eN (gy X B p (lv l)::jB)):=by
 cases l with
 |nil=>refine Hq (λD h s=>show cg=[]from by obtain⟨_,_,_,_,⟨_,aw,_⟩,_⟩:=Sat.drop s;exact rR aw) ?_;rintro rfl;exact aoz X B p x y a c
 |
  cons s l=>
  cases s with
  |pop w=>refine Hq (λD h s=>aol h uB) ?_;rintro⟨bF,dx,d,rfl,R⟩;exact aoA X B p x y a c w R bF dx l d
  |take=>refine Hq (λD h s=>aom h uB) ?_;rintro⟨bF,d,rfl⟩;exact aoB X B p x y a c K bF l d
  |lR w=>refine Hq (λD h s=>aon h uB) ?_;rintro⟨bF,dx,d,rfl,R⟩;exact aoC X B p x y a c w R bF dx l d
def aoD(K:B.ek<=65536)(a:Option Addr)(c:Nat)(l:List Src)(cg:List Value)(er:Src)(w q c1 bq b7:Nat)(o:ig):ab E 192 yf (cW p x y 0 0 (gK X)::gD q (X.hL w) o::aa c1 237 [yD q]::Xj) (aH eN Nu):=by
 refine av Tryz.func192 λH D=>?_;refine bR ?_;refine cn rfl (wE rfl rfl (Wd q (X.hL w) o) bN) ?_;refine gU ?_;refine pC ?_;refine ch (λW=>?_) (λW=>?_)
 . refine aG ?_
   refine cw [4] [103,1,202] [aa c1 237 [yD q],aa bq 169 [ptr p 0],gD q (X.hL w) o] ?_;refine bR ?_;refine go_c rfl .none rfl (wE rfl rfl (anG q (X.hL w) o) bN) ?_;refine Xk ?_;exact aQ (I:=Nu) cj Xl
 . refine Xm ?_
   exact aQ (I:=Nu) cj Nv
def aoE(K:B.ek<=65536)(a:Option Addr)(c:Nat)(l:List Src)(cg:List Value)(er:Src)(w q c1 bq b7:Nat)(o:hK):ab E 192 yf (cW p x y 0 0 (gK X)::iI q X.hc B.ek o::aa c1 237 [yE q]::Xj) (aH eN Nw):=by
 refine av Tryz.func192 λH D=>?_;refine bR ?_;refine cn rfl (wE rfl rfl (M5 q X.hc B.ek o) bN) ?_;refine gU ?_;refine pC ?_;refine ch (λW=>?_) (λW=>?_)
 . refine aG ?_
   refine cw [4] [103,1,202] [aa c1 237 [yE q],aa bq 169 [ptr p 0],iI q X.hc B.ek o] ?_;refine bR ?_;refine go_c rfl .none rfl (wE rfl rfl (Wf q X.hc B.ek o) bN) ?_;refine Xk ?_;exact aQ (I:=Nw) cj Xl
 . refine Xm ?_
   exact aQ (I:=Nw) cj Nv
def aoF(K:B.ek<=65536)(f:B.bX<=8)(w:Nat)(R:w<B.bX)(d:Nat)(aS:d<18446744073709551616):ab E 82 [ptr X.c 0,af w,bx d] jB (λu I=>∃p,u=ptr p 0/\I=(gy X B p (yw B w d)::jB)):=by
 refine av Tryz.func82 λH D=>?_;refine bb ?_;refine wn λay=>?_;refine wn λaL=>?_;refine ct ?_;refine bu (Nl X B w R) ?_;refine lS ?_;intro p;refine c4 ?_;refine cP ?_;refine cB ?_;refine wn λi=>?_;refine bE ?_;refine h0 [7] [7] [(0,.loc),(1,.loc),(2,.loc),(3,.loc),(4,.loc),(5,.loc),(6,.loc),(9,.bL),(7,.da),(8,.loc)] [fG X B,aa ay 96 [ptr X.c 0],aa aL 3 [af w]] mixed hM ?_;refine bQ ?_;refine bu (aoG d B.bX w aS f R) ?_;rintro _ _ ⟨a,c,rfl,rfl⟩;refine eM ?_;refine bE ?_;refine hb (bv:=Nat×List Value×Option Addr×Nat) (λe=>e.1<=(order d B.bX w).length/\e.2.1[0]?=some (pL ay aL)) (λe=>[(33,af e.1),(32,af (order d B.bX w).length),(31,.slice a (order d B.bX w).length c),(9,.slice e.2.2.1 (e.1+2) e.2.2.2),(3,ptr ay 0),(7,ptr p 0)]) (λe=>own (.slice e.2.2.1 (e.1+2) e.2.2.2) 240 1 (e.1+2) e.2.1::DH X B.bX (wD w ((order d B.bX w).take e.1)) e.2.1::ju a c (order d B.bX w)::cW p .nilIface .nilFunc 0 0 (gK X)::fG X B::b8 X B::hU X B::ez X B::D) (λe=>(order d B.bX w).length -e.1) (0,[pL ay aL,uI ay],some ⟨i,0,none⟩,2) (⟨fk _,rfl⟩) eb (λh s=>aoH r2 AB h (Sat.tail (aoq R) ((au) h s))) ?_;rintro⟨k,cg,cC,bq⟩ ⟨hk,bi⟩;replace hk:k<=(order d B.bX w).length:=hk;replace bi:cg[0]?=some (pL ay aL):=bi;have j:(order d B.bX w).length<=7:=mZ (Xf _ _ _) ad;dsimp only;refine bj ?_;refine ch (λW=>?_) (λW=>?_)
 . obtain⟨y,ag⟩:∃y,(order d B.bX w)[k]?=some y:=⟨_,cD ad⟩
   refine bj ?_;refine aB rfl (gf rfl rfl (show k<(order d B.bX w).length by omega)) ?_;refine aB rfl (gF rfl (Xn ag)) ?_;refine wn λb=>?_;refine bj ?_;refine wn λn=>?_;refine gj λl m=>?_;refine bQ ?_;refine gg (k+1,cg++[r4 ay b],l,m) ⟨show k+1<=(order d B.bX w).length by omega,by show(cg++[r4 ay b])[0]?=some (pL ay aL);rw[kY (dp.1 bi).1];exact bi⟩ (show(order d B.bX w).length -(k+1)<(order d B.bX w).length -k by omega) eb (λh s=>Sat.tail (λg t=>by dsimp only;rw[aov ag];exact aor (w:=w) (aou (jH ag)) rfl bi g t) ((au) h s))
 . refine bj ?_
   obtain rfl:k=(order d B.bX w).length:=ad;have g0:(wD w (order d B.bX w)).length=(order d B.bX w).length+2:=by simp[wD]
   rw[nT,<-g0];refine nu (aos rfl) ?_;refine b2 ?_;refine aU (Xi X B p _ _ K cC bq (wD w (order d B.bX w)) cg) ?_;refine dh ?_;exact aQ ⟨p,rfl,rfl⟩
end
end Go.Proofs.YtnnhpnccfnghdaaGreat.L
namespace Go.L.dP
open Go.L Go.L.Ring Go.L.dD
variable{b n:Nat}{L:List Int}
section
variable(B:fT){o:hK}
def V6{o:ig}(h:iv L)(aJ:qc o):qc (ji b n L o):=by
 obtain⟨cu,cC,a3,a4⟩:=aJ;unfold ji;split
 . exact⟨cu,cC,a3,a4⟩
 . obtain⟨pc,out,v,t,l,ep⟩:=o
   unfold ia;split<;>(constructor<;>first|assumption|exact h.get _|(simp only;omega)|(simp only;split<;>omega)|exact⟨by simp,by simp⟩|(constructor<;>simp))
def V7{o:ig}(h:iv L)(aJ:qc o):iv (mi b n L o):=by
 unfold mi;split
 . exact h
 . unfold h4
   split<;>(try split)<;>first|exact h|exact h.set _ _ aJ.v|exact h.set _ _ (AL _)|exact h.set _ _ aJ.b
def anu{o:ig}:(mi b n L o).length=L.length:=by
 unfold mi;split
 . rfl
 . unfold h4;split<;>(try split)<;>first|rfl|exact gr
def MX(h:iv L)(aJ:n3 o):n3 (iw b n L o):=by
 obtain⟨cu,cC,a3⟩:=aJ;unfold iw;split
 . exact⟨cu,cC,a3⟩
 . obtain⟨k,en,t,v,out⟩:=o
   unfold jS;split<;>(try split)<;>(try split)<;>(try split)<;>(constructor<;>first|assumption|exact h.get _|(simp only;omega)|(simp only;split<;>omega)|(simp only;split<;>first|exact h.get _|assumption))
def MY(h:iv L)(aJ:n3 o):iv (n2 b n L o):=by
 unfold n2;split
 . exact h
 . unfold lu
   split<;>(try split)<;>first|exact h|exact h.set _ _ aJ.v|exact h.set _ _ (AL _)
def anv:(n2 b n L o).length=L.length:=by
 unfold n2;split
 . rfl
 . unfold lu;split<;>(try split)<;>first|rfl|exact gr
def G8{o:hN}(h:iv L):iv (qf b n L o):=by
 unfold qf;split
 . exact h
 . unfold qd;split<;>(try split)<;>first|exact h|exact h.set _ _ G9
def anw{o:hN}:(qf b n L o).length=L.length:=by
 unfold qf;split
 . rfl
 . unfold qd;split<;>(try split)<;>first|rfl|exact gr
def AM:Src->Prop
 |.pop w=>w<B.bX
 |.take=>True
 |.lR w=>w<B.bX
def V8:tv->Prop
 |.push w o v=>w<B.bX/\qc o/\o.out=0/\jh v
 |.enter o v=>n3 o/\o.out=0/\jh v
 |.ring o=>o.k<=4/\o.w<B.bX/\o.out=0
 |.ih w o l=>w<B.bX/\qc o/\o.out=0/\∀s∈l,AM B s
 |.mU o l=>n3 o/\o.out=0/\∀s∈l,AM B s
 |.qg w o=>w<B.bX/\o.k=0/\o.w<B.bX/\o.out=0
 |.k1 w o=>w<B.bX/\n3 o/\o.out=0
 |.up w _ o=>w<B.bX/\o.k=1/\o.w<B.bX/\o.out=0
 |.oK o=>o.k=2/\o.w<B.bX/\o.out=0
def ww(c:gC):Prop:=c.out=0->V8 B c.ph/\c.val=0
end
def Ha{b n:Nat}{L:List Int}{o:hN}(hk:o.k<=2)(aJ:o.out=0):(j1 b n L o).over=true:=by
 have e:j1 b n L o=qe b n L o:=by unfold j1 hN.over;rw[aJ];rfl
 rw[e];unfold qe hN.over;obtain⟨k,M⟩:∃k,k=o.k:=⟨_,rfl⟩;rw[<-M]at hk⊢
 match k,hk with
 |0,_=>rfl
 |1,_=>rfl
 |2,_=>simp only;split<;>rfl
def yy:jh 0:=G9
def MZ{k:Nat}(hk:k<=13){v:Int}(Z:jh v):qc (mj k v):=⟨hk,Z,yy,yy⟩
def M0{en:Bool}{v:Int}(Z:jh v):n3 (kr en v):=⟨fk _,yy,Z⟩
def M1{B:fT}{l:List Src}(h:∀s∈l,AM B s):ww B (lv l):=by
 cases l with
 |nil=>intro e;exact absurd (show(4:Int)=0 from e) bw
 |
  cons s l=>
  have h1:=h s (.head _);have h2:∀s∈l,AM B s:=λx ah=>h x (.tail _ ah);cases s with
  |pop w=>exact λ_=>⟨⟨h1,MZ bw yy,rfl,h2⟩,rfl⟩
  |take=>exact λ_=>⟨⟨M0 yy,rfl,h2⟩,rfl⟩
  |lR w=>exact λ_=>⟨⟨h1,MZ bw yy,rfl,h2⟩,rfl⟩
def anx{b n:Nat}{L:List Int}{o:hN}(hk:o.k<=4)(R:o.w<n)(T:(j1 b n L o).out=0):(j1 b n L o).k<=4/\(j1 b n L o).w<n:=by
 revert T;unfold j1;split
 . exact λ_=>⟨hk,R⟩
 . obtain⟨k,w,out⟩:=o
   replace hk:k<=4:=hk;replace R:w<n:=R;unfold qe wq;intro T
   match k,hk with
   |0,_=>exact⟨show(0:Nat)<=4 by decide,R⟩
   |1,_=>exact⟨show(1:Nat)<=4 by decide,R⟩
   |2,_=>exact⟨show(2:Nat)<=4 by decide,R⟩
   |
    3,_=>
    simp only at T⊢;split at T
    . rename_i ah;rw[bg ah];exact⟨et _,R⟩
    . rename_i ah;rw[a7 ah];refine⟨show(3:Nat)<=4 by decide,?_⟩
      by_cases e:w+1=n
      . simp[e]at T
      . show w+1<n;omega
   |
    4,_=>
    simp only at T⊢;split at T
    . exact absurd (show(7:Int)=0 from T) bw
    . rename_i ah;rw[a7 ah];refine⟨show(3:Nat)<=4 by decide,?_⟩
      by_cases e:w+1=n
      . simp[e]at T
      . show w+1<n;omega
def anz{B:fT}{L:List Int}{c:gC}(aO:0<B.bX)(K:iv L)(a6:ww B c):ww B (lx B L c):=by
 obtain⟨ph,out,val⟩:=c;by_cases aJ:out=0
 . subst aJ
   obtain⟨Y,Z⟩:=a6 rfl;have aC:lx B L uC=(h5 B L uC).2:=by unfold lx;rw[show(⟨ph,0,val⟩:gC).over=false from rfl];rfl
   rw[aC];have aF:V8 B (.ring (jL 3 0)):=⟨by decide,aO,rfl⟩;refine V9 ?_;intro mW u;have a:∀{b n:Nat} {o:hN},¬(j1 b n L o).over=true->(j1 b n L o).out=0:=λh=>by simpa[hN.over]using h
   cases ph with
   |
    push w o v=>
    obtain⟨R,ak,T,d7⟩:=Y;simp only[h5];split
    . split
      . exact λ_=>M2
      . exact λ_=>⟨aF,rfl⟩
    . rename_i ah;exact λ_=>⟨⟨R,V6 K ak,mW ah,d7⟩,rfl⟩
   |
    enter o v=>
    obtain⟨ak,T,d7⟩:=Y;simp only[h5];split
    . split
      . exact λ_=>M2
      . exact λ_=>⟨aF,rfl⟩
    . rename_i ah;exact λ_=>⟨⟨MX K ak,u ah,d7⟩,rfl⟩
   |
    ring o=>
    obtain⟨hk,R,T⟩:=Y;simp only[h5];split
    . intro e;exact absurd (show(1:Int)=0 from e) bw
    . rename_i ah
      have:=anx (b:=B.b) (L:=L) hk R (a ah);exact λ_=>⟨⟨this.1,this.2,a ah⟩,rfl⟩
   |
    ih w o l=>
    obtain⟨R,ak,T,aw⟩:=Y;simp only[h5];split
    . split
      . intro e;exact absurd (show(1:Int)=0 from e) bw
      . exact M1 aw
    . rename_i ah;exact λ_=>⟨⟨R,V6 K ak,mW ah,aw⟩,rfl⟩
   |
    mU o l=>
    obtain⟨ak,T,aw⟩:=Y;simp only[h5];split
    . split
      . intro e;exact absurd (show(1:Int)=0 from e) bw
      . exact M1 aw
    . rename_i ah;exact λ_=>⟨⟨MX K ak,u ah,aw⟩,rfl⟩
   |qg w o=>exact λ_=>⟨⟨Y.1,M0 yy,rfl⟩,rfl⟩
   |
    k1 w o=>
    obtain⟨R,ak,T⟩:=Y;simp only[h5];split
    . split
      . exact λ_=>⟨⟨R,rfl,R,rfl⟩,rfl⟩
      . intro e;exact absurd (show(4:Int)=0 from e) bw
    . rename_i ah;exact λ_=>⟨⟨R,MX K ak,u ah⟩,rfl⟩
   |up w v o=>intro e;exact absurd (show(1:Int)=0 from e) bw
   |
    oK o=>
    have:=Ha (b:=B.b) (n:=B.bX) (L:=L) (o:=o) (by have:=Y.1;omega) Y.2.2;intro e;rw[show(h5 B L ⟨.oK o,0,val⟩).2.out=(j1 B.b B.bX L o).out from rfl]at e;simp[hN.over,e]at this
 . have aC:lx B L o4=o4:=by unfold lx;rw[bg (by simp[gC.over,aJ])]
   rw[aC];exact a6
def anA{B:fT}{L:List Int}{c:gC}(K:iv L)(a6:ww B c):iv (nA B L c):=by
 unfold nA;split
 . exact K
 . rename_i ah
   obtain⟨ph,out,val⟩:=c;obtain⟨Y,_⟩:=a6 (by simpa[gC.over]using ah);cases ph with
   |push w o v=>exact V7 K Y.2.1
   |enter o v=>exact MY K Y.1
   |ring o=>exact G8 K
   |ih w o l=>exact V7 K Y.2.1
   |mU o l=>exact MY K Y.1
   |qg w o=>exact G8 K
   |k1 w o=>exact MY K Y.2.1
   |up w v o=>exact G8 K
   |oK o=>exact G8 K
def anB{B:fT}{L:List Int}{c:gC}:(nA B L c).length=L.length:=by
 unfold nA;split
 . rfl
 . obtain⟨ph,out,val⟩:=c
   cases ph<;>first|exact anu|exact anv|exact anw
end Go.L.dP
