import Derived.Test.YtnnhpnccfnghdaaGreatR9
set_option linter.all false
set_option maxRecDepth 8000
set_option maxHeartbeats 23200000
namespace Go.Proofs.YtnnhpnccfnghdaaGreat.L
open Go.L Go.L.Ring Go.L.dq Go.L.dA
attribute[local irreducible] G cE GE cY GT b0 df c4 di Exit.then Exit.inBlock
section
variable(s:Int)(p q m b n x w y:Nat){k:Nat}(L:List Int)(t:Int)(ee:Bool)(o:hJ)(tt v:Int)
theorem ao2(h:k<=4):e0 aa (Hk k):=by
 match k,h with
 |0,_|1,_|2,_|3,_|4,_=>simp only[Hk];exact fc
 |k+5,h=>omega
def ao3(o:hL)(J:Hn b n L)(hk:o.k<=4)(O:o.w<n):ad aa (Hk o.k) [ptr p 0] [ch m L t,mZ q m b n,jP p q o] (aH eu [ch m (wz b n L o) (fZ t),mZ q m b n,jP p q (wA b n L o)]):=by
 obtain⟨k,M⟩:∃k,k=o.k:=⟨_,rfl⟩;rw[<-M]at hk⊢
 match k,hk with
 |
  0,_=>
  have hk:o.k=0:=M.symm;refine aw Tryz.func199 λF D=>?_;obtain⟨k,w,out⟩:=o;obtain rfl:k=0:=hk;replace O:w<n:=O;have g:=J.len;have a:=J.n8;have d:=J.dB;have c:b+w<L.length:=ae;unfold jP;dsimp only;refine aG ?_;refine cu [] [19,201] [] ?_;refine eJ ?_;refine b6 ?_;refine go_v rfl .none rfl DA ?_;refine aT (mR _ _ _ (b+w) (c) _) ?_;refine c8 ?_;exact aX dI Xg
 |
  1,_=>
  have hk:o.k=1:=M.symm;refine aw Tryz.func200 λF D=>?_;obtain⟨k,w,out⟩:=o;obtain rfl:k=1:=hk;replace O:w<n:=O;have g:=J.len;have a:=J.n8;have d:=J.dB;have c:b+w<L.length:=ae;unfold jP;dsimp only;refine aG ?_;refine cu [] [19,201] [] ?_;refine eJ ?_;refine b6 ?_;refine go_v rfl .none rfl DA ?_;refine aT (mR _ _ _ (b+w) (c) _) ?_;refine c8 ?_;exact aX dI Xg
 |
  2,_=>
  have hk:o.k=2:=M.symm;refine aw Tryz.func186 λF D=>?_;obtain⟨k,w,out⟩:=o;obtain rfl:k=2:=hk;replace O:w<n:=O;have g:=J.len;have a:=J.n8;have d:=J.dB;have c:b+w<L.length:=ae;unfold jP;dsimp only;refine cv ?_;refine cu [] [19,201,5] [] ?_;refine eJ ?_;refine b6 ?_;refine go_v rfl .none rfl DA ?_;refine aT (nx _ _ _ (b+w) (c)) ?_;refine fW ?_;refine cg (λW=>?_) (λW=>?_)
  ·
   refine cq ?_;exact aX dI Nj
  ·
   refine bb ?_;exact aX dI Nk
 |
  3,_=>
  have hk:o.k=3:=M.symm;refine aw Tryz.func375 λF D=>?_;obtain⟨k,w,out⟩:=o;obtain rfl:k=3:=hk;replace O:w<n:=O;have g:=J.len;have a:=J.n8;have d:=J.dB;have c:b+w<L.length:=ae;unfold jP;dsimp only;refine bb ?_;refine cu [] [19,201,5] [] ?_;refine eJ ?_;refine b6 ?_;refine go_v rfl .none rfl DA ?_;refine aT (nx _ _ _ (b+w) (c)) ?_;refine fW ?_;refine cg (λW=>?_) (λW=>?_)
  ·
   refine c0 ?_;exact aX dI Nj
  ·
   refine bK ?_;refine aT (W7 p q m b n ⟨3,w,out⟩ O J.n8 rfl) ?_;refine bb ?_;exact aX dI Nk
 |
  4,_=>
  have hk:o.k=4:=M.symm;refine aw Tryz.func421 λF D=>?_;obtain⟨k,w,out⟩:=o;obtain rfl:k=4:=hk;replace O:w<n:=O;have g:=J.len;have a:=J.n8;have d:=J.dB;have c:b+w<L.length:=ae;unfold jP;dsimp only;refine bb ?_;refine cu [] [19,201,5] [] ?_;refine eJ ?_;refine b6 ?_;refine go_v rfl .none rfl DA ?_;refine aT (tf _ _ _ (b+w) (c) _ _) ?_;refine fr ?_;refine cg (λW=>?_) (λW=>?_)
  ·
   refine c0 ?_;exact aX dI Nj
  ·
   refine dC ?_;refine aT (W7 p q m b n ⟨3,w,out⟩ O J.n8 rfl) ?_;refine bb ?_;exact aX dI Nk
 |k+5,h=>omega
theorem ao4(h:k<=13):e0 aa (Hl k):=by
 match k,h with
 |0,_|1,_|2,_|3,_|4,_|5,_|6,_|7,_|8,_|9,_|10,_|11,_|12,_|13,_=>simp only[Hl];exact fc
 |k+14,h=>omega
def ao5(o:ie)(J:yD b n L)(h1:qo o):ad aa (Hl o.pc) [ptr p 0] [ch m L t,nF q m b n,ih p q o] (aH eu [ch m (kp b n L o) (fZ t),nF q m b n,ih p q (kA b n L o)]):=by
 obtain⟨k,M⟩:∃k,k=o.pc:=⟨_,rfl⟩;have hk:=h1.pc;rw[<-M]at hk⊢
 match k,hk with
 |
  0,_=>
  have hk:o.pc=0:=M.symm;refine aw Tryz.func322 λF D=>?_;have g:=J.len;have a:=J.ef;have d:=J.dB;have i:=J.jQ;have c:b<L.length:=ae;have f:b+1<L.length:=ae;have Y:=h1.v;have R:=h1.t;have y:=h1.b;obtain⟨pc,out,v,tt,e,fK⟩:=o;obtain rfl:pc=0:=hk;unfold ih;dsimp only;refine cq ?_;refine ci rfl Nl ?_;rintro _ D ⟨_,⟨rfl,rfl⟩,rfl⟩
  try simp only[cp,cm]
  refine c8 ?_;exact aX dI wG
 |
  1,_=>
  have hk:o.pc=1:=M.symm;refine aw Tryz.func374 λF D=>?_;have g:=J.len;have a:=J.ef;have d:=J.dB;have i:=J.jQ;have c:b<L.length:=ae;have f:b+1<L.length:=ae;have Y:=h1.v;have R:=h1.t;have y:=h1.b;obtain⟨pc,out,v,tt,e,fK⟩:=o;obtain rfl:pc=1:=hk;unfold ih;dsimp only;refine bQ ?_;refine ci rfl Nn ?_;rintro _ D ⟨_,⟨rfl,rfl⟩,rfl⟩
  try simp only[cp,cm]
  refine c0 ?_;refine cu [] [17] [] ?_;refine bQ ?_;refine go_v rfl .none rfl (yF rfl rfl) ?_;refine c8 ?_;refine cg (λW=>?_) (λW=>?_)
  ·
   refine cq ?_;exact aX dI DB
  ·
   refine bb ?_;exact aX dI Xh
 |
  2,_=>
  have hk:o.pc=2:=M.symm;refine aw Tryz.func420 λF D=>?_;have g:=J.len;have a:=J.ef;have d:=J.dB;have i:=J.jQ;have c:b<L.length:=ae;have f:b+1<L.length:=ae;have Y:=h1.v;have R:=h1.t;have y:=h1.b;obtain⟨pc,out,v,tt,e,fK⟩:=o;obtain rfl:pc=2:=hk;unfold ih;dsimp only;refine aG ?_;refine hU [15,20] [15] [(0,.bI),(1,.bI),(2,.bI),(3,.bI),(4,.bI),(5,.bI),(6,.bI),(7,.loc),(8,.loc),(9,.loc),(10,.loc),(11,.loc),(12,.loc),(13,.loc),(14,.loc),(16,.bI),(17,.bI),(18,.bI),(19,.bI),(15,.c5),(20,.c5)] [nF q m b n,ih p q ⟨2,out,v,tt,e,fK⟩] mixed gB ?_;refine eJ ?_;refine bK ?_;refine go_c rfl .none rfl (b1 rfl (Nh q m b n a i ae (e) (y.1)) bF) ?_;rintro _ D ⟨_,⟨rfl,rfl⟩,rfl⟩
  try simp only[cp,cm]
  refine aG ?_;refine aT (mR _ _ _ (ke b n e) (J.lt e) _) ?_;refine dC ?_;exact aX dI wG
 |
  3,_=>
  have hk:o.pc=3:=M.symm;refine aw Tryz.func443 λF D=>?_;have g:=J.len;have a:=J.ef;have d:=J.dB;have i:=J.jQ;have c:b<L.length:=ae;have f:b+1<L.length:=ae;have Y:=h1.v;have R:=h1.t;have y:=h1.b;obtain⟨pc,out,v,tt,e,fK⟩:=o;obtain rfl:pc=3:=hk;unfold ih;dsimp only;refine aG ?_;refine cu [] [20,201] [] ?_;refine fW ?_;refine go_v rfl .none rfl Np ?_;refine bK ?_;refine go_v rfl .none rfl (nZ rfl rfl) ?_;refine aT (mR _ _ _ (b+1) (f) _) ?_;refine fW ?_;exact aX dI wG
 |
  4,_=>
  have hk:o.pc=4:=M.symm;refine aw Tryz.func188 λF D=>?_;have g:=J.len;have a:=J.ef;have d:=J.dB;have i:=J.jQ;have c:b<L.length:=ae;have f:b+1<L.length:=ae;have Y:=h1.v;have R:=h1.t;have y:=h1.b;obtain⟨pc,out,v,tt,e,fK⟩:=o;obtain rfl:pc=4:=hk;unfold ih;dsimp only;refine cq ?_;refine ci rfl Nl ?_;rintro _ D ⟨_,⟨rfl,rfl⟩,rfl⟩
  try simp only[cp,cm]
  refine c8 ?_;exact aX dI wG
 |
  5,_=>
  have hk:o.pc=5:=M.symm;refine aw Tryz.func226 λF D=>?_;have g:=J.len;have a:=J.ef;have d:=J.dB;have i:=J.jQ;have c:b<L.length:=ae;have f:b+1<L.length:=ae;have Y:=h1.v;have R:=h1.t;have y:=h1.b;obtain⟨pc,out,v,tt,e,fK⟩:=o;obtain rfl:pc=5:=hk;unfold ih;dsimp only;refine aG ?_;refine cu [] [20,201] [] ?_;refine fW ?_;refine go_v rfl .none rfl Np ?_;refine bK ?_;refine go_v rfl .none rfl (yF rfl rfl) ?_;refine aT (mR _ _ _ (b+1) (f) _) ?_;refine dC ?_;exact aX dI wG
 |
  6,_=>
  have hk:o.pc=6:=M.symm;refine aw Tryz.func280 λF D=>?_;have g:=J.len;have a:=J.ef;have d:=J.dB;have i:=J.jQ;have c:b<L.length:=ae;have f:b+1<L.length:=ae;have Y:=h1.v;have R:=h1.t;have y:=h1.b;obtain⟨pc,out,v,tt,e,fK⟩:=o;obtain rfl:pc=6:=hk;unfold ih;dsimp only;refine cq ?_;refine ci rfl Nn ?_;rintro _ D ⟨_,⟨rfl,rfl⟩,rfl⟩
  try simp only[cp,cm]
  refine eJ ?_;refine aG ?_;refine cu [] [10] [] ?_;refine bQ ?_;refine go_v rfl .none rfl (yF rfl rfl) ?_;refine b6 ?_;refine cg (λW=>?_) (λW=>?_)
  ·
   refine cv ?_;exact aX dI DB
  ·
   refine bb ?_;exact aX dI Xi
 |
  7,_=>
  have hk:o.pc=7:=M.symm;refine aw Tryz.func332 λF D=>?_;have g:=J.len;have a:=J.ef;have d:=J.dB;have i:=J.jQ;have c:b<L.length:=ae;have f:b+1<L.length:=ae;have Y:=h1.v;have R:=h1.t;have y:=h1.b;obtain⟨pc,out,v,tt,e,fK⟩:=o;obtain rfl:pc=7:=hk;unfold ih;dsimp only;refine aG ?_;refine cu [17,18,24] [108,9,202,2,101,2,201] [nF q m b n,DC p 299 0 (ptr q 0)] ?_;refine go_vs rfl .none rfl pb hq ?_;refine go_vs rfl .none rfl pb hq ?_;refine go_vs rfl .none rfl (lY rfl) hq ?_
  first|refine go_vs rfl .none rfl wH hq ?_|refine go_vs rfl .none rfl (nG rfl) hq ?_
  first|refine go_vs rfl .none rfl se hq ?_|refine go_vs rfl .none rfl wI hq ?_|refine go_vs rfl .none rfl wJ hq ?_
  refine go_vs rfl .none rfl (lY rfl) hq ?_
  first|refine go_vs rfl .none rfl wH hq ?_|refine go_vs rfl .none rfl (nG rfl) hq ?_
  first|refine go_vs rfl .none rfl se hq ?_|refine go_vs rfl .none rfl wI hq ?_|refine go_vs rfl .none rfl wJ hq ?_
  refine bQ ?_;refine go_v rfl .none rfl (yF rfl rfl) ?_;refine go_c rfl .none rfl (b1 rfl (Nh q m b n a i ae (eU (e -1)) ((AY _).1)) bF) ?_;rintro _ D ⟨_,⟨rfl,rfl⟩,rfl⟩
  try simp only[cp,cm]
  refine⟨rv,?_⟩;refine aT (nx _ _ _ (ke b n (eU (e -1))) (J.lt _)) ?_;refine⟨rv,?_⟩;refine bb ?_;refine go_vs rfl .none rfl uK hq ?_;refine bb ?_
  first|refine go_u rfl .none pP rv ?_|refine go_u rfl .none pQ rv ?_
  refine fr ?_;refine cu [] [10] [] ?_;refine bQ ?_;refine go_v rfl .none rfl (yF rfl rfl) ?_;refine b6 ?_;refine cg (λW=>?_) (λW=>?_)
  ·
   refine cq ?_;exact aX dI DB
  ·
   refine bb ?_;exact aX dI Xi
 |
  8,_=>
  have hk:o.pc=8:=M.symm;refine aw Tryz.func378 λF D=>?_;have g:=J.len;have a:=J.ef;have d:=J.dB;have i:=J.jQ;have c:b<L.length:=ae;have f:b+1<L.length:=ae;have Y:=h1.v;have R:=h1.t;have y:=h1.b;obtain⟨pc,out,v,tt,e,fK⟩:=o;obtain rfl:pc=8:=hk;unfold ih;dsimp only;refine aG ?_;refine cu [25,31] (101::24::uL) [] ?_;refine go_vs rfl .none rfl pb pd ?_;refine fW ?_;refine go_v rfl .none rfl (fk (b:Int) eZ rfl rfl) ?_;refine bQ ?_;refine go_v rfl .none rfl (nZ rfl rfl) ?_;refine aT (tf _ _ _ (b) (c) _ _) ?_;refine⟨nH,?_⟩;refine bb ?_;refine go_vs rfl .none rfl uK pd ?_;refine bb ?_
  first|refine go_u rfl .none pP nH ?_|refine go_u rfl .none pQ nH ?_
  refine c0 ?_;exact aX dI wG
 |
  9,_=>
  have hk:o.pc=9:=M.symm;refine aw Tryz.func333 λF D=>?_;have g:=J.len;have a:=J.ef;have d:=J.dB;have i:=J.jQ;have c:b<L.length:=ae;have f:b+1<L.length:=ae;have Y:=h1.v;have R:=h1.t;have y:=h1.b;obtain⟨pc,out,v,tt,e,fK⟩:=o;obtain rfl:pc=9:=hk;unfold ih;dsimp only;refine aG ?_;refine cu [] [19,201] [] ?_;refine fW ?_;refine go_v rfl .none rfl Np ?_;refine bK ?_;refine aT (mR _ _ _ (b+1) (f) _) ?_;refine eJ ?_;refine bK ?_;refine cg (λW=>?_) (λW=>?_)
  ·
   refine cq ?_;exact aX dI (by simp only[kp,kA,W,fi];exact(au))
  ·
   refine bb ?_;exact aX dI (by simp only[kp,kA,W,eP,ep];exact(au))
 |
  10,_=>
  have hk:o.pc=10:=M.symm;refine aw Tryz.func191 λF D=>?_;have g:=J.len;have a:=J.ef;have d:=J.dB;have i:=J.jQ;have c:b<L.length:=ae;have f:b+1<L.length:=ae;have Y:=h1.v;have R:=h1.t;have y:=h1.b;obtain⟨pc,out,v,tt,e,fK⟩:=o;obtain rfl:pc=10:=hk;unfold ih;dsimp only;refine cq ?_;refine ci rfl Nn ?_;rintro _ D ⟨_,⟨rfl,rfl⟩,rfl⟩
  try simp only[cp,cm]
  refine c8 ?_;exact aX dI wG
 |
  11,_=>
  have hk:o.pc=11:=M.symm;refine aw Tryz.func227 λF D=>?_;have g:=J.len;have a:=J.ef;have d:=J.dB;have i:=J.jQ;have c:b<L.length:=ae;have f:b+1<L.length:=ae;have Y:=h1.v;have R:=h1.t;have y:=h1.b;obtain⟨pc,out,v,tt,e,fK⟩:=o;obtain rfl:pc=11:=hk;unfold ih;dsimp only;refine bQ ?_;refine ci rfl Nl ?_;rintro _ D ⟨_,⟨rfl,rfl⟩,rfl⟩
  try simp only[cp,cm]
  refine c0 ?_;refine cu [] [9] [] ?_;refine c0 ?_;refine cg (λW=>?_) (λW=>?_)
  ·
   refine cq ?_;exact aX dI DB
  ·
   refine bb ?_;exact aX dI Xh
 |
  12,_=>
  have hk:o.pc=12:=M.symm;refine aw Tryz.func281 λF D=>?_;have g:=J.len;have a:=J.ef;have d:=J.dB;have i:=J.jQ;have c:b<L.length:=ae;have f:b+1<L.length:=ae;have Y:=h1.v;have R:=h1.t;have y:=h1.b;obtain⟨pc,out,v,tt,e,fK⟩:=o;obtain rfl:pc=12:=hk;unfold ih;dsimp only;refine aG ?_;refine cu [16,17,23] [108,8,202,2,101,2,201] [nF q m b n,DC p 299 0 (ptr q 0)] ?_;refine go_vs rfl .none rfl pb hq ?_;refine go_vs rfl .none rfl pb hq ?_;refine go_vs rfl .none rfl (lY rfl) hq ?_
  first|refine go_vs rfl .none rfl wH hq ?_|refine go_vs rfl .none rfl (nG rfl) hq ?_
  first|refine go_vs rfl .none rfl se hq ?_|refine go_vs rfl .none rfl wI hq ?_|refine go_vs rfl .none rfl wJ hq ?_
  refine go_vs rfl .none rfl (lY rfl) hq ?_
  first|refine go_vs rfl .none rfl wH hq ?_|refine go_vs rfl .none rfl (nG rfl) hq ?_
  first|refine go_vs rfl .none rfl se hq ?_|refine go_vs rfl .none rfl wI hq ?_|refine go_vs rfl .none rfl wJ hq ?_
  refine bQ ?_;refine go_c rfl .none rfl (b1 rfl (Nh q m b n a i ae (tt) (R.1)) bF) ?_;rintro _ D ⟨_,⟨rfl,rfl⟩,rfl⟩
  try simp only[cp,cm]
  refine⟨rv,?_⟩;refine aT (nx _ _ _ (ke b n tt) (J.lt _)) ?_;refine⟨rv,?_⟩;refine bb ?_;refine go_vs rfl .none rfl uK hq ?_;refine bb ?_
  first|refine go_u rfl .none pP rv ?_|refine go_u rfl .none pQ rv ?_
  refine c0 ?_;exact aX dI wG
 |
  13,_=>
  have hk:o.pc=13:=M.symm;refine aw Tryz.func335 λF D=>?_;have g:=J.len;have a:=J.ef;have d:=J.dB;have i:=J.jQ;have c:b<L.length:=ae;have f:b+1<L.length:=ae;have Y:=h1.v;have R:=h1.t;have y:=h1.b;obtain⟨pc,out,v,tt,e,fK⟩:=o;obtain rfl:pc=13:=hk;unfold ih;dsimp only;refine cv ?_;refine cu [] [24,201,5] [] ?_;refine fW ?_;refine go_v rfl .none rfl (fk (b:Int) eZ rfl rfl) ?_;refine bQ ?_;refine go_v rfl .none rfl (nZ rfl rfl) ?_;refine aT (tf _ _ _ (b) (c) _ _) ?_;refine fr ?_;refine cg (λW=>?_) (λW=>?_)
  ·
   refine cq ?_;exact aX dI DB
  ·
   refine bb ?_;exact aX dI (by simp only[kp,kA,a8 W];exact(au))
 |k+14,h=>omega
theorem ao6(h:k<=4):e0 aa (Hm k):=by
 match k,h with
 |0,_|1,_|2,_|3,_|4,_=>simp only[Hm];exact fc
 |k+5,h=>omega
def ao7(o:k5)(hk:o.pc<=4)(a6:o.cell<L.length):ad aa (Hm o.pc) [ptr p 0] [ch m L t,ob p m o] (aH eu [ch m (yB L o) (fZ t),ob p m (wC L o)]):=by
 obtain⟨k,M⟩:∃k,k=o.pc:=⟨_,rfl⟩;rw[<-M]at hk⊢
 match k,hk with
 |
  0,_=>
  have hk:o.pc=0:=M.symm;refine aw Tryz.func427 λF D=>?_;obtain⟨pc,cell,seen,out⟩:=o;obtain rfl:pc=0:=hk;replace a6:cell<L.length:=a6;unfold ob;dsimp only;refine aG ?_;refine cu [9,15] (101::8::uL) [] ?_;refine go_vs rfl .none rfl pb pd ?_;refine bQ ?_;refine aT (nx _ _ _ (cell) (a6)) ?_;refine⟨nH,?_⟩;refine bb ?_;refine go_vs rfl .none rfl uK pd ?_;refine bb ?_
  first|refine go_u rfl .none pP nH ?_|refine go_u rfl .none pQ nH ?_
  refine gg ?_;refine aG ?_;refine cg (λW=>?_) (λW=>?_)
  ·
   refine cq ?_;exact aX dI DE
  ·
   refine bb ?_;exact aX dI DF
 |
  1,_=>
  have hk:o.pc=1:=M.symm;refine aw Tryz.func446 λF D=>?_;obtain⟨pc,cell,seen,out⟩:=o;obtain rfl:pc=1:=hk;replace a6:cell<L.length:=a6;unfold ob;dsimp only;refine c0 ?_;refine cu [] [12,201,5] [] ?_;refine dC ?_;refine aT (tf _ _ _ (cell) (a6) _ _) ?_;refine fr ?_;refine cg (λW=>?_) (λW=>?_)
  ·
   refine cq ?_;exact aX dI DE
  ·
   refine bb ?_;exact aX dI DF
 |
  2,_=>
  have hk:o.pc=2:=M.symm;refine aw Tryz.func397 λF D=>?_;obtain⟨pc,cell,seen,out⟩:=o;obtain rfl:pc=2:=hk;replace a6:cell<L.length:=a6;unfold ob;dsimp only;refine aG ?_;refine cu [9,15] (101::8::uL) [] ?_;refine go_vs rfl .none rfl pb pd ?_;refine bQ ?_;refine aT (nx _ _ _ (cell) (a6)) ?_;refine⟨nH,?_⟩;refine bb ?_;refine go_vs rfl .none rfl uK pd ?_;refine bb ?_
  first|refine go_u rfl .none pP nH ?_|refine go_u rfl .none pQ nH ?_
  refine gg ?_;refine aG ?_;refine cg (λW=>?_) (λW=>?_)
  ·
   refine cq ?_;exact aX dI DF
  ·
   refine bb ?_;exact aX dI DE
 |
  3,_=>
  have hk:o.pc=3:=M.symm;refine aw Tryz.func432 λF D=>?_;obtain⟨pc,cell,seen,out⟩:=o;obtain rfl:pc=3:=hk;replace a6:cell<L.length:=a6;unfold ob;dsimp only;refine c0 ?_;refine cu [] [8,201,5] [] ?_;refine bQ ?_;refine aT (tf _ _ _ (cell) (a6) _ _) ?_;refine fr ?_;refine cg (λW=>?_) (λW=>?_)
  ·
   refine cq ?_;exact aX dI DE
  ·
   refine bb ?_;exact aX dI DF
 |
  4,_=>
  have hk:o.pc=4:=M.symm;refine aw Tryz.func447 λF D=>?_;obtain⟨pc,cell,seen,out⟩:=o;obtain rfl:pc=4:=hk;replace a6:cell<L.length:=a6;unfold ob;dsimp only;refine cv ?_;refine cu [] [8,201,5] [] ?_;refine bQ ?_;refine aT (tf _ _ _ (cell) (a6) _ _) ?_;refine fr ?_;refine cg (λW=>?_) (λW=>?_)
  ·
   refine cq ?_;exact aX dI DE
  ·
   refine bb ?_;exact aX dI DF
 |k+5,h=>omega
def DG(o:hL)(J:Hn b n L)(hk:o.k<=4)(O:o.w<n):ad aa 476 [ptr p 0] [ch m L t,mZ q m b n,jP p q o] (aH (.bool (j4 b n L o).over) [ch m (qp b n L o) DH,mZ q m b n,jP p q (j4 b n L o)]):=by
 refine aw Tryz.func476 λF D=>?_;haveI:=ao2 hk;refine cv ?_;refine aT (A0 _ _ _) ?_;refine b6 ?_;refine cg (λW=>?_) (λW=>?_)
 . have I:o.over=false:=W
   refine bi ?_;refine aT (ao3 p q m b n L t o J hk O) ?_;exact Xj
 . have I:o.over=true:=W
   exact Xj
def Hq(o:ie)(J:yD b n L)(h1:qo o):ad aa 478 [ptr p 0] [ch m L t,nF q m b n,ih p q o] (aH (.bool (jb b n L o).over) [ch m (mr b n L o) DH,nF q m b n,ih p q (jb b n L o)]):=by
 refine aw Tryz.func478 λF D=>?_;haveI:=ao4 h1.pc;refine cv ?_;refine aT (Dy _ _ _) ?_;refine b6 ?_;refine cg (λW=>?_) (λW=>?_)
 . have I:o.over=false:=W
   refine bB ?_;refine aT (ao5 p q m b n L t o J h1) ?_;exact Xk
 . have I:o.over=true:=W
   exact Xk
def ao8(o:k5)(hk:o.pc<=4)(a6:o.cell<L.length):ad aa 489 [ptr p 0] [ch m L t,ob p m o] (aH (.bool (r9 L o).over) [ch m (r8 L o) DH,ob p m (r9 L o)]):=by
 refine aw Tryz.func489 λF D=>?_;haveI:=ao6 hk;refine cv ?_;refine aT (Xc _ _ _) ?_;refine b6 ?_;refine cg (λW=>?_) (λW=>?_)
 . have I:o.over=false:=W
   refine bB ?_;refine aT (ao7 p m L t o hk a6) ?_;exact Xl
 . have I:o.over=true:=W
   exact Xl
def Hr(O:w<n)(Z:Nat):ad aa 185 [ptr q 0,af w,.func (.func Z) #[] #[]] [mZ q m b n] (λu H=>∃p,u=ptr p 0/\H=[ab p 295 [ptr q 0,.func (.func Z) #[] #[],af w,af 0],mZ q m b n]):=by
 refine aw Tryz.func185 λF D=>?_;refine c0 ?_;refine wn λE=>?_;refine cq ?_;refine cP ?_;refine dC ?_;refine cP ?_;refine fW ?_;exact uM
def ao9(O:w<n):ad aa 140 [ptr q 0,af w] [mZ q m b n] (λu H=>∃p,u=ptr p 0/\H=[jP p q (kf 0 w),mZ q m b n]):=by
 refine aw Tryz.func140 λF D=>?_;refine cv ?_;refine br (Hr q m b n w O 199) ?_;exact rn
def apa(O:w<n):ad aa 144 [ptr q 0,af w] [mZ q m b n] (λu H=>∃p,u=ptr p 0/\H=[jP p q (kf 1 w),mZ q m b n]):=by
 refine aw Tryz.func144 λF D=>?_;refine cv ?_;refine br (Hr q m b n w O 200) ?_;exact rn
def apb(O:w<n):ad aa 124 [ptr q 0,af w] [mZ q m b n] (λu H=>∃p,u=ptr p 0/\H=[jP p q (kf 2 w),mZ q m b n]):=by
 refine aw Tryz.func124 λF D=>?_;refine cv ?_;refine br (Hr q m b n w O 186) ?_;exact rn
def apc(O:0<n):ad aa 323 [ptr q 0] [mZ q m b n] (λu H=>∃p,u=ptr p 0/\H=[jP p q (kf 3 0),mZ q m b n]):=by
 refine aw Tryz.func323 λF D=>?_;refine bQ ?_;refine br (Hr q m b n 0 O 375) ?_;exact rn
def Xm:ad aa 267 [ptr q 0,bw v] [] (λu H=>∃p,u=ptr p 0/\H=[ih p q (mX 0 v)]):=by
 refine aw Tryz.func267 λF D=>?_;exact Xn
def apd:ad aa 130 [ptr q 0] [] (λu H=>∃p,u=ptr p 0/\H=[ih p q (mX 4 0)]):=by
 refine aw Tryz.func130 λF D=>?_;exact Xo
def ape:ad aa 135 [ptr q 0] [] (λu H=>∃p,u=ptr p 0/\H=[ih p q (mX 10 0)]):=by
 refine aw Tryz.func135 λF D=>?_;exact Xo
def Xp(aA:b<=65536)(v:Int):ad aa 320 [ptr q 0,bw v] [kP q m b n] (λu H=>∃p,u=ptr p 0/\H=[jc p q b (k4 false v),kP q m b n]):=by
 refine aw Tryz.func320 λF D=>?_;refine fW ?_;refine wn λE=>?_;exact Nq
def Xq(aA:b<=65536):ad aa 132 [ptr q 0] [kP q m b n] (λu H=>∃p,u=ptr p 0/\H=[jc p q b (k4 true 0),kP q m b n]):=by
 refine aw Tryz.func132 λF D=>?_;refine dC ?_;refine MP ?_;refine aG ?_;refine wn λc2=>?_;exact Nq
def Xr(en c1 bn b9 d5 d9:Value)(out:Int):ad aa 480 [ptr p 0] [ab p 302 [en,c1,bn,b9,d5,d9,af out]] (aH (.bool (!decide (out=0))) [ab p 302 [en,c1,bn,b9,d5,d9,af out]]):=by
 exact W9
def apf(J:sd b n L)(R:ji tt)(Y:ji v):ad aa 481 [ptr p 0] [ch m L t,kP q m b n,jc p q b ⟨0,ee,tt,v,0⟩] (aH (.bool (jO b n L ⟨0,ee,tt,v,0⟩).over) [ch m (lC b n L ⟨0,ee,tt,v,0⟩) (fZ t),kP q m b n,jc p q b (jO b n L ⟨0,ee,tt,v,0⟩)]):=by
 refine A1 ?_;intro F D g a d i bf aj g4;have f:n4 b ee<L.length:=A2;refine Xs ?_;refine dC ?_;refine aT (nx _ _ _ (n4 b ee) (f)) ?_;refine eJ ?_;refine bK ?_;refine Hs ?_;exact Xt
def apg(J:sd b n L)(R:ji tt)(Y:ji v):ad aa 481 [ptr p 0] [ch m L t,kP q m b n,jc p q b DI] (aH (.bool (jO b n L DI).over) [ch m (lC b n L DI) (fZ t),kP q m b n,jc p q b (jO b n L DI)]):=by
 refine A1 ?_;intro F D g a d i bf aj g4;have f:n4 b ee<L.length:=A2;refine Xu ?_;refine bQ ?_;refine aT (nx _ _ _ (lB b n tt) (g4)) ?_;refine c8 ?_;refine aT (ao1 p q m b n a DI ⟨Dt rfl,R,Y⟩ _) ?_;exact Xv
def aph(J:sd b n L)(R:ji tt)(Y:ji v):ad aa 481 [ptr p 0] [ch m L t,kP q m b n,jc p q b ⟨2,ee,tt,v,0⟩] (aH (.bool (jO b n L ⟨2,ee,tt,v,0⟩).over) [ch m (lC b n L ⟨2,ee,tt,v,0⟩) (fZ t),kP q m b n,jc p q b (jO b n L ⟨2,ee,tt,v,0⟩)]):=by
 refine A1 ?_;intro F D g a d i bf aj g4;have f:n4 b ee<L.length:=A2;refine Xw ?_;refine fr ?_;refine cu [] [14,201,5] [] ?_;refine fr ?_;refine go_v rfl .none rfl (nZ rfl rfl) ?_;refine aT (tf _ _ _ (n4 b ee) f _ _) ?_;refine fr ?_;refine cg (λW=>?_) (λW=>?_)
 . refine c0 ?_
   refine Hs ?_;exact aX ⟨by simp only[jO,bd W];rfl,rfl⟩ (by simp only[lC,jO,bd W];exact(au))
 . refine Nr ?_
   exact aX ⟨by simp only[jO,a8 W];rfl,rfl⟩ (by simp only[lC,jO,a8 W];exact(au))
def api(J:sd b n L)(R:ji tt)(Y:ji v):ad aa 481 [ptr p 0] [ch m L t,kP q m b n,jc p q b Ht] (aH (.bool (jO b n L Ht).over) [ch m (lC b n L Ht) (fZ t),kP q m b n,jc p q b (jO b n L Ht)]):=by
 refine A1 ?_;intro F D g a d i bf aj g4;have f:n4 b false<L.length:=A2;refine Xx ?_;refine bi ?_;refine aB rfl (fk ((lB b n tt+1:Nat):Int) eZ rfl rfl) ?_;refine bK ?_;refine aT (mR _ _ _ (lB b n tt+1) aj _) ?_;refine Nr ?_;exact aX dI (by simp only[lC,jO,eP,ep];exact(au))
def apj(J:sd b n L)(R:ji tt)(Y:ji v):ad aa 481 [ptr p 0] [ch m L t,kP q m b n,jc p q b Hu] (aH (.bool (jO b n L Hu).over) [ch m (lC b n L Hu) (fZ t),kP q m b n,jc p q b (jO b n L Hu)]):=by
 refine A1 ?_;intro F D g a d i bf aj g4;have f:n4 b true<L.length:=A2;refine Xx ?_;refine cq ?_;refine aB rfl (fk ((lB b n tt+1:Nat):Int) eZ rfl rfl) ?_;refine aT (nx _ _ _ (lB b n tt+1) (aj)) ?_;refine dC ?_;refine Hs ?_;exact aX dI (by simp only[lC,jO,fi];exact(au))
def apk(J:sd b n L)(R:ji tt)(Y:ji v):ad aa 481 [ptr p 0] [ch m L t,kP q m b n,jc p q b ⟨4,ee,tt,v,0⟩] (aH (.bool (jO b n L ⟨4,ee,tt,v,0⟩).over) [ch m (lC b n L ⟨4,ee,tt,v,0⟩) (fZ t),kP q m b n,jc p q b (jO b n L ⟨4,ee,tt,v,0⟩)]):=by
 refine A1 ?_;intro F D g a d i bf aj g4;have f:n4 b ee<L.length:=A2;refine Xy ?_;refine Hv ?_;refine oz ?_;refine aT (Xf p q m b n a ⟨4,ee,tt,v,1⟩ ⟨Dt rfl,R,Y⟩) ?_;refine aB rfl (nZ rfl rfl) ?_;refine aT (mR _ _ _ (lB b n tt) g4 _) ?_;exact Xv
def apl(aK:o.over=true):ad aa 481 [ptr p 0] wF (aH h6 wF):=by
 refine aw Tryz.func481 λF D=>?_;refine cv ?_;refine aT (Nf _ _ _ _) ?_;refine bb ?_;refine wk Xz ?_;refine bQ ?_;exact aX ⟨rfl,rfl⟩
def A3(J:sd b n L)(h1:n9 o):ad aa 481 [ptr p 0] (ch m L t::Hp) (aH (.bool (iw b n L o).over) [ch m (n5 b n L o) DH,kP q m b n,jc p q b (iw b n L o)]):=by
 cases aK:o.over with
 |
  true=>
  have ay:iw b n L o=o:=by unfold iw;rw[bd aK]
  have aV:n5 b n L o=L:=by unfold n5;rw[bd aK]
  rw[ay,aV,aK];exact kd (apl p q b o aK) bF (λD=>by simp only[cp,cm];exact au)
 |
  false=>
  have ay:iw b n L o=jO b n L o:=by unfold iw;rw[a8 yG]
  have aV:n5 b n L o=lC b n L o:=by unfold n5;rw[a8 yG]
  rw[ay,aV];simp only[eP,ep];obtain⟨k,ee,tt,v,out⟩:=o;obtain rfl:out=0:=by simpa[hJ.over]using aK
  obtain⟨hk,R,Y⟩:=h1
  match k,hk with
  |0,_=>exact apf p q m b n L t ee tt v J R Y
  |1,_=>exact apg p q m b n L t ee tt v J R Y
  |2,_=>exact aph p q m b n L t ee tt v J R Y
  |3,_=>
   cases ee
   . exact api p q m b n L t tt v J R Y
   . exact apj p q m b n L t tt v J R Y
  |4,_=>exact apk p q m b n L t ee tt v J R Y
  |k+5,h=>exact absurd h (by dsimp only;omega)
def apm(aM:n<=16)(aA:b<=65536)(ah:1<=x/\x<=n)(ag:1<=y/\y<=n):ad aa 396 Hw [eC q m b n] (λu H=>∃p,u=ptr p 0/\H=[ab p 409 [ptr m 0,af (lF b n x y),bw 0,.nilFunc,af 0],eC q m b n]):=by
 refine aw Tryz.func396 λF D=>?_;have c:(x -1)*n<=256:=by have:=qq (show x -1<=16 by omega) (show n<=16 by omega);omega
 have a:(((x -1)*n:Nat):Int)=((x -1:Nat):Int)*(n:Int):=by rw[DJ]
 unfold lF;refine dC ?_;refine wn λf=>?_;refine cq ?_;refine cP ?_;refine dC ?_;refine cP ?_;refine bB ?_;refine cP ?_;refine fr ?_;refine cP ?_;refine cq ?_;refine cu [] [18,201] [] ?_;refine bi ?_;refine go_v rfl .none rfl (kl ((x -1:Nat):Int) eZ rfl rfl) ?_;refine bK ?_;refine go_v rfl .none rfl (rm (((x -1)*n:Nat):Int) (by rw[<-a,je (by omega)]) rfl rfl) ?_;refine go_v rfl .none rfl (fk ((b+(x -1)*n:Nat):Int) eZ rfl rfl) ?_;refine aG ?_;refine go_v rfl .none rfl (fk ((b+(x -1)*n+y:Nat):Int) eZ rfl rfl) ?_;refine go_v rfl .none rfl (kl ((b+(x -1)*n+y -1:Nat):Int) eZ rfl rfl) ?_;refine fr ?_;exact uM
def apn(aM:n<=16)(aA:b<=65536)(ah:1<=x/\x<=n)(ag:1<=y/\y<=n):ad aa 391 Hw [eC q m b n] (λu H=>∃p,u=ptr p 0/\H=[ob p m (nE 0 (lF b n x y)),eC q m b n]):=by
 refine aw Tryz.func391 λF D=>?_;exact Ns
def apo(aM:n<=16)(aA:b<=65536)(ah:1<=x/\x<=n)(ag:1<=y/\y<=n):ad aa 349 Hw [eC q m b n] (λu H=>∃p,u=ptr p 0/\H=[ob p m (nE 2 (lF b n x y)),eC q m b n]):=by
 refine aw Tryz.func349 λF D=>?_;exact Ns
def app(aM:n<=16)(aA:b<=65536)(ah:1<=x/\x<=n)(ag:1<=y/\y<=n):ad aa 429 Hw [eC q m b n] (λu H=>∃p,u=ptr p 0/\H=[ob p m (nE 4 (lF b n x y)),eC q m b n]):=by
 refine aw Tryz.func429 λF D=>?_;exact Ns
def apq:ad aa 103 [af s] [] (aH (af (if 1<=s/\s<=8 then s else 0)) []):=by
 refine aw Tryz.func103 λF D=>?_;refine c0 ?_;refine hx rfl rfl (λW=>?_) (λW=>?_) rfl
 . have f:=bN W
   refine bi ?_;refine cg (λM=>?_) (λM=>?_)
   . exact Nt
   . refine c8 ?_
     exact DK
 . exact Nu
def apr:ad aa 104 [af s] [] (aH (af (if 1<=s/\s<=64 then 2+2*s else 0)) []):=by
 refine aw Tryz.func104 λF D=>?_;refine c0 ?_;refine hx rfl rfl (λW=>?_) (λW=>?_) rfl
 . have f:=bN W
   refine bi ?_;refine cg (λM=>?_) (λM=>?_)
   . exact Nt
   . refine dC ?_
     exact DK
 . exact Nu
def aps:ad aa 105 [af s] [] (aH (af (if 1<=s/\s<=64 then 2+s else 0)) []):=by
 refine aw Tryz.func105 λF D=>?_;refine c0 ?_;refine hx rfl rfl (λW=>?_) (λW=>?_) rfl
 . have f:=bN W
   refine bi ?_;refine cg (λM=>?_) (λM=>?_)
   . exact Nt
   . refine c0 ?_
     exact DK
 . exact Nu
end
instance:k6 aa 238 "Step" 478:=pR
instance:k6 aa 238 "Over" 477:=pR
instance:k6 aa 238 "Outcome" 269:=pR
instance:k6 aa 238 "Value" 479:=pR
instance:k6 aa 241 "Step" 481:=pR
instance:k6 aa 241 "Over" 480:=pR
instance:k6 aa 241 "Outcome" 143:=pR
instance:k6 aa 241 "Value" 146:=pR
instance:k6 aa 232 "Step" 476:=pR
instance:k6 aa 232 "Over" 475:=pR
structure kQ where
 c:Nat
 m:Nat
 be:Nat
 hf:Nat
 hc:Nat
 iG:Nat
 hK:Nat->Nat
abbrev gJ(X:kQ):oG:=⟨175,[ptr X.c 0]⟩
section
variable(X:kQ)(q n:Nat)(B:fL)(p:Nat)(x y:Value)(w:Nat)
abbrev yH:Value:=.iface 238 (ptr q 0)
abbrev yI:Value:=.iface 241 (ptr q 0)
abbrev Hy:Value:=.iface 232 (ptr q 0)
abbrev XA:Value:=.slice (some ⟨X.hc,0,none⟩) B.bV X.iG
def A4:List Value:=(List.range B.bV).map λw=>ptr (X.hK w) 0
def lG:List aq:=(List.range B.bV).map λw=>nF (X.hK w) X.m (B.cn w) B.eN
abbrev fS:aq:=ab X.c 205 [ptr X.be 0,ptr X.hf 0,XA X B]
abbrev cd:aq:=mZ X.be X.m B.b B.bV
abbrev iR:aq:=kP X.hf X.m B.ed B.na
abbrev eM:aq:=own (XA X B) 210 1 B.bV (A4 X B)
def XB{X:kQ}{B:fL}{w:Nat}(h:w<B.bV):(A4 X B)[w*1]?=some (ptr (X.hK w) 0):=by
 unfold A4;simp[h]
structure kg(B:fL)(L:List Int):Prop where
 aG:1<=B.bV
 bQ:B.bV<=8
 s1:1<=B.eN
 pS:B.eN<=64
 cr:1<=B.na
 hg:B.na<=16
 len:B.b+B.size<=L.length
 dB:L.length<=65536
def DL(h:eA)(X:kQ)(n:Nat)(s:Src)(v:Value):Prop:=
 match s with
 |.pop w=>w<n/\∃bz dh:Nat,v=bj 129 [ptr bz 0,ptr dh 0]/\h bz=some (.cells [ptr X.c 0].toArray 96 (0,0))/\h dh=some (.cells [af w].toArray 3 (0,0))
 |.take=>∃bz:Nat,v=bj 131 [ptr bz 0]/\h bz=some (.cells [ptr X.c 0].toArray 96 (0,0))
 |.ms w=>w<n/\∃bz dh:Nat,v=bj 134 [ptr bz 0,ptr dh 0]/\h bz=some (.cells [ptr X.c 0].toArray 96 (0,0))/\h dh=some (.cells [af w].toArray 3 (0,0))
def kB(a:Option Addr)(c:Nat)(l:List Src)(ce:List Value):aq:=λh=>Pg.iD h a c l.length ce/\ce.length=l.length/\∀(i:Nat) (s:Src) (v:Value),l[i]?=some s->ce[i]?=some v->DL h X n s v
instance{X:kQ}{n:Nat}{a:Option Addr}{c:Nat}{l:List Src}{ce:List Value}:gl (.slice a l.length c) (kB X n a c l ce) l.length ce:=⟨λh=>h.1.1⟩
abbrev XC:=Nat×Nat×Nat×Nat×Option Addr×Nat×List Value×Src
def kC:tx->aq
 |.push w o v=>dj (bv:=Nat×Nat×Nat×Nat) (λ_=>True) (λe=>match e with|(q,c1,bn,b9)=>[cU p (yH q) (bj 268 [ptr c1 0,ptr bn 0,ptr b9 0]) 0 0 (gJ X),ih q (X.hK w) o,ab c1 238 [ptr q 0],ab bn 169 [ptr p 0],ab b9 36 [bw v]])
 |.enter o v=>dj (bv:=Nat×Nat×Nat×Nat) (λ_=>True) (λe=>match e with|(q,c1,bn,b9)=>[cU p (yI q) (bj 321 [ptr c1 0,ptr bn 0,ptr b9 0]) 0 0 (gJ X),jc q X.hf B.ed o,ab c1 241 [ptr q 0],ab bn 169 [ptr p 0],ab b9 36 [bw v]])
 |.ring o=>dj (bv:=Nat×Nat) (λ_=>True) (λe=>match e with|(q,c1)=>[cU p (Hy q) (bj 324 [ptr c1 0]) 0 0 (gJ X),jP q X.be o,ab c1 169 [ptr p 0]])
 |.ig w o l=>dj (bv:=XC) (λ_=>True) (λe=>match e with|(q,c1,bn,b9,a,c,ce,s)=>[cU p (yH q) (bj 192 [ptr c1 0,ptr bn 0,ptr b9 0]) 0 0 (gJ X),ih q (X.hK w) o,ab c1 237 [yH q],ab bn 169 [ptr p 0],ab b9 243 [.slice a (l.length+1) c],kB X B.bV a c (s::l) ce])
 |.mY o l=>dj (bv:=XC) (λ_=>True) (λe=>match e with|(q,c1,bn,b9,a,c,ce,s)=>[cU p (yI q) (bj 192 [ptr c1 0,ptr bn 0,ptr b9 0]) 0 0 (gJ X),jc q X.hf B.ed o,ab c1 237 [yI q],ab bn 169 [ptr p 0],ab b9 243 [.slice a (l.length+1) c],kB X B.bV a c (s::l) ce])
 |.rs w o=>dj (bv:=Nat×Nat×Nat×Nat) (λ_=>True) (λe=>match e with|(q,c1,bn,b9)=>[cU p (Hy q) (bj 141 [ptr c1 0,ptr bn 0,ptr b9 0]) 0 0 (gJ X),jP q X.be o,ab c1 96 [ptr X.c 0],ab bn 169 [ptr p 0],ab b9 3 [af w]])
 |.lD w o=>dj (bv:=Nat×Nat×Nat×Nat×Nat) (λ_=>True) (λe=>match e with|(q,en,c1,bn,b9)=>[cU p (yI q) (bj 142 [ptr en 0,ptr bn 0,ptr c1 0,ptr b9 0]) 0 0 (gJ X),jc q X.hf B.ed o,ab en 241 [ptr q 0],ab c1 96 [ptr X.c 0],ab bn 169 [ptr p 0],ab b9 3 [af w]])
 |.up w v o=>dj (bv:=Nat×Nat×Nat×Nat×hJ) (λe=>e.2.2.2.2.value=v) (λe=>match e with|(q,z,en,bn,g)=>[cU p (Hy q) (bj 145 [ptr bn 0,ptr en 0]) 0 0 (gJ X),jP q X.be o,jc z X.hf B.ed g,ab en 241 [ptr z 0],ab bn 169 [ptr p 0]])
 |.o9 o=>dj (bv:=Nat×Nat×Nat) (λ_=>True) (λe=>match e with|(q,c1,bn)=>[cU p (Hy q) (bj 126 [ptr c1 0,ptr bn 0]) 0 0 (gJ X),jP q X.be o,ab c1 169 [ptr p 0],ab bn 232 [ptr q 0]])
def DM(out val:Int):aq:=dj (bv:=Value×Value) (λ_=>True) (λe=>[cU p e.1 e.2 out val (gJ X)])
def gV(c:gC):aq:=if c.out=0 then kC X B p c.ph else DM X p c.out c.val
def sf{X:kQ}{B:fL}{p:Nat}{ph:tx}{v:Int}{M D:List aq}(h:∀h,Sat M h->Sat (kC X B p ph::D) h):∀h,Sat M h->Sat (gV X B p ⟨ph,0,v⟩::D) h:=by
 unfold gV;rw[bd (show((⟨ph,0,v⟩:gC).out=0)from rfl)];exact h
def A5{X:kQ}{B:fL}{p:Nat}{ph:tx}{out v:Int}{M D:List aq}(aK:out≠0)(x y:Value)(h:∀h,Sat M h->Sat (cU p x y out v (gJ X)::D) h):∀h,Sat M h->Sat (gV X B p ⟨ph,out,v⟩::D) h:=by
 unfold gV;rw[a8 (show¬((⟨ph,out,v⟩:gC).out=0)from aK)];exact cF (x,y) trivial h
def apt(aM:0<B.bV):ad aa 270 [ptr p 0] (cU p x y 0 0 (gJ X)::sg) (aH eu (kC X B p (.ring (kf 3 0))::sg)):=by
 refine aw Tryz.func270 λF D=>?_;refine bb ?_;refine wn λar=>?_;refine bb ?_;refine hU [10,13] [10] ((0,.bI)::(1,.bI)::(2,.bI)::XD) [fS X B,cU p x y 0 0 (gJ X),ab ar 169 [ptr p 0]] mixed gB ?_;refine c0 ?_;refine br (apc X.be X.m B.b B.bV aM) ?_;refine Nv ?_;intro q;refine aT (uN p 232 475 (gJ X) (ptr q 0) _ _ _ rfl 0 0 (jP q X.be (kf 3 0)) (A0 q X.be (kf 3 0))) ?_;refine b6 ?_;exact aX ⟨rfl,rfl⟩ (cF (q,ar) trivial (au))
def apu(B:fL)(p:Nat)(x y:Value)(c1:Nat):ad aa 324 [ptr c1 0] [cU p x y 0 0 (gJ X),ab c1 169 [ptr p 0]] (aH eu [cU p x y 1 0 (gJ X)]):=by
 refine aw Tryz.func324 λF D=>?_;refine bK ?_;refine aT (mq p (gJ X) x y 0 0 1 0) ?_;exact pT
def XE(J:B.ed<=65536)(v:Int):ad aa 266 [ptr p 0,bw v] (cU p x y 0 0 (gJ X)::sg) (aH eu (kC X B p (.enter (k4 false v) v)::sg)):=by
 refine aw Tryz.func266 λF D=>?_;refine nY ?_;intro U Z;refine b6 ?_;refine il [8,9,10] [9] wl [fS X B,cU p x y 0 0 (gJ X),ab U 169 [ptr p 0],ab Z 36 [bw v]] ?_;refine bQ ?_;refine fe ?_ ?_
 . refine br (Xp X.hf X.m B.ed B.na J v) ?_
   refine ny ?_;intro q;refine aG ?_;refine wn λaO=>?_;exact XF
 . refine wn λaO=>?_
   refine aG ?_;refine br (Xp X.hf X.m B.ed B.na J v) ?_;refine ny ?_;intro q;exact XF
def apv(J:B.ed<=65536)(aM:0<B.bV)(v:Int)(q d c1 bn b9:Nat)(o:ie):ad aa 268 yn (cU p x y 0 0 (gJ X)::ih q d o::ab c1 238 [ptr q 0]::XG) XH:=by
 refine aw Tryz.func268 λF D=>?_;refine bK ?_;refine aT (W8 q d o) ?_;exact XI
def apw(J:B.ed<=65536)(aM:0<B.bV)(v:Int)(q d c1 bn b9:Nat)(o:hJ):ad aa 321 yn (cU p x y 0 0 (gJ X)::jc q d B.ed o::ab c1 241 [ptr q 0]::XG) XH:=by
 refine aw Tryz.func321 λF D=>?_;refine bK ?_;refine aT (Ng q d B.ed o) ?_;exact XI
def apx(O:w<B.bV)(v:Int):ad aa 218 [ptr X.c 0,af w,bw v] jR (λu H=>∃p,u=ptr p 0/\H=(kC X B p (.push w (mX 0 v) v)::jR)):=by
 refine aw Tryz.func218 λF D=>?_;refine bb ?_;refine wn λaU=>?_;refine cq ?_;refine wn λb=>?_;refine wn λbY=>?_;refine cq ?_;refine cP ?_;refine fW ?_;refine cP ?_;refine cq ?_;refine il [8,9,10] [9] wl [fS X B,eM X B,ab aU 36 [bw v]] ?_;refine bB ?_;refine jF rfl .none rfl (fI rfl rfl O) (au) ?_;refine jF rfl .none rfl (gz rfl (XB O)) (au) ?_;refine aG ?_;refine fe ?_ ?_
 . refine br (Xm (X.hK w) v) ?_
   refine ny ?_;intro q;refine aG ?_;refine wn λY=>?_;exact XJ
 . refine wn λY=>?_
   refine aG ?_;refine br (Xm (X.hK w) v) ?_;refine ny ?_;intro q;exact XJ
def apy(J:B.ed<=65536)(v:Int):ad aa 218 [ptr X.c 0,af (-1),bw v] jR (λu H=>∃p,u=ptr p 0/\H=(kC X B p (.enter (k4 false v) v)::jR)):=by
 refine aw Tryz.func218 λF D=>?_;refine bb ?_;refine wn λaU=>?_;refine cq ?_;refine wn λb=>?_;refine wn λbY=>?_;refine cq ?_;refine aB rfl (fC (c:=true) ry (yJ rfl rfl)) ?_;refine oz ?_;refine aT (XE X B b _ _ J v) ?_;refine c0 ?_;exact uM
def Nw(O:w<B.bV):ad aa 123 [ptr X.c 0,af w] jR (λu H=>∃p,u=.tuple #[ptr p 0,.bool true]/\H=(cU p .nilIface .nilFunc 0 0 (gJ X)::jR)):=by
 refine aw Tryz.func123 λF D=>?_;refine c8 ?_;refine wn λc2=>?_;refine nI ?_;refine fW ?_;refine cP ?_;refine gg ?_;refine bK ?_;exact uM
def apz(O:w<B.bV):ad aa 78 [ptr X.c 0,af w] jR (λu H=>∃p,u=ptr p 0/\H=(kC X B p (.o9 (kf 2 w))::jR)):=by
 refine aw Tryz.func78 λF D=>?_;refine cv ?_;refine br (Nw X B w O) ?_;refine lZ ?_;intro p;refine b6 ?_;refine wn λaU=>?_;refine bQ ?_;refine cP ?_;refine dC ?_;refine br (apb X.be X.m B.b B.bV w O) ?_;refine ny ?_;intro q;refine wn λbY=>?_;refine bK ?_;refine cu [] [6,201] [ab aU 169 [ptr p 0],ab bY 232 [ptr q 0]] ?_;refine bK ?_;refine go_v rfl .none rfl (jt Tryz.underlying232 rfl rfl) ?_;refine aG ?_;refine aT (uN p 232 475 (gJ X) (ptr q 0) _ _ _ rfl 0 0 (jP q X.be (kf 2 w)) (A0 q X.be (kf 2 w))) ?_;refine c0 ?_;exact aX ⟨_,rfl,rfl⟩ (cF (q,aU,bY) trivial (au))
def apA(B:fL)(p:Nat)(x y:Value)(c1 bn q:Nat)(o:hL):ad aa 126 [ptr c1 0,ptr bn 0] [cU p x y 0 0 (gJ X),jP q X.be o,ab c1 169 [ptr p 0],ab bn 232 [ptr q 0]] (aH eu [cU p x y o.out 0 (gJ X)]):=by
 refine aw Tryz.func126 λF D=>?_;refine cu [4] [103,1,202] [ab c1 169 [ptr p 0],ab bn 232 [ptr q 0]] ?_;refine bK ?_;refine aT (aoZ q X.be o) ?_;refine aG ?_;refine aT (mq p (gJ X) x y 0 0 o.out 0) ?_;exact vY
def apB(O:w<B.bV):ad aa 86 [ptr X.c 0,af w] jR (λu H=>∃p,u=ptr p 0/\H=(kC X B p (.rs w (kf 0 w))::jR)):=by
 refine aw Tryz.func86 λF D=>?_;refine nY ?_;intro U Z;refine cq ?_;refine br (Nw X B w O) ?_;refine lZ ?_;intro p;refine b6 ?_;refine wn λaU=>?_;refine bQ ?_;refine cP ?_;refine bi ?_;refine hU [8,11] [8] XK [fS X B,ab U 96 [ptr X.c 0],ab Z 3 [af w],ab aU 169 [ptr p 0]] mixed gB ?_;refine cv ?_;refine br (ao9 X.be X.m B.b B.bV w O) ?_;refine Nv ?_;intro q;refine aT (uN p 232 475 (gJ X) (ptr q 0) _ _ _ rfl 0 0 (jP q X.be (kf 0 w)) (A0 q X.be (kf 0 w))) ?_;refine c0 ?_;exact aX ⟨_,rfl,rfl⟩ (cF (q,U,aU,Z) trivial (au))
def apC(J:B.ed<=65536)(c1 bn b9 w:Nat):ad aa 141 yn (cU p x y 0 0 (gJ X)::XL) (aH eu (kC X B p (.lD w (k4 true 0))::sg)):=by
 refine aw Tryz.func141 λF D=>?_;refine bi ?_;refine br (Xq X.hf X.m B.ed B.na J) ?_;refine ny ?_;intro q;refine wn λZ=>?_;refine b6 ?_;refine cu [] [6,201] [ab bn 169 [ptr p 0],ab Z 241 [ptr q 0]] ?_;refine bK ?_;refine go_v rfl .none rfl (jt Tryz.underlying241 rfl rfl) ?_;refine aG ?_;refine XM ?_;exact aX ⟨rfl,rfl⟩ (cF (q,Z,c1,bn,b9) trivial (au))
def apD(O:w<B.bV)(z en c1 bn b9:Nat)(g:hJ):ad aa 142 [ptr en 0,ptr bn 0,ptr c1 0,ptr b9 0] (cU p x y 0 0 (gJ X)::jc z X.hf B.ed g::ab en 241 [ptr z 0]::XL) (aH eu (gV X B p (if g.out=1 then⟨.up w g.value (kf 1 w),0,0⟩else⟨.lD w g,4,0⟩)::sg)):=by
 refine aw Tryz.func142 λF D=>?_;refine bK ?_;refine aT (Ng z X.hf B.ed g) ?_;refine b6 ?_;refine cg (λW=>?_) (λW=>?_)
 . refine bB ?_
   refine aT (mq p (gJ X) x y 0 0 4 0) ?_;refine bB ?_;exact aX dI (by rw[a8 W];exact A5 (by decide) x y (au))
 . refine bb ?_
   refine hU [8,11] [8] XK [fS X B,ab c1 96 [ptr X.c 0],ab b9 3 [af w],ab bn 169 [ptr p 0]] mixed gB ?_;refine cv ?_;refine br (apa X.be X.m B.b B.bV w O) ?_;refine Nv ?_;intro q;refine aT (uN p 232 475 (gJ X) (ptr q 0) _ _ _ rfl 0 0 (jP q X.be (kf 1 w)) (A0 q X.be (kf 1 w))) ?_;refine b6 ?_;exact aX dI (by rw[bd W];exact sf (cF (q,z,en,bn,g) rfl (au)))
def apE(z en bn:Nat)(g:hJ):ad aa 145 [ptr bn 0,ptr en 0] [cU p x y 0 0 (gJ X),jc z X.hf B.ed g,ab en 241 [ptr z 0],ab bn 169 [ptr p 0]] (aH eu [cU p x y 1 g.value (gJ X)]):=by
 refine aw Tryz.func145 λF D=>?_;refine cu [4] [103,1,202] [ab bn 169 [ptr p 0],ab en 241 [ptr z 0]] ?_;refine bK ?_;refine aT (Xa z X.hf B.ed g) ?_;refine aG ?_;refine aT (mq p (gJ X) x y 0 0 1 g.value) ?_;exact vY
end
abbrev pU(bz dh:Nat):Value:=bj 129 [ptr bz 0,ptr dh 0]
abbrev uO(bz:Nat):Value:=bj 131 [ptr bz 0]
abbrev sh(bz dh:Nat):Value:=bj 134 [ptr bz 0,ptr dh 0]
def Hz{P:Program}{f:FuncId}{args:List Value}{M:List aq}{post:Value->List aq->Prop}{Q:Prop}(g:∀D h,Sat (M++D) h->Q)(k:Q->ad P f args M post):ad P f args M post:=λF D w s=>k (g D _ s.e4) F D w s
section
variable{X:kQ}{n:Nat}{a:Option Addr}{c:Nat}{l:List Src}{ce:List Value}{w bz dh:Nat}
section
variable{D:List aq}
def apF:∀h,Sat (kB X n a c (.pop w::l) ce::D) h->∃bz dh d,ce=pU bz dh::d/\w<n:=λh s=>by
 obtain⟨_,_,_,_,⟨_,av,aj⟩,_⟩:=s;obtain⟨v,d,rfl⟩:∃v d,ce=v::d:=HA;obtain⟨O,bz,dh,rfl,_⟩:=aj 0 _ _ rfl rfl;exact⟨bz,dh,d,rfl,O⟩
def apG:∀h,Sat (kB X n a c (.take::l) ce::D) h->∃bz d,ce=uO bz::d:=λh s=>by
 obtain⟨_,_,_,_,⟨_,av,aj⟩,_⟩:=s;obtain⟨v,d,rfl⟩:∃v d,ce=v::d:=HA;obtain⟨bz,rfl,_⟩:=aj 0 _ _ rfl rfl;exact⟨bz,d,rfl⟩
def apH:∀h,Sat (kB X n a c (.ms w::l) ce::D) h->∃bz dh d,ce=sh bz dh::d/\w<n:=λh s=>by
 obtain⟨_,_,_,_,⟨_,av,aj⟩,_⟩:=s;obtain⟨v,d,rfl⟩:∃v d,ce=v::d:=HA;obtain⟨O,bz,dh,rfl,_⟩:=aj 0 _ _ rfl rfl;exact⟨bz,dh,d,rfl,O⟩
instance:h7 bz 0 (kB X n a c (.pop w::l) (pU bz dh::ce)) (ptr X.c 0):=⟨fun⟨_,_,aj⟩=>by
 obtain⟨_,_,_,e,aN,_⟩:=aj 0 _ _ rfl rfl;cases e;exact⟨_,_,_,aN,rfl⟩⟩
instance:h7 dh 0 (kB X n a c (.pop w::l) (pU bz dh::ce)) (af w):=⟨fun⟨_,_,aj⟩=>by
 obtain⟨_,_,_,e,_,bu⟩:=aj 0 _ _ rfl rfl;cases e;exact⟨_,_,_,bu,rfl⟩⟩
instance:h7 bz 0 (kB X n a c (.ms w::l) (sh bz dh::ce)) (ptr X.c 0):=⟨fun⟨_,_,aj⟩=>by
 obtain⟨_,_,_,e,aN,_⟩:=aj 0 _ _ rfl rfl;cases e;exact⟨_,_,_,aN,rfl⟩⟩
instance:h7 dh 0 (kB X n a c (.ms w::l) (sh bz dh::ce)) (af w):=⟨fun⟨_,_,aj⟩=>by
 obtain⟨_,_,_,e,_,bu⟩:=aj 0 _ _ rfl rfl;cases e;exact⟨_,_,_,bu,rfl⟩⟩
instance:h7 bz 0 (kB X n a c (.take::l) (uO bz::ce)) (ptr X.c 0):=⟨fun⟨_,_,aj⟩=>by
 obtain⟨_,e,aN⟩:=aj 0 _ _ rfl rfl;cases e;exact⟨_,_,_,aN,rfl⟩⟩
def apI{s:Src}{D:List aq}:∀h,Sat (kB X n a c (s::l) ce::D) h->Sat (kB X n XN (c -1) l ce.tail::D) h:=λ_=>Sat.head λg cl=>by
 obtain⟨h1,av,aj⟩:=cl;obtain⟨v,d,rfl⟩:∃v d,ce=v::d:=HA;simp only[iE]at av;exact⟨iD.fQ (x:=v) (xs:=d) h1 (λe=>rY ae),by simpa using av,λi s v h2 aN=>aj (i+1) s v (by simpa using h2) (by simpa using aN)⟩
end
end
def apJ{P:Program}{F:World}{n:Nat}{en:Code}{I:eT}{M r:List aq}{Q:Exit->Act->World->Prop}{X:kQ}{m:Nat}{a:Option Addr}{c:Nat}{s:Src}{l:List Src}{ce:List Value}(h:hI (kB X m a c (s::l) ce) M r)(k:G P F n en I (kB X m XN (c -1) l ce.tail::r) Q):G P F n en I M Q:=nu (λ_ s=>apI _ (h.to s)) k
def Nx{A B C:aq}{D:List aq}(f:∀h1 h2,mi h1 h2->A h1->B h2->C (join h1 h2)):∀h,Sat (A::B::D) h->Sat (C::D) h:=λh ⟨h1,h2,d,e,aW,aN,bu,p,y,aA,aE⟩=>by
 subst y;have t:=yw.1 d.symm;exact⟨join h1 aN,bu,yw.2 ⟨t.2.symm,p⟩,by rw[e,join_assoc],f h1 aN t.1.symm aW aA,aE⟩
def Ny{h1 h2:eA}(d:mi h1 h2){b:Nat}{o:Obj}(e:h2 b=some o):join h1 h2 b=some o:=by rw[join_comm d];exact join_some e
def DL.mono{h k:eA}{X:kQ}{n:Nat}{s:Src}{v:Value}(f:∀b o,h b=some o->k b=some o)(o:DL h X n s v):DL k X n s v:=by
 cases s with
 |pop w=>obtain⟨O,bz,dh,h1,h2,aN⟩:=o;exact⟨O,bz,dh,h1,f _ _ h2,f _ _ aN⟩
 |take=>obtain⟨bz,h1,h2⟩:=o;exact⟨bz,h1,f _ _ h2⟩
 |ms w=>obtain⟨O,bz,dh,h1,h2,aN⟩:=o;exact⟨O,bz,dh,h1,f _ _ h2,f _ _ aN⟩
def DN(X:kQ)(n:Nat)(l:List Src)(ce:List Value):aq:=λh=>ce.length=l.length/\∀(i:Nat) (s:Src) (v:Value),l[i]?=some s->ce[i]?=some v->DL h X n s v
section
variable{X:kQ}{n:Nat}{a:Option Addr}{c:Nat}{l:List Src}{ce:List Value}{w bz dh:Nat}{D:List aq}
def apK(O:w<n):∀h,Sat (ab bz 96 [ptr X.c 0]::ab dh 3 [af w]::D) h->Sat (DN X n [.pop w,.take] [pU bz dh,uO bz]::D) h:=Nx λh1 h2 d fS cd=>⟨rfl,λi s v aj Y=>by
 match i with
 |0=>cases aj;cases Y;exact⟨O,bz,dh,rfl,join_some fS,Ny d cd⟩
 |1=>cases aj;cases Y;exact⟨bz,rfl,join_some fS⟩
 |i+2=>cases aj⟩
def apL{y gT:Nat}(ag:y<n)(bh:l[0]?=some (.pop w))(h1:ce[0]?=some (pU bz dh)):∀h,Sat (DN X n l ce::ab gT 3 [af y]::D) h->Sat (DN X n (l++[.ms y]) (ce++[sh bz gT])::D) h:=Nx λW Z d fS cd=>⟨by simp[fS.1],λi s v aj Y=>by
 obtain⟨av,k⟩:=fS;rcases r7 i l.length with ak|ak
 . rw[k1 ak]at aj;rw[k1 ae]at Y
   exact(k i s v aj Y).mono λb o e=>join_some e
 . obtain⟨_,a,c,e,iR,_⟩:=k 0 _ _ bh h1
   cases e;obtain rfl:i=l.length:=by
    have:=(dc.1 aj).1;simp at this;omega
   rw[pH (ei _),x9]at aj;rw[<-av,pH (ei _),x9]at Y;cases aj;cases Y;exact⟨ag,bz,gT,rfl,join_some iR,Ny d cd⟩⟩
def apM{e:TypeId}{k:Nat}(hk:k=l.length):∀h,Sat (own (.slice a k c) e 1 k ce::DN X n l ce::D) h->Sat (kB X n a c l ce::D) h:=by
 subst hk;exact Nx λW Z d fS cd=>⟨(iD.own fS).imp λb o e=>join_some e,cd.1,λi s v aj Y=>(cd.2 i s v aj Y).mono λb o e=>Ny d e⟩
end
section
variable(X:kQ)(B:fL)(p:Nat)(x y:Value)(a:Option Addr)(c w:Nat)
def XO:∀(k d:Nat) (l:List Nat) (y:Nat),y∈oa k d l->y∈l
 |0,_,_,_,h=>by cases h
 |
  k+1,d,l,y,h=>by
  rw[oa]at h;split at h
  . cases h
  . next x ah=>
     rcases ku.1 h with rfl|h
     . exact js ah
     . exact apN (XO _ _ _ _ h)
def apO{d n self y:Nat}(h:y∈order d n self):y<n:=by
 have:=XO _ _ _ _ h;exact pV.1 (oM.1 this).1
def XP:∀(k d:Nat) (l:List Nat),(oa k d l).length<=k
 |0,_,_=>ei _
 |
  k+1,d,l=>by
  rw[oa];split
  . simp
  . have:=XP k (d/(k+1)) (l.eraseIdx (d%(k+1)));simp;omega
abbrev wK(l:List Nat):List Src:=.pop w::.take::l.map .ms
def apP{w k y:Nat}{l:List Nat}(h:l[k]?=some y):wK w (l.take (k+1))=wK w (l.take k)++[.ms y]:=by
 obtain⟨hk,rfl⟩:=dc.1 h;rw[wK,wK,nv hk,o1];rfl
def apQ(O:w<B.bV)(bz dh:Nat)(a2:aq)[h7 bz 0 a2 (ptr X.c 0)][h7 dh 0 a2 (af w)]:ad aa 129 [ptr bz 0,ptr dh 0] [a2,fS X B,eM X B] (λu H=>∃q,u=yH q/\H=[ih q (X.hK w) (mX 4 0),a2,fS X B,eM X B]):=by
 refine aw Tryz.func129 λF D=>?_;refine XQ ?_;refine br (apd (X.hK w)) ?_;exact XR
def apR(O:w<B.bV)(bz dh:Nat)(a2:aq)[h7 bz 0 a2 (ptr X.c 0)][h7 dh 0 a2 (af w)]:ad aa 134 [ptr bz 0,ptr dh 0] [a2,fS X B,eM X B] (λu H=>∃q,u=yH q/\H=[ih q (X.hK w) (mX 10 0),a2,fS X B,eM X B]):=by
 refine aw Tryz.func134 λF D=>?_;refine XQ ?_;refine br (ape (X.hK w)) ?_;exact XR
def apS(J:B.ed<=65536)(bz:Nat)(a2:aq)[h7 bz 0 a2 (ptr X.c 0)]:ad aa 131 [ptr bz 0] (a2::sg) (λu H=>∃q,u=yI q/\H=(jc q X.hf B.ed (k4 true 0)::a2::sg)):=by
 refine aw Tryz.func131 λF D=>?_;refine c0 ?_;refine br (Xq X.hf X.m B.ed B.na J) ?_;refine ny ?_;intro q;refine aB rfl (jt Tryz.underlying241 rfl rfl) ?_;refine bB ?_;exact aX ⟨q,rfl,rfl⟩
def apT:ad aa 136 [ptr p 0,.slice a (([]:List Src)).length c] (cU p x y 0 0 (gJ X)::kB X B.bV a c (([]:List Src)) []::jR) (aH eu (gV X B p (nB (([]:List Src)))::jR)):=by
 refine aw Tryz.func136 λF D=>?_;refine nY ?_;intro U Z;refine cq ?_;refine aB rfl Nz ?_;refine bQ ?_;refine aT (mq p (gJ X) x y 0 0 4 0) ?_;refine bB ?_;exact aX ⟨rfl,rfl⟩ (A5 bJ x y (au))
def apU(O:w<B.bV)(bz dh:Nat)(l:List Src)(d:List Value):ad aa 136 [ptr p 0,.slice a (.pop w::l).length c] (cU p x y 0 0 (gJ X)::kB X B.bV a c (.pop w::l) (pU bz dh::d)::jR) (aH eu (gV X B p (nB (.pop w::l))::jR)):=by
 refine NA ?_;intro F D U Z;refine aB rfl (gz rfl (show(pU bz dh::d)[0*1]?=some (pU bz dh)from rfl)) ?_;refine br (apQ X B w O bz dh (kB X B.bV a c (.pop w::l) (pU bz dh::d))) ?_;refine NB ?_;intro q aO;refine aT (uN p 238 477 (gJ X) (ptr q 0) _ _ _ rfl 0 0 (ih q (X.hK w) (mX 4 0)) (Dy q (X.hK w) (mX 4 0))) ?_;refine b6 ?_;exact aX ⟨rfl,rfl⟩ (sf (cF (q,aO,U,Z,a,c,pU bz dh::d,.pop w) trivial (au)))
def apV(J:B.ed<=65536)(bz:Nat)(l:List Src)(d:List Value):ad aa 136 [ptr p 0,.slice a (.take::l).length c] (cU p x y 0 0 (gJ X)::kB X B.bV a c (.take::l) (uO bz::d)::jR) (aH eu (gV X B p (nB (.take::l))::jR)):=by
 refine NA ?_;intro F D U Z;refine aB rfl (gz rfl (show(uO bz::d)[0*1]?=some (uO bz)from rfl)) ?_;refine br (apS X B J bz (kB X B.bV a c (.take::l) (uO bz::d))) ?_;refine NB ?_;intro q aO;refine XM ?_;exact aX ⟨rfl,rfl⟩ (sf (cF (q,aO,U,Z,a,c,uO bz::d,.take) trivial (au)))
def apW(O:w<B.bV)(bz dh:Nat)(l:List Src)(d:List Value):ad aa 136 [ptr p 0,.slice a (.ms w::l).length c] (cU p x y 0 0 (gJ X)::kB X B.bV a c (.ms w::l) (sh bz dh::d)::jR) (aH eu (gV X B p (nB (.ms w::l))::jR)):=by
 refine NA ?_;intro F D U Z;refine aB rfl (gz rfl (show(sh bz dh::d)[0*1]?=some (sh bz dh)from rfl)) ?_;refine br (apR X B w O bz dh (kB X B.bV a c (.ms w::l) (sh bz dh::d))) ?_;refine NB ?_;intro q aO;refine aT (uN p 238 477 (gJ X) (ptr q 0) _ _ _ rfl 0 0 (ih q (X.hK w) (mX 10 0)) (Dy q (X.hK w) (mX 10 0))) ?_;refine b6 ?_;exact aX ⟨rfl,rfl⟩ (sf (cF (q,aO,U,Z,a,c,sh bz dh::d,.ms w) trivial (au)))
def XS(J:B.ed<=65536)(a:Option Addr)(c:Nat)(l:List Src)(ce:List Value):ad aa 136 [ptr p 0,.slice a l.length c] (cU p x y 0 0 (gJ X)::kB X B.bV a c l ce::jR) (aH eu (gV X B p (nB l)::jR)):=by
 cases l with
 |nil=>refine Hz (λD h s=>show ce=[]from by obtain⟨_,_,_,_,⟨_,av,_⟩,_⟩:=Sat.drop s;exact rY av) ?_;rintro rfl;exact apT X B p x y a c
 |
  cons s l=>
  cases s with
  |pop w=>refine Hz (λD h s=>apF h uI) ?_;rintro⟨bz,dh,d,rfl,O⟩;exact apU X B p x y a c w O bz dh l d
  |take=>refine Hz (λD h s=>apG h uI) ?_;rintro⟨bz,d,rfl⟩;exact apV X B p x y a c J bz l d
  |ms w=>refine Hz (λD h s=>apH h uI) ?_;rintro⟨bz,dh,d,rfl,O⟩;exact apW X B p x y a c w O bz dh l d
def apX(J:B.ed<=65536)(a:Option Addr)(c:Nat)(l:List Src)(ce:List Value)(ec:Src)(w q c1 bn b9:Nat)(o:ie):ad aa 192 yn (cU p x y 0 0 (gJ X)::ih q (X.hK w) o::ab c1 237 [yH q]::XT) (aH eu (gV X B p (if o.out=1 then⟨.ig w o l,1,o.value⟩else nB l)::jR)):=by
 refine aw Tryz.func192 λF D=>?_;refine bK ?_;refine ci rfl (wL rfl rfl (W8 q (X.hK w) o) bF) ?_;refine hb ?_;refine o5 ?_;refine cg (λW=>?_) (λW=>?_)
 . refine aG ?_
   refine cu [4] [103,1,202] [ab c1 237 [yH q],ab bn 169 [ptr p 0],ih q (X.hK w) o] ?_;refine bK ?_;refine go_c rfl .none rfl (wL rfl rfl (ao0 q (X.hK w) o) bF) ?_;exact XU
 . exact XV
def apY(J:B.ed<=65536)(a:Option Addr)(c:Nat)(l:List Src)(ce:List Value)(ec:Src)(w q c1 bn b9:Nat)(o:hJ):ad aa 192 yn (cU p x y 0 0 (gJ X)::jc q X.hf B.ed o::ab c1 237 [yI q]::XT) (aH eu (gV X B p (if o.out=1 then⟨.mY o l,1,o.value⟩else nB l)::jR)):=by
 refine aw Tryz.func192 λF D=>?_;refine bK ?_;refine ci rfl (wL rfl rfl (Ng q X.hf B.ed o) bF) ?_;refine hb ?_;refine o5 ?_;refine cg (λW=>?_) (λW=>?_)
 . refine aG ?_
   refine cu [4] [103,1,202] [ab c1 237 [yI q],ab bn 169 [ptr p 0],jc q X.hf B.ed o] ?_;refine bK ?_;refine go_c rfl .none rfl (wL rfl rfl (Xa q X.hf B.ed o) bF) ?_;exact XU
 . exact XV
def apZ(J:B.ed<=65536)(f:B.bV<=8)(w:Nat)(O:w<B.bV)(d:Nat)(aL:d<18446744073709551616):ad aa 82 [ptr X.c 0,af w,bw d] jR (λu H=>∃p,u=ptr p 0/\H=(gV X B p (yz B w d)::jR)):=by
 refine aw Tryz.func82 λF D=>?_;refine bb ?_;refine wn λZ=>?_;refine wn λaO=>?_;refine cq ?_;refine br (Nw X B w O) ?_;refine lZ ?_;intro p;refine c0 ?_;refine cP ?_;refine cv ?_;refine wn λi=>?_;refine bB ?_;refine hU [7] [7] [(0,.loc),(1,.loc),(2,.loc),(3,.loc),(4,.loc),(5,.loc),(6,.loc),(9,.bI),(7,.c5),(8,.loc)] [fS X B,ab Z 96 [ptr X.c 0],ab aO 3 [af w]] mixed gB ?_;refine bQ ?_;refine br (ap0 d B.bV w aL f O) ?_;rintro _ _ ⟨a,c,rfl,rfl⟩;refine et ?_;refine bB ?_;refine gG (bv:=Nat×List Value×Option Addr×Nat) (λe=>e.1<=(order d B.bV w).length/\e.2.1[0]?=some (pU Z aO)) (λe=>[(33,af e.1),(32,af (order d B.bV w).length),(31,.slice a (order d B.bV w).length c),(9,.slice e.2.2.1 (e.1+2) e.2.2.2),(3,ptr Z 0),(7,ptr p 0)]) (λe=>own (.slice e.2.2.1 (e.1+2) e.2.2.2) 240 1 (e.1+2) e.2.1::DN X B.bV (wK w ((order d B.bV w).take e.1)) e.2.1::jH a c (order d B.bV w)::cU p .nilIface .nilFunc 0 0 (gJ X)::fS X B::cd X B::iR X B::eM X B::D) (λe=>(order d B.bV w).length -e.1) (0,[pU Z aO,uO Z],some ⟨i,0,none⟩,2) (⟨eX _,rfl⟩) dy (λh s=>ap1 ry AG h (Sat.tail (apK O) ((au) h s))) ?_;rintro⟨k,ce,cD,bn⟩ ⟨hk,bh⟩;replace hk:k<=(order d B.bV w).length:=hk;replace bh:ce[0]?=some (pU Z aO):=bh;have j:(order d B.bV w).length<=7:=nb (XP _ _ _) ae;dsimp only;refine bi ?_;refine cg (λW=>?_) (λW=>?_)
 . obtain⟨y,ag⟩:∃y,(order d B.bV w)[k]?=some y:=⟨_,cz ae⟩
   refine bi ?_;refine aB rfl (fI rfl rfl (show k<(order d B.bV w).length by omega)) ?_;refine aB rfl (gz rfl (XW ag)) ?_;refine wn λb=>?_;refine bi ?_;refine wn λn=>?_;refine gQ λl m=>?_;refine bQ ?_;refine fD (k+1,ce++[sh Z b],l,m) ⟨show k+1<=(order d B.bV w).length by omega,by show(ce++[sh Z b])[0]?=some (pU Z aO);rw[k1 (dc.1 bh).1];exact bh⟩ (show(order d B.bV w).length -(k+1)<(order d B.bV w).length -k by omega) dy (λh s=>Sat.tail (λg t=>by dsimp only;rw[apP ag];exact apL (w:=w) (apO (js ag)) rfl bh g t) ((au) h s))
 . refine bi ?_
   obtain rfl:k=(order d B.bV w).length:=ae;have g0:(wK w (order d B.bV w)).length=(order d B.bV w).length+2:=by simp[wK]
   rw[nw,<-g0];refine nu (apM rfl) ?_;refine b6 ?_;refine aT (XS X B p _ _ J cD bn (wK w (order d B.bV w)) ce) ?_;refine c8 ?_;exact aX AJ
end
end Go.Proofs.YtnnhpnccfnghdaaGreat.L
namespace Go.L.dA
open Go.L Go.L.Ring Go.L.dq
variable{b n:Nat}{L:List Int}
section
variable(B:fL){o:hJ}
def W1{o:ie}(h:iu L)(aK:qo o):qo (jb b n L o):=by
 obtain⟨cr,cD,a3,a4⟩:=aK;unfold jb;split
 . exact⟨cr,cD,a3,a4⟩
 . obtain⟨pc,out,v,t,l,fK⟩:=o
   unfold kA;split<;>(constructor<;>first|assumption|exact h.get _|(simp only;omega)|(simp only;split<;>omega)|exact⟨by simp,by simp⟩|(constructor<;>simp))
def W2{o:ie}(h:iu L)(aK:qo o):iu (mr b n L o):=by
 unfold mr;split
 . exact h
 . unfold kp
   split<;>(try split)<;>first|exact h|exact h.set _ _ aK.v|exact h.set _ _ (AY _)|exact h.set _ _ aK.b
def aoP{o:ie}:(mr b n L o).length=L.length:=by
 unfold mr;split
 . rfl
 . unfold kp;split<;>(try split)<;>first|rfl|exact gn
def M7(h:iu L)(aK:n9 o):n9 (iw b n L o):=by
 obtain⟨cr,cD,a3⟩:=aK;unfold iw;split
 . exact⟨cr,cD,a3⟩
 . obtain⟨k,ee,t,v,out⟩:=o
   unfold jO;split<;>(try split)<;>(try split)<;>(try split)<;>(constructor<;>first|assumption|exact h.get _|(simp only;omega)|(simp only;split<;>omega)|(simp only;split<;>first|exact h.get _|assumption))
def M8(h:iu L)(aK:n9 o):iu (n5 b n L o):=by
 unfold n5;split
 . exact h
 . unfold lC
   split<;>(try split)<;>first|exact h|exact h.set _ _ aK.v|exact h.set _ _ (AY _)
def aoQ:(n5 b n L o).length=L.length:=by
 unfold n5;split
 . rfl
 . unfold lC;split<;>(try split)<;>first|rfl|exact gn
def Hh{o:hL}(h:iu L):iu (qp b n L o):=by
 unfold qp;split
 . exact h
 . unfold wz;split<;>(try split)<;>first|exact h|exact h.set _ _ Hi
def aoR{o:hL}:(qp b n L o).length=L.length:=by
 unfold qp;split
 . rfl
 . unfold wz;split<;>(try split)<;>first|rfl|exact gn
def AZ:Src->Prop
 |.pop w=>w<B.bV
 |.take=>True
 |.ms w=>w<B.bV
def W3:tx->Prop
 |.push w o v=>w<B.bV/\qo o/\o.out=0/\ji v
 |.enter o v=>n9 o/\o.out=0/\ji v
 |.ring o=>o.k<=4/\o.w<B.bV/\o.out=0
 |.ig w o l=>w<B.bV/\qo o/\o.out=0/\∀s∈l,AZ B s
 |.mY o l=>n9 o/\o.out=0/\∀s∈l,AZ B s
 |.rs w o=>w<B.bV/\o.k=0/\o.w<B.bV/\o.out=0
 |.lD w o=>w<B.bV/\n9 o/\o.out=0
 |.up w _ o=>w<B.bV/\o.k=1/\o.w<B.bV/\o.out=0
 |.o9 o=>o.k=2/\o.w<B.bV/\o.out=0
def wE(c:gC):Prop:=c.out=0->W3 B c.ph/\c.val=0
end
def Hj{b n:Nat}{L:List Int}{o:hL}(hk:o.k<=2)(aK:o.out=0):(j4 b n L o).over=true:=by
 have e:j4 b n L o=wA b n L o:=by unfold j4 hL.over;rw[aK];rfl
 rw[e];unfold wA hL.over;obtain⟨k,M⟩:∃k,k=o.k:=⟨_,rfl⟩;rw[<-M]at hk⊢
 match k,hk with
 |0,_=>rfl
 |1,_=>rfl
 |2,_=>simp only;split<;>rfl
def yC:ji 0:=Hi
def M9{k:Nat}(hk:k<=13){v:Int}(Y:ji v):qo (mX k v):=⟨hk,Y,yC,yC⟩
def Na{ee:Bool}{v:Int}(Y:ji v):n9 (k4 ee v):=⟨eX _,yC,Y⟩
def Nb{B:fL}{l:List Src}(h:∀s∈l,AZ B s):wE B (nB l):=by
 cases l with
 |nil=>intro e;exact absurd (show(4:Int)=0 from e) bJ
 |
  cons s l=>
  have h1:=h s (.head _);have h2:∀s∈l,AZ B s:=λx ah=>h x (.tail _ ah);cases s with
  |pop w=>exact λ_=>⟨⟨h1,M9 bJ yC,rfl,h2⟩,rfl⟩
  |take=>exact λ_=>⟨⟨Na yC,rfl,h2⟩,rfl⟩
  |ms w=>exact λ_=>⟨⟨h1,M9 bJ yC,rfl,h2⟩,rfl⟩
def aoS{b n:Nat}{L:List Int}{o:hL}(hk:o.k<=4)(O:o.w<n)(T:(j4 b n L o).out=0):(j4 b n L o).k<=4/\(j4 b n L o).w<n:=by
 revert T;unfold j4;split
 . exact λ_=>⟨hk,O⟩
 . obtain⟨k,w,out⟩:=o
   replace hk:k<=4:=hk;replace O:w<n:=O;unfold wA AX;intro T
   match k,hk with
   |0,_=>exact⟨show(0:Nat)<=4 by decide,O⟩
   |1,_=>exact⟨show(1:Nat)<=4 by decide,O⟩
   |2,_=>exact⟨show(2:Nat)<=4 by decide,O⟩
   |
    3,_=>
    simp only at T⊢;split at T
    . rename_i ah;rw[bd ah];exact⟨ei _,O⟩
    . rename_i ah;rw[a8 ah];refine⟨show(3:Nat)<=4 by decide,?_⟩
      by_cases e:w+1=n
      . simp[e]at T
      . show w+1<n;omega
   |
    4,_=>
    simp only at T⊢;split at T
    . exact absurd (show(7:Int)=0 from T) bJ
    . rename_i ah;rw[a8 ah];refine⟨show(3:Nat)<=4 by decide,?_⟩
      by_cases e:w+1=n
      . simp[e]at T
      . show w+1<n;omega
def aoT{B:fL}{L:List Int}{c:gC}(aM:0<B.bV)(K:iu L)(a6:wE B c):wE B (lE B L c):=by
 obtain⟨ph,out,val⟩:=c;by_cases aK:out=0
 . subst aK
   obtain⟨V,Y⟩:=a6 rfl;have ay:lE B L uJ=(h0 B L uJ).2:=by unfold lE;rw[show(⟨ph,0,val⟩:gC).over=false from rfl];rfl
   rw[ay];have aE:W3 B (.ring (kf 3 0)):=⟨by decide,aM,rfl⟩;refine W4 ?_;intro iQ y;have a:∀{b n:Nat} {o:hL},¬(j4 b n L o).over=true->(j4 b n L o).out=0:=λh=>by simpa[hL.over]using h
   cases ph with
   |
    push w o v=>
    obtain⟨O,ak,T,d4⟩:=V;simp only[h0];split
    . split
      . exact λ_=>Nc
      . exact λ_=>⟨aE,rfl⟩
    . rename_i ah;exact λ_=>⟨⟨O,W1 K ak,iQ ah,d4⟩,rfl⟩
   |
    enter o v=>
    obtain⟨ak,T,d4⟩:=V;simp only[h0];split
    . split
      . exact λ_=>Nc
      . exact λ_=>⟨aE,rfl⟩
    . rename_i ah;exact λ_=>⟨⟨M7 K ak,y ah,d4⟩,rfl⟩
   |
    ring o=>
    obtain⟨hk,O,T⟩:=V;simp only[h0];split
    . intro e;exact absurd (show(1:Int)=0 from e) bJ
    . rename_i ah
      have:=aoS (b:=B.b) (L:=L) hk O (a ah);exact λ_=>⟨⟨this.1,this.2,a ah⟩,rfl⟩
   |
    ig w o l=>
    obtain⟨O,ak,T,av⟩:=V;simp only[h0];split
    . split
      . intro e;exact absurd (show(1:Int)=0 from e) bJ
      . exact Nb av
    . rename_i ah;exact λ_=>⟨⟨O,W1 K ak,iQ ah,av⟩,rfl⟩
   |
    mY o l=>
    obtain⟨ak,T,av⟩:=V;simp only[h0];split
    . split
      . intro e;exact absurd (show(1:Int)=0 from e) bJ
      . exact Nb av
    . rename_i ah;exact λ_=>⟨⟨M7 K ak,y ah,av⟩,rfl⟩
   |rs w o=>exact λ_=>⟨⟨V.1,Na yC,rfl⟩,rfl⟩
   |
    lD w o=>
    obtain⟨O,ak,T⟩:=V;simp only[h0];split
    . split
      . exact λ_=>⟨⟨O,rfl,O,rfl⟩,rfl⟩
      . intro e;exact absurd (show(4:Int)=0 from e) bJ
    . rename_i ah;exact λ_=>⟨⟨O,M7 K ak,y ah⟩,rfl⟩
   |up w v o=>intro e;exact absurd (show(1:Int)=0 from e) bJ
   |
    o9 o=>
    have:=Hj (b:=B.b) (n:=B.bV) (L:=L) (o:=o) (by have:=V.1;omega) V.2.2;intro e;rw[show(h0 B L ⟨.o9 o,0,val⟩).2.out=(j4 B.b B.bV L o).out from rfl]at e;simp[hL.over,e]at this
 . have ay:lE B L pa=pa:=by unfold lE;rw[bd (by simp[gC.over,aK])]
   rw[ay];exact a6
def aoU{B:fL}{L:List Int}{c:gC}(K:iu L)(a6:wE B c):iu (nC B L c):=by
 unfold nC;split
 . exact K
 . rename_i ah
   obtain⟨ph,out,val⟩:=c;obtain⟨V,_⟩:=a6 (by simpa[gC.over]using ah);cases ph with
   |push w o v=>exact W2 K V.2.1
   |enter o v=>exact M8 K V.1
   |ring o=>exact Hh K
   |ig w o l=>exact W2 K V.2.1
   |mY o l=>exact M8 K V.1
   |rs w o=>exact Hh K
   |lD w o=>exact M8 K V.2.1
   |up w v o=>exact Hh K
   |o9 o=>exact Hh K
def aoV{B:fL}{L:List Int}{c:gC}:(nC B L c).length=L.length:=by
 unfold nC;split
 . rfl
 . obtain⟨ph,out,val⟩:=c
   cases ph<;>first|exact aoP|exact aoQ|exact aoR
end Go.L.dA
