import Derived.Test.YtnnhpnccfnghdaaGreatR18
set_option linter.all false
set_option maxRecDepth 8000
set_option maxHeartbeats 5600000
namespace Go.Proofs.YtnnhpnccfnghdaaGreat.L.bH
open Go.Proofs.YtnnhpnccfnghdaaGreat.L
open Go.L Go.L.Ring Go.L.dq Go.L.dR Go.L.Whl Go.L.dA Go.L.Lx Go.L.Pg
open Go.L.Led (dg du dT bs av e8)
open Go.L.Th (bt cW c9 bX dt bR bU ev bW ao most dU cQ ff eD dM In cV c6 eE bx bM eF eG bk cG dw go bq Good eb eH dQ acc Inv eh er e3 busy cZ ek dN fa)
attribute[local irreducible] G cE GE cY GT b0 df c4 di Exit.then Exit.inBlock
section
variable{l:List aq}{f0:Nat->Th.fU}{X:cN}{z:dn}{a:Nat}{s:ao}{L:List Int}{j p n:Nat}(o:bU){t:bW}{D:List aq}
def alh(aW:1<=a/\a<=X.C.aZ):(dZ X)[a -1]?=some (xy X a):=by
 have e:a -1+1=a:=ae;rw[dZ,fs,u4 ae,nJ,e]
abbrev aAd(X:cN)(a:Nat)(L:List Int)(t:Int):List aq:=[Po.e9 (X.bo a) (X.C.box a),ch X.m L t,gb ((X.bo a).r false) X.m ((X.C.box a).eR false) ((X.C.box a).fg false),gb ((X.bo a).r true) X.m ((X.C.box a).eR true) ((X.C.box a).fg true)]
def ali{t:Int}(bf:(X.bo a).m=X.m):Po.rJ (X.bo a) (X.C.box a) L t=eW (aAd X a L t):=by
 unfold Po.rJ;rw[bf];rfl
def alj{t:Int}{w:fX}(bf:X.dv.m=X.m):Ck.pN X.dv X.C.dH L t w=eW [Ck.gm X.dv X.C.dH,ch X.m L t,gb X.dv.r X.m (X.C.dH.b+1) X.C.dH.n,fJ X.dv.wp w]:=by
 unfold Ck.pN;rw[bf];rfl
def s4:∀h,Sat (l++D) h->Sat (eW l::D) h:=λh E=>cF (fM:=λ_:Unit=>True) (l:=λ_=>l) (D:=D) () trivial qB h E
def s5{h:eA}(E:Sat (eW l::D) h):Sat (l++D) h:=by obtain⟨_,_,b⟩:=hd E;exact b
def aAe(al:bE X z s){a:Nat}{V:gw}(aW:1<=a/\a<=X.C.aZ)(cb:rK (X.C.box a) s.L)(hp:sK V):ad aa (q3 (.post a V)) [ptr p 0] (c3 X p (.post a V)::LT X z s j) (aH (.bool (acc X.C s (.post a V)).2.over) (c3 X p (acc X.C s (.post a V)).2::LT X (jZ z (.post a V)) (acc X.C s (.post a V)).1 j)):=by
 have bh:=Po.aud (X.bo a) (X.C.box a) p s.L z.tt V cb hp;rw[ali (al.gE a),ali (al.gE a)]at bh;exact jL (ax ((dZ X).set (a -1) ft)::cL X z s::dP z.cI z.cJ s.trace::fl z.na z.fq s.notes::b3 X.am .i64 (cf z.ap)::ax jJ::b3 X.e6 .u64 (cf z.ai)::ax k9::Lg.ds X.ld s.bc::ez X.da X.C.dG s.dead::fA X::fw X s.bs::eC X.bG X.m X.C.bG X.C.aZ::abv) bh (λh E=>by
  have gt:=(show∀h,Sat _ h->Sat [ax (dZ X),Po.fY (X.bo a) (X.C.box a) p V,ch X.m s.L z.tt,cL X z s,dP z.cI z.cJ s.trace,fl z.na z.fq s.notes,b3 X.am .i64 (cf z.ap),ax (e5 X z.ap s.aJ),b3 X.e6 .u64 (cf z.ai),ax (gj z.ai s.lets),Lg.ds X.ld s.bc,ez X.da X.C.dG s.dead,fA X,fw X s.bs,eC X.bG X.m X.C.bG X.C.aZ,fu X,gk X,gX X,gd X,ax ((de X z.ap z.ai s.az).set j ft)] h from(au)) h E;have L:=s5 (sj (alh aW) h gt);refine Sat.swap (s4 h ?_);exact(au) h L) (λu H q=>by
  obtain⟨rfl,rfl⟩:=q;refine⟨_,dI,λh E=>?_⟩;have gt:=s5 (Sat.swap E);have L:=(show∀h,Sat _ h->Sat ([Po.e9 (X.bo a) (X.C.box a),gb ((X.bo a).r false) X.m ((X.C.box a).eR false) ((X.C.box a).fg false),gb ((X.bo a).r true) X.m ((X.C.box a).eR true) ((X.C.box a).fg true)]++[ax ((dZ X).set (a -1) ft),Po.fY (X.bo a) (X.C.box a) p (oV (X.C.box a) s.L V),ch X.m (p2 (X.C.box a) s.L V) (if V.over then z.tt else fZ z.tt),cL X z s,dP z.cI z.cJ s.trace,fl z.na z.fq s.notes,b3 X.am .i64 (cf z.ap),ax (e5 X z.ap s.aJ),b3 X.e6 .u64 (cf z.ai),ax (gj z.ai s.lets),Lg.ds X.ld s.bc,ez X.da X.C.dG s.dead,fA X,fw X s.bs,eC X.bG X.m X.C.bG X.C.aZ,fu X,gk X,gX X,gd X,ax ((de X z.ap z.ai s.az).set j ft)]) h from(au)) h gt;have z3:=Sh (alh aW) h (s4 h L);exact(au) h z3)
def aAf(al:bE X z s){aC:gC}(cb:kg X.C.bA s.L)(a6:wE X.C.bA aC):ad aa (q3 (.fx aC)) [ptr p 0] (c3 X p (.fx aC)::LT X z s j) (aH (.bool (acc X.C s (.fx aC)).2.over) (c3 X p (acc X.C s (.fx aC)).2::LT X (jZ z (.fx aC)) (acc X.C s (.fx aC)).1 j)):=by
 have bh:ad aa 474 [ptr p 0] (gV X.cX X.C.bA p aC::ch X.cX.m s.L z.tt::ab0) (aH (.bool (lE X.C.bA s.L aC).over) (gV X.cX X.C.bA p (lE X.C.bA s.L aC)::ch X.cX.m (nC X.C.bA s.L aC) QV::ab0)):=aql X.cX X.C.bA p s.L z.tt aC cb a6;rw[al.gL]at bh;exact jL aar bh (λh E=>by
  have gt:=s5 ((show∀h,Sat _ h->Sat [fA X,gV X.cX X.C.bA p aC,ch X.m s.L z.tt,cL X z s,dP z.cI z.cJ s.trace,fl z.na z.fq s.notes,b3 X.am .i64 (cf z.ap),ax (e5 X z.ap s.aJ),b3 X.e6 .u64 (cf z.ai),ax (gj z.ai s.lets),Lg.ds X.ld s.bc,ez X.da X.C.dG s.dead,fw X s.bs,eC X.bG X.m X.C.bG X.C.aZ,ax (dZ X),fu X,gk X,gX X,gd X,ax ((de X z.ap z.ai s.az).set j ft)] h from(au)) h E);exact(show∀h,Sat _ h->Sat [gV X.cX X.C.bA p aC,ch X.m s.L z.tt,fS X.cX X.C.bA,cd X.cX X.C.bA,iR X.cX X.C.bA,eM X.cX X.C.bA,ax (lG X.cX X.C.bA),cL X z s,dP z.cI z.cJ s.trace,fl z.na z.fq s.notes,b3 X.am .i64 (cf z.ap),ax (e5 X z.ap s.aJ),b3 X.e6 .u64 (cf z.ai),ax (gj z.ai s.lets),Lg.ds X.ld s.bc,ez X.da X.C.dG s.dead,fw X s.bs,eC X.bG X.m X.C.bG X.C.aZ,ax (dZ X),fu X,gk X,gX X,gd X,ax ((de X z.ap z.ai s.az).set j ft)] h from(au)) h gt) (λu H q=>by
  obtain⟨rfl,rfl⟩:=q;refine⟨_,dI,λh E=>?_⟩;have gt:=(show∀h,Sat _ h->Sat ([fS X.cX X.C.bA,cd X.cX X.C.bA,iR X.cX X.C.bA,eM X.cX X.C.bA,ax (lG X.cX X.C.bA)]++[gV X.cX X.C.bA p (lE X.C.bA s.L aC),ch X.m (nC X.C.bA s.L aC) (if aC.over then z.tt else fZ z.tt),cL X z s,dP z.cI z.cJ s.trace,fl z.na z.fq s.notes,b3 X.am .i64 (cf z.ap),ax (e5 X z.ap s.aJ),b3 X.e6 .u64 (cf z.ai),ax (gj z.ai s.lets),Lg.ds X.ld s.bc,ez X.da X.C.dG s.dead,fw X s.bs,eC X.bG X.m X.C.bG X.C.aZ,ax (dZ X),fu X,gk X,gX X,gd X,ax ((de X z.ap z.ai s.az).set j ft)]) h from(au)) h E;have L:Sat (fA X::(gV X.cX X.C.bA p (lE X.C.bA s.L aC)::ch X.m (nC X.C.bA s.L aC) QV::aar)) h:=s4 h gt;exact(au) h L)
def aAg(al:bE X z s){aC:hy}(cb:r4 X.C.dH s.L)(K:iu s.L)(O:mn s.bs)(a6:tu aC):ad aa (q3 (.eS aC)) [ptr p 0] (c3 X p (.eS aC)::LT X z s j) (aH (.bool (acc X.C s (.eS aC)).2.over) (c3 X p (acc X.C s (.eS aC)).2::LT X (jZ z (.eS aC)) (acc X.C s (.eS aC)).1 j)):=by
 have bh:=Ck.an8 X.dv X.C.dH p s.L z.tt s.bs aC cb K O a6;rw[alj al.gD,alj al.gD]at bh;exact jL aav bh (λh E=>by
  have gt:=s5 ((show∀h,Sat _ h->Sat [fw X s.bs,Ck.iZ X.dv X.C.dH p aC,ch X.m s.L z.tt,cL X z s,dP z.cI z.cJ s.trace,fl z.na z.fq s.notes,b3 X.am .i64 (cf z.ap),ax (e5 X z.ap s.aJ),b3 X.e6 .u64 (cf z.ai),ax (gj z.ai s.lets),Lg.ds X.ld s.bc,ez X.da X.C.dG s.dead,fA X,eC X.bG X.m X.C.bG X.C.aZ,ax (dZ X),fu X,gk X,gX X,gd X,ax ((de X z.ap z.ai s.az).set j ft)] h from(au)) h E);refine Sat.swap (s4 h ?_);exact(show∀h,Sat _ h->Sat ([Ck.gm X.dv X.C.dH,ch X.m s.L z.tt,gb X.dv.r X.m (X.C.dH.b+1) X.C.dH.n,fJ X.dv.wp s.bs]++[Ck.iZ X.dv X.C.dH p aC,cL X z s,dP z.cI z.cJ s.trace,fl z.na z.fq s.notes,b3 X.am .i64 (cf z.ap),ax (e5 X z.ap s.aJ),b3 X.e6 .u64 (cf z.ai),ax (gj z.ai s.lets),Lg.ds X.ld s.bc,ez X.da X.C.dG s.dead,fA X,eC X.bG X.m X.C.bG X.C.aZ,ax (dZ X),fu X,gk X,gX X,gd X,ax ((de X z.ap z.ai s.az).set j ft)]) h from(au)) h gt) (λu H q=>by
  obtain⟨rfl,rfl⟩:=q;refine⟨_,dI,λh E=>?_⟩;have gt:=s5 (Sat.swap E);have L:=(show∀h,Sat _ h->Sat ([Ck.gm X.dv X.C.dH,gb X.dv.r X.m (X.C.dH.b+1) X.C.dH.n,fJ X.dv.wp (j1 X.C.dH s.L s.bs aC).2.1]++[Ck.iZ X.dv X.C.dH p (j1 X.C.dH s.L s.bs aC).2.2,ch X.m (j1 X.C.dH s.L s.bs aC).1 (if aC.over then z.tt else fZ z.tt),cL X z s,dP z.cI z.cJ s.trace,fl z.na z.fq s.notes,b3 X.am .i64 (cf z.ap),ax (e5 X z.ap s.aJ),b3 X.e6 .u64 (cf z.ai),ax (gj z.ai s.lets),Lg.ds X.ld s.bc,ez X.da X.C.dG s.dead,fA X,eC X.bG X.m X.C.bG X.C.aZ,ax (dZ X),fu X,gk X,gX X,gd X,ax ((de X z.ap z.ai s.az).set j ft)]) h from(au)) h gt;have z3:Sat (fw X (j1 X.C.dH s.L s.bs aC).2.1::(Ck.iZ X.dv X.C.dH p (j1 X.C.dH s.L s.bs aC).2.2::ch X.m (j1 X.C.dH s.L s.bs aC).1 QV::aav)) h:=s4 h L;exact(au) h z3)
def alk{ak:Nat->Nat}{o:bU}(J:X.C.ok)(al:bE X z s)(S:eH f0 X.C (bk s) ak n s.L s.bs)(Y:dQ X.C (bk s) ak j s.L o):ad aa (q3 o) [ptr p 0] [c3 X p o,jj X z s j] (aH (.bool (acc X.C s o).2.over) [c3 X p (acc X.C s o).2,jj X (jZ z o) (acc X.C s o).1 j]):=by
 refine az5 ?_;have h2:2<=s.L.length:=by rw[S.len];unfold bt.cells bt.gS bt.bG;omega
 cases o with
 |load c=>exact az9 (by have:c=1:=Y;omega)
 |add c d=>exact aAa (by have:c=0\/c=1:=Y.1;omega)
 |fV v=>exact aAb
 |post a V=>exact aAe al ⟨Y.1,Y.2.1⟩ (alg J S.len ⟨Y.1,Y.2.1⟩) Y.2.2.1
 |hV i=>exact aAc Y.1.pc Y.1.cell
 |fx aC=>exact aAf al (az6 J S.len) Y.1
 |eS aC=>exact aAg al (az7 J S.len) S.jH S.ws.fG Y.1
theorem Ug:qu aa (nL o) "Step" (q3 o):=by
 cases o<;>first|exact(inferInstance:qu aa 314 "Step" 486)|exact(inferInstance:qu aa 392 "Step" 489)|exact(inferInstance:qu aa 246 "Step" 474)|exact(inferInstance:qu aa 169 "Step" 474)|exact(inferInstance:qu aa 248 "Step" 474)
theorem Uh:e0 aa (q3 o):=by
 cases o<;>first|exact(⟨_,_,Tryz.func486,rfl,by decide⟩:e0 aa 486)|exact(⟨_,_,Tryz.func489,rfl,by decide⟩:e0 aa 489)|exact(⟨_,_,Tryz.func474,rfl,by decide⟩:e0 aa 474)
def Ui(cK:s.az[j]?=some t):∀h,Sat (bl X z s++D) h->Sat (hF X z.ap z.ai j t::jj X z s j::D) h:=λh E=>by
 have e:(de X z.ap z.ai s.az)[j]?=some (hF X z.ap z.ai j t):=by simp[sO,cK]
 have gt:=sj (D:=PI++D) e h ((au) h E);exact Sat.tail (λh E=>s4 (l:=LT X z s j) h ((au) h E)) gt
def FI(N:j<s.az.length):∀h,Sat (hF X z.ap z.ai j t::jj X z s j::D) h->Sat (bl X z {s with az:=s.az.set j t}++D) h:=λh E=>by
 have gt:=Sat.tail (λh E=>(show∀h,Sat _ h->Sat (ax ((de X z.ap z.ai s.az).set j ft)::([cL X z s,dP z.cI z.cJ s.trace,fl z.na z.fq s.notes,b3 X.am .i64 (cf z.ap),ax (e5 X z.ap s.aJ),b3 X.e6 .u64 (cf z.ai),ax (gj z.ai s.lets),Lg.ds X.ld s.bc,ez X.da X.C.dG s.dead,ch X.m s.L z.tt,fA X,fw X s.bs,eC X.bG X.m X.C.bG X.C.aZ,ax (dZ X),fu X,gk X,gX X,gd X]++D)) h from(au)) h (s5 E)) E;have L:=uU (i:=j) (by rw[KQ];exact N) h gt;have e:(de X z.ap z.ai s.az).set j (hF X z.ap z.ai j t)=de X z.ap z.ai (s.az.set j t):=by rw[de,de,mapIdx_set]
 rw[e]at L;exact(au) h L
def bE.step(l:List bW)(al:bE X z s):bE X (jZ z o) {(acc X.C s o).1 with az:=l}:=
 ⟨al.gL,al.gD,al.gE,by show z.ap.length=(acc X.C s o).1.aJ.length;rw[Th.awB];exact al.ap,by show z.ai.length=(acc X.C s o).1.lets.length;rw[Th.awC];exact al.ai⟩
theorem Jf{y:ao}{n b5 j:Nat}{t:bW}{o:bU}{k:Th.K}{b:Value}(J:X.C.ok)(cT:Th.hS X.P)(cH:Th.iM f0 X.C X.C.cells)(aA:b5<1099511627776)(aM:n+1<=bq)(al:bE X z s)(h:Inv f0 X.C X.P n s)(cK:s.az[j]?=some t)(B:t.on=some (o,k))(W:bM s+Th.hE<=b5)(ag:eh X.C X.P j s=some y):
 ad aa 44 [ptr (X.bp j) 0,b] (bl X z s) dX:=by
 have N:j<s.az.length:=(dc.1 cK).1;have g:j<(acc X.C s o).1.az.length:=by rw[Th.Fu];exact N
 refine gq (M:=[hF X z.ap z.ai j t,jj X z s j]) (λD h E=>Ui cK h E) ?_;have ay:hF X z.ap z.ai j t=dj (bv:=Nat×Nat×List Value) zn P6:=by unfold hF;rw[B]
 rw[ay];refine xP (fun⟨p,f,c⟩ _=>?_);obtain⟨ak,S,i⟩:=h.bp;have Y:=((i j t cK).on o k B).1;have cc:=alk (p:=p) J al S Y;haveI:=Ug o;haveI:=Uh o;unfold eh at ag;simp only[cK,B,bind,Option.bind]at ag;cases I:(acc X.C s o).2.over with
 |
  false=>
  rw[I]at cc ag;simp only[eP,ep]at ag;cases ag;have bh:=az4 X j t p f c (nL o) (q3 o) (c3 X p o) (c3 X p (acc X.C s o).2) (jj X z s j) (jj X (jZ z o) (acc X.C s o).1 j) b cc;refine jL [a7 X z.ap z.ai j p k f c] bh (au) (λu H q=>?_);obtain⟨rfl,rfl⟩:=q;refine⟨_,⟨rfl,jZ z o,_,rfl,al.step o _,rfl⟩,λh E=>?_⟩;have aV:hF X z.ap z.ai j Jd=dj (bv:=Nat×Nat×List Value) zn (fun⟨p,f,c⟩=>[ki X j (.iface (nL (acc X.C s o).2) (ptr p 0)) (bj f c) Jd,c3 X p (acc X.C s o).2,a7 X z.ap z.ai j p k f c]):=rfl;have bz:nL (acc X.C s o).2=nL o:=D9;have L:=FI (X:=X) (z:=jZ z o) (s:=(acc X.C s o).1) (t:=Jd) (D:=[]) g h (by
   show Sat (hF X z.ap z.ai j Jd::jj X (jZ z o) (acc X.C s o).1 j::[]) h;rw[aV,bz];exact cF (D:=[jj X (jZ z o) (acc X.C s o).1 j]) (p,f,c) trivial (au) h E)
  rw[jr]at L;exact L
 |
  true=>
  rw[I]at cc ag;simp only[fi]at ag;obtain⟨⟨g5,w,T,O⟩,l,C⟩:=Th.ajX cH J aM h cK B I;rw[<-Th.Fu X.C s o]at g5 w l C;refine gq (M:=[a7 X z.ap z.ai j p k f c,ki X j w0 (bj f c) t,c3 X p o,jj X z s j]) (λD=>(au)) (uf λba=>?_);haveI:=ba;refine gq (M:=[ki X j w0 (bj f c) t,c3 X p o,jj X z s j,a7 X z.ap z.ai j p k f c]) (λD=>(au)) ?_;have al:ad aa f c [(a7 X z.ap z.ai j p k f c),(c3 X p (acc X.C s o).2),ab (X.bp j) 128 (ptr X.h 0::af (jT X j)::.nilIface::.nilFunc::IY),(jj X (jZ z o) (acc X.C s o).1 j)] dX:=by
   refine gq (M:=a7 X z.ap z.ai j p k f c::c3 X p (acc X.C s o).2::bl X (jZ z o) {(acc X.C s o).1 with az:=(acc X.C s o).1.az.set j {t with on:=none}}) (λD h E=>?_) (go_run (f0:=f0) (n:=n+1) (b5:=b5) (m:=999999) J aA aM cT (al.step o _) l g5 C (by have:Th.hE=90000:=rfl;omega) ae I O ag);refine Sat.tail (λh E=>Sat.tail (λh E=>?_) E) E;exact FI (X:=X) (z:=jZ z o) (s:=(acc X.C s o).1) (t:={t with on:=none}) (D:=D) g h E
  refine aw Tryz.func44 λF D=>?_;refine cq ?_;refine aB rfl (Yy rfl) ?_;refine c0 ?_;refine ci rfl (Oj rfl rfl (cc) bF) ?_;rintro _ D ⟨_,⟨rfl,rfl⟩,rfl⟩
  try simp only[cp,cm]
  refine bb ?_;refine wk (rfl) ?_;refine gg ?_;refine b6 ?_;refine br (al) ?_;rintro _ _ ⟨rfl,cj,aD,ah,d7,rfl⟩;refine et ?_;refine bb ?_;exact aX BM
end
section
variable(X:cN)(z:dn)(s s1 bP:ao)(j:Nat)(t t1:bW)
theorem Uj{X:cN}{ap ai:List Nat}{l:List bW}{j:Nat}{t:bW}(h:l[j]?=some t)(R:t.on=none):h7 (X.bp j) 2 (ax (de X ap ai l)) .nilIface:=by
 have e:(de X ap ai l)[j]?=some (hF X ap ai j t):=by simp[sO,h]
 haveI:h7 (X.bp j) 2 (hF X ap ai j t) .nilIface:=⟨fun{g} s=>by
  unfold hF at s;rw[R]at s;exact⟨_,_,_,s,rfl⟩⟩
 exact KR e
abbrev y9(a:Nat):Value:=.func (.func a) [ptr (X.bp j) 0].toArray [].toArray
def alm{j:Nat}(N:j<X.C.a1):ad aa 78 [ptr X.cX.c 0,af (jT X j)] [fA X] (λu H=>∃p,u=ptr p 0/\H=[c3 X p (.fx (Dx j)),fA X]):=by
 have ay:jT X j=j:=bd N;rw[ay];exact E3 (apz X.cX X.C.bA j N)
def aln(J:X.C.ok){j:Nat}(N:j<X.C.a1){d:Int}(aL:0<=d/\d<18446744073709551616):ad aa 82 [ptr X.cX.c 0,af (jT X j),bw d] [fA X] (λu H=>∃p,u=ptr p 0/\H=[c3 X p (.fx (yz X.C.bA j d.toNat)),fA X]):=by
 have ay:jT X j=j:=bd N;have aV:d=((d.toNat:Nat):Int):=ae;have bQ:=J.bQ;rw[ay];have bh:=E3 (X:=X) (apZ X.cX X.C.bA (by show 2+X.C.a1<=65536;omega) bQ j N d.toNat ae);rw[<-aV]at bh;exact bh
def aAh(J:X.C.ok)(w:fX)(aM:w.now<3000000000000000000):ad aa 147 [ptr X.dv.c 0] [fw X w] (λu H=>∃p,u=ptr p 0/\H=[c3 X p (.eS (yp X.C.dH w)),fw X w]):=
 jL [gb X.dv.r X.m (X.C.dH.b+1) X.C.dH.n] (Ck.anZ X.dv X.C.dH J.i64 w aM) (λh E=>(au) h (s5 E)) (λu H q=>by
  obtain⟨p,rfl,rfl⟩:=q;exact⟨_,AJ,λh E=>Sat.swap (s4 h ((au) h E))⟩)
def aAi(J:X.C.ok)(al:bE X z s)(N:s.az[j]?=some t)(R:t.on=none)(aM:s.bs.now<3000000000000000000)(h1:1<=s.ticks)(h2:s.ticks<=1099511627776):ad aa 88 eo (bl X z s) (ct X (some {{s with ticks:=s.ticks -1}with az:=s.az.set j {t with on:=some (.eS (yp X.C.dH s.bs),.mb)}})):=by
 refine aw Tryz.func88 λF D=>?_;haveI:=gf (X:=X) (ap:=z.ap) (ai:=z.ai) N;haveI:=sH (X:=X) (ap:=z.ap) (ai:=z.ai) N;haveI:h7 (X.bp j) 4 (ax lJ) (bw t.draw):=xg N 4 λ_ _=>rfl;refine bb ?_;refine wn λar=>?_;refine bQ ?_;refine wn λU=>?_;refine cv ?_;refine aB rfl (kl ((s.ticks -1:Nat):Int) eZ rfl rfl) ?_;refine b6 ?_;rw[show(qE X z s).set (0+25) (af ((s.ticks -1:Nat):Int))=qE X z {s with ticks:=s.ticks -1}from rfl];refine bQ ?_;refine br (aAh X J s.bs aM) ?_;rintro _ _ ⟨S,rfl,rfl⟩;refine et ?_;refine wn λZ=>?_;refine bi ?_;refine aB rfl Jk ?_;refine aG ?_;refine aT (iA (a7.eq_5 ..) (U,Z,ar) dI (jK X z.ap z.ai s.az j S 148 [ptr U 0,ptr Z 0,ptr ar 0] t (.eS (yp X.C.dH s.bs)) .mb N R)) ?_;exact Rl
def aAj(N:s.az[j]?=some t)(R:t.on=none)(o S:bU)(k:Th.K)(a:Nat)(cb:ad aa a eo (bl X z s) aaA)(cc:∀(cj:dn) (p:Nat),bE X cj s1->ad aa (q3 o) [ptr p 0] [c3 X p o,jj X cj s1 j] (aH gR [c3 X p S,jj X (jZ cj o) bP j]))(fz:e0 aa a:=by exact fc):ad aa 44 [ptr (X.bp j) 0,y9 X j a] (bl X z s) (λu H=>u=.tuple #[]/\∃(cj:dn) (p f:Nat) (c:List Value),e0 aa f/\bE X cj s1/\H=[ab (X.bp j) 128 aaB,c3 X p S,jj X (jZ cj o) bP j,a7 X cj.ap cj.ai j p k f c]):=by
 refine aw Tryz.func44 λF D=>?_;haveI:=Uj (X:=X) (ap:=z.ap) (ai:=z.ai) N R;haveI:=Ug o;haveI:=Uh o;refine agX ?_;intro cj p f c ba d7;refine lL ?_;refine bb ?_;exact aX ⟨rfl,cj,p,f,c,ba,d7,rfl⟩
def aAk(N:s.az[j]?=some t)(R:t.on=none)(o S:bU)(k:Th.K)(a:Nat)(cb:ad aa a eo (bl X z s) aaA)(cc:∀(cj:dn) (p:Nat),bE X cj s1->ad aa (q3 o) [ptr p 0] [c3 X p o,jj X cj s1 j] (aH h6 [c3 X p S,jj X (jZ cj o) bP j]))(y:Option ao)(cO:∀(cj:dn) (p f:Nat) (c:List Value),bE X cj s1->ad aa f c [a7 X cj.ap cj.ai j p k f c,c3 X p S,ab (X.bp j) 128 [ptr X.h 0,af (jT X j),.nilIface,.nilFunc,bw t1.draw,.bool t1.ij],jj X (jZ cj o) bP j] (ct X y))(fz:e0 aa a:=by exact fc):ad aa 44 [ptr (X.bp j) 0,y9 X j a] (bl X z s) (ct X y):=by
 refine aw Tryz.func44 λF D=>?_;haveI:=Uj (X:=X) (ap:=z.ap) (ai:=z.ai) N R;haveI:=Ug o;haveI:=Uh o;refine agX ?_;intro cj p f c ba d7;refine nN ?_;refine gg ?_;refine b6 ?_;refine br (cO cj p f c d7) ?_;rintro _ _ ⟨rfl,g,aD,ah,b,rfl⟩;refine et ?_;refine bb ?_;exact aX ⟨rfl,g,aD,ah,b,rfl⟩
end
section
variable{X:cN}{z:dn}{s y:ao}{n j:Nat}{t:bW}{f0:Nat->Th.fU}
theorem aAl{f:Nat}{args:List Value}{X:cN}{z:dn}{s s1:ao}{j:Nat}{t1:bW}{o:bU}{k:Th.K}(h:ad aa f args (bl X z s) (ct X (some s1)))(ay:s1.az[j]?=some t1)(B:t1.on=some (o,k)):
 ad aa f args (bl X z s) (λu H=>u=.tuple #[]/\∃(cj:dn) (p f:Nat) (c:List Value),e0 aa f/\bE X cj s1/\H=[ki X j w0 (bj f c) t1,c3 X p o,jj X cj s1 j,a7 X cj.ap cj.ai j p k f c]):=λF D w st=>
 (h F D w st).mono fun _ _ ⟨v, H, e, ⟨d4, cj, aD, ah, d7, cb⟩, q⟩ => by
  cases ah;subst cb;have gt:=Ui ay _ q.e4;have aV:hF X cj.ap cj.ai j t1=dj (bv:=Nat×Nat×List Value) zn (fun⟨p,f,c⟩=>[ki X j w0 (bj f c) t1,c3 X p o,a7 X cj.ap cj.ai j p k f c]):=by unfold hF;rw[B]
  rw[aV]at gt;obtain⟨⟨p,f,c⟩,_,L⟩:=hd gt;have z3:=(show∀h,Sat ([ki X j (.iface (nL o) (ptr p 0)) (bj f c) t1,c3 X p o,a7 X cj.ap cj.ai j p k f c]++(jj X cj s1 j::D)) h->Sat ([ki X j (.iface (nL o) (ptr p 0)) (bj f c) t1,c3 X p o,jj X cj s1 j,a7 X cj.ap cj.ai j p k f c]++D) h from(au)) _ L;have ba:=T7 k p f c ([ki X j (.iface (nL o) (ptr p 0)) (bj f c) t1,c3 X p o,jj X cj s1 j]++D) _ ((show∀h,Sat ([ki X j (.iface (nL o) (ptr p 0)) (bj f c) t1,c3 X p o,a7 X cj.ap cj.ai j p k f c]++(jj X cj s1 j::D)) h->Sat (a7 X cj.ap cj.ai j p k f c::([ki X j (.iface (nL o) (ptr p 0)) (bj f c) t1,c3 X p o,jj X cj s1 j]++D)) h from(au)) _ L);exact⟨v,_,e,⟨d4,cj,p,f,c,ba,d7,rfl⟩,⟨q.os,q.tape,q.output,q.size,z3⟩⟩
theorem alo{X:cN}{z:dn}{s s1 y:ao}{n b5 j:Nat}{t t1:bW}{o:bU}{k:Th.K}{a:Nat}(J:X.C.ok)(cT:Th.hS X.P)(cH:Th.iM f0 X.C X.C.cells)(aA:b5<1099511627776)(aM:n+1<=bq)(cK:s.az[j]?=some t)(B:t.on=none)
 (cb:ad aa a eo (bl X z s) (ct X (some s1)))(h:Inv f0 X.C X.P n s1)(b:s1.az[j]?=some t1)(e:t1.on=some (o,k))(W:bM s1+Th.hE<=b5)(ag:eh X.C X.P j s1=some y)(fz:e0 aa a:=by exact fc):
 ad aa 44 [ptr (X.bp j) 0,y9 X j a] (bl X z s) dX:=by
 have N:j<s1.az.length:=(dc.1 b).1;have g:j<(acc X.C s1 o).1.az.length:=by rw[Th.Fu];exact N
 obtain⟨ak,S,i⟩:=h.bp;have Y:=((i j t1 b).on o k e).1;have d:=aAl cb b e;have cc:∀(cj:dn) (p:Nat),bE X cj s1->_:=λcj p d7=>alk (o:=o) (p:=p) J d7 S Y;unfold eh at ag;simp only[b,e,bind,Option.bind]at ag;cases I:(acc X.C s1 o).2.over with
 |
  false=>
  rw[I]at ag;simp only[eP,ep]at ag;cases ag;have bh:=aAj X z s s1 (acc X.C s1 o).1 j t t1 cK B o (acc X.C s1 o).2 k a d (λcj p d7=>by have h1:=cc cj p d7;rw[I]at h1;exact h1);refine jL [] bh (λh E=>by rw[jr];exact E) (λu H q=>?_);obtain⟨rfl,cj,p,f,c,ba,d7,rfl⟩:=q;refine⟨_,⟨rfl,jZ cj o,_,rfl,d7.step o _,rfl⟩,λh E=>?_⟩;rw[jr]at E;have aV:hF X cj.ap cj.ai j Jc=dj (bv:=Nat×Nat×List Value) zn (fun⟨p,f,c⟩=>[ki X j (.iface (nL (acc X.C s1 o).2) (ptr p 0)) (bj f c) Jc,c3 X p (acc X.C s1 o).2,a7 X cj.ap cj.ai j p k f c]):=rfl;have bz:nL (acc X.C s1 o).2=nL o:=D9;have L:=FI (X:=X) (z:=jZ cj o) (s:=(acc X.C s1 o).1) (t:=Jc) (D:=[]) g h (by
   show Sat (hF X cj.ap cj.ai j Jc::jj X (jZ cj o) (acc X.C s1 o).1 j::[]) h;rw[aV,bz];exact cF (D:=[jj X (jZ cj o) (acc X.C s1 o).1 j]) (p,f,c) trivial (au) h E)
  rw[jr]at L;exact L
 |
  true=>
  rw[I]at ag;simp only[fi]at ag;obtain⟨⟨g5,w,T,O⟩,l,C⟩:=Th.ajX cH J aM h b e I;rw[<-Th.Fu X.C s1 o]at g5 w l C;refine aAk X z s s1 (acc X.C s1 o).1 j t t1 cK B o (acc X.C s1 o).2 k a d (λcj p d7=>by have h1:=cc cj p d7;rw[I]at h1;exact h1) (some y) (λcj p f c d7=>?_);refine gq (M:=a7 X cj.ap cj.ai j p k f c::c3 X p (acc X.C s1 o).2::bl X (jZ cj o) {(acc X.C s1 o).1 with az:=(acc X.C s1 o).1.az.set j {t1 with on:=none}}) (λD h E=>?_) (go_run (f0:=f0) (n:=n+1) (b5:=b5) (m:=999999) J aA aM cT (d7.step o _) l g5 C (by have:Th.hE=90000:=rfl;omega) ae I O ag);refine Sat.tail (λh E=>Sat.tail (λh E=>?_) E) E;exact FI (X:=X) (z:=jZ cj o) (s:=(acc X.C s1 o).1) (t:={t1 with on:=none}) (D:=D) g h E
def rB(cK:s.az[j]?=some t):busy s j=t.on.isSome:=by unfold busy;rw[cK];rfl
theorem alp(J:X.C.ok)(cT:Th.hS X.P)(cH:Th.iM f0 X.C X.C.cells)(al:bE X z s)(h:Th.hi f0 X.C X.P n s)(aM:n+1<=Th.gM)(N:j<X.C.a1)(ag:Th.stepT X.C X.P (er X.C j) j s=some y):
 ad aa 44 [ptr (X.bp j) 0,y9 X j 45] (bl X z s) (ct X (some y)):=by
 refine Kg ?_;intro hu H u V;have W:bM s+Th.hE<=Th.hE*(n+1):=y3;have r:Th.hE*(n+1)<1099511627776:=ID;obtain⟨t,cK⟩:=Th.qY (j:=j) h.inv ae;unfold Th.stepT at ag;cases B:t.on with
 |
  some q=>
  obtain⟨o,k⟩:=q;rw[bd IE]at ag;exact Jf J cT cH r ae al h.inv cK B W ag
 |
  none=>
  rw[a8 (by rw[rB cK,B];simp)]at ag;obtain⟨s1,h1,ag⟩:=gZ.1 ag;obtain⟨c,ay,gP,ar⟩:=Th.Ls J N h IE;obtain rfl:c=s1:=Z7;have aL:=(h.inv.bp.choose_spec.2 j t cK).lx;have b7:ad aa 45 [ptr (X.bp j) 0] (bl X z s) (ct X (some c)):=by
   unfold er at ay;simp only[cK,qM,k3]at ay;split at ay
   . rename_i aW
     obtain⟨dk,a,f,rfl⟩:=Th.jY ay;have aL:0<=dk.draw/\dk.draw<18446744073709551616:=(by rw[cK]at a;cases a;exact aL);have aW:dk.ij=true:=(by rw[cK]at a;cases a;exact aW);refine aw Tryz.func45 λF D=>?_;haveI:=gf (X:=X) (ap:=z.ap) (ai:=z.ai) a;haveI:=sH (X:=X) (ap:=z.ap) (ai:=z.ai) a;haveI:h7 (X.bp j) 4 (ax (de X z.ap z.ai s.az)) (bw dk.draw):=xg a 4 λ_ _=>rfl;haveI:h7 (X.bp j) 5 (ax (de X z.ap z.ai s.az)) (.bool true):=by
      have dW:h7 (X.bp j) 5 (ax (de X z.ap z.ai s.az)) (.bool dk.ij):=xg a 5 λ_ _=>rfl;rw[aW]at dW;exact dW
     refine bb ?_;refine wn λar=>?_;refine c0 ?_;refine wk (rfl) ?_;refine aG ?_;refine il [11,12,13] [12] [1,5,9,13,17,21,25,29,33,37,41,46,50,54,3,3,3,50,46,54] [ab ar 106 [ptr (X.bp j) 0],cL X z s,ax (de X z.ap z.ai s.az)] ?_;refine c0 ?_;refine fe ?_ ?_
     ·
      refine br (alm X N) ?_;rintro _ _ ⟨S,rfl,rfl⟩;refine et ?_;refine aG ?_;refine wn λU=>?_;refine bQ ?_;refine aB rfl (jt Tryz.underlying169 rfl rfl) ?_;refine aG ?_;refine aT (iA (a7.eq_2 ..) (U,ar) ⟨rfl,rfl⟩ (jK X z.ap z.ai s.az j S 80 [ptr U 0,ptr ar 0] dk (.fx (Dx j)) .polled a f)) ?_;refine bB ?_;exact aX ⟨rfl,z,_,rfl,⟨al.gL,al.gD,al.gE,al.ap,al.ai⟩,rfl⟩
     ·
      refine wn λU=>?_;refine aG ?_;refine br (alm X N) ?_;rintro _ _ ⟨S,rfl,rfl⟩;refine et ?_;refine bQ ?_;refine aB rfl (jt Tryz.underlying169 rfl rfl) ?_;refine aG ?_;refine aT (iA (a7.eq_2 ..) (U,ar) ⟨rfl,rfl⟩ (jK X z.ap z.ai s.az j S 80 [ptr U 0,ptr ar 0] dk (.fx (Dx j)) .polled a f)) ?_;refine bB ?_;exact aX ⟨rfl,z,_,rfl,⟨al.gL,al.gD,al.gE,al.ap,al.ai⟩,rfl⟩
   . rename_i aW
     obtain⟨dk,a,f,rfl⟩:=Th.jY ay;obtain rfl:t=dk:=by rw[cK]at a;exact od a
     have aW:t.ij=false:=(by simpa using aW);refine aw Tryz.func45 λF D=>?_;haveI:=gf (X:=X) (ap:=z.ap) (ai:=z.ai) a;haveI:=sH (X:=X) (ap:=z.ap) (ai:=z.ai) a;haveI:h7 (X.bp j) 4 (ax (de X z.ap z.ai s.az)) (bw t.draw):=xg a 4 λ_ _=>rfl;haveI:h7 (X.bp j) 5 (ax (de X z.ap z.ai s.az)) (.bool false):=by
      have dW:h7 (X.bp j) 5 (ax (de X z.ap z.ai s.az)) (.bool t.ij):=xg a 5 λ_ _=>rfl;rw[aW]at dW;exact dW
     refine bb ?_;refine wn λar=>?_;refine c0 ?_;refine tq (rfl) ?_;refine b6 ?_;refine il [15,16,17] [16] [1,5,9,13,17,21,25,29,33,37,41,45,49,53,57,62,66,70,3,3,3,66,62,70] [ab ar 106 [ptr (X.bp j) 0],cL X z s,ax (de X z.ap z.ai s.az)] ?_;refine eJ ?_;refine fe ?_ ?_
     ·
      refine br (aln X J N aL) ?_;rintro _ _ ⟨S,rfl,rfl⟩;refine et ?_;refine aG ?_;refine wn λZ=>?_;refine cq ?_;refine aB rfl (jt Tryz.underlying169 rfl rfl) ?_;refine aG ?_;refine aT (iA (a7.eq_3 ..) (Z,ar) ⟨rfl,rfl⟩ (jK X z.ap z.ai s.az j S 83 [ptr Z 0,ptr ar 0] t (.fx (yz X.C.bA j t.draw.toNat)) .found a f)) ?_;refine bb ?_;exact aX ⟨rfl,z,_,rfl,⟨al.gL,al.gD,al.gE,al.ap,al.ai⟩,rfl⟩
     ·
      refine wn λZ=>?_;refine aG ?_;refine br (aln X J N aL) ?_;rintro _ _ ⟨S,rfl,rfl⟩;refine et ?_;refine cq ?_;refine aB rfl (jt Tryz.underlying169 rfl rfl) ?_;refine aG ?_;refine aT (iA (a7.eq_3 ..) (Z,ar) ⟨rfl,rfl⟩ (jK X z.ap z.ai s.az j S 83 [ptr Z 0,ptr ar 0] t (.fx (yz X.C.bA j t.draw.toNat)) .found a f)) ?_;refine bb ?_;exact aX ⟨rfl,z,_,rfl,⟨al.gL,al.gD,al.gE,al.ap,al.ai⟩,rfl⟩
  obtain⟨t1,b⟩:=Th.qY (j:=j) gP.inv ae;cases e:t1.on with
  |none=>rw[rB b,e]at ar;cases ar
  |
   some q=>
   obtain⟨o,k⟩:=q;have l:=gP.ph;have i:bM c+Th.hE<=Th.hE*(n+1):=y3;exact alo J cT cH r ae cK B b7 gP.inv b e i ag
end
section
variable(X:cN)(z:dn)(s y:ao)(j:Nat)(t:bW)
def BA(b:Bool)(u:Value)(H:List aq):Prop:=u=.bool b/\∃cj,bE X cj y/\H=bl X cj y
def EQ{f:Nat}{args:List Value}{M:List aq}{X:cN}{y:ao}(h:ad aa f args M dX):ad aa f args M (λu H=>u=.tuple #[]/\∃cj,bE X cj y/\H=bl X cj y):=λF D w st=>
 (h F D w st).mono λ_ _ ⟨v,H,e,⟨d4,cj,aD,ah,d7,cb⟩,q⟩=>by cases ah;exact⟨v,H,e,⟨d4,cj,d7,cb⟩,q⟩
def xm(N:s.az[j]?=some t)(R:t.on=none):ad aa 46 eo rG (aH gR rG):=by
 refine aw Tryz.func46 λF D=>?_;haveI:=Uj (X:=X) (ap:=z.ap) (ai:=z.ai) N R;refine c0 ?_;refine aB rfl (NZ rfl) ?_;refine bB ?_;exact aX ⟨rfl,rfl⟩
def aAm(T:Nat)(v y:Value):ad aa 46 eo ab5 (aH h6 ab5):=by
 refine aw Tryz.func46 λF D=>?_;refine c0 ?_;refine aB rfl (Yz rfl) ?_;refine bB ?_;exact aX ⟨rfl,rfl⟩
def BE(o:bU)(k:Th.K)(N:s.az[j]?=some t)(R:t.on=some (o,k)):ad aa 46 eo rG (aH h6 rG):=by
 have e:(de X z.ap z.ai s.az)[j]?=some (hF X z.ap z.ai j t):=by simp[sO,N]
 have ay:hF X z.ap z.ai j t=dj (bv:=Nat×Nat×List Value) zn P6:=by unfold hF;rw[R]
 refine gq (M:=[hF X z.ap z.ai j t,ax ((de X z.ap z.ai s.az).set j ft)]) (λD h E=>sj (D:=D) e h E) ?_;have aV:=ay;rw[ay];refine xP (fun⟨p,f,c⟩ _=>?_);refine jL [c3 X p o,a7 X z.ap z.ai j p k f c,ax ((de X z.ap z.ai s.az).set j ft)] (aAm X j t (nL o) (ptr p 0) (bj f c)) (au) (λu H q=>?_);obtain⟨rfl,rfl⟩:=q;refine⟨_,dI,λh E=>?_⟩;refine Sh (D:=[]) e h ?_;rw[aV];exact cF (D:=[ax ((de X z.ap z.ai s.az).set j ft)]) (p,f,c) trivial (au) h E
def aAn(al:bE X z s)(N:s.az[(X.C.a1+X.C.cB)]?=some t)(R:t.on=none)(bh:¬s.ticks=0)(f9:ad aa 44 acx (bl X z s) dX):ad aa 47 [ptr X.h 0] (bl X z s) tN:=by
 refine aw Tryz.func47 λF D=>?_;refine dC ?_;refine aT (xm X z s w3 t N R) ?_;refine cP ?_;refine c8 ?_;refine cP ?_;refine cq ?_;refine cu [] [9,201] [cL X z s] ?_;refine cv ?_;exact EP
end
theorem aAo{X:cN}{z:dn}{s y:ao}{n:Nat}{f0:Nat->Th.fU}(J:X.C.ok)(cT:Th.hS X.P)(cH:Th.iM f0 X.C X.C.cells)(al:bE X z s)(h:Th.hi f0 X.C X.P n s)(aM:n+1<=Th.gM)(hk:busy s (X.C.a1+X.C.cB)=false->1<=s.ticks)(ag:Th.stepT X.C X.P (e3 X.C (X.C.a1+X.C.cB)) (X.C.a1+X.C.cB) s=some y):
 ad aa 44 acx (bl X z s) dX:=by
 refine Kg ?_;intro hu H u V;have W:bM s+Th.hE<=Th.hE*(n+1):=y3;have r:Th.hE*(n+1)<1099511627776:=ID;obtain⟨t,cK⟩:=Th.qY (j:=(X.C.a1+X.C.cB)) h.inv ae;unfold Th.stepT at ag;cases B:t.on with
 |
  some q=>
  obtain⟨o,k⟩:=q;rw[bd IE]at ag;exact Jf J cT cH r ae al h.inv cK B W ag
 |
  none=>
  have g:busy s w3=false:=IE;rw[a8 (by rw[g];simp)]at ag;obtain⟨s1,h1,ag⟩:=gZ.1 ag;obtain⟨c,ay,gP,ar⟩:=Th.akt J ae h g;obtain rfl:c=s1:=Z7;obtain⟨ak,S,_⟩:=h.inv.bp;have C:=S.ws.now;have d:s.ticks<=bM s:=by unfold bM;omega
  have b7:ad aa 88 [ptr (X.bp w3) 0] (bl X z s) (ct X (some c)):=by
   unfold e3 at ay;obtain⟨dk,a,f,rfl⟩:=Th.jY ay;exact aAi X z s w3 dk J al a f ae (hk g) ae
  obtain⟨t1,b⟩:=Th.qY (j:=(X.C.a1+X.C.cB)) gP.inv ae;cases e:t1.on with
  |none=>rw[rB b,e]at ar;cases ar
  |
   some q=>
   obtain⟨o,k⟩:=q;have l:=gP.ph;have i:bM c+Th.hE<=Th.hE*(n+1):=y3;exact alo J cT cH r ae cK B b7 gP.inv b e i ag
theorem alq{X:cN}{z:dn}{s y:ao}{b:Bool}{n:Nat}{f0:Nat->Th.fU}(J:X.C.ok)(cT:Th.hS X.P)(cH:Th.iM f0 X.C X.C.cells)(al:bE X z s)(h:Th.hi f0 X.C X.P n s)(aM:n+1<=Th.gM)(ag:Th.ud X.C X.P s=some (y,b)):
 ad aa 47 [ptr X.h 0] (bl X z s) vi:=by
 obtain⟨t,cK⟩:=Th.qY (j:=(X.C.a1+X.C.cB)) h.inv ae;unfold Th.ud at ag;split at ag
 . rename_i a6
   cases ag;have c:t.on=none:=by
    have h1:=a6.1;rw[rB cK]at h1;cases e:t.on with
    |none=>rfl
    |some q=>rw[e]at h1;simp at h1
   refine aw Tryz.func47 λF D=>?_;refine dC ?_;refine aT (xm X z s w3 t cK c) ?_;refine cP ?_;refine c8 ?_;refine cP ?_;refine dC ?_;exact tQ
 . rename_i a6
   obtain⟨m,a,d⟩:=kX.1 ag;cases d;have f9:=aAo J cT cH al h aM (λaA=>by
    have:¬s.ticks=0:=λe=>a6 ⟨by rw[aA];rfl,e⟩;omega) a
   cases B:t.on with
   |none=>exact aAn X z s y t al cK B (λe=>a6 ⟨by rw[rB cK,B];rfl,e⟩) f9
   |
    some q=>
    refine aw Tryz.func47 λF D=>?_;refine dC ?_;refine aT ade ?_;refine cP ?_;refine fr ?_;refine cu [] [9,201] [cL X z s] ?_;refine cv ?_;refine br (EQ f9) ?_;rintro _ _ ⟨rfl,cj,d7,rfl⟩;refine et ?_;refine c8 ?_;exact aX ⟨rfl,cj,d7,rfl⟩
section
variable(a E ak:Int)(X:cN)(z:dn)(s:ao)(O db:Int)(em:cC)(y:ao)(b:Bool)(ea:Int)
def aes{X:cN}{j:Nat}(N:j<X.C.a1):((List.range X.C.a1).map λi=>ptr (X.bp i) 0)[j*1]?=some (ptr (X.bp j) 0):=by
 rw[uu,fs,u4 N];rfl
def Ku(h:E<=a/\a<=ak):ad aa 52 [af a,af E,af ak] [] w6:=by
 exact afS
def Kr(h:¬(E<=a/\a<=ak)):ad aa 52 [af a,af E,af ak] [] (aH gR []):=by
 by_cases h1:E<=a
 . have h2:=(λh2=>h ⟨h1,h2⟩)
   exact afS
 . refine aw Tryz.func52 λF D=>?_
   refine cv ?_;refine cP ?_;refine c8 ?_;exact aX ⟨rfl,rfl⟩
theorem aAp(h:ad aa 47 [ptr X.h 0] (bl X z s) vi):ad aa 26 [ptr X.h 0,.agg [af 3,af ea,af O,S em,af db].toArray] (bl X z s) vi:=by
 refine R0 ?_;intro F D Z;refine cq ?_;refine br (h) ?_;rintro _ _ ⟨rfl,cj,d7,rfl⟩;refine et ?_;refine cq ?_;exact JM
theorem aAq(al:bE X z s)(hk:64<=s.ticks):ad aa 26 ac3 (bl X z s) nk:=by
 refine agU ?_;intro F D Z;refine fr ?_;exact tQ
theorem aAr(al:bE X z s)(hk:¬64<=s.ticks):ad aa 26 ac3 (bl X z s) (BA X {s with ticks:=s.ticks+1} true):=by
 refine agU ?_;intro F D Z;refine c0 ?_;refine aB rfl (fk ((s.ticks+1:Nat):Int) eZ rfl rfl) ?_;refine b6 ?_;rw[show(qE X z s).set (0+25) (af ((s.ticks+1:Nat):Int))=qE X z {s with ticks:=s.ticks+1}from rfl];refine c0 ?_;exact aX ⟨rfl,z,jl,rfl⟩
theorem aAs(I ea:Int)(h1:¬I=1)(aN:¬I=3)(g1:¬I=6)(h:ad aa 53 Qr (bl X z s) vi):ad aa 26 Qr (bl X z s) vi:=by
 refine R0 ?_;intro F D Z;refine nI ?_;refine c0 ?_;refine br (h) ?_;rintro _ _ ⟨rfl,cj,d7,rfl⟩;refine et ?_;refine bB ?_;exact JM
theorem aAt(J:X.C.ok)(al:bE X z s)(aE:¬(0<=ea/\ea<=((X.C.a1 -1:Nat):Int))):ad aa 26 [ptr X.h 0,.agg [af 1,af ea,af O,S em,af db].toArray] (bl X z s) nk:=by
 refine aw Tryz.func26 λF D=>?_;have hC:=J.aG;have ut:=J.bQ;refine bb ?_;refine wn λZ=>?_;refine fr ?_;refine cP ?_;refine bi ?_;refine cu [] [8,201,1] [ab Z 60 (af 1::af ea::Jb),cL X z s] ?_;refine adO ?_;refine aT (Kr ea 0 _ aE) ?_;refine bK ?_;refine nN ?_;refine c8 ?_;exact tQ
theorem aAu(j:Nat)(t:bW)(x E:Value)(a2:aq)(J:X.C.ok)(i:j<X.C.a1)(f9:ad aa 44 [ptr (X.bp j) 0,y9 X j 45] [ab (X.bp j) 128 [ptr X.h 0,af (jT X j),x,E,bw (eU db),.bool t.ij],cL X z s,gk X,a2] dX):ad aa 26 acH [ab (X.bp j) 128 adf,cL X z s,gk X,a2] tN:=by
 refine aw Tryz.func26 λF D=>?_;have ut:=J.bQ;refine bb ?_;refine wn λZ=>?_;refine fr ?_;refine cP ?_;refine bi ?_;refine cu [] [8,201,1] [ab Z 60 QD,cL X z s] ?_;refine adO ?_;refine go_c rfl .none rfl (b1 rfl (Ku (j:Int) 0 ((X.C.a1 -1:Nat):Int) ae) bF) ?_;refine afb ?_;refine cu [] [13,201] [ab Z 60 QD,ab (X.bp j) 128 adf,cL X z s,gk X] ?_;refine Ry ?_;refine cv ?_;refine cu [] [17,201] [ab Z 60 QD,cL X z s,gk X] ?_;refine Ry ?_;refine Ry ?_;refine aG ?_;refine br (EQ f9) ?_;rintro _ _ ⟨rfl,cj,d7,rfl⟩;refine et ?_;refine dC ?_;exact JM
end
section
variable(X:cN)(z:dn)(s:ao)(i:Nat)(I O db:Int)(em:cC)
def ahA{X:cN}{i:Nat}(ak:i<X.C.cB):((List.range X.C.cB).map λi=>ptr (X.bp (X.C.a1+i)) 0)[i*1]?=some (ptr (X.bp (X.C.a1+i)) 0):=by
 rw[uu,fs,u4 ak];rfl
theorem aAv(ea I O db:Int)(em:cC)(J:X.C.ok)(al:bE X z s)(aE:¬(0<=ea/\ea<=((X.C.cB -1:Nat):Int))):ad aa 53 Qr (bl X z s) nk:=by
 refine aw Tryz.func53 λF D=>?_;have b:=J.h1;have a:=J.bu;refine nY ?_;intro U Z;refine bB ?_;refine cu [] [8,201,1] [ab U 32 [ptr X.h 0],ab Z 60 (af I::af ea::Jb),cL X z s] ?_;refine adN ?_;refine aT (Kr ea 0 ((X.C.cB -1:Nat):Int) aE) ?_;refine bK ?_;refine nN ?_;refine bQ ?_;exact tQ
theorem aAw(J:X.C.ok)(ak:i<X.C.cB)(al:bE X z s)(d:s.shut=true)(t:bW)(o:bU)(k:Th.K)(N:s.az[(X.C.a1+i)]?=some t)(R:t.on=some (o,k))(hk:I=2)(y:ao)(f9:ad aa 44 Je (bl X z s) dX):ad aa 53 kj (bl X z s) tN:=by
 refine ahE ?_;intro F D b a U Z aS;exact R9
theorem aAx(J:X.C.ok)(ak:i<X.C.cB)(al:bE X z s)(d:s.shut=true)(t:bW)(N:s.az[(X.C.a1+i)]?=some t)(R:t.on=none)(hk:I=2):ad aa 53 kj (bl X z s) nk:=by
 refine ahE ?_;intro F D b a U Z aS;exact R6
theorem aAy(J:X.C.ok)(ak:i<X.C.cB)(al:bE X z s)(d:s.shut=true)(t:bW)(o:bU)(k:Th.K)(N:s.az[(X.C.a1+i)]?=some t)(R:t.on=some (o,k))(hk:¬I=2):ad aa 53 kj (bl X z s) nk:=by
 refine ahI ?_;intro F D b a U Z aS;exact RN
theorem aAz(J:X.C.ok)(ak:i<X.C.cB)(al:bE X z s)(d:s.shut=false)(aF:dJ (cf z.ap) O=none)(t:bW)(o:bU)(k:Th.K)(N:s.az[(X.C.a1+i)]?=some t)(R:t.on=some (o,k))(hk:I=2)(y:ao)(f9:ad aa 44 Je (bl X z s) dX):ad aa 53 kj (bl X z s) tN:=by
 refine ahK ?_;intro F D b a U Z aS;exact R9
theorem aAA(J:X.C.ok)(ak:i<X.C.cB)(al:bE X z s)(d:s.shut=false)(aF:dJ (cf z.ap) O=none)(t:bW)(N:s.az[(X.C.a1+i)]?=some t)(R:t.on=none)(hk:I=2):ad aa 53 kj (bl X z s) nk:=by
 refine ahK ?_;intro F D b a U Z aS;exact R6
theorem aAB(J:X.C.ok)(ak:i<X.C.cB)(al:bE X z s)(d:s.shut=false)(aF:dJ (cf z.ap) O=none)(t:bW)(o:bU)(k:Th.K)(N:s.az[(X.C.a1+i)]?=some t)(R:t.on=some (o,k))(hk:¬I=2):ad aa 53 kj (bl X z s) nk:=by
 refine ahN ?_;intro F D b a U Z aS;exact RN
theorem aAC(J:X.C.ok)(ak:i<X.C.cB)(al:bE X z s)(d:s.shut=false)(e:Nat)(aF:dJ (cf z.ap) O=some (ptr e 0))(t:bW)(o:bU)(k:Th.K)(N:s.az[(X.C.a1+i)]?=some t)(R:t.on=some (o,k))(hk:I=2)(y:ao)(f9:ad aa 44 Je (bl X z s) dX):ad aa 53 kj (bl X z s) tN:=by
 refine ahJ ?_;intro F D b a U Z aS;exact R9
theorem aAD(J:X.C.ok)(ak:i<X.C.cB)(al:bE X z s)(d:s.shut=false)(e:Nat)(aF:dJ (cf z.ap) O=some (ptr e 0))(t:bW)(N:s.az[(X.C.a1+i)]?=some t)(R:t.on=none)(hk:I=2):ad aa 53 kj (bl X z s) nk:=by
 refine ahJ ?_;intro F D b a U Z aS;exact R6
theorem aAE(J:X.C.ok)(ak:i<X.C.cB)(al:bE X z s)(d:s.shut=false)(e:Nat)(aF:dJ (cf z.ap) O=some (ptr e 0))(t:bW)(o:bU)(k:Th.K)(N:s.az[(X.C.a1+i)]?=some t)(R:t.on=some (o,k))(hk:¬I=2):ad aa 53 kj (bl X z s) nk:=by
 refine ahM ?_;intro F D b a U Z aS;exact RN
theorem afx(U aS Z:Nat)(a:cC)(J:Int)(o:s.trace.length<most):ad aa 90 [S a,af J,ptr U 0,ptr aS 0,ptr Z 0] [ab U 32 [ptr X.h 0],ab aS 3 [af (-1 -(i:Int))],ab Z 60 Em,cL X z s,dP z.cI z.cJ s.trace] (λu H=>u=.tuple #[]/\∃aI aQ,H=[ab U 32 [ptr X.h 0],ab aS 3 [af (-1 -(i:Int))],ab Z 60 Em,cL X h3 {s with trace:=s.trace++ab3},dP aI aQ (s.trace++ab3)]):=by
 refine aw Tryz.func90 λF D=>?_;refine bQ ?_;refine br (l6 X z s (ab4:bX) o) ?_;refine l5 ?_;intro aI aQ;refine bb ?_;exact aX ⟨rfl,aI,aQ,rfl⟩
theorem aAF(J:X.C.ok)(ak:i<X.C.cB)(al:bE X z s)(d:s.shut=true)(t:bW)(N:s.az[(X.C.a1+i)]?=some t)(R:t.on=none)(hk:I=4)(g:ad aa 92 [S em] [] (aH gR [])):ad aa 53 kj (bl X z s) nk:=by
 refine ahR ?_;intro F D b a U Z aS;exact Rt
theorem aAG(J:X.C.ok)(ak:i<X.C.cB)(al:bE X z s)(d:s.shut=true)(t:bW)(N:s.az[(X.C.a1+i)]?=some t)(R:t.on=none)(hk:I=4)(aE:¬(0<=db/\db<=255))(g:ad aa 92 [S em] [] w6):ad aa 53 kj (bl X z s) nk:=by
 refine ahS ?_;intro F D b a U Z aS;exact RZ
theorem aAH(J:X.C.ok)(ak:i<X.C.cB)(al:bE X z s)(d:s.shut=true)(t:bW)(N:s.az[(X.C.a1+i)]?=some t)(R:t.on=none)(hk:I=4)(aE:0<=db/\db<=255)(o:s.trace.length<most)(g:ad aa 92 [S em] [] w6):ad aa 53 kj (bl X z s) abb:=by
 refine ahS ?_;intro F D b a U Z aS;exact ag7
theorem aAI(J:X.C.ok)(ak:i<X.C.cB)(al:bE X z s)(d:s.shut=true)(t:bW)(N:s.az[(X.C.a1+i)]?=some t)(R:t.on=none)(hk:I=5)(o:s.trace.length<most):ad aa 53 kj (bl X z s) abc:=by
 refine ahT ?_;intro F D b a U Z aS;exact afw
theorem aAJ(J:X.C.ok)(ak:i<X.C.cB)(al:bE X z s)(d:s.shut=true)(t:bW)(N:s.az[(X.C.a1+i)]?=some t)(R:t.on=none)(h2:¬I=2)(bu:¬I=4)(dW:¬I=5)(l:¬I=7):ad aa 53 kj (bl X z s) nk:=by
 refine ah0 ?_;intro F D b a U Z aS;exact Rf
theorem aAK(J:X.C.ok)(ak:i<X.C.cB)(al:bE X z s)(d:s.shut=true)(t:bW)(N:s.az[(X.C.a1+i)]?=some t)(R:t.on=none)(hk:I=7):ad aa 53 kj (bl X z s) nk:=by
 refine ah0 ?_;intro F D b a U Z aS;refine c8 ?_;refine aB rfl (fC (c:=false) (by rw[d];rfl) (qv rfl)) ?_;refine fW ?_;exact tQ
theorem aAL(J:X.C.ok)(ak:i<X.C.cB)(al:bE X z s)(d:s.shut=false)(aF:dJ (cf z.ap) O=none)(t:bW)(N:s.az[(X.C.a1+i)]?=some t)(R:t.on=none)(hk:I=4)(g:ad aa 92 [S em] [] (aH gR [])):ad aa 53 kj (bl X z s) nk:=by
 refine ahV ?_;intro F D b a U Z aS;exact Rt
theorem aAM(J:X.C.ok)(ak:i<X.C.cB)(al:bE X z s)(d:s.shut=false)(aF:dJ (cf z.ap) O=none)(t:bW)(N:s.az[(X.C.a1+i)]?=some t)(R:t.on=none)(hk:I=4)(aE:¬(0<=db/\db<=255))(g:ad aa 92 [S em] [] w6):ad aa 53 kj (bl X z s) nk:=by
 refine ahX ?_;intro F D b a U Z aS;exact RZ
theorem aAN(J:X.C.ok)(ak:i<X.C.cB)(al:bE X z s)(d:s.shut=false)(aF:dJ (cf z.ap) O=none)(t:bW)(N:s.az[(X.C.a1+i)]?=some t)(R:t.on=none)(hk:I=4)(aE:0<=db/\db<=255)(o:s.trace.length<most)(g:ad aa 92 [S em] [] w6):ad aa 53 kj (bl X z s) abb:=by
 refine ahX ?_;intro F D b a U Z aS;exact ag7
theorem aAO(J:X.C.ok)(ak:i<X.C.cB)(al:bE X z s)(d:s.shut=false)(aF:dJ (cf z.ap) O=none)(t:bW)(N:s.az[(X.C.a1+i)]?=some t)(R:t.on=none)(hk:I=5)(o:s.trace.length<most):ad aa 53 kj (bl X z s) abc:=by
 refine ahZ ?_;intro F D b a U Z aS;exact afw
theorem aAP(J:X.C.ok)(ak:i<X.C.cB)(al:bE X z s)(d:s.shut=false)(aF:dJ (cf z.ap) O=none)(t:bW)(N:s.az[(X.C.a1+i)]?=some t)(R:t.on=none)(h2:¬I=2)(bu:¬I=4)(dW:¬I=5)(l:¬I=7):ad aa 53 kj (bl X z s) nk:=by
 refine ah2 ?_;intro F D b a U Z aS;exact Rf
theorem aAQ(J:X.C.ok)(ak:i<X.C.cB)(al:bE X z s)(d:s.shut=false)(aF:dJ (cf z.ap) O=none)(t:bW)(N:s.az[(X.C.a1+i)]?=some t)(R:t.on=none)(hk:I=7)(y:ao)(f9:ad aa 95 [ptr Ep 0,af 1] (bl X z {s with shut:=true}) dX):ad aa 53 kj (bl X z s) tN:=by
 refine ah2 ?_;intro F D b a U Z aS;exact agK
theorem aAR(J:X.C.ok)(ak:i<X.C.cB)(al:bE X z s)(d:s.shut=false)(e:Nat)(aF:dJ (cf z.ap) O=some (ptr e 0))(t:bW)(N:s.az[(X.C.a1+i)]?=some t)(R:t.on=none)(hk:I=4)(g:ad aa 92 [S em] [] (aH gR [])):ad aa 53 kj (bl X z s) nk:=by
 refine ahU ?_;intro F D b a U Z aS;exact Rt
theorem aAS(J:X.C.ok)(ak:i<X.C.cB)(al:bE X z s)(d:s.shut=false)(e:Nat)(aF:dJ (cf z.ap) O=some (ptr e 0))(t:bW)(N:s.az[(X.C.a1+i)]?=some t)(R:t.on=none)(hk:I=4)(aE:¬(0<=db/\db<=255))(g:ad aa 92 [S em] [] w6):ad aa 53 kj (bl X z s) nk:=by
 refine ahW ?_;intro F D b a U Z aS;exact RZ
theorem aAT(J:X.C.ok)(ak:i<X.C.cB)(al:bE X z s)(d:s.shut=false)(e:Nat)(aF:dJ (cf z.ap) O=some (ptr e 0))(t:bW)(N:s.az[(X.C.a1+i)]?=some t)(R:t.on=none)(hk:I=4)(aE:0<=db/\db<=255)(g:ad aa 92 [S em] [] w6)(y:ao)(f9:ad aa 93 [ptr Ep 0,.agg (py ⟨-1 -(i:Int),O,em,db,false⟩).toArray,bj 94 []] (bl X z s) dX):ad aa 53 kj (bl X z s) tN:=by
 refine ahW ?_;intro F D b a U Z aS;refine afW ?_;refine dC ?_;refine cP ?_;refine fW ?_;exact EP
theorem aAU(J:X.C.ok)(ak:i<X.C.cB)(al:bE X z s)(d:s.shut=false)(e:Nat)(aF:dJ (cf z.ap) O=some (ptr e 0))(t:bW)(N:s.az[(X.C.a1+i)]?=some t)(R:t.on=none)(hk:I=5)(y:ao)(f9:ad aa 95 [ptr Ep 0,af O] (bl X z s) dX):ad aa 53 kj (bl X z s) tN:=by
 refine ahY ?_;intro F D b a U Z aS;refine dC ?_;refine cP ?_;refine bQ ?_;exact EP
theorem aAV(J:X.C.ok)(ak:i<X.C.cB)(al:bE X z s)(d:s.shut=false)(e:Nat)(aF:dJ (cf z.ap) O=some (ptr e 0))(t:bW)(N:s.az[(X.C.a1+i)]?=some t)(R:t.on=none)(h2:¬I=2)(bu:¬I=4)(dW:¬I=5)(l:¬I=7):ad aa 53 kj (bl X z s) nk:=by
 refine ah1 ?_;intro F D b a U Z aS;exact Rf
theorem aAW(J:X.C.ok)(ak:i<X.C.cB)(al:bE X z s)(d:s.shut=false)(e:Nat)(aF:dJ (cf z.ap) O=some (ptr e 0))(t:bW)(N:s.az[(X.C.a1+i)]?=some t)(R:t.on=none)(hk:I=7)(y:ao)(f9:ad aa 95 [ptr Ep 0,af 1] (bl X z {s with shut:=true}) dX):ad aa 53 kj (bl X z s) tN:=by
 refine ah1 ?_;intro F D b a U Z aS;exact agK
end
abbrev gv(e:cZ):List Value:=[af e.kind,af e.a,af e.b,S e.tag,af e.n]
def ab7{X:cN}{z:dn}{s y:ao}{j a:Nat}(J:X.C.ok)(al:bE X z s)(ag:Th.ask X.C j s a=some y):ad aa 95 [ptr (X.bp j) 0,af a] (bl X z s) dX:=by
 unfold Th.ask at ag;split at ag
 . rename_i a6
   obtain⟨aM,aW⟩:=a6;obtain⟨t,N,R,rfl⟩:=Th.jY ag;have hp:=alg (L:=List.replicate X.C.cells 0) J ga aW;have h1:=hp.len;have h2:=hp.dB;exact jL (dP z.cI z.cJ s.trace::b3 X.am .i64 (cf z.ap)::ax jJ::aaJ) (avJ X z s j a t aW ae J.hg aM N R) au (λu H q=>by
    obtain⟨rfl,aI,aQ,rfl⟩:=q;exact⟨bl X Ev aa8,⟨rfl,Ev,aa8,rfl,jl,rfl⟩,au⟩)
 . cases ag
theorem aAX{X:cN}{z:dn}{s y:ao}{b:Bool}{n:Nat}{f0:Nat->Th.fU}{e:cZ}(J:X.C.ok)(cT:Th.hS X.P)(cH:Th.iM f0 X.C X.C.cells)(al:bE X z s)(h:Th.hi f0 X.C X.P n s)(aM:n+1<=Th.gM)(g:ad aa 92 [S e.tag] [] Eu)(ag:Th.hand X.C X.P s e=some (y,b)):
 ad aa 53 [ptr X.h 0,.agg (gv e).toArray] (bl X z s) vi:=by
 refine Kg ?_;intro hu H u V;have W:bM s+Th.hE<=Th.hE*(n+1):=y3;have r:Th.hE*(n+1)<1099511627776:=ID;obtain⟨I,ea,O,em,db⟩:=e;unfold Th.hand at ag;simp only at ag;by_cases aE:ea<0\/(X.C.cB:Int)<=ea
 . rw[bd aE]at ag
   cases ag;exact aAv X z s ea I O db em J al (by have:=J.h1;omega)
 . rw[a8 aE]at ag
   obtain⟨i,rfl⟩:∃i:Nat,ea=i:=⟨ea.toNat,by omega⟩;have ak:i<X.C.cB:=ae;rw[BW]at ag;obtain⟨t,cK⟩:=Th.qY (j:=X.C.a1+i) h.inv ae;have l:=rB cK;by_cases d:s.shut=true
   . have g3:(s.shut||!decide QP)=true:=by rw[d];rfl
     by_cases cd:I=2
     . rw[bd cd]at ag
       cases B:t.on with
       |
        some q=>
        rw[l,B]at ag;simp only[FJ,fi]at ag;obtain⟨m,h1,h2⟩:=kX.1 ag;cases h2;exact aAw X z s i I O db em J ak al d t q.1 q.2 cK B cd y QH
       |
        none=>
        rw[l,B]at ag;simp only[FK,eP,ep]at ag;cases ag;exact aAx X z s i I O db em J ak al d t cK B cd
     . rw[a8 cd]at ag
       cases B:t.on with
       |
        some q=>
        rw[l,B]at ag;simp only[FJ,fi]at ag;cases ag;exact aAy X z s i I O db em J ak al d t q.1 q.2 cK B cd
       |
        none=>
        rw[l,B]at ag;simp only[FK,eP,ep]at ag;by_cases eM:I=4
        . rw[bd eM]at ag
          cases Y:mS em with
          |
           false=>
           rw[Y]at g;rw[bd (Or.inl (by rw[Y];rfl))]at ag;cases ag;exact aAF X z s i I O db em J ak al d t cK B eM g
          |
           true=>
           rw[Y]at g;by_cases T:0<=db/\db<=255
           . rw[a8 Pw]at ag
             rw[g3]at ag;rw[bd rfl]at ag;obtain⟨m,h1,h2⟩:=kX.1 ag;cases h2;obtain⟨o,rfl⟩:=Th.li h1;exact aAH X z s i I O db em J ak al d t cK B eM T o g
           . rw[bd (Or.inr ae)]at ag
             cases ag;exact aAG X z s i I O db em J ak al d t cK B eM T g
        . rw[a8 eM]at ag
          by_cases f:I=5
          . rw[bd f,g3]at ag
            rw[bd rfl]at ag;obtain⟨m,h1,h2⟩:=kX.1 ag;cases h2;obtain⟨o,rfl⟩:=Th.li h1;exact aAI X z s i I O db em J ak al d t cK B f o
          . rw[a8 f]at ag
            by_cases c:I=7
            . rw[a8 (by rintro⟨_,h1⟩;rw[d]at h1;cases h1)]at ag
              cases ag;exact aAK X z s i I O db em J ak al d t cK B c
            . rw[a8 (λh1=>c h1.1)]at ag
              cases ag;exact aAJ X z s i I O db em J ak al d t cK B cd eM f c
   replace d:s.shut=false:=by simpa using d
   by_cases aA:1<=O/\O<=(s.aJ.length:Int)
   . have g3:(s.shut||!decide QP)=false:=by rw[d,kM aA];rfl
     have No:=al.ap;have aF:=zJ (cz (show O.toNat -1<z.ap.length by omega));rw[show((O.toNat -1+1:Nat):Int)=O by omega]at aF;by_cases cd:I=2
     . rw[bd cd]at ag
       cases B:t.on with
       |
        some q=>
        rw[l,B]at ag;simp only[FJ,fi]at ag;obtain⟨m,h1,h2⟩:=kX.1 ag;cases h2;exact aAC X z s i I O db em J ak al d _ aF t q.1 q.2 cK B cd y QH
       |
        none=>
        rw[l,B]at ag;simp only[FK,eP,ep]at ag;cases ag;exact aAD X z s i I O db em J ak al d _ aF t cK B cd
     . rw[a8 cd]at ag
       cases B:t.on with
       |
        some q=>
        rw[l,B]at ag;simp only[FJ,fi]at ag;cases ag;exact aAE X z s i I O db em J ak al d _ aF t q.1 q.2 cK B cd
       |
        none=>
        rw[l,B]at ag;simp only[FK,eP,ep]at ag;by_cases eM:I=4
        . rw[bd eM]at ag
          cases Y:mS em with
          |
           false=>
           rw[Y]at g;rw[bd (Or.inl (by rw[Y];rfl))]at ag;cases ag;exact aAR X z s i I O db em J ak al d _ aF t cK B eM g
          |
           true=>
           rw[Y]at g;by_cases T:0<=db/\db<=255
           . rw[a8 Pw]at ag
             rw[g3]at ag;rw[a8 bJ]at ag;obtain⟨m,h1,h2⟩:=kX.1 ag;cases h2;exact aAT X z s i I O db em J ak al d _ aF t cK B eM T g y (pv (L:=[]) (FA (p:=0) bJ) (T8 (k:=.nil) al h1))
           . rw[bd (Or.inr ae)]at ag
             cases ag;exact aAS X z s i I O db em J ak al d _ aF t cK B eM T g
        . rw[a8 eM]at ag
          by_cases f:I=5
          . rw[bd f,g3]at ag
            rw[a8 bJ]at ag;obtain⟨m,h1,h2⟩:=kX.1 ag;cases h2;exact aAU X z s i I O db em J ak al d _ aF t cK B f y (by have aN:=ab7 J al h1;rw[show((O.toNat:Nat):Int)=O by omega]at aN;exact aN)
          . rw[a8 f]at ag
            by_cases c:I=7
            . rw[bd ⟨c,d⟩]at ag
              obtain⟨m,h1,h2⟩:=kX.1 ag;cases h2;exact aAW X z s i I O db em J ak al d _ aF t cK B c y ab6
            . rw[a8 (λh1=>c h1.1)]at ag
              cases ag;exact aAV X z s i I O db em J ak al d _ aF t cK B cd eM f c
   . have g3:(s.shut||!decide QP)=true:=by rw[d,mO aA];rfl
     have aF:dJ (cf z.ap) O=none:=KU (by rw[al.ap];exact aA);by_cases cd:I=2
     . rw[bd cd]at ag
       cases B:t.on with
       |
        some q=>
        rw[l,B]at ag;simp only[FJ,fi]at ag;obtain⟨m,h1,h2⟩:=kX.1 ag;cases h2;exact aAz X z s i I O db em J ak al d aF t q.1 q.2 cK B cd y QH
       |
        none=>
        rw[l,B]at ag;simp only[FK,eP,ep]at ag;cases ag;exact aAA X z s i I O db em J ak al d aF t cK B cd
     . rw[a8 cd]at ag
       cases B:t.on with
       |
        some q=>
        rw[l,B]at ag;simp only[FJ,fi]at ag;cases ag;exact aAB X z s i I O db em J ak al d aF t q.1 q.2 cK B cd
       |
        none=>
        rw[l,B]at ag;simp only[FK,eP,ep]at ag;by_cases eM:I=4
        . rw[bd eM]at ag
          cases Y:mS em with
          |
           false=>
           rw[Y]at g;rw[bd (Or.inl (by rw[Y];rfl))]at ag;cases ag;exact aAL X z s i I O db em J ak al d aF t cK B eM g
          |
           true=>
           rw[Y]at g;by_cases T:0<=db/\db<=255
           . rw[a8 Pw]at ag
             rw[g3]at ag;rw[bd rfl]at ag;obtain⟨m,h1,h2⟩:=kX.1 ag;cases h2;obtain⟨o,rfl⟩:=Th.li h1;exact aAN X z s i I O db em J ak al d aF t cK B eM T o g
           . rw[bd (Or.inr ae)]at ag
             cases ag;exact aAM X z s i I O db em J ak al d aF t cK B eM T g
        . rw[a8 eM]at ag
          by_cases f:I=5
          . rw[bd f,g3]at ag
            rw[bd rfl]at ag;obtain⟨m,h1,h2⟩:=kX.1 ag;cases h2;obtain⟨o,rfl⟩:=Th.li h1;exact aAO X z s i I O db em J ak al d aF t cK B f o
          . rw[a8 f]at ag
            by_cases c:I=7
            . rw[bd ⟨c,d⟩]at ag
              obtain⟨m,h1,h2⟩:=kX.1 ag;cases h2;exact aAQ X z s i I O db em J ak al d aF t cK B c y ab6
            . rw[a8 (λh1=>c h1.1)]at ag
              cases ag;exact aAP X z s i I O db em J ak al d aF t cK B cd eM f c
theorem alr(X:cN)(z:dn)(s:ao)(O db:Int)(em:cC)(y:ao)(j:Nat)(t:bW)(x E:Value)(a:aq)(J:X.C.ok)(i:j<X.C.a1)(v:j<s.az.length)
 (d:∀D h,Sat (ki X j x E {t with draw:=eU db}::a::D) h->Sat (hF X z.ap z.ai j zb::D) h)(f9:ad aa 44 [ptr (X.bp j) 0,y9 X j 45] (bl X z I5) dX):
 ad aa 26 acH [ki X j x E t,a,jj X z s j] tN:=by
 refine gq (M:=[ki X j x E t,cL X z s,gk X,eW PE]) (λD h q=>?_) (aAu X z s O db em y j t x E (eW PE) J i ?_)
 . have g5:Sat (ki X j x E t::jj X z s j::a::D) h:=Sat.tail (λh q=>Sat.swap q) q
   have w:=Sat.tail (λh q=>s5 (l:=LT X z s j) q) g5;have T:=(show∀h,Sat _ h->Sat (ki X j x E t::cL X z s::gk X::([a,dP z.cI z.cJ s.trace,fl z.na z.fq s.notes,b3 X.am .i64 (cf z.ap),ax (e5 X z.ap s.aJ),b3 X.e6 .u64 (cf z.ai),ax (gj z.ai s.lets),Lg.ds X.ld s.bc,ez X.da X.C.dG s.dead,ch X.m s.L z.tt,fA X,fw X s.bs,eC X.bG X.m X.C.bG X.C.aZ,ax (dZ X),fu X,gX X,gd X,ax ((de X z.ap z.ai s.az).set j ft)]++D)) h from(au)) h w;exact Sat.tail (λh q=>Sat.tail (λh q=>Sat.tail (λh q=>s4 h q) q) q) T
 . refine gq (M:=bl X z I5) (λD h q=>?_) f9
   refine FI (t:=zb) v h (d _ h ?_);have w:=Sat.tail (λh q=>Sat.tail (λh q=>Sat.tail (λh q=>s5 (l:=PE) q) q) q) q;have T:=(show∀h,Sat _ h->Sat (ki X j x E {t with draw:=eU db}::a::(LT X z s j++D)) h from(au)) h w;exact Sat.tail (λh q=>Sat.tail (λh q=>s4 (l:=LT X z s j) h q) q) T
theorem als{X:cN}{z:dn}{s y:ao}{b:Bool}{n:Nat}{f0:Nat->Th.fU}{e:cZ}(J:X.C.ok)(cT:Th.hS X.P)(cH:Th.iM f0 X.C X.C.cells)(al:bE X z s)(h:Th.hi f0 X.C X.P n s)(aM:n+1<=Th.gM)(g:ad aa 92 [S e.tag] [] Eu)(ag:Th.jq X.C X.P s e=some (y,b)):
 ad aa 26 [ptr X.h 0,.agg (gv e).toArray] (bl X z s) vi:=by
 have V:=h.ph;have u:Th.hE=90000:=rfl;unfold Th.jq at ag;by_cases fS:e.kind=1
 . rw[bd fS]at ag
   obtain⟨I,ea,O,em,db⟩:=e;simp only at fS ag;subst fS;by_cases aE:ea<0\/(X.C.a1:Int)<=ea
   . rw[bd aE]at ag
     cases ag;exact aAt X z s O db em ea J al (by have:=J.aG;omega)
   . rw[a8 aE]at ag
     obtain⟨j,rfl⟩:∃j:Nat,ea=j:=⟨ea.toNat,by omega⟩;have i:j<X.C.a1:=ae;rw[BW]at ag;obtain⟨t,cK⟩:=Th.qY (j:=j) h.inv ae;have v:j<s.az.length:=(dc.1 cK).1;simp only[cK,qM,k3]at ag;obtain⟨m,h1,h2⟩:=kX.1 ag;cases h2;have aL:0<=eU db/\eU db<18446744073709551616:=by rw[zC];omega
     have r:Th.hi f0 X.C X.P n I5:=⟨Th.aku h.inv cK rfl aL,h.ph⟩;have f9:=alp J cT cH (z:=z) (s:=I5) jl r aM i h1;refine gq (M:=[hF X z.ap z.ai j t,jj X z s j]) (λD h E=>Ui cK h E) ?_;cases B:t.on with
     |
      none=>
      have ay:hF X z.ap z.ai j t=ki X j .nilIface .nilFunc t:=by unfold hF;rw[B]
      have aV:hF X z.ap z.ai j zb=ki X j .nilIface .nilFunc zb:=by unfold hF;rw[B]
      rw[ay];refine gq (M:=[ki X j .nilIface .nilFunc t,eW [],jj X z s j]) (λD h E=>Sat.tail (λh E=>s4 (l:=[]) h E) E) (alr X z s O db em y j t .nilIface .nilFunc (eW []) J i v (λD h E=>?_) f9);rw[aV];exact Sat.tail (λh E=>s5 (l:=[]) E) E
     |
      some q=>
      obtain⟨o,k⟩:=q;have ay:hF X z.ap z.ai j t=dj (bv:=Nat×Nat×List Value) zn P6:=by unfold hF;rw[B]
      have aV:hF X z.ap z.ai j zb=dj (bv:=Nat×Nat×List Value) zn (fun⟨p,f,c⟩=>(ki X j w0 (bj f c) zb::BC)):=by unfold hF;rw[B]
      rw[ay];refine xP (fun⟨p,f,c⟩ _=>?_);refine gq (M:=[ki X j (.iface (nL o) (ptr p 0)) (bj f c) t,eW BC,jj X z s j]) (λD h E=>Sat.tail (λh E=>s4 (l:=BC) h E) E) (alr X z s O db em y j t _ _ (eW BC) J i v (λD h E=>?_) f9);rw[aV];exact cF (D:=D) (p,f,c) trivial qB h (Sat.tail (λh E=>s5 (l:=BC) E) E)
 rw[a8 fS]at ag;by_cases iR:e.kind=3
 . rw[bd iR]at ag
   have bh:=alq J cT cH al h aM ag;obtain⟨I,ea,O,em,db⟩:=e;simp only at iR;subst iR;exact aAp X z s O db em y b ea bh
 rw[a8 iR]at ag;by_cases a:e.kind=6
 . rw[bd a]at ag
   obtain⟨I,ea,O,em,db⟩:=e;simp only at a;subst a;split at ag
   . rename_i hk
     cases ag;exact aAq X z s O db em ea al hk
   . rename_i hk
     cases ag;exact aAr X z s O db em ea al hk
 rw[a8 a]at ag;have bh:=aAX J cT cH al h aM g ag;obtain⟨I,ea,O,em,db⟩:=e;exact aAs X z s O db em y b I ea fS iR a bh
section
variable{X:cN}{ap ai:List Nat}
def alt{j:Nat}{t:bW}{h:eA}(E:hF X ap ai j t h):h (X.bp j)≠none:=by
 unfold hF at E;cases aK:t.on with
 |
  none=>
  rw[aK]at E;intro e;have L:h (X.bp j)=some (.cells [ptr X.h 0,af (jT X j),Value.nilIface,Value.nilFunc,bw t.draw,Value.bool t.ij].toArray 128 (0,0)):=E;rw[e]at L;cases L
 |
  some q=>
  obtain⟨o,k⟩:=q;rw[aK]at E;obtain⟨⟨p,f,c⟩,_,aD⟩:=hd (D:=[]) (Sat.one E);obtain⟨h1,h2,_,rfl,aW,_⟩:=aD;intro e;have aN:=join_some (h2:=h2) aW;rw[e]at aN;cases aN
def aAY{l:List bW}{D:List aq}{h:eA}(E:Sat (ax (de X ap ai l)::D) h){i j:Nat}(ak:i<l.length)(N:j<l.length)(e:X.bp i=X.bp j):i=j:=by
 by_cases g2:i=j
 . exact g2
 . exfalso
   have ay:(de X ap ai l)[i]?=some (hF X ap ai i l[i]):=by simp[sO,ak]
   have aV:((de X ap ai l).set i ft)[j]?=some (hF X ap ai j l[j]):=by rw[qK g2];simp[sO,N]
   have gt:=sj ay h E;have L:=Sat.tail (λh E=>sj aV h E) gt;obtain⟨aW,aE,aL,_,a,⟨aA,aj,_,rfl,b,_⟩⟩:=L;have c1:=alt a;have bn:=alt b;rw[e]at c1;rcases aL (X.bp j)with h1|h1
   . exact c1 h1
   . have h2:aA (X.bp j)=none:=by
      by_cases aN:aA (X.bp j)=none
      . exact aN
      . obtain⟨v,Y⟩:=Option.ne_none_iff_exists'.1 aN
        have:=join_some (h2:=aj) Y;rw[h1]at this;cases this
     exact bn h2
end
section
variable(X:cN)(z:dn)(s:ao)(j:Nat)(t:bW)
def aAZ(N:s.az[j]?=some t)(R:t.on=none):ad aa 48 eo rG (aH gR rG):=by
 refine aw Tryz.func48 λF D=>?_;refine bQ ?_;refine aT (xm X z s j t N R) ?_;refine bB ?_;exact aX ⟨rfl,rfl⟩
def aA0(N:s.az[j]?=some t)(o:bU)(k:Th.K)(R:t.on=some (o,k)):ad aa 48 eo rG (aH h6 rG):=by
 refine aw Tryz.func48 λF D=>?_;refine bQ ?_;refine aT (BE X z s j t o k N R) ?_;refine bB ?_;exact aX ⟨rfl,rfl⟩
def aA1(N:s.az[j]?=some t)(ar:Nat)(o:bU)(k:Th.K)(R:t.on=some (o,k)):ad aa 50 Jx u7 P7:=by
 refine aw Tryz.func50 λF D=>?_;refine aej ?_;refine aT (BE X z s j t o k N R) ?_;refine ui ?_;exact aX ⟨rfl,rfl⟩
def aA2(N:s.az[j]?=some t)(ar:Nat)(R:t.on=none)(aW:t.ij=false):ad aa 50 Jx u7 P7:=by
 refine aw Tryz.func50 λF D=>?_;haveI:h7 (X.bp j) 5 (ax (de X z.ap z.ai s.az)) (.bool false):=by
  exact Rn
 refine aft ?_;refine gg ?_;exact vY
def aA3(N:s.az[j]?=some t)(ar:Nat)(R:t.on=none)(aW:t.ij=true)(i:j<X.C.a1)(ut:X.C.a1<=8)(av:2+X.C.a1<=s.L.length)(T:s.L.getD (2+j) 0=0):ad aa 50 Jx u7 P7:=by
 refine aw Tryz.func50 λF D=>?_;haveI:=sH (X:=X) (ap:=z.ap) (ai:=z.ai) N;haveI:h7 (X.bp j) 5 (ax (de X z.ap z.ai s.az)) (.bool true):=by
  exact Rn
 refine ag3 ?_;intro ay;refine go_v rfl (.yes rfl rfl rfl) rfl ac2 ?_;exact Dd
def aA4(N:s.az[j]?=some t)(ar:Nat)(R:t.on=none)(aW:t.ij=true)(i:j<X.C.a1)(ut:X.C.a1<=8)(av:2+X.C.a1<=s.L.length)(T:¬s.L.getD (2+j) 0=0):ad aa 50 Jx u7 (aH gR u7):=by
 refine aw Tryz.func50 λF D=>?_;haveI:=sH (X:=X) (ap:=z.ap) (ai:=z.ai) N;haveI:h7 (X.bp j) 5 (ax (de X z.ap z.ai s.az)) (.bool true):=by
  exact Rn
 refine ag3 ?_;intro ay;refine go_v rfl (.yes rfl rfl rfl) rfl QM ?_;exact Dd
end
def alu{P:Program}{f:FuncId}{args:List Value}{X:cN}{ap ai:List Nat}{l:List bW}{a2:List aq}{post:Value->List aq->Prop}(h:(∀i j,i<l.length->j<l.length->X.bp i=X.bp j->i=j)->ad P f args (ax BF::a2) post):ad P f args (ax BF::a2) post:=λF D w s=>
 h (λi j ak N e=>aAY s.e4 ak N e) F D w s
def alv(X:cN)(k n:Nat):B5 ((List.range n).map λi=>X.bp (k+i))=(List.range n).map λi=>ptr (X.bp (k+i)) 0:=by
 simp[B5,wU,Function.comp_def]
def alw{a:Option Addr}{c e n:Nat}{xs:List Value}{D:List aq}{h:eA}(E:Sat (own (.slice a n c) e 1 n xs::D) h):gI h (.slice a n c) n xs:=by
 obtain⟨h1,h2,_,rfl,o,_⟩:=E;exact(oh.rd o).more
def FL(X:cN)(k n:Nat)(b:Nat->Bool)(p:Nat):Bool:=(List.range n).any λi=>decide (X.bp (k+i)=p)&&b i
section
variable{X:cN}{k n:Nat}{b:Nat->Bool}
def LC(inj:∀i j,i<n->j<n->X.bp (k+i)=X.bp (k+j)->i=j){i:Nat}(ak:i<n):FL X k n b (X.bp (k+i))=b i:=by
 unfold FL;rw[o4];simp only[zt,pV,ii,kN];constructor
 . rintro⟨j,N,e,aA⟩
   rw[inj j i N ak e]at aA;exact aA
 . exact λaA=>⟨i,ak,rfl,aA⟩
def alx(inj:∀i j,i<n->j<n->X.bp (k+i)=X.bp (k+j)->i=j):((List.range n).map λi=>X.bp (k+i)).any (FL X k n b)=(List.range n).any b:=by
 rw[List.any_map];apply o4.2;simp only[zt,pV,Function.comp_apply];constructor
 . rintro⟨i,ak,aA⟩
   rw[LC inj ak]at aA;exact⟨i,ak,aA⟩
 . rintro⟨i,ak,aA⟩
   exact⟨i,ak,by rw[LC inj ak];exact aA⟩
def arz(X:cN)(z:dn)(s:ao)(J:X.C.ok)(av:s.az.length=X.C.a1+X.C.cB+1):ad aa 49 [.slice X.zG X.C.cB X.zH,.func (.func 48) #[] #[]] QQ (aH (.bool ac5) QQ):=by
 refine alu λa=>?_;have inj:∀i j,i<X.C.cB->j<X.C.cB->X.bp (X.C.a1+i)=X.bp (X.C.a1+j)->i=j:=λi j ak N e=>by have:=a _ _ ae ae e;omega
 have bu:=J.bu;have bh:=aiA ((List.range X.C.cB).map λi=>X.bp (X.C.a1+i)) X.zG X.zH 48 [] QQ (FL X X.C.a1 X.C.cB (λi=>busy s (X.C.a1+i))) Z8
  (λh E=>by rw[alv,oQ,u5];exact alw (Sat.swap E))
  (fun x ah => by
   obtain⟨i,ak,rfl⟩:=lU.1 ah;rw[pV]at ak;rw[LC inj ak];obtain⟨t,cK⟩:∃t,s.az[X.C.a1+i]?=some t:=⟨_,cz ae⟩;rw[rB cK];refine jL [gX X] (Q:=λu H=>u=.bool t.on.isSome/\H=rG) (M:=rG) ?_ qB (λu H q=>by obtain⟨rfl,rfl⟩:=q;exact⟨_,dI,λh E=>E⟩);cases B:t.on with
   |none=>exact aAZ X z s _ t cK B
   |some q=>exact aA0 X z s _ t cK q.1 q.2 B)
 rw[oQ,u5,alx inj]at bh;exact bh
def aA5(X:cN)(z:dn)(s:ao)(ar:Nat)(J:X.C.ok)(av:s.az.length=X.C.a1+X.C.cB+1)(K:2+X.C.a1<=s.L.length):ad aa 49 [.slice X.zE X.C.a1 X.zF,.func (.func 50) #[] [ptr ar 0].toArray] Ef
 (aH (.bool ((List.range X.C.a1).any λi=>!(!busy s i&&((s.az[i]?).map (·.ij)).getD false&&!decide I4))) Ef):=by
 refine alu λa=>?_;have inj:∀i j,i<X.C.a1->j<X.C.a1->X.bp (0+i)=X.bp (0+j)->i=j:=λi j ak N e=>by have:=a _ _ ae ae e;omega
 have O:=J.bQ;have bh:=aiA ((List.range X.C.a1).map λi=>X.bp (0+i)) X.zE X.zF 50 [ptr ar 0] Ef (FL X 0 X.C.a1 (λi=>!(!busy s i&&((s.az[i]?).map (·.ij)).getD false&&!decide I4))) Z8
  (fun h E => by
   rw[alv,oQ,u5];simp only[lu];exact alw ((show∀h,Sat [ax (de X z.ap z.ai s.az),ab ar 32 [ptr X.h 0],cL X z s,ch X.m s.L z.tt,gk X] h->Sat [gk X,ax (de X z.ap z.ai s.az),ab ar 32 [ptr X.h 0],cL X z s,ch X.m s.L z.tt] h from(au)) h E))
  (fun x ah => by
   obtain⟨i,ak,rfl⟩:=lU.1 ah;rw[pV]at ak;rw[LC inj ak,lu];obtain⟨t,cK⟩:∃t,s.az[i]?=some t:=⟨_,cz ae⟩;rw[rB cK,cK];simp only[nJ,KS];have fin:∀v:Bool,v=!ac6->ad aa 50 [ptr (X.bp i) 0,ptr ar 0] u7 (aH (.bool v) u7)->ad aa 50 [ptr (X.bp i) 0,ptr ar 0] Ef (aH (.bool (!ac6)) Ef):=λv Y h=>by
    subst Y;exact jL [gk X] h (au) (λu H q=>by obtain⟨rfl,rfl⟩:=q;exact⟨_,dI,(au)⟩)
   cases B:t.on with
   |some q=>rw[B]at fin;exact fin true ga (aA1 X z s i t cK ar q.1 q.2 B)
   |
    none=>
    rw[B]at fin;cases aW:t.ij with
    |false=>rw[aW]at fin;exact fin true ga (aA2 X z s i t cK ar B aW)
    |
     true=>
     rw[aW]at fin;by_cases T:s.L.getD (2+i) 0=0
     . exact fin true (by rw[kM T];rfl) (aA3 X z s i t cK ar B aW ak O K T)
     . exact fin false (by rw[mO T];rfl) (aA4 X z s i t cK ar B aW ak O K T))
 rw[oQ,u5,alx inj]at bh;exact bh
end
def aA6(X:cN)(z:dn)(s:ao)(J:X.C.ok)(av:s.az.length=X.C.a1+X.C.cB+1)(cl:((List.range X.C.cB).any λi=>busy s (X.C.a1+i))=false)(t:bW)(N:s.az[(X.C.a1+X.C.cB)]?=some t)(R:t.on=none)(hk:s.ticks=0)(K:2+X.C.a1<=s.L.length):ad aa 25 [ptr X.h 0] (bl X z s) (aH (.bool (!((List.range X.C.a1).any λi=>!(!busy s i&&((s.az[i]?).map (·.ij)).getD false&&!decide I4)))) (bl X z s)):=by
 refine aw Tryz.func25 λF D=>?_;refine bb ?_;refine wn λar=>?_;refine oz ?_;refine ci rfl (b1 rfl (IF) bF) ?_;refine Rw ?_;refine aT (xm X z s w3 t N R) ?_;refine c0 ?_;refine cP ?_;refine fr ?_;refine aT (aA5 X z s ar J av K) ?_;refine bi ?_;exact aX ⟨rfl,rfl⟩
def Uk{X:cN}{z:dn}{s:ao}{n:Nat}{f0:Nat->Th.fU}(J:X.C.ok)(h:Inv f0 X.C X.P n s):ad aa 25 [ptr X.h 0] (bl X z s) (aH (.bool (Th.quiet X.C s)) (bl X z s)):=by
 have av:=h.base.tZ;obtain⟨ak,S,_⟩:=h.bp;have K:2+X.C.a1<=s.L.length:=by
  rw[S.len];have dh:X.C.bA.size=X.C.a1+(2+2*X.C.aZ)+X.C.a1*(2+X.C.eI):=rfl;have gT:X.C.cells=2+X.C.bA.size+(3+2*X.C.iN)+X.C.aZ*X.C.aZ+X.C.aZ*X.C.e7:=rfl;omega
 obtain⟨t,cK⟩:∃t,s.az[(X.C.a1+X.C.cB)]?=some t:=⟨_,cz ae⟩;have G:(List.range X.C.cB).all (λi=>!busy s (X.C.a1+i))=!ac5:=by rw[<-aA7]
 unfold Th.quiet;rw[G,rB cK];cases cl:((List.range X.C.cB).any λi=>busy s (X.C.a1+i))with
 |
  true=>
  refine aw Tryz.func25 λF D=>?_;refine bb ?_;refine wn λar=>?_;refine eJ ?_;refine aG ?_;refine ci rfl (b1 rfl (IF) bF) ?_;rintro _ D ⟨_,⟨rfl,rfl⟩,rfl⟩;refine gg ?_;refine bB ?_;exact aX ⟨rfl,rfl⟩
 |
  false=>
  cases B:t.on with
  |
   some q=>
   refine aw Tryz.func25 λF D=>?_;refine bb ?_;refine wn λar=>?_;refine eJ ?_;refine aG ?_;refine ci rfl (b1 rfl (IF) bF) ?_;rintro _ D ⟨_,⟨rfl,rfl⟩,rfl⟩
   try simp only[cp,cm]
   refine c8 ?_;refine aT ade ?_;refine eJ ?_;refine bK ?_;exact aX ⟨rfl,rfl⟩
  |
   none=>
   by_cases hk:s.ticks=0
   . have bh:=aA6 X z s J av cl t cK B hk K
     rw[kM hk];rw[aA7]at bh;simp only[Bool.not_not]at bh;exact bh
   . rw[mO hk]
     refine aw Tryz.func25 λF D=>?_;refine bb ?_;refine wn λar=>?_;refine eJ ?_;refine aG ?_;refine ci rfl (b1 rfl (IF) bF) ?_;rintro _ D ⟨_,⟨rfl,rfl⟩,rfl⟩
     try simp only[cp,cm]
     refine c8 ?_;refine aT (xm X z s w3 t cK B) ?_;refine c0 ?_;refine cP ?_;refine dC ?_;exact aX ⟨rfl,rfl⟩
section
variable{X:cN}{z:dn}{f0:Nat->Th.fU}{ef i:Nat}{bP s:ao}
abbrev LD(X:cN)(j:Nat)(s:ao):Option ao:=Th.stepT X.C X.P (er X.C j) j s
abbrev zU(X:cN)(i:Nat)(s:ao):Option ao:=if busy s (X.C.a1+i)then eh X.C X.P (X.C.a1+i) s else some s
structure aA8(X:cN)(f0:Nat->Th.fU)(m r:Nat)(y:ao)(b:Bool)(k:Nat)(z:dn)(s:ao):Prop where
 al:bE X z s
 h:Th.hi f0 X.C X.P (r+13*k) s
 ag:Th.rest X.C X.P (m -k) s=some (y,b)
 hk:k<=m
structure xR(X:cN)(f0:Nat->Th.fU)(Z:Nat->ao->Option ao)(w ef:Nat)(bP:ao)(i:Nat)(z:dn)(s:ao):Prop where
 al:bE X z s
 h:Th.hi f0 X.C X.P (ef+i) s
 aj:Th.qU Z ((List.range w).drop i) s=some bP
 ak:i<=w
theorem aA9{y:ao}{n i:Nat}{f0:Nat->Th.fU}{t:bW}{o:bU}{k:Th.K}(J:X.C.ok)(cT:Th.hS X.P)(cH:Th.iM f0 X.C X.C.cells)(al:bE X z s)(h:Th.hi f0 X.C X.P n s)(aM:n+1<=Th.gM)(cK:s.az[X.C.a1+i]?=some t)(B:t.on=some (o,k))(ag:eh X.C X.P (X.C.a1+i) s=some y):
 ad aa 44 Je (bl X z s) dX:=by
 refine Kg ?_;intro hu H u V;have W:bM s+Th.hE<=Th.hE*(n+1):=y3;have r:Th.hE*(n+1)<1099511627776:=ID;exact Jf J cT cH r ae al h.inv cK B W ag
def xR.next{w ef i:Nat}{bP s:ao}{z:dn}(J:X.C.ok)(cT:Th.hS X.P)(cH:Th.iM f0 X.C X.C.cells)(h:xR X f0 (LD X) w ef bP i z s)(O:w<=X.C.a1)(ak:i<w)(aM:ef+i+1<=Th.gM):∃aD,LD X i s=some aD/\∀cj,bE X cj aD->xR X f0 (LD X) w ef bP (i+1) cj aD:=by
 have bh:=h.aj;rw[Th.Tu ak]at bh;obtain⟨aD,ay,aV⟩:=gZ.1 bh;have aE:=Th.Lr (j:=i) cH J cT aM h.h ae (Th.Ls J ae h.h);obtain⟨f,bz,o⟩:=aE;replace ay:Th.stepT X.C X.P (er X.C i) i s=some aD:=ay;obtain rfl:f=aD:=Z9;exact⟨f,bz,λcj d7=>⟨d7,o,aV,ak⟩⟩
def xR.aCW{z:dn}(J:X.C.ok)(cT:Th.hS X.P)(cH:Th.iM f0 X.C X.C.cells)(h:xR X f0 (zU X) X.C.cB ef bP i z s)(ak:i<X.C.cB)(aM:ef+i+1<=Th.gM):∃aD,zU X i s=some aD/\∀cj,bE X cj aD->xR X f0 (zU X) X.C.cB ef bP (i+1) cj aD:=by
 have bh:=h.aj;rw[Th.Tu ak]at bh;obtain⟨aD,ay,aV⟩:=gZ.1 bh;have aE:Th.hi f0 X.C X.P (ef+(i+1)) aD:=by
  unfold zU at ay;split at ay
  . rename_i aA
    obtain⟨f,bz,o⟩:=Th.Fv cH J cT aM h.h ae aA;obtain rfl:f=aD:=Z9;exact o
  . cases ay;exact h.h.aT (im _) aM
 exact⟨aD,ay,λcj d7=>⟨d7,aE,aV,ak⟩⟩
end
end Go.Proofs.YtnnhpnccfnghdaaGreat.L.bH
