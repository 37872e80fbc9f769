import Derived.Test.YtnnhpnccfnghdaaGreatA18
set_option linter.all false
set_option maxRecDepth 8000
set_option maxHeartbeats 5600000
namespace Go.Proofs.YtnnhpnccfnghdaaGreat.L.bM
open Go.Proofs.YtnnhpnccfnghdaaGreat.L
open Go.L Go.L.Ring Go.L.dD Go.L.ej Go.L.Whl Go.L.dP Go.L.Lx Go.L.Pg
open Go.L.Led (du dH dW bm aw fo)
open Go.L.Th (bO c0 dn bG dE bU b3 e4 b0 aq most dY cS fp eR dZ In cX c9 eS bB bP eT eU bn cI dF go bo Good ei eV ec acc Inv eG e5 fj busy dA eC eh fr)
attribute[local irreducible] G cJ GE c3 GT b1 dk c7 ds Exit.then Exit.inBlock
section
variable{l:List al}{f0:Nat->Th.ga}{X:cO}{z:dw}{a:Nat}{s:aq}{L:List Int}{j p n:Nat}(o:b3){t:b0}{D:List al}
def aj0(aX:1<=a/\a<=X.C.aT):(dd X)[a -1]?=some (xo X a):=by
 have e:a -1+1=a:=ad;rw[dd,fD,uZ ad,nD,e]
abbrev aj1(X:cO)(a:Nat)(L:List Int)(t:Int):List al:=[Po.eF (X.br a) (X.C.box a),bz X.m L t,fs ((X.br a).r false) X.m ((X.C.box a).ev false) ((X.C.box a).e1 false),fs ((X.br a).r true) X.m ((X.C.box a).ev true) ((X.C.box a).e1 true)]
def aj2{t:Int}(bf:(X.br a).m=X.m):Po.rv (X.br a) (X.C.box a) L t=eW (aj1 X a L t):=by
 unfold Po.rv;rw[bf];rfl
def aj3{t:Int}{w:gm}(bf:X.db.m=X.m):Ck.o3 X.db X.C.df L t w=eW [Ck.fv X.db X.C.df,bz X.m L t,fs X.db.r X.m (X.C.df.b+1) X.C.df.n,fw X.db.wp w]:=by
 unfold Ck.o3;rw[bf];rfl
def sW:∀h,Sat (l++D) h->Sat (eW l::D) h:=λh F=>cE (fO:=λ_:Unit=>True) (l:=λ_=>l) (D:=D) () trivial qu h F
def sX{h:eQ}(F:Sat (eW l::D) h):Sat (l++D) h:=by obtain⟨_,_,b⟩:=ha F;exact b
def aza(aj:bJ X z s){a:Nat}{Y:gz}(aX:1<=a/\a<=X.C.aT)(cd:ry (X.C.box a) s.L)(hp:sB Y):ab E (qO (.post a Y)) [ptr p 0] (cM X p (.post a Y)::LT X z s j) (aH (.bool (acc X.C s (.post a Y)).2.over) (cM X p (acc X.C s (.post a Y)).2::LT X (ja z (.post a Y)) (acc X.C s (.post a Y)).1 j)):=by
 have bi:=Po.atn (X.br a) (X.C.box a) p s.L z.tt Y cd hp;rw[aj2 (aj.fZ a),aj2 (aj.fZ a)]at bi;exact jO (ao ((dd X).set (a -1) eJ)::cp X z s::di z.b4 z.b5 s.trace::dX z.na z.dT s.notes::bs X.am .i64 (bD z.ap)::ao j5::bs X.dL .u64 (bD z.ae)::ao nh::Lg.cY X.ld s.a8::dz X.cF X.C.c6 s.dead::eo X::ee X s.bm::dy X.bl X.m X.C.bl X.C.aT::aaJ) bi (λh F=>by
  have gT:=(show∀h,Sat _ h->Sat [ao (dd X),Po.fa (X.br a) (X.C.box a) p Y,bz X.m s.L z.tt,cp X z s,di z.b4 z.b5 s.trace,dX z.na z.dT s.notes,bs X.am .i64 (bD z.ap),ao (dI X z.ap s.aE),bs X.dL .u64 (bD z.ae),ao (eB z.ae s.lets),Lg.cY X.ld s.a8,dz X.cF X.C.c6 s.dead,eo X,ee X s.bm,dy X.bl X.m X.C.bl X.C.aT,ef X,eL X,e7 X,eO X,ao ((cK X z.ap z.ae s.ax).set j eJ)] h from(au)) h F;have L:=sX (r6 (aj0 aX) h gT);refine Sat.swap (sW h ?_);exact(show∀h,Sat _ h->Sat (aj1 X a s.L z.tt++[Po.fa (X.br a) (X.C.box a) p Y,ao ((dd X).set (a -1) eJ),cp X z s,di z.b4 z.b5 s.trace,dX z.na z.dT s.notes,bs X.am .i64 (bD z.ap),ao (dI X z.ap s.aE),bs X.dL .u64 (bD z.ae),ao (eB z.ae s.lets),Lg.cY X.ld s.a8,dz X.cF X.C.c6 s.dead,eo X,ee X s.bm,dy X.bl X.m X.C.bl X.C.aT,ef X,eL X,e7 X,eO X,ao ((cK X z.ap z.ae s.ax).set j eJ)]) h from(au)) h L) (λu I q=>by
  obtain⟨rfl,rfl⟩:=q;refine⟨_,cj,λh F=>?_⟩;have gT:=sX (Sat.swap F);have L:=(show∀h,Sat _ h->Sat ([Po.eF (X.br a) (X.C.box a),fs ((X.br a).r false) X.m ((X.C.box a).ev false) ((X.C.box a).e1 false),fs ((X.br a).r true) X.m ((X.C.box a).ev true) ((X.C.box a).e1 true)]++[ao ((dd X).set (a -1) eJ),Po.fa (X.br a) (X.C.box a) p (oQ (X.C.box a) s.L Y),bz X.m (pU (X.C.box a) s.L Y) (if Y.over then z.tt else dV z.tt),cp X z s,di z.b4 z.b5 s.trace,dX z.na z.dT s.notes,bs X.am .i64 (bD z.ap),ao (dI X z.ap s.aE),bs X.dL .u64 (bD z.ae),ao (eB z.ae s.lets),Lg.cY X.ld s.a8,dz X.cF X.C.c6 s.dead,eo X,ee X s.bm,dy X.bl X.m X.C.bl X.C.aT,ef X,eL X,e7 X,eO X,ao ((cK X z.ap z.ae s.ax).set j eJ)]) h from(au)) h gT;have z3:=Rz (aj0 aX) h (sW h L);exact(show∀h,Sat _ h->Sat (cM X p (acc X.C s (.post a Y)).2::LT X (ja z (.post a Y)) (acc X.C s (.post a Y)).1 j) h from(au)) h z3)
def azb(aj:bJ X z s){az:gC}(cd:kd X.C.bC s.L)(a6:ww X.C.bC az):ab E (qO (.fE az)) [ptr p 0] (cM X p (.fE az)::LT X z s j) (aH (.bool (acc X.C s (.fE az)).2.over) (cM X p (acc X.C s (.fE az)).2::LT X (ja z (.fE az)) (acc X.C s (.fE az)).1 j)):=by
 have bi:ab E 474 [ptr p 0] (gy X.cN X.C.bC p az::bz X.cN.m s.L z.tt::abb) (aH (.bool (lx X.C.bC s.L az).over) (gy X.cN X.C.bC p (lx X.C.bC s.L az)::bz X.cN.m (nA X.C.bC s.L az) Qe::abb)):=ao1 X.cN X.C.bC p s.L z.tt az cd a6;rw[aj.gk]at bi;exact jO ZL bi (λh F=>by
  have gT:=sX ((show∀h,Sat _ h->Sat [eo X,gy X.cN X.C.bC p az,bz X.m s.L z.tt,cp X z s,di z.b4 z.b5 s.trace,dX z.na z.dT s.notes,bs X.am .i64 (bD z.ap),ao (dI X z.ap s.aE),bs X.dL .u64 (bD z.ae),ao (eB z.ae s.lets),Lg.cY X.ld s.a8,dz X.cF X.C.c6 s.dead,ee X s.bm,dy X.bl X.m X.C.bl X.C.aT,ao (dd X),ef X,eL X,e7 X,eO X,ao ((cK X z.ap z.ae s.ax).set j eJ)] h from(au)) h F);exact(show∀h,Sat _ h->Sat [gy X.cN X.C.bC p az,bz X.m s.L z.tt,fG X.cN X.C.bC,b8 X.cN X.C.bC,hU X.cN X.C.bC,ez X.cN X.C.bC,ao (k5 X.cN X.C.bC),cp X z s,di z.b4 z.b5 s.trace,dX z.na z.dT s.notes,bs X.am .i64 (bD z.ap),ao (dI X z.ap s.aE),bs X.dL .u64 (bD z.ae),ao (eB z.ae s.lets),Lg.cY X.ld s.a8,dz X.cF X.C.c6 s.dead,ee X s.bm,dy X.bl X.m X.C.bl X.C.aT,ao (dd X),ef X,eL X,e7 X,eO X,ao ((cK X z.ap z.ae s.ax).set j eJ)] h from(au)) h gT) (λu I q=>by
  obtain⟨rfl,rfl⟩:=q;refine⟨_,cj,λh F=>?_⟩;have gT:=(show∀h,Sat _ h->Sat ([fG X.cN X.C.bC,b8 X.cN X.C.bC,hU X.cN X.C.bC,ez X.cN X.C.bC,ao (k5 X.cN X.C.bC)]++[gy X.cN X.C.bC p (lx X.C.bC s.L az),bz X.m (nA X.C.bC s.L az) (if az.over then z.tt else dV z.tt),cp X z s,di z.b4 z.b5 s.trace,dX z.na z.dT s.notes,bs X.am .i64 (bD z.ap),ao (dI X z.ap s.aE),bs X.dL .u64 (bD z.ae),ao (eB z.ae s.lets),Lg.cY X.ld s.a8,dz X.cF X.C.c6 s.dead,ee X s.bm,dy X.bl X.m X.C.bl X.C.aT,ao (dd X),ef X,eL X,e7 X,eO X,ao ((cK X z.ap z.ae s.ax).set j eJ)]) h from(au)) h F;have L:Sat (eo X::(gy X.cN X.C.bC p (lx X.C.bC s.L az)::bz X.m (nA X.C.bC s.L az) Qe::ZL)) h:=sW h gT;exact(show∀h,Sat _ h->Sat (cM X p (acc X.C s (.fE az)).2::LT X (ja z (.fE az)) (acc X.C s (.fE az)).1 j) h from(au)) h L)
def azc(aj:bJ X z s){az:hx}(cd:rW X.C.df s.L)(K:iv s.L)(R:mg s.bm)(a6:tr az):ab E (qO (.ey az)) [ptr p 0] (cM X p (.ey az)::LT X z s j) (aH (.bool (acc X.C s (.ey az)).2.over) (cM X p (acc X.C s (.ey az)).2::LT X (ja z (.ey az)) (acc X.C s (.ey az)).1 j)):=by
 have bi:=Ck.amM X.db X.C.df p s.L z.tt s.bm az cd K R a6;rw[aj3 aj.fY,aj3 aj.fY]at bi;exact jO ZQ bi (λh F=>by
  have gT:=sX ((show∀h,Sat _ h->Sat [ee X s.bm,Ck.hT X.db X.C.df p az,bz X.m s.L z.tt,cp X z s,di z.b4 z.b5 s.trace,dX z.na z.dT s.notes,bs X.am .i64 (bD z.ap),ao (dI X z.ap s.aE),bs X.dL .u64 (bD z.ae),ao (eB z.ae s.lets),Lg.cY X.ld s.a8,dz X.cF X.C.c6 s.dead,eo X,dy X.bl X.m X.C.bl X.C.aT,ao (dd X),ef X,eL X,e7 X,eO X,ao ((cK X z.ap z.ae s.ax).set j eJ)] h from(au)) h F);refine Sat.swap (sW h ?_);exact(show∀h,Sat _ h->Sat ([Ck.fv X.db X.C.df,bz X.m s.L z.tt,fs X.db.r X.m (X.C.df.b+1) X.C.df.n,fw X.db.wp s.bm]++[Ck.hT X.db X.C.df p az,cp X z s,di z.b4 z.b5 s.trace,dX z.na z.dT s.notes,bs X.am .i64 (bD z.ap),ao (dI X z.ap s.aE),bs X.dL .u64 (bD z.ae),ao (eB z.ae s.lets),Lg.cY X.ld s.a8,dz X.cF X.C.c6 s.dead,eo X,dy X.bl X.m X.C.bl X.C.aT,ao (dd X),ef X,eL X,e7 X,eO X,ao ((cK X z.ap z.ae s.ax).set j eJ)]) h from(au)) h gT) (λu I q=>by
  obtain⟨rfl,rfl⟩:=q;refine⟨_,cj,λh F=>?_⟩;have gT:=sX (Sat.swap F);have L:=(show∀h,Sat _ h->Sat ([Ck.fv X.db X.C.df,fs X.db.r X.m (X.C.df.b+1) X.C.df.n,fw X.db.wp (jY X.C.df s.L s.bm az).2.1]++[Ck.hT X.db X.C.df p (jY X.C.df s.L s.bm az).2.2,bz X.m (jY X.C.df s.L s.bm az).1 (if az.over then z.tt else dV z.tt),cp X z s,di z.b4 z.b5 s.trace,dX z.na z.dT s.notes,bs X.am .i64 (bD z.ap),ao (dI X z.ap s.aE),bs X.dL .u64 (bD z.ae),ao (eB z.ae s.lets),Lg.cY X.ld s.a8,dz X.cF X.C.c6 s.dead,eo X,dy X.bl X.m X.C.bl X.C.aT,ao (dd X),ef X,eL X,e7 X,eO X,ao ((cK X z.ap z.ae s.ax).set j eJ)]) h from(au)) h gT;have z3:Sat (ee X (jY X.C.df s.L s.bm az).2.1::(Ck.hT X.db X.C.df p (jY X.C.df s.L s.bm az).2.2::bz X.m (jY X.C.df s.L s.bm az).1 Qe::ZQ)) h:=sW h L;exact(show∀h,Sat _ h->Sat (cM X p (acc X.C s (.ey az)).2::LT X (ja z (.ey az)) (acc X.C s (.ey az)).1 j) h from(au)) h z3)
def aj4{ak:Nat->Nat}{o:b3}(N:X.C.ok)(aj:bJ X z s)(S:eV f0 X.C (bn s) ak n s.L s.bm)(Z:ec X.C (bn s) ak j s.L o):ab E (qO o) [ptr p 0] [cM X p o,jv X z s j] (aH (.bool (acc X.C s o).2.over) [cM X p (acc X.C s o).2,jv X (ja z o) (acc X.C s o).1 j]):=by
 refine ay2 ?_;have h2:2<=s.L.length:=by rw[S.len];unfold bO.cells bO.gS bO.bl;omega
 cases o with
 |load c=>exact ay6 (by have:c=1:=Z;omega)
 |add c d=>exact ay7 (by have:c=0\/c=1:=Z.1;omega)
 |fQ v=>exact ay8
 |post a Y=>exact aza aj ⟨Z.1,Z.2.1⟩ (ajZ N S.len ⟨Z.1,Z.2.1⟩) Z.2.2.1
 |ht i=>exact ay9 Z.1.pc Z.1.cell
 |fE az=>exact azb aj (ay3 N S.len) Z.1
 |ey az=>exact azc aj (ay4 N S.len) S.ju S.ws.fR Z.1
theorem To:qk E (nG o) "Step" (qO o):=by
 cases o<;>first|exact(inferInstance:qk E 314 "Step" 486)|exact(inferInstance:qk E 392 "Step" 489)|exact(inferInstance:qk E 246 "Step" 474)|exact(inferInstance:qk E 169 "Step" 474)|exact(inferInstance:qk E 248 "Step" 474)
theorem Tp:fb E (qO o):=by
 cases o<;>first|exact(⟨_,_,Tryz.func486,rfl,by decide⟩:fb E 486)|exact(⟨_,_,Tryz.func489,rfl,by decide⟩:fb E 489)|exact(⟨_,_,Tryz.func474,rfl,by decide⟩:fb E 474)
def Tq(cQ:s.ax[j]?=some t):∀h,Sat (bh X z s++D) h->Sat (hF X z.ap z.ae j t::jv X z s j::D) h:=λh F=>by
 have e:(cK X z.ap z.ae s.ax)[j]?=some (hF X z.ap z.ae j t):=by simp[sF,cQ]
 have gT:=r6 (D:=[cp X z s,di z.b4 z.b5 s.trace,dX z.na z.dT s.notes,bs X.am .i64 (bD z.ap),ao (dI X z.ap s.aE),bs X.dL .u64 (bD z.ae),ao (eB z.ae s.lets),Lg.cY X.ld s.a8,dz X.cF X.C.c6 s.dead,bz X.m s.L z.tt,eo X,ee X s.bm,dy X.bl X.m X.C.bl X.C.aT,ao (dd X),ef X,eL X,e7 X,eO X]++D) e h ((show∀h,Sat _ h->Sat (ao (cK X z.ap z.ae s.ax)::([cp X z s,di z.b4 z.b5 s.trace,dX z.na z.dT s.notes,bs X.am .i64 (bD z.ap),ao (dI X z.ap s.aE),bs X.dL .u64 (bD z.ae),ao (eB z.ae s.lets),Lg.cY X.ld s.a8,dz X.cF X.C.c6 s.dead,bz X.m s.L z.tt,eo X,ee X s.bm,dy X.bl X.m X.C.bl X.C.aT,ao (dd X),ef X,eL X,e7 X,eO X]++D)) h from(au)) h F);exact Sat.tail (λh F=>sW (l:=LT X z s j) h ((show∀h,Sat _ h->Sat (LT X z s j++D) h from(au)) h F)) gT
def FA(O:j<s.ax.length):∀h,Sat (hF X z.ap z.ae j t::jv X z s j::D) h->Sat (bh X z {s with ax:=s.ax.set j t}++D) h:=λh F=>by
 have gT:=Sat.tail (λh F=>(show∀h,Sat _ h->Sat (ao ((cK X z.ap z.ae s.ax).set j eJ)::([cp X z s,di z.b4 z.b5 s.trace,dX z.na z.dT s.notes,bs X.am .i64 (bD z.ap),ao (dI X z.ap s.aE),bs X.dL .u64 (bD z.ae),ao (eB z.ae s.lets),Lg.cY X.ld s.a8,dz X.cF X.C.c6 s.dead,bz X.m s.L z.tt,eo X,ee X s.bm,dy X.bl X.m X.C.bl X.C.aT,ao (dd X),ef X,eL X,e7 X,eO X]++D)) h from(au)) h (sX F)) F;have L:=uO (i:=j) (by rw[KR];exact O) h gT;have e:(cK X z.ap z.ae s.ax).set j (hF X z.ap z.ae j t)=cK X z.ap z.ae (s.ax.set j t):=by rw[cK,cK,mapIdx_set]
 rw[e]at L;exact(show∀h,Sat _ h->Sat (bh X z {s with ax:=s.ax.set j t}++D) h from(au)) h L
def bJ.step(l:List b0)(aj:bJ X z s):bJ X (ja z o) {(acc X.C s o).1 with ax:=l}:=
 ⟨aj.gk,aj.fY,aj.fZ,by show z.ap.length=(acc X.C s o).1.aE.length;rw[Th.avM];exact aj.ap,by show z.ae.length=(acc X.C s o).1.lets.length;rw[Th.avN];exact aj.ae⟩
theorem Je{y:aq}{n V j:Nat}{t:b0}{o:b3}{k:Th.K}{b:Value}(N:X.C.ok)(dg:Th.h7 X.P)(cL:Th.iQ f0 X.C X.C.cells)(aA:V<1099511627776)(aO:n+1<=bo)(aj:bJ X z s)(h:Inv f0 X.C X.P n s)(cQ:s.ax[j]?=some t)(B:t.on=some (o,k))(W:bP s+Th.hB<=V)(ag:eG X.C X.P j s=some y):
 ab E 44 [ptr (X.bp j) 0,b] (bh X z s) eg:=by
 have O:j<s.ax.length:=(dp.1 cQ).1;have g:j<(acc X.C s o).1.ax.length:=by rw[Th.Fk];exact O
 refine gv (M:=[hF X z.ap z.ae j t,jv X z s j]) (λD h F=>Tq cQ h F) ?_;have aC:hF X z.ap z.ae j t=dq (bv:=Nat×Nat×List Value) zm Pl:=by unfold hF;rw[B]
 rw[aC];refine xG (fun⟨p,f,c⟩ _=>?_);obtain⟨ak,S,v⟩:=h.bp;have Z:=((v j t cQ).on o k B).1;have i:=aj4 (p:=p) N aj S Z;haveI:=To o;haveI:=Tp o;unfold eG at ag;simp only[cQ,B,bind,Option.bind]at ag;cases J:(acc X.C s o).2.over with
 |
  false=>
  rw[J]at i ag;simp only[e2,eI]at ag;cases ag;have bi:=ay1 X j t p f c (nG o) (qO o) (cM X p o) (cM X p (acc X.C s o).2) (jv X z s j) (jv X (ja z o) (acc X.C s o).1 j) b i;refine jO [a1 X z.ap z.ae j p k f c] bi (au) (λu I q=>?_);obtain⟨rfl,rfl⟩:=q;refine⟨_,⟨rfl,ja z o,_,rfl,aj.step o _,rfl⟩,λh F=>?_⟩;have aV:hF X z.ap z.ae j Jc=dq (bv:=Nat×Nat×List Value) zm (fun⟨p,f,c⟩=>[kf X j (.iface (nG (acc X.C s o).2) (ptr p 0)) (bk f c) Jc,cM X p (acc X.C s o).2,a1 X z.ap z.ae j p k f c]):=rfl;have bF:nG (acc X.C s o).2=nG o:=Iy;have L:=FA (X:=X) (z:=ja z o) (s:=(acc X.C s o).1) (t:=Jc) (D:=[]) g h (by
   show Sat (hF X z.ap z.ae j Jc::jv X (ja z o) (acc X.C s o).1 j::[]) h;rw[aV,bF];exact cE (D:=[jv X (ja z o) (acc X.C s o).1 j]) (p,f,c) trivial (au) h F)
  rw[jb]at L;exact L
 |
  true=>
  rw[J]at i ag;simp only[fu]at ag;obtain⟨⟨T,w,i0,R⟩,e,r⟩:=Th.ai0 cL N aO h cQ B J;rw[<-Th.Fk X.C s o]at T w e r;refine gv (M:=[a1 X z.ap z.ae j p k f c,kf X j wT (bk f c) t,cM X p o,jv X z s j]) (λD=>(au)) (ub λba=>?_);haveI:=ba;refine gv (M:=[kf X j wT (bk f c) t,cM X p o,jv X z s j,a1 X z.ap z.ae j p k f c]) (λD=>(au)) ?_;have aj:ab E f c [(a1 X z.ap z.ae j p k f c),(cM X p (acc X.C s o).2),aa (X.bp j) 128 (ptr X.h 0::af (jV X j)::.nilIface::.nilFunc::IW),(jv X (ja z o) (acc X.C s o).1 j)] eg:=by
   refine gv (M:=a1 X z.ap z.ae j p k f c::cM X p (acc X.C s o).2::bh X (ja z o) {(acc X.C s o).1 with ax:=(acc X.C s o).1.ax.set j {t with on:=none}}) (λD h F=>?_) (go_run (f0:=f0) (n:=n+1) (V:=V) (m:=999999) N aA aO dg (aj.step o _) e T r (by have:Th.hB=90000:=rfl;unfold Ef at w;omega) ad J R ag);refine Sat.tail (λh F=>Sat.tail (λh F=>?_) F) F;exact FA (X:=X) (z:=ja z o) (s:=(acc X.C s o).1) (t:={t with on:=none}) (D:=D) g h F
  refine av Tryz.func44 λH D=>?_;refine ct ?_;refine aB rfl (XZ rfl) ?_;refine c4 ?_;refine cn rfl (Oc rfl rfl (i) bN) ?_;rintro _ D ⟨_,⟨rfl,rfl⟩,rfl⟩
  try simp only[ck,ci]
  refine bb ?_;refine v8 (rfl) ?_;refine gq ?_;refine b2 ?_;refine bu (aj) ?_;rintro _ _ ⟨rfl,cl,aW,ah,e8,rfl⟩;refine eM ?_;refine bb ?_;exact aQ BG
end
section
variable(X:cO)(z:dw)(s s1 cb:aq)(j:Nat)(t t1:b0)
theorem Tr{X:cO}{ap ae:List Nat}{l:List b0}{j:Nat}{t:b0}(h:l[j]?=some t)(U:t.on=none):ib (X.bp j) 2 (ao u6) .nilIface:=by
 have e:(cK X ap ae l)[j]?=some (hF X ap ae j t):=by simp[sF,h]
 haveI:ib (X.bp j) 2 (hF X ap ae j t) .nilIface:=⟨fun{g} s=>by
  unfold hF at s;rw[U]at s;exact⟨_,_,_,s,rfl⟩⟩
 exact KS e
abbrev y7(a:Nat):Value:=.func (.func a) [ptr (X.bp j) 0].toArray [].toArray
def aj5{j:Nat}(O:j<X.C.bc):ab E 78 [ptr X.cN.c 0,af (jV X j)] [eo X] (λu I=>∃p,u=ptr p 0/\I=[cM X p (.fE (Dr j)),eo X]):=by
 have aC:jV X j=j:=bg O;rw[aC];exact EY (aof X.cN X.C.bC j O)
def aj6(N:X.C.ok){j:Nat}(O:j<X.C.bc){d:Int}(aS:0<=d/\d<18446744073709551616):ab E 82 [ptr X.cN.c 0,af (jV X j),bx d] [eo X] (λu I=>∃p,u=ptr p 0/\I=[cM X p (.fE (yw X.C.bC j d.toNat)),eo X]):=by
 have aC:jV X j=j:=bg O;have aV:d=((d.toNat:Nat):Int):=ad;have bQ:=N.bQ;rw[aC];have bi:=EY (X:=X) (aoF X.cN X.C.bC (by show 2+X.C.bc<=65536;omega) bQ j O d.toNat ad);rw[<-aV]at bi;exact bi
def azd(N:X.C.ok)(w:gm)(aO:w.now<3000000000000000000):ab E 147 [ptr X.db.c 0] [ee X w] (λu I=>∃p,u=ptr p 0/\I=[cM X p (.ey (uv X.C.df w)),ee X w]):=
 jO [fs X.db.r X.m (X.C.df.b+1) X.C.df.n] (Ck.amD X.db X.C.df N.i64 w aO) (λh F=>(show∀h,Sat _ h->Sat [Ck.fv X.db X.C.df,fw X.db.wp w,fs X.db.r X.m (X.C.df.b+1) X.C.df.n] h from(au)) h (sX F)) (λu I q=>by
  obtain⟨p,rfl,rfl⟩:=q;exact⟨_,⟨p,rfl,rfl⟩,λh F=>Sat.swap (sW h ((show∀h,Sat _ h->Sat ([Ck.fv X.db X.C.df,fs X.db.r X.m (X.C.df.b+1) X.C.df.n,fw X.db.wp w]++[cM X p (.ey (uv X.C.df w))]) h from(au)) h F))⟩)
def aze(N:X.C.ok)(aj:bJ X z s)(O:s.ax[j]?=some t)(U:t.on=none)(aO:s.bm.now<3000000000000000000)(h1:1<=s.ticks)(h2:s.ticks<=1099511627776):ab E 88 eE (bh X z s) (cv X (some {{s with ticks:=s.ticks -1}with ax:=s.ax.set j {t with on:=some (.ey (uv X.C.df s.bm),.mC)}})):=by
 refine av Tryz.func88 λH D=>?_;haveI:=gn (X:=X) (ap:=z.ap) (ae:=z.ae) O;haveI:=sy (X:=X) (ap:=z.ap) (ae:=z.ae) O;haveI:ib (X.bp j) 4 (ao lX) (bx t.draw):=w9 O 4 λ_ _=>rfl;refine bb ?_;refine wn λar=>?_;refine bQ ?_;refine wn λV=>?_;refine cB ?_;refine aB rfl (kl ((s.ticks -1:Nat):Int) ff rfl rfl) ?_;refine b2 ?_;rw[show(qx X z s).set (0+25) (af ((s.ticks -1:Nat):Int))=qx X z {s with ticks:=s.ticks -1}from rfl];refine bQ ?_;refine bu (azd X N s.bm aO) ?_;rintro _ _ ⟨S,rfl,rfl⟩;refine eM ?_;refine wn λay=>?_;refine bj ?_;refine aB rfl Jj ?_;refine aG ?_;refine aU (iA (a1.eq_5 ..) (V,ay,ar) cj (jN X z.ap z.ae s.ax j S 148 [ptr V 0,ptr ay 0,ptr ar 0] t (.ey (uv X.C.df s.bm)) .mC O U)) ?_;exact QF
def azf(O:s.ax[j]?=some t)(U:t.on=none)(o S:b3)(k:Th.K)(a:Nat)(cd:ab E a eE (bh X z s) ZV)(i:∀(cl:dw) (p:Nat),bJ X cl s1->ab E (qO o) [ptr p 0] [cM X p o,jv X cl s1 j] (aH gP [cM X p S,jv X (ja cl o) cb j]))(fI:fb E a:=by exact fl):ab E 44 [ptr (X.bp j) 0,y7 X j a] (bh X z s) (λu I=>u=.tuple #[]/\∃(cl:dw) (p f:Nat) (c:List Value),fb E f/\bJ X cl s1/\I=[aa (X.bp j) 128 ZW,cM X p S,jv X (ja cl o) cb j,a1 X cl.ap cl.ae j p k f c]):=by
 refine av Tryz.func44 λH D=>?_;haveI:=Tr (X:=X) (ap:=z.ap) (ae:=z.ae) O U;haveI:=To o;haveI:=Tp o;refine af1 ?_;intro cl p f c ba e8;refine og ?_;refine bb ?_;exact aQ ⟨rfl,cl,p,f,c,ba,e8,rfl⟩
def azg(O:s.ax[j]?=some t)(U:t.on=none)(o S:b3)(k:Th.K)(a:Nat)(cd:ab E a eE (bh X z s) ZV)(i:∀(cl:dw) (p:Nat),bJ X cl s1->ab E (qO o) [ptr p 0] [cM X p o,jv X cl s1 j] (aH hI [cM X p S,jv X (ja cl o) cb j]))(y:Option aq)(cV:∀(cl:dw) (p f:Nat) (c:List Value),bJ X cl s1->ab E f c [a1 X cl.ap cl.ae j p k f c,cM X p S,aa (X.bp j) 128 [ptr X.h 0,af (jV X j),.nilIface,.nilFunc,bx t1.draw,.bool t1.jj],jv X (ja cl o) cb j] (cv X y))(fI:fb E a:=by exact fl):ab E 44 [ptr (X.bp j) 0,y7 X j a] (bh X z s) (cv X y):=by
 refine av Tryz.func44 λH D=>?_;haveI:=Tr (X:=X) (ap:=z.ap) (ae:=z.ae) O U;haveI:=To o;haveI:=Tp o;refine af1 ?_;intro cl p f c ba e8;refine nI ?_;refine gq ?_;refine b2 ?_;refine bu (cV cl p f c e8) ?_;rintro _ _ ⟨rfl,v,aW,ah,b,rfl⟩;refine eM ?_;refine bb ?_;exact aQ ⟨rfl,v,aW,ah,b,rfl⟩
end
section
variable{X:cO}{z:dw}{s y:aq}{n j:Nat}{t:b0}{f0:Nat->Th.ga}
theorem azh{f:Nat}{args:List Value}{X:cO}{z:dw}{s s1:aq}{j:Nat}{t1:b0}{o:b3}{k:Th.K}(h:ab E f args (bh X z s) (cv X (some s1)))(aC:s1.ax[j]?=some t1)(B:t1.on=some (o,k)):
 ab E f args (bh X z s) (λu I=>u=.tuple #[]/\∃(cl:dw) (p f:Nat) (c:List Value),fb E f/\bJ X cl s1/\I=[kf X j wT (bk f c) t1,cM X p o,jv X cl s1 j,a1 X cl.ap cl.ae j p k f c]):=λH D w st=>
 (h H D w st).mono fun _ _ ⟨v, I, e, ⟨d7, cl, aW, ah, e8, cd⟩, q⟩ => by
  cases ah;subst cd;have gT:=Tq aC _ q.fg;have aV:hF X cl.ap cl.ae j t1=dq (bv:=Nat×Nat×List Value) zm (fun⟨p,f,c⟩=>[kf X j wT (bk f c) t1,cM X p o,a1 X cl.ap cl.ae j p k f c]):=by unfold hF;rw[B]
  rw[aV]at gT;obtain⟨⟨p,f,c⟩,_,L⟩:=ha gT;have z3:=(show∀h,Sat ([kf X j (.iface (nG o) (ptr p 0)) (bk f c) t1,cM X p o,a1 X cl.ap cl.ae j p k f c]++(jv X cl s1 j::D)) h->Sat ([kf X j (.iface (nG o) (ptr p 0)) (bk f c) t1,cM X p o,jv X cl s1 j,a1 X cl.ap cl.ae j p k f c]++D) h from(au)) _ L;have ba:=Te k p f c ([kf X j (.iface (nG o) (ptr p 0)) (bk f c) t1,cM X p o,jv X cl s1 j]++D) _ ((show∀h,Sat ([kf X j (.iface (nG o) (ptr p 0)) (bk f c) t1,cM X p o,a1 X cl.ap cl.ae j p k f c]++(jv X cl s1 j::D)) h->Sat (a1 X cl.ap cl.ae j p k f c::([kf X j (.iface (nG o) (ptr p 0)) (bk f c) t1,cM X p o,jv X cl s1 j]++D)) h from(au)) _ L);exact⟨v,_,e,⟨d7,cl,p,f,c,ba,e8,rfl⟩,⟨q.os,q.tape,q.output,q.size,z3⟩⟩
theorem aj7{X:cO}{z:dw}{s s1 y:aq}{n V j:Nat}{t t1:b0}{o:b3}{k:Th.K}{a:Nat}(N:X.C.ok)(dg:Th.h7 X.P)(cL:Th.iQ f0 X.C X.C.cells)(aA:V<1099511627776)(aO:n+1<=bo)(cQ:s.ax[j]?=some t)(B:t.on=none)
 (cd:ab E a eE (bh X z s) (cv X (some s1)))(h:Inv f0 X.C X.P n s1)(b:s1.ax[j]?=some t1)(l:t1.on=some (o,k))(W:bP s1+Th.hB<=V)(ag:eG X.C X.P j s1=some y)(fI:fb E a:=by exact fl):
 ab E 44 [ptr (X.bp j) 0,y7 X j a] (bh X z s) eg:=by
 have O:j<s1.ax.length:=(dp.1 b).1;have g:j<(acc X.C s1 o).1.ax.length:=by rw[Th.Fk];exact O
 obtain⟨ak,S,v⟩:=h.bp;have Z:=((v j t1 b).on o k l).1;have d:=azh cd b l;have i:∀(cl:dw) (p:Nat),bJ X cl s1->_:=λcl p e8=>aj4 (o:=o) (p:=p) N e8 S Z;unfold eG at ag;simp only[b,l,bind,Option.bind]at ag;cases J:(acc X.C s1 o).2.over with
 |
  false=>
  rw[J]at ag;simp only[e2,eI]at ag;cases ag;have bi:=azf X z s s1 (acc X.C s1 o).1 j t t1 cQ B o (acc X.C s1 o).2 k a d (λcl p e8=>by have h1:=i cl p e8;rw[J]at h1;exact h1);refine jO [] bi (λh F=>by rw[jb];exact F) (λu I q=>?_);obtain⟨rfl,cl,p,f,c,ba,e8,rfl⟩:=q;refine⟨_,⟨rfl,ja cl o,_,rfl,e8.step o _,rfl⟩,λh F=>?_⟩;rw[jb]at F;have aV:hF X cl.ap cl.ae j Jb=dq (bv:=Nat×Nat×List Value) zm (fun⟨p,f,c⟩=>[kf X j (.iface (nG (acc X.C s1 o).2) (ptr p 0)) (bk f c) Jb,cM X p (acc X.C s1 o).2,a1 X cl.ap cl.ae j p k f c]):=rfl;have bF:nG (acc X.C s1 o).2=nG o:=Iy;have L:=FA (X:=X) (z:=ja cl o) (s:=(acc X.C s1 o).1) (t:=Jb) (D:=[]) g h (by
   show Sat (hF X cl.ap cl.ae j Jb::jv X (ja cl o) (acc X.C s1 o).1 j::[]) h;rw[aV,bF];exact cE (D:=[jv X (ja cl o) (acc X.C s1 o).1 j]) (p,f,c) trivial (au) h F)
  rw[jb]at L;exact L
 |
  true=>
  rw[J]at ag;simp only[fu]at ag;obtain⟨⟨T,w,i0,R⟩,e,r⟩:=Th.ai0 cL N aO h b l J;rw[<-Th.Fk X.C s1 o]at T w e r;refine azg X z s s1 (acc X.C s1 o).1 j t t1 cQ B o (acc X.C s1 o).2 k a d (λcl p e8=>by have h1:=i cl p e8;rw[J]at h1;exact h1) (some y) (λcl p f c e8=>?_);refine gv (M:=a1 X cl.ap cl.ae j p k f c::cM X p (acc X.C s1 o).2::bh X (ja cl o) {(acc X.C s1 o).1 with ax:=(acc X.C s1 o).1.ax.set j {t1 with on:=none}}) (λD h F=>?_) (go_run (f0:=f0) (n:=n+1) (V:=V) (m:=999999) N aA aO dg (e8.step o _) e T r (by have:Th.hB=90000:=rfl;unfold Ef at w;omega) ad J R ag);refine Sat.tail (λh F=>Sat.tail (λh F=>?_) F) F;exact FA (X:=X) (z:=ja cl o) (s:=(acc X.C s1 o).1) (t:={t1 with on:=none}) (D:=D) g h F
def rk(cQ:s.ax[j]?=some t):busy s j=t.on.isSome:=by unfold busy;rw[cQ];rfl
theorem aj8(N:X.C.ok)(dg:Th.h7 X.P)(cL:Th.iQ f0 X.C X.C.cells)(aj:bJ X z s)(h:Th.hg f0 X.C X.P n s)(aO:n+1<=Th.hh)(O:j<X.C.bc)(ag:Th.stepT X.C X.P (e5 X.C j) j s=some y):
 ab E 44 [ptr (X.bp j) 0,y7 X j 45] (bh X z s) (cv X (some y)):=by
 refine Kh ?_;intro hw I u Y;have W:bP s+Th.hB<=Th.hB*(n+1):=y0;have r:Th.hB*(n+1)<1099511627776:=Iz;obtain⟨t,cQ⟩:=Th.qJ (j:=j) h.inv ad;unfold Th.stepT at ag;cases B:t.on with
 |
  some q=>
  obtain⟨o,k⟩:=q;rw[bg IA]at ag;exact Je N dg cL r ad aj h.inv cQ B W ag
 |
  none=>
  rw[a7 (by rw[rk cQ,B];simp)]at ag;obtain⟨s1,h1,ag⟩:=ij.1 ag;obtain⟨c,aC,gO,ar⟩:=Th.Ln N O h IA;obtain rfl:c=s1:=Zu;have aS:=(h.inv.bp.choose_spec.2 j t cQ).oG;have cc:ab E 45 [ptr (X.bp j) 0] (bh X z s) (cv X (some c)):=by
   unfold e5 at aC;simp only[cQ,qD,k0]at aC;split at aC
   . rename_i aX
     obtain⟨dr,a,e,rfl⟩:=Th.j6 aC;have aS:0<=dr.draw/\dr.draw<18446744073709551616:=(by rw[cQ]at a;cases a;exact aS);have aX:dr.jj=true:=(by rw[cQ]at a;cases a;exact aX);refine av Tryz.func45 λH D=>?_;haveI:=gn (X:=X) (ap:=z.ap) (ae:=z.ae) a;haveI:=sy (X:=X) (ap:=z.ap) (ae:=z.ae) a;haveI:ib (X.bp j) 4 (ao (cK X z.ap z.ae s.ax)) (bx dr.draw):=w9 a 4 λ_ _=>rfl;haveI:ib (X.bp j) 5 (ao (cK X z.ap z.ae s.ax)) (.bool true):=by
      have d3:ib (X.bp j) 5 (ao (cK X z.ap z.ae s.ax)) (.bool dr.jj):=w9 a 5 λ_ _=>rfl;rw[aX]at d3;exact d3
     refine bb ?_;refine wn λar=>?_;refine c4 ?_;refine v8 (rfl) ?_;refine aG ?_;refine iu [11,12,13] [12] [1,5,9,13,17,21,25,29,33,37,41,46,50,54,3,3,3,50,46,54] [aa ar 106 [ptr (X.bp j) 0],cp X z s,ao (cK X z.ap z.ae s.ax)] ?_;refine c4 ?_;refine fm ?_ ?_
     ·
      refine bu (aj5 X O) ?_;rintro _ _ ⟨S,rfl,rfl⟩;refine eM ?_;refine aG ?_;refine wn λV=>?_;refine bQ ?_;refine aB rfl (jR Tryz.underlying169 rfl rfl) ?_;refine aG ?_;refine aU (iA (a1.eq_2 ..) (V,ar) ⟨rfl,rfl⟩ (jN X z.ap z.ae s.ax j S 80 [ptr V 0,ptr ar 0] dr (.fE (Dr j)) .polled a e)) ?_;refine bE ?_;exact aQ ⟨rfl,z,_,rfl,⟨aj.gk,aj.fY,aj.fZ,aj.ap,aj.ae⟩,rfl⟩
     ·
      refine wn λV=>?_;refine aG ?_;refine bu (aj5 X O) ?_;rintro _ _ ⟨S,rfl,rfl⟩;refine eM ?_;refine bQ ?_;refine aB rfl (jR Tryz.underlying169 rfl rfl) ?_;refine aG ?_;refine aU (iA (a1.eq_2 ..) (V,ar) ⟨rfl,rfl⟩ (jN X z.ap z.ae s.ax j S 80 [ptr V 0,ptr ar 0] dr (.fE (Dr j)) .polled a e)) ?_;refine bE ?_;exact aQ ⟨rfl,z,_,rfl,⟨aj.gk,aj.fY,aj.fZ,aj.ap,aj.ae⟩,rfl⟩
   . rename_i aX
     obtain⟨dr,a,e,rfl⟩:=Th.j6 aC;obtain rfl:t=dr:=by rw[cQ]at a;exact n9 a
     have aX:t.jj=false:=(by simpa using aX);refine av Tryz.func45 λH D=>?_;haveI:=gn (X:=X) (ap:=z.ap) (ae:=z.ae) a;haveI:=sy (X:=X) (ap:=z.ap) (ae:=z.ae) a;haveI:ib (X.bp j) 4 (ao (cK X z.ap z.ae s.ax)) (bx t.draw):=w9 a 4 λ_ _=>rfl;haveI:ib (X.bp j) 5 (ao (cK X z.ap z.ae s.ax)) (.bool false):=by
      have d3:ib (X.bp j) 5 (ao (cK X z.ap z.ae s.ax)) (.bool t.jj):=w9 a 5 λ_ _=>rfl;rw[aX]at d3;exact d3
     refine bb ?_;refine wn λar=>?_;refine c4 ?_;refine tl (rfl) ?_;refine b2 ?_;refine iu [15,16,17] [16] [1,5,9,13,17,21,25,29,33,37,41,45,49,53,57,62,66,70,3,3,3,66,62,70] [aa ar 106 [ptr (X.bp j) 0],cp X z s,ao (cK X z.ap z.ae s.ax)] ?_;refine eY ?_;refine fm ?_ ?_
     ·
      refine bu (aj6 X N O aS) ?_;rintro _ _ ⟨S,rfl,rfl⟩;refine eM ?_;refine aG ?_;refine wn λay=>?_;refine ct ?_;refine aB rfl (jR Tryz.underlying169 rfl rfl) ?_;refine aG ?_;refine aU (iA (a1.eq_3 ..) (ay,ar) ⟨rfl,rfl⟩ (jN X z.ap z.ae s.ax j S 83 [ptr ay 0,ptr ar 0] t (.fE (yw X.C.bC j t.draw.toNat)) .found a e)) ?_;refine bb ?_;exact aQ ⟨rfl,z,_,rfl,⟨aj.gk,aj.fY,aj.fZ,aj.ap,aj.ae⟩,rfl⟩
     ·
      refine wn λay=>?_;refine aG ?_;refine bu (aj6 X N O aS) ?_;rintro _ _ ⟨S,rfl,rfl⟩;refine eM ?_;refine ct ?_;refine aB rfl (jR Tryz.underlying169 rfl rfl) ?_;refine aG ?_;refine aU (iA (a1.eq_3 ..) (ay,ar) ⟨rfl,rfl⟩ (jN X z.ap z.ae s.ax j S 83 [ptr ay 0,ptr ar 0] t (.fE (yw X.C.bC j t.draw.toNat)) .found a e)) ?_;refine bb ?_;exact aQ ⟨rfl,z,_,rfl,⟨aj.gk,aj.fY,aj.fZ,aj.ap,aj.ae⟩,rfl⟩
  obtain⟨t1,b⟩:=Th.qJ (j:=j) gO.inv ad;cases l:t1.on with
  |none=>rw[rk b,l]at ar;cases ar
  |
   some q=>
   obtain⟨o,k⟩:=q;have i:=gO.ph;have f:bP c+Th.hB<=Th.hB*(n+1):=y0;exact aj7 N dg cL r ad cQ B cc gO.inv b l f ag
end
section
variable(X:cO)(z:dw)(s y:aq)(j:Nat)(t:b0)
def Bp(b:Bool)(u:Value)(I:List al):Prop:=u=.bool b/\∃cl,bJ X cl y/\I=bh X cl y
def EM{f:Nat}{args:List Value}{M:List al}{X:cO}{y:aq}(h:ab E f args M eg):ab E f args M (λu I=>u=.tuple #[]/\∃cl,bJ X cl y/\I=bh X cl y):=λH D w st=>
 (h H D w st).mono λ_ _ ⟨v,I,e,⟨d7,cl,aW,ah,e8,cd⟩,q⟩=>by cases ah;exact⟨v,I,e,⟨d7,cl,e8,cd⟩,q⟩
def xe(O:s.ax[j]?=some t)(U:t.on=none):ab E 46 eE rr (aH gP rr):=by
 refine av Tryz.func46 λH D=>?_;haveI:=Tr (X:=X) (ap:=z.ap) (ae:=z.ae) O U;refine c4 ?_;refine aB rfl (NS rfl) ?_;refine bE ?_;exact aQ cj
def azi(T:Nat)(v y:Value):ab E 46 eE abg (aH hI abg):=by
 refine av Tryz.func46 λH D=>?_;refine c4 ?_;refine aB rfl (X0 rfl) ?_;refine bE ?_;exact aQ cj
def By(o:b3)(k:Th.K)(O:s.ax[j]?=some t)(U:t.on=some (o,k)):ab E 46 eE rr (aH hI rr):=by
 have e:(cK X z.ap z.ae s.ax)[j]?=some (hF X z.ap z.ae j t):=by simp[sF,O]
 have aC:hF X z.ap z.ae j t=dq (bv:=Nat×Nat×List Value) zm Pl:=by unfold hF;rw[U]
 refine gv (M:=[hF X z.ap z.ae j t,ao ((cK X z.ap z.ae s.ax).set j eJ)]) (λD h F=>r6 (D:=D) e h F) ?_;have aV:=aC;rw[aC];refine xG (fun⟨p,f,c⟩ _=>?_);refine jO [cM X p o,a1 X z.ap z.ae j p k f c,ao ((cK X z.ap z.ae s.ax).set j eJ)] (azi X j t (nG o) (ptr p 0) (bk f c)) (au) (λu I q=>?_);obtain⟨rfl,rfl⟩:=q;refine⟨_,cj,λh F=>?_⟩;refine Rz (D:=[]) e h ?_;rw[aV];exact cE (D:=[ao ((cK X z.ap z.ae s.ax).set j eJ)]) (p,f,c) trivial (au) h F
def azj(aj:bJ X z s)(O:s.ax[(X.C.bc+X.C.cT)]?=some t)(U:t.on=none)(bi:¬s.ticks=0)(ge:ab E 44 abG (bh X z s) eg):ab E 47 [ptr X.h 0] (bh X z s) tJ:=by
 refine av Tryz.func47 λH D=>?_;refine dB ?_;refine aU (xe X z s wW t O U) ?_;refine cP ?_;refine dh ?_;refine cP ?_;refine ct ?_;refine cw [] [9,201] [cp X z s] ?_;refine cB ?_;exact EL
end
theorem azk{X:cO}{z:dw}{s y:aq}{n:Nat}{f0:Nat->Th.ga}(N:X.C.ok)(dg:Th.h7 X.P)(cL:Th.iQ f0 X.C X.C.cells)(aj:bJ X z s)(h:Th.hg f0 X.C X.P n s)(aO:n+1<=Th.hh)(hk:busy s (X.C.bc+X.C.cT)=false->1<=s.ticks)(ag:Th.stepT X.C X.P (fj X.C (X.C.bc+X.C.cT)) (X.C.bc+X.C.cT) s=some y):
 ab E 44 abG (bh X z s) eg:=by
 refine Kh ?_;intro hw I u Y;have W:bP s+Th.hB<=Th.hB*(n+1):=y0;have r:Th.hB*(n+1)<1099511627776:=Iz;obtain⟨t,cQ⟩:=Th.qJ (j:=(X.C.bc+X.C.cT)) h.inv ad;unfold Th.stepT at ag;cases B:t.on with
 |
  some q=>
  obtain⟨o,k⟩:=q;rw[bg IA]at ag;exact Je N dg cL r ad aj h.inv cQ B W ag
 |
  none=>
  have g:busy s wW=false:=IA;rw[a7 (by rw[g];simp)]at ag;obtain⟨s1,h1,ag⟩:=ij.1 ag;obtain⟨c,aC,gO,ar⟩:=Th.ajc N ad h g;obtain rfl:c=s1:=Zu;obtain⟨ak,S,_⟩:=h.inv.bp;have C:=S.ws.now;have d:s.ticks<=bP s:=by unfold bP;omega
  have cc:ab E 88 [ptr (X.bp wW) 0] (bh X z s) (cv X (some c)):=by
   unfold fj at aC;obtain⟨dr,a,e,rfl⟩:=Th.j6 aC;exact aze X z s wW dr N aj a e ad (hk g) ad
  obtain⟨t1,b⟩:=Th.qJ (j:=(X.C.bc+X.C.cT)) gO.inv ad;cases l:t1.on with
  |none=>rw[rk b,l]at ar;cases ar
  |
   some q=>
   obtain⟨o,k⟩:=q;have i:=gO.ph;have f:bP c+Th.hB<=Th.hB*(n+1):=y0;exact aj7 N dg cL r ad cQ B cc gO.inv b l f ag
theorem aj9{X:cO}{z:dw}{s y:aq}{b:Bool}{n:Nat}{f0:Nat->Th.ga}(N:X.C.ok)(dg:Th.h7 X.P)(cL:Th.iQ f0 X.C X.C.cells)(aj:bJ X z s)(h:Th.hg f0 X.C X.P n s)(aO:n+1<=Th.hh)(ag:Th.zR X.C X.P s=some (y,b)):
 ab E 47 [ptr X.h 0] (bh X z s) vf:=by
 obtain⟨t,cQ⟩:=Th.qJ (j:=(X.C.bc+X.C.cT)) h.inv ad;unfold Th.zR at ag;split at ag
 . rename_i a6
   cases ag;have c:t.on=none:=by
    have h1:=a6.1;rw[rk cQ]at h1;cases e:t.on with
    |none=>rfl
    |some q=>rw[e]at h1;simp at h1
   refine av Tryz.func47 λH D=>?_;refine dB ?_;refine aU (xe X z s wW t cQ c) ?_;refine cP ?_;refine dh ?_;refine cP ?_;refine dB ?_;exact tM
 . rename_i a6
   obtain⟨m,a,d⟩:=oV.1 ag;cases d;have ge:=azk N dg cL aj h aO (λaA=>by
    have:¬s.ticks=0:=λe=>a6 ⟨by rw[aA];rfl,e⟩;omega) a
   cases B:t.on with
   |none=>exact azj X z s y t aj cQ B (λe=>a6 ⟨by rw[rk cQ,B];rfl,e⟩) ge
   |
    some q=>
    refine av Tryz.func47 λH D=>?_;refine dB ?_;refine aU acu ?_;refine cP ?_;refine fB ?_;refine cw [] [9,201] [cp X z s] ?_;refine cB ?_;refine bu (EM ge) ?_;rintro _ _ ⟨rfl,cl,e8,rfl⟩;refine eM ?_;refine dh ?_;exact aQ ⟨rfl,cl,e8,rfl⟩
section
variable(a F ak:Int)(X:cO)(z:dw)(s:aq)(R de:Int)(fx:cG)(y:aq)(b:Bool)(ea:Int)
def ady{X:cO}{j:Nat}(O:j<X.C.bc):((List.range X.C.bc).map λi=>ptr (X.bp i) 0)[j*1]?=some (ptr (X.bp j) 0):=by
 rw[uo,fD,uZ O];rfl
def Kw(h:F<=a/\a<=ak):ab E 52 [af a,af F,af ak] [] wZ:=by
 exact aeX
def Kt(h:¬(F<=a/\a<=ak)):ab E 52 [af a,af F,af ak] [] (aH gP []):=by
 by_cases h1:F<=a
 . have h2:=(λh2=>h ⟨h1,h2⟩)
   exact aeX
 . refine av Tryz.func52 λH D=>?_
   refine cB ?_;refine cP ?_;refine dh ?_;exact aQ cj
def azl(h:ab E 47 [ptr X.h 0] (bh X z s) vf):ab E 26 [ptr X.h 0,.agg [af 3,af ea,af R,S fx,af de].toArray] (bh X z s) vf:=by
 refine Ri ?_;intro H D ay;refine ct ?_;refine bu (h) ?_;rintro _ _ ⟨rfl,cl,e8,rfl⟩;refine eM ?_;refine ct ?_;exact JN
def azm(aj:bJ X z s)(hk:64<=s.ticks):ab E 26 acf (bh X z s) ni:=by
 refine afY ?_;intro H D ay;refine fB ?_;exact tM
def azn(aj:bJ X z s)(hk:¬64<=s.ticks):ab E 26 acf (bh X z s) (Bp X {s with ticks:=s.ticks+1} true):=by
 refine afY ?_;intro H D ay;refine c4 ?_;refine aB rfl (fy ((s.ticks+1:Nat):Int) ff rfl rfl) ?_;refine b2 ?_;rw[show(qx X z s).set (0+25) (af ((s.ticks+1:Nat):Int))=qx X z {s with ticks:=s.ticks+1}from rfl];refine c4 ?_;exact aQ ⟨rfl,z,kg,rfl⟩
def azo(J ea:Int)(h1:¬J=1)(aN:¬J=3)(g3:¬J=6)(h:ab E 53 PH (bh X z s) vf):ab E 26 PH (bh X z s) vf:=by
 refine Ri ?_;intro H D ay;refine nC ?_;refine c4 ?_;refine bu (h) ?_;rintro _ _ ⟨rfl,cl,e8,rfl⟩;refine eM ?_;refine bE ?_;exact JN
def azp(N:X.C.ok)(aj:bJ X z s)(aF:¬(0<=ea/\ea<=((X.C.bc -1:Nat):Int))):ab E 26 [ptr X.h 0,.agg [af 1,af ea,af R,S fx,af de].toArray] (bh X z s) ni:=by
 refine av Tryz.func26 λH D=>?_;have hC:=N.aG;have g:=N.bQ;refine bb ?_;refine wn λay=>?_;refine fB ?_;refine cP ?_;refine bj ?_;refine cw [] [8,201,1] [aa ay 60 (af 1::af ea::Ja),cp X z s] ?_;refine acY ?_;refine aU (Kt ea 0 _ aF) ?_;refine bR ?_;refine nI ?_;refine dh ?_;exact tM
def azq(j:Nat)(t:b0)(x F:Value)(a2:al)(N:X.C.ok)(i:j<X.C.bc)(ge:ab E 44 [ptr (X.bp j) 0,y7 X j 45] [aa (X.bp j) 128 [ptr X.h 0,af (jV X j),x,F,bx (fe de),.bool t.jj],cp X z s,eL X,a2] eg):ab E 26 abP [aa (X.bp j) 128 acv,cp X z s,eL X,a2] tJ:=by
 refine av Tryz.func26 λH D=>?_;have g:=N.bQ;refine bb ?_;refine wn λay=>?_;refine fB ?_;refine cP ?_;refine bj ?_;refine cw [] [8,201,1] [aa ay 60 PV,cp X z s] ?_;refine acY ?_;refine go_c rfl .none rfl (b9 rfl (Kw (j:Int) 0 ((X.C.bc -1:Nat):Int) ad) bN) ?_;refine aeg ?_;refine cw [] [13,201] [aa ay 60 PV,aa (X.bp j) 128 acv,cp X z s,eL X] ?_;refine QQ ?_;refine cB ?_;refine cw [] [17,201] [aa ay 60 PV,cp X z s,eL X] ?_;refine QQ ?_;refine QQ ?_;refine aG ?_;refine bu (EM ge) ?_;rintro _ _ ⟨rfl,cl,e8,rfl⟩;refine eM ?_;refine dB ?_;exact JN
end
section
variable(X:cO)(z:dw)(s:aq)(i:Nat)(J R de:Int)(fx:cG)
def agE{X:cO}{i:Nat}(ak:i<X.C.cT):((List.range X.C.cT).map λi=>ptr zc 0)[i*1]?=some (ptr zc 0):=by
 rw[uo,fD,uZ ak];rfl
def azr(ea J R de:Int)(fx:cG)(N:X.C.ok)(aj:bJ X z s)(aF:¬(0<=ea/\ea<=((X.C.cT -1:Nat):Int))):ab E 53 PH (bh X z s) ni:=by
 refine av Tryz.func53 λH D=>?_;have b:=N.h1;have a:=N.bA;refine nw ?_;intro V ay;refine bE ?_;refine cw [] [8,201,1] [aa V 32 [ptr X.h 0],aa ay 60 (af J::af ea::Ja),cp X z s] ?_;refine acX ?_;refine aU (Kt ea 0 ((X.C.cT -1:Nat):Int) aF) ?_;refine bR ?_;refine nI ?_;refine bQ ?_;exact tM
def azs(N:X.C.ok)(ak:i<X.C.cT)(aj:bJ X z s)(d:s.shut=true)(t:b0)(o:b3)(k:Th.K)(O:s.ax[(X.C.bc+i)]?=some t)(U:t.on=some (o,k))(hk:J=2)(y:aq)(ge:ab E 44 Jd (bh X z s) eg):ab E 53 kh (bh X z s) tJ:=by
 refine agI ?_;intro H D b a V ay aM;exact Rr
def azt(N:X.C.ok)(ak:i<X.C.cT)(aj:bJ X z s)(d:s.shut=true)(t:b0)(O:s.ax[(X.C.bc+i)]?=some t)(U:t.on=none)(hk:J=2):ab E 53 kh (bh X z s) ni:=by
 refine agI ?_;intro H D b a V ay aM;exact Ro
def azu(N:X.C.ok)(ak:i<X.C.cT)(aj:bJ X z s)(d:s.shut=true)(t:b0)(o:b3)(k:Th.K)(O:s.ax[(X.C.bc+i)]?=some t)(U:t.on=some (o,k))(hk:¬J=2):ab E 53 kh (bh X z s) ni:=by
 refine agM ?_;intro H D b a V ay aM;exact Q4
def azv(N:X.C.ok)(ak:i<X.C.cT)(aj:bJ X z s)(d:s.shut=false)(aY:dR (bD z.ap) R=none)(t:b0)(o:b3)(k:Th.K)(O:s.ax[(X.C.bc+i)]?=some t)(U:t.on=some (o,k))(hk:J=2)(y:aq)(ge:ab E 44 Jd (bh X z s) eg):ab E 53 kh (bh X z s) tJ:=by
 refine agO ?_;intro H D b a V ay aM;exact Rr
def azw(N:X.C.ok)(ak:i<X.C.cT)(aj:bJ X z s)(d:s.shut=false)(aY:dR (bD z.ap) R=none)(t:b0)(O:s.ax[(X.C.bc+i)]?=some t)(U:t.on=none)(hk:J=2):ab E 53 kh (bh X z s) ni:=by
 refine agO ?_;intro H D b a V ay aM;exact Ro
def azx(N:X.C.ok)(ak:i<X.C.cT)(aj:bJ X z s)(d:s.shut=false)(aY:dR (bD z.ap) R=none)(t:b0)(o:b3)(k:Th.K)(O:s.ax[(X.C.bc+i)]?=some t)(U:t.on=some (o,k))(hk:¬J=2):ab E 53 kh (bh X z s) ni:=by
 refine agR ?_;intro H D b a V ay aM;exact Q4
def azy(N:X.C.ok)(ak:i<X.C.cT)(aj:bJ X z s)(d:s.shut=false)(e:Nat)(aY:dR (bD z.ap) R=some (ptr e 0))(t:b0)(o:b3)(k:Th.K)(O:s.ax[(X.C.bc+i)]?=some t)(U:t.on=some (o,k))(hk:J=2)(y:aq)(ge:ab E 44 Jd (bh X z s) eg):ab E 53 kh (bh X z s) tJ:=by
 refine agN ?_;intro H D b a V ay aM;exact Rr
def azz(N:X.C.ok)(ak:i<X.C.cT)(aj:bJ X z s)(d:s.shut=false)(e:Nat)(aY:dR (bD z.ap) R=some (ptr e 0))(t:b0)(O:s.ax[(X.C.bc+i)]?=some t)(U:t.on=none)(hk:J=2):ab E 53 kh (bh X z s) ni:=by
 refine agN ?_;intro H D b a V ay aM;exact Ro
def azA(N:X.C.ok)(ak:i<X.C.cT)(aj:bJ X z s)(d:s.shut=false)(e:Nat)(aY:dR (bD z.ap) R=some (ptr e 0))(t:b0)(o:b3)(k:Th.K)(O:s.ax[(X.C.bc+i)]?=some t)(U:t.on=some (o,k))(hk:¬J=2):ab E 53 kh (bh X z s) ni:=by
 refine agQ ?_;intro H D b a V ay aM;exact Q4
def aeB(V aM ay:Nat)(a:cG)(N:Int)(c2:s.trace.length<most):ab E 90 [S a,af N,ptr V 0,ptr aM 0,ptr ay 0] [aa V 32 [ptr X.h 0],aa aM 3 [af (-1 -(i:Int))],aa ay 60 Ei,cp X z s,di z.b4 z.b5 s.trace] (λu I=>u=.tuple #[]/\∃aD aI,I=[aa V 32 [ptr X.h 0],aa aM 3 [af (-1 -(i:Int))],aa ay 60 Ei,cp X iN {s with trace:=s.trace++abe},di aD aI (s.trace++abe)]):=by
 refine av Tryz.func90 λH D=>?_;refine bQ ?_;refine bu (l3 X z s (abf:bG) c2) ?_;refine l1 ?_;intro aD aI;refine bb ?_;exact aQ ⟨rfl,aD,aI,rfl⟩
def azB(N:X.C.ok)(ak:i<X.C.cT)(aj:bJ X z s)(d:s.shut=true)(t:b0)(O:s.ax[(X.C.bc+i)]?=some t)(U:t.on=none)(hk:J=4)(g:ab E 92 [S fx] [] (aH gP [])):ab E 53 kh (bh X z s) ni:=by
 refine agV ?_;intro H D b a V ay aM;exact QM
def azC(N:X.C.ok)(ak:i<X.C.cT)(aj:bJ X z s)(d:s.shut=true)(t:b0)(O:s.ax[(X.C.bc+i)]?=some t)(U:t.on=none)(hk:J=4)(aF:¬(0<=de/\de<=255))(g:ab E 92 [S fx] [] wZ):ab E 53 kh (bh X z s) ni:=by
 refine agW ?_;intro H D b a V ay aM;exact Rh
def azD(N:X.C.ok)(ak:i<X.C.cT)(aj:bJ X z s)(d:s.shut=true)(t:b0)(O:s.ax[(X.C.bc+i)]?=some t)(U:t.on=none)(hk:J=4)(aF:0<=de/\de<=255)(c2:s.trace.length<most)(g:ab E 92 [S fx] [] wZ):ab E 53 kh (bh X z s) aas:=by
 refine agW ?_;intro H D b a V ay aM;exact aga
def azE(N:X.C.ok)(ak:i<X.C.cT)(aj:bJ X z s)(d:s.shut=true)(t:b0)(O:s.ax[(X.C.bc+i)]?=some t)(U:t.on=none)(hk:J=5)(c2:s.trace.length<most):ab E 53 kh (bh X z s) aat:=by
 refine agX ?_;intro H D b a V ay aM;exact aeA
def azF(N:X.C.ok)(ak:i<X.C.cT)(aj:bJ X z s)(d:s.shut=true)(t:b0)(O:s.ax[(X.C.bc+i)]?=some t)(U:t.on=none)(h2:¬J=2)(bA:¬J=4)(d3:¬J=5)(l:¬J=7):ab E 53 kh (bh X z s) ni:=by
 refine ag4 ?_;intro H D b a V ay aM;exact QB
def azG(N:X.C.ok)(ak:i<X.C.cT)(aj:bJ X z s)(d:s.shut=true)(t:b0)(O:s.ax[(X.C.bc+i)]?=some t)(U:t.on=none)(hk:J=7):ab E 53 kh (bh X z s) ni:=by
 refine ag4 ?_;intro H D b a V ay aM;refine dh ?_;refine aB rfl (fS (c:=false) (by rw[d];rfl) (ql rfl)) ?_;refine gd ?_;exact tM
def azH(N:X.C.ok)(ak:i<X.C.cT)(aj:bJ X z s)(d:s.shut=false)(aY:dR (bD z.ap) R=none)(t:b0)(O:s.ax[(X.C.bc+i)]?=some t)(U:t.on=none)(hk:J=4)(g:ab E 92 [S fx] [] (aH gP [])):ab E 53 kh (bh X z s) ni:=by
 refine agZ ?_;intro H D b a V ay aM;exact QM
def azI(N:X.C.ok)(ak:i<X.C.cT)(aj:bJ X z s)(d:s.shut=false)(aY:dR (bD z.ap) R=none)(t:b0)(O:s.ax[(X.C.bc+i)]?=some t)(U:t.on=none)(hk:J=4)(aF:¬(0<=de/\de<=255))(g:ab E 92 [S fx] [] wZ):ab E 53 kh (bh X z s) ni:=by
 refine ag1 ?_;intro H D b a V ay aM;exact Rh
def azJ(N:X.C.ok)(ak:i<X.C.cT)(aj:bJ X z s)(d:s.shut=false)(aY:dR (bD z.ap) R=none)(t:b0)(O:s.ax[(X.C.bc+i)]?=some t)(U:t.on=none)(hk:J=4)(aF:0<=de/\de<=255)(c2:s.trace.length<most)(g:ab E 92 [S fx] [] wZ):ab E 53 kh (bh X z s) aas:=by
 refine ag1 ?_;intro H D b a V ay aM;exact aga
def azK(N:X.C.ok)(ak:i<X.C.cT)(aj:bJ X z s)(d:s.shut=false)(aY:dR (bD z.ap) R=none)(t:b0)(O:s.ax[(X.C.bc+i)]?=some t)(U:t.on=none)(hk:J=5)(c2:s.trace.length<most):ab E 53 kh (bh X z s) aat:=by
 refine ag3 ?_;intro H D b a V ay aM;exact aeA
def azL(N:X.C.ok)(ak:i<X.C.cT)(aj:bJ X z s)(d:s.shut=false)(aY:dR (bD z.ap) R=none)(t:b0)(O:s.ax[(X.C.bc+i)]?=some t)(U:t.on=none)(h2:¬J=2)(bA:¬J=4)(d3:¬J=5)(l:¬J=7):ab E 53 kh (bh X z s) ni:=by
 refine ag6 ?_;intro H D b a V ay aM;exact QB
def azM(N:X.C.ok)(ak:i<X.C.cT)(aj:bJ X z s)(d:s.shut=false)(aY:dR (bD z.ap) R=none)(t:b0)(O:s.ax[(X.C.bc+i)]?=some t)(U:t.on=none)(hk:J=7)(y:aq)(ge:ab E 95 [ptr zc 0,af 1] (bh X z {s with shut:=true}) eg):ab E 53 kh (bh X z s) tJ:=by
 refine ag6 ?_;intro H D b a V ay aM;exact afN
def azN(N:X.C.ok)(ak:i<X.C.cT)(aj:bJ X z s)(d:s.shut=false)(e:Nat)(aY:dR (bD z.ap) R=some (ptr e 0))(t:b0)(O:s.ax[(X.C.bc+i)]?=some t)(U:t.on=none)(hk:J=4)(g:ab E 92 [S fx] [] (aH gP [])):ab E 53 kh (bh X z s) ni:=by
 refine agY ?_;intro H D b a V ay aM;exact QM
def azO(N:X.C.ok)(ak:i<X.C.cT)(aj:bJ X z s)(d:s.shut=false)(e:Nat)(aY:dR (bD z.ap) R=some (ptr e 0))(t:b0)(O:s.ax[(X.C.bc+i)]?=some t)(U:t.on=none)(hk:J=4)(aF:¬(0<=de/\de<=255))(g:ab E 92 [S fx] [] wZ):ab E 53 kh (bh X z s) ni:=by
 refine ag0 ?_;intro H D b a V ay aM;exact Rh
def azP(N:X.C.ok)(ak:i<X.C.cT)(aj:bJ X z s)(d:s.shut=false)(e:Nat)(aY:dR (bD z.ap) R=some (ptr e 0))(t:b0)(O:s.ax[(X.C.bc+i)]?=some t)(U:t.on=none)(hk:J=4)(aF:0<=de/\de<=255)(g:ab E 92 [S fx] [] wZ)(y:aq)(ge:ab E 93 [ptr zc 0,.agg (nn ⟨-1 -(i:Int),R,fx,de,false⟩).toArray,bk 94 []] (bh X z s) eg):ab E 53 kh (bh X z s) tJ:=by
 refine ag0 ?_;intro H D b a V ay aM;refine ae1 ?_;refine dB ?_;refine cP ?_;refine gd ?_;exact EL
def azQ(N:X.C.ok)(ak:i<X.C.cT)(aj:bJ X z s)(d:s.shut=false)(e:Nat)(aY:dR (bD z.ap) R=some (ptr e 0))(t:b0)(O:s.ax[(X.C.bc+i)]?=some t)(U:t.on=none)(hk:J=5)(y:aq)(ge:ab E 95 [ptr zc 0,af R] (bh X z s) eg):ab E 53 kh (bh X z s) tJ:=by
 refine ag2 ?_;intro H D b a V ay aM;refine dB ?_;refine cP ?_;refine bQ ?_;exact EL
def azR(N:X.C.ok)(ak:i<X.C.cT)(aj:bJ X z s)(d:s.shut=false)(e:Nat)(aY:dR (bD z.ap) R=some (ptr e 0))(t:b0)(O:s.ax[(X.C.bc+i)]?=some t)(U:t.on=none)(h2:¬J=2)(bA:¬J=4)(d3:¬J=5)(l:¬J=7):ab E 53 kh (bh X z s) ni:=by
 refine ag5 ?_;intro H D b a V ay aM;exact QB
def azS(N:X.C.ok)(ak:i<X.C.cT)(aj:bJ X z s)(d:s.shut=false)(e:Nat)(aY:dR (bD z.ap) R=some (ptr e 0))(t:b0)(O:s.ax[(X.C.bc+i)]?=some t)(U:t.on=none)(hk:J=7)(y:aq)(ge:ab E 95 [ptr zc 0,af 1] (bh X z {s with shut:=true}) eg):ab E 53 kh (bh X z s) tJ:=by
 refine ag5 ?_;intro H D b a V ay aM;exact afN
end
abbrev hR(e:dA):List Value:=[af e.kind,af e.a,af e.b,S e.tag,af e.n]
def abi{X:cO}{z:dw}{s y:aq}{j a:Nat}(N:X.C.ok)(aj:bJ X z s)(ag:Th.ask X.C j s a=some y):ab E 95 [ptr (X.bp j) 0,af a] (bh X z s) eg:=by
 unfold Th.ask at ag;split at ag
 . rename_i a6
   obtain⟨aO,aX⟩:=a6;obtain⟨t,O,U,rfl⟩:=Th.j6 ag;have hp:=ajZ (L:=List.replicate X.C.cells 0) N gl aX;have h1:=hp.len;have h2:=hp.dG;exact jO (di z.b4 z.b5 s.trace::bs X.am .i64 (bD z.ap)::ao j5::Z2) (auU X z s j a t aX ad N.hd aO O U) au (λu I q=>by
   obtain⟨rfl,aD,aI,rfl⟩:=q;exact⟨bh X Es aaq,⟨rfl,Es,aaq,rfl,kg,rfl⟩,au⟩)
 . cases ag
theorem azT{X:cO}{z:dw}{s y:aq}{b:Bool}{n:Nat}{f0:Nat->Th.ga}{e:dA}(N:X.C.ok)(dg:Th.h7 X.P)(cL:Th.iQ f0 X.C X.C.cells)(aj:bJ X z s)(h:Th.hg f0 X.C X.P n s)(aO:n+1<=Th.hh)(g:ab E 92 [S e.tag] [] Er)(ag:Th.hand X.C X.P s e=some (y,b)):
 ab E 53 [ptr X.h 0,.agg (hR e).toArray] (bh X z s) vf:=by
 refine Kh ?_;intro hw I u Y;have W:bP s+Th.hB<=Th.hB*(n+1):=y0;have r:Th.hB*(n+1)<1099511627776:=Iz;obtain⟨J,ea,R,fx,de⟩:=e;unfold Th.hand at ag;simp only at ag;by_cases aF:ea<0\/(X.C.cT:Int)<=ea
 . rw[bg aF]at ag
   cases ag;exact azr X z s ea J R de fx N aj (by have:=N.h1;omega)
 . rw[a7 aF]at ag
   obtain⟨i,rfl⟩:∃i:Nat,ea=i:=⟨ea.toNat,by omega⟩;have ak:i<X.C.cT:=ad;rw[Kk]at ag;obtain⟨t,cQ⟩:=Th.qJ (j:=X.C.bc+i) h.inv ad;have l:=rk cQ;by_cases d:s.shut=true
   . have g2:(s.shut||!decide P7)=true:=by rw[d];rfl
     by_cases b8:J=2
     . rw[bg b8]at ag
       cases B:t.on with
       |
        some q=>
        rw[l,B]at ag;simp only[FB,fu]at ag;obtain⟨m,h1,h2⟩:=oV.1 ag;cases h2;exact azs X z s i J R de fx N ak aj d t q.1 q.2 cQ B b8 y PZ
       |
        none=>
        rw[l,B]at ag;simp only[FC,e2,eI]at ag;cases ag;exact azt X z s i J R de fx N ak aj d t cQ B b8
     . rw[a7 b8]at ag
       cases B:t.on with
       |
        some q=>
        rw[l,B]at ag;simp only[FB,fu]at ag;cases ag;exact azu X z s i J R de fx N ak aj d t q.1 q.2 cQ B b8
       |
        none=>
        rw[l,B]at ag;simp only[FC,e2,eI]at ag;by_cases ez:J=4
        . rw[bg ez]at ag
          cases Z:mc fx with
          |
           false=>
           rw[Z]at g;rw[bg (Or.inl (by rw[Z];rfl))]at ag;cases ag;exact azB X z s i J R de fx N ak aj d t cQ B ez g
          |
           true=>
           rw[Z]at g;by_cases T:0<=de/\de<=255
           . rw[a7 OO]at ag
             rw[g2]at ag;rw[bg rfl]at ag;obtain⟨m,h1,h2⟩:=oV.1 ag;cases h2;obtain⟨c2,rfl⟩:=Th.l8 h1;exact azD X z s i J R de fx N ak aj d t cQ B ez T c2 g
           . rw[bg (Or.inr ad)]at ag
             cases ag;exact azC X z s i J R de fx N ak aj d t cQ B ez T g
        . rw[a7 ez]at ag
          by_cases f:J=5
          . rw[bg f,g2]at ag
            rw[bg rfl]at ag;obtain⟨m,h1,h2⟩:=oV.1 ag;cases h2;obtain⟨c2,rfl⟩:=Th.l8 h1;exact azE X z s i J R de fx N ak aj d t cQ B f c2
          . rw[a7 f]at ag
            by_cases c:J=7
            . rw[a7 (by rintro⟨_,h1⟩;rw[d]at h1;cases h1)]at ag
              cases ag;exact azG X z s i J R de fx N ak aj d t cQ B c
            . rw[a7 (λh1=>c h1.1)]at ag
              cases ag;exact azF X z s i J R de fx N ak aj d t cQ B b8 ez f c
   replace d:s.shut=false:=by simpa using d
   by_cases aA:1<=R/\R<=(s.aE.length:Int)
   . have g2:(s.shut||!decide P7)=false:=by rw[d,lM aA];rfl
     have Id:=aj.ap;have aY:=zI (cD (show R.toNat -1<z.ap.length by omega));rw[show((R.toNat -1+1:Nat):Int)=R by omega]at aY;by_cases b8:J=2
     . rw[bg b8]at ag
       cases B:t.on with
       |
        some q=>
        rw[l,B]at ag;simp only[FB,fu]at ag;obtain⟨m,h1,h2⟩:=oV.1 ag;cases h2;exact azy X z s i J R de fx N ak aj d _ aY t q.1 q.2 cQ B b8 y PZ
       |
        none=>
        rw[l,B]at ag;simp only[FC,e2,eI]at ag;cases ag;exact azz X z s i J R de fx N ak aj d _ aY t cQ B b8
     . rw[a7 b8]at ag
       cases B:t.on with
       |
        some q=>
        rw[l,B]at ag;simp only[FB,fu]at ag;cases ag;exact azA X z s i J R de fx N ak aj d _ aY t q.1 q.2 cQ B b8
       |
        none=>
        rw[l,B]at ag;simp only[FC,e2,eI]at ag;by_cases ez:J=4
        . rw[bg ez]at ag
          cases Z:mc fx with
          |
           false=>
           rw[Z]at g;rw[bg (Or.inl (by rw[Z];rfl))]at ag;cases ag;exact azN X z s i J R de fx N ak aj d _ aY t cQ B ez g
          |
           true=>
           rw[Z]at g;by_cases T:0<=de/\de<=255
           . rw[a7 OO]at ag
             rw[g2]at ag;rw[a7 bw]at ag;obtain⟨m,h1,h2⟩:=oV.1 ag;cases h2;exact azP X z s i J R de fx N ak aj d _ aY t cQ B ez T g y (pg (L:=[]) (Fs (p:=0) bw) (Tf (k:=.nil) aj h1))
           . rw[bg (Or.inr ad)]at ag
             cases ag;exact azO X z s i J R de fx N ak aj d _ aY t cQ B ez T g
        . rw[a7 ez]at ag
          by_cases f:J=5
          . rw[bg f,g2]at ag
            rw[a7 bw]at ag;obtain⟨m,h1,h2⟩:=oV.1 ag;cases h2;exact azQ X z s i J R de fx N ak aj d _ aY t cQ B f y (by have aN:=abi N aj h1;rw[show((R.toNat:Nat):Int)=R by omega]at aN;exact aN)
          . rw[a7 f]at ag
            by_cases c:J=7
            . rw[bg ⟨c,d⟩]at ag
              obtain⟨m,h1,h2⟩:=oV.1 ag;cases h2;exact azS X z s i J R de fx N ak aj d _ aY t cQ B c y abh
            . rw[a7 (λh1=>c h1.1)]at ag
              cases ag;exact azR X z s i J R de fx N ak aj d _ aY t cQ B b8 ez f c
   . have g2:(s.shut||!decide P7)=true:=by rw[d,mJ aA];rfl
     have aY:dR (bD z.ap) R=none:=KU (by rw[aj.ap];exact aA);by_cases b8:J=2
     . rw[bg b8]at ag
       cases B:t.on with
       |
        some q=>
        rw[l,B]at ag;simp only[FB,fu]at ag;obtain⟨m,h1,h2⟩:=oV.1 ag;cases h2;exact azv X z s i J R de fx N ak aj d aY t q.1 q.2 cQ B b8 y PZ
       |
        none=>
        rw[l,B]at ag;simp only[FC,e2,eI]at ag;cases ag;exact azw X z s i J R de fx N ak aj d aY t cQ B b8
     . rw[a7 b8]at ag
       cases B:t.on with
       |
        some q=>
        rw[l,B]at ag;simp only[FB,fu]at ag;cases ag;exact azx X z s i J R de fx N ak aj d aY t q.1 q.2 cQ B b8
       |
        none=>
        rw[l,B]at ag;simp only[FC,e2,eI]at ag;by_cases ez:J=4
        . rw[bg ez]at ag
          cases Z:mc fx with
          |
           false=>
           rw[Z]at g;rw[bg (Or.inl (by rw[Z];rfl))]at ag;cases ag;exact azH X z s i J R de fx N ak aj d aY t cQ B ez g
          |
           true=>
           rw[Z]at g;by_cases T:0<=de/\de<=255
           . rw[a7 OO]at ag
             rw[g2]at ag;rw[bg rfl]at ag;obtain⟨m,h1,h2⟩:=oV.1 ag;cases h2;obtain⟨c2,rfl⟩:=Th.l8 h1;exact azJ X z s i J R de fx N ak aj d aY t cQ B ez T c2 g
           . rw[bg (Or.inr ad)]at ag
             cases ag;exact azI X z s i J R de fx N ak aj d aY t cQ B ez T g
        . rw[a7 ez]at ag
          by_cases f:J=5
          . rw[bg f,g2]at ag
            rw[bg rfl]at ag;obtain⟨m,h1,h2⟩:=oV.1 ag;cases h2;obtain⟨c2,rfl⟩:=Th.l8 h1;exact azK X z s i J R de fx N ak aj d aY t cQ B f c2
          . rw[a7 f]at ag
            by_cases c:J=7
            . rw[bg ⟨c,d⟩]at ag
              obtain⟨m,h1,h2⟩:=oV.1 ag;cases h2;exact azM X z s i J R de fx N ak aj d aY t cQ B c y abh
            . rw[a7 (λh1=>c h1.1)]at ag
              cases ag;exact azL X z s i J R de fx N ak aj d aY t cQ B b8 ez f c
theorem aka(X:cO)(z:dw)(s:aq)(R de:Int)(fx:cG)(y:aq)(j:Nat)(t:b0)(x F:Value)(a:al)(N:X.C.ok)(i:j<X.C.bc)(v:j<s.ax.length)
 (d:∀D h,Sat (kf X j x F {t with draw:=fe de}::a::D) h->Sat (hF X z.ap z.ae j y9::D) h)(ge:ab E 44 [ptr (X.bp j) 0,y7 X j 45] (bh X z I4) eg):
 ab E 26 abP [kf X j x F t,a,jv X z s j] tJ:=by
 refine gv (M:=[kf X j x F t,cp X z s,eL X,eW OW]) (λD h q=>?_) (azq X z s R de fx y j t x F (eW OW) N i ?_)
 . have T:Sat (kf X j x F t::jv X z s j::a::D) h:=Sat.tail (λh q=>Sat.swap q) q
   have w:=Sat.tail (λh q=>sX (l:=LT X z s j) q) T;have i0:=(show∀h,Sat _ h->Sat (kf X j x F t::cp X z s::eL X::([a,di z.b4 z.b5 s.trace,dX z.na z.dT s.notes,bs X.am .i64 (bD z.ap),ao (dI X z.ap s.aE),bs X.dL .u64 (bD z.ae),ao (eB z.ae s.lets),Lg.cY X.ld s.a8,dz X.cF X.C.c6 s.dead,bz X.m s.L z.tt,eo X,ee X s.bm,dy X.bl X.m X.C.bl X.C.aT,ao (dd X),ef X,e7 X,eO X,ao ((cK X z.ap z.ae s.ax).set j eJ)]++D)) h from(au)) h w;exact Sat.tail (λh q=>Sat.tail (λh q=>Sat.tail (λh q=>sW h q) q) q) i0
 . refine gv (M:=bh X z I4) (λD h q=>?_) ge
   refine FA (t:=y9) v h (d _ h ?_);have w:=Sat.tail (λh q=>Sat.tail (λh q=>Sat.tail (λh q=>sX (l:=OW) q) q) q) q;have i0:=(show∀h,Sat _ h->Sat (kf X j x F {t with draw:=fe de}::a::(LT X z s j++D)) h from(au)) h w;exact Sat.tail (λh q=>Sat.tail (λh q=>sW (l:=LT X z s j) h q) q) i0
theorem akb{X:cO}{z:dw}{s y:aq}{b:Bool}{n:Nat}{f0:Nat->Th.ga}{e:dA}(N:X.C.ok)(dg:Th.h7 X.P)(cL:Th.iQ f0 X.C X.C.cells)(aj:bJ X z s)(h:Th.hg f0 X.C X.P n s)(aO:n+1<=Th.hh)(g:ab E 92 [S e.tag] [] Er)(ag:Th.nO X.C X.P s e=some (y,b)):
 ab E 26 [ptr X.h 0,.agg (hR e).toArray] (bh X z s) vf:=by
 have Y:=h.ph;have u:Th.hB=90000:=rfl;unfold Th.nO at ag;by_cases fG:e.kind=1
 . rw[bg fG]at ag
   obtain⟨J,ea,R,fx,de⟩:=e;simp only at fG ag;subst fG;by_cases aF:ea<0\/(X.C.bc:Int)<=ea
   . rw[bg aF]at ag
     cases ag;exact azp X z s R de fx ea N aj (by have:=N.aG;omega)
   . rw[a7 aF]at ag
     obtain⟨j,rfl⟩:∃j:Nat,ea=j:=⟨ea.toNat,by omega⟩;have i:j<X.C.bc:=ad;rw[Kk]at ag;obtain⟨t,cQ⟩:=Th.qJ (j:=j) h.inv ad;have v:j<s.ax.length:=(dp.1 cQ).1;simp only[cQ,qD,k0]at ag;obtain⟨m,h1,h2⟩:=oV.1 ag;cases h2;have aS:0<=fe de/\fe de<18446744073709551616:=by rw[xm];omega
     have r:Th.hg f0 X.C X.P n I4:=⟨Th.ajd h.inv cQ rfl aS,h.ph⟩;have ge:=aj8 N dg cL (z:=z) (s:=I4) kg r aO i h1;refine gv (M:=[hF X z.ap z.ae j t,jv X z s j]) (λD h F=>Tq cQ h F) ?_;cases B:t.on with
     |
      none=>
      have aC:hF X z.ap z.ae j t=kf X j .nilIface .nilFunc t:=by unfold hF;rw[B]
      have aV:hF X z.ap z.ae j y9=kf X j .nilIface .nilFunc y9:=by unfold hF;rw[B]
      rw[aC];refine gv (M:=[kf X j .nilIface .nilFunc t,eW [],jv X z s j]) (λD h F=>Sat.tail (λh F=>sW (l:=[]) h F) F) (aka X z s R de fx y j t .nilIface .nilFunc (eW []) N i v (λD h F=>?_) ge);rw[aV];exact Sat.tail (λh F=>sX (l:=[]) F) F
     |
      some q=>
      obtain⟨o,k⟩:=q;have aC:hF X z.ap z.ae j t=dq (bv:=Nat×Nat×List Value) zm Pl:=by unfold hF;rw[B]
      have aV:hF X z.ap z.ae j y9=dq (bv:=Nat×Nat×List Value) zm (fun⟨p,f,c⟩=>(kf X j wT (bk f c) y9::Br)):=by unfold hF;rw[B]
      rw[aC];refine xG (fun⟨p,f,c⟩ _=>?_);refine gv (M:=[kf X j (.iface (nG o) (ptr p 0)) (bk f c) t,eW Br,jv X z s j]) (λD h F=>Sat.tail (λh F=>sW (l:=Br) h F) F) (aka X z s R de fx y j t _ _ (eW Br) N i v (λD h F=>?_) ge);rw[aV];exact cE (D:=D) (p,f,c) trivial qu h (Sat.tail (λh F=>sX (l:=Br) F) F)
 rw[a7 fG]at ag;by_cases hU:e.kind=3
 . rw[bg hU]at ag
   have bi:=aj9 N dg cL aj h aO ag;obtain⟨J,ea,R,fx,de⟩:=e;simp only at hU;subst hU;exact azl X z s R de fx y b ea bi
 rw[a7 hU]at ag;by_cases a:e.kind=6
 . rw[bg a]at ag
   obtain⟨J,ea,R,fx,de⟩:=e;simp only at a;subst a;split at ag
   . rename_i hk
     cases ag;exact azm X z s R de fx ea aj hk
   . rename_i hk
     cases ag;exact azn X z s R de fx ea aj hk
 rw[a7 a]at ag;have bi:=azT N dg cL aj h aO g ag;obtain⟨J,ea,R,fx,de⟩:=e;exact azo X z s R de fx y b J ea fG hU a bi
section
variable{X:cO}{ap ae:List Nat}
def akc{j:Nat}{t:b0}{h:eQ}(F:hF X ap ae j t h):h (X.bp j)≠none:=by
 unfold hF at F;cases aJ:t.on with
 |
  none=>
  rw[aJ]at F;intro e;have L:h (X.bp j)=some (.cells [ptr X.h 0,af (jV X j),Value.nilIface,Value.nilFunc,bx t.draw,Value.bool t.jj].toArray 128 (0,0)):=F;rw[e]at L;cases L
 |
  some q=>
  obtain⟨o,k⟩:=q;rw[aJ]at F;obtain⟨⟨p,f,c⟩,_,aW⟩:=ha (D:=[]) (Sat.one F);obtain⟨h1,h2,_,rfl,aX,_⟩:=aW;intro e;have aN:=join_some (h2:=h2) aX;rw[e]at aN;cases aN
def azU{l:List b0}{D:List al}{h:eQ}(F:Sat (ao u6::D) h){i j:Nat}(ak:i<l.length)(O:j<l.length)(e:X.bp i=X.bp j):i=j:=by
 by_cases g1:i=j
 . exact g1
 . exfalso
   have aC:(cK X ap ae l)[i]?=some (hF X ap ae i l[i]):=by simp[sF,ak]
   have aV:((cK X ap ae l).set i eJ)[j]?=some (hF X ap ae j l[j]):=by rw[rz g1];simp[sF,O]
   have gT:=r6 aC h F;have L:=Sat.tail (λh F=>r6 aV h F) gT;obtain⟨aX,aF,aS,_,a,⟨aA,ai,_,rfl,b,_⟩⟩:=L;have c1:=akc a;have bq:=akc b;rw[e]at c1;rcases aS (X.bp j)with h1|h1
   . exact c1 h1
   . have h2:aA (X.bp j)=none:=by
      by_cases aN:aA (X.bp j)=none
      . exact aN
      . obtain⟨v,Z⟩:=Option.ne_none_iff_exists'.1 aN
        have:=join_some (h2:=ai) Z;rw[h1]at this;cases this
     exact bq h2
end
section
variable(X:cO)(z:dw)(s:aq)(j:Nat)(t:b0)
def azV(O:s.ax[j]?=some t)(U:t.on=none):ab E 48 eE rr (aH gP rr):=by
 refine av Tryz.func48 λH D=>?_;refine bQ ?_;refine aU (xe X z s j t O U) ?_;refine bE ?_;exact aQ cj
def azW(O:s.ax[j]?=some t)(o:b3)(k:Th.K)(U:t.on=some (o,k)):ab E 48 eE rr (aH hI rr):=by
 refine av Tryz.func48 λH D=>?_;refine bQ ?_;refine aU (By X z s j t o k O U) ?_;refine bE ?_;exact aQ cj
def azX(O:s.ax[j]?=some t)(ar:Nat)(o:b3)(k:Th.K)(U:t.on=some (o,k)):ab E 50 Jx u2 Pm:=by
 refine av Tryz.func50 λH D=>?_;refine adm ?_;refine aU (By X z s j t o k O U) ?_;refine s0 ?_;exact aQ cj
def azY(O:s.ax[j]?=some t)(ar:Nat)(U:t.on=none)(aX:t.jj=false):ab E 50 Jx u2 Pm:=by
 refine av Tryz.func50 λH D=>?_;haveI:ib (X.bp j) 5 (ao (cK X z.ap z.ae s.ax)) (.bool false):=by
  exact QH
 refine aex ?_;refine gq ?_;exact uj
def azZ(O:s.ax[j]?=some t)(ar:Nat)(U:t.on=none)(aX:t.jj=true)(i:j<X.C.bc)(g:X.C.bc<=8)(aw:2+X.C.bc<=s.L.length)(T:s.L.getD (2+j) 0=0):ab E 50 Jx u2 Pm:=by
 refine av Tryz.func50 λH D=>?_;haveI:=sy (X:=X) (ap:=z.ap) (ae:=z.ae) O;haveI:ib (X.bp j) 5 (ao (cK X z.ap z.ae s.ax)) (.bool true):=by
  exact QH
 refine af6 ?_;intro aC;refine go_v rfl (.yes rfl rfl rfl) rfl acd ?_;exact J0
def az0(O:s.ax[j]?=some t)(ar:Nat)(U:t.on=none)(aX:t.jj=true)(i:j<X.C.bc)(g:X.C.bc<=8)(aw:2+X.C.bc<=s.L.length)(T:¬s.L.getD (2+j) 0=0):ab E 50 Jx u2 (aH gP u2):=by
 refine av Tryz.func50 λH D=>?_;haveI:=sy (X:=X) (ap:=z.ap) (ae:=z.ae) O;haveI:ib (X.bp j) 5 (ao (cK X z.ap z.ae s.ax)) (.bool true):=by
  exact QH
 refine af6 ?_;intro aC;refine go_v rfl (.yes rfl rfl rfl) rfl P5 ?_;exact J0
end
def akd{P:Program}{f:FuncId}{args:List Value}{X:cO}{ap ae:List Nat}{l:List b0}{a2:List al}{post:Value->List al->Prop}(h:(∀i j,i<l.length->j<l.length->X.bp i=X.bp j->i=j)->ab P f args (ao u6::a2) post):ab P f args (ao u6::a2) post:=λH D w s=>
 h (λi j ak O e=>azU s.fg ak O e) H D w s
def ake(X:cO)(k n:Nat):B0 ((List.range n).map λi=>X.bp (k+i))=(List.range n).map λi=>ptr (X.bp (k+i)) 0:=by
 simp[B0,wN,Function.comp_def]
def akf{a:Option Addr}{c e n:Nat}{xs:List Value}{D:List al}{h:eQ}(F:Sat (own qt e 1 n xs::D) h):gI h qt n xs:=by
 obtain⟨h1,h2,_,rfl,o,_⟩:=F;exact(oc.rd o).more
def FD(X:cO)(k n:Nat)(b:Nat->Bool)(p:Nat):Bool:=(List.range n).any λi=>decide (X.bp (k+i)=p)&&b i
section
variable{X:cO}{k n:Nat}{b:Nat->Bool}
def Lv(inj:∀i j,i<n->j<n->X.bp (k+i)=X.bp (k+j)->i=j){i:Nat}(ak:i<n):FD X k n b (X.bp (k+i))=b i:=by
 unfold FD;rw[o0];simp only[zs,pM,iy,ln];constructor
 . rintro⟨j,O,e,aA⟩
   rw[inj j i O ak e]at aA;exact aA
 . exact λaA=>⟨i,ak,rfl,aA⟩
def akg(inj:∀i j,i<n->j<n->X.bp (k+i)=X.bp (k+j)->i=j):((List.range n).map λi=>X.bp (k+i)).any (FD X k n b)=(List.range n).any b:=by
 rw[List.any_map];apply o0.2;simp only[zs,pM,Function.comp_apply];constructor
 . rintro⟨i,ak,aA⟩
   rw[Lv inj ak]at aA;exact⟨i,ak,aA⟩
 . rintro⟨i,ak,aA⟩
   exact⟨i,ak,by rw[Lv inj ak];exact aA⟩
def aqJ(X:cO)(z:dw)(s:aq)(N:X.C.ok)(aw:s.ax.length=X.C.bc+X.C.cT+1):ab E 49 [.slice X.zF X.C.cT X.zG,.func (.func 48) #[] #[]] P8 (aH (.bool aci) P8):=by
 refine akd λa=>?_;have inj:∀i j,i<X.C.cT->j<X.C.cT->X.bp (X.C.bc+i)=X.bp (X.C.bc+j)->i=j:=λi j ak O e=>by have:=a _ _ ad ad e;omega
 have bA:=N.bA;have bi:=ahD ((List.range X.C.cT).map λi=>X.bp (X.C.bc+i)) X.zF X.zG 48 [] P8 (FD X X.C.bc X.C.cT (λi=>busy s (X.C.bc+i))) Zv
  (λh F=>by rw[ake,o9,u0];exact akf (Sat.swap F))
  (fun x ah => by
   obtain⟨i,ak,rfl⟩:=lN.1 ah;rw[pM]at ak;rw[Lv inj ak];obtain⟨t,cQ⟩:∃t,s.ax[X.C.bc+i]?=some t:=⟨_,cD ad⟩;rw[rk cQ];refine jO [e7 X] (Q:=λu I=>u=.bool t.on.isSome/\I=rr) (M:=rr) ?_ qu (λu I q=>by obtain⟨rfl,rfl⟩:=q;exact⟨_,cj,λh F=>F⟩);cases B:t.on with
   |none=>exact azV X z s _ t cQ B
   |some q=>exact azW X z s _ t cQ q.1 q.2 B)
 rw[o9,u0,akg inj]at bi;exact bi
def az1(X:cO)(z:dw)(s:aq)(ar:Nat)(N:X.C.ok)(aw:s.ax.length=X.C.bc+X.C.cT+1)(K:2+X.C.bc<=s.L.length):ab E 49 [.slice X.zD X.C.bc X.zE,.func (.func 50) #[] [ptr ar 0].toArray] Eb
 (aH (.bool ((List.range X.C.bc).any λi=>!(!busy s i&&((s.ax[i]?).map (·.jj)).getD false&&!decide I2))) Eb):=by
 refine akd λa=>?_;have inj:∀i j,i<X.C.bc->j<X.C.bc->X.bp (0+i)=X.bp (0+j)->i=j:=λi j ak O e=>by have:=a _ _ ad ad e;omega
 have c:=N.bQ;have bi:=ahD ((List.range X.C.bc).map λi=>X.bp (0+i)) X.zD X.zE 50 [ptr ar 0] Eb (FD X 0 X.C.bc (λi=>!(!busy s i&&((s.ax[i]?).map (·.jj)).getD false&&!decide I2))) Zv
  (fun h F => by
   rw[ake,o9,u0];simp only[lo];exact akf ((show∀h,Sat [ao (cK X z.ap z.ae s.ax),aa ar 32 [ptr X.h 0],cp X z s,bz X.m s.L z.tt,eL X] h->Sat [eL X,ao (cK X z.ap z.ae s.ax),aa ar 32 [ptr X.h 0],cp X z s,bz X.m s.L z.tt] h from(au)) h F))
  (fun x ah => by
   obtain⟨i,ak,rfl⟩:=lN.1 ah;rw[pM]at ak;rw[Lv inj ak,lo];obtain⟨t,cQ⟩:∃t,s.ax[i]?=some t:=⟨_,cD ad⟩;rw[rk cQ,cQ];simp only[nD,KT];have fin:∀v:Bool,v=!acj->ab E 50 [ptr (X.bp i) 0,ptr ar 0] u2 (aH (.bool v) u2)->ab E 50 [ptr (X.bp i) 0,ptr ar 0] Eb (aH (.bool (!acj)) Eb):=λv Z h=>by
    subst Z;exact jO [eL X] h (au) (λu I q=>by obtain⟨rfl,rfl⟩:=q;exact⟨_,cj,(au)⟩)
   cases B:t.on with
   |some q=>rw[B]at fin;exact fin true gl (azX X z s i t cQ ar q.1 q.2 B)
   |
    none=>
    rw[B]at fin;cases aX:t.jj with
    |false=>rw[aX]at fin;exact fin true gl (azY X z s i t cQ ar B aX)
    |
     true=>
     rw[aX]at fin;by_cases T:s.L.getD (2+i) 0=0
     . exact fin true (by rw[lM T];rfl) (azZ X z s i t cQ ar B aX ak c K T)
     . exact fin false (by rw[mJ T];rfl) (az0 X z s i t cQ ar B aX ak c K T))
 rw[o9,u0,akg inj]at bi;exact bi
end
def az2(X:cO)(z:dw)(s:aq)(N:X.C.ok)(aw:s.ax.length=X.C.bc+X.C.cT+1)(co:((List.range X.C.cT).any λi=>busy s (X.C.bc+i))=false)(t:b0)(O:s.ax[(X.C.bc+X.C.cT)]?=some t)(U:t.on=none)(hk:s.ticks=0)(K:2+X.C.bc<=s.L.length):ab E 25 [ptr X.h 0] (bh X z s) (aH (.bool (!((List.range X.C.bc).any λi=>!(!busy s i&&((s.ax[i]?).map (·.jj)).getD false&&!decide I2)))) (bh X z s)):=by
 refine av Tryz.func25 λH D=>?_;refine bb ?_;refine wn λar=>?_;refine ov ?_;refine cn rfl (b9 rfl (IB) bN) ?_;refine gU ?_;refine fC ?_;refine dh ?_;refine aU (xe X z s wW t O U) ?_;refine c4 ?_;refine cP ?_;refine fB ?_;refine aU (az1 X z s ar N aw K) ?_;refine bj ?_;exact aQ cj
def Ts{X:cO}{z:dw}{s:aq}{n:Nat}{f0:Nat->Th.ga}(N:X.C.ok)(h:Inv f0 X.C X.P n s):ab E 25 [ptr X.h 0] (bh X z s) (aH (.bool (Th.quiet X.C s)) (bh X z s)):=by
 have aw:=h.base.tX;obtain⟨ak,S,_⟩:=h.bp;have K:2+X.C.bc<=s.L.length:=by
  rw[S.len];have dx:X.C.bC.size=X.C.bc+(2+2*X.C.aT)+X.C.bc*(2+X.C.eX):=rfl;have ho:X.C.cells=2+X.C.bC.size+(3+2*X.C.iS)+X.C.aT*X.C.aT+X.C.aT*X.C.fh:=rfl;omega
 obtain⟨t,cQ⟩:∃t,s.ax[(X.C.bc+X.C.cT)]?=some t:=⟨_,cD ad⟩;have G:(List.range X.C.cT).all (λi=>!busy s (X.C.bc+i))=!aci:=by rw[<-az3]
 unfold Th.quiet;rw[G,rk cQ];cases co:((List.range X.C.cT).any λi=>busy s (X.C.bc+i))with
 |
  true=>
  refine av Tryz.func25 λH D=>?_;refine bb ?_;refine wn λar=>?_;refine eY ?_;refine aG ?_;refine cn rfl (b9 rfl (IB) bN) ?_;rintro _ D ⟨_,⟨rfl,rfl⟩,rfl⟩;refine gq ?_;refine bE ?_;exact aQ cj
 |
  false=>
  cases B:t.on with
  |
   some q=>
   refine av Tryz.func25 λH D=>?_;refine bb ?_;refine wn λar=>?_;refine eY ?_;refine aG ?_;refine cn rfl (b9 rfl (IB) bN) ?_;rintro _ D ⟨_,⟨rfl,rfl⟩,rfl⟩
   try simp only[ck,ci]
   refine dh ?_;refine aU acu ?_;refine eY ?_;refine bR ?_;exact aQ cj
  |
   none=>
   by_cases hk:s.ticks=0
   . have bi:=az2 X z s N aw co t cQ B hk K
     rw[lM hk];rw[az3]at bi;simp only[Bool.not_not]at bi;exact bi
   . rw[mJ hk]
     refine av Tryz.func25 λH D=>?_;refine bb ?_;refine wn λar=>?_;refine eY ?_;refine aG ?_;refine cn rfl (b9 rfl (IB) bN) ?_;rintro _ D ⟨_,⟨rfl,rfl⟩,rfl⟩
     try simp only[ck,ci]
     refine dh ?_;refine aU (xe X z s wW t cQ B) ?_;refine c4 ?_;refine cP ?_;refine dB ?_;exact aQ cj
section
variable{X:cO}{z:dw}{f0:Nat->Th.ga}{ed i:Nat}{cb s:aq}
abbrev Lw(X:cO)(j:Nat)(s:aq):Option aq:=Th.stepT X.C X.P (e5 X.C j) j s
abbrev zU(X:cO)(i:Nat)(s:aq):Option aq:=if busy s (X.C.bc+i)then eG X.C X.P (X.C.bc+i) s else some s
structure az4(X:cO)(f0:Nat->Th.ga)(m r:Nat)(y:aq)(b:Bool)(k:Nat)(z:dw)(s:aq):Prop where
 aj:bJ X z s
 h:Th.hg f0 X.C X.P (r+13*k) s
 ag:Th.rest X.C X.P (m -k) s=some (y,b)
 hk:k<=m
structure xI(X:cO)(f0:Nat->Th.ga)(F:Nat->aq->Option aq)(w ed:Nat)(cb:aq)(i:Nat)(z:dw)(s:aq):Prop where
 aj:bJ X z s
 h:Th.hg f0 X.C X.P (ed+i) s
 ai:Th.sR F ((List.range w).drop i) s=some cb
 ak:i<=w
theorem az5{y:aq}{n i:Nat}{f0:Nat->Th.ga}{t:b0}{o:b3}{k:Th.K}(N:X.C.ok)(dg:Th.h7 X.P)(cL:Th.iQ f0 X.C X.C.cells)(aj:bJ X z s)(h:Th.hg f0 X.C X.P n s)(aO:n+1<=Th.hh)(cQ:s.ax[X.C.bc+i]?=some t)(B:t.on=some (o,k))(ag:eG X.C X.P (X.C.bc+i) s=some y):
 ab E 44 Jd (bh X z s) eg:=by
 refine Kh ?_;intro hw I u Y;have W:bP s+Th.hB<=Th.hB*(n+1):=y0;have r:Th.hB*(n+1)<1099511627776:=Iz;exact Je N dg cL r ad aj h.inv cQ B W ag
def xI.next{w ed i:Nat}{cb s:aq}{z:dw}(N:X.C.ok)(dg:Th.h7 X.P)(cL:Th.iQ f0 X.C X.C.cells)(h:xI X f0 (Lw X) w ed cb i z s)(R:w<=X.C.bc)(ak:i<w)(aO:ed+i+1<=Th.hh):∃aW,Lw X i s=some aW/\∀cl,bJ X cl aW->xI X f0 (Lw X) w ed cb (i+1) cl aW:=by
 have bi:=h.ai;rw[Th.ai3 ak]at bi;obtain⟨aW,aC,aV⟩:=ij.1 bi;have aF:=Th.Lm (j:=i) cL N dg aO h.h ad (Th.Ln N ad h.h);obtain⟨f,bF,o⟩:=aF;replace aC:Th.stepT X.C X.P (e5 X.C i) i s=some aW:=aC;obtain rfl:f=aW:=Zw;exact⟨f,bF,λcl e8=>⟨e8,o,aV,ak⟩⟩
def xI.aBR{z:dw}(N:X.C.ok)(dg:Th.h7 X.P)(cL:Th.iQ f0 X.C X.C.cells)(h:xI X f0 (zU X) X.C.cT ed cb i z s)(ak:i<X.C.cT)(aO:ed+i+1<=Th.hh):∃aW,zU X i s=some aW/\∀cl,bJ X cl aW->xI X f0 (zU X) X.C.cT ed cb (i+1) cl aW:=by
 have bi:=h.ai;rw[Th.ai3 ak]at bi;obtain⟨aW,aC,aV⟩:=ij.1 bi;have aF:Th.hg f0 X.C X.P (ed+(i+1)) aW:=by
  unfold zU at aC;split at aC
  . rename_i aA
    obtain⟨f,bF,o⟩:=Th.Fl cL N dg aO h.h ad aA;obtain rfl:f=aW:=Zw;exact o
  . cases aC;exact h.h.aU (io _) aO
 exact⟨aW,aC,λcl e8=>⟨e8,aF,aV,ak⟩⟩
end
end Go.Proofs.YtnnhpnccfnghdaaGreat.L.bM
