import Derived.Test.YtnnhpnccfnghdaaGreatK9
set_option linter.all false
set_option maxRecDepth 100000
set_option maxHeartbeats 4800000
namespace Go.L.Th
open Go.L Go.L.Lx Go.L.Pg Go.L.Ring Go.L.dr Go.L.dX Go.L.Whl Go.L.dB Go.L.Led
def eg.le{f:Nat->gl}{C:bK}{P:List b1}{n ce j m q:Nat}{g:ar->bY->K->Option ar}(h:eg f C P n ce j m g)(l:q<=m):eg f C P n ce j q g:=
 λs k a b c d e=>h s k a b c d ae
section
variable{f:Nat->gl}{C:bK}{P:List b1}{n ce j:Nat}{g:ar->bY->K->Option ar}
variable(N:C.ok)(az:ce<1099511627776)(cL:n<=br)(dm:iN P)
include N az cL dm
theorem S8{s:ar}{r:bY}{k:K}(aX:eg f C P n ce j (bw k) g)(h:In f C P n j (eL k) (eM k) s)(hk:cR C P (bl s) k)(aD:eK C j s r k)(W:bL s+bw k<=ce):Good f C P n ce (dw C P g j s r k):=by
 have H:br=1000000000000:=rfl;cases k with
 |nil=>exact⟨s,rfl,h.inv,by omega⟩
 |
  polled=>
  obtain⟨c,rfl⟩:=aD;exact ajg h ae
 |
  found=>
  obtain⟨J,aD⟩:=aD;cases r with
  |
   fJ c=>
   simp only[dw];split
   . rename_i h1;exact aji N az cL h (aD.2 h1) ae
   . exact jF h (λal=>awe J) trivial ⟨J,awf⟩ ae
  |_=>exact aD.elim
 |
  pG=>
  obtain⟨J,aD⟩:=aD;cases r with
  |
   fJ c=>
   simp only[dw];split
   . rename_i h1;exact aji N az cL h (aD.2 h1) ae
   . exact ajg h ae
  |_=>exact aD.elim
 |
  mC=>
  obtain⟨c,rfl,h1,h2,aH,bm,dk⟩:=aD;have w:bw .mC=7000:=rfl;simp only[dw,bind,Option.bind];have Ok:kY s {s with now:=s.now+1}:=⟨rfl,rfl,rfl,rfl,rfl,rfl,λh=>h,rfl⟩;have X:bL {s with now:=s.now+1}=bL s+1:=by simp only[bL];omega
  obtain⟨s1,aB,m1,gH⟩:=qh (s:={s with now:=s.now+1}) {c3 with kind:=15,n:=((s.now+1:Nat):Int)} oS;rw[aB];have gt:bl s1=bl s:=by rw[m1.aT,Ok.aT]
  obtain⟨Z,aU,t,U⟩:=Lb (why:=1) bN c.ref (by rw[gt];exact aH) oS;simp only[aU];have L:bl Z=bl s:=by rw[t.aT,gt]
  obtain⟨b9,bB,I,sP⟩:=Lb (why:=4) bN c.cut (by rw[L];exact h2) oS;simp only[bB];obtain⟨A,xD⟩:=aja 5 6 (b9.bs.T.map (·.id)) b9
  generalize (b9.bs.T.map (·.id)).foldl (λs id=>mA s id 5 6) b9=m2 at*
  obtain⟨alz,zL⟩:=SN 1 c.due m2
  generalize c.due.foldl (λs id=>move s id 1) m2=Q at*
  have aCZ:In f C P n j 0 0 Q:=((((((show In f C P n j 0 0 s from h).hT Ok).hT m1).hT t).hT I).hT A).hT alz;have z5:bl Q=bl s:=by rw[alz.aT,A.aT,I.aT,L]
  have Y:wd (.leave c.due) 0 c.due.length=64*(c.due.length -0)+64:=rfl;have aDk:bw .nil=64:=rfl;exact Ff N az cL (m:=bw .mC) aX aCZ (by rw[z5];exact⟨rfl,bm,h1⟩) (fc _) trivial trivial (fc _) ae ae (λ_=>⟨by omega,by omega⟩)
 |run a=>exact ai0 N az cL h hk ae
 |
  jB a=>
  have w:bw (.jB a)=70000:=rfl;cases r with
  |
   post aE p=>
   simp only[dw];split
   . have aC0:C.mB<=16:=N.GG
     refine ajk N az cL aX h hk aC0 ae (λ_=>?_);have:nm (C.mB -1)<=61280:=by unfold nm;omega
     exact⟨by omega,by omega⟩
   . rename_i h1
     have V:=aD.2 ae;have v1:0<=p.val:=V.1;have u:p.val<s.notes.length:=V.2;have d5:p.val.toNat<s.notes.length:=ae;simp only[cq d5,bind,Option.bind];have aU:bw (.on a)=128:=rfl;exact awt N az cL aX h hk (h.base.notes _ (sz d5)) hk trivial (fc _) ae ae
  |_=>exact aD.elim
 |
  on a=>
  obtain⟨x,e,ex⟩:=lG hk;simp only[dw,e,bind,Option.bind];split
  . exact ai0 N az cL h hk ae
  . exact⟨s,rfl,h.inv,by omega⟩
 |again a=>exact jF h (λal=>aiV (h.alv N hk) hk.v) trivial (λ_ _ e=>by cases e) ae
 |
  next a left=>
  obtain⟨aP,h1,h2⟩:=hk;have w:bw (.next a left)=nm (left -1)+64:=rfl;refine ajk N az cL aX h aP ae ae (λaw=>?_);have:nm (left -1 -1)+4000=nm (left -1):=by unfold nm;omega
  exact⟨by omega,by omega⟩
 |
  nX a left=>
  obtain⟨aP,h1,h2⟩:=hk;have w:bw (.nX a left)=nm left:=rfl;cases r with
  |
   post aE p=>
   simp only[dw];split
   . exact aiZ N az cL h aP ae
   . rename_i aJ
     have V:=aD.2 ae;have aU:bw (.next a left)=nm (left -1)+64:=rfl;have:nm (left -1)+4000=nm left:=by unfold nm;omega
     exact ajj N az cL aX h aP V ⟨aP,h1,h2⟩ trivial (fc _) ae ae
  |_=>exact aD.elim
 |settled a=>exact Lc N az cL aX h hk aD trivial trivial (by have:bw .nil=64:=rfl;have:bw (.settled a)=128:=rfl;omega) (show 64<128 by decide)
 |
  ended a id p k=>
  obtain⟨aP,M,aQ,aw⟩:=hk;have w:bw (.ended a id p k)=bw k+1000:=rfl;obtain⟨x,e,ex⟩:=lG aP;have B:=h.base.aI _ _ ex;simp only[dw,e,bind,Option.bind];have h1:=lI h ex (y:={x with state:=p.state}) ⟨B.id,B.par,B.kind,B.slots,B.lb,B.kids,B.aside,B.front,B.cF,B.j0⟩;have hp:=lH (y:={x with state:=p.state}) ex;simp only[im]at hp;obtain⟨s1,aB,m1,gH⟩:=qh (s:=c7 s a {x with state:=p.state}) {c3 with kind:=4,dK:=a,id:=id,name:=p.state} oS;rw[aB];have E:bl s1=bl s:=Ea;have i1:In f C P n j 0 0 s1:=(show In f C P n j 0 0 _ from h1).hT m1;simp only;split
  . exact SP N az cL aX i1 ID (by rw[E];exact M) aQ aw ae ae
  . split
    . exact aje N az cL aX i1 ID (by rw[E];exact M) aQ aw ae ae
    . exact aX.dA i1 (by rw[E];exact M) aQ ae ae
 |
  mD l k=>
  obtain⟨aw,M,aQ,z⟩:=hk;have w:bw (.mD l k)=bw k+192:=rfl;obtain⟨s1,id,aB,i1,b,V,gH⟩:=ajh (nN:=false) cL az h aw aD ae;simp only[dw,aB,bind,Option.bind];exact aiX N az cL aX i1 V (M.mono b) aQ z ae ae
 |
  h8 a l e k=>
  obtain⟨aP,aw,M,aQ,z⟩:=hk;have w:bw (.h8 a l e k)=bw k+192:=rfl;obtain⟨s1,id,aB,i1,b,V,gH⟩:=ajh (nN:=true) cL az h aw aD ae;simp only[dw,aB,bind,Option.bind];exact awk N az cL i1 (aP.mono b) V (M.mono b) aQ z ae
 |
  told id to k=>
  obtain⟨cv,rg,M,aQ,z⟩:=hk;have w:bw (.told id to k)=bw k+128:=rfl;obtain⟨aE,p,rfl⟩:=aD;simp only[dw,bind,Option.bind];split
  . obtain⟨s1,aB,m1,gH⟩:=xM (why:=1) (λ_ _=>trivial) cv bN (show bL s<most by unfold most;omega)
    simp only[aB];exact aX.dA ((show In f C P n j 0 0 s from h).hT m1) IF aQ ae ae
  . split
    . obtain⟨s1,aB,m1,gH⟩:=xM (why:=2) (λ_ _=>trivial) cv bN (show bL s<most by unfold most;omega)
      simp only[aB];exact aX.dA ((show In f C P n j 0 0 s from h).hT m1) IF aQ ae ae
    . have m1:=SD (s:=s) id 1 2
      have gH:=SE (s:=s) id 1 2;exact Lc N az cL aX ((show In f C P n j 0 0 s from h).hT m1) (by rw[m1.aT];exact rg.cB.1) ⟨_,_,rfl⟩ IF aQ ae ae
 |
  lJ a k=>
  obtain⟨aP,M,aQ,z⟩:=hk;have w:bw (.lJ a k)=bw k+128:=rfl;exact Lc N az cL aX h aP aD M aQ ae ae
 |
  mE a kind slot k=>
  obtain⟨aP,aC1,gY,M,aQ,z⟩:=hk;have w:bw (.mE a kind slot k)=bw k+128:=rfl;replace aD:r=.gm (s.L.getD 1 0):=aD;subst aD;simp only[dw,bind,Option.bind];have fin:∀(s1:ar) (F:Int),In f C P n j 0 0 s1->(bl s).le (bl s1)->o1 (bl s1) F->bL s1<=bL s+10->Good f C P n ce ((dz s1 a).bind λx=>g (c7 s1 a {x with slots:=x.slots.set slot F}) dA k):=λs1 F i1 b V gH=>by
   obtain⟨x,e,ex⟩:=lG (aP.mono b);have B:=i1.base.aI _ _ ex;simp only[e,Option.bind];have hp:=lH (y:={x with slots:=x.slots.set slot F}) ex;simp only[im]at hp;refine aX.dA (lI i1 ex ⟨B.id,B.par,B.kind,by simp[B.slots],λv D=>?_,B.kids,B.aside,B.front,B.cF,B.j0⟩) (by rw[j9];exact M.mono b) aQ ae ae;rcases ah4 D with D|rfl
   . exact B.lb v D
   . exact V
  replace h:In f C P n j 0 1 s:=h;split
  . rename_i aDl
    obtain⟨s1,aB,m1,gH⟩:=qh (s:=s) {c3 with kind:=8,dK:=a,name:=kind} oS;simp only[aB,Option.map];have fD:In f C P n j 0 0 s:=by
     have di:=h.num.di;exact h.more rfl rfl rfl .refl h.base ⟨h.num.ni,h.num.oW,by omega,by have:=h.num.mu;omega,h.num.mw⟩
    exact fin s1 0 (fD.hT m1) (by rw[m1.aT];exact .refl) ⟨vB _,by omega⟩ ae
  . obtain⟨s1,aB,i1,b,V,gH⟩:=awu dm az h aP aC1 rfl ae ae
    simp only[aB,Option.map];have v1:1<=s.L.getD 1 0:=V.1;exact fin s1 _ i1 b ⟨by omega,V.2⟩ gH
 |
  asked id a e k=>
  obtain⟨cv,aP,M,aQ,z⟩:=hk;have w:bw (.asked id a e k)=bw k+128:=rfl;obtain⟨c,rfl⟩:=aD;simp only[dw,bind,Option.bind];split
  . obtain⟨s1,aB,m1,gH⟩:=xM (why:=1) (λ_ _=>trivial) cv bN (show bL s<most by unfold most;omega)
    simp only[aB];exact aX.dA ((show In f C P n j 0 0 s from h).hT m1) IF aQ ae ae
  . have m1:=SD (s:=s) id 1 5
    have gH:=SE (s:=s) id 1 5;have i1:=(show In f C P n j 0 0 s from h).hT m1
    generalize mA s id 1 5=s1 at*
    obtain⟨x,aB,ex⟩:=lG (a:=a) (by rw[m1.aT];exact aP);have B:=i1.base.aI _ _ ex;simp only[aB];have hp:=lH (y:={x with timers:=l3 x.timers e.name id}) ex;have R:=ai7 x.timers e.name id;simp only[im]at hp;refine aX.dA (lI i1 ex ⟨B.id,B.par,B.kind,B.slots,B.lb,B.kids,B.aside,B.front,B.cF,λp hp v V=>?_⟩) (by rw[j9,m1.aT];exact M) aQ ae ae;rcases ai8 hp V with rfl|⟨S,h1,h2⟩
    . rw[m1.aT];exact cv
    . exact B.j0 S h1 v h2
 |
  watched a who k=>
  obtain⟨aP,O,M,aQ,z⟩:=hk;have w:bw (.watched a who k)=bw k+128:=rfl;exact jF h (λal=>awa (O.act h.base)) ⟨aP,O,M,aQ,z⟩ ⟨_,_,rfl⟩ ae
 |
  gone a who k=>
  obtain⟨aP,O,M,aQ,z⟩:=hk;have w:bw (.gone a who k)=bw k+128:=rfl;obtain⟨aE,p,rfl⟩:=aD;simp only[dw];split
  . exact aX.dA h M aQ ae ae
  . exact aiY N az cL h aP O M aQ z ae
 |
  nn x y k=>
  obtain⟨ag,ah,M,aQ,z⟩:=hk;have w:bw (.nn x y k)=bw k+128:=rfl;obtain⟨o,rfl⟩:=aD;simp only[dw];split
  . exact aX.dA h M aQ ae ae
  . exact SK N az cL h ⟨ag.z0,ah.z0.2,(show(0:Int)<=0/\(0:Int)<=255 by decide)⟩ M aQ z ae
 |
  alone a k=>
  obtain⟨aP,M,aQ,z⟩:=hk;have w:bw (.alone a k)=bw k+256:=rfl;exact ajf N az cL aX h aP M aQ z ae ae
 |
  mF a x k=>
  obtain⟨aP,ag,T,M,aQ,z⟩:=hk;have w:bw (.mF a x k)=bw k+1000:=rfl;obtain⟨c,rfl⟩:=aD;obtain⟨y,e,q⟩:=lG aP;have B:=h.base.aI _ _ q;simp only[dw,e,bind,Option.bind];split
  . exact SQ N az cL aX h aP ag T M aQ z ae ae
  . have h1:=lI h q (y:={y with given:=eQ y.given x.who (dU y.given x.who++[ht (q0 c.val)])}) ⟨B.id,B.par,B.kind,B.slots,B.lb,B.kids,B.aside,B.front,B.cF,B.j0⟩
    have hp:=lH (y:={y with given:=eQ y.given x.who (dU y.given x.who++[ht (q0 c.val)])}) q;have R:=ai9 (ht (q0 c.val)) x.who y.given;simp only[im]at hp;exact SQ N az cL aX h1 IE (by rw[j9];exact ag) T (by rw[j9];exact M) aQ z ae ae
 |
  closed a k=>
  obtain⟨aP,M,aQ,z⟩:=hk;have w:bw (.closed a k)=bw k+128:=rfl;exact jF h (λal=>Cf (aP.act h.base) (.inr (.inl rfl))) ⟨aP,⟨aP,M,aQ,z⟩,trivial,by show dy k+1<=1;omega⟩ ⟨λ_=>⟨_,rfl,rfl⟩,(λe=>by simp[xT]at e)⟩ ae
 |
  lc a k=>
  obtain⟨aP,M,aQ,z⟩:=hk;have w:bw (.lc a k)=bw k+128:=rfl;cases r with
  |
   post aE p=>
   simp only[dw,bind,Option.bind];split
   . exact aX.dA h M aQ ae ae
   . split
     . rename_i h1
       obtain⟨s1,aB,m1,gH⟩:=xM (why:=2) (λ_ _=>trivial) (aD.2 h1) bN (show bL s<most by unfold most;omega);simp only[aB];exact jF ((show In f C P n j 0 0 s from h).hT m1) (λal=>Cf (aP.act h.base) (.inr (.inl rfl))) (by rw[m1.aT];exact⟨aP,M,aQ,z⟩) ⟨λ_=>⟨_,rfl,rfl⟩,(λe=>by simp[xT]at e)⟩ ae
     . exact jF h (λal=>Cf (aP.act h.base) (.inr (.inl rfl))) ⟨aP,M,aQ,z⟩ ⟨λ_=>⟨_,rfl,rfl⟩,(λe=>by simp[xT]at e)⟩ ae
  |_=>exact aD.elim
 |
  shut a k=>
  obtain⟨aP,M,aQ,z⟩:=hk;have w:bw (.shut a k)=bw k+128:=rfl;exact jF h (λal=>SI (aP.act h.base) ⟨by decide,by decide⟩) ⟨aP,M,aQ,z⟩ (λ_ _ e=>by cases e) ae
 |
  ow a k=>
  obtain⟨aP,M,aQ,z⟩:=hk;have w:bw (.ow a k)=bw k+128:=rfl;obtain⟨x,e,ex⟩:=lG aP;have B:=h.base.aI _ _ ex;simp only[dw,e,bind,Option.bind];have h1:=lI h ex (y:={x with mode:=5}) ⟨B.id,B.par,B.kind,B.slots,B.lb,B.kids,B.aside,B.front,B.cF,B.j0⟩;have hp:=lH (y:={x with mode:=5}) ex;simp only[im]at hp;obtain⟨s1,aB,m1,gH⟩:=qh (s:=c7 s a {x with mode:=5}) {c3 with kind:=14,dK:=a} oS;rw[aB];have E:bl s1=bl s:=Ea;exact jF ((show In f C P n j 0 0 _ from h1).hT m1) (λal=>rfl) (by rw[E];exact⟨aP,M,aQ,z⟩) rfl ae
 |
  who a k=>
  obtain⟨aP,M,aQ,z⟩:=hk;have w:bw (.who a k)=bw k+1600:=rfl;replace aD:r=.gm (s.L.getD 1 0):=aD;subst aD;simp only[dw];replace h:In f C P n j 0 0 s:=h;have di:=h.num.di;have mu:=h.num.mu;have mw:=h.num.mw;rw[bg ae];have ha:=N.ha;have aU:bw (.parent a k)=bw k+128:=rfl;have Y:wd (.mz a) 0 (min (s.L.getD 1 0).toNat C.aZ)=64*(min (s.L.getD 1 0).toNat C.aZ -0)+64:=rfl;exact Ff N az cL aX h ⟨aP,by show _<=s.aI.length;omega,by omega⟩ (fc _) ⟨aP,M,aQ,z⟩ trivial IB ae ae (λ_=>⟨by omega,by omega⟩)
 |
  parent a k=>
  obtain⟨aP,M,aQ,z⟩:=hk;have w:bw (.parent a k)=bw k+128:=rfl;obtain⟨x,e,ex⟩:=lG aP;have B:=h.base.aI _ _ ex;simp only[dw,e,bind,Option.bind];split
  . exact aX.dA h M aQ ae ae
  . exact Ch N az cL h ⟨by omega,B.par⟩ ⟨(show(0:Int)<=4/\(4:Int)<=4 by decide),aP.z0,(λe=>by cases e)⟩ M aQ ae ae
 |
  each d i c k=>
  obtain⟨G,al,M,aQ,z⟩:=hk;have w:bw (.each d i c k)=bw k+wd d i c:=rfl;have aG:64<=wd d i c:=by cases d<;>simp only[wd]<;>omega
  have ip:dy k<=ajd d:=by cases d<;>exact z
  refine Ff N az cL aX h G ae M aQ ip ae ae (λg2=>?_);have:wd d (i+1) c+64=wd d i c:=by cases d<;>first|exact g2.elim|(simp only[wd];omega)
  exact⟨by omega,by omega⟩
 |o2 a=>exact Lc N az cL aX h hk aD trivial trivial (by have:bw .nil=64:=rfl;have:bw (.o2 a)=128:=rfl;omega) (show 64<128 by decide)
end
def asX{C:bK}{P:List b1}{E:gB}{k:K}(h:cR C P E k):dy k<=3:=by
 cases k<;>simp only[dy,cR]at*<;>first|omega|(have:=h.2.2.2;omega)|(have:=h.2.2.2.2;omega)|(have:=h.2.2.2.2.2;omega)|(rename_i d i n k;have:=h.2.2.2.2;cases d<;>simp only at this<;>omega)
def mv{C:bK}{P:List b1}{E:gB}(n:Nat):∀{k:K},cR C P E k->bw k<=70000+5000*dy k
 |.nil,_=>by simp[bw,dy]|.polled,_=>by simp[bw,dy]|.found,_=>by simp[bw,dy]|.pG,_=>by simp[bw,dy]|.mC,_=>by simp[bw,dy]
 |.run _,v=>by simp[bw,dy]|.jB _,v=>by simp[bw,dy]|.on _,v=>by simp[bw,dy]|.again _,v=>by simp[bw,dy]|.settled _,v=>by simp[bw,dy]|.o2 _,v=>by simp[bw,dy]
 |.next _ _,v=>by have:=v.2.2;simp only[bw,dy,nm];omega|.nX _ _,v=>by have:=v.2.2;simp only[bw,dy,nm];omega
 |.ended _ _ _ _,v=>by have:=mv n v.2.1;simp only[bw,dy];omega
 |.mD _ _,v=>by have:=mv n v.2.1;simp only[bw,dy];omega
 |.h8 _ _ _ _,v=>by have:=mv n v.2.2.1;simp only[bw,dy];omega
 |.told _ _ _,v=>by have:=mv n v.2.2.1;simp only[bw,dy];omega
 |.lJ _ _,v=>by have:=mv n v.2.1;simp only[bw,dy];omega
 |.mE _ _ _ _,v=>by have:=mv n v.2.2.2.1;simp only[bw,dy];omega
 |.asked _ _ _ _,v=>by have:=mv n v.2.2.1;simp only[bw,dy];omega
 |.watched _ _ _,v=>by have:=mv n v.2.2.1;simp only[bw,dy];omega
 |.gone _ _ _,v=>by have:=mv n v.2.2.1;simp only[bw,dy];omega
 |.nn _ _ _,v=>by have:=mv n v.2.2.1;simp only[bw,dy];omega
 |.alone _ _,v=>by have:=mv n v.2.1;simp only[bw,dy];omega
 |.mF _ _ _,v=>by have:=mv n v.2.2.2.1;simp only[bw,dy];omega
 |.closed _ _,v=>by have:=mv n v.2.1;simp only[bw,dy];omega
 |.lc _ _,v=>by have:=mv n v.2.1;simp only[bw,dy];omega
 |.shut _ _,v=>by have:=mv n v.2.1;simp only[bw,dy];omega
 |.ow _ _,v=>by have:=mv n v.2.1;simp only[bw,dy];omega
 |.who _ _,v=>by have:=mv n v.2.1;simp only[bw,dy];omega
 |.parent _ _,v=>by have:=mv n v.2.1;simp only[bw,dy];omega
 |
  .each d i c k,v=>by
  have h1:=mv n v.2.2.1;have h2:wd d i c<=5000:=by
   have bn:=v.1;cases d<;>simp only[wd,Ce]at*<;>omega
  simp only[bw,dy];omega
abbrev hD:Nat:=90000
section
variable{f:Nat->gl}{C:bK}{P:List b1}{n ce j:Nat}
variable(N:C.ok)(az:ce<1099511627776)(cL:n<=br)(dm:iN P)
include N az cL dm
theorem go_ok:∀m,eg f C P n ce j m (go C P m j)
 |0=>λs k _ _ _ _ h=>absurd h (KO _)
 |m+1=>λs k h hk aQ W bb=>S8 N az cL dm ((go_ok m).le ae) (by rw[(K8 aQ).1,(K8 aQ).2];exact h) hk (SC aQ) W
theorem go_top{m:Nat}{s:ar}{r:bY}{k:K}(h:In f C P n j (eL k) (eM k) s)(hk:cR C P (bl s) k)(aD:eK C j s r k)(W:bL s+bw k<=ce)(bb:bw k<=m):Good f C P n ce (go C P (m+1) j s r k):=
 S8 N az cL dm ((go_ok N az cL dm m).le bb) h hk aD W
end
section
variable{f:Nat->gl}{C:bK}{P:List b1}{n:Nat}
def Inv.aV{n':Nat}{s:ar}(h:Inv f C P n s)(aS:n<=n')(hk:n'<=br):Inv f C P n' s:=by
 have H:br=1000000000000:=rfl;obtain⟨al,c,t⟩:=h.bq;exact⟨h.base,⟨h.num.ni,mW h.num.oW aS,h.num.di,h.num.mu,by have:=h.num.mw;omega⟩,al,⟨c.len,c.jL,c.rc,c.hJ,λw=>mW (c.az w) aS,c.qY,c.ws.le ae⟩,t⟩
def Inv.In{j:Nat}{s:ar}(h:Inv f C P n s){t:bV}(e:s.aC[j]?=some t)(B:t.on=none):Th.In f C P n j 0 0 s:=⟨h.base,h.num,⟨t,e,B⟩,h.bq⟩
def asP{o:bY}(h:SA o):o.over=false:=by
 cases o with
 |fJ c=>have:=h.1;simp[bY.over,gD.over,this]
 |_=>exact h.elim
def Fp(C:bK)(s:ar)(o:bY):(acc C s o).1.aC=s.aC:=by cases o<;>rfl
end
section
variable{f:Nat->gl}{C:bK}{P:List b1}{n ce j:Nat}{s:ar}
section
variable{al:Nat->Nat}{q:nS}{o:bY}{k:K}
theorem ajx{s1:ar}{o S:bY}(Y:jh f C C.cells)(c:eN f C (bl s) al n s.L s.bs)(A:zN f C (bl s) al n j q s o s1 S)(bo:∀i,i≠j->q≠.own i){fK:Nat->Nat}(co:∀w,al w<=fK w){i:Nat}{t:bV}(g1:i≠j)(h:sY C P (bl s) al s.L i t):sY C P (bl s) fK s1.L i t:=by
 have l:jh f C s.L.length:=O1;refine⟨λo k e=>?_,λO=>?_,h.oJ⟩
 . obtain⟨h1,h2,aH⟩:=h.on o k e
   exact⟨h1.stay l A.wr co (bo i g1),h2,aH⟩
 . rcases h.iL O with g|g
   . exact .inl (by rw[A.wr.iL (l.ie i O).iL (bo i g1)];exact g)
   . exact .inr g
theorem awO(R:vK C j (bl s) o k)(hH:∀c d,o≠.add c d)(v:∀c,o≠.load c)(A:zN f C (bl s) al n j q s o (acc C s o).1 (acc C s o).2):vK C j (bl s) (acc C s o).2 k:=by
 have b:∀c d,(acc C s o).2≠.add c d:=by
  intro c d;cases o<;>first|exact absurd rfl (hH _ _)|(intro e;simp only[acc]at e;cases e)
 cases k<;>first
  |exact b
  |exact⟨R.1,A.aiM R.2⟩
  |exact A.aiL _ R
  |(obtain⟨J,c,rfl⟩:=R;exact⟨J,_,rfl⟩)
  |(obtain⟨a,p,rfl⟩:=R;exact⟨_,_,rfl⟩)
  |(obtain⟨c,rfl⟩:=R;exact⟨_,rfl⟩)
  |exact absurd R (hH _ _)
  |exact absurd R (v _)
theorem ajy{Z:ar}(R:vK C j (bl s) o k)(hH:∀c d,o≠.add c d)(A:zN f C (bl s) al n j q s o (acc C s o).1 (acc C s o).2)(T:bl Z=bl s)(K:Z.L=(acc C s o).1.L):eK C j Z (acc C s o).2 k:=by
 have dA:cZ k->eK C j Z (acc C s o).2 k:=SC;cases k<;>first
  |exact dA trivial
  |exact trivial
  |(obtain⟨J,c,rfl⟩:=R;exact⟨_,rfl⟩)
  |(refine⟨R.1,?_⟩;rw[T];exact A.aiM R.2)
  |(show qZ (bl Z) _ _;rw[T];exact A.aiL _ R)
  |(obtain⟨a,p,rfl⟩:=R;exact⟨_,_,rfl⟩)
  |exact absurd R (hH _ _)
  |(replace R:o=.load 1:=R;subst R;show(acc C s (.load 1)).2=.gm (Z.L.getD 1 0);rw[K];rfl)
  |(
   obtain⟨c,rfl⟩:=R
   first
    |exact⟨_,rfl⟩
    |(
     obtain⟨fK,_,_,W,cE⟩:=A.ex;refine⟨_,rfl,?_,?_,?_,cE.dl,?_⟩
     . rw[T];exact cE.due
     . rw[T];exact cE.cut
     . rw[T];exact cE.ref
     . have:=W.M1;omega))
theorem Cr(C:bK)(s:ar)(o:bY)(t:List bV):bl {(acc C s o).1 with aC:=t}=bl s:=by cases o<;>rfl
theorem IN(C:bK)(s:ar)(o:bY)(t:List bV):bL {(acc C s o).1 with aC:=t}=bL s:=by cases o<;>rfl
theorem Ra(h:vL C P s)(o:bY){t:List bV}(R:t.length=s.aC.length):vL C P {(acc C s o).1 with aC:=t}:=by
 have T:=Cr C s o t;exact⟨by cases o<;>exact h.xL,by cases o<;>exact h.na,by rw[T];cases o<;>exact h.aI,by rw[T];cases o<;>exact h.lets,by rw[T];cases o<;>exact h.notes,by rw[R];exact h.uf,by cases o<;>exact h.bf⟩
theorem awP(Y:jh f C C.cells)(N:C.ok)(dm:iN P)(az:ce<1099511627776)(aS:n+1<=br)(h:Inv f C P n s){t:bV}{o:bY}{k:K}(M:s.aC[j]?=some t)(B:t.on=some (o,k))(W:bL s+hD<=ce):Good f C P (n+1) ce (eu C P j s):=by
 refine afG ?_;intro H al c ao J V hk R z E y;have l:jh f C s.L.length:=O1;have aDm:zB=1000000:=rfl;unfold eu;simp only[M,B,bind,Option.bind];rw[Fp]
 -- the threads behind it
 have aC:∀(q:nS) (fK:Nat->Nat) (dh:bV),(∀i,i≠j->q≠.own i)->(∀w,al w<=fK w)->zN f C (bl s) al n j q s o (acc C s o).1 (acc C s o).2->sY C P (bl s) fK (acc C s o).1.L j dh->
  ∀i u,(s.aC.set j dh)[i]?=some u->sY C P (bl s) fK (acc C s o).1.L i u:=λq fK dh bo co A I i u e=>by
  by_cases g1:j=i
  . subst g1
    obtain⟨d5,rfl⟩:=dd.1 e;rw[y3];exact I
  . rw[qD g1]at e
    exact ajx Y c A bo co (λh=>g1 h.symm) (ao i u e)
 by_cases F:∃a d,o=.add a d
 . obtain⟨a,d,rfl⟩:=F
   obtain⟨aP,rfl⟩:=V;have A:=aiO (j:=j) Y aS c aP;have bo:∀i,i≠j->nS.jk≠.own i:=λi _ e=>by cases e
   rw[bg (show(acc C s (.add a 1)).2.over=true from rfl)];obtain⟨fK,co,aK,D⟩:=A.ex;have T:=Cr C s (.add a 1) Js;have hu:∀p q,qc C (n+1) p q {(acc C s (.add a 1)).1 with aC:=s.aC.set j {t with on:=none}}->In f C P (n+1) j p q sC:=λp q r=>by
    exact ad5
   have ni:=h.num.ni;have oW:=h.num.oW;have di:=h.num.di;have mu:=h.num.mu;have mw:=h.num.mw;have un:∀x:Int,0<=x->x<9223372036854775808->e0 x=x:=λx a b=>by rw[xF];omega
   have hlen:2<=s.L.length:=Zy;have Z:∀{p q:Nat},eL k=p->eM k=q->qc C (n+1) p q sC->eK C j sC (acc C s (.add a 1)).2 k->Good f C P (n+1) ce (go C P zB j sC (acc C s (.add a 1)).2 k):=λaB aU r aD=>by
    subst aB;subst aU;exact go_top N az aS dm (m:=999999) (hu _ _ r) (by rw[T];exact hk) aD ZA ae
   exact aeE
 . have hH:∀a d,o≠.add a d:=λa d e=>F ⟨a,d,e⟩
   have A:=aiN Y N aS c V y hH;have bo:∀i,i≠j->nS.own j≠.own i:=λi g1 e=>by cases e;exact g1 rfl
   obtain⟨fK,co,aK,D⟩:=A.ex;have fG:(acc C s o).1.L.getD 0 0=s.L.getD 0 0:=A.wr.jk fW Y.ej;have aB:(acc C s o).1.L.getD 1 0=s.L.getD 1 0:=A.wr.jk fW Y.c1;have r:∀dh,qc C (n+1) 0 0 Jv:=λdh=>by
    exact afN
   split
   . rename_i U
     have T:=Cr C s o Js;have X:eL k=0/\eM k=0:=Zz;refine ada ?_;intro hu;exact go_top N az aS dm (m:=999999) (by rw[X.1,X.2];exact hu) (by rw[T];exact hk) (ajy R hH A T rfl) ZA ae
   . rename_i U
     have T:=Cr C s o (s.aC.set j {t with on:=some ((acc C s o).2,k)});have v:∀a,o≠.load a:=λa e=>by subst e;exact U rfl
     refine⟨_,rfl,⟨Ra h.base _ fW,r _,fK,?_,?_⟩,by rw[IN];omega⟩
     . rw[T];exact aK
     . rw[T]
       refine aC _ fK _ bo co A ⟨λS dj e=>?_,λO=>?_,(ao j t M).oJ⟩
       . cases e;exact⟨D,hk,awO R hH v A⟩
       . rcases A.iL O (y O)with g|g
         . exact .inr ⟨_,_,rfl,g⟩
         . exact .inl g
end
end
structure hv(f:Nat->gl)(C:bK)(P:List b1)(n:Nat)(s:ar):Prop where
 inv:Inv f C P n s
 ph:bL s<=hD*n
abbrev hM:Nat:=10000000
section
variable{f:Nat->gl}{C:bK}{P:List b1}{n ce j:Nat}{s:ar}
def hv.aV(h:hv f C P n s){n':Nat}(aS:n<=n')(hk:n'<=hM):hv f C P n' s:=
 have h1:hM=10000000:=rfl;have h2:br=1000000000000:=rfl
 ⟨h.inv.aV aS ae,mW h.ph (Nat.mul_le_mul_left _ aS)⟩
def awQ{t:bV}(e:s.aC[j]?=some t)(b:busy s j=true):∃o k,t.on=some (o,k):=by
 unfold busy at b;rw[e]at b;cases h:t.on with
 |none=>simp[h]at b
 |some p=>exact⟨p.1,p.2,rfl⟩
def S9{t:bV}(e:s.aC[j]?=some t)(b:busy s j=false):t.on=none:=by
 unfold busy at b;rw[e]at b;cases h:t.on with
 |none=>rfl
 |some p=>simp[h]at b
def q2(h:Inv f C P n s)(J:j<C.bc+C.cK+1):∃t,s.aC[j]?=some t:=
 ⟨_,cq (by rw[h.base.uf];exact J)⟩
def Fq(Y:jh f C C.cells)(N:C.ok)(dm:iN P)(aS:n+1<=hM)(h:hv f C P n s)(J:j<C.bc+C.cK+1)(az:busy s j=true):∃aY,eu C P j s=some aY/\hv f C P (n+1) aY:=by
 have h1:hM=10000000:=rfl;have h2:br=1000000000000:=rfl;have aH:hD=90000:=rfl;obtain⟨t,M⟩:=q2 h.inv J;obtain⟨o,k,B⟩:=awQ M az;have hp:=h.ph;obtain⟨aY,e,i,p⟩:=awP (ce:=hD*(n+1)) Y N dm (by rw[aH];omega) ae h.inv M B y6;exact⟨aY,e,i,p⟩
def Ta{o:bY}{k:K}{aY:ar}(h:hq j s o k=some aY):busy aY j=true:=by
 unfold hq at h;cases e:s.aC[j]?with
 |none=>simp[e]at h
 |
  some t=>
  have J:j<s.aC.length:=(dd.1 e).1;simp only[e,bind,Option.bind]at h;split at h
  . cases h;unfold busy;simp[J]
  . cases h
def Tb(f:Nat->gl)(C:bK)(P:List b1)(n j:Nat)(b:ar->Option ar)(s:ar):Prop:=busy s j=false->∃aY,b s=some aY/\hv f C P n aY/\busy aY j=true
def Lt(Y:jh f C C.cells)(N:C.ok)(dm:iN P)(aS:n+1<=hM)(h:hv f C P n s)(J:j<C.bc+C.cK+1){b:ar->Option ar}(az:Tb f C P n j b s):∃aY,stepT C P b j s=some aY/\hv f C P (n+1) aY:=by
 unfold stepT;cases e:busy s j with
 |true=>rw[bg rfl];exact Fq Y N dm aS h J e
 |
  false=>
  rw[a6 bN];obtain⟨s1,aB,i1,av⟩:=az e;simp only[aB,bind,Option.bind];exact Fq Y N dm aS i1 J av
def Tc{x:Option ar}(h:Good f C P n (hD*n) x):∃aY,x=some aY/\hv f C P n aY:=by
 obtain⟨aY,e,i,p⟩:=h;exact⟨aY,e,i,p⟩
def ajF:∀(k d:Nat) (l:List Nat) {y:Nat},y∈ob k d l->y∈l
 |0,d,l,y,h=>by simp[ob]at h
 |
  k+1,d,l,y,h=>by
  unfold ob at h;split at h
  . cases h
  . rename_i x ag
    rcases kf.1 h with rfl|h
    . exact h0 ag
    . exact aoZ (ajF k _ _ h)
def awR{d n self y:Nat}(h:y∈order d n self):y<n:=by
 have:=ajF _ _ _ h;unfold nB at this;simpa using(oO.1 this).1
def ajG{E:gB}{al:Nat->Nat}{L:List Int}{d:Nat}(J:j<C.bc):dT C E al j L (.fJ (yB C.bA j d))/\rT E (.fJ (yB C.bA j d)):=by
 have h1:∀s∈acF,AS C.bA s:=λs aj=>by
  rcases kf.1 aj with rfl|aj
  . exact J
  . rcases kf.1 aj with rfl|aj
    . exact trivial
    . obtain⟨y,ah,rfl⟩:=jS.1 aj;exact awR ah
 have h2:∀s∈acF,E6 j s:=λs aj=>by
  rcases kf.1 aj with rfl|aj
  . exact rfl
  . rcases kf.1 aj with rfl|aj
    . exact trivial
    . obtain⟨y,ah,rfl⟩:=jS.1 aj;exact trivial
 have g:=Sy (E:=E) (L:=L) (al:=al) J h2 h1;exact⟨⟨Nc h1,λe=>⟨g.1 e,λ_=>J⟩⟩,g.2⟩
def Lu(N:C.ok)(J:j<C.bc)(h:hv f C P n s):Tb f C P n j (eS C j) s:=λaz=>by
 obtain⟨t,M⟩:=q2 (j:=j) h.inv ae;have B:=S9 M az;have i:=h.inv.In M B;unfold eS;simp only[M,bind,Option.bind];split
 . obtain⟨aY,e,r⟩:=Tc (jF (k:=.polled) (ce:=hD*n) i (λal=>awd J) trivial ⟨J,_,rfl⟩ h.ph)
   exact⟨aY,e,r,Ta e⟩
 . obtain⟨aY,e,r⟩:=Tc (jF (k:=.found) (ce:=hD*n) i (λal=>(ajG J).1) trivial ⟨J,(ajG J (C:=C) (al:=λ_=>0) (L:=s.L)).2⟩ h.ph)
   exact⟨aY,e,r,Ta e⟩
def ajH(x:Nat):kY s {s with ticks:=x}:=En
def awS(x:Bool):kY s {s with shut:=x}:=En
def ajI(N:C.ok)(hk:n<=br)(h:hv f C P n s):Tb f C P n (C.bc+C.cK) (ff C (C.bc+C.cK)) s:=λaz=>by
 have H:br=1000000000000:=rfl;obtain⟨t,M⟩:=q2 (j:=C.bc+C.cK) h.inv ae;have B:=S9 M az;have i:=(h.inv.In M B).hT (ajH (s.ticks -1));unfold ff;obtain⟨al,c,_⟩:=h.inv.bq;have O:=c.ws.now;obtain⟨aY,e,r⟩:=Tc (jF (k:=.mC) (o:=.eY (ys C.dC s.bs)) (ce:=hD*n) i (λal=>⟨anO N.i64 ae,⟨λ_=>aiK _ _,qK,qK,qK,fc _⟩⟩) trivial ⟨_,rfl⟩ (by have:=h.ph;unfold bL at this⊢;simp only;omega));exact⟨aY,e,r,Ta e⟩
def ajJ{dh:bV}(h:Inv f C P n s){t:bV}(e:s.aC[j]?=some t)(B:dh.on=t.on)(aQ:0<=dh.draw/\dh.draw<18446744073709551616):Inv f C P n {s with aC:=s.aC.set j dh}:=by
 obtain⟨al,c,ao⟩:=h.bq;refine⟨⟨h.base.xL,h.base.na,h.base.aI,h.base.lets,h.base.notes,by show(s.aC.set _ _).length=_;rw[gq];exact h.base.uf,h.base.bf⟩,acP,al,c,λi u g=>?_⟩;replace g:(s.aC.set j dh)[i]?=some u:=g;by_cases g1:j=i
 . subst g1
   obtain⟨d5,rfl⟩:=dd.1 g;rw[y3];exact⟨by rw[B];exact(ao j t e).on,by rw[B];exact(ao j t e).iL,aQ⟩
 . rw[qD g1]at g;exact ao i u g
def Td(Y:jh f C C.cells)(N:C.ok)(dm:iN P)(aS:n+1<=hM)(h:hv f C P n s):∃aY b,zR C P s=some (aY,b)/\hv f C P (n+1) aY:=by
 have h1:hM=10000000:=rfl;have h2:br=1000000000000:=rfl;unfold zR;split
 . exact QG
 . obtain⟨aY,e,r⟩:=Lt Y N dm aS h (Nat.lt_succ_self _) (ajI N ae h)
   rw[e];exact⟨aY,true,rfl,r⟩
def Lv{x:Option ar}(h:∃aY,x=some aY/\hv f C P n aY):∃aY b,x.map (·,true)=some (aY,b)/\hv f C P n aY:=by
 obtain⟨aY,e,r⟩:=h;subst e;exact⟨aY,true,rfl,r⟩
def Lm(Y:jh f C C.cells)(N:C.ok)(dm:iN P)(aS:n+1<=hM)(h:hv f C P n s)(e:dG):∃aY b,pH C P s e=some (aY,b)/\hv f C P (n+1) aY:=by
 unfold pH;split
 . split
   . exact QG
   . rename_i aP
     have J:e.a.toNat<C.bc:=ae
     generalize e.a.toNat=j at J
     obtain⟨t,M⟩:=q2 (j:=j) h.inv ae;simp only[M,bind,Option.bind];have r:hv f C P n {s with aC:=s.aC.set j {t with draw:=e0 e.n}}:=⟨ajJ h.inv M rfl (by show 0<=e0 e.n/\e0 e.n<_;rw[xF];omega),h.ph⟩;exact Lv (Lt Y N dm aS r ae (Lu N J r))
 . split
   . exact Td Y N dm aS h
   . split
     . split
       . exact QG
       . have r:hv f C P (n+1) {s with ticks:=s.ticks+1}:=⟨(h.aV (il _) aS).inv.hT (ajH _),by
          have h1:=h.ph;have h2:hD*(n+1)=hD*n+90000:=by rw[Nat.mul_add];rfl
          unfold bL at h1⊢;simp only;omega⟩
         exact⟨_,true,rfl,r⟩
     . have h1:hM=10000000:=rfl
       have h2:br=1000000000000:=rfl;have aH:hD=90000:=rfl;have d2:=h.ph;have stay:∃aY b,some (s,false)=some (aY,b)/\hv f C P (n+1) aY:=⟨s,false,rfl,h.aV (il _) aS⟩;have fT:∀l,∃aY b,(iM l s).map (·,true)=some (aY,b)/\hv f C P (n+1) aY:=λl=>by
        obtain⟨s1,aB,m1,gH⟩:=qh (s:=s) l (by unfold most;rw[aH]at d2;omega);exact Lv ⟨s1,aB,(h.inv.hT m1).aV (il _) ae,by rw[aH]at d2⊢;omega⟩
       unfold hand;split
       . exact stay
       . rename_i aP
         have J:C.bc+e.a.toNat<C.bc+C.cK+1:=ae
         generalize C.bc+e.a.toNat=j at J
         obtain⟨t,M⟩:=q2 h.inv J;simp only;split
         . split
           . rename_i az;exact Lv (Fq Y N dm aS h J az)
           . exact stay
         . split
           . exact stay
           . rename_i az
             have B:=S9 M (by simpa using az);have i:=h.inv.In M B;have m:∀{x:Option ar},Good f C P n (hD*(n+1)) x->∃aY b,x.map (·,true)=some (aY,b)/\hv f C P (n+1) aY:=λg=>by
              obtain⟨aY,H,O,S⟩:=g;exact Lv ⟨aY,H,O.aV (il _) ae,S⟩
             have C8:bL s+1<=hD*(n+1):=by rw[aH]at d2⊢;omega
             have p:hD*(n+1)<1099511627776:=by rw[aH];omega
             have o:∀(s1:ar) (a:Nat),In f C P n j 0 0 s1->bL s1=bL s->cB (bl s1) a->Good f C P n (hD*(n+1)) (ask C j s1 a):=λs1 a i1 gH c=>by
              unfold ask;have aw:s1.notes.length<=bL s1:=by unfold bL;omega
              rw[bg ⟨by unfold most;omega,c.act i1.base⟩];refine jF (aiR i1 ⟨(show(0:Int)<=0/\(0:Int)<=4 by decide),⟨vB _,(show(0:Int)<=((bl s1).na:Int) by omega)⟩,(λe=>by cases e)⟩) (λal=>av9 (c.act i1.base) uL ?_) (c.mono SH) ⟨_,_,rfl⟩ (by rw[aiS];omega);exact⟨by omega,by show(s1.notes.length:Int)<((s1.notes++[_]).length:Nat);rw[ep];simp;omega⟩
             split
             . split
               . exact stay
               . rename_i q
                 have u:0<=e.n/\e.n<=255:=by
                  have h1:=not_or.1 q;have h2:=not_or.1 h1.2;omega
                 split
                 . exact fT _
                 . rename_i aX
                   refine ac2 ?_;intro d;have d5:ue (bl s) ⟨-1 -e.a,e.b,e.tag,e.n,false⟩:=⟨⟨show 0<=e.b by omega,d.2⟩,show-1 -e.a<=((bl s).na:Int) by omega,u⟩;exact m (SK N p ae i d5 trivial trivial (fc _) ae)
             . split
               . split
                 . exact fT _
                 . rename_i aX
                   refine ac2 ?_;intro d;exact m (o s _ i rfl ⟨by omega,by show _<=s.aI.length;omega⟩)
               . split
                 . exact m (o _ 1 (i.hT (awS true)) rfl ⟨eh _,h.inv.base.xL⟩)
                 . exact stay
def Te{M:Nat->ar->Option ar}{Q:Nat->Prop}(g:∀(m i:Nat) (s:ar),Q i->m+1<=hM->hv f C P m s->∃aY,M i s=some aY/\hv f C P (m+1) aY):∀(l:List Nat) (n:Nat) (s:ar),(∀i∈l,Q i)->n+l.length<=hM->hv f C P n s->∃aY,s6 M l s=some aY/\hv f C P (n+l.length) aY
 |[],n,s,_,_,h=>⟨s,rfl,h⟩
 |
  i::l,n,s,bo,aS,h=>by
  simp only[iY]at aS;obtain⟨s1,aB,gZ⟩:=g n i s (bo i (.head _)) ae h;obtain⟨Z,aU,my⟩:=Te g l (n+1) s1 (λx ag=>bo x (.tail _ ag)) ae gZ;refine⟨Z,by simp only[s6,aB,bind,Option.bind];exact aU,?_⟩;rw[iY,show n+(l.length+1)=n+1+l.length by omega];exact my
def awT(Y:jh f C C.cells)(N:C.ok)(dm:iN P)(aS:n+13<=hM)(h:hv f C P n s):∃aY,round C P s=some aY/\hv f C P (n+13) aY:=by
 have bH:=N.bH;have bm:=N.bm;obtain⟨s1,aB,gZ⟩:=Te (M:=λj s=>stepT C P (eS C j) j s) (Q:=λj=>j<C.bc) (λm i s al bb r=>Lt Y N dm bb r ae (Lu N al r)) (List.range C.bc) n s (λi al=>p4.1 al) y1 h;rw[vf]at gZ;obtain⟨Z,aU,my⟩:=Te (M:=λi s=>if busy s (C.bc+i)then eu C P (C.bc+i) s else some s) (Q:=λi=>i<C.cK) (λm i s al bb r=>by
  by_cases az:busy s (C.bc+i)=true
  . simp only[az,fk];exact Fq Y N dm bb r ae az
  . simp only[az,eo];exact⟨s,rfl,r.aV (il _) bb⟩) (List.range C.cK) (n+C.bc) s1 (λi al=>p4.1 al) y1 gZ
 rw[vf]at my;obtain⟨b9,b,bB,c⟩:=Td Y N dm ae my;refine⟨b9,?_,c.aV ae aS⟩;unfold round;simp only[aB,bind,Option.bind];rw[aU];simp only[bB,Option.map]
def Ln(Y:jh f C C.cells)(N:C.ok)(dm:iN P):∀(k n:Nat) (s:ar),n+13*k<=hM->hv f C P n s->∃aY b,rest C P k s=some (aY,b)/\hv f C P (n+13*k) aY
 |0,n,s,aS,h=>⟨s,_,rfl,h⟩
 |
  k+1,n,s,aS,h=>by
  unfold rest;split
  . exact⟨s,true,rfl,h.aV ae aS⟩
  . obtain⟨s1,aB,gZ⟩:=awT Y N dm ae h
    simp only[aB,bind,Option.bind];obtain⟨Z,b,aU,my⟩:=Ln Y N dm k (n+13) s1 ae gZ;exact⟨Z,b,aU,my.aV ae aS⟩
end
def oy(c:qX)(o:Nat):gl:=if o<2 then .none else if o%2=0 then .rS c else .val c
def Lw(w o:Nat):gl:=if o=0 then .K2 w else if o=1 then .K3 w else .val .act
def vO(C:bK)(o:Nat):gl:=if o<2 then .none else if o<4+2*C.hS then oy .ju (o -2)else oy .zK (o -(4+2*C.hS))
def bK.d0(C:bK):Nat:=2+C.bc+(2+2*C.aZ)
def bK.ej(C:bK):Nat:=2+C.bA.size
def bC(C:bK)(i:Nat):gl:=
 if i<2 then .jk
 else if i<2+C.bc then .none
 else if i<C.d0 then oy .act (i -(2+C.bc))
 else if i<C.ej then Lw ((i -C.d0)/(2+C.ez)) ((i -C.d0)%(2+C.ez))
 else if i<C.bG then(if i=C.ej then .none else oy .ask (i -(C.ej+1)))
 else if i<C.gR then .none
 else vO C ((i -C.gR)%C.eZ)
section
variable{C:bK}
section
variable{c:qX}{a k o:Nat}
def Tf:C.ej=C.d0+C.bc*(2+C.ez):=by
 show 2+(C.bc+(2+2*C.aZ)+C.bc*(2+C.ez))=2+C.bc+(2+2*C.aZ)+C.bc*(2+C.ez);omega
def Cw:C.bG=C.ej+(3+2*C.iO):=rfl
def Tg:C.gR=C.bG+C.aZ*C.aZ:=rfl
def Ti:C.eZ=2+(2+2*C.hS)+(2+2*C.fF):=rfl
def awU:oy c (2+2*k)=.rS c:=by unfold oy;rw[a6 ae,bg ae]
def awV:oy c (2+2*k+1)=.val c:=by unfold oy;rw[a6 ae,a6 ae]
def Ly{aK:qX}{o:Nat}(h:oy c o=.rS aK):aK=c/\2<=o/\o%2=0/\oy c (o+1)=.val c:=by
 unfold oy at h;split at h
 . cases h
 . split at h
   . cases h
     refine⟨rfl,by omega,by assumption,?_⟩;unfold oy;rw[a6 ae,a6 ae]
   . cases h
def Tj(h:o<2+2*C.aZ):bC C (2+C.bc+o)=oy .act o:=by
 refine xo ?_;intro e;unfold bC;rw[a6 ae,a6 ae,bg ae];congr 1;omega
def Tk{w o:Nat}(O:w<C.bc)(h:o<2+C.ez):bC C (C.d0+w*(2+C.ez)+o)=Lw w o:=by
 refine xo ?_;intro e;have aU:=Tf (C:=C);have bB:w*(2+C.ez)+(2+C.ez)<=C.bc*(2+C.ez):=by
  exact acX
 unfold bC;rw[a6 ae,a6 ae,a6 ae,bg ae];have c9:C.d0+w*(2+C.ez)+o -C.d0=o+(2+C.ez)*w:=by rw[Si];omega
 rw[c9,Nat.add_mul_div_left _ _ ae,awW,Nat.div_eq_of_lt h,Zj h,kR]
def Fs:C.d0<=C.ej:=by have:=Tf (C:=C);omega
def ajK:bC C C.ej=.none:=by
 refine xo ?_;intro e;have:=Fs (C:=C);have:=Cw (C:=C);unfold bC;rw[a6 ae,a6 ae,a6 ae,a6 ae,bg ae,bg rfl]
def Tl(h:o<2+2*C.iO):bC C (C.ej+1+o)=oy .ask o:=by
 refine xo ?_;intro e;have:=Fs (C:=C);have:=Cw (C:=C);unfold bC;rw[a6 ae,a6 ae,a6 ae,a6 ae,bg ae,a6 ae];congr 1;omega
def ajL{i:Nat}(h:C.bG<=i)(h2:i<C.gR):bC C i=.none:=by
 refine xo ?_;intro e;have:=Fs (C:=C);have:=Cw (C:=C);unfold bC;rw[a6 ae,a6 ae,a6 ae,a6 ae,a6 ae,bg h2]
def Cx(h:o<C.eZ):bC C (C.gR+a*C.eZ+o)=vO C o:=by
 refine xo ?_;intro e;have:=Fs (C:=C);have:=Cw (C:=C);have:=Tg (C:=C);unfold bC;rw[a6 ae,a6 ae,a6 ae,a6 ae,a6 ae,a6 ae];have c9:C.gR+a*C.eZ+o -C.gR=o+C.eZ*a:=by rw[Si];omega
 rw[c9,awW,Zj h]
def awX(aJ:o<C.eZ)(h:vO C o=.rS c):o+1<C.eZ/\vO C (o+1)=.val c:=by
 have e:=Ti (C:=C);unfold vO at h;split at h
 . cases h
 . split at h
   . obtain⟨rfl,h1,h2,aH⟩:=Ly h
     refine⟨by omega,?_⟩;unfold vO;rw[a6 ae,bg ae,show o+1 -2=o -2+1 by omega];exact aH
   . obtain⟨rfl,h1,h2,aH⟩:=Ly h
     refine⟨by omega,?_⟩;unfold vO;rw[a6 ae,a6 ae,show o+1 -(4+2*C.hS)=o -(4+2*C.hS)+1 by omega];exact aH
def awY(i:Nat)(c:qX)(h:bC C i=.rS c):bC C (i+1)=.val c:=by
 refine xo ?_;intro e;have aQ:=Fs (C:=C);have V:=Cw (C:=C);have ag:=Tg (C:=C);have aj:=Ti (C:=C);by_cases h1:i<2
 . unfold bC at h;rw[bg h1]at h;cases h
 by_cases h2:i<2+C.bc
 . unfold bC at h;rw[a6 h1,bg h2]at h;cases h
 by_cases aH:i<C.d0
 . have b:i=2+C.bc+(i -(2+C.bc)):=by omega
   rw[b,Tj ae]at h;obtain⟨rfl,W,cE,d8⟩:=Ly h;rw[show i+1=2+C.bc+(i -(2+C.bc)+1) by omega,Tj ae];exact d8
 by_cases bm:i<C.ej
 . unfold bC at h;rw[a6 h1,a6 h2,a6 aH,bg bm]at h
   unfold Lw at h;split at h
   . cases h
   . split at h<;>cases h
 by_cases dk:i<C.bG
 . by_cases g0:i=C.ej
   . rw[g0,ajK]at h;cases h
   have b:i=C.ej+1+(i -(C.ej+1)):=ae;rw[b,Tl ae]at h;obtain⟨rfl,W,cE,d8⟩:=Ly h;rw[show i+1=C.ej+1+(i -(C.ej+1)+1) by omega,Tl ae];exact d8
 by_cases g0:i<C.gR
 . rw[ajL ae g0]at h;cases h
 . have bb:(i -C.gR)%C.eZ<C.eZ:=yP _ ae
   have b:i=C.gR+((i -C.gR)/C.eZ)*C.eZ+(i -C.gR)%C.eZ:=by
    have:=ahM (i -C.gR) C.eZ;omega
   generalize (i -C.gR)/C.eZ=a at b
   generalize (i -C.gR)%C.eZ=o at b bb
   rw[b,Cx bb]at h;obtain⟨W,cE⟩:=awX bb h;rw[b,ny,Cx W];exact cE
def LA{b n:Nat}{c:qX}{len:Nat}(ec:1<=n)(h:∀o,o<2+2*n->bC C (b+o)=oy c o)(aw:b+2+2*n<=len):nT (bC C) b n c len:=
 ⟨ec,h 0 ae,h 1 ae,λk hk=>by rw[ny,h _ ae];exact awU,λk hk=>by rw[ny,ny,h _ ae];rw[<-ny];exact awV,aw⟩
def awZ(h1:1<=a)(h2:a<=C.aZ):(a -1)*C.eZ+C.eZ<=C.aZ*C.eZ:=by
 have:=p5 C.eZ (show a -1+1<=C.aZ by omega);rwa[mX,vt]at this
def ui(N:C.ok):jh (bC C) C C.cells:=by
 refine xo ?_;intro e;have aU:=Tf (C:=C);have V:=Cw (C:=C);have ag:=Tg (C:=C);have aj:=Ti (C:=C);have a2:C.cells=C.gR+C.aZ*C.eZ:=rfl;have h1:=N.ck;have h2:=N.d1;have aH:=N.i1;have bm:=N.m1;refine⟨awY,?_,?_,λw O=>?_,?_,λw O=>?_,ajK,?_,λi a b=>ajL a b,λa aP az=>?_,λa r aP az=>?_⟩
 . unfold bC;rw[bg bN]
 . unfold bC;rw[bg bN]
 . show bC C (2+w)=_;unfold bC;rw[a6 ae,bg ae]
 . exact LA h1 (λo aJ=>Tj aJ) (by show 2+C.bc+2+2*C.aZ<=_;omega)
 . have fX:C.bA.cm w=C.d0+w*(2+C.ez):=rfl
   have r3:w*(2+C.ez)+(2+C.ez)<=C.bc*(2+C.ez):=by
    exact acX
   refine⟨h2,?_,?_,λk hk=>?_,by rw[fX];omega⟩
   . rw[fX,<-DO (C.d0+_),Tk O ae];rfl
   . rw[fX,Tk O ae];rfl
   . rw[fX,ny,Tk O ae];unfold Lw;rw[a6 ae,a6 ae]
 . exact LA aH (λo aJ=>Tl aJ) (by show C.ej+1+2+2*C.iO<=_;omega)
 . have fX:(C.box a).b=C.gR+(a -1)*C.eZ:=rfl
   rw[fX];refine⟨?_,?_⟩
   . rw[<-DO (C.gR+_),Cx ae];rfl
   . rw[Cx ae];rfl
 . have fX:(C.box a).b=C.gR+(a -1)*C.eZ:=rfl
   have j:=awZ aP az;cases r with
   |
    false=>
    refine LA bm (λo aJ=>?_) (by show(C.box a).b+2+2+2*C.hS<=_;rw[fX];omega);replace aJ:o<2+2*C.hS:=aJ;show bC C ((C.box a).b+2+o)=oy .ju o;rw[fX,ny,Cx ae];unfold vO;rw[a6 ae,bg ae];congr 1;omega
   |
    true=>
    refine LA (show 1<=C.fF by unfold bK.fF;omega) (λo aJ=>?_) (by show(C.box a).b+2+(2+2*C.hS)+2+2*C.fF<=_;rw[fX];omega);replace aJ:o<2+2*C.fF:=aJ;show bC C ((C.box a).b+2+(2+2*C.hS)+o)=oy .zK o;rw[fX,show C.gR+(a -1)*C.eZ+2+(2+2*C.hS)+o=C.gR+(a -1)*C.eZ+(4+2*C.hS+o) by omega,Cx ae];unfold vO;rw[a6 ae,a6 ae];congr 1;omega
end
end
def ei(C:bK)(l:List Nat)(L:List Int):List Int:=l.foldl (λL w=>(L.set (C.bA.cm w) 1).set (C.bA.cm w+1) 1) L
def Tn(C:bK):∀(l:List Nat) (L:List Int),(ei C l L).length=L.length
 |[],L=>rfl
 |w::l,L=>by show(ei C l _).length=_;rw[Tn C l];simp
def Cy(C:bK):∀(l:List Nat) (L:List Int) (i:Nat),(∀w∈l,i≠C.bA.cm w/\i≠C.bA.cm w+1)->(ei C l L).getD i 0=L.getD i 0
 |[],L,i,_=>rfl
 |
  w::l,L,i,h=>by
  show(ei C l _).getD i 0=_;rw[Cy C l _ i (λx ag=>h x (.tail _ ag)),ms (h w (.head _)).2,ms (h w (.head _)).1]
def To(C:bK):∀(l:List Nat) (L:List Int) (i:Nat),L.getD i 0=1->(ei C l L).getD i 0=1
 |[],L,i,h=>h
 |
  w::l,L,i,h=>by
  show(ei C l _).getD i 0=1;refine To C l _ i ?_;rw[gs];split
  . rfl
  . rw[gs];split
    . rfl
    . exact h
def ajM(C:bK){w:Nat}:∀(l:List Nat) (L:List Int),w∈l->C.bA.cm w+1<L.length->(ei C l L).getD (C.bA.cm w) 0=1/\(ei C l L).getD (C.bA.cm w+1) 0=1
 |[],L,h,_=>by cases h
 |
  x::l,L,h,aw=>by
  show(ei C l _).getD _ 0=1/\(ei C l _).getD _ 0=1;by_cases e:w=x
  . subst e
    exact⟨To C l _ _ (by rw[ms (by omega),rI (by omega)]),To C l _ _ (by rw[rI (by rw[gq];omega)])⟩
  . exact ajM C l _ ((kf.1 h).resolve_left e) (by simp only[gq];exact aw)
def ajN(C:bK):∀(l:List Nat) (L:List Int),iv L->iv (ei C l L)
 |[],L,h=>h
 |w::l,L,h=>ajN C l _ ((h.set _ _ bN).set _ _ bN)
def Tp(k i:Nat):(List.replicate k (0:Int)).getD i 0=0:=by
 rw[je,Tq];split<;>rfl
def S2{C:bK}{P:List b1}(N:C.ok)(dm:iN P):∃s,start C P=some s/\hv (bC C) C P 1 s:=by
 obtain⟨k,r,hk⟩:∃k r,P=k::r:=by
  cases g:P with
  |nil=>exact absurd g dm.ne
  |cons k r=>exact⟨k,r,rfl⟩
 have Y:=ui N;have B:=dm.kinds k (by rw[hk];exact .head _);obtain⟨cI,a8⟩:∃cI,lf P k.name=some cI:=by
  unfold lf;rw[hk,ajO];simp
 have a:=dm.kinds cI (ai1 a8);obtain⟨st,m,gc⟩:∃st r,cI.states=st::r:=by
  cases aj:cI.states with
  |nil=>exact absurd aj a.st
  |cons st r=>exact⟨st,r,rfl⟩
 have fG:cI.states[0]?=some st:=by rw[gc];rfl
 have ck:=N.ck;unfold start;have j:P[0]?=some k:=by rw[hk];rfl
 simp only[j,bind,Option.bind];unfold vN;simp only[a8,fG,bind,Option.bind];rw[bg ⟨rfl,ck⟩];have z:∀(s:ar),dz s 0=none:=λs=>by unfold dz;rw[a6 bN]
 simp only[z,ci];refine⟨_,aiQ _ (show(0:Nat)<1099511627776 by decide),?_⟩;have hlen:2<=C.cells:=by show 2<=C.gR+_;unfold bK.gR bK.bG;omega
 generalize K:(List.range C.bc).foldl (λL w=>(L.set (C.bA.cm w) 1).set (C.bA.cm w+1) 1) ((List.replicate C.cells (0:Int)).set 1 1)=L
 replace K:ei C (List.range C.bc) ((List.replicate C.cells (0:Int)).set 1 1)=L:=K;have d:L.length=C.cells:=by rw[<-K,Tn];simp
 have f:∀w,2<=C.bA.cm w:=λw=>by show 2<=2+C.bc+(2+2*C.aZ)+_;omega
 have ni:L.getD 0 0=0:=by
  rw[<-K,Cy _ _ _ _ (λw _=>by have:=f w;omega),ms bN,Tp]
 have di:L.getD 1 0=1:=by
  rw[<-K,Cy _ _ _ _ (λw _=>by have:=f w;omega),rI hW]
 have b:∀i,L.getD i 0≠0->i=1\/∃w,w<C.bc/\(i=C.bA.cm w\/i=C.bA.cm w+1):=λi al=>by
  by_cases h1:i=1
  . exact .inl h1
  . refine .inr (Classical.byContradiction λaS=>al ?_)
    rw[<-K,Cy _ _ _ _ (λw O=>⟨λe=>aS ⟨w,p4.1 O,.inl e⟩,λe=>aS ⟨w,p4.1 O,.inr e⟩⟩),ms h1,Tp]
 have ld:∀w,w<C.bc->L.getD (C.bA.cm w) 0=1/\L.getD (C.bA.cm w+1) 0=1:=λw O=>by
  rw[<-K];exact ajM C _ _ (p4.2 O) (by have:=(Y.ie w O).len;simp;omega)
 have jL:iv L:=by rw[<-K];exact ajN C _ _ ((auQ _).set _ _ bN)
 have T:∀(np:List bZ) (t:List bV),bl (⟨L,⟨0,0,[]⟩,[⟨1,0,cI,st.name,[0,0,0,0],[],1,[],[],[],[],[],[]⟩],[],[],[],[],np,0,0,false,t⟩:ar)=⟨1,0,0⟩:=λnp t=>rfl;refine⟨⟨⟨eh _,ck,λi x e=>?_,(λl aw=>by cases aw),(λl aw=>by cases aw),by simp,⟨by simp,(λq bo=>by cases bo)⟩,eh _⟩,⟨by show L.getD 0 0=_;rw[ni];rfl,fc _,by show((1:Nat):Int)=min (L.getD 1 0 -_) _;rw[di];omega,by show _<=L.getD 1 0;rw[di];decide,by show L.getD 1 0<=_;rw[di];decide⟩,λ_=>1,⟨d,jL,λi c al aS=>?_,λw O=>⟨by rw[(ld w O).1];decide,by show L.getD _ 0<=_;rw[(ld w O).2];decide,λi h1 h2=>by omega⟩,λ_=>eh _,(λt R=>by cases R),⟨j5.nil,(show 0+_<_ by decide),(show 0+_<_ by decide)⟩⟩,λi t e=>?_⟩,(show(1:Nat)<=90000 by decide)⟩
 . rw[dd]at e
   obtain⟨d5,rfl⟩:=e;have D:i=0:=by simp at d5;omega
   subst D;exact⟨rfl,fc _,a,rfl,(λv V=>by simp at V;subst V;exact⟨vB _,by show(0:Int)<=((1:Nat):Int);decide⟩),zk,zk,zk,zk,(λp hp=>by cases hp)⟩
 . exfalso
   rcases b i aS with rfl|⟨w,O,rfl|rfl⟩
   . rw[Y.c1]at al;cases al
   . rw[(Y.ie w O).dE]at al;cases al
   . rw[(Y.ie w O).iL]at al;cases al
 . replace e:(List.replicate (C.bc+C.cK+1) (⟨none,0,false⟩:bV))[i]?=some t:=e
   rw[Tq]at e;split at e
   . cases e
     exact⟨(λo k e=>by cases e),λO=>.inl (by show 1<=L.getD _ 0;rw[(ld i O).2];decide),(show(0:Int)<=0/\(0:Int)<_ from by decide)⟩
   . cases e
def b3(x y:Option ar):Prop:=∀v,x=some v->y=some v
def b3.refl(x:Option ar):b3 x x:=λ_ h=>h
def b3.bind{α:Type}{x:Option α}{f t:α->Option ar}(h:∀a,b3 (f a) (t a)):b3 (x.bind f) (x.bind t):=by
 cases x with
 |none=>exact λv e=>by cases e
 |some a=>exact h a
def b3.bind'{α:Type}{x:Option α}{f t:α->Option ar}(h:∀a,b3 (f a) (t a)):b3 (x>>=f) (x>>=t):=b3.bind h
def b3.ite{p:Prop}[Decidable p]{a b aE l:Option ar}(h1:p->b3 a aE)(h2:¬p->b3 b l):b3 (if p then a else b) (if p then aE else l):=by
 by_cases h:p
 . rw[bg h,bg h];exact h1 h
 . rw[a6 h,a6 h];exact h2 h
section
variable{C:bK}{P:List b1}{g z:ar->bY->K->Option ar}{j:Nat}(aX:∀s r k,b3 (g s r k) (z s r k))
include aX
section
variable(s:ar){c aK:ar->List Int->K->Option ar}(d:eE)(r:bY)(i a:Nat)(n:da)(id:Int)(k:K)
theorem Lf:b3 (pF C g j s r a k) (pF C z j s r a k):=by
 unfold pF;cases r with
 |post aE p=>exact b3.ite (λ_=>b3.refl _) (λ_=>aX _ _ _)
 |_=>exact b3.refl _
theorem ajm:b3 (ug C g j s id k) (ug C z j s id k):=by
 unfold ug;refine b3.bind' λl=>b3.ite (λ_=>b3.bind' λ_=>aX _ _ _) (λ_=>b3.refl _)
theorem awv{s:ar}{a:Nat}{x:bQ}{e:fw}{b who:Int}{slot:Nat}{c aK:ar->List Int->K->Option ar}{k:K}(a2:∀s l k,b3 (c s l k) (aK s l k)):b3 (zP C g j s a x e b who slot c k) (zP C z j s a x e b who slot aK k):=by
 unfold zP;refine b3.ite (λ_=>b3.refl _) λ_=>b3.ite (λ_=>b3.refl _) λ_=>b3.ite (λ_=>aX _ _ _) λ_=>b3.ite (λ_=>b3.bind λ_=>aX _ _ _) λ_=>b3.ite (λ_=>b3.refl _) λ_=>b3.ite (λ_=>a2 _ _ _) λ_=>b3.ite (λ_=>b3.ite (λ_=>aX _ _ _) λ_=>b3.refl _) λ_=>b3.refl _
theorem ajn(a2:∀s l k,b3 (c s l k) (aK s l k))(s:ar)(d:eE)(i:Nat)(k:K):b3 (nV C g j c s d i k) (nV C z j aK s d i k):=by
 unfold nV;cases d with
 |c0 a id p=>exact b3.bind' λl=>b3.bind' λe=>b3.bind' λx=>awv aX a2
 |cancel ids=>exact b3.refl _
 |leave due=>exact b3.bind' λ_=>ajm aX _ _ _
 |push l w=>exact b3.refl _
 |mz a=>exact b3.ite (λ_=>aX _ _ _) (λ_=>b3.refl _)
theorem aww(n:Nat)(k:K):b3 (Fe C g j s d i n k) (Fe C z j s d i n k):=by
 unfold Fe;exact b3.ite (λ_=>aX _ _ _) (λ_=>ajn aX (λ_ _ _=>b3.refl _) _ _ _ _)
theorem Fh(n:Nat)(k:K):b3 (nW C g j s d i n k) (nW C z j s d i n k):=by
 unfold nW;exact b3.ite (λ_=>aX _ _ _) (λ_=>ajn aX (λ_ _ _=>aww aX _ _ _ _ _) _ _ _ _)
theorem SS(l:List Int)(w:Int)(k:K):b3 (xP C g j s l w k) (xP C z j s l w k):=Fh aX _ _ _ _ _
theorem SU:b3 (s3 C g j s a k) (s3 C z j s a k):=by
 unfold s3;exact b3.bind' λx=>b3.ite (λ_=>aX _ _ _) (λ_=>b3.bind' λ_=>SS aX _ _ _ _)
theorem ajo(r:cy)(k:K):b3 (uh C g j s a r k) (uh C z j s a r k):=by
 unfold uh;exact b3.bind' λx=>b3.bind' λ_=>b3.ite (λ_=>SU aX _ _ _) (λ_=>b3.refl _)
theorem ajp:b3 (rU g j s a k) (rU z j s a k):=by
 unfold rU;exact b3.bind' λx=>b3.ite (λ_=>aX _ _ _) λ_=>b3.ite (λ_=>b3.refl _) λ_=>b3.ite (λ_=>b3.bind' λ_=>b3.bind' λ_=>b3.bind' λ_=>b3.bind' λ_=>aX _ _ _) λ_=>aX _ _ _
theorem SV(d:Int)(k:K):b3 (rV C g j s a n d k) (rV C z j s a n d k):=by
 unfold rV;exact b3.bind' λ_=>b3.ite (λ_=>b3.refl _) λ_=>b3.ite (λ_=>b3.refl _) λ_=>b3.ite (λ_=>b3.refl _) λ_=>b3.bind' λ_=>b3.ite (λ_=>ajo aX _ _ _ _) λ_=>aX _ _ _
theorem awx:b3 (xQ C g j s a n k) (xQ C z j s a n k):=by
 unfold xQ;exact b3.bind' λx=>b3.ite (λ_=>aX _ _ _) λ_=>b3.ite (λ_=>SV aX _ _ _ _ _) λ_=>b3.refl _
theorem awy:b3 (vM C g j s a n k) (vM C z j s a n k):=by
 unfold vM;exact b3.bind' λx=>b3.ite (λ_=>SU aX _ _ _) λ_=>b3.ite (λ_=>awx aX _ _ _ _) λ_=>b3.ite (λ_=>b3.ite (λ_=>aX _ _ _) λ_=>b3.bind' λ_=>SS aX _ _ _ _) λ_=>
  b3.ite (λ_=>b3.ite (λ_=>aX _ _ _) λ_=>SS aX _ _ _ _) λ_=>b3.ite (λ_=>ajp aX _ _ _) λ_=>b3.refl _
theorem ajq:b3 (s4 C g j s a id k) (s4 C z j s a id k):=by
 unfold s4;exact b3.bind' λx=>b3.bind' λl=>b3.ite (λ_=>b3.bind' λ_=>aX _ _ _) λ_=>b3.ite (λ_=>b3.ite (λ_=>b3.bind' λ_=>aX _ _ _) λ_=>b3.bind' λ_=>aX _ _ _) λ_=>b3.bind' λ_=>Fh aX _ _ _ _ _
theorem ajr(left:Nat):b3 (rW C g j s a left) (rW C z j s a left):=by
 unfold rW;refine b3.bind' λx=>b3.ite (λ_=>b3.refl _) λ_=>b3.ite (λ_=>b3.refl _) λ_=>?_;cases x.front.getLast? with
 |none=>exact b3.refl _
 |some id=>exact ajq aX _ _ _ _
theorem awz:b3 (dw C P g j s r k) (dw C P z j s r k):=by
 cases k with
 |nil=>exact b3.refl _
 |polled=>exact b3.refl _
 |found=>exact b3.refl _
 |pG=>exact b3.refl _
 |
  mC=>
  cases r with
  |eY c=>exact b3.bind' λ_=>b3.bind' λ_=>b3.bind' λ_=>Fh aX _ _ _ _ _
  |_=>exact b3.refl _
 |run a=>exact b3.refl _
 |
  jB a=>
  cases r with
  |post aE p=>exact b3.ite (λ_=>ajr aX _ _ _) λ_=>b3.bind' λ_=>awy aX _ _ _ _
  |_=>exact b3.refl _
 |on a=>exact b3.refl _
 |again a=>exact b3.refl _
 |next a left=>exact ajr aX _ _ _
 |
  nX a left=>
  cases r with
  |post aE p=>exact b3.ite (λ_=>b3.refl _) λ_=>ajq aX _ _ _ _
  |_=>exact b3.refl _
 |settled a=>exact Lf aX _ _ _ _
 |ended a id p k=>exact b3.bind' λx=>b3.bind' λ_=>b3.ite (λ_=>SU aX _ _ _) λ_=>b3.ite (λ_=>ajo aX _ _ _ _) λ_=>aX _ _ _
 |mD l k=>exact b3.bind' λx=>ajm aX _ _ _
 |h8 a l e k=>exact b3.refl _
 |
  told id to k=>
  cases r with
  |post aE p=>exact b3.ite (λ_=>b3.bind' λ_=>aX _ _ _) λ_=>b3.ite (λ_=>b3.bind' λ_=>aX _ _ _) λ_=>Lf aX _ _ _ _
  |_=>exact b3.refl _
 |lJ a k=>exact Lf aX _ _ _ _
 |
  mE a kind slot k=>
  cases r with
  |
   gm v=>
   exact b3.ite (λ_=>b3.bind' λE=>b3.bind' λ_=>aX _ _ _) (λ_=>b3.bind' λE=>b3.bind' λ_=>aX _ _ _)
  |_=>exact b3.refl _
 |
  asked id a e k=>
  cases r with
  |eY c=>exact b3.ite (λ_=>b3.bind' λ_=>aX _ _ _) λ_=>b3.bind' λ_=>aX _ _ _
  |_=>exact b3.refl _
 |watched a who k=>exact b3.refl _
 |
  gone a who k=>
  cases r with
  |post aE p=>exact b3.ite (λ_=>aX _ _ _) λ_=>b3.refl _
  |_=>exact b3.refl _
 |
  nn x y k=>
  cases r with
  |hZ o=>exact b3.ite (λ_=>aX _ _ _) λ_=>b3.refl _
  |_=>exact b3.refl _
 |alone a k=>exact ajp aX _ _ _
 |
  mF a n k=>
  cases r with
  |eY c=>exact b3.bind' λ_=>b3.ite (λ_=>SV aX _ _ _ _ _) λ_=>SV aX _ _ _ _ _
  |_=>exact b3.refl _
 |closed a k=>exact b3.refl _
 |
  lc a k=>
  cases r with
  |post aE p=>exact b3.ite (λ_=>aX _ _ _) λ_=>b3.refl _
  |_=>exact b3.refl _
 |shut a k=>exact b3.refl _
 |ow a k=>exact b3.refl _
 |
  who a k=>
  cases r with
  |gm v=>exact b3.ite (λ_=>Fh aX _ _ _ _ _) λ_=>b3.refl _
  |_=>exact b3.refl _
 |parent a k=>exact b3.bind' λ_=>b3.ite (λ_=>aX _ _ _) λ_=>b3.refl _
 |each d i n k=>exact Fh aX _ _ _ _ _
 |o2 a=>exact Lf aX _ _ _ _
end
end
structure fg(a:Nat)(x:bQ):Prop where
 id:x.id=a
 kids:x.kids.length<most
 q1:3*(x.front.length+x.aside.length)<most
structure eJ(C:bK)(x:bQ):Prop where
 par:x.parent<=C.aZ
 slots:x.slots.length=4
 kids:x.kids.length+1<most
 Lh:x.cF.length+1<most
 SX:∀p∈x.given,p.2.length<most
 SY:∀p∈x.timers,p.2.length<most
 j0:∀p∈x.timers,∀v∈p.2,0<=v
structure cM(C:bK)(j:Nat)(s:ar):Prop where
 aI:∀a x,dz s a=some x->1<=a/\fg a x
 na:s.aI.length<=C.aZ
 bf:kW s.bf
 Fi:s.bf.length<=s.lets.length/\s.lets.length<=most
 notes:s.notes.length<most
 Li:∀n∈s.notes,0<=n.who
 np:s.trace.length<=most/\s.dead.length<=most
 j1:∃t,s.aC[j]?=some t/\t.on=none
section
variable{id w:Int}{f:Nat->gl}{C:bK}{g:ar->bY->K->Option ar}{P:List b1}{n j p q:Nat}{s y:ar}{l:cV}{a:Nat}{v:Int}{x:bQ}{e:bZ}
def Lj{l:List Nat}{x n:Nat}(h:x∈l)(aj:l.sum<n):x<n:=by
 induction l with
 |nil=>cases h
 |
  cons y l L=>
  simp only[SG]at aj;rcases kf.1 h with rfl|h
  . omega
  . exact L h ae
def In.s9{s:ar}{x:bQ}(h:In f C P n j p q s)(hp:bL s+10<most)(e:dz s a=some x):1<=a/\fg a x/\eJ C x:=by
 unfold dz at e;split at e
 . rename_i h1
   have B:=h.base.aI _ _ e;have aj:im x+10<most:=by
    have h2:im x∈s.aI.map im:=jS.2 ⟨x,h0 e,rfl⟩;have:=Lj (n:=most -10) h2 Iz;omega
   unfold im at aj;refine⟨h1,⟨by have:=B.id;omega,by omega,by omega⟩,⟨mW B.par h.base.na,B.slots,by omega,by omega,λp hp=>?_,λp hp=>?_,λp hp v V=>?_⟩⟩
   . have:=Lj (n:=most) (jS.2 ⟨p,hp,rfl⟩:(1+p.2.length)∈x.given.map (λp=>1+p.2.length)) ae;omega
   . have:=Lj (n:=most) (jS.2 ⟨p,hp,rfl⟩:(1+p.2.length)∈x.timers.map (λp=>1+p.2.length)) ae;omega
   . have aH:1<=v:=(B.j0 p hp v V).1;omega
 . cases e
def cM.of(h:In f C P n j p q s)(aS:n<=br)(hp:bL s+10<most):cM C j s:=by
 have H:br=1000000000000:=rfl;refine⟨λa x e=>⟨(h.s9 hp e).1,(h.s9 hp e).2.1⟩,h.base.na,h.base.bf.1,⟨h.base.bf.2,?_⟩,by unfold bL at hp;omega,λm bb=>(h.base.notes m bb).who.1,by unfold bL at hp;omega,h.j1⟩;have h2:=h.num.oW;unfold most;omega
def cM.l6(h:cM C j s):s.bf.length<=most:=mW h.Fi.1 h.Fi.2
def awA{b:Nat}{x y:bQ}(aP:1<=a)(h:dz (c7 s a x) b=some y):(a=b/\y=x)\/dz s b=some y:=by
 unfold dz c7 at*;split at h
 . rename_i az
   by_cases e:a -1=b -1
   . have f:a=b:=by omega
     subst f;have d5:=(dd.1 h).1;rw[gq]at d5;rw[zu d5]at h;cases h;exact .inl dD
   . rw[qD e]at h
     exact .inr (by rw[bg az];exact h)
 . cases h
def SZ{E:bQ}(h:dz s a=some E):dz (c7 s a x) a=some x:=by
 unfold dz c7 at*;split at h
 . rename_i aP
   rw[bg aP,zu (dd.1 h).1]
 . cases h
def cM.set{C:bK}{j a:Nat}{s:ar}{x:bQ}(h:cM C j s)(aP:1<=a)(ag:fg a x):cM C j (c7 s a x):=
 ⟨fun b y e => by
  rcases awA aP e with⟨rfl,rfl⟩|e
  . exact⟨aP,ag⟩
  . exact h.aI b y e,by show(s.aI.set _ _).length<=_;rw[gq];exact h.na,h.bf,h.Fi,h.notes,h.Li,h.np,h.j1⟩
def cM.z7{aY:ar}(h:cM C j s)(ea:aY.aI=s.aI)(el:dP s.bf aY.bf)(c5:aY.notes=s.notes)(b:aY.lets=s.lets)(M:aY.aC=s.aC)(aB:aY.trace.length<=most)(aU:aY.dead.length<=most):cM C j aY:=
 ⟨λa x e=>h.aI a x (by unfold dz at*;rwa[ea]at e),by rw[ea];exact h.na,el.1 h.bf,by rw[el.2,b];exact h.Fi,by rw[c5];exact h.notes,by rw[c5];exact h.Li,⟨aB,aU⟩,by rw[M];exact h.j1⟩
def dP.same{r:List w3}:dP r r:=⟨λh=>h,rfl⟩
theorem dP.from{r:List w3}{id w:Int}(O:1<=w/\w<=8):dP r (dg r id w):=⟨λh=>h.from O,Led.yZ⟩
theorem dP.F4{r:List w3}{id w:Int}:dP r (du r id w):=⟨λh=>h.F4,e2⟩
def kd{o:bY}{k:K}(h:hq j s o k=some y):∃t,s.aC[j]?=some t/\t.on=none/\y={s with aC:=s.aC.set j {t with on:=some (o,k)}}:=by
 unfold hq at h;cases e:s.aC[j]?with
 |none=>rw[e]at h;cases h
 |
  some t=>
  rw[e]at h;simp only[bind,Option.bind]at h;split at h
  . rename_i aS
    cases h;refine⟨t,rfl,?_,rfl⟩;cases aJ:t.on with
    |none=>rfl
    |some q=>rw[aJ]at aS;cases aS
  . cases h
def l4{s y:ar}(h:iM e s=some y):s.trace.length<most/\y={s with trace:=s.trace++[e]}:=by
 unfold iM at h;split at h
 . rename_i aw;cases h;exact⟨aw,rfl⟩
 . cases h
theorem Cp{why:Int}{s y:ar}(h:kill id why s=some y):∃l,kq s id=some l/\s.dead.length<most/\s.trace.length<most/\(1<=why/\why<=5)/\y={s with bf:=dg s.bf id 8,dead:=s.dead++[(id,l.to,why)],trace:=s.trace++[({c3 with kind:=6,id:=id,to:=l.to,why:=why}:bZ)]}:=by
 unfold kill at h;cases e:kq s id with
 |none=>rw[e]at h;cases h
 |
  some l=>
  rw[e]at h;simp only[bind,Option.bind]at h;split at h
  . rename_i aQ
    obtain⟨h1,rfl⟩:=l4 h;exact⟨l,rfl,aQ.1,h1,aQ.2,rfl⟩
  . cases h
def zS{s y:ar}{n:da}{k:K}(h:s0 C j s a n k=some y):s.notes.length<most/\(1<=a/\a<=C.aZ)/\∃t,s.aC[j]?=some t/\t.on=none/\y={s with notes:=s.notes++[n],aC:=s.aC.set j {t with on:=some (.post a (xS s.notes.length),.lJ a k)}}:=by
 unfold s0 at h;split at h
 . rename_i a2
   obtain⟨t,h1,h2,rfl⟩:=kd h;exact⟨a2.1,a2.2,t,h1,h2,rfl⟩
 . cases h
def Cq{l:List Int}{w:Int}{k:K}(h:xP C g j s l w k=some y):(0=l.length/\g s dA k=some y)\/∃(b:Nat) (t:bV),0<l.length/\l[0]?=some (b:Int)/\(1<=b/\b<=C.aZ)/\s.aC[j]?=some t/\t.on=none/\
 y={s with notes:=s.notes++[⟨w,0,[]⟩],aC:=s.aC.set j {t with on:=some (.post b (xS s.notes.length),.lJ b (.each (.push l w) 0 l.length k))}}:=by
 unfold xP nW at h;split at h
 . rename_i bn;exact .inl ⟨bn,h⟩
 . rename_i bn
   refine .inr ?_;simp only[nV]at h;cases e:l[0]?with
   |none=>rw[e]at h;cases h
   |
    some v=>
    rw[e]at h;obtain⟨h1,h2,t,aH,bm,dk⟩:=zS h;exact⟨v.toNat,t,by omega,by rw[show((v.toNat:Nat):Int)=v by omega],h2,aH,bm,dk⟩
theorem Lk{w:Int}:∀{l:List Int} {s y:ar},kK w l s=some y->(∃a b c,y={s with bf:=a,dead:=b,trace:=c})/\dP s.bf y.bf/\(∀id∈l,∃x,kq s id=some x)/\s.trace.length+l.length=y.trace.length/\s.dead.length+l.length=y.dead.length/\(l≠[]->y.trace.length<=most/\y.dead.length<=most)
 |[],s,y,h=>by cases h;exact⟨⟨_,_,_,rfl⟩,dP.same,JH,rfl,rfl,λh=>absurd rfl h⟩
 |
  id::l,s,y,h=>by
  simp only[kK,bind]at h;cases e:kill id w s with
  |none=>rw[e]at h;cases h
  |
   some s1=>
   rw[e]at h;obtain⟨x,h1,h2,aH,bm,rfl⟩:=Cp e;obtain⟨⟨a,b,c,rfl⟩,cE,d8,f9,Z,G⟩:=Lk (l:=l) h;simp only[ep,iY,lk]at f9 Z;refine⟨⟨_,_,_,rfl⟩,⟨λr=>cE.1 (r.from bN),cE.2.trans Led.yZ⟩,λi al=>?_,by simp only[iY];omega,by simp only[iY];omega,λ_=>?_⟩
   . rcases kf.1 al with rfl|al
     . exact⟨x,h1⟩
     . exact d8 i al
   . cases l with
     |nil=>simp only[lk]at f9 Z;constructor<;>(simp only;omega)
     |cons E l=>exact G fW
theorem awB:kill id w (c7 s a x)=(kill id w s).map (c7 · a x):=by
 unfold kill;have e:kq (c7 s a x) id=kq s id:=rfl;rw[e];cases kq s id with
 |none=>rfl
 |
  some l=>
  simp only[bind,Option.bind];show(if s.dead.length<most/\1<=w/\w<=5 then _ else none)=_;split
  . unfold iM
    show(if s.trace.length<most then _ else none)=Option.map _ (if s.trace.length<most then _ else none);split<;>rfl
  . rfl
theorem ajs{w:Int}{a:Nat}{x:bQ}:∀{l:List Int} {s:ar},kK w l (c7 s a x)=(kK w l s).map (c7 · a x)
 |[],s=>rfl
 |
  id::l,s=>by
  simp only[kK,bind];rw[awB];cases kill id w s with
  |none=>rfl
  |some s1=>exact ajs (l:=l)
theorem S0(w:Int):∀(l:List Int) (s:ar),l.foldl (λs id=>move s id w) s={s with bf:=l.foldl (λr id=>du r id w) s.bf}
 |[],s=>rfl
 |x::l,s=>by rw[yR,yR,S0 w l];rfl
theorem ajt(a w:Int):∀(l:List Int) (s:ar),l.foldl (λs id=>mA s id a w) s={s with bf:=l.foldl (λr id=>if bs r id=a then du r id w else r) s.bf}
 |[],s=>rfl
 |
  x::l,s=>by
  rw[yR,yR,ajt a w l];unfold mA;split<;>rfl
def awC(h:dz s a=some x):c7 s a x=s:=by
 unfold dz at h;split at h
 . obtain⟨h1,h2⟩:=dd.1 h
   unfold c7;rw[<-h2,A1 h1]
 . cases h
theorem aju{s1:ar}{l:cV}{a:Bool}{v id:Int}(h:enter s l a (.gm v)=some (s1,id)):id=v/\v=((s.lets.length+1:Nat):Int)/\s.lets.length<most/\s.trace.length<most/\
 s1={s with lets:=s.lets++[l],bf:=dS s.bf v 1,trace:=s.trace++[({c3 with kind:=2,id:=v,cw:=l.cw,to:=l.to,name:=l.tag,n:=l.n,nN:=a}:bZ)]}:=by
 unfold enter at h;simp only at h;split at h
 . rename_i a2
   cases R:iM {c3 with kind:=2,id:=v,cw:=l.cw,to:=l.to,name:=l.tag,n:=l.n,nN:=a} {s with lets:=s.lets++[l],bf:=dS s.bf v 1}with
   |none=>rw[R]at h;cases h
   |
    some Z=>
    rw[R]at h;obtain⟨h1,rfl⟩:=l4 R;cases h;exact⟨rfl,a2.1,a2.2,h1,rfl⟩
 . cases h
theorem cM.enter(h:cM C j s)(h1:s.lets.length<most)(h2:s.trace.length<most):cM C j {s with lets:=s.lets++[l],bf:=dS s.bf v 1,trace:=s.trace++[e]}:=
 ⟨fun a x e => h.aI a x e, h.na, h.bf.acc, by
  have aH:=YY (r:=s.bf) (id:=v) (w:=1);have bm:=h.Fi.1;simp only[ep,iY,lk];omega,h.notes,h.Li,by simp only[ep,iY,lk];have:=h.np;omega,h.j1⟩
theorem ajv(h:dz s a=some x):Cm s a=some (c7 {s with bf:=x.aside.foldl (λr id=>du r id 4) s.bf} a {x with front:=x.front++x.aside.reverse,aside:=[]}):=by
 unfold Cm;simp only[h,bind,Option.bind];rw[S0]
theorem awD{s y:ar}{k:K}{x:bQ}{st:fb}(B:dz s a=some x)(hk:x.kids=[])(bb:x.mode=3)(aj:x.kind.states[0]?=some st)(h:rU g j s a k=some y):
 s.trace.length<most/\g (c7 {s with bf:=x.aside.foldl (λr id=>du r id 4) s.bf,trace:=s.trace++[({c3 with kind:=12,dK:=a}:bZ)]} a {x with state:=st.name,slots:=[0,0,0,0],cF:=[],front:=x.front++x.aside.reverse,aside:=[],mode:=1}) dA k=some y:=by
 unfold rU at h;simp only[B,qW,k3]at h;rw[a6 (λe=>e hk),a6 ae,bg bb]at h;simp only[aj,k3]at h;have u:=ajv (SZ (x:=El) B);simp only[u,k3]at h;have cE:∀(l:List (Int×Int)) (E w:bQ),dz (c7 {c7 s a E with bf:=l} a w) a=some w:=λl E w=>SZ (E:=E) (SZ B);simp only[cE,k3]at h;have d8:∀(l:List (Int×Int)) (E w v:bQ),c7 (c7 {c7 s a E with bf:=l} a w) a v=c7 {s with bf:=l} a v:=λl E w v=>by simp[c7,List.set_set]
 simp only[d8]at h;obtain⟨s1,R,ah⟩:=io.1 h;obtain⟨h1,rfl⟩:=l4 R;exact⟨h1,ah⟩
end
section
variable{f:Nat->gl}{C:bK}{P:List b1}{n ce j:Nat}{s:ar}
theorem ajw(Y:jh f C C.cells)(N:C.ok)(aS:n+1<=br)(h:Inv f C P n s){t:bV}{o:bY}{k:K}(M:s.aC[j]?=some t)(B:t.on=some (o,k))(U:(acc C s o).2.over=true):
 (cR C P (bl {(acc C s o).1 with aC:=s.aC.set j {t with on:=none}}) k/\bL {(acc C s o).1 with aC:=s.aC.set j {t with on:=none}}=bL s/\bw k<=90000/\(∀ac,(acc C s o).2=.eY ac->0<=ac.val/\ac.val<=18446744073709551615))/\
 In f C P (n+1) j (eL k) (eM k) {(acc C s o).1 with aC:=s.aC.set j {t with on:=none}}/\eK C j {(acc C s o).1 with aC:=s.aC.set j {t with on:=none}} (acc C s o).2 k:=by
 refine afG ?_;intro H al c ao J V hk R z E y;have l:jh f C s.L.length:=O1;have m:∀{fK},dT C (bl s) fK j (acc C s o).1.L (acc C s o).2->∀ac,(acc C s o).2=.eY ac->0<=ac.val/\ac.val<=18446744073709551615:=λv ac e=>by
  rw[e]at v;exact v.1.val
 -- the threads behind it
 have aC:∀(q:nS) (fK:Nat->Nat) (dh:bV),(∀i,i≠j->q≠.own i)->(∀w,al w<=fK w)->zN f C (bl s) al n j q s o (acc C s o).1 (acc C s o).2->sY C P (bl s) fK (acc C s o).1.L j dh->
  ∀i u,(s.aC.set j dh)[i]?=some u->sY C P (bl s) fK (acc C s o).1.L i u:=λq fK dh bo co A I i u e=>by
  by_cases g1:j=i
  . subst g1
    obtain⟨d5,rfl⟩:=dd.1 e;rw[y3];exact I
  . rw[qD g1]at e
    exact ajx Y c A bo co (λh=>g1 h.symm) (ao i u e)
 by_cases F:∃a d,o=.add a d
 . obtain⟨a,d,rfl⟩:=F
   obtain⟨aP,rfl⟩:=V;have A:=aiO (j:=j) Y aS c aP;have bo:∀i,i≠j->nS.jk≠.own i:=λi _ e=>by cases e
   obtain⟨fK,co,aK,D⟩:=A.ex;have T:=Cr C s (.add a 1) Js;refine⟨⟨by rw[T];exact hk,IN _ _ _ _,by omega,m D⟩,?_⟩;have hu:∀p q,qc C (n+1) p q {(acc C s (.add a 1)).1 with aC:=s.aC.set j {t with on:=none}}->In f C P (n+1) j p q sC:=λp q r=>by
    exact ad5
   have ni:=h.num.ni;have oW:=h.num.oW;have di:=h.num.di;have mu:=h.num.mu;have mw:=h.num.mw;have un:∀x:Int,0<=x->x<9223372036854775808->e0 x=x:=λx a b=>by rw[xF];omega
   have hlen:2<=s.L.length:=Zy;have Z:∀{p q:Nat},eL k=p->eM k=q->qc C (n+1) p q sC->eK C j sC (acc C s (.add a 1)).2 k->In f C P (n+1) j (eL k) (eM k) sC/\eK C j sC (acc C s (.add a 1)).2 k:=λaB aU r aD=>by
    rw[aB,aU];exact⟨hu _ _ r,aD⟩
   exact aeE
 . have hH:∀a d,o≠.add a d:=λa d e=>F ⟨a,d,e⟩
   have A:=aiN Y N aS c V y hH;have bo:∀i,i≠j->nS.own j≠.own i:=λi g1 e=>by cases e;exact g1 rfl
   obtain⟨fK,co,aK,D⟩:=A.ex;have fG:(acc C s o).1.L.getD 0 0=s.L.getD 0 0:=A.wr.jk fW Y.ej;have aB:(acc C s o).1.L.getD 1 0=s.L.getD 1 0:=A.wr.jk fW Y.c1;have r:∀dh,qc C (n+1) 0 0 Jv:=λdh=>by
    exact afN
   have T:=Cr C s o Js;have X:eL k=0/\eM k=0:=Zz;refine ada ?_;intro hu;exact⟨⟨by rw[T];exact hk,IN _ _ _ _,by omega,m D⟩,by rw[X.1,X.2];exact hu,ajy R hH A T rfl⟩
end
def awE(C:bK)(s:ar)(o:bY):(acc C s o).1.aI=s.aI:=by cases o<;>rfl
def awF(C:bK)(s:ar)(o:bY):(acc C s o).1.lets=s.lets:=by cases o<;>rfl
section
variable{M:Nat->ar->Option ar}{n i:Nat}
def awG(h:i<n):(List.range n).drop i=i::(List.range n).drop (i+1):=by
 rw[vY (by rw[vf];exact h)];simp
def ajz(h:i<n)(s:ar):s6 M ((List.range n).drop i) s=(M i s).bind (s6 M ((List.range n).drop (i+1))):=by
 rw[awG h];rfl
def awH(s:ar):s6 M ((List.range n).drop n) s=some s:=by
 rw[Ge (by rw[vf];exact eh _)];rfl
def ajA{C:bK}{P:List b1}{k:Nat}{s:ar}{E:ar×Bool}(h:rest C P (k+1) s=some E):(quiet C s=true/\E=(s,true))\/(quiet C s=false/\∃s1 Z b9 b,s6 (λj s=>stepT C P (eS C j) j s) (List.range C.bc) s=some s1/\s6 (λi s=>if busy s (C.bc+i)then eu C P (C.bc+i) s else some s) (List.range C.cK) s1=some Z/\zR C P Z=some (b9,b)/\rest C P k b9=some E):=by
 unfold rest at h;split at h
 . rename_i bo;cases h;exact .inl ⟨bo,rfl⟩
 . rename_i bo
   refine .inr ⟨by simpa using bo,?_⟩;obtain⟨b9,h1,h2⟩:=io.1 h;unfold round at h1;obtain⟨s1,aB,h1⟩:=io.1 h1;obtain⟨Z,aU,h1⟩:=io.1 h1;obtain⟨⟨a,b⟩,bB,c9⟩:=o3.1 h1;cases c9;exact⟨s1,Z,_,b,aB,aU,bB,h2⟩
end
section
variable(C:bK)(P:List b1)(s:ar)
abbrev ef(n:Nat)(s:ar):Prop:=hv (bC C) C P n s
def Cs(e:dG):ar×Bool:=(pH C P s e).getD (s,false)
def Fj(k:Nat)(s:ar):ar×Bool:=(rest C P k s).getD (s,false)
def Ll:ar:=(start C P).getD ⟨[],⟨0,0,[]⟩,[],[],[],[],[],[],0,0,false,[]⟩
end
section
variable{C:bK}{P:List b1}{n:Nat}{s:ar}
def S1(N:C.ok)(dm:iN P)(h:ef C P n s)(aS:n+1<=hM)(e:dG):pH C P s e=some (Cs C P s e)/\ef C P (n+1) (Cs C P s e).1:=by
 obtain⟨aY,b,aB,r⟩:=Lm (ui N) N dm aS h e;unfold Cs;rw[aB];exact⟨rfl,r⟩
def ajB{k n:Nat}{s:ar}(N:C.ok)(dm:iN P)(h:ef C P n s)(aS:n+13*k<=hM):rest C P k s=some (Fj C P k s)/\ef C P (n+13*k) (Fj C P k s).1:=by
 obtain⟨aY,b,aB,r⟩:=Ln (ui N) N dm k n s aS h;unfold Fj;rw[aB];exact⟨rfl,r⟩
def awI(N:C.ok)(dm:iN P):start C P=some (Ll C P)/\ef C P 1 (Ll C P):=by
 obtain⟨s,aB,r⟩:=S2 N dm;unfold Ll;rw[aB];exact⟨rfl,r⟩
def jG:bK:=⟨1,1,4,4,2,2,4,4,4⟩
def zT:fw:=⟨1,[115,101,108,102],[],[121],0,0,0⟩
def ke:List b1:=[⟨[97],0,1,none,0,[],none,0,[⟨[115],none,0,[⟨[120],false,0,none,0,[zT]⟩]⟩]⟩]
def uj:jG.ok:=by constructor<;>decide
def xU:iN ke:=⟨by decide,λk hk=>by
 obtain rfl:=r2.1 hk;refine⟨by decide,λt R r aD=>?_⟩;obtain rfl:=r2.1 R;obtain rfl:=r2.1 aD;refine⟨by decide,λe Y=>?_⟩;obtain rfl:=r2.1 Y;decide⟩
def Ct:ar:=Ll jG ke
def Fk:ar×Bool:=Cs jG ke Ct ⟨4,0,1,[120],5⟩
def rX:ar×Bool:=Fj jG ke 100 Fk.1
def Fl:ar×Bool:=Cs jG ke rX.1 ⟨7,0,0,[],0⟩
def xV:ar×Bool:=Fj jG ke 100 Fl.1
def Cu:ar×Bool:=Cs jG ke xV.1 ⟨4,0,1,[120],0⟩
def S3:start jG ke=some Ct/\ef jG ke 1 Ct:=awI uj xU
def S4:pH jG ke Ct ⟨4,0,1,[120],5⟩=some Fk/\ef jG ke 2 Fk.1:=S1 uj xU S3.2 bN _
def Lo:rest jG ke 100 Fk.1=some rX/\ef jG ke 1302 rX.1:=ajB uj xU S4.2 bN
def S5:pH jG ke rX.1 ⟨7,0,0,[],0⟩=some Fl/\ef jG ke 1303 Fl.1:=S1 uj xU Lo.2 bN _
def Lp:rest jG ke 100 Fl.1=some xV/\ef jG ke 2603 xV.1:=ajB uj xU S5.2 bN
def ajC:pH jG ke xV.1 ⟨4,0,1,[120],0⟩=some Cu/\ef jG ke 2604 Cu.1:=S1 uj xU Lp.2 bN _
def Fm:Fk.2=true/\rX.2=true/\Fl.2=true/\xV.2=true/\Cu.2=true:=⟨by kernel_rfl,by kernel_rfl,by kernel_rfl,by kernel_rfl,by kernel_rfl⟩
def Cv:rX.1.trace.length=7/\xV.1.trace.length=9/\Cu.1.trace.length=10:=⟨by kernel_rfl,by kernel_rfl,by kernel_rfl⟩
def Lq:rX.1.trace[1]?=some {c3 with kind:=2,id:=1,cw:=-1,to:=1,name:=[120],n:=5}/\rX.1.trace[3]?=some {c3 with kind:=2,id:=2,cw:=1,to:=1,name:=[121],n:=5}/\rX.1.trace[6]?=some {c3 with kind:=4,dK:=1,id:=2,name:=[115]}/\(Cu.1.trace[9]?).map (·.kind)=some 1:=⟨by kernel_rfl,by kernel_rfl,by kernel_rfl,by kernel_rfl⟩
def Lr:xV.1.aI.length=1/\(xV.1.aI[0]?).map (·.mode)=some 5:=⟨by kernel_rfl,by kernel_rfl⟩
def e9(C:bK)(P:List b1)(es:List dG)(k:Int):Option (ar×Bool):=do
 let s<-start C P
 let s<-(es.take 400).foldlM (λs e=>(pH C P s e).map (·.1)) s
 rest C P (min (max (min k 400) 0) 20000).toNat s
def ajD{C:bK}{P:List b1}(N:C.ok)(dm:iN P):∀(es:List dG) (n:Nat) (s:ar),n+es.length<=hM->ef C P n s->∃aY,es.foldlM (λs e=>(pH C P s e).map (·.1)) s=some aY/\ef C P (n+es.length) aY
 |[],n,s,_,h=>⟨s,rfl,h⟩
 |
  e::es,n,s,aS,h=>by
  simp only[iY]at aS;obtain⟨s1,b,aB,gZ⟩:=Lm (ui N) N dm ae h e;obtain⟨Z,aU,my⟩:=ajD N dm es (n+1) s1 ae gZ;refine⟨Z,?_,by rw[iY,show n+(es.length+1)=n+1+es.length by omega];exact my⟩;rw[List.foldlM_cons,aB];exact aU
def awJ(N:C.ok)(dm:iN P)(es:List dG)(k:Int):∃E,e9 C P es k=some E/\ef C P 6000 E.1:=by
 obtain⟨s,aB,gZ⟩:=S2 N dm;have aw:(es.take 400).length<=400:=OY;have hk:hM=10000000:=rfl;obtain⟨Z,aU,my⟩:=ajD N dm (es.take 400) 1 s ae gZ;have bb:(min (max (min k 400) 0) 20000).toNat<=400:=ae;obtain⟨b9,b,bB,c⟩:=Ln (ui N) N dm (min (max (min k 400) 0) 20000).toNat _ Z ae my;refine⟨(b9,b),?_,c.aV ae ae⟩;unfold e9;simp only[aB,aU,bind,Option.bind];exact bB
end
end Go.L.Th
