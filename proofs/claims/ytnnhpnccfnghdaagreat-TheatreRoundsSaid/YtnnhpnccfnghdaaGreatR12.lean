import Derived.Test.YtnnhpnccfnghdaaGreatR11
set_option linter.all false
set_option maxHeartbeats 8000000
namespace Go.L.Th
open Go.L Go.L.Lx Go.L.Pg Go.L.Ring Go.L.dq Go.L.dR Go.L.Whl Go.L.dA Go.L.Led
abbrev vw(r:Bool):qN:=if r then .zK else .jp
structure iM(f:Nat->fU)(C:bt)(len:Nat):Prop where
 KY:∀i c,f i=.rL c->f (i+1)=.val c
 en:f 0=.jg
 c1:f 1=.jg
 KZ:∀w,w<C.a1->f (C.bA.b+w)=.none
 gate:nQ f C.bA.ed C.aZ .act len
 ig:∀w,w<C.a1->xA f (C.bA.cn w) C.eI w len
 now:f C.dH.b=.none
 eS:nQ f (C.dH.b+1) C.iN .ask len
 hV:∀i,C.bG<=i->i<C.gS->f i=.none
 st:∀a,1<=a->a<=C.aZ->f (C.box a).b=.none/\f ((C.box a).b+1)=.none
 box:∀a r,1<=a->a<=C.aZ->nQ f ((C.box a).eR r) ((C.box a).fg r) (vw r) len
section
variable{f:Nat->fU}{C:bt}{E y:gx}{q:nP}{L U:List Int}
def K0{b n:Nat}{o:hL}(ba:∀w,w<n->f (b+w)=.none)(O:o.w<n):ha f E q L (qp b n L o):=by
 unfold qp;split
 . exact .same
 . have h:=ba _ O
   unfold wz;split
   . exact .put h trivial
   . exact .put h trivial
   . exact .iff (λ_=>.put h trivial) zl
   . exact .same
def E7(j:Nat):Src->Prop
 |.pop w=>w=j
 |_=>True
def sR(C:bt)(E:gx)(ak:Nat->Nat)(j:Nat)(L:List Int):tx->Prop
 |.push w o v=>w=j/\w<C.a1/\tV E (C.bA.cn w) C.eI (ak w) L o/\o.pc<=3/\dK E .act v
 |.enter o v=>sQ E C.bA.ed C.aZ L o/\o.ee=false/\dK E .act v
 |.ig w o l=>w<C.a1/\tV E (C.bA.cn w) C.eI (ak w) L o/\4<=o.pc/\(o.pc<=9->w=j)/\∀s∈l,E7 j s
 |.mY o l=>sQ E C.bA.ed C.aZ L o/\o.ee=true/\∀s∈l,E7 j s
 |.lD w o=>sQ E C.bA.ed C.aZ L o/\o.ee=true
 |.up w v o=>dK E .act v
 |_=>True
def wX:tx->Prop
 |.ig _ _ _=>True
 |.mY _ _=>True
 |.rs _ _=>True
 |.lD _ _=>True
 |.up _ _ _=>True
 |_=>False
def tX(E:gx)(c:gC):Prop:=(c.out=0->wX c.ph)/\(c.out=1->dK E .act c.val)
def sS(c:gC):Prop:=c.out=0/\∃w o l,c.ph=.ig w o l/\E6 o
section
variable{B:k2}{v:Int}{ak:Nat->Nat}{j:Nat}{c:gC}
theorem sR.mono(l:E.le y){ak:Nat->Nat}{j:Nat}{p:tx}(h:sR C E ak j L p):sR C y ak j L p:=by
 cases p with
 |push w o v=>exact⟨h.1,h.2.1,h.2.2.1.mono l,h.2.2.2.1,h.2.2.2.2.mono l⟩
 |enter o v=>exact⟨h.1.mono l,h.2.1,h.2.2.mono l⟩
 |ig w o s=>exact⟨h.1,h.2.1.mono l,h.2.2⟩
 |mY o s=>exact⟨h.1.mono l,h.2⟩
 |lD w o=>exact⟨h.1.mono l,h.2⟩
 |up w v o=>exact dK.mono l (show dK E .act v from h)
 |_=>trivial
theorem tX.mono(l:E.le y){c:gC}(h:tX E c):tX y c:=⟨h.1,λe=>(h.2 e).mono l⟩
theorem sR.stay(cH:iM f C L.length)(wr:ha f E q L U){ak fF:Nat->Nat}(cl:∀w,ak w<=fF w){j:Nat}(bm:q≠.own j){p:tx}(h:sR C E ak j L p):sR C E fF j U p:=by
 cases p with
 |push w o v=>obtain⟨rfl,h2,aN,bu⟩:=h;exact⟨rfl,h2,aN.stay (cH.ig w h2) wr (λ_=>bm) (cl w),bu⟩
 |enter o v=>exact⟨h.1.stay cH.gate wr,h.2⟩
 |ig w o l=>exact⟨h.1,h.2.1.stay (cH.ig w h.1) wr (λa=>by rw[h.2.2.2.1 a];exact bm) (cl w),h.2.2⟩
 |mY o l=>exact⟨h.1.stay cH.gate wr,h.2⟩
 |lD w o=>exact⟨h.1.stay cH.gate wr,h.2⟩
 |up w v o=>exact h
 |_=>trivial
def vx(C:bt)(E:gx)(ak:Nat->Nat)(L:List Int):Prop:=∀w,w<C.a1->vv E (C.bA.cn w) C.eI (ak w) L
theorem vx.stay(cH:iM f C L.length)(wr:ha f E .no L U){ak:Nat->Nat}(h:vx C E ak L):vx C E ak U:=λw O=>(h w O).stay (cH.ig w O) wr ga rfl
theorem E8{b n:Nat}{ee:Bool}{v:Int}(h:ee=false->dK E .act v):sQ E b n L (k4 ee v):=λ_=>
 ⟨h,Q1,Q1,Q1⟩
theorem S0(N:j<C.a1){l:List Src}(h:∀s∈l,E7 j s)(h2:∀s∈l,AZ C.bA s):((nB l).out=0->sR C E ak j L (nB l).ph)/\tX E (nB l):=by
 cases l with
 |nil=>exact⟨BL,BL,BL⟩
 |
  cons s l=>
  have h1:=h s (.head _);have aN:=h2 s (.head _);have av:∀s∈l,E7 j s:=λx ah=>h x (.tail _ ah);cases s with
  |pop w=>exact⟨λ_=>⟨aN,SZ ga (.inr (.inl rfl)),(show 4<=4 by decide),λ_=>h1,av⟩,λ_=>trivial,BL⟩
  |take=>exact⟨λ_=>⟨E8 ga,rfl,av⟩,λ_=>trivial,BL⟩
  |ms w=>exact⟨λ_=>⟨aN,SZ ga (.inr (.inr rfl)),(show 4<=10 by decide),(λe=>by simp[mX]at e),av⟩,λ_=>trivial,BL⟩
def S1(C:bt)(j:Nat)(L:List Int)(c:gC):Prop:=sS c\/1<=L.getD (C.bA.cn j+1) 0
structure ajb(f:Nat->fU)(C:bt)(E:gx)(ak:Nat->Nat)(j:Nat)(L U:List Int)(c aQ:gC):Prop where
 wr:ha f E (.own j) L U
 ex:∃fF:Nat->Nat,(∀w,ak w<=fF w/\fF w<=ak w+1)/\vx C E fF U/\(aQ.out=0->sR C E fF j U aQ.ph)
 ee:tX E c->tX E aQ
 iL:j<C.a1->S1 C j L c->S1 C j U aQ
theorem zM{aQ:gC}(cH:iM f C L.length)(z:vx C E ak L)(wr:ha f E .no L U)(Y:aQ.out=0->sR C E ak j U aQ.ph)(ee:tX E c->tX E aQ)(a:¬sS c):ajb f C E ak j L U c aQ:=
 ⟨wr.any,⟨ak,λw=>⟨ei _,im _⟩,z.stay cH wr,Y⟩,ee,λN aA=>.inr (by rw[wr.iL (cH.ig j N).iL (by simp)];exact aA.resolve_left a)⟩
theorem avY(cH:iM f C L.length)(aM:0<C.a1)(rc:sP f E L)(K:iu L)(z:vx C E ak L)(aA:∀w,ak w<4611686018427387904)(aK:c.out=0)(a6:wE C.bA c)(Y:sR C E ak j L c.ph)(J:wX c.ph->j<C.a1)(F:j<C.a1->S1 C j L c):
 ajb f C E ak j L (nC C.bA L c) c (lE C.bA L c):=by
 obtain⟨ph,out,val⟩:=c;obtain rfl:out=0:=aK;obtain⟨V,s⟩:=a6 rfl;have ay:nC C.bA L ⟨ph,0,val⟩=(h0 C.bA L ⟨ph,0,val⟩).1:=rfl;have aV:lE C.bA L ⟨ph,0,val⟩=(h0 C.bA L ⟨ph,0,val⟩).2:=rfl;rw[ay,aV];refine W4 ?_;intro iQ y;cases ph with
 |
  push w o v=>
  obtain⟨rfl,O,aL,m,t⟩:=Y;obtain⟨_,bC,T,_⟩:=V;have D:=cH.ig w O;have a:¬sS ⟨.push w o v,0,val⟩:=fun⟨_,_,_,_,e,_⟩=>by cases e
  obtain⟨W,⟨q,dp,N,Z,d8⟩,_,gc,hm⟩:=aja (f:=f) D K (z w O) (aA w) bC T (aL T) (λ_=>.inr ((F O).resolve_left a));rw[bd ae]at W;have cl:∀x,ak x<=(if x=w then q else ak x)/\(if x=w then q else ak x)<=ak x+1:=λx=>by split;(rename_i e;subst e;exact⟨dp,N⟩);exact⟨ei _,im _⟩
  have u:vx C E (λx=>if x=w then q else ak x) (mr (C.bA.cn w) C.eI L o):=λx ah=>by
   by_cases e:x=w
   . subst e;simp only[fi];exact Z
   . simp only[a8 e];exact(z x ah).stay (cH.ig x ah) W (λh=>by cases h;exact e rfl) rfl
  have A:1<=(mr (C.bA.cn w) C.eI L o).getD (C.bA.cn w+1) 0:=by
   rcases hm ae with h|h
   . have:=(KX (gc h.1)).1.2 m;have h1:=h.2.1;omega
   . exact h
  simp only[h0];split
  . split
    . exact⟨W,⟨_,cl,u,λ_=>⟨E8 λ_=>t,rfl,t⟩⟩,λh=>absurd (h.1 rfl) Bw,λ_ _=>.inr A⟩
    . exact⟨W,⟨_,cl,u,λ_=>trivial⟩,λh=>absurd (h.1 rfl) Bw,λ_ _=>.inr A⟩
  . rename_i I
    have:=(KX (gc (iQ I))).1.2 m;refine⟨W,⟨_,cl,u,λ_=>⟨rfl,O,by simp only[fi];exact d8,?_,t⟩⟩,λh=>absurd (h.1 rfl) Bw,λ_ _=>.inr A⟩;exact this
 |
  enter o v=>
  obtain⟨aF,d,t⟩:=Y;obtain⟨bC,T,_⟩:=V;obtain⟨W,Z,_,gc⟩:=SX (f:=f) (j:=.no) cH.gate rc bC T (aF T);have a:¬sS ⟨.enter o v,0,val⟩:=fun⟨_,_,_,_,e,_⟩=>by cases e
  refine zM cH z W ?_ (λh=>absurd (h.1 rfl) Bw) a;simp only[h0];split
  . split
    . exact λ_=>⟨E8 λ_=>t,rfl,t⟩
    . exact λ_=>trivial
  . exact λ_=>⟨Z,gc.trans d,t⟩
 |
  ring o=>
  have a:¬sS ⟨.ring o,0,val⟩:=fun⟨_,_,_,_,e,_⟩=>by cases e
  exact zM cH z (K0 cH.KZ V.2.1) (λ_=>trivial) (λh=>absurd (h.1 rfl) Bw) a
 |
  ig w o l=>
  have i:=J trivial;obtain⟨O,aL,m,B,av⟩:=Y;obtain⟨_,bC,T,H⟩:=V;have D:=cH.ig w O;have g:o.pc<=9->E6 o\/1<=L.getD (C.bA.cn w+1) 0:=λhp=>by
   obtain rfl:=B hp;rcases F i with h|h
   . obtain⟨_,X,S,g6,e,h⟩:=h;cases e;exact .inl h
   . exact .inr h
  obtain⟨W,⟨q,dp,N,Z,d8⟩,r,gc,hm⟩:=aja (f:=f) D K (z w O) (aA w) bC T (aL T) g;have m5:tW o.pc≠0:=by unfold tW;rw[a8 ae];split<;>decide
  have cl:∀x,ak x<=(if x=w then q else ak x)/\(if x=w then q else ak x)<=ak x+1:=λx=>by split;(rename_i e;subst e;exact⟨dp,N⟩);exact⟨ei _,im _⟩
  have U:∀x,x≠w->(if o.pc<=9 then nP.own w else nP.no)≠.own x:=λx e h=>by
   by_cases p:o.pc<=9
   . rw[bd p]at h;cases h;exact e rfl
   . rw[a8 p]at h;cases h
  have u:vx C E (λx=>if x=w then q else ak x) (mr (C.bA.cn w) C.eI L o):=λx ah=>by
   by_cases e:x=w
   . subst e;simp only[fi];exact Z
   . simp only[a8 e];exact(z x ah).stay (cH.ig x ah) W (U x e) rfl
  have wr:ha f E (.own j) L (mr (C.bA.cn w) C.eI L o):=by
   by_cases p:o.pc<=9
   . rw[bd p,B p]at W;rw[<-B p]at W⊢;exact W
   . rw[a8 p]at W;exact W.any
  -- the bottom of the thread's own deque
  have A:E6 (jb (C.bA.cn w) C.eI L o)/\(jb (C.bA.cn w) C.eI L o).over=false\/1<=(mr (C.bA.cn w) C.eI L o).getD (C.bA.cn j+1) 0:=by
   by_cases p:o.pc<=9
   . obtain rfl:=B p
     rcases hm p with h|h
     . exact .inl ⟨h,by simp[ie.over,h.1]⟩
     . exact .inr h
   . refine .inr ?_
     rw[a8 p]at W;rw[W.iL (cH.ig j i).iL ga];rcases F i with h|h
     . obtain⟨_,X,S,g6,e,h⟩:=h;cases e;exact absurd h.2.2 p
     . exact h
  simp only[h0];split
  . rename_i I
    have M:=A.resolve_left (λh=>Bool.false_ne_true (h.2.symm.trans I));split
    . rename_i h1
      refine⟨wr,⟨_,cl,u,(λe=>by simp at e)⟩,λ_=>⟨(λe=>by simp at e),λ_=>?_⟩,λ_ _=>.inr M⟩;show dK E .act (jb (C.bA.cn w) C.eI L o).value;unfold ie.value;rw[bd (show(jb (C.bA.cn w) C.eI L o).out=1 from h1)];exact r h1 m5
    . have:=S0 (E:=E) (L:=mr (C.bA.cn w) C.eI L o) (ak:=λx=>if x=w then q else ak x) i av H
      exact⟨wr,⟨_,cl,u,this.1⟩,λ_=>this.2,λ_ _=>.inr M⟩
  . rename_i I
    have a6:=gc (iQ I);have bu:4<=(jb (C.bA.cn w) C.eI L o).pc:=by
     have:=(KX a6).1;omega
    have p:(jb (C.bA.cn w) C.eI L o).pc<=9->w=j:=λh=>B ((KX a6).2.1 h);refine⟨wr,⟨_,cl,u,λ_=>⟨O,by simp only[fi];exact d8,bu,p,av⟩⟩,λ_=>⟨λ_=>trivial,(λe=>by simp at e)⟩,λ_ _=>?_⟩;rcases A with h|h
    . exact .inl ⟨rfl,w,_,l,rfl,h.1⟩
    . exact .inr h
 |
  mY o l=>
  have i:=J trivial;obtain⟨aF,d,av⟩:=Y;obtain⟨bC,T,H⟩:=V;obtain⟨W,Z,d8,gc⟩:=SX (f:=f) (j:=.no) cH.gate rc bC T (aF T);have a:¬sS ⟨.mY o l,0,val⟩:=fun⟨_,_,_,_,e,_⟩=>by cases e
  have R:=S0 (E:=E) (L:=n5 C.bA.ed C.aZ L o) (ak:=ak) i av H;refine zM cH z W ?_ ?_ a
  . simp only[h0]
    split
    . split
      . exact λe=>by simp at e
      . exact R.1
    . exact λ_=>⟨Z,gc.trans d,av⟩
  . intro _
    simp only[h0];split
    . split
      . rename_i h1
        refine⟨(λe=>by simp at e),λ_=>?_⟩;show dK E .act (iw C.bA.ed C.aZ L o).value;unfold hJ.value;rw[bd ⟨h1,by rw[gc];exact d⟩];exact d8 h1 d
      . exact R.2
    . exact⟨λ_=>trivial,(λe=>by simp at e)⟩
 |
  rs w o=>
  have a:¬sS ⟨.rs w o,0,val⟩:=fun⟨_,_,_,_,e,_⟩=>by cases e
  exact zM cH z (K0 cH.KZ V.2.2.1) (λ_=>⟨E8 ga,rfl⟩) (λ_=>⟨λ_=>trivial,(λe=>by simp[h0]at e)⟩) a
 |
  lD w o=>
  obtain⟨aF,d⟩:=Y;obtain⟨O,bC,T⟩:=V;obtain⟨W,Z,d8,gc⟩:=SX (f:=f) (j:=.no) cH.gate rc bC T (aF T);have a:¬sS ⟨.lD w o,0,val⟩:=fun⟨_,_,_,_,e,_⟩=>by cases e
  have aDd:(iw C.bA.ed C.aZ L o).out=1->dK E .act (iw C.bA.ed C.aZ L o).value:=λh1=>by
   unfold hJ.value;rw[bd ⟨h1,by rw[gc];exact d⟩];exact d8 h1 d
  refine zM cH z W ?_ ?_ a
  . simp only[h0]
    split
    . split
      . rename_i h1;exact λ_=>aDd h1
      . exact λe=>by simp at e
    . exact λ_=>⟨Z,gc.trans d⟩
  . intro _
    simp only[h0];split
    . split
      . exact⟨λ_=>trivial,(λe=>by simp at e)⟩
      . exact⟨(λe=>by simp at e),(λe=>by simp at e)⟩
    . exact⟨λ_=>trivial,(λe=>by simp at e)⟩
 |
  up w v o=>
  have a:¬sS ⟨.up w v o,0,val⟩:=fun⟨_,_,_,_,e,_⟩=>by cases e
  exact zM cH z (K0 cH.KZ V.2.2.1) (λe=>by simp[h0]at e) (λ_=>⟨(λe=>by simp[h0]at e),λ_=>Y⟩) a
 |
  o9 o=>
  have a:¬sS ⟨.o9 o,0,val⟩:=fun⟨_,_,_,_,e,_⟩=>by cases e
  exact zM cH z (K0 cH.KZ V.2.1) (λ_=>trivial) (λh=>absurd (h.1 rfl) Bw) a
def vy(B:jn)(E:gx)(L:List Int):vq->Prop
 |.put R o=>lO (dK E (vw R)) (B.eR R) (B.fg R) L o
 |.ask v=>dK E .zK v
 |.of r o=>lO (dK E (vw r)) (B.eR r) (B.fg r) L o
 |.look _ r o=>lO (dK E (vw r)) (B.eR r) (B.fg r) L o
 |_=>True
def vz(E:gx)(r:Bool)(p:gw):Prop:=(p.out=0->∃o,p.ph=.of r o/\BK o.pc=1)/\(p.out=1->dK E (vw r) p.val)
theorem vy.mono(l:E.le y){B:jn}{p:vq}(h:vy B E L p):vy B y L p:=by
 cases p with
 |put R o=>exact lO.mono l h
 |ask v=>exact dK.mono l (show dK E .zK v from h)
 |of r o=>exact lO.mono l h
 |look _ r o=>exact lO.mono l h
 |_=>trivial
theorem vz.mono(l:E.le y){r:Bool}{p:gw}(h:vz E r p):vz y r p:=⟨h.1,λe=>(h.2 e).mono l⟩
theorem vy.stay{B:jn}(D:∀r,nQ f (B.eR r) (B.fg r) (vw r) L.length)(wr:ha f E q L U){p:vq}(h:vy B E L p):vy B E U p:=by
 cases p with
 |put R o=>exact lO.stay (D R) wr h
 |ask v=>exact h
 |of r o=>exact lO.stay (D r) wr h
 |look _ r o=>exact lO.stay (D r) wr h
 |_=>trivial
theorem avZ{B:jn}{p:gw}(D:∀r,nQ f (B.eR r) (B.fg r) (vw r) L.length)(ec:f B.b=.none)(s1:f (B.b+1)=.none)(rc:sP f E L)(aK:p.out=0)(hp:sK p)(Y:vy B E L p.ph):
 ha f E .no L (p2 B L p)/\((oV B L p).out=0->vy B E (p2 B L p) (oV B L p).ph)/\∀r,vz E r p->vz E r (oV B L p):=by
 obtain⟨ph,out,val⟩:=p;obtain rfl:out=0:=aK;obtain⟨V,_⟩:=hp rfl;have ay:p2 B L uJ=(iI B L ph).1:=rfl;have aV:oV B L uJ=(iI B L ph).2:=rfl;rw[ay,aV];have no:∀{r:Bool} {o:gw},(∀x,ph≠.of r x)->vz E r uJ->vz E r o:=λaM h=>by obtain⟨x,e,_⟩:=h.1 rfl;exact absurd e (aM x)
 have a:∀{b n:Nat} {o:fo},¬(dO b n L o).over=true->(dO b n L o).out=0:=λh=>by simpa[fo.over]using h
 have on:∀{b n:Nat} {o:fo},(dO b n L o).over=true->(dO b n L o).out≠0:=λh=>by simpa[fo.over]using h
 cases ph with
 |
  put R o=>
  obtain⟨W,Z,_,_⟩:=E5 (f:=f) (j:=.no) (D R) rc V.1 V.2 (Y V.2);simp only[iI];refine⟨W,?_,λr=>no vd⟩;split
  . rename_i I
    split
    . exact λ_=>trivial
    . exact λe=>absurd e (on I)
  . exact λ_=>Z
 |
  qJ R=>
  simp only[iI];refine⟨.same,?_,λr=>no vd⟩;split<;>exact λ_=>trivial
 |
  swp R s=>
  simp only[iI];refine⟨?_,?_,λr=>no vd⟩
  . split
    . exact .put ec trivial
    . exact .same
  . split<;>exact λ_=>trivial
 |
  ask v=>
  simp only[iI];refine⟨?_,?_,λr=>no vd⟩
  . split
    . exact .put s1 trivial
    . exact .same
  . split
    . exact λ_=>xz (λ_=>Y) (.inl bJ)
    . exact λe=>by simp at e
 |set st=>exact⟨.put ec trivial,(λe=>by simp[iI]at e),λr=>no vd⟩
 |
  of r o=>
  obtain⟨W,Z,d8,gc⟩:=E5 (f:=f) (j:=.no) (D r) rc V.1 V.2 (Y V.2);simp only[iI];refine⟨W,?_,λm h=>?_⟩
  . split
    . rename_i I;exact λe=>absurd e (on I)
    . exact λ_=>Z
  . obtain⟨x,e,ah⟩:=h.1 rfl
    cases e;split
    . rename_i I
      refine⟨λe=>absurd e (on I),λe=>?_⟩;replace e:(dO (B.eR r) (B.fg r) L o).out=1:=e;show dK E (vw r) (dO (B.eR r) (B.fg r) L o).value;unfold fo.value;rw[bd e];exact d8 e ah
    . rename_i I
      exact⟨λ_=>⟨_,rfl,(gc (a I)).trans ah⟩,(λe=>by simp at e)⟩
 |gone=>exact⟨.same,λ_=>trivial,λr=>no vd⟩
 |xu held=>exact⟨.put ec trivial,λ_=>xz ga (.inr (.inr bJ)),λr=>no vd⟩
 |
  look held r o=>
  obtain⟨W,Z,d8,gc⟩:=E5 (f:=f) (j:=.no) (D r) rc V.1 V.2.1 (Y V.2.1);simp only[iI];refine⟨W,?_,λr=>no vd⟩;split
  . split
    . exact λ_=>trivial
    . split
      . exact λ_=>xz ga (.inr (.inr bJ))
      . exact λe=>by simp at e
  . exact λ_=>Z
 |
  more held=>
  simp only[iI];refine⟨?_,?_,λr=>no vd⟩
  . split
    . exact .put ec trivial
    . exact .same
  . split<;>exact λ_=>trivial
def E9(B:k2)(E:gx)(L:List Int):wi->Prop
 |.put o=>lO (dK E .ask) (B.b+1) B.n L o
 |.take _ o=>lO (dK E .ask) (B.b+1) B.n L o/\BK o.pc=1
 |_=>True
def xB(E:gx)(w:fX):Prop:=∀t∈w.T,dK E .jp t.id
structure vA(B:k2)(E:gx)(L:List Int)(c:hy):Prop where
 ph:c.out=0->E9 B E L c.ph
 due:∀x∈c.due,dK E .jp x
 cut:∀x∈c.cut,dK E .jp x
 ref:∀x∈c.ref,dK E .jp x
 dl:c.due.length<=64
theorem xB.mono(l:E.le y){w:fX}(h:xB E w):xB y w:=λt R=>(h t R).mono l
theorem E9.mono(l:E.le y){B:k2}{p:wi}(h:E9 B E L p):E9 B y L p:=by
 cases p with
 |put o=>exact lO.mono l h
 |take k o=>exact⟨h.1.mono l,h.2⟩
 |_=>trivial
theorem vA.mono(l:E.le y){B:k2}{c:hy}(h:vA B E L c):vA B y L c:=⟨λe=>(h.ph e).mono l,λx ah=>(h.due x ah).mono l,λx ah=>(h.cut x ah).mono l,λx ah=>(h.ref x ah).mono l,h.dl⟩
theorem vA.stay{B:k2}(D:nQ f (B.b+1) B.n .ask L.length)(wr:ha f E q L U){c:hy}(h:vA B E L c):vA B E U c:=by
 refine⟨λe=>?_,h.due,h.cut,h.ref,h.dl⟩;have g:=h.ph e;revert g;cases c.ph with
 |put o=>exact λg=>lO.stay D wr g
 |take k o=>exact λg=>⟨lO.stay D wr g.1,g.2⟩
 |_=>exact λ_=>trivial
theorem av0{w:fX}(Y:dK E .ask v)(h:xB E w):xB E (lV v w):=by
 unfold lV;split
 . exact λt R=>h t (oM.1 R).1
 . unfold rj;split
   . intro t R
     rcases ky.1 R with R|R
     . exact h t R
     . simp at R;subst R;exact Y
   . exact h
theorem ajc(left:Nat)(w:fX):E9 B E L (pM left w):=by
 unfold pM;split
 . trivial
 . exact⟨xz ga (.inr (.inl rfl)),rfl⟩
theorem av1{w:fX}{c:hy}(D:nQ f (B.b+1) B.n .ask L.length)(ec:f B.b=.none)(rc:sP f E L)(b7:j2 w)(O:xB E w)(aK:c.out=0)(a6:tu c)(Y:vA B E L c):
 ha f E .no L (j1 B L w c).1/\xB E (j1 B L w c).2.1/\vA B E (j1 B L w c).1 (j1 B L w c).2.2:=by
 obtain⟨ph,out,val,due,cut,ref⟩:=c;obtain rfl:out=0:=aK;obtain⟨V,_,aL⟩:=a6.run rfl;obtain rfl:due=[]:=aL;have ay:j1 B L w ⟨ph,0,val,[],cut,ref⟩=n2 B L w ⟨ph,0,val,[],cut,ref⟩:=rfl;rw[ay];have h1:=Y.ph rfl;have h2:=Y.cut;have aN:=Y.ref;have no:∀x∈([]:List Int),dK E .jp x:=λx ah=>by cases ah
 cases ph with
 |
  put o=>
  obtain⟨W,Z,_,_⟩:=E5 (f:=f) (j:=.no) D rc V.1 V.2.1 (h1 V.2.1);simp only[n2];exact⟨W,O,⟨λ_=>Z,no,h2,aN,eX _⟩⟩
 |now=>exact⟨.same,O,⟨(λe=>by simp[n2]at e),no,h2,aN,eX _⟩⟩
 |
  take left o=>
  obtain⟨W,Z,d8,gc⟩:=E5 (f:=f) (j:=.no) D rc V.1 V.2.1 (h1.1 V.2.1);simp only[n2];split
  . split
    . rename_i d
      have r:dK E .ask (dO (B.b+1) B.n L o).value:=by unfold fo.value;rw[bd d];exact d8 d h1.2
      refine⟨W,av0 r O,⟨λ_=>ajc _ _,no,λx ah=>?_,λx ah=>?_,eX _⟩⟩
      . rcases ky.1 ah with ah|ah
        . exact h2 x ah
        . unfold rk at ah;split at ah
          . simp at ah;subst ah;exact r
          . cases ah
      . rcases ky.1 ah with ah|ah
        . exact aN x ah
        . unfold rl at ah;split at ah
          . simp at ah;subst ah;exact r
          . cases ah
    . exact⟨W,O,⟨λ_=>trivial,no,h2,aN,eX _⟩⟩
  . rename_i I
    have a:(dO (B.b+1) B.n L o).out=0:=qm;exact⟨W,O,⟨λ_=>⟨Z,(gc a).trans h1.2⟩,no,h2,aN,eX _⟩⟩
 |
  tick v=>
  simp only[n2];refine⟨.put ec trivial,λt R=>O t (oM.1 R).1,⟨(λe=>by simp at e),λx ah=>?_,h2,aN,?_⟩⟩
  . obtain⟨t,R,rfl⟩:=lU.1 ah;exact O t (oM.1 R).1
  . rw[oQ];exact nb (qw _ _) b7.len
theorem av2{o:k5}(a6:f o.cell=.none):ha f E .no L (r8 L o):=by
 unfold r8;split
 . exact .same
 . unfold yB;split<;>first|exact .same|exact .iff (λ_=>.put a6 trivial) zl
end
end
abbrev bq:Nat:=1000000000000
structure eH(f:Nat->fU)(C:bt)(E:gx)(ak:Nat->Nat)(n:Nat)(L:List Int)(w:fX):Prop where
 len:L.length=C.cells
 jH:iu L
 rc:sP f E L
 hK:vx C E ak L
 aA:∀w,ak w<=n
 qO:xB E w
 ws:wv (bq -n) w
def dQ(C:bt)(E:gx)(ak:Nat->Nat)(j:Nat)(L:List Int):bU->Prop
 |.load c=>c=1
 |.add c d=>(c=0\/c=1)/\d=1
 |.fV v=>ji v
 |.post a p=>1<=a/\a<=C.aZ/\sK p/\(p.out=0->vy (C.box a) E L p.ph)
 |.hV o=>wD L o/\C.bG<=o.cell/\o.cell<C.gS
 |.fx c=>wE C.bA c/\(c.out=0->sR C E ak j L c.ph/\(wX c.ph->j<C.a1))
 |.eS c=>tu c/\vA C.dH E L c
def S2:bU->Prop
 |.fx c=>sS c
 |_=>False
def Kv(C:bt)(j:Nat)(L:List Int)(o:bU):Prop:=S2 o\/1<=L.getD (C.bA.cn j+1) 0
def qP(E:gx)(r:Bool):bU->Prop
 |.post _ p=>vz E r p
 |_=>False
def rM(E:gx):bU->Prop
 |.fx c=>tX E c
 |_=>False
section
variable{f:Nat->fU}{C:bt}{E y:gx}{q:nP}{L U:List Int}
section
variable{ak:Nat->Nat}{o:k5}{n j:Nat}{s:ao}
theorem _root_.Go.L.dA.wD.len(h:wD L o)(e:U.length=L.length):wD U o:=⟨h.pc,by rw[e];exact h.cell,h.seen⟩
theorem dQ.mono(l:E.le y){ak:Nat->Nat}{j:Nat}{o:bU}(h:dQ C E ak j L o):dQ C y ak j L o:=by
 cases o with
 |post a p=>exact⟨h.1,h.2.1,h.2.2.1,λe=>(h.2.2.2 e).mono l⟩
 |fx c=>exact⟨h.1,λe=>⟨(h.2 e).1.mono l,(h.2 e).2⟩⟩
 |eS c=>exact⟨h.1,h.2.mono l⟩
 |_=>exact h
theorem ha.len(w:ha f E q L U):U.length=L.length:=by
 rcases w with rfl|⟨k,x,rfl,_⟩
 . rfl
 . exact gn
theorem dQ.stay(cH:iM f C L.length)(wr:ha f E q L U){ak fF:Nat->Nat}(cl:∀w,ak w<=fF w){j:Nat}(bm:q≠.own j){o:bU}(h:dQ C E ak j L o):dQ C E fF j U o:=by
 cases o with
 |post a p=>exact⟨h.1,h.2.1,h.2.2.1,λe=>(h.2.2.2 e).stay (λr=>cH.box a r h.1 h.2.1) wr⟩
 |fx c=>exact⟨h.1,λe=>⟨(h.2 e).1.stay cH wr cl bm,(h.2 e).2⟩⟩
 |eS c=>exact⟨h.1,h.2.stay cH.eS wr⟩
 |hV o=>exact⟨h.1.len wr.len,h.2⟩
 |_=>exact h
theorem eH.mono(l:E.le y){ak:Nat->Nat}{n:Nat}{w:fX}(h:eH f C E ak n L w):eH f C y ak n L w:=
 ⟨h.len,h.jH,h.rc.mono l,λx ah=>(h.hK x ah).mono l,h.aA,h.qO.mono l,h.ws⟩
theorem _root_.Go.L.dA.wD.go(K:iu L)(h:wD L o):wD (r8 L o) (r9 L o)/\iu (r8 L o)/\(r9 L o).cell=o.cell:=by
 have e:(r8 L o).length=L.length:=by
  unfold r8;split
  . rfl
  . unfold yB;split<;>(try split)<;>simp
 have l:iu (r8 L o):=by
  unfold r8;split
  . exact K
  . unfold yB;split<;>(try split)<;>first|exact K|exact K.set _ _ bJ
 have g:=K.get o.cell;refine⟨⟨?_,?_,?_⟩,l,?_⟩
 . have:=h.pc;unfold r9;split
   . exact this
   . unfold wC;split<;>first|exact this|simp
 . rw[e];have:=h.cell;unfold r9;split
   . exact this
   . unfold wC;split<;>exact this
 . have:=h.seen;unfold r9;split
   . exact this
   . unfold wC;split<;>first|exact this|exact g
 . unfold r9;split
   . rfl
   . unfold wC;split<;>rfl
theorem av3{B:fL}{c:gC}(aK:c.out=0)(h:¬wX c.ph):¬wX (lE B L c).ph:=by
 obtain⟨ph,out,val⟩:=c;obtain rfl:out=0:=aK;have e:lE B L uJ=(h0 B L uJ).2:=rfl;rw[e];cases ph<;>first|exact absurd trivial h|(simp only[h0];(repeat' split)<;>simp[wX])|simp[h0,wX]
structure zN(f:Nat->fU)(C:bt)(E:gx)(ak:Nat->Nat)(n j:Nat)(q:nP)(s:ao)(o:bU)(aD:ao)(S:bU):Prop where
 eq:aD={s with L:=aD.L,bs:=aD.bs}
 wr:ha f E q s.L aD.L
 ex:∃fF:Nat->Nat,(∀w,ak w<=fF w)/\eH f C E fF (n+1) aD.L aD.bs/\dQ C E fF j aD.L S
 ajd:∀r,qP E r o->qP E r S
 aje:rM E o->rM E S
 iL:j<C.a1->Kv C j s.L o->Kv C j aD.L S
theorem ajf{o:bU}(cH:iM f C C.cells)(J:C.ok)(aM:n+1<=bq)(S:eH f C E ak n s.L s.bs)(Y:dQ C E ak j s.L o)(aA:j<C.a1->Kv C j s.L o)(hH:∀c d,o≠.add c d):
 zN f C E ak n j (.own j) s o (acc C s o).1 (acc C s o).2:=by
 have y:iM f C s.L.length:=by rw[S.len];exact cH
 have d6:bq -n=(bq -(n+1))+1:=ae;have O:=S.ws;rw[d6]at O;have jv:eH f C E ak (n+1) s.L s.bs:=⟨S.len,S.jH,S.rc,S.hK,λw=>nb (S.aA w) (im _),S.qO,O.le (im _)⟩;have same:∀U,ha f E .no s.L U->iu U->eH f C E ak (n+1) U s.bs:=λU wr jH=>
  ⟨by rw[wr.len];exact S.len,jH,wr.rc cH.KY S.rc,S.hK.stay y wr,jv.aA,S.qO,jv.ws⟩
 cases o with
 |load c=>exact⟨rfl,.same,⟨ak,λ_=>ei _,jv,S.jH.get _⟩,λr h=>h.elim,λh=>h.elim,λN h=>.inr (h.resolve_left (λh=>h))⟩
 |add c d=>exact absurd rfl (hH c d)
 |fV v=>exact⟨rfl,.same,⟨ak,λ_=>ei _,jv,Y⟩,λr h=>h.elim,λh=>h.elim,λN h=>.inr (h.resolve_left (λh=>h))⟩
 |
  post a p=>
  obtain⟨h1,h2,aN,bu⟩:=Y;simp only[acc];have g9:=auk (B:=C.box a) S.jH aN;by_cases aK:p.out=0
  . obtain⟨W,Z,d8⟩:=avZ (f:=f) (λr=>y.box a r h1 h2) (cH.st a h1 h2).1 (cH.st a h1 h2).2 S.rc aK aN (bu aK)
    exact⟨rfl,W.any,⟨ak,λ_=>ei _,same _ W g9.1,h1,h2,g9.2,Z⟩,λr h=>d8 r h,λh=>h.elim,λN h=>.inr ZX⟩
  . have I:p.over=true:=by simp[gw.over,aK]
    have ay:p2 (C.box a) s.L p=s.L:=by unfold p2;rw[bd I]
    have aV:oV (C.box a) s.L p=p:=by unfold oV;rw[bd I]
    rw[ay,aV];exact⟨rfl,.same,⟨ak,λ_=>ei _,jv,h1,h2,aN,bu⟩,λr h=>h,λh=>h.elim,λN h=>h⟩
 |
  hV o=>
  obtain⟨h1,h2,aN⟩:=Y;simp only[acc];have g:=wD.go S.jH h1;have wr:=av2 (f:=f) (E:=E) (L:=s.L) (o:=o) (cH.hV _ h2 aN);exact⟨rfl,wr.any,⟨ak,λ_=>ei _,same _ wr g.2.1,g.1,by rw[g.2.2];exact h2,by rw[g.2.2];exact aN⟩,λr h=>h.elim,λh=>h.elim,λN h=>.inr (by rw[wr.iL (y.ig j N).iL (by simp)];exact h.resolve_left (λh=>h))⟩
 |
  fx c=>
  obtain⟨h1,h2⟩:=Y;simp only[acc];by_cases aK:c.out=0
  . obtain⟨aN,bu⟩:=h2 aK
    have H:bq=1000000000000:=rfl;have dV:∀w,ak w<4611686018427387904:=λw=>by have:=S.aA w;omega
    have G:=avY (f:=f) y (show 0<C.a1 from J.aG) S.rc S.jH S.hK dV aK h1 aN bu (λN=>by rcases aA N with h|h;exact .inl h;exact .inr h);obtain⟨wr,⟨fF,cl,z,D⟩,ee,iL⟩:=G;refine⟨rfl,wr,⟨fF,λw=>(cl w).1,⟨by show(nC _ _ _).length=_;rw[aoV];exact S.len,aoU S.jH h1,wr.rc cH.KY S.rc,z,λw=>by have:=(cl w).2;have:=S.aA w;omega,S.qO,jv.ws⟩,aoT (show 0<C.bA.bV from J.aG) S.jH h1,λe=>⟨D e,?_⟩⟩,λr h=>h.elim,ee,λN h=>?_⟩
    . intro R
      by_cases i:j<C.a1
      . exact i
      . exfalso
        exact av3 aK (λh=>i (bu h)) R
    . rcases iL N (by rcases h with h|h;exact .inl h;exact .inr h)with h|h
      . exact .inl h
      . exact .inr h
  . have I:c.over=true:=by simp[gC.over,aK]
    have ay:nC C.bA s.L c=s.L:=by unfold nC;rw[bd I]
    have aV:lE C.bA s.L c=c:=by unfold lE;rw[bd I]
    rw[ay,aV];exact⟨rfl,.same,⟨ak,λ_=>ei _,jv,h1,h2⟩,λr h=>h.elim,λh=>h,λN h=>h⟩
 |
  eS c=>
  obtain⟨h1,h2⟩:=Y;simp only[acc];have g9:=aoy (B:=C.dH) S.jH O h1;by_cases aK:c.out=0
  . obtain⟨W,Z,d8⟩:=av1 (f:=f) (B:=C.dH) y.eS cH.now S.rc S.ws.ok S.qO aK h1 h2
    refine⟨rfl,W.any,⟨ak,λ_=>ei _,⟨by rw[W.len];exact S.len,g9.1,W.rc cH.KY S.rc,S.hK.stay y W,jv.aA,Z,g9.2.1⟩,g9.2.2,d8⟩,λr h=>h.elim,λh=>h.elim,λN h=>.inr ZX⟩
  . have I:c.over=true:=by simp[hy.over,aK]
    have ay:j1 C.dH s.L s.bs c=(s.L,s.bs,c):=by unfold j1;rw[bd I]
    rw[ay];exact⟨rfl,.same,⟨ak,λ_=>ei _,jv,h1,h2⟩,λr h=>h.elim,λh=>h.elim,λN h=>h⟩
theorem ajg{c:Nat}(cH:iM f C C.cells)(aM:n+1<=bq)(S:eH f C E ak n s.L s.bs)(a6:c=0\/c=1):
 zN f C E ak n j .jg s (.add c 1) (acc C s (.add c 1)).1 (acc C s (.add c 1)).2:=by
 have y:iM f C s.L.length:=by rw[S.len];exact cH
 have d6:bq -n=(bq -(n+1))+1:=ae;have O:=S.ws;rw[d6]at O;have ba:f c=.jg:=by rcases a6 with rfl|rfl;exact cH.en;exact cH.c1
 have wr:ha f E .jg s.L (s.L.set c (eU (s.L.getD c 0+1))):=.put ba rfl;refine⟨rfl,wr,⟨ak,λ_=>ei _,⟨by show(s.L.set _ _).length=_;rw[gn];exact S.len,S.jH.set _ _ (AY _),wr.rc cH.KY S.rc,λw O=>(S.hK w O).stay (y.ig w O) wr ga rfl,λw=>nb (S.aA w) (im _),S.qO,O.le (im _)⟩,AY _⟩,λr h=>h.elim,λh=>h.elim,λN h=>.inr ?_⟩;show 1<=(s.L.set c (eU (s.L.getD c 0+1))).getD _ 0;rw[wr.iL (y.ig j N).iL ga];exact h.resolve_left (λh=>h)
end
end
section
variable(C:bt)(P:List b2){k:K}(j:Nat)(s:ao)(E:gx)(d:ev)(n:Nat)
abbrev bk:gx:=⟨s.aJ.length,s.lets.length,s.notes.length⟩
def cG(a:Nat):Prop:=1<=a/\a<=E.na
def oY(x:Int):Prop:=0<=x/\x<=E.na
structure tY(E:gx)(l:cW):Prop where
 to:oY E l.to
 cy:l.cy<=E.na
 n:0<=l.n/\l.n<=255
structure sT(E:gx)(n:c9):Prop where
 what:0<=n.what/\n.what<=4
 who:oY E n.who
 aG:n.what=1->1<=n.who
def Cb(e:fv):Prop:=(e.do'=1\/e.do'=2\/e.do'=5\/e.do'=6\/e.do'=7\/e.do'=8\/e.do'=9\/e.do'=10)/\(e.do'=2->(ll P e.name).isSome=true)/\(0<=e.n/\e.n<=255)
structure S3(P:List b2)(k:b2):Prop where
 st:k.states≠[]
 cw:∀t∈k.states,∀r∈t.rows,r.cw.length<=8/\∀e∈r.cw,1<=e.do'/\e.do'<=12/\(e.do'=2->(ll P e.name).isSome=true)/\(0<=e.n/\e.n<=255)
structure c(P:List b2)(E:gx)(i:Nat)(x:bR):Prop where
 id:x.id=i+1
 par:x.parent<=E.na
 kind:S3 P x.kind
 slots:x.slots.length=4
 lf:∀v∈x.slots,oY E v
 kids:∀v∈x.kids,dK E .act v
 aside:∀v∈x.aside,dK E .jp v
 front:∀v∈x.front,dK E .jp v
 cM:∀v∈x.cM,dK E .act v
 jV:∀p∈x.timers,∀v∈p.2,dK E .jp v
def Cc:Prop:=
 match d with
 |.c5 a id p=>cG E a/\dK E .jp id/\n=p.cw.length/\n<=8/\∀e∈p.cw,Cb P e
 |.cancel ids=>n=ids.length/\∀v∈ids,dK E .jp v
 |.leave due=>n=due.length/\n<=64/\∀v∈due,dK E .jp v
 |.push l what=>n=l.length/\(what=0\/what=2)/\∀v∈l,dK E .act v
 |.l9 a=>cG E a/\n<=E.na/\n<=16
def dD:K->Nat
 |.ended _ _ _ k=>dD k+1|.mc _ k=>dD k+1|.gv _ _ _ k=>dD k+1|.told _ _ k=>dD k+1|.lh _ k=>dD k+1|.me _ _ _ k=>dD k+1
 |.asked _ _ _ k=>dD k+1|.watched _ _ k=>dD k+1|.gone _ _ k=>dD k+1|.mK _ _ k=>dD k+1|.alone _ k=>dD k+1|.mf _ _ k=>dD k+1
 |.closed _ k=>dD k+1|.kW _ k=>dD k+1|.shut _ k=>dD k+1|.nS _ k=>dD k+1|.who _ k=>dD k+1|.parent _ k=>dD k+1|.each _ _ _ k=>dD k+1
 |_=>0
def c6:K->Prop
 |.nil=>True|.run _=>True|.on _=>True|.next _ _=>True|.ended _ _ _ _=>True|.alone _ _=>True|.shut _ _=>True|.parent _ _=>True|.each _ _ _ _=>True
 |_=>False
def wd(i n:Nat):Nat:=
 match d with
 |.cancel _=>64
 |.push _ _=>64
 |_=>64*(n -i)+64
def nq(left:Nat):Nat:=4000*left+1280
def bx:K->Nat
 |.nil=>64|.jk _=>70000|.nr _ left=>nq left|.next _ left=>nq (left -1)+64|.mb=>7000|.on _=>128
 |.ended _ _ _ k=>bx k+1000|.mc _ k=>bx k+192|.gv _ _ _ k=>bx k+192|.told _ _ k=>bx k+128|.lh _ k=>bx k+128|.me _ _ _ k=>bx k+128
 |.asked _ _ _ k=>bx k+128|.watched _ _ k=>bx k+128|.gone _ _ k=>bx k+128|.mK _ _ k=>bx k+128|.alone _ k=>bx k+256|.mf _ _ k=>bx k+1000
 |.closed _ k=>bx k+128|.kW _ k=>bx k+128|.shut _ k=>bx k+128|.nS _ k=>bx k+128|.who _ k=>bx k+1600|.parent _ k=>bx k+128|.each d i n k=>bx k+wd d i n
 |_=>128
def cV(C:bt)(P:List b2)(E:gx):K->Prop
 |.nil=>True|.polled=>True|.found=>True|.oZ=>True|.mb=>True
 |.run a=>cG E a|.jk a=>cG E a|.on a=>cG E a|.again a=>cG E a|.settled a=>cG E a|.ov a=>cG E a
 |.next a left=>cG E a/\1<=left/\left<=16|.nr a left=>cG E a/\1<=left/\left<=16
 |.ended a id p k=>cG E a/\cV C P E k/\c6 k/\dD k<=0
 |.mc l k=>tY E l/\cV C P E k/\c6 k/\dD k<=2
 |.gv a l e k=>cG E a/\tY E l/\cV C P E k/\c6 k/\dD k<=2
 |.told id to k=>dK E .jp id/\dK E .act to/\cV C P E k/\c6 k/\dD k<=2
 |.lh a k=>cG E a/\cV C P E k/\c6 k/\dD k<=2
 |.me a kind slot k=>cG E a/\(ll P kind).isSome=true/\slot<4/\cV C P E k/\c6 k/\dD k<=2
 |.asked id a e k=>dK E .jp id/\cG E a/\cV C P E k/\c6 k/\dD k<=2
 |.watched a who k=>cG E a/\cG E who/\cV C P E k/\c6 k/\dD k<=2
 |.gone a who k=>cG E a/\cG E who/\cV C P E k/\c6 k/\dD k<=2
 |.mK x y k=>cG E x/\cG E y/\cV C P E k/\c6 k/\dD k<=2
 |.alone a k=>cG E a/\cV C P E k/\c6 k/\dD k<=0
 |.mf a n k=>cG E a/\sT E n/\1<=n.who/\cV C P E k/\c6 k/\dD k<=0
 |.closed a k=>cG E a/\cV C P E k/\c6 k/\dD k<=0
 |.kW a k=>cG E a/\cV C P E k/\c6 k/\dD k<=1
 |.shut a k=>cG E a/\cV C P E k/\c6 k/\dD k<=0
 |.nS a k=>cG E a/\cV C P E k/\c6 k/\dD k<=0
 |.who a k=>cG E a/\cV C P E k/\c6 k/\dD k<=0
 |.parent a k=>cG E a/\cV C P E k/\c6 k/\dD k<=0
 |
  .each d i n k=>Cc P E d n/\i<n/\cV C P E k/\c6 k/\(match d with
   |.cancel _=>dD k<=2
   |_=>dD k<=1)
def vB(o:bU):K->Prop
 |.polled=>j<C.a1/\∃c,o=.fx c
 |.found=>j<C.a1/\rM E o|.oZ=>j<C.a1/\rM E o
 |.mb=>∃c,o=.eS c
 |.jk _=>qP E true o|.nr _ _=>qP E false o|.kW _ _=>qP E false o
 |.settled _=>∃a p,o=.post a p|.told _ _ _=>∃a p,o=.post a p|.lh _ _=>∃a p,o=.post a p|.gone _ _ _=>∃a p,o=.post a p|.ov _=>∃a p,o=.post a p
 |.mc _ _=>o=.add 0 1|.gv _ _ _ _=>o=.add 0 1|.me _ _ _ _=>o=.add 1 1
 |.asked _ _ _ _=>∃c,o=.eS c|.mf _ _ _=>∃c,o=.eS c
 |.mK _ _ _=>∃x,o=.hV x
 |.who _ _=>o=.load 1
 |_=>∀c d,o≠.add c d
def eE(r:bU):K->Prop
 |.polled=>∃c,r=.fx c
 |.found=>j<C.a1/\rM (bk s) r|.oZ=>j<C.a1/\rM (bk s) r
 |.mb=>∃c,r=.eS c/\(∀x∈c.due,dK (bk s) .jp x)/\(∀x∈c.cut,dK (bk s) .jp x)/\(∀x∈c.ref,dK (bk s) .jp x)/\c.due.length<=64/\c.cut.length+c.ref.length<=64
 |.jk _=>qP (bk s) true r|.nr _ _=>qP (bk s) false r|.kW _ _=>qP (bk s) false r
 |.settled _=>∃a p,r=.post a p|.told _ _ _=>∃a p,r=.post a p|.lh _ _=>∃a p,r=.post a p|.gone _ _ _=>∃a p,r=.post a p|.ov _=>∃a p,r=.post a p
 |.mc _ _=>r=.fV ((s.lets.length+1:Nat):Int)|.gv _ _ _ _=>r=.fV ((s.lets.length+1:Nat):Int)
 |.me _ _ _ _=>r=.fV (s.L.getD 1 0)
 |.asked _ _ _ _=>∃c,r=.eS c|.mf _ _ _=>∃c,r=.eS c
 |.mK _ _ _=>∃x,r=.hV x
 |.who _ _=>r=.fV (s.L.getD 1 0)
 |_=>True
def S4{C:bt}{j:Nat}{s:ao}{r:bU}{k:K}(h:c6 k):eE C j s r k:=by cases k<;>first|trivial|exact h.elim
def ajh{C:bt}{j:Nat}{E:gx}{o:bU}{k:K}(h:c6 k)(aK:∀c d,o≠.add c d):vB C j E o k:=by cases k<;>first|exact aK|exact h.elim
def eF:K->Nat
 |.mc _ _=>1|.gv _ _ _ _=>1|_=>0
def eG:K->Nat
 |.me _ _ _ _=>1|_=>0
def K1(h:c6 k):eF k=0/\eG k=0:=by cases k<;>first|exact dI|exact h.elim
end
section
variable{E y:gx}(h:E.le y)
include h
theorem cG.mono{a:Nat}(v:cG E a):cG y a:=⟨v.1,nb v.2 h.a⟩
theorem oY.mono{a:Int}(v:oY E a):oY y a:=⟨v.1,by have:=v.2;have:=h.a;omega⟩
theorem tY.mono{l:cW}(v:tY E l):tY y l:=⟨v.to.mono h,by have:=v.cy;have:=h.a;omega,v.n⟩
theorem sT.mono{n:c9}(v:sT E n):sT y n:=⟨v.what,v.who.mono h,v.aG⟩
theorem c.mono{P:List b2}{i:Nat}{x:bR}(v:c P E i x):c P y i x:=
 ⟨v.id,nb v.par h.a,v.kind,v.slots,λa b=>(v.lf a b).mono h,λa b=>(v.kids a b).mono h,λa b=>(v.aside a b).mono h,λa b=>(v.front a b).mono h,λa b=>(v.cM a b).mono h,λp q a b=>(v.jV p q a b).mono h⟩
theorem Cc.mono{P:List b2}{d:ev}{n:Nat}(v:Cc P E d n):Cc P y d n:=by
 cases d with
 |c5 a id p=>exact⟨v.1.mono h,v.2.1.mono h,v.2.2⟩
 |cancel ids=>exact⟨v.1,λa b=>(v.2 a b).mono h⟩
 |leave due=>exact⟨v.1,v.2.1,λa b=>(v.2.2 a b).mono h⟩
 |push l w=>exact⟨v.1,v.2.1,λa b=>(v.2.2 a b).mono h⟩
 |l9 a=>exact⟨v.1.mono h,nb v.2.1 h.a,v.2.2⟩
theorem cV.mono{C:bt}{P:List b2}:∀{k:K},cV C P E k->cV C P y k
 |.nil,_=>trivial|.polled,_=>trivial|.found,_=>trivial|.oZ,_=>trivial|.mb,_=>trivial
 |.run _,v=>cG.mono h v|.jk _,v=>cG.mono h v|.on _,v=>cG.mono h v|.again _,v=>cG.mono h v|.settled _,v=>cG.mono h v|.ov _,v=>cG.mono h v
 |.next _ _,v=>⟨v.1.mono h,v.2⟩|.nr _ _,v=>⟨v.1.mono h,v.2⟩
 |.ended _ _ _ _,v=>tM
 |.mc _ _,v=>tM
 |.gv _ _ _ _,v=>BG
 |.told _ _ _,v=>BG
 |.lh _ _,v=>tM
 |.me _ _ _ _,v=>⟨v.1.mono h,v.2.1,v.2.2.1,cV.mono v.2.2.2.1,v.2.2.2.2⟩
 |.asked _ _ _ _,v=>BG
 |.watched _ _ _,v=>BG
 |.gone _ _ _,v=>BG
 |.mK _ _ _,v=>BG
 |.alone _ _,v=>tM
 |.mf _ _ _,v=>⟨v.1.mono h,v.2.1.mono h,v.2.2.1,cV.mono v.2.2.2.1,v.2.2.2.2⟩
 |.closed _ _,v=>tM
 |.kW _ _,v=>tM
 |.shut _ _,v=>tM
 |.nS _ _,v=>tM
 |.who _ _,v=>tM
 |.parent _ _,v=>tM
 |.each _ _ _ _,v=>⟨v.1.mono h,v.2.1,cV.mono v.2.2.1,v.2.2.2⟩
theorem rM.mono{o:bU}(v:rM E o):rM y o:=by cases o<;>first|exact v.elim|exact tX.mono h v
theorem qP.mono{r:Bool}{o:bU}(v:qP E r o):qP y r o:=by cases o<;>first|exact v.elim|exact vz.mono h v
theorem vB.mono{C:bt}{j:Nat}{o:bU}{k:K}(v:vB C j E o k):vB C j y o k:=by
 cases k<;>first|exact v|exact⟨v.1,rM.mono h v.2⟩|exact qP.mono h v
end
def gx.le.refl{E:gx}:E.le E:=⟨ei _,ei _,ei _⟩
def io(x:bR):Nat:=3*(x.front.length+x.aside.length)+x.kids.length+x.cM.length+x.watched.length+(x.timers.map (λp=>1+p.2.length)).sum+(x.given.map (λp=>1+p.2.length)).sum
def bM(s:ao):Nat:=s.trace.length+s.dead.length+s.notes.length+s.now+s.ticks+(s.aJ.map io).sum
def dM(r m:List (Int×Int)):Prop:=(kR r->kR m)/\m.length=r.length
structure vC(C:bt)(P:List b2)(s:ao):Prop where
 xC:1<=s.aJ.length
 na:s.aJ.length<=C.aZ
 aJ:∀i x,s.aJ[i]?=some x->c P (bk s) i x
 lets:∀l∈s.lets,tY (bk s) l
 notes:∀n∈s.notes,sT (bk s) n
 tZ:s.az.length=C.a1+C.cB+1
 bc:kR s.bc/\s.bc.length<=s.lets.length
structure sU(C:bt)(P:List b2)(E:gx)(ak:Nat->Nat)(L:List Int)(i:Nat)(t:bW):Prop where
 on:∀o k,t.on=some (o,k)->dQ C E ak i L o/\cV C P E k/\vB C i E o k
 iL:i<C.a1->1<=L.getD (C.bA.cn i+1) 0\/∃o k,t.on=some (o,k)/\S2 o
 lx:0<=t.draw/\t.draw<18446744073709551616
structure p0(C:bt)(n p q:Nat)(s:ao):Prop where
 nl:s.L.getD 0 0=((s.lets.length+p:Nat):Int)
 pu:s.lets.length+p<=n
 dp:(s.aJ.length:Int)=min (s.L.getD 1 0 -q) C.aZ
 mD:(q:Int)+1<=s.L.getD 1 0
 mF:s.L.getD 1 0<=n+1
structure Inv(f:Nat->fU)(C:bt)(P:List b2)(n:Nat)(s:ao):Prop where
 base:vC C P s
 num:p0 C n 0 0 s
 bp:∃ak,eH f C (bk s) ak n s.L s.bs/\∀i t,s.az[i]?=some t->sU C P (bk s) ak s.L i t
structure In(f:Nat->fU)(C:bt)(P:List b2)(n j p q:Nat)(s:ao):Prop where
 base:vC C P s
 num:p0 C n p q s
 jW:∃t,s.az[j]?=some t/\t.on=none
 bp:∃ak,eH f C (bk s) ak n s.L s.bs/\∀i t,s.az[i]?=some t->sU C P (bk s) ak s.L i t
def Good(f:Nat->fU)(C:bt)(P:List b2)(n b5:Nat)(x:Option ao):Prop:=∃aD,x=some aD/\Inv f C P n aD/\bM aD<=b5
def In.inv{f:Nat->fU}{C:bt}{P:List b2}{n j:Nat}{s:ao}(h:In f C P n j 0 0 s):Inv f C P n s:=⟨h.base,h.num,h.bp⟩
structure kV(s aD:ao):Prop where
 L:aD.L=s.L
 bs:aD.bs=s.bs
 aJ:aD.aJ=s.aJ
 lets:aD.lets=s.lets
 notes:aD.notes=s.notes
 az:aD.az=s.az
 bc:dM s.bc aD.bc
section
variable{f:Nat->fU}{C:bt}{P:List b2}{n b5 j p q:Nat}{s aD:ao}
def kV.aY(h:kV s aD):bk aD=bk s:=by simp only[bk,h.aJ,h.lets,h.notes]
def vC.hX(e:kV s aD)(h:vC C P s):vC C P aD:=by
 have E:=e.aY;exact⟨by rw[e.aJ];exact h.xC,by rw[e.aJ];exact h.na,by rw[e.aJ,E];exact h.aJ,by rw[e.lets,E];exact h.lets,by rw[e.notes,E];exact h.notes,by rw[e.az];exact h.tZ,e.bc.1 h.bc.1,by rw[e.bc.2,e.lets];exact h.bc.2⟩
def p0.hX(e:kV s aD)(h:p0 C n p q s):p0 C n p q aD:=⟨by rw[e.L,e.lets];exact h.nl,by rw[e.lets];exact h.pu,by rw[e.L,e.aJ];exact h.dp,by rw[e.L];exact h.mD,by rw[e.L];exact h.mF⟩
def In.hX(e:kV s aD)(h:In f C P n j p q s):In f C P n j p q aD:=
 ⟨h.base.hX e,h.num.hX e,by rw[e.az];exact h.jW,by rw[e.az,e.aY,e.L,e.bs];exact h.bp⟩
def Inv.hX(e:kV s aD)(h:Inv f C P n s):Inv f C P n aD:=
 ⟨h.base.hX e,h.num.hX e,by rw[e.az,e.aY,e.L,e.bs];exact h.bp⟩
def sU.mono{E y:gx}(h:E.le y){ak:Nat->Nat}{L:List Int}{i:Nat}{t:bW}(v:sU C P E ak L i t):sU C P y ak L i t:=
 ⟨λo k e=>⟨(v.on o k e).1.mono h,(v.on o k e).2.1.mono h,(v.on o k e).2.2.mono h⟩,v.iL,v.lx⟩
def In.more(h:In f C P n j p q s)(d:aD.L=s.L)(w:aD.bs=s.bs)(A:aD.az=s.az)(l:(bk s).le (bk aD)){S c:Nat}(b:vC C P aD)(u:p0 C n S c aD):In f C P n j S c aD:=by
 refine⟨b,u,by rw[A];exact h.jW,?_⟩;obtain⟨ak,h1,h2⟩:=h.bp;rw[d,w,A];exact⟨ak,h1.mono l,λi t e=>(h2 i t e).mono l⟩
end
section
variable{f:Nat->fU}{C:bt}{P:List b2}{n b5 j p q:Nat}{s aD:ao}
section
variable(e:bX)(id w:Int){a:Nat}{m:c9}{x y:bR}
def aji(h:bM s<most):tell e s=some {s with trace:=s.trace++[e]}:=by
 unfold tell;rw[bd];unfold bM at h;omega
def av4:kV s QX:=El
def av5:bM QX=bM s+1:=by simp[bM];omega
def p5(h:bM s<most):∃aD,tell e s=some aD/\kV s aD/\bM aD=bM s+1:=⟨_,aji e h,av4 e,av5 e⟩
theorem K2:kV s (move s id w):=⟨rfl,rfl,rfl,rfl,rfl,rfl,λh=>h.F6,e8⟩
theorem S5(a w:Int):kV s (lg s id a w):=by unfold lg;split;exact K2 _ _;exact El
theorem S6(a w:Int):bM (lg s id a w)=bM s:=by unfold lg;split<;>rfl
def kV.refl:kV s s:=El
def kV.trans{f:ao}(a:kV s aD)(b:kV aD f):kV s f:=⟨b.L.trans a.L,b.bs.trans a.bs,b.aJ.trans a.aJ,b.lets.trans a.lets,b.notes.trans a.notes,b.az.trans a.az,λh=>b.bc.1 (a.bc.1 h),b.bc.2.trans a.bc.2⟩
theorem K3{id:Int}(h:dK (bk s) .jp id):∃l,jX s id=some l/\l∈s.lets:=by
 have h1:1<=id:=h.1;have h2:id<=s.lets.length:=h.2;have aN:(id -1).toNat<s.lets.length:=ae;exact⟨s.lets[(id -1).toNat],by unfold jX;rw[bd h1];exact cz aN,vn aN⟩
def lP(h:cG (bk s) a):∃x,dE s a=some x/\s.aJ[a -1]?=some x:=by
 have h1:1<=a:=h.1;have h2:a<=s.aJ.length:=h.2;have aN:a -1<s.aJ.length:=ae;exact⟨s.aJ[a -1],by unfold dE;rw[bd h1];exact cz aN,cz aN⟩
theorem xD{id why:Int}(av:∀l∈s.lets,True)(h:dK (bk s) .jp id)(O:1<=why/\why<=5)(hp:bM s<most):∃aD,kill id why s=some aD/\kV s aD/\bM aD=bM s+2:=by
 obtain⟨l,e,_⟩:=K3 h;unfold kill;refine rI ?_;have aL:s.dead.length<most:=Iv;have R:s.trace.length<most:=Iv;rw[bd ⟨aL,O⟩];unfold tell;rw[bd (show _<most from R)];exact⟨_,rfl,⟨rfl,rfl,rfl,rfl,rfl,rfl,λh=>h.from bJ,Led.yW⟩,by simp[bM];omega⟩
def K4{why:Int}(O:1<=why/\why<=5):∀(l:List Int) {s:ao},(∀x∈l,dK (bk s) .jp x)->bM s+2*l.length<most->∃aD,jz why l s=some aD/\kV s aD/\bM aD=bM s+2*l.length
 |[],s,_,_=>⟨s,rfl,.refl,rfl⟩
 |
  x::l,s,h,hp=>by
  simp only[iE]at hp⊢;obtain⟨s1,ay,m1,gA⟩:=xD pd (h x (.head _)) O (show bM s<most by omega);obtain⟨bP,aV,t,U⟩:=K4 O l (λy ag=>by rw[m1.aY];exact h y (.tail _ ag)) ae;refine⟨bP,?_,m1.trans t,by omega⟩;simp only[jz,ay,bind,Option.bind];exact aV
def S7:∀{l:List bR} {i:Nat} {x y:bR},l[i]?=some x->((l.set i y).map io).sum+io x=(l.map io).sum+io y
 |[],i,x,y,h=>by simp at h
 |a::l,0,x,y,h=>by simp at h;subst h;simp only[List.set_cons_zero,gu,S8];omega
 |a::l,i+1,x,y,h=>by simp at h;have:=S7 (y:=y) h;simp only[List.set_cons_succ,gu,S8];omega
def lQ(h:s.aJ[a -1]?=some x):bM (dd s a y)+io x=bM s+io y:=by
 have:=S7 (y:=y) h;simp only[bM,dd];omega
def lR(h:In f C P n j p q s)(ah:s.aJ[a -1]?=some x)(ag:c P (bk s) (a -1) y):In f C P n j p q (dd s a y):=by
 have av:(s.aJ.set (a -1) y).length=s.aJ.length:=gn;have T:bk (dd s a y)=bk s:=by simp only[bk,dd,av]
 refine h.more (aD:=dd s a y) rfl rfl rfl (by rw[T];exact .refl) ⟨by show 1<=(s.aJ.set _ _).length;rw[av];exact h.base.xC,by show(s.aJ.set _ _).length<=_;rw[av];exact h.base.na,λi w e=>?_,by rw[T];exact h.base.lets,by rw[T];exact h.base.notes,h.base.tZ,h.base.bc⟩ ⟨h.num.nl,h.num.pu,by show((s.aJ.set _ _).length:Int)=_;rw[av];exact h.num.dp,h.num.mD,h.num.mF⟩;rw[T];replace e:(s.aJ.set (a -1) y)[i]?=some w:=e;by_cases ak:a -1=i
 . subst ak
   obtain⟨dV,rfl⟩:=dc.1 e;rw[y0];exact ag
 . rw[qK ak]at e;exact h.base.aJ i w e
def j7:bk (dd s a y)=bk s:=by simp[bk,dd]
def ajj(h:In f C P n j p q s)(bf:sT (bk s) m):In f C P n j p q {s with notes:=s.notes++[m]}:=by
 have l:(bk s).le (bk Jm):=⟨ei _,ei _,by simp⟩;refine h.more (aD:=Jm) rfl rfl rfl l ⟨h.base.xC,h.base.na,λi x e=>(h.base.aJ i x e).mono l,λx ah=>(h.base.lets x ah).mono l,λx ah=>?_,h.base.tZ,h.base.bc⟩ adj;rcases ky.1 ah with ah|ah
 . exact(h.base.notes x ah).mono l
 . simp at ah;subst ah;exact bf.mono l
def S9:(bk s).le (bk Jm):=⟨ei _,ei _,by simp⟩
def ajk:bM Jm=bM s+1:=by simp[bM];omega
def ajl(l:List Int)(x:Int):(oq l x).length<=l.length+1:=by unfold oq;split<;>simp
theorem jA{o:bU}{k:K}(h:In f C P n j 0 0 s)(Y:∀ak,dQ C (bk s) ak j s.L o)(hk:cV C P (bk s) k)(R:vB C j (bk s) o k)(W:bM s<=b5):Good f C P n b5 (ew j s o k):=by
 obtain⟨t,cK,B⟩:=h.jW;have av:j<s.az.length:=(dc.1 cK).1;unfold ew;simp only[cK,bind,Option.bind];rw[bd (by simp[B])];refine adZ ?_;intro ak h1 h2;refine⟨ak,h1,λi u e=>?_⟩;replace e:(s.az.set j {t with on:=some (o,k)})[i]?=some u:=e;by_cases g2:j=i
 . subst g2
   obtain⟨dV,rfl⟩:=dc.1 e;rw[y0];refine⟨λS V y=>?_,λO=>?_,(h2 j t cK).lx⟩
   . cases y;exact⟨Y ak,hk,R⟩
   . rcases(h2 j t cK).iL O with g|⟨S,V,g,_⟩
     . exact .inl g
     . rw[B]at g;cases g
 . rw[qK g2]at e;exact h2 i u e
end
end
section
variable{C:bt}{E:gx}{ak:Nat->Nat}{j:Nat}{L:List Int}
section
variable{id:Int}{a pc:Nat}{r:Bool}{v:Int}
theorem ajm(h:1<=a/\a<=C.aZ)(d4:ji v)(Y:dK E (vw r) v):dQ C E ak j L (.post a ⟨.put r (gU 0 v),0,0⟩):=
 ⟨h.1,h.2,λ_=>⟨⟨AU bJ d4,rfl⟩,rfl⟩,λ_=>xz (λ_=>Y) (.inl bJ)⟩
theorem av6(h:1<=a/\a<=C.aZ)(d4:ji v)(Y:dK E .zK v):dQ C E ak j L (.post a (Fa v)):=⟨h.1,h.2,λ_=>⟨d4,rfl⟩,λ_=>Y⟩
theorem Ta(h:1<=a/\a<=C.aZ)(d4:ji v):dQ C E ak j L (.post a (nR v)):=⟨h.1,h.2,λ_=>⟨d4,rfl⟩,λ_=>trivial⟩
theorem Cd(h:1<=a/\a<=C.aZ)(hp:pc=5\/pc=10\/pc=14):dQ C E ak j L (.post a ⟨.of r (gU pc 0),0,0⟩):=
 ⟨h.1,h.2,λ_=>⟨⟨AU ae bJ,rfl⟩,rfl⟩,λ_=>xz (λe=>by omega) ae⟩
theorem av7(h:1<=a/\a<=C.aZ):dQ C E ak j L (.post a xE):=adk
theorem av8{b:Bool}(h:1<=a/\a<=C.aZ):dQ C E ak j L (.post a (Fb b)):=adk
theorem av9:ji 0:=Hi
theorem ajn(d4:ji v)(Y:dK E .act v):dQ C E ak j L (.fx (wB C.bA (sV C j) v)):=by
 unfold sV;split
 . rename_i h
   exact⟨λ_=>⟨⟨h,M9 bJ d4,rfl,d4⟩,rfl⟩,λ_=>⟨⟨rfl,h,SZ (λ_=>Y) (.inl rfl),eX _,Y⟩,λh=>h.elim⟩⟩
 . exact⟨λ_=>Nc,λ_=>⟨⟨E8 λ_=>Y,rfl,Y⟩,λh=>h.elim⟩⟩
theorem awa(h:j<C.a1):dQ C E ak j L (.fx (Dx j)):=⟨λ_=>⟨⟨rfl,h,rfl⟩,rfl⟩,λ_=>⟨trivial,λh=>h.elim⟩⟩
theorem awb(h:j<C.a1):dQ C E ak j L (.fx (yA j)):=⟨λ_=>⟨⟨h,rfl,h,rfl⟩,rfl⟩,λ_=>⟨trivial,λ_=>h⟩⟩
theorem awc:rM E (.fx (yA j)):=⟨λ_=>trivial,(λe=>by simp[yA]at e)⟩
theorem Tb{x y:Nat}(hp:pc<=4)(ah:1<=x/\x<=C.aZ)(ag:1<=y/\y<=C.aZ)(av:L.length=C.cells):dQ C E ak j L (.hV (nE pc (lF C.bG C.aZ x y))):=by
 have h1:(x -1)*C.aZ+C.aZ<=C.aZ*C.aZ:=by
  have:=pW C.aZ (show x -1+1<=C.aZ by omega);exact HB
 have e:lF C.bG C.aZ x y=C.bG+((x -1)*C.aZ+(y -1)):=by unfold lF;omega
 have aV:C.cells=C.bG+C.aZ*C.aZ+C.aZ*C.e7:=rfl;have bz:C.gS=C.bG+C.aZ*C.aZ:=rfl;refine⟨⟨hp,?_,av9⟩,?_,?_⟩
 . show lF _ _ _ _<_;rw[e,av,aV];omega
 . show _<=lF _ _ _ _;rw[e];omega
 . show lF _ _ _ _<_;rw[e,bz];omega
theorem ajo(h:dK E .jp id):dQ C E ak j L (.eS (r2 id)):=by
 have h1:1<=id:=h.1;have h2:id<=E.hN:=h.2;refine⟨aoA ae,?_⟩;unfold r2;split
 . exact adv
 . exact⟨λ_=>xz (λ_=>(show 1<=id*4096/4096/\id*4096/4096<=E.hN by omega)) (.inl bJ),qA,qA,qA,eX _⟩
theorem awd{d:Int}(h:dK E .jp id):dQ C E ak j L (.eS (r1 id d)):=by
 have h1:1<=id:=h.1;have h2:id<=E.hN:=h.2;refine⟨aoz ae,?_⟩;unfold r1;split
 . exact adv
 . rename_i aL
   exact⟨λ_=>xz (λ_=>(show 1<=(id*4096+d)/4096/\(id*4096+d)/4096<=E.hN by omega)) (.inl bJ),qA,qA,qA,eX _⟩
theorem awe:dQ C E ak j L (.eS uC):=⟨aoB,(λ_=>trivial),qA,qA,qA,eX _⟩
end
end
def cG.act{C:bt}{P:List b2}{s:ao}{a:Nat}(h:cG (bk s) a)(b:vC C P s):1<=a/\a<=C.aZ:=⟨h.1,nb h.2 b.na⟩
def cG.v{s:ao}{a:Nat}(h:cG (bk s) a):dK (bk s) .act (a:Int):=by
 have h1:1<=a:=h.1;have h2:a<=s.aJ.length:=h.2;exact⟨(by omega:(1:Int)<=a),(by show(a:Int)<=s.aJ.length;omega)⟩
def dK.cG{E:gx}{a:Int}(h:dK E .act a):Th.cG E a.toNat/\((a.toNat:Nat):Int)=a:=by
 have h1:1<=a:=h.1;have h2:a<=E.na:=h.2;exact⟨uF,by omega⟩
section
variable{f:Nat->fU}{C:bt}{P:List b2}{n b5 j:Nat}{g:ao->bU->K->Option ao}{m:Nat}
def eb(f:Nat->fU)(C:bt)(P:List b2)(n b5 j m:Nat)(g:ao->bU->K->Option ao):Prop:=
 ∀s k,In f C P n j 0 0 s->cV C P (bk s) k->c6 k->bM s+bx k<=b5->bx k<m->Good f C P n b5 (g s dF k)
def eb.dF(aF:eb f C P n b5 j m g){s:ao}{k:K}(h:In f C P n j 0 0 s)(hk:cV C P (bk s) k)(aL:c6 k)(W:bM s+bx k<=b5)(bf:bx k<m):Good f C P n b5 (g s dF k):=
 aF s k h hk aL W bf
def awf{o:k5}:∀c d,bU.hV o≠.add c d:=λ_ _ e=>by cases e
def awg{o:gC}:∀c d,bU.fx o≠.add c d:=λ_ _ e=>by cases e
def In.amd{s:ao}{p q:Nat}(J:C.ok)(h:In f C P n j p q s){a:Nat}(aW:cG (bk s) a):ji (a:Int):=by
 have h1:=aW.2;have h2:=h.base.na;have aN:=J.hg;have:a<=s.aJ.length:=h1;exact⟨by omega,by omega⟩
def In.aCV{s:ao}{p q:Nat}(aA:n<=bq)(h:In f C P n j p q s){a:Int}(aW:dK (bk s) .jp a):ji a:=by
 have h1:1<=a:=aW.1;have h2:a<=s.lets.length:=aW.2;obtain⟨ak,a6,_⟩:=h.bp;have:=(a6.jH.get 0).2;have:=h.num.nl;exact⟨by omega,by omega⟩
variable(J:C.ok)(aA:b5<1099511627776)(cO:n<=bq)
include J aA cO
section
variable{s:ao}{a:Nat}
theorem K5(aF:eb f C P n b5 j m g){s:ao}{r:bU}{a:Nat}{k:K}(h:In f C P n j 0 0 s)(aW:cG (bk s) a)(aE:∃a p,r=.post a p)(hk:cV C P (bk s) k)(aL:c6 k)(W:bM s+bx k<=b5)(bf:bx k<m):Good f C P n b5 (ot C g j s r a k):=by
 obtain⟨aI,p,rfl⟩:=aE;unfold ot;simp only;split
 . exact jA h (λak=>ajn (h.amd J aW) aW.v) hk (ajh aL awg) ae
 . exact aF.dF h hk aL W bf
theorem ajp(aF:eb f C P n b5 j m g){s:ao}{id:Int}{k:K}(h:In f C P n j 0 0 s)(cx:dK (bk s) .jp id)(hk:cV C P (bk s) k)(aL:c6 k)(av:dD k<=2)(W:bM s+bx k+2<=b5)(bf:bx k<m):Good f C P n b5 (rN C g j s id k):=by
 obtain⟨l,e,b⟩:=K3 cx;have dV:=h.base.lets l b;unfold rN;refine rI ?_;split
 . obtain⟨s1,ay,m1,gA⟩:=xD (why:=3) pd cx bJ (show bM s<most by unfold most;omega)
   simp only[ay];exact aF.dF (h.hX m1) (by rw[m1.aY];exact hk) aL ae bf
 . rename_i bh
   have h1:=dV.to.1;have h2:l.to<=s.aJ.length:=dV.to.2;have aN:=h.base.na;rw[bd ⟨by omega,by omega⟩];have c:dK (bk s) .act l.to:=⟨(by omega:(1:Int)<=l.to),h2⟩;exact jA h (λak=>ajm (r:=false) uF (h.aCV cO cx) cx) ⟨cx,c,hk,aL,av⟩ ⟨_,_,rfl⟩ ae
theorem Tc{l:cW}{k:K}(h:In f C P n j 0 0 s)(dV:tY (bk s) l)(hk:cV C P (bk s) k)(aL:c6 k)(av:dD k<=2)(W:bM s<=b5):Good f C P n b5 (Ce j s l k):=
 jA h (λak=>⟨.inl rfl,rfl⟩) ⟨dV,hk,aL,av⟩ rfl W
theorem Cf{x:c9}{k:K}(h:In f C P n j 0 0 s)(aW:cG (bk s) a)(ah:sT (bk s) x)(hk:cV C P (bk s) k)(aL:c6 k)(av:dD k<=2)(W:bM s+1<=b5):Good f C P n b5 (qQ C j s a x k):=by
 unfold qQ;have b:s.notes.length<=bM s:=by unfold bM;omega
 have aM:s.notes.length<most:=oP;rw[bd ⟨aM,aW.act h.base⟩];have c:s.notes.length<1099511627776:=ae;refine jA (ajj h ah) (λak=>ajm (r:=true) (aW.act h.base) uF ?_) ⟨aW.mono S9,hk.mono S9,aL,av⟩ ⟨_,_,rfl⟩ (by rw[ajk];exact W);exact⟨by omega,by show(s.notes.length:Int)<((s.notes++[x]).length:Nat);rw[eL];simp;omega⟩
theorem ajq{x y:Nat}{k:K}(h:In f C P n j 0 0 s)(ah:cG (bk s) x)(ag:cG (bk s) y)(hk:cV C P (bk s) k)(aL:c6 k)(av:dD k<=2)(W:bM s<=b5):Good f C P n b5 (ua C j s x y k):=by
 unfold ua;have h1:=ah.act h.base;have h2:=ag.act h.base;rw[bd ⟨h1.1,h1.2,h2.1,h2.2⟩];obtain⟨fF,a6,_⟩:=h.bp;exact jA h (λak=>Tb bJ h1 h2 a6.len) ⟨ah,ag,hk,aL,av⟩ ⟨_,rfl⟩ W
theorem awh{id:Int}{e:fv}{k:K}(h:In f C P n j 0 0 s)(aW:cG (bk s) a)(cx:dK (bk s) .jp id)(hk:cV C P (bk s) k)(aL:c6 k)(av:dD k<=2)(W:bM s<=b5):Good f C P n b5 (K6 j s a id e k):=
 jA h (λak=>awd cx) ⟨cx,aW,hk,aL,av⟩ ⟨_,rfl⟩ W
theorem ajr(h:In f C P n j 0 0 s)(aW:cG (bk s) a)(W:bM s<=b5):Good f C P n b5 (vD j s a):=by
 obtain⟨x,e,ex⟩:=lP aW;unfold vD;refine rI ?_;split
 . exact⟨s,rfl,h.inv,W⟩
 . exact jA h (λak=>av8 (aW.act h.base)) aW ⟨_,_,rfl⟩ W
theorem ajs(h:In f C P n j 0 0 s)(aW:cG (bk s) a)(W:bM s<=b5):Good f C P n b5 (Cg j s a):=
 jA h (λak=>Cd (aW.act h.base) (.inl rfl)) aW ⟨λ_=>⟨_,rfl,rfl⟩,(λe=>by simp[Ch]at e)⟩ W
theorem awi{who:Nat}{k:K}(h:In f C P n j 0 0 s)(aW:cG (bk s) a)(O:cG (bk s) who)(hk:cV C P (bk s) k)(aL:c6 k)(av:dD k<=2)(W:bM s+1<=b5):Good f C P n b5 (xF C j s a who k):=by
 obtain⟨x,e,ex⟩:=lP aW;unfold xF;refine rI ?_;have h1:=O.act h.base;have h2:=aW.act h.base;rw[bd h1];have B:=h.base.aJ _ _ ex;have q:=lR h ex (y:={x with watched:=oq x.watched who}) ⟨B.id,B.par,B.kind,B.slots,B.lf,B.kids,B.aside,B.front,B.cM,B.jV⟩;have hp:=lQ (y:={x with watched:=oq x.watched who}) ex;have:=ajl x.watched who;obtain⟨fF,a6,_⟩:=q.bp;exact jA q (λak=>Tb bJ h2 h1 a6.len) ⟨by rw[j7];exact aW,by rw[j7];exact O,by rw[j7];exact hk,aL,av⟩ (λ_ _ e=>by cases e) Iw
end
end
end Go.L.Th
