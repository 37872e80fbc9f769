import Derived.Test.YtnnhpnccfnghdaaGreatK8
set_option linter.all false
set_option maxHeartbeats 8000000
namespace Go.L.Th
open Go.L Go.L.Lx Go.L.Pg Go.L.Ring Go.L.dr Go.L.dX Go.L.Whl Go.L.dB Go.L.Led
abbrev vF(r:Bool):qX:=if r then .zK else .ju
structure jh(f:Nat->gl)(C:bK)(len:Nat):Prop where
 K5:∀i c,f i=.rS c->f (i+1)=.val c
 ej:f 0=.jk
 c1:f 1=.jk
 K6:∀w,w<C.bc->f (C.bA.b+w)=.none
 gate:nT f C.bA.dZ C.aZ .act len
 ie:∀w,w<C.bc->xJ f (C.bA.cm w) C.ez w len
 now:f C.dC.b=.none
 eY:nT f (C.dC.b+1) C.iO .ask len
 hZ:∀i,C.bG<=i->i<C.gR->f i=.none
 st:∀a,1<=a->a<=C.aZ->f (C.box a).b=.none/\f ((C.box a).b+1)=.none
 box:∀a r,1<=a->a<=C.aZ->nT f ((C.box a).eO r) ((C.box a).fa r) (vF r) len
section
variable{f:Nat->gl}{C:bK}{E y:gB}{q:nS}{L Z:List Int}
def K7{b n:Nat}{o:hN}(a8:∀w,w<n->f (b+w)=.none)(O:o.w<n):gX f E q L (qy b n L o):=by
 unfold qy;split
 . exact .same
 . have h:=a8 _ O
   unfold wI;split
   . exact .put h trivial
   . exact .put h trivial
   . exact .iff (λ_=>.put h trivial) zn
   . exact .same
def E6(j:Nat):Src->Prop
 |.pop w=>w=j
 |_=>True
def sV(C:bK)(E:gB)(al:Nat->Nat)(j:Nat)(L:List Int):tA->Prop
 |.push w o v=>w=j/\w<C.bc/\ub E (C.bA.cm w) C.ez (al w) L o/\o.pc<=3/\dI E .act v
 |.enter o v=>sU E C.bA.dZ C.aZ L o/\o.eb=false/\dI E .act v
 |.ie w o l=>w<C.bc/\ub E (C.bA.cm w) C.ez (al w) L o/\4<=o.pc/\(o.pc<=9->w=j)/\∀s∈l,E6 j s
 |.mT o l=>sU E C.bA.dZ C.aZ L o/\o.eb=true/\∀s∈l,E6 j s
 |.lv w o=>sU E C.bA.dZ C.aZ L o/\o.eb=true
 |.up w v o=>dI E .act v
 |_=>True
def w8:tA->Prop
 |.ie _ _ _=>True
 |.mT _ _=>True
 |.rz _ _=>True
 |.lv _ _=>True
 |.up _ _ _=>True
 |_=>False
def ud(E:gB)(c:gD):Prop:=(c.out=0->w8 c.ph)/\(c.out=1->dI E .act c.val)
def sW(c:gD):Prop:=c.out=0/\∃w o l,c.ph=.ie w o l/\E5 o
section
variable{B:k2}{v:Int}{al:Nat->Nat}{j:Nat}{c:gD}
theorem sV.mono(l:E.le y){al:Nat->Nat}{j:Nat}{p:tA}(h:sV C E al j L p):sV C y al j L p:=by
 cases p with
 |push w o v=>exact⟨h.1,h.2.1,h.2.2.1.mono l,h.2.2.2.1,h.2.2.2.2.mono l⟩
 |enter o v=>exact⟨h.1.mono l,h.2.1,h.2.2.mono l⟩
 |ie w o s=>exact⟨h.1,h.2.1.mono l,h.2.2⟩
 |mT o s=>exact⟨h.1.mono l,h.2⟩
 |lv w o=>exact⟨h.1.mono l,h.2⟩
 |up w v o=>exact dI.mono l (show dI E .act v from h)
 |_=>trivial
theorem ud.mono(l:E.le y){c:gD}(h:ud E c):ud y c:=⟨h.1,λe=>(h.2 e).mono l⟩
theorem sV.stay(Y:jh f C L.length)(wr:gX f E q L Z){al fK:Nat->Nat}(co:∀w,al w<=fK w){j:Nat}(bo:q≠.own j){p:tA}(h:sV C E al j L p):sV C E fK j Z p:=by
 cases p with
 |push w o v=>obtain⟨rfl,h2,aH,bm⟩:=h;exact⟨rfl,h2,aH.stay (Y.ie w h2) wr (λ_=>bo) (co w),bm⟩
 |enter o v=>exact⟨h.1.stay Y.gate wr,h.2⟩
 |ie w o l=>exact⟨h.1,h.2.1.stay (Y.ie w h.1) wr (λa=>by rw[h.2.2.2.1 a];exact bo) (co w),h.2.2⟩
 |mT o l=>exact⟨h.1.stay Y.gate wr,h.2⟩
 |lv w o=>exact⟨h.1.stay Y.gate wr,h.2⟩
 |up w v o=>exact h
 |_=>trivial
def vG(C:bK)(E:gB)(al:Nat->Nat)(L:List Int):Prop:=∀w,w<C.bc->vE E (C.bA.cm w) C.ez (al w) L
theorem vG.stay(Y:jh f C L.length)(wr:gX f E .no L Z){al:Nat->Nat}(h:vG C E al L):vG C E al Z:=λw O=>(h w O).stay (Y.ie w O) wr fW rfl
theorem E7{b n:Nat}{eb:Bool}{v:Int}(h:eb=false->dI E .act v):sU E b n L (k4 eb v):=λ_=>
 ⟨h,QD,QD,QD⟩
theorem Sy(J:j<C.bc){l:List Src}(h:∀s∈l,E6 j s)(h2:∀s∈l,AS C.bA s):((nz l).out=0->sV C E al j L (nz l).ph)/\ud E (nz l):=by
 cases l with
 |nil=>exact⟨BO,BO,BO⟩
 |
  cons s l=>
  have h1:=h s (.head _);have aH:=h2 s (.head _);have aw:∀s∈l,E6 j s:=λx ag=>h x (.tail _ ag);cases s with
  |pop w=>exact⟨λ_=>⟨aH,Sx fW (.inr (.inl rfl)),(show 4<=4 by decide),λ_=>h1,aw⟩,λ_=>trivial,BO⟩
  |take=>exact⟨λ_=>⟨E7 fW,rfl,aw⟩,λ_=>trivial,BO⟩
  |mg w=>exact⟨λ_=>⟨aH,Sx fW (.inr (.inr rfl)),(show 4<=10 by decide),(λe=>by simp[mS]at e),aw⟩,λ_=>trivial,BO⟩
def Sz(C:bK)(j:Nat)(L:List Int)(c:gD):Prop:=sW c\/1<=L.getD (C.bA.cm j+1) 0
structure aiJ(f:Nat->gl)(C:bK)(E:gB)(al:Nat->Nat)(j:Nat)(L Z:List Int)(c aK:gD):Prop where
 wr:gX f E (.own j) L Z
 ex:∃fK:Nat->Nat,(∀w,al w<=fK w/\fK w<=al w+1)/\vG C E fK Z/\(aK.out=0->sV C E fK j Z aK.ph)
 eb:ud E c->ud E aK
 iL:j<C.bc->Sz C j L c->Sz C j Z aK
theorem zM{aK:gD}(Y:jh f C L.length)(z:vG C E al L)(wr:gX f E .no L Z)(V:aK.out=0->sV C E al j Z aK.ph)(eb:ud E c->ud E aK)(a:¬sW c):aiJ f C E al j L Z c aK:=
 ⟨wr.any,⟨al,λw=>⟨eh _,il _⟩,z.stay Y wr,V⟩,eb,λJ az=>.inr (by rw[wr.iL (Y.ie j J).iL (by simp)];exact az.resolve_left a)⟩
theorem av1(Y:jh f C L.length)(aS:0<C.bc)(rc:sT f E L)(K:iv L)(z:vG C E al L)(az:∀w,al w<4611686018427387904)(aJ:c.out=0)(a2:wN C.bA c)(V:sV C E al j L c.ph)(H:w8 c.ph->j<C.bc)(y:j<C.bc->Sz C j L c):
 aiJ f C E al j L (nA C.bA L c) c (lx C.bA L c):=by
 obtain⟨ph,out,val⟩:=c;obtain rfl:out=0:=aJ;obtain⟨d2,I⟩:=a2 rfl;have aB:nA C.bA L ⟨ph,0,val⟩=(hX C.bA L ⟨ph,0,val⟩).1:=rfl;have aU:lx C.bA L ⟨ph,0,val⟩=(hX C.bA L ⟨ph,0,val⟩).2:=rfl;rw[aB,aU];refine Wt ?_;intro mU u;cases ph with
 |
  push w o v=>
  obtain⟨rfl,O,aQ,m,g⟩:=V;obtain⟨_,bM,T,_⟩:=d2;have D:=Y.ie w O;have a:¬sW ⟨.push w o v,0,val⟩:=fun⟨_,_,_,_,e,_⟩=>by cases e
  obtain⟨W,⟨q,di,M,cE,d8⟩,_,f9,Z⟩:=aiI (f:=f) D K (z w O) (az w) bM T (aQ T) (λ_=>.inr ((y O).resolve_left a));rw[bg ae]at W;have co:∀x,al x<=(if x=w then q else al x)/\(if x=w then q else al x)<=al x+1:=λx=>by split;(rename_i e;subst e;exact⟨di,M⟩);exact⟨eh _,il _⟩
  have t:vG C E (λx=>if x=w then q else al x) (mf (C.bA.cm w) C.ez L o):=λx ag=>by
   by_cases e:x=w
   . subst e;simp only[fk];exact cE
   . simp only[a6 e];exact(z x ag).stay (Y.ie x ag) W (λh=>by cases h;exact e rfl) rfl
  have A:1<=(mf (C.bA.cm w) C.ez L o).getD (C.bA.cm w+1) 0:=by
   rcases Z ae with h|h
   . have:=(K4 (f9 h.1)).1.2 m;have h1:=h.2.1;omega
   . exact h
  simp only[hX];split
  . split
    . exact⟨W,⟨_,co,t,λ_=>⟨E7 λ_=>g,rfl,g⟩⟩,λh=>absurd (h.1 rfl) By,λ_ _=>.inr A⟩
    . exact⟨W,⟨_,co,t,λ_=>trivial⟩,λh=>absurd (h.1 rfl) By,λ_ _=>.inr A⟩
  . rename_i U
    have:=(K4 (f9 (mU U))).1.2 m;refine⟨W,⟨_,co,t,λ_=>⟨rfl,O,by simp only[fk];exact d8,?_,g⟩⟩,λh=>absurd (h.1 rfl) By,λ_ _=>.inr A⟩;exact this
 |
  enter o v=>
  obtain⟨aX,d,g⟩:=V;obtain⟨bM,T,_⟩:=d2;obtain⟨W,cE,_,f9⟩:=Sv (f:=f) (j:=.no) Y.gate rc bM T (aX T);have a:¬sW ⟨.enter o v,0,val⟩:=fun⟨_,_,_,_,e,_⟩=>by cases e
  refine zM Y z W ?_ (λh=>absurd (h.1 rfl) By) a;simp only[hX];split
  . split
    . exact λ_=>⟨E7 λ_=>g,rfl,g⟩
    . exact λ_=>trivial
  . exact λ_=>⟨cE,f9.trans d,g⟩
 |
  ring o=>
  have a:¬sW ⟨.ring o,0,val⟩:=fun⟨_,_,_,_,e,_⟩=>by cases e
  exact zM Y z (K7 Y.K6 d2.2.1) (λ_=>trivial) (λh=>absurd (h.1 rfl) By) a
 |
  ie w o l=>
  have i:=H trivial;obtain⟨O,aQ,m,B,aw⟩:=V;obtain⟨_,bM,T,F⟩:=d2;have D:=Y.ie w O;have em:o.pc<=9->E5 o\/1<=L.getD (C.bA.cm w+1) 0:=λhp=>by
   obtain rfl:=B hp;rcases y i with h|h
   . obtain⟨_,X,S,g9,e,h⟩:=h;cases e;exact .inl h
   . exact .inr h
  obtain⟨W,⟨q,di,M,cE,d8⟩,s,f9,Z⟩:=aiI (f:=f) D K (z w O) (az w) bM T (aQ T) em;have r:uc o.pc≠0:=by unfold uc;rw[a6 ae];split<;>decide
  have co:∀x,al x<=(if x=w then q else al x)/\(if x=w then q else al x)<=al x+1:=λx=>by split;(rename_i e;subst e;exact⟨di,M⟩);exact⟨eh _,il _⟩
  have g7:∀x,x≠w->(if o.pc<=9 then nS.own w else nS.no)≠.own x:=λx e h=>by
   by_cases p:o.pc<=9
   . rw[bg p]at h;cases h;exact e rfl
   . rw[a6 p]at h;cases h
  have t:vG C E (λx=>if x=w then q else al x) (mf (C.bA.cm w) C.ez L o):=λx ag=>by
   by_cases e:x=w
   . subst e;simp only[fk];exact cE
   . simp only[a6 e];exact(z x ag).stay (Y.ie x ag) W (g7 x e) rfl
  have wr:gX f E (.own j) L (mf (C.bA.cm w) C.ez L o):=by
   by_cases p:o.pc<=9
   . rw[bg p,B p]at W;rw[<-B p]at W⊢;exact W
   . rw[a6 p]at W;exact W.any
  -- the bottom of the thread's own deque
  have A:E5 (jc (C.bA.cm w) C.ez L o)/\(jc (C.bA.cm w) C.ez L o).over=false\/1<=(mf (C.bA.cm w) C.ez L o).getD (C.bA.cm j+1) 0:=by
   by_cases p:o.pc<=9
   . obtain rfl:=B p
     rcases Z p with h|h
     . exact .inl ⟨h,by simp[ic.over,h.1]⟩
     . exact .inr h
   . refine .inr ?_
     rw[a6 p]at W;rw[W.iL (Y.ie j i).iL fW];rcases y i with h|h
     . obtain⟨_,X,S,g9,e,h⟩:=h;cases e;exact absurd h.2.2 p
     . exact h
  simp only[hX];split
  . rename_i U
    have J:=A.resolve_left (λh=>Bool.false_ne_true (h.2.symm.trans U));split
    . rename_i h1
      refine⟨wr,⟨_,co,t,(λe=>by simp at e)⟩,λ_=>⟨(λe=>by simp at e),λ_=>?_⟩,λ_ _=>.inr J⟩;show dI E .act (jc (C.bA.cm w) C.ez L o).value;unfold ic.value;rw[bg (show(jc (C.bA.cm w) C.ez L o).out=1 from h1)];exact s h1 r
    . have:=Sy (E:=E) (L:=mf (C.bA.cm w) C.ez L o) (al:=λx=>if x=w then q else al x) i aw F
      exact⟨wr,⟨_,co,t,this.1⟩,λ_=>this.2,λ_ _=>.inr J⟩
  . rename_i U
    have a2:=f9 (mU U);have bm:4<=(jc (C.bA.cm w) C.ez L o).pc:=by
     have:=(K4 a2).1;omega
    have p:(jc (C.bA.cm w) C.ez L o).pc<=9->w=j:=λh=>B ((K4 a2).2.1 h);refine⟨wr,⟨_,co,t,λ_=>⟨O,by simp only[fk];exact d8,bm,p,aw⟩⟩,λ_=>⟨λ_=>trivial,(λe=>by simp at e)⟩,λ_ _=>?_⟩;rcases A with h|h
    . exact .inl ⟨rfl,w,_,l,rfl,h.1⟩
    . exact .inr h
 |
  mT o l=>
  have i:=H trivial;obtain⟨aX,d,aw⟩:=V;obtain⟨bM,T,F⟩:=d2;obtain⟨W,cE,d8,f9⟩:=Sv (f:=f) (j:=.no) Y.gate rc bM T (aX T);have a:¬sW ⟨.mT o l,0,val⟩:=fun⟨_,_,_,_,e,_⟩=>by cases e
  have R:=Sy (E:=E) (L:=n9 C.bA.dZ C.aZ L o) (al:=al) i aw F;refine zM Y z W ?_ ?_ a
  . simp only[hX]
    split
    . split
      . exact λe=>by simp at e
      . exact R.1
    . exact λ_=>⟨cE,f9.trans d,aw⟩
  . intro _
    simp only[hX];split
    . split
      . rename_i h1
        refine⟨(λe=>by simp at e),λ_=>?_⟩;show dI E .act (ix C.bA.dZ C.aZ L o).value;unfold hI.value;rw[bg ⟨h1,by rw[f9];exact d⟩];exact d8 h1 d
      . exact R.2
    . exact⟨λ_=>trivial,(λe=>by simp at e)⟩
 |
  rz w o=>
  have a:¬sW ⟨.rz w o,0,val⟩:=fun⟨_,_,_,_,e,_⟩=>by cases e
  exact zM Y z (K7 Y.K6 d2.2.2.1) (λ_=>⟨E7 fW,rfl⟩) (λ_=>⟨λ_=>trivial,(λe=>by simp[hX]at e)⟩) a
 |
  lv w o=>
  obtain⟨aX,d⟩:=V;obtain⟨O,bM,T⟩:=d2;obtain⟨W,cE,d8,f9⟩:=Sv (f:=f) (j:=.no) Y.gate rc bM T (aX T);have a:¬sW ⟨.lv w o,0,val⟩:=fun⟨_,_,_,_,e,_⟩=>by cases e
  have N:(ix C.bA.dZ C.aZ L o).out=1->dI E .act (ix C.bA.dZ C.aZ L o).value:=λh1=>by
   unfold hI.value;rw[bg ⟨h1,by rw[f9];exact d⟩];exact d8 h1 d
  refine zM Y z W ?_ ?_ a
  . simp only[hX]
    split
    . split
      . rename_i h1;exact λ_=>N h1
      . exact λe=>by simp at e
    . exact λ_=>⟨cE,f9.trans d⟩
  . intro _
    simp only[hX];split
    . split
      . exact⟨λ_=>trivial,(λe=>by simp at e)⟩
      . exact⟨(λe=>by simp at e),(λe=>by simp at e)⟩
    . exact⟨λ_=>trivial,(λe=>by simp at e)⟩
 |
  up w v o=>
  have a:¬sW ⟨.up w v o,0,val⟩:=fun⟨_,_,_,_,e,_⟩=>by cases e
  exact zM Y z (K7 Y.K6 d2.2.2.1) (λe=>by simp[hX]at e) (λ_=>⟨(λe=>by simp[hX]at e),λ_=>V⟩) a
 |
  pg o=>
  have a:¬sW ⟨.pg o,0,val⟩:=fun⟨_,_,_,_,e,_⟩=>by cases e
  exact zM Y z (K7 Y.K6 d2.2.1) (λ_=>trivial) (λh=>absurd (h.1 rfl) By) a
def vH(B:js)(E:gB)(L:List Int):vz->Prop
 |.put M o=>lF (dI E (vF M)) (B.eO M) (B.fa M) L o
 |.ask v=>dI E .zK v
 |.of r o=>lF (dI E (vF r)) (B.eO r) (B.fa r) L o
 |.look _ r o=>lF (dI E (vF r)) (B.eO r) (B.fa r) L o
 |_=>True
def vI(E:gB)(r:Bool)(p:gA):Prop:=(p.out=0->∃o,p.ph=.of r o/\BN o.pc=1)/\(p.out=1->dI E (vF r) p.val)
theorem vH.mono(l:E.le y){B:js}{p:vz}(h:vH B E L p):vH B y L p:=by
 cases p with
 |put M o=>exact lF.mono l h
 |ask v=>exact dI.mono l (show dI E .zK v from h)
 |of r o=>exact lF.mono l h
 |look _ r o=>exact lF.mono l h
 |_=>trivial
theorem vI.mono(l:E.le y){r:Bool}{p:gA}(h:vI E r p):vI y r p:=⟨h.1,λe=>(h.2 e).mono l⟩
theorem vH.stay{B:js}(D:∀r,nT f (B.eO r) (B.fa r) (vF r) L.length)(wr:gX f E q L Z){p:vz}(h:vH B E L p):vH B E Z p:=by
 cases p with
 |put M o=>exact lF.stay (D M) wr h
 |ask v=>exact h
 |of r o=>exact lF.stay (D r) wr h
 |look _ r o=>exact lF.stay (D r) wr h
 |_=>trivial
theorem av2{B:js}{p:gA}(D:∀r,nT f (B.eO r) (B.fa r) (vF r) L.length)(dY:f B.b=.none)(s1:f (B.b+1)=.none)(rc:sT f E L)(aJ:p.out=0)(hp:sO p)(V:vH B E L p.ph):
 gX f E .no L (qe B L p)/\((oY B L p).out=0->vH B E (qe B L p) (oY B L p).ph)/\∀r,vI E r p->vI E r (oY B L p):=by
 obtain⟨ph,out,val⟩:=p;obtain rfl:out=0:=aJ;obtain⟨d2,_⟩:=hp rfl;have aB:qe B L uO=(iI B L ph).1:=rfl;have aU:oY B L uO=(iI B L ph).2:=rfl;rw[aB,aU];have no:∀{r:Bool} {o:gA},(∀x,ph≠.of r x)->vI E r uO->vI E r o:=λaS h=>by obtain⟨x,e,_⟩:=h.1 rfl;exact absurd e (aS x)
 have a:∀{b n:Nat} {o:fr},¬(dL b n L o).over=true->(dL b n L o).out=0:=λh=>by simpa[fr.over]using h
 have on:∀{b n:Nat} {o:fr},(dL b n L o).over=true->(dL b n L o).out≠0:=λh=>by simpa[fr.over]using h
 cases ph with
 |
  put M o=>
  obtain⟨W,cE,_,_⟩:=E4 (f:=f) (j:=.no) (D M) rc d2.1 d2.2 (V d2.2);simp only[iI];refine⟨W,?_,λr=>no vn⟩;split
  . rename_i U
    split
    . exact λ_=>trivial
    . exact λe=>absurd e (on U)
  . exact λ_=>cE
 |
  qU M=>
  simp only[iI];refine⟨.same,?_,λr=>no vn⟩;split<;>exact λ_=>trivial
 |
  swp M s=>
  simp only[iI];refine⟨?_,?_,λr=>no vn⟩
  . split
    . exact .put dY trivial
    . exact .same
  . split<;>exact λ_=>trivial
 |
  ask v=>
  simp only[iI];refine⟨?_,?_,λr=>no vn⟩
  . split
    . exact .put s1 trivial
    . exact .same
  . split
    . exact λ_=>xI (λ_=>V) (.inl bN)
    . exact λe=>by simp at e
 |set st=>exact⟨.put dY trivial,(λe=>by simp[iI]at e),λr=>no vn⟩
 |
  of r o=>
  obtain⟨W,cE,d8,f9⟩:=E4 (f:=f) (j:=.no) (D r) rc d2.1 d2.2 (V d2.2);simp only[iI];refine⟨W,?_,λS h=>?_⟩
  . split
    . rename_i U;exact λe=>absurd e (on U)
    . exact λ_=>cE
  . obtain⟨x,e,ag⟩:=h.1 rfl
    cases e;split
    . rename_i U
      refine⟨λe=>absurd e (on U),λe=>?_⟩;replace e:(dL (B.eO r) (B.fa r) L o).out=1:=e;show dI E (vF r) (dL (B.eO r) (B.fa r) L o).value;unfold fr.value;rw[bg e];exact d8 e ag
    . rename_i U
      exact⟨λ_=>⟨_,rfl,(f9 (a U)).trans ag⟩,(λe=>by simp at e)⟩
 |gone=>exact⟨.same,λ_=>trivial,λr=>no vn⟩
 |xC held=>exact⟨.put dY trivial,λ_=>xI fW (.inr (.inr bN)),λr=>no vn⟩
 |
  look held r o=>
  obtain⟨W,cE,d8,f9⟩:=E4 (f:=f) (j:=.no) (D r) rc d2.1 d2.2.1 (V d2.2.1);simp only[iI];refine⟨W,?_,λr=>no vn⟩;split
  . split
    . exact λ_=>trivial
    . split
      . exact λ_=>xI fW (.inr (.inr bN))
      . exact λe=>by simp at e
  . exact λ_=>cE
 |
  more held=>
  simp only[iI];refine⟨?_,?_,λr=>no vn⟩
  . split
    . exact .put dY trivial
    . exact .same
  . split<;>exact λ_=>trivial
def E8(B:k2)(E:gB)(L:List Int):wv->Prop
 |.put o=>lF (dI E .ask) (B.b+1) B.n L o
 |.take _ o=>lF (dI E .ask) (B.b+1) B.n L o/\BN o.pc=1
 |_=>True
def xK(E:gB)(w:gd):Prop:=∀t∈w.T,dI E .ju t.id
structure vJ(B:k2)(E:gB)(L:List Int)(c:hy):Prop where
 ph:c.out=0->E8 B E L c.ph
 due:∀x∈c.due,dI E .ju x
 cut:∀x∈c.cut,dI E .ju x
 ref:∀x∈c.ref,dI E .ju x
 dl:c.due.length<=64
theorem xK.mono(l:E.le y){w:gd}(h:xK E w):xK y w:=λt R=>(h t R).mono l
theorem E8.mono(l:E.le y){B:k2}{p:wv}(h:E8 B E L p):E8 B y L p:=by
 cases p with
 |put o=>exact lF.mono l h
 |take k o=>exact⟨h.1.mono l,h.2⟩
 |_=>trivial
theorem vJ.mono(l:E.le y){B:k2}{c:hy}(h:vJ B E L c):vJ B y L c:=⟨λe=>(h.ph e).mono l,λx ag=>(h.due x ag).mono l,λx ag=>(h.cut x ag).mono l,λx ag=>(h.ref x ag).mono l,h.dl⟩
theorem vJ.stay{B:k2}(D:nT f (B.b+1) B.n .ask L.length)(wr:gX f E q L Z){c:hy}(h:vJ B E L c):vJ B E Z c:=by
 refine⟨λe=>?_,h.due,h.cut,h.ref,h.dl⟩;have g:=h.ph e;revert g;cases c.ph with
 |put o=>exact λg=>lF.stay D wr g
 |take k o=>exact λg=>⟨lF.stay D wr g.1,g.2⟩
 |_=>exact λ_=>trivial
theorem av3{w:gd}(V:dI E .ask v)(h:xK E w):xK E (lO v w):=by
 unfold lO;split
 . exact λt R=>h t (oO.1 R).1
 . unfold rp;split
   . intro t R
     rcases kP.1 R with R|R
     . exact h t R
     . simp at R;subst R;exact V
   . exact h
theorem aiK(left:Nat)(w:gd):E8 B E L (pV left w):=by
 unfold pV;split
 . trivial
 . exact⟨xI fW (.inr (.inl rfl)),rfl⟩
theorem av4{w:gd}{c:hy}(D:nT f (B.b+1) B.n .ask L.length)(dY:f B.b=.none)(rc:sT f E L)(b7:j5 w)(O:xK E w)(aJ:c.out=0)(a2:tw c)(V:vJ B E L c):
 gX f E .no L (j4 B L w c).1/\xK E (j4 B L w c).2.1/\vJ B E (j4 B L w c).1 (j4 B L w c).2.2:=by
 obtain⟨ph,out,val,due,cut,ref⟩:=c;obtain rfl:out=0:=aJ;obtain⟨d2,_,aQ⟩:=a2.run rfl;obtain rfl:due=[]:=aQ;have aB:j4 B L w ⟨ph,0,val,[],cut,ref⟩=n4 B L w ⟨ph,0,val,[],cut,ref⟩:=rfl;rw[aB];have h1:=V.ph rfl;have h2:=V.cut;have aH:=V.ref;have no:∀x∈([]:List Int),dI E .ju x:=λx ag=>by cases ag
 cases ph with
 |
  put o=>
  obtain⟨W,cE,_,_⟩:=E4 (f:=f) (j:=.no) D rc d2.1 d2.2.1 (h1 d2.2.1);simp only[n4];exact⟨W,O,⟨λ_=>cE,no,h2,aH,fc _⟩⟩
 |now=>exact⟨.same,O,⟨(λe=>by simp[n4]at e),no,h2,aH,fc _⟩⟩
 |
  take left o=>
  obtain⟨W,cE,d8,f9⟩:=E4 (f:=f) (j:=.no) D rc d2.1 d2.2.1 (h1.1 d2.2.1);simp only[n4];split
  . split
    . rename_i d
      have s:dI E .ask (dL (B.b+1) B.n L o).value:=by unfold fr.value;rw[bg d];exact d8 d h1.2
      refine⟨W,av3 s O,⟨λ_=>aiK _ _,no,λx ag=>?_,λx ag=>?_,fc _⟩⟩
      . rcases kP.1 ag with ag|ag
        . exact h2 x ag
        . unfold rq at ag;split at ag
          . simp at ag;subst ag;exact s
          . cases ag
      . rcases kP.1 ag with ag|ag
        . exact aH x ag
        . unfold rr at ag;split at ag
          . simp at ag;subst ag;exact s
          . cases ag
    . exact⟨W,O,⟨λ_=>trivial,no,h2,aH,fc _⟩⟩
  . rename_i U
    have a:(dL (B.b+1) B.n L o).out=0:=qv;exact⟨W,O,⟨λ_=>⟨cE,(f9 a).trans h1.2⟩,no,h2,aH,fc _⟩⟩
 |
  tick v=>
  simp only[n4];refine⟨.put dY trivial,λt R=>O t (oO.1 R).1,⟨(λe=>by simp at e),λx ag=>?_,h2,aH,?_⟩⟩
  . obtain⟨t,R,rfl⟩:=jS.1 ag;exact O t (oO.1 R).1
  . rw[kG];exact mW (qG _ _) b7.len
theorem av5{o:k5}(a2:f o.cell=.none):gX f E .no L (sj L o):=by
 unfold sj;split
 . exact .same
 . unfold yD;split<;>first|exact .same|exact .iff (λ_=>.put a2 trivial) zn
end
end
abbrev br:Nat:=1000000000000
structure eN(f:Nat->gl)(C:bK)(E:gB)(al:Nat->Nat)(n:Nat)(L:List Int)(w:gd):Prop where
 len:L.length=C.cells
 jL:iv L
 rc:sT f E L
 hJ:vG C E al L
 az:∀w,al w<=n
 qY:xK E w
 ws:wD (br -n) w
def dT(C:bK)(E:gB)(al:Nat->Nat)(j:Nat)(L:List Int):bY->Prop
 |.load c=>c=1
 |.add c d=>(c=0\/c=1)/\d=1
 |.gm v=>jn v
 |.post a p=>1<=a/\a<=C.aZ/\sO p/\(p.out=0->vH (C.box a) E L p.ph)
 |.hZ o=>wM L o/\C.bG<=o.cell/\o.cell<C.gR
 |.fJ c=>wN C.bA c/\(c.out=0->sV C E al j L c.ph/\(w8 c.ph->j<C.bc))
 |.eY c=>tw c/\vJ C.dC E L c
def SA:bY->Prop
 |.fJ c=>sW c
 |_=>False
def KC(C:bK)(j:Nat)(L:List Int)(o:bY):Prop:=SA o\/1<=L.getD (C.bA.cm j+1) 0
def qZ(E:gB)(r:Bool):bY->Prop
 |.post _ p=>vI E r p
 |_=>False
def rT(E:gB):bY->Prop
 |.fJ c=>ud E c
 |_=>False
section
variable{f:Nat->gl}{C:bK}{E y:gB}{q:nS}{L Z:List Int}
section
variable{al:Nat->Nat}{o:k5}{n j:Nat}{s:ar}
theorem _root_.Go.L.dB.wM.len(h:wM L o)(e:Z.length=L.length):wM Z o:=⟨h.pc,by rw[e];exact h.cell,h.seen⟩
theorem dT.mono(l:E.le y){al:Nat->Nat}{j:Nat}{o:bY}(h:dT C E al j L o):dT C y al j L o:=by
 cases o with
 |post a p=>exact⟨h.1,h.2.1,h.2.2.1,λe=>(h.2.2.2 e).mono l⟩
 |fJ c=>exact⟨h.1,λe=>⟨(h.2 e).1.mono l,(h.2 e).2⟩⟩
 |eY c=>exact⟨h.1,h.2.mono l⟩
 |_=>exact h
theorem gX.len(w:gX f E q L Z):Z.length=L.length:=by
 rcases w with rfl|⟨k,x,rfl,_⟩
 . rfl
 . exact gq
theorem dT.stay(Y:jh f C L.length)(wr:gX f E q L Z){al fK:Nat->Nat}(co:∀w,al w<=fK w){j:Nat}(bo:q≠.own j){o:bY}(h:dT C E al j L o):dT C E fK j Z o:=by
 cases o with
 |post a p=>exact⟨h.1,h.2.1,h.2.2.1,λe=>(h.2.2.2 e).stay (λr=>Y.box a r h.1 h.2.1) wr⟩
 |fJ c=>exact⟨h.1,λe=>⟨(h.2 e).1.stay Y wr co bo,(h.2 e).2⟩⟩
 |eY c=>exact⟨h.1,h.2.stay Y.eY wr⟩
 |hZ o=>exact⟨h.1.len wr.len,h.2⟩
 |_=>exact h
theorem eN.mono(l:E.le y){al:Nat->Nat}{n:Nat}{w:gd}(h:eN f C E al n L w):eN f C y al n L w:=
 ⟨h.len,h.jL,h.rc.mono l,λx ag=>(h.hJ x ag).mono l,h.az,h.qY.mono l,h.ws⟩
theorem _root_.Go.L.dB.wM.go(K:iv L)(h:wM L o):wM (sj L o) (sk L o)/\iv (sj L o)/\(sk L o).cell=o.cell:=by
 have e:(sj L o).length=L.length:=by
  unfold sj;split
  . rfl
  . unfold yD;split<;>(try split)<;>simp
 have l:iv (sj L o):=by
  unfold sj;split
  . exact K
  . unfold yD;split<;>(try split)<;>first|exact K|exact K.set _ _ bN
 have g:=K.get o.cell;refine⟨⟨?_,?_,?_⟩,l,?_⟩
 . have:=h.pc;unfold sk;split
   . exact this
   . unfold wL;split<;>first|exact this|simp
 . rw[e];have:=h.cell;unfold sk;split
   . exact this
   . unfold wL;split<;>exact this
 . have:=h.seen;unfold sk;split
   . exact this
   . unfold wL;split<;>first|exact this|exact g
 . unfold sk;split
   . rfl
   . unfold wL;split<;>rfl
theorem av6{B:fQ}{c:gD}(aJ:c.out=0)(h:¬w8 c.ph):¬w8 (lx B L c).ph:=by
 obtain⟨ph,out,val⟩:=c;obtain rfl:out=0:=aJ;have e:lx B L uO=(hX B L uO).2:=rfl;rw[e];cases ph<;>first|exact absurd trivial h|(simp only[hX];(repeat' split)<;>simp[w8])|simp[hX,w8]
structure zN(f:Nat->gl)(C:bK)(E:gB)(al:Nat->Nat)(n j:Nat)(q:nS)(s:ar)(o:bY)(aY:ar)(S:bY):Prop where
 eq:aY={s with L:=aY.L,bs:=aY.bs}
 wr:gX f E q s.L aY.L
 ex:∃fK:Nat->Nat,(∀w,al w<=fK w)/\eN f C E fK (n+1) aY.L aY.bs/\dT C E fK j aY.L S
 aiL:∀r,qZ E r o->qZ E r S
 aiM:rT E o->rT E S
 iL:j<C.bc->KC C j s.L o->KC C j aY.L S
theorem aiN{o:bY}(Y:jh f C C.cells)(N:C.ok)(aS:n+1<=br)(S:eN f C E al n s.L s.bs)(V:dT C E al j s.L o)(az:j<C.bc->KC C j s.L o)(hH:∀c d,o≠.add c d):
 zN f C E al n j (.own j) s o (acc C s o).1 (acc C s o).2:=by
 have l:jh f C s.L.length:=by rw[S.len];exact Y
 have d6:br -n=(br -(n+1))+1:=ae;have O:=S.ws;rw[d6]at O;have jM:eN f C E al (n+1) s.L s.bs:=⟨S.len,S.jL,S.rc,S.hJ,λw=>mW (S.az w) (il _),S.qY,O.le (il _)⟩;have same:∀Z,gX f E .no s.L Z->iv Z->eN f C E al (n+1) Z s.bs:=λZ wr jL=>
  ⟨by rw[wr.len];exact S.len,jL,wr.rc Y.K5 S.rc,S.hJ.stay l wr,jM.az,S.qY,jM.ws⟩
 cases o with
 |load c=>exact⟨rfl,.same,⟨al,λ_=>eh _,jM,S.jL.get _⟩,λr h=>h.elim,λh=>h.elim,λJ h=>.inr (h.resolve_left (λh=>h))⟩
 |add c d=>exact absurd rfl (hH c d)
 |gm v=>exact⟨rfl,.same,⟨al,λ_=>eh _,jM,V⟩,λr h=>h.elim,λh=>h.elim,λJ h=>.inr (h.resolve_left (λh=>h))⟩
 |
  post a p=>
  obtain⟨h1,h2,aH,bm⟩:=V;simp only[acc];have hu:=aun (B:=C.box a) S.jL aH;by_cases aJ:p.out=0
  . obtain⟨W,cE,d8⟩:=av2 (f:=f) (λr=>l.box a r h1 h2) (Y.st a h1 h2).1 (Y.st a h1 h2).2 S.rc aJ aH (bm aJ)
    exact⟨rfl,W.any,⟨al,λ_=>eh _,same _ W hu.1,h1,h2,hu.2,cE⟩,λr h=>d8 r h,λh=>h.elim,λJ h=>.inr Zx⟩
  . have U:p.over=true:=by simp[gA.over,aJ]
    have aB:qe (C.box a) s.L p=s.L:=by unfold qe;rw[bg U]
    have aU:oY (C.box a) s.L p=p:=by unfold oY;rw[bg U]
    rw[aB,aU];exact⟨rfl,.same,⟨al,λ_=>eh _,jM,h1,h2,aH,bm⟩,λr h=>h,λh=>h.elim,λJ h=>h⟩
 |
  hZ o=>
  obtain⟨h1,h2,aH⟩:=V;simp only[acc];have g:=wM.go S.jL h1;have wr:=av5 (f:=f) (E:=E) (L:=s.L) (o:=o) (Y.hZ _ h2 aH);exact⟨rfl,wr.any,⟨al,λ_=>eh _,same _ wr g.2.1,g.1,by rw[g.2.2];exact h2,by rw[g.2.2];exact aH⟩,λr h=>h.elim,λh=>h.elim,λJ h=>.inr (by rw[wr.iL (l.ie j J).iL (by simp)];exact h.resolve_left (λh=>h))⟩
 |
  fJ c=>
  obtain⟨h1,h2⟩:=V;simp only[acc];by_cases aJ:c.out=0
  . obtain⟨aH,bm⟩:=h2 aJ
    have H:br=1000000000000:=rfl;have d5:∀w,al w<4611686018427387904:=λw=>by have:=S.az w;omega
    have G:=av1 (f:=f) l (show 0<C.bc from N.aG) S.rc S.jL S.hJ d5 aJ h1 aH bm (λJ=>by rcases az J with h|h;exact .inl h;exact .inr h);obtain⟨wr,⟨fK,co,z,D⟩,eb,iL⟩:=G;refine⟨rfl,wr,⟨fK,λw=>(co w).1,⟨by show(nA _ _ _).length=_;rw[an7];exact S.len,an6 S.jL h1,wr.rc Y.K5 S.rc,z,λw=>by have:=(co w).2;have:=S.az w;omega,S.qY,jM.ws⟩,an5 (show 0<C.bA.bT from N.aG) S.jL h1,λe=>⟨D e,?_⟩⟩,λr h=>h.elim,eb,λJ h=>?_⟩
    . intro R
      by_cases i:j<C.bc
      . exact i
      . exfalso
        exact av6 aJ (λh=>i (bm h)) R
    . rcases iL J (by rcases h with h|h;exact .inl h;exact .inr h)with h|h
      . exact .inl h
      . exact .inr h
  . have U:c.over=true:=by simp[gD.over,aJ]
    have aB:nA C.bA s.L c=s.L:=by unfold nA;rw[bg U]
    have aU:lx C.bA s.L c=c:=by unfold lx;rw[bg U]
    rw[aB,aU];exact⟨rfl,.same,⟨al,λ_=>eh _,jM,h1,h2⟩,λr h=>h.elim,λh=>h,λJ h=>h⟩
 |
  eY c=>
  obtain⟨h1,h2⟩:=V;simp only[acc];have hu:=anK (B:=C.dC) S.jL O h1;by_cases aJ:c.out=0
  . obtain⟨W,cE,d8⟩:=av4 (f:=f) (B:=C.dC) l.eY Y.now S.rc S.ws.ok S.qY aJ h1 h2
    refine⟨rfl,W.any,⟨al,λ_=>eh _,⟨by rw[W.len];exact S.len,hu.1,W.rc Y.K5 S.rc,S.hJ.stay l W,jM.az,cE,hu.2.1⟩,hu.2.2,d8⟩,λr h=>h.elim,λh=>h.elim,λJ h=>.inr Zx⟩
  . have U:c.over=true:=by simp[hy.over,aJ]
    have aB:j4 C.dC s.L s.bs c=(s.L,s.bs,c):=by unfold j4;rw[bg U]
    rw[aB];exact⟨rfl,.same,⟨al,λ_=>eh _,jM,h1,h2⟩,λr h=>h.elim,λh=>h.elim,λJ h=>h⟩
theorem aiO{c:Nat}(Y:jh f C C.cells)(aS:n+1<=br)(S:eN f C E al n s.L s.bs)(a2:c=0\/c=1):
 zN f C E al n j .jk s (.add c 1) (acc C s (.add c 1)).1 (acc C s (.add c 1)).2:=by
 have l:jh f C s.L.length:=by rw[S.len];exact Y
 have d6:br -n=(br -(n+1))+1:=ae;have O:=S.ws;rw[d6]at O;have a8:f c=.jk:=by rcases a2 with rfl|rfl;exact Y.ej;exact Y.c1
 have wr:gX f E .jk s.L (s.L.set c (e0 (s.L.getD c 0+1))):=.put a8 rfl;refine⟨rfl,wr,⟨al,λ_=>eh _,⟨by show(s.L.set _ _).length=_;rw[gq];exact S.len,S.jL.set _ _ (AR _),wr.rc Y.K5 S.rc,λw O=>(S.hJ w O).stay (l.ie w O) wr fW rfl,λw=>mW (S.az w) (il _),S.qY,O.le (il _)⟩,AR _⟩,λr h=>h.elim,λh=>h.elim,λJ h=>.inr ?_⟩;show 1<=(s.L.set c (e0 (s.L.getD c 0+1))).getD _ 0;rw[wr.iL (l.ie j J).iL fW];exact h.resolve_left (λh=>h)
end
end
section
variable(C:bK)(P:List b1){k:K}(j:Nat)(s:ar)(E:gB)(d:eE)(n:Nat)
abbrev bl:gB:=⟨s.aI.length,s.lets.length,s.notes.length⟩
def cB(a:Nat):Prop:=1<=a/\a<=E.na
def o1(x:Int):Prop:=0<=x/\x<=E.na
structure ue(E:gB)(l:cV):Prop where
 to:o1 E l.to
 cw:l.cw<=E.na
 n:0<=l.n/\l.n<=255
structure sX(E:gB)(n:da):Prop where
 what:0<=n.what/\n.what<=4
 who:o1 E n.who
 aG:n.what=1->1<=n.who
def Cd(e:fw):Prop:=(e.do'=1\/e.do'=2\/e.do'=5\/e.do'=6\/e.do'=7\/e.do'=8\/e.do'=9\/e.do'=10)/\(e.do'=2->(lf P e.name).isSome=true)/\(0<=e.n/\e.n<=255)
structure SB(P:List b1)(k:b1):Prop where
 st:k.states≠[]
 b8:∀t∈k.states,∀r∈t.rows,r.b8.length<=8/\∀e∈r.b8,1<=e.do'/\e.do'<=12/\(e.do'=2->(lf P e.name).isSome=true)/\(0<=e.n/\e.n<=255)
structure AOk(P:List b1)(E:gB)(i:Nat)(x:bQ):Prop where
 id:x.id=i+1
 par:x.parent<=E.na
 kind:SB P x.kind
 slots:x.slots.length=4
 lb:∀v∈x.slots,o1 E v
 kids:∀v∈x.kids,dI E .act v
 aside:∀v∈x.aside,dI E .ju v
 front:∀v∈x.front,dI E .ju v
 cF:∀v∈x.cF,dI E .act v
 j0:∀p∈x.timers,∀v∈p.2,dI E .ju v
def Ce:Prop:=
 match d with
 |.c0 a id p=>cB E a/\dI E .ju id/\n=p.b8.length/\n<=8/\∀e∈p.b8,Cd P e
 |.cancel ids=>n=ids.length/\∀v∈ids,dI E .ju v
 |.leave due=>n=due.length/\n<=64/\∀v∈due,dI E .ju v
 |.push l what=>n=l.length/\(what=0\/what=2)/\∀v∈l,dI E .act v
 |.mz a=>cB E a/\n<=E.na/\n<=16
def dy:K->Nat
 |.ended _ _ _ k=>dy k+1|.mD _ k=>dy k+1|.h8 _ _ _ k=>dy k+1|.told _ _ k=>dy k+1|.lJ _ k=>dy k+1|.mE _ _ _ k=>dy k+1
 |.asked _ _ _ k=>dy k+1|.watched _ _ k=>dy k+1|.gone _ _ k=>dy k+1|.nn _ _ k=>dy k+1|.alone _ k=>dy k+1|.mF _ _ k=>dy k+1
 |.closed _ k=>dy k+1|.lc _ k=>dy k+1|.shut _ k=>dy k+1|.ow _ k=>dy k+1|.who _ k=>dy k+1|.parent _ k=>dy k+1|.each _ _ _ k=>dy k+1
 |_=>0
def cZ:K->Prop
 |.nil=>True|.run _=>True|.on _=>True|.next _ _=>True|.ended _ _ _ _=>True|.alone _ _=>True|.shut _ _=>True|.parent _ _=>True|.each _ _ _ _=>True
 |_=>False
def wd(i n:Nat):Nat:=
 match d with
 |.cancel _=>64
 |.push _ _=>64
 |_=>64*(n -i)+64
def nm(left:Nat):Nat:=4000*left+1280
def bw:K->Nat
 |.nil=>64|.jB _=>70000|.nX _ left=>nm left|.next _ left=>nm (left -1)+64|.mC=>7000|.on _=>128
 |.ended _ _ _ k=>bw k+1000|.mD _ k=>bw k+192|.h8 _ _ _ k=>bw k+192|.told _ _ k=>bw k+128|.lJ _ k=>bw k+128|.mE _ _ _ k=>bw k+128
 |.asked _ _ _ k=>bw k+128|.watched _ _ k=>bw k+128|.gone _ _ k=>bw k+128|.nn _ _ k=>bw k+128|.alone _ k=>bw k+256|.mF _ _ k=>bw k+1000
 |.closed _ k=>bw k+128|.lc _ k=>bw k+128|.shut _ k=>bw k+128|.ow _ k=>bw k+128|.who _ k=>bw k+1600|.parent _ k=>bw k+128|.each d i n k=>bw k+wd d i n
 |_=>128
def cR(C:bK)(P:List b1)(E:gB):K->Prop
 |.nil=>True|.polled=>True|.found=>True|.pG=>True|.mC=>True
 |.run a=>cB E a|.jB a=>cB E a|.on a=>cB E a|.again a=>cB E a|.settled a=>cB E a|.o2 a=>cB E a
 |.next a left=>cB E a/\1<=left/\left<=16|.nX a left=>cB E a/\1<=left/\left<=16
 |.ended a id p k=>cB E a/\cR C P E k/\cZ k/\dy k<=0
 |.mD l k=>ue E l/\cR C P E k/\cZ k/\dy k<=2
 |.h8 a l e k=>cB E a/\ue E l/\cR C P E k/\cZ k/\dy k<=2
 |.told id to k=>dI E .ju id/\dI E .act to/\cR C P E k/\cZ k/\dy k<=2
 |.lJ a k=>cB E a/\cR C P E k/\cZ k/\dy k<=2
 |.mE a kind slot k=>cB E a/\(lf P kind).isSome=true/\slot<4/\cR C P E k/\cZ k/\dy k<=2
 |.asked id a e k=>dI E .ju id/\cB E a/\cR C P E k/\cZ k/\dy k<=2
 |.watched a who k=>cB E a/\cB E who/\cR C P E k/\cZ k/\dy k<=2
 |.gone a who k=>cB E a/\cB E who/\cR C P E k/\cZ k/\dy k<=2
 |.nn x y k=>cB E x/\cB E y/\cR C P E k/\cZ k/\dy k<=2
 |.alone a k=>cB E a/\cR C P E k/\cZ k/\dy k<=0
 |.mF a n k=>cB E a/\sX E n/\1<=n.who/\cR C P E k/\cZ k/\dy k<=0
 |.closed a k=>cB E a/\cR C P E k/\cZ k/\dy k<=0
 |.lc a k=>cB E a/\cR C P E k/\cZ k/\dy k<=1
 |.shut a k=>cB E a/\cR C P E k/\cZ k/\dy k<=0
 |.ow a k=>cB E a/\cR C P E k/\cZ k/\dy k<=0
 |.who a k=>cB E a/\cR C P E k/\cZ k/\dy k<=0
 |.parent a k=>cB E a/\cR C P E k/\cZ k/\dy k<=0
 |
  .each d i n k=>Ce P E d n/\i<n/\cR C P E k/\cZ k/\(match d with
   |.cancel _=>dy k<=2
   |_=>dy k<=1)
def vK(o:bY):K->Prop
 |.polled=>j<C.bc/\∃c,o=.fJ c
 |.found=>j<C.bc/\rT E o|.pG=>j<C.bc/\rT E o
 |.mC=>∃c,o=.eY c
 |.jB _=>qZ E true o|.nX _ _=>qZ E false o|.lc _ _=>qZ E false o
 |.settled _=>∃a p,o=.post a p|.told _ _ _=>∃a p,o=.post a p|.lJ _ _=>∃a p,o=.post a p|.gone _ _ _=>∃a p,o=.post a p|.o2 _=>∃a p,o=.post a p
 |.mD _ _=>o=.add 0 1|.h8 _ _ _ _=>o=.add 0 1|.mE _ _ _ _=>o=.add 1 1
 |.asked _ _ _ _=>∃c,o=.eY c|.mF _ _ _=>∃c,o=.eY c
 |.nn _ _ _=>∃x,o=.hZ x
 |.who _ _=>o=.load 1
 |_=>∀c d,o≠.add c d
def eK(r:bY):K->Prop
 |.polled=>∃c,r=.fJ c
 |.found=>j<C.bc/\rT (bl s) r|.pG=>j<C.bc/\rT (bl s) r
 |.mC=>∃c,r=.eY c/\(∀x∈c.due,dI (bl s) .ju x)/\(∀x∈c.cut,dI (bl s) .ju x)/\(∀x∈c.ref,dI (bl s) .ju x)/\c.due.length<=64/\c.cut.length+c.ref.length<=64
 |.jB _=>qZ (bl s) true r|.nX _ _=>qZ (bl s) false r|.lc _ _=>qZ (bl s) false r
 |.settled _=>∃a p,r=.post a p|.told _ _ _=>∃a p,r=.post a p|.lJ _ _=>∃a p,r=.post a p|.gone _ _ _=>∃a p,r=.post a p|.o2 _=>∃a p,r=.post a p
 |.mD _ _=>r=.gm ((s.lets.length+1:Nat):Int)|.h8 _ _ _ _=>r=.gm ((s.lets.length+1:Nat):Int)
 |.mE _ _ _ _=>r=.gm (s.L.getD 1 0)
 |.asked _ _ _ _=>∃c,r=.eY c|.mF _ _ _=>∃c,r=.eY c
 |.nn _ _ _=>∃x,r=.hZ x
 |.who _ _=>r=.gm (s.L.getD 1 0)
 |_=>True
def SC{C:bK}{j:Nat}{s:ar}{r:bY}{k:K}(h:cZ k):eK C j s r k:=by cases k<;>first|trivial|exact h.elim
def aiP{C:bK}{j:Nat}{E:gB}{o:bY}{k:K}(h:cZ k)(aJ:∀c d,o≠.add c d):vK C j E o k:=by cases k<;>first|exact aJ|exact h.elim
def eL:K->Nat
 |.mD _ _=>1|.h8 _ _ _ _=>1|_=>0
def eM:K->Nat
 |.mE _ _ _ _=>1|_=>0
def K8(h:cZ k):eL k=0/\eM k=0:=by cases k<;>first|exact dD|exact h.elim
end
section
variable{E y:gB}(h:E.le y)
include h
theorem cB.mono{a:Nat}(v:cB E a):cB y a:=⟨v.1,mW v.2 h.a⟩
theorem o1.mono{a:Int}(v:o1 E a):o1 y a:=⟨v.1,by have:=v.2;have:=h.a;omega⟩
theorem ue.mono{l:cV}(v:ue E l):ue y l:=⟨v.to.mono h,by have:=v.cw;have:=h.a;omega,v.n⟩
theorem sX.mono{n:da}(v:sX E n):sX y n:=⟨v.what,v.who.mono h,v.aG⟩
theorem AOk.mono{P:List b1}{i:Nat}{x:bQ}(v:AOk P E i x):AOk P y i x:=
 ⟨v.id,mW v.par h.a,v.kind,v.slots,λa b=>(v.lb a b).mono h,λa b=>(v.kids a b).mono h,λa b=>(v.aside a b).mono h,λa b=>(v.front a b).mono h,λa b=>(v.cF a b).mono h,λp q a b=>(v.j0 p q a b).mono h⟩
theorem Ce.mono{P:List b1}{d:eE}{n:Nat}(v:Ce P E d n):Ce P y d n:=by
 cases d with
 |c0 a id p=>exact⟨v.1.mono h,v.2.1.mono h,v.2.2⟩
 |cancel ids=>exact⟨v.1,λa b=>(v.2 a b).mono h⟩
 |leave due=>exact⟨v.1,v.2.1,λa b=>(v.2.2 a b).mono h⟩
 |push l w=>exact⟨v.1,v.2.1,λa b=>(v.2.2 a b).mono h⟩
 |mz a=>exact⟨v.1.mono h,mW v.2.1 h.a,v.2.2⟩
theorem cR.mono{C:bK}{P:List b1}:∀{k:K},cR C P E k->cR C P y k
 |.nil,_=>trivial|.polled,_=>trivial|.found,_=>trivial|.pG,_=>trivial|.mC,_=>trivial
 |.run _,v=>cB.mono h v|.jB _,v=>cB.mono h v|.on _,v=>cB.mono h v|.again _,v=>cB.mono h v|.settled _,v=>cB.mono h v|.o2 _,v=>cB.mono h v
 |.next _ _,v=>⟨v.1.mono h,v.2⟩|.nX _ _,v=>⟨v.1.mono h,v.2⟩
 |.ended _ _ _ _,v=>tR
 |.mD _ _,v=>tR
 |.h8 _ _ _ _,v=>BJ
 |.told _ _ _,v=>BJ
 |.lJ _ _,v=>tR
 |.mE _ _ _ _,v=>⟨v.1.mono h,v.2.1,v.2.2.1,cR.mono v.2.2.2.1,v.2.2.2.2⟩
 |.asked _ _ _ _,v=>BJ
 |.watched _ _ _,v=>BJ
 |.gone _ _ _,v=>BJ
 |.nn _ _ _,v=>BJ
 |.alone _ _,v=>tR
 |.mF _ _ _,v=>⟨v.1.mono h,v.2.1.mono h,v.2.2.1,cR.mono v.2.2.2.1,v.2.2.2.2⟩
 |.closed _ _,v=>tR
 |.lc _ _,v=>tR
 |.shut _ _,v=>tR
 |.ow _ _,v=>tR
 |.who _ _,v=>tR
 |.parent _ _,v=>tR
 |.each _ _ _ _,v=>⟨v.1.mono h,v.2.1,cR.mono v.2.2.1,v.2.2.2⟩
theorem rT.mono{o:bY}(v:rT E o):rT y o:=by cases o<;>first|exact v.elim|exact ud.mono h v
theorem qZ.mono{r:Bool}{o:bY}(v:qZ E r o):qZ y r o:=by cases o<;>first|exact v.elim|exact vI.mono h v
theorem vK.mono{C:bK}{j:Nat}{o:bY}{k:K}(v:vK C j E o k):vK C j y o k:=by
 cases k<;>first|exact v|exact⟨v.1,rT.mono h v.2⟩|exact qZ.mono h v
end
def gB.le.refl{E:gB}:E.le E:=⟨eh _,eh _,eh _⟩
def im(x:bQ):Nat:=3*(x.front.length+x.aside.length)+x.kids.length+x.cF.length+x.watched.length+(x.timers.map (λp=>1+p.2.length)).sum+(x.given.map (λp=>1+p.2.length)).sum
def bL(s:ar):Nat:=s.trace.length+s.dead.length+s.notes.length+s.now+s.ticks+(s.aI.map im).sum
def dP(r S:List (Int×Int)):Prop:=(kW r->kW S)/\S.length=r.length
structure vL(C:bK)(P:List b1)(s:ar):Prop where
 xL:1<=s.aI.length
 na:s.aI.length<=C.aZ
 aI:∀i x,s.aI[i]?=some x->AOk P (bl s) i x
 lets:∀l∈s.lets,ue (bl s) l
 notes:∀n∈s.notes,sX (bl s) n
 uf:s.aC.length=C.bc+C.cK+1
 bf:kW s.bf/\s.bf.length<=s.lets.length
structure sY(C:bK)(P:List b1)(E:gB)(al:Nat->Nat)(L:List Int)(i:Nat)(t:bV):Prop where
 on:∀o k,t.on=some (o,k)->dT C E al i L o/\cR C P E k/\vK C i E o k
 iL:i<C.bc->1<=L.getD (C.bA.cm i+1) 0\/∃o k,t.on=some (o,k)/\SA o
 oJ:0<=t.draw/\t.draw<18446744073709551616
structure qc(C:bK)(n p q:Nat)(s:ar):Prop where
 ni:s.L.getD 0 0=((s.lets.length+p:Nat):Int)
 oW:s.lets.length+p<=n
 di:(s.aI.length:Int)=min (s.L.getD 1 0 -q) C.aZ
 mu:(q:Int)+1<=s.L.getD 1 0
 mw:s.L.getD 1 0<=n+1
structure Inv(f:Nat->gl)(C:bK)(P:List b1)(n:Nat)(s:ar):Prop where
 base:vL C P s
 num:qc C n 0 0 s
 bq:∃al,eN f C (bl s) al n s.L s.bs/\∀i t,s.aC[i]?=some t->sY C P (bl s) al s.L i t
structure In(f:Nat->gl)(C:bK)(P:List b1)(n j p q:Nat)(s:ar):Prop where
 base:vL C P s
 num:qc C n p q s
 j1:∃t,s.aC[j]?=some t/\t.on=none
 bq:∃al,eN f C (bl s) al n s.L s.bs/\∀i t,s.aC[i]?=some t->sY C P (bl s) al s.L i t
def Good(f:Nat->gl)(C:bK)(P:List b1)(n ce:Nat)(x:Option ar):Prop:=∃aY,x=some aY/\Inv f C P n aY/\bL aY<=ce
def In.inv{f:Nat->gl}{C:bK}{P:List b1}{n j:Nat}{s:ar}(h:In f C P n j 0 0 s):Inv f C P n s:=⟨h.base,h.num,h.bq⟩
structure kY(s aY:ar):Prop where
 L:aY.L=s.L
 bs:aY.bs=s.bs
 aI:aY.aI=s.aI
 lets:aY.lets=s.lets
 notes:aY.notes=s.notes
 aC:aY.aC=s.aC
 bf:dP s.bf aY.bf
section
variable{f:Nat->gl}{C:bK}{P:List b1}{n ce j p q:Nat}{s aY:ar}
def kY.aT(h:kY s aY):bl aY=bl s:=by simp only[bl,h.aI,h.lets,h.notes]
def vL.hT(e:kY s aY)(h:vL C P s):vL C P aY:=by
 have E:=e.aT;exact⟨by rw[e.aI];exact h.xL,by rw[e.aI];exact h.na,by rw[e.aI,E];exact h.aI,by rw[e.lets,E];exact h.lets,by rw[e.notes,E];exact h.notes,by rw[e.aC];exact h.uf,e.bf.1 h.bf.1,by rw[e.bf.2,e.lets];exact h.bf.2⟩
def qc.hT(e:kY s aY)(h:qc C n p q s):qc C n p q aY:=⟨by rw[e.L,e.lets];exact h.ni,by rw[e.lets];exact h.oW,by rw[e.L,e.aI];exact h.di,by rw[e.L];exact h.mu,by rw[e.L];exact h.mw⟩
def In.hT(e:kY s aY)(h:In f C P n j p q s):In f C P n j p q aY:=
 ⟨h.base.hT e,h.num.hT e,by rw[e.aC];exact h.j1,by rw[e.aC,e.aT,e.L,e.bs];exact h.bq⟩
def Inv.hT(e:kY s aY)(h:Inv f C P n s):Inv f C P n aY:=
 ⟨h.base.hT e,h.num.hT e,by rw[e.aC,e.aT,e.L,e.bs];exact h.bq⟩
def sY.mono{E y:gB}(h:E.le y){al:Nat->Nat}{L:List Int}{i:Nat}{t:bV}(v:sY C P E al L i t):sY C P y al L i t:=
 ⟨λo k e=>⟨(v.on o k e).1.mono h,(v.on o k e).2.1.mono h,(v.on o k e).2.2.mono h⟩,v.iL,v.oJ⟩
def In.more(h:In f C P n j p q s)(d:aY.L=s.L)(w:aY.bs=s.bs)(y:aY.aC=s.aC)(l:(bl s).le (bl aY)){S c:Nat}(b:vL C P aY)(u:qc C n S c aY):In f C P n j S c aY:=by
 refine⟨b,u,by rw[y];exact h.j1,?_⟩;obtain⟨al,h1,h2⟩:=h.bq;rw[d,w,y];exact⟨al,h1.mono l,λi t e=>(h2 i t e).mono l⟩
end
section
variable{f:Nat->gl}{C:bK}{P:List b1}{n ce j p q:Nat}{s aY:ar}
section
variable(e:bZ)(id w:Int){a:Nat}{m:da}{x y:bQ}
def aiQ(h:bL s<most):iM e s=some {s with trace:=s.trace++[e]}:=by
 unfold iM;rw[bg];unfold bL at h;omega
def av7:kY s Qz:=En
def av8:bL Qz=bL s+1:=by simp[bL];omega
def qh(h:bL s<most):∃aY,iM e s=some aY/\kY s aY/\bL aY=bL s+1:=⟨_,aiQ e h,av7 e,av8 e⟩
theorem K9:kY s (move s id w):=⟨rfl,rfl,rfl,rfl,rfl,rfl,λh=>h.F4,e2⟩
theorem SD(a w:Int):kY s (mA s id a w):=by unfold mA;split;exact K9 _ _;exact En
theorem SE(a w:Int):bL (mA s id a w)=bL s:=by unfold mA;split<;>rfl
def kY.refl:kY s s:=En
def kY.trans{e:ar}(a:kY s aY)(b:kY aY e):kY s e:=⟨b.L.trans a.L,b.bs.trans a.bs,b.aI.trans a.aI,b.lets.trans a.lets,b.notes.trans a.notes,b.aC.trans a.aC,λh=>b.bf.1 (a.bf.1 h),b.bf.2.trans a.bf.2⟩
theorem La{id:Int}(h:dI (bl s) .ju id):∃l,kq s id=some l/\l∈s.lets:=by
 have h1:1<=id:=h.1;have h2:id<=s.lets.length:=h.2;have aH:(id -1).toNat<s.lets.length:=ae;exact⟨s.lets[(id -1).toNat],by unfold kq;rw[bg h1];exact cq aH,sz aH⟩
def lG(h:cB (bl s) a):∃x,dz s a=some x/\s.aI[a -1]?=some x:=by
 have h1:1<=a:=h.1;have h2:a<=s.aI.length:=h.2;have aH:a -1<s.aI.length:=ae;exact⟨s.aI[a -1],by unfold dz;rw[bg h1];exact cq aH,cq aH⟩
theorem xM{id why:Int}(aw:∀l∈s.lets,True)(h:dI (bl s) .ju id)(O:1<=why/\why<=5)(hp:bL s<most):∃aY,kill id why s=some aY/\kY s aY/\bL aY=bL s+2:=by
 obtain⟨l,e,_⟩:=La h;unfold kill;refine rO ?_;have aQ:s.dead.length<most:=Iz;have R:s.trace.length<most:=Iz;rw[bg ⟨aQ,O⟩];unfold iM;rw[bg (show _<most from R)];exact⟨_,rfl,⟨rfl,rfl,rfl,rfl,rfl,rfl,λh=>h.from bN,Led.yZ⟩,by simp[bL];omega⟩
def Lb{why:Int}(O:1<=why/\why<=5):∀(l:List Int) {s:ar},(∀x∈l,dI (bl s) .ju x)->bL s+2*l.length<most->∃aY,kK why l s=some aY/\kY s aY/\bL aY=bL s+2*l.length
 |[],s,_,_=>⟨s,rfl,.refl,rfl⟩
 |
  x::l,s,h,hp=>by
  simp only[iY]at hp⊢;obtain⟨s1,aB,m1,gH⟩:=xM pn (h x (.head _)) O (show bL s<most by omega);obtain⟨Z,aU,t,U⟩:=Lb O l (λy ah=>by rw[m1.aT];exact h y (.tail _ ah)) ae;refine⟨Z,?_,m1.trans t,by omega⟩;simp only[kK,aB,bind,Option.bind];exact aU
def SF:∀{l:List bQ} {i:Nat} {x y:bQ},l[i]?=some x->((l.set i y).map im).sum+im x=(l.map im).sum+im y
 |[],i,x,y,h=>by simp at h
 |a::l,0,x,y,h=>by simp at h;subst h;simp only[List.set_cons_zero,gz,SG];omega
 |a::l,i+1,x,y,h=>by simp at h;have:=SF (y:=y) h;simp only[List.set_cons_succ,gz,SG];omega
def lH(h:s.aI[a -1]?=some x):bL (c7 s a y)+im x=bL s+im y:=by
 have:=SF (y:=y) h;simp only[bL,c7];omega
def lI(h:In f C P n j p q s)(ag:s.aI[a -1]?=some x)(ah:AOk P (bl s) (a -1) y):In f C P n j p q (c7 s a y):=by
 have aw:(s.aI.set (a -1) y).length=s.aI.length:=gq;have T:bl (c7 s a y)=bl s:=by simp only[bl,c7,aw]
 refine h.more (aY:=c7 s a y) rfl rfl rfl (by rw[T];exact .refl) ⟨by show 1<=(s.aI.set _ _).length;rw[aw];exact h.base.xL,by show(s.aI.set _ _).length<=_;rw[aw];exact h.base.na,λi w e=>?_,by rw[T];exact h.base.lets,by rw[T];exact h.base.notes,h.base.uf,h.base.bf⟩ ⟨h.num.ni,h.num.oW,by show((s.aI.set _ _).length:Int)=_;rw[aw];exact h.num.di,h.num.mu,h.num.mw⟩;rw[T];replace e:(s.aI.set (a -1) y)[i]?=some w:=e;by_cases al:a -1=i
 . subst al
   obtain⟨d5,rfl⟩:=dd.1 e;rw[y3];exact ah
 . rw[qD al]at e;exact h.base.aI i w e
def j9:bl (c7 s a y)=bl s:=by simp[bl,c7]
def aiR(h:In f C P n j p q s)(bb:sX (bl s) m):In f C P n j p q {s with notes:=s.notes++[m]}:=by
 have l:(bl s).le (bl Jt):=⟨eh _,eh _,by simp⟩;refine h.more (aY:=Jt) rfl rfl rfl l ⟨h.base.xL,h.base.na,λi x e=>(h.base.aI i x e).mono l,λx ag=>(h.base.lets x ag).mono l,λx ag=>?_,h.base.uf,h.base.bf⟩ acP;rcases kP.1 ag with ag|ag
 . exact(h.base.notes x ag).mono l
 . simp at ag;subst ag;exact bb.mono l
def SH:(bl s).le (bl Jt):=⟨eh _,eh _,by simp⟩
def aiS:bL Jt=bL s+1:=by simp[bL];omega
def aiT(l:List Int)(x:Int):(ou l x).length<=l.length+1:=by unfold ou;split<;>simp
theorem jF{o:bY}{k:K}(h:In f C P n j 0 0 s)(V:∀al,dT C (bl s) al j s.L o)(hk:cR C P (bl s) k)(R:vK C j (bl s) o k)(W:bL s<=ce):Good f C P n ce (hq j s o k):=by
 obtain⟨t,M,B⟩:=h.j1;have aw:j<s.aC.length:=(dd.1 M).1;unfold hq;simp only[M,bind,Option.bind];rw[bg (by simp[B])];refine adv ?_;intro al h1 h2;refine⟨al,h1,λi u e=>?_⟩;replace e:(s.aC.set j {t with on:=some (o,k)})[i]?=some u:=e;by_cases g1:j=i
 . subst g1
   obtain⟨d5,rfl⟩:=dd.1 e;rw[y3];refine⟨λS dj H=>?_,λO=>?_,(h2 j t M).oJ⟩
   . cases H;exact⟨V al,hk,R⟩
   . rcases(h2 j t M).iL O with g|⟨S,dj,g,_⟩
     . exact .inl g
     . rw[B]at g;cases g
 . rw[qD g1]at e;exact h2 i u e
end
end
section
variable{C:bK}{E:gB}{al:Nat->Nat}{j:Nat}{L:List Int}
section
variable{id:Int}{a pc:Nat}{r:Bool}{v:Int}
theorem aiU(h:1<=a/\a<=C.aZ)(d7:jn v)(V:dI E (vF r) v):dT C E al j L (.post a ⟨.put r (gU 0 v),0,0⟩):=
 ⟨h.1,h.2,λ_=>⟨⟨AN bN d7,rfl⟩,rfl⟩,λ_=>xI (λ_=>V) (.inl bN)⟩
theorem av9(h:1<=a/\a<=C.aZ)(d7:jn v)(V:dI E .zK v):dT C E al j L (.post a (E9 v)):=⟨h.1,h.2,λ_=>⟨d7,rfl⟩,λ_=>V⟩
theorem SI(h:1<=a/\a<=C.aZ)(d7:jn v):dT C E al j L (.post a (nU v)):=⟨h.1,h.2,λ_=>⟨d7,rfl⟩,λ_=>trivial⟩
theorem Cf(h:1<=a/\a<=C.aZ)(hp:pc=5\/pc=10\/pc=14):dT C E al j L (.post a ⟨.of r (gU pc 0),0,0⟩):=
 ⟨h.1,h.2,λ_=>⟨⟨AN ae bN,rfl⟩,rfl⟩,λ_=>xI (λe=>by omega) ae⟩
theorem awa(h:1<=a/\a<=C.aZ):dT C E al j L (.post a xN):=acQ
theorem awb{b:Bool}(h:1<=a/\a<=C.aZ):dT C E al j L (.post a (Fa b)):=acQ
theorem awc:jn 0:=Hl
theorem aiV(d7:jn v)(V:dI E .act v):dT C E al j L (.fJ (wK C.bA (sZ C j) v)):=by
 unfold sZ;split
 . rename_i h
   exact⟨λ_=>⟨⟨h,Na bN d7,rfl,d7⟩,rfl⟩,λ_=>⟨⟨rfl,h,Sx (λ_=>V) (.inl rfl),fc _,V⟩,λh=>h.elim⟩⟩
 . exact⟨λ_=>Nd,λ_=>⟨⟨E7 λ_=>V,rfl,V⟩,λh=>h.elim⟩⟩
theorem awd(h:j<C.bc):dT C E al j L (.fJ (Du j)):=⟨λ_=>⟨⟨rfl,h,rfl⟩,rfl⟩,λ_=>⟨trivial,λh=>h.elim⟩⟩
theorem awe(h:j<C.bc):dT C E al j L (.fJ (yC j)):=⟨λ_=>⟨⟨h,rfl,h,rfl⟩,rfl⟩,λ_=>⟨trivial,λ_=>h⟩⟩
theorem awf:rT E (.fJ (yC j)):=⟨λ_=>trivial,(λe=>by simp[yC]at e)⟩
theorem SJ{x y:Nat}(hp:pc<=4)(ag:1<=x/\x<=C.aZ)(ah:1<=y/\y<=C.aZ)(aw:L.length=C.cells):dT C E al j L (.hZ (nC pc (ly C.bG C.aZ x y))):=by
 have h1:(x -1)*C.aZ+C.aZ<=C.aZ*C.aZ:=by
  have:=p5 C.aZ (show x -1+1<=C.aZ by omega);exact HE
 have e:ly C.bG C.aZ x y=C.bG+((x -1)*C.aZ+(y -1)):=by unfold ly;omega
 have aU:C.cells=C.bG+C.aZ*C.aZ+C.aZ*C.eZ:=rfl;have bB:C.gR=C.bG+C.aZ*C.aZ:=rfl;refine⟨⟨hp,?_,awc⟩,?_,?_⟩
 . show ly _ _ _ _<_;rw[e,aw,aU];omega
 . show _<=ly _ _ _ _;rw[e];omega
 . show ly _ _ _ _<_;rw[e,bB];omega
theorem aiW(h:dI E .ju id):dT C E al j L (.eY (r7 id)):=by
 have h1:1<=id:=h.1;have h2:id<=E.hL:=h.2;refine⟨anM ae,?_⟩;unfold r7;split
 . exact ac0
 . exact⟨λ_=>xI (λ_=>(show 1<=id*4096/4096/\id*4096/4096<=E.hL by omega)) (.inl bN),qK,qK,qK,fc _⟩
theorem awg{d:Int}(h:dI E .ju id):dT C E al j L (.eY (r6 id d)):=by
 have h1:1<=id:=h.1;have h2:id<=E.hL:=h.2;refine⟨anL ae,?_⟩;unfold r6;split
 . exact ac0
 . rename_i aQ
   exact⟨λ_=>xI (λ_=>(show 1<=(id*4096+d)/4096/\(id*4096+d)/4096<=E.hL by omega)) (.inl bN),qK,qK,qK,fc _⟩
theorem awh:dT C E al j L (.eY uI):=⟨anN,(λ_=>trivial),qK,qK,qK,fc _⟩
end
end
def cB.act{C:bK}{P:List b1}{s:ar}{a:Nat}(h:cB (bl s) a)(b:vL C P s):1<=a/\a<=C.aZ:=⟨h.1,mW h.2 b.na⟩
def cB.v{s:ar}{a:Nat}(h:cB (bl s) a):dI (bl s) .act (a:Int):=by
 have h1:1<=a:=h.1;have h2:a<=s.aI.length:=h.2;exact⟨(by omega:(1:Int)<=a),(by show(a:Int)<=s.aI.length;omega)⟩
def dI.cB{E:gB}{a:Int}(h:dI E .act a):Th.cB E a.toNat/\((a.toNat:Nat):Int)=a:=by
 have h1:1<=a:=h.1;have h2:a<=E.na:=h.2;exact⟨uL,by omega⟩
section
variable{f:Nat->gl}{C:bK}{P:List b1}{n ce j:Nat}{g:ar->bY->K->Option ar}{m:Nat}
def eg(f:Nat->gl)(C:bK)(P:List b1)(n ce j m:Nat)(g:ar->bY->K->Option ar):Prop:=
 ∀s k,In f C P n j 0 0 s->cR C P (bl s) k->cZ k->bL s+bw k<=ce->bw k<m->Good f C P n ce (g s dA k)
def eg.dA(aX:eg f C P n ce j m g){s:ar}{k:K}(h:In f C P n j 0 0 s)(hk:cR C P (bl s) k)(aQ:cZ k)(W:bL s+bw k<=ce)(bb:bw k<m):Good f C P n ce (g s dA k):=
 aX s k h hk aQ W bb
def awi{o:k5}:∀c d,bY.hZ o≠.add c d:=λ_ _ e=>by cases e
def awj{o:gD}:∀c d,bY.fJ o≠.add c d:=λ_ _ e=>by cases e
def In.alv{s:ar}{p q:Nat}(N:C.ok)(h:In f C P n j p q s){a:Nat}(aP:cB (bl s) a):jn (a:Int):=by
 have h1:=aP.2;have h2:=h.base.na;have aH:=N.ha;have:a<=s.aI.length:=h1;exact⟨by omega,by omega⟩
def In.aCF{s:ar}{p q:Nat}(az:n<=br)(h:In f C P n j p q s){a:Int}(aP:dI (bl s) .ju a):jn a:=by
 have h1:1<=a:=aP.1;have h2:a<=s.lets.length:=aP.2;obtain⟨al,a2,_⟩:=h.bq;have:=(a2.jL.get 0).2;have:=h.num.ni;exact⟨by omega,by omega⟩
variable(N:C.ok)(az:ce<1099511627776)(cL:n<=br)
include N az cL
section
variable{s:ar}{a:Nat}
theorem Lc(aX:eg f C P n ce j m g){s:ar}{r:bY}{a:Nat}{k:K}(h:In f C P n j 0 0 s)(aP:cB (bl s) a)(aD:∃a p,r=.post a p)(hk:cR C P (bl s) k)(aQ:cZ k)(W:bL s+bw k<=ce)(bb:bw k<m):Good f C P n ce (pF C g j s r a k):=by
 obtain⟨aE,p,rfl⟩:=aD;unfold pF;simp only;split
 . exact jF h (λal=>aiV (h.alv N aP) aP.v) hk (aiP aQ awj) ae
 . exact aX.dA h hk aQ W bb
theorem aiX(aX:eg f C P n ce j m g){s:ar}{id:Int}{k:K}(h:In f C P n j 0 0 s)(cv:dI (bl s) .ju id)(hk:cR C P (bl s) k)(aQ:cZ k)(aw:dy k<=2)(W:bL s+bw k+2<=ce)(bb:bw k<m):Good f C P n ce (ug C g j s id k):=by
 obtain⟨l,e,b⟩:=La cv;have d5:=h.base.lets l b;unfold ug;refine rO ?_;split
 . obtain⟨s1,aB,m1,gH⟩:=xM (why:=3) pn cv bN (show bL s<most by unfold most;omega)
   simp only[aB];exact aX.dA (h.hT m1) (by rw[m1.aT];exact hk) aQ ae bb
 . rename_i bn
   have h1:=d5.to.1;have h2:l.to<=s.aI.length:=d5.to.2;have aH:=h.base.na;rw[bg ⟨by omega,by omega⟩];have c:dI (bl s) .act l.to:=⟨(by omega:(1:Int)<=l.to),h2⟩;exact jF h (λal=>aiU (r:=false) uL (h.aCF cL cv) cv) ⟨cv,c,hk,aQ,aw⟩ ⟨_,_,rfl⟩ ae
theorem SK{l:cV}{k:K}(h:In f C P n j 0 0 s)(d5:ue (bl s) l)(hk:cR C P (bl s) k)(aQ:cZ k)(aw:dy k<=2)(W:bL s<=ce):Good f C P n ce (Cg j s l k):=
 jF h (λal=>⟨.inl rfl,rfl⟩) ⟨d5,hk,aQ,aw⟩ rfl W
theorem Ch{x:da}{k:K}(h:In f C P n j 0 0 s)(aP:cB (bl s) a)(ag:sX (bl s) x)(hk:cR C P (bl s) k)(aQ:cZ k)(aw:dy k<=2)(W:bL s+1<=ce):Good f C P n ce (s0 C j s a x k):=by
 unfold s0;have b:s.notes.length<=bL s:=by unfold bL;omega
 have aS:s.notes.length<most:=oS;rw[bg ⟨aS,aP.act h.base⟩];have c:s.notes.length<1099511627776:=ae;refine jF (aiR h ag) (λal=>aiU (r:=true) (aP.act h.base) uL ?_) ⟨aP.mono SH,hk.mono SH,aQ,aw⟩ ⟨_,_,rfl⟩ (by rw[aiS];exact W);exact⟨by omega,by show(s.notes.length:Int)<((s.notes++[x]).length:Nat);rw[ep];simp;omega⟩
theorem aiY{x y:Nat}{k:K}(h:In f C P n j 0 0 s)(ag:cB (bl s) x)(ah:cB (bl s) y)(hk:cR C P (bl s) k)(aQ:cZ k)(aw:dy k<=2)(W:bL s<=ce):Good f C P n ce (xO C j s x y k):=by
 unfold xO;have h1:=ag.act h.base;have h2:=ah.act h.base;rw[bg ⟨h1.1,h1.2,h2.1,h2.2⟩];obtain⟨fK,a2,_⟩:=h.bq;exact jF h (λal=>SJ bN h1 h2 a2.len) ⟨ag,ah,hk,aQ,aw⟩ ⟨_,rfl⟩ W
theorem awk{id:Int}{e:fw}{k:K}(h:In f C P n j 0 0 s)(aP:cB (bl s) a)(cv:dI (bl s) .ju id)(hk:cR C P (bl s) k)(aQ:cZ k)(aw:dy k<=2)(W:bL s<=ce):Good f C P n ce (Ld j s a id e k):=
 jF h (λal=>awg cv) ⟨cv,aP,hk,aQ,aw⟩ ⟨_,rfl⟩ W
theorem aiZ(h:In f C P n j 0 0 s)(aP:cB (bl s) a)(W:bL s<=ce):Good f C P n ce (zO j s a):=by
 obtain⟨x,e,ex⟩:=lG aP;unfold zO;refine rO ?_;split
 . exact⟨s,rfl,h.inv,W⟩
 . exact jF h (λal=>awb (aP.act h.base)) aP ⟨_,_,rfl⟩ W
theorem ai0(h:In f C P n j 0 0 s)(aP:cB (bl s) a)(W:bL s<=ce):Good f C P n ce (Ci j s a):=
 jF h (λal=>Cf (aP.act h.base) (.inl rfl)) aP ⟨λ_=>⟨_,rfl,rfl⟩,(λe=>by simp[Cj]at e)⟩ W
theorem awl{who:Nat}{k:K}(h:In f C P n j 0 0 s)(aP:cB (bl s) a)(O:cB (bl s) who)(hk:cR C P (bl s) k)(aQ:cZ k)(aw:dy k<=2)(W:bL s+1<=ce):Good f C P n ce (Cl C j s a who k):=by
 obtain⟨x,e,ex⟩:=lG aP;unfold Cl;refine rO ?_;have h1:=O.act h.base;have h2:=aP.act h.base;rw[bg h1];have B:=h.base.aI _ _ ex;have q:=lI h ex (y:={x with watched:=ou x.watched who}) ⟨B.id,B.par,B.kind,B.slots,B.lb,B.kids,B.aside,B.front,B.cF,B.j0⟩;have hp:=lH (y:={x with watched:=ou x.watched who}) ex;have:=aiT x.watched who;obtain⟨fK,a2,_⟩:=q.bq;exact jF q (λal=>SJ bN h2 h1 a2.len) ⟨by rw[j9];exact aP,by rw[j9];exact O,by rw[j9];exact hk,aQ,aw⟩ (λ_ _ e=>by cases e) IA
end
end
section
variable(l:List Int){P:List b1}{E:gB}(x:Int){k:b1}
def ai1{fh:cy}{k:b1}(h:lf P fh=some k):k∈P:=rf h
def Fb{P:List b1}{n:Int}(aS:0<=n/\n<=255):∀(l:List fw) (i:Nat) (p:ds),(∀e∈l,1<=e.do'/\e.do'<=12/\(e.do'=2->(lf P e.name).isSome=true)/\(0<=e.n/\e.n<=255))->(∀e∈p.b8,Cd P e)->
 (mI n i l p).b8.length<=p.b8.length+l.length/\∀e∈(mI n i l p).b8,Cd P e
 |[],i,p,_,hp=>⟨eh _,hp⟩
 |
  e::r,i,p,h,hp=>by
  have h1:=h e (.head _);have h2:∀x∈r,1<=x.do'/\x.do'<=12/\(x.do'=2->(lf P x.name).isSome=true)/\(0<=x.n/\x.n<=255):=λx ag=>h x (.tail _ ag);have f:∀(H:fw),H.do'=e.do'->H.name=e.name->(0<=H.n/\H.n<=255)->¬e.do'=3->¬e.do'=4->¬e.do'=11->¬e.do'=12->∀x∈p.b8++[H],Cd P x:=λH d1 t R a b c d x ag=>by
   rcases kP.1 ag with ag|ag
   . exact hp x ag
   . simp at ag;subst ag;exact⟨by rw[d1];omega,by rw[d1,t];exact h1.2.2.1,R⟩
  unfold mI;split
  . split
    . exact⟨by simp,λx ag=>by cases ag⟩
    . have:=Fb aS r (i+1) p h2 hp;exact⟨by have:=this.1;simp only[iY];omega,this.2⟩
  . split
    . have:=Fb aS r (i+1) {p with state:=e.name} h2 hp;exact⟨by have:=this.1;simp only[iY];simp only at this;omega,this.2⟩
    . split
      . exact⟨by simp only;omega,hp⟩
      . split
        . exact⟨by simp only;omega,hp⟩
        . split
          . have:=Fb aS r (i+1) {p with b8:=p.b8++[{e with n:=o4 e n,value:=2}]} h2 (f _ rfl rfl (show 0<=o4 e n/\o4 e n<=255 by have:=h1.2.2.2;unfold o4;split;exact aS;split;split<;>omega;exact this) ‹_› ‹_› ‹_› ‹_›)
            refine⟨?_,this.2⟩;have aH:=this.1;simp only[ep,iY,lk]at aH⊢;omega
          . have:=Fb aS r (i+1) {p with b8:=p.b8++[e]} h2 (f _ rfl rfl h1.2.2.2 ‹_› ‹_› ‹_› ‹_›)
            refine⟨?_,this.2⟩;have aH:=this.1;simp only[ep,iY,lk]at aH⊢;omega
def awm(h:SB P k)(state tag:cy)(n:Int)(aS:0<=n/\n<=255):(kZ k state tag n).b8.length<=8/\∀e∈(kZ k state tag n).b8,Cd P e:=by
 unfold kZ;split
 . exact⟨fc _,λx ag=>by cases ag⟩
 . rename_i r aD
   unfold rowOf at aD;cases R:k.states.find? (λs=>decide (s.name=state))with
   |none=>rw[R]at aD;cases aD
   |
    some t=>
    rw[R]at aD;have h1:=rf R;have h2:r∈t.rows:=rf (show t.rows.find? (qk tag n)=some r from aD);obtain⟨W,cE⟩:=h.b8 t h1 r h2;have:=Fb aS r.b8 0 ⟨false,[],state,false,[]⟩ cE (λx ag=>by cases ag);exact⟨by have aH:=this.1;simp at aH;omega,this.2⟩
def awn{ref:cy}{a b c:Int}{ak:List Int}(aP:o1 E a)(az:o1 E b)(a2:o1 E c)(aj:∀v∈ak,o1 E v):o1 E (hi ref a b c ak):=by
 have bn:o1 E 0:=⟨vB _,by omega⟩;unfold hi;split
 . exact aP
 . split
   . exact az
   . split
     . exact a2
     . split
       . rename_i i _
         rw[je];cases e:ak[i]?with
         |none=>exact bn
         |some v=>exact aj v H9
       . exact bn
def cB.z0{a:Nat}(h:cB E a):o1 E (a:Int):=⟨by omega,by have:=h.2;omega⟩
def ai2{l:List Int}{x v:Int}(h:v∈del l x):v∈l:=(oO.1 h).1
def SL:(del l x).length<=l.length:=qG _ _
def SM:∀{t:List (cy×List Int)} {fh:cy} {v:Int},v∈gG t fh->∃p∈t,v∈p.2
 |[],fh,v,h=>by simp[gG]at h
 |
  (k,l)::r,fh,v,h=>by
  unfold gG at h;split at h
  . exact⟨(k,l),.head _,h⟩
  . obtain⟨p,h1,h2⟩:=SM h;exact⟨p,.tail _ h1,h2⟩
def ai3:∀{t:List (cy×List Int)} {fh:cy} {p:cy×List Int},p∈ov t fh->p∈t
 |[],fh,p,h=>by simp[ov]at h
 |
  (k,l)::r,fh,p,h=>by
  unfold ov at h;split at h
  . exact .tail _ h
  . rcases kf.1 h with rfl|h
    . exact .head _
    . exact .tail _ (ai3 h)
def ai4:∀(t:List (cy×List Int)) (fh:cy),((ov t fh).map (λp=>1+p.2.length)).sum<=(t.map (λp=>1+p.2.length)).sum
 |[],fh=>by simp[ov]
 |
  (k,l)::r,fh=>by
  have:=ai4 r fh;unfold ov;split<;>simp<;>omega
def ai5:∀(t:List (Int×List Int)) (fh:Int),((qd t fh).map (λp=>1+p.2.length)).sum<=(t.map (λp=>1+p.2.length)).sum
 |[],fh=>by simp[qd]
 |
  (k,l)::r,fh=>by
  have:=ai5 r fh;unfold qd;split<;>simp<;>omega
def ai6:(l.erase x).length<=l.length:=List.length_erase_le
def ai7:∀(t:List (cy×List Int)) (fh:cy) (x:Int),((l3 t fh x).map (λp=>1+p.2.length)).sum<=(t.map (λp=>1+p.2.length)).sum+2
 |[],fh,x=>by simp[l3]
 |
  (k,l)::r,fh,x=>by
  have:=ai7 r fh x;unfold l3;split<;>simp<;>omega
def ai8:∀{t:List (cy×List Int)} {fh:cy} {x:Int} {p:cy×List Int} {v:Int},p∈l3 t fh x->v∈p.2->v=x\/∃S∈t,v∈S.2
 |[],fh,x,p,v,h,V=>by simp[l3]at h;subst h;simp at V;exact .inl V
 |
  (k,l)::r,fh,x,p,v,h,V=>by
  unfold l3 at h;split at h
  . rcases kf.1 h with rfl|h
    . rcases kP.1 V with V|V
      . exact .inr ⟨(k,l),.head _,V⟩
      . simp at V;exact .inl V
    . exact .inr ⟨p,.tail _ h,V⟩
  . rcases kf.1 h with rfl|h
    . exact .inr ⟨(k,l),.head _,V⟩
    . rcases ai8 h V with h|⟨S,h,V⟩
      . exact .inl h
      . exact .inr ⟨S,.tail _ h,V⟩
def ai9(x c:Int):∀(t:List (Int×List Int)),((eQ t c (dU t c++[x])).map (λp=>1+p.2.length)).sum<=(t.map (λp=>1+p.2.length)).sum+2
 |[]=>by simp[eQ,dU,dH]
 |
  (k,l)::r=>by
  have L:=ai9 x c r;by_cases h:c=k
  . subst h
    have e:dU ((c,l)::r) c=l:=by simp[dU,dH]
    rw[e];simp[eQ];omega
  . have e:dU ((k,l)::r) c=dU r c:=by simp[dU,dH,h]
    rw[e];simp[eQ,h];omega
end
section
variable{f:Nat->gl}{C:bK}{P:List b1}{n ce j:Nat}{g:ar->bY->K->Option ar}{m:Nat}
def SN(w:Int):∀(l:List Int) (s:ar),kY s (l.foldl (λs id=>move s id w) s)/\bL (l.foldl (λs id=>move s id w) s)=bL s
 |[],s=>⟨.refl,rfl⟩
 |
  x::l,s=>by
  have:=SN w l (move s x w);exact⟨(K9 x w).trans this.1,this.2⟩
def aja(a w:Int):∀(l:List Int) (s:ar),kY s (l.foldl (λs id=>mA s id a w) s)/\bL (l.foldl (λs id=>mA s id a w) s)=bL s
 |[],s=>⟨.refl,rfl⟩
 |
  x::l,s=>by
  have:=aja a w l (mA s x a w);exact⟨(SD x a w).trans this.1,this.2.trans (SE x a w)⟩
def ajb{s:ar}{a p q:Nat}(h:In f C P n j p q s)(aP:cB (bl s) a):∃aY,Cm s a=some aY/\In f C P n j p q aY/\bl aY=bl s/\bL aY=bL s:=by
 obtain⟨x,e,ex⟩:=lG aP;unfold Cm;refine rO ?_;obtain⟨m1,gH⟩:=SN 4 x.aside s;have B:=h.base.aI _ _ ex;have b:(x.aside.foldl (λs id=>move s id 4) s).aI[a -1]?=some x:=by rw[m1.aI];exact ex
 have h1:=h.hT m1;refine⟨_,rfl,lI h1 b ?_,by rw[j9,m1.aT],?_⟩
 . rw[m1.aT]
   exact⟨B.id,B.par,B.kind,B.slots,B.lb,B.kids,(λv V=>by cases V),(λv V=>by rcases kP.1 V with V|V;exact B.front v V;exact B.aside v (List.mem_reverse.1 V)),B.cF,B.j0⟩
 . have:=lH (y:={x with front:=x.front++x.aside.reverse,aside:=[]}) b
   simp only[im,ep,ajc,lk]at this;omega
variable(N:C.ok)(az:ce<1099511627776)(cL:n<=br)
include N az cL
theorem awo(aX:eg f C P n ce j m g){s:ar}{a:Nat}{l:cV}{e:fw}{k:K}{cancel:ar->List Int->K->Option ar}(h:In f C P n j 0 0 s)(aP:cB (bl s) a)(aw:ue (bl s) l)(Y:Cd P e)
 (a2:∀aY ids,In f C P n j 0 0 aY->bl aY=bl s->(∀v∈ids,dI (bl aY) .ju v)->bL aY<=bL s->Good f C P n ce (cancel aY ids k))
 (hk:cR C P (bl s) k)(aQ:cZ k)(z:dy k<=2)(W:bL s+bw k+10<=ce)(bb:bw k<m):Good f C P n ce (Fc C g j s a l e cancel k):=by
 obtain⟨x,aB,ex⟩:=lG aP;have B:=h.base.aI _ _ ex;have d:o1 (bl s) (max l.cw 0):=⟨by omega,by have:=aw.cw;omega⟩;have w:=awn (ref:=e.ref) aP.z0 d (show o1 (bl s) (x.parent:Int)from⟨by omega,by have:=B.par;omega⟩) B.lb;unfold Fc;rw[aB];have t:(nq e.slot).getD 0<4:=by unfold nq;(repeat' split)<;>simp
 show Good f C P n ce (zP C g j s a x e (max l.cw 0) (hi e.ref a (max l.cw 0) x.parent x.slots) ((nq e.slot).getD 0) cancel k)
 generalize (nq e.slot).getD 0=slot at*
 generalize hi e.ref a (max l.cw 0) x.parent x.slots=who at*
 generalize max l.cw 0=snd at*
 have U:=Y.1;have M:=Y.2.1;have i:=Y.2.2;clear Y;unfold zP;by_cases c1:e.do'=1
 . rw[bg c1];exact SK N az cL h ⟨w,aP.z0.2,i⟩ hk aQ z ae
 rw[a6 c1];by_cases bk:e.do'=2
 . rw[bg bk];exact jF h (λal=>⟨.inr rfl,rfl⟩) ⟨aP,M bk,t,hk,aQ,z⟩ rfl ae
 rw[a6 bk];by_cases b0:e.do'=10
 . rw[bg b0]
   have hp:=lH (y:={x with slots:=x.slots.set slot snd}) ex;refine aX.dA (lI h ex ⟨B.id,B.par,B.kind,by simp[B.slots],λv V=>?_,B.kids,B.aside,B.front,B.cF,B.j0⟩) OZ aQ IA bb;rcases ah4 V with V|rfl
   . exact B.lb v V
   . exact d
 rw[a6 b0];by_cases d9:e.do'=5
 . rw[bg d9]
   obtain⟨s1,g8,b,T,O⟩:=ajb h aP;rw[g8];simp only[k3];exact aX.dA b (by rw[T];exact hk) aQ ae bb
 rw[a6 d9];by_cases eT:e.do'=8
 . rw[bg eT];exact jF h (λal=>⟨.inl rfl,rfl⟩) ⟨aP,⟨aP.z0,aP.z0.2,i⟩,hk,aQ,z⟩ rfl ae
 rw[a6 eT];by_cases ge:e.do'=9
 . rw[bg ge]
   have hp:=lH (y:={x with timers:=ov x.timers e.name}) ex;have g5:((ov x.timers e.name).map (λp=>1+p.2.length)).sum<=(x.timers.map (λp=>1+p.2.length)).sum:=ai4 _ _;refine a2 _ _ (lI h ex ⟨B.id,B.par,B.kind,B.slots,B.lb,B.kids,B.aside,B.front,B.cF,λp hp=>B.j0 p (ai3 hp)⟩) j9 (λv V=>?_) IA;rw[j9];obtain⟨p,aH,bm⟩:=SM V;exact B.j0 p aH v bm
 rw[a6 ge,bg (show e.do'=6\/e.do'=7 by omega)];by_cases S:who=0\/who=a
 . rw[bg S];exact aX.dA h hk aQ ae bb
 rw[a6 S];have r:=w.1;have qr:who<=s.aI.length:=w.2;have hH:=h.base.na;by_cases c:e.do'=6
 . rw[bg c];exact awl N az cL h aP (⟨by omega,by show _<=s.aI.length;omega⟩) hk aQ z ae
 rw[a6 c,bg ⟨by omega,by omega⟩];have hp:=lH (y:={x with watched:=x.watched.erase who}) ex;have o:=ai6 x.watched who;have q:=lI h ex (y:={x with watched:=x.watched.erase who}) ⟨B.id,B.par,B.kind,B.slots,B.lb,B.kids,B.aside,B.front,B.cF,B.j0⟩;obtain⟨fK,g6,_⟩:=q.bq;exact jF q (λal=>SJ bN (aP.act h.base) ⟨by omega,by omega⟩ g6.len) OZ (aiP aQ awi) IA
def awp:eE->Prop
 |.cancel _=>False
 |.push _ _=>False
 |_=>True
def ajd:eE->Nat
 |.cancel _=>2
 |_=>1
theorem awq(aX:eg f C P n ce j m g){s:ar}{ids:List Int}{k:K}(h:In f C P n j 0 0 s)(V:∀v∈ids,dI (bl s) .ju v)(hk:cR C P (bl s) k)(aQ:cZ k)(z:dy k<=2)(W:bL s+bw k<=ce)(bb:bw k<m):Good f C P n ce (zQ C g j s ids k):=by
 unfold zQ Fe;split
 . exact aX.dA h hk aQ W bb
 . rename_i bn
   have d5:0<ids.length:=ae;unfold nV;simp only[cq d5,bind,Option.bind];exact jF h (λal=>aiW (V _ (sz d5))) ⟨⟨rfl,V⟩,d5,hk,aQ,z⟩ JE ae
theorem Ff(aX:eg f C P n ce j m g){s:ar}{d:eE}{i c:Nat}{k:K}(h:In f C P n j 0 0 s)(aQ:Ce P (bl s) d c)(al:i<=c)(hk:cR C P (bl s) k)(v:cZ k)(z:dy k<=ajd d)(W:bL s+bw k+10<=ce)(bb:bw k<m)
 (g2:awp d->bL s+bw k+wd d i c+10<=ce/\bw k+wd d i c<m):Good f C P n ce (nW C g j s d i c k):=by
 unfold nW;split
 . exact aX.dA h hk v ae bb
 . rename_i bn
   have d5:i<c:=ae;have m7:cR C P (bl s) (.each d i c k):=⟨aQ,d5,hk,v,by cases d<;>exact z⟩;have u:dy (.each d i c k)<=2\/∃ids,d=.cancel ids:=by
    cases d with
    |cancel ids=>exact .inr ⟨ids,rfl⟩
    |_=>exact .inl (by show dy k+1<=2;have:dy k<=1:=z;omega)
   have w:bw (.each d i c k)=bw k+wd d i c:=rfl;unfold nV;cases d with
   |
    c0 a id p=>
    obtain⟨d1,t,R,r,o⟩:=aQ;have ip:=u.resolve_right (fun⟨_,e⟩=>by cases e);obtain⟨y,B⟩:=g2 trivial;obtain⟨l,el,b⟩:=La t;have hp:i<p.b8.length:=ae;simp only[el,cq hp,bind,Option.bind];refine awo N az cL aX h d1 (h.base.lets l b) (o _ (sz hp)) (λaY ids q T V d2=>?_) m7 trivial ip ae ae;exact awq N az cL aX q V (by rw[T];exact m7) trivial ip ae ae
   |
    cancel ids=>
    have hp:i<ids.length:=O0;simp only[cq hp,bind,Option.bind];exact jF h (λal=>aiW (aQ.2 _ (sz hp))) m7 JE ae
   |
    leave due=>
    obtain⟨y,B⟩:=g2 trivial;have hp:i<due.length:=O0;simp only[cq hp,bind,Option.bind];exact aiX N az cL aX h (aQ.2.2 _ (sz hp)) m7 trivial Qb ae ae
   |
    push l what=>
    have hp:i<l.length:=O0;simp only[cq hp,bind,Option.bind];have V:=(aQ.2.2 _ (sz hp)).cB.1;have O:=aQ.2.1;exact Ch N az cL h V ⟨(show 0<=what/\what<=4 by omega),⟨vB _,(show(0:Int)<=((bl s).na:Int) by omega)⟩,(λe=>by replace e:what=1:=e;omega)⟩ m7 trivial Qb ae
   |
    mz a=>
    obtain⟨y,B⟩:=g2 trivial;obtain⟨d1,t,R⟩:=aQ;show Good f C P n ce (if i+1=a then g s dA (.each (.mz a) i c k)else xO C j s (i+1) a (.each (.mz a) i c k));split
    . exact aX.dA h m7 trivial ae ae
    . exact aiY N az cL h uL d1 m7 trivial Qb ae
theorem SO(aX:eg f C P n ce j m g){s:ar}{l:List Int}{what:Int}{k:K}(h:In f C P n j 0 0 s)(V:∀v∈l,dI (bl s) .act v)(O:what=0\/what=2)(hk:cR C P (bl s) k)(aQ:cZ k)(z:dy k<=1)(W:bL s+bw k+10<=ce)(bb:bw k<m):Good f C P n ce (xP C g j s l what k):=
 Ff N az cL aX h ⟨rfl,O,V⟩ (fc _) hk aQ z W bb (λh=>h.elim)
theorem SP(aX:eg f C P n ce j m g){s:ar}{a:Nat}{k:K}(h:In f C P n j 0 0 s)(aP:cB (bl s) a)(hk:cR C P (bl s) k)(aQ:cZ k)(z:dy k<=0)(W:bL s+bw k+276<=ce)(bb:bw k+256<m):Good f C P n ce (s3 C g j s a k):=by
 obtain⟨x,e,ex⟩:=lG aP;have B:=h.base.aI _ _ ex;unfold s3;refine rO ?_;split
 . exact JS
 . have h1:=lI h ex (y:=BE) abx
   have hp:=lH (y:=BE) ex;simp only[im]at hp;obtain⟨s1,aB,m1,gH⟩:=qh (s:=c7 s a BE) {c3 with kind:=13,dK:=a} oS;rw[aB];simp only;have E:bl s1=bl s:=Ea;exact SO N az cL aX (h1.hT m1) (by rw[E];exact B.kids) (.inl rfl) (by rw[E];exact⟨aP,hk,aQ,z⟩) trivial IB IC IC
theorem aje(aX:eg f C P n ce j m g){s:ar}{a:Nat}{reason:cy}{k:K}(h:In f C P n j 0 0 s)(aP:cB (bl s) a)(hk:cR C P (bl s) k)(aQ:cZ k)(z:dy k<=0)(W:bL s+bw k+286<=ce)(bb:bw k+256<m):Good f C P n ce (uh C g j s a reason k):=by
 obtain⟨x,e,ex⟩:=lG aP;have B:=h.base.aI _ _ ex;unfold uh;refine rO ?_;have h1:=lI h ex (y:=rN) abx;have hp:=lH (y:=rN) ex;simp only[im]at hp;obtain⟨s1,aB,m1,gH⟩:=qh (s:=c7 s a rN) {c3 with kind:=9,dK:=a,name:=reason} oS;rw[aB];simp only;have E:bl s1=bl s:=Ea;have i1:In f C P n j 0 0 s1:=h1.hT m1;split
 . exact SP N az cL aX i1 ID Eb aQ z ae bb
 . rename_i bn
   refine Ch N az cL i1 (by rw[E];exact⟨by omega,B.par⟩) ⟨(show(0:Int)<=1/\(1:Int)<=4 by decide),by rw[E];exact aP.z0,λ_=>?_⟩ Eb aQ ae ae;have:=aP.1;show(1:Int)<=(a:Int);omega
theorem awr{s:ar}{a:Nat}{k:K}(h:In f C P n j 0 0 s)(aP:cB (bl s) a)(hk:cR C P (bl s) k)(aQ:cZ k)(z:dy k<=0)(W:bL s<=ce):Good f C P n ce (Fg j s a k):=by
 obtain⟨x,e,ex⟩:=lG aP;have B:=h.base.aI _ _ ex;unfold Fg;refine rO ?_;have h1:=lI h ex (y:=Qy) ⟨B.id,B.par,B.kind,B.slots,B.lb,B.kids,zk,zk,B.cF,B.j0⟩;have hp:=lH (y:=Qy) ex;simp only[im,lk]at hp;obtain⟨s1,aB,m1,gH⟩:=Lb (why:=2) bN (x.front.reverse++x.aside) (s:=c7 s a Qy)
  (λv V=>by rw[j9];rcases kP.1 V with V|V;exact B.front v (List.mem_reverse.1 V);exact B.aside v V) (by rw[ep,ajc];unfold most;omega)
 rw[ep,ajc]at gH;have E:bl s1=bl s:=Ea;simp only[aB];exact jF (h1.hT m1) (λal=>Cf (aP.act h.base) (.inr (.inr rfl))) (by rw[E];exact⟨aP,hk,aQ,z⟩) JE ae
theorem ajf(aX:eg f C P n ce j m g){s:ar}{a:Nat}{k:K}(h:In f C P n j 0 0 s)(aP:cB (bl s) a)(hk:cR C P (bl s) k)(aQ:cZ k)(z:dy k<=0)(W:bL s+bw k+10<=ce)(bb:bw k<m):Good f C P n ce (rU g j s a k):=by
 obtain⟨x,e,ex⟩:=lG aP;have B:=h.base.aI _ _ ex;unfold rU;refine rO ?_;split
 . exact aX.dA h hk aQ ae bb
 . split
   . exact awr N az cL h aP hk aQ z ae
   . split
     . obtain⟨st,r,gc⟩:∃st r,x.kind.states=st::r:=by
        cases aj:x.kind.states with
        |nil=>exact absurd aj B.kind.st
        |cons st r=>exact⟨st,r,rfl⟩
       have fG:x.kind.states[0]?=some st:=by rw[gc];rfl
       simp only[fG];have h1:=lI h ex (y:=El) ⟨B.id,B.par,B.kind,rfl,(λv V=>by simp at V;subst V;exact⟨vB _,(show(0:Int)<=((bl s).na:Int) by omega)⟩),B.kids,B.aside,B.front,zk,B.j0⟩;have hp:=lH (y:=El) ex;simp only[im,lk]at hp;obtain⟨s1,g8,b,T,O⟩:=ajb h1 IE;simp only[g8];have gt:bl s1=bl s:=by rw[T,j9]
       obtain⟨i,aB,c⟩:=lG (by rw[gt];exact aP);have d:=b.base.aI _ _ c;simp only[aB];have h2:=lI b c (y:={i with mode:=1}) ⟨d.id,d.par,d.kind,d.slots,d.lb,d.kids,d.aside,d.front,d.cF,d.j0⟩;have t:=lH (y:={i with mode:=1}) c;simp only[im]at t;obtain⟨b9,bB,I,sP⟩:=qh (s:=c7 s1 a {i with mode:=1}) {c3 with kind:=12,dK:=a} oS;rw[bB];exact aX.dA (h2.hT I) (by rw[I.aT,j9,gt];exact hk) aQ ae bb
     . exact aX.dA h hk aQ ae bb
theorem SQ(aX:eg f C P n ce j m g){s:ar}{a:Nat}{x:da}{d:Int}{k:K}(h:In f C P n j 0 0 s)(aP:cB (bl s) a)(ag:sX (bl s) x)(T:1<=x.who)(hk:cR C P (bl s) k)(aQ:cZ k)(z:dy k<=0)(W:bL s+bw k+296<=ce)(bb:bw k+256<m):Good f C P n ce (rV C g j s a x d k):=by
 unfold rV;obtain⟨s1,aB,m1,gH⟩:=qh (s:=s) {c3 with kind:=10,dK:=x.who,cw:=a,why:=d,name:=x.reason} oS;rw[aB];simp only[bind,Option.bind];have E:bl s1=bl s:=m1.aT;have i1:In f C P n j 0 0 s1:=h.hT m1;have O:cB (bl s1) x.who.toNat:=by rw[E];have:=ag.who.2;exact uL
 have M:∀w:Int,(w=0\/w=2\/w=3)->sX (bl s1) ⟨w,0,[]⟩:=λw O=>⟨(show 0<=w/\w<=4 by omega),⟨vB _,(show(0:Int)<=((bl s1).na:Int) by omega)⟩,(λe=>by replace e:w=1:=e;omega)⟩;split
 . exact Ch N az cL i1 O (M 2 ae) Eb aQ ae ae
 . split
   . exact Ch N az cL i1 O (M 3 ae) Eb aQ ae ae
   . split
     . exact Ch N az cL i1 O (M 0 ae) Eb aQ ae ae
     . obtain⟨y,e,q⟩:=lG ID
       have B:=i1.base.aI _ _ q;simp only[e];have d7:∀v∈ou y.cF x.who,dI (bl s1) .act v:=λv V=>by
        unfold ou at V;split at V
        . exact B.cF v V
        . rcases kP.1 V with V|V
          . exact B.cF v V
          . simp at V;subst V;exact⟨T,by rw[E];exact ag.who.2⟩
       have h1:=lI i1 q (y:={y with cF:=ou y.cF x.who}) ⟨B.id,B.par,B.kind,B.slots,B.lb,B.kids,B.aside,B.front,d7,B.j0⟩;have hp:=lH (y:={y with cF:=ou y.cF x.who}) q;have aw:=aiT y.cF x.who;simp only[im]at hp;split
       . exact aje N az cL aX h1 (by rw[j9,E];exact aP) (by rw[j9,E];exact hk) aQ z ae bb
       . exact aX.dA h1 (by rw[j9,E];exact hk) aQ ae ae
theorem aws(aX:eg f C P n ce j m g){s:ar}{a:Nat}{x:da}{k:K}(h:In f C P n j 0 0 s)(aP:cB (bl s) a)(ag:sX (bl s) x)(T:1<=x.who)(hk:cR C P (bl s) k)(aQ:cZ k)(z:dy k<=0)(W:bL s+bw k+306<=ce)(bb:bw k+256<m):Good f C P n ce (xQ C g j s a x k):=by
 obtain⟨y,e,q⟩:=lG aP;unfold xQ;refine rO ?_;split
 . exact JS
 . split
   . exact SQ N az cL aX h aP ag T hk aQ z ae bb
   . exact jF h (λal=>awh) ⟨aP,ag,T,hk,aQ,z⟩ ⟨_,rfl⟩ ae
theorem awt(aX:eg f C P n ce j m g){s:ar}{a:Nat}{x:da}{k:K}(h:In f C P n j 0 0 s)(aP:cB (bl s) a)(ag:sX (bl s) x)(hk:cR C P (bl s) k)(aQ:cZ k)(z:dy k<=0)(W:bL s+bw k+316<=ce)(bb:bw k+256<m):Good f C P n ce (vM C g j s a x k):=by
 obtain⟨y,e,q⟩:=lG aP;have B:=h.base.aI _ _ q;unfold vM;refine rO ?_;split
 . exact SP N az cL aX h aP hk aQ z ae bb
 . split
   . rename_i h1
     exact aws N az cL aX h aP ag (ag.aG h1) hk aQ z ae bb
   . split
     . split
       . exact JS
       . have h1:=lI h q (y:={y with mode:=1,cF:=[]}) ⟨B.id,B.par,B.kind,B.slots,B.lb,B.kids,B.aside,B.front,(λv V=>by cases V),B.j0⟩
         have hp:=lH (y:={y with mode:=1,cF:=[]}) q;simp only[im,lk]at hp;obtain⟨s1,aB,m1,gH⟩:=qh (s:=c7 s a {y with mode:=1,cF:=[]}) {c3 with kind:=11,dK:=a} oS;rw[aB];exact SO N az cL aX (h1.hT m1) (by rw[m1.aT,j9];exact B.cF) (.inr rfl) (by rw[m1.aT,j9];exact hk) aQ ae ae ae
     . split
       . split
         . exact JS
         . have h1:=lI h q (y:={y with mode:=3}) ⟨B.id,B.par,B.kind,B.slots,B.lb,B.kids,B.aside,B.front,B.cF,B.j0⟩
           have hp:=lH (y:={y with mode:=3}) q;simp only[im]at hp;exact SO N az cL aX h1 (by rw[j9];exact B.kids) (.inl rfl) (by rw[j9];exact⟨aP,hk,aQ,z⟩) trivial IB IC IC
       . split
         . have h1:=lI h q (y:={y with kids:=del y.kids x.who,cF:=del y.cF x.who,given:=qd y.given x.who}) ⟨B.id,B.par,B.kind,B.slots,B.lb,λv V=>B.kids v (ai2 V),B.aside,B.front,λv V=>B.cF v (ai2 V),B.j0⟩
           have hp:=lH (y:={y with kids:=del y.kids x.who,cF:=del y.cF x.who,given:=qd y.given x.who}) q;have di:=SL y.kids x.who;have M:=SL y.cF x.who;have aly:=ai5 y.given x.who;simp only[im]at hp;exact ajf N az cL aX h1 IE OZ aQ z ae ae
         . exfalso;have:=ag.what;omega
end
structure iN(P:List b1):Prop where
 ne:P≠[]
 kinds:∀k∈P,SB P k
section
variable{f:Nat->gl}{C:bK}{P:List b1}{n ce j:Nat}{g:ar->bY->K->Option ar}{m:Nat}
def ajg{s:ar}{b:Bool}(h:In f C P n j 0 0 s)(W:bL s<=ce):Good f C P n ce (sleep j s b):=by
 obtain⟨t,M,B⟩:=h.j1;unfold sleep;simp only[M,bind,Option.bind];refine adv ?_;intro al h1 h2;refine⟨al,h1,λi u e=>?_⟩;replace e:(s.aC.set j {t with jg:=b})[i]?=some u:=e;by_cases g1:j=i
 . subst g1
   obtain⟨d5,rfl⟩:=dd.1 e;rw[y3];exact⟨(h2 j t M).on,(h2 j t M).iL,(h2 j t M).oJ⟩
 . rw[qD g1]at e;exact h2 i u e
theorem ajh{s:ar}{l:cV}{nN:Bool}{r:bY}(cL:n<=br)(az:ce<1099511627776)(h:In f C P n j 1 0 s)(aw:ue (bl s) l)(aD:r=.gm ((s.lets.length+1:Nat):Int))(W:bL s+1<=ce):
 ∃aY id,enter s l nN r=some (aY,id)/\In f C P n j 0 0 aY/\(bl s).le (bl aY)/\dI (bl aY) .ju id/\bL aY=bL s+1:=by
 subst aD;have H:br=1000000000000:=rfl;have bn:=h.num.oW;have bb:s.lets.length<most:=oS;unfold enter;simp only;rw[bg ⟨trivial,bb⟩];obtain⟨s1,aB,m1,gH⟩:=qh (s:=I4) {c3 with kind:=2,id:=((s.lets.length+1:Nat):Int),cw:=l.cw,to:=l.to,name:=l.tag,n:=l.n,nN:=nN} (by unfold most;show bL s<_;omega);rw[aB];have b:(bl s).le (bl I4):=⟨eh _,by simp,eh _⟩;have i1:In f C P n j 0 0 I4:=by
  refine h.more (aY:=I4) rfl rfl rfl b ⟨h.base.xL,h.base.na,λi x e=>(h.base.aI i x e).mono b,λx ag=>?_,λx ag=>(h.base.notes x ag).mono b,h.base.uf,h.base.bf.1.acc,by have h1:=YY (r:=s.bf) (id:=((s.lets.length+1:Nat):Int)) (w:=1);have h2:=h.base.bf.2;show _<=(s.lets++[l]).length;simp only[ep,iY,lk];omega⟩ ⟨?_,?_,h.num.di,h.num.mu,h.num.mw⟩
  . rcases kP.1 ag with ag|ag
    . exact(h.base.lets x ag).mono b
    . simp at ag;subst ag;exact aw.mono b
  . rw[h.num.ni];simp
  . simp only[ep,iY,lk];omega
 refine⟨s1,_,rfl,i1.hT m1,by rw[m1.aT];exact b,?_,gH⟩;rw[m1.aT];exact⟨(by omega:(1:Int)<=((s.lets.length+1:Nat):Int)),(by show((s.lets.length+1:Nat):Int)<=((s.lets++[l]).length:Nat);simp)⟩
theorem awu{s:ar}{a:Nat}{kind:cy}{v:Int}(dm:iN P)(az:ce<1099511627776)(h:In f C P n j 0 1 s)(aP:cB (bl s) a)(hk:(lf P kind).isSome=true)(V:v=s.L.getD 1 0)(K:v<=C.aZ)(W:bL s+10<=ce):
 ∃aY,vN C P s v.toNat a kind=some aY/\In f C P n j 0 0 aY/\(bl s).le (bl aY)/\dI (bl aY) .act v/\bL aY<=bL s+10:=by
 obtain⟨k,dJ⟩:=RZ.1 hk;have B:=dm.kinds k (ai1 dJ);obtain⟨st,r,gc⟩:∃st r,k.states=st::r:=by
  cases aj:k.states with
  |nil=>exact absurd aj B.st
  |cons st r=>exact⟨st,r,rfl⟩
 have fG:k.states[0]?=some st:=by rw[gc];rfl
 have di:=h.num.di;have mu:=h.num.mu;have mw:=h.num.mw;rw[<-V]at di mu mw;have hH:v=(s.aI.length:Int)+1:=ae;obtain⟨u,g,o⟩:=lG aP;have t:=h.base.aI _ _ o;unfold vN;simp only[dJ,fG,bind,Option.bind];rw[bg ae];simp only[g]
 generalize l:(s.aI.set (a -1) {u with kids:=u.kids++[((v.toNat:Nat):Int)]})++[(⟨v.toNat,a,k,st.name,[0,0,0,0],[],1,[],[],[],[],[],[]⟩:bQ)]=c
 have hlen:c.length=s.aI.length+1:=by rw[<-l];simp
 have ph:bL {s with aI:=c}<=bL s+1:=by
  have:=SF (y:={u with kids:=u.kids++[((v.toNat:Nat):Int)]}) o;simp only[bL,<-l,o6,List.sum_append,gz,mO,SG,List.sum_nil];simp only[im,ep,iY,lk,mO,List.sum_nil]at this⊢;omega
 obtain⟨s1,aB,m1,gH⟩:=qh (s:={s with aI:=c}) {c3 with kind:=7,dK:=v.toNat,cw:=a,name:=kind} oS;have b:(bl s).le (bl {s with aI:=c}):=⟨by show s.aI.length<=c.length;omega,eh _,eh _⟩;have q:dI (bl {s with aI:=c}) .act v:=⟨by omega,by show v<=(c.length:Int);omega⟩;have i1:In f C P n j 0 0 {s with aI:=c}:=by
  refine h.more (aY:={s with aI:=c}) rfl rfl rfl b ⟨by show 1<=c.length;omega,by show c.length<=_;omega,λi x e=>?_,λx ag=>(h.base.lets x ag).mono b,λx ag=>(h.base.notes x ag).mono b,h.base.uf,h.base.bf⟩ ⟨h.num.ni,h.num.oW,?_,?_,h.num.mw⟩
  . replace e:c[i]?=some x:=e
    rw[<-l]at e;by_cases al:i<s.aI.length
    . rw[kS CW]at e
      by_cases m:a -1=i
      . subst m
        obtain⟨d5,rfl⟩:=dd.1 e;rw[y3];have d:=t.mono b;refine⟨d.id,d.par,d.kind,d.slots,d.lb,λw O=>?_,d.aside,d.front,d.cF,d.j0⟩;rcases kP.1 O with O|O
        . exact d.kids w O
        . simp at O;subst O;rw[show max v 0=v by omega];exact q
      . rw[qD m]at e;exact(h.base.aI i x e).mono b
    . rw[pQ CW]at e
      simp only[gq]at e;have D:i -s.aI.length=0:=by
       obtain⟨d5,_⟩:=dd.1 e;simp at d5;omega
      rw[D]at e;simp at e;subst e;have d5:i=s.aI.length:=by
       omega
      refine⟨by show v.toNat=i+1;omega,by show a<=c.length;have:=aP.2;have:a<=s.aI.length:=this;omega,B,rfl,λw O=>?_,(λw O=>by cases O),(λw O=>by cases O),(λw O=>by cases O),(λw O=>by cases O),(λp hp=>by cases hp)⟩;simp at O;subst O;exact⟨vB _,by show(0:Int)<=(c.length:Int);omega⟩
  . show(c.length:Int)=min (s.L.getD 1 0 -((0:Nat):Int)) C.aZ;rw[<-V];omega
  . show((0:Nat):Int)+1<=s.L.getD 1 0;rw[<-V];omega
 exact⟨s1,aB,i1.hT m1,by rw[m1.aT];exact b,by rw[m1.aT];exact q,by omega⟩
variable(N:C.ok)(az:ce<1099511627776)(cL:n<=br)
include N az cL
theorem aji{s:ar}{v:Int}(h:In f C P n j 0 0 s)(V:dI (bl s) .act v)(W:bL s<=ce):Good f C P n ce (xR j s v):=by
 unfold xR;have h1:1<=v:=V.1;have h2:v<=s.aI.length:=V.2;rw[bg ⟨h1,h2⟩];have:=V.cB.1;exact jF h (λal=>SI (this.act h.base) Hl) this JE W
theorem ajj(aX:eg f C P n ce j m g){s:ar}{a:Nat}{id:Int}{k:K}(h:In f C P n j 0 0 s)(aP:cB (bl s) a)(cv:dI (bl s) .ju id)(hk:cR C P (bl s) k)(aQ:cZ k)(z:dy k<=0)(W:bL s+bw k+1640<=ce)(bb:bw k+1640<m):Good f C P n ce (s4 C g j s a id k):=by
 obtain⟨x,e,ex⟩:=lG aP;have B:=h.base.aI _ _ ex;obtain⟨l,el,b⟩:=La cv;unfold s4;simp only[e,el,bind,Option.bind];split
 . obtain⟨s1,aB,m1,gH⟩:=xM (why:=5) (λ_ _=>trivial) cv bN (show bL s<most by unfold most;omega)
   exact adf
 . obtain⟨H,G⟩:=awm B.kind x.state l.tag l.n (h.base.lets l b).n
   generalize kZ x.kind x.state l.tag l.n=p at*
   split
   . split
     . obtain⟨s1,aB,m1,gH⟩:=xM (why:=1) (λ_ _=>trivial) cv bN (show bL s<most by unfold most;omega)
       exact adf
     . have h1:=lI h ex (y:={x with aside:=x.aside++[id]}) ⟨B.id,B.par,B.kind,B.slots,B.lb,B.kids,(λv V=>by rcases kP.1 V with V|V;exact B.aside v V;simp at V;subst V;exact cv),B.front,B.cF,B.j0⟩
       have hp:=lH (y:={x with aside:=x.aside++[id]}) ex;simp only[im,ep,iY,lk]at hp;have d:bL (move (c7 s a {x with aside:=x.aside++[id]}) id 3)=bL (c7 s a {x with aside:=x.aside++[id]}):=rfl;obtain⟨s1,aB,m1,gH⟩:=qh (s:=move (c7 s a {x with aside:=x.aside++[id]}) id 3) {c3 with kind:=5,dK:=a,id:=id} oS;simp only[aB];exact aX.dA ((h1.hT (K9 _ _)).hT m1) (by rw[m1.aT,(K9 _ _).aT,j9];exact hk) aQ ae ae
   . have g8:kY s {s with bf:=dg s.bf id 7}:=⟨rfl,rfl,rfl,rfl,rfl,rfl,λh=>h.from bN,Led.yZ⟩
     have i:bL {s with bf:=dg s.bf id 7}=bL s:=rfl;obtain⟨s1,aB,m1,gH⟩:=qh (s:={s with bf:=dg s.bf id 7}) {c3 with kind:=3,dK:=a,id:=id} oS;simp only[aB];have i1:=(h.hT g8).hT m1;have gt:bl s1=bl s:=by rw[m1.aT,g8.aT]
     have c:s1.aI[a -1]?=some x:=by rw[m1.aI];exact ex
     have dl:=ai6 x.watched l.cw;have ah:AOk P (bl s1) (a -1) (if l.qi=true then{x with watched:=x.watched.erase l.cw}else x):=by
      rw[gt];split
      . exact⟨B.id,B.par,B.kind,B.slots,B.lb,B.kids,B.aside,B.front,B.cF,B.j0⟩
      . exact B
     have aj:im (if l.qi=true then{x with watched:=x.watched.erase l.cw}else x)<=im x:=by
      split
      . simp only[im];omega
      . exact eh _
     have h2:=lI i1 c ah;have hp:=lH (y:=(if l.qi=true then{x with watched:=x.watched.erase l.cw}else x)) c;have w:bw (.ended a id p k)=bw k+1000:=rfl;have Y:wd (.c0 a id p) 0 p.b8.length=64*(p.b8.length -0)+64:=rfl;exact Ff N az cL aX h2 (by rw[j9,gt];exact⟨aP,cv,rfl,H,G⟩) (fc _) (by rw[j9,gt];exact⟨aP,hk,aQ,z⟩) trivial IB ae ae (λ_=>⟨by omega,by omega⟩)
theorem ajk(aX:eg f C P n ce j m g){s:ar}{a left:Nat}(h:In f C P n j 0 0 s)(aP:cB (bl s) a)(aw:left<=16)(W:bL s<=ce)(O:1<=left->bL s+nm (left -1)+1710<=ce/\nm (left -1)+1710<m):Good f C P n ce (rW C g j s a left):=by
 obtain⟨x,e,ex⟩:=lG aP;have B:=h.base.aI _ _ ex;unfold rW;refine rO ?_;split
 . exact aiZ N az cL h aP W
 . split
   . exact jF h (λal=>SI (aP.act h.base) ⟨by decide,by decide⟩) aP (λ_ _ e=>by cases e) W
   . rename_i bn
     obtain⟨aG,a7⟩:=O ae;split
     . rename_i id cv
       have b:id∈x.front:=List.mem_of_getLast? cv;have h1:=lI h ex (y:={x with front:=x.front.dropLast}) ⟨B.id,B.par,B.kind,B.slots,B.lb,B.kids,B.aside,λv V=>B.front v ((List.dropLast_sublist _).subset V),B.cF,B.j0⟩;have hp:=lH (y:={x with front:=x.front.dropLast}) ex;simp only[im,ajl]at hp;have w:bw (.next a left)=nm (left -1)+64:=rfl;exact ajj N az cL aX h1 IE (by rw[j9];exact B.front _ b) (by rw[j9];exact⟨aP,by omega,aw⟩) trivial (eh _) ae ae
     . exact jF h (λal=>Cf (aP.act h.base) (.inl rfl)) ⟨aP,by omega,aw⟩ ⟨λ_=>⟨_,rfl,rfl⟩,(λe=>by simp[Cn]at e)⟩ W
end
end Go.L.Th
