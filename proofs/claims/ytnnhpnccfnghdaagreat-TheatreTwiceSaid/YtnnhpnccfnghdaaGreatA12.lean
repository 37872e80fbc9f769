import Derived.Test.YtnnhpnccfnghdaaGreatA11
set_option linter.all false
set_option maxHeartbeats 8000000
namespace Go.L.Th
open Go.L Go.L.Lx Go.L.Pg Go.L.Ring Go.L.dD Go.L.ej Go.L.Whl Go.L.dP Go.L.Led
abbrev vt(r:Bool):qE:=if r then .zJ else .jy
structure iQ(f:Nat->ga)(C:bO)(len:Nat):Prop where
 KY:∀i c,f i=.rA c->f (i+1)=.val c
 eA:f 0=.jf
 c1:f 1=.jf
 KZ:∀w,w<C.bc->f (C.bC.b+w)=.none
 gate:nL f C.bC.ek C.aT .act len
 ih:∀w,w<C.bc->xq f (C.bC.cq w) C.eX w len
 now:f C.df.b=.none
 ey:nL f (C.df.b+1) C.iS .ask len
 ht:∀i,C.bl<=i->i<C.gS->f i=.none
 st:∀a,1<=a->a<=C.aT->f (C.box a).b=.none/\f ((C.box a).b+1)=.none
 box:∀a r,1<=a->a<=C.aT->nL f ((C.box a).ev r) ((C.box a).e1 r) (vt r) len
section
variable{f:Nat->ga}{C:bO}{F y:gA}{q:nK}{L E:List Int}
def K0{b n:Nat}{o:hN}(ba:∀w,w<n->f (b+w)=.none)(R:o.w<n):gX f F q L (qf b n L o):=by
 unfold qf;split
 . exact .same
 . have h:=ba _ R
   unfold qd;split
   . exact .put h trivial
   . exact .put h trivial
   . exact .iff (λ_=>.put h trivial) zk
   . exact .same
def E2(j:Nat):Src->Prop
 |.pop w=>w=j
 |_=>True
def sI(C:bO)(F:gA)(ak:Nat->Nat)(j:Nat)(L:List Int):tv->Prop
 |.push w o v=>w=j/\w<C.bc/\tT F (C.bC.cq w) C.eX (ak w) L o/\o.pc<=3/\dU F .act v
 |.enter o v=>sH F C.bC.ek C.aT L o/\o.en=false/\dU F .act v
 |.ih w o l=>w<C.bc/\tT F (C.bC.cq w) C.eX (ak w) L o/\4<=o.pc/\(o.pc<=9->w=j)/\∀s∈l,E2 j s
 |.mU o l=>sH F C.bC.ek C.aT L o/\o.en=true/\∀s∈l,E2 j s
 |.k1 w o=>sH F C.bC.ek C.aT L o/\o.en=true
 |.up w v o=>dU F .act v
 |_=>True
def wQ:tv->Prop
 |.ih _ _ _=>True
 |.mU _ _=>True
 |.qg _ _=>True
 |.k1 _ _=>True
 |.up _ _ _=>True
 |_=>False
def tV(F:gA)(c:gC):Prop:=(c.out=0->wQ c.ph)/\(c.out=1->dU F .act c.val)
def sJ(c:gC):Prop:=c.out=0/\∃w o l,c.ph=.ih w o l/\E1 o
section
variable{B:kZ}{v:Int}{ak:Nat->Nat}{j:Nat}{c:gC}
theorem sI.mono(l:F.le y){ak:Nat->Nat}{j:Nat}{p:tv}(h:sI C F ak j L p):sI C y ak j L p:=by
 cases p with
 |push w o v=>exact⟨h.1,h.2.1,h.2.2.1.mono l,h.2.2.2.1,h.2.2.2.2.mono l⟩
 |enter o v=>exact⟨h.1.mono l,h.2.1,h.2.2.mono l⟩
 |ih w o s=>exact⟨h.1,h.2.1.mono l,h.2.2⟩
 |mU o s=>exact⟨h.1.mono l,h.2⟩
 |k1 w o=>exact⟨h.1.mono l,h.2⟩
 |up w v o=>exact dU.mono l (show dU F .act v from h)
 |_=>trivial
theorem tV.mono(l:F.le y){c:gC}(h:tV F c):tV y c:=⟨h.1,λe=>(h.2 e).mono l⟩
theorem sI.stay(cL:iQ f C L.length)(wr:gX f F q L E){ak fP:Nat->Nat}(co:∀w,ak w<=fP w){j:Nat}(bt:q≠.own j){p:tv}(h:sI C F ak j L p):sI C F fP j E p:=by
 cases p with
 |push w o v=>obtain⟨rfl,h2,aN,bA⟩:=h;exact⟨rfl,h2,aN.stay (cL.ih w h2) wr (λ_=>bt) (co w),bA⟩
 |enter o v=>exact⟨h.1.stay cL.gate wr,h.2⟩
 |ih w o l=>exact⟨h.1,h.2.1.stay (cL.ih w h.1) wr (λa=>by rw[h.2.2.2.1 a];exact bt) (co w),h.2.2⟩
 |mU o l=>exact⟨h.1.stay cL.gate wr,h.2⟩
 |k1 w o=>exact⟨h.1.stay cL.gate wr,h.2⟩
 |up w v o=>exact h
 |_=>trivial
def vu(C:bO)(F:gA)(ak:Nat->Nat)(L:List Int):Prop:=∀w,w<C.bc->vs F (C.bC.cq w) C.eX (ak w) L
theorem vu.stay(cL:iQ f C L.length)(wr:gX f F .no L E){ak:Nat->Nat}(h:vu C F ak L):vu C F ak E:=λw R=>(h w R).stay (cL.ih w R) wr gl rfl
theorem E3{b n:Nat}{en:Bool}{v:Int}(h:en=false->dU F .act v):sH F b n L (kr en v):=λ_=>
 ⟨h,Ql,Ql,Ql⟩
theorem Sd(O:j<C.bc){l:List Src}(h:∀s∈l,E2 j s)(h2:∀s∈l,AM C.bC s):((lv l).out=0->sI C F ak j L (lv l).ph)/\tV F (lv l):=by
 cases l with
 |nil=>exact⟨BF,BF,BF⟩
 |
  cons s l=>
  have h1:=h s (.head _);have aN:=h2 s (.head _);have aw:∀s∈l,E2 j s:=λx ah=>h x (.tail _ ah);cases s with
  |pop w=>exact⟨λ_=>⟨aN,Sc gl (.inr (.inl rfl)),(show 4<=4 by decide),λ_=>h1,aw⟩,λ_=>trivial,BF⟩
  |take=>exact⟨λ_=>⟨E3 gl,rfl,aw⟩,λ_=>trivial,BF⟩
  |lR w=>exact⟨λ_=>⟨aN,Sc gl (.inr (.inr rfl)),(show 4<=10 by decide),(λe=>by simp[mj]at e),aw⟩,λ_=>trivial,BF⟩
def Se(C:bO)(j:Nat)(L:List Int)(c:gC):Prop:=sJ c\/1<=L.getD (C.bC.cq j+1) 0
structure aic(f:Nat->ga)(C:bO)(F:gA)(ak:Nat->Nat)(j:Nat)(L E:List Int)(c aI:gC):Prop where
 wr:gX f F (.own j) L E
 ex:∃fP:Nat->Nat,(∀w,ak w<=fP w/\fP w<=ak w+1)/\vu C F fP E/\(aI.out=0->sI C F fP j E aI.ph)
 en:tV F c->tV F aI
 iP:j<C.bc->Se C j L c->Se C j E aI
theorem zL{aI:gC}(cL:iQ f C L.length)(z:vu C F ak L)(wr:gX f F .no L E)(Z:aI.out=0->sI C F ak j E aI.ph)(en:tV F c->tV F aI)(a:¬sJ c):aic f C F ak j L E c aI:=
 ⟨wr.any,⟨ak,λw=>⟨et _,io _⟩,z.stay cL wr,Z⟩,en,λO aA=>.inr (by rw[wr.iP (cL.ih j O).iP (by simp)];exact aA.resolve_left a)⟩
theorem au9(cL:iQ f C L.length)(aO:0<C.bc)(rc:sG f F L)(K:iv L)(z:vu C F ak L)(aA:∀w,ak w<4611686018427387904)(aJ:c.out=0)(a6:ww C.bC c)(Z:sI C F ak j L c.ph)(I:wQ c.ph->j<C.bc)(E:j<C.bc->Se C j L c):
 aic f C F ak j L (nA C.bC L c) c (lx C.bC L c):=by
 obtain⟨ph,out,val⟩:=c;obtain rfl:out=0:=aJ;obtain⟨Y,A⟩:=a6 rfl;have aC:nA C.bC L ⟨ph,0,val⟩=(h5 C.bC L ⟨ph,0,val⟩).1:=rfl;have aV:lx C.bC L ⟨ph,0,val⟩=(h5 C.bC L ⟨ph,0,val⟩).2:=rfl;rw[aC,aV];refine V9 ?_;intro mW u;cases ph with
 |
  push w o v=>
  obtain⟨rfl,R,aS,m,s⟩:=Z;obtain⟨_,bK,T,_⟩:=Y;have D:=cL.ih w R;have a:¬sJ ⟨.push w o v,0,val⟩:=fun⟨_,_,_,_,e,_⟩=>by cases e
  obtain⟨W,⟨g4,dv,O,cU,em⟩,_,gc,hm⟩:=aib (f:=f) D K (z w R) (aA w) bK T (aS T) (λ_=>.inr ((E R).resolve_left a));rw[bg ad]at W;have co:∀x,ak x<=(if x=w then g4 else ak x)/\(if x=w then g4 else ak x)<=ak x+1:=λx=>by split;(rename_i e;subst e;exact⟨dv,O⟩);exact⟨et _,io _⟩
  have t:vu C F (λx=>if x=w then g4 else ak x) (mi (C.bC.cq w) C.eX L o):=λx ah=>by
   by_cases e:x=w
   . subst e;simp only[fu];exact cU
   . simp only[a7 e];exact(z x ah).stay (cL.ih x ah) W (λh=>by cases h;exact e rfl) rfl
  have y:1<=(mi (C.bC.cq w) C.eX L o).getD (C.bC.cq w+1) 0:=by
   rcases hm ad with h|h
   . have:=(KX (gc h.1)).1.2 m;have h1:=h.2.1;omega
   . exact h
  simp only[h5];split
  . split
    . exact⟨W,⟨_,co,t,λ_=>⟨E3 λ_=>s,rfl,s⟩⟩,λh=>absurd (h.1 rfl) Bm,λ_ _=>.inr y⟩
    . exact⟨W,⟨_,co,t,λ_=>trivial⟩,λh=>absurd (h.1 rfl) Bm,λ_ _=>.inr y⟩
  . rename_i J
    have:=(KX (gc (mW J))).1.2 m;refine⟨W,⟨_,co,t,λ_=>⟨rfl,R,by simp only[fu];exact em,?_,s⟩⟩,λh=>absurd (h.1 rfl) Bm,λ_ _=>.inr y⟩;exact this
 |
  enter o v=>
  obtain⟨aY,d,s⟩:=Z;obtain⟨bK,T,_⟩:=Y;obtain⟨W,cU,_,gc⟩:=Sa (f:=f) (j:=.no) cL.gate rc bK T (aY T);have a:¬sJ ⟨.enter o v,0,val⟩:=fun⟨_,_,_,_,e,_⟩=>by cases e
  refine zL cL z W ?_ (λh=>absurd (h.1 rfl) Bm) a;simp only[h5];split
  . split
    . exact λ_=>⟨E3 λ_=>s,rfl,s⟩
    . exact λ_=>trivial
  . exact λ_=>⟨cU,gc.trans d,s⟩
 |
  ring o=>
  have a:¬sJ ⟨.ring o,0,val⟩:=fun⟨_,_,_,_,e,_⟩=>by cases e
  exact zL cL z (K0 cL.KZ Y.2.1) (λ_=>trivial) (λh=>absurd (h.1 rfl) Bm) a
 |
  ih w o l=>
  have i:=I trivial;obtain⟨R,aS,m,B,aw⟩:=Z;obtain⟨_,bK,T,H⟩:=Y;have D:=cL.ih w R;have g:o.pc<=9->E1 o\/1<=L.getD (C.bC.cq w+1) 0:=λhp=>by
   obtain rfl:=B hp;rcases E i with h|h
   . obtain⟨_,X,S,g6,e,h⟩:=h;cases e;exact .inl h
   . exact .inr h
  obtain⟨W,⟨g4,dv,O,cU,em⟩,q,gc,hm⟩:=aib (f:=f) D K (z w R) (aA w) bK T (aS T) g;have r:tU o.pc≠0:=by unfold tU;rw[a7 ad];split<;>decide
  have co:∀x,ak x<=(if x=w then g4 else ak x)/\(if x=w then g4 else ak x)<=ak x+1:=λx=>by split;(rename_i e;subst e;exact⟨dv,O⟩);exact⟨et _,io _⟩
  have V:∀x,x≠w->(if o.pc<=9 then nK.own w else nK.no)≠.own x:=λx e h=>by
   by_cases p:o.pc<=9
   . rw[bg p]at h;cases h;exact e rfl
   . rw[a7 p]at h;cases h
  have t:vu C F (λx=>if x=w then g4 else ak x) (mi (C.bC.cq w) C.eX L o):=λx ah=>by
   by_cases e:x=w
   . subst e;simp only[fu];exact cU
   . simp only[a7 e];exact(z x ah).stay (cL.ih x ah) W (V x e) rfl
  have wr:gX f F (.own j) L (mi (C.bC.cq w) C.eX L o):=by
   by_cases p:o.pc<=9
   . rw[bg p,B p]at W;rw[<-B p]at W⊢;exact W
   . rw[a7 p]at W;exact W.any
  -- the bottom of the thread's own deque
  have y:E1 (ji (C.bC.cq w) C.eX L o)/\(ji (C.bC.cq w) C.eX L o).over=false\/1<=(mi (C.bC.cq w) C.eX L o).getD (C.bC.cq j+1) 0:=by
   by_cases p:o.pc<=9
   . obtain rfl:=B p
     rcases hm p with h|h
     . exact .inl ⟨h,by simp[ig.over,h.1]⟩
     . exact .inr h
   . refine .inr ?_
     rw[a7 p]at W;rw[W.iP (cL.ih j i).iP gl];rcases E i with h|h
     . obtain⟨_,X,S,g6,e,h⟩:=h;cases e;exact absurd h.2.2 p
     . exact h
  simp only[h5];split
  . rename_i J
    have M:=y.resolve_left (λh=>Bool.false_ne_true (h.2.symm.trans J));split
    . rename_i h1
      refine⟨wr,⟨_,co,t,(λe=>by simp at e)⟩,λ_=>⟨(λe=>by simp at e),λ_=>?_⟩,λ_ _=>.inr M⟩;show dU F .act (ji (C.bC.cq w) C.eX L o).value;unfold ig.value;rw[bg (show(ji (C.bC.cq w) C.eX L o).out=1 from h1)];exact q h1 r
    . have:=Sd (F:=F) (L:=mi (C.bC.cq w) C.eX L o) (ak:=λx=>if x=w then g4 else ak x) i aw H
      exact⟨wr,⟨_,co,t,this.1⟩,λ_=>this.2,λ_ _=>.inr M⟩
  . rename_i J
    have a6:=gc (mW J);have bA:4<=(ji (C.bC.cq w) C.eX L o).pc:=by
     have:=(KX a6).1;omega
    have p:(ji (C.bC.cq w) C.eX L o).pc<=9->w=j:=λh=>B ((KX a6).2.1 h);refine⟨wr,⟨_,co,t,λ_=>⟨R,by simp only[fu];exact em,bA,p,aw⟩⟩,λ_=>⟨λ_=>trivial,(λe=>by simp at e)⟩,λ_ _=>?_⟩;rcases y with h|h
    . exact .inl ⟨rfl,w,_,l,rfl,h.1⟩
    . exact .inr h
 |
  mU o l=>
  have i:=I trivial;obtain⟨aY,d,aw⟩:=Z;obtain⟨bK,T,H⟩:=Y;obtain⟨W,cU,em,gc⟩:=Sa (f:=f) (j:=.no) cL.gate rc bK T (aY T);have a:¬sJ ⟨.mU o l,0,val⟩:=fun⟨_,_,_,_,e,_⟩=>by cases e
  have U:=Sd (F:=F) (L:=n2 C.bC.ek C.aT L o) (ak:=ak) i aw H;refine zL cL z W ?_ ?_ a
  . simp only[h5]
    split
    . split
      . exact λe=>by simp at e
      . exact U.1
    . exact λ_=>⟨cU,gc.trans d,aw⟩
  . intro _
    simp only[h5];split
    . split
      . rename_i h1
        refine⟨(λe=>by simp at e),λ_=>?_⟩;show dU F .act (iw C.bC.ek C.aT L o).value;unfold hK.value;rw[bg ⟨h1,by rw[gc];exact d⟩];exact em h1 d
      . exact U.2
    . exact⟨λ_=>trivial,(λe=>by simp at e)⟩
 |
  qg w o=>
  have a:¬sJ ⟨.qg w o,0,val⟩:=fun⟨_,_,_,_,e,_⟩=>by cases e
  exact zL cL z (K0 cL.KZ Y.2.2.1) (λ_=>⟨E3 gl,rfl⟩) (λ_=>⟨λ_=>trivial,(λe=>by simp[h5]at e)⟩) a
 |
  k1 w o=>
  obtain⟨aY,d⟩:=Z;obtain⟨R,bK,T⟩:=Y;obtain⟨W,cU,em,gc⟩:=Sa (f:=f) (j:=.no) cL.gate rc bK T (aY T);have a:¬sJ ⟨.k1 w o,0,val⟩:=fun⟨_,_,_,_,e,_⟩=>by cases e
  have N:(iw C.bC.ek C.aT L o).out=1->dU F .act (iw C.bC.ek C.aT L o).value:=λh1=>by
   unfold hK.value;rw[bg ⟨h1,by rw[gc];exact d⟩];exact em h1 d
  refine zL cL z W ?_ ?_ a
  . simp only[h5]
    split
    . split
      . rename_i h1;exact λ_=>N h1
      . exact λe=>by simp at e
    . exact λ_=>⟨cU,gc.trans d⟩
  . intro _
    simp only[h5];split
    . split
      . exact⟨λ_=>trivial,(λe=>by simp at e)⟩
      . exact⟨(λe=>by simp at e),(λe=>by simp at e)⟩
    . exact⟨λ_=>trivial,(λe=>by simp at e)⟩
 |
  up w v o=>
  have a:¬sJ ⟨.up w v o,0,val⟩:=fun⟨_,_,_,_,e,_⟩=>by cases e
  exact zL cL z (K0 cL.KZ Y.2.2.1) (λe=>by simp[h5]at e) (λ_=>⟨(λe=>by simp[h5]at e),λ_=>Z⟩) a
 |
  oK o=>
  have a:¬sJ ⟨.oK o,0,val⟩:=fun⟨_,_,_,_,e,_⟩=>by cases e
  exact zL cL z (K0 cL.KZ Y.2.1) (λ_=>trivial) (λh=>absurd (h.1 rfl) Bm) a
def vv(B:jw)(F:gA)(L:List Int):vo->Prop
 |.put U o=>lF (dU F (vt U)) (B.ev U) (B.e1 U) L o
 |.ask v=>dU F .zJ v
 |.of r o=>lF (dU F (vt r)) (B.ev r) (B.e1 r) L o
 |.look _ r o=>lF (dU F (vt r)) (B.ev r) (B.e1 r) L o
 |_=>True
def vw(F:gA)(r:Bool)(p:gz):Prop:=(p.out=0->∃o,p.ph=.of r o/\BE o.pc=1)/\(p.out=1->dU F (vt r) p.val)
theorem vv.mono(l:F.le y){B:jw}{p:vo}(h:vv B F L p):vv B y L p:=by
 cases p with
 |put U o=>exact lF.mono l h
 |ask v=>exact dU.mono l (show dU F .zJ v from h)
 |of r o=>exact lF.mono l h
 |look _ r o=>exact lF.mono l h
 |_=>trivial
theorem vw.mono(l:F.le y){r:Bool}{p:gz}(h:vw F r p):vw y r p:=⟨h.1,λe=>(h.2 e).mono l⟩
theorem vv.stay{B:jw}(D:∀r,nL f (B.ev r) (B.e1 r) (vt r) L.length)(wr:gX f F q L E){p:vo}(h:vv B F L p):vv B F E p:=by
 cases p with
 |put U o=>exact lF.stay (D U) wr h
 |ask v=>exact h
 |of r o=>exact lF.stay (D r) wr h
 |look _ r o=>exact lF.stay (D r) wr h
 |_=>trivial
theorem ava{B:jw}{p:gz}(D:∀r,nL f (B.ev r) (B.e1 r) (vt r) L.length)(er:f B.b=.none)(s1:f (B.b+1)=.none)(rc:sG f F L)(aJ:p.out=0)(hp:sB p)(Z:vv B F L p.ph):
 gX f F .no L (pU B L p)/\((oQ B L p).out=0->vv B F (pU B L p) (oQ B L p).ph)/\∀r,vw F r p->vw F r (oQ B L p):=by
 obtain⟨ph,out,val⟩:=p;obtain rfl:out=0:=aJ;obtain⟨Y,_⟩:=hp rfl;have aC:pU B L uC=(iK B L ph).1:=rfl;have aV:oQ B L uC=(iK B L ph).2:=rfl;rw[aC,aV];have no:∀{r:Bool} {o:gz},(∀x,ph≠.of r x)->vw F r uC->vw F r o:=λaO h=>by obtain⟨x,e,_⟩:=h.1 rfl;exact absurd e (aO x)
 have a:∀{b n:Nat} {o:fz},¬(dC b n L o).over=true->(dC b n L o).out=0:=λh=>by simpa[fz.over]using h
 have on:∀{b n:Nat} {o:fz},(dC b n L o).over=true->(dC b n L o).out≠0:=λh=>by simpa[fz.over]using h
 cases ph with
 |
  put U o=>
  obtain⟨W,cU,_,_⟩:=E0 (f:=f) (j:=.no) (D U) rc Y.1 Y.2 (Z Y.2);simp only[iK];refine⟨W,?_,λr=>no va⟩;split
  . rename_i J
    split
    . exact λ_=>trivial
    . exact λe=>absurd e (on J)
  . exact λ_=>cU
 |
  po U=>
  simp only[iK];refine⟨.same,?_,λr=>no va⟩;split<;>exact λ_=>trivial
 |
  swp U s=>
  simp only[iK];refine⟨?_,?_,λr=>no va⟩
  . split
    . exact .put er trivial
    . exact .same
  . split<;>exact λ_=>trivial
 |
  ask v=>
  simp only[iK];refine⟨?_,?_,λr=>no va⟩
  . split
    . exact .put s1 trivial
    . exact .same
  . split
    . exact λ_=>xp (λ_=>Z) (.inl bw)
    . exact λe=>by simp at e
 |set st=>exact⟨.put er trivial,(λe=>by simp[iK]at e),λr=>no va⟩
 |
  of r o=>
  obtain⟨W,cU,em,gc⟩:=E0 (f:=f) (j:=.no) (D r) rc Y.1 Y.2 (Z Y.2);simp only[iK];refine⟨W,?_,λm h=>?_⟩
  . split
    . rename_i J;exact λe=>absurd e (on J)
    . exact λ_=>cU
  . obtain⟨x,e,ah⟩:=h.1 rfl
    cases e;split
    . rename_i J
      refine⟨λe=>absurd e (on J),λe=>?_⟩;replace e:(dC (B.ev r) (B.e1 r) L o).out=1:=e;show dU F (vt r) (dC (B.ev r) (B.e1 r) L o).value;unfold fz.value;rw[bg e];exact em e ah
    . rename_i J
      exact⟨λ_=>⟨_,rfl,(gc (a J)).trans ah⟩,(λe=>by simp at e)⟩
 |gone=>exact⟨.same,λ_=>trivial,λr=>no va⟩
 |tQ held=>exact⟨.put er trivial,λ_=>xp gl (.inr (.inr bw)),λr=>no va⟩
 |
  look held r o=>
  obtain⟨W,cU,em,gc⟩:=E0 (f:=f) (j:=.no) (D r) rc Y.1 Y.2.1 (Z Y.2.1);simp only[iK];refine⟨W,?_,λr=>no va⟩;split
  . split
    . exact λ_=>trivial
    . split
      . exact λ_=>xp gl (.inr (.inr bw))
      . exact λe=>by simp at e
  . exact λ_=>cU
 |
  more held=>
  simp only[iK];refine⟨?_,?_,λr=>no va⟩
  . split
    . exact .put er trivial
    . exact .same
  . split<;>exact λ_=>trivial
def E4(B:kZ)(F:gA)(L:List Int):vZ->Prop
 |.put o=>lF (dU F .ask) (B.b+1) B.n L o
 |.take _ o=>lF (dU F .ask) (B.b+1) B.n L o/\BE o.pc=1
 |_=>True
def xr(F:gA)(w:gm):Prop:=∀t∈w.T,dU F .jy t.id
structure vx(B:kZ)(F:gA)(L:List Int)(c:hx):Prop where
 ph:c.out=0->E4 B F L c.ph
 due:∀x∈c.due,dU F .jy x
 cut:∀x∈c.cut,dU F .jy x
 ref:∀x∈c.ref,dU F .jy x
 dl:c.due.length<=64
theorem xr.mono(l:F.le y){w:gm}(h:xr F w):xr y w:=λt U=>(h t U).mono l
theorem E4.mono(l:F.le y){B:kZ}{p:vZ}(h:E4 B F L p):E4 B y L p:=by
 cases p with
 |put o=>exact lF.mono l h
 |take k o=>exact⟨h.1.mono l,h.2⟩
 |_=>trivial
theorem vx.mono(l:F.le y){B:kZ}{c:hx}(h:vx B F L c):vx B y L c:=⟨λe=>(h.ph e).mono l,λx ah=>(h.due x ah).mono l,λx ah=>(h.cut x ah).mono l,λx ah=>(h.ref x ah).mono l,h.dl⟩
theorem vx.stay{B:kZ}(D:nL f (B.b+1) B.n .ask L.length)(wr:gX f F q L E){c:hx}(h:vx B F L c):vx B F E c:=by
 refine⟨λe=>?_,h.due,h.cut,h.ref,h.dl⟩;have g:=h.ph e;revert g;cases c.ph with
 |put o=>exact λg=>lF.stay D wr g
 |take k o=>exact λg=>⟨lF.stay D wr g.1,g.2⟩
 |_=>exact λ_=>trivial
theorem avb{w:gm}(Z:dU F .ask v)(h:xr F w):xr F (lO v w):=by
 unfold lO;split
 . exact λt U=>h t (oL.1 U).1
 . unfold q0;split
   . intro t U
     rcases kX.1 U with U|U
     . exact h t U
     . simp at U;subst U;exact Z
   . exact h
theorem aid(left:Nat)(w:gm):E4 B F L (pE left w):=by
 unfold pE;split
 . trivial
 . exact⟨xp gl (.inr (.inl rfl)),rfl⟩
theorem avc{w:gm}{c:hx}(D:nL f (B.b+1) B.n .ask L.length)(er:f B.b=.none)(rc:sG f F L)(cc:jZ w)(R:xr F w)(aJ:c.out=0)(a6:tr c)(Z:vx B F L c):
 gX f F .no L (jY B L w c).1/\xr F (jY B L w c).2.1/\vx B F (jY B L w c).1 (jY B L w c).2.2:=by
 obtain⟨ph,out,val,due,cut,ref⟩:=c;obtain rfl:out=0:=aJ;obtain⟨Y,_,aS⟩:=a6.run rfl;obtain rfl:due=[]:=aS;have aC:jY B L w ⟨ph,0,val,[],cut,ref⟩=nY B L w ⟨ph,0,val,[],cut,ref⟩:=rfl;rw[aC];have h1:=Z.ph rfl;have h2:=Z.cut;have aN:=Z.ref;have no:∀x∈([]:List Int),dU F .jy x:=λx ah=>by cases ah
 cases ph with
 |
  put o=>
  obtain⟨W,cU,_,_⟩:=E0 (f:=f) (j:=.no) D rc Y.1 Y.2.1 (h1 Y.2.1);simp only[nY];exact⟨W,R,⟨λ_=>cU,no,h2,aN,fk _⟩⟩
 |now=>exact⟨.same,R,⟨(λe=>by simp[nY]at e),no,h2,aN,fk _⟩⟩
 |
  take left o=>
  obtain⟨W,cU,em,gc⟩:=E0 (f:=f) (j:=.no) D rc Y.1 Y.2.1 (h1.1 Y.2.1);simp only[nY];split
  . split
    . rename_i d
      have q:dU F .ask (dC (B.b+1) B.n L o).value:=by unfold fz.value;rw[bg d];exact em d h1.2
      refine⟨W,avb q R,⟨λ_=>aid _ _,no,λx ah=>?_,λx ah=>?_,fk _⟩⟩
      . rcases kX.1 ah with ah|ah
        . exact h2 x ah
        . unfold q2 at ah;split at ah
          . simp at ah;subst ah;exact q
          . cases ah
      . rcases kX.1 ah with ah|ah
        . exact aN x ah
        . unfold q3 at ah;split at ah
          . simp at ah;subst ah;exact q
          . cases ah
    . exact⟨W,R,⟨λ_=>trivial,no,h2,aN,fk _⟩⟩
  . rename_i J
    have a:(dC (B.b+1) B.n L o).out=0:=qa;exact⟨W,R,⟨λ_=>⟨cU,(gc a).trans h1.2⟩,no,h2,aN,fk _⟩⟩
 |
  tick v=>
  simp only[nY];refine⟨.put er trivial,λt U=>R t (oL.1 U).1,⟨(λe=>by simp at e),λx ah=>?_,h2,aN,?_⟩⟩
  . obtain⟨t,U,rfl⟩:=lN.1 ah;exact R t (oL.1 U).1
  . rw[o9];exact mZ (qm _ _) cc.len
theorem avd{o:k2}(a6:f o.cell=.none):gX f F .no L (rZ L o):=by
 unfold rZ;split
 . exact .same
 . unfold rb;split<;>first|exact .same|exact .iff (λ_=>.put a6 trivial) zk
end
end
abbrev bo:Nat:=1000000000000
structure eV(f:Nat->ga)(C:bO)(F:gA)(ak:Nat->Nat)(n:Nat)(L:List Int)(w:gm):Prop where
 len:L.length=C.cells
 ju:iv L
 rc:sG f F L
 hL:vu C F ak L
 aA:∀w,ak w<=n
 qF:xr F w
 ws:wj (bo -n) w
def ec(C:bO)(F:gA)(ak:Nat->Nat)(j:Nat)(L:List Int):b3->Prop
 |.load c=>c=1
 |.add c d=>(c=0\/c=1)/\d=1
 |.fQ v=>jh v
 |.post a p=>1<=a/\a<=C.aT/\sB p/\(p.out=0->vv (C.box a) F L p.ph)
 |.ht o=>wv L o/\C.bl<=o.cell/\o.cell<C.gS
 |.fE c=>ww C.bC c/\(c.out=0->sI C F ak j L c.ph/\(wQ c.ph->j<C.bc))
 |.ey c=>tr c/\vx C.df F L c
def Sf:b3->Prop
 |.fE c=>sJ c
 |_=>False
def Kx(C:bO)(j:Nat)(L:List Int)(o:b3):Prop:=Sf o\/1<=L.getD (C.bC.cq j+1) 0
def qG(F:gA)(r:Bool):b3->Prop
 |.post _ p=>vw F r p
 |_=>False
def rB(F:gA):b3->Prop
 |.fE c=>tV F c
 |_=>False
section
variable{f:Nat->ga}{C:bO}{F y:gA}{q:nK}{L E:List Int}
section
variable{ak:Nat->Nat}{o:k2}{n j:Nat}{s:aq}
theorem _root_.Go.L.dP.wv.len(h:wv L o)(e:E.length=L.length):wv E o:=⟨h.pc,by rw[e];exact h.cell,h.seen⟩
theorem ec.mono(l:F.le y){ak:Nat->Nat}{j:Nat}{o:b3}(h:ec C F ak j L o):ec C y ak j L o:=by
 cases o with
 |post a p=>exact⟨h.1,h.2.1,h.2.2.1,λe=>(h.2.2.2 e).mono l⟩
 |fE c=>exact⟨h.1,λe=>⟨(h.2 e).1.mono l,(h.2 e).2⟩⟩
 |ey c=>exact⟨h.1,h.2.mono l⟩
 |_=>exact h
theorem gX.len(w:gX f F q L E):E.length=L.length:=by
 rcases w with rfl|⟨k,x,rfl,_⟩
 . rfl
 . exact gr
theorem ec.stay(cL:iQ f C L.length)(wr:gX f F q L E){ak fP:Nat->Nat}(co:∀w,ak w<=fP w){j:Nat}(bt:q≠.own j){o:b3}(h:ec C F ak j L o):ec C F fP j E o:=by
 cases o with
 |post a p=>exact⟨h.1,h.2.1,h.2.2.1,λe=>(h.2.2.2 e).stay (λr=>cL.box a r h.1 h.2.1) wr⟩
 |fE c=>exact⟨h.1,λe=>⟨(h.2 e).1.stay cL wr co bt,(h.2 e).2⟩⟩
 |ey c=>exact⟨h.1,h.2.stay cL.ey wr⟩
 |ht o=>exact⟨h.1.len wr.len,h.2⟩
 |_=>exact h
theorem eV.mono(l:F.le y){ak:Nat->Nat}{n:Nat}{w:gm}(h:eV f C F ak n L w):eV f C y ak n L w:=
 ⟨h.len,h.ju,h.rc.mono l,λx ah=>(h.hL x ah).mono l,h.aA,h.qF.mono l,h.ws⟩
theorem _root_.Go.L.dP.wv.go(K:iv L)(h:wv L o):wv (rZ L o) (r0 L o)/\iv (rZ L o)/\(r0 L o).cell=o.cell:=by
 have e:(rZ L o).length=L.length:=by
  unfold rZ;split
  . rfl
  . unfold rb;split<;>(try split)<;>simp
 have l:iv (rZ L o):=by
  unfold rZ;split
  . exact K
  . unfold rb;split<;>(try split)<;>first|exact K|exact K.set _ _ bw
 have g:=K.get o.cell;refine⟨⟨?_,?_,?_⟩,l,?_⟩
 . have:=h.pc;unfold r0;split
   . exact this
   . unfold qh;split<;>first|exact this|simp
 . rw[e];have:=h.cell;unfold r0;split
   . exact this
   . unfold qh;split<;>exact this
 . have:=h.seen;unfold r0;split
   . exact this
   . unfold qh;split<;>first|exact this|exact g
 . unfold r0;split
   . rfl
   . unfold qh;split<;>rfl
theorem ave{B:fT}{c:gC}(aJ:c.out=0)(h:¬wQ c.ph):¬wQ (lx B L c).ph:=by
 obtain⟨ph,out,val⟩:=c;obtain rfl:out=0:=aJ;have e:lx B L uC=(h5 B L uC).2:=rfl;rw[e];cases ph<;>first|exact absurd trivial h|(simp only[h5];(repeat' split)<;>simp[wQ])|simp[h5,wQ]
structure zM(f:Nat->ga)(C:bO)(F:gA)(ak:Nat->Nat)(n j:Nat)(q:nK)(s:aq)(o:b3)(aW:aq)(S:b3):Prop where
 eq:aW={s with L:=aW.L,bm:=aW.bm}
 wr:gX f F q s.L aW.L
 ex:∃fP:Nat->Nat,(∀w,ak w<=fP w)/\eV f C F fP (n+1) aW.L aW.bm/\ec C F fP j aW.L S
 aie:∀r,qG F r o->qG F r S
 aif:rB F o->rB F S
 iP:j<C.bc->Kx C j s.L o->Kx C j aW.L S
theorem aih{o:b3}(cL:iQ f C C.cells)(N:C.ok)(aO:n+1<=bo)(S:eV f C F ak n s.L s.bm)(Z:ec C F ak j s.L o)(aA:j<C.bc->Kx C j s.L o)(hH:∀c d,o≠.add c d):
 zM f C F ak n j (.own j) s o (acc C s o).1 (acc C s o).2:=by
 have y:iQ f C s.L.length:=by rw[S.len];exact cL
 have d9:bo -n=(bo -(n+1))+1:=ad;have R:=S.ws;rw[d9]at R;have jC:eV f C F ak (n+1) s.L s.bm:=⟨S.len,S.ju,S.rc,S.hL,λw=>mZ (S.aA w) (io _),S.qF,R.le (io _)⟩;have same:∀E,gX f F .no s.L E->iv E->eV f C F ak (n+1) E s.bm:=λE wr ju=>
  ⟨by rw[wr.len];exact S.len,ju,wr.rc cL.KY S.rc,S.hL.stay y wr,jC.aA,S.qF,jC.ws⟩
 cases o with
 |load c=>exact⟨rfl,.same,⟨ak,λ_=>et _,jC,S.ju.get _⟩,λr h=>h.elim,λh=>h.elim,λO h=>.inr (h.resolve_left (λh=>h))⟩
 |add c d=>exact absurd rfl (hH c d)
 |fQ v=>exact⟨rfl,.same,⟨ak,λ_=>et _,jC,Z⟩,λr h=>h.elim,λh=>h.elim,λO h=>.inr (h.resolve_left (λh=>h))⟩
 |
  post a p=>
  obtain⟨h1,h2,aN,bA⟩:=Z;simp only[acc];have he:=atu (B:=C.box a) S.ju aN;by_cases aJ:p.out=0
  . obtain⟨W,cU,em⟩:=ava (f:=f) (λr=>y.box a r h1 h2) (cL.st a h1 h2).1 (cL.st a h1 h2).2 S.rc aJ aN (bA aJ)
    exact⟨rfl,W.any,⟨ak,λ_=>et _,same _ W he.1,h1,h2,he.2,cU⟩,λr h=>em r h,λh=>h.elim,λO h=>.inr Zk⟩
  . have J:p.over=true:=by simp[gz.over,aJ]
    have aC:pU (C.box a) s.L p=s.L:=by unfold pU;rw[bg J]
    have aV:oQ (C.box a) s.L p=p:=by unfold oQ;rw[bg J]
    rw[aC,aV];exact⟨rfl,.same,⟨ak,λ_=>et _,jC,h1,h2,aN,bA⟩,λr h=>h,λh=>h.elim,λO h=>h⟩
 |
  ht o=>
  obtain⟨h1,h2,aN⟩:=Z;simp only[acc];have g:=wv.go S.ju h1;have wr:=avd (f:=f) (F:=F) (L:=s.L) (o:=o) (cL.ht _ h2 aN);exact⟨rfl,wr.any,⟨ak,λ_=>et _,same _ wr g.2.1,g.1,by rw[g.2.2];exact h2,by rw[g.2.2];exact aN⟩,λr h=>h.elim,λh=>h.elim,λO h=>.inr (by rw[wr.iP (y.ih j O).iP (by simp)];exact h.resolve_left (λh=>h))⟩
 |
  fE c=>
  obtain⟨h1,h2⟩:=Z;simp only[acc];by_cases aJ:c.out=0
  . obtain⟨aN,bA⟩:=h2 aJ
    have I:bo=1000000000000:=rfl;have d4:∀w,ak w<4611686018427387904:=λw=>by have:=S.aA w;omega
    have G:=au9 (f:=f) y (show 0<C.bc from N.aG) S.rc S.ju S.hL d4 aJ h1 aN bA (λO=>by rcases aA O with h|h;exact .inl h;exact .inr h);obtain⟨wr,⟨fP,co,z,D⟩,en,iP⟩:=G;refine⟨rfl,wr,⟨fP,λw=>(co w).1,⟨by show(nA _ _ _).length=_;rw[anB];exact S.len,anA S.ju h1,wr.rc cL.KY S.rc,z,λw=>by have:=(co w).2;have:=S.aA w;omega,S.qF,jC.ws⟩,anz (show 0<C.bC.bX from N.aG) S.ju h1,λe=>⟨D e,?_⟩⟩,λr h=>h.elim,en,λO h=>?_⟩
    . intro U
      by_cases i:j<C.bc
      . exact i
      . exfalso
        exact ave aJ (λh=>i (bA h)) U
    . rcases iP O (by rcases h with h|h;exact .inl h;exact .inr h)with h|h
      . exact .inl h
      . exact .inr h
  . have J:c.over=true:=by simp[gC.over,aJ]
    have aC:nA C.bC s.L c=s.L:=by unfold nA;rw[bg J]
    have aV:lx C.bC s.L c=c:=by unfold lx;rw[bg J]
    rw[aC,aV];exact⟨rfl,.same,⟨ak,λ_=>et _,jC,h1,h2⟩,λr h=>h.elim,λh=>h,λO h=>h⟩
 |
  ey c=>
  obtain⟨h1,h2⟩:=Z;simp only[acc];have he:=anc (B:=C.df) S.ju R h1;by_cases aJ:c.out=0
  . obtain⟨W,cU,em⟩:=avc (f:=f) (B:=C.df) y.ey cL.now S.rc S.ws.ok S.qF aJ h1 h2
    refine⟨rfl,W.any,⟨ak,λ_=>et _,⟨by rw[W.len];exact S.len,he.1,W.rc cL.KY S.rc,S.hL.stay y W,jC.aA,cU,he.2.1⟩,he.2.2,em⟩,λr h=>h.elim,λh=>h.elim,λO h=>.inr Zk⟩
  . have J:c.over=true:=by simp[hx.over,aJ]
    have aC:jY C.df s.L s.bm c=(s.L,s.bm,c):=by unfold jY;rw[bg J]
    rw[aC];exact⟨rfl,.same,⟨ak,λ_=>et _,jC,h1,h2⟩,λr h=>h.elim,λh=>h.elim,λO h=>h⟩
theorem aii{c:Nat}(cL:iQ f C C.cells)(aO:n+1<=bo)(S:eV f C F ak n s.L s.bm)(a6:c=0\/c=1):
 zM f C F ak n j .jf s (.add c 1) (acc C s (.add c 1)).1 (acc C s (.add c 1)).2:=by
 have y:iQ f C s.L.length:=by rw[S.len];exact cL
 have d9:bo -n=(bo -(n+1))+1:=ad;have R:=S.ws;rw[d9]at R;have ba:f c=.jf:=by rcases a6 with rfl|rfl;exact cL.eA;exact cL.c1
 have wr:gX f F .jf s.L (s.L.set c (fe (s.L.getD c 0+1))):=.put ba rfl;refine⟨rfl,wr,⟨ak,λ_=>et _,⟨by show(s.L.set _ _).length=_;rw[gr];exact S.len,S.ju.set _ _ (AL _),wr.rc cL.KY S.rc,λw R=>(S.hL w R).stay (y.ih w R) wr gl rfl,λw=>mZ (S.aA w) (io _),S.qF,R.le (io _)⟩,AL _⟩,λr h=>h.elim,λh=>h.elim,λO h=>.inr ?_⟩;show 1<=(s.L.set c (fe (s.L.getD c 0+1))).getD _ 0;rw[wr.iP (y.ih j O).iP gl];exact h.resolve_left (λh=>h)
end
end
section
variable(C:bO)(P:List cr){k:K}(j:Nat)(s:aq)(F:gA)(d:e4)(n:Nat)
abbrev bn:gA:=⟨s.aE.length,s.lets.length,s.notes.length⟩
def cI(a:Nat):Prop:=1<=a/\a<=F.na
def oT(x:Int):Prop:=0<=x/\x<=F.na
structure tW(F:gA)(l:c0):Prop where
 to:oT F l.to
 cf:l.cf<=F.na
 n:0<=l.n/\l.n<=255
structure sK(F:gA)(n:dn):Prop where
 what:0<=n.what/\n.what<=4
 who:oT F n.who
 aG:n.what=1->1<=n.who
def B6(e:fF):Prop:=(e.do'=1\/e.do'=2\/e.do'=5\/e.do'=6\/e.do'=7\/e.do'=8\/e.do'=9\/e.do'=10)/\(e.do'=2->(lf P e.name).isSome=true)/\(0<=e.n/\e.n<=255)
structure Sg(P:List cr)(k:cr):Prop where
 st:k.states≠[]
 cx:∀t∈k.states,∀r∈t.rows,r.cx.length<=8/\∀e∈r.cx,1<=e.do'/\e.do'<=12/\(e.do'=2->(lf P e.name).isSome=true)/\(0<=e.n/\e.n<=255)
structure c(P:List cr)(F:gA)(i:Nat)(x:bU):Prop where
 id:x.id=i+1
 par:x.parent<=F.na
 kind:Sg P x.kind
 slots:x.slots.length=4
 lb:∀v∈x.slots,oT F v
 kids:∀v∈x.kids,dU F .act v
 aside:∀v∈x.aside,dU F .jy v
 front:∀v∈x.front,dU F .jy v
 cH:∀v∈x.cH,dU F .act v
 jW:∀p∈x.timers,∀v∈p.2,dU F .jy v
def B7:Prop:=
 match d with
 |.da a id p=>cI F a/\dU F .jy id/\n=p.cx.length/\n<=8/\∀e∈p.cx,B6 P e
 |.cancel ids=>n=ids.length/\∀v∈ids,dU F .jy v
 |.leave due=>n=due.length/\n<=64/\∀v∈due,dU F .jy v
 |.push l what=>n=l.length/\(what=0\/what=2)/\∀v∈l,dU F .act v
 |.my a=>cI F a/\n<=F.na/\n<=16
def dK:K->Nat
 |.ended _ _ _ k=>dK k+1|.mE _ k=>dK k+1|.hR _ _ _ k=>dK k+1|.told _ _ k=>dK k+1|.lJ _ k=>dK k+1|.mF _ _ _ k=>dK k+1
 |.asked _ _ _ k=>dK k+1|.watched _ _ k=>dK k+1|.gone _ _ k=>dK k+1|.nq _ _ k=>dK k+1|.alone _ k=>dK k+1|.kI _ _ k=>dK k+1
 |.closed _ k=>dK k+1|.lc _ k=>dK k+1|.shut _ k=>dK k+1|.oo _ k=>dK k+1|.who _ k=>dK k+1|.parent _ k=>dK k+1|.each _ _ _ k=>dK k+1
 |_=>0
def c9:K->Prop
 |.nil=>True|.run _=>True|.on _=>True|.next _ _=>True|.ended _ _ _ _=>True|.alone _ _=>True|.shut _ _=>True|.parent _ _=>True|.each _ _ _ _=>True
 |_=>False
def wd(i n:Nat):Nat:=
 match d with
 |.cancel _=>64
 |.push _ _=>64
 |_=>64*(n -i)+64
def np(left:Nat):Nat:=4000*left+1280
def bB:K->Nat
 |.nil=>64|.iX _=>70000|.mD _ left=>np left|.next _ left=>np (left -1)+64|.mC=>7000|.on _=>128
 |.ended _ _ _ k=>bB k+1000|.mE _ k=>bB k+192|.hR _ _ _ k=>bB k+192|.told _ _ k=>bB k+128|.lJ _ k=>bB k+128|.mF _ _ _ k=>bB k+128
 |.asked _ _ _ k=>bB k+128|.watched _ _ k=>bB k+128|.gone _ _ k=>bB k+128|.nq _ _ k=>bB k+128|.alone _ k=>bB k+256|.kI _ _ k=>bB k+1000
 |.closed _ k=>bB k+128|.lc _ k=>bB k+128|.shut _ k=>bB k+128|.oo _ k=>bB k+128|.who _ k=>bB k+1600|.parent _ k=>bB k+128|.each d i n k=>bB k+wd d i n
 |_=>128
def cX(C:bO)(P:List cr)(F:gA):K->Prop
 |.nil=>True|.polled=>True|.found=>True|.ps=>True|.mC=>True
 |.run a=>cI F a|.iX a=>cI F a|.on a=>cI F a|.again a=>cI F a|.settled a=>cI F a|.oU a=>cI F a
 |.next a left=>cI F a/\1<=left/\left<=16|.mD a left=>cI F a/\1<=left/\left<=16
 |.ended a id p k=>cI F a/\cX C P F k/\c9 k/\dK k<=0
 |.mE l k=>tW F l/\cX C P F k/\c9 k/\dK k<=2
 |.hR a l e k=>cI F a/\tW F l/\cX C P F k/\c9 k/\dK k<=2
 |.told id to k=>dU F .jy id/\dU F .act to/\cX C P F k/\c9 k/\dK k<=2
 |.lJ a k=>cI F a/\cX C P F k/\c9 k/\dK k<=2
 |.mF a kind slot k=>cI F a/\(lf P kind).isSome=true/\slot<4/\cX C P F k/\c9 k/\dK k<=2
 |.asked id a e k=>dU F .jy id/\cI F a/\cX C P F k/\c9 k/\dK k<=2
 |.watched a who k=>cI F a/\cI F who/\cX C P F k/\c9 k/\dK k<=2
 |.gone a who k=>cI F a/\cI F who/\cX C P F k/\c9 k/\dK k<=2
 |.nq x y k=>cI F x/\cI F y/\cX C P F k/\c9 k/\dK k<=2
 |.alone a k=>cI F a/\cX C P F k/\c9 k/\dK k<=0
 |.kI a n k=>cI F a/\sK F n/\1<=n.who/\cX C P F k/\c9 k/\dK k<=0
 |.closed a k=>cI F a/\cX C P F k/\c9 k/\dK k<=0
 |.lc a k=>cI F a/\cX C P F k/\c9 k/\dK k<=1
 |.shut a k=>cI F a/\cX C P F k/\c9 k/\dK k<=0
 |.oo a k=>cI F a/\cX C P F k/\c9 k/\dK k<=0
 |.who a k=>cI F a/\cX C P F k/\c9 k/\dK k<=0
 |.parent a k=>cI F a/\cX C P F k/\c9 k/\dK k<=0
 |
  .each d i n k=>B7 P F d n/\i<n/\cX C P F k/\c9 k/\(match d with
  |.cancel _=>dK k<=2
  |_=>dK k<=1)
def vy(o:b3):K->Prop
 |.polled=>j<C.bc/\∃c,o=.fE c
 |.found=>j<C.bc/\rB F o|.ps=>j<C.bc/\rB F o
 |.mC=>∃c,o=.ey c
 |.iX _=>qG F true o|.mD _ _=>qG F false o|.lc _ _=>qG F false o
 |.settled _=>∃a p,o=.post a p|.told _ _ _=>∃a p,o=.post a p|.lJ _ _=>∃a p,o=.post a p|.gone _ _ _=>∃a p,o=.post a p|.oU _=>∃a p,o=.post a p
 |.mE _ _=>o=.add 0 1|.hR _ _ _ _=>o=.add 0 1|.mF _ _ _ _=>o=.add 1 1
 |.asked _ _ _ _=>∃c,o=.ey c|.kI _ _ _=>∃c,o=.ey c
 |.nq _ _ _=>∃x,o=.ht x
 |.who _ _=>o=.load 1
 |_=>∀c d,o≠.add c d
def eS(r:b3):K->Prop
 |.polled=>∃c,r=.fE c
 |.found=>j<C.bc/\rB (bn s) r|.ps=>j<C.bc/\rB (bn s) r
 |.mC=>∃c,r=.ey c/\(∀x∈c.due,dU (bn s) .jy x)/\(∀x∈c.cut,dU (bn s) .jy x)/\(∀x∈c.ref,dU (bn s) .jy x)/\c.due.length<=64/\c.cut.length+c.ref.length<=64
 |.iX _=>qG (bn s) true r|.mD _ _=>qG (bn s) false r|.lc _ _=>qG (bn s) false r
 |.settled _=>∃a p,r=.post a p|.told _ _ _=>∃a p,r=.post a p|.lJ _ _=>∃a p,r=.post a p|.gone _ _ _=>∃a p,r=.post a p|.oU _=>∃a p,r=.post a p
 |.mE _ _=>r=.fQ ((s.lets.length+1:Nat):Int)|.hR _ _ _ _=>r=.fQ ((s.lets.length+1:Nat):Int)
 |.mF _ _ _ _=>r=.fQ (s.L.getD 1 0)
 |.asked _ _ _ _=>∃c,r=.ey c|.kI _ _ _=>∃c,r=.ey c
 |.nq _ _ _=>∃x,r=.ht x
 |.who _ _=>r=.fQ (s.L.getD 1 0)
 |_=>True
def Sh{C:bO}{j:Nat}{s:aq}{r:b3}{k:K}(h:c9 k):eS C j s r k:=by cases k<;>first|trivial|exact h.elim
def aij{C:bO}{j:Nat}{F:gA}{o:b3}{k:K}(h:c9 k)(aJ:∀c d,o≠.add c d):vy C j F o k:=by cases k<;>first|exact aJ|exact h.elim
def eT:K->Nat
 |.mE _ _=>1|.hR _ _ _ _=>1|_=>0
def eU:K->Nat
 |.mF _ _ _ _=>1|_=>0
def K1(h:c9 k):eT k=0/\eU k=0:=by cases k<;>first|exact cj|exact h.elim
end
section
variable{F y:gA}(h:F.le y)
include h
theorem cI.mono{a:Nat}(v:cI F a):cI y a:=⟨v.1,mZ v.2 h.a⟩
theorem oT.mono{a:Int}(v:oT F a):oT y a:=⟨v.1,by have:=v.2;have:=h.a;omega⟩
theorem tW.mono{l:c0}(v:tW F l):tW y l:=⟨v.to.mono h,by have:=v.cf;have:=h.a;omega,v.n⟩
theorem sK.mono{n:dn}(v:sK F n):sK y n:=⟨v.what,v.who.mono h,v.aG⟩
theorem c.mono{P:List cr}{i:Nat}{x:bU}(v:c P F i x):c P y i x:=
 ⟨v.id,mZ v.par h.a,v.kind,v.slots,λa b=>(v.lb a b).mono h,λa b=>(v.kids a b).mono h,λa b=>(v.aside a b).mono h,λa b=>(v.front a b).mono h,λa b=>(v.cH a b).mono h,λp q a b=>(v.jW p q a b).mono h⟩
theorem B7.mono{P:List cr}{d:e4}{n:Nat}(v:B7 P F d n):B7 P y d n:=by
 cases d with
 |da a id p=>exact⟨v.1.mono h,v.2.1.mono h,v.2.2⟩
 |cancel ids=>exact⟨v.1,λa b=>(v.2 a b).mono h⟩
 |leave due=>exact⟨v.1,v.2.1,λa b=>(v.2.2 a b).mono h⟩
 |push l w=>exact⟨v.1,v.2.1,λa b=>(v.2.2 a b).mono h⟩
 |my a=>exact⟨v.1.mono h,mZ v.2.1 h.a,v.2.2⟩
theorem cX.mono{C:bO}{P:List cr}:∀{k:K},cX C P F k->cX C P y k
 |.nil,_=>trivial|.polled,_=>trivial|.found,_=>trivial|.ps,_=>trivial|.mC,_=>trivial
 |.run _,v=>cI.mono h v|.iX _,v=>cI.mono h v|.on _,v=>cI.mono h v|.again _,v=>cI.mono h v|.settled _,v=>cI.mono h v|.oU _,v=>cI.mono h v
 |.next _ _,v=>⟨v.1.mono h,v.2⟩|.mD _ _,v=>⟨v.1.mono h,v.2⟩
 |.ended _ _ _ _,v=>tH
 |.mE _ _,v=>tH
 |.hR _ _ _ _,v=>Bz
 |.told _ _ _,v=>Bz
 |.lJ _ _,v=>tH
 |.mF _ _ _ _,v=>⟨v.1.mono h,v.2.1,v.2.2.1,cX.mono v.2.2.2.1,v.2.2.2.2⟩
 |.asked _ _ _ _,v=>Bz
 |.watched _ _ _,v=>Bz
 |.gone _ _ _,v=>Bz
 |.nq _ _ _,v=>Bz
 |.alone _ _,v=>tH
 |.kI _ _ _,v=>⟨v.1.mono h,v.2.1.mono h,v.2.2.1,cX.mono v.2.2.2.1,v.2.2.2.2⟩
 |.closed _ _,v=>tH
 |.lc _ _,v=>tH
 |.shut _ _,v=>tH
 |.oo _ _,v=>tH
 |.who _ _,v=>tH
 |.parent _ _,v=>tH
 |.each _ _ _ _,v=>⟨v.1.mono h,v.2.1,cX.mono v.2.2.1,v.2.2.2⟩
theorem rB.mono{o:b3}(v:rB F o):rB y o:=by cases o<;>first|exact v.elim|exact tV.mono h v
theorem qG.mono{r:Bool}{o:b3}(v:qG F r o):qG y r o:=by cases o<;>first|exact v.elim|exact vw.mono h v
theorem vy.mono{C:bO}{j:Nat}{o:b3}{k:K}(v:vy C j F o k):vy C j y o k:=by
 cases k<;>first|exact v|exact⟨v.1,rB.mono h v.2⟩|exact qG.mono h v
end
def gA.le.refl{F:gA}:F.le F:=⟨et _,et _,et _⟩
def iq(x:bU):Nat:=3*(x.front.length+x.aside.length)+x.kids.length+x.cH.length+x.watched.length+(x.timers.map (λp=>1+p.2.length)).sum+(x.given.map (λp=>1+p.2.length)).sum
def bP(s:aq):Nat:=s.trace.length+s.dead.length+s.notes.length+s.now+s.ticks+(s.aE.map iq).sum
def dZ(r m:List (Int×Int)):Prop:=(kO r->kO m)/\m.length=r.length
structure vz(C:bO)(P:List cr)(s:aq):Prop where
 xt:1<=s.aE.length
 na:s.aE.length<=C.aT
 aE:∀i x,s.aE[i]?=some x->c P (bn s) i x
 lets:∀l∈s.lets,tW (bn s) l
 notes:∀n∈s.notes,sK (bn s) n
 tX:s.ax.length=C.bc+C.cT+1
 a8:kO s.a8/\s.a8.length<=s.lets.length
structure sL(C:bO)(P:List cr)(F:gA)(ak:Nat->Nat)(L:List Int)(i:Nat)(t:b0):Prop where
 on:∀o k,t.on=some (o,k)->ec C F ak i L o/\cX C P F k/\vy C i F o k
 iP:i<C.bc->1<=L.getD (C.bC.cq i+1) 0\/∃o k,t.on=some (o,k)/\Sf o
 oG:0<=t.draw/\t.draw<18446744073709551616
structure pT(C:bO)(n p q:Nat)(s:aq):Prop where
 nj:s.L.getD 0 0=((s.lets.length+p:Nat):Int)
 pf:s.lets.length+p<=n
 dv:(s.aE.length:Int)=min (s.L.getD 1 0 -q) C.aT
 mv:(q:Int)+1<=s.L.getD 1 0
 mx:s.L.getD 1 0<=n+1
structure Inv(f:Nat->ga)(C:bO)(P:List cr)(n:Nat)(s:aq):Prop where
 base:vz C P s
 num:pT C n 0 0 s
 bp:∃ak,eV f C (bn s) ak n s.L s.bm/\∀i t,s.ax[i]?=some t->sL C P (bn s) ak s.L i t
structure In(f:Nat->ga)(C:bO)(P:List cr)(n j p q:Nat)(s:aq):Prop where
 base:vz C P s
 num:pT C n p q s
 jX:∃t,s.ax[j]?=some t/\t.on=none
 bp:∃ak,eV f C (bn s) ak n s.L s.bm/\∀i t,s.ax[i]?=some t->sL C P (bn s) ak s.L i t
def Good(f:Nat->ga)(C:bO)(P:List cr)(n V:Nat)(x:Option aq):Prop:=∃aW,x=some aW/\Inv f C P n aW/\bP aW<=V
def In.inv{f:Nat->ga}{C:bO}{P:List cr}{n j:Nat}{s:aq}(h:In f C P n j 0 0 s):Inv f C P n s:=⟨h.base,h.num,h.bp⟩
structure kT(s aW:aq):Prop where
 L:aW.L=s.L
 bm:aW.bm=s.bm
 aE:aW.aE=s.aE
 lets:aW.lets=s.lets
 notes:aW.notes=s.notes
 ax:aW.ax=s.ax
 a8:dZ s.a8 aW.a8
section
variable{f:Nat->ga}{C:bO}{P:List cr}{n V j p q:Nat}{s aW:aq}
def kT.aZ(h:kT s aW):bn aW=bn s:=by simp only[bn,h.aE,h.lets,h.notes]
def vz.hX(e:kT s aW)(h:vz C P s):vz C P aW:=by
 have F:=e.aZ;exact⟨by rw[e.aE];exact h.xt,by rw[e.aE];exact h.na,by rw[e.aE,F];exact h.aE,by rw[e.lets,F];exact h.lets,by rw[e.notes,F];exact h.notes,by rw[e.ax];exact h.tX,e.a8.1 h.a8.1,by rw[e.a8.2,e.lets];exact h.a8.2⟩
def pT.hX(e:kT s aW)(h:pT C n p q s):pT C n p q aW:=⟨by rw[e.L,e.lets];exact h.nj,by rw[e.lets];exact h.pf,by rw[e.L,e.aE];exact h.dv,by rw[e.L];exact h.mv,by rw[e.L];exact h.mx⟩
def In.hX(e:kT s aW)(h:In f C P n j p q s):In f C P n j p q aW:=
 ⟨h.base.hX e,h.num.hX e,by rw[e.ax];exact h.jX,by rw[e.ax,e.aZ,e.L,e.bm];exact h.bp⟩
def Inv.hX(e:kT s aW)(h:Inv f C P n s):Inv f C P n aW:=
 ⟨h.base.hX e,h.num.hX e,by rw[e.ax,e.aZ,e.L,e.bm];exact h.bp⟩
def sL.mono{F y:gA}(h:F.le y){ak:Nat->Nat}{L:List Int}{i:Nat}{t:b0}(v:sL C P F ak L i t):sL C P y ak L i t:=
 ⟨λo k e=>⟨(v.on o k e).1.mono h,(v.on o k e).2.1.mono h,(v.on o k e).2.2.mono h⟩,v.iP,v.oG⟩
def In.more(h:In f C P n j p q s)(d:aW.L=s.L)(w:aW.bm=s.bm)(A:aW.ax=s.ax)(l:(bn s).le (bn aW)){S c:Nat}(b:vz C P aW)(u:pT C n S c aW):In f C P n j S c aW:=by
 refine⟨b,u,by rw[A];exact h.jX,?_⟩;obtain⟨ak,h1,h2⟩:=h.bp;rw[d,w,A];exact⟨ak,h1.mono l,λi t e=>(h2 i t e).mono l⟩
end
section
variable{f:Nat->ga}{C:bO}{P:List cr}{n V j p q:Nat}{s aW:aq}
section
variable(e:bG)(id w:Int){a:Nat}{m:dn}{x y:bU}
def aik(h:bP s<most):iR e s=some BC:=by
 unfold iR;rw[bg];unfold bP at h;omega
def avf:kT s BC:=Eh
def avg:bP BC=bP s+1:=by simp[bP];omega
def pX(h:bP s<most):∃aW,iR e s=some aW/\kT s aW/\bP aW=bP s+1:=⟨_,aik e h,avf e,avg e⟩
theorem K2:kT s (move s id w):=⟨rfl,rfl,rfl,rfl,rfl,rfl,λh=>h.FV,fo⟩
theorem Si(a w:Int):kT s (mz s id a w):=by unfold mz;split;exact K2 _ _;exact Eh
theorem Sj(a w:Int):bP (mz s id a w)=bP s:=by unfold mz;split<;>rfl
def kT.refl:kT s s:=Eh
def kT.trans{f:aq}(a:kT s aW)(b:kT aW f):kT s f:=⟨b.L.trans a.L,b.bm.trans a.bm,b.aE.trans a.aE,b.lets.trans a.lets,b.notes.trans a.notes,b.ax.trans a.ax,λh=>b.a8.1 (a.a8.1 h),b.a8.2.trans a.a8.2⟩
theorem K3{id:Int}(h:dU (bn s) .jy id):∃l,kk s id=some l/\l∈s.lets:=by
 have h1:1<=id:=h.1;have h2:id<=s.lets.length:=h.2;have aN:(id -1).toNat<s.lets.length:=ad;exact⟨s.lets[(id -1).toNat],by unfold kk;rw[bg h1];exact cD aN,vl aN⟩
def lG(h:cI (bn s) a):∃x,dM s a=some x/\s.aE[a -1]?=some x:=by
 have h1:1<=a:=h.1;have h2:a<=s.aE.length:=h.2;have aN:a -1<s.aE.length:=ad;exact⟨s.aE[a -1],by unfold dM;rw[bg h1];exact cD aN,cD aN⟩
theorem xu{id why:Int}(aw:∀l∈s.lets,True)(h:dU (bn s) .jy id)(R:1<=why/\why<=5)(hp:bP s<most):∃aW,kill id why s=some aW/\kT s aW/\bP aW=bP s+2:=by
 obtain⟨l,e,_⟩:=K3 h;unfold kill;refine ru ?_;have aS:s.dead.length<most:=Iq;have U:s.trace.length<most:=Iq;rw[bg ⟨aS,R⟩];unfold iR;rw[bg (show _<most from U)];exact⟨_,rfl,⟨rfl,rfl,rfl,rfl,rfl,rfl,λh=>h.from bw,Led.yT⟩,by simp[bP];omega⟩
def K4{why:Int}(R:1<=why/\why<=5):∀(l:List Int) {s:aq},(∀x∈l,dU (bn s) .jy x)->bP s+2*l.length<most->∃aW,kH why l s=some aW/\kT s aW/\bP aW=bP s+2*l.length
 |[],s,_,_=>⟨s,rfl,.refl,rfl⟩
 |
  x::l,s,h,hp=>by
  simp only[iG]at hp⊢;obtain⟨s1,aC,m1,gH⟩:=xu o6 (h x (.head _)) R (show bP s<most by omega);obtain⟨cb,aV,X,i5⟩:=K4 R l (s:=s1) (λy ag=>by rw[m1.aZ];exact h y (.tail _ ag)) ad;refine⟨cb,?_,m1.trans X,by omega⟩;simp only[kH,aC,bind,Option.bind];exact aV
def Sk:∀{l:List bU} {i:Nat} {x y:bU},l[i]?=some x->((l.set i y).map iq).sum+iq x=(l.map iq).sum+iq y
 |[],i,x,y,h=>by simp at h
 |a::l,0,x,y,h=>by simp at h;subst h;simp only[List.set_cons_zero,gx,Sl];omega
 |a::l,i+1,x,y,h=>by simp at h;have:=Sk (y:=y) h;simp only[List.set_cons_succ,gx,Sl];omega
def lH(h:s.aE[a -1]?=some x):bP (c8 s a y)+iq x=bP s+iq y:=by
 have:=Sk (y:=y) h;simp only[bP,c8];omega
def lI(h:In f C P n j p q s)(ah:s.aE[a -1]?=some x)(ag:c P (bn s) (a -1) y):In f C P n j p q (c8 s a y):=by
 have aw:(s.aE.set (a -1) y).length=s.aE.length:=gr;have T:bn (c8 s a y)=bn s:=by simp only[bn,c8,aw]
 refine h.more (aW:=c8 s a y) rfl rfl rfl (by rw[T];exact .refl) ⟨by show 1<=(s.aE.set _ _).length;rw[aw];exact h.base.xt,by show(s.aE.set _ _).length<=_;rw[aw];exact h.base.na,λi w e=>?_,by rw[T];exact h.base.lets,by rw[T];exact h.base.notes,h.base.tX,h.base.a8⟩ ⟨h.num.nj,h.num.pf,by show((s.aE.set _ _).length:Int)=_;rw[aw];exact h.num.dv,h.num.mv,h.num.mx⟩;rw[T];replace e:(s.aE.set (a -1) y)[i]?=some w:=e;by_cases ak:a -1=i
 . subst ak
   obtain⟨d4,rfl⟩:=dp.1 e;rw[yX];exact ag
 . rw[rz ak]at e;exact h.base.aE i w e
def j4:bn (c8 s a y)=bn s:=by simp[bn,c8]
def ail(h:In f C P n j p q s)(bf:sK (bn s) m):In f C P n j p q Ep:=by
 have l:(bn s).le (bn Ep):=⟨et _,et _,by simp⟩;refine h.more (aW:=Ep) rfl rfl rfl l ⟨h.base.xt,h.base.na,λi x e=>(h.base.aE i x e).mono l,λx ah=>(h.base.lets x ah).mono l,λx ah=>?_,h.base.tX,h.base.a8⟩ acy;rcases kX.1 ah with ah|ah
 . exact(h.base.notes x ah).mono l
 . simp at ah;subst ah;exact bf.mono l
def Sm:(bn s).le (bn Ep):=⟨et _,et _,by simp⟩
def aim:bP Ep=bP s+1:=by simp[bP];omega
def ain(l:List Int)(x:Int):(oj l x).length<=l.length+1:=by unfold oj;split<;>simp
theorem jF{o:b3}{k:K}(h:In f C P n j 0 0 s)(Z:∀ak,ec C (bn s) ak j s.L o)(hk:cX C P (bn s) k)(U:vy C j (bn s) o k)(W:bP s<=V):Good f C P n V (hs j s o k):=by
 obtain⟨t,cQ,B⟩:=h.jX;have aw:j<s.ax.length:=(dp.1 cQ).1;unfold hs;simp only[cQ,bind,Option.bind];rw[bg (by simp[B])];refine ac6 ?_;intro ak h1 h2;refine⟨ak,h1,λi u e=>?_⟩;replace e:(s.ax.set j Jv)[i]?=some u:=e;by_cases g1:j=i
 . subst g1
   obtain⟨d4,rfl⟩:=dp.1 e;rw[yX];refine⟨λS Y y=>?_,λR=>?_,(h2 j t cQ).oG⟩
   . cases y;exact⟨Z ak,hk,U⟩
   . rcases(h2 j t cQ).iP R with g|⟨S,Y,g,_⟩
     . exact .inl g
     . rw[B]at g;cases g
 . rw[rz g1]at e;exact h2 i u e
end
end
section
variable{C:bO}{F:gA}{ak:Nat->Nat}{j:Nat}{L:List Int}
section
variable{id:Int}{a pc:Nat}{r:Bool}{v:Int}
theorem aio(h:1<=a/\a<=C.aT)(d7:jh v)(Z:dU F (vt r) v):ec C F ak j L (.post a ⟨.put r (gi 0 v),0,0⟩):=
 ⟨h.1,h.2,λ_=>⟨⟨AI bw d7,rfl⟩,rfl⟩,λ_=>xp (λ_=>Z) (.inl bw)⟩
theorem avh(h:1<=a/\a<=C.aT)(d7:jh v)(Z:dU F .zJ v):ec C F ak j L (.post a (E5 v)):=⟨h.1,h.2,λ_=>⟨d7,rfl⟩,λ_=>Z⟩
theorem Sn(h:1<=a/\a<=C.aT)(d7:jh v):ec C F ak j L (.post a (mA v)):=⟨h.1,h.2,λ_=>⟨d7,rfl⟩,λ_=>trivial⟩
theorem B8(h:1<=a/\a<=C.aT)(hp:pc=5\/pc=10\/pc=14):ec C F ak j L (.post a ⟨.of r (gi pc 0),0,0⟩):=
 ⟨h.1,h.2,λ_=>⟨⟨AI ad bw,rfl⟩,rfl⟩,λ_=>xp (λe=>by omega) ad⟩
theorem avi(h:1<=a/\a<=C.aT):ec C F ak j L (.post a xv):=acz
theorem avj{b:Bool}(h:1<=a/\a<=C.aT):ec C F ak j L (.post a (E6 b)):=acz
theorem avk:jh 0:=G9
theorem aip(d7:jh v)(Z:dU F .act v):ec C F ak j L (.fE (wu C.bC (sM C j) v)):=by
 unfold sM;split
 . rename_i h
   exact⟨λ_=>⟨⟨h,MZ bw d7,rfl,d7⟩,rfl⟩,λ_=>⟨⟨rfl,h,Sc (λ_=>Z) (.inl rfl),fk _,Z⟩,λh=>h.elim⟩⟩
 . exact⟨λ_=>M2,λ_=>⟨⟨E3 λ_=>Z,rfl,Z⟩,λh=>h.elim⟩⟩
theorem avl(h:j<C.bc):ec C F ak j L (.fE (Dr j)):=⟨λ_=>⟨⟨rfl,h,rfl⟩,rfl⟩,λ_=>⟨trivial,λh=>h.elim⟩⟩
theorem avm(h:j<C.bc):ec C F ak j L (.fE (yx j)):=⟨λ_=>⟨⟨h,rfl,h,rfl⟩,rfl⟩,λ_=>⟨trivial,λ_=>h⟩⟩
theorem avn:rB F (.fE (yx j)):=⟨λ_=>trivial,(λe=>by simp[yx]at e)⟩
theorem Sp{x y:Nat}(hp:pc<=4)(ah:1<=x/\x<=C.aT)(ag:1<=y/\y<=C.aT)(aw:L.length=C.cells):ec C F ak j L (.ht (ml pc (kM C.bl C.aT x y))):=by
 have h1:(x -1)*C.aT+C.aT<=C.aT*C.aT:=by
  have:=pN C.aT (show x -1+1<=C.aT by omega);exact Hs
 have e:kM C.bl C.aT x y=C.bl+((x -1)*C.aT+(y -1)):=by unfold kM;omega
 have aV:C.cells=C.bl+C.aT*C.aT+C.aT*C.fh:=rfl;have bF:C.gS=C.bl+C.aT*C.aT:=rfl;refine⟨⟨hp,?_,avk⟩,?_,?_⟩
 . show kM _ _ _ _<_;rw[e,aw,aV];omega
 . show _<=kM _ _ _ _;rw[e];omega
 . show kM _ _ _ _<_;rw[e,bF];omega
theorem aiq(h:dU F .jy id):ec C F ak j L (.ey (rU id)):=by
 have h1:1<=id:=h.1;have h2:id<=F.hE:=h.2;refine⟨anf ad,?_⟩;unfold rU;split
 . exact acH
 . exact⟨λ_=>xp (λ_=>(show 1<=id*4096/4096/\id*4096/4096<=F.hE by omega)) (.inl bw),qs,qs,qs,fk _⟩
theorem avo{d:Int}(h:dU F .jy id):ec C F ak j L (.ey (q4 id d)):=by
 have h1:1<=id:=h.1;have h2:id<=F.hE:=h.2;refine⟨ane ad,?_⟩;unfold q4;split
 . exact acH
 . rename_i aS
   exact⟨λ_=>xp (λ_=>(show 1<=(id*4096+d)/4096/\(id*4096+d)/4096<=F.hE by omega)) (.inl bw),qs,qs,qs,fk _⟩
theorem avp:ec C F ak j L (.ey o2):=⟨ang,(λ_=>trivial),qs,qs,qs,fk _⟩
end
end
def cI.act{C:bO}{P:List cr}{s:aq}{a:Nat}(h:cI (bn s) a)(b:vz C P s):1<=a/\a<=C.aT:=⟨h.1,mZ h.2 b.na⟩
def cI.v{s:aq}{a:Nat}(h:cI (bn s) a):dU (bn s) .act (a:Int):=by
 have h1:1<=a:=h.1;have h2:a<=s.aE.length:=h.2;exact⟨(by omega:(1:Int)<=a),(by show(a:Int)<=s.aE.length;omega)⟩
def dU.cI{F:gA}{a:Int}(h:dU F .act a):Th.cI F a.toNat/\((a.toNat:Nat):Int)=a:=by
 have h1:1<=a:=h.1;have h2:a<=F.na:=h.2;exact⟨uy,by omega⟩
section
variable{f:Nat->ga}{C:bO}{P:List cr}{n V j:Nat}{g:aq->b3->K->Option aq}{m:Nat}
def ei(f:Nat->ga)(C:bO)(P:List cr)(n V j m:Nat)(g:aq->b3->K->Option aq):Prop:=
 ∀s k,In f C P n j 0 0 s->cX C P (bn s) k->c9 k->bP s+bB k<=V->bB k<m->Good f C P n V (g s dN k)
def ei.dN(aY:ei f C P n V j m g){s:aq}{k:K}(h:In f C P n j 0 0 s)(hk:cX C P (bn s) k)(aS:c9 k)(W:bP s+bB k<=V)(bf:bB k<m):Good f C P n V (g s dN k):=
 aY s k h hk aS W bf
def avq{o:k2}:∀c d,b3.ht o≠.add c d:=λ_ _ e=>by cases e
def avr{o:gC}:∀c d,b3.fE o≠.add c d:=λ_ _ e=>by cases e
def In.akZ{s:aq}{p q:Nat}(N:C.ok)(h:In f C P n j p q s){a:Nat}(aX:cI (bn s) a):jh (a:Int):=by
 have h1:=aX.2;have h2:=h.base.na;have aN:=N.hd;have:a<=s.aE.length:=h1;exact⟨by omega,by omega⟩
def In.aBQ{s:aq}{p q:Nat}(aA:n<=bo)(h:In f C P n j p q s){a:Int}(aX:dU (bn s) .jy a):jh a:=by
 have h1:1<=a:=aX.1;have h2:a<=s.lets.length:=aX.2;obtain⟨ak,a6,_⟩:=h.bp;have:=(a6.ju.get 0).2;have:=h.num.nj;exact⟨by omega,by omega⟩
variable(N:C.ok)(aA:V<1099511627776)(cV:n<=bo)
include N aA cV
section
variable{s:aq}{a:Nat}
theorem K5(aY:ei f C P n V j m g){s:aq}{r:b3}{a:Nat}{k:K}(h:In f C P n j 0 0 s)(aX:cI (bn s) a)(aF:∃a p,r=.post a p)(hk:cX C P (bn s) k)(aS:c9 k)(W:bP s+bB k<=V)(bf:bB k<m):Good f C P n V (pr C g j s r a k):=by
 obtain⟨aD,p,rfl⟩:=aF;unfold pr;simp only;split
 . exact jF h (λak=>aip (h.akZ N aX) aX.v) hk (aij aS avr) ad
 . exact aY.dN h hk aS W bf
theorem air(aY:ei f C P n V j m g){s:aq}{id:Int}{k:K}(h:In f C P n j 0 0 s)(cy:dU (bn s) .jy id)(hk:cX C P (bn s) k)(aS:c9 k)(aw:dK k<=2)(W:bP s+bB k+2<=V)(bf:bB k<m):Good f C P n V (tY C g j s id k):=by
 obtain⟨l,e,b⟩:=K3 cy;have d4:=h.base.lets l b;unfold tY;refine ru ?_;split
 . obtain⟨s1,aC,m1,gH⟩:=xu (why:=3) o6 cy bw (show bP s<most by unfold most;omega)
   simp only[aC];exact aY.dN (h.hX m1) (by rw[m1.aZ];exact hk) aS ad bf
 . rename_i bi
   have h1:=d4.to.1;have h2:l.to<=s.aE.length:=d4.to.2;have aN:=h.base.na;rw[bg ⟨by omega,by omega⟩];have c:dU (bn s) .act l.to:=⟨(by omega:(1:Int)<=l.to),h2⟩;exact jF h (λak=>aio (r:=false) uy (h.aBQ cV cy) cy) ⟨cy,c,hk,aS,aw⟩ ⟨_,_,rfl⟩ ad
theorem Sq{l:c0}{k:K}(h:In f C P n j 0 0 s)(d4:tW (bn s) l)(hk:cX C P (bn s) k)(aS:c9 k)(aw:dK k<=2)(W:bP s<=V):Good f C P n V (B9 j s l k):=
 jF h (λak=>⟨.inl rfl,rfl⟩) ⟨d4,hk,aS,aw⟩ rfl W
theorem Ca{x:dn}{k:K}(h:In f C P n j 0 0 s)(aX:cI (bn s) a)(ah:sK (bn s) x)(hk:cX C P (bn s) k)(aS:c9 k)(aw:dK k<=2)(W:bP s+1<=V):Good f C P n V (sN C j s a x k):=by
 unfold sN;have b:s.notes.length<=bP s:=by unfold bP;omega
 have aO:s.notes.length<most:=oO;rw[bg ⟨aO,aX.act h.base⟩];have c:s.notes.length<1099511627776:=ad;refine jF (ail h ah) (λak=>aio (r:=true) (aX.act h.base) uy ?_) ⟨aX.mono Sm,hk.mono Sm,aS,aw⟩ ⟨_,_,rfl⟩ (by rw[aim];exact W);exact⟨by omega,by show(s.notes.length:Int)<((s.notes++[x]).length:Nat);rw[eZ];simp;omega⟩
theorem ais{x y:Nat}{k:K}(h:In f C P n j 0 0 s)(ah:cI (bn s) x)(ag:cI (bn s) y)(hk:cX C P (bn s) k)(aS:c9 k)(aw:dK k<=2)(W:bP s<=V):Good f C P n V (xw C j s x y k):=by
 unfold xw;have h1:=ah.act h.base;have h2:=ag.act h.base;rw[bg ⟨h1.1,h1.2,h2.1,h2.2⟩];obtain⟨fP,a6,_⟩:=h.bp;exact jF h (λak=>Sp bw h1 h2 a6.len) ⟨ah,ag,hk,aS,aw⟩ ⟨_,rfl⟩ W
theorem avs{id:Int}{e:fF}{k:K}(h:In f C P n j 0 0 s)(aX:cI (bn s) a)(cy:dU (bn s) .jy id)(hk:cX C P (bn s) k)(aS:c9 k)(aw:dK k<=2)(W:bP s<=V):Good f C P n V (K6 j s a id e k):=
 jF h (λak=>avo cy) ⟨cy,aX,hk,aS,aw⟩ ⟨_,rfl⟩ W
theorem ait(h:In f C P n j 0 0 s)(aX:cI (bn s) a)(W:bP s<=V):Good f C P n V (zN j s a):=by
 obtain⟨x,e,ex⟩:=lG aX;unfold zN;refine ru ?_;split
 . exact⟨s,rfl,h.inv,W⟩
 . exact jF h (λak=>avj (aX.act h.base)) aX ⟨_,_,rfl⟩ W
theorem aiu(h:In f C P n j 0 0 s)(aX:cI (bn s) a)(W:bP s<=V):Good f C P n V (Cb j s a):=
 jF h (λak=>B8 (aX.act h.base) (.inl rfl)) aX ⟨λ_=>⟨_,rfl,rfl⟩,(λe=>by simp[Cc]at e)⟩ W
theorem avt{who:Nat}{k:K}(h:In f C P n j 0 0 s)(aX:cI (bn s) a)(R:cI (bn s) who)(hk:cX C P (bn s) k)(aS:c9 k)(aw:dK k<=2)(W:bP s+1<=V):Good f C P n V (Cd C j s a who k):=by
 obtain⟨x,e,ex⟩:=lG aX;unfold Cd;refine ru ?_;have h1:=R.act h.base;have h2:=aX.act h.base;rw[bg h1];have B:=h.base.aE _ _ ex;have g4:=lI h ex (y:={x with watched:=oj x.watched who}) ⟨B.id,B.par,B.kind,B.slots,B.lb,B.kids,B.aside,B.front,B.cH,B.jW⟩;have hp:=lH (y:={x with watched:=oj x.watched who}) ex;have:=ain x.watched who;obtain⟨fP,a6,_⟩:=g4.bp;exact jF g4 (λak=>Sp bw h2 h1 a6.len) ⟨by rw[j4];exact aX,by rw[j4];exact R,by rw[j4];exact hk,aS,aw⟩ (λ_ _ e=>by cases e) Ir
end
end
end Go.L.Th
