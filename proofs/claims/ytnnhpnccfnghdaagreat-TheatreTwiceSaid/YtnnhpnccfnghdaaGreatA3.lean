import Derived.Test.YtnnhpnccfnghdaaGreatA2
set_option linter.all false
namespace Go.L
inductive iT
 |nil
 |loc(i:Nat)(r:iT)
 |bL(i:Nat)(r:iT)
 |da(i:Nat)(r d:iT)
def iT.LQ:iT->List Nat
 |.da i _ d=>i::d.LQ
 |_=>[]
section
variable{P:Program}{E:Array Oper}{c5 U:List Nat}{F:Act->World->Prop}{C:World->Prop}
def mG(E:Array Oper)(c c5 U:List Nat):iT->Bool->Array Bool->Bool
 |.nil,false,D=>(Region.ready .any E D).isEmpty
 |.nil,true,_=>true
 |.loc i r,false,D=>(Region.ready .any E D).contains i&&Region.free .any E D i&&!c5.contains i&&c5.all (λe=>D.getD e false||(c.getD e 0).testBit i)&&mG E c c5 U r false (D.setIfInBounds i true)
 |.bL i r,false,D=>(Region.ready .any E D).contains i&&Region.free .any E D i&&!c5.contains i&&c5.all (λe=>U.contains e||(D.getD e false||(c.getD e 0).testBit i))&&mG E c c5 U r false (D.setIfInBounds i true)
 |.da i r d,b,D=>(b||decide (Region.ready .any E D=i::d.LQ))&&c5.contains i&&mG E c c5 U r false (D.setIfInBounds i true)&&mG E c c5 U d true D
 |_,true,_=>false
def iT.depth:iT->Nat->Bool
 |.nil,n=>Nat.beq n 0
 |.loc _ r,n=>match n with|0=>false|n+1=>r.depth n
 |.bL _ r,n=>match n with|0=>false|n+1=>r.depth n
 |
  .da _ r d,n=>match n with
  |0=>false
  |m+1=>r.depth m&&(match d with|.nil=>true|_=>d.depth (m+1))
def FK(l:List Oper)(c5 U:List Nat)(t:iT):Bool:=
 Region.noSelect l.toArray&&t.depth l.length&&mG l.toArray (k6 l []) c5 U t false (Array.replicate l.length false)
def xM(P:Program)(E:Array Oper)(U:List Nat)(C:World->Prop)(i:Nat)(K:Act->World->Prop)(a:Act)(w:World):Prop:=
 match E[i]?with
 |none=>False
 |some o=>if Region.wanted o (yielded E a.tmps)then o.wp P a w (λaD X=>(i∈U->C X)/\K aD X) HF else K (a.put o.dst undef) w
def nQ(P:Program)(E:Array Oper)(F:Act->World->Prop)(U:List Nat)(C:World->Prop):iT->Bool->Act->World->Prop
 |.nil,false,a,w=>F a w
 |.nil,true,_,_=>True
 |
  .loc i r,_,a,w=>match E[i]?with
  |none=>False
  |some o=>if Region.wanted o (yielded E a.tmps)then∃v,(execOp a.eval o).run P w=.ok (.value v) w/\nQ P E F U C r false (a.put o.dst v) w else nQ P E F U C r false (a.put o.dst undef) w
 |
  .bL i r,_,a,w=>match E[i]?with
  |none=>False
  |some o=>if Region.wanted o (yielded E a.tmps)then C w/\∃v,(∀w,C w->(execOp a.eval o).run P w=.ok (.value v) w)/\nQ P E F U C r false (a.put o.dst v) w else nQ P E F U C r false (a.put o.dst undef) w
 |.da i r d,_,a,w=>xM P E U C i (nQ P E F U C r false) a w/\nQ P E F U C d true a w
def akA{i:Nat}{K z:Act->World->Prop}{a:Act}{w:World}(q:i∈c5)(h:xM P E U C i K a w)(hk:∀a w,K a w->z a w):n5 P E c5 U C i z a w:=by
 unfold xM at h;unfold n5;cases aJ:E[i]?with
 |none=>rw[aJ]at h;exact h.elim
 |
  some o=>
  rw[aJ]at h;simp only at h⊢;by_cases R:Region.wanted o A0=true
  . rw[bg R]at h⊢;rw[bg q]
    exact Oper.wp_mono (λaD X co=>⟨co.1,hk _ _ co.2⟩) h
  . rw[a7 R]at h⊢;exact hk _ _ h
def akB{l:List Oper}:∀(t:iT) (D:Array Bool) (a:Act) (w:World),mG l.toArray (k6 l []) c5 U t true D=true->nQ P l.toArray F U C t true a w->
 ∀i∈t.LQ,∃r,i∈c5/\mG l.toArray (k6 l []) c5 U r false HH=true/\xM P l.toArray U C i (nQ P l.toArray F U C r false) a w/\∀n,(match t with|.nil=>true|_=>t.depth (n+1))=true->r.depth n=true
 |.nil,_,_,_,_,_=>by intro i ak;cases ak
 |.loc _ _,_,_,_,h,_=>by simp[mG]at h
 |.bL _ _,_,_,_,h,_=>by simp[mG]at h
 |
  .da j r d,D,a,w,h,R=>by
  simp only[mG,k7,kP,iy]at h;obtain⟨⟨h1,h2⟩,aN⟩:=h;obtain⟨aG,bb⟩:=R;intro i ak;rcases ky.1 ak with rfl|ak
  . exact⟨r,by simpa using h1,h2,aG,λn aS=>by simp only[iT.depth,iy]at aS;exact aS.1⟩
  . obtain⟨m,cR,b8,il,ez⟩:=akB d D a w aN bb i ak
    exact⟨m,cR,b8,il,λn aS=>ez n (by simp only[iT.depth,iy]at aS;cases d<;>first|rfl|exact aS.2)⟩
def Cz{l:List Oper}(ai:Region.noSelect l.toArray=true):∀(n:Nat) (t:iT) (D:Array Bool) (a:Act) (w:World),t.depth n=true->tx l.toArray D->mG l.toArray (k6 l []) c5 U t false D=true->
 nQ P l.toArray F U C t false a w->wL P l.toArray c5 U F C n D a w
 |
  n,.nil,D,a,w,aS,_,cd,h=>by
  have:n=0:=lr aS;subst this;exact⟨by simpa[mG]using cd,h⟩
 |0,.loc _ _,_,_,_,aS,_,_,_=>by simp[iT.depth]at aS
 |0,.bL _ _,_,_,_,aS,_,_,_=>by simp[iT.depth]at aS
 |0,.da _ _ _,_,_,_,aS,_,_,_=>by simp[iT.depth]at aS
 |
  n+1,.loc i r,D,a,w,aS,a6,cd,h=>by
  have aS:r.depth n=true:=aS;simp only[nQ]at h;cases aJ:l.toArray[i]?with
  |none=>rw[aJ]at h;exact h.elim
  |
   some o=>
   simp only[aJ]at h;simp only[mG,iy]at cd;obtain⟨⟨⟨⟨aF,ba⟩,q⟩,p⟩,b⟩:=cd;have c:i∈Region.ready .any l.toArray D:=HJ;have g:i∉c5:=A2;have s:∀e∈c5,D.getD e false=true\/((k6 l []).getD e 0).testBit i=true:=HK;have fin:∀v,o7 P l.toArray (λX=>X=w) o v a->nQ P l.toArray F U C r false (a.put o.dst v) w->wL P l.toArray c5 U F C (n+1) D a w:=λv ag cV=>
    A1 (z:=λX=>X=w) aJ g (Region.noSelect_spec ai) (λf=>tx l.toArray f/\∀e∈c5,f.getD e false=true\/((k6 l []).getD e 0).testBit i=true)
     (λf j bK _ O=>⟨bK.1.set O,λe Y=>(bK.2 e Y).imp (λh=>getD_set_true h) id⟩)
     (fun f j bK d7 O Y X _ => by
      exfalso;rcases bK.2 j Y with h1|h1
      . have h2:=(mem_ready.1 O).1;rw[uR h2]at h1;cases h1
      . exact(HI bK.1 (uR d7) j h1).2 O)
     n D a w ⟨a6,s⟩ rfl (Region.free_spec aJ ba) c ag (Cz ai n r _ _ _ aS (a6.set c) b cV)
   by_cases R:Region.wanted o (yielded l.toArray a.tmps)=true
   . rw[bg R]at h
     obtain⟨v,Z,cV⟩:=h;exact fin v (.inl ⟨R,λX e=>by subst e;exact Z⟩) cV
   . rw[a7 R]at h
     exact fin undef (.inr ⟨by simpa using R,rfl⟩) h
 |
  n+1,.bL i r,D,a,w,aS,a6,cd,h=>by
  have aS:r.depth n=true:=aS;simp only[nQ]at h;cases aJ:l.toArray[i]?with
  |none=>rw[aJ]at h;exact h.elim
  |
   some o=>
   simp only[aJ]at h;simp only[mG,iy]at cd;obtain⟨⟨⟨⟨aF,ba⟩,q⟩,p⟩,b⟩:=cd;have c:i∈Region.ready .any l.toArray D:=HJ;have g:i∉c5:=A2;have s:∀e∈c5,e∈U\/D.getD e false=true\/((k6 l []).getD e 0).testBit i=true:=HK;by_cases R:Region.wanted o (yielded l.toArray a.tmps)=true
   . rw[bg R]at h
     obtain⟨N,v,Z,cV⟩:=h;exact A1 (z:=C) aJ g (Region.noSelect_spec ai) (λf=>tx l.toArray f/\∀e∈c5,e∈U\/f.getD e false=true\/((k6 l []).getD e 0).testBit i=true)
      (λf j bK _ O=>⟨bK.1.set O,λe Y=>(bK.2 e Y).imp id (λh=>h.imp (λh=>getD_set_true h) id)⟩)
      (fun f j bK d7 O Y X u => by
       rcases bK.2 j Y with h1|h1|h1
       . exact u h1
       . exfalso;have h2:=(mem_ready.1 O).1;rw[uR h2]at h1;cases h1
       . exfalso;exact(HI bK.1 (uR d7) j h1).2 O)
      n D a w ⟨a6,s⟩ N (Region.free_spec aJ ba) c (.inl ⟨R,Z⟩) (Cz ai n r _ _ _ aS (a6.set c) b cV)
   . rw[a7 R]at h
     exact A1 (z:=λ_=>True) aJ g (Region.noSelect_spec ai) (λ_=>True) (λ_ _ _ _ _=>trivial) (λ_ _ _ _ _ _ _ _=>trivial)
      n D a w trivial trivial (Region.free_spec aJ ba) c (.inr ⟨by simpa using R,rfl⟩) (Cz ai n r _ _ _ aS (a6.set c) b h)
 |
  n+1,.da i r d,D,a,w,aS,a6,cd,h=>by
  simp only[mG,kQ,iy,ln]at cd;obtain⟨⟨⟨aF,q⟩,b⟩,B⟩:=cd;simp only[iT.depth,iy]at aS;refine⟨λbi=>(by rw[bi]at aF;cases aF),λj O=>?_⟩;obtain⟨aG,bb⟩:=h;have M:=O;rw[aF]at M;rcases ky.1 M with rfl|E
  . exact akA A2 aG λaD X co=>Cz ai n r _ _ _ aS.1 (a6.set O) b co
  . obtain⟨m,cR,b8,il,ez⟩:=akB d D a w B bb j E
    exact akA cR il λaD X co=>Cz ai n m _ _ _ (ez n (by cases d<;>first|rfl|exact aS.2)) (a6.set O) b8 co
theorem aAU{id:Nat}{Q:Exit->Act->World->Prop}{a:Act}{w:World}{l:List Oper}(c5 U:List Nat)(t:iT)(C:World->Prop)(bf:P.follows .mixedOrders=true)(cd:FK l c5 U t=true)
 (h:nQ P l.toArray (Q .normal) U C t false a MV):(Code.region id l.toArray true).wp P Q a w:=by
 simp only[FK,iy]at cd;obtain⟨⟨ai,aw⟩,b⟩:=cd;refine wp_region_any bf ?_;have:=HG (Q:=Q) (F:=Q .normal) (λ_ _ h=>h) _ _ _ _ (Cz ai l.length t _ a _ aw NR b h);simpa using this
variable{H:World}{n:Nat}{J:e6}{M I O:List al}{Q:Exit->Act->World->Prop}{op:Op}{bH:TypeId}{pos:String}{N:Array Edge}{g:Option (Nat×Bool)}{i:Nat}{t u:iT}{b:Bool}
section
variable(o:Oper){a id:Nat}{r:e6}{v:Value}{d:Nat}{p:Value->List al->Prop}{l:List Oper}{m:Nat}{D:Array Bool}
def GT(P:Program)(H:World)(n:Nat)(E:Array Oper)(U:List Nat)(t:iT)(b:Bool)(J:e6)(M O:List al)(F:Act->World->Prop):Prop:=
 ∀a w,hl n J a->dt H M w->nQ P E F U (dt H O) t b a w
def hn{j z:Nat}{c:Bool}(a:(E[j]?).bind (·.dst)=some z)(d:gN J z=some (.bool c))(h1:c=true->GT P H n E U t b J M O F)(h2:c=false->GT P H n E U t b J M O F):GT P H n E U t b J M O F:=by
 cases c;exact h2 rfl;exact h1 rfl
def aAV(h:GE H n J M F):GT P H n E U .nil false J M O F:=h
def z1(f:∀h,Sat M h->Sat I h)(h:GT P H n E U t b J I O F):GT P H n E U t b J M O F:=λa w ai s=>h a w ai (s.imp f)
def fm(h:GT P H n E U (.da i t .nil) b J M O F)(h2:GT P H n E U u true J M O F):GT P H n E U (.da i t u) b J M O F:=λa w ai s=>⟨(h a w ai s).1,h2 a w ai s⟩
def tg(aJ:E[i]?=some ri)(R:hZ E J g true)(aS:Nat.blt d n=true)(Z:b1 P H n op bH J M v)(h:GT P H n E U t false n0 M O F):GT P H n E U (.loc i t) b J M O F:=
 λa w ai s=>by
  simp only[nQ,aJ,hZ.wanted (o:=⟨some d,op,bH,pos,N,g⟩) R ai,fu];exact⟨v,Z _ _ _ _ _ _ ai s,h _ _ q9 s⟩
def jJ(aJ:E[i]?=some ri)(R:hZ E J g true)(aS:Nat.blt d n=true)(Z:b1 P H n op bH J O v)(a6:∀h,Sat M h->Sat O h)(h:GT P H n E U t false n0 M O F):GT P H n E U (.bL i t) b J M O F:=
 λa w ai s=>by
  simp only[nQ,aJ,hZ.wanted (o:=⟨some d,op,bH,pos,N,g⟩) R ai,fu];exact⟨s.imp a6,v,λX aW=>Z _ _ _ _ _ _ ai aW,h _ _ q9 s⟩
def aAW(aJ:E[i]?=some ri)(R:hZ E J g false)(aS:Nat.blt d n=true)(h:GT P H n E U t false AK M O F):GT P H n E U (.loc i t) b J M O F:=
 λa w ai s=>by
  simp only[nQ,aJ,hZ.wanted (o:=⟨some d,op,bH,pos,N,g⟩) R ai,e2,eI];exact h _ _ ys s
def aAX(aJ:E[i]?=some ri)(R:hZ E J g false)(aS:Nat.blt d n=true)(h:GT P H n E U t false AK M O F):GT P H n E U (.bL i t) b J M O F:=
 λa w ai s=>by
  simp only[nQ,aJ,hZ.wanted (o:=⟨some d,op,bH,pos,N,g⟩) R ai,e2,eI];exact h _ _ ys s
def aAY(aJ:E[i]?=some ri)(R:hZ E J g false)(aS:Nat.blt d n=true)(h:GT P H n E U t false AK M O F):GT P H n E U (.da i t .nil) b J M O F:=
 λa w ai s=>by
  refine⟨?_,trivial⟩;simp only[xM,aJ,hZ.wanted (o:=⟨some d,op,bH,pos,N,g⟩) R ai,e2,eI];exact h _ _ ys s
def aAZ(aJ:E[i]?=some L3)(R:hZ E J g true)(Z:dk P H n op bH J M I)(a6:i∈U->∀h,Sat I h->Sat O h)(h:GT P H n E U t false J I O F):GT P H n E U (.da i t .nil) b J M O F:=
 λa w ai s=>by
  refine⟨?_,trivial⟩;obtain⟨X,aF,aW⟩:=Z a w none pos N g ai s;simp only[xM,aJ,hZ.wanted (o:=⟨none,op,bH,pos,N,g⟩) R ai,fu,Oper.wp,aF,Oper.upon];exact⟨λC=>aW.imp (a6 C),h _ _ ai aW⟩
def x8(aJ:E[i]?=some ri)(R:hZ E J g true)(aS:Nat.blt d n=true)(Z:c7 P H n op bH J M p)(h:∀v I,p v I->CN/\GT P H n E U t false n0 I O F):GT P H n E U (.da i t .nil) b J M O F:=
 λa w ai s=>by
  refine⟨?_,trivial⟩;obtain⟨v,I,X,aF,hp,aW⟩:=Z a w (some d) pos N g ai s;simp only[xM,aJ,hZ.wanted (o:=⟨some d,op,bH,pos,N,g⟩) R ai,fu,Oper.wp,aF,Oper.upon];exact⟨λC=>aW.imp CO,(h v I hp).2 _ _ q9 aW⟩
def pB(aJ:E[i]?=some ri)(R:hZ E J g true)(aS:Nat.blt d n=true)(Z:ds P H n op bH J M p)(h:∀v I,p v I->CN/\GT P H n E U t false n0 I O F):GT P H n E U (.da i t .nil) b J M O F:=
 λa w ai s=>by
  refine⟨?_,trivial⟩;obtain⟨f,args,aF,g7⟩:=Z a w (some d) pos N g ai s;simp only[xM,aJ,hZ.wanted (o:=⟨some d,op,bH,pos,N,g⟩) R ai,fu,Oper.wp,aF,Oper.upon];exact g7.mono λe X ⟨v,I,Y,hp,aW⟩=>by subst Y;exact⟨λC=>aW.imp CO,(h v I hp).2 _ _ q9 aW⟩
def gW(J c:e6):Prop:=∀t v,gN J t=some v->gN c t=some v
def gW.refl(J:e6):gW J J:=λ_ _ h=>h
def gW.push{J c:e6}{k:Nat}{v:Value}(h:gW J c)(ba:gN J k=none):gW J ((k,v)::c):=λt u e=>by
 simp only[gN];cases aA:Nat.beq k t with
 |true=>have:=lr aA;subst this;rw[ba]at e;cases e
 |false=>simpa using h t u e
def gW.dG{J c:e6}{d:Nat}{v:Value}(h:gW J c)(Z:gN c d=some v):gW n0 c:=λt u e=>by
 simp only[gN]at e;cases aA:Nat.beq d t with
 |true=>rw[aA]at e;have:=lr aA;subst this;simp at e;subst e;exact Z
 |false=>rw[aA]at e;exact h t u (by simpa using e)
def hl.ak0{a:Act}(h:hl n J a)(k:gW r J):hl n r a:=⟨h.size,h.defers,λ_ _ e=>h.val _ _ (k _ _ e)⟩
def aA0{u:iT}(t:iT)(v:Value)(k:GT P H n E U t false n0 M O F)(h:(∀c,gW ((d,v)::J) c->GT P H n E U t false c M O F)->GT P H n E U u b J M O F):GT P H n E U u b J M O F:=
 h λ_ hk a w ai s=>k a w (ai.ak0 hk) s
def mN(m:Nat)(v:Value)(k:cJ P H n E (l.drop m) n0 M Q)(h:(∀c,gW ((d,v)::J) c->cJ P H n E (l.drop m) c M Q)->cJ P H n E l J M Q):cJ P H n E l J M Q:=
 h λ_ hk a w ai s=>k a w (ai.ak0 hk) s
def pA(k:bd r J)(h:GT P H n E U t b r M O F):GT P H n E U t b J M O F:=λa w ai s=>h a w (ai.jC k) s
def k9{a b:Bool}(h:a=b):some (Value.bool a)=some (Value.bool b):=by rw[h]
theorem aA1(c5 U:List Nat)(t:iT)(O:List al)(bf:P.follows .mixedOrders=true)(cd:FK l c5 U t=true)
 (h:GT P H n l.toArray U t false J M O (Q .normal)):G P H n HL J M Q:=
 λa w ai s=>aAU c5 U t _ bf cd (h a _ ai s.drew)
structure qP where
 dN:Nat
 CA:Nat
 LD:Nat
 an:Nat
def Bw:Nat:=match o.dst with
 |some d=>2^d
 |none=>0
def u5:List Nat->Nat
 |[]=>0
 |t::r=>2^t|||u5 r
def y8:Nat:=u5 ((o.after.toList.filter λe=>Region.binds .any e).map (·.on))
def sY(E:Array Oper):List Oper->List Nat->List qP
 |[],_=>[]
 |o::r,[]=>⟨Bw o,u5 (o.looksAt E),y8 o,0⟩::sY E r []
 |o::r,a::as=>⟨Bw o,u5 (o.looksAt E),y8 o,a⟩::sY E r as
def rowsOf(l:List Oper):List qP:=sY l.toArray l (k6 l [])
def z6(r:qP)(m j:Nat):Bool:=!m.testBit j&&Nat.beq (r.LD&&&m) r.LD
def z7(m:Nat):List qP->Nat->List Nat
 |[],_=>[]
 |r::a,j=>cond (z6 r m j) (j::z7 m a (j+1)) (z7 m a (j+1))
def CB(ir:qP)(m i:Nat):List qP->Nat->Bool
 |[],_=>true
 |r::a,j=>(Nat.beq j i||(m.testBit j||(r.LD.testBit i||(Nat.beq (ir.dN&&&r.CA) 0&&(Nat.beq (ir.dN&&&r.dN) 0&&Nat.beq (r.dN&&&ir.CA) 0)))))&&CB ir m i a (j+1)
def rH(a:List qP)(c5 U:List Nat):iT->Bool->Nat->Bool
 |.nil,false,m=>(z7 m a 0).isEmpty
 |.nil,true,_=>true
 |.loc i r,false,m=>(match a[i]?with|some ir=>z6 ir m i&&CB ir m i a 0|none=>false)&&!c5.contains i&&c5.all (λe=>m.testBit e||(match a[e]?with|some c=>c.an.testBit i|none=>false))&&rH a c5 U r false (m|||2^i)
 |.bL i r,false,m=>(match a[i]?with|some ir=>z6 ir m i&&CB ir m i a 0|none=>false)&&!c5.contains i&&c5.all (λe=>U.contains e||(m.testBit e||(match a[e]?with|some c=>c.an.testBit i|none=>false)))&&rH a c5 U r false (m|||2^i)
 |.da i r d,b,m=>(b||decide (z7 m a 0=i::d.LQ))&&c5.contains i&&(match a[i]?with|some ir=>z6 ir m i|none=>false)&&rH a c5 U r false (m|||2^i)&&rH a c5 U d true m
 |_,true,_=>false
def LF(l:List Oper)(c5 U:List Nat)(t:iT):Bool:=
 Region.noSelect l.toArray&&t.depth l.length&&rH (rowsOf l) c5 U t false 0
def LG{i:Nat}:∀(l:List Nat),(u5 l).testBit i=true↔i∈l
 |[]=>by simp[u5]
 |
  t::r=>by
  rw[u5,NQ,XU,ty,LG r,ky,ln];constructor
  . rintro(h|h);exact .inl h.symm;exact .inr h
  . rintro(h|h);exact .inl h.symm;exact .inr h
def TB{o:Oper}{i:Nat}:(y8 o).testBit i=true↔∃e∈o.after,Region.binds .any e=true/\e.on=i:=by
 unfold y8;rw[LG];simp[lN,oL,and_assoc]
def aA2(h:Nat.beq (a&&&m) a=true){i:Nat}(aX:a.testBit i=true):m.testBit i=true:=by
 have g4:=lr h;rw[<-g4,akC,iy]at aX;exact aX.2
def TC{b:Nat}(h:Nat.beq (a&&&b) 0=true){i:Nat}(aX:a.testBit i=true):b.testBit i=false:=by
 have g4:=lr h;have:=congrArg (λn=>n.testBit i) g4;simp[akC,aX]at this;exact this
def aA3(h:∀i,a.testBit i=true->m.testBit i=true):Nat.beq (a&&&m) a=true:=by
 have:a&&&m=a:=Nat.eq_of_testBit_eq λi=>by
  rw[akC];cases aX:a.testBit i with
  |false=>rfl
  |true=>rw[h i aX];rfl
 rw[this];exact VY _
def LH(E:Array Oper):∀(l:List Oper) (as:List Nat) (i:Nat) (r:qP),(sY E l as)[i]?=some r↔∃o,l[i]?=some o/\r=⟨Bw o,u5 (o.looksAt E),y8 o,as.getD i 0⟩
 |[],_,i,r=>by simp[sY]
 |o::l,[],0,r=>by simp[sY,eq_comm]
 |o::l,a::as,0,r=>by simp[sY,eq_comm]
 |o::l,[],i+1,r=>by simp only[sY,HV];rw[LH E l [] i r];simp
 |o::l,a::as,i+1,r=>by simp only[sY,HV];rw[LH E l as i r];simp
def z8{i:Nat}{r:qP}(h:(rowsOf l)[i]?=some r):∃o,l[i]?=some o/\r=abW:=(LH _ _ _ _ _).1 h
def aA4{i:Nat}{o:Oper}(h:l[i]?=some o):(rowsOf l)[i]?=some abW:=(LH _ _ _ _ _).2 ⟨o,h,rfl⟩
structure vH(l:List Oper)(m:Nat)(D:Array Bool):Prop where
 size:D.size=l.length
 bit:∀j,D.getD j false=m.testBit j
def vH.get(h:vH l m D){j:Nat}(O:j<l.length):D.getD j true=m.testBit j:=by
 rw[<-h.bit j];have:j<D.size:=by rw[h.size];exact O
 simp[Dn,this]
def vH.set(h:vH l m D){i:Nat}(ak:i<l.length):vH l (m|||2^i) HH:=by
 refine⟨by rw[Array.size_setIfInBounds];exact h.size,λj=>?_⟩;rw[NQ,XU,<-h.bit j];have ai:i<D.size:=by rw[h.size];exact ak
 by_cases g1:i=j
 . subst g1;simp[Dn,MW,ai]
 . simp[Dn,MW,g1]
def TD(h:vH l m D){i:Nat}{o:Oper}(aJ:l[i]?=some o)(CA an dN:Nat):z6 ⟨dN,CA,y8 o,an⟩ m i=true↔i∈Region.ready .any l.toArray D:=by
 have ak:=(dp.1 aJ).1;rw[mem_ready,h.get ak];unfold z6;rw[iy,BL];refine and_congr_right λ_=>⟨λh2=>⟨o,by simpa using aJ,λe Y aA=>?_⟩,fun⟨S,b,p⟩=>aA3 λj O=>?_⟩
 . rw[h.bit];exact aA2 h2 (TB.2 ⟨e,Y,aA,rfl⟩)
 . have:S=o:=by
    have a:l[i]?=some S:=by simpa using b
    exact n9 (a.symm.trans aJ)
   subst this;obtain⟨e,Y,aA,rfl⟩:=TB.1 O;rw[<-h.bit];exact p e Y aA
def akD{m:Nat}{p:Nat->Bool}:∀(a:List qP) (k:Nat),(∀j r,a[j]?=some r->z6 r m (k+j)=p (k+j))->z7 m a k=(List.range' k a.length).filter p
 |[],_,_=>rfl
 |
  r::a,k,h=>by
  have bi:=h 0 r rfl;have L:=akD a (k+1) (λj r O=>by have:=h (j+1) r DL;rwa[show k+(j+1)=k+1+j by omega]at this);simp only[HD]at bi;rw[z7,iG,List.range'_succ,On,bi,L];cases p k<;>rfl
def akE(h:vH l m D):z7 m (rowsOf l) 0=Region.ready .any l.toArray D:=by
 have aw:(rowsOf l).length=l.length:=by
  have key:∀(E:Array Oper) (l:List Oper) (as:List Nat),(sY E l as).length=l.length:=by
   intro E l
   induction l with
   |nil=>intro as;rfl
   |cons o l L=>intro as;cases as<;>simp[sY,L]
  exact key _ _ _
 have aF:Region.ready .any l.toArray D=(List.range l.toArray.size).filter (λi=>!D.getD i true&&((l.toArray[i]?).map (·.after.all λe=>!Region.binds .any e||D.getD e.on false)).getD false):=rfl;rw[aF,List.range_eq_range',akD (rowsOf l) 0 (p:=λi=>!D.getD i true&&((l.toArray[i]?).map (·.after.all λe=>!Region.binds .any e||D.getD e.on false)).getD false),aw,x2];intro j r O;obtain⟨o,aJ,rfl⟩:=z8 O;rw[lo,o0,TD h aJ,aF,oL,pM];have:=(dp.1 aJ).1;simp[this]
def akF{m i:Nat}{ir:qP}:∀(a:List qP) (k:Nat),CB ir m i a k=true->∀j r,a[j]?=some r->(k+j=i\/m.testBit (k+j)=true\/r.LD.testBit i=true\/(Nat.beq (ir.dN&&&r.CA) 0=true/\Nat.beq (ir.dN&&&r.dN) 0=true/\Nat.beq (r.dN&&&ir.CA) 0=true))
 |[],_,_,j,r,O=>by simp at O
 |
  l::a,k,h,j,r,O=>by
  simp only[CB,iy,ty]at h;cases j with
  |
   zero=>
   simp at O;subst O;rcases h.1 with h1|h1|h1|h1
   . exact .inl (by rw[HD];exact lr h1)
   . exact .inr (.inl h1)
   . exact .inr (.inr (.inl h1))
   . exact .inr (.inr (.inr ⟨h1.1,h1.2.1,h1.2.2⟩))
  |
   succ j=>
   have:=akF a (k+1) h.2 j r DL;rwa[show k+1+j=k+(j+1) by omega]at this
def akG(h:vH l m D){i:Nat}{ir:qP}(ak:(rowsOf l)[i]?=some ir)(ba:CB ir m i (rowsOf l) 0=true):Region.free .any l.toArray D i=true:=by
 obtain⟨I,k,rfl⟩:=z8 ak;have a:l.toArray[i]?=some I:=by simpa using k
 unfold Region.free;simp only[a,p2,pM];intro j O;have v:j<l.length:=DL;obtain⟨g,n⟩:∃g,l[j]?=some g:=⟨_,cD v⟩;have b:l.toArray[j]?=some g:=by simpa using n
 have:=akF _ _ ba j _ (aA4 n);rw[lo]at this;simp only[b,ty,beq_iff_eq];rcases this with h1|h1|h1|⟨h1,h2,aN⟩
 . exact .inl (.inl h1)
 . exact .inl (.inr (by rw[h.get v];exact h1))
 . obtain⟨e,Y,aA,r⟩:=TB.1 h1
   exact .inr (.inl (by rw[Array.any_eq_true'];exact⟨e,Y,by simp[aA,r]⟩))
 . refine .inr (.inr ?_)
   unfold Oper.apart;have cq:∀(o:Oper) d,o.dst=some d->(Bw o).testBit d=true:=λo d aS=>by unfold Bw;rw[aS];simp
   rw[iy];constructor
   . cases aS:I.dst with
     |none=>rfl
     |
      some d=>
      simp only[iy,BL,bne_iff_ne];have aA:=cq I d aS;constructor
      . have:=TC h1 aA
        cases a6:(g.looksAt l.toArray).contains d with
        |false=>rfl
        |true=>rw[(LG _).2 (by simpa using a6)]at this;cases this
      . intro f
        have:=TC h2 aA;rw[cq g d f]at this;cases this
   . cases aS:g.dst with
     |none=>rfl
     |
      some d=>
      simp only[BL];have:=TC aN (cq g d aS);cases a6:(I.looksAt l.toArray).contains d with
      |false=>rfl
      |true=>rw[(LG _).2 (by simpa using a6)]at this;cases this
theorem FL{l:List Oper}{c5 U:List Nat}:∀(t:iT) (b:Bool) (m:Nat) (D:Array Bool),vH l m D->rH (rowsOf l) c5 U t b m=true->mG l.toArray (k6 l []) c5 U t b D=true
 |
  .nil,false,m,D,h,hk=>by
  simp only[rH]at hk;simp only[mG];rw[<-akE h];exact hk
 |.nil,true,_,_,_,_=>rfl
 |.loc i r,true,_,_,_,hk=>by simp[rH]at hk
 |.bL i r,true,_,_,_,hk=>by simp[rH]at hk
 |
  .loc i r,false,m,D,h,hk=>by
  simp only[rH,iy]at hk;obtain⟨⟨⟨h1,h2⟩,aN⟩,bA⟩:=hk;cases ak:(rowsOf l)[i]?with
  |none=>rw[ak]at h1;cases h1
  |
   some ir=>
   rw[ak]at h1;simp only[iy]at h1;obtain⟨I,k,J⟩:=z8 ak;have d4:=(dp.1 k).1;simp only[mG,iy];refine⟨⟨⟨⟨?_,akG h ak h1.2⟩,h2⟩,?_⟩,FL r false _ _ (h.set d4) bA⟩
   . rw[J]at h1;simpa using(TD h k _ _ _).1 h1.1
   . rw[p2]at aN⊢
     intro e Y;have:=aN e Y;rw[ty]at this⊢;rw[h.bit];refine this.imp id λd3=>?_;cases a:(rowsOf l)[e]?with
     |none=>rw[a]at d3;cases d3
     |some c=>rw[a]at d3;obtain⟨g,_,rfl⟩:=z8 a;exact d3
 |
  .bL i r,false,m,D,h,hk=>by
  simp only[rH,iy]at hk;obtain⟨⟨⟨h1,h2⟩,aN⟩,bA⟩:=hk;cases ak:(rowsOf l)[i]?with
  |none=>rw[ak]at h1;cases h1
  |
   some ir=>
   rw[ak]at h1;simp only[iy]at h1;obtain⟨I,k,J⟩:=z8 ak;have d4:=(dp.1 k).1;simp only[mG,iy];refine⟨⟨⟨⟨?_,akG h ak h1.2⟩,h2⟩,?_⟩,FL r false _ _ (h.set d4) bA⟩
   . rw[J]at h1;simpa using(TD h k _ _ _).1 h1.1
   . rw[p2]at aN⊢
     intro e Y;have:=aN e Y;rw[ty,ty]at this⊢;rw[h.bit];refine this.imp id λg3=>g3.imp id λd3=>?_;cases a:(rowsOf l)[e]?with
     |none=>rw[a]at d3;cases d3
     |some c=>rw[a]at d3;obtain⟨g,_,rfl⟩:=z8 a;exact d3
 |
  .da i r d,b,m,D,h,hk=>by
  simp only[rH,iy]at hk;obtain⟨⟨⟨⟨h1,h2⟩,aN⟩,bA⟩,d3⟩:=hk;cases ak:(rowsOf l)[i]?with
  |none=>rw[ak]at aN;cases aN
  |
   some ir=>
   obtain⟨I,k,J⟩:=z8 ak;have d4:=(dp.1 k).1;simp only[mG,iy];exact⟨⟨⟨by rw[<-akE h];exact h1,h2⟩,FL r false _ _ (h.set d4) bA⟩,FL d true _ _ h d3⟩
def aA5{c5 U:List Nat}{t:iT}(h:LF l c5 U t=true):FK l c5 U t=true:=by
 simp only[LF,iy]at h;simp only[FK,iy];exact⟨h.1,FL t false 0 _ ⟨by simp,λj=>by simp[Dn,Array.getElem?_replicate];split<;>rfl⟩ h.2⟩
theorem aA6(c5 U:List Nat)(t:iT)(O:List al)(bf:P.follows .mixedOrders=true)(cd:LF l c5 U t=true)
 (h:GT P H n l.toArray U t false J M O (Q .normal)):G P H n HL J M Q:=aA1 c5 U t O bf (aA5 cd) h
end
end
class k4(P:Program)(t:TypeId)(name:String)(f:outParam FuncId):Prop where
 out:∀v w,(method (P.types.size+Made.depth) t v name).run P w=.ok (f,v) w
section
variable{P:Program}{H w:World}{n:Nat}{J:e6}{M:List al}{bH:TypeId}
section
variable{t e aZ:Nat}{x y:Operand}{a:Option Addr}{l c i:Nat}{d9:IntKind}
theorem wE{t:TypeId}{name:String}{f:FuncId}{x:Operand}{v:Value}{xs:List Operand}{z:Array TypeId}{cg:List Value}{pre D:List al}{post:Value->List al->Prop}[m:k4 P t name f](Z:cm J x=some (.iface t v))(ah:tu J xs=some cg)(ba:ab P f (v::cg) pre post)(hp:Part pre M D)(fI:fb P f:=by exact fl):
 ds P H n Yr bH J M HY:=λa w d pos N g ai s=>by
 refine⟨f,(v::cg).toArray,?_,?_⟩
 . simp only[execOp,resolve,oM,ai.Ac ah,ai.eval Z]
   have aC:=m.out v w;simp[invoke,callMethod,run_program]at aC⊢;rw[aC];simpa using HZ (P:=P) (f:=f) (v::cg).toArray w
 . exact(ba H D w DR).mono λe X ⟨v,L,Y,bt,aW⟩=>⟨v,_,Y,⟨L,bt,rfl⟩,aW⟩
instance(priority:=low) je.litOff{b bY n C:Nat}{e:TypeId}{xs:List Value}{r:List al}:je (.slice (some ou) n C) (aa b e xs::r) n (xs.drop bY)where
 get:=fun⟨_,_,_,aC,aX,_⟩=>aC▸.inr ⟨b,bY,none,C,rfl,λ_=>rfl,λj x ah=>⟨rfl,xs.toArray,e,(0,0),join_some aX,by rw[LY]at ah;simpa using ah⟩⟩
def DS{t e aZ l c:Nat}{a:Option Addr}[i:jU P t e aZ](h:cm J x=some yJ):b1 P H n Ob bH J M (.int .i64 l):=λaD w d pos N g ai s=>by
 obtain⟨z,h1,h2,aN⟩:=i.out;simp only[execOp,resolve,oM,gx,mO,ai.eval h];simp[invoke,builtin,Builtin.len_,gG h1,goInt]
def th[j:jU P t e aZ](ah:cm J x=some yJ)(ag:cm J y=some (.int d9 (i:Int)))(ak:i<=c):b1 P H n (.slice t x none (some y) none) bH J M (.slice a i c):=λaD w d pos N g ai _=>by
 obtain⟨z,h1,h2,aN⟩:=j.out;simp only[execOp,nD,Ga,ai.eval ah,ai.eval ag];have gJ:a.map (λx:Addr=>x.add 0)=a:=by cases a<;>simp[Addr.add]
 simp[Instr.sliceAt,Instr.slice,gG h1,jP h2,Instr.sliceBounds,Instr.sliceBound,asIntOf,ak,gJ]
def DT[j:jU P t e aZ](ah:cm J x=some yJ)(ag:cm J y=some (.int d9 (i:Int)))(ak:i<=l):b1 P H n (.slice t x (some y) none none) bH J M (.slice XP (l -i) (c -i)):=λaD w d pos N g ai _=>by
 obtain⟨z,h1,h2,aN⟩:=j.out;simp only[execOp,nD,Ga,ai.eval ah,ai.eval ag];simp[Instr.sliceAt,Instr.slice,gG h1,jP h2,aN,Instr.sliceBounds,Instr.sliceBound,asIntOf,ak]
end
end
section
variable{P:Program}{f:FuncId}{args:List Value}{post z:Value->List al->Prop}
def Oa{I c D:List al}(i:∀h,Sat I h->Sat c h):∀h,Sat (I++D) h->Sat (c++D) h:=λ_ s=>
 let⟨_,_,d,e,a,b⟩:=Sat.split s;e▸Sat.append d (i _ a) b
def ab.aU{M:List al}(h:ab P f args M post)(g:∀v I,post v I->∃c,z v c/\∀h,Sat I h->Sat c h):ab P f args M z:=λH D w s=>
 (h H D w s).mono λ_ _ ⟨v,I,e,p,s⟩=>let⟨c,S,i⟩:=g v I p;⟨v,c,e,S,s.imp (Oa i)⟩
def Yo{bv:Type}{fO:bv->Prop}{l:bv->List al}(h:∀x,fO x->ab P f args (l x) post):ab P f args [dq fO l] post:=λH D w s=>by
 obtain⟨x,ah,n⟩:=ha (D:=D) s.fg;exact h x ah H D w ⟨s.os,s.tape,s.output,s.size,n⟩
def Yp{bv:Type}{fO:bv->Prop}{l:bv->List al}{I:List al}(x:bv)(p:fO x)(t:∀h,Sat I h->Sat (l x) h):∀h,Sat I h->Sat [dq fO l] h:=λh s=>Sat.one ⟨x,p,t h s⟩
end
class Yq(l:List al)(v:Value)(n:outParam Nat)(xs:outParam (List Value)):Prop where
 out:∃(i:Nat) (e:TypeId) (aZ:Nat),l[i]?=some (own v e aZ n xs)
section
variable{P:Program}{H w:World}{M:List al}{b bY:Nat}{T te:TypeId}{l:List Value}{v:Value}{R:Nat×Nat}{u:Obj->List al}
instance gw.aCk{l:List al}{v:Value}{n:Nat}{xs:List Value}[i:Yq l v n xs]:gw v (ao l) n xs where
 get:=fun{h} aX=>by
  obtain⟨i,e,aZ,ak⟩:=i.out;have ai:Sat (ao l::[]) h:=Sat.one aX;obtain⟨h1,h2,_,Y,aJ,_⟩:=r6 ak h ai;rw[Y];exact(oc.rd aJ).more
def HX[i:e3 P T][j:kV b M FW u](s:dt H M w)(Z:l[bY]?=some v):(loadVar T ou).run P w=.ok v w:=by
 obtain⟨F,h1,h2⟩:=i.out;have aA:=s.heap (b:=b);have a6:w.cell? ou=some v:=by simp[World.cell?,aA,Z]
 simp[loadVar,DQ h1 h2,run_load,a6]
def apr{aZ:Nat}{T te:TypeId}{l cg:List Value}{R:Nat×Nat}{u:Obj->List al}[i:j8 P T aZ][j:kV b M FW u](s:dt H M w)(Z:(l.drop bY).take aZ=cg)(aw:cg.length=aZ):(loadVar T ou).run P w=.ok wM w:=by
 obtain⟨g,W,cU⟩:=i.out;obtain⟨z,em,gc⟩:=i.size;have aA:=s.heap (b:=b);have a6:=run_loadCells_list (P:=P) w ou cg (λk v hk=>by
  rw[<-Z]at hk;have:=Ae hk;rw[ud];simp[World.cell?,aA,this])
 rw[aw]at a6;simp[loadVar,Af W cU,jP em,gc,a6]
def aps{A:al}{D:List al}(n:Nat)(B:∀D h,Sat D h->Sat (A::D) h):∀h,Sat D h->Sat (ao (List.replicate n A)::D) h:=λh s=>by
 refine Sat.flat.2 ?_
 induction n with
 |zero=>exact s
 |succ n L=>exact B _ _ L
end
structure iU(P:Prop):Prop where
 o:P
section
variable{P:Program}{H w:World}{n:Nat}{J:e6}{M:List al}{bH:TypeId}
section
variable{t dr:TypeId}{x y:Operand}{k:IntKind}{p q r:Int}
def aBa(ah:cm J x=some (.int k p))(ag:cm J y=some (.int k q))(aF:k.wrap (p+q)=r):b1 P H n (.binOp .add t x y dr) bH J M (.int k r):=fy r aF ah ag
def aBb(ah:cm J x=some (.int k p))(ag:cm J y=some (.int k q))(aF:k.wrap (p -q)=r):b1 P H n (.binOp .sub t x y dr) bH J M (.int k r):=kl r aF ah ag
def aBc(ah:cm J x=some (.int k p))(ag:cm J y=some (.int k q))(aF:k.wrap (p*q)=r):b1 P H n (.binOp .mul t x y dr) bH J M (.int k r):=rT r aF ah ag
def aBd{Y:IntKind}{p r:Int}[uU P t k][uU P dr Y](ah:cm J x=some (.int k p))(aF:Y.wrap p=r):b1 P H n (.convert t dr x) bH J M (.int Y r):=pD r aF ah
end
end
section
variable{A:Prop}
def LI{k:IntKind}{x r:Int}(h:k.wrap x=r:=by first|exact jz (by omega)|exact tk (by omega)|rfl):k.wrap x=r:=h
theorem qF(h:A:=by
 first
 |exact j3 rfl|exact mq rfl
 |exact si rfl|exact mX rfl
 |exact o_load rfl rfl|exact gF rfl rfl|exact uX rfl|exact kz rfl rfl rfl|exact zB rfl rfl rfl
 |exact mm rfl|exact JI rfl rfl
 |exact mY rfl rfl|exact mh rfl rfl|exact yF rfl rfl|exact H2 rfl rfl|exact BV rfl rfl|exact Aj rfl rfl
 |exact ql rfl|exact aqI rfl|exact DS rfl|exact KH rfl rfl|exact ly rfl rfl
 |(apply aBa;exact rfl;exact rfl;exact LI)|(apply aBb;exact rfl;exact rfl;exact LI)|(apply aBc;exact rfl;exact rfl;exact LI)
 |exact gf rfl rfl (by first|assumption|omega)|(apply lU;exact rfl;exact rfl;omega)
 |(apply aBd;exact rfl;exact LI)
 |exact aqz rfl rfl|exact aqB rfl rfl|exact aqA rfl rfl|exact aqC rfl rfl
 |exact asJ rfl rfl|exact ahj rfl rfl|exact aso rfl rfl
 |exact YR rfl rfl
 |exact DU rfl rfl rfl|exact yR rfl rfl rfl|(refine DU ?_ rfl rfl;assumption)|(refine yR ?_ rfl rfl;assumption)
 |(apply ahl;exact rfl;exact rfl;(first|decide|omega))|(apply ahm;exact rfl;exact rfl;(first|decide|omega))):A:=h
theorem TE(h:A:=by
 first
 |exact mo rfl rfl rfl rfl|exact s7 rfl rfl rfl (by first|assumption|omega|simp)
 |exact Il rfl rfl rfl rfl (by simp;omega) (by simp)|exact Oz rfl rfl rfl rfl rfl
 |exact Yz rfl rfl rfl):A:=h
theorem LJ(h:A:=by
 first
 |exact tN|exact RH rfl rfl|exact Bf rfl|exact YG|exact asp
 |exact H5 rfl rfl rfl|exact H6 rfl rfl rfl rfl|exact p6 rfl rfl rfl rfl):A:=h
theorem ws(h:A:=by
 first
 |exact DX rfl rfl bN rfl rfl rfl (by omega) (by unfold maxLen;omega)
 |(apply L4;exact rfl;exact rfl;unfold maxLen;omega;omega)):A:=h
end
section
variable{P:Program}{H:World}{n:Nat}{J:e6}{M D:List al}{fn:Func}{post:Value->List al->Prop}{e:Exit}
def akI(Y:e=.ret\/e=.normal)(ba:fn.results=#[])(k:∃I,post (.tuple #[]) I/\∀h,Sat M h->Sat (I++D) h):GE H n J M (AJ P H fn post D e):=
 let⟨_,hp,B⟩:=k;Dp Y ba _ hp B
def akJ(Y:e=.ret\/e=.normal){t:Nat}{v:Value}(ba:fn.results=#[.tmp t])(h1:gN J t=some v)(k:∃I,post v I/\∀h,Sat M h->Sat (I++D) h):GE H n J M (AJ P H fn post D e):=
 let⟨_,hp,B⟩:=k;jq Y ba h1 _ hp B
def aBe(Y:e=.ret\/e=.normal){t u:Nat}{v x:Value}(ba:fn.results=#[.tmp t,.tmp u])(h1:gN J t=some v)(h2:gN J u=some x)(k:∃I,post (.tuple #[v,x]) I/\∀h,Sat M h->Sat (I++D) h):GE H n J M (AJ P H fn post D e):=
 let⟨_,hp,B⟩:=k;V1 Y ba h1 h2 _ hp B
def aQ{q:List al->Prop}{I:List al}(hp:q I)(B:∀h,Sat M h->Sat (I++D) h:=by exact au):∃I,q I/\∀h,Sat M h->Sat (I++D) h:=⟨I,hp,B⟩
end
section
variable{P Q:Prop}
def TF{i:Nat}{U:List Nat}{D:Prop}(h:i∈U->D:=by first|exact λC=>absurd C (by decide)|exact λ_=>au):i∈U->D:=h
def mH{E:Array Oper}{J:e6}{g:Option (Nat×Bool)}{b:Bool}(h:hZ E J g b:=by first|exact .none|exact .yes rfl rfl rfl|exact .no rfl rfl rfl|exact .un rfl rfl|(apply hZ.yes;exact rfl;exact rfl;assumption)|(apply hZ.no;exact rfl;exact rfl;assumption)):hZ E J g b:=h
theorem wt{A:Prop}(h:A:=by
 first
 |exact fS (c:=true) (by exact lM (by omega)) (mY rfl rfl)|exact fS (c:=false) (by exact mJ (by omega)) (mY rfl rfl)
 |exact fS (c:=true) (by exact lM (by omega)) (yF rfl rfl)|exact fS (c:=false) (by exact mJ (by omega)) (yF rfl rfl)
 |exact fS (c:=true) (by exact lM (by omega)) (H2 rfl rfl)|exact fS (c:=false) (by exact mJ (by omega)) (H2 rfl rfl)
 |exact fS (c:=true) (by exact lM (by omega)) (BV rfl rfl)|exact fS (c:=false) (by exact mJ (by omega)) (BV rfl rfl)
 |exact fS (c:=true) (by exact lM (by omega)) (Aj rfl rfl)|exact fS (c:=false) (by exact mJ (by omega)) (Aj rfl rfl)
 |exact fS (c:=true) (by rfl) (ql rfl)|exact fS (c:=false) (by rfl) (ql rfl)
 |exact fS (c:=true) (by assumption) (j3 rfl)|exact fS (c:=false) (by assumption) (j3 rfl)):A:=h
theorem cP(k:P)(h:iU P->Q:=by
 intro h
 first
 |(apply aB;exact rfl;exact wt)|(apply go_v;exact rfl;exact mH;exact rfl;exact wt)|(apply go_vs;exact rfl;exact mH;exact rfl;exact wt;exact au)
 |(apply tg;exact rfl;exact mH;exact rfl;exact wt)|(apply jJ;exact rfl;exact mH;exact rfl;exact wt;exact au)
 exact h.o):Q:=h ⟨k⟩
theorem aG(k:P)(h:iU P->Q:=by
 intro h
 first
 |refine hz ?_|refine hy ?_|refine jg ?_|(apply aB;exact rfl;exact qF)|refine ie ?_|(apply ko;exact TE)
 |refine ts ?_|refine yq ?_|refine q8 ?_|refine oI ?_|refine VZ ?_
 |refine yr ?_|refine MR ?_|refine Dj ?_|refine VX ?_|refine anp rfl ?_
 |refine v8 rfl ?_|refine tl rfl ?_
 |refine oZ rfl rfl rfl ?_|refine G5 rfl rfl rfl rfl ?_|refine ans rfl rfl rfl ?_
 |(apply go_v;exact rfl;exact mH;exact rfl;exact qF)|(apply go_vs;exact rfl;exact mH;exact rfl;exact qF;exact au)|(apply go_u;exact rfl;exact mH;exact TE;exact TF)
 |refine go_nil ?_|(refine⟨?_,?_⟩;exact TF)
 |(apply go_skip;exact rfl;exact mH;exact rfl)
 |(apply oZ;exact rfl;exact rfl;assumption)|(apply G5;exact rfl;exact rfl;assumption;exact rfl)
 |(apply tg;exact rfl;exact mH;exact rfl;exact qF)|(apply jJ;exact rfl;exact mH;exact rfl;exact qF;exact au)|(apply aAZ;exact rfl;exact mH;exact TE;exact TF)
 |refine akI (.inl rfl) rfl ?_|refine akI (.inr rfl) rfl ?_|refine akJ (.inl rfl) rfl rfl ?_|refine akJ (.inr rfl) rfl rfl ?_|refine aBe (.inl rfl) rfl rfl rfl ?_
 |refine aAV ?_
 |(apply aAW;exact rfl;exact mH;exact rfl)|(apply aAX;exact rfl;exact mH;exact rfl)|(apply aAY;exact rfl;exact mH;exact rfl)
 exact h.o):Q:=h ⟨k⟩
def bb(k:P)(h:iU P->Q:=by intro h;(iterate 2 refine aG ?_);exact h.o):Q:=h ⟨k⟩
def b2(k:P)(h:iU P->Q:=by intro h;(iterate 3 refine aG ?_);exact h.o):Q:=h ⟨k⟩
def bR(k:P)(h:iU P->Q:=by intro h;(iterate 4 refine aG ?_);exact h.o):Q:=h ⟨k⟩
def bE(k:P)(h:iU P->Q:=by intro h;(iterate 5 refine aG ?_);exact h.o):Q:=h ⟨k⟩
def bj(k:P)(h:iU P->Q:=by intro h;(iterate 6 refine aG ?_);exact h.o):Q:=h ⟨k⟩
def ct(k:P)(h:iU P->Q:=by intro h;(iterate 7 refine aG ?_);exact h.o):Q:=h ⟨k⟩
def bQ(k:P)(h:iU P->Q:=by intro h;(iterate 8 refine aG ?_);exact h.o):Q:=h ⟨k⟩
def cB(k:P)(h:iU P->Q:=by intro h;(iterate 9 refine aG ?_);exact h.o):Q:=h ⟨k⟩
def dh(k:P)(h:iU P->Q:=by intro h;(iterate 10 refine aG ?_);exact h.o):Q:=h ⟨k⟩
def c4(k:P)(h:iU P->Q:=by intro h;(iterate 11 refine aG ?_);exact h.o):Q:=h ⟨k⟩
def dB(k:P)(h:iU P->Q:=by intro h;(iterate 12 refine aG ?_);exact h.o):Q:=h ⟨k⟩
def fB(k:P)(h:iU P->Q:=by intro h;(iterate 13 refine aG ?_);exact h.o):Q:=h ⟨k⟩
def gd(k:P)(h:iU P->Q:=by intro h;(iterate 14 refine aG ?_);exact h.o):Q:=h ⟨k⟩
def eY(k:P)(h:iU P->Q:=by intro h;(iterate 15 refine aG ?_);exact h.o):Q:=h ⟨k⟩
def gq(k:P)(h:iU P->Q:=by intro h;(iterate 20 refine aG ?_);exact h.o):Q:=h ⟨k⟩
def s0(k:P)(h:iU P->Q:=by intro h;(iterate 30 refine aG ?_);exact h.o):Q:=h ⟨k⟩
def eM(k:P)(h:iU P->Q:=by intro h;(try simp only[TG,ci,ck]);exact h.o):Q:=h ⟨k⟩
theorem wn{P:Nat->Prop}{Q:Prop}(k:∀b,P b)(h:iU (∀b,P b)->Q:=by
 intro h
 first
 |(apply jn;exact rfl;exact LJ)|(apply go_n;exact rfl;exact mH;exact rfl;exact LJ)|(apply AY;exact LJ)|(apply x8;exact rfl;exact mH;exact rfl;exact LJ)
 rintro _ _ ⟨b,rfl,rfl⟩;exact h.o b):Q:=h ⟨k⟩
theorem gj{P:Option Addr->Nat->Prop}{Q:Prop}(k:∀a c,P a c)(h:iU (∀a c,P a c)->Q:=by
 intro h
 first
 |(apply jn;exact rfl;exact ws)|(apply go_n;exact rfl;exact mH;exact rfl;exact ws)|(apply x8;exact rfl;exact mH;exact rfl;exact ws)
 rintro _ _ ⟨a,c,rfl,rfl⟩;exact h.o a c):Q:=h ⟨k⟩
def aB8(k:P)(h:iU P->Q:=by intro h;(repeat refine aG ?_);exact h.o):Q:=h ⟨k⟩
def aB9(k:P)(h:iU P->Q:=by intro h;(repeat refine aG ?_);(try simp only[TG,ci,ck]);(repeat refine aG ?_);exact h.o):Q:=h ⟨k⟩
def aCa(k:P)(h:iU P->Q:=by intro h;(repeat first|refine aG ?_|refine wn λa=>?_|refine gj λa a=>?_);(repeat revert a);exact h.o):Q:=h ⟨k⟩
def aCb(k:P)(h:iU P->Q:=by intro h;(repeat refine aG ?_);(try simp only[TG,ci,ck]);(repeat first|refine aG ?_|refine wn λa=>?_|refine gj λa a=>?_);(repeat revert a);exact h.o):Q:=h ⟨k⟩
end
section
variable{P:Program}{f:FuncId}{args:List Value}{pre:List al}
theorem bu{post K:Value->List al->Prop}{Q:Prop}(s:ab P f args pre post)(k:∀v L,post v L->K v L)(h:ab P f args pre post->iU (∀v L,post v L->K v L)->Q:=by
 intro s h
 first
 |(apply cn;exact rfl;(first|(apply b9;exact rfl;exact s;exact bN;exact fl)|exact oB rfl rfl s bN))
 |(apply go_c;exact rfl;exact mH;exact rfl;apply b9;exact rfl;exact s;exact bN;exact fl)
 |(apply pB;exact rfl;exact mH;exact rfl;apply b9;exact rfl;exact s;exact bN;exact fl)
 rintro v _ ⟨L,e,rfl⟩;exact h.o v L e):Q:=h s ⟨k⟩
theorem aU{L:List al}{v:Value}{K Q:Prop}(s:ab P f args pre (aH v L))(k:K)(h:ab P f args pre (aH v L)->iU K->Q:=by
 intro s h;refine bu s ?_;rintro _ _ ⟨rfl,rfl⟩
 try simp only[TG,ci,ck]
 exact h.o):Q:=h s ⟨k⟩
theorem aCc{post K:Value->List al->Prop}{Q:Prop}(s:ab P f args pre post)(k:∀v L,post v L->K v L)(h:ab P f args pre post->iU (∀v L,post v L->K v L)->Q:=by
 intro s h;(repeat refine aG ?_);exact bu s h.o):Q:=h s ⟨k⟩
theorem aCd{L:List al}{v:Value}{K Q:Prop}(s:ab P f args pre (aH v L))(k:K)(h:ab P f args pre (aH v L)->iU K->Q:=by
 intro s h;(repeat refine aG ?_);(refine aU s ?_);(repeat refine aG ?_);exact h.o):Q:=h s ⟨k⟩
theorem aCe{L:List al}{v:Value}{K Q:Prop}(s:ab P f args pre (aH v L))(k:K)(h:ab P f args pre (aH v L)->iU K->Q:=by
 intro s h;(repeat refine aG ?_);(refine aU s ?_);exact h.o):Q:=h s ⟨k⟩
def eb{r J:e6}(k:bd r J:=by repeat(first|exact .nil|refine bd.cons rfl ?_)):bd r J:=k
theorem jo{m Q:Prop}(k:m)(h:m->Q:=by
 intro e
 first
 |exact e _ (gW.dG (by repeat(first|exact gW.refl _|refine gW.push ?_ rfl)) (k9 (by first|rfl|(simp only[*,lz,lA,lW,kP,k7,kQ];done)|(simp[*];done)|simp_all)))
 |(refine q6 ?_ (e _ (gW.dG (by repeat(first|exact gW.refl _|refine gW.push ?_ rfl)) (k9 (by first|rfl|(simp only[*,lz,lA,lW,kP,k7,kQ];done)|(simp[*];done)|simp_all))));exact au)
 |(refine z1 ?_ (e _ (gW.dG (by repeat(first|exact gW.refl _|refine gW.push ?_ rfl)) (k9 (by first|rfl|(simp only[*,lz,lA,lW,kP,k7,kQ];done)|(simp[*];done)|simp_all))));exact au)):Q:=h k
def nR{J c:e6}(h:gW J c:=by repeat(first|exact gW.refl _|refine gW.push ?_ rfl)):gW J c:=h
theorem kp{m Q A B:Prop}(k:m)(a:A)(b:B)(h:m->A->B->Q:=by
 intro e a b
 first|exact e _ (gW.dG nR (k9 (by first|rfl|(simp only[a,b,lz,lA,lW,kP,k7,kQ];done)|(simp[a,b];done)|simp_all)))|exact z1 (au) (e _ (gW.dG nR (k9 (by first|rfl|(simp only[a,b,lz,lA,lW,kP,k7,kQ];done)|(simp[a,b];done)|simp_all))))|exact q6 (au) (e _ (gW.dG nR (k9 (by first|rfl|(simp only[a,b,lz,lA,lW,kP,k7,kQ];done)|(simp[a,b];done)|simp_all))))):Q:=h k a b
theorem p7{m Q A B C:Prop}(k:m)(a:A)(b:B)(c:C)(h:m->A->B->C->Q:=by
 intro e a b c
 first|exact e _ (gW.dG nR (k9 (by first|rfl|(simp only[a,b,c,lz,lA,lW,kP,k7,kQ];done)|(simp[a,b,c];done)|simp_all)))|exact z1 (au) (e _ (gW.dG nR (k9 (by first|rfl|(simp only[a,b,c,lz,lA,lW,kP,k7,kQ];done)|(simp[a,b,c];done)|simp_all))))|exact q6 (au) (e _ (gW.dG nR (k9 (by first|rfl|(simp only[a,b,c,lz,lA,lW,kP,k7,kQ];done)|(simp[a,b,c];done)|simp_all))))):Q:=h k a b c
theorem Gs{m Q A B C z:Prop}(k:m)(a:A)(b:B)(c:C)(d:z)(h:m->A->B->C->z->Q:=by
 intro e a b c d
 first|exact e _ (gW.dG nR (k9 (by first|rfl|(simp only[a,b,c,d,lz,lA,lW,kP,k7,kQ];done)|(simp[a,b,c,d];done)|simp_all)))|exact z1 (au) (e _ (gW.dG nR (k9 (by first|rfl|(simp only[a,b,c,d,lz,lA,lW,kP,k7,kQ];done)|(simp[a,b,c,d];done)|simp_all))))|exact q6 (au) (e _ (gW.dG nR (k9 (by first|rfl|(simp only[a,b,c,d,lz,lA,lW,kP,k7,kQ];done)|(simp[a,b,c,d];done)|simp_all))))):Q:=h k a b c d
theorem U3{m Q A B C z c5:Prop}(k:m)(a:A)(b:B)(c:C)(d:z)(f:c5)(h:m->A->B->C->z->c5->Q:=by
 intro e a b c d f
 first|exact e _ (gW.dG nR (k9 (by first|rfl|(simp only[a,b,c,d,f,lz,lA,lW,kP,k7,kQ];done)|(simp[a,b,c,d,f];done)|simp_all)))|exact z1 (au) (e _ (gW.dG nR (k9 (by first|rfl|(simp only[a,b,c,d,f,lz,lA,lW,kP,k7,kQ];done)|(simp[a,b,c,d,f];done)|simp_all))))|exact q6 (au) (e _ (gW.dG nR (k9 (by first|rfl|(simp only[a,b,c,d,f,lz,lA,lW,kP,k7,kQ];done)|(simp[a,b,c,d,f];done)|simp_all))))):Q:=h k a b c d f
theorem ara{m Q A B C z c5 F:Prop}(k:m)(a:A)(b:B)(c:C)(d:z)(f:c5)(g:F)(h:m->A->B->C->z->c5->F->Q:=by
 intro e a b c d f g
 first|exact e _ (gW.dG nR (k9 (by first|rfl|(simp only[a,b,c,d,f,g,lz,lA,lW,kP,k7,kQ];done)|(simp[a,b,c,d,f,g];done)|simp_all)))|exact z1 (au) (e _ (gW.dG nR (k9 (by first|rfl|(simp only[a,b,c,d,f,g,lz,lA,lW,kP,k7,kQ];done)|(simp[a,b,c,d,f,g];done)|simp_all))))|exact q6 (au) (e _ (gW.dG nR (k9 (by first|rfl|(simp only[a,b,c,d,f,g,lz,lA,lW,kP,k7,kQ];done)|(simp[a,b,c,d,f,g];done)|simp_all))))):Q:=h k a b c d f g
theorem aCf{m Q A B C z c5 F K:Prop}(k:m)(a:A)(b:B)(c:C)(d:z)(f:c5)(g:F)(i:K)(h:m->A->B->C->z->c5->F->K->Q:=by
 intro e a b c d f g i
 first|exact e _ (gW.dG nR (k9 (by first|rfl|(simp only[a,b,c,d,f,g,i,lz,lA,lW,kP,k7,kQ];done)|(simp[a,b,c,d,f,g,i];done)|simp_all)))|exact z1 (au) (e _ (gW.dG nR (k9 (by first|rfl|(simp only[a,b,c,d,f,g,i,lz,lA,lW,kP,k7,kQ];done)|(simp[a,b,c,d,f,g,i];done)|simp_all))))|exact q6 (au) (e _ (gW.dG nR (k9 (by first|rfl|(simp only[a,b,c,d,f,g,i,lz,lA,lW,kP,k7,kQ];done)|(simp[a,b,c,d,f,g,i];done)|simp_all))))):Q:=h k a b c d f g i
end
section
variable{P:Program}{H:World}{n:Nat}{J:e6}{M:List al}{Q:Exit->Act->World->Prop}{c c1 bq:Code}
def ch{x:Operand}{b:Bool}{A B:Prop}(U:A->G P H n c1 J M Q)(ba:B->G P H n bq J M Q)(ah:cm J x=some (.bool b):=by exact rfl)[i:oH (b=true) A][j:oH (b=false) B]:G P H n (.cond x c1 bq) J M Q:=
 mT ah (λe=>U (i.ai e)) (λe=>ba (j.ai e))
def aBf:Nat->mL
 |0=>.loc
 |1=>.bL
 |_=>.da
def akK(k:mL):Nat->Nat->(Nat->List (Nat×mL))->List (Nat×mL)
 |0,i,f=>f i
 |n+1,i,f=>(i,k)::akK k n (i+1) f
def LK:List Nat->Nat->List (Nat×mL)
 |[],_=>[]
 |c::r,i=>akK (aBf (c/100)) (c%100) i (LK r)
def cx:List (Nat×mL)->List Nat
 |[]=>[]
 |(i,.da)::r=>i::cx r
 |_::r=>cx r
def cw{id:Nat}{l:List Oper}(U o:List Nat)(O:List al){V:List (Nat×mL)}(h:c3 P H n l.toArray U V J M O (Q .normal))(aJ:LK o 0=V:=by cbv)(bf:P.follows .mixedOrders=true:=by exact mixed)(cd:yN l (cx (LK o 0)) U (LK o 0)=true:=by kernel_rfl):G P H n (.region id l.toArray true) J M Q:=by
 subst aJ;exact h0 _ U _ O bf cd h
def Aa:List iT->iT
 |[]=>.nil
 |t::_=>t
def sZ:List Nat->List iT
 |[]=>[]
 |
  c::l=>match c%4 with
  |0=>.loc (c/4) (Aa (sZ l))::(sZ l).tail
  |1=>.bL (c/4) (Aa (sZ l))::(sZ l).tail
  |2=>.da (c/4) (Aa (sZ l)) (Aa (sZ l).tail)::(sZ l).tail.tail
  |_=>.nil::sZ l
def iu{id:Nat}{l:List Oper}(c5 U o:List Nat)(O:List al){t:iT}(h:GT P H n l.toArray U t false J M O (Q .normal))(aJ:Aa (sZ o)=t:=by cbv)(bf:P.follows .mixedOrders=true:=by exact mixed)(cd:LF l c5 U (Aa (sZ o))=true:=by kernel_rfl):G P H n (.region id l.toArray true) J M Q:=by
 subst aJ;exact aA6 c5 U _ O bf cd h
def p5{E:Array Oper}{U:List Nat}{b:Bool}{O:List al}{F:Act->World->Prop}{d:Nat}{u t:iT}(o:List Nat)(v:Value)(k:GT P H n E U t false ((d,v)::J) M O F)(h:(∀c,gW ((d,v)::J) c->GT P H n E U t false c M O F)->GT P H n E U u b J M O F)(aJ:Aa (sZ o)=t:=by cbv):GT P H n E U u b J M O F:=aA0 t v k h
def Qq{a2:Act->World->Prop}(h:∀a w,hl n J a->dt H M w->a2 a w):GE H n J M (Exit.then a2 Q .normal):=h
theorem av{f:FuncId}{fn:Func}{args:List Value}{post:Value->List al->Prop}{K:World->List al->Prop}(ba:P.funcs[f]?=some fn)(k:∀H D,K H D)(aA:fn.body=some c:=by rfl)
 (h : ∀ H D, iU (K H D) → G P H fn.ntmps c (args.zipIdx.map fun (v, i) => (i, v)) (M ++ D) (AJ P H fn post D) := by
  intro H D h;simp only[wl,DW,gx,mO,lo,Nat.reduceAdd,ck,ci];exact h.o) (aw:Nat.ble args.length fn.ntmps=true:=by rfl):ab P f args M post:=
 kq ba aA rfl aw λH D=>h H D ⟨k H D⟩
def aCg{A B c d Q:Prop}(U:A->c)(ba:B->d)(h:iU (A->c)->iU (B->d)->Q:=by intro a b;(repeat refine aG ?_);exact ch a.o b.o):Q:=h ⟨U⟩ ⟨ba⟩
def aCh{K Q:Prop}(U o:List Nat)(O:List al)(k:K)(h:iU K->Q:=by intro h;(repeat refine aG ?_);(refine cw U o O ?_);exact h.o):Q:=h ⟨k⟩
def aCi{f:FuncId}{fn:Func}{args:List Value}{post:Value->List al->Prop}{K:World->List al->Prop}(ba:P.funcs[f]?=some fn)(k:∀H D,K H D)(h:P.funcs[f]?=some fn->iU (∀H D,K H D)->ab P f args M post:=by intro ba h;(refine av ba λH D=>?_);(repeat refine aG ?_);exact h.o H D):ab P f args M post:=h ba ⟨k⟩
end
inductive Ab:List Nat->e6->e6->Prop
 |nil {J:e6}:Ab [] [] J
 |cons {t:Nat} {v:Value} {c:List Nat} {r J:e6}:gN J t=some v->Ab c r J->Ab (t::c) ((t,v)::r) J
def Ab.jC{c:List Nat}{r J:e6}(h:Ab c r J):bd r J:=by
 induction h with
 |nil=>exact .nil
 |cons a _ b=>exact .cons a b
def aCj{P:Program}{H:World}{n:Nat}{E:Array Oper}{U:List Nat}{t:iT}{b:Bool}{J r:e6}{M O:List al}{F:Act->World->Prop}(c:List Nat)(h:GT P H n E U t b r M O F)(k:Ab c r J:=by repeat(first|exact .nil|refine Ab.cons rfl ?_)):GT P H n E U t b J M O F:=pA k.jC h
end Go.L
namespace Go.L.Lx
abbrev cG:=List UInt8
section
variable{p:UInt8->Bool}{l:cG}{j:Nat}{c:UInt8}
def wO(c:UInt8):Bool:=decide (97<=c.toNat/\c.toNat<=122)
def Ic(c:UInt8):Bool:=decide (48<=c.toNat/\c.toNat<=57)
def yU(c:UInt8):Bool:=decide ((97<=c.toNat/\c.toNat<=122)\/(48<=c.toNat/\c.toNat<=57)\/c.toNat=95)
def mr(p:UInt8->Bool):cG->Nat
 |[]=>0
 |c::l=>if p c then mr p l+1 else 0
def aqo{l:cG}(h:p c=true):mr p (c::l)=mr p l+1:=by simp[mr,h]
def aqp{l:cG}(h:p c=false):mr p (c::l)=0:=by simp[mr,h]
def YL(h:l[j]?=some c):l.drop j=c::l.drop (j+1):=by
 obtain⟨O,e⟩:=dp.1 h;rw[s5 O,e]
def aqq(h:l[j]?=some c)(hp:p c=true):mr p (l.drop j)=mr p (l.drop (j+1))+1:=by rw[YL h,aqo hp]
def aqr(h:l[j]?=some c)(hp:p c=false):mr p (l.drop j)=0:=by rw[YL h,aqp hp]
def aqs(h:l.length<=j):mr p (l.drop j)=0:=by rw[CI h];rfl
def mc(l:cG):Bool:=match l with
 |[]=>false
 |c::r=>wO c&&decide (mr yU (c::r)=(c::r).length)&&decide ((c::r).length<=16)
end
end Go.L.Lx
namespace Go.L.Pg
open Go.L Go.L.Lx
abbrev vm(x:Int):Value:=.int .i64 x
abbrev xi(l:List UInt8):Value:=.string ⟨l.toArray⟩
structure fF where
 do':Int
 ref:cG
 slot:cG
 name:cG
 value:Int
 n:Int
 vn:Int
deriving Inhabited,DecidableEq
structure Row where
 tag:cG
 only:Bool
 n:Int
 ea:Option Addr
 cZ:Nat
 cx:List fF
deriving Inhabited
structure fU where
 name:cG
 ra:Option Addr
 rc:Nat
 rows:List Row
deriving Inhabited
structure mb where
 reason:cG
 do':Int
deriving Inhabited,DecidableEq
structure cr where
 name:cG
 limit:Int
 within:Int
 ca:Option Addr
 kn:Nat
 cases:List mb
 sa:Option Addr
 sc:Nat
 states:List fU
deriving Inhabited
def fM(e:fF):List Value:=[vm e.do',xi e.ref,xi e.slot,xi e.name,vm e.value,vm e.n,vm e.vn]
def gY(r:Row):List Value:=[xi r.tag,.bool r.only,vm r.n,.slice r.ea r.cx.length r.cZ]
section
variable(c:mb)(d:Int)(K:List cr)(n:Nat)(S:List fU)(e:fF)(ft:cG)(D:List Row)(last:Bool)(i j:Nat)(k:cr)(s:fU)(r:Row)
def gB:List Value:=[xi s.name,.slice s.ra s.rows.length s.rc]
def jQ:List Value:=[xi c.reason,vm c.do']
def eH:List Value:=[xi k.name,vm k.limit,vm k.within,.slice k.ca k.cases.length k.kn,.slice k.sa k.states.length k.sc]
def xT:(fM e).length=7:=rfl
def ue:(gY r).length=4:=rfl
def qV:(gB s).length=2:=rfl
def Al:(jQ c).length=2:=rfl
def C8:(eH k).length=5:=rfl
def jd(h:eQ)(a:Option Addr)(c n:Nat)(xs:List Value):Prop:=gI h (.slice a n c) n xs/\n<=c
def fi:Prop:=n<=140737488351232
structure CJ(e:fF):Prop where
 ref:fi e.ref.length
 slot:fi e.slot.length
 name:fi e.name.length
structure xX(h:eQ)(r:Row):Prop where
 tag:fi r.tag.length
 rd:jd h r.ea r.cZ r.cx.length (r.cx.flatMap fM)
 len:fi (r.cx.length*80)
 cx:∀e∈r.cx,CJ e
structure vN(h:eQ)(s:fU):Prop where
 name:fi s.name.length
 rd:jd h s.ra s.rc s.rows.length (s.rows.flatMap gY)
 len:fi (s.rows.length*56)
 rows:∀r∈s.rows,xX h r
structure lg(h:eQ)(k:cr):Prop where
 name:fi k.name.length
 sz:jd h k.ca k.kn k.cases.length (k.cases.flatMap jQ)
 s6:fi (k.cases.length*24)
 cases:∀c∈k.cases,fi c.reason.length
 sA:jd h k.sa k.sc k.states.length (k.states.flatMap gB)
 lens:fi (k.states.length*40)
 states:∀s∈k.states,vN h s
structure h8(h:eQ)(a:Option Addr)(c:Nat)(K:List cr):Prop where
 rd:jd h a c K.length (K.flatMap eH)
 len:fi (K.length*80)
 kinds:∀k∈K,lg h k
def jd.imp{h k:eQ}{a:Option Addr}{c n:Nat}{xs:List Value}(r:jd h a c n xs)(f:∀b o,h b=some o->k b=some o):jd k a c n xs:=⟨r.1.imp f,r.2⟩
def xX.imp{h k:eQ}{r:Row}(s:xX h r)(f:∀b o,h b=some o->k b=some o):xX k r:=⟨s.tag,s.rd.imp f,s.len,s.cx⟩
def vN.imp{h k:eQ}{r:fU}(s:vN h r)(f:∀b o,h b=some o->k b=some o):vN k r:=⟨s.name,s.rd.imp f,s.len,λr aF=>(s.rows r aF).imp f⟩
def lg.imp{h k:eQ}{r:cr}(s:lg h r)(f:∀b o,h b=some o->k b=some o):lg k r:=⟨s.name,s.sz.imp f,s.s6,s.cases,s.sA.imp f,s.lens,λr aF=>(s.states r aF).imp f⟩
def h8.imp{h k:eQ}{a:Option Addr}{c:Nat}{K:List cr}(s:h8 h a c K)(f:∀b o,h b=some o->k b=some o):h8 k a c K:=⟨s.rd.imp f,s.len,λr aF=>(s.kinds r aF).imp f⟩
def gI.to{h:eQ}{a:Option Addr}{n c i aZ:Nat}{xs:List Value}(s:gI h qt n xs)(ak:i<=n):gI h (.slice a i c) i (xs.take (i*aZ)):=by
 rcases s with⟨h1,h2,aN⟩|⟨b,bY,I,C,h1,h2,aN⟩
 . obtain rfl:i=0:=by omega
   subst h2;simp only[Value.slice.injEq]at h1;exact .inl ⟨by simp[h1.1,h1.2.2],by simp,rfl⟩
 . simp only[Value.slice.injEq,true_and]at h1
   obtain⟨rfl,rfl⟩:=h1;exact .inr ⟨b,bY,I,c,rfl,λbi=>h2 ad,λj x ah=>aN j x (by
    rw[ahk]at ah;split at ah
    . exact ah
    . cases ah)⟩
def AA{α:Type}(f:α->List Value)(aZ:Nat)(ba:∀x,(f x).length=aZ):∀(l:List α) (i:Nat),(l.flatMap f).take (i*aZ)=(l.take i).flatMap f
 |l,0=>by simp
 |[],i+1=>by simp
 |
  x::l,i+1=>by
  have aC:(i+1)*aZ=(f x).length+i*aZ:=by rw[ba,nb];omega
  rw[px,aC,List.take_length_add_append,AA f aZ ba l i,List.take_succ_cons,px]
def oz:List (Bool×Int)->Int
 |[]=>0
 |(b,c)::r=>if b then c else oz r
abbrev ll:=Option (Int×List Int)
def Ap(r k:ll):ll:=match r with
 |some (c,ws)=>some (c,((i+1:Nat):Int)::ws)
 |none=>k
def fst(D:Nat->ll):Nat->Nat->ll
 |_,0=>none
 |i,n+1=>Ap i (D i) (fst D (i+1) n)
def me(own:Int)(n:Nat)(D:Nat->ll):ll:=if own=0 then fst D 0 n else some (own,[])
def named(s:cG):Bool:=decide (s=[])||mc s
def Gh:Bool:=decide (d=1)||decide (d=6)||decide (d=7)
def Gi:Bool:=decide (d=2)||decide (d=10)
def C5:Bool:=decide (d=1)||decide (d=2)||decide (d=3)||decide (d=8)||decide (d=9)||decide (d=12)
def Mi:Bool:=decide (d=1)||decide (d=8)
def Gj:Bool:=decide (d=8)
def Mk:List cG:=[[115,101,108,102],[115,101,110,100,101,114],[112,97,114,101,110,116],[97],[98],[99],[100]]
def Ml:List cG:=[[97],[98],[99],[100]]
def aC:Bool:=decide (e.do'<1)||decide (12<e.do')
def aV:Bool:=(Gh e.do'&&!decide (e.ref∈Mk))||(!Gh e.do'&&!decide (e.ref=[]))
def bF:Bool:=(Gi e.do'&&!decide (e.slot∈Ml))||(!Gi e.do'&&!decide (e.slot=[]))
def dx:Bool:=(C5 e.do'&&!mc e.name)||(!C5 e.do'&&!decide (e.name=[]))
def ho:Bool:=(Gj e.do'&&(decide (e.vn<1)||decide (4095<e.vn)))||(!Gj e.do'&&!decide (e.vn=0))
def ur:Bool:=decide (e.value<0)||decide (2<e.value)||(!Mi e.do'&&!decide (e.value=0))
def qY:Bool:=decide (e.n<0)||decide (255<e.n)||(!decide (e.value=2)&&!decide (e.n=0))
def rO:Bool:=K.any λo=>decide (o.name=ft)
def ya:Bool:=S.any λo=>decide (o.name=ft)
def vX:Bool:=(decide (e.do'=2)&&!rO K e.name)||(decide (e.do'=3)&&!ya S e.name)
def yb:Bool:=(decide (e.do'=11)||decide (e.do'=12))&&!last
def uk:Int:=
 oz [(aC e,43),(aV e,43),(bF e,43),(dx e,43),(ho e,43),(ur e,43),(qY e,43),(vX K S e,42),(yb e last,44)]
def gO:Bool:=!named r.tag||(r.only&&decide (r.tag=[]))||decide (r.n<0)||decide (255<r.n)||(!r.only&&!decide (r.n=0))
def uq(o r:Row):Bool:=decide (o.tag=r.tag)&&(o.only==r.only)&&decide (o.n=r.n)
def rP:Bool:=(r.cx.any λe=>decide (e.do'=4))&&decide (1<(r.cx.length:Int))
def C1:Int:=
 oz [(gO r,43),((D.take i).any (λo=>uq o r),41),(decide (8<(r.cx.length:Int)),40),(rP r,45)]
def Gg:Int:=
 oz [(!mc s.name,43),(ya (S.take i) s.name,41),(decide (16<(s.rows.length:Int)),40)]
def tf:Bool:=!named c.reason||decide (c.do'<1)||decide (4<c.do')
def um(cs:List mb):Nat->Bool
 |0=>false
 |j+1=>um cs j||(match cs[j]?with|some c=>(cs.take j).any λd=>decide (d.reason=c.reason)|none=>false)
def cR:Bool:=!mc k.name||decide (k.limit<0)||decide (100<k.limit)||decide (k.within<1)||decide (4095<k.within)
def il:Bool:=decide (8<(k.cases.length:Int))||decide ((k.states.length:Int)<1)||decide (8<(k.states.length:Int))
def x6:Int:=
 oz [(cR k,43),(rO (K.take i) k.name,41),(il k,40),(k.cases.any tf,43),(um k.cases k.cases.length,41)]
def qW(c5:List fF)(j:Nat):ll:=match c5[j]?with
 |some e=>if uk K S e (decide ((j:Int)=(c5.length:Int) -1))=0 then none else some (uk K S e (decide ((j:Int)=(c5.length:Int) -1)),[])
 |none=>none
def p4:ll:=match D[j]?with
 |some r=>me (C1 D j r) r.cx.length (qW K S r.cx)
 |none=>none
def pz:ll:=match S[j]?with
 |some s=>me (Gg S j s) s.rows.length (p4 K S s.rows)
 |none=>none
def qX:ll:=match K[j]?with
 |some k=>me (x6 K j k) k.states.length (pz K k.states)
 |none=>none
def Mq:Int:=oz [(decide ((K.length:Int)<1)||decide (8<(K.length:Int)),40)]
def rQ:ll:=me (Mq K) K.length (qX K)
def aho{D:Nat->ll}{c:Int}{ws:List Int}:∀(n i:Nat),fst D i n=some (c,ws)->∃j b,i<=j/\j<i+n/\D j=some (c,b)/\ws=((j+1:Nat):Int)::b
 |0,_,h=>by cases h
 |
  n+1,i,h=>by
  cases aF:D i with
  |
   some x=>
   obtain⟨aI,b⟩:=x;simp only[fst,Ap,aF,Option.some.injEq,Prod.mk.injEq]at h;obtain⟨rfl,rfl⟩:=h;exact⟨i,b,et _,by omega,aF,rfl⟩
  |
   none=>
   simp only[fst,Ap,aF]at h;obtain⟨j,b,h1,h2,aN,bA⟩:=aho n (i+1) h;exact⟨j,b,by omega,by omega,aN,bA⟩
def alW{own:Int}{n:Nat}{D:Nat->ll}{c:Int}{ws:List Int}(h:me own n D=some (c,ws)):ws=[]\/∃j b,j<n/\D j=some (c,b)/\ws=((j+1:Nat):Int)::b:=by
 unfold me at h;split at h
 . obtain⟨j,b,_,h2,aN,bA⟩:=aho _ _ h
   exact .inr ⟨j,b,by omega,aN,bA⟩
 . simp only[Option.some.injEq,Prod.mk.injEq]at h;exact .inl h.2.symm
end
end Go.L.Pg
