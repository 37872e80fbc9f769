import Derived.Test.YtnnhpnccfnghdaaGreatR2
set_option linter.all false
namespace Go.L
inductive iO
 |nil
 |loc(i:Nat)(r:iO)
 |bI(i:Nat)(r:iO)
 |c5(i:Nat)(r d:iO)
def iO.LZ:iO->List Nat
 |.c5 i _ d=>i::d.LZ
 |_=>[]
section
variable{P:Program}{E:Array Oper}{cR R:List Nat}{Z:Act->World->Prop}{C:World->Prop}
def mL(E:Array Oper)(c cR R:List Nat):iO->Bool->Array Bool->Bool
 |.nil,false,D=>(Region.ready .any E D).isEmpty
 |.nil,true,_=>true
 |.loc i r,false,D=>(Region.ready .any E D).contains i&&Region.free .any E D i&&!cR.contains i&&cR.all (λe=>D.getD e false||(c.getD e 0).testBit i)&&mL E c cR R r false (D.setIfInBounds i true)
 |.bI i r,false,D=>(Region.ready .any E D).contains i&&Region.free .any E D i&&!cR.contains i&&cR.all (λe=>R.contains e||(D.getD e false||(c.getD e 0).testBit i))&&mL E c cR R r false (D.setIfInBounds i true)
 |.c5 i r d,b,D=>(b||decide (Region.ready .any E D=i::d.LZ))&&cR.contains i&&mL E c cR R r false (D.setIfInBounds i true)&&mL E c cR R d true D
 |_,true,_=>false
def iO.depth:iO->Nat->Bool
 |.nil,n=>Nat.beq n 0
 |.loc _ r,n=>match n with|0=>false|n+1=>r.depth n
 |.bI _ r,n=>match n with|0=>false|n+1=>r.depth n
 |
  .c5 _ r d,n=>match n with
  |0=>false
  |m+1=>r.depth m&&(match d with|.nil=>true|_=>d.depth (m+1))
def FW(l:List Oper)(cR R:List Nat)(t:iO):Bool:=
 Region.noSelect l.toArray&&t.depth l.length&&mL l.toArray (k7 l []) cR R t false (Array.replicate l.length false)
def xW(P:Program)(E:Array Oper)(R:List Nat)(C:World->Prop)(i:Nat)(K:Act->World->Prop)(a:Act)(w:World):Prop:=
 match E[i]?with
 |none=>False
 |some o=>if Region.wanted o (yielded E a.tmps)then o.wp P a w (λaI X=>(i∈R->C X)/\K aI X) HM else K (a.put o.dst undef) w
def nV(P:Program)(E:Array Oper)(Z:Act->World->Prop)(R:List Nat)(C:World->Prop):iO->Bool->Act->World->Prop
 |.nil,false,a,w=>Z a w
 |.nil,true,_,_=>True
 |
  .loc i r,_,a,w=>match E[i]?with
  |none=>False
  |some o=>if Region.wanted o (yielded E a.tmps)then∃v,(execOp a.eval o).run P w=.ok (.value v) w/\nV P E Z R C r false (a.put o.dst v) w else nV P E Z R C r false (a.put o.dst undef) w
 |
  .bI i r,_,a,w=>match E[i]?with
  |none=>False
  |some o=>if Region.wanted o (yielded E a.tmps)then C w/\∃v,(∀w,C w->(execOp a.eval o).run P w=.ok (.value v) w)/\nV P E Z R C r false (a.put o.dst v) w else nV P E Z R C r false (a.put o.dst undef) w
 |.c5 i r d,_,a,w=>xW P E R C i (nV P E Z R C r false) a w/\nV P E Z R C d true a w
def alO{i:Nat}{K z:Act->World->Prop}{a:Act}{w:World}(I:i∈cR)(h:xW P E R C i K a w)(hk:∀a w,K a w->z a w):oc P E cR R C i z a w:=by
 unfold xW at h;unfold oc;cases aK:E[i]?with
 |none=>rw[aK]at h;exact h.elim
 |
  some o=>
  rw[aK]at h;simp only at h⊢;by_cases O:Region.wanted o (yielded E a.tmps)=true
  . rw[bd O]at h⊢;rw[bd I]
    exact Oper.wp_mono (λaI X cl=>⟨cl.1,hk _ _ cl.2⟩) h
  . rw[a8 O]at h⊢;exact hk _ _ h
def alP{l:List Oper}:∀(t:iO) (D:Array Bool) (a:Act) (w:World),mL l.toArray (k7 l []) cR R t true D=true->nV P l.toArray Z R C t true a w->
 ∀i∈t.LZ,∃r,i∈cR/\mL l.toArray (k7 l []) cR R r false (D.setIfInBounds i true)=true/\xW P l.toArray R C i (nV P l.toArray Z R C r false) a w/\∀n,(match t with|.nil=>true|_=>t.depth (n+1))=true->r.depth n=true
 |.nil,_,_,_,_,_=>by intro i ak;cases ak
 |.loc _ _,_,_,_,h,_=>by simp[mL]at h
 |.bI _ _,_,_,_,h,_=>by simp[mL]at h
 |
  .c5 j r d,D,a,w,h,O=>by
  simp only[mL,k8,kS,ii]at h;obtain⟨⟨h1,h2⟩,aN⟩:=h;obtain⟨aG,bb⟩:=O;intro i ak;rcases ku.1 ak with rfl|ak
  . exact⟨r,by simpa using h1,h2,aG,λn aL=>by simp only[iO.depth,ii]at aL;exact aL.1⟩
  . obtain⟨m,cS,cd,ir,eM⟩:=alP d D a w aN bb i ak
    exact⟨m,cS,cd,ir,λn aL=>eM n (by simp only[iO.depth,ii]at aL;cases d<;>first|rfl|exact aL.2)⟩
def CF{l:List Oper}(aj:Region.noSelect l.toArray=true):∀(n:Nat) (t:iO) (D:Array Bool) (a:Act) (w:World),t.depth n=true->tz l.toArray D->mL l.toArray (k7 l []) cR R t false D=true->
 nV P l.toArray Z R C t false a w->wT P l.toArray cR R Z C n D a w
 |
  n,.nil,D,a,w,aL,_,cb,h=>by
  have:n=0:=lA aL;subst this;exact⟨by simpa[mL]using cb,h⟩
 |0,.loc _ _,_,_,_,aL,_,_,_=>by simp[iO.depth]at aL
 |0,.bI _ _,_,_,_,aL,_,_,_=>by simp[iO.depth]at aL
 |0,.c5 _ _ _,_,_,_,aL,_,_,_=>by simp[iO.depth]at aL
 |
  n+1,.loc i r,D,a,w,aL,a6,cb,h=>by
  have aL:r.depth n=true:=aL;simp only[nV]at h;cases aK:l.toArray[i]?with
  |none=>rw[aK]at h;exact h.elim
  |
   some o=>
   simp only[aK]at h;simp only[mL,ii]at cb;obtain⟨⟨⟨⟨aE,ba⟩,I⟩,p⟩,b⟩:=cb;have c:i∈Region.ready .any l.toArray D:=HP;have g:i∉cR:=Bc;have q:∀e∈cR,D.getD e false=true\/((k7 l []).getD e 0).testBit i=true:=HQ;have fin:∀v,pe P l.toArray (λX=>X=w) o v a->nV P l.toArray Z R C r false (a.put o.dst v) w->wT P l.toArray cR R Z C (n+1) D a w:=λv ag cO=>
    Bb (z:=λX=>X=w) aK g (Region.noSelect_spec aj) (λf=>tz l.toArray f/\∀e∈cR,f.getD e false=true\/((k7 l []).getD e 0).testBit i=true)
     (λf j bC _ N=>⟨bC.1.set N,λe V=>(bC.2 e V).imp (λh=>getD_set_true h) id⟩)
     (fun f j bC d4 N V X _ => by
      exfalso;rcases bC.2 j V with h1|h1
      . have h2:=(mem_ready.1 N).1;rw[uX h2]at h1;cases h1
      . exact(HO bC.1 (uX d4) j h1).2 N)
     n D a w ⟨a6,q⟩ rfl (Region.free_spec aK ba) c ag (CF aj n r _ _ _ aL (a6.set c) b cO)
   by_cases O:Region.wanted o (yielded l.toArray a.tmps)=true
   . rw[bd O]at h
     obtain⟨v,Y,cO⟩:=h;exact fin v (.inl ⟨O,λX e=>by subst e;exact Y⟩) cO
   . rw[a8 O]at h
     exact fin undef (.inr ⟨by simpa using O,rfl⟩) h
 |
  n+1,.bI i r,D,a,w,aL,a6,cb,h=>by
  have aL:r.depth n=true:=aL;simp only[nV]at h;cases aK:l.toArray[i]?with
  |none=>rw[aK]at h;exact h.elim
  |
   some o=>
   simp only[aK]at h;simp only[mL,ii]at cb;obtain⟨⟨⟨⟨aE,ba⟩,I⟩,p⟩,b⟩:=cb;have c:i∈Region.ready .any l.toArray D:=HP;have g:i∉cR:=Bc;have q:∀e∈cR,e∈R\/D.getD e false=true\/((k7 l []).getD e 0).testBit i=true:=HQ;by_cases O:Region.wanted o (yielded l.toArray a.tmps)=true
   . rw[bd O]at h
     obtain⟨J,v,Y,cO⟩:=h;exact Bb (z:=C) aK g (Region.noSelect_spec aj) (λf=>tz l.toArray f/\∀e∈cR,e∈R\/f.getD e false=true\/((k7 l []).getD e 0).testBit i=true)
      (λf j bC _ N=>⟨bC.1.set N,λe V=>(bC.2 e V).imp id (λh=>h.imp (λh=>getD_set_true h) id)⟩)
      (fun f j bC d4 N V X s => by
       rcases bC.2 j V with h1|h1|h1
       . exact s h1
       . exfalso;have h2:=(mem_ready.1 N).1;rw[uX h2]at h1;cases h1
       . exfalso;exact(HO bC.1 (uX d4) j h1).2 N)
      n D a w ⟨a6,q⟩ J (Region.free_spec aK ba) c (.inl ⟨O,Y⟩) (CF aj n r _ _ _ aL (a6.set c) b cO)
   . rw[a8 O]at h
     exact Bb (z:=λ_=>True) aK g (Region.noSelect_spec aj) (λ_=>True) (λ_ _ _ _ _=>trivial) (λ_ _ _ _ _ _ _ _=>trivial)
      n D a w trivial trivial (Region.free_spec aK ba) c (.inr ⟨by simpa using O,rfl⟩) (CF aj n r _ _ _ aL (a6.set c) b h)
 |
  n+1,.c5 i r d,D,a,w,aL,a6,cb,h=>by
  simp only[mL,kT,ii,kN]at cb;obtain⟨⟨⟨aE,I⟩,b⟩,B⟩:=cb;simp only[iO.depth,ii]at aL;refine⟨λbh=>(by rw[bh]at aE;cases aE),λj N=>?_⟩;obtain⟨aG,bb⟩:=h;have M:=N;rw[aE]at M;rcases ku.1 M with rfl|Q
  . exact alO Bc aG λaI X cl=>CF aj n r _ _ _ aL.1 (a6.set N) b cl
  . obtain⟨m,cS,cd,ir,eM⟩:=alP d D a w B bb j Q
    exact alO cS ir λaI X cl=>CF aj n m _ _ _ (eM n (by cases d<;>first|rfl|exact aL.2)) (a6.set N) cd cl
theorem aBZ{id:Nat}{Q:Exit->Act->World->Prop}{a:Act}{w:World}{l:List Oper}(cR R:List Nat)(t:iO)(C:World->Prop)(bf:P.follows .mixedOrders=true)(cb:FW l cR R t=true)
 (h:nV P l.toArray (Q .normal) R C t false a {w with drawn:=w.drawn+1}):(Code.region id l.toArray true).wp P Q a w:=by
 simp only[FW,ii]at cb;obtain⟨⟨aj,av⟩,b⟩:=cb;refine wp_region_any bf ?_;have:=HN (Q:=Q) (Z:=Q .normal) (λ_ _ h=>h) _ _ _ _ (CF aj l.length t _ a _ av NY b h);simpa using this
variable{F:World}{n:Nat}{I:eT}{M H N:List aq}{Q:Exit->Act->World->Prop}{op:Op}{bD:TypeId}{pos:String}{J:Array Edge}{g:Option (Nat×Bool)}{i:Nat}{t u:iO}{b:Bool}
section
variable(o:Oper){a id:Nat}{r:eT}{v:Value}{d:Nat}{p:Value->List aq->Prop}{l:List Oper}{m:Nat}{D:Array Bool}
def GT(P:Program)(F:World)(n:Nat)(E:Array Oper)(R:List Nat)(t:iO)(b:Bool)(I:eT)(M N:List aq)(Z:Act->World->Prop):Prop:=
 ∀a w,hn n I a->dm F M w->nV P E Z R (dm F N) t b a w
def ho{j z:Nat}{c:Bool}(a:(E[j]?).bind (·.dst)=some z)(d:gN I z=some (.bool c))(h1:c=true->GT P F n E R t b I M N Z)(h2:c=false->GT P F n E R t b I M N Z):GT P F n E R t b I M N Z:=by
 cases c;exact h2 rfl;exact h1 rfl
def aB0(h:GE F n I M Z):GT P F n E R .nil false I M N Z:=h
def z6(f:∀h,Sat M h->Sat H h)(h:GT P F n E R t b I H N Z):GT P F n E R t b I M N Z:=λa w aj s=>h a w aj (s.imp f)
def fe(h:GT P F n E R (.c5 i t .nil) b I M N Z)(h2:GT P F n E R u true I M N Z):GT P F n E R (.c5 i t u) b I M N Z:=λa w aj s=>⟨(h a w aj s).1,h2 a w aj s⟩
def th(aK:E[i]?=some rz)(O:hY E I g true)(aL:Nat.blt d n=true)(Y:b0 P F n op bD I M v)(h:GT P F n E R t false oL M N Z):GT P F n E R (.loc i t) b I M N Z:=
 λa w aj s=>by
  simp only[nV,aK,hY.wanted (o:=⟨some d,op,bD,pos,J,g⟩) O aj,fi];exact⟨v,Y _ _ _ _ _ _ aj s,h _ _ rr s⟩
def jF(aK:E[i]?=some rz)(O:hY E I g true)(aL:Nat.blt d n=true)(Y:b0 P F n op bD I N v)(a6:∀h,Sat M h->Sat N h)(h:GT P F n E R t false oL M N Z):GT P F n E R (.bI i t) b I M N Z:=
 λa w aj s=>by
  simp only[nV,aK,hY.wanted (o:=⟨some d,op,bD,pos,J,g⟩) O aj,fi];exact⟨s.imp a6,v,λX aD=>Y _ _ _ _ _ _ aj aD,h _ _ rr s⟩
def aB1(aK:E[i]?=some rz)(O:hY E I g false)(aL:Nat.blt d n=true)(h:GT P F n E R t false AW M N Z):GT P F n E R (.loc i t) b I M N Z:=
 λa w aj s=>by
  simp only[nV,aK,hY.wanted (o:=⟨some d,op,bD,pos,J,g⟩) O aj,eP,ep];exact h _ _ yv s
def aB2(aK:E[i]?=some rz)(O:hY E I g false)(aL:Nat.blt d n=true)(h:GT P F n E R t false AW M N Z):GT P F n E R (.bI i t) b I M N Z:=
 λa w aj s=>by
  simp only[nV,aK,hY.wanted (o:=⟨some d,op,bD,pos,J,g⟩) O aj,eP,ep];exact h _ _ yv s
def aB3(aK:E[i]?=some rz)(O:hY E I g false)(aL:Nat.blt d n=true)(h:GT P F n E R t false AW M N Z):GT P F n E R (.c5 i t .nil) b I M N Z:=
 λa w aj s=>by
  refine⟨?_,trivial⟩;simp only[xW,aK,hY.wanted (o:=⟨some d,op,bD,pos,J,g⟩) O aj,eP,ep];exact h _ _ yv s
def aB4(aK:E[i]?=some Mb)(O:hY E I g true)(Y:df P F n op bD I M H)(a6:i∈R->∀h,Sat H h->Sat N h)(h:GT P F n E R t false I H N Z):GT P F n E R (.c5 i t .nil) b I M N Z:=
 λa w aj s=>by
  refine⟨?_,trivial⟩;obtain⟨X,aE,aD⟩:=Y a w none pos J g aj s;simp only[xW,aK,hY.wanted (o:=⟨none,op,bD,pos,J,g⟩) O aj,fi,Oper.wp,aE,Oper.upon];exact⟨λC=>aD.imp (a6 C),h _ _ aj aD⟩
def yi(aK:E[i]?=some rz)(O:hY E I g true)(aL:Nat.blt d n=true)(Y:c4 P F n op bD I M p)(h:∀v H,p v H->CV/\GT P F n E R t false oL H N Z):GT P F n E R (.c5 i t .nil) b I M N Z:=
 λa w aj s=>by
  refine⟨?_,trivial⟩;obtain⟨v,H,X,aE,hp,aD⟩:=Y a w (some d) pos J g aj s;simp only[xW,aK,hY.wanted (o:=⟨some d,op,bD,pos,J,g⟩) O aj,fi,Oper.wp,aE,Oper.upon];exact⟨λC=>aD.imp CW,(h v H hp).2 _ _ rr aD⟩
def pK(aK:E[i]?=some rz)(O:hY E I g true)(aL:Nat.blt d n=true)(Y:di P F n op bD I M p)(h:∀v H,p v H->CV/\GT P F n E R t false oL H N Z):GT P F n E R (.c5 i t .nil) b I M N Z:=
 λa w aj s=>by
  refine⟨?_,trivial⟩;obtain⟨f,args,aE,g7⟩:=Y a w (some d) pos J g aj s;simp only[xW,aK,hY.wanted (o:=⟨some d,op,bD,pos,J,g⟩) O aj,fi,Oper.wp,aE,Oper.upon];exact g7.mono λe X ⟨v,H,V,hp,aD⟩=>by subst V;exact⟨λC=>aD.imp CW,(h v H hp).2 _ _ rr aD⟩
def gY(I c:eT):Prop:=∀t v,gN I t=some v->gN c t=some v
def gY.refl(I:eT):gY I I:=λ_ _ h=>h
def gY.push{I c:eT}{k:Nat}{v:Value}(h:gY I c)(ba:gN I k=none):gY I ((k,v)::c):=λt u e=>by
 simp only[gN];cases aA:Nat.beq k t with
 |true=>have:=lA aA;subst this;rw[ba]at e;cases e
 |false=>simpa using h t u e
def gY.dB{I c:eT}{d:Nat}{v:Value}(h:gY I c)(Y:gN c d=some v):gY oL c:=λt u e=>by
 simp only[gN]at e;cases aA:Nat.beq d t with
 |true=>rw[aA]at e;have:=lA aA;subst this;simp at e;subst e;exact Y
 |false=>rw[aA]at e;exact h t u (by simpa using e)
def hn.amg{a:Act}(h:hn n I a)(k:gY r I):hn n r a:=⟨h.size,h.defers,λ_ _ e=>h.val _ _ (k _ _ e)⟩
def aB5{u:iO}(t:iO)(v:Value)(k:GT P F n E R t false oL M N Z)(h:(∀c,gY ((d,v)::I) c->GT P F n E R t false c M N Z)->GT P F n E R u b I M N Z):GT P F n E R u b I M N Z:=
 h λ_ hk a w aj s=>k a w (aj.amg hk) s
def ls(m:Nat)(v:Value)(k:cE P F n E (l.drop m) oL M Q)(h:(∀c,gY ((d,v)::I) c->cE P F n E (l.drop m) c M Q)->cE P F n E l I M Q):cE P F n E l I M Q:=
 h λ_ hk a w aj s=>k a w (aj.amg hk) s
def pJ(k:bg r I)(h:GT P F n E R t b r M N Z):GT P F n E R t b I M N Z:=λa w aj s=>h a w (aj.jv k) s
def lb{a b:Bool}(h:a=b):some (Value.bool a)=some (Value.bool b):=by rw[h]
theorem aB6(cR R:List Nat)(t:iO)(N:List aq)(bf:P.follows .mixedOrders=true)(cb:FW l cR R t=true)
 (h:GT P F n l.toArray R t false I M N (Q .normal)):G P F n HR I M Q:=
 λa w aj s=>aBZ cR R t _ bf cb (h a _ aj s.drew)
structure q5 where
 dF:Nat
 CG:Nat
 LM:Nat
 an:Nat
def BD:Nat:=match o.dst with
 |some d=>2^d
 |none=>0
def vb:List Nat->Nat
 |[]=>0
 |t::r=>2^t|||vb r
def za:Nat:=vb ((o.after.toList.filter λe=>Region.binds .any e).map (·.on))
def s7(E:Array Oper):List Oper->List Nat->List q5
 |[],_=>[]
 |o::r,[]=>⟨BD o,vb (o.looksAt E),za o,0⟩::s7 E r []
 |o::r,a::as=>⟨BD o,vb (o.looksAt E),za o,a⟩::s7 E r as
def rowsOf(l:List Oper):List q5:=s7 l.toArray l (k7 l [])
def z7(r:q5)(m j:Nat):Bool:=!m.testBit j&&Nat.beq (r.LM&&&m) r.LM
def z8(m:Nat):List q5->Nat->List Nat
 |[],_=>[]
 |r::a,j=>cond (z7 r m j) (j::z8 m a (j+1)) (z8 m a (j+1))
def CH(iq:q5)(m i:Nat):List q5->Nat->Bool
 |[],_=>true
 |r::a,j=>(Nat.beq j i||(m.testBit j||(r.LM.testBit i||(Nat.beq (iq.dF&&&r.CG) 0&&(Nat.beq (iq.dF&&&r.dF) 0&&Nat.beq (r.dF&&&iq.CG) 0)))))&&CH iq m i a (j+1)
def rQ(a:List q5)(cR R:List Nat):iO->Bool->Nat->Bool
 |.nil,false,m=>(z8 m a 0).isEmpty
 |.nil,true,_=>true
 |.loc i r,false,m=>(match a[i]?with|some iq=>z7 iq m i&&CH iq m i a 0|none=>false)&&!cR.contains i&&cR.all (λe=>m.testBit e||(match a[e]?with|some c=>c.an.testBit i|none=>false))&&rQ a cR R r false (m|||2^i)
 |.bI i r,false,m=>(match a[i]?with|some iq=>z7 iq m i&&CH iq m i a 0|none=>false)&&!cR.contains i&&cR.all (λe=>R.contains e||(m.testBit e||(match a[e]?with|some c=>c.an.testBit i|none=>false)))&&rQ a cR R r false (m|||2^i)
 |.c5 i r d,b,m=>(b||decide (z8 m a 0=i::d.LZ))&&cR.contains i&&(match a[i]?with|some iq=>z7 iq m i|none=>false)&&rQ a cR R r false (m|||2^i)&&rQ a cR R d true m
 |_,true,_=>false
def LN(l:List Oper)(cR R:List Nat)(t:iO):Bool:=
 Region.noSelect l.toArray&&t.depth l.length&&rQ (rowsOf l) cR R t false 0
def LO{i:Nat}:∀(l:List Nat),(vb l).testBit i=true↔i∈l
 |[]=>by simp[vb]
 |
  t::r=>by
  rw[vb,NW,Yt,tA,LO r,ku,kN];constructor
  . rintro(h|h);exact .inl h.symm;exact .inr h
  . rintro(h|h);exact .inl h.symm;exact .inr h
def Uw{o:Oper}{i:Nat}:(za o).testBit i=true↔∃e∈o.after,Region.binds .any e=true/\e.on=i:=by
 unfold za;rw[LO];simp[lU,oM,and_assoc]
def aB7(h:Nat.beq (a&&&m) a=true){i:Nat}(aW:a.testBit i=true):m.testBit i=true:=by
 have q:=lA h;rw[<-q,alQ,ii]at aW;exact aW.2
def Ux{b:Nat}(h:Nat.beq (a&&&b) 0=true){i:Nat}(aW:a.testBit i=true):b.testBit i=false:=by
 have q:=lA h;have:=congrArg (λn=>n.testBit i) q;simp[alQ,aW]at this;exact this
def aB8(h:∀i,a.testBit i=true->m.testBit i=true):Nat.beq (a&&&m) a=true:=by
 have:a&&&m=a:=Nat.eq_of_testBit_eq λi=>by
  rw[alQ];cases aW:a.testBit i with
  |false=>rfl
  |true=>rw[h i aW];rfl
 rw[this];exact WT _
def LP(E:Array Oper):∀(l:List Oper) (as:List Nat) (i:Nat) (r:q5),(s7 E l as)[i]?=some r↔∃o,l[i]?=some o/\r=⟨BD o,vb (o.looksAt E),za o,as.getD i 0⟩
 |[],_,i,r=>by simp[s7]
 |o::l,[],0,r=>by simp[s7,eq_comm]
 |o::l,a::as,0,r=>by simp[s7,eq_comm]
 |o::l,[],i+1,r=>by simp only[s7,H0];rw[LP E l [] i r];simp
 |o::l,a::as,i+1,r=>by simp only[s7,H0];rw[LP E l as i r];simp
def Aa{i:Nat}{r:q5}(h:(rowsOf l)[i]?=some r):∃o,l[i]?=some o/\r=acM:=(LP _ _ _ _ _).1 h
def aB9{i:Nat}{o:Oper}(h:l[i]?=some o):(rowsOf l)[i]?=some acM:=(LP _ _ _ _ _).2 ⟨o,h,rfl⟩
structure vM(l:List Oper)(m:Nat)(D:Array Bool):Prop where
 size:D.size=l.length
 bit:∀j,D.getD j false=m.testBit j
def vM.get(h:vM l m D){j:Nat}(N:j<l.length):D.getD j true=m.testBit j:=by
 rw[<-h.bit j];have:j<D.size:=by rw[h.size];exact N
 simp[Du,this]
def vM.set(h:vM l m D){i:Nat}(ak:i<l.length):vM l (m|||2^i) (D.setIfInBounds i true):=by
 refine⟨by rw[Array.size_setIfInBounds];exact h.size,λj=>?_⟩;rw[NW,Yt,<-h.bit j];have aj:i<D.size:=by rw[h.size];exact ak
 by_cases g2:i=j
 . subst g2;simp[Du,M6,aj]
 . simp[Du,M6,g2]
def Uy(h:vM l m D){i:Nat}{o:Oper}(aK:l[i]?=some o)(CG an dF:Nat):z7 ⟨dF,CG,za o,an⟩ m i=true↔i∈Region.ready .any l.toArray D:=by
 have ak:=(dc.1 aK).1;rw[mem_ready,h.get ak];unfold z7;rw[ii,zp];refine and_congr_right λ_=>⟨λh2=>⟨o,by simpa using aK,λe V aA=>?_⟩,fun⟨S,b,p⟩=>aB8 λj N=>?_⟩
 . rw[h.bit];exact aB7 h2 (Uw.2 ⟨e,V,aA,rfl⟩)
 . have:S=o:=by
    have a:l[i]?=some S:=by simpa using b
    exact od (a.symm.trans aK)
   subst this;obtain⟨e,V,aA,rfl⟩:=Uw.1 N;rw[<-h.bit];exact p e V aA
def alR{m:Nat}{p:Nat->Bool}:∀(a:List q5) (k:Nat),(∀j r,a[j]?=some r->z7 r m (k+j)=p (k+j))->z8 m a k=(List.range' k a.length).filter p
 |[],_,_=>rfl
 |
  r::a,k,h=>by
  have bh:=h 0 r rfl;have K:=alR a (k+1) (λj r N=>by have:=h (j+1) r DR;rwa[show k+(j+1)=k+1+j by omega]at this);simp only[HK]at bh;rw[z8,iE,List.range'_succ,O4,bh,K];cases p k<;>rfl
def alS(h:vM l m D):z8 m (rowsOf l) 0=Region.ready .any l.toArray D:=by
 have av:(rowsOf l).length=l.length:=by
  have key:∀(E:Array Oper) (l:List Oper) (as:List Nat),(s7 E l as).length=l.length:=by
   intro E l
   induction l with
   |nil=>intro as;rfl
   |cons o l K=>intro as;cases as<;>simp[s7,K]
  exact key _ _ _
 have aE:Region.ready .any l.toArray D=(List.range l.toArray.size).filter (λi=>!D.getD i true&&((l.toArray[i]?).map (·.after.all λe=>!Region.binds .any e||D.getD e.on false)).getD false):=rfl;rw[aE,List.range_eq_range',alR (rowsOf l) 0 (p:=λi=>!D.getD i true&&((l.toArray[i]?).map (·.after.all λe=>!Region.binds .any e||D.getD e.on false)).getD false),av,yc];intro j r N;obtain⟨o,aK,rfl⟩:=Aa N;rw[lu,o4,Uy h aK,aE,oM,pV];have:=(dc.1 aK).1;simp[this]
def alT{m i:Nat}{iq:q5}:∀(a:List q5) (k:Nat),CH iq m i a k=true->∀j r,a[j]?=some r->(k+j=i\/m.testBit (k+j)=true\/r.LM.testBit i=true\/(Nat.beq (iq.dF&&&r.CG) 0=true/\Nat.beq (iq.dF&&&r.dF) 0=true/\Nat.beq (r.dF&&&iq.CG) 0=true))
 |[],_,_,j,r,N=>by simp at N
 |
  l::a,k,h,j,r,N=>by
  simp only[CH,ii,tA]at h;cases j with
  |
   zero=>
   simp at N;subst N;rcases h.1 with h1|h1|h1|h1
   . exact .inl (by rw[HK];exact lA h1)
   . exact .inr (.inl h1)
   . exact .inr (.inr (.inl h1))
   . exact .inr (.inr (.inr ⟨h1.1,h1.2.1,h1.2.2⟩))
  |
   succ j=>
   have:=alT a (k+1) h.2 j r DR;rwa[show k+1+j=k+(j+1) by omega]at this
def alU(h:vM l m D){i:Nat}{iq:q5}(ak:(rowsOf l)[i]?=some iq)(ba:CH iq m i (rowsOf l) 0=true):Region.free .any l.toArray D i=true:=by
 obtain⟨H,k,rfl⟩:=Aa ak;have a:l.toArray[i]?=some H:=by simpa using k
 unfold Region.free;simp only[a,qd,pV];intro j N;have v:j<l.length:=DR;obtain⟨g,n⟩:∃g,l[j]?=some g:=⟨_,cz v⟩;have b:l.toArray[j]?=some g:=by simpa using n
 have:=alT _ _ ba j _ (aB9 n);rw[lu]at this;simp only[b,tA,beq_iff_eq];rcases this with h1|h1|h1|⟨h1,h2,aN⟩
 . exact .inl (.inl h1)
 . exact .inl (.inr (by rw[h.get v];exact h1))
 . obtain⟨e,V,aA,q⟩:=Uw.1 h1
   exact .inr (.inl (by rw[Array.any_eq_true'];exact⟨e,V,by simp[aA,q]⟩))
 . refine .inr (.inr ?_)
   unfold Oper.apart;have cn:∀(o:Oper) d,o.dst=some d->(BD o).testBit d=true:=λo d aL=>by unfold BD;rw[aL];simp
   rw[ii];constructor
   . cases aL:H.dst with
     |none=>rfl
     |
      some d=>
      simp only[ii,zp,bne_iff_ne];have aA:=cn H d aL;constructor
      . have:=Ux h1 aA
        cases a6:(g.looksAt l.toArray).contains d with
        |false=>rfl
        |true=>rw[(LO _).2 (by simpa using a6)]at this;cases this
      . intro f
        have:=Ux h2 aA;rw[cn g d f]at this;cases this
   . cases aL:g.dst with
     |none=>rfl
     |
      some d=>
      simp only[zp];have:=Ux aN (cn g d aL);cases a6:(H.looksAt l.toArray).contains d with
      |false=>rfl
      |true=>rw[(LO _).2 (by simpa using a6)]at this;cases this
theorem FX{l:List Oper}{cR R:List Nat}:∀(t:iO) (b:Bool) (m:Nat) (D:Array Bool),vM l m D->rQ (rowsOf l) cR R t b m=true->mL l.toArray (k7 l []) cR R t b D=true
 |
  .nil,false,m,D,h,hk=>by
  simp only[rQ]at hk;simp only[mL];rw[<-alS h];exact hk
 |.nil,true,_,_,_,_=>rfl
 |.loc i r,true,_,_,_,hk=>by simp[rQ]at hk
 |.bI i r,true,_,_,_,hk=>by simp[rQ]at hk
 |
  .loc i r,false,m,D,h,hk=>by
  simp only[rQ,ii]at hk;obtain⟨⟨⟨h1,h2⟩,aN⟩,bu⟩:=hk;cases ak:(rowsOf l)[i]?with
  |none=>rw[ak]at h1;cases h1
  |
   some iq=>
   rw[ak]at h1;simp only[ii]at h1;obtain⟨H,k,x⟩:=Aa ak;have dV:=(dc.1 k).1;simp only[mL,ii];refine⟨⟨⟨⟨?_,alU h ak h1.2⟩,h2⟩,?_⟩,FX r false _ _ (h.set dV) bu⟩
   . rw[x]at h1;simpa using(Uy h k _ _ _).1 h1.1
   . rw[qd]at aN⊢
     intro e V;have:=aN e V;rw[tA]at this⊢;rw[h.bit];refine this.imp id λdW=>?_;cases a:(rowsOf l)[e]?with
     |none=>rw[a]at dW;cases dW
     |some c=>rw[a]at dW;obtain⟨g,_,rfl⟩:=Aa a;exact dW
 |
  .bI i r,false,m,D,h,hk=>by
  simp only[rQ,ii]at hk;obtain⟨⟨⟨h1,h2⟩,aN⟩,bu⟩:=hk;cases ak:(rowsOf l)[i]?with
  |none=>rw[ak]at h1;cases h1
  |
   some iq=>
   rw[ak]at h1;simp only[ii]at h1;obtain⟨H,k,x⟩:=Aa ak;have dV:=(dc.1 k).1;simp only[mL,ii];refine⟨⟨⟨⟨?_,alU h ak h1.2⟩,h2⟩,?_⟩,FX r false _ _ (h.set dV) bu⟩
   . rw[x]at h1;simpa using(Uy h k _ _ _).1 h1.1
   . rw[qd]at aN⊢
     intro e V;have:=aN e V;rw[tA,tA]at this⊢;rw[h.bit];refine this.imp id λg1=>g1.imp id λdW=>?_;cases a:(rowsOf l)[e]?with
     |none=>rw[a]at dW;cases dW
     |some c=>rw[a]at dW;obtain⟨g,_,rfl⟩:=Aa a;exact dW
 |
  .c5 i r d,b,m,D,h,hk=>by
  simp only[rQ,ii]at hk;obtain⟨⟨⟨⟨h1,h2⟩,aN⟩,bu⟩,dW⟩:=hk;cases ak:(rowsOf l)[i]?with
  |none=>rw[ak]at aN;cases aN
  |
   some iq=>
   obtain⟨H,k,x⟩:=Aa ak;have dV:=(dc.1 k).1;simp only[mL,ii];exact⟨⟨⟨by rw[<-alS h];exact h1,h2⟩,FX r false _ _ (h.set dV) bu⟩,FX d true _ _ h dW⟩
def aCa{cR R:List Nat}{t:iO}(h:LN l cR R t=true):FW l cR R t=true:=by
 simp only[LN,ii]at h;simp only[FW,ii];exact⟨h.1,FX t false 0 _ ⟨by simp,λj=>by simp[Du,Array.getElem?_replicate];split<;>rfl⟩ h.2⟩
theorem aCb(cR R:List Nat)(t:iO)(N:List aq)(bf:P.follows .mixedOrders=true)(cb:LN l cR R t=true)
 (h:GT P F n l.toArray R t false I M N (Q .normal)):G P F n HR I M Q:=aB6 cR R t N bf (aCa cb) h
end
end
class k6(P:Program)(t:TypeId)(name:String)(f:outParam FuncId):Prop where
 out:∀v w,(method (P.types.size+Made.depth) t v name).run P w=.ok (f,v) w
section
variable{P:Program}{F w:World}{n:Nat}{I:eT}{M:List aq}{bD:TypeId}
section
variable{t e aY:Nat}{x y:Operand}{a:Option Addr}{l c i:Nat}{d6:IntKind}
theorem wL{t:TypeId}{name:String}{f:FuncId}{x:Operand}{v:Value}{xs:List Operand}{z:Array TypeId}{ce:List Value}{pre D:List aq}{post:Value->List aq->Prop}[m:k6 P t name f](Y:ck I x=some (.iface t v))(ah:tw I xs=some ce)(ba:ad P f (v::ce) pre post)(hp:Part pre M D)(fz:e0 P f:=by exact fc):
 di P F n YY bD I M H4:=λa w d pos J g aj s=>by
 refine⟨f,(v::ce).toArray,?_,?_⟩
 . simp only[execOp,resolve,oN,aj.Ad ah,aj.eval Y]
   have ay:=m.out v w;simp[invoke,callMethod,run_program]at ay⊢;rw[ay];simpa using H5 (P:=P) (f:=f) (v::ce).toArray w
 . exact(ba F D w DX).mono λe X ⟨v,L,V,bm,aD⟩=>⟨v,_,V,⟨L,bm,rfl⟩,aD⟩
instance(priority:=low) iW.litOff{b bO n C:Nat}{e:TypeId}{xs:List Value}{r:List aq}:iW (.slice (some q8) n C) (ab b e xs::r) n (xs.drop bO)where
 get:=fun⟨_,_,_,ay,aW,_⟩=>ay▸.inr ⟨b,bO,none,C,rfl,λ_=>rfl,λj x ah=>⟨rfl,xs.toArray,e,(0,0),join_some aW,by rw[L6]at ah;simpa using ah⟩⟩
def DY{t e aY l c:Nat}{a:Option Addr}[i:jS P t e aY](h:ck I x=some (.slice a l c)):b0 P F n Oi bD I M (.int .i64 l):=λaI w d pos J g aj s=>by
 obtain⟨z,h1,h2,aN⟩:=i.out;simp only[execOp,resolve,oN,gu,mT,aj.eval h];simp[invoke,builtin,Builtin.len_,gH h1,goInt]
def tj[j:jS P t e aY](ah:ck I x=some (.slice a l c))(ag:ck I y=some (.int d6 (i:Int)))(ak:i<=c):b0 P F n (.slice t x none (some y) none) bD I M (.slice a i c):=λaI w d pos J g aj _=>by
 obtain⟨z,h1,h2,aN⟩:=j.out;simp only[execOp,nJ,Gk,aj.eval ah,aj.eval ag];have gr:a.map (λx:Addr=>x.add 0)=a:=by cases a<;>simp[Addr.add]
 simp[Instr.sliceAt,Instr.slice,gH h1,jM h2,Instr.sliceBounds,Instr.sliceBound,asIntOf,ak,gr]
def DZ[j:jS P t e aY](ah:ck I x=some (.slice a l c))(ag:ck I y=some (.int d6 (i:Int)))(ak:i<=l):b0 P F n (.slice t x (some y) none none) bD I M (.slice Yo (l -i) (c -i)):=λaI w d pos J g aj _=>by
 obtain⟨z,h1,h2,aN⟩:=j.out;simp only[execOp,nJ,Gk,aj.eval ah,aj.eval ag];simp[Instr.sliceAt,Instr.slice,gH h1,jM h2,aN,Instr.sliceBounds,Instr.sliceBound,asIntOf,ak]
end
end
section
variable{P:Program}{f:FuncId}{args:List Value}{post z:Value->List aq->Prop}
def Oh{H c D:List aq}(i:∀h,Sat H h->Sat c h):∀h,Sat (H++D) h->Sat (c++D) h:=λ_ s=>
 let⟨_,_,d,e,a,b⟩:=Sat.split s;e▸Sat.append d (i _ a) b
def ad.aT{M:List aq}(h:ad P f args M post)(g:∀v H,post v H->∃c,z v c/\∀h,Sat H h->Sat c h):ad P f args M z:=λF D w s=>
 (h F D w s).mono λ_ _ ⟨v,H,e,p,s⟩=>let⟨c,S,i⟩:=g v H p;⟨v,c,e,S,s.imp (Oh i)⟩
def YV{bv:Type}{fM:bv->Prop}{l:bv->List aq}(h:∀x,fM x->ad P f args (l x) post):ad P f args [dj fM l] post:=λF D w s=>by
 obtain⟨x,ah,n⟩:=hd s.e4;exact h x ah F D w ⟨s.os,s.tape,s.output,s.size,n⟩
def YW{bv:Type}{fM:bv->Prop}{l:bv->List aq}{H:List aq}(x:bv)(p:fM x)(t:∀h,Sat H h->Sat (l x) h):∀h,Sat H h->Sat [dj fM l] h:=λh s=>Sat.one ⟨x,p,t h s⟩
end
class YX(l:List aq)(v:Value)(n:outParam Nat)(xs:outParam (List Value)):Prop where
 out:∃(i:Nat) (e:TypeId) (aY:Nat),l[i]?=some (own v e aY n xs)
section
variable{P:Program}{F w:World}{M:List aq}{b bO:Nat}{T te:TypeId}{l:List Value}{v:Value}{R:Nat×Nat}{u:Obj->List aq}
instance gl.aDD{l:List aq}{v:Value}{n:Nat}{xs:List Value}[i:YX l v n xs]:gl v (ax l) n xs where
 get:=fun{h} aW=>by
  obtain⟨i,e,aY,ak⟩:=i.out;have aj:Sat (ax l::[]) h:=Sat.one aW;obtain⟨h1,h2,_,V,aK,_⟩:=sj ak h aj;rw[V];exact(oh.rd aK).more
def H3[i:eQ P T][j:kZ b M (.cells l.toArray te R) u](s:dm F M w)(Y:l[bO]?=some v):(loadVar T ⟨b,bO,none⟩).run P w=.ok v w:=by
 obtain⟨E,h1,h2⟩:=i.out;have aA:=s.heap (b:=b);have a6:w.cell? q8=some v:=by simp[World.cell?,aA,Y]
 simp[loadVar,DW h1 h2,run_load,a6]
def aqL{aY:Nat}{T te:TypeId}{l ce:List Value}{R:Nat×Nat}{u:Obj->List aq}[i:j9 P T aY][j:kZ b M (.cells l.toArray te R) u](s:dm F M w)(Y:(l.drop bO).take aY=ce)(av:ce.length=aY):(loadVar T ⟨b,bO,none⟩).run P w=.ok (.agg ce.toArray) w:=by
 obtain⟨g,W,Z⟩:=i.out;obtain⟨z,d8,gc⟩:=i.size;have aA:=s.heap (b:=b);have a6:=run_loadCells_list (P:=P) w q8 ce (λk v hk=>by
  rw[<-Y]at hk;have:=Af hk;rw[uh];simp[World.cell?,aA,this])
 rw[av]at a6;simp[loadVar,Ag W Z,jM d8,gc,a6]
def aqM{A:aq}{D:List aq}(n:Nat)(B:∀D h,Sat D h->Sat (A::D) h):∀h,Sat D h->Sat (ax (List.replicate n A)::D) h:=λh s=>by
 refine Sat.flat.2 ?_
 induction n with
 |zero=>exact s
 |succ n K=>exact B _ _ K
end
structure iP(P:Prop):Prop where
 o:P
section
variable{P:Program}{F w:World}{n:Nat}{I:eT}{M:List aq}{bD:TypeId}
section
variable{t dk:TypeId}{x y:Operand}{k:IntKind}{p q r:Int}
def aCf(ah:ck I x=some (.int k p))(ag:ck I y=some (.int k q))(aE:k.wrap (p+q)=r):b0 P F n (.binOp .add t x y dk) bD I M (.int k r):=fk r aE ah ag
def aCg(ah:ck I x=some (.int k p))(ag:ck I y=some (.int k q))(aE:k.wrap (p -q)=r):b0 P F n (.binOp .sub t x y dk) bD I M (.int k r):=kl r aE ah ag
def aCh(ah:ck I x=some (.int k p))(ag:ck I y=some (.int k q))(aE:k.wrap (p*q)=r):b0 P F n (.binOp .mul t x y dk) bD I M (.int k r):=rm r aE ah ag
def aCi{V:IntKind}{p r:Int}[tB P t k][tB P dk V](ah:ck I x=some (.int k p))(aE:V.wrap p=r):b0 P F n (.convert t dk x) bD I M (.int V r):=o6 r aE ah
end
end
section
variable{A:Prop}
def LQ{k:IntKind}{x r:Int}(h:k.wrap x=r:=by first|exact je (by omega)|exact tp (by omega)|rfl):k.wrap x=r:=h
theorem qO(h:A:=by
 first
 |exact j6 rfl|exact mw rfl
 |exact tC rfl|exact nG rfl
 |exact o_load rfl rfl|exact gz rfl rfl|exact u2 rfl|exact kv rfl rfl rfl|exact zB rfl rfl rfl
 |exact lY rfl|exact JI rfl rfl
 |exact my rfl rfl|exact mo rfl rfl|exact yJ rfl rfl|exact H7 rfl rfl|exact B0 rfl rfl|exact Ak rfl rfl
 |exact qv rfl|exact arx rfl|exact DY rfl|exact KG rfl rfl|exact kE rfl rfl
 |(apply aCf;exact rfl;exact rfl;exact LQ)|(apply aCg;exact rfl;exact rfl;exact LQ)|(apply aCh;exact rfl;exact rfl;exact LQ)
 |exact fI rfl rfl (by first|assumption|omega)|(apply l1;exact rfl;exact rfl;omega)
 |(apply aCi;exact rfl;exact LQ)
 |exact aro rfl rfl|exact arq rfl rfl|exact arp rfl rfl|exact arr rfl rfl
 |exact aif rfl rfl|exact aih rfl rfl|exact ate rfl rfl
 |exact Zu rfl rfl
 |exact D0 rfl rfl rfl|exact yU rfl rfl rfl|(refine D0 ?_ rfl rfl;assumption)|(refine yU ?_ rfl rfl;assumption)
 |(apply aii;exact rfl;exact rfl;(first|decide|omega))|(apply aij;exact rfl;exact rfl;(first|decide|omega))):A:=h
theorem Uz(h:A:=by
 first
 |exact mv rfl rfl rfl rfl|exact rU rfl rfl rfl (by first|assumption|omega|simp)
 |exact Ir rfl rfl rfl rfl (by simp;omega) (by simp)|exact Pe rfl rfl rfl rfl rfl
 |exact Zc rfl rfl rfl):A:=h
theorem LR(h:A:=by
 first
 |exact tR|exact Sr rfl rfl|exact Bp rfl|exact Zj|exact atf
 |exact Ia rfl rfl rfl|exact Ib rfl rfl rfl rfl|exact qh rfl rfl rfl rfl):A:=h
theorem ws(h:A:=by
 first
 |exact D3 rfl rfl bF rfl rfl rfl (by omega) (by unfold maxLen;omega)
 |(apply Gl;exact rfl;exact rfl;unfold maxLen;omega;omega)):A:=h
end
section
variable{P:Program}{F:World}{n:Nat}{I:eT}{M D:List aq}{fn:Func}{post:Value->List aq->Prop}{e:Exit}
def alW(V:e=.ret\/e=.normal)(ba:fn.results=#[])(k:∃H,post (.tuple #[]) H/\∀h,Sat M h->Sat (H++D) h):GE F n I M (AV P F fn post D e):=
 let⟨_,hp,B⟩:=k;Dv V ba _ hp B
def alX(V:e=.ret\/e=.normal){t:Nat}{v:Value}(ba:fn.results=#[.tmp t])(h1:gN I t=some v)(k:∃H,post v H/\∀h,Sat M h->Sat (H++D) h):GE F n I M (AV P F fn post D e):=
 let⟨_,hp,B⟩:=k;jh V ba h1 _ hp B
def aCj(V:e=.ret\/e=.normal){t u:Nat}{v x:Value}(ba:fn.results=#[.tmp t,.tmp u])(h1:gN I t=some v)(h2:gN I u=some x)(k:∃H,post (.tuple #[v,x]) H/\∀h,Sat M h->Sat (H++D) h):GE F n I M (AV P F fn post D e):=
 let⟨_,hp,B⟩:=k;WW V ba h1 h2 _ hp B
def aX{q:List aq->Prop}{H:List aq}(hp:q H)(B:∀h,Sat M h->Sat (H++D) h:=by exact au):∃H,q H/\∀h,Sat M h->Sat (H++D) h:=⟨H,hp,B⟩
end
section
variable{P Q:Prop}
def UA{i:Nat}{R:List Nat}{D:Prop}(h:i∈R->D:=by first|exact λC=>absurd C (by decide)|exact λ_=>au):i∈R->D:=h
def mM{E:Array Oper}{I:eT}{g:Option (Nat×Bool)}{b:Bool}(h:hY E I g b:=by first|exact .none|exact .yes rfl rfl rfl|exact .no rfl rfl rfl|exact .un rfl rfl|(apply hY.yes;exact rfl;exact rfl;assumption)|(apply hY.no;exact rfl;exact rfl;assumption)):hY E I g b:=h
theorem wt{A:Prop}(h:A:=by
 first
 |exact fC (c:=true) (by exact kM (by omega)) (my rfl rfl)|exact fC (c:=false) (by exact mO (by omega)) (my rfl rfl)
 |exact fC (c:=true) (by exact kM (by omega)) (yJ rfl rfl)|exact fC (c:=false) (by exact mO (by omega)) (yJ rfl rfl)
 |exact fC (c:=true) (by exact kM (by omega)) (H7 rfl rfl)|exact fC (c:=false) (by exact mO (by omega)) (H7 rfl rfl)
 |exact fC (c:=true) (by exact kM (by omega)) (B0 rfl rfl)|exact fC (c:=false) (by exact mO (by omega)) (B0 rfl rfl)
 |exact fC (c:=true) (by exact kM (by omega)) (Ak rfl rfl)|exact fC (c:=false) (by exact mO (by omega)) (Ak rfl rfl)
 |exact fC (c:=true) (by rfl) (qv rfl)|exact fC (c:=false) (by rfl) (qv rfl)
 |exact fC (c:=true) (by assumption) (j6 rfl)|exact fC (c:=false) (by assumption) (j6 rfl)):A:=h
theorem cP(k:P)(h:iP P->Q:=by
 intro h
 first
 |(apply aB;exact rfl;exact wt)|(apply go_v;exact rfl;exact mM;exact rfl;exact wt)|(apply go_vs;exact rfl;exact mM;exact rfl;exact wt;exact au)
 |(apply th;exact rfl;exact mM;exact rfl;exact wt)|(apply jF;exact rfl;exact mM;exact rfl;exact wt;exact au)
 exact h.o):Q:=h ⟨k⟩
theorem aG(k:P)(h:iP P->Q:=by
 intro h
 first
 |refine hB ?_|refine hA ?_|refine ja ?_|(apply aB;exact rfl;exact qO)|refine ic ?_|(apply kb;exact Uz)
 |refine tv ?_|refine yt ?_|refine rq ?_|refine oJ ?_|refine WU ?_
 |refine yu ?_|refine M2 ?_|refine Dq ?_|refine WS ?_|refine aoK rfl ?_
 |refine wk rfl ?_|refine tq rfl ?_
 |refine o2 rfl rfl rfl ?_|refine He rfl rfl rfl rfl ?_|refine aoN rfl rfl rfl ?_
 |(apply go_v;exact rfl;exact mM;exact rfl;exact qO)|(apply go_vs;exact rfl;exact mM;exact rfl;exact qO;exact au)|(apply go_u;exact rfl;exact mM;exact Uz;exact UA)
 |refine go_nil ?_|(refine⟨?_,?_⟩;exact UA)
 |(apply go_skip;exact rfl;exact mM;exact rfl)
 |(apply o2;exact rfl;exact rfl;assumption)|(apply He;exact rfl;exact rfl;assumption;exact rfl)
 |(apply th;exact rfl;exact mM;exact rfl;exact qO)|(apply jF;exact rfl;exact mM;exact rfl;exact qO;exact au)|(apply aB4;exact rfl;exact mM;exact Uz;exact UA)
 |refine alW (.inl rfl) rfl ?_|refine alW (.inr rfl) rfl ?_|refine alX (.inl rfl) rfl rfl ?_|refine alX (.inr rfl) rfl rfl ?_|refine aCj (.inl rfl) rfl rfl rfl ?_
 |refine aB0 ?_
 |(apply aB1;exact rfl;exact mM;exact rfl)|(apply aB2;exact rfl;exact mM;exact rfl)|(apply aB3;exact rfl;exact mM;exact rfl)
 exact h.o):Q:=h ⟨k⟩
def bb(k:P)(h:iP P->Q:=by intro h;(iterate 2 refine aG ?_);exact h.o):Q:=h ⟨k⟩
def b6(k:P)(h:iP P->Q:=by intro h;(iterate 3 refine aG ?_);exact h.o):Q:=h ⟨k⟩
def bK(k:P)(h:iP P->Q:=by intro h;(iterate 4 refine aG ?_);exact h.o):Q:=h ⟨k⟩
def bB(k:P)(h:iP P->Q:=by intro h;(iterate 5 refine aG ?_);exact h.o):Q:=h ⟨k⟩
def bi(k:P)(h:iP P->Q:=by intro h;(iterate 6 refine aG ?_);exact h.o):Q:=h ⟨k⟩
def cq(k:P)(h:iP P->Q:=by intro h;(iterate 7 refine aG ?_);exact h.o):Q:=h ⟨k⟩
def bQ(k:P)(h:iP P->Q:=by intro h;(iterate 8 refine aG ?_);exact h.o):Q:=h ⟨k⟩
def cv(k:P)(h:iP P->Q:=by intro h;(iterate 9 refine aG ?_);exact h.o):Q:=h ⟨k⟩
def c8(k:P)(h:iP P->Q:=by intro h;(iterate 10 refine aG ?_);exact h.o):Q:=h ⟨k⟩
def c0(k:P)(h:iP P->Q:=by intro h;(iterate 11 refine aG ?_);exact h.o):Q:=h ⟨k⟩
def dC(k:P)(h:iP P->Q:=by intro h;(iterate 12 refine aG ?_);exact h.o):Q:=h ⟨k⟩
def fr(k:P)(h:iP P->Q:=by intro h;(iterate 13 refine aG ?_);exact h.o):Q:=h ⟨k⟩
def fW(k:P)(h:iP P->Q:=by intro h;(iterate 14 refine aG ?_);exact h.o):Q:=h ⟨k⟩
def eJ(k:P)(h:iP P->Q:=by intro h;(iterate 15 refine aG ?_);exact h.o):Q:=h ⟨k⟩
def gg(k:P)(h:iP P->Q:=by intro h;(iterate 20 refine aG ?_);exact h.o):Q:=h ⟨k⟩
def ui(k:P)(h:iP P->Q:=by intro h;(iterate 30 refine aG ?_);exact h.o):Q:=h ⟨k⟩
def et(k:P)(h:iP P->Q:=by intro h;(try simp only[UB,cm,cp]);exact h.o):Q:=h ⟨k⟩
theorem wn{P:Nat->Prop}{Q:Prop}(k:∀b,P b)(h:iP (∀b,P b)->Q:=by
 intro h
 first
 |(apply iX;exact rfl;exact LR)|(apply go_n;exact rfl;exact mM;exact rfl;exact LR)|(apply A9;exact LR)|(apply yi;exact rfl;exact mM;exact rfl;exact LR)
 rintro _ _ ⟨b,rfl,rfl⟩;exact h.o b):Q:=h ⟨k⟩
theorem gQ{P:Option Addr->Nat->Prop}{Q:Prop}(k:∀a c,P a c)(h:iP (∀a c,P a c)->Q:=by
 intro h
 first
 |(apply iX;exact rfl;exact ws)|(apply go_n;exact rfl;exact mM;exact rfl;exact ws)|(apply yi;exact rfl;exact mM;exact rfl;exact ws)
 rintro _ _ ⟨a,c,rfl,rfl⟩;exact h.o a c):Q:=h ⟨k⟩
def aiV(k:P)(h:iP P->Q:=by intro h;(repeat refine aG ?_);exact h.o):Q:=h ⟨k⟩
def aDu(k:P)(h:iP P->Q:=by intro h;(repeat refine aG ?_);(try simp only[UB,cm,cp]);(repeat refine aG ?_);exact h.o):Q:=h ⟨k⟩
def KT(k:P)(h:iP P->Q:=by intro h;(repeat first|refine aG ?_|refine wn λa=>?_|refine gQ λa a=>?_);(repeat revert a);exact h.o):Q:=h ⟨k⟩
def aiU(k:P)(h:iP P->Q:=by intro h;(repeat refine aG ?_);(try simp only[UB,cm,cp]);(repeat first|refine aG ?_|refine wn λa=>?_|refine gQ λa a=>?_);(repeat revert a);exact h.o):Q:=h ⟨k⟩
end
section
variable{P:Program}{f:FuncId}{args:List Value}{pre:List aq}
theorem br{post K:Value->List aq->Prop}{Q:Prop}(s:ad P f args pre post)(k:∀v L,post v L->K v L)(h:ad P f args pre post->iP (∀v L,post v L->K v L)->Q:=by
 intro s h
 first
 |(apply ci;exact rfl;(first|(apply b1;exact rfl;exact s;exact bF;exact fc)|exact oE rfl rfl s bF))
 |(apply go_c;exact rfl;exact mM;exact rfl;apply b1;exact rfl;exact s;exact bF;exact fc)
 |(apply pK;exact rfl;exact mM;exact rfl;apply b1;exact rfl;exact s;exact bF;exact fc)
 rintro v _ ⟨L,e,rfl⟩;exact h.o v L e):Q:=h s ⟨k⟩
theorem aT{L:List aq}{v:Value}{K Q:Prop}(s:ad P f args pre (aH v L))(k:K)(h:ad P f args pre (aH v L)->iP K->Q:=by
 intro s h;refine br s ?_;rintro _ _ ⟨rfl,rfl⟩
 try simp only[UB,cm,cp]
 exact h.o):Q:=h s ⟨k⟩
theorem aDv{post K:Value->List aq->Prop}{Q:Prop}(s:ad P f args pre post)(k:∀v L,post v L->K v L)(h:ad P f args pre post->iP (∀v L,post v L->K v L)->Q:=by
 intro s h;(repeat refine aG ?_);exact br s h.o):Q:=h s ⟨k⟩
theorem aDw{L:List aq}{v:Value}{K Q:Prop}(s:ad P f args pre (aH v L))(k:K)(h:ad P f args pre (aH v L)->iP K->Q:=by
 intro s h;(repeat refine aG ?_);(refine aT s ?_);(repeat refine aG ?_);exact h.o):Q:=h s ⟨k⟩
theorem aDx{L:List aq}{v:Value}{K Q:Prop}(s:ad P f args pre (aH v L))(k:K)(h:ad P f args pre (aH v L)->iP K->Q:=by
 intro s h;(repeat refine aG ?_);(refine aT s ?_);exact h.o):Q:=h s ⟨k⟩
def dy{r I:eT}(k:bg r I:=by repeat(first|exact .nil|refine bg.cons rfl ?_)):bg r I:=k
theorem h4{m Q:Prop}(k:m)(h:m->Q:=by
 intro e
 first
 |exact e _ (gY.dB (by repeat(first|exact gY.refl _|refine gY.push ?_ rfl)) (lb (by first|rfl|(simp only[*,lH,lI,l2,kS,k8,kT];done)|(simp[*];done)|simp_all)))
 |(refine rp ?_ (e _ (gY.dB (by repeat(first|exact gY.refl _|refine gY.push ?_ rfl)) (lb (by first|rfl|(simp only[*,lH,lI,l2,kS,k8,kT];done)|(simp[*];done)|simp_all))));exact au)
 |(refine z6 ?_ (e _ (gY.dB (by repeat(first|exact gY.refl _|refine gY.push ?_ rfl)) (lb (by first|rfl|(simp only[*,lH,lI,l2,kS,k8,kT];done)|(simp[*];done)|simp_all))));exact au)):Q:=h k
def nW{I c:eT}(h:gY I c:=by repeat(first|exact gY.refl _|refine gY.push ?_ rfl)):gY I c:=h
theorem kn{m Q A B:Prop}(k:m)(a:A)(b:B)(h:m->A->B->Q:=by
 intro e a b
 first|exact e _ (gY.dB nW (lb (by first|rfl|(simp only[a,b,lH,lI,l2,kS,k8,kT];done)|(simp[a,b];done)|simp_all)))|exact z6 (au) (e _ (gY.dB nW (lb (by first|rfl|(simp only[a,b,lH,lI,l2,kS,k8,kT];done)|(simp[a,b];done)|simp_all))))|exact rp (au) (e _ (gY.dB nW (lb (by first|rfl|(simp only[a,b,lH,lI,l2,kS,k8,kT];done)|(simp[a,b];done)|simp_all))))):Q:=h k a b
theorem qi{m Q A B C:Prop}(k:m)(a:A)(b:B)(c:C)(h:m->A->B->C->Q:=by
 intro e a b c
 first|exact e _ (gY.dB nW (lb (by first|rfl|(simp only[a,b,c,lH,lI,l2,kS,k8,kT];done)|(simp[a,b,c];done)|simp_all)))|exact z6 (au) (e _ (gY.dB nW (lb (by first|rfl|(simp only[a,b,c,lH,lI,l2,kS,k8,kT];done)|(simp[a,b,c];done)|simp_all))))|exact rp (au) (e _ (gY.dB nW (lb (by first|rfl|(simp only[a,b,c,lH,lI,l2,kS,k8,kT];done)|(simp[a,b,c];done)|simp_all))))):Q:=h k a b c
theorem GD{m Q A B C z:Prop}(k:m)(a:A)(b:B)(c:C)(d:z)(h:m->A->B->C->z->Q:=by
 intro e a b c d
 first|exact e _ (gY.dB nW (lb (by first|rfl|(simp only[a,b,c,d,lH,lI,l2,kS,k8,kT];done)|(simp[a,b,c,d];done)|simp_all)))|exact z6 (au) (e _ (gY.dB nW (lb (by first|rfl|(simp only[a,b,c,d,lH,lI,l2,kS,k8,kT];done)|(simp[a,b,c,d];done)|simp_all))))|exact rp (au) (e _ (gY.dB nW (lb (by first|rfl|(simp only[a,b,c,d,lH,lI,l2,kS,k8,kT];done)|(simp[a,b,c,d];done)|simp_all))))):Q:=h k a b c d
theorem VV{m Q A B C z cR:Prop}(k:m)(a:A)(b:B)(c:C)(d:z)(f:cR)(h:m->A->B->C->z->cR->Q:=by
 intro e a b c d f
 first|exact e _ (gY.dB nW (lb (by first|rfl|(simp only[a,b,c,d,f,lH,lI,l2,kS,k8,kT];done)|(simp[a,b,c,d,f];done)|simp_all)))|exact z6 (au) (e _ (gY.dB nW (lb (by first|rfl|(simp only[a,b,c,d,f,lH,lI,l2,kS,k8,kT];done)|(simp[a,b,c,d,f];done)|simp_all))))|exact rp (au) (e _ (gY.dB nW (lb (by first|rfl|(simp only[a,b,c,d,f,lH,lI,l2,kS,k8,kT];done)|(simp[a,b,c,d,f];done)|simp_all))))):Q:=h k a b c d f
theorem ar0{m Q A B C z cR Z:Prop}(k:m)(a:A)(b:B)(c:C)(d:z)(f:cR)(g:Z)(h:m->A->B->C->z->cR->Z->Q:=by
 intro e a b c d f g
 first|exact e _ (gY.dB nW (lb (by first|rfl|(simp only[a,b,c,d,f,g,lH,lI,l2,kS,k8,kT];done)|(simp[a,b,c,d,f,g];done)|simp_all)))|exact z6 (au) (e _ (gY.dB nW (lb (by first|rfl|(simp only[a,b,c,d,f,g,lH,lI,l2,kS,k8,kT];done)|(simp[a,b,c,d,f,g];done)|simp_all))))|exact rp (au) (e _ (gY.dB nW (lb (by first|rfl|(simp only[a,b,c,d,f,g,lH,lI,l2,kS,k8,kT];done)|(simp[a,b,c,d,f,g];done)|simp_all))))):Q:=h k a b c d f g
theorem aDy{m Q A B C z cR Z J:Prop}(k:m)(a:A)(b:B)(c:C)(d:z)(f:cR)(g:Z)(i:J)(h:m->A->B->C->z->cR->Z->J->Q:=by
 intro e a b c d f g i
 first|exact e _ (gY.dB nW (lb (by first|rfl|(simp only[a,b,c,d,f,g,i,lH,lI,l2,kS,k8,kT];done)|(simp[a,b,c,d,f,g,i];done)|simp_all)))|exact z6 (au) (e _ (gY.dB nW (lb (by first|rfl|(simp only[a,b,c,d,f,g,i,lH,lI,l2,kS,k8,kT];done)|(simp[a,b,c,d,f,g,i];done)|simp_all))))|exact rp (au) (e _ (gY.dB nW (lb (by first|rfl|(simp only[a,b,c,d,f,g,i,lH,lI,l2,kS,k8,kT];done)|(simp[a,b,c,d,f,g,i];done)|simp_all))))):Q:=h k a b c d f g i
end
section
variable{P:Program}{F:World}{n:Nat}{I:eT}{M:List aq}{Q:Exit->Act->World->Prop}{c c1 bn:Code}
def cg{x:Operand}{b:Bool}{A B:Prop}(R:A->G P F n c1 I M Q)(ba:B->G P F n bn I M Q)(ah:ck I x=some (.bool b):=by exact rfl)[i:oI (b=true) A][j:oI (b=false) B]:G P F n (.cond x c1 bn) I M Q:=
 mW ah (λe=>R (i.aj e)) (λe=>ba (j.aj e))
def aCk:Nat->mQ
 |0=>.loc
 |1=>.bI
 |_=>.c5
def alY(k:mQ):Nat->Nat->(Nat->List (Nat×mQ))->List (Nat×mQ)
 |0,i,f=>f i
 |n+1,i,f=>(i,k)::alY k n (i+1) f
def LS:List Nat->Nat->List (Nat×mQ)
 |[],_=>[]
 |c::r,i=>alY (aCk (c/100)) (c%100) i (LS r)
def cw:List (Nat×mQ)->List Nat
 |[]=>[]
 |(i,.c5)::r=>i::cw r
 |_::r=>cw r
def cu{id:Nat}{l:List Oper}(R o:List Nat)(N:List aq){U:List (Nat×mQ)}(h:cY P F n l.toArray R U I M N (Q .normal))(aK:LS o 0=U:=by cbv)(bf:P.follows .mixedOrders=true:=by exact mixed)(cb:yQ l (cw (LS o 0)) R (LS o 0)=true:=by kernel_rfl):G P F n (.region id l.toArray true) I M Q:=by
 subst aK;exact hU _ R _ N bf cb h
def Ab:List iO->iO
 |[]=>.nil
 |t::_=>t
def s8:List Nat->List iO
 |[]=>[]
 |
  c::l=>match c%4 with
  |0=>.loc (c/4) (Ab (s8 l))::(s8 l).tail
  |1=>.bI (c/4) (Ab (s8 l))::(s8 l).tail
  |2=>.c5 (c/4) (Ab (s8 l)) (Ab (s8 l).tail)::(s8 l).tail.tail
  |_=>.nil::s8 l
def il{id:Nat}{l:List Oper}(cR R o:List Nat)(N:List aq){t:iO}(h:GT P F n l.toArray R t false I M N (Q .normal))(aK:Ab (s8 o)=t:=by cbv)(bf:P.follows .mixedOrders=true:=by exact mixed)(cb:LN l cR R (Ab (s8 o))=true:=by kernel_rfl):G P F n (.region id l.toArray true) I M Q:=by
 subst aK;exact aCb cR R _ N bf cb h
def qg{E:Array Oper}{R:List Nat}{b:Bool}{N:List aq}{Z:Act->World->Prop}{d:Nat}{u t:iO}(o:List Nat)(v:Value)(k:GT P F n E R t false ((d,v)::I) M N Z)(h:(∀c,gY ((d,v)::I) c->GT P F n E R t false c M N Z)->GT P F n E R u b I M N Z)(aK:Ab (s8 o)=t:=by cbv):GT P F n E R u b I M N Z:=aB5 t v k h
def Q3{a2:Act->World->Prop}(h:∀a w,hn n I a->dm F M w->a2 a w):GE F n I M (Exit.then a2 Q .normal):=h
theorem aw{f:FuncId}{fn:Func}{args:List Value}{post:Value->List aq->Prop}{K:World->List aq->Prop}(ba:P.funcs[f]?=some fn)(k:∀F D,K F D)(aA:fn.body=some c:=by rfl)
 (h : ∀ F D, iP (K F D) → G P F fn.ntmps c (args.zipIdx.map fun (v, i) => (i, v)) (M ++ D) (AV P F fn post D) := by
  intro F D h;simp only[ww,D2,gu,mT,lu,Nat.reduceAdd,cp,cm];exact h.o) (av:Nat.ble args.length fn.ntmps=true:=by rfl):ad P f args M post:=
 ko ba aA rfl av λF D=>h F D ⟨k F D⟩
def aDz{A B c d Q:Prop}(R:A->c)(ba:B->d)(h:iP (A->c)->iP (B->d)->Q:=by intro a b;(repeat refine aG ?_);exact cg a.o b.o):Q:=h ⟨R⟩ ⟨ba⟩
def aDA{K Q:Prop}(R o:List Nat)(N:List aq)(k:K)(h:iP K->Q:=by intro h;(repeat refine aG ?_);(refine cu R o N ?_);exact h.o):Q:=h ⟨k⟩
def aDB{f:FuncId}{fn:Func}{args:List Value}{post:Value->List aq->Prop}{K:World->List aq->Prop}(ba:P.funcs[f]?=some fn)(k:∀F D,K F D)(h:P.funcs[f]?=some fn->iP (∀F D,K F D)->ad P f args M post:=by intro ba h;(refine aw ba λF D=>?_);(repeat refine aG ?_);exact h.o F D):ad P f args M post:=h ba ⟨k⟩
end
inductive Ac:List Nat->eT->eT->Prop
 |nil {I:eT}:Ac [] [] I
 |cons {t:Nat} {v:Value} {c:List Nat} {r I:eT}:gN I t=some v->Ac c r I->Ac (t::c) ((t,v)::r) I
def Ac.jv{c:List Nat}{r I:eT}(h:Ac c r I):bg r I:=by
 induction h with
 |nil=>exact .nil
 |cons a _ b=>exact .cons a b
def aDC{P:Program}{F:World}{n:Nat}{E:Array Oper}{R:List Nat}{t:iO}{b:Bool}{I r:eT}{M N:List aq}{Z:Act->World->Prop}(c:List Nat)(h:GT P F n E R t b r M N Z)(k:Ac c r I:=by repeat(first|exact .nil|refine Ac.cons rfl ?_)):GT P F n E R t b I M N Z:=pJ k.jv h
end Go.L
namespace Go.L.Lx
abbrev cC:=List UInt8
section
variable{p:UInt8->Bool}{l:cC}{j:Nat}{c:UInt8}
def wV(c:UInt8):Bool:=decide (97<=c.toNat/\c.toNat<=122)
def Ii(c:UInt8):Bool:=decide (48<=c.toNat/\c.toNat<=57)
def yX(c:UInt8):Bool:=decide ((97<=c.toNat/\c.toNat<=122)\/(48<=c.toNat/\c.toNat<=57)\/c.toNat=95)
def mx(p:UInt8->Bool):cC->Nat
 |[]=>0
 |c::l=>if p c then mx p l+1 else 0
def arb{l:cC}(h:p c=true):mx p (c::l)=mx p l+1:=by simp[mx,h]
def arc{l:cC}(h:p c=false):mx p (c::l)=0:=by simp[mx,h]
def Zo(h:l[j]?=some c):l.drop j=c::l.drop (j+1):=by
 obtain⟨N,e⟩:=dc.1 h;rw[ta N,e]
def ard(h:l[j]?=some c)(hp:p c=true):mx p (l.drop j)=mx p (l.drop (j+1))+1:=by rw[Zo h,arb hp]
def arf(h:l[j]?=some c)(hp:p c=false):mx p (l.drop j)=0:=by rw[Zo h,arc hp]
def arh(h:l.length<=j):mx p (l.drop j)=0:=by rw[CP h];rfl
def mS(l:cC):Bool:=match l with
 |[]=>false
 |c::r=>wV c&&decide (mx yX (c::r)=(c::r).length)&&decide ((c::r).length<=16)
end
end Go.L.Lx
namespace Go.L.Pg
open Go.L Go.L.Lx
abbrev vo(x:Int):Value:=.int .i64 x
abbrev xr(l:List UInt8):Value:=.string ⟨l.toArray⟩
structure fv where
 do':Int
 ref:cC
 slot:cC
 name:cC
 value:Int
 n:Int
 vp:Int
deriving Inhabited,DecidableEq
structure Row where
 tag:cC
 only:Bool
 n:Int
 ea:Option Addr
 cA:Nat
 cw:List fv
deriving Inhabited
structure fN where
 name:cC
 ra:Option Addr
 rc:Nat
 rows:List Row
deriving Inhabited
structure mj where
 reason:cC
 do':Int
deriving Inhabited,DecidableEq
structure b2 where
 name:cC
 limit:Int
 within:Int
 ca:Option Addr
 km:Nat
 cases:List mj
 sa:Option Addr
 sc:Nat
 states:List fN
deriving Inhabited
def fO(e:fv):List Value:=[vo e.do',xr e.ref,xr e.slot,xr e.name,vo e.value,vo e.n,vo e.vp]
def hs(r:Row):List Value:=[xr r.tag,.bool r.only,vo r.n,.slice r.ea r.cw.length r.cA]
section
variable(c:mj)(d:Int)(K:List b2)(n:Nat)(S:List fN)(e:fv)(fj:cC)(D:List Row)(last:Bool)(i j:Nat)(k:b2)(s:fN)(r:Row)
def gy:List Value:=[xr s.name,.slice s.ra s.rows.length s.rc]
def jN:List Value:=[xr c.reason,vo c.do']
def eK:List Value:=[xr k.name,vo k.limit,vo k.within,.slice k.ca k.cases.length k.km,.slice k.sa k.states.length k.sc]
def x3:(fO e).length=7:=rfl
def uj:(hs r).length=4:=rfl
def rf:(gy s).length=2:=rfl
def Am:(jN c).length=2:=rfl
def Df:(eK k).length=5:=rfl
def iD(h:eA)(a:Option Addr)(c n:Nat)(xs:List Value):Prop:=gI h (.slice a n c) n xs/\n<=c
def eO:Prop:=n<=140737488351232
structure CQ(e:fv):Prop where
 ref:eO e.ref.length
 slot:eO e.slot.length
 name:eO e.name.length
structure x7(h:eA)(r:Row):Prop where
 tag:eO r.tag.length
 rd:iD h r.ea r.cA r.cw.length (r.cw.flatMap fO)
 len:eO (r.cw.length*80)
 cw:∀e∈r.cw,CQ e
structure vS(h:eA)(s:fN):Prop where
 name:eO s.name.length
 rd:iD h s.ra s.rc s.rows.length (s.rows.flatMap hs)
 len:eO (s.rows.length*56)
 rows:∀r∈s.rows,x7 h r
structure lm(h:eA)(k:b2):Prop where
 name:eO k.name.length
 sI:iD h k.ca k.km k.cases.length (k.cases.flatMap jN)
 tb:eO (k.cases.length*24)
 cases:∀c∈k.cases,eO c.reason.length
 sJ:iD h k.sa k.sc k.states.length (k.states.flatMap gy)
 lens:eO (k.states.length*40)
 states:∀s∈k.states,vS h s
structure hT(h:eA)(a:Option Addr)(c:Nat)(K:List b2):Prop where
 rd:iD h a c K.length (K.flatMap eK)
 len:eO (K.length*80)
 kinds:∀k∈K,lm h k
def iD.imp{h k:eA}{a:Option Addr}{c n:Nat}{xs:List Value}(r:iD h a c n xs)(f:∀b o,h b=some o->k b=some o):iD k a c n xs:=⟨r.1.imp f,r.2⟩
def x7.imp{h k:eA}{r:Row}(s:x7 h r)(f:∀b o,h b=some o->k b=some o):x7 k r:=⟨s.tag,s.rd.imp f,s.len,s.cw⟩
def vS.imp{h k:eA}{r:fN}(s:vS h r)(f:∀b o,h b=some o->k b=some o):vS k r:=⟨s.name,s.rd.imp f,s.len,λr aE=>(s.rows r aE).imp f⟩
def lm.imp{h k:eA}{r:b2}(s:lm h r)(f:∀b o,h b=some o->k b=some o):lm k r:=⟨s.name,s.sI.imp f,s.tb,s.cases,s.sJ.imp f,s.lens,λr aE=>(s.states r aE).imp f⟩
def hT.imp{h k:eA}{a:Option Addr}{c:Nat}{K:List b2}(s:hT h a c K)(f:∀b o,h b=some o->k b=some o):hT k a c K:=⟨s.rd.imp f,s.len,λr aE=>(s.kinds r aE).imp f⟩
def gI.to{h:eA}{a:Option Addr}{n c i aY:Nat}{xs:List Value}(s:gI h (.slice a n c) n xs)(ak:i<=n):gI h (.slice a i c) i (xs.take (i*aY)):=by
 rcases s with⟨h1,h2,aN⟩|⟨b,bO,H,C,h1,h2,aN⟩
 . obtain rfl:i=0:=by omega
   subst h2;simp only[Value.slice.injEq]at h1;exact .inl ⟨by simp[h1.1,h1.2.2],by simp,rfl⟩
 . simp only[Value.slice.injEq,true_and]at h1
   obtain⟨rfl,rfl⟩:=h1;exact .inr ⟨b,bO,H,c,rfl,λbh=>h2 ae,λj x ah=>aN j x (by
    rw[Sq]at ah;split at ah
    . exact ah
    . cases ah)⟩
def AE{α:Type}(f:α->List Value)(aY:Nat)(ba:∀x,(f x).length=aY):∀(l:List α) (i:Nat),(l.flatMap f).take (i*aY)=(l.take i).flatMap f
 |l,0=>by simp
 |[],i+1=>by simp
 |
  x::l,i+1=>by
  have ay:(i+1)*aY=(f x).length+i*aY:=by rw[ba,nc];omega
  rw[pG,ay,List.take_length_add_append,AE f aY ba l i,List.take_succ_cons,pG]
def oC:List (Bool×Int)->Int
 |[]=>0
 |(b,c)::r=>if b then c else oC r
abbrev lq:=Option (Int×List Int)
def As(r k:lq):lq:=match r with
 |some (c,ws)=>some (c,((i+1:Nat):Int)::ws)
 |none=>k
def fst(D:Nat->lq):Nat->Nat->lq
 |_,0=>none
 |i,n+1=>As i (D i) (fst D (i+1) n)
def ml(own:Int)(n:Nat)(D:Nat->lq):lq:=if own=0 then fst D 0 n else some (own,[])
def named(s:cC):Bool:=decide (s=[])||mS s
def Gt:Bool:=decide (d=1)||decide (d=6)||decide (d=7)
def Gu:Bool:=decide (d=2)||decide (d=10)
def Db:Bool:=decide (d=1)||decide (d=2)||decide (d=3)||decide (d=8)||decide (d=9)||decide (d=12)
def Mr:Bool:=decide (d=1)||decide (d=8)
def Gv:Bool:=decide (d=8)
def Mt:List cC:=[[115,101,108,102],[115,101,110,100,101,114],[112,97,114,101,110,116],[97],[98],[99],[100]]
def Mu:List cC:=[[97],[98],[99],[100]]
def ay:Bool:=decide (e.do'<1)||decide (12<e.do')
def aV:Bool:=(Gt e.do'&&!decide (e.ref∈Mt))||(!Gt e.do'&&!decide (e.ref=[]))
def bz:Bool:=(Gu e.do'&&!decide (e.slot∈Mu))||(!Gu e.do'&&!decide (e.slot=[]))
def dh:Bool:=(Db e.do'&&!mS e.name)||(!Db e.do'&&!decide (e.name=[]))
def gT:Bool:=(Gv e.do'&&(decide (e.vp<1)||decide (4095<e.vp)))||(!Gv e.do'&&!decide (e.vp=0))
def uw:Bool:=decide (e.value<0)||decide (2<e.value)||(!Mr e.do'&&!decide (e.value=0))
def pL:Bool:=decide (e.n<0)||decide (255<e.n)||(!decide (e.value=2)&&!decide (e.n=0))
def ti:Bool:=K.any λo=>decide (o.name=fj)
def AD:Bool:=S.any λo=>decide (o.name=fj)
def wh:Bool:=(decide (e.do'=2)&&!ti K e.name)||(decide (e.do'=3)&&!AD S e.name)
def yj:Bool:=(decide (e.do'=11)||decide (e.do'=12))&&!last
def wb:Int:=
 oC [(ay e,43),(aV e,43),(bz e,43),(dh e,43),(gT e,43),(uw e,43),(pL e,43),(wh K S e,42),(yj e last,44)]
def gP:Bool:=!named r.tag||(r.only&&decide (r.tag=[]))||decide (r.n<0)||decide (255<r.n)||(!r.only&&!decide (r.n=0))
def we(o r:Row):Bool:=decide (o.tag=r.tag)&&(o.only==r.only)&&decide (o.n=r.n)
def tk:Bool:=(r.cw.any λe=>decide (e.do'=4))&&decide (1<(r.cw.length:Int))
def C7:Int:=
 oC [(gP r,43),((D.take i).any (λo=>we o r),41),(decide (8<(r.cw.length:Int)),40),(tk r,45)]
def Gs:Int:=
 oC [(!mS s.name,43),(AD (S.take i) s.name,41),(decide (16<(s.rows.length:Int)),40)]
def uv:Bool:=!named c.reason||decide (c.do'<1)||decide (4<c.do')
def wc(cs:List mj):Nat->Bool
 |0=>false
 |j+1=>wc cs j||(match cs[j]?with|some c=>(cs.take j).any λd=>decide (d.reason=c.reason)|none=>false)
def cS:Bool:=!mS k.name||decide (k.limit<0)||decide (100<k.limit)||decide (k.within<1)||decide (4095<k.within)
def ir:Bool:=decide (8<(k.cases.length:Int))||decide ((k.states.length:Int)<1)||decide (8<(k.states.length:Int))
def yg:Int:=
 oC [(cS k,43),(ti (K.take i) k.name,41),(ir k,40),(k.cases.any uv,43),(wc k.cases k.cases.length,41)]
def rh(cR:List fv)(j:Nat):lq:=match cR[j]?with
 |some e=>if wb K S e (decide ((j:Int)=(cR.length:Int) -1))=0 then none else some (wb K S e (decide ((j:Int)=(cR.length:Int) -1)),[])
 |none=>none
def qf:lq:=match D[j]?with
 |some r=>ml (C7 D j r) r.cw.length (rh K S r.cw)
 |none=>none
def pI:lq:=match S[j]?with
 |some s=>ml (Gs S j s) s.rows.length (qf K S s.rows)
 |none=>none
def ri:lq:=match K[j]?with
 |some k=>ml (yg K j k) k.states.length (pI K k.states)
 |none=>none
def Mz:Int:=oC [(decide ((K.length:Int)<1)||decide (8<(K.length:Int)),40)]
def qj:lq:=ml (Mz K) K.length (ri K)
def ail{D:Nat->lq}{c:Int}{ws:List Int}:∀(n i:Nat),fst D i n=some (c,ws)->∃j b,i<=j/\j<i+n/\D j=some (c,b)/\ws=((j+1:Nat):Int)::b
 |0,_,h=>by cases h
 |
  n+1,i,h=>by
  cases aE:D i with
  |
   some x=>
   obtain⟨aQ,b⟩:=x;simp only[fst,As,aE,Option.some.injEq,Prod.mk.injEq]at h;obtain⟨rfl,rfl⟩:=h;exact⟨i,b,ei _,by omega,aE,rfl⟩
  |
   none=>
   simp only[fst,As,aE]at h;obtain⟨j,b,h1,h2,aN,bu⟩:=ail n (i+1) h;exact⟨j,b,by omega,by omega,aN,bu⟩
def anh{own:Int}{n:Nat}{D:Nat->lq}{c:Int}{ws:List Int}(h:ml own n D=some (c,ws)):ws=[]\/∃j b,j<n/\D j=some (c,b)/\ws=((j+1:Nat):Int)::b:=by
 unfold ml at h;split at h
 . obtain⟨j,b,_,h2,aN,bu⟩:=ail _ _ h
   exact .inr ⟨j,b,by omega,aN,bu⟩
 . simp only[Option.some.injEq,Prod.mk.injEq]at h;exact .inl h.2.symm
end
end Go.L.Pg
