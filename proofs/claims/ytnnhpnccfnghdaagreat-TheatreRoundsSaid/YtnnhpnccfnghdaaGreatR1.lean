import Derived.Test.YtnnhpnccfnghdaaGreatR0
import Derived.StillTail
import Derived.Deep.Quiet
set_option linter.all false
namespace Go.L
abbrev eA:=Nat->Option Obj
section
variable(h k:eA)(b:Nat)(o:Obj)
abbrev aq:=eA->Prop
def fR(w:World):eA:=λb=>w.heap[b]?
def mi:Prop:=∀b,h b=none\/k b=none
def join:eA:=λb=>(h b).or (k b)
def j3:eA:=λx=>if x=b then some o else h x
def Sat:List aq->aq
 |[],_=>True
 |A::r,h=>∃h1 h2,mi h1 h2/\h=join h1 h2/\A h1/\Sat r h2
def eB:aq:=λh=>h b=some o
end
section
variable{a h1 h2:eA}{b:Nat}{A B:aq}{o:Obj}{l m r:List aq}{h:eA}
def M5(l:List aq):aq:=Sat l
theorem mi.symm{h k:eA}(d:mi h k):mi k h:=λb=>(d b).symm
theorem join_comm{k:eA}(d:mi h k):join h k=join k h:=by
 funext b;rcases d b with e|e<;>cases h1:h b<;>cases h2:k b<;>simp_all[join]
theorem join_assoc(a b c:eA):join (join a b) c=join a (join b c):=by
 funext x;cases h:a x<;>simp[join,h]
theorem yw{b c:eA}:mi (join a b) c↔mi a c/\mi b c:=by
 constructor
 . intro h;constructor<;>intro x<;>rcases h x with e|e
   . left;cases aW:a x<;>simp_all[join]
   . right;exact e
   . left;cases aW:a x<;>simp_all[join]
   . right;exact e
 . intro⟨h1,h2⟩ x
   rcases h1 x with e|e
   . rcases h2 x with f|f
     . left;simp[join,e,f]
     . right;exact f
   . right;exact e
theorem rR{b c:eA}:mi a (join b c)↔mi a b/\mi a c:=
 ⟨λh=>let⟨x,y⟩:=yw.1 h.symm;⟨x.symm,y.symm⟩,fun⟨x,y⟩=>(yw.2 ⟨x.symm,y.symm⟩).symm⟩
theorem Sat.more:∀{l:List aq} {h k:eA},mi h k->Sat l h->Sat l (join h k)
 |[],_,_,_,_=>trivial
 |
  _::_,h,k,d,⟨h1,h2,a,e,aW,aE⟩=>by
  subst e;obtain⟨d1,t⟩:=yw.1 d;exact⟨h1,join h2 k,rR.2 ⟨a,d1⟩,join_assoc _ _ _,aW,Sat.more t aE⟩
theorem Sat.swap(s:Sat (A::B::r) h):Sat (B::A::r) h:=by
 obtain⟨h1,h2,d,rfl,aW,aN,bu,p,rfl,aA,aE⟩:=s;obtain⟨a,b⟩:=rR.1 d;refine⟨aN,join h1 bu,rR.2 ⟨a.symm,p⟩,?_,aA,h1,bu,b,rfl,aW,aE⟩;rw[<-join_assoc,join_comm a,join_assoc]
theorem Sat.tail{m:List aq}(f:∀h,Sat r h->Sat m h){h:eA}(s:Sat (A::r) h):Sat (A::m) h:=
 let⟨h1,h2,d,e,aW,aE⟩:=s
 ⟨h1,h2,d,e,aW,f _ aE⟩
theorem Sat.head(f:∀h,A h->B h){h:eA}(s:Sat (A::r) h):Sat (B::r) h:=
 let⟨h1,h2,d,e,aW,aE⟩:=s
 ⟨h1,h2,d,e,f _ aW,aE⟩
theorem Sat.drop(s:Sat (A::r) h):Sat r h:=by
 obtain⟨h1,h2,d,rfl,_,aE⟩:=s;rw[join_comm d];exact Sat.more d.symm aE
theorem Sat.append:∀{l m:List aq} {h k:eA},mi h k->Sat l h->Sat m k->Sat (l++m) (join h k)
 |[],m,h,k,d,_,bf=>by rw[join_comm d];exact Sat.more d.symm bf
 |
  _::l,m,h,k,d,⟨h1,h2,a,e,aW,aE⟩,bf=>by
  subst e;obtain⟨d1,t⟩:=yw.1 d;exact⟨h1,join h2 k,rR.2 ⟨a,d1⟩,join_assoc _ _ _,aW,Sat.append t aE bf⟩
theorem Sat.split:∀{l m:List aq} {h:eA},Sat (l++m) h->∃h1 h2,mi h1 h2/\h=join h1 h2/\Sat l h1/\Sat m h2
 |[],m,h,s=>WY
 |
  _::l,m,h,⟨h1,h2,d,e,aW,aE⟩=>by
  obtain⟨aN,bu,p,rfl,av,bf⟩:=Sat.split aE;subst e;obtain⟨mp,u⟩:=rR.1 d;exact⟨join h1 aN,bu,yw.2 ⟨u,p⟩,(join_assoc _ _ _).symm,⟨h1,aN,mp,rfl,aW,av⟩,bf⟩
theorem Sat.flat:Sat (M5 l::r) h↔Sat (l++r) h:=
 ⟨fun⟨_,_,d,e,aW,aE⟩=>e▸Sat.append d aW aE,λs=>let⟨h1,h2,d,e,aW,aE⟩:=Sat.split s;⟨h1,h2,d,e,aW,aE⟩⟩
theorem Sat.ex{α:Type}{A:α->aq}{r:List aq}{h:eA}:Sat ((λh=>∃x,A x h)::r) h↔∃x,Sat (A x::r) h:=
 WZ
theorem Sat.pure{p:Prop}{A:aq}{r:List aq}{h:eA}:Sat ((λh=>p/\A h)::r) h↔p/\Sat (A::r) h:=
 WZ
theorem Sat.one(s:A h):Sat [A] h:=⟨h,λ_=>none,λ_=>.inr rfl,by funext b;simp[join],s,trivial⟩
inductive hI:aq->List aq->List aq->Prop
 |head {A:aq} {r:List aq}:hI A (A::r) r
 |tail {A B:aq} {l r:List aq}:hI A l r->hI A (B::l) (B::r)
theorem hI.to(s:hI A l r):∀{h:eA},Sat l h->Sat (A::r) h:=by
 induction s with
 |head=>exact λh=>h
 |tail _ K=>exact λh=>Sat.swap (Sat.tail (λ_=>K) h)
theorem hI.from(s:hI A l r):∀{h:eA},Sat (A::r) h->Sat l h:=by
 induction s with
 |head=>exact λh=>h
 |tail _ K=>exact λh=>Sat.tail (λ_=>K) (Sat.swap h)
inductive Part:List aq->List aq->List aq->Prop
 |nil {l:List aq}:Part [] l l
 |cons {A:aq} {m l g6 r:List aq}:hI A l g6->Part m g6 r->Part (A::m) l r
theorem Part.to{m l r:List aq}(p:Part m l r):∀{h:eA},Sat l h->Sat (m++r) h:=by
 induction p with
 |nil=>exact λh=>h
 |cons s _ K=>exact λh=>Sat.tail (λ_=>K) (s.to h)
inductive Drop:List aq->List aq->Prop
 |refl {l:List aq}:Drop l l
 |skip {A:aq} {l r:List aq}:Drop l r->Drop (A::l) r
theorem Drop.e4(d:Drop l r):∀{h:eA},Sat l h->Sat r h:=by
 induction d with
 |refl=>exact λh=>h
 |skip _ K=>exact λh=>K (Sat.drop h)
inductive wx:List aq->List aq->Prop
 |nil {l:List aq}:wx l []
 |done {l r:List aq}:Drop l r->wx l r
 |cons {A:aq} {l g6 m:List aq}:hI A l g6->wx g6 m->wx l (A::m)
theorem wx.e4{l m:List aq}(t:wx l m):∀h,Sat l h->Sat m h:=by
 induction t with
 |nil=>exact λ_ _=>trivial
 |done d=>exact λ_ h=>d.e4 h
 |cons s _ K=>exact λ_ h=>Sat.tail K (s.to h)
theorem au(t:wx l m:=by repeat(first|exact .nil|exact .done .refl|(apply wx.cons;· (repeat(first|exact .head|apply hI.tail)))|exact .done (by repeat(first|exact .refl|apply Drop.skip)))):∀h,Sat l h->Sat m h:=t.e4
theorem bF{l r:List aq}(p:Part m l r:=by repeat(first|exact .nil|(apply Part.cons;· (repeat(first|exact .head|apply hI.tail))))):Part m l r:=p
theorem ey(s:hI A l r:=by repeat(first|exact .head|apply hI.tail)):hI A l r:=s
class kZ(b:Nat)(M:List aq)(o:outParam Obj)(u:outParam (Obj->List aq)):Prop where
 get:∀{h:eA},Sat M h->h b=some o
 set:∀{h:eA} (S:Obj),Sat M h->Sat (u S) (j3 h b S)
theorem join_some(e:h1 b=some o):join h1 h2 b=some o:=by simp[join,e]
theorem uH{S:Obj}(e:h1 b=some o)(d:mi h1 h2):j3 (join h1 h2) b S=join (j3 h1 b S) h2/\mi (j3 h1 b S) h2:=by
 have aA:h2 b=none:=by
  rcases d b with x|x;· rw[e]at x;cases x
  . exact x
 constructor
 . funext x;by_cases ah:x=b<;>simp[j3,join,ah]
 . intro x;by_cases ah:x=b
   . subst ah;right;exact aA
   . rcases d x with y|y
     . left;simp[j3,ah,y]
     . right;exact y
instance kZ.head:kZ b (eB b o::r) o (λS=>eB b S::r)where
 get:=fun⟨_,_,_,e,aW,_⟩=>e▸join_some aW
 set:=λS ⟨h1,h2,d,e,aW,aE⟩=>by
  subst e;obtain⟨ay,d1⟩:=uH (S:=S) aW d;exact⟨j3 h1 b S,h2,d1,ay,by simp[eB,j3],aE⟩
instance kZ.tail{o:Obj}{u:Obj->List aq}[i:kZ b r o u]:kZ b (A::r) o (λS=>A::u S)where
 get:=λs=>i.get uI
 set:=λS ⟨h1,h2,d,e,aW,aE⟩=>by
  subst e;have aA:=i.get aE;have p:=d.symm;obtain⟨ay,d1⟩:=uH (S:=S) aA p;refine⟨h1,j3 h2 b S,d1.symm,?_,aW,i.set S aE⟩;rw[join_comm d,ay,join_comm d1]
structure dm(F:World)(M:List aq)(w:World):Prop where
 os:w.os=F.os
 tape:w.tape=F.tape
 output:w.output=F.output
 size:F.heap.size<=w.heap.size
 e4:Sat M (fR w)
end
variable{F:World}{M H:List aq}{w:World}
def dm.imp(f:∀h,Sat M h->Sat H h)(s:dm F M w):dm F H w:=⟨s.os,s.tape,s.output,s.size,f _ s.e4⟩
def dm.drew(s:dm F M w):dm F M {w with drawn:=w.drawn+1}:=⟨s.os,s.tape,s.output,s.size,s.e4⟩
def aoO(w:World)(o:Obj):fR {w with heap:=w.heap.push o}=join (λb=>if b=w.heap.size then some o else none) (fR w):=by
 funext b;simp only[fR,join,Array.getElem?_push];by_cases h:b=w.heap.size<;>simp[h]
def dm.new(s:dm F M w)(o:Obj):dm F (eB w.heap.size o::M) {w with heap:=w.heap.push o}:=by
 refine⟨s.os,s.tape,s.output,by have:=s.size;simp;omega,?_⟩;refine⟨λb=>if b=w.heap.size then some o else none,fR w,λb=>?_,aoO w o,by simp[eB],s.e4⟩;by_cases h:b=w.heap.size
 . subst h;right;simp[fR]
 . left;simp[h]
def W0{w:World}{b:Nat}{o:Obj}(h:fR w b=some o):b<w.heap.size:=by
 rcases r7 b w.heap.size with x|x
 . exact x
 . simp[fR,Hf x]at h
def wy{w:World}{b:Nat}{o:Obj}(f:Obj->Obj)(h:fR w b=some o):fR {w with heap:=w.heap.modify b f}=j3 (fR w) b (f o):=by
 funext x;simp only[fR,j3,Array.getElem?_modify]at*;by_cases ah:x=b
 . subst ah;simp[h]
 . rw[a8 (Ne.symm ah),a8 ah]
def Dw{w:World}{b:Nat}{o:Obj}(S:Obj)(h:fR w b=some o):fR {w with heap:=w.heap.setIfInBounds b S}=j3 (fR w) b S:=by
 have aA:=W0 h;funext x;simp only[fR,j3,M6]at*;by_cases ah:x=b
 . subst ah;simp[aA]
 . rw[a8 (Ne.symm ah),a8 ah]
def dm.set{b:Nat}{o:Obj}{u:Obj->List aq}[i:kZ b M o u](s:dm F M w)(S:Obj):dm F (u S) {w with heap:=w.heap.setIfInBounds b S}:=
 ⟨s.os,s.tape,s.output,by have:=s.size;simpa using this,by rw[Dw S (i.get s.e4)];exact i.set _ s.e4⟩
def dm.heap{b:Nat}{o:Obj}{u:Obj->List aq}[i:kZ b M o u](s:dm F M w):w.heap[b]?=some o:=i.get s.e4
abbrev eT:=List (Nat×Value)
def gN:eT->Nat->Option Value
 |[],_=>none
 |(k,v)::r,t=>cond (Nat.beq k t) (some v) (gN r t)
def ck(I:eT):Operand->Option Value
 |.tmp t=>gN I t
 |.const v=>some v
 |.global g=>some (.pointer (some ⟨g,0,none⟩))
 |.func f=>some (.func (.func f) #[] #[])
def tw(I:eT):List Operand->Option (List Value)
 |[]=>some []
 |
  x::r=>match ck I x,tw I r with
  |some v,some ce=>some (v::ce)
  |_,_=>none
structure hn(n:Nat)(I:eT)(a:Act):Prop where
 size:a.tmps.size=n
 defers:a.defers=[]
 val:∀t v,gN I t=some v->a.tmps[t]?=some v
variable{n:Nat}{I:eT}{a:Act}
def hn.eval{x:Operand}{v:Value}(h:hn n I a)(e:ck I x=some v):a.eval x=v:=by
 cases x<;>simp only[ck,Option.some.injEq]at e
 . have:=h.val _ _ e;simp[Act.eval,Du,this]
 . exact e
 . exact e
 . exact e
def hn.put{d:Nat}(v:Value)(h:hn n I a)(aL:Nat.blt d n=true):hn n ((d,v)::I) (a.put (some d) v):=by
 have b:d<n:=by simpa[yx]using aL
 refine⟨by simp[Act.put,h.size],by simp[Act.put,h.defers],λt u e=>?_⟩;simp only[gN]at e;simp only[Act.put,M6];by_cases R:d=t
 . subst R
   have:Nat.beq d d=true:=WT d;rw[this]at e;simp at e;simp[h.size,b,e]
 . have:Nat.beq d t=false:=by
    cases aA:Nat.beq d t with
    |false=>rfl
    |true=>exact absurd (lA aA) R
   rw[this]at e;rw[a8 R];exact h.val _ _ e
def hn.Ad{a:Act}{n:Nat}{I:eT}(h:hn n I a):∀{xs:List Operand} {ce:List Value},tw I xs=some ce->xs.map a.eval=ce
 |[],ce,e=>by simp[tw]at e;simp[e]
 |
  x::r,ce,e=>by
  simp only[tw]at e;split at e
  . rename_i v b ay aV
    simp at e;subst e;simp[h.eval ay,hn.Ad h aV]
  . cases e
inductive bg:eT->eT->Prop
 |nil {I:eT}:bg [] I
 |cons {t:Nat} {v:Value} {r I:eT}:gN I t=some v->bg r I->bg ((t,v)::r) I
def bg.val{r I:eT}(k:bg r I):∀t v,gN r t=some v->gN I t=some v:=by
 induction k with
 |nil=>intro t v e;simp[gN]at e
 |
  @cons t0 v0 r I gr _ K=>
  intro t v e;simp only[gN]at e;cases aA:Nat.beq t0 t with
  |true=>rw[aA]at e;simp at e;have:=lA aA;subst this;subst e;exact gr
  |false=>rw[aA]at e;simp at e;exact K _ _ e
def hn.jv{r:eT}(h:hn n I a)(k:bg r I):hn n r a:=⟨h.size,h.defers,λ_ _ e=>h.val _ _ (k.val _ _ e)⟩
section
variable{a b:Int}{p:Prop}
def aoD(h:decide (a<b)=false):b<=a:=by simpa using h
def aoE(h:decide (a<=b)=false):b<a:=by simpa using h
def aoF[Decidable p](h:decide p=false):¬p:=of_decide_eq_false h
def aoG[Decidable p](h:(!decide p)=true):¬p:=by simpa using h
def aoH[Decidable p](h:(!decide p)=false):p:=by simpa using h
end
def aoI{b:Bool}(h:(!b)=true):b=false:=by simpa using h
def aoJ{b:Bool}(h:(!b)=false):b=true:=by simpa using h
class oI(A:Prop)(B:outParam Prop):Prop where
 aj:A->B
def bN{A B:Prop}[i:oI A B](h:A):B:=i.aj h
instance(priority:=10){A:Prop}:oI A A:=⟨id⟩
instance(priority:=20){b:Bool}:oI ((!b)=false) (b=true):=⟨aoJ⟩
instance(priority:=30){b:Bool}:oI ((!b)=true) (b=false):=⟨aoI⟩
instance(priority:=40){p:Prop}[Decidable p]:oI ((!decide p)=false) p:=⟨aoH⟩
instance(priority:=50){p:Prop}[Decidable p]:oI ((!decide p)=true) (¬p):=⟨aoG⟩
instance(priority:=80){p:Prop}[Decidable p]:oI (decide p=false) (¬p):=⟨aoF⟩
instance(priority:=90){a b:Int}:oI (decide (a<=b)=false) (b<a):=⟨aoE⟩
instance(priority:=100){a b:Int}:oI (decide (a<b)=false) (b<=a):=⟨aoD⟩
instance(priority:=110){p:Prop}[Decidable p]:oI (decide p=true) p:=⟨of_decide_eq_true⟩
instance(priority:=200){b:Bool}{B:Prop}[i:oI (b=false) B]:oI (b=!true) B:=⟨i.aj⟩
instance(priority:=210){b:Bool}{B:Prop}[i:oI (b=true) B]:oI (b=!false) B:=⟨i.aj⟩
section
variable{P:Program}{F:World}{n:Nat}
def G(P:Program)(F:World)(n:Nat)(c:Code)(I:eT)(M:List aq)(Q:Exit->Act->World->Prop):Prop:=
 ∀a w,hn n I a->dm F M w->c.wp P Q a w
def cE(P:Program)(F:World)(n:Nat)(E:Array Oper)(l:List Oper)(I:eT)(M:List aq)(Q:Exit->Act->World->Prop):Prop:=
 ∀a w,hn n I a->dm F M w->wpList P E Q l a w
def GE(F:World)(n:Nat)(I:eT)(M:List aq)(Z:Act->World->Prop):Prop:=
 ∀a w,hn n I a->dm F M w->Z a w
abbrev aH(x:Value)(l:List aq):Value->List aq->Prop:=λu H=>u=x/\H=l
def ad(P:Program)(f:FuncId)(args:List Value)(M:List aq)(post:Value->List aq->Prop):Prop:=
 ∀
  (F:World) (D:List aq) (w:World),dm F (M++D) w->
  Calls P f args.toArray w λe X=>∃v H,e=.returned v/\post v H/\dm F (H++D) X
def AV(P:Program)(F:World)(fn:Func)(post:Value->List aq->Prop)(D:List aq):Exit->Act->World->Prop:=
 bodyPost P fn λe X=>∃v H,e=.returned v/\post v H/\dm F (H++D) X
variable{I:eT}{M H:List aq}{Q:Exit->Act->World->Prop}{c c1 bn:Code}{E:Array Oper}
section
variable{a:Act}{K:Act->World->Prop}{x:Operand}{bv:Type}{id:Nat}{l:List Oper}
def ad.mono{f:FuncId}{args:List Value}{post z:Value->List aq->Prop}(h:ad P f args M post)(g:∀v H,post v H->z v H):ad P f args M z:=
 λF D w s=>(h F D w s).mono λ_ _ ⟨v,H,e,p,s⟩=>⟨v,H,e,g _ _ p,s⟩
def nu(f:∀h,Sat M h->Sat H h)(h:G P F n c I H Q):G P F n c I M Q:=λa w aj s=>h a w aj (s.imp f)
def rp(f:∀h,Sat M h->Sat H h)(h:cE P F n E l I H Q):cE P F n E l I M Q:=λa w aj s=>h a w aj (s.imp f)
def uG{Z:Act->World->Prop}(f:∀h,Sat M h->Sat H h)(h:GE F n I H Z):GE F n I M Z:=λa w aj s=>h a w aj (s.imp f)
def hA(h:G P F n c1 I M (Exit.then (bn.wp P Q) Q)):G P F n (.seq c1 bn) I M Q:=λa w aj s=>wp_seq qn
def Dn(a2:Act->World->Prop)(h:G P F n c1 I M (Exit.then a2 Q))(h2:∀a w,a2 a w->bn.wp P Q a w):G P F n (.seq c1 bn) I M Q:=
 λa w aj s=>wp_seq_k (P:=P) λ_ cO=>wp_mono qn λe a w q=>by cases e<;>first|exact cO _ _ (h2 _ _ q)|exact q
def Dp{w:World}(h:G P F n c I M Q)(aj:hn n I a)(s:dm F M w):c.wp P Q a w:=h a w aj s
def hB(h:G P F n bn I M Q):GE F n I M (Exit.then (bn.wp P Q) Q .normal):=h
theorem yt(h:GE F n I M (Q .normal)):GE F n I M (Exit.inBlock id Q .normal):=h
theorem WS(h:GE F n I M (Q .normal)):GE F n I M (Exit.inBlock id Q (.exit id)):=λa w aj s=>by
 simp only[Exit.inBlock,fi];exact h a w aj s
theorem aoK{b:Nat}(U:Nat.beq b id=false)(h:GE F n I M (Q (.exit b))):GE F n I M (Exit.inBlock id Q (.exit b)):=λa w aj s=>by
 have:b≠id:=λe=>by subst e;rw[WT]at U;cases U
 simp only[Exit.inBlock,a8 this];exact h a w aj s
theorem M2(h:GE F n I M (Q (.exit id))):GE F n I M (Exit.then K Q (.exit id)):=h
def yu(h:GE F n I M (Q .ret)):GE F n I M (Exit.then K Q .ret):=h
theorem Dq(h:GE F n I M (Q .ret)):GE F n I M (Exit.inBlock id Q .ret):=h
theorem tv(h:G P F n c I M (Exit.inBlock id Q)):G P F n (.block id c) I M Q:=λa w aj s=>wp_block qn
def rq(h:GE F n I M (Q .normal)):G P F n .skip I M Q:=λa w aj s=>wp_skip qn
theorem WU(h:GE F n I M (Q (.exit id))):G P F n (.exit id) I M Q:=λa w aj s=>wp_exit qn
def oJ(h:GE F n I M (Q .ret)):G P F n .ret I M Q:=λa w aj s=>wp_ret qn
def mW{b:Bool}(ah:ck I x=some (.bool b))(R:b=true->G P F n c1 I M Q)(ba:b=false->G P F n bn I M Q):G P F n (.cond x c1 bn) I M Q:=
 λa w aj s=>wp_cond_split (aj.eval ah) (λe=>R e a w aj s) (λe=>ba e a w aj s)
def wk(ah:ck I x=some h6)(h:G P F n c1 I M Q):G P F n (.cond x c1 bn) I M Q:=
 λa w aj s=>wp_cond_true (aj.eval ah) qn
def tq(ah:ck I x=some gR)(h:G P F n bn I M Q):G P F n (.cond x c1 bn) I M Q:=
 λa w aj s=>wp_cond_false (aj.eval ah) qn
theorem ja(h:cE P F n l.toArray l I M Q):G P F n (.region id l.toArray false) I M Q:=λa w aj s=>wp_region_lit qn
def ic(h:GE F n I M (Q .normal)):cE P F n E [] I M Q:=h
theorem gG(J:bv->Prop)(d:bv->eT)(g:bv->List aq)(i:bv->Nat)(g8:bv)(bh:J g8)(hk:bg (d g8) I)(B:∀h,Sat M h->Sat (g g8) h)
 (round:∀x,J x->G P F n c (d x) (g x) (Exit.then (λa w=>∃y,J y/\i y<i x/\hn n (d y) a/\dm F (g y) w) Q)):G P F n (.loop c) I M Q:=by
 intro a w aj s;have key:∀m x a w,i x=m->J x->hn n (d x) a->dm F (g x) w->
  ∀b k cs,∃e aI X,Q e aI X/\Arrives P (lone (b.at a (.code c::.inLoop c::k)) cs w) b k cs e aI X:=by
  intro m
  induction m using Nat.strongRecOn with
  |
   _ m K=>
   intro x a w bf bC aj s b k cs;obtain⟨e,p,q,bm,f⟩:=round x bC a w aj s b (.inLoop c::k) cs;cases e with
   |
    normal=>
    obtain⟨y,j,dV,o,r⟩:=bm;obtain⟨t,u,v,z,C⟩:=K (i y) (bf▸dV) y p q rfl j o r b k cs;exact⟨t,u,v,z,.of_steps (Steps.trans f (.one step_inLoop)) C⟩
   |exit id=>exact⟨_,p,q,bm,.pass (x:=.inLoop c) rfl Dr f⟩
   |goto l=>exact⟨_,p,q,bm,.pass (x:=.inLoop c) rfl Dr f⟩
   |ret=>exact⟨_,p,q,bm,.pass (x:=.inLoop c) rfl Dr f⟩
   |panic D=>exact⟨_,p,q,bm,.pass (x:=.inLoop c) rfl Dr f⟩
   |outgrown=>exact⟨_,p,q,bm,.pass (x:=.inLoop c) rfl Dr f⟩
 intro b k cs;obtain⟨e,aI,X,bm,f⟩:=key _ g8 a w rfl bh (aj.jv hk) (s.imp B) b k cs;exact⟨e,aI,X,bm,.of_steps (.one step_loop) f⟩
theorem fD{J:bv->Prop}{d:bv->eT}{g:bv->List aq}{i:bv->Nat}{m:Nat}(y:bv)(bh:J y)(bf:i y<m)(hk:bg (d y) I)(B:∀h,Sat M h->Sat (g y) h):
 GE F n I M (Exit.then (λa w=>∃y,J y/\i y<m/\hn n (d y) a/\dm F (g y) w) Q .normal):=
 λ_ _ aj s=>⟨y,bh,bf,aj.jv hk,s.imp B⟩
theorem WV(args:List Value)(n:Nat)(h:args.length<=n):
 hn n (args.zipIdx.map fun(v,i)=>(i,v)) {tmps:=args.toArray++Array.replicate (n -args.toArray.size) undef,defers:=[]}:=by
 refine⟨by simp;omega,rfl,λt v e=>?_⟩;have key:∀(l:List Value) (k:Nat) (t:Nat) (v:Value),gN ((l.zipIdx k).map fun(v,i)=>(i,v)) t=some v->k<=t/\l[t -k]?=some v:=by
  intro l
  induction l with
  |nil=>intro k t v e;simp[gN]at e
  |
   cons x l K=>
   intro k t v e;simp only[ww,gu,gN]at e;cases aA:Nat.beq k t with
   |true=>rw[aA]at e;simp at e;have:=lA aA;subst this;simp[e]
   |
    false=>
    rw[aA]at e;simp at e;obtain⟨h1,h2⟩:=K _ _ _ e;refine⟨by omega,?_⟩;rw[show t -k=(t -(k+1))+1 by omega];simpa using h2
 obtain⟨_,h2⟩:=key args 0 t v (by simpa using e);rw[Ds]at h2;have:t<args.length:=by
  rcases r7 t args.length with x|x
  . exact x
  . rw[oK x]at h2;cases h2
 simp only[aoL,yc,this,fi,M3];exact h2
theorem ko{f:FuncId}{fn:Func}{args:List Value}{post:Value->List aq->Prop}(ba:P.funcs[f]?=some fn)(aA:fn.body=some c){b5:Nat}(aM:fn.ntmps=b5)(av:Nat.ble args.length b5=true)
 (h:∀F D,G P F b5 c (args.zipIdx.map fun(v,i)=>(i,v)) (M++D) (AV P F fn post D)):ad P f args M post:=by
 intro F D w s;subst aM;exact calls_of_wp ba aA (h F D _ _ (WV args _ (Dt av)) s)
def Hc{t:Nat}{v:Value}(aj:hn n I a)(e:gN I t=some v):a.tmps.getD t undef=v:=by
 have:=aj.val _ _ e;simp[Du,this]
end
variable{fn:Func}{post:Value->List aq->Prop}{D:List aq}
theorem x0{v:Value}{e:Exit}(V:e=.ret\/e=.normal)(aE:∀a w,hn n I a->dm F M w->(results fn a.tmps).run P w=.ok v w)(H:List aq)(hp:post v H)(B:∀h,Sat M h->Sat (H++D) h):
 GE F n I M vP:=λa w aj s=>by
 rcases V with rfl|rfl
 . exact bodyPost_ret (aE a w aj s) aj.defers ⟨v,H,rfl,hp,s.imp B⟩
 . exact bodyPost_end (aE a w aj s) aj.defers ⟨v,H,rfl,hp,s.imp B⟩
def Dv{e:Exit}(V:e=.ret\/e=.normal)(ba:fn.results=#[])(H:List aq)(hp:post eu H)(B:∀h,Sat M h->Sat (H++D) h):GE F n I M vP:=
 x0 V (λ_ _ _ _=>results_none ba _ _ _) H hp B
def jh{e:Exit}(V:e=.ret\/e=.normal){t:Nat}{v:Value}(ba:fn.results=#[.tmp t])(h1:gN I t=some v)(H:List aq)(hp:post v H)(B:∀h,Sat M h->Sat (H++D) h):GE F n I M vP:=
 x0 V (λa w aj _=>by rw[results_tmp ba,Hc aj h1]) H hp B
def WW{e:Exit}(V:e=.ret\/e=.normal){t u:Nat}{v x:Value}(ba:fn.results=#[.tmp t,.tmp u])(h1:gN I t=some v)(h2:gN I u=some x)(H:List aq)(hp:post (.tuple #[v,x]) H)(B:∀h,Sat M h->Sat (H++D) h):GE F n I M vP:=
 x0 V (λa w aj _=>by rw[results_tmp2 ba,Hc aj h1,Hc aj h2]) H hp B
def b0(P:Program)(F:World)(n:Nat)(op:Op)(bD:TypeId)(I:eT)(M:List aq)(v:Value):Prop:=
 ∀a w d pos J g,hn n I a->dm F M w->(execOp a.eval ⟨d,op,bD,pos,J,g⟩).run P w=.ok (.value v) w
variable{op:Op}{bD:TypeId}{pos:String}{J:Array Edge}{rest:List Oper}{v:Value}
def aB{d:Nat}(aL:Nat.blt d n=true)(Y:b0 P F n op bD I M v)(h:cE P F n E rest oL M Q):cE P F n E Hd I M Q:=
 λa w aj s=>wpList_plain rfl λK cO=>by
  simp only[Oper.wp,Y a w (some d) pos J none aj s,Oper.upon];exact cO _ _ (h _ _ rr s)
def df(P:Program)(F:World)(n:Nat)(op:Op)(bD:TypeId)(I:eT)(M H:List aq):Prop:=
 ∀a w d pos J g,hn n I a->dm F M w->∃X,(execOp a.eval ⟨d,op,bD,pos,J,g⟩).run P w=.ok .skip X/\dm F H X
def kb(Y:df P F n op bD I M H)(h:cE P F n E rest I H Q):cE P F n E M4 I M Q:=
 λa w aj s=>wpList_plain rfl λK cO=>by
  obtain⟨X,aE,aD⟩:=Y a w none pos J none aj s;simp only[Oper.wp,aE,Oper.upon];exact cO _ _ (h _ _ aj aD)
def c4(P:Program)(F:World)(n:Nat)(op:Op)(bD:TypeId)(I:eT)(M:List aq)(p:Value->List aq->Prop):Prop:=
 ∀a w d pos J g,hn n I a->dm F M w->∃v H X,(execOp a.eval ⟨d,op,bD,pos,J,g⟩).run P w=.ok (.value v) X/\p v H/\dm F H X
section
variable{j z:Nat}{R:Bool}{d:Nat}{p:Value->List aq->Prop}
def iX(aL:Nat.blt d n=true)(Y:c4 P F n op bD I M p)(h:∀v H,p v H->cE P F n E rest oL H Q):cE P F n E Hd I M Q:=
 λa w aj s=>wpList_plain rfl λK cO=>by
  obtain⟨v,H,X,aE,hp,aD⟩:=Y a w (some d) pos J none aj s;simp only[Oper.wp,aE,Oper.upon];exact cO _ _ (h v H hp _ _ rr aD)
def jD(I:eT):Option Nat->eT
 |some d=>(d,undef)::I
 |none=>I
def aoM(n:Nat):Option Nat->Bool
 |some d=>Nat.blt d n
 |none=>true
theorem hx{c:Bool}{d:Option Nat}(N:(E[j]?).bind (·.dst)=some z)(Y:gN I z=some (.bool c))
 (h1:c=R->cE P F n E (⟨d,op,bD,pos,J,none⟩::rest) I M Q)(h2:c=(!R)->cE P F n E rest (jD I d) M Q)(aL:aoM n d=true):
 cE P F n E (⟨d,op,bD,pos,J,some (j,R)⟩::rest) I M Q:=λa w aj s=>by
 have ag:yielded E a.tmps j=some c:=by
  unfold yielded;rw[N];simp[aj.val _ _ Y]
 by_cases a6:c=R
 . have:=h1 a6 a w aj s
   unfold wpList at this⊢;simp only[Region.wanted,ag,a6,beq_self_eq_true,fi]at this⊢;exact this
 . have r:c=(!R):=by clear ag Y h1 h2;cases c<;>cases R<;>first|rfl|exact absurd rfl a6
   have O:(some c==some R)=false:=by rw[r];cases R<;>rfl
   unfold wpList;simp only[Region.wanted,ag,O];cases d with
   |none=>exact h2 r a w aj s
   |some d=>exact h2 r _ w yv s
theorem o2{c:Bool}{d:Option Nat}(N:(E[j]?).bind (·.dst)=some z)(Y:gN I z=some (.bool c))(a6:c=R)
 (h1:cE P F n E (⟨d,op,bD,pos,J,none⟩::rest) I M Q):
 cE P F n E (⟨d,op,bD,pos,J,some (j,R)⟩::rest) I M Q:=λa w aj s=>by
 have ag:yielded E a.tmps j=some c:=by
  unfold yielded;rw[N];simp[aj.val _ _ Y]
 have:=h1 a w aj s;unfold wpList at this⊢;simp only[Region.wanted,ag,a6,beq_self_eq_true,fi]at this⊢;exact this
theorem He{c:Bool}{d:Nat}(N:(E[j]?).bind (·.dst)=some z)(Y:gN I z=some (.bool c))(a6:c=(!R))(aL:Nat.blt d n=true)
 (h2:cE P F n E rest AW M Q):
 cE P F n E WX I M Q:=λa w aj s=>by
 have ag:yielded E a.tmps j=some c:=by
  unfold yielded;rw[N];simp[aj.val _ _ Y]
 have O:(some c==some R)=false:=by subst a6;cases R<;>rfl
 unfold wpList;simp only[Region.wanted,ag,O];exact h2 _ w yv s
theorem aoN(N:(E[j]?).bind (·.dst)=some z)(Y:gN I z=some undef)(aL:Nat.blt d n=true)
 (h2:cE P F n E rest AW M Q):
 cE P F n E WX I M Q:=λa w aj s=>by
 have ag:yielded E a.tmps j=none:=by
  unfold yielded;rw[N];simp only[k3,aj.val _ _ Y];rfl
 unfold wpList;simp only[Region.wanted,ag];exact h2 _ w yv s
def di(P:Program)(F:World)(n:Nat)(op:Op)(bD:TypeId)(I:eT)(M:List aq)(p:Value->List aq->Prop):Prop:=
 ∀
  a w d pos J g,hn n I a->dm F M w->∃f args,(execOp a.eval ⟨d,op,bD,pos,J,g⟩).run P w=.ok (.enter f args) w/\
  Calls P f args w λe X=>∃v H,e=.returned v/\p v H/\dm F H X
def ci(aL:Nat.blt d n=true)(Y:di P F n op bD I M p)(h:∀v H,p v H->cE P F n E rest oL H Q):cE P F n E Hd I M Q:=
 λa w aj s=>wpList_plain rfl λK cO=>by
  obtain⟨f,args,aE,a6⟩:=Y a w (some d) pos J none aj s;simp only[Oper.wp,aE,Oper.upon];exact a6.mono λe X ⟨v,H,V,hp,aD⟩=>by subst V;exact cO _ _ (h v H hp _ _ rr aD)
end
end
section
variable(b:Nat){P:Program}{α:Type}{f:FuncId}
abbrev ab(bD:TypeId)(l:List Value):aq:=eB b (.cells l.toArray bD (0,0))
abbrev ptr(bO:Nat):Value:=.pointer (some ⟨b,bO,none⟩)
def uZ:TypeDesc->Bool
 |.struct _|.array _ _=>true
 |_=>false
class tB(P:Program)(t:TypeId)(k:outParam IntKind):Prop where
 out:P.underlying t=some (.int k)
class HS(P:Program)(t:TypeId):Prop where
 out:P.underlying t=some .bool
class u0(P:Program)(t:TypeId):Prop where
 out:∃e,P.underlying t=some (.pointer e)
class Be(P:Program)(t:TypeId):Prop where
 out:P.underlying t=some .string
class eQ(P:Program)(t:TypeId):Prop where
 out:∃d,P.underlying t=some d/\uZ d=false
 size:∃i,P.info? t=some i/\i.size=1
class j9(P:Program)(t:TypeId)(aY:outParam Nat):Prop where
 out:∃d,P.underlying t=some d/\uZ d=true
 size:∃i,P.info? t=some i/\i.size=aY
class bS(P:Program)(s:TypeId)(f:Nat)(bO:outParam Nat):Prop where
 out:∃gp H i,P.underlying s=some (.struct gp)/\gp[f]?=some H/\H.offset=bO/\P.info? H.type=some i/\i.size≠0
class Bf(P:Program)(t:TypeId)(len aY:outParam Nat):Prop where
 out:∃e i,P.underlying t=some (.array len e)/\P.info? e=some i/\i.size=aY
class jS(P:Program)(t:TypeId)(e:outParam TypeId)(aY:outParam Nat):Prop where
 out:∃i,P.underlying t=some (.slice e)/\P.info? e=some i/\i.size=aY
class e0(P:Program)(f:FuncId):Prop where
 out:∃fn c,P.funcs[f]?=some fn/\fn.body=some c/\(fn.name == "runtime.NumGoroutine")=false
def pX(o:Option α)(p:α->Bool):Bool:=match o with
 |some x=>p x
 |none=>false
def qt{o:Option α}{p:α->Bool}(h:pX o p=true):∃x,o=some x/\p x=true:=by
 cases o with
 |none=>cases h
 |some x=>exact⟨x,rfl,h⟩
theorem aty(h:pX P.funcs[f]? (λfn=>fn.body.isSome&&!(fn.name == "runtime.NumGoroutine"))=true:=by kernel_rfl):e0 P f:=by
 obtain⟨fn,h1,h2⟩:=qt h;obtain⟨h2,aN⟩:=DS.1 h2;obtain⟨c,h2⟩:=Sp.1 h2;exact⟨fn,c,h1,h2,by simpa using aN⟩
theorem fc(h:e0 P f:=by first|infer_instance|exact aty):e0 P f:=h
end
section
variable{P:Program}{F w:World}{n:Nat}{I:eT}{M:List aq}{bD:TypeId}
section
variable{f:FuncId}{c:Operand}{t dk:TypeId}{i:TypeInfo}{x y:Operand}{xs:List Operand}{k V:IntKind}{b bO:Nat}{z:Array TypeId}{p q:Int}{e:TypeId}(r:Int){l U ce:List Value}{u:Obj->List aq}{pre D:List aq}{v:Value}{aY:Nat}{post:Value->List aq->Prop}{d:TypeDesc}{R:Nat×Nat}
def gH(h:P.underlying t=some d)(w:World):(underlying t).run P w=.ok d w:=by simp[underlying,h]
def Im(h:P.info? t=some i)(w:World):(typeInfo t).run P w=.ok i w:=by simp[typeInfo,h]
def jM(h:P.info? t=some i)(w:World):(sizeOf t).run P w=.ok i.size w:=by simp[sizeOf,Im h]
def vV{E:Value}(h:P.info? t=some i)(T:i.zero=some E)(w:World):(zeroValue t).run P w=.ok E w:=by simp[zeroValue,Im h,T]
def DW(h:P.underlying t=some d)(h2:uZ d=false)(w:World):(isAgg t).run P w=.ok false w:=by
 cases d<;>simp[uZ]at h2<;>simp[isAgg,gH h]
def Ag(h:P.underlying t=some d)(h2:uZ d=true)(w:World):(isAgg t).run P w=.ok true w:=by
 cases d<;>simp[uZ]at h2<;>simp[isAgg,gH h]
def j6(h:ck I x=some v):b0 P F n (.move x) bD I M v:=λa w d pos J g aj _=>by
 simp[execOp,aj.eval h]
def mw(h:ck I x=some v):b0 P F n (.assign x) bD I M v:=λa w d pos J g aj _=>by
 simp[execOp,aj.eval h]
def lY{z:Addr}(h:ck I x=some (.pointer (some z))):b0 P F n (.nilCheck x) bD I M (.pointer (some z)):=λa w d pos J g aj _=>by
 simp[execOp,aj.eval h]
def nG{s:TypeId}{x:Operand}{f b o bO:Nat}[i:bS P s f bO](h:ck I x=some (ptr b o)):b0 P F n (.fieldAddr s x f) bD I M (ptr b (o+bO)):=λa w d pos J g aj _=>by
 obtain⟨gp,H,z,h1,h2,aN,bu,dW⟩:=i.out;simp only[execOp,aj.eval h];simp[Instr.fieldAt,Instr.sureAddr,gH h1,h2,aN,fieldPlace,jM bu,dW,Addr.add]
def JI{k:Nat}{ce:List Value}{v:Value}(h:ck I x=some (.tuple ce.toArray))(hk:ce[k]?=some v):b0 P F n (.extract x k) bD I M v:=λa w d pos J g aj _=>by
 simp only[execOp,aj.eval h];simp[go_sem,Instr.extract,hk]
def nZ(ah:ck I x=some (.int k p))(ag:ck I y=some (.int k q)):b0 P F n (.binOp .add t x y dk) bD I M (.int k (k.wrap (p+q))):=λa w d pos J g aj _=>by
 simp only[execOp,aj.eval ah,aj.eval ag];simp[go_sem,eqGuard,binOp,Op.intArith]
def yF(ah:ck I x=some (.int k p))(ag:ck I y=some (.int k q)):b0 P F n (.binOp .sub t x y dk) bD I M (.int k (k.wrap (p -q))):=λa w d pos J g aj _=>by
 simp only[execOp,aj.eval ah,aj.eval ag];simp[go_sem,eqGuard,binOp,Op.intArith]
def Ni(ah:ck I x=some (.int k p))(ag:ck I y=some (.int k q)):b0 P F n (.binOp .mul t x y dk) bD I M (.int k (k.wrap (p*q))):=λa w d pos J g aj _=>by
 simp only[execOp,aj.eval ah,aj.eval ag];simp[go_sem,eqGuard,binOp,Op.intArith]
def yJ(ah:ck I x=some (.int k p))(ag:ck I y=some (.int k q)):b0 P F n (.binOp .lss t x y dk) bD I M (.bool (decide (p<q))):=λa w d pos J g aj _=>by
 simp only[execOp,aj.eval ah,aj.eval ag];simp[go_sem,eqGuard,binOp,Op.intCmp]
def H7(ah:ck I x=some (.int k p))(ag:ck I y=some (.int k q)):b0 P F n (.binOp .leq t x y dk) bD I M (.bool (decide (p<=q))):=λa w d pos J g aj _=>by
 simp only[execOp,aj.eval ah,aj.eval ag];simp[go_sem,eqGuard,binOp,Op.intCmp]
def B0(ah:ck I x=some (.int k p))(ag:ck I y=some (.int k q)):b0 P F n (.binOp .gtr t x y dk) bD I M (.bool (decide (q<p))):=λa w d pos J g aj _=>by
 simp only[execOp,aj.eval ah,aj.eval ag];simp[go_sem,eqGuard,binOp,Op.intCmp]
def Ak(ah:ck I x=some (.int k p))(ag:ck I y=some (.int k q)):b0 P F n (.binOp .geq t x y dk) bD I M (.bool (decide (q<=p))):=λa w d pos J g aj _=>by
 simp only[execOp,aj.eval ah,aj.eval ag];simp[go_sem,eqGuard,binOp,Op.intCmp]
def my(ah:ck I x=some (.int k p))(ag:ck I y=some (.int k q)):b0 P F n Bu bD I M (.bool (decide (p=q))):=λa w d pos J g aj _=>by
 simp only[execOp,aj.eval ah,aj.eval ag];simp[go_sem,eqGuard,binOp,Op.intCmp];rfl
def mo(ah:ck I x=some (.int k p))(ag:ck I y=some (.int k q)):b0 P F n Bt bD I M (.bool (!decide (p=q))):=λa w d pos J g aj _=>by
 simp only[execOp,aj.eval ah,aj.eval ag];simp[go_sem,eqGuard,binOp,Op.intCmp];rfl
def aif{p q:Bool}[R:HS P t](ah:ck I x=some (.bool p))(ag:ck I y=some (.bool q)):b0 P F n Bu bD I M (.bool (p==q)):=λa w d pos J g aj _=>by
 simp only[execOp,aj.eval ah,aj.eval ag];simp[eqGuard,run_eql_bool _ _ _ _ R.out]
def aih{p q:Bool}[R:HS P t](ah:ck I x=some (.bool p))(ag:ck I y=some (.bool q)):b0 P F n Bt bD I M (.bool (!(p==q))):=λa w d pos J g aj _=>by
 simp only[execOp,aj.eval ah,aj.eval ag];simp[eqGuard,run_neq_bool _ _ _ _ R.out]
def qv{b:Bool}(ah:ck I x=some (.bool b)):b0 P F n (.unOp .not t x) bD I M (.bool (!b)):=λa w d pos J g aj _=>by
 simp only[execOp,aj.eval ah];simp[go_sem,Op.unary]
def atz[i:tB P t k][j:tB P dk V](ah:ck I x=some (.int k p)):b0 P F n (.convert t dk x) bD I M (.int V (V.wrap p)):=λa w d pos J g aj _=>by
 simp only[execOp,aj.eval ah];simp[convert,gH i.out,gH j.out,Conv.intToInt]
theorem o_load[i:eQ P t][j:kZ b M (.cells l.toArray e R) u](h:ck I x=some (ptr b bO))(Y:l[bO]?=some v):
 b0 P F n (.load t x) bD I M v:=λa w d pos J g aj s=>by
 obtain⟨E,h1,h2⟩:=i.out;have aA:=s.heap (b:=b);have a6:w.cell? q8=some v:=by simp[World.cell?,aA,Y]
 simp only[execOp,aj.eval h];simp[Instr.loadAt,Instr.sureAddr,loadVar,DW h1 h2,run_load,a6]
def Af{bO aY j:Nat}{v:Value}(h:((l.drop bO).take aY)[j]?=some v):l[bO+j]?=some v:=by
 rw[Sq]at h;split at h
 . rwa[L6]at h
 . cases h
def uh{w:World}{b bO j:Nat}:w.cell? (Addr.add ⟨b,bO,none⟩ j)=w.cell? ⟨b,bO+j,none⟩:=by
 unfold Addr.add;split
 . subst_vars;rfl
 . rfl
theorem zB[i:j9 P t aY][j:kZ b M (.cells l.toArray e R) u](h:ck I x=some (ptr b bO))(Y:(l.drop bO).take aY=ce)(av:ce.length=aY):
 b0 P F n (.load t x) bD I M Bl:=λa w d pos J g aj s=>by
 obtain⟨E,h1,h2⟩:=i.out;obtain⟨z,aN,bu⟩:=i.size;have aA:=s.heap (b:=b);have a6:=run_loadCells_list (P:=P) w q8 ce (λk v hk=>by
  rw[<-Y]at hk;have:=Af hk;rw[uh];simp[World.cell?,aA,this])
 simp only[execOp,aj.eval h];simp[Instr.loadAt,Instr.sureAddr,loadVar,Ag h1 h2,jM aN,bu];rw[av]at a6;simp[a6]
def dm.setCell{b bO:Nat}{e:TypeId}{l:List Value}{u:Obj->List aq}{R:Nat×Nat}[i:kZ b M (.cells l.toArray e R) u](s:dm F M w)(v:Value):dm F (u (.cells (l.set bO v).toArray e R)) (w.setCell ⟨b,bO,none⟩ v):=by
 have h:=i.get s.e4;refine⟨s.os,s.tape,s.output,by have:=s.size;simpa[World.setCell]using this,?_⟩;have:fR (w.setCell q8 v)=j3 (fR w) b (.cells (l.set bO v).toArray e R):=by
  unfold World.setCell;rw[wy _ h];simp
 rw[this];exact i.set _ s.e4
theorem mv[i:eQ P t][j:kZ b M (.cells l.toArray e (0,0)) u](h:ck I x=some (ptr b bO))(Y:ck I y=some v)(h1:v.oneCell'=true)(av:Nat.blt bO l.length=true):
 df P F n (.store t x y) bD I M (u (.cells (l.set bO v).toArray e (0,0))):=λa w d pos J g aj s=>by
 obtain⟨z,aN,bu⟩:=i.size;have aA:=s.heap (b:=b);have W:bO<l.length:=by simpa[yx]using av
 have a6:(w.cell? q8).isSome:=by simp[World.cell?,aA,W]
 have ba:w.frozen? q8=false:=by simp[World.frozen?,aA]
 refine⟨w.setCell q8 v,?_,?_⟩
 . simp only[execOp,aj.eval h,aj.eval Y]
   have B:v.cells=#[v]:=ZP;obtain⟨c,r⟩:=Sp.1 a6;simp[Instr.storeAt,Instr.sureAddr,storeVar,jM aN,bu,B,storeCells,Addr.add,run_store,h1,stored,r,ba]
 . exact s.setCell v
def fk(aE:k.wrap (p+q)=r)(ah:ck I x=some (.int k p))(ag:ck I y=some (.int k q)):b0 P F n (.binOp .add t x y dk) bD I M (.int k r):=aE▸nZ ah ag
def kl(aE:k.wrap (p -q)=r)(ah:ck I x=some (.int k p))(ag:ck I y=some (.int k q)):b0 P F n (.binOp .sub t x y dk) bD I M (.int k r):=aE▸yF ah ag
def rm(aE:k.wrap (p*q)=r)(ah:ck I x=some (.int k p))(ag:ck I y=some (.int k q)):b0 P F n (.binOp .mul t x y dk) bD I M (.int k r):=aE▸Ni ah ag
def o6[tB P t k][tB P dk V](aE:V.wrap p=r)(ah:ck I x=some (.int k p)):b0 P F n (.convert t dk x) bD I M (.int V r):=aE▸atz ah
def aii(ah:ck I x=some (.int k p))(ag:ck I y=some (.int k q))(bm:q≠0):b0 P F n (.binOp .quo t x y dk) bD I M (.int k (k.wrap (p.tdiv q))):=λa w d pos J g aj _=>by
 simp only[execOp,aj.eval ah,aj.eval ag];simp[eqGuard,binOp,Op.intDiv,bm]
def aij(ah:ck I x=some (.int k p))(ag:ck I y=some (.int k q))(bm:q≠0):b0 P F n (.binOp .rem t x y dk) bD I M (.int k (p.tmod q)):=λa w d pos J g aj _=>by
 simp only[execOp,aj.eval ah,aj.eval ag];simp[eqGuard,binOp,Op.intDiv,bm]
def GR(aE:k.wrap (p.tdiv q)=r)(ah:ck I x=some (.int k p))(ag:ck I y=some (.int k q))(bm:q≠0):b0 P F n (.binOp .quo t x y dk) bD I M (.int k r):=aE▸aii ah ag bm
def r0(aE:p.tmod q=r)(ah:ck I x=some (.int k p))(ag:ck I y=some (.int k q))(bm:q≠0):b0 P F n (.binOp .rem t x y dk) bD I M (.int k r):=aE▸aij ah ag bm
def jt(R:P.underlying t=some d)(aL:(match d with|.interface _=>false|_=>true)=true)(ah:ck I x=some v):b0 P F n (.makeInterface t x) bD I M (.iface t v):=λa w E pos J g aj _=>by
 simp only[execOp,aj.eval ah];simp only[Instr.makeInterface];cases d<;>simp at aL<;>simp[gH R]
def KG{fn:Go.Fn}{xs U:List Operand}{ce b:List Value}(ah:tw I xs=some ce)(ag:tw I U=some b):b0 P F n (.makeFunc fn xs.toArray U.toArray) bD I M (.func fn ce.toArray b.toArray):=λa w d pos J g aj _=>by
 simp[execOp,Instr.makeFunc,aj.Ad ah,aj.Ad ag]
def Zj:c4 P F n (.makeMap t none) bD I M (λv H=>∃b,v=.map (some b)/\H=eB b pj::M):=λa w d pos J g aj s=>
 ⟨_,_,_,by simp[execOp,Instr.makeMap],⟨w.heap.size,rfl,rfl⟩,s.new _⟩
def Sr{x:Operand}{v:Value}(ah:ck I x=some v)(h1:v.oneCell'=true):c4 P F n (.box e x) bD I M (λu H=>∃b,u=ptr b 0/\H=ab b e [v]::M):=λa w d pos J g aj s=>by
 have B:v.cells=[v].toArray:=ZP;exact⟨_,_,_,by simp only[execOp,aj.eval ah,Instr.box,newVar,newRow,B];simp,⟨w.heap.size,rfl,rfl⟩,s.new _⟩
def Bp{x:Operand}{ce:List Value}(ah:ck I x=some Bl):c4 P F n (.box e x) bD I M (λu H=>∃b,u=ptr b 0/\H=ab b e ce::M):=λa w d pos J g aj s=>by
 exact⟨_,_,_,by simp only[execOp,aj.eval ah,Instr.box,newVar,newRow,Value.cells];simp,⟨w.heap.size,rfl,rfl⟩,s.new _⟩
class eY(P:Program)(t:TypeId)(U:outParam (List Value)):Prop where
 out:∃i E,P.info? t=some i/\i.zero=some E/\E.cells=U.toArray
def tR[i:eY P e U]:c4 P F n (.alloc e) bD I M (λu H=>∃b,u=ptr b 0/\H=ab b e U::M):=λa w d pos J g aj s=>by
 obtain⟨z,E,h1,h2,aN⟩:=i.out;exact⟨_,_,_,by simp only[execOp,Instr.alloc];simp[vV h1 h2,newVar,newRow,aN],⟨w.heap.size,rfl,rfl⟩,s.new _⟩
def kD(l:List Value)(bO:Nat):List Value->List Value
 |[]=>l
 |v::r=>kD (l.set bO v) (bO+1) r
def EW(b:List (Nat×Nat))(l:List Value):List (Nat×Value)->Option (List Value)
 |[]=>some l
 |
  (i,v)::r=>match b[i]?with
  |none=>none
  |
   some (bO,aY)=>match v.cells.toList with
   |cs=>cond (Nat.beq cs.length aY&&Nat.ble (bO+cs.length) l.length) (EW b (kD l bO cs) r) none
class hD(P:Program)(t:TypeId)(b:outParam (List (Nat×Nat)))(U:outParam (List Value)):Prop where
 out:∃i E gp,P.info? t=some i/\i.zero=some E/\E.cells=U.toArray/\P.underlying t=some (.struct gp)/\gp.toList.map (λf=>(f.offset,((P.info? f.type).map (·.size))))=b.map (λp=>(p.1,some p.2))
def Pf:∀(cs l:List Value) (bO k:Nat),((cs.zipIdx k).foldl (fun(a:Array Value) (x:Value×Nat)=>a.setIfInBounds (bO+x.2) x.1) l.toArray)=(kD l (bO+k) cs).toArray
 |[],_,_,_=>rfl
 |
  c::cs,l,bO,k=>by
  simp only[ww,yP,List.setIfInBounds_toArray,kD];rw[Pf cs _ bO (k+1)];rfl
def ZG:∀(cs l:List Value) (bO:Nat),(kD l bO cs).length=l.length
 |[],_,_=>rfl
 |c::cs,l,bO=>by simp only[kD];rw[ZG cs];simp
def fill_eq(b:List (Nat×Nat)):∀(N:List (Nat×Value)) (l cs:List Value),EW b l N=some cs->Instr.fill (b.toArray[·]?) l.toArray N=some cs.toArray
 |[],l,cs,h=>by simp[EW]at h;simp[Instr.fill,h]
 |
  (i,v)::r,l,cs,h=>by
  simp only[EW]at h;simp only[Instr.fill,M3];cases hp:b[i]?with
  |none=>rw[hp]at h;cases h
  |
   some p=>
   obtain⟨bO,aY⟩:=p;rw[hp]at h;simp only at h⊢;cases aA:(Nat.beq v.cells.toList.length aY&&Nat.ble (bO+v.cells.toList.length) l.length)with
   |false=>rw[aA]at h;cases h
   |
    true=>
    rw[aA]at h;simp only[ii,Nat.ble_eq]at aA;simp only[cond_true]at h;have h1:v.cells.size=aY:=ZI;have h2:bO+v.cells.size<=l.length:=by simpa using aA.2
    rw[a8 (by simp[h1];omega)];have aN:=Pf v.cells.toList l bO 0;have bu:(v.cells.zipIdx.foldl (λcs (x:Value×Nat)=>cs.setIfInBounds (bO+x.2) x.1) l.toArray)=(kD l bO v.cells.toList).toArray:=by
     rw[<-Ys,Array.toList_zipIdx];simpa using aN
    rw[bu];simpa using fill_eq b r _ _ h
def aik{P:Program}(w:World):∀(gp:List Field) (b:List (Nat×Nat)),gp.map (λf=>(f.offset,((P.info? f.type).map (·.size))))=b.map (λp=>(p.1,some p.2))->
 (gp.mapM (m:=Sem) λf=>do Pure.pure (f.offset,<-sizeOf f.type)).run P w=.ok b w
 |[],[],_=>by simp
 |
  f::gp,p::N,h=>by
  simp only[gu,List.cons.injEq,Prod.mk.injEq]at h;obtain⟨⟨h1,h2⟩,aN⟩:=h;cases ak:P.info? f.type with
  |none=>rw[ak]at h2;cases h2
  |
   some i=>
   rw[ak]at h2;simp at h2;have:=aik (P:=P) w gp N aN;rw[List.mapM_cons];simp[jM ak]at this⊢;rw[this];simp[h1,h2]
 |[],_::_,h=>by cases h
 |_::_,[],h=>by cases h
def wW(I:eT):List (Nat×Operand)->Option (List (Nat×Value))
 |[]=>some []
 |
  (i,x)::r=>match ck I x,wW I r with
  |some v,some ce=>some ((i,v)::ce)
  |_,_=>none
def Ph{a:Act}(aj:hn n I a):∀{xs:List (Nat×Operand)} {ce:List (Nat×Value)},wW I xs=some ce->xs.map (fun(i,x)=>(i,a.eval x))=ce
 |[],ce,e=>by simp[wW]at e;simp[e]
 |
  (i,x)::r,ce,e=>by
  simp only[wW]at e;split at e
  . rename_i v b ay aV
    simp at e;subst e;simp[aj.eval ay,Ph aj aV]
  . cases e
theorem kE{b:List (Nat×Nat)}{U cs:List Value}{xs:List (Nat×Operand)}{N:List (Nat×Value)}[i:hD P t b U](ah:wW I xs=some N)(ba:EW b U N=some cs):
 b0 P F n (.build t xs.toArray) bD I M (.agg cs.toArray):=λa w d pos J g aj _=>by
 obtain⟨z,E,gp,h1,h2,aN,bu,dW⟩:=i.out;have g1:=aik (P:=P) w gp.toList b dW;have l:=fill_eq _ _ _ _ ba;have O:(gp.mapM (m:=Sem) λf=>do Pure.pure (f.offset,<-sizeOf f.type)).run P w=.ok b.toArray w:=by
  rw[Array.mapM_eq_mapM_toList];simp at g1⊢;rw[g1];rfl
 simp only[execOp,Instr.build,oN,Ph aj ah];simp at O l;simp[vV h1 h2,gH bu,aN,O,l]
def H5[i:e0 P f](args:Array Value)(w:World):(callFunc f args).run P w=.ok (.enter f args) w:=by
 obtain⟨fn,c,h1,h2,aN⟩:=i.out;simp at aN;simp[callFunc,h1,h2,aN]
theorem b1(ah:tw I xs=some ce)(ba:ad P f ce pre post)(hp:Part pre M D)(fz:e0 P f:=by exact fc):
 di P F n (.call {callee:=.value (.func f),args:=xs.toArray,argTypes:=z}) bD I M H4:=λa w d pos J g aj s=>by
 refine⟨f,ce.toArray,?_,?_⟩
 . simp only[execOp,resolve,oN,aj.Ad ah,Act.eval]
   simp[Deferred.ofValue,invoke,H5]
 . exact(ba F D w DX).mono λe X ⟨v,L,V,bm,aD⟩=>⟨v,_,V,⟨L,bm,rfl⟩,aD⟩
theorem oE{first C:List Value}{pre D:List aq}{post:Value->List aq->Prop}(Y:ck I x=some (.func (.func f) first.toArray C.toArray))(ah:tw I xs=some ce)(ba:ad P f (first++ce++C) pre post)(hp:Part pre M D)(fz:e0 P f:=by exact fc):
 di P F n (.call {callee:=.value x,args:=xs.toArray,argTypes:=z}) bD I M H4:=λa w d pos J g aj s=>by
 refine⟨f,(first++ce++C).toArray,?_,?_⟩
 . simp only[execOp,resolve,oN,aj.Ad ah,aj.eval Y]
   simp[Deferred.ofValue,invoke,H5]
 . exact(ba F D w DX).mono λe X ⟨v,L,V,bm,aD⟩=>⟨v,_,V,⟨L,bm,rfl⟩,aD⟩
def D0{b:Bool}{v:Value}(aA:b=true)(a6:ck I c=some (.bool b))(h1:ck I x=some v):b0 P F n (.pick c x y) bD I M v:=λa w d pos J g aj _=>by
 subst aA;simp only[execOp,aj.eval a6,aj.eval h1];simp[asBool]
def yU{b:Bool}{v:Value}(aA:b=false)(a6:ck I c=some (.bool b))(h1:ck I y=some v):b0 P F n (.pick c x y) bD I M v:=λa w d pos J g aj _=>by
 subst aA;simp only[execOp,aj.eval a6,aj.eval h1];simp[asBool]
def je{x:Int}(h:-9223372036854775808<=x/\x<=9223372036854775807):IntKind.i64.wrap x=x:=by
 unfold IntKind.wrap;simp[IntKind.bits,IntKind.signed];omega
def tp{x:Int}(h:0<=x/\x<=18446744073709551615):IntKind.u64.wrap x=x:=by
 unfold IntKind.wrap;simp[IntKind.bits,IntKind.signed];omega
end
end
inductive mQ|loc|bI|c5
section
variable{P:Program}{E:Array Oper}{cR R:List Nat}{Z:Act->World->Prop}{C:World->Prop}
section
variable{i:Nat}{a:Act}{w:World}{K z:Act->World->Prop}{Q:Exit->Act->World->Prop}
def HM:Exit->Act->World->Prop:=λ_ _ _=>False
def oc(P:Program)(E:Array Oper)(cR R:List Nat)(C:World->Prop)(i:Nat)(K:Act->World->Prop)(a:Act)(w:World):Prop:=
 match E[i]?with
 |none=>K a w
 |some o=>if Region.wanted o (yielded E a.tmps)then
  (if i∈cR then o.wp P a w (λaI X=>(i∈R->C X)/\K aI X) HM else∃v,(execOp a.eval o).run P w=.ok (.value v) w/\K (a.put o.dst v) w)
  else K (a.put o.dst undef) w
def wT(P:Program)(E:Array Oper)(cR R:List Nat)(Z:Act->World->Prop)(C:World->Prop):Nat->Array Bool->Act->World->Prop
 |0,D,a,w=>Region.ready .any E D=[]/\Z a w
 |f+1,D,a,w=>(Region.ready .any E D=[]->Z a w)/\∀i∈Region.ready .any E D,oc P E cR R C i (wT P E cR R Z C f (D.setIfInBounds i true)) a w
def aqw{o:Oper}{a:Act}{w:World}{K z:Act->World->Prop}{Q:Exit->Act->World->Prop}(h:o.wp P a w K HM)(hk:∀a w,K a w->z a w):o.wp P a w z Q:=by
 unfold Oper.wp at*
 generalize (execOp a.eval o).run P w=r at*
 cases r with
 |
  ok n X=>
  cases n<;>simp only[Oper.upon]at h⊢<;>
   first
    |exact hk _ _ h
    |exact Calls.mono h (λe B V=>by cases e<;>first|exact hk _ _ V|exact V.elim|(obtain⟨_,_,x⟩:=V;exact x.elim))
    |exact Rows.mono h (λ_ _ V=>hk _ _ V)
 |halt x X=>cases x<;>simp only[Oper.upon]at h⊢<;>first|exact h|exact h.elim
def aqx(h:oc P E cR R C i K a w)(hk:∀a w,K a w->z a w):wpOp P E Q i z a w:=by
 unfold oc at h;unfold wpOp;split at h
 . rename_i aK;simp only[aK];exact hk _ _ h
 . rename_i o aK
   simp only[aK];by_cases O:Region.wanted o (yielded E a.tmps)=true
   . simp only[O,fi]at h⊢
     left;by_cases I:i∈cR
     . rw[bd I]at h;exact aqw h λa w cl=>hk _ _ cl.2
     . rw[a8 I]at h
       obtain⟨v,aE,cO⟩:=h;unfold Oper.wp;rw[aE];exact hk _ _ cO
   . simp only[O]at h⊢;exact hk _ _ h
def HN{Q:Exit->Act->World->Prop}(hZ:∀a w,Z a w->Q .normal a w):∀(f:Nat) (D:Array Bool) (a:Act) (w:World),wT P E cR R Z C f D a w->wpAny P .any E Q f D a w
 |0,_,_,_,h=>⟨h.1,hZ _ _ h.2⟩
 |f+1,_,_,_,h=>⟨λbh=>hZ _ _ (h.1 bh),λi ak=>aqx (h.2 i ak) λa w=>HN hZ f _ a w⟩
def aqy(h:oc P E cR R C i K a w)(hk:∀a w,K a w->z a w):oc P E cR R C i z a w:=by
 unfold oc at*;split at h
 . exact hk _ _ h
 . rename_i o aK
   by_cases O:Region.wanted o (yielded E a.tmps)=true
   . rw[bd O]at h⊢
     by_cases I:i∈cR
     . rw[bd I]at h⊢;exact Oper.wp_mono (λa w cl=>⟨cl.1,hk _ _ cl.2⟩) h
     . rw[a8 I]at h⊢;obtain⟨v,aE,cO⟩:=h;exact⟨v,aE,hk _ _ cO⟩
   . rw[a8 O]at h⊢;exact hk _ _ h
def pe(P:Program)(E:Array Oper)(z:World->Prop)(o:Oper)(v:Value)(a:Act):Prop:=
 (Region.wanted o (yielded E a.tmps)=true/\∀w,z w->(execOp a.eval o).run P w=.ok (.value v) w)\/(Region.wanted o (yielded E a.tmps)=false/\v=undef)
end
variable{z:World->Prop}
section
variable(l:List Oper){D:Array Bool}{o:Oper}{i:Nat}{H:Oper}{v:Value}
def pe.same{a aI:Act}(ag:pe P E z o v a)(V:execOp aI.eval o=execOp a.eval o)(O:Region.wanted o (yielded E aI.tmps)=Region.wanted o (yielded E a.tmps)):pe P E z o v aI:=by
 unfold pe at*;rw[V,O];exact ag
def pe.oc{i:Nat}{o:Oper}{v:Value}{a:Act}{w:World}(ak:E[i]?=some o)(I:i∉cR)(G:z w)(ag:pe P E z o v a){K:Act->World->Prop}(h:K (a.put o.dst v) w):oc P E cR R C i K a w:=by
 unfold Go.L.oc;simp only[ak];rcases ag with⟨O,Y⟩|⟨O,rfl⟩
 . rw[bd O,a8 I];exact⟨v,Y w G,h⟩
 . simp only[O,eP,ep];exact h
theorem aqz{j:Nat}{H g:Oper}{v:Value}(N:E[j]?=some g)(No:H.apart E g=true)
 (l:∀cs b,H.op≠.select cs b)(i:∀cs b,g.op≠.select cs b){K:Act->World->Prop}{a:Act}{w:World}(G:z w)(c:∀w,j∈cR->(j∈R->C w)->z w)
 (ag:pe P E z H v a)(h:oc P E cR R C j K (a.put H.dst v) w):
 oc P E cR R C j (λaI X=>z X/\pe P E z H v aI/\K (aI.put H.dst v) X) a w:=by
 obtain⟨h1,h2,aN⟩:=Oper.apart_spec No;have jv:∀(a:Act),pe P E z H v a->∀u,pe P E z H v (a.put g.dst u):=λa ag u=>
  ag.same (execOp_put H l a g.dst u aN) (wanted_put H a g.dst u aN)
 have k:∀(a:Act) (d:Deferred),pe P E z H v a->pe P E z H v {a with defers:=d::a.defers}:=λa d ag=>ag.same rfl rfl;unfold oc at*;simp only[N]at*;rw[wanted_put g a H.dst v h1]at h;by_cases O:Region.wanted g (yielded E a.tmps)=true
 . rw[bd O]at h⊢
   by_cases I:j∈cR
   . rw[bd I]at h⊢
     unfold Oper.wp at*;rw[execOp_put g i a H.dst v h1]at h
     generalize (execOp a.eval g).run P w=r at*
     cases r with
     |
      ok n X=>
      cases n<;>simp only[Oper.upon]at h⊢
      case value u=>exact⟨h.1,c _ I h.1,jv a ag u,by rw[<-Act.put_comm a v u h2];exact h.2⟩
      case skip=>exact⟨h.1,c _ I h.1,jv a ag _,by rw[<-Act.put_comm a v undef h2];exact h.2⟩
      case enter f args=>
       refine Calls.mono h λe B V=>?_;cases e with
       |returned u=>exact⟨V.1,c _ I V.1,jv a ag u,by rw[<-Act.put_comm a v u h2];exact V.2⟩
       |panicked D=>exact V
       |outgrown=>exact V
      case row row args=>exact Rows.mono h λu B V=>⟨V.1,c _ I V.1,jv a ag u,by rw[<-Act.put_comm a v u h2];exact V.2⟩
      case defer d=>
       refine⟨h.1,c _ I h.1,jv _ (k a d ag) _,?_⟩;have bu:({a.put H.dst v with defers:=d::(a.put H.dst v).defers}:Act).put g.dst undef=(({a with defers:=d::a.defers}:Act).put g.dst undef).put H.dst v:=by
        rw[<-Act.put_comm _ v undef h2];congr 1;cases H.dst<;>rfl
       rw[<-bu];exact h.2
     |halt x X=>cases x<;>simp only[Oper.upon]at h<;>exact h.elim
   . rw[a8 I]at h⊢
     rw[execOp_put g i a H.dst v h1]at h;obtain⟨u,aE,cO⟩:=h;exact⟨u,aE,G,jv a ag u,by rw[<-Act.put_comm a v u h2];exact cO⟩
 . rw[a8 O]at h⊢
   exact⟨G,jv a ag _,by rw[<-Act.put_comm a v undef h2];exact h⟩
def tz(E:Array Oper)(D:Array Bool):Prop:=
 ∀(j:Nat) (g:Oper),E[j]?=some g->D.getD j false=true->∀e∈g.after,Region.binds .any e=true->D.getD e.on false=true
def uX(h:D.getD i true=false):D.getD i false=false:=getD_both h
def tz.set(c:tz E D)(ak:i∈Region.ready .any E D):tz E (D.setIfInBounds i true):=by
 obtain⟨_,H,k,p⟩:=mem_ready.1 ak;intro j g N av e V aA;by_cases g2:i=j
 . subst g2
   have:g=H:=od (N.symm.trans k);subst this;exact getD_set_true (p e V aA)
 . rw[getD_set_ne false g2]at av
   exact getD_set_true (c j g N av e V aA)
theorem Bb(ak:E[i]?=some H)(I:i∉cR)(r:∀(j:Nat) (o:Oper) cs b,E[j]?=some o->o.op≠.select cs b)
 (J:Array Bool->Prop)(bC:∀D j,J D->j≠i->j∈Region.ready .any E D->J (D.setIfInBounds j true))
 (c:∀D j,J D->D.getD i true=false->j∈Region.ready .any E D->j∈cR->∀w,(j∈R->C w)->z w):
 ∀
  (f:Nat) (D:Array Bool) (a:Act) (w:World),J D->z w->
  (∀j g,E[j]?=some g->j≠i->D.getD j true=false->(∀e∈g.after,Region.binds .any e=true->e.on≠i)->H.apart E g=true)->
  i∈Region.ready .any E D->pe P E z H v a->
  wT P E cR R Z C f (D.setIfInBounds i true) (a.put H.dst v) w->wT P E cR R Z C (f+1) D a w:=by
 intro f
 induction f with
 |
  zero=>
  intro D a w l G _ aE ag F;refine⟨λh=>(by rw[h]at aE;cases aE),λj N=>?_⟩;by_cases d:j=i
  . subst d;exact ag.oc ak I G F
  . have:=ready_mono N d
    rw[F.1]at this;cases this
 |
  succ f K=>
  intro D a w l G s aE ag F;have m:=(mem_ready.1 aE).1;refine⟨λh=>(by rw[h]at aE;cases aE),λj N=>?_⟩;by_cases d:j=i
  . subst d;exact ag.oc ak I G F
  . have h1:=F.2 j (ready_mono N d)
    obtain⟨t,g,n,p⟩:=mem_ready.1 N;have x:∀e∈g.after,Region.binds .any e=true->e.on≠i:=λe V aA q=>by
     have h1:=p e V aA;rw[q,uX m]at h1;cases h1
    have h2:=aqz n (s j g n d t x) (λcs b=>r i H cs b ak) (λcs b=>r j g cs b n) G (λw V a6=>c D j l m N V w a6) ag h1;have y:∀k ok,E[k]?=some ok->k≠i->(D.setIfInBounds j true).getD k true=false->
     (∀e∈ok.after,Region.binds .any e=true->e.on≠i)->H.apart E ok=true:=λk ok hk i7 m hw=>by
     refine s k ok hk i7 ?_ hw;by_cases u:j=k
     . subst u;exact t
     . rw[getD_set_ne true u]at m;exact m
    refine aqy h2 λaI X aN=>K (D.setIfInBounds j true) aI X (bC _ _ l d N) aN.1 y (ready_mono aE (Ne.symm d)) aN.2.1 ?_;rw[Array.setIfInBounds_comm _ _ d];exact aN.2.2
def yO(acc:List Nat)(o:Oper):Nat:=o.after.foldl (λs e=>if Region.binds .any e then s|||2^e.on|||acc.getD e.on 0 else s) 0
def k7:List Oper->List Nat->List Nat
 |[],acc=>acc
 |o::r,acc=>k7 r (acc++[yO acc o])
def aqA{acc:List Nat}{o:Oper}{i:Nat}(h:(yO acc o).testBit i=true):∃e∈o.after,Region.binds .any e=true/\(e.on=i\/(acc.getD e.on 0).testBit i=true):=by
 unfold yO at h;rw[<-Ys]at h;have key:∀(l:List Edge) (s:Nat),(l.foldl (λs e=>if Region.binds .any e then s|||2^e.on|||acc.getD e.on 0 else s) s).testBit i=true->
  s.testBit i=true\/∃e∈l,Region.binds .any e=true/\(e.on=i\/(acc.getD e.on 0).testBit i=true):=by
  intro l
  induction l with
  |nil=>intro s h;exact .inl h
  |
   cons e l K=>
   intro s h;simp only[yP]at h;rcases K _ h with h|⟨y,h1,h2⟩
   . by_cases aA:Region.binds .any e=true
     . rw[bd aA,NW,NW]at h
       simp only[tA]at h;rcases h with(h|h)|h
       . exact .inl h
       . rw[Yt]at h
         exact .inr ⟨e,.head _,aA,.inl (by simpa using h)⟩
       . exact .inr ⟨e,.head _,aA,.inr h⟩
     . rw[a8 aA]at h;exact .inl h
   . exact .inr ⟨y,.tail _ h1,h2⟩
 rcases key _ _ h with h|⟨e,h1,h2⟩
 . simp at h
 . exact⟨e,by simpa using h1,h2⟩
def Yu:∀(l:List Oper) (acc:List Nat) (pre:List Oper),pre.length=acc.length->
 (∀e i,(acc.getD e 0).testBit i=true->∃o a,(pre++l)[e]?=some o/\a∈o.after/\Region.binds .any a=true/\(a.on=i\/(a.on<e/\(acc.getD a.on 0).testBit i=true)))->
 ∀e i,((k7 l acc).getD e 0).testBit i=true->∃o a,(pre++l)[e]?=some o/\a∈o.after/\Region.binds .any a=true/\(a.on=i\/(a.on<e/\((k7 l acc).getD a.on 0).testBit i=true))
 |[],acc,pre,_,h=>h
 |
  o::r,acc,pre,av,h=>by
  have:=Yu r (acc++[yO acc o]) (pre++[o]) (by simp[av]) (λe i aA=>by
   have ay:pre++[o]++r=pre++o::r:=ga;rw[ay];have ext:∀k,k<acc.length->(acc++[yO acc o]).getD k 0=acc.getD k 0:=λk hk=>by
    simp[ix,k1 hk]
   rcases Nat.lt_trichotomy e acc.length with V|V|V
   . rw[ext e V]at aA
     obtain⟨S,a,h1,h2,aN,bu⟩:=h e i aA;refine⟨S,a,h1,h2,aN,?_⟩;rcases bu with bu|⟨bu,dW⟩
     . exact .inl bu
     . exact .inr ⟨bu,by rw[ext _ ae];exact dW⟩
   . subst V
     have aV:(acc++[yO acc o]).getD acc.length 0=yO acc o:=by simp[ix]
     rw[aV]at aA;obtain⟨a,h1,h2,aN⟩:=aqA aA;refine⟨o,a,by simp[<-av],h1,h2,?_⟩;rcases aN with aN|aN
     . exact .inl aN
     . have dV:a.on<acc.length:=by
        rcases r7 a.on acc.length with x|x
        . exact x
        . rw[ix,oK x]at aN;simp at aN
       exact .inr ⟨dV,by rw[ext _ dV];exact aN⟩
   . rw[ix,oK h5]at aA;simp at aA)
  intro e i aA;have ay:pre++[o]++r=pre++o::r:=ga;rw[ay]at this;exact this e i aA
def aqB(e i:Nat)(h:((k7 l []).getD e 0).testBit i=true):∃o a,l[e]?=some o/\a∈o.after/\Region.binds .any a=true/\(a.on=i\/(a.on<e/\((k7 l []).getD a.on 0).testBit i=true)):=by
 have:=Yu l [] [] rfl (λe i h=>by simp at h) e i h;simpa using this
theorem HO{l:List Oper}{D:Array Bool}{i:Nat}(c:tz l.toArray D)(d4:D.getD i false=false):
 ∀e,((k7 l []).getD e 0).testBit i=true->D.getD e false=false/\e∉Region.ready .any l.toArray D:=by
 intro e
 induction e using Nat.strongRecOn with
 |
  _ e K=>
  intro h;obtain⟨o,a,h1,h2,aN,bu⟩:=aqB l e i h;have m:D.getD a.on false=false:=by
   rcases bu with bu|⟨bu,dW⟩
   . rw[bu];exact d4
   . exact(K _ bu dW).1
  have A:l.toArray[e]?=some o:=by simpa using h1
  constructor
  . cases av:D.getD e false with
    |false=>rfl
    |true=>have:=c e o A av a h2 aN;rw[m]at this;cases this
  . intro aE
    obtain⟨_,S,b,p⟩:=mem_ready.1 aE;have:S=o:=od (b.symm.trans A);subst this;have:=p a h2 aN;rw[m]at this;cases this
def uY(E:Array Oper)(c cR R:List Nat):List (Nat×mQ)->Array Bool->Bool
 |[],D=>(Region.ready .any E D).isEmpty
 |(i,.loc)::r,D=>(Region.ready .any E D).contains i&&Region.free .any E D i&&!cR.contains i&&cR.all (λe=>D.getD e false||(c.getD e 0).testBit i)&&uY E c cR R r (D.setIfInBounds i true)
 |(i,.bI)::r,D=>(Region.ready .any E D).contains i&&Region.free .any E D i&&!cR.contains i&&cR.all (λe=>R.contains e||(D.getD e false||(c.getD e 0).testBit i))&&uY E c cR R r (D.setIfInBounds i true)
 |(i,.c5)::r,D=>decide (Region.ready .any E D=[i])&&cR.contains i&&uY E c cR R r (D.setIfInBounds i true)
def yQ(cR R:List Nat)(U:List (Nat×mQ)):Bool:=
 Region.noSelect l.toArray&&Nat.beq U.length l.length&&uY l.toArray (k7 l []) cR R U (Array.replicate l.length false)
end
def oB(P:Program)(E:Array Oper)(Z:Act->World->Prop)(R:List Nat)(C:World->Prop):List (Nat×mQ)->Act->World->Prop
 |[],a,w=>Z a w
 |
  (i,k)::r,a,w=>match E[i]?with
  |none=>False
  |some o=>if Region.wanted o (yielded E a.tmps)then
   match k with
   |.loc=>∃v,(execOp a.eval o).run P w=.ok (.value v) w/\oB P E Z R C r (a.put o.dst v) w
   |.bI=>C w/\∃v,(∀w,C w->(execOp a.eval o).run P w=.ok (.value v) w)/\oB P E Z R C r (a.put o.dst v) w
   |.c5=>o.wp P a w (λaI X=>(i∈R->C X)/\oB P E Z R C r aI X) HM
   else oB P E Z R C r (a.put o.dst undef) w
def yR{l:List Oper}(aj:Region.noSelect l.toArray=true):∀(U:List (Nat×mQ)) (D:Array Bool) (a:Act) (w:World),tz l.toArray D->uY l.toArray (k7 l []) cR R U D=true->
 oB P l.toArray Z R C U a w->wT P l.toArray cR R Z C U.length D a w
 |[],D,a,w,_,cb,h=>⟨by simpa[uY]using cb,h⟩
 |
  (i,k)::r,D,a,w,a6,cb,h=>by
  simp only[oB]at h;cases aK:l.toArray[i]?with
  |none=>rw[aK]at h;exact h.elim
  |
   some o=>
   simp only[aK]at h;cases k with
   |
    loc=>
    simp only[uY,ii]at cb;obtain⟨⟨⟨⟨aE,ba⟩,I⟩,p⟩,b⟩:=cb;have c:i∈Region.ready .any l.toArray D:=HP;have g:i∉cR:=Bc;have m:=(mem_ready.1 c).1;have q:∀e∈cR,D.getD e false=true\/((k7 l []).getD e 0).testBit i=true:=HQ;have fin:∀v,pe P l.toArray (λX=>X=w) o v a->oB P l.toArray Z R C r (a.put o.dst v) w->wT P l.toArray cR R Z C (r.length+1) D a w:=λv ag cO=>
     Bb (z:=λX=>X=w) aK g (Region.noSelect_spec aj) (λf=>tz l.toArray f/\∀e∈cR,f.getD e false=true\/((k7 l []).getD e 0).testBit i=true)
      (λf j bC _ N=>⟨bC.1.set N,λe V=>(bC.2 e V).imp (λh=>getD_set_true h) id⟩)
      (fun f j bC d4 N V X _ => by
       exfalso;rcases bC.2 j V with h1|h1
       . have h2:=(mem_ready.1 N).1;rw[uX h2]at h1;cases h1
       . exact(HO bC.1 (uX d4) j h1).2 N)
      r.length D a w ⟨a6,q⟩ rfl (Region.free_spec aK ba) c ag (yR aj r _ _ _ (a6.set c) b cO)
    by_cases O:Region.wanted o (yielded l.toArray a.tmps)=true
    . rw[bd O]at h
      obtain⟨v,Y,cO⟩:=h;exact fin v (.inl ⟨O,λX e=>by subst e;exact Y⟩) cO
    . rw[a8 O]at h
      exact fin undef (.inr ⟨by simpa using O,rfl⟩) h
   |
    bI=>
    simp only[uY,ii]at cb;obtain⟨⟨⟨⟨aE,ba⟩,I⟩,p⟩,b⟩:=cb;have c:i∈Region.ready .any l.toArray D:=HP;have g:i∉cR:=Bc;have q:∀e∈cR,e∈R\/D.getD e false=true\/((k7 l []).getD e 0).testBit i=true:=HQ;by_cases O:Region.wanted o (yielded l.toArray a.tmps)=true
    . rw[bd O]at h
      obtain⟨J,v,Y,cO⟩:=h;exact Bb (z:=C) aK g (Region.noSelect_spec aj) (λf=>tz l.toArray f/\∀e∈cR,e∈R\/f.getD e false=true\/((k7 l []).getD e 0).testBit i=true)
       (λf j bC _ N=>⟨bC.1.set N,λe V=>(bC.2 e V).imp id (λh=>h.imp (λh=>getD_set_true h) id)⟩)
       (fun f j bC d4 N V X s => by
        rcases bC.2 j V with h1|h1|h1
        . exact s h1
        . exfalso;have h2:=(mem_ready.1 N).1;rw[uX h2]at h1;cases h1
        . exfalso;exact(HO bC.1 (uX d4) j h1).2 N)
       r.length D a w ⟨a6,q⟩ J (Region.free_spec aK ba) c (.inl ⟨O,Y⟩) (yR aj r _ _ _ (a6.set c) b cO)
    . rw[a8 O]at h
      exact Bb (z:=λ_=>True) aK g (Region.noSelect_spec aj) (λ_=>True) (λ_ _ _ _ _=>trivial) (λ_ _ _ _ _ _ _ _=>trivial)
       r.length D a w trivial trivial (Region.free_spec aK ba) c (.inr ⟨by simpa using O,rfl⟩) (yR aj r _ _ _ (a6.set c) b h)
   |
    c5=>
    simp only[uY,ii,kN]at cb;obtain⟨⟨aE,I⟩,b⟩:=cb;have g:i∈cR:=Bc;have c:i∈Region.ready .any l.toArray D:=by rw[aE];simp
    refine⟨λbh=>(by rw[bh]at aE;cases aE),λj N=>?_⟩;rw[aE]at N;have d:j=i:=DR;subst d;unfold oc;simp only[aK];by_cases O:Region.wanted o (yielded l.toArray a.tmps)=true
    . rw[bd O]at h⊢
      rw[bd g];exact Oper.wp_mono (λaI X cl=>⟨cl.1,yR aj r _ _ _ (a6.set c) b cl.2⟩) h
    . rw[a8 O]at h⊢
      exact yR aj r _ _ _ (a6.set c) b h
theorem aqC{id:Nat}{Q:Exit->Act->World->Prop}{a:Act}{w:World}{l:List Oper}(cR R:List Nat)(U:List (Nat×mQ))(C:World->Prop)(bf:P.follows .mixedOrders=true)(cb:yQ l cR R U=true)
 (h:oB P l.toArray (Q .normal) R C U a {w with drawn:=w.drawn+1}):(Code.region id l.toArray true).wp P Q a w:=by
 simp only[yQ,ii]at cb;obtain⟨⟨aj,av⟩,b⟩:=cb;have W:U.length=l.length:=lA av;refine wp_region_any bf ?_;have:=HN (Q:=Q) (Z:=Q .normal) (λ_ _ h=>h) _ _ _ _ (yR aj U _ a _ NY b h);rw[W]at this;simpa using this
variable{F:World}{n:Nat}{I:eT}{M H N:List aq}{Q:Exit->Act->World->Prop}{op:Op}{bD:TypeId}{pos:String}{J:Array Edge}{g:Option (Nat×Bool)}{i:Nat}{U:List (Nat×mQ)}
section
variable{v:Value}{d:Nat}{p:Value->List aq->Prop}
def cY(P:Program)(F:World)(n:Nat)(E:Array Oper)(R:List Nat)(U:List (Nat×mQ))(I:eT)(M N:List aq)(Z:Act->World->Prop):Prop:=
 ∀a w,hn n I a->dm F M w->oB P E Z R (dm F N) U a w
inductive hY(E:Array Oper)(I:eT):Option (Nat×Bool)->Bool->Prop
 |none:hY E I none true
 |yes {j z:Nat} {R c:Bool}:(E[j]?).bind (·.dst)=some z->gN I z=some (.bool c)->c=R->hY E I (some (j,R)) true
 |no {j z:Nat} {R c:Bool}:(E[j]?).bind (·.dst)=some z->gN I z=some (.bool c)->c=(!R)->hY E I (some (j,R)) false
 |un {j z:Nat} {R:Bool}:(E[j]?).bind (·.dst)=some z->gN I z=some undef->hY E I (some (j,R)) false
def hY.wanted{o:Oper}{a:Act}{b:Bool}(h:hY E I o.guard b)(aj:hn n I a):Region.wanted o (yielded E a.tmps)=b:=by
 unfold Region.wanted
 generalize o.guard=g at h
 cases h with
 |none=>rfl
 |yes h1 h2 aN=>simp only[yielded,h1,k3,aj.val _ _ h2,aN];simp
 |@no j z R c h1 h2 aN=>subst aN;simp only[yielded,h1,k3,aj.val _ _ h2];cases R<;>rfl
 |un h1 h2=>simp only[yielded,h1,k3,aj.val _ _ h2];rfl
def go_split{j z:Nat}{c:Bool}(a:(E[j]?).bind (·.dst)=some z)(d:gN I z=some (.bool c))(h1:c=true->cY P F n E R U I M N Z)(h2:c=false->cY P F n E R U I M N Z):cY P F n E R U I M N Z:=by
 cases c;exact h2 rfl;exact h1 rfl
def go_nil(h:GE F n I M Z):cY P F n E R [] I M N Z:=h
def go_v(aK:E[i]?=some rz)(O:hY E I g true)(aL:Nat.blt d n=true)(Y:b0 P F n op bD I M v)(h:cY P F n E R U oL M N Z):cY P F n E R ((i,.loc)::U) I M N Z:=
 λa w aj s=>by
  simp only[oB,aK,hY.wanted (o:=⟨some d,op,bD,pos,J,g⟩) O aj,fi];exact⟨v,Y _ _ _ _ _ _ aj s,h _ _ rr s⟩
def go_vs(aK:E[i]?=some rz)(O:hY E I g true)(aL:Nat.blt d n=true)(Y:b0 P F n op bD I N v)(a6:∀h,Sat M h->Sat N h)(h:cY P F n E R U oL M N Z):cY P F n E R ((i,.bI)::U) I M N Z:=
 λa w aj s=>by
  simp only[oB,aK,hY.wanted (o:=⟨some d,op,bD,pos,J,g⟩) O aj,fi];exact⟨s.imp a6,v,λX aD=>Y _ _ _ _ _ _ aj aD,h _ _ rr s⟩
def go_skip{k:mQ}{d:Nat}(aK:E[i]?=some rz)(O:hY E I g false)(aL:Nat.blt d n=true)(h:cY P F n E R U AW M N Z):cY P F n E R ((i,k)::U) I M N Z:=
 λa w aj s=>by
  simp only[oB,aK,hY.wanted (o:=⟨some d,op,bD,pos,J,g⟩) O aj,eP,ep];exact h _ _ yv s
def go_u(aK:E[i]?=some Mb)(O:hY E I g true)(Y:df P F n op bD I M H)(a6:i∈R->∀h,Sat H h->Sat N h)(h:cY P F n E R U I H N Z):cY P F n E R ((i,.c5)::U) I M N Z:=
 λa w aj s=>by
  obtain⟨X,aE,aD⟩:=Y a w none pos J g aj s;simp only[oB,aK,hY.wanted (o:=⟨none,op,bD,pos,J,g⟩) O aj,fi,Oper.wp,aE,Oper.upon];exact⟨λC=>aD.imp (a6 C),h _ _ aj aD⟩
def go_n(aK:E[i]?=some rz)(O:hY E I g true)(aL:Nat.blt d n=true)(Y:c4 P F n op bD I M p)(h:∀v H,p v H->CV/\cY P F n E R U oL H N Z):cY P F n E R ((i,.c5)::U) I M N Z:=
 λa w aj s=>by
  obtain⟨v,H,X,aE,hp,aD⟩:=Y a w (some d) pos J g aj s;simp only[oB,aK,hY.wanted (o:=⟨some d,op,bD,pos,J,g⟩) O aj,fi,Oper.wp,aE,Oper.upon];exact⟨λC=>aD.imp CW,(h v H hp).2 _ _ rr aD⟩
def go_c(aK:E[i]?=some rz)(O:hY E I g true)(aL:Nat.blt d n=true)(Y:di P F n op bD I M p)(h:∀v H,p v H->CV/\cY P F n E R U oL H N Z):cY P F n E R ((i,.c5)::U) I M N Z:=
 λa w aj s=>by
  obtain⟨f,args,aE,g7⟩:=Y a w (some d) pos J g aj s;simp only[oB,aK,hY.wanted (o:=⟨some d,op,bD,pos,J,g⟩) O aj,fi,Oper.wp,aE,Oper.upon];exact g7.mono λe X ⟨v,H,V,hp,aD⟩=>by subst V;exact⟨λC=>aD.imp CW,(h v H hp).2 _ _ rr aD⟩
theorem hU{id:Nat}{l:List Oper}(cR R:List Nat)(U:List (Nat×mQ))(N:List aq)(bf:P.follows .mixedOrders=true)(cb:yQ l cR R U=true)
 (h:cY P F n l.toArray R U I M N (Q .normal)):G P F n HR I M Q:=
 λa w aj s=>aqC cR R U _ bf cb (h a _ aj s.drew)
end
end
end Go.L
