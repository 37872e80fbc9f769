import Derived.Test.YtnnhpnccfnghdaaGreatA0
import Derived.StillTail
import Derived.Deep.Quiet
set_option linter.all false
namespace Go.L
abbrev eQ:=Nat->Option Obj
section
variable(h k:eQ)(b:Nat)(o:Obj)
abbrev al:=eQ->Prop
def fW(w:World):eQ:=λb=>w.heap[b]?
def ma:Prop:=∀b,h b=none\/k b=none
def join:eQ:=λb=>(h b).or (k b)
def j0:eQ:=λx=>if x=b then some o else h x
def Sat:List al->al
 |[],_=>True
 |A::r,h=>∃h1 h2,ma h1 h2/\h=join h1 h2/\A h1/\Sat r h2
def eD:al:=λh=>h b=some o
end
section
variable{a h1 h2:eQ}{b:Nat}{A B:al}{o:Obj}{l m r:List al}{h:eQ}
def MU(l:List al):al:=Sat l
theorem ma.symm{h k:eQ}(d:ma h k):ma k h:=λb=>(d b).symm
theorem join_comm{k:eQ}(d:ma h k):join h k=join k h:=by
 funext b;rcases d b with e|e<;>cases h1:h b<;>cases h2:k b<;>simp_all[join]
theorem join_assoc(a b c:eQ):join (join a b) c=join a (join b c):=by
 funext x;cases h:a x<;>simp[join,h]
theorem yt{b c:eQ}:ma (join a b) c↔ma a c/\ma b c:=by
 constructor
 . intro h;constructor<;>intro x<;>rcases h x with e|e
   . left;cases aX:a x<;>simp_all[join]
   . right;exact e
   . left;cases aX:a x<;>simp_all[join]
   . right;exact e
 . intro⟨h1,h2⟩ x
   rcases h1 x with e|e
   . rcases h2 x with f|f
     . left;simp[join,e,f]
     . right;exact f
   . right;exact e
theorem rI{b c:eQ}:ma a (join b c)↔ma a b/\ma a c:=
 ⟨λh=>let⟨x,y⟩:=yt.1 h.symm;⟨x.symm,y.symm⟩,fun⟨x,y⟩=>(yt.2 ⟨x.symm,y.symm⟩).symm⟩
theorem Sat.more:∀{l:List al} {h k:eQ},ma h k->Sat l h->Sat l (join h k)
 |[],_,_,_,_=>trivial
 |
  _::_,h,k,d,⟨h1,h2,a,e,aX,aF⟩=>by
  subst e;obtain⟨d1,o⟩:=yt.1 d;exact⟨h1,join h2 k,rI.2 ⟨a,d1⟩,join_assoc _ _ _,aX,Sat.more o aF⟩
theorem Sat.swap(s:Sat (A::B::r) h):Sat (B::A::r) h:=by
 obtain⟨h1,h2,d,rfl,aX,aN,bA,p,rfl,aA,aF⟩:=s;obtain⟨a,b⟩:=rI.1 d;refine⟨aN,join h1 bA,rI.2 ⟨a.symm,p⟩,?_,aA,h1,bA,b,rfl,aX,aF⟩;rw[<-join_assoc,join_comm a,join_assoc]
theorem Sat.tail{m:List al}(f:∀h,Sat r h->Sat m h){h:eQ}(s:Sat (A::r) h):Sat (A::m) h:=
 let⟨h1,h2,d,e,aX,aF⟩:=s
 ⟨h1,h2,d,e,aX,f _ aF⟩
theorem Sat.head(f:∀h,A h->B h){h:eQ}(s:Sat (A::r) h):Sat (B::r) h:=
 let⟨h1,h2,d,e,aX,aF⟩:=s
 ⟨h1,h2,d,e,f _ aX,aF⟩
theorem Sat.drop(s:Sat (A::r) h):Sat r h:=by
 obtain⟨h1,h2,d,rfl,_,aF⟩:=s;rw[join_comm d];exact Sat.more d.symm aF
theorem Sat.append:∀{l m:List al} {h k:eQ},ma h k->Sat l h->Sat m k->Sat (l++m) (join h k)
 |[],m,h,k,d,_,bf=>by rw[join_comm d];exact Sat.more d.symm bf
 |
  _::l,m,h,k,d,⟨h1,h2,a,e,aX,aF⟩,bf=>by
  subst e;obtain⟨d1,o⟩:=yt.1 d;exact⟨h1,join h2 k,rI.2 ⟨a,d1⟩,join_assoc _ _ _,aX,Sat.append o aF bf⟩
theorem Sat.split:∀{l m:List al} {h:eQ},Sat (l++m) h->∃h1 h2,ma h1 h2/\h=join h1 h2/\Sat l h1/\Sat m h2
 |[],m,h,s=>V3
 |
  _::l,m,h,⟨h1,h2,d,e,aX,aF⟩=>by
  obtain⟨aN,bA,p,rfl,aw,bf⟩:=Sat.split aF;subst e;obtain⟨J,u⟩:=rI.1 d;exact⟨join h1 aN,bA,yt.2 ⟨u,p⟩,(join_assoc _ _ _).symm,⟨h1,aN,J,rfl,aX,aw⟩,bf⟩
theorem Sat.flat:Sat (MU l::r) h↔Sat (l++r) h:=
 ⟨fun⟨_,_,d,e,aX,aF⟩=>e▸Sat.append d aX aF,λs=>let⟨h1,h2,d,e,aX,aF⟩:=Sat.split s;⟨h1,h2,d,e,aX,aF⟩⟩
theorem Sat.ex{α:Type}{A:α->al}{r:List al}{h:eQ}:Sat ((λh=>∃x,A x h)::r) h↔∃x,Sat (A x::r) h:=
 V4
theorem Sat.pure{p:Prop}{A:al}{r:List al}{h:eQ}:Sat ((λh=>p/\A h)::r) h↔p/\Sat (A::r) h:=
 V4
theorem Sat.one(s:A h):Sat [A] h:=⟨h,λ_=>none,λ_=>.inr rfl,by funext b;simp[join],s,trivial⟩
inductive hJ:al->List al->List al->Prop
 |head {A:al} {r:List al}:hJ A (A::r) r
 |tail {A B:al} {l r:List al}:hJ A l r->hJ A (B::l) (B::r)
theorem hJ.to(s:hJ A l r):∀{h:eQ},Sat l h->Sat (A::r) h:=by
 induction s with
 |head=>exact λh=>h
 |tail _ L=>exact λh=>Sat.swap (Sat.tail (λ_=>L) h)
theorem hJ.from(s:hJ A l r):∀{h:eQ},Sat (A::r) h->Sat l h:=by
 induction s with
 |head=>exact λh=>h
 |tail _ L=>exact λh=>Sat.tail (λ_=>L) (Sat.swap h)
inductive Part:List al->List al->List al->Prop
 |nil {l:List al}:Part [] l l
 |cons {A:al} {m l g6 r:List al}:hJ A l g6->Part m g6 r->Part (A::m) l r
theorem Part.to{m l r:List al}(p:Part m l r):∀{h:eQ},Sat l h->Sat (m++r) h:=by
 induction p with
 |nil=>exact λh=>h
 |cons s _ L=>exact λh=>Sat.tail (λ_=>L) (s.to h)
inductive Drop:List al->List al->Prop
 |refl {l:List al}:Drop l l
 |skip {A:al} {l r:List al}:Drop l r->Drop (A::l) r
theorem Drop.fg(d:Drop l r):∀{h:eQ},Sat l h->Sat r h:=by
 induction d with
 |refl=>exact λh=>h
 |skip _ L=>exact λh=>L (Sat.drop h)
inductive wm:List al->List al->Prop
 |nil {l:List al}:wm l []
 |done {l r:List al}:Drop l r->wm l r
 |cons {A:al} {l g6 m:List al}:hJ A l g6->wm g6 m->wm l (A::m)
theorem wm.fg{l m:List al}(t:wm l m):∀h,Sat l h->Sat m h:=by
 induction t with
 |nil=>exact λ_ _=>trivial
 |done d=>exact λ_ h=>d.fg h
 |cons s _ L=>exact λ_ h=>Sat.tail L (s.to h)
theorem au(t:wm l m:=by repeat(first|exact .nil|exact .done .refl|(apply wm.cons;· (repeat(first|exact .head|apply hJ.tail)))|exact .done (by repeat(first|exact .refl|apply Drop.skip)))):∀h,Sat l h->Sat m h:=t.fg
theorem bN{l r:List al}(p:Part m l r:=by repeat(first|exact .nil|(apply Part.cons;· (repeat(first|exact .head|apply hJ.tail))))):Part m l r:=p
theorem eP(s:hJ A l r:=by repeat(first|exact .head|apply hJ.tail)):hJ A l r:=s
class kV(b:Nat)(M:List al)(o:outParam Obj)(u:outParam (Obj->List al)):Prop where
 get:∀{h:eQ},Sat M h->h b=some o
 set:∀{h:eQ} (S:Obj),Sat M h->Sat (u S) (j0 h b S)
theorem join_some(e:h1 b=some o):join h1 h2 b=some o:=by simp[join,e]
theorem uA{S:Obj}(e:h1 b=some o)(d:ma h1 h2):j0 (join h1 h2) b S=join (j0 h1 b S) h2/\ma (j0 h1 b S) h2:=by
 have aA:h2 b=none:=by
  rcases d b with x|x;· rw[e]at x;cases x
  . exact x
 constructor
 . funext x;by_cases ah:x=b<;>simp[j0,join,ah]
 . intro x;by_cases ah:x=b
   . subst ah;right;exact aA
   . rcases d x with y|y
     . left;simp[j0,ah,y]
     . right;exact y
instance kV.head:kV b (eD b o::r) o (λS=>eD b S::r)where
 get:=fun⟨_,_,_,e,aX,_⟩=>e▸join_some aX
 set:=λS ⟨h1,h2,d,e,aX,aF⟩=>by
  subst e;obtain⟨aC,d1⟩:=uA (S:=S) aX d;exact⟨j0 h1 b S,h2,d1,aC,by simp[eD,j0],aF⟩
instance kV.tail{o:Obj}{u:Obj->List al}[i:kV b r o u]:kV b (A::r) o (λS=>A::u S)where
 get:=λs=>i.get uB
 set:=λS ⟨h1,h2,d,e,aX,aF⟩=>by
  subst e;have aA:=i.get aF;have p:=d.symm;obtain⟨aC,d1⟩:=uA (S:=S) aA p;refine⟨h1,j0 h2 b S,d1.symm,?_,aX,i.set S aF⟩;rw[join_comm d,aC,join_comm d1]
structure dt(H:World)(M:List al)(w:World):Prop where
 os:w.os=H.os
 tape:w.tape=H.tape
 output:w.output=H.output
 size:H.heap.size<=w.heap.size
 fg:Sat M (fW w)
end
variable{H:World}{M I:List al}{w:World}
def dt.imp(f:∀h,Sat M h->Sat I h)(s:dt H M w):dt H I w:=⟨s.os,s.tape,s.output,s.size,f _ s.fg⟩
def dt.drew(s:dt H M w):dt H M MV:=⟨s.os,s.tape,s.output,s.size,s.fg⟩
def ant(w:World)(o:Obj):fW {w with heap:=w.heap.push o}=join (λb=>if b=w.heap.size then some o else none) (fW w):=by
 funext b;simp only[fW,join,Array.getElem?_push];by_cases h:b=w.heap.size<;>simp[h]
def dt.new(s:dt H M w)(o:Obj):dt H (eD w.heap.size o::M) {w with heap:=w.heap.push o}:=by
 refine⟨s.os,s.tape,s.output,by have:=s.size;simp;omega,?_⟩;refine⟨λb=>if b=w.heap.size then some o else none,fW w,λb=>?_,ant w o,by simp[eD],s.fg⟩;by_cases h:b=w.heap.size
 . subst h;right;simp[fW]
 . left;simp[h]
def V5{w:World}{b:Nat}{o:Obj}(h:fW w b=some o):b<w.heap.size:=by
 rcases rY b w.heap.size with x|x
 . exact x
 . simp[fW,G6 x]at h
def wo{w:World}{b:Nat}{o:Obj}(f:Obj->Obj)(h:fW w b=some o):fW {w with heap:=w.heap.modify b f}=j0 (fW w) b (f o):=by
 funext x;simp only[fW,j0,Array.getElem?_modify]at*;by_cases ah:x=b
 . subst ah;simp[h]
 . rw[a7 (Ne.symm ah),a7 ah]
def Dq{w:World}{b:Nat}{o:Obj}(S:Obj)(h:fW w b=some o):fW {w with heap:=w.heap.setIfInBounds b S}=j0 (fW w) b S:=by
 have aA:=V5 h;funext x;simp only[fW,j0,MW]at*;by_cases ah:x=b
 . subst ah;simp[aA]
 . rw[a7 (Ne.symm ah),a7 ah]
def dt.set{b:Nat}{o:Obj}{u:Obj->List al}[i:kV b M o u](s:dt H M w)(S:Obj):dt H (u S) {w with heap:=w.heap.setIfInBounds b S}:=
 ⟨s.os,s.tape,s.output,by have:=s.size;simpa using this,by rw[Dq S (i.get s.fg)];exact i.set _ s.fg⟩
def dt.heap{b:Nat}{o:Obj}{u:Obj->List al}[i:kV b M o u](s:dt H M w):w.heap[b]?=some o:=i.get s.fg
abbrev e6:=List (Nat×Value)
def gN:e6->Nat->Option Value
 |[],_=>none
 |(k,v)::r,t=>cond (Nat.beq k t) (some v) (gN r t)
def cm(J:e6):Operand->Option Value
 |.tmp t=>gN J t
 |.const v=>some v
 |.global g=>some (.pointer (some ⟨g,0,none⟩))
 |.func f=>some (.func (.func f) #[] #[])
def tu(J:e6):List Operand->Option (List Value)
 |[]=>some []
 |
  x::r=>match cm J x,tu J r with
  |some v,some cg=>some (v::cg)
  |_,_=>none
structure hl(n:Nat)(J:e6)(a:Act):Prop where
 size:a.tmps.size=n
 defers:a.defers=[]
 val:∀t v,gN J t=some v->a.tmps[t]?=some v
variable{n:Nat}{J:e6}{a:Act}
def hl.eval{x:Operand}{v:Value}(h:hl n J a)(e:cm J x=some v):a.eval x=v:=by
 cases x<;>simp only[cm,Option.some.injEq]at e
 . have:=h.val _ _ e;simp[Act.eval,Dn,this]
 . exact e
 . exact e
 . exact e
def hl.put{d:Nat}(v:Value)(h:hl n J a)(aS:Nat.blt d n=true):hl n n0 (a.put (some d) v):=by
 have b:d<n:=by simpa[yu]using aS
 refine⟨by simp[Act.put,h.size],by simp[Act.put,h.defers],λt u e=>?_⟩;simp only[gN]at e;simp only[Act.put,MW];by_cases U:d=t
 . subst U
   have:Nat.beq d d=true:=VY d;rw[this]at e;simp at e;simp[h.size,b,e]
 . have:Nat.beq d t=false:=by
    cases aA:Nat.beq d t with
    |false=>rfl
    |true=>exact absurd (lr aA) U
   rw[this]at e;rw[a7 U];exact h.val _ _ e
def hl.Ac{a:Act}{n:Nat}{J:e6}(h:hl n J a):∀{xs:List Operand} {cg:List Value},tu J xs=some cg->xs.map a.eval=cg
 |[],cg,e=>by simp[tu]at e;simp[e]
 |
  x::r,cg,e=>by
  simp only[tu]at e;split at e
  . rename_i v b aC aV
    simp at e;subst e;simp[h.eval aC,hl.Ac h aV]
  . cases e
inductive bd:e6->e6->Prop
 |nil {J:e6}:bd [] J
 |cons {t:Nat} {v:Value} {r J:e6}:gN J t=some v->bd r J->bd ((t,v)::r) J
def bd.val{r J:e6}(k:bd r J):∀t v,gN r t=some v->gN J t=some v:=by
 induction k with
 |nil=>intro t v e;simp[gN]at e
 |
  @cons t0 v0 r J gJ _ L=>
  intro t v e;simp only[gN]at e;cases aA:Nat.beq t0 t with
  |true=>rw[aA]at e;simp at e;have:=lr aA;subst this;subst e;exact gJ
  |false=>rw[aA]at e;simp at e;exact L _ _ e
def hl.jC{r:e6}(h:hl n J a)(k:bd r J):hl n r a:=⟨h.size,h.defers,λ_ _ e=>h.val _ _ (k.val _ _ e)⟩
section
variable{a b:Int}{p:Prop}
def ani(h:decide (a<b)=false):b<=a:=by simpa using h
def anj(h:decide (a<=b)=false):b<a:=by simpa using h
def ank[Decidable p](h:decide p=false):¬p:=of_decide_eq_false h
def anl[Decidable p](h:(!decide p)=true):¬p:=by simpa using h
def anm[Decidable p](h:(!decide p)=false):p:=by simpa using h
end
def ann{b:Bool}(h:(!b)=true):b=false:=by simpa using h
def ano{b:Bool}(h:(!b)=false):b=true:=by simpa using h
class oH(A:Prop)(B:outParam Prop):Prop where
 ai:A->B
def bW{A B:Prop}[i:oH A B](h:A):B:=i.ai h
instance(priority:=10){A:Prop}:oH A A:=⟨id⟩
instance(priority:=20){b:Bool}:oH ((!b)=false) (b=true):=⟨ano⟩
instance(priority:=30){b:Bool}:oH ((!b)=true) (b=false):=⟨ann⟩
instance(priority:=40){p:Prop}[Decidable p]:oH ((!decide p)=false) p:=⟨anm⟩
instance(priority:=50){p:Prop}[Decidable p]:oH ((!decide p)=true) (¬p):=⟨anl⟩
instance(priority:=80){p:Prop}[Decidable p]:oH (decide p=false) (¬p):=⟨ank⟩
instance(priority:=90){a b:Int}:oH (decide (a<=b)=false) (b<a):=⟨anj⟩
instance(priority:=100){a b:Int}:oH (decide (a<b)=false) (b<=a):=⟨ani⟩
instance(priority:=110){p:Prop}[Decidable p]:oH (decide p=true) p:=⟨of_decide_eq_true⟩
instance(priority:=200){b:Bool}{B:Prop}[i:oH (b=false) B]:oH (b=!true) B:=⟨i.ai⟩
instance(priority:=210){b:Bool}{B:Prop}[i:oH (b=true) B]:oH (b=!false) B:=⟨i.ai⟩
section
variable{P:Program}{H:World}{n:Nat}
def G(P:Program)(H:World)(n:Nat)(c:Code)(J:e6)(M:List al)(Q:Exit->Act->World->Prop):Prop:=
 ∀a w,hl n J a->dt H M w->c.wp P Q a w
def cJ(P:Program)(H:World)(n:Nat)(E:Array Oper)(l:List Oper)(J:e6)(M:List al)(Q:Exit->Act->World->Prop):Prop:=
 ∀a w,hl n J a->dt H M w->wpList P E Q l a w
def GE(H:World)(n:Nat)(J:e6)(M:List al)(F:Act->World->Prop):Prop:=
 ∀a w,hl n J a->dt H M w->F a w
abbrev aH(x:Value)(l:List al):Value->List al->Prop:=λu I=>u=x/\I=l
def ab(P:Program)(f:FuncId)(args:List Value)(M:List al)(post:Value->List al->Prop):Prop:=
 ∀
  (H:World) (D:List al) (w:World),dt H (M++D) w->
  Calls P f args.toArray w λe X=>∃v I,e=.returned v/\post v I/\dt H (I++D) X
def AJ(P:Program)(H:World)(fn:Func)(post:Value->List al->Prop)(D:List al):Exit->Act->World->Prop:=
 bodyPost P fn λe X=>∃v I,e=.returned v/\post v I/\dt H (I++D) X
variable{J:e6}{M I:List al}{Q:Exit->Act->World->Prop}{c c1 bq:Code}{E:Array Oper}
section
variable{a:Act}{K:Act->World->Prop}{x:Operand}{bv:Type}{id:Nat}{l:List Oper}
def ab.mono{f:FuncId}{args:List Value}{post z:Value->List al->Prop}(h:ab P f args M post)(g:∀v I,post v I->z v I):ab P f args M z:=
 λH D w s=>(h H D w s).mono λ_ _ ⟨v,I,e,p,s⟩=>⟨v,I,e,g _ _ p,s⟩
def nu(f:∀h,Sat M h->Sat I h)(h:G P H n c J I Q):G P H n c J M Q:=λa w ai s=>h a w ai (s.imp f)
def q6(f:∀h,Sat M h->Sat I h)(h:cJ P H n E l J I Q):cJ P H n E l J M Q:=λa w ai s=>h a w ai (s.imp f)
def uz{F:Act->World->Prop}(f:∀h,Sat M h->Sat I h)(h:GE H n J I F):GE H n J M F:=λa w ai s=>h a w ai (s.imp f)
def hy(h:G P H n c1 J M (Exit.then (bq.wp P Q) Q)):G P H n (.seq c1 bq) J M Q:=λa w ai s=>wp_seq qb
def Dh(a2:Act->World->Prop)(h:G P H n c1 J M (Exit.then a2 Q))(h2:∀a w,a2 a w->bq.wp P Q a w):G P H n (.seq c1 bq) J M Q:=
 λa w ai s=>wp_seq_k (P:=P) λ_ cV=>wp_mono qb λe a w q=>by cases e<;>first|exact cV _ _ (h2 _ _ q)|exact q
def Di{w:World}(h:G P H n c J M Q)(ai:hl n J a)(s:dt H M w):c.wp P Q a w:=h a w ai s
def hz(h:G P H n bq J M Q):GE H n J M (Exit.then (bq.wp P Q) Q .normal):=h
theorem yq(h:GE H n J M (Q .normal)):GE H n J M (Exit.inBlock id Q .normal):=h
theorem VX(h:GE H n J M (Q .normal)):GE H n J M (Exit.inBlock id Q (.exit id)):=λa w ai s=>by
 simp only[Exit.inBlock,fu];exact h a w ai s
theorem anp{b:Nat}(V:Nat.beq b id=false)(h:GE H n J M (Q (.exit b))):GE H n J M (Exit.inBlock id Q (.exit b)):=λa w ai s=>by
 have:b≠id:=λe=>by subst e;rw[VY]at V;cases V
 simp only[Exit.inBlock,a7 this];exact h a w ai s
theorem MR(h:GE H n J M (Q (.exit id))):GE H n J M (Exit.then K Q (.exit id)):=h
def yr(h:GE H n J M (Q .ret)):GE H n J M (Exit.then K Q .ret):=h
theorem Dj(h:GE H n J M (Q .ret)):GE H n J M (Exit.inBlock id Q .ret):=h
theorem ts(h:G P H n c J M (Exit.inBlock id Q)):G P H n (.block id c) J M Q:=λa w ai s=>wp_block qb
def q8(h:GE H n J M (Q .normal)):G P H n .skip J M Q:=λa w ai s=>wp_skip qb
theorem VZ(h:GE H n J M (Q (.exit id))):G P H n (.exit id) J M Q:=λa w ai s=>wp_exit qb
def oI(h:GE H n J M (Q .ret)):G P H n .ret J M Q:=λa w ai s=>wp_ret qb
def mT{b:Bool}(ah:cm J x=some (.bool b))(U:b=true->G P H n c1 J M Q)(ba:b=false->G P H n bq J M Q):G P H n (.cond x c1 bq) J M Q:=
 λa w ai s=>wp_cond_split (ai.eval ah) (λe=>U e a w ai s) (λe=>ba e a w ai s)
def v8(ah:cm J x=some hI)(h:G P H n c1 J M Q):G P H n (.cond x c1 bq) J M Q:=
 λa w ai s=>wp_cond_true (ai.eval ah) qb
def tl(ah:cm J x=some gP)(h:G P H n bq J M Q):G P H n (.cond x c1 bq) J M Q:=
 λa w ai s=>wp_cond_false (ai.eval ah) qb
theorem jg(h:cJ P H n l.toArray l J M Q):G P H n (.region id l.toArray false) J M Q:=λa w ai s=>wp_region_lit qb
def ie(h:GE H n J M (Q .normal)):cJ P H n E [] J M Q:=h
theorem hb(K:bv->Prop)(d:bv->e6)(g:bv->List al)(i:bv->Nat)(g9:bv)(bi:K g9)(hk:bd (d g9) J)(B:∀h,Sat M h->Sat (g g9) h)
 (round:∀x,K x->G P H n c (d x) (g x) (Exit.then (λa w=>∃y,K y/\i y<i x/\hl n (d y) a/\dt H (g y) w) Q)):G P H n (.loop c) J M Q:=by
 intro a w ai s;have key:∀m x a w,i x=m->K x->hl n (d x) a->dt H (g x) w->
  ∀b k cs,∃e aD X,Q e aD X/\Arrives P (lone (b.at a (.code c::.inLoop c::k)) cs w) b k cs e aD X:=by
  intro m
  induction m using Nat.strongRecOn with
  |
   _ m L=>
   intro x a w bf bK ai s b k cs;obtain⟨e,p,q,bt,f⟩:=round x bK a w ai s b (.inLoop c::k) cs;cases e with
   |
    normal=>
    obtain⟨y,j,d4,o,r⟩:=bt;obtain⟨t,u,v,z,C⟩:=L (i y) (bf▸d4) y p q rfl j o r b k cs;exact⟨t,u,v,z,.of_steps (Steps.trans f (.one step_inLoop)) C⟩
   |exit id=>exact⟨_,p,q,bt,.pass (x:=.inLoop c) rfl Dk f⟩
   |goto l=>exact⟨_,p,q,bt,.pass (x:=.inLoop c) rfl Dk f⟩
   |ret=>exact⟨_,p,q,bt,.pass (x:=.inLoop c) rfl Dk f⟩
   |panic D=>exact⟨_,p,q,bt,.pass (x:=.inLoop c) rfl Dk f⟩
   |outgrown=>exact⟨_,p,q,bt,.pass (x:=.inLoop c) rfl Dk f⟩
 intro b k cs;obtain⟨e,aD,X,bt,f⟩:=key _ g9 a w rfl bi (ai.jC hk) (s.imp B) b k cs;exact⟨e,aD,X,bt,.of_steps (.one step_loop) f⟩
theorem gg{K:bv->Prop}{d:bv->e6}{g:bv->List al}{i:bv->Nat}{m:Nat}(y:bv)(bi:K y)(bf:i y<m)(hk:bd (d y) J)(B:∀h,Sat M h->Sat (g y) h):
 GE H n J M (Exit.then (λa w=>∃y,K y/\i y<m/\hl n (d y) a/\dt H (g y) w) Q .normal):=
 λ_ _ ai s=>⟨y,bi,bf,ai.jC hk,s.imp B⟩
theorem V0(args:List Value)(n:Nat)(h:args.length<=n):
 hl n (args.zipIdx.map fun(v,i)=>(i,v)) {tmps:=args.toArray++Array.replicate (n -args.toArray.size) undef,defers:=[]}:=by
 refine⟨by simp;omega,rfl,λt v e=>?_⟩;have key:∀(l:List Value) (k:Nat) (t:Nat) (v:Value),gN ((l.zipIdx k).map fun(v,i)=>(i,v)) t=some v->k<=t/\l[t -k]?=some v:=by
  intro l
  induction l with
  |nil=>intro k t v e;simp[gN]at e
  |
   cons x l L=>
   intro k t v e;simp only[wl,gx,gN]at e;cases aA:Nat.beq k t with
   |true=>rw[aA]at e;simp at e;have:=lr aA;subst this;simp[e]
   |
    false=>
    rw[aA]at e;simp at e;obtain⟨h1,h2⟩:=L _ _ _ e;refine⟨by omega,?_⟩;rw[show t -k=(t -(k+1))+1 by omega];simpa using h2
 obtain⟨_,h2⟩:=key args 0 t v (by simpa using e);rw[Dl]at h2;have:t<args.length:=by
  rcases rY t args.length with x|x
  . exact x
  . rw[oJ x]at h2;cases h2
 simp only[anq,x2,this,fu,MS];exact h2
theorem kq{f:FuncId}{fn:Func}{args:List Value}{post:Value->List al->Prop}(ba:P.funcs[f]?=some fn)(aA:fn.body=some c){V:Nat}(aO:fn.ntmps=V)(aw:Nat.ble args.length V=true)
 (h:∀H D,G P H V c (args.zipIdx.map fun(v,i)=>(i,v)) (M++D) (AJ P H fn post D)):ab P f args M post:=by
 intro H D w s;subst aO;exact calls_of_wp ba aA (h H D _ _ (V0 args _ (Dm aw)) s)
def G3{t:Nat}{v:Value}(ai:hl n J a)(e:gN J t=some v):a.tmps.getD t undef=v:=by
 have:=ai.val _ _ e;simp[Dn,this]
end
variable{fn:Func}{post:Value->List al->Prop}{D:List al}
theorem xQ{v:Value}{e:Exit}(Y:e=.ret\/e=.normal)(aF:∀a w,hl n J a->dt H M w->(results fn a.tmps).run P w=.ok v w)(I:List al)(hp:post v I)(B:∀h,Sat M h->Sat (I++D) h):
 GE H n J M vK:=λa w ai s=>by
 rcases Y with rfl|rfl
 . exact bodyPost_ret (aF a w ai s) ai.defers ⟨v,I,rfl,hp,s.imp B⟩
 . exact bodyPost_end (aF a w ai s) ai.defers ⟨v,I,rfl,hp,s.imp B⟩
def Dp{e:Exit}(Y:e=.ret\/e=.normal)(ba:fn.results=#[])(I:List al)(hp:post eN I)(B:∀h,Sat M h->Sat (I++D) h):GE H n J M vK:=
 xQ Y (λ_ _ _ _=>results_none ba _ _ _) I hp B
def jq{e:Exit}(Y:e=.ret\/e=.normal){t:Nat}{v:Value}(ba:fn.results=#[.tmp t])(h1:gN J t=some v)(I:List al)(hp:post v I)(B:∀h,Sat M h->Sat (I++D) h):GE H n J M vK:=
 xQ Y (λa w ai _=>by rw[results_tmp ba,G3 ai h1]) I hp B
def V1{e:Exit}(Y:e=.ret\/e=.normal){t u:Nat}{v x:Value}(ba:fn.results=#[.tmp t,.tmp u])(h1:gN J t=some v)(h2:gN J u=some x)(I:List al)(hp:post (.tuple #[v,x]) I)(B:∀h,Sat M h->Sat (I++D) h):GE H n J M vK:=
 xQ Y (λa w ai _=>by rw[results_tmp2 ba,G3 ai h1,G3 ai h2]) I hp B
def b1(P:Program)(H:World)(n:Nat)(op:Op)(bH:TypeId)(J:e6)(M:List al)(v:Value):Prop:=
 ∀a w d pos N g,hl n J a->dt H M w->(execOp a.eval ⟨d,op,bH,pos,N,g⟩).run P w=.ok (.value v) w
variable{op:Op}{bH:TypeId}{pos:String}{N:Array Edge}{rest:List Oper}{v:Value}
def aB{d:Nat}(aS:Nat.blt d n=true)(Z:b1 P H n op bH J M v)(h:cJ P H n E rest n0 M Q):cJ P H n E G4 J M Q:=
 λa w ai s=>wpList_plain rfl λK cV=>by
  simp only[Oper.wp,Z a w (some d) pos N none ai s,Oper.upon];exact cV _ _ (h _ _ q9 s)
def dk(P:Program)(H:World)(n:Nat)(op:Op)(bH:TypeId)(J:e6)(M I:List al):Prop:=
 ∀a w d pos N g,hl n J a->dt H M w->∃X,(execOp a.eval ⟨d,op,bH,pos,N,g⟩).run P w=.ok .skip X/\dt H I X
def ko(Z:dk P H n op bH J M I)(h:cJ P H n E rest J I Q):cJ P H n E MT J M Q:=
 λa w ai s=>wpList_plain rfl λK cV=>by
  obtain⟨X,aF,aW⟩:=Z a w none pos N none ai s;simp only[Oper.wp,aF,Oper.upon];exact cV _ _ (h _ _ ai aW)
def c7(P:Program)(H:World)(n:Nat)(op:Op)(bH:TypeId)(J:e6)(M:List al)(p:Value->List al->Prop):Prop:=
 ∀a w d pos N g,hl n J a->dt H M w->∃v I X,(execOp a.eval ⟨d,op,bH,pos,N,g⟩).run P w=.ok (.value v) X/\p v I/\dt H I X
section
variable{j z:Nat}{F:Bool}{d:Nat}{p:Value->List al->Prop}
def jn(aS:Nat.blt d n=true)(Z:c7 P H n op bH J M p)(h:∀v I,p v I->cJ P H n E rest n0 I Q):cJ P H n E G4 J M Q:=
 λa w ai s=>wpList_plain rfl λK cV=>by
  obtain⟨v,I,X,aF,hp,aW⟩:=Z a w (some d) pos N none ai s;simp only[Oper.wp,aF,Oper.upon];exact cV _ _ (h v I hp _ _ q9 aW)
def iE(J:e6):Option Nat->e6
 |some d=>(d,undef)::J
 |none=>J
def anr(n:Nat):Option Nat->Bool
 |some d=>Nat.blt d n
 |none=>true
theorem hY{c:Bool}{d:Option Nat}(O:(E[j]?).bind (·.dst)=some z)(Z:gN J z=some (.bool c))
 (h1:c=F->cJ P H n E (⟨d,op,bH,pos,N,none⟩::rest) J M Q)(h2:c=(!F)->cJ P H n E rest (iE J d) M Q)(aS:anr n d=true):
 cJ P H n E (⟨d,op,bH,pos,N,some (j,F)⟩::rest) J M Q:=λa w ai s=>by
 have ag:yielded E a.tmps j=some c:=by
  unfold yielded;rw[O];simp[ai.val _ _ Z]
 by_cases a6:c=F
 . have:=h1 a6 a w ai s
   unfold wpList at this⊢;simp only[Region.wanted,ag,a6,beq_self_eq_true,fu]at this⊢;exact this
 . have r:c=(!F):=by clear ag Z h1 h2;cases c<;>cases F<;>first|rfl|exact absurd rfl a6
   have R:(some c==some F)=false:=by rw[r];cases F<;>rfl
   unfold wpList;simp only[Region.wanted,ag,R];cases d with
   |none=>exact h2 r a w ai s
   |some d=>exact h2 r _ w ys s
theorem oZ{c:Bool}{d:Option Nat}(O:(E[j]?).bind (·.dst)=some z)(Z:gN J z=some (.bool c))(a6:c=F)
 (h1:cJ P H n E (⟨d,op,bH,pos,N,none⟩::rest) J M Q):
 cJ P H n E (⟨d,op,bH,pos,N,some (j,F)⟩::rest) J M Q:=λa w ai s=>by
 have ag:yielded E a.tmps j=some c:=by
  unfold yielded;rw[O];simp[ai.val _ _ Z]
 have:=h1 a w ai s;unfold wpList at this⊢;simp only[Region.wanted,ag,a6,beq_self_eq_true,fu]at this⊢;exact this
theorem G5{c:Bool}{d:Nat}(O:(E[j]?).bind (·.dst)=some z)(Z:gN J z=some (.bool c))(a6:c=(!F))(aS:Nat.blt d n=true)
 (h2:cJ P H n E rest AK M Q):
 cJ P H n E V2 J M Q:=λa w ai s=>by
 have ag:yielded E a.tmps j=some c:=by
  unfold yielded;rw[O];simp[ai.val _ _ Z]
 have R:(some c==some F)=false:=by subst a6;cases F<;>rfl
 unfold wpList;simp only[Region.wanted,ag,R];exact h2 _ w ys s
theorem ans(O:(E[j]?).bind (·.dst)=some z)(Z:gN J z=some undef)(aS:Nat.blt d n=true)
 (h2:cJ P H n E rest AK M Q):
 cJ P H n E V2 J M Q:=λa w ai s=>by
 have ag:yielded E a.tmps j=none:=by
  unfold yielded;rw[O];simp only[k0,ai.val _ _ Z];rfl
 unfold wpList;simp only[Region.wanted,ag];exact h2 _ w ys s
def ds(P:Program)(H:World)(n:Nat)(op:Op)(bH:TypeId)(J:e6)(M:List al)(p:Value->List al->Prop):Prop:=
 ∀
  a w d pos N g,hl n J a->dt H M w->∃f args,(execOp a.eval ⟨d,op,bH,pos,N,g⟩).run P w=.ok (.enter f args) w/\
  Calls P f args w λe X=>∃v I,e=.returned v/\p v I/\dt H I X
def cn(aS:Nat.blt d n=true)(Z:ds P H n op bH J M p)(h:∀v I,p v I->cJ P H n E rest n0 I Q):cJ P H n E G4 J M Q:=
 λa w ai s=>wpList_plain rfl λK cV=>by
  obtain⟨f,args,aF,a6⟩:=Z a w (some d) pos N none ai s;simp only[Oper.wp,aF,Oper.upon];exact a6.mono λe X ⟨v,I,Y,hp,aW⟩=>by subst Y;exact cV _ _ (h v I hp _ _ q9 aW)
end
end
section
variable(b:Nat){P:Program}{α:Type}{f:FuncId}
abbrev aa(bH:TypeId)(l:List Value):al:=eD b (.cells l.toArray bH (0,0))
abbrev ptr(bY:Nat):Value:=.pointer (some ⟨b,bY,none⟩)
def uT:TypeDesc->Bool
 |.struct _|.array _ _=>true
 |_=>false
class uU(P:Program)(t:TypeId)(k:outParam IntKind):Prop where
 out:P.underlying t=some (.int k)
class HM(P:Program)(t:TypeId):Prop where
 out:P.underlying t=some .bool
class uV(P:Program)(t:TypeId):Prop where
 out:∃e,P.underlying t=some (.pointer e)
class A4(P:Program)(t:TypeId):Prop where
 out:P.underlying t=some .string
class e3(P:Program)(t:TypeId):Prop where
 out:∃d,P.underlying t=some d/\uT d=false
 size:∃i,P.info? t=some i/\i.size=1
class j8(P:Program)(t:TypeId)(aZ:outParam Nat):Prop where
 out:∃d,P.underlying t=some d/\uT d=true
 size:∃i,P.info? t=some i/\i.size=aZ
class bS(P:Program)(s:TypeId)(f:Nat)(bY:outParam Nat):Prop where
 out:∃gu I i,P.underlying s=some (.struct gu)/\gu[f]?=some I/\I.offset=bY/\P.info? I.type=some i/\i.size≠0
class A5(P:Program)(t:TypeId)(len aZ:outParam Nat):Prop where
 out:∃e i,P.underlying t=some (.array len e)/\P.info? e=some i/\i.size=aZ
class jU(P:Program)(t:TypeId)(e:outParam TypeId)(aZ:outParam Nat):Prop where
 out:∃i,P.underlying t=some (.slice e)/\P.info? e=some i/\i.size=aZ
class fb(P:Program)(f:FuncId):Prop where
 out:∃fn c,P.funcs[f]?=some fn/\fn.body=some c/\(fn.name == "runtime.NumGoroutine")=false
def pO(o:Option α)(p:α->Bool):Bool:=match o with
 |some x=>p x
 |none=>false
def qj{o:Option α}{p:α->Bool}(h:pO o p=true):∃x,o=some x/\p x=true:=by
 cases o with
 |none=>cases h
 |some x=>exact⟨x,rfl,h⟩
theorem asI(h:pO P.funcs[f]? (λfn=>fn.body.isSome&&!(fn.name == "runtime.NumGoroutine"))=true:=by kernel_rfl):fb P f:=by
 obtain⟨fn,h1,h2⟩:=qj h;obtain⟨h2,aN⟩:=DM.1 h2;obtain⟨c,h2⟩:=RG.1 h2;exact⟨fn,c,h1,h2,by simpa using aN⟩
theorem fl(h:fb P f:=by first|infer_instance|exact asI):fb P f:=h
end
section
variable{P:Program}{H w:World}{n:Nat}{J:e6}{M:List al}{bH:TypeId}
section
variable{f:FuncId}{c:Operand}{t dr:TypeId}{i:TypeInfo}{x y:Operand}{xs:List Operand}{k Y:IntKind}{b bY:Nat}{z:Array TypeId}{p q:Int}{e:TypeId}(r:Int){l V cg:List Value}{u:Obj->List al}{pre D:List al}{v:Value}{aZ:Nat}{post:Value->List al->Prop}{d:TypeDesc}{R:Nat×Nat}
def gG(h:P.underlying t=some d)(w:World):(underlying t).run P w=.ok d w:=by simp[underlying,h]
def Ih(h:P.info? t=some i)(w:World):(typeInfo t).run P w=.ok i w:=by simp[typeInfo,h]
def jP(h:P.info? t=some i)(w:World):(sizeOf t).run P w=.ok i.size w:=by simp[sizeOf,Ih h]
def vQ{F:Value}(h:P.info? t=some i)(T:i.zero=some F)(w:World):(zeroValue t).run P w=.ok F w:=by simp[zeroValue,Ih h,T]
def DQ(h:P.underlying t=some d)(h2:uT d=false)(w:World):(isAgg t).run P w=.ok false w:=by
 cases d<;>simp[uT]at h2<;>simp[isAgg,gG h]
def Af(h:P.underlying t=some d)(h2:uT d=true)(w:World):(isAgg t).run P w=.ok true w:=by
 cases d<;>simp[uT]at h2<;>simp[isAgg,gG h]
def j3(h:cm J x=some v):b1 P H n (.move x) bH J M v:=λa w d pos N g ai _=>by
 simp[execOp,ai.eval h]
def mq(h:cm J x=some v):b1 P H n (.assign x) bH J M v:=λa w d pos N g ai _=>by
 simp[execOp,ai.eval h]
def mm{z:Addr}(h:cm J x=some DZ):b1 P H n (.nilCheck x) bH J M DZ:=λa w d pos N g ai _=>by
 simp[execOp,ai.eval h]
def mX{s:TypeId}{x:Operand}{f b o bY:Nat}[i:bS P s f bY](h:cm J x=some (ptr b o)):b1 P H n (.fieldAddr s x f) bH J M (ptr b (o+bY)):=λa w d pos N g ai _=>by
 obtain⟨gu,I,z,h1,h2,aN,bA,d3⟩:=i.out;simp only[execOp,ai.eval h];simp[Instr.fieldAt,Instr.sureAddr,gG h1,h2,aN,fieldPlace,jP bA,d3,Addr.add]
def JI{k:Nat}{cg:List Value}{v:Value}(h:cm J x=some (.tuple cg.toArray))(hk:cg[k]?=some v):b1 P H n (.extract x k) bH J M v:=λa w d pos N g ai _=>by
 simp only[execOp,ai.eval h];simp[go_sem,Instr.extract,hk]
def nU(ah:cm J x=some (.int k p))(ag:cm J y=some (.int k q)):b1 P H n (.binOp .add t x y dr) bH J M (.int k (k.wrap (p+q))):=λa w d pos N g ai _=>by
 simp only[execOp,ai.eval ah,ai.eval ag];simp[go_sem,eqGuard,binOp,Op.intArith]
def yB(ah:cm J x=some (.int k p))(ag:cm J y=some (.int k q)):b1 P H n (.binOp .sub t x y dr) bH J M (.int k (k.wrap (p -q))):=λa w d pos N g ai _=>by
 simp only[execOp,ai.eval ah,ai.eval ag];simp[go_sem,eqGuard,binOp,Op.intArith]
def M7(ah:cm J x=some (.int k p))(ag:cm J y=some (.int k q)):b1 P H n (.binOp .mul t x y dr) bH J M (.int k (k.wrap (p*q))):=λa w d pos N g ai _=>by
 simp only[execOp,ai.eval ah,ai.eval ag];simp[go_sem,eqGuard,binOp,Op.intArith]
def yF(ah:cm J x=some (.int k p))(ag:cm J y=some (.int k q)):b1 P H n (.binOp .lss t x y dr) bH J M (.bool (decide (p<q))):=λa w d pos N g ai _=>by
 simp only[execOp,ai.eval ah,ai.eval ag];simp[go_sem,eqGuard,binOp,Op.intCmp]
def H2(ah:cm J x=some (.int k p))(ag:cm J y=some (.int k q)):b1 P H n (.binOp .leq t x y dr) bH J M (.bool (decide (p<=q))):=λa w d pos N g ai _=>by
 simp only[execOp,ai.eval ah,ai.eval ag];simp[go_sem,eqGuard,binOp,Op.intCmp]
def BV(ah:cm J x=some (.int k p))(ag:cm J y=some (.int k q)):b1 P H n (.binOp .gtr t x y dr) bH J M (.bool (decide (q<p))):=λa w d pos N g ai _=>by
 simp only[execOp,ai.eval ah,ai.eval ag];simp[go_sem,eqGuard,binOp,Op.intCmp]
def Aj(ah:cm J x=some (.int k p))(ag:cm J y=some (.int k q)):b1 P H n (.binOp .geq t x y dr) bH J M (.bool (decide (q<=p))):=λa w d pos N g ai _=>by
 simp only[execOp,ai.eval ah,ai.eval ag];simp[go_sem,eqGuard,binOp,Op.intCmp]
def mY(ah:cm J x=some (.int k p))(ag:cm J y=some (.int k q)):b1 P H n Bk bH J M (.bool (decide (p=q))):=λa w d pos N g ai _=>by
 simp only[execOp,ai.eval ah,ai.eval ag];simp[go_sem,eqGuard,binOp,Op.intCmp];rfl
def mh(ah:cm J x=some (.int k p))(ag:cm J y=some (.int k q)):b1 P H n Bj bH J M (.bool (!decide (p=q))):=λa w d pos N g ai _=>by
 simp only[execOp,ai.eval ah,ai.eval ag];simp[go_sem,eqGuard,binOp,Op.intCmp];rfl
def asJ{p q:Bool}[U:HM P t](ah:cm J x=some (.bool p))(ag:cm J y=some (.bool q)):b1 P H n Bk bH J M (.bool (p==q)):=λa w d pos N g ai _=>by
 simp only[execOp,ai.eval ah,ai.eval ag];simp[eqGuard,run_eql_bool _ _ _ _ U.out]
def ahj{p q:Bool}[U:HM P t](ah:cm J x=some (.bool p))(ag:cm J y=some (.bool q)):b1 P H n Bj bH J M (.bool (!(p==q))):=λa w d pos N g ai _=>by
 simp only[execOp,ai.eval ah,ai.eval ag];simp[eqGuard,run_neq_bool _ _ _ _ U.out]
def ql{b:Bool}(ah:cm J x=some (.bool b)):b1 P H n (.unOp .not t x) bH J M (.bool (!b)):=λa w d pos N g ai _=>by
 simp only[execOp,ai.eval ah];simp[go_sem,Op.unary]
def asK[i:uU P t k][j:uU P dr Y](ah:cm J x=some (.int k p)):b1 P H n (.convert t dr x) bH J M (.int Y (Y.wrap p)):=λa w d pos N g ai _=>by
 simp only[execOp,ai.eval ah];simp[convert,gG i.out,gG j.out,Conv.intToInt]
theorem o_load[i:e3 P t][j:kV b M (.cells l.toArray e R) u](h:cm J x=some (ptr b bY))(Z:l[bY]?=some v):
 b1 P H n (.load t x) bH J M v:=λa w d pos N g ai s=>by
 obtain⟨F,h1,h2⟩:=i.out;have aA:=s.heap (b:=b);have a6:w.cell? ou=some v:=by simp[World.cell?,aA,Z]
 simp only[execOp,ai.eval h];simp[Instr.loadAt,Instr.sureAddr,loadVar,DQ h1 h2,run_load,a6]
def Ae{bY aZ j:Nat}{v:Value}(h:((l.drop bY).take aZ)[j]?=some v):l[bY+j]?=some v:=by
 rw[ahk]at h;split at h
 . rwa[LY]at h
 . cases h
def ud{w:World}{b bY j:Nat}:w.cell? (Addr.add ou j)=w.cell? ⟨b,bY+j,none⟩:=by
 unfold Addr.add;split
 . subst_vars;rfl
 . rfl
theorem zB[i:j8 P t aZ][j:kV b M (.cells l.toArray e R) u](h:cm J x=some (ptr b bY))(Z:(l.drop bY).take aZ=cg)(aw:cg.length=aZ):
 b1 P H n (.load t x) bH J M wM:=λa w d pos N g ai s=>by
 obtain⟨F,h1,h2⟩:=i.out;obtain⟨z,aN,bA⟩:=i.size;have aA:=s.heap (b:=b);have a6:=run_loadCells_list (P:=P) w ou cg (λk v hk=>by
  rw[<-Z]at hk;have:=Ae hk;rw[ud];simp[World.cell?,aA,this])
 simp only[execOp,ai.eval h];simp[Instr.loadAt,Instr.sureAddr,loadVar,Af h1 h2,jP aN,bA];rw[aw]at a6;simp[a6]
def dt.setCell{b bY:Nat}{e:TypeId}{l:List Value}{u:Obj->List al}{R:Nat×Nat}[i:kV b M (.cells l.toArray e R) u](s:dt H M w)(v:Value):dt H (u (.cells (l.set bY v).toArray e R)) (w.setCell ou v):=by
 have h:=i.get s.fg;refine⟨s.os,s.tape,s.output,by have:=s.size;simpa[World.setCell]using this,?_⟩;have:fW (w.setCell ou v)=j0 (fW w) b (.cells (l.set bY v).toArray e R):=by
  unfold World.setCell;rw[wo _ h];simp
 rw[this];exact i.set _ s.fg
theorem mo[i:e3 P t][j:kV b M (.cells l.toArray e (0,0)) u](h:cm J x=some (ptr b bY))(Z:cm J y=some v)(h1:v.oneCell'=true)(aw:Nat.blt bY l.length=true):
 dk P H n (.store t x y) bH J M (u (.cells (l.set bY v).toArray e (0,0))):=λa w d pos N g ai s=>by
 obtain⟨z,aN,bA⟩:=i.size;have aA:=s.heap (b:=b);have W:bY<l.length:=by simpa[yu]using aw
 have a6:(w.cell? ou).isSome:=by simp[World.cell?,aA,W]
 have ba:w.frozen? ou=false:=by simp[World.frozen?,aA]
 refine⟨w.setCell ou v,?_,?_⟩
 . simp only[execOp,ai.eval h,ai.eval Z]
   have B:v.cells=#[v]:=Zc;obtain⟨c,r⟩:=RG.1 a6;simp[Instr.storeAt,Instr.sureAddr,storeVar,jP aN,bA,B,storeCells,Addr.add,run_store,h1,stored,r,ba]
 . exact s.setCell v
def fy(aF:k.wrap (p+q)=r)(ah:cm J x=some (.int k p))(ag:cm J y=some (.int k q)):b1 P H n (.binOp .add t x y dr) bH J M (.int k r):=aF▸nU ah ag
def kl(aF:k.wrap (p -q)=r)(ah:cm J x=some (.int k p))(ag:cm J y=some (.int k q)):b1 P H n (.binOp .sub t x y dr) bH J M (.int k r):=aF▸yB ah ag
def rT(aF:k.wrap (p*q)=r)(ah:cm J x=some (.int k p))(ag:cm J y=some (.int k q)):b1 P H n (.binOp .mul t x y dr) bH J M (.int k r):=aF▸M7 ah ag
def pD[uU P t k][uU P dr Y](aF:Y.wrap p=r)(ah:cm J x=some (.int k p)):b1 P H n (.convert t dr x) bH J M (.int Y r):=aF▸asK ah
def ahl(ah:cm J x=some (.int k p))(ag:cm J y=some (.int k q))(bt:q≠0):b1 P H n (.binOp .quo t x y dr) bH J M (.int k (k.wrap (p.tdiv q))):=λa w d pos N g ai _=>by
 simp only[execOp,ai.eval ah,ai.eval ag];simp[eqGuard,binOp,Op.intDiv,bt]
def ahm(ah:cm J x=some (.int k p))(ag:cm J y=some (.int k q))(bt:q≠0):b1 P H n (.binOp .rem t x y dr) bH J M (.int k (p.tmod q)):=λa w d pos N g ai _=>by
 simp only[execOp,ai.eval ah,ai.eval ag];simp[eqGuard,binOp,Op.intDiv,bt]
def GH(aF:k.wrap (p.tdiv q)=r)(ah:cm J x=some (.int k p))(ag:cm J y=some (.int k q))(bt:q≠0):b1 P H n (.binOp .quo t x y dr) bH J M (.int k r):=aF▸ahl ah ag bt
def tm(aF:p.tmod q=r)(ah:cm J x=some (.int k p))(ag:cm J y=some (.int k q))(bt:q≠0):b1 P H n (.binOp .rem t x y dr) bH J M (.int k r):=aF▸ahm ah ag bt
def jR(U:P.underlying t=some d)(aS:(match d with|.interface _=>false|_=>true)=true)(ah:cm J x=some v):b1 P H n (.makeInterface t x) bH J M (.iface t v):=λa w F pos N g ai _=>by
 simp only[execOp,ai.eval ah];simp only[Instr.makeInterface];cases d<;>simp at aS<;>simp[gG U]
def KH{fn:Go.Fn}{xs V:List Operand}{cg b:List Value}(ah:tu J xs=some cg)(ag:tu J V=some b):b1 P H n (.makeFunc fn xs.toArray V.toArray) bH J M (.func fn cg.toArray b.toArray):=λa w d pos N g ai _=>by
 simp[execOp,Instr.makeFunc,ai.Ac ah,ai.Ac ag]
def YG:c7 P H n (.makeMap t none) bH J M (λv I=>∃b,v=.map (some b)/\I=eD b pa::M):=λa w d pos N g ai s=>
 ⟨_,_,_,by simp[execOp,Instr.makeMap],⟨w.heap.size,rfl,rfl⟩,s.new _⟩
def RH{x:Operand}{v:Value}(ah:cm J x=some v)(h1:v.oneCell'=true):c7 P H n (.box e x) bH J M (λu I=>∃b,u=ptr b 0/\I=aa b e [v]::M):=λa w d pos N g ai s=>by
 have B:v.cells=[v].toArray:=Zc;exact⟨_,_,_,by simp only[execOp,ai.eval ah,Instr.box,newVar,newRow,B];simp,⟨w.heap.size,rfl,rfl⟩,s.new _⟩
def Bf{x:Operand}{cg:List Value}(ah:cm J x=some wM):c7 P H n (.box e x) bH J M (λu I=>∃b,u=ptr b 0/\I=aa b e cg::M):=λa w d pos N g ai s=>by
 exact⟨_,_,_,by simp only[execOp,ai.eval ah,Instr.box,newVar,newRow,Value.cells];simp,⟨w.heap.size,rfl,rfl⟩,s.new _⟩
class e9(P:Program)(t:TypeId)(V:outParam (List Value)):Prop where
 out:∃i F,P.info? t=some i/\i.zero=some F/\F.cells=V.toArray
def tN[i:e9 P e V]:c7 P H n (.alloc e) bH J M (λu I=>∃b,u=ptr b 0/\I=aa b e V::M):=λa w d pos N g ai s=>by
 obtain⟨z,F,h1,h2,aN⟩:=i.out;exact⟨_,_,_,by simp only[execOp,Instr.alloc];simp[vQ h1 h2,newVar,newRow,aN],⟨w.heap.size,rfl,rfl⟩,s.new _⟩
def kE(l:List Value)(bY:Nat):List Value->List Value
 |[]=>l
 |v::r=>kE (l.set bY v) (bY+1) r
def ES(b:List (Nat×Nat))(l:List Value):List (Nat×Value)->Option (List Value)
 |[]=>some l
 |
  (i,v)::r=>match b[i]?with
  |none=>none
  |
   some (bY,aZ)=>match v.cells.toList with
   |cs=>cond (Nat.beq cs.length aZ&&Nat.ble (bY+cs.length) l.length) (ES b (kE l bY cs) r) none
class hA(P:Program)(t:TypeId)(b:outParam (List (Nat×Nat)))(V:outParam (List Value)):Prop where
 out:∃i F gu,P.info? t=some i/\i.zero=some F/\F.cells=V.toArray/\P.underlying t=some (.struct gu)/\gu.toList.map (λf=>(f.offset,((P.info? f.type).map (·.size))))=b.map (λp=>(p.1,some p.2))
def OA:∀(cs l:List Value) (bY k:Nat),((cs.zipIdx k).foldl (fun(a:Array Value) (x:Value×Nat)=>a.setIfInBounds (bY+x.2) x.1) l.toArray)=(kE l (bY+k) cs).toArray
 |[],_,_,_=>rfl
 |
  c::cs,l,bY,k=>by
  simp only[wl,yM,List.setIfInBounds_toArray,kE];rw[OA cs _ bY (k+1)];rfl
def Y3:∀(cs l:List Value) (bY:Nat),(kE l bY cs).length=l.length
 |[],_,_=>rfl
 |c::cs,l,bY=>by simp only[kE];rw[Y3 cs];simp
def fill_eq(b:List (Nat×Nat)):∀(O:List (Nat×Value)) (l cs:List Value),ES b l O=some cs->Instr.fill (b.toArray[·]?) l.toArray O=some cs.toArray
 |[],l,cs,h=>by simp[ES]at h;simp[Instr.fill,h]
 |
  (i,v)::r,l,cs,h=>by
  simp only[ES]at h;simp only[Instr.fill,MS];cases hp:b[i]?with
  |none=>rw[hp]at h;cases h
  |
   some p=>
   obtain⟨bY,aZ⟩:=p;rw[hp]at h;simp only at h⊢;cases aA:(Nat.beq v.cells.toList.length aZ&&Nat.ble (bY+v.cells.toList.length) l.length)with
   |false=>rw[aA]at h;cases h
   |
    true=>
    rw[aA]at h;simp only[iy,Nat.ble_eq]at aA;simp only[cond_true]at h;have h1:v.cells.size=aZ:=Y5;have h2:bY+v.cells.size<=l.length:=by simpa using aA.2
    rw[a7 (by simp[h1];omega)];have aN:=OA v.cells.toList l bY 0;have bA:(v.cells.zipIdx.foldl (λcs (x:Value×Nat)=>cs.setIfInBounds (bY+x.2) x.1) l.toArray)=(kE l bY v.cells.toList).toArray:=by
     rw[<-XT,Array.toList_zipIdx];simpa using aN
    rw[bA];simpa using fill_eq b r _ _ h
def ahn{P:Program}(w:World):∀(gu:List Field) (b:List (Nat×Nat)),gu.map (λf=>(f.offset,((P.info? f.type).map (·.size))))=b.map (λp=>(p.1,some p.2))->
 (gu.mapM (m:=Sem) λf=>do Pure.pure (f.offset,<-sizeOf f.type)).run P w=.ok b w
 |[],[],_=>by simp
 |
  f::gu,p::O,h=>by
  simp only[gx,List.cons.injEq,Prod.mk.injEq]at h;obtain⟨⟨h1,h2⟩,aN⟩:=h;cases ak:P.info? f.type with
  |none=>rw[ak]at h2;cases h2
  |
   some i=>
   rw[ak]at h2;simp at h2;have:=ahn (P:=P) w gu O aN;rw[List.mapM_cons];simp[jP ak]at this⊢;rw[this];simp[h1,h2]
 |[],_::_,h=>by cases h
 |_::_,[],h=>by cases h
def wP(J:e6):List (Nat×Operand)->Option (List (Nat×Value))
 |[]=>some []
 |
  (i,x)::r=>match cm J x,wP J r with
  |some v,some cg=>some ((i,v)::cg)
  |_,_=>none
def OB{a:Act}(ai:hl n J a):∀{xs:List (Nat×Operand)} {cg:List (Nat×Value)},wP J xs=some cg->xs.map (fun(i,x)=>(i,a.eval x))=cg
 |[],cg,e=>by simp[wP]at e;simp[e]
 |
  (i,x)::r,cg,e=>by
  simp only[wP]at e;split at e
  . rename_i v b aC aV
    simp at e;subst e;simp[ai.eval aC,OB ai aV]
  . cases e
theorem ly{b:List (Nat×Nat)}{V cs:List Value}{xs:List (Nat×Operand)}{O:List (Nat×Value)}[i:hA P t b V](ah:wP J xs=some O)(ba:ES b V O=some cs):
 b1 P H n (.build t xs.toArray) bH J M (.agg cs.toArray):=λa w d pos N g ai _=>by
 obtain⟨z,F,gu,h1,h2,aN,bA,d3⟩:=i.out;have g3:=ahn (P:=P) w gu.toList b d3;have l:=fill_eq _ _ _ _ ba;have c:(gu.mapM (m:=Sem) λf=>do Pure.pure (f.offset,<-sizeOf f.type)).run P w=.ok b.toArray w:=by
  rw[Array.mapM_eq_mapM_toList];simp at g3⊢;rw[g3];rfl
 simp only[execOp,Instr.build,oM,OB ai ah];simp at c l;simp[vQ h1 h2,gG bA,aN,c,l]
def HZ[i:fb P f](args:Array Value)(w:World):(callFunc f args).run P w=.ok (.enter f args) w:=by
 obtain⟨fn,c,h1,h2,aN⟩:=i.out;simp at aN;simp[callFunc,h1,h2,aN]
theorem b9(ah:tu J xs=some cg)(ba:ab P f cg pre post)(hp:Part pre M D)(fI:fb P f:=by exact fl):
 ds P H n (.call {callee:=.value (.func f),args:=xs.toArray,argTypes:=z}) bH J M HY:=λa w d pos N g ai s=>by
 refine⟨f,cg.toArray,?_,?_⟩
 . simp only[execOp,resolve,oM,ai.Ac ah,Act.eval]
   simp[Deferred.ofValue,invoke,HZ]
 . exact(ba H D w DR).mono λe X ⟨v,L,Y,bt,aW⟩=>⟨v,_,Y,⟨L,bt,rfl⟩,aW⟩
theorem oB{first C:List Value}{pre D:List al}{post:Value->List al->Prop}(Z:cm J x=some (.func (.func f) first.toArray C.toArray))(ah:tu J xs=some cg)(ba:ab P f (first++cg++C) pre post)(hp:Part pre M D)(fI:fb P f:=by exact fl):
 ds P H n (.call {callee:=.value x,args:=xs.toArray,argTypes:=z}) bH J M HY:=λa w d pos N g ai s=>by
 refine⟨f,(first++cg++C).toArray,?_,?_⟩
 . simp only[execOp,resolve,oM,ai.Ac ah,ai.eval Z]
   simp[Deferred.ofValue,invoke,HZ]
 . exact(ba H D w DR).mono λe X ⟨v,L,Y,bt,aW⟩=>⟨v,_,Y,⟨L,bt,rfl⟩,aW⟩
def DU{b:Bool}{v:Value}(aA:b=true)(a6:cm J c=some (.bool b))(h1:cm J x=some v):b1 P H n (.pick c x y) bH J M v:=λa w d pos N g ai _=>by
 subst aA;simp only[execOp,ai.eval a6,ai.eval h1];simp[asBool]
def yR{b:Bool}{v:Value}(aA:b=false)(a6:cm J c=some (.bool b))(h1:cm J y=some v):b1 P H n (.pick c x y) bH J M v:=λa w d pos N g ai _=>by
 subst aA;simp only[execOp,ai.eval a6,ai.eval h1];simp[asBool]
def jz{x:Int}(h:-9223372036854775808<=x/\x<=9223372036854775807):IntKind.i64.wrap x=x:=by
 unfold IntKind.wrap;simp[IntKind.bits,IntKind.signed];omega
def tk{x:Int}(h:0<=x/\x<=18446744073709551615):IntKind.u64.wrap x=x:=by
 unfold IntKind.wrap;simp[IntKind.bits,IntKind.signed];omega
end
end
inductive mL|loc|bL|da
section
variable{P:Program}{E:Array Oper}{c5 U:List Nat}{F:Act->World->Prop}{C:World->Prop}
section
variable{i:Nat}{a:Act}{w:World}{K z:Act->World->Prop}{Q:Exit->Act->World->Prop}
def HF:Exit->Act->World->Prop:=λ_ _ _=>False
def n5(P:Program)(E:Array Oper)(c5 U:List Nat)(C:World->Prop)(i:Nat)(K:Act->World->Prop)(a:Act)(w:World):Prop:=
 match E[i]?with
 |none=>K a w
 |some o=>if Region.wanted o (yielded E a.tmps)then
  (if i∈c5 then o.wp P a w (λaD X=>(i∈U->C X)/\K aD X) HF else∃v,(execOp a.eval o).run P w=.ok (.value v) w/\K (a.put o.dst v) w)
  else K (a.put o.dst undef) w
def wL(P:Program)(E:Array Oper)(c5 U:List Nat)(F:Act->World->Prop)(C:World->Prop):Nat->Array Bool->Act->World->Prop
 |0,D,a,w=>Region.ready .any E D=[]/\F a w
 |f+1,D,a,w=>(Region.ready .any E D=[]->F a w)/\∀i∈Region.ready .any E D,n5 P E c5 U C i (wL P E c5 U F C f (D.setIfInBounds i true)) a w
def apc{o:Oper}{a:Act}{w:World}{K z:Act->World->Prop}{Q:Exit->Act->World->Prop}(h:o.wp P a w K HF)(hk:∀a w,K a w->z a w):o.wp P a w z Q:=by
 unfold Oper.wp at*
 generalize (execOp a.eval o).run P w=r at*
 cases r with
 |
  ok n X=>
  cases n<;>simp only[Oper.upon]at h⊢<;>
   first
    |exact hk _ _ h
    |exact Calls.mono h (λe B Y=>by cases e<;>first|exact hk _ _ Y|exact Y.elim|(obtain⟨_,_,x⟩:=Y;exact x.elim))
    |exact Rows.mono h (λ_ _ Y=>hk _ _ Y)
 |halt x X=>cases x<;>simp only[Oper.upon]at h⊢<;>first|exact h|exact h.elim
def apd(h:n5 P E c5 U C i K a w)(hk:∀a w,K a w->z a w):wpOp P E Q i z a w:=by
 unfold n5 at h;unfold wpOp;split at h
 . rename_i aJ;simp only[aJ];exact hk _ _ h
 . rename_i o aJ
   simp only[aJ];by_cases R:Region.wanted o A0=true
   . simp only[R,fu]at h⊢
     left;by_cases q:i∈c5
     . rw[bg q]at h;exact apc h λa w co=>hk _ _ co.2
     . rw[a7 q]at h
       obtain⟨v,aF,cV⟩:=h;unfold Oper.wp;rw[aF];exact hk _ _ cV
   . simp only[R]at h⊢;exact hk _ _ h
def HG{Q:Exit->Act->World->Prop}(u:∀a w,F a w->Q .normal a w):∀(f:Nat) (D:Array Bool) (a:Act) (w:World),wL P E c5 U F C f D a w->wpAny P .any E Q f D a w
 |0,_,_,_,h=>⟨h.1,u _ _ h.2⟩
 |f+1,_,_,_,h=>⟨λbi=>u _ _ (h.1 bi),λi ak=>apd (h.2 i ak) λa w=>HG u f _ a w⟩
def ape(h:n5 P E c5 U C i K a w)(hk:∀a w,K a w->z a w):n5 P E c5 U C i z a w:=by
 unfold n5 at*;split at h
 . exact hk _ _ h
 . rename_i o aJ
   by_cases R:Region.wanted o A0=true
   . rw[bg R]at h⊢
     by_cases q:i∈c5
     . rw[bg q]at h⊢;exact Oper.wp_mono (λa w co=>⟨co.1,hk _ _ co.2⟩) h
     . rw[a7 q]at h⊢;obtain⟨v,aF,cV⟩:=h;exact⟨v,aF,hk _ _ cV⟩
   . rw[a7 R]at h⊢;exact hk _ _ h
def o7(P:Program)(E:Array Oper)(z:World->Prop)(o:Oper)(v:Value)(a:Act):Prop:=
 (Region.wanted o (yielded E a.tmps)=true/\∀w,z w->(execOp a.eval o).run P w=.ok (.value v) w)\/(Region.wanted o (yielded E a.tmps)=false/\v=undef)
end
variable{z:World->Prop}
section
variable(l:List Oper){D:Array Bool}{o:Oper}{i:Nat}{I:Oper}{v:Value}
def o7.same{a aD:Act}(ag:o7 P E z o v a)(Y:execOp aD.eval o=execOp a.eval o)(R:Region.wanted o (yielded E aD.tmps)=Region.wanted o A0):o7 P E z o v aD:=by
 unfold o7 at*;rw[Y,R];exact ag
def o7.n5{i:Nat}{o:Oper}{v:Value}{a:Act}{w:World}(ak:E[i]?=some o)(q:i∉c5)(G:z w)(ag:o7 P E z o v a){K:Act->World->Prop}(h:K (a.put o.dst v) w):n5 P E c5 U C i K a w:=by
 unfold Go.L.n5;simp only[ak];rcases ag with⟨R,Z⟩|⟨R,rfl⟩
 . rw[bg R,a7 q];exact⟨v,Z w G,h⟩
 . simp only[R,e2,eI];exact h
theorem apf{j:Nat}{I g:Oper}{v:Value}(O:E[j]?=some g)(Id:I.apart E g=true)
 (l:∀cs b,I.op≠.select cs b)(i:∀cs b,g.op≠.select cs b){K:Act->World->Prop}{a:Act}{w:World}(G:z w)(c:∀w,j∈c5->(j∈U->C w)->z w)
 (ag:o7 P E z I v a)(h:n5 P E c5 U C j K (a.put I.dst v) w):
 n5 P E c5 U C j (λaD X=>z X/\o7 P E z I v aD/\K (aD.put I.dst v) X) a w:=by
 obtain⟨h1,h2,aN⟩:=Oper.apart_spec Id;have jC:∀(a:Act),o7 P E z I v a->∀u,o7 P E z I v (a.put g.dst u):=λa ag u=>
  ag.same (execOp_put I l a g.dst u aN) (wanted_put I a g.dst u aN)
 have k:∀(a:Act) (d:Deferred),o7 P E z I v a->o7 P E z I v {a with defers:=d::a.defers}:=λa d ag=>ag.same rfl rfl;unfold n5 at*;simp only[O]at*;rw[wanted_put g a I.dst v h1]at h;by_cases R:Region.wanted g A0=true
 . rw[bg R]at h⊢
   by_cases q:j∈c5
   . rw[bg q]at h⊢
     unfold Oper.wp at*;rw[execOp_put g i a I.dst v h1]at h
     generalize (execOp a.eval g).run P w=r at*
     cases r with
     |
      ok n X=>
      cases n<;>simp only[Oper.upon]at h⊢
      case value u=>exact⟨h.1,c _ q h.1,jC a ag u,by rw[<-Act.put_comm a v u h2];exact h.2⟩
      case skip=>exact⟨h.1,c _ q h.1,jC a ag _,by rw[<-Act.put_comm a v undef h2];exact h.2⟩
      case enter f args=>
       refine Calls.mono h λe B Y=>?_;cases e with
       |returned u=>exact⟨Y.1,c _ q Y.1,jC a ag u,by rw[<-Act.put_comm a v u h2];exact Y.2⟩
       |panicked D=>exact Y
       |outgrown=>exact Y
      case row row args=>exact Rows.mono h λu B Y=>⟨Y.1,c _ q Y.1,jC a ag u,by rw[<-Act.put_comm a v u h2];exact Y.2⟩
      case defer d=>
       refine⟨h.1,c _ q h.1,jC _ (k a d ag) _,?_⟩;have bA:({a.put I.dst v with defers:=d::(a.put I.dst v).defers}:Act).put g.dst undef=(({a with defers:=d::a.defers}:Act).put g.dst undef).put I.dst v:=by
        rw[<-Act.put_comm _ v undef h2];congr 1;cases I.dst<;>rfl
       rw[<-bA];exact h.2
     |halt x X=>cases x<;>simp only[Oper.upon]at h<;>exact h.elim
   . rw[a7 q]at h⊢
     rw[execOp_put g i a I.dst v h1]at h;obtain⟨u,aF,cV⟩:=h;exact⟨u,aF,G,jC a ag u,by rw[<-Act.put_comm a v u h2];exact cV⟩
 . rw[a7 R]at h⊢
   exact⟨G,jC a ag _,by rw[<-Act.put_comm a v undef h2];exact h⟩
def tx(E:Array Oper)(D:Array Bool):Prop:=
 ∀(j:Nat) (g:Oper),E[j]?=some g->D.getD j false=true->∀e∈g.after,Region.binds .any e=true->D.getD e.on false=true
def uR(h:D.getD i true=false):D.getD i false=false:=getD_both h
def tx.set(c:tx E D)(ak:i∈Region.ready .any E D):tx E HH:=by
 obtain⟨_,I,k,p⟩:=mem_ready.1 ak;intro j g O aw e Y aA;by_cases g1:i=j
 . subst g1
   have:g=I:=n9 (O.symm.trans k);subst this;exact getD_set_true (p e Y aA)
 . rw[getD_set_ne false g1]at aw
   exact getD_set_true (c j g O aw e Y aA)
theorem A1(ak:E[i]?=some I)(q:i∉c5)(s:∀(j:Nat) (o:Oper) cs b,E[j]?=some o->o.op≠.select cs b)
 (K:Array Bool->Prop)(bK:∀D j,K D->j≠i->j∈Region.ready .any E D->K (D.setIfInBounds j true))
 (c:∀D j,K D->D.getD i true=false->j∈Region.ready .any E D->j∈c5->∀w,(j∈U->C w)->z w):
 ∀
  (f:Nat) (D:Array Bool) (a:Act) (w:World),K D->z w->
  (∀j g,E[j]?=some g->j≠i->D.getD j true=false->(∀e∈g.after,Region.binds .any e=true->e.on≠i)->I.apart E g=true)->
  i∈Region.ready .any E D->o7 P E z I v a->
  wL P E c5 U F C f HH (a.put I.dst v) w->wL P E c5 U F C (f+1) D a w:=by
 intro f
 induction f with
 |
  zero=>
  intro D a w l G _ aF ag H;refine⟨λh=>(by rw[h]at aF;cases aF),λj O=>?_⟩;by_cases d:j=i
  . subst d;exact ag.n5 ak q G H
  . have:=ready_mono O d
    rw[H.1]at this;cases this
 |
  succ f L=>
  intro D a w l G t aF ag H;have m:=(mem_ready.1 aF).1;refine⟨λh=>(by rw[h]at aF;cases aF),λj O=>?_⟩;by_cases d:j=i
  . subst d;exact ag.n5 ak q G H
  . have h1:=H.2 j (ready_mono O d)
    obtain⟨u,g,n,p⟩:=mem_ready.1 O;have B:∀e∈g.after,Region.binds .any e=true->e.on≠i:=λe Y aA r=>by
     have h1:=p e Y aA;rw[r,uR m]at h1;cases h1
    have h2:=apf n (t j g n d u B) (λcs b=>s i I cs b ak) (λcs b=>s j g cs b n) G (λw Y a6=>c D j l m O Y w a6) ag h1;have J:∀k ok,E[k]?=some ok->k≠i->(D.setIfInBounds j true).getD k true=false->
     (∀e∈ok.after,Region.binds .any e=true->e.on≠i)->I.apart E ok=true:=λk ok hk i8 m hu=>by
     refine t k ok hk i8 ?_ hu;by_cases y:j=k
     . subst y;exact u
     . rw[getD_set_ne true y]at m;exact m
    refine ape h2 λaD X aN=>L (D.setIfInBounds j true) aD X (bK _ _ l d O) aN.1 J (ready_mono aF (Ne.symm d)) aN.2.1 ?_;rw[Array.setIfInBounds_comm _ _ d];exact aN.2.2
def yL(acc:List Nat)(o:Oper):Nat:=o.after.foldl (λs e=>if Region.binds .any e then s|||2^e.on|||acc.getD e.on 0 else s) 0
def k6:List Oper->List Nat->List Nat
 |[],acc=>acc
 |o::r,acc=>k6 r (acc++[yL acc o])
def apg{acc:List Nat}{o:Oper}{i:Nat}(h:(yL acc o).testBit i=true):∃e∈o.after,Region.binds .any e=true/\(e.on=i\/(acc.getD e.on 0).testBit i=true):=by
 unfold yL at h;rw[<-XT]at h;have key:∀(l:List Edge) (s:Nat),(l.foldl (λs e=>if Region.binds .any e then s|||2^e.on|||acc.getD e.on 0 else s) s).testBit i=true->
  s.testBit i=true\/∃e∈l,Region.binds .any e=true/\(e.on=i\/(acc.getD e.on 0).testBit i=true):=by
  intro l
  induction l with
  |nil=>intro s h;exact .inl h
  |
   cons e l L=>
   intro s h;simp only[yM]at h;rcases L _ h with h|⟨y,h1,h2⟩
   . by_cases aA:Region.binds .any e=true
     . rw[bg aA,NQ,NQ]at h
       simp only[ty]at h;rcases h with(h|h)|h
       . exact .inl h
       . rw[XU]at h
         exact .inr ⟨e,.head _,aA,.inl (by simpa using h)⟩
       . exact .inr ⟨e,.head _,aA,.inr h⟩
     . rw[a7 aA]at h;exact .inl h
   . exact .inr ⟨y,.tail _ h1,h2⟩
 rcases key _ _ h with h|⟨e,h1,h2⟩
 . simp at h
 . exact⟨e,by simpa using h1,h2⟩
def XV:∀(l:List Oper) (acc:List Nat) (pre:List Oper),pre.length=acc.length->
 (∀e i,(acc.getD e 0).testBit i=true->∃o a,(pre++l)[e]?=some o/\a∈o.after/\Region.binds .any a=true/\(a.on=i\/(a.on<e/\(acc.getD a.on 0).testBit i=true)))->
 ∀e i,((k6 l acc).getD e 0).testBit i=true->∃o a,(pre++l)[e]?=some o/\a∈o.after/\Region.binds .any a=true/\(a.on=i\/(a.on<e/\((k6 l acc).getD a.on 0).testBit i=true))
 |[],acc,pre,_,h=>h
 |
  o::r,acc,pre,aw,h=>by
  have:=XV r (acc++[yL acc o]) (pre++[o]) (by simp[aw]) (λe i aA=>by
   have aC:pre++[o]++r=pre++o::r:=gl;rw[aC];have ext:∀k,k<acc.length->(acc++[yL acc o]).getD k 0=acc.getD k 0:=λk hk=>by
    simp[iW,kY hk]
   rcases Nat.lt_trichotomy e acc.length with Y|Y|Y
   . rw[ext e Y]at aA
     obtain⟨S,a,h1,h2,aN,bA⟩:=h e i aA;refine⟨S,a,h1,h2,aN,?_⟩;rcases bA with bA|⟨bA,d3⟩
     . exact .inl bA
     . exact .inr ⟨bA,by rw[ext _ ad];exact d3⟩
   . subst Y
     have aV:(acc++[yL acc o]).getD acc.length 0=yL acc o:=by simp[iW]
     rw[aV]at aA;obtain⟨a,h1,h2,aN⟩:=apg aA;refine⟨o,a,by simp[<-aw],h1,h2,?_⟩;rcases aN with aN|aN
     . exact .inl aN
     . have d4:a.on<acc.length:=by
        rcases rY a.on acc.length with x|x
        . exact x
        . rw[iW,oJ x]at aN;simp at aN
       exact .inr ⟨d4,by rw[ext _ d4];exact aN⟩
   . rw[iW,oJ h9]at aA;simp at aA)
  intro e i aA;have aC:pre++[o]++r=pre++o::r:=gl;rw[aC]at this;exact this e i aA
def aph(e i:Nat)(h:((k6 l []).getD e 0).testBit i=true):∃o a,l[e]?=some o/\a∈o.after/\Region.binds .any a=true/\(a.on=i\/(a.on<e/\((k6 l []).getD a.on 0).testBit i=true)):=by
 have:=XV l [] [] rfl (λe i h=>by simp at h) e i h;simpa using this
theorem HI{l:List Oper}{D:Array Bool}{i:Nat}(c:tx l.toArray D)(d7:D.getD i false=false):
 ∀e,((k6 l []).getD e 0).testBit i=true->D.getD e false=false/\e∉Region.ready .any l.toArray D:=by
 intro e
 induction e using Nat.strongRecOn with
 |
  _ e L=>
  intro h;obtain⟨o,a,h1,h2,aN,bA⟩:=aph l e i h;have m:D.getD a.on false=false:=by
   rcases bA with bA|⟨bA,d3⟩
   . rw[bA];exact d7
   . exact(L _ bA d3).1
  have A:l.toArray[e]?=some o:=by simpa using h1
  constructor
  . cases aw:D.getD e false with
    |false=>rfl
    |true=>have:=c e o A aw a h2 aN;rw[m]at this;cases this
  . intro aF
    obtain⟨_,S,b,p⟩:=mem_ready.1 aF;have:S=o:=n9 (b.symm.trans A);subst this;have:=p a h2 aN;rw[m]at this;cases this
def uS(E:Array Oper)(c c5 U:List Nat):List (Nat×mL)->Array Bool->Bool
 |[],D=>(Region.ready .any E D).isEmpty
 |(i,.loc)::r,D=>(Region.ready .any E D).contains i&&Region.free .any E D i&&!c5.contains i&&c5.all (λe=>D.getD e false||(c.getD e 0).testBit i)&&uS E c c5 U r (D.setIfInBounds i true)
 |(i,.bL)::r,D=>(Region.ready .any E D).contains i&&Region.free .any E D i&&!c5.contains i&&c5.all (λe=>U.contains e||(D.getD e false||(c.getD e 0).testBit i))&&uS E c c5 U r (D.setIfInBounds i true)
 |(i,.da)::r,D=>decide (Region.ready .any E D=[i])&&c5.contains i&&uS E c c5 U r (D.setIfInBounds i true)
def yN(c5 U:List Nat)(V:List (Nat×mL)):Bool:=
 Region.noSelect l.toArray&&Nat.beq V.length l.length&&uS l.toArray (k6 l []) c5 U V (Array.replicate l.length false)
end
def ox(P:Program)(E:Array Oper)(F:Act->World->Prop)(U:List Nat)(C:World->Prop):List (Nat×mL)->Act->World->Prop
 |[],a,w=>F a w
 |
  (i,k)::r,a,w=>match E[i]?with
  |none=>False
  |some o=>if Region.wanted o (yielded E a.tmps)then
   match k with
   |.loc=>∃v,(execOp a.eval o).run P w=.ok (.value v) w/\ox P E F U C r (a.put o.dst v) w
   |.bL=>C w/\∃v,(∀w,C w->(execOp a.eval o).run P w=.ok (.value v) w)/\ox P E F U C r (a.put o.dst v) w
   |.da=>o.wp P a w (λaD X=>(i∈U->C X)/\ox P E F U C r aD X) HF
   else ox P E F U C r (a.put o.dst undef) w
def yO{l:List Oper}(ai:Region.noSelect l.toArray=true):∀(V:List (Nat×mL)) (D:Array Bool) (a:Act) (w:World),tx l.toArray D->uS l.toArray (k6 l []) c5 U V D=true->
 ox P l.toArray F U C V a w->wL P l.toArray c5 U F C V.length D a w
 |[],D,a,w,_,cd,h=>⟨by simpa[uS]using cd,h⟩
 |
  (i,k)::r,D,a,w,a6,cd,h=>by
  simp only[ox]at h;cases aJ:l.toArray[i]?with
  |none=>rw[aJ]at h;exact h.elim
  |
   some o=>
   simp only[aJ]at h;cases k with
   |
    loc=>
    simp only[uS,iy]at cd;obtain⟨⟨⟨⟨aF,ba⟩,q⟩,p⟩,b⟩:=cd;have c:i∈Region.ready .any l.toArray D:=HJ;have g:i∉c5:=A2;have m:=(mem_ready.1 c).1;have s:∀e∈c5,D.getD e false=true\/((k6 l []).getD e 0).testBit i=true:=HK;have fin:∀v,o7 P l.toArray (λX=>X=w) o v a->ox P l.toArray F U C r (a.put o.dst v) w->wL P l.toArray c5 U F C (r.length+1) D a w:=λv ag cV=>
     A1 (z:=λX=>X=w) aJ g (Region.noSelect_spec ai) (λf=>tx l.toArray f/\∀e∈c5,f.getD e false=true\/((k6 l []).getD e 0).testBit i=true)
      (λf j bK _ O=>⟨bK.1.set O,λe Y=>(bK.2 e Y).imp (λh=>getD_set_true h) id⟩)
      (fun f j bK d7 O Y X _ => by
       exfalso;rcases bK.2 j Y with h1|h1
       . have h2:=(mem_ready.1 O).1;rw[uR h2]at h1;cases h1
       . exact(HI bK.1 (uR d7) j h1).2 O)
      r.length D a w ⟨a6,s⟩ rfl (Region.free_spec aJ ba) c ag (yO ai r _ _ _ (a6.set c) b cV)
    by_cases R:Region.wanted o (yielded l.toArray a.tmps)=true
    . rw[bg R]at h
      obtain⟨v,Z,cV⟩:=h;exact fin v (.inl ⟨R,λX e=>by subst e;exact Z⟩) cV
    . rw[a7 R]at h
      exact fin undef (.inr ⟨by simpa using R,rfl⟩) h
   |
    bL=>
    simp only[uS,iy]at cd;obtain⟨⟨⟨⟨aF,ba⟩,q⟩,p⟩,b⟩:=cd;have c:i∈Region.ready .any l.toArray D:=HJ;have g:i∉c5:=A2;have s:∀e∈c5,e∈U\/D.getD e false=true\/((k6 l []).getD e 0).testBit i=true:=HK;by_cases R:Region.wanted o (yielded l.toArray a.tmps)=true
    . rw[bg R]at h
      obtain⟨N,v,Z,cV⟩:=h;exact A1 (z:=C) aJ g (Region.noSelect_spec ai) (λf=>tx l.toArray f/\∀e∈c5,e∈U\/f.getD e false=true\/((k6 l []).getD e 0).testBit i=true)
       (λf j bK _ O=>⟨bK.1.set O,λe Y=>(bK.2 e Y).imp id (λh=>h.imp (λh=>getD_set_true h) id)⟩)
       (fun f j bK d7 O Y X u => by
        rcases bK.2 j Y with h1|h1|h1
        . exact u h1
        . exfalso;have h2:=(mem_ready.1 O).1;rw[uR h2]at h1;cases h1
        . exfalso;exact(HI bK.1 (uR d7) j h1).2 O)
       r.length D a w ⟨a6,s⟩ N (Region.free_spec aJ ba) c (.inl ⟨R,Z⟩) (yO ai r _ _ _ (a6.set c) b cV)
    . rw[a7 R]at h
      exact A1 (z:=λ_=>True) aJ g (Region.noSelect_spec ai) (λ_=>True) (λ_ _ _ _ _=>trivial) (λ_ _ _ _ _ _ _ _=>trivial)
       r.length D a w trivial trivial (Region.free_spec aJ ba) c (.inr ⟨by simpa using R,rfl⟩) (yO ai r _ _ _ (a6.set c) b h)
   |
    da=>
    simp only[uS,iy,ln]at cd;obtain⟨⟨aF,q⟩,b⟩:=cd;have g:i∈c5:=A2;have c:i∈Region.ready .any l.toArray D:=by rw[aF];simp
    refine⟨λbi=>(by rw[bi]at aF;cases aF),λj O=>?_⟩;rw[aF]at O;have d:j=i:=DL;subst d;unfold n5;simp only[aJ];by_cases R:Region.wanted o (yielded l.toArray a.tmps)=true
    . rw[bg R]at h⊢
      rw[bg g];exact Oper.wp_mono (λaD X co=>⟨co.1,yO ai r _ _ _ (a6.set c) b co.2⟩) h
    . rw[a7 R]at h⊢
      exact yO ai r _ _ _ (a6.set c) b h
theorem api{id:Nat}{Q:Exit->Act->World->Prop}{a:Act}{w:World}{l:List Oper}(c5 U:List Nat)(V:List (Nat×mL))(C:World->Prop)(bf:P.follows .mixedOrders=true)(cd:yN l c5 U V=true)
 (h:ox P l.toArray (Q .normal) U C V a MV):(Code.region id l.toArray true).wp P Q a w:=by
 simp only[yN,iy]at cd;obtain⟨⟨ai,aw⟩,b⟩:=cd;have W:V.length=l.length:=lr aw;refine wp_region_any bf ?_;have:=HG (Q:=Q) (F:=Q .normal) (λ_ _ h=>h) _ _ _ _ (yO ai V _ a _ NR b h);rw[W]at this;simpa using this
variable{H:World}{n:Nat}{J:e6}{M I O:List al}{Q:Exit->Act->World->Prop}{op:Op}{bH:TypeId}{pos:String}{N:Array Edge}{g:Option (Nat×Bool)}{i:Nat}{V:List (Nat×mL)}
section
variable{v:Value}{d:Nat}{p:Value->List al->Prop}
def c3(P:Program)(H:World)(n:Nat)(E:Array Oper)(U:List Nat)(V:List (Nat×mL))(J:e6)(M O:List al)(F:Act->World->Prop):Prop:=
 ∀a w,hl n J a->dt H M w->ox P E F U (dt H O) V a w
inductive hZ(E:Array Oper)(J:e6):Option (Nat×Bool)->Bool->Prop
 |none:hZ E J none true
 |yes {j z:Nat} {F c:Bool}:(E[j]?).bind (·.dst)=some z->gN J z=some (.bool c)->c=F->hZ E J (some (j,F)) true
 |no {j z:Nat} {F c:Bool}:(E[j]?).bind (·.dst)=some z->gN J z=some (.bool c)->c=(!F)->hZ E J (some (j,F)) false
 |un {j z:Nat} {F:Bool}:(E[j]?).bind (·.dst)=some z->gN J z=some undef->hZ E J (some (j,F)) false
def hZ.wanted{o:Oper}{a:Act}{b:Bool}(h:hZ E J o.guard b)(ai:hl n J a):Region.wanted o A0=b:=by
 unfold Region.wanted
 generalize o.guard=g at h
 cases h with
 |none=>rfl
 |yes h1 h2 aN=>simp only[yielded,h1,k0,ai.val _ _ h2,aN];simp
 |@no j z F c h1 h2 aN=>subst aN;simp only[yielded,h1,k0,ai.val _ _ h2];cases F<;>rfl
 |un h1 h2=>simp only[yielded,h1,k0,ai.val _ _ h2];rfl
def go_split{j z:Nat}{c:Bool}(a:(E[j]?).bind (·.dst)=some z)(d:gN J z=some (.bool c))(h1:c=true->c3 P H n E U V J M O F)(h2:c=false->c3 P H n E U V J M O F):c3 P H n E U V J M O F:=by
 cases c;exact h2 rfl;exact h1 rfl
def go_nil(h:GE H n J M F):c3 P H n E U [] J M O F:=h
def go_v(aJ:E[i]?=some ri)(R:hZ E J g true)(aS:Nat.blt d n=true)(Z:b1 P H n op bH J M v)(h:c3 P H n E U V n0 M O F):c3 P H n E U ((i,.loc)::V) J M O F:=
 λa w ai s=>by
  simp only[ox,aJ,hZ.wanted (o:=⟨some d,op,bH,pos,N,g⟩) R ai,fu];exact⟨v,Z _ _ _ _ _ _ ai s,h _ _ q9 s⟩
def go_vs(aJ:E[i]?=some ri)(R:hZ E J g true)(aS:Nat.blt d n=true)(Z:b1 P H n op bH J O v)(a6:∀h,Sat M h->Sat O h)(h:c3 P H n E U V n0 M O F):c3 P H n E U ((i,.bL)::V) J M O F:=
 λa w ai s=>by
  simp only[ox,aJ,hZ.wanted (o:=⟨some d,op,bH,pos,N,g⟩) R ai,fu];exact⟨s.imp a6,v,λX aW=>Z _ _ _ _ _ _ ai aW,h _ _ q9 s⟩
def go_skip{k:mL}{d:Nat}(aJ:E[i]?=some ri)(R:hZ E J g false)(aS:Nat.blt d n=true)(h:c3 P H n E U V AK M O F):c3 P H n E U ((i,k)::V) J M O F:=
 λa w ai s=>by
  simp only[ox,aJ,hZ.wanted (o:=⟨some d,op,bH,pos,N,g⟩) R ai,e2,eI];exact h _ _ ys s
def go_u(aJ:E[i]?=some L3)(R:hZ E J g true)(Z:dk P H n op bH J M I)(a6:i∈U->∀h,Sat I h->Sat O h)(h:c3 P H n E U V J I O F):c3 P H n E U ((i,.da)::V) J M O F:=
 λa w ai s=>by
  obtain⟨X,aF,aW⟩:=Z a w none pos N g ai s;simp only[ox,aJ,hZ.wanted (o:=⟨none,op,bH,pos,N,g⟩) R ai,fu,Oper.wp,aF,Oper.upon];exact⟨λC=>aW.imp (a6 C),h _ _ ai aW⟩
def go_n(aJ:E[i]?=some ri)(R:hZ E J g true)(aS:Nat.blt d n=true)(Z:c7 P H n op bH J M p)(h:∀v I,p v I->CN/\c3 P H n E U V n0 I O F):c3 P H n E U ((i,.da)::V) J M O F:=
 λa w ai s=>by
  obtain⟨v,I,X,aF,hp,aW⟩:=Z a w (some d) pos N g ai s;simp only[ox,aJ,hZ.wanted (o:=⟨some d,op,bH,pos,N,g⟩) R ai,fu,Oper.wp,aF,Oper.upon];exact⟨λC=>aW.imp CO,(h v I hp).2 _ _ q9 aW⟩
def go_c(aJ:E[i]?=some ri)(R:hZ E J g true)(aS:Nat.blt d n=true)(Z:ds P H n op bH J M p)(h:∀v I,p v I->CN/\c3 P H n E U V n0 I O F):c3 P H n E U ((i,.da)::V) J M O F:=
 λa w ai s=>by
  obtain⟨f,args,aF,g7⟩:=Z a w (some d) pos N g ai s;simp only[ox,aJ,hZ.wanted (o:=⟨some d,op,bH,pos,N,g⟩) R ai,fu,Oper.wp,aF,Oper.upon];exact g7.mono λe X ⟨v,I,Y,hp,aW⟩=>by subst Y;exact⟨λC=>aW.imp CO,(h v I hp).2 _ _ q9 aW⟩
theorem h0{id:Nat}{l:List Oper}(c5 U:List Nat)(V:List (Nat×mL))(O:List al)(bf:P.follows .mixedOrders=true)(cd:yN l c5 U V=true)
 (h:c3 P H n l.toArray U V J M O (Q .normal)):G P H n HL J M Q:=
 λa w ai s=>api c5 U V _ bf cd (h a _ ai s.drew)
end
end
end Go.L
