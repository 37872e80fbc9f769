import Derived.Test.YtnnhpnccfnghdaaGreatK0
import Derived.StillTail
import Derived.Deep.Quiet
import Derived.Laws.AppendOwn
import Derived.Laws.MakeOwn
import Derived.Laws.IdiomMaps
set_option linter.all false
namespace Go.L
abbrev dR:=Nat->Option Obj
section
variable(h k:dR)(b:Nat)(o:Obj)
abbrev aq:=dR->Prop
def fE(w:World):dR:=λb=>w.heap[b]?
def li:Prop:=∀b,h b=none\/k b=none
def join:dR:=λb=>(h b).or (k b)
def iR:dR:=λx=>if x=b then some o else h x
def Sat:List aq->aq
 |[],_=>True
 |A::r,h=>∃h1 h2,li h1 h2/\h=join h1 h2/\A h1/\Sat r h2
def ev:aq:=λh=>h b=some o
end
section
variable{a h1 h2:dR}{b:Nat}{A B:aq}{o:Obj}{l m r:List aq}{h:dR}
def wF(l:List aq):aq:=Sat l
theorem li.symm{h k:dR}(d:li h k):li k h:=λb=>(d b).symm
theorem join_comm{k:dR}(d:li h k):join h k=join k h:=by
 funext b;rcases d b with e|e<;>cases h1:h b<;>cases h2:k b<;>simp_all[join]
theorem join_assoc(a b c:dR):join (join a b) c=join a (join b c):=by
 funext x;cases h:a x<;>simp[join,h]
theorem wG{b c:dR}:li (join a b) c↔li a c/\li b c:=by
 constructor
 . intro h;constructor<;>intro x<;>rcases h x with e|e
   . left;cases aP:a x<;>simp_all[join]
   . right;exact e
   . left;cases aP:a x<;>simp_all[join]
   . right;exact e
 . intro⟨h1,h2⟩ x
   rcases h1 x with e|e
   . rcases h2 x with f|f
     . left;simp[join,e,f]
     . right;exact f
   . right;exact e
theorem rj{b c:dR}:li a (join b c)↔li a b/\li a c:=
 ⟨λh=>let⟨x,y⟩:=wG.1 h.symm;⟨x.symm,y.symm⟩,fun⟨x,y⟩=>(wG.2 ⟨x.symm,y.symm⟩).symm⟩
theorem Sat.more:∀{l:List aq} {h k:dR},li h k->Sat l h->Sat l (join h k)
 |[],_,_,_,_=>trivial
 |
  _::_,h,k,d,⟨h1,h2,a,e,aP,aD⟩=>by
  subst e;obtain⟨d1,t⟩:=wG.1 d;exact⟨h1,join h2 k,rj.2 ⟨a,d1⟩,join_assoc _ _ _,aP,Sat.more t aD⟩
theorem Sat.swap(s:Sat (A::B::r) h):Sat (B::A::r) h:=by
 obtain⟨h1,h2,d,rfl,aP,aH,bm,p,rfl,az,aD⟩:=s;obtain⟨a,b⟩:=rj.1 d;refine⟨aH,join h1 bm,rj.2 ⟨a.symm,p⟩,?_,az,h1,bm,b,rfl,aP,aD⟩;rw[<-join_assoc,join_comm a,join_assoc]
theorem Sat.tail{S:List aq}(f:∀h,Sat r h->Sat S h){h:dR}(s:Sat (A::r) h):Sat (A::S) h:=
 let⟨h1,h2,d,e,aP,aD⟩:=s
 ⟨h1,h2,d,e,aP,f _ aD⟩
theorem Sat.head(f:∀h,A h->B h){h:dR}(s:Sat (A::r) h):Sat (B::r) h:=
 let⟨h1,h2,d,e,aP,aD⟩:=s
 ⟨h1,h2,d,e,f _ aP,aD⟩
theorem Sat.drop(s:Sat (A::r) h):Sat r h:=by
 obtain⟨h1,h2,d,rfl,_,aD⟩:=s;rw[join_comm d];exact Sat.more d.symm aD
theorem Sat.append:∀{l m:List aq} {h k:dR},li h k->Sat l h->Sat m k->Sat (l++m) (join h k)
 |[],m,h,k,d,_,bb=>by rw[join_comm d];exact Sat.more d.symm bb
 |
  _::l,m,h,k,d,⟨h1,h2,a,e,aP,aD⟩,bb=>by
  subst e;obtain⟨d1,t⟩:=wG.1 d;exact⟨h1,join h2 k,rj.2 ⟨a,d1⟩,join_assoc _ _ _,aP,Sat.append t aD bb⟩
theorem Sat.split:∀{l m:List aq} {h:dR},Sat (l++m) h->∃h1 h2,li h1 h2/\h=join h1 h2/\Sat l h1/\Sat m h2
 |[],m,h,s=>Wn
 |
  _::l,m,h,⟨h1,h2,d,e,aP,aD⟩=>by
  obtain⟨aH,bm,p,rfl,aw,bb⟩:=Sat.split aD;subst e;obtain⟨R,r⟩:=rj.1 d;exact⟨join h1 aH,bm,wG.2 ⟨r,p⟩,(join_assoc _ _ _).symm,⟨h1,aH,R,rfl,aP,aw⟩,bb⟩
theorem Sat.flat:Sat (wF l::r) h↔Sat (l++r) h:=
 ⟨fun⟨_,_,d,e,aP,aD⟩=>e▸Sat.append d aP aD,λs=>let⟨h1,h2,d,e,aP,aD⟩:=Sat.split s;⟨h1,h2,d,e,aP,aD⟩⟩
theorem Sat.ex{α:Type}{A:α->aq}{r:List aq}{h:dR}:Sat ((λh=>∃x,A x h)::r) h↔∃x,Sat (A x::r) h:=
 Wo
theorem Sat.pure{p:Prop}{A:aq}{r:List aq}{h:dR}:Sat ((λh=>p/\A h)::r) h↔p/\Sat (A::r) h:=
 Wo
theorem Sat.one(s:A h):Sat [A] h:=⟨h,λ_=>none,λ_=>.inr rfl,by funext b;simp[join],s,trivial⟩
inductive hG:aq->List aq->List aq->Prop
 |head {A:aq} {r:List aq}:hG A (A::r) r
 |tail {A B:aq} {l r:List aq}:hG A l r->hG A (B::l) (B::r)
theorem hG.to(s:hG A l r):∀{h:dR},Sat l h->Sat (A::r) h:=by
 induction s with
 |head=>exact λh=>h
 |tail _ L=>exact λh=>Sat.swap (Sat.tail (λ_=>L) h)
theorem hG.from(s:hG A l r):∀{h:dR},Sat (A::r) h->Sat l h:=by
 induction s with
 |head=>exact λh=>h
 |tail _ L=>exact λh=>Sat.tail (λ_=>L) (Sat.swap h)
inductive Part:List aq->List aq->List aq->Prop
 |nil {l:List aq}:Part [] l l
 |cons {A:aq} {m l g9 r:List aq}:hG A l g9->Part m g9 r->Part (A::m) l r
theorem Part.to{m l r:List aq}(p:Part m l r):∀{h:dR},Sat l h->Sat (m++r) h:=by
 induction p with
 |nil=>exact λh=>h
 |cons s _ L=>exact λh=>Sat.tail (λ_=>L) (s.to h)
inductive Drop:List aq->List aq->Prop
 |refl {l:List aq}:Drop l l
 |skip {A:aq} {l r:List aq}:Drop l r->Drop (A::l) r
theorem Drop.eI(d:Drop l r):∀{h:dR},Sat l h->Sat r h:=by
 induction d with
 |refl=>exact λh=>h
 |skip _ L=>exact λh=>L (Sat.drop h)
inductive wH:List aq->List aq->Prop
 |nil {l:List aq}:wH l []
 |done {l r:List aq}:Drop l r->wH l r
 |cons {A:aq} {l g9 m:List aq}:hG A l g9->wH g9 m->wH l (A::m)
theorem wH.eI{l m:List aq}(t:wH l m):∀h,Sat l h->Sat m h:=by
 induction t with
 |nil=>exact λ_ _=>trivial
 |done d=>exact λ_ h=>d.eI h
 |cons s _ L=>exact λ_ h=>Sat.tail L (s.to h)
theorem au(t:wH l m:=by repeat(first|exact .nil|exact .done .refl|(apply wH.cons;· (repeat(first|exact .head|apply hG.tail)))|exact .done (by repeat(first|exact .refl|apply Drop.skip)))):∀h,Sat l h->Sat m h:=t.eI
theorem bI{l r:List aq}(p:Part m l r:=by repeat(first|exact .nil|(apply Part.cons;· (repeat(first|exact .head|apply hG.tail))))):Part m l r:=p
theorem ek(s:hG A l r:=by repeat(first|exact .head|apply hG.tail)):hG A l r:=s
class k0(b:Nat)(I:List aq)(o:outParam Obj)(u:outParam (Obj->List aq)):Prop where
 get:∀{h:dR},Sat I h->h b=some o
 set:∀{h:dR} (S:Obj),Sat I h->Sat (u S) (iR h b S)
theorem join_some(e:h1 b=some o):join h1 h2 b=some o:=by simp[join,e]
theorem si{S:Obj}(e:h1 b=some o)(d:li h1 h2):iR (join h1 h2) b S=join (iR h1 b S) h2/\li (iR h1 b S) h2:=by
 have az:h2 b=none:=by
  rcases d b with x|x;· rw[e]at x;cases x
  . exact x
 constructor
 . funext x;by_cases ag:x=b<;>simp[iR,join,ag]
 . intro x;by_cases ag:x=b
   . subst ag;right;exact az
   . rcases d x with y|y
     . left;simp[iR,ag,y]
     . right;exact y
instance k0.head:k0 b (ev b o::r) o (λS=>ev b S::r)where
 get:=fun⟨_,_,_,e,aP,_⟩=>e▸join_some aP
 set:=λS ⟨h1,h2,d,e,aP,aD⟩=>by
  subst e;obtain⟨aB,d1⟩:=si (S:=S) aP d;exact⟨iR h1 b S,h2,d1,aB,by simp[ev,iR],aD⟩
instance k0.tail{o:Obj}{u:Obj->List aq}[i:k0 b r o u]:k0 b (A::r) o (λS=>A::u S)where
 get:=λs=>i.get uN
 set:=λS ⟨h1,h2,d,e,aP,aD⟩=>by
  subst e;have az:=i.get aD;have p:=d.symm;obtain⟨aB,d1⟩:=si (S:=S) az p;refine⟨h1,iR h2 b S,d1.symm,?_,aP,i.set S aD⟩;rw[join_comm d,aB,join_comm d1]
structure db(F:World)(I:List aq)(w:World):Prop where
 os:w.os=F.os
 tape:w.tape=F.tape
 output:w.output=F.output
 size:F.heap.size<=w.heap.size
 eI:Sat I (fE w)
end
variable{F:World}{I H:List aq}{w:World}
def db.imp(f:∀h,Sat I h->Sat H h)(s:db F I w):db F H w:=⟨s.os,s.tape,s.output,s.size,f _ s.eI⟩
def db.drew(s:db F I w):db F I {w with drawn:=w.drawn+1}:=⟨s.os,s.tape,s.output,s.size,s.eI⟩
def an0(w:World)(o:Obj):fE {w with heap:=w.heap.push o}=join (λb=>if b=w.heap.size then some o else none) (fE w):=by
 funext b;simp only[fE,join,Array.getElem?_push];by_cases h:b=w.heap.size<;>simp[h]
def db.new(s:db F I w)(o:Obj):db F (ev w.heap.size o::I) {w with heap:=w.heap.push o}:=by
 refine⟨s.os,s.tape,s.output,by have:=s.size;simp;omega,?_⟩;refine⟨λb=>if b=w.heap.size then some o else none,fE w,λb=>?_,an0 w o,by simp[ev],s.eI⟩;by_cases h:b=w.heap.size
 . subst h;right;simp[fE]
 . left;simp[h]
def Wp{w:World}{b:Nat}{o:Obj}(h:fE w b=some o):b<w.heap.size:=by
 rcases sh b w.heap.size with x|x
 . exact x
 . simp[fE,Hi x]at h
def ty{w:World}{b:Nat}{o:Obj}(f:Obj->Obj)(h:fE w b=some o):fE {w with heap:=w.heap.modify b f}=iR (fE w) b (f o):=by
 funext x;simp only[fE,iR,Array.getElem?_modify]at*;by_cases ag:x=b
 . subst ag;simp[h]
 . rw[a6 (Ne.symm ag),a6 ag]
def Dt{w:World}{b:Nat}{o:Obj}(S:Obj)(h:fE w b=some o):fE {w with heap:=w.heap.setIfInBounds b S}=iR (fE w) b S:=by
 have az:=Wp h;funext x;simp only[fE,iR,M7]at*;by_cases ag:x=b
 . subst ag;simp[az]
 . rw[a6 (Ne.symm ag),a6 ag]
def db.set{b:Nat}{o:Obj}{u:Obj->List aq}[i:k0 b I o u](s:db F I w)(S:Obj):db F (u S) {w with heap:=w.heap.setIfInBounds b S}:=
 ⟨s.os,s.tape,s.output,by have:=s.size;simpa using this,by rw[Dt S (i.get s.eI)];exact i.set _ s.eI⟩
def db.heap{b:Nat}{o:Obj}{u:Obj->List aq}[i:k0 b I o u](s:db F I w):w.heap[b]?=some o:=i.get s.eI
abbrev eA:=List (Nat×Value)
def gL:eA->Nat->Option Value
 |[],_=>none
 |(k,v)::r,t=>cond (Nat.beq k t) (some v) (gL r t)
def cb(ak:eA):Operand->Option Value
 |.tmp t=>gL ak t
 |.const v=>some v
 |.global g=>some (.pointer (some ⟨g,0,none⟩))
 |.func f=>some (.func (.func f) #[] #[])
def tz(ak:eA):List Operand->Option (List Value)
 |[]=>some []
 |
  x::r=>match cb ak x,tz ak r with
  |some v,some M=>some (v::M)
  |_,_=>none
structure hd(n:Nat)(ak:eA)(a:Act):Prop where
 size:a.tmps.size=n
 defers:a.defers=[]
 val:∀t v,gL ak t=some v->a.tmps[t]?=some v
variable{n:Nat}{ak:eA}{a:Act}
def hd.eval{x:Operand}{v:Value}(h:hd n ak a)(e:cb ak x=some v):a.eval x=v:=by
 cases x<;>simp only[cb,Option.some.injEq]at e
 . have:=h.val _ _ e;simp[Act.eval,Dr,this]
 . exact e
 . exact e
 . exact e
def hd.put{d:Nat}(v:Value)(h:hd n ak a)(aQ:Nat.blt d n=true):hd n ((d,v)::ak) (a.put (some d) v):=by
 have b:d<n:=by simpa[yz]using aQ
 refine⟨by simp[Act.put,h.size],by simp[Act.put,h.defers],λt u e=>?_⟩;simp only[gL]at e;simp only[Act.put,M7];by_cases R:d=t
 . subst R
   have:Nat.beq d d=true:=Wi d;rw[this]at e;simp at e;simp[h.size,b,e]
 . have:Nat.beq d t=false:=by
    cases az:Nat.beq d t with
    |false=>rfl
    |true=>exact absurd (lr az) R
   rw[this]at e;rw[a6 R];exact h.val _ _ e
def hd.z6{a:Act}{n:Nat}{ak:eA}(h:hd n ak a):∀{xs:List Operand} {M:List Value},tz ak xs=some M->xs.map a.eval=M
 |[],M,e=>by simp[tz]at e;simp[e]
 |
  x::r,M,e=>by
  simp only[tz]at e;split at e
  . rename_i v b aB aU
    simp at e;subst e;simp[h.eval aB,hd.z6 h aU]
  . cases e
inductive bd:eA->eA->Prop
 |nil {ak:eA}:bd [] ak
 |cons {t:Nat} {v:Value} {r ak:eA}:gL ak t=some v->bd r ak->bd ((t,v)::r) ak
def bd.val{r ak:eA}(k:bd r ak):∀t v,gL r t=some v->gL ak t=some v:=by
 induction k with
 |nil=>intro t v e;simp[gL]at e
 |
  @cons t0 v0 r ak fG _ L=>
  intro t v e;simp only[gL]at e;cases az:Nat.beq t0 t with
  |true=>rw[az]at e;simp at e;have:=lr az;subst this;subst e;exact fG
  |false=>rw[az]at e;simp at e;exact L _ _ e
def hd.jM{r:eA}(h:hd n ak a)(k:bd r ak):hd n r a:=⟨h.size,h.defers,λ_ _ e=>h.val _ _ (k.val _ _ e)⟩
section
variable{a b:Int}{p:Prop}
def anP(h:decide (a<b)=false):b<=a:=by simpa using h
def anQ(h:decide (a<=b)=false):b<a:=by simpa using h
def anR[Decidable p](h:decide p=false):¬p:=of_decide_eq_false h
def anS[Decidable p](h:(!decide p)=true):¬p:=by simpa using h
def anT[Decidable p](h:(!decide p)=false):p:=by simpa using h
end
def anU{b:Bool}(h:(!b)=true):b=false:=by simpa using h
def anV{b:Bool}(h:(!b)=false):b=true:=by simpa using h
class oK(A:Prop)(B:outParam Prop):Prop where
 aj:A->B
def bR{A B:Prop}[i:oK A B](h:A):B:=i.aj h
instance(priority:=10){A:Prop}:oK A A:=⟨id⟩
instance(priority:=20){b:Bool}:oK ((!b)=false) (b=true):=⟨anV⟩
instance(priority:=30){b:Bool}:oK ((!b)=true) (b=false):=⟨anU⟩
instance(priority:=40){p:Prop}[Decidable p]:oK ((!decide p)=false) p:=⟨anT⟩
instance(priority:=50){p:Prop}[Decidable p]:oK ((!decide p)=true) (¬p):=⟨anS⟩
instance(priority:=80){p:Prop}[Decidable p]:oK (decide p=false) (¬p):=⟨anR⟩
instance(priority:=90){a b:Int}:oK (decide (a<=b)=false) (b<a):=⟨anQ⟩
instance(priority:=100){a b:Int}:oK (decide (a<b)=false) (b<=a):=⟨anP⟩
instance(priority:=110){p:Prop}[Decidable p]:oK (decide p=true) p:=⟨of_decide_eq_true⟩
instance(priority:=200){b:Bool}{B:Prop}[i:oK (b=false) B]:oK (b=!true) B:=⟨i.aj⟩
instance(priority:=210){b:Bool}{B:Prop}[i:oK (b=true) B]:oK (b=!false) B:=⟨i.aj⟩
section
variable{P:Program}{F:World}{n:Nat}
def G(P:Program)(F:World)(n:Nat)(c:Code)(ak:eA)(I:List aq)(Q:Exit->Act->World->Prop):Prop:=
 ∀a w,hd n ak a->db F I w->c.wp P Q a w
def cz(P:Program)(F:World)(n:Nat)(E:Array Oper)(l:List Oper)(ak:eA)(I:List aq)(Q:Exit->Act->World->Prop):Prop:=
 ∀a w,hd n ak a->db F I w->wpList P E Q l a w
def GE(F:World)(n:Nat)(ak:eA)(I:List aq)(M:Act->World->Prop):Prop:=
 ∀a w,hd n ak a->db F I w->M a w
abbrev aF(x:Value)(l:List aq):Value->List aq->Prop:=λu H=>u=x/\H=l
def ad(P:Program)(f:FuncId)(args:List Value)(I:List aq)(post:Value->List aq->Prop):Prop:=
 ∀
  (F:World) (D:List aq) (w:World),db F (I++D) w->
  Calls P f args.toArray w λe X=>∃v H,e=.returned v/\post v H/\db F (H++D) X
def AO(P:Program)(F:World)(fn:Func)(post:Value->List aq->Prop)(D:List aq):Exit->Act->World->Prop:=
 bodyPost P fn λe X=>∃v H,e=.returned v/\post v H/\db F (H++D) X
variable{ak:eA}{I H:List aq}{Q:Exit->Act->World->Prop}{c c1 bk:Code}{E:Array Oper}
section
variable{a:Act}{K:Act->World->Prop}{x:Operand}{bx:Type}{id:Nat}{l:List Oper}
def ad.mono{f:FuncId}{args:List Value}{post z:Value->List aq->Prop}(h:ad P f args I post)(g:∀v H,post v H->z v H):ad P f args I z:=
 λF D w s=>(h F D w s).mono λ_ _ ⟨v,H,e,p,s⟩=>⟨v,H,e,g _ _ p,s⟩
def lh(f:∀h,Sat I h->Sat H h)(h:G P F n c ak H Q):G P F n c ak I Q:=λa w aj s=>h a w aj (s.imp f)
def r9(f:∀h,Sat I h->Sat H h)(h:cz P F n E l ak H Q):cz P F n E l ak I Q:=λa w aj s=>h a w aj (s.imp f)
def uM{M:Act->World->Prop}(f:∀h,Sat I h->Sat H h)(h:GE F n ak H M):GE F n ak I M:=λa w aj s=>h a w aj (s.imp f)
def hA(h:G P F n c1 ak I (Exit.then (bk.wp P Q) Q)):G P F n (.seq c1 bk) ak I Q:=λa w aj s=>wp_seq qw
def Dk(ba:Act->World->Prop)(h:G P F n c1 ak I (Exit.then ba Q))(h2:∀a w,ba a w->bk.wp P Q a w):G P F n (.seq c1 bk) ak I Q:=
 λa w aj s=>wp_seq_k (P:=P) λ_ cL=>wp_mono qw λe a w q=>by cases e<;>first|exact cL _ _ (h2 _ _ q)|exact q
def Dl{w:World}(h:G P F n c ak I Q)(aj:hd n ak a)(s:db F I w):c.wp P Q a w:=h a w aj s
def hB(h:G P F n bk ak I Q):GE F n ak I (Exit.then (bk.wp P Q) Q .normal):=h
theorem yw(h:GE F n ak I (Q .normal)):GE F n ak I (Exit.inBlock id Q .normal):=h
theorem Wh(h:GE F n ak I (Q .normal)):GE F n ak I (Exit.inBlock id Q (.exit id)):=λa w aj s=>by
 simp only[Exit.inBlock,fk];exact h a w aj s
theorem anW{b:Nat}(g7:Nat.beq b id=false)(h:GE F n ak I (Q (.exit b))):GE F n ak I (Exit.inBlock id Q (.exit b)):=λa w aj s=>by
 have:b≠id:=λe=>by subst e;rw[Wi]at g7;cases g7
 simp only[Exit.inBlock,a6 this];exact h a w aj s
theorem M4(h:GE F n ak I (Q (.exit id))):GE F n ak I (Exit.then K Q (.exit id)):=h
def yx(h:GE F n ak I (Q .ret)):GE F n ak I (Exit.then K Q .ret):=h
theorem Dm(h:GE F n ak I (Q .ret)):GE F n ak I (Exit.inBlock id Q .ret):=h
theorem tx(h:G P F n c ak I (Exit.inBlock id Q)):G P F n (.block id c) ak I Q:=λa w aj s=>wp_block qw
def rv(h:GE F n ak I (Q .normal)):G P F n .skip ak I Q:=λa w aj s=>wp_skip qw
theorem Wj(h:GE F n ak I (Q (.exit id))):G P F n (.exit id) ak I Q:=λa w aj s=>wp_exit qw
def oL(h:GE F n ak I (Q .ret)):G P F n .ret ak I Q:=λa w aj s=>wp_ret qw
def mR{b:Bool}(ag:cb ak x=some (.bool b))(R:b=true->G P F n c1 ak I Q)(a8:b=false->G P F n bk ak I Q):G P F n (.cond x c1 bk) ak I Q:=
 λa w aj s=>wp_cond_split (aj.eval ag) (λe=>R e a w aj s) (λe=>a8 e a w aj s)
def wx(ag:cb ak x=some iu)(h:G P F n c1 ak I Q):G P F n (.cond x c1 bk) ak I Q:=
 λa w aj s=>wp_cond_true (aj.eval ag) qw
def tr(ag:cb ak x=some gQ)(h:G P F n bk ak I Q):G P F n (.cond x c1 bk) ak I Q:=
 λa w aj s=>wp_cond_false (aj.eval ag) qw
theorem jb(h:cz P F n l.toArray l ak I Q):G P F n (.region id l.toArray false) ak I Q:=λa w aj s=>wp_region_lit qw
def ib(h:GE F n ak I (Q .normal)):cz P F n E [] ak I Q:=h
theorem gO(K:bx->Prop)(d:bx->eA)(g:bx->List aq)(i:bx->Nat)(hm:bx)(bn:K hm)(hk:bd (d hm) ak)(B:∀h,Sat I h->Sat (g hm) h)
 (round:∀x,K x->G P F n c (d x) (g x) (Exit.then (λa w=>∃y,K y/\i y<i x/\hd n (d y) a/\db F (g y) w) Q)):G P F n (.loop c) ak I Q:=by
 intro a w aj s;have key:∀m x a w,i x=m->K x->hd n (d x) a->db F (g x) w->
  ∀b k cs,∃e aE X,Q e aE X/\Arrives P (lone (b.at a (.code c::.inLoop c::k)) cs w) b k cs e aE X:=by
  intro m
  induction m using Nat.strongRecOn with
  |
   _ m L=>
   intro x a w bb bM aj s b k cs;obtain⟨e,p,q,bo,f⟩:=round x bM a w aj s b (.inLoop c::k) cs;cases e with
   |
    normal=>
    obtain⟨y,j,d5,o,r⟩:=bo;obtain⟨t,u,v,z,C⟩:=L (i y) (bb▸d5) y p q rfl j o r b k cs;exact⟨t,u,v,z,.of_steps (Steps.trans f (.one step_inLoop)) C⟩
   |exit id=>exact⟨_,p,q,bo,.pass (x:=.inLoop c) rfl Dn f⟩
   |goto l=>exact⟨_,p,q,bo,.pass (x:=.inLoop c) rfl Dn f⟩
   |ret=>exact⟨_,p,q,bo,.pass (x:=.inLoop c) rfl Dn f⟩
   |panic D=>exact⟨_,p,q,bo,.pass (x:=.inLoop c) rfl Dn f⟩
   |outgrown=>exact⟨_,p,q,bo,.pass (x:=.inLoop c) rfl Dn f⟩
 intro b k cs;obtain⟨e,aE,X,bo,f⟩:=key _ hm a w rfl bn (aj.jM hk) (s.imp B) b k cs;exact⟨e,aE,X,bo,.of_steps (.one step_loop) f⟩
theorem fm{K:bx->Prop}{d:bx->eA}{g:bx->List aq}{i:bx->Nat}{m:Nat}(y:bx)(bn:K y)(bb:i y<m)(hk:bd (d y) ak)(B:∀h,Sat I h->Sat (g y) h):
 GE F n ak I (Exit.then (λa w=>∃y,K y/\i y<m/\hd n (d y) a/\db F (g y) w) Q .normal):=
 λ_ _ aj s=>⟨y,bn,bb,aj.jM hk,s.imp B⟩
theorem Wk(args:List Value)(n:Nat)(h:args.length<=n):
 hd n (args.zipIdx.map fun(v,i)=>(i,v)) {tmps:=args.toArray++Array.replicate (n -args.toArray.size) undef,defers:=[]}:=by
 refine⟨by simp;omega,rfl,λt v e=>?_⟩;have key:∀(l:List Value) (k:Nat) (t:Nat) (v:Value),gL ((l.zipIdx k).map fun(v,i)=>(i,v)) t=some v->k<=t/\l[t -k]?=some v:=by
  intro l
  induction l with
  |nil=>intro k t v e;simp[gL]at e
  |
   cons x l L=>
   intro k t v e;simp only[wE,gz,gL]at e;cases az:Nat.beq k t with
   |true=>rw[az]at e;simp at e;have:=lr az;subst this;simp[e]
   |
    false=>
    rw[az]at e;simp at e;obtain⟨h1,h2⟩:=L _ _ _ e;refine⟨by omega,?_⟩;rw[show t -k=(t -(k+1))+1 by omega];simpa using h2
 obtain⟨_,h2⟩:=key args 0 t v (by simpa using e);rw[Dp]at h2;have:t<args.length:=by
  rcases sh t args.length with x|x
  . exact x
  . rw[oM x]at h2;cases h2
 simp only[anX,yg,this,fk,M5];exact h2
theorem ku{f:FuncId}{fn:Func}{args:List Value}{post:Value->List aq->Prop}(a8:P.funcs[f]?=some fn)(az:fn.body=some c){ce:Nat}(aS:fn.ntmps=ce)(aw:Nat.ble args.length ce=true)
 (h:∀F D,G P F ce c (args.zipIdx.map fun(v,i)=>(i,v)) (I++D) (AO P F fn post D)):ad P f args I post:=by
 intro F D w s;subst aS;exact calls_of_wp a8 az (h F D _ _ (Wk args _ (Dq aw)) s)
def Hf{t:Nat}{v:Value}(aj:hd n ak a)(e:gL ak t=some v):a.tmps.getD t undef=v:=by
 have:=aj.val _ _ e;simp[Dr,this]
end
variable{fn:Func}{post:Value->List aq->Prop}{D:List aq}
theorem x6{v:Value}{e:Exit}(Y:e=.ret\/e=.normal)(aD:∀a w,hd n ak a->db F I w->(results fn a.tmps).run P w=.ok v w)(H:List aq)(hp:post v H)(B:∀h,Sat I h->Sat (H++D) h):
 GE F n ak I vW:=λa w aj s=>by
 rcases Y with rfl|rfl
 . exact bodyPost_ret (aD a w aj s) aj.defers ⟨v,H,rfl,hp,s.imp B⟩
 . exact bodyPost_end (aD a w aj s) aj.defers ⟨v,H,rfl,hp,s.imp B⟩
def Ds{e:Exit}(Y:e=.ret\/e=.normal)(a8:fn.results=#[])(H:List aq)(hp:post et H)(B:∀h,Sat I h->Sat (H++D) h):GE F n ak I vW:=
 x6 Y (λ_ _ _ _=>results_none a8 _ _ _) H hp B
def jm{e:Exit}(Y:e=.ret\/e=.normal){t:Nat}{v:Value}(a8:fn.results=#[.tmp t])(h1:gL ak t=some v)(H:List aq)(hp:post v H)(B:∀h,Sat I h->Sat (H++D) h):GE F n ak I vW:=
 x6 Y (λa w aj _=>by rw[results_tmp a8,Hf aj h1]) H hp B
def Wl{e:Exit}(Y:e=.ret\/e=.normal){t u:Nat}{v x:Value}(a8:fn.results=#[.tmp t,.tmp u])(h1:gL ak t=some v)(h2:gL ak u=some x)(H:List aq)(hp:post (.tuple #[v,x]) H)(B:∀h,Sat I h->Sat (H++D) h):GE F n ak I vW:=
 x6 Y (λa w aj _=>by rw[results_tmp2 a8,Hf aj h1,Hf aj h2]) H hp B
def bU(P:Program)(F:World)(n:Nat)(op:Op)(bC:TypeId)(ak:eA)(I:List aq)(v:Value):Prop:=
 ∀a w d pos N g,hd n ak a->db F I w->(execOp a.eval ⟨d,op,bC,pos,N,g⟩).run P w=.ok (.value v) w
variable{op:Op}{bC:TypeId}{pos:String}{N:Array Edge}{rest:List Oper}{v:Value}
def aA{d:Nat}(aQ:Nat.blt d n=true)(V:bU P F n op bC ak I v)(h:cz P F n E rest oN I Q):cz P F n E Hg ak I Q:=
 λa w aj s=>wpList_plain rfl λK cL=>by
  simp only[Oper.wp,V a w (some d) pos N none aj s,Oper.upon];exact cL _ _ (h _ _ ry s)
def c6(P:Program)(F:World)(n:Nat)(op:Op)(bC:TypeId)(ak:eA)(I H:List aq):Prop:=
 ∀a w d pos N g,hd n ak a->db F I w->∃X,(execOp a.eval ⟨d,op,bC,pos,N,g⟩).run P w=.ok .skip X/\db F H X
def iF(V:c6 P F n op bC ak I H)(h:cz P F n E rest ak H Q):cz P F n E M6 ak I Q:=
 λa w aj s=>wpList_plain rfl λK cL=>by
  obtain⟨X,aD,aY⟩:=V a w none pos N none aj s;simp only[Oper.wp,aD,Oper.upon];exact cL _ _ (h _ _ aj aY)
def cY(P:Program)(F:World)(n:Nat)(op:Op)(bC:TypeId)(ak:eA)(I:List aq)(p:Value->List aq->Prop):Prop:=
 ∀a w d pos N g,hd n ak a->db F I w->∃v H X,(execOp a.eval ⟨d,op,bC,pos,N,g⟩).run P w=.ok (.value v) X/\p v H/\db F H X
section
variable{j z:Nat}{M:Bool}{d:Nat}{p:Value->List aq->Prop}
def iQ(aQ:Nat.blt d n=true)(V:cY P F n op bC ak I p)(h:∀v H,p v H->cz P F n E rest oN H Q):cz P F n E Hg ak I Q:=
 λa w aj s=>wpList_plain rfl λK cL=>by
  obtain⟨v,H,X,aD,hp,aY⟩:=V a w (some d) pos N none aj s;simp only[Oper.wp,aD,Oper.upon];exact cL _ _ (h v H hp _ _ ry aY)
def iD(ak:eA):Option Nat->eA
 |some d=>(d,undef)::ak
 |none=>ak
def anY(n:Nat):Option Nat->Bool
 |some d=>Nat.blt d n
 |none=>true
theorem hU{c:Bool}{d:Option Nat}(J:(E[j]?).bind (·.dst)=some z)(V:gL ak z=some (.bool c))
 (h1:c=M->cz P F n E (⟨d,op,bC,pos,N,none⟩::rest) ak I Q)(h2:c=(!M)->cz P F n E rest (iD ak d) I Q)(aQ:anY n d=true):
 cz P F n E (⟨d,op,bC,pos,N,some (j,M)⟩::rest) ak I Q:=λa w aj s=>by
 have ah:yielded E a.tmps j=some c:=by
  unfold yielded;rw[J];simp[aj.val _ _ V]
 by_cases a2:c=M
 . have:=h1 a2 a w aj s
   unfold wpList at this⊢;simp only[Region.wanted,ah,a2,beq_self_eq_true,fk]at this⊢;exact this
 . have r:c=(!M):=by clear ah V h1 h2;cases c<;>cases M<;>first|rfl|exact absurd rfl a2
   have O:(some c==some M)=false:=by rw[r];cases M<;>rfl
   unfold wpList;simp only[Region.wanted,ah,O];cases d with
   |none=>exact h2 r a w aj s
   |some d=>exact h2 r _ w yy s
theorem o8{c:Bool}{d:Option Nat}(J:(E[j]?).bind (·.dst)=some z)(V:gL ak z=some (.bool c))(a2:c=M)
 (h1:cz P F n E (⟨d,op,bC,pos,N,none⟩::rest) ak I Q):
 cz P F n E (⟨d,op,bC,pos,N,some (j,M)⟩::rest) ak I Q:=λa w aj s=>by
 have ah:yielded E a.tmps j=some c:=by
  unfold yielded;rw[J];simp[aj.val _ _ V]
 have:=h1 a w aj s;unfold wpList at this⊢;simp only[Region.wanted,ah,a2,beq_self_eq_true,fk]at this⊢;exact this
theorem Hh{c:Bool}{d:Nat}(J:(E[j]?).bind (·.dst)=some z)(V:gL ak z=some (.bool c))(a2:c=(!M))(aQ:Nat.blt d n=true)
 (h2:cz P F n E rest AP I Q):
 cz P F n E Wm ak I Q:=λa w aj s=>by
 have ah:yielded E a.tmps j=some c:=by
  unfold yielded;rw[J];simp[aj.val _ _ V]
 have O:(some c==some M)=false:=by subst a2;cases M<;>rfl
 unfold wpList;simp only[Region.wanted,ah,O];exact h2 _ w yy s
theorem anZ(J:(E[j]?).bind (·.dst)=some z)(V:gL ak z=some undef)(aQ:Nat.blt d n=true)
 (h2:cz P F n E rest AP I Q):
 cz P F n E Wm ak I Q:=λa w aj s=>by
 have ah:yielded E a.tmps j=none:=by
  unfold yielded;rw[J];simp only[k3,aj.val _ _ V];rfl
 unfold wpList;simp only[Region.wanted,ah];exact h2 _ w yy s
def dc(P:Program)(F:World)(n:Nat)(op:Op)(bC:TypeId)(ak:eA)(I:List aq)(p:Value->List aq->Prop):Prop:=
 ∀
  a w d pos N g,hd n ak a->db F I w->∃f args,(execOp a.eval ⟨d,op,bC,pos,N,g⟩).run P w=.ok (.enter f args) w/\
  Calls P f args w λe X=>∃v H,e=.returned v/\p v H/\db F H X
def cj(aQ:Nat.blt d n=true)(V:dc P F n op bC ak I p)(h:∀v H,p v H->cz P F n E rest oN H Q):cz P F n E Hg ak I Q:=
 λa w aj s=>wpList_plain rfl λK cL=>by
  obtain⟨f,args,aD,a2⟩:=V a w (some d) pos N none aj s;simp only[Oper.wp,aD,Oper.upon];exact a2.mono λe X ⟨v,H,Y,hp,aY⟩=>by subst Y;exact cL _ _ (h v H hp _ _ ry aY)
end
end
section
variable(b:Nat){P:Program}{α:Type}{f:FuncId}
abbrev ab(bC:TypeId)(l:List Value):aq:=ev b (.cells l.toArray bC (0,0))
abbrev ptr(bv:Nat):Value:=.pointer (some ⟨b,bv,none⟩)
def u3:TypeDesc->Bool
 |.struct _|.array _ _=>true
 |_=>false
class u4(P:Program)(t:TypeId)(k:outParam IntKind):Prop where
 out:P.underlying t=some (.int k)
class HU(P:Program)(t:TypeId):Prop where
 out:P.underlying t=some .bool
class u5(P:Program)(t:TypeId):Prop where
 out:∃e,P.underlying t=some (.pointer e)
class A9(P:Program)(t:TypeId):Prop where
 out:P.underlying t=some .string
class ew(P:Program)(t:TypeId):Prop where
 out:∃d,P.underlying t=some d/\u3 d=false
 size:∃i,P.info? t=some i/\i.size=1
class jR(P:Program)(t:TypeId)(aT:outParam Nat):Prop where
 out:∃d,P.underlying t=some d/\u3 d=true
 size:∃i,P.info? t=some i/\i.size=aT
class bO(P:Program)(s:TypeId)(f:Nat)(bv:outParam Nat):Prop where
 out:∃gu H i,P.underlying s=some (.struct gu)/\gu[f]?=some H/\H.offset=bv/\P.info? H.type=some i/\i.size≠0
class Ba(P:Program)(t:TypeId)(len aT:outParam Nat):Prop where
 out:∃e i,P.underlying t=some (.array len e)/\P.info? e=some i/\i.size=aT
class jy(P:Program)(t:TypeId)(e:outParam TypeId)(aT:outParam Nat):Prop where
 out:∃i,P.underlying t=some (.slice e)/\P.info? e=some i/\i.size=aT
class eU(P:Program)(f:FuncId):Prop where
 out:∃fn c,P.funcs[f]?=some fn/\fn.body=some c/\(fn.name == "runtime.NumGoroutine")=false
def p6(o:Option α)(p:α->Bool):Bool:=match o with
 |some x=>p x
 |none=>false
def qB{o:Option α}{p:α->Bool}(h:p6 o p=true):∃x,o=some x/\p x=true:=by
 cases o with
 |none=>cases h
 |some x=>exact⟨x,rfl,h⟩
theorem atA(h:p6 P.funcs[f]? (λfn=>fn.body.isSome&&!(fn.name == "runtime.NumGoroutine"))=true:=by kernel_rfl):eU P f:=by
 obtain⟨fn,h1,h2⟩:=qB h;obtain⟨h2,aH⟩:=DQ.1 h2;obtain⟨c,h2⟩:=RZ.1 h2;exact⟨fn,c,h1,h2,by simpa using aH⟩
theorem e7(h:eU P f:=by first|infer_instance|exact atA):eU P f:=h
end
section
variable{P:Program}{F w:World}{n:Nat}{ak:eA}{I:List aq}{bC:TypeId}
section
variable{f:FuncId}{c:Operand}{t dh:TypeId}{i:TypeInfo}{x y:Operand}{xs:List Operand}{k dj:IntKind}{b bv:Nat}{z:Array TypeId}{p q:Int}{e:TypeId}(r:Int){l U M:List Value}{u:Obj->List aq}{pre D:List aq}{v:Value}{aT:Nat}{post:Value->List aq->Prop}{d:TypeDesc}{O:Nat×Nat}
def gC(h:P.underlying t=some d)(w:World):(underlying t).run P w=.ok d w:=by simp[underlying,h]
def It(h:P.info? t=some i)(w:World):(typeInfo t).run P w=.ok i w:=by simp[typeInfo,h]
def ji(h:P.info? t=some i)(w:World):(sizeOf t).run P w=.ok i.size w:=by simp[sizeOf,It h]
def wc{E:Value}(h:P.info? t=some i)(T:i.zero=some E)(w:World):(zeroValue t).run P w=.ok E w:=by simp[zeroValue,It h,T]
def Bh(h:P.underlying t=some d)(h2:u3 d=false)(w:World):(isAgg t).run P w=.ok false w:=by
 cases d<;>simp[u3]at h2<;>simp[isAgg,gC h]
def Aa(h:P.underlying t=some d)(h2:u3 d=true)(w:World):(isAgg t).run P w=.ok true w:=by
 cases d<;>simp[u3]at h2<;>simp[isAgg,gC h]
def j8(h:cb ak x=some v):bU P F n (.move x) bC ak I v:=λa w d pos N g aj _=>by
 simp[execOp,aj.eval h]
def mj(h:cb ak x=some v):bU P F n (.assign x) bC ak I v:=λa w d pos N g aj _=>by
 simp[execOp,aj.eval h]
def lR{z:Addr}(h:cb ak x=some (.pointer (some z))):bU P F n (.nilCheck x) bC ak I (.pointer (some z)):=λa w d pos N g aj _=>by
 simp[execOp,aj.eval h]
def nE{s:TypeId}{x:Operand}{f b o bv:Nat}[i:bO P s f bv](h:cb ak x=some (ptr b o)):bU P F n (.fieldAddr s x f) bC ak I (ptr b (o+bv)):=λa w d pos N g aj _=>by
 obtain⟨gu,H,z,h1,h2,aH,bm,dk⟩:=i.out;simp only[execOp,aj.eval h];simp[Instr.fieldAt,Instr.sureAddr,gC h1,h2,aH,fieldPlace,ji bm,dk,Addr.add]
def JO{k:Nat}{M:List Value}{v:Value}(h:cb ak x=some (.tuple M.toArray))(hk:M[k]?=some v):bU P F n (.extract x k) bC ak I v:=λa w d pos N g aj _=>by
 simp only[execOp,aj.eval h];simp[go_sem,Instr.extract,hk]
def n1(ag:cb ak x=some (.int k p))(ah:cb ak y=some (.int k q)):bU P F n (.binOp .add t x y dh) bC ak I (.int k (k.wrap (p+q))):=λa w d pos N g aj _=>by
 simp only[execOp,aj.eval ag,aj.eval ah];simp[go_sem,eqGuard,binOp,Op.intArith]
def yH(ag:cb ak x=some (.int k p))(ah:cb ak y=some (.int k q)):bU P F n (.binOp .sub t x y dh) bC ak I (.int k (k.wrap (p -q))):=λa w d pos N g aj _=>by
 simp only[execOp,aj.eval ag,aj.eval ah];simp[go_sem,eqGuard,binOp,Op.intArith]
def Nj(ag:cb ak x=some (.int k p))(ah:cb ak y=some (.int k q)):bU P F n (.binOp .mul t x y dh) bC ak I (.int k (k.wrap (p*q))):=λa w d pos N g aj _=>by
 simp only[execOp,aj.eval ag,aj.eval ah];simp[go_sem,eqGuard,binOp,Op.intArith]
def yL(ag:cb ak x=some (.int k p))(ah:cb ak y=some (.int k q)):bU P F n (.binOp .lss t x y dh) bC ak I (.bool (decide (p<q))):=λa w d pos N g aj _=>by
 simp only[execOp,aj.eval ag,aj.eval ah];simp[go_sem,eqGuard,binOp,Op.intCmp]
def If(ag:cb ak x=some (.int k p))(ah:cb ak y=some (.int k q)):bU P F n (.binOp .leq t x y dh) bC ak I (.bool (decide (p<=q))):=λa w d pos N g aj _=>by
 simp only[execOp,aj.eval ag,aj.eval ah];simp[go_sem,eqGuard,binOp,Op.intCmp]
def B2(ag:cb ak x=some (.int k p))(ah:cb ak y=some (.int k q)):bU P F n (.binOp .gtr t x y dh) bC ak I (.bool (decide (q<p))):=λa w d pos N g aj _=>by
 simp only[execOp,aj.eval ag,aj.eval ah];simp[go_sem,eqGuard,binOp,Op.intCmp]
def Af(ag:cb ak x=some (.int k p))(ah:cb ak y=some (.int k q)):bU P F n (.binOp .geq t x y dh) bC ak I (.bool (decide (q<=p))):=λa w d pos N g aj _=>by
 simp only[execOp,aj.eval ag,aj.eval ah];simp[go_sem,eqGuard,binOp,Op.intCmp]
def nb(ag:cb ak x=some (.int k p))(ah:cb ak y=some (.int k q)):bU P F n Bw bC ak I (.bool (decide (p=q))):=λa w d pos N g aj _=>by
 simp only[execOp,aj.eval ag,aj.eval ah];simp[go_sem,eqGuard,binOp,Op.intCmp];rfl
def mc(ag:cb ak x=some (.int k p))(ah:cb ak y=some (.int k q)):bU P F n Bv bC ak I (.bool (!decide (p=q))):=λa w d pos N g aj _=>by
 simp only[execOp,aj.eval ag,aj.eval ah];simp[go_sem,eqGuard,binOp,Op.intCmp];rfl
def ahN{p q:Bool}[R:HU P t](ag:cb ak x=some (.bool p))(ah:cb ak y=some (.bool q)):bU P F n Bw bC ak I (.bool (p==q)):=λa w d pos N g aj _=>by
 simp only[execOp,aj.eval ag,aj.eval ah];simp[eqGuard,run_eql_bool _ _ _ _ R.out]
def atB{p q:Bool}[R:HU P t](ag:cb ak x=some (.bool p))(ah:cb ak y=some (.bool q)):bU P F n Bv bC ak I (.bool (!(p==q))):=λa w d pos N g aj _=>by
 simp only[execOp,aj.eval ag,aj.eval ah];simp[eqGuard,run_neq_bool _ _ _ _ R.out]
def qF{b:Bool}(ag:cb ak x=some (.bool b)):bU P F n (.unOp .not t x) bC ak I (.bool (!b)):=λa w d pos N g aj _=>by
 simp only[execOp,aj.eval ag];simp[go_sem,Op.unary]
def atC[i:u4 P t k][j:u4 P dh dj](ag:cb ak x=some (.int k p)):bU P F n (.convert t dh x) bC ak I (.int dj (dj.wrap p)):=λa w d pos N g aj _=>by
 simp only[execOp,aj.eval ag];simp[convert,gC i.out,gC j.out,Conv.intToInt]
theorem o_load[i:ew P t][j:k0 b I (.cells l.toArray e O) u](h:cb ak x=some (ptr b bv))(V:l[bv]?=some v):
 bU P F n (.load t x) bC ak I v:=λa w d pos N g aj s=>by
 obtain⟨J,h1,h2⟩:=i.out;have az:=s.heap (b:=b);have a2:w.cell? rb=some v:=by simp[World.cell?,az,V]
 simp only[execOp,aj.eval h];simp[Instr.loadAt,Instr.sureAddr,loadVar,Bh h1 h2,run_load,a2]
def z8{bv aT j:Nat}{v:Value}(h:((l.drop bv).take aT)[j]?=some v):l[bv+j]?=some v:=by
 rw[ahO]at h;split at h
 . rwa[Ma]at h
 . cases h
def uo{w:World}{b bv j:Nat}:w.cell? (Addr.add ⟨b,bv,none⟩ j)=w.cell? ⟨b,bv+j,none⟩:=by
 unfold Addr.add;split
 . subst_vars;rfl
 . rfl
theorem zC[i:jR P t aT][j:k0 b I (.cells l.toArray e O) u](h:cb ak x=some (ptr b bv))(V:(l.drop bv).take aT=M)(aw:M.length=aT):
 bU P F n (.load t x) bC ak I yU:=λa w d pos N g aj s=>by
 obtain⟨J,h1,h2⟩:=i.out;obtain⟨z,aH,bm⟩:=i.size;have az:=s.heap (b:=b);have a2:=run_loadCells_list (P:=P) w rb M (λk v hk=>by
  rw[<-V]at hk;have:=z8 hk;rw[uo];simp[World.cell?,az,this])
 simp only[execOp,aj.eval h];simp[Instr.loadAt,Instr.sureAddr,loadVar,Aa h1 h2,ji aH,bm];rw[aw]at a2;simp[a2]
def db.setCell{b bv:Nat}{e:TypeId}{l:List Value}{u:Obj->List aq}{O:Nat×Nat}[i:k0 b I (.cells l.toArray e O) u](s:db F I w)(v:Value):db F (u (.cells (l.set bv v).toArray e O)) (w.setCell ⟨b,bv,none⟩ v):=by
 have h:=i.get s.eI;refine⟨s.os,s.tape,s.output,by have:=s.size;simpa[World.setCell]using this,?_⟩;have:fE (w.setCell rb v)=iR (fE w) b (.cells (l.set bv v).toArray e O):=by
  unfold World.setCell;rw[ty _ h];simp
 rw[this];exact i.set _ s.eI
theorem mi[i:ew P t][j:k0 b I (.cells l.toArray e (0,0)) u](h:cb ak x=some (ptr b bv))(V:cb ak y=some v)(h1:v.oneCell'=true)(aw:Nat.blt bv l.length=true):
 c6 P F n (.store t x y) bC ak I (u (.cells (l.set bv v).toArray e (0,0))):=λa w d pos N g aj s=>by
 obtain⟨z,aH,bm⟩:=i.size;have az:=s.heap (b:=b);have W:bv<l.length:=by simpa[yz]using aw
 have a2:(w.cell? rb).isSome:=by simp[World.cell?,az,W]
 have a8:w.frozen? rb=false:=by simp[World.frozen?,az]
 refine⟨w.setCell rb v,?_,?_⟩
 . simp only[execOp,aj.eval h,aj.eval V]
   have B:v.cells=#[v]:=Zp;obtain⟨c,r⟩:=RZ.1 a2;simp[Instr.storeAt,Instr.sureAddr,storeVar,ji aH,bm,B,storeCells,Addr.add,run_store,h1,stored,r,a8]
 . exact s.setCell v
def fo(aD:k.wrap (p+q)=r)(ag:cb ak x=some (.int k p))(ah:cb ak y=some (.int k q)):bU P F n (.binOp .add t x y dh) bC ak I (.int k r):=aD▸n1 ag ah
def ks(aD:k.wrap (p -q)=r)(ag:cb ak x=some (.int k p))(ah:cb ak y=some (.int k q)):bU P F n (.binOp .sub t x y dh) bC ak I (.int k r):=aD▸yH ag ah
def rs(aD:k.wrap (p*q)=r)(ag:cb ak x=some (.int k p))(ah:cb ak y=some (.int k q)):bU P F n (.binOp .mul t x y dh) bC ak I (.int k r):=aD▸Nj ag ah
def pU[u4 P t k][u4 P dh dj](aD:dj.wrap p=r)(ag:cb ak x=some (.int k p)):bU P F n (.convert t dh x) bC ak I (.int dj r):=aD▸atC ag
def ahP(ag:cb ak x=some (.int k p))(ah:cb ak y=some (.int k q))(bo:q≠0):bU P F n (.binOp .quo t x y dh) bC ak I (.int k (k.wrap (p.tdiv q))):=λa w d pos N g aj _=>by
 simp only[execOp,aj.eval ag,aj.eval ah];simp[eqGuard,binOp,Op.intDiv,bo]
def ahQ(ag:cb ak x=some (.int k p))(ah:cb ak y=some (.int k q))(bo:q≠0):bU P F n (.binOp .rem t x y dh) bC ak I (.int k (p.tmod q)):=λa w d pos N g aj _=>by
 simp only[execOp,aj.eval ag,aj.eval ah];simp[eqGuard,binOp,Op.intDiv,bo]
def GX(aD:k.wrap (p.tdiv q)=r)(ag:cb ak x=some (.int k p))(ah:cb ak y=some (.int k q))(bo:q≠0):bU P F n (.binOp .quo t x y dh) bC ak I (.int k r):=aD▸ahP ag ah bo
def ts(aD:p.tmod q=r)(ag:cb ak x=some (.int k p))(ah:cb ak y=some (.int k q))(bo:q≠0):bU P F n (.binOp .rem t x y dh) bC ak I (.int k r):=aD▸ahQ ag ah bo
def jw(R:P.underlying t=some d)(aQ:(match d with|.interface _=>false|_=>true)=true)(ag:cb ak x=some v):bU P F n (.makeInterface t x) bC ak I (.iface t v):=λa w J pos N g aj _=>by
 simp only[execOp,aj.eval ag];simp only[Instr.makeInterface];cases d<;>simp at aQ<;>simp[gC R]
def KN{fn:Go.Fn}{xs U:List Operand}{M b:List Value}(ag:tz ak xs=some M)(ah:tz ak U=some b):bU P F n (.makeFunc fn xs.toArray U.toArray) bC ak I (.func fn M.toArray b.toArray):=λa w d pos N g aj _=>by
 simp[execOp,Instr.makeFunc,aj.z6 ag,aj.z6 ah]
def YU:cY P F n (.makeMap t none) bC ak I (λv H=>∃b,v=.map (some b)/\H=ev b ps::I):=λa w d pos N g aj s=>
 ⟨_,_,_,by simp[execOp,Instr.makeMap],⟨w.heap.size,rfl,rfl⟩,s.new _⟩
def R0{x:Operand}{v:Value}(ag:cb ak x=some v)(h1:v.oneCell'=true):cY P F n (.box e x) bC ak I (λu H=>∃b,u=ptr b 0/\H=ab b e [v]::I):=λa w d pos N g aj s=>by
 have B:v.cells=[v].toArray:=Zp;exact⟨_,_,_,by simp only[execOp,aj.eval ag,Instr.box,newVar,newRow,B];simp,⟨w.heap.size,rfl,rfl⟩,s.new _⟩
def Br{x:Operand}{M:List Value}(ag:cb ak x=some yU):cY P F n (.box e x) bC ak I (λu H=>∃b,u=ptr b 0/\H=ab b e M::I):=λa w d pos N g aj s=>by
 exact⟨_,_,_,by simp only[execOp,aj.eval ag,Instr.box,newVar,newRow,Value.cells];simp,⟨w.heap.size,rfl,rfl⟩,s.new _⟩
class eG(P:Program)(t:TypeId)(U:outParam (List Value)):Prop where
 out:∃i E,P.info? t=some i/\i.zero=some E/\E.cells=U.toArray
def tX[i:eG P e U]:cY P F n (.alloc e) bC ak I (λu H=>∃b,u=ptr b 0/\H=ab b e U::I):=λa w d pos N g aj s=>by
 obtain⟨z,E,h1,h2,aH⟩:=i.out;exact⟨_,_,_,by simp only[execOp,Instr.alloc];simp[wc h1 h2,newVar,newRow,aH],⟨w.heap.size,rfl,rfl⟩,s.new _⟩
def jX(l:List Value)(bv:Nat):List Value->List Value
 |[]=>l
 |v::r=>jX (l.set bv v) (bv+1) r
def EV(b:List (Nat×Nat))(l:List Value):List (Nat×Value)->Option (List Value)
 |[]=>some l
 |
  (i,v)::r=>match b[i]?with
  |none=>none
  |
   some (bv,aT)=>match v.cells.toList with
   |cs=>cond (Nat.beq cs.length aT&&Nat.ble (bv+cs.length) l.length) (EV b (jX l bv cs) r) none
class hs(P:Program)(t:TypeId)(b:outParam (List (Nat×Nat)))(U:outParam (List Value)):Prop where
 out:∃i E gu,P.info? t=some i/\i.zero=some E/\E.cells=U.toArray/\P.underlying t=some (.struct gu)/\gu.toList.map (λf=>(f.offset,((P.info? f.type).map (·.size))))=b.map (λp=>(p.1,some p.2))
def OQ:∀(cs l:List Value) (bv k:Nat),((cs.zipIdx k).foldl (fun(a:Array Value) (x:Value×Nat)=>a.setIfInBounds (bv+x.2) x.1) l.toArray)=(jX l (bv+k) cs).toArray
 |[],_,_,_=>rfl
 |
  c::cs,l,bv,k=>by
  simp only[wE,yR,List.setIfInBounds_toArray,jX];rw[OQ cs _ bv (k+1)];rfl
def Zg:∀(cs l:List Value) (bv:Nat),(jX l bv cs).length=l.length
 |[],_,_=>rfl
 |c::cs,l,bv=>by simp only[jX];rw[Zg cs];simp
def fill_eq(b:List (Nat×Nat)):∀(J:List (Nat×Value)) (l cs:List Value),EV b l J=some cs->Instr.fill (b.toArray[·]?) l.toArray J=some cs.toArray
 |[],l,cs,h=>by simp[EV]at h;simp[Instr.fill,h]
 |
  (i,v)::r,l,cs,h=>by
  simp only[EV]at h;simp only[Instr.fill,M5];cases hp:b[i]?with
  |none=>rw[hp]at h;cases h
  |
   some p=>
   obtain⟨bv,aT⟩:=p;rw[hp]at h;simp only at h⊢;cases az:(Nat.beq v.cells.toList.length aT&&Nat.ble (bv+v.cells.toList.length) l.length)with
   |false=>rw[az]at h;cases h
   |
    true=>
    rw[az]at h;simp only[iy,Nat.ble_eq]at az;simp only[cond_true]at h;have h1:v.cells.size=aT:=Zi;have h2:bv+v.cells.size<=l.length:=by simpa using az.2
    rw[a6 (by simp[h1];omega)];have aH:=OQ v.cells.toList l bv 0;have bm:(v.cells.zipIdx.foldl (λcs (x:Value×Nat)=>cs.setIfInBounds (bv+x.2) x.1) l.toArray)=(jX l bv v.cells.toList).toArray:=by
     rw[<-XT,Array.toList_zipIdx];simpa using aH
    rw[bm];simpa using fill_eq b r _ _ h
def ahR{P:Program}(w:World):∀(gu:List Field) (b:List (Nat×Nat)),gu.map (λf=>(f.offset,((P.info? f.type).map (·.size))))=b.map (λp=>(p.1,some p.2))->
 (gu.mapM (m:=Sem) λf=>do Pure.pure (f.offset,<-sizeOf f.type)).run P w=.ok b w
 |[],[],_=>by simp
 |
  f::gu,p::J,h=>by
  simp only[gz,List.cons.injEq,Prod.mk.injEq]at h;obtain⟨⟨h1,h2⟩,aH⟩:=h;cases al:P.info? f.type with
  |none=>rw[al]at h2;cases h2
  |
   some i=>
   rw[al]at h2;simp at h2;have:=ahR (P:=P) w gu J aH;rw[List.mapM_cons];simp[ji al]at this⊢;rw[this];simp[h1,h2]
 |[],_::_,h=>by cases h
 |_::_,[],h=>by cases h
def w7(ak:eA):List (Nat×Operand)->Option (List (Nat×Value))
 |[]=>some []
 |
  (i,x)::r=>match cb ak x,w7 ak r with
  |some v,some M=>some ((i,v)::M)
  |_,_=>none
def OR{a:Act}(aj:hd n ak a):∀{xs:List (Nat×Operand)} {M:List (Nat×Value)},w7 ak xs=some M->xs.map (fun(i,x)=>(i,a.eval x))=M
 |[],M,e=>by simp[w7]at e;simp[e]
 |
  (i,x)::r,M,e=>by
  simp only[w7]at e;split at e
  . rename_i v b aB aU
    simp at e;subst e;simp[aj.eval aB,OR aj aU]
  . cases e
theorem kX{b:List (Nat×Nat)}{U cs:List Value}{xs:List (Nat×Operand)}{J:List (Nat×Value)}[i:hs P t b U](ag:w7 ak xs=some J)(a8:EV b U J=some cs):
 bU P F n (.build t xs.toArray) bC ak I (.agg cs.toArray):=λa w d pos N g aj _=>by
 obtain⟨z,E,gu,h1,h2,aH,bm,dk⟩:=i.out;have g0:=ahR (P:=P) w gu.toList b dk;have u:=fill_eq _ _ _ _ a8;have L:(gu.mapM (m:=Sem) λf=>do Pure.pure (f.offset,<-sizeOf f.type)).run P w=.ok b.toArray w:=by
  rw[Array.mapM_eq_mapM_toList];simp at g0⊢;rw[g0];rfl
 simp only[execOp,Instr.build,oP,OR aj ag];simp at L u;simp[wc h1 h2,gC bm,aH,L,u]
def H7[i:eU P f](args:Array Value)(w:World):(callFunc f args).run P w=.ok (.enter f args) w:=by
 obtain⟨fn,c,h1,h2,aH⟩:=i.out;simp at aH;simp[callFunc,h1,h2,aH]
theorem b4(ag:tz ak xs=some M)(a8:ad P f M pre post)(hp:Part pre I D)(fD:eU P f:=by exact e7):
 dc P F n (.call {callee:=.value (.func f),args:=xs.toArray,argTypes:=z}) bC ak I H6:=λa w d pos N g aj s=>by
 refine⟨f,M.toArray,?_,?_⟩
 . simp only[execOp,resolve,oP,aj.z6 ag,Act.eval]
   simp[Deferred.ofValue,invoke,H7]
 . exact(a8 F D w DU).mono λe X ⟨v,L,Y,bo,aY⟩=>⟨v,_,Y,⟨L,bo,rfl⟩,aY⟩
theorem oE{first C:List Value}{pre D:List aq}{post:Value->List aq->Prop}(V:cb ak x=some (.func (.func f) first.toArray C.toArray))(ag:tz ak xs=some M)(a8:ad P f (first++M++C) pre post)(hp:Part pre I D)(fD:eU P f:=by exact e7):
 dc P F n (.call {callee:=.value x,args:=xs.toArray,argTypes:=z}) bC ak I H6:=λa w d pos N g aj s=>by
 refine⟨f,(first++M++C).toArray,?_,?_⟩
 . simp only[execOp,resolve,oP,aj.z6 ag,aj.eval V]
   simp[Deferred.ofValue,invoke,H7]
 . exact(a8 F D w DU).mono λe X ⟨v,L,Y,bo,aY⟩=>⟨v,_,Y,⟨L,bo,rfl⟩,aY⟩
def D3{b:Bool}{v:Value}(az:b=true)(a2:cb ak c=some (.bool b))(h1:cb ak x=some v):bU P F n (.pick c x y) bC ak I v:=λa w d pos N g aj _=>by
 subst az;simp only[execOp,aj.eval a2,aj.eval h1];simp[asBool]
def yX{b:Bool}{v:Value}(az:b=false)(a2:cb ak c=some (.bool b))(h1:cb ak y=some v):bU P F n (.pick c x y) bC ak I v:=λa w d pos N g aj _=>by
 subst az;simp only[execOp,aj.eval a2,aj.eval h1];simp[asBool]
def jv{x:Int}(h:-9223372036854775808<=x/\x<=9223372036854775807):IntKind.i64.wrap x=x:=by
 unfold IntKind.wrap;simp[IntKind.bits,IntKind.signed];omega
def tq{x:Int}(h:0<=x/\x<=18446744073709551615):IntKind.u64.wrap x=x:=by
 unfold IntKind.wrap;simp[IntKind.bits,IntKind.signed];omega
end
end
inductive mL|loc|bJ|c0
section
variable{P:Program}{E:Array Oper}{cX R:List Nat}{M:Act->World->Prop}{C:World->Prop}
section
variable{i:Nat}{a:Act}{w:World}{K fq:Act->World->Prop}{Q:Exit->Act->World->Prop}
def HO:Exit->Act->World->Prop:=λ_ _ _=>False
def od(P:Program)(E:Array Oper)(cX R:List Nat)(C:World->Prop)(i:Nat)(K:Act->World->Prop)(a:Act)(w:World):Prop:=
 match E[i]?with
 |none=>K a w
 |some o=>if Region.wanted o (yielded E a.tmps)then
  (if i∈cX then o.wp P a w (λaE X=>(i∈R->C X)/\K aE X) HO else∃v,(execOp a.eval o).run P w=.ok (.value v) w/\K (a.put o.dst v) w)
  else K (a.put o.dst undef) w
def w1(P:Program)(E:Array Oper)(cX R:List Nat)(M:Act->World->Prop)(C:World->Prop):Nat->Array Bool->Act->World->Prop
 |0,D,a,w=>Region.ready .any E D=[]/\M a w
 |f+1,D,a,w=>(Region.ready .any E D=[]->M a w)/\∀i∈Region.ready .any E D,od P E cX R C i (w1 P E cX R M C f (D.setIfInBounds i true)) a w
def apI{o:Oper}{a:Act}{w:World}{K fq:Act->World->Prop}{Q:Exit->Act->World->Prop}(h:o.wp P a w K HO)(hk:∀a w,K a w->fq a w):o.wp P a w fq Q:=by
 unfold Oper.wp at*
 generalize (execOp a.eval o).run P w=r at*
 cases r with
 |
  ok n X=>
  cases n<;>simp only[Oper.upon]at h⊢<;>
   first
    |exact hk _ _ h
    |exact Calls.mono h (λe B Y=>by cases e<;>first|exact hk _ _ Y|exact Y.elim|(obtain⟨_,_,x⟩:=Y;exact x.elim))
    |exact Rows.mono h (λ_ _ Y=>hk _ _ Y)
 |halt x X=>cases x<;>simp only[Oper.upon]at h⊢<;>first|exact h|exact h.elim
def apJ(h:od P E cX R C i K a w)(hk:∀a w,K a w->fq a w):wpOp P E Q i fq a w:=by
 unfold od at h;unfold wpOp;split at h
 . rename_i aJ;simp only[aJ];exact hk _ _ h
 . rename_i o aJ
   simp only[aJ];by_cases O:Region.wanted o (yielded E a.tmps)=true
   . simp only[O,fk]at h⊢
     left;by_cases g2:i∈cX
     . rw[bg g2]at h;exact apI h λa w co=>hk _ _ co.2
     . rw[a6 g2]at h
       obtain⟨v,aD,cL⟩:=h;unfold Oper.wp;rw[aD];exact hk _ _ cL
   . simp only[O]at h⊢;exact hk _ _ h
def HP{Q:Exit->Act->World->Prop}(g:∀a w,M a w->Q .normal a w):∀(f:Nat) (D:Array Bool) (a:Act) (w:World),w1 P E cX R M C f D a w->wpAny P .any E Q f D a w
 |0,_,_,_,h=>⟨h.1,g _ _ h.2⟩
 |f+1,_,_,_,h=>⟨λbn=>g _ _ (h.1 bn),λi al=>apJ (h.2 i al) λa w=>HP g f _ a w⟩
def apK(h:od P E cX R C i K a w)(hk:∀a w,K a w->fq a w):od P E cX R C i fq a w:=by
 unfold od at*;split at h
 . exact hk _ _ h
 . rename_i o aJ
   by_cases O:Region.wanted o (yielded E a.tmps)=true
   . rw[bg O]at h⊢
     by_cases g2:i∈cX
     . rw[bg g2]at h⊢;exact Oper.wp_mono (λa w co=>⟨co.1,hk _ _ co.2⟩) h
     . rw[a6 g2]at h⊢;obtain⟨v,aD,cL⟩:=h;exact⟨v,aD,hk _ _ cL⟩
   . rw[a6 O]at h⊢;exact hk _ _ h
def po(P:Program)(E:Array Oper)(z:World->Prop)(o:Oper)(v:Value)(a:Act):Prop:=
 (Region.wanted o (yielded E a.tmps)=true/\∀w,z w->(execOp a.eval o).run P w=.ok (.value v) w)\/(Region.wanted o (yielded E a.tmps)=false/\v=undef)
end
variable{z:World->Prop}
section
variable(l:List Oper){D:Array Bool}{o:Oper}{i:Nat}{H:Oper}{v:Value}
def po.same{a aE:Act}(ah:po P E z o v a)(Y:execOp aE.eval o=execOp a.eval o)(O:Region.wanted o (yielded E aE.tmps)=Region.wanted o (yielded E a.tmps)):po P E z o v aE:=by
 unfold po at*;rw[Y,O];exact ah
def po.od{i:Nat}{o:Oper}{v:Value}{a:Act}{w:World}(al:E[i]?=some o)(g2:i∉cX)(G:z w)(ah:po P E z o v a){K:Act->World->Prop}(h:K (a.put o.dst v) w):od P E cX R C i K a w:=by
 unfold Go.L.od;simp only[al];rcases ah with⟨O,V⟩|⟨O,rfl⟩
 . rw[bg O,a6 g2];exact⟨v,V w G,h⟩
 . simp only[O,eH,eo];exact h
theorem apL{j:Nat}{H g:Oper}{v:Value}(J:E[j]?=some g)(I:H.apart E g=true)
 (p:∀cs b,H.op≠.select cs b)(i7:∀cs b,g.op≠.select cs b){K:Act->World->Prop}{a:Act}{w:World}(G:z w)(c:∀w,j∈cX->(j∈R->C w)->z w)
 (ah:po P E z H v a)(h:od P E cX R C j K (a.put H.dst v) w):
 od P E cX R C j (λaE X=>z X/\po P E z H v aE/\K (aE.put H.dst v) X) a w:=by
 obtain⟨h1,h2,aH⟩:=Oper.apart_spec I;have jM:∀(a:Act),po P E z H v a->∀u,po P E z H v (a.put g.dst u):=λa ah u=>
  ah.same (execOp_put H p a g.dst u aH) (wanted_put H a g.dst u aH)
 have i:∀(a:Act) (d:Deferred),po P E z H v a->po P E z H v {a with defers:=d::a.defers}:=λa d ah=>ah.same rfl rfl;unfold od at*;simp only[J]at*;rw[wanted_put g a H.dst v h1]at h;by_cases O:Region.wanted g (yielded E a.tmps)=true
 . rw[bg O]at h⊢
   by_cases g2:j∈cX
   . rw[bg g2]at h⊢
     unfold Oper.wp at*;rw[execOp_put g i7 a H.dst v h1]at h
     generalize (execOp a.eval g).run P w=r at*
     cases r with
     |
      ok n X=>
      cases n<;>simp only[Oper.upon]at h⊢
      case value u=>exact⟨h.1,c _ g2 h.1,jM a ah u,by rw[<-Act.put_comm a v u h2];exact h.2⟩
      case skip=>exact⟨h.1,c _ g2 h.1,jM a ah _,by rw[<-Act.put_comm a v undef h2];exact h.2⟩
      case enter f args=>
       refine Calls.mono h λe B Y=>?_;cases e with
       |returned u=>exact⟨Y.1,c _ g2 Y.1,jM a ah u,by rw[<-Act.put_comm a v u h2];exact Y.2⟩
       |panicked D=>exact Y
       |outgrown=>exact Y
      case row row args=>exact Rows.mono h λu B Y=>⟨Y.1,c _ g2 Y.1,jM a ah u,by rw[<-Act.put_comm a v u h2];exact Y.2⟩
      case defer d=>
       refine⟨h.1,c _ g2 h.1,jM _ (i a d ah) _,?_⟩;have bm:({a.put H.dst v with defers:=d::(a.put H.dst v).defers}:Act).put g.dst undef=(({a with defers:=d::a.defers}:Act).put g.dst undef).put H.dst v:=by
        rw[<-Act.put_comm _ v undef h2];congr 1;cases H.dst<;>rfl
       rw[<-bm];exact h.2
     |halt x X=>cases x<;>simp only[Oper.upon]at h<;>exact h.elim
   . rw[a6 g2]at h⊢
     rw[execOp_put g i7 a H.dst v h1]at h;obtain⟨u,aD,cL⟩:=h;exact⟨u,aD,G,jM a ah u,by rw[<-Act.put_comm a v u h2];exact cL⟩
 . rw[a6 O]at h⊢
   exact⟨G,jM a ah _,by rw[<-Act.put_comm a v undef h2];exact h⟩
def tC(E:Array Oper)(D:Array Bool):Prop:=
 ∀(j:Nat) (g:Oper),E[j]?=some g->D.getD j false=true->∀e∈g.after,Region.binds .any e=true->D.getD e.on false=true
def u1(h:D.getD i true=false):D.getD i false=false:=getD_both h
def tC.set(c:tC E D)(al:i∈Region.ready .any E D):tC E (D.setIfInBounds i true):=by
 obtain⟨_,H,k,p⟩:=mem_ready.1 al;intro j g J aw e Y az;by_cases g1:i=j
 . subst g1
   have:g=H:=oe (J.symm.trans k);subst this;exact getD_set_true (p e Y az)
 . rw[getD_set_ne false g1]at aw
   exact getD_set_true (c j g J aw e Y az)
theorem A6(al:E[i]?=some H)(g2:i∉cX)(r:∀(j:Nat) (o:Oper) cs b,E[j]?=some o->o.op≠.select cs b)
 (K:Array Bool->Prop)(bM:∀D j,K D->j≠i->j∈Region.ready .any E D->K (D.setIfInBounds j true))
 (c:∀D j,K D->D.getD i true=false->j∈Region.ready .any E D->j∈cX->∀w,(j∈R->C w)->z w):
 ∀
  (f:Nat) (D:Array Bool) (a:Act) (w:World),K D->z w->
  (∀j g,E[j]?=some g->j≠i->D.getD j true=false->(∀e∈g.after,Region.binds .any e=true->e.on≠i)->H.apart E g=true)->
  i∈Region.ready .any E D->po P E z H v a->
  w1 P E cX R M C f (D.setIfInBounds i true) (a.put H.dst v) w->w1 P E cX R M C (f+1) D a w:=by
 intro f
 induction f with
 |
  zero=>
  intro D a w l G _ aD ah F;refine⟨λh=>(by rw[h]at aD;cases aD),λj J=>?_⟩;by_cases d:j=i
  . subst d;exact ah.od al g2 G F
  . have:=ready_mono J d
    rw[F.1]at this;cases this
 |
  succ f L=>
  intro D a w l G s aD ah F;have m:=(mem_ready.1 aD).1;refine⟨λh=>(by rw[h]at aD;cases aD),λj J=>?_⟩;by_cases d:j=i
  . subst d;exact ah.od al g2 G F
  . have h1:=F.2 j (ready_mono J d)
    obtain⟨t,g,n,p⟩:=mem_ready.1 J;have x:∀e∈g.after,Region.binds .any e=true->e.on≠i:=λe Y az q=>by
     have h1:=p e Y az;rw[q,u1 m]at h1;cases h1
    have h2:=apL n (s j g n d t x) (λcs b=>r i H cs b al) (λcs b=>r j g cs b n) G (λw Y a2=>c D j l m J Y w a2) ah h1;have y:∀k ok,E[k]?=some ok->k≠i->(D.setIfInBounds j true).getD k true=false->
     (∀e∈ok.after,Region.binds .any e=true->e.on≠i)->H.apart E ok=true:=λk ok hk O m hC=>by
     refine s k ok hk O ?_ hC;by_cases u:j=k
     . subst u;exact t
     . rw[getD_set_ne true u]at m;exact m
    refine apK h2 λaE X aH=>L (D.setIfInBounds j true) aE X (bM _ _ l d J) aH.1 y (ready_mono aD (Ne.symm d)) aH.2.1 ?_;rw[Array.setIfInBounds_comm _ _ d];exact aH.2.2
def yQ(acc:List Nat)(o:Oper):Nat:=o.after.foldl (λs e=>if Region.binds .any e then s|||2^e.on|||acc.getD e.on 0 else s) 0
def k7:List Oper->List Nat->List Nat
 |[],acc=>acc
 |o::r,acc=>k7 r (acc++[yQ acc o])
def apM{acc:List Nat}{o:Oper}{i:Nat}(h:(yQ acc o).testBit i=true):∃e∈o.after,Region.binds .any e=true/\(e.on=i\/(acc.getD e.on 0).testBit i=true):=by
 unfold yQ at h;rw[<-XT]at h;have key:∀(l:List Edge) (s:Nat),(l.foldl (λs e=>if Region.binds .any e then s|||2^e.on|||acc.getD e.on 0 else s) s).testBit i=true->
  s.testBit i=true\/∃e∈l,Region.binds .any e=true/\(e.on=i\/(acc.getD e.on 0).testBit i=true):=by
  intro l
  induction l with
  |nil=>intro s h;exact .inl h
  |
   cons e l L=>
   intro s h;simp only[yR]at h;rcases L _ h with h|⟨H,h1,h2⟩
   . by_cases az:Region.binds .any e=true
     . rw[bg az,NY,NY]at h
       simp only[tD]at h;rcases h with(h|h)|h
       . exact .inl h
       . rw[XU]at h
         exact .inr ⟨e,.head _,az,.inl (by simpa using h)⟩
       . exact .inr ⟨e,.head _,az,.inr h⟩
     . rw[a6 az]at h;exact .inl h
   . exact .inr ⟨H,.tail _ h1,h2⟩
 rcases key _ _ h with h|⟨e,h1,h2⟩
 . simp at h
 . exact⟨e,by simpa using h1,h2⟩
def XV:∀(l:List Oper) (acc:List Nat) (pre:List Oper),pre.length=acc.length->
 (∀e i,(acc.getD e 0).testBit i=true->∃o a,(pre++l)[e]?=some o/\a∈o.after/\Region.binds .any a=true/\(a.on=i\/(a.on<e/\(acc.getD a.on 0).testBit i=true)))->
 ∀e i,((k7 l acc).getD e 0).testBit i=true->∃o a,(pre++l)[e]?=some o/\a∈o.after/\Region.binds .any a=true/\(a.on=i\/(a.on<e/\((k7 l acc).getD a.on 0).testBit i=true))
 |[],acc,pre,_,h=>h
 |
  o::r,acc,pre,aw,h=>by
  have:=XV r (acc++[yQ acc o]) (pre++[o]) (by simp[aw]) (λe i az=>by
   have aB:pre++[o]++r=pre++o::r:=fW;rw[aB];have ext:∀k,k<acc.length->(acc++[yQ acc o]).getD k 0=acc.getD k 0:=λk hk=>by
    simp[je,kS hk]
   rcases Nat.lt_trichotomy e acc.length with Y|Y|Y
   . rw[ext e Y]at az
     obtain⟨S,a,h1,h2,aH,bm⟩:=h e i az;refine⟨S,a,h1,h2,aH,?_⟩;rcases bm with bm|⟨bm,dk⟩
     . exact .inl bm
     . exact .inr ⟨bm,by rw[ext _ ae];exact dk⟩
   . subst Y
     have aU:(acc++[yQ acc o]).getD acc.length 0=yQ acc o:=by simp[je]
     rw[aU]at az;obtain⟨a,h1,h2,aH⟩:=apM az;refine⟨o,a,by simp[<-aw],h1,h2,?_⟩;rcases aH with aH|aH
     . exact .inl aH
     . have d5:a.on<acc.length:=by
        rcases sh a.on acc.length with x|x
        . exact x
        . rw[je,oM x]at aH;simp at aH
       exact .inr ⟨d5,by rw[ext _ d5];exact aH⟩
   . rw[je,oM hW]at az;simp at az)
  intro e i az;have aB:pre++[o]++r=pre++o::r:=fW;rw[aB]at this;exact this e i az
def apN(e i:Nat)(h:((k7 l []).getD e 0).testBit i=true):∃o a,l[e]?=some o/\a∈o.after/\Region.binds .any a=true/\(a.on=i\/(a.on<e/\((k7 l []).getD a.on 0).testBit i=true)):=by
 have:=XV l [] [] rfl (λe i h=>by simp at h) e i h;simpa using this
theorem HQ{l:List Oper}{D:Array Bool}{i:Nat}(c:tC l.toArray D)(d7:D.getD i false=false):
 ∀e,((k7 l []).getD e 0).testBit i=true->D.getD e false=false/\e∉Region.ready .any l.toArray D:=by
 intro e
 induction e using Nat.strongRecOn with
 |
  _ e L=>
  intro h;obtain⟨o,a,h1,h2,aH,bm⟩:=apN l e i h;have m:D.getD a.on false=false:=by
   rcases bm with bm|⟨bm,dk⟩
   . rw[bm];exact d7
   . exact(L _ bm dk).1
  have N:l.toArray[e]?=some o:=by simpa using h1
  constructor
  . cases aw:D.getD e false with
    |false=>rfl
    |true=>have:=c e o N aw a h2 aH;rw[m]at this;cases this
  . intro aD
    obtain⟨_,S,b,p⟩:=mem_ready.1 aD;have:S=o:=oe (b.symm.trans N);subst this;have:=p a h2 aH;rw[m]at this;cases this
def u2(E:Array Oper)(c cX R:List Nat):List (Nat×mL)->Array Bool->Bool
 |[],D=>(Region.ready .any E D).isEmpty
 |(i,.loc)::r,D=>(Region.ready .any E D).contains i&&Region.free .any E D i&&!cX.contains i&&cX.all (λe=>D.getD e false||(c.getD e 0).testBit i)&&u2 E c cX R r (D.setIfInBounds i true)
 |(i,.bJ)::r,D=>(Region.ready .any E D).contains i&&Region.free .any E D i&&!cX.contains i&&cX.all (λe=>R.contains e||(D.getD e false||(c.getD e 0).testBit i))&&u2 E c cX R r (D.setIfInBounds i true)
 |(i,.c0)::r,D=>decide (Region.ready .any E D=[i])&&cX.contains i&&u2 E c cX R r (D.setIfInBounds i true)
def yS(cX R:List Nat)(U:List (Nat×mL)):Bool:=
 Region.noSelect l.toArray&&Nat.beq U.length l.length&&u2 l.toArray (k7 l []) cX R U (Array.replicate l.length false)
end
def oB(P:Program)(E:Array Oper)(M:Act->World->Prop)(R:List Nat)(C:World->Prop):List (Nat×mL)->Act->World->Prop
 |[],a,w=>M a w
 |
  (i,k)::r,a,w=>match E[i]?with
  |none=>False
  |some o=>if Region.wanted o (yielded E a.tmps)then
   match k with
   |.loc=>∃v,(execOp a.eval o).run P w=.ok (.value v) w/\oB P E M R C r (a.put o.dst v) w
   |.bJ=>C w/\∃v,(∀w,C w->(execOp a.eval o).run P w=.ok (.value v) w)/\oB P E M R C r (a.put o.dst v) w
   |.c0=>o.wp P a w (λaE X=>(i∈R->C X)/\oB P E M R C r aE X) HO
   else oB P E M R C r (a.put o.dst undef) w
def yT{l:List Oper}(aj:Region.noSelect l.toArray=true):∀(U:List (Nat×mL)) (D:Array Bool) (a:Act) (w:World),tC l.toArray D->u2 l.toArray (k7 l []) cX R U D=true->
 oB P l.toArray M R C U a w->w1 P l.toArray cX R M C U.length D a w
 |[],D,a,w,_,cc,h=>⟨by simpa[u2]using cc,h⟩
 |
  (i,k)::r,D,a,w,a2,cc,h=>by
  simp only[oB]at h;cases aJ:l.toArray[i]?with
  |none=>rw[aJ]at h;exact h.elim
  |
   some o=>
   simp only[aJ]at h;cases k with
   |
    loc=>
    simp only[u2,iy]at cc;obtain⟨⟨⟨⟨aD,a8⟩,g2⟩,p⟩,b⟩:=cc;have c:i∈Region.ready .any l.toArray D:=HR;have i6:i∉cX:=A7;have m:=(mem_ready.1 c).1;have g:∀e∈cX,D.getD e false=true\/((k7 l []).getD e 0).testBit i=true:=HS;have fin:∀v,po P l.toArray (λX=>X=w) o v a->oB P l.toArray M R C r (a.put o.dst v) w->w1 P l.toArray cX R M C (r.length+1) D a w:=λv ah cL=>
     A6 (z:=λX=>X=w) aJ i6 (Region.noSelect_spec aj) (λf=>tC l.toArray f/\∀e∈cX,f.getD e false=true\/((k7 l []).getD e 0).testBit i=true)
      (λf j bM _ J=>⟨bM.1.set J,λe Y=>(bM.2 e Y).imp (λh=>getD_set_true h) id⟩)
      (fun f j bM d7 J Y X _ => by
       exfalso;rcases bM.2 j Y with h1|h1
       . have h2:=(mem_ready.1 J).1;rw[u1 h2]at h1;cases h1
       . exact(HQ bM.1 (u1 d7) j h1).2 J)
      r.length D a w ⟨a2,g⟩ rfl (Region.free_spec aJ a8) c ah (yT aj r _ _ _ (a2.set c) b cL)
    by_cases O:Region.wanted o (yielded l.toArray a.tmps)=true
    . rw[bg O]at h
      obtain⟨v,V,cL⟩:=h;exact fin v (.inl ⟨O,λX e=>by subst e;exact V⟩) cL
    . rw[a6 O]at h
      exact fin undef (.inr ⟨by simpa using O,rfl⟩) h
   |
    bJ=>
    simp only[u2,iy]at cc;obtain⟨⟨⟨⟨aD,a8⟩,g2⟩,p⟩,b⟩:=cc;have c:i∈Region.ready .any l.toArray D:=HR;have i6:i∉cX:=A7;have g:∀e∈cX,e∈R\/D.getD e false=true\/((k7 l []).getD e 0).testBit i=true:=HS;by_cases O:Region.wanted o (yielded l.toArray a.tmps)=true
    . rw[bg O]at h
      obtain⟨N,v,V,cL⟩:=h;exact A6 (z:=C) aJ i6 (Region.noSelect_spec aj) (λf=>tC l.toArray f/\∀e∈cX,e∈R\/f.getD e false=true\/((k7 l []).getD e 0).testBit i=true)
       (λf j bM _ J=>⟨bM.1.set J,λe Y=>(bM.2 e Y).imp id (λh=>h.imp (λh=>getD_set_true h) id)⟩)
       (fun f j bM d7 J Y X q => by
        rcases bM.2 j Y with h1|h1|h1
        . exact q h1
        . exfalso;have h2:=(mem_ready.1 J).1;rw[u1 h2]at h1;cases h1
        . exfalso;exact(HQ bM.1 (u1 d7) j h1).2 J)
       r.length D a w ⟨a2,g⟩ N (Region.free_spec aJ a8) c (.inl ⟨O,V⟩) (yT aj r _ _ _ (a2.set c) b cL)
    . rw[a6 O]at h
      exact A6 (z:=λ_=>True) aJ i6 (Region.noSelect_spec aj) (λ_=>True) (λ_ _ _ _ _=>trivial) (λ_ _ _ _ _ _ _ _=>trivial)
       r.length D a w trivial trivial (Region.free_spec aJ a8) c (.inr ⟨by simpa using O,rfl⟩) (yT aj r _ _ _ (a2.set c) b h)
   |
    c0=>
    simp only[u2,iy,ln]at cc;obtain⟨⟨aD,g2⟩,b⟩:=cc;have i6:i∈cX:=A7;have c:i∈Region.ready .any l.toArray D:=by rw[aD];simp
    refine⟨λbn=>(by rw[bn]at aD;cases aD),λj J=>?_⟩;rw[aD]at J;have d:j=i:=DP;subst d;unfold od;simp only[aJ];by_cases O:Region.wanted o (yielded l.toArray a.tmps)=true
    . rw[bg O]at h⊢
      rw[bg i6];exact Oper.wp_mono (λaE X co=>⟨co.1,yT aj r _ _ _ (a2.set c) b co.2⟩) h
    . rw[a6 O]at h⊢
      exact yT aj r _ _ _ (a2.set c) b h
theorem apO{id:Nat}{Q:Exit->Act->World->Prop}{a:Act}{w:World}{l:List Oper}(cX R:List Nat)(U:List (Nat×mL))(C:World->Prop)(bb:P.follows .mixedOrders=true)(cc:yS l cX R U=true)
 (h:oB P l.toArray (Q .normal) R C U a {w with drawn:=w.drawn+1}):(Code.region id l.toArray true).wp P Q a w:=by
 simp only[yS,iy]at cc;obtain⟨⟨aj,aw⟩,b⟩:=cc;have W:U.length=l.length:=lr aw;refine wp_region_any bb ?_;have:=HP (Q:=Q) (M:=Q .normal) (λ_ _ h=>h) _ _ _ _ (yT aj U _ a _ NZ b h);rw[W]at this;simpa using this
variable{F:World}{n:Nat}{ak:eA}{I H J:List aq}{Q:Exit->Act->World->Prop}{op:Op}{bC:TypeId}{pos:String}{N:Array Edge}{g:Option (Nat×Bool)}{i:Nat}{U:List (Nat×mL)}
section
variable{v:Value}{d:Nat}{p:Value->List aq->Prop}
def cT(P:Program)(F:World)(n:Nat)(E:Array Oper)(R:List Nat)(U:List (Nat×mL))(ak:eA)(I J:List aq)(M:Act->World->Prop):Prop:=
 ∀a w,hd n ak a->db F I w->oB P E M R (db F J) U a w
inductive hV(E:Array Oper)(ak:eA):Option (Nat×Bool)->Bool->Prop
 |none:hV E ak none true
 |yes {j z:Nat} {M c:Bool}:(E[j]?).bind (·.dst)=some z->gL ak z=some (.bool c)->c=M->hV E ak (some (j,M)) true
 |no {j z:Nat} {M c:Bool}:(E[j]?).bind (·.dst)=some z->gL ak z=some (.bool c)->c=(!M)->hV E ak (some (j,M)) false
 |un {j z:Nat} {M:Bool}:(E[j]?).bind (·.dst)=some z->gL ak z=some undef->hV E ak (some (j,M)) false
def hV.wanted{o:Oper}{a:Act}{b:Bool}(h:hV E ak o.guard b)(aj:hd n ak a):Region.wanted o (yielded E a.tmps)=b:=by
 unfold Region.wanted
 generalize o.guard=g at h
 cases h with
 |none=>rfl
 |yes h1 h2 aH=>simp only[yielded,h1,k3,aj.val _ _ h2,aH];simp
 |@no j z M c h1 h2 aH=>subst aH;simp only[yielded,h1,k3,aj.val _ _ h2];cases M<;>rfl
 |un h1 h2=>simp only[yielded,h1,k3,aj.val _ _ h2];rfl
def go_split{j z:Nat}{c:Bool}(a:(E[j]?).bind (·.dst)=some z)(d:gL ak z=some (.bool c))(h1:c=true->cT P F n E R U ak I J M)(h2:c=false->cT P F n E R U ak I J M):cT P F n E R U ak I J M:=by
 cases c;exact h2 rfl;exact h1 rfl
def go_nil(h:GE F n ak I M):cT P F n E R [] ak I J M:=h
def go_v(aJ:E[i]?=some rE)(O:hV E ak g true)(aQ:Nat.blt d n=true)(V:bU P F n op bC ak I v)(h:cT P F n E R U oN I J M):cT P F n E R ((i,.loc)::U) ak I J M:=
 λa w aj s=>by
  simp only[oB,aJ,hV.wanted (o:=⟨some d,op,bC,pos,N,g⟩) O aj,fk];exact⟨v,V _ _ _ _ _ _ aj s,h _ _ ry s⟩
def go_vs(aJ:E[i]?=some rE)(O:hV E ak g true)(aQ:Nat.blt d n=true)(V:bU P F n op bC ak J v)(a2:∀h,Sat I h->Sat J h)(h:cT P F n E R U oN I J M):cT P F n E R ((i,.bJ)::U) ak I J M:=
 λa w aj s=>by
  simp only[oB,aJ,hV.wanted (o:=⟨some d,op,bC,pos,N,g⟩) O aj,fk];exact⟨s.imp a2,v,λX aY=>V _ _ _ _ _ _ aj aY,h _ _ ry s⟩
def go_skip{k:mL}{d:Nat}(aJ:E[i]?=some rE)(O:hV E ak g false)(aQ:Nat.blt d n=true)(h:cT P F n E R U AP I J M):cT P F n E R ((i,k)::U) ak I J M:=
 λa w aj s=>by
  simp only[oB,aJ,hV.wanted (o:=⟨some d,op,bC,pos,N,g⟩) O aj,eH,eo];exact h _ _ yy s
def go_u(aJ:E[i]?=some Me)(O:hV E ak g true)(V:c6 P F n op bC ak I H)(a2:i∈R->∀h,Sat H h->Sat J h)(h:cT P F n E R U ak H J M):cT P F n E R ((i,.c0)::U) ak I J M:=
 λa w aj s=>by
  obtain⟨X,aD,aY⟩:=V a w none pos N g aj s;simp only[oB,aJ,hV.wanted (o:=⟨none,op,bC,pos,N,g⟩) O aj,fk,Oper.wp,aD,Oper.upon];exact⟨λC=>aY.imp (a2 C),h _ _ aj aY⟩
def go_n(aJ:E[i]?=some rE)(O:hV E ak g true)(aQ:Nat.blt d n=true)(V:cY P F n op bC ak I p)(h:∀v H,p v H->CT/\cT P F n E R U oN H J M):cT P F n E R ((i,.c0)::U) ak I J M:=
 λa w aj s=>by
  obtain⟨v,H,X,aD,hp,aY⟩:=V a w (some d) pos N g aj s;simp only[oB,aJ,hV.wanted (o:=⟨some d,op,bC,pos,N,g⟩) O aj,fk,Oper.wp,aD,Oper.upon];exact⟨λC=>aY.imp CU,(h v H hp).2 _ _ ry aY⟩
def go_c(aJ:E[i]?=some rE)(O:hV E ak g true)(aQ:Nat.blt d n=true)(V:dc P F n op bC ak I p)(h:∀v H,p v H->CT/\cT P F n E R U oN H J M):cT P F n E R ((i,.c0)::U) ak I J M:=
 λa w aj s=>by
  obtain⟨f,args,aD,g6⟩:=V a w (some d) pos N g aj s;simp only[oB,aJ,hV.wanted (o:=⟨some d,op,bC,pos,N,g⟩) O aj,fk,Oper.wp,aD,Oper.upon];exact g6.mono λe X ⟨v,H,Y,hp,aY⟩=>by subst Y;exact⟨λC=>aY.imp CU,(h v H hp).2 _ _ ry aY⟩
theorem h9{id:Nat}{l:List Oper}(cX R:List Nat)(U:List (Nat×mL))(J:List aq)(bb:P.follows .mixedOrders=true)(cc:yS l cX R U=true)
 (h:cT P F n l.toArray R U ak I J (Q .normal)):G P F n HT ak I Q:=
 λa w aj s=>apO cX R U _ bb cc (h a _ aj s.drew)
end
end
section
variable(h:dR)(v:Value)(e:TypeId)(aT n:Nat)(xs:List Value)
def p8:Value->Nat
 |.slice (some a) _ _=>a.block
 |_=>0
def p9:Value->Nat
 |.slice (some a) _ _=>a.off
 |_=>0
def el(m:Nat):Value:=.pointer (some ⟨p8 v,p9 v+m,none⟩)
def gT:Prop:=
 (v=.slice none 0 0/\xs=[]/\n=0)\/∃b bv Q C,v=.slice (some ⟨b,bv,Q⟩) n C/\(0<n->Q=none)/\(∀j x,xs[j]?=some x->Q=none/\∃cs e O,h b=some (.cells cs e O)/\cs[bv+j]?=some x)
def oh:Prop:=
 xs.length=n*aT/\((v=.slice none 0 0/\n=0)\/∃b C dq,v=.slice (some ⟨b,0,none⟩) n C/\(xs++dq).length=C*aT/\n<=C/\C<=maxLen/\h b=some (.cells (xs++dq).toArray e (0,0)))
def own:aq:=λh=>oh h v e aT n xs
end
section
variable{h k:dR}{v:Value}{A:aq}{e:TypeId}{aT n:Nat}{D:List aq}{xs:List Value}{r:List aq}
def base(W:World):aq:=λh=>∀b,b<W.heap.size->h b=W.heap[b]?
class iX(v:Value)(I:List aq)(n:outParam Nat)(xs:outParam (List Value)):Prop where
 get:∀{h:dR},Sat I h->gT h v n xs
class sw(v:Value)(I:List aq)(e:outParam TypeId)(aT n:outParam Nat)(xs:outParam (List Value))(u:outParam (List Value->List aq)):Prop where
 get:∀{h:dR},Sat I h->oh h v e aT n xs
 set:∀{h:dR} {b C:Nat} {dq:List Value} (U:List Value),Sat I h->v=.slice (some ⟨b,0,none⟩) n C->h b=some (.cells (xs++dq).toArray e (0,0))->U.length=xs.length->Sat (u U) (iR h b (.cells (U++dq).toArray e (0,0)))
def gT.imp(s:gT h v n xs)(f:∀b o,h b=some o->k b=some o):gT k v n xs:=by
 rcases s with s|⟨b,bv,Q,C,h1,h2,aH⟩
 . exact .inl s
 . exact .inr ⟨b,bv,Q,C,h1,h2,λj x ag=>let⟨bm,cs,e,O,dk,g0⟩:=aH j x ag;⟨bm,cs,e,O,f _ _ dk,g0⟩⟩
def gT.more(s:gT h v n xs):gT (join h k) v n xs:=s.imp λ_ _ e=>join_some e
def oh.rd(s:oh h v e aT n xs):gT h v n xs:=by
 obtain⟨aw,s|⟨b,C,dq,h1,h2,aH,bm,dk⟩⟩:=s
 . obtain⟨s1,rfl⟩:=s;exact .inl ⟨s1,rn (by simpa using aw),rfl⟩
 . refine .inr ⟨b,0,none,C,h1,λ_=>rfl,λj x ag=>⟨rfl,_,e,_,dk,?_⟩⟩
   have J:=(dd.1 ag).1;simp[kS J,ag]
def oh.more(s:oh h v e aT n xs):oh (join h k) v e aT n xs:=by
 obtain⟨aw,s|⟨b,C,dq,h1,h2,aH,bm,dk⟩⟩:=s
 . exact⟨aw,.inl s⟩
 . exact⟨aw,.inr ⟨b,C,dq,h1,h2,aH,bm,join_some dk⟩⟩
instance iX.own:iX v (own v e aT n xs::r) n xs where
 get:=fun⟨_,_,_,e,aP,_⟩=>e▸(oh.rd aP).more
instance iX.tail[i:iX v r n xs]:iX v (A::r) n xs where
 get:=λs=>i.get uN
class gN(v:Value)(A:aq)(n:outParam Nat)(xs:outParam (List Value)):Prop where
 get:∀{h:dR},A h->gT h v n xs
instance iX.part[i:gN v A n xs]:iX v (A::r) n xs where
 get:=fun⟨_,_,_,e,aP,_⟩=>e▸(i.get aP).more
instance iX.lit{b n C:Nat}{e:TypeId}{xs:List Value}{r:List aq}:iX (.slice j3 n C) (ab b e xs::r) n xs where
 get:=fun⟨_,_,_,aB,aP,_⟩=>aB▸.inr ⟨b,0,none,C,rfl,λ_=>rfl,λj x ag=>⟨rfl,xs.toArray,e,(0,0),join_some aP,by simpa using ag⟩⟩
instance sw.head:sw v (own v e aT n xs::r) e aT n xs (λU=>own v e aT n U::r)where
 get:=fun⟨_,_,_,e,aP,_⟩=>e▸oh.more aP
 set:=fun{_ b C dq} U ⟨h1,h2,d,fG,aP,aD⟩ V az aw=>by
  subst fG;obtain⟨W,s|⟨l,p,a,cI,cd,ia,eB,f⟩⟩:=aP
  . rw[s.1]at V;cases V
  . have:l=b:=by rw[cI]at V;simp only[Value.slice.injEq,Option.some.injEq,Addr.mk.injEq]at V;exact V.1.1
    subst this;have co:(xs++a).toArray=(xs++dq).toArray:=by
     have:=join_some (h2:=h2) f;rw[az]at this;simp only[Option.some.injEq,Obj.cells.injEq]at this;exact this.1.symm
    have M:a=dq:=by
     have:=congrArg Array.toList co;simpa using this
    subst M;obtain⟨aB,d1⟩:=si (S:=.cells (U++a).toArray e (0,0)) f d;exact⟨_,h2,d1,aB,⟨by rw[aw,W],.inr ⟨l,p,a,cI,by rw[ep,aw,<-ep];exact cd,ia,eB,by simp[iR]⟩⟩,aD⟩
instance sw.tail{u:List Value->List aq}[i:sw v r e aT n xs u]:sw v (A::r) e aT n xs (λU=>A::u U)where
 get:=λs=>i.get uN
 set:=fun{_ b C dq} U ⟨h1,h2,d,fG,aP,aD⟩ V az aw=>by
  subst fG;have j:h2 b=some NT:=by
   obtain⟨_,s|⟨l,p,a,cI,_,_,_,f⟩⟩:=i.get aD
   . rw[s.1]at V;cases V
   . have:l=b:=by rw[cI]at V;simp only[Value.slice.injEq,Option.some.injEq,Addr.mk.injEq]at V;exact V.1.1
     subst this;have:=join_some (h2:=h1) f;rw[join_comm d.symm]at this;rw[az]at this;rw[f,<-this]
  obtain⟨aB,d1⟩:=si (S:=.cells (U++dq).toArray e (0,0)) j d.symm;refine⟨h1,_,d1.symm,?_,aP,i.set U aD V j aw⟩;rw[join_comm d,aB,join_comm d1]
def YV{A:aq}{D:List aq}:∀h,Sat (A::D) h->Sat (A::own eX e aT 0 []::D) h:=λ_ s=>
 Sat.tail (r:=D) (S:=own eX e aT 0 []::D) (λh s=>Zf) s
def ii:∀h,Sat D h->Sat (own eX e aT 0 []::D) h:=λh s=>
 Zf
def oh.form(s:oh h v e aT n xs):∃a C,v=.slice a n C:=by
 obtain⟨_,⟨rfl,rfl⟩|⟨b,C,_,rfl,_⟩⟩:=s
 . exact⟨_,_,rfl⟩
 . exact⟨_,_,rfl⟩
end
section
variable{P:Program}{F w:World}{n:Nat}{ak:eA}{I:List aq}{bC:TypeId}
section
variable{x y:Operand}{t:TypeId}{v:Value}{j k e m aT:Nat}{d6:IntKind}{xs:List Value}
def ary[i:jy P t e aT][r:iX v I k xs](h:cb ak x=some v):bU P F n Oi bC ak I (.int .i64 k):=λa w d pos N g aj s=>by
 obtain⟨z,h1,h2,aH⟩:=i.out;simp only[execOp,resolve,oP,gz,mO,aj.eval h];rcases r.get s.eI with⟨rfl,_,rfl⟩|⟨b,bv,Q,C,rfl,_,_⟩<;>simp[invoke,builtin,Builtin.len_,gC h1,goInt]
def fA[i:jy P t e aT][r:iX v I k xs](h:cb ak x=some v)(ah:cb ak y=some (.int d6 (j:Int)))(J:j<k):bU P F n (.indexAddr t x y) bC ak I (el v (j*aT)):=λa w d pos N g aj s=>by
 obtain⟨z,h1,h2,aH⟩:=i.out;simp only[execOp,aj.eval h,aj.eval ah];rcases r.get s.eI with⟨_,_,rfl⟩|⟨b,bv,Q,C,rfl,M,_⟩
 . omega
 . obtain rfl:=M ae
   have bn:(0:Int)<=j/\(j:Int)<k:=ae;simp[Instr.indexAt,asIntOf,gC h1,ji h2,aH,J,el,p8,p9,Addr.add]
def lU{b o j len aT:Nat}{d6:IntKind}[i:Ba P t len aT](h:cb ak x=some (ptr b o))(ah:cb ak y=some (.int d6 (j:Int)))(J:j<len):bU P F n (.indexAddr t x y) bC ak I (ptr b (o+j*aT)):=λa w d pos N g aj s=>by
 obtain⟨e,z,h1,h2,aH⟩:=i.out;simp only[execOp,aj.eval h,aj.eval ah];simp[Instr.indexAt,Instr.sureAddr,asIntOf,gC h1,ji h2,aH,J,Addr.add]
def tJ{s:TypeId}{x:Operand}{v:Value}{f m bv:Nat}[i:bO P s f bv](h:cb ak x=some (el v m)):bU P F n (.fieldAddr s x f) bC ak I (el v (m+bv)):=by
 have:=nE (P:=P) (F:=F) (n:=n) (bC:=bC) (I:=I) (f:=f) (i:=i) (x:=x) (b:=p8 v) (o:=p9 v+m) h;rw[show el v (m+bv)=ptr (p8 v) (p9 v+m+bv) by simp[el,ny]];exact this
def OO{x:Value}(h:gT (fE w) v k xs)(ag:xs[m]?=some x):w.cell? ⟨p8 v,p9 v+m,none⟩=some x:=by
 rcases h with⟨_,rfl,_⟩|⟨b,bv,Q,C,rfl,_,aH⟩
 . simp at ag
 . obtain⟨_,cs,e,O,h2,bm⟩:=aH _ _ ag
   have az:w.heap[b]?=_:=h2;simp[p8,p9,World.cell?,az,bm]
end
section
variable{t e:TypeId}{x y:Operand}{v:Value}{m k aT bytes:Nat}{xs U M:List Value}
def gy{y:Value}{m k:Nat}{xs:List Value}[i:ew P t][r:iX v I k xs](h:cb ak x=some (el v m))(ah:xs[m]?=some y):bU P F n (.load t x) bC ak I y:=λa w d pos N g aj s=>by
 obtain⟨J,h1,h2⟩:=i.out;have a2:=OO (r.get s.eI) ah;simp only[execOp,aj.eval h];simp[el,Instr.loadAt,Instr.sureAddr,loadVar,Bh h1 h2,run_load,a2]
def kN[i:jR P t aT][r:iX v I k xs](h:cb ak x=some (el v m))(V:(xs.drop m).take aT=M)(aw:M.length=aT):bU P F n (.load t x) bC ak I yU:=λa w d pos N g aj s=>by
 obtain⟨J,h1,h2⟩:=i.out;obtain⟨z,aH,bm⟩:=i.size;have a2:=run_loadCells_list (P:=P) w ⟨p8 v,p9 v+m,none⟩ M (λk v hk=>by
  rw[<-V]at hk;have:=OO (r.get s.eI) (z8 hk);rw[uo];rw[ny];exact this)
 simp only[execOp,aj.eval h];simp[el,Instr.loadAt,Instr.sureAddr,loadVar,Aa h1 h2,ji aH,bm];rw[aw]at a2;simp[a2]
def On(h1:v.oneCell'=true):v.cells=#[v]:=by cases v<;>simp[Value.oneCell']at h1<;>rfl
theorem tg{E:Value}{m k e aT:Nat}{xs:List Value}{u:List Value->List aq}[i:ew P t][r:sw v I e aT k xs u](h:cb ak x=some (el v m))(ah:cb ak y=some E)(h1:E.oneCell'=true)(bb:m<xs.length):
 c6 P F n (.store t x y) bC ak I (u (xs.set m E)):=λa w d pos N g aj s=>by
 obtain⟨z,aH,bm⟩:=i.size;obtain⟨aw,⟨rfl,rfl⟩|⟨b,C,dq,V,cd,ia,eB,f⟩⟩:=r.get s.eI
 . simp at aw;subst aw;simp at bb
 . have az:w.heap[b]?=_:=f
   have j:m<(xs++dq).length:=hW;have a2:∃c,w.cell? ⟨b,m,none⟩=some c:=⟨(xs++dq)[m],by simp only[World.cell?,az];simp[cq j]⟩;obtain⟨c,a2⟩:=a2;have a8:w.frozen? ⟨b,m,none⟩=false:=by simp[World.frozen?,az]
   refine⟨w.setCell ⟨b,m,none⟩ E,?_,?_⟩
   . simp only[execOp,aj.eval h,aj.eval ah]
     simp[V,el,p8,p9,Instr.storeAt,Instr.sureAddr,storeVar,ji aH,bm,On h1,storeCells,Addr.add,run_store,h1,stored,a2,a8]
   . have g0:=r.set (xs.set m E) s.eI V f fW
     refine⟨s.os,s.tape,s.output,by have:=s.size;simpa[World.setCell]using this,?_⟩;have:fE (w.setCell ⟨b,m,none⟩ E)=iR (fE w) b (.cells (xs.set m E++dq).toArray e (0,0)):=by
      unfold World.setCell;rw[ty _ f];simp[Gg _ _ bb]
     rw[this];exact g0
def r4:∀(cs l:List Value) (bv:Nat),bv+cs.length<=l.length->jX l bv cs=l.take bv++cs++l.drop (bv+cs.length)
 |[],l,bv,_=>by simp[jX]
 |
  c::cs,l,bv,h=>by
  simp only[iY]at h;rw[jX,r4 cs _ (bv+1) hW];have h1:bv<l.length:=ae;have h2:(l.set bv c).take (bv+1)=l.take bv++[c]:=by
   rw[ns (by simpa using h1),List.take_set_of_le (eh _),y3]
  rw[h2,List.drop_set_of_lt ae];rw[show bv+(c::cs).length=bv+1+cs.length by simp;omega];simp
def db.setRow{g:Nat}{o:Obj}{u:Obj->List aq}[i:k0 g I o u](s:db F I w){a row:Array Value}{e:TypeId}(aJ:o=.cells a e (0,0)):db F (u (.cells row e (0,0))) (w.setRow g row):=by
 have h:=i.get s.eI;refine⟨s.os,s.tape,s.output,by have:=s.size;simpa[World.setRow]using this,?_⟩;have:fE (w.setRow g row)=iR (fE w) g (.cells row e (0,0)):=by
  unfold World.setRow;rw[ty _ h];rw[aJ]
 rw[this];exact i.set _ s.eI
theorem OP{b bv aT:Nat}{e:TypeId}{l M:List Value}{u:Obj->List aq}[i:jR P t aT][j:k0 b I (.cells l.toArray e (0,0)) u](h:cb ak x=some (ptr b bv))(V:cb ak y=some yU)(h1:M.all Value.oneCell'=true)(E:M.length=aT)(aw:Nat.ble (bv+M.length) l.length=true):
 c6 P F n (.store t x y) bC ak I (u (.cells (jX l bv M).toArray e (0,0))):=λa w d pos N g aj s=>by
 obtain⟨z,aH,bm⟩:=i.size;have az:=s.heap (b:=b);have W:=Dq aw;have gc:=run_storeCells_at P b bv e M 0 l.toArray w az (by simpa using W) D1;refine⟨_,?_,s.setRow (g:=b) (row:=(jX l bv M).toArray) rfl⟩;simp only[execOp,aj.eval h,aj.eval V];rw[r4 _ _ _ W];simp[Instr.storeAt,Instr.sureAddr,storeVar,ji aH,bm,Value.cells,E];simp[gc,E]
theorem Iw{e aT c:Nat}{xs M:List Value}{u:List Value->List aq}[i:jR P t c][r:sw v I e aT k xs u](h:cb ak x=some (el v m))(ah:cb ak y=some yU)(h1:M.all Value.oneCell'=true)(E:M.length=c)(bb:m+M.length<=xs.length)(bn:0<M.length):
 c6 P F n (.store t x y) bC ak I (u (jX xs m M)):=λa w d pos N g aj s=>by
 obtain⟨z,aH,bm⟩:=i.size;obtain⟨aw,⟨rfl,rfl⟩|⟨b,C,dq,V,cd,ia,eB,f⟩⟩:=r.get s.eI
 . have:xs.length=0:=by simpa using aw
   omega
 . have az:w.heap[b]?=_:=f
   have gc:=run_storeCells_at P b m e M 0 (xs++dq).toArray w az hW D1;have g0:=r.set (jX xs m M) s.eI V f (Zg _ _ _);have fG:((xs++dq).toArray.toList.take (m+0)++M++(xs++dq).toArray.toList.drop (m+0+M.length))=jX xs m M++dq:=by
    rw[r4 _ _ _ bb];simp[HL (show m<=xs.length by omega),apG bb]
   rw[fG]at gc;refine⟨w.setRow b (jX xs m M++dq).toArray,?_,s.os,s.tape,s.output,by have:=s.size;simpa[World.setRow]using this,?_⟩
   . simp only[execOp,aj.eval h,aj.eval ah]
     simp[V,el,p8,p9,Instr.storeAt,Instr.sureAddr,storeVar,ji aH,bm,Value.cells,E];simp[gc]
   . have aU:fE (w.setRow b (jX xs m M++dq).toArray)=iR (fE w) b (.cells (jX xs m M++dq).toArray e (0,0)):=by
      unfold World.setRow;rw[ty _ f]
     rw[aU];exact g0
def y4(aT:Nat)(l:List Value):List (Nat×Value)->Option (List Value)
 |[]=>some l
 |(i,v)::r=>match v.cells.toList with
  |cs=>cond (Nat.beq cs.length aT&&Nat.ble (i*aT+cs.length) l.length) (y4 aT (jX l (i*aT) cs) r) none
def Zh(aT:Nat):∀(J:List (Nat×Value)) (l cs:List Value),y4 aT l J=some cs->Instr.fill (λi=>some (i*aT,aT)) l.toArray J=some cs.toArray
 |[],l,cs,h=>by simp[y4]at h;simp[Instr.fill,h]
 |
  (i,v)::r,l,cs,h=>by
  simp only[y4]at h;simp only[Instr.fill];cases az:(Nat.beq v.cells.toList.length aT&&Nat.ble (i*aT+v.cells.toList.length) l.length)with
  |false=>rw[az]at h;cases h
  |
   true=>
   rw[az]at h;simp only[iy,Nat.ble_eq]at az;simp only[cond_true]at h;have h1:v.cells.size=aT:=Zi;have h2:i*aT+v.cells.size<=l.length:=by simpa using az.2
   rw[a6 (by simp[h1];omega)];have aH:=OQ v.cells.toList l (i*aT) 0;have bm:(v.cells.zipIdx.foldl (λcs (x:Value×Nat)=>cs.setIfInBounds (i*aT+x.2) x.1) l.toArray)=(jX l (i*aT) v.cells.toList).toArray:=by
    rw[<-XT,Array.toList_zipIdx];simpa using aH
   rw[bm];exact Zh aT r _ _ h
def iS(U:List Value):Nat->List Value
 |0=>[]
 |k+1=>U++iS U k
def A5(U:List Value):∀k,(iS U k).length=k*U.length
 |0=>by simp[iS]
 |k+1=>by simp[iS,A5 U k,mX];omega
def NU(U:List Value)(T:0<U.length):∀(k j:Nat),j<k*U.length->(iS U k)[j]?=U[j%U.length]?
 |0,j,h=>by omega
 |
  k+1,j,h=>by
  simp only[iS];rcases sh j U.length with x|x
  . rw[kS x,Zj x]
  . rw[pQ x,NU U T k _ (by rw[mX]at h;omega),Nat.mod_eq_sub_mod x]
def Y7(U:List Value)(k:Nat)(d:Value):(List.range (k*U.length)).map (λi=>(U[i%U.length]?).getD d)=iS U k:=by
 apply u0;intro j;rcases sh j (k*U.length)with x|x
 . have T:0<U.length:=by
    rcases HM U.length with y|y;· rw[y]at x;omega
    . exact y
   have h2:j%U.length<U.length:=yP _ T;rw[fe,ve x,NU U T k j x];simp[h2]
 . exact XS
class jz(P:Program)(t:TypeId)(e:outParam TypeId)(aT bytes:outParam Nat)(U:outParam (List Value)):Prop where
 out:∃i E,P.underlying t=some (.slice e)/\P.info? e=some i/\i.size=aT/\i.bytes=bytes/\i.zero=some E/\E.cells=U.toArray/\U.length=aT
theorem qp{len:Nat}{U cs:List Value}{xs:List (Nat×Operand)}{J:List (Nat×Value)}[i:jz P t e aT bytes U](hlen:Nat.ble (len*aT) 16777216=true)(hp:Nat.blt 0 (len*aT)=true)(ag:w7 ak xs=some J)(a8:y4 aT (iS U len) J=some cs):
 cY P F n (.buildSlice t len xs.toArray) bC ak I (λv H=>∃b,v=.slice j3 len len/\H=ab b e cs::I):=λa w d pos N g aj s=>by
 obtain⟨z,E,h1,h2,aH,bm,dk,g0,u⟩:=i.out;have L:=Zh _ _ _ _ a8;have aw:¬(16777216<len*aT):=by have:=Dq hlen;omega
 have j:0<len*aT:=by simpa[yz]using hp
 have f:len*aT≠0:=ae;have p:((Array.range (len*aT)).map λx=>U.toArray[x%aT]!)=(iS U len).toArray:=by
  rw[<-Y7 U len default,u];apply Array.ext';simp
 refine⟨_,_,_,?_,⟨w.heap.size,rfl,rfl⟩,s.new _⟩;simp only[execOp,Instr.buildSlice,oP,OR aj ag];have o:¬(len=0\/aT=0):=by rintro(rfl|rfl)<;>simp at f
 simp[gC h1,ji h2,wc h2 dk,aH,aw,o,newRow,g0,u]at L p⊢;simp[p,L];intro h;exact absurd h f
theorem Ii{x:Operand}{v:Value}[i:jz P t e aT bytes U](ag:cb ak x=some v)(h1:v.oneCell'=true)(l:Nat.beq aT 1=true):
 cY P F n (.buildSlice t 1 [(0,x)].toArray) bC ak I (λu H=>∃b,u=.slice (some ⟨b,0,none⟩) 1 1/\H=ab b e [v]::I):=by
 have aj:aT=1:=lr l;subst aj;obtain⟨z,E,W,cE,d8,f9,Z,G,T⟩:=i.out;obtain⟨z0,rfl⟩:∃z0,U=[z0]:=by match U,T with|[z0],_=>exact⟨z0,rfl⟩
 exact qp (i:=i) rfl rfl (by simp[w7,ag];rfl) (by simp[y4,On h1,iS,jX];rfl)
theorem Ij{x:Operand}[i:jz P t e aT bytes U](ag:cb ak x=some (.agg M.toArray))(l:Nat.beq M.length aT=true)(bn:Nat.blt 0 aT=true)(bb:Nat.ble aT 16777216=true):
 cY P F n (.buildSlice t 1 [(0,x)].toArray) bC ak I (λu H=>∃b,u=.slice (some ⟨b,0,none⟩) 1 1/\H=ab b e M::I):=by
 have aj:M.length=aT:=lr l;obtain⟨z,E,W,cE,d8,f9,Z,G,T⟩:=i.out;refine qp (i:=i) (by simpa using bb) (by simpa using bn) (by simp[w7,ag];rfl) ?_;simp only[y4,Value.cells,iS,jj,YB,kR];have aB:Nat.beq M.length aT=true:=l;have aU:Nat.ble M.length U.length=true:=by rw[T,aj];exact Nat.ble_eq_true_of_le (eh _)
 simp only[List.toList_toArray,aB,aU,Bool.and_self,cond_true];rw[r4 _ _ _ ae];simp;omega
end
section
variable{x y:Operand}{v u:Value}{t e:TypeId}{aT bytes k m:Nat}{U xs M:List Value}{D:List aq}
theorem Zk[i:jz P t e aT bytes U](l:0<aT)(s:db F (own v e aT k xs::D) w)(d7:gT (fE w) u m M)(aw:M.length=m*aT)(h1:∀x∈M,x.oneCell'=true)
 (az:(k+m)*bytes<=140737488355328)(q:k+m<=maxLen)(bC:TypeId):
 ∃v' X,(Builtin.append_ #[t,t] bC #[v,u]).run P w=.ok v' X/\db F (own v' e aT (k+m) (xs++M)::D) X:=by
 obtain⟨z,E,W,cE,rfl,rfl,Z,G,T⟩:=i.out;have i9:(xs++M).length=(k+m)*z.size:=by
  obtain⟨bn,h2,_,_,⟨ag,_⟩,_⟩:=s.eI;rw[ep,ag,aw,mX]
 have aDb:k+m<=9223372036854775807:=by simp only[maxLen]at q;omega
 have y:E.cells.size=z.size:=by rw[G];simp[T]
 -- where a new row is made
 have agg:∀a,a<k+m->db F (own (.slice (some ⟨w.heap.size,0,none⟩) (k+m) (grownCap w (k+m) a e)) e z.size (k+m) (xs++M)::D)
  (w.drew.alloc (.cells (xs.toArray++M.toArray++Builtin.zeroCells E.cells (grownCap w (k+m) a e -(k+m))) e)):=λa aJ=>by
  have n:=grownCap_ge w (k+m) a e;have pl:=grownCap_le_maxLen w (k+m) a e q;have s1:db F (ev w.heap.size (.cells (xs.toArray++M.toArray++Builtin.zeroCells E.cells (grownCap w (k+m) a e -(k+m))) e)::D) (w.drew.alloc (.cells (xs.toArray++M.toArray++Builtin.zeroCells E.cells (grownCap w (k+m) a e -(k+m))) e)):=
   (s.imp λ_=>Sat.drop).drew.new _
  refine s1.imp λ_=>Sat.head λh co=>⟨i9,.inr ⟨_,_,(Builtin.zeroCells E.cells (grownCap w (k+m) a e -(k+m))).toList,rfl,?_,n,pl,?_⟩⟩
  . rw[ep,i9,Array.length_toList,size_zeroCells,y,<-mX];congr 1;omega
  . have L:h w.heap.size=some _:=co
    rw[L];congr 2;apply Array.ext';simp
 obtain⟨N,Do,d,fG,⟨ag,V⟩,K⟩:=s.eI;rcases d7 with⟨rfl,rfl,rfl⟩|⟨b,bv,Q,C,rfl,_,B⟩
 . -- nothing is appended
   refine⟨v,w,?_,by simpa using s⟩;rcases V with⟨rfl,rfl⟩|⟨b,C,dq,rfl,_,hk,_,_⟩
   . simp[Builtin.append_,run_underlying W,sizeOf,typeInfo,cE,Builtin.lenOf,Builtin.firstCells]
   . simp[Builtin.append_,run_underlying W,sizeOf,typeInfo,cE,Builtin.lenOf,Builtin.firstCells,hk,storeCells]
 . have c:∀j x,M[j]?=some x->w.cell? ((⟨b,bv,Q⟩:Addr).add j)=some x:=λj x J=>by
    obtain⟨rfl,cs,H,O,m0,r⟩:=B j x J;have m4:w.heap[b]?=_:=m0;rw[uo];simp[World.cell?,m4,r]
   rcases V with⟨rfl,rfl⟩|⟨g,p,dq,rfl,cd,ia,eB,f⟩
   . have Y:xs=[]:=rn (by simpa using ag)
     subst Y;by_cases bb:m=0
     . subst bb
       have aS:M=[]:=rn (by simpa using aw);subst aS;refine⟨_,w,?_,by simpa using s⟩;simp[Builtin.append_,run_underlying W,sizeOf,typeInfo,cE,Builtin.lenOf,Builtin.firstCells,loadCells,loadCellsFrom]
     . have aD:=run_append_nil (P:=P) w t bC e z E W cE Z ⟨b,bv,Q⟩ m C M aw c ae ae (by have az:=az;simp only[kR]at az;omega)
       have aig:=agg 0 ae;simp only[kR,ci,Array.empty_append]at aig⊢;exact⟨_,_,aD,aig⟩
   . have aX:w.heap[g]?=some (.cells (xs++dq).toArray e (0,0)):=by
      have:fE w g=_:=fG▸join_some (h2:=Do) f;exact this
     by_cases A:k+m<=p
     . have Pa:k*z.size+M.length<=(xs++dq).toArray.size:=by rw[aw,yg,cd,<-mX];exact p5 _ A
       have aD:=run_append_room (P:=P) w t bC e z W cE g k p _ aX ⟨b,bv,Q⟩ m C M aw c h1 A Pa;refine⟨_,_,aD,s.os,s.tape,s.output,by have:=s.size;simpa[World.setRow]using this,?_⟩;have aB:((xs++dq).toArray.toList.take (k*z.size)++M++(xs++dq).toArray.toList.drop (k*z.size+M.length))=(xs++M)++dq.drop M.length:=by
        rw[<-ag];simp[List.drop_append]
       have aU:fE (w.setRow g ((xs++dq).toArray.toList.take (k*z.size)++M++(xs++dq).toArray.toList.drop (k*z.size+M.length)).toArray)=iR (fE w) g (.cells ((xs++M)++dq.drop M.length).toArray e (0,0)):=by
        rw[aB];unfold World.setRow;rw[ty _ (o:=.cells (xs++dq).toArray e (0,0)) aX]
       rw[aU,fG];obtain⟨bB,R⟩:=si (S:=.cells ((xs++M)++dq.drop M.length).toArray e (0,0)) f d;refine⟨_,Do,R,bB,⟨i9,.inr ⟨g,p,dq.drop M.length,rfl,?_,A,eB,by simp[iR]⟩⟩,K⟩;simp only[ep,wb]at cd⊢;simp only[yg,ep]at Pa;rw[ag]at cd Pa⊢;omega
     . have holds:∀j x,xs[j]?=some x->w.cell? ((⟨g,0,none⟩:Addr).add j)=some x:=λj x J=>by
        have I:=(dd.1 J).1;rw[uo];simp[World.cell?,aX,kS I,J]
       have aD:=run_append_grow (P:=P) w t bC e z E W cE Z ⟨g,0,none⟩ k p xs ag holds ⟨b,bv,Q⟩ m C M aw c ae ae (growslice_fits ae az);exact⟨_,_,aD,agg p ae⟩
theorem D6{b t e:TypeId}{aT bytes k m c:Nat}{U xs M:List Value}{D:List aq}[i:jz P t e aT bytes U](h:cb ak x=some v)(ah:cb ak y=some (.slice j3 m c))(hp:Part [own v e aT k xs,ab b e M] I D)
 (l:Nat.blt 0 aT=true)(aw:Nat.beq M.length (m*aT)=true)(h1:M.all Value.oneCell'=true)(az:(k+m)*bytes<=140737488355328)(q:k+m<=maxLen):
 cY P F n NS bC ak I Zl:=λa w d pos N g aj s=>by
 have s1:=s.imp λ_=>hp.to;have d7:gT (fE w) (.slice j3 m c) m M:=iX.get (I:=own v e aT k xs::ab b e M::D) s1.eI;obtain⟨v',X,aD,aY⟩:=Zk (P:=P) (i:=i) (by simpa[yz]using l) s1 d7 (lr aw) D1 az q bC;obtain⟨ca,kg,rfl⟩:=(sw.get (v:=v') (I:=own v' e aT (k+m) (xs++M)::_) aY.eI).form;refine⟨_,_,X,?_,⟨ca,kg,rfl,rfl⟩,aY.imp λ_=>Sat.tail λ_=>Sat.drop⟩;simp only[execOp,resolve,oP,gz,mO,aj.eval h,aj.eval ah];simp[invoke,builtin,aD]
theorem Dj[i:jz P t e aT bytes U][r:iX u I m M](h:cb ak x=some v)(ah:cb ak y=some u)(hp:hG (own v e aT k xs) I D)
 (l:Nat.blt 0 aT=true)(aw:M.length=m*aT)(h1:M.all Value.oneCell'=true)(az:(k+m)*bytes<=140737488355328)(q:k+m<=maxLen):
 cY P F n NS bC ak I Zl:=λa w d pos N g aj s=>by
 obtain⟨v',X,aD,aY⟩:=Zk (P:=P) (i:=i) (by simpa[yz]using l) DU (r.get s.eI) aw D1 az q bC;obtain⟨ca,kg,rfl⟩:=(sw.get (v:=v') (I:=own v' e aT (k+m) (xs++M)::_) aY.eI).form;refine⟨_,_,X,?_,⟨ca,kg,rfl,rfl⟩,aY⟩;simp only[execOp,resolve,oP,gz,mO,aj.eval h,aj.eval ah];simp[invoke,builtin,aD]
end
end
end Go.L
