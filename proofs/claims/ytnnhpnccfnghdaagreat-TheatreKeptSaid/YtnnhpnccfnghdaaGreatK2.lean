import Derived.Test.YtnnhpnccfnghdaaGreatK1
import Derived.Laws.StructEq
import Derived.ProofKit
import Derived.OpenShut
import Derived.ShutString
import Derived.ChangeOld
import Derived.Below
import Derived.Deep.Slices
import Derived.Deep.Strs
import Derived.JoinedCond
import Derived.Carry
import Derived.SizedLaws
set_option linter.all false
namespace Go.L
section
variable{r:Nat}{z E:Type}{d6:IntKind}{m:List (Int×Value)}{D:List aq}
def b2(r:Nat)(d6:IntKind)(m:List (Int×Value)):aq:=λh=>∃es b,h r=some (.map es b)/\es.toList.map (λe=>(e.key,e.val))=m.map (λp=>(Value.int d6 p.1,p.2))
def dH{z:Type}(m:List (Int×z))(k:Int):Option z:=
 match m with
 |[]=>none
 |(j,v)::r=>if k=j then some v else dH r k
def eQ{z:Type}(m:List (Int×z))(k:Int)(v:z):List (Int×z):=
 match m with
 |[]=>[(k,v)]
 |(j,u)::r=>if k=j then(k,v)::r else(j,u)::eQ r k v
def OJ(m:List (Int×z))(k:Int)(v:z)(j:Int):dH (eQ m k v) j=if j=k then some v else dH m j:=by
 induction m with
 |nil=>simp[eQ,dH]
 |
  cons p r L=>
  obtain⟨q,u⟩:=p;simp only[eQ];by_cases h:k=q
  . subst h;simp only[fk,dH];by_cases J:j=k<;>simp[J]
  . simp only[a6 h,dH,L]
    by_cases J:j=q
    . subst J;simp[Ne.symm h]
    . simp[J]
def yW(f:z->E)(m:List (Int×z))(k:Int):dH (m.map λp=>(p.1,f p.2)) k=(dH m k).map f:=by
 induction m with
 |nil=>rfl
 |cons p r L=>simp only[gz,dH,L];split<;>rfl
def D4(f:z->E)(m:List (Int×z))(k:Int)(v:z):eQ (m.map λp=>(p.1,f p.2)) k (f v)=(eQ m k v).map λp=>(p.1,f p.2):=by
 induction m with
 |nil=>rfl
 |cons p r L=>simp only[gz,eQ,L];split<;>simp
class vd(r:Nat)(I:List aq)(d6:outParam IntKind)(m:outParam (List (Int×Value)))(u:outParam (List (Int×Value)->List aq)):Prop where
 get:∀{h:dR},Sat I h->∃es b,h r=some (.map es b)/\es.toList.map (λe=>(e.key,e.val))=m.map (λp=>(Value.int d6 p.1,p.2))
 set:∀{h:dR} (q:List (Int×Value)) (es:Array MapEntry) (b:Nat),Sat I h->es.toList.map (λe=>(e.key,e.val))=q.map (λp=>(Value.int d6 p.1,p.2))->Sat (u q) (iR h r (.map es b))
instance vd.head:vd r (b2 r d6 m::D) d6 m (λq=>b2 r d6 q::D)where
 get:=fun⟨_,_,_,e,⟨es,c,h1,h2⟩,_⟩=>⟨es,c,e▸join_some h1,h2⟩
 set:=λq es b ⟨h1,h2,d,e,⟨a,ej,cI,_⟩,aD⟩ Y=>by
  subst e;obtain⟨aB,d1⟩:=si (S:=.map es b) cI d;exact⟨_,h2,d1,aB,⟨es,b,by simp[iR],Y⟩,aD⟩
instance vd.tail{A:aq}{d6:IntKind}{m:List (Int×Value)}{D:List aq}{u:List (Int×Value)->List aq}[i:vd r D d6 m u]:vd r (A::D) d6 m (λq=>A::u q)where
 get:=λs=>i.get uN
 set:=λq es b ⟨h1,h2,d,e,aP,aD⟩ Y=>by
  subst e;obtain⟨a,ej,cI,_⟩:=i.get aD;obtain⟨aB,d1⟩:=si (S:=.map es b) cI d.symm;refine⟨h1,_,d1.symm,?_,aP,i.set q es b aD Y⟩;rw[join_comm d,aB,join_comm d1]
class sx(P:Program)(t:TypeId)(d6:outParam IntKind)(E:outParam Value):Prop where
 out:∃k e i,P.underlying t=some (.map k e)/\P.underlying k=some (.int d6)/\P.info? e=some i/\i.zero=some E
end
section
variable{P:Program}{F w:World}{n:Nat}{ak:eA}{I:List aq}{bC:TypeId}
section
variable{α bx:Type}{t dh e:TypeId}{x y:Operand}{z:Addr}{d6:IntKind}{E:Value}{r:Nat}{k:Int}{m:List (Int×Value)}{u:List (Int×Value)->List aq}
def run_checkKey{k:TypeId}{d6:IntKind}(h:P.underlying k=some (.int d6))(b:Bool)(d:Nat)(x:Int)(w:World):(Instr.checkKey b (d+1) k (.int d6 x)).run P w=.ok () w:=by
 simp[Instr.checkKey,gC h]
def OK(d6:IntKind)(x:Int):∀(es:List MapEntry) (m:List (Int×Value)) (i:Nat),es.map (λe=>(e.key,e.val))=m.map Bu->
 ∃
  o,Instr.findNow (.int d6) (.int d6 x) es i=some o/\o.map (·.2)=dH m x/\(∀j v,o=some (j,v)->i<=j/\∃e,es[j -i]?=some e/\e.key=.int d6 x/\
   ∀v',(es.modify (j -i) λe=>{e with key:=.int d6 x,val:=v'}).map Ir=(eQ m x v').map Bu)/\
  (o=none->eQ m x=λv'=>m++[(x,v')])
 |
  [],m,i,h=>by
  have:m=[]:=OL;subst this;exact⟨none,rfl,rfl,by simp,λ_=>rfl⟩
 |
  e::es,m,i,h=>by
  obtain⟨⟨j,u⟩,q,rfl⟩:∃p q,m=p::q:=by cases m with
   |nil=>simp at h
   |cons p q=>exact⟨p,q,rfl⟩
  simp only[gz,List.cons.injEq,Prod.mk.injEq]at h;obtain⟨⟨h1,h2⟩,aH⟩:=h;have aj:Instr.sameNow (.int d6) (.int d6 x) e.key=some (x==j):=by rw[h1];simp[Instr.sameNow]
  by_cases ag:x=j
  . subst ag
    refine⟨some (i,e.val),by simp[Instr.findNow,aj],by simp[dH,h2],?_,by simp⟩;intro a v Y;simp only[Option.some.injEq,Prod.mk.injEq]at Y;obtain⟨rfl,rfl⟩:=Y;exact⟨eh _,e,by simp,h1,λv'=>by simp[eQ,aH]⟩
  . have az:(x==j)=false:=by simpa using ag
    obtain⟨o,W,cE,d8,f9⟩:=OK d6 x es q (i+1) aH;refine⟨o,by simp[Instr.findNow,aj,az,W],by simp[dH,ag,cE],?_,?_⟩
    . intro a v Y
      obtain⟨cI,H,cd,ia,eB⟩:=d8 a v Y;have aB:a -i=(a -(i+1))+1:=ae;refine⟨by omega,H,by rw[aB];simpa using cd,ia,λv'=>?_⟩;rw[aB];simp[eQ,ag,h1,h2,eB v']
    . intro aJ;funext v'
      simp[eQ,ag,f9 aJ]
theorem Y5[i:sx P t d6 E][j:vd r I d6 m u](h:cb ak x=some we)(ah:cb ak y=some (.int d6 k)):
 bU P F n (.lookup t x y false) bC ak I ((dH m k).getD E):=λa w d pos N g aj s=>by
 obtain⟨D,M,z,h1,h2,aH,bm⟩:=i.out;obtain⟨es,b,W,cE⟩:=j.get s.eI;have f:w.heap[r]?=_:=W;obtain⟨o,cI,cd,_,_⟩:=OK d6 k es.toList m 0 cE;simp only[execOp,aj.eval h,aj.eval ah];have aX:=run_getObj_map (P:=P) w r es b f;simp[Instr.lookup,gC h1,aX,run_checkKey h2,Instr.findKey,gC h2,cI];cases o with
 |none=>simp[wc aH bm];simp at cd;rw[<-cd];rfl
 |some p=>simp;simp at cd;rw[<-cd];rfl
theorem lA(v:Value)[i:sx P t d6 E][j:vd r I d6 m u](V:(dH m k).getD E=v)(h:cb ak x=some we)(ah:cb ak y=some (.int d6 k)):
 bU P F n (.lookup t x y false) bC ak I v:=V▸Y5 (i:=i) (j:=j) h ah
theorem YN{q:Operand}{d6:IntKind}{E v:Value}{r:Nat}{k:Int}{m:List (Int×Value)}{u:List (Int×Value)->List aq}[i:sx P t d6 E][j:vd r I d6 m u](h:cb ak x=some we)(ah:cb ak y=some (.int d6 k))(V:cb ak q=some v):
 c6 P F n (.mapUpdate t x y q) bC ak I (u (eQ m k v)):=λa w d pos N g aj s=>by
 obtain⟨D,M,z,h1,h2,aH,bm⟩:=i.out;obtain⟨es,b,W,cE⟩:=j.get s.eI;have f:w.heap[r]?=_:=W;obtain⟨o,cI,cd,ia,eB⟩:=OK d6 k es.toList m 0 cE;have aX:=run_getObj_map (P:=P) w r es b f;have B:∀C:Obj,(setObj r C).run P w=.ok () {w with heap:=w.heap.setIfInBounds r C}:=λC=>by
  simp[setObj,Sem.run,f]
 have fin:∀(l:Array MapEntry) (c:Nat),l.toList.map (λe=>(e.key,e.val))=(eQ m k v).map Bu->db F (u (eQ m k v)) Is:=λl c Y=>
  ⟨s.os,s.tape,s.output,by have:=s.size;simpa using this,by rw[Dt _ W];exact j.set _ _ _ s.eI Y⟩
 simp only[execOp,aj.eval h,aj.eval ah,aj.eval V];cases o with
 |
  none=>
  refine⟨_,?_,fin (es.push {key:=.int d6 k,val:=v,born:=b}) (b+1) (by rw[eB rfl];simp[cE])⟩;simp[Instr.mapUpdate,gC h1,aX,run_checkKey h2,Instr.findKey,gC h2,cI,B]
 |
  some p=>
  obtain⟨O,v0⟩:=p;obtain⟨_,e,aB,aU,bB⟩:=ia O v0 rfl;simp only[Dp]at aB bB;refine⟨_,?_,fin (es.modify O λe=>{e with key:=.int d6 k,val:=v}) b Y6⟩;have J:es[O]?=some e:=by simpa using aB
  simp[Instr.mapUpdate,gC h1,aX,run_checkKey h2,Instr.findKey,gC h2,cI,B,J,aU,Instr.keyThatStays,Instr.sameBits]
def Bt{b:Nat}{d6:IntKind}{D:List aq}:∀h,Sat (ev b (.map #[] 0)::D) h->Sat (b2 b d6 []::D) h:=λ_=>Sat.head λ_ co=>⟨#[],0,co,rfl⟩
theorem Mf{aT bytes k:Nat}{d6 b:IntKind}{U:List Value}{x y:Operand}[i:jz P t e aT bytes U](ag:cb ak x=some (.int d6 (k:Int)))(ah:cb ak y=some (.int b (k:Int)))(q:k<=maxLen)(az:bytes*k<=281474976710656):
 cY P F n (.makeSlice t x y) bC ak I (λv H=>∃a c,v=.slice a k c/\H=own (.slice a k c) e aT k (iS U k)::I):=λa w d pos N g aj s=>by
 obtain⟨z,E,h1,h2,rfl,rfl,dk,g0,u⟩:=i.out;have O:IntKind.i64.wrap (k:Int)=k:=IntWalk.i64_in _ (by simp only[maxLen]at q;omega);have m0:¬(281474976710656<(z.bytes:Int)*k):=by
  have:((z.bytes*k:Nat):Int)<=281474976710656:=by omega
  rw[DG]at this;omega
 refine⟨.slice (some ⟨w.heap.size,0,none⟩) k k,_,{w with heap:=w.heap.push (.cells (iS U k).toArray e (0,0))},?_,⟨_,_,rfl,rfl⟩,?_⟩
 . simp only[execOp,aj.eval ag,aj.eval ah]
   have p:((Array.range (k*z.size)).map λx=>U.toArray[x%z.size]!)=(iS U k).toArray:=by
    rw[<-Y7 U k default,u];apply Array.ext';simp
   have aB:¬((k:Int)<0):=ae;by_cases bn:k*z.size=0
   . have aD:iS U k=[]:=by apply rn;rw[A5,u];exact bn
     simp[Instr.makeSlice,gC h1,asInt,asIntOf,It h2,O,m0,aB,ji h2,newRow,bn,aD]
     congr 2;apply aro;simp
   . have:¬(k=0\/z.size=0):=λco=>bn (by rcases co with co|co<;>simp[co])
     simp at p;simp[Instr.makeSlice,gC h1,asInt,asIntOf,It h2,O,m0,aB,ji h2,wc h2 dk,newRow,this,g0,u,p];intro co;exact absurd co bn
 . refine(s.new _).imp λ_=>Sat.head λh co=>⟨by rw[A5,u],.inr ⟨_,k,[],rfl,by simp[A5,u],eh _,q,by rw[jj];exact co⟩⟩
inductive Bc|int(k:IntKind)|bool|str
def oj:List Bc->List Value->Bool
 |[],[]=>true
 |.int k::l,.int j _::M=>(match k,j with
  |.i8,.i8|.i16,.i16|.i32,.i32|.i64,.i64|.u8,.u8|.u16,.u16|.u32,.u32|.u64,.u64=>true
  |_,_=>false)&&oj l M
 |.bool::l,.bool _::M=>oj l M
 |.str::l,.string _::M=>oj l M
 |_,_=>false
def qH:List Value->List Value->Bool
 |.int _ a::xs,.int _ b::U=>(a==b)&&qH xs U
 |.bool a::xs,.bool b::U=>(a==b)&&qH xs U
 |.string a::xs,.string b::U=>(a.toList==b.toList)&&qH xs U
 |[],[]=>true
 |_,_=>false
def HX(P:Program)(f:Field):Option Bc:=
 if f.name = "_" then none else match P.underlying f.type with
  |some (.int k)=>some (.int k)
  |some .bool=>some .bool
  |some .string=>some .str
  |_=>none
class N1(P:Program)(t:TypeId)(l:outParam (List Bc)):Prop where
 out:∃gu,P.underlying t=some (.struct gu)/\gu.toList.map (λf=>(f.offset,HX P f))=l.zipIdx.map (λp=>(p.2,some p.1))
 held:P.stoodInHeld t=false
 guard:P.eqGuardType P.depth t=false
def Y8(w:World)(X Y:List Value):∀(gu:List Field) (l:List Bc) (k:Nat),gu.map (λf=>(f.offset,HX P f))=(l.zipIdx k).map (λp=>(p.2,some p.1))->oj l (X.drop k)=true->oj l (Y.drop k)=true->
 (Op.eqFields 9999 X.toArray Y.toArray gu).run P w=.ok (qH (X.drop k) (Y.drop k)) w
 |
  [],[],k,_,ag,ah=>by
  have h1:X.drop k=[]:=by cases h:X.drop k<;>simp[h,oj]at ag⊢
  have h2:Y.drop k=[]:=by cases h:Y.drop k<;>simp[h,oj]at ah⊢
  rw[h1,h2];simp[Op.eqFields,qH]
 |
  f::gu,b5::l,k,h,ag,ah=>by
  simp only[gz,wE,List.cons.injEq,Prod.mk.injEq]at h;obtain⟨⟨aJ,a8⟩,aD⟩:=h;obtain⟨x,xs,ex⟩:∃x xs,X.drop k=x::xs:=by cases e:X.drop k with
   |nil=>rw[e]at ag;cases b5<;>simp[oj]at ag
   |cons x xs=>exact⟨x,xs,rfl⟩
  obtain⟨y,U,q⟩:∃y U,Y.drop k=y::U:=by cases e:Y.drop k with
   |nil=>rw[e]at ah;cases b5<;>simp[oj]at ah
   |cons y U=>exact⟨y,U,rfl⟩
  have c:X[k]?=some x:=by have:=congrArg (·[0]?) ex;simpa using this
  have i:Y[k]?=some y:=by have:=congrArg (·[0]?) q;simpa using this
  have j:X.drop (k+1)=xs:=by rw[<-GL,ex];rfl
  have m:Y.drop (k+1)=U:=by rw[<-GL,q];rfl
  have L:=Y8 w X Y gu l (k+1) aD;rw[j,m]at L;rw[ex]at ag⊢;rw[q]at ah⊢;unfold HX at a8;by_cases aS:f.name = "_"
  . rw[bg aS]at a8;cases a8
  . rw[a6 aS]at a8
    have hp:∀{d:TypeDesc},P.underlying f.type=some d->u3 d=false->∀g:List Value,∀E,g[k]?=some E->(part f.type g.toArray f.offset).run P w=.ok E w:=λaQ aP g E T=>by
     simp[part,Bh aQ aP,aJ,T]
    cases aQ:P.underlying f.type with
    |none=>rw[aQ]at a8;cases a8
    |
     some d=>
     rw[aQ]at a8;cases d<;>simp at a8<;>subst a8
     . cases x<;>simp[oj]at ag
       cases y<;>simp[oj]at ah;simp[Op.eqFields,aS,hp aQ rfl X _ c,hp aQ rfl Y _ i,run_equalIn_bool' w _ _ _ _ aQ,qH];split
       . rename_i e;simp[e,L ag ah]
       . rename_i e;simp[e]
     . cases x<;>simp[oj]at ag
       cases y<;>simp[oj]at ah;rename_i fi cI a cd b;have aB:cI=cd:=by cases fi<;>cases cI<;>simp at ag<;>cases cd<;>simp at ah<;>rfl
       subst aB;simp[Op.eqFields,aS,hp aQ rfl X _ c,hp aQ rfl Y _ i,run_equalIn_int w _ _ _ _ _ _ aQ,qH];split
       . rename_i e;simp[e,L ag.2 ah.2]
       . rename_i e;simp[e]
     . cases x<;>simp[oj]at ag
       cases y<;>simp[oj]at ah;simp[Op.eqFields,aS,hp aQ rfl X _ c,hp aQ rfl Y _ i,run_equalIn_string w _ _ _ _ aQ,qH];split
       . rename_i e;simp[e,L ag ah]
       . rename_i e;simp[e]
 |[],_::_,_,h,_,_=>by simp at h
 |_::_,[],_,h,_,_=>by simp at h
def Y9{xs U:List Value}{l:List Bc}[i:N1 P t l](ag:cb ak x=some (.agg xs.toArray))(ah:cb ak y=some (.agg U.toArray))(b:oj l xs=true)(c:oj l U=true):bU P F n Bv bC ak I (.bool (!qH xs U)):=λa w d pos N g aj _=>by
 obtain⟨gu,h1,h2⟩:=i.out;have a8:P.fieldsOf t=gu:=by simp[Program.fieldsOf,h1]
 simp only[execOp,aj.eval ag,aj.eval ah];simp[run_eqGuard_agg w .neq t x y _ _ i.guard,run_neq_struct,run_equalIn_struct w 9999 t _ _ (by rw[a8];exact h1) i.held,a8,Y8 w xs U gu.toList l 0 h2 b c]
def kz{α:Type}(f:α->List Value)(aT:Nat)(a8:∀x,(f x).length=aT):∀l:List α,(l.flatMap f).length=l.length*aT
 |[]=>by simp
 |x::l=>by rw[pP,ep,a8,kz f aT a8 l,iY,mX];omega
def Iu{α:Type}(f:α->List Value)(aT:Nat)(a8:∀x,(f x).length=aT):∀(l:List α) (k:Nat),(l.flatMap f).drop (k*aT)=(l.drop k).flatMap f
 |l,0=>by simp
 |[],k+1=>by simp
 |
  x::l,k+1=>by
  have aB:(k+1)*aT=(f x).length+k*aT:=by rw[a8,mX];omega
  rw[pP,aB,List.drop_append,Ge ae,ci,Gf,List.drop_succ_cons,Iu f aT a8 l k]
def kO(f:α->List Value)(aT:Nat)(a8:∀x,(f x).length=aT){l:List α}{k:Nat}{x:α}(hk:l[k]?=some x):((l.flatMap f).drop (k*aT)).take aT=f x:=by
 have:l.drop k=x::l.drop (k+1):=by
  obtain⟨h,e⟩:=dd.1 hk;rw[<-e];exact vY h
 rw[Iu f aT a8,this,pP,HL (by rw[a8];omega),y2 (by rw[a8];omega)]
def lL(f:α->List Value)(aT:Nat)(a8:∀x,(f x).length=aT){l:List α}{k j:Nat}{x:α}{v:Value}(hk:l[k]?=some x)(V:(f x)[j]?=some v):(l.flatMap f)[k*aT+j]?=some v:=by
 have h:=kO f aT a8 hk;rw[<-h]at V;exact z8 V
def Za(h:P.underlying t=some (.pointer e))(d:Nat)(z:Addr)(w:World):(Op.equalIn (d+1) t (.pointer (some z)) (.pointer none)).run P w=.ok false w:=by
 simp[Op.equalIn,gC h]
def Zb(h:P.underlying t=some (.pointer e))(d:Nat)(w:World):(Op.equalIn (d+1) t (.pointer none) (.pointer none)).run P w=.ok true w:=by
 simp[Op.equalIn,gC h]
def arp[i:u5 P t](ag:cb ak x=some (.pointer (some z)))(ah:cb ak y=some fS):bU P F n Bw bC ak I gQ:=λa w d pos N g aj _=>by
 obtain⟨e,h1⟩:=i.out;simp only[execOp,aj.eval ag,aj.eval ah];simp only[binOp];simp[eqGuard,Op.equal,Op.maxDepth,Za h1 9999 z]
def arq[i:u5 P t](ag:cb ak x=some (.pointer (some z)))(ah:cb ak y=some fS):bU P F n Bv bC ak I iu:=λa w d pos N g aj _=>by
 obtain⟨e,h1⟩:=i.out;simp only[execOp,aj.eval ag,aj.eval ah];simp only[binOp];simp[eqGuard,Op.equal,Op.maxDepth,Za h1 9999 z]
def arr[i:u5 P t](ag:cb ak x=some fS)(ah:cb ak y=some fS):bU P F n Bw bC ak I iu:=λa w d pos N g aj _=>by
 obtain⟨e,h1⟩:=i.out;simp only[execOp,aj.eval ag,aj.eval ah];simp only[binOp];simp[eqGuard,Op.equal,Op.maxDepth,Zb h1 9999]
def ars[i:u5 P t](ag:cb ak x=some fS)(ah:cb ak y=some fS):bU P F n Bv bC ak I gQ:=λa w d pos N g aj _=>by
 obtain⟨e,h1⟩:=i.out;simp only[execOp,aj.eval ag,aj.eval ah];simp only[binOp];simp[eqGuard,Op.equal,Op.maxDepth,Zb h1 9999]
def df(fR:bx->Prop)(l:bx->List aq):aq:=λh=>∃x,fR x/\Sat (l x) h
def hb{fR:bx->Prop}{l:bx->List aq}{D:List aq}{h:dR}(s:Sat (df fR l::D) h):∃x,fR x/\Sat (l x++D) h:=by
 obtain⟨x,ag⟩:=Sat.ex.1 s;obtain⟨p,aj⟩:=Sat.pure.1 ag;exact⟨x,p,Sat.flat.1 aj⟩
def cA{fR:bx->Prop}{l:bx->List aq}{D:List aq}(x:bx)(p:fR x)(t:∀h,Sat I h->Sat (l x++D) h):∀h,Sat I h->Sat (df fR l::D) h:=
 λh s=>Sat.ex.2 ⟨x,Sat.pure.2 ⟨p,Sat.flat.2 (t h s)⟩⟩
end
variable{Q:Exit->Act->World->Prop}{c:Code}{E:Array Oper}{D:List aq}{bx:Type}{fR:bx->Prop}{l:bx->List aq}
def kB(s:hG (df fR l) I D)(h:∀x,fR x->G P F n c ak (l x++D) Q):G P F n c ak I Q:=λa w aj st=>by
 obtain⟨x,p,ag⟩:=hb (s.to st.eI);exact h x p a w aj HJ
def art{M:Act->World->Prop}(s:hG (df fR l) I D)(h:∀x,fR x->GE F n ak (l x++D) M):GE F n ak I M:=λa w aj st=>by
 obtain⟨x,p,ag⟩:=hb (s.to st.eI);exact h x p a w aj HJ
end
end Go.L
namespace Go.L
open Go.RowKit
def aqo{W X:World}{l:List aq}(s:db W (base W::l) X):Below W.heap.size W X:=
 ⟨s.os, s.tape, s.output, s.size, fun k hk => by
  obtain⟨h1,h2,_,e,aP,_⟩:=s.eI;have aH:=aP k hk;have bm:X.heap[k]?=join h1 h2 k:=congrFun e k;obtain⟨o,aJ⟩:∃o,W.heap[k]?=some o:=⟨_,atx hk⟩;rw[bm,aJ];rw[aJ]at aH;exact join_some aH⟩
def aqn(W:World):db W [base W] W:=⟨rfl,rfl,rfl,eh _,Sat.one λ_ _=>rfl⟩
section
variable{F:Type}{enc:TypeId×Value->F}{P:Program}{w:World}{E:Nat}{D:Nat->Bool}{held:Bool}
def l0(P:Program)(t:TypeId)(d:DataW F):Prop:=∀n∈d.weights P t,n<=reachBytes
theorem ahK{e:TypeId}:∀{l:List (DataW F)} {d:DataW F},d∈l->∀n∈d.weights P e,n∈DataW.weightsAll P e l
 |[],_,aQ,_,_=>absurd aQ vX
 |
  x::l,d,aQ,n,aS=>by
  simp only[DataW.weightsAll,kP];rcases kf.1 aQ with rfl|h
  . exact .inl aS
  . exact .inr (ahK h n aS)
theorem aqj{z:List TypeId}{fB:List (DataW F)}(h:(DataW.weightsEach P z fB).all (·<=reachBytes)=true){j:Nat}{t:TypeId}{d:DataW F}(R:z[j]?=some t)(aQ:fB[j]?=some d):l0 P t d:=λn aS=>by
 have:=pN.1 h _ (DataW.weights_mem_each R aQ n aS);simpa using this
theorem ahL{t e:TypeId}{el dq:List (DataW F)}(d7:P.underlying t=some (.slice e))(h:l0 P t (.slice el dq)):el.length*P.bytesOf e<=reachBytes/\∀d∈el,l0 P e d:=by
 constructor
 . have h1:=h ((el.length+dq.length)*P.bytesOf e) (by simp[DataW.weights,d7])
   exact mW (p5 _ ae) h1
 . intro d aQ n aS
   refine h n ?_;simp only[DataW.weights,d7,kf,kP];exact .inr (.inl (ahK aQ n aS))
theorem h7{t:TypeId}{gu:Array Field}{J:List (DataW F)}{i:Nat}{f:Field}{d:DataW F}(d7:P.underlying t=some (.struct gu))(h:l0 P t (.agg J))(a8:gu[i]?=some f)(aQ:J[i]?=some d):l0 P f.type d:=λn aS=>by
 refine h n ?_;simp only[DataW.weights,d7];exact DataW.weights_mem_each (j:=i) (by simp[a8]) aQ n aS
theorem aty{t:TypeId}{b:List UInt8}(h:l0 P t (.lit (.string b):DataW F)):b.length<=140737488351232:=by
 have h1:=h b.length (by simp[DataW.weights]);have aH:reachBytes=140737488351232:=bN;omega
theorem atz(z:DataW F->Prop){t e zB aT:Nat}{cs:List Value}{x:DataW F×List MemPlace}(R:P.underlying t=some (.slice e))(l:P.cellsOf e=aT){T:Type}[Inhabited T](g:T->List Value)(Good:T->Prop)(hlen:∀q,(g q).length=aT)
 (k:∀n u d,DataW.trod enc P w E D held n e u=some d->z d.1->∃q,u=g q/\Good q)(G:∀el dq,x.1=.slice el dq->∀d∈el,z d)(h:DataW.trod enc P w E D held zB t cs=some x):
 ∃
  (a:Option Addr) (C:Nat) (s:List T),cs=[.slice a s.length C]/\(∀q∈s,Good q)/\s.length<=maxLen/\(0<aT->gT (fE w) (.slice a s.length C) s.length (s.flatMap g))/\
  ((x.1=.nil/\s.length=0)\/∃el dq,x.1=.slice el dq/\el.length=s.length):=by
 rcases DataW.trod_slice R h with⟨rfl,rfl⟩|⟨a,len,C,o,rest,n,_,rfl,rfl,_,aw,bb,Y,m3,_,_⟩
 . exact⟨none,0,[],rfl,by simp,by simp,λ_=>.inl ⟨rfl,rfl,rfl⟩,.inl dD⟩
 . obtain⟨f,a8⟩:=Go.Deep.choose_lt (α:=T) (n:=len) (p:=λi q=>Good q/\∀j x,(g q)[j]?=some x->w.cell? (a.add (i*aT+j))=some x) (λi al=>by
    have h1:=m3 i al;have fK:i<o.length:=ae;rw[cq fK]at h1;obtain⟨u,W,I⟩:=io.1 h1;obtain⟨q,rfl,bo⟩:=k _ _ _ I (G _ _ rfl _ (EU (sz fK)));obtain⟨_,_,L⟩:=World.cells?_some W;refine⟨q,bo,λj x ag=>?_⟩;have J:j<aT:=by have:=(dd.1 ag).1;rw[hlen]at this;exact this
    have:=L j (by rw[l];exact J);rw[ag,l]at this;rw[<-this];congr 1;unfold Addr.add;by_cases aB:i*aT=0<;>by_cases aU:j=0<;>simp[aB,aU];omega)
   refine⟨some a,C,(List.range len).map f,by simp,λq bo=>?_,by simp;omega,λg4=>.inr ⟨a.block,a.off,a.spot,C,by simp,λbn=>?_,λj x ag=>?_⟩,.inr ⟨_,_,rfl,by simp[Y]⟩⟩
   . obtain⟨i,al,rfl⟩:=jS.1 bo;exact(a8 i (p4.1 al)).1
   . simp at bn
     have:=(a8 0 bn).2 0 ((g (f 0))[0]'OV) (cq _)
     simp[Addr.add]at this;exact World.cell?_spot this
   . have v:j<len*aT:=by
      have:=(dd.1 ag).1;rw[kz g aT hlen]at this;simpa using this
     have al:j/aT<len:=by rw[Nat.div_lt_iff_lt_mul g4];exact v
     have hk:((List.range len).map f)[j/aT]?=some (f (j/aT)):=by simp[al]
     have pm:j%aT<aT:=yP _ g4;have m:(g (f (j/aT)))[j%aT]?=some x:=by
      have:=lL g aT hlen hk (cq OW:(g (f (j/aT)))[j%aT]?=some ((g (f (j/aT)))[j%aT]'OW))
      rw[ahM]at this;rw[ag]at this;rw[cq OW,<-this]
     have a2:=(a8 _ al).2 _ _ m;rw[ahM]at a2;have M:a.spot=none:=by
      have:=(a8 (j/aT) al).2 0 ((g (f (j/aT)))[0]'OV) (cq _)
      by_cases bn:j/aT*aT+0=0
      . rw[bn]at this;simp[Addr.add]at this;exact World.cell?_spot this
      . have r:=(a8 0 (Y4 (fc _) al)).2 0 ((g (f 0))[0]'OV) (cq _)
        simp[Addr.add]at r;exact World.cell?_spot r
     refine⟨M,?_⟩;obtain⟨b,bv,Q⟩:=a;simp only at M;subst M;rw[uo]at a2;unfold World.cell? at a2;split at a2
     . rename_i c _ _ co;simp at a2;exact⟨c,_,_,co,a2⟩
     . cases a2
end
end Go.L
namespace Go.L
section
variable{P:Program}{F w:World}{n:Nat}{ak:eA}{I:List aq}{bC:TypeId}
section
variable{x y:Operand}{t e:TypeId}{z:Array TypeId}{aT:Nat}{k:IntKind}{p q:Int}(r:Int)
def uw(aD:(if q<p then q else p)=r)(ag:cb ak x=some (.int k p))(ah:cb ak y=some (.int k q)):bU P F n (.call {callee:=.builtin .min,args:=#[x,y],argTypes:=z}) bC ak I (.int k r):=λa w d pos N g aj s=>by
 simp only[execOp,resolve,oP,gz,mO,aj.eval ag,aj.eval ah];subst aD;simp[invoke,builtin,Builtin.min_,Builtin.min2]
def ti(aD:(if p<q then q else p)=r)(ag:cb ak x=some (.int k p))(ah:cb ak y=some (.int k q)):bU P F n (.call {callee:=.builtin .max,args:=#[x,y],argTypes:=z}) bC ak I (.int k r):=λa w d pos N g aj s=>by
 simp only[execOp,resolve,oP,gz,mO,aj.eval ag,aj.eval ah];subst aD;simp[invoke,builtin,Builtin.max_,Builtin.max2]
def atf(h:P.underlying t=some (.slice e))(d:Nat)(a:Option Addr)(l c:Nat)(w:World):(Op.equalIn (d+1) t (.slice a l c) (.slice none 0 0)).run P w=.ok a.isNone w:=by
 cases a<;>simp[Op.equalIn,gC h]
def atg{dh:TypeId}{x y:Operand}{a:Option Addr}{l c e aT:Nat}[i:jy P t e aT](ag:cb ak x=some (.slice a l c))(ah:cb ak y=some eX):bU P F n Bw bC ak I (.bool a.isNone):=λa w d pos N g aj _=>by
 obtain⟨z,h1,_⟩:=i.out;simp only[execOp,aj.eval ag,aj.eval ah];simp only[binOp];simp[eqGuard,Op.equal,Op.maxDepth,atf h1 9999]
def V5{h:dR}{l c k:Nat}{xs:List Value}[i:iX (.slice none l c) I k xs](s:Sat I h):l=0/\c=0/\k=0/\xs=[]:=by
 rcases i.get s with⟨h1,h2,aH⟩|⟨b,bv,Q,C,h1,_⟩
 . cases h1;exact⟨rfl,rfl,aH,h2⟩
 . cases h1
def ath{bytes:Nat}{U:List Value}[i:jz P t e aT bytes U]:cY P F n (.buildSlice t 0 #[]) bC ak I (λv H=>∃b,v=.slice j3 0 0/\H=own (.slice j3 0 0) e aT 0 []::I):=λa w d pos N g aj s=>by
 obtain⟨z,E,h1,h2,aH,bm,dk,g0,u⟩:=i.out;refine⟨_,_,{w with heap:=w.heap.push (.cells #[] e (0,0))},?_,⟨w.heap.size,rfl,rfl⟩,(s.new _).imp λ_=>Sat.head λh co=>⟨by simp,.inr ⟨_,0,[],rfl,by simp,eh _,by unfold maxLen;omega,co⟩⟩⟩;simp[execOp,Instr.buildSlice,gC h1,ji h2,newRow,Instr.fill]
 congr 2;apply aro;simp
def apd{b:Nat}{e:TypeId}{aT k:Nat}{xs:List Value}{D:List aq}(aw:xs.length=k*aT)(q:k<=maxLen):∀h,Sat (ab b e xs::D) h->Sat (own (.slice j3 k k) e aT k xs::D) h:=
 λ_=>Sat.head λ_ co=>⟨aw,.inr ⟨b,k,[],rfl,by simpa using aw,eh _,q,by rw[jj];exact co⟩⟩
def yt{Q:Exit->Act->World->Prop}{c:Code}{p:Prop}(f:∀h,Sat I h->p)(h:p->G P F n c ak I Q):G P F n c ak I Q:=λa w aj st=>h (f _ st.eI) a w aj st
end
end
section
variable(x:Int){b T k:Nat}{α:Type}{v:Value}{r:List aq}
def Dz(p T k:Nat)(v:Value):aq:=λh=>∃l:List Value,l[k]?=some v/\h p=some (.cells l.toArray T (0,0))
def arG{p T k:Nat}{v:Value}{l:List Value}{D:List aq}{h:dR}(s:Sat (ab p T l::D) h)(hk:l[k]?=some v):Sat (Dz p T k v::D) h:=Sat.head (λ_ co=>⟨l,hk,co⟩) s
class xy(b bv:Nat)(I:List aq)(v:outParam Value):Prop where
 get:∀{h:dR},Sat I h->∃(l:List Value) (T:TypeId) (O:Nat×Nat),h b=some (.cells l.toArray T O)/\l[bv]?=some v
instance xy.head:xy b k (Dz b T k v::r) v where
 get:=fun⟨_,_,_,e,⟨l,aw,co⟩,_⟩=>⟨l,T,(0,0),e▸join_some co,aw⟩
instance xy.tail{A:aq}{r:List aq}[i:xy b k r v]:xy b k (A::r) v where
 get:=λs=>i.get s.drop
def vc{P:Program}{F:World}{n:Nat}{ak:eA}{I:List aq}{bC t:TypeId}{x:Operand}{b bv:Nat}{v:Value}[i:ew P t][j:xy b bv I v](h:cb ak x=some (ptr b bv)):bU P F n (.load t x) bC ak I v:=λa w d pos N g aj s=>by
 obtain⟨d,h1,h2⟩:=i.out;obtain⟨l,T,O,az,aw⟩:=j.get s.eI;have m0:w.heap[b]?=some (.cells l.toArray T O):=az;have a2:w.cell? rb=some v:=by simp[World.cell?,m0,aw]
 simp only[execOp,aj.eval h];simp[Instr.loadAt,Instr.sureAddr,loadVar,Bh h1 h2,run_load,a2]
instance gN.own{e:TypeId}{aT n:Nat}{xs:List Value}:gN v (own v e aT n xs) n xs where
 get s:=oh.rd s
abbrev af:Value:=.int .i64 x
abbrev bu:Value:=.int .u64 x
def ahB(E:Value):∀k,iS [E] k=List.replicate k E
 |0=>rfl
 |k+1=>by rw[iS,ahB E k,List.replicate_succ];rfl
def al9(f:α->Value)(E:α)(k:Nat):iS [f E] k=(List.replicate k E).map f:=by rw[ahB,ahC]
def CV{f:α->Value}{l:List α}{d:α}{i:Nat}(h:i<l.length):(l.map f)[i*1]?=some (f (l.getD i d)):=by
 simp[je,cq h]
def arT{f:α->Value}{l:List α}{i:Nat}{x:α}:(l.map f).set (i*1) (f x)=(l.set i x).map f:=by
 rw[rm,tL]
end
section
variable{l:List aq}{A:aq}{i:Nat}{D:List aq}
def fu:aq:=λ_=>True
def ay(l:List aq):aq:=wF l
def yc:∀h,Sat D h->Sat (fu::D) h:=λh s=>Wn
def w0:∀h,Sat D h->Sat (ay []::D) h:=yc
def rD(e:l[i]?=some A):∀h,Sat (ay l::D) h->Sat (A::ay (l.set i fu)::D) h:=by
 intro h s;replace s:=Sat.flat.1 s;refine Sat.tail (r:=l.set i fu++D) (λ_=>Sat.flat.2) ?_
 induction l generalizing i h with
 |nil=>simp at e
 |
  cons B l L=>
  cases i with
  |zero=>simp only[Yl,Option.some.injEq]at e;subst e;exact Sat.tail (r:=l++D) (λh s=>yc h s) s
  |
   succ i=>
   simp only[H3]at e;exact Sat.swap (Sat.tail (r:=l++D) (λh s=>L e h s) s)
def uZ(al:i<l.length):∀h,Sat (A::ay (l.set i fu)::D) h->Sat (ay (l.set i A)::D) h:=by
 intro h s;refine Sat.flat.2 ?_;replace s:Sat (A::(l.set i fu++D)) h:=Sat.tail (λ_=>Sat.flat.1) s
 induction l generalizing i h with
 |nil=>simp at al
 |
  cons B l L=>
  cases i with
  |zero=>exact Sat.tail (r:=fu::(l++D)) (λh s=>Sat.drop s) s
  |succ i=>exact Sat.tail (r:=A::(l.set i fu++D)) (S:=l.set i A++D) (λh s=>L CW h s) (Sat.swap s)
def tB:∀h,Sat (A::ay l::D) h->Sat (ay (l++[A])::D) h:=by
 intro h s;refine Sat.flat.2 ?_;replace s:Sat (A::(l++D)) h:=Sat.tail (λ_=>Sat.flat.1) s
 induction l generalizing h with
 |nil=>exact s
 |cons B l L=>exact Sat.tail (r:=A::(l++D)) (S:=l++[A]++D) (λh s=>L h s) (Sat.swap s)
end
section
variable{P:Program}{F:World}{n:Nat}{ak:eA}{I D R' l:List aq}{A:aq}{Q:Exit->Act->World->Prop}{c:Code}{E:Array Oper}{i:Nat}
def Ym(s:hG (ay l) I D)(e:l[i]?=some A):∀h,Sat I h->Sat (A::ay (l.set i fu)::D) h:=λh st=>rD e h (s.to st)
def gu(s:hG A I D)(Z:hG (ay (l.set i fu)) D R')(al:i<l.length):∀h,Sat I h->Sat (ay (l.set i A)::R') h:=λh st=>uZ al h (Sat.tail (λ_=>Z.to) (s.to st))
def u6(s:hG (ay l) I D)(e:l[i]?=some A)(h:G P F n c ak (A::ay (l.set i fu)::D) Q):G P F n c ak I Q:=lh (Ym s e) h
def apV{os:List Oper}(s:hG (ay l) I D)(e:l[i]?=some A)(h:cz P F n E os ak (A::ay (l.set i fu)::D) Q):cz P F n E os ak I Q:=r9 (Ym s e) h
end
section
variable{P:Program}{α:Type}{F:World}{n:Nat}{ak:eA}{I:List aq}{bC t dh:TypeId}{x y:Operand}{k z:IntKind}{p q:Int}(r:Int)
theorem vZ{D:List aq}{fn:Func}{post:Value->List aq->Prop}{e:Exit}(Y:e=.ret\/e=.normal){t b bv aT:Nat}{T te:TypeId}{l M:List Value}{O:Nat×Nat}{u:Obj->List aq}[i:jR P T aT][j:k0 b I (.cells l.toArray te O) u](a8:fn.results=#[.cell t T])(h1:gL ak t=some (ptr b bv))(V:(l.drop bv).take aT=M)(aw:M.length=aT)(H:List aq)(hp:post yU H)(B:∀h,Sat I h->Sat (H++D) h):
 GE F n ak I vW:=
 x6 Y (λa w aj s=>by
  obtain⟨J,W,cE⟩:=i.out;obtain⟨z,d8,f9⟩:=i.size;have az:=s.heap (b:=b);have a2:=run_loadCells_list (P:=P) w rb M (λk v hk=>by
   rw[<-V]at hk;have:=z8 hk;rw[uo];simp[World.cell?,az,this])
  rw[aw]at a2;simp[results,a8,aj.val _ _ h1,asAddr,loadVar,Aa W cE,ji d8,f9,a2]) H hp B
def fM{op:Op}{bC:TypeId}{b c:Bool}(h:b=c)(o:bU P F n op bC ak I (.bool b)):bU P F n op bC ak I (.bool c):=h▸o
theorem apW(aD:k.wrap (p*2^q.toNat)=r)(ag:cb ak x=some (.int k p))(ah:cb ak y=some (.int z q))(bn:0<=q)(h1:q<=k.bits):
 bU P F n (.binOp .shl t x y dh) bC ak I (.int k r):=λa w d pos N g aj _=>by
 simp only[execOp,aj.eval ag,aj.eval ah];simp[eqGuard,binOp_shl,shift_shl k z p q bn h1,aD]
theorem H4(aD:p/2^q.toNat=r)(ag:cb ak x=some (.int k p))(ah:cb ak y=some (.int z q))(bn:0<=q)(h1:q<=k.bits):
 bU P F n (.binOp .shr t x y dh) bC ak I (.int k r):=λa w d pos N g aj _=>by
 simp only[execOp,aj.eval ag,aj.eval ah];simp[eqGuard,binOp_shr,shift_shr k z p q bn h1,aD]
def DT{z:Type}{f:α->z}{l:List α}{i:Nat}{x:α}(h:l[i]?=some x):(l.map f)[i]?=some (f x):=by simp[h]
def CX(L:List α)(i j:Nat)(x d:α)(h:i<L.length):(L.set i x).getD j d=if j=i then x else L.getD j d:=by
 simp only[je,List.getElem?_set];by_cases e:i=j
 . subst e;simp[h]
 . rw[a6 e,a6 (Ne.symm e)]
def Bg(s n:Nat):(s:Int).tmod n=((s%n:Nat):Int):=by rw[VM ae];exact(Int.natCast_emod s n).symm
end
inductive iW
 |nil
 |loc(i:Nat)(r:iW)
 |bJ(i:Nat)(r:iW)
 |c0(i:Nat)(r d:iW)
def iW.L0:iW->List Nat
 |.c0 i _ d=>i::d.L0
 |_=>[]
section
variable{P:Program}{E:Array Oper}{cX R:List Nat}{M:Act->World->Prop}{C:World->Prop}
def mG(E:Array Oper)(c cX R:List Nat):iW->Bool->Array Bool->Bool
 |.nil,false,D=>(Region.ready .any E D).isEmpty
 |.nil,true,_=>true
 |.loc i r,false,D=>(Region.ready .any E D).contains i&&Region.free .any E D i&&!cX.contains i&&cX.all (λe=>D.getD e false||(c.getD e 0).testBit i)&&mG E c cX R r false (D.setIfInBounds i true)
 |.bJ i r,false,D=>(Region.ready .any E D).contains i&&Region.free .any E D i&&!cX.contains i&&cX.all (λe=>R.contains e||(D.getD e false||(c.getD e 0).testBit i))&&mG E c cX R r false (D.setIfInBounds i true)
 |.c0 i r d,b,D=>(b||decide (Region.ready .any E D=i::d.L0))&&cX.contains i&&mG E c cX R r false (D.setIfInBounds i true)&&mG E c cX R d true D
 |_,true,_=>false
def iW.depth:iW->Nat->Bool
 |.nil,n=>Nat.beq n 0
 |.loc _ r,n=>match n with|0=>false|n+1=>r.depth n
 |.bJ _ r,n=>match n with|0=>false|n+1=>r.depth n
 |
  .c0 _ r d,n=>match n with
  |0=>false
  |m+1=>r.depth m&&(match d with|.nil=>true|_=>d.depth (m+1))
def FT(l:List Oper)(cX R:List Nat)(t:iW):Bool:=
 Region.noSelect l.toArray&&t.depth l.length&&mG l.toArray (k7 l []) cX R t false (Array.replicate l.length false)
def x2(P:Program)(E:Array Oper)(R:List Nat)(C:World->Prop)(i:Nat)(K:Act->World->Prop)(a:Act)(w:World):Prop:=
 match E[i]?with
 |none=>False
 |some o=>if Region.wanted o (yielded E a.tmps)then o.wp P a w (λaE X=>(i∈R->C X)/\K aE X) HO else K (a.put o.dst undef) w
def nY(P:Program)(E:Array Oper)(M:Act->World->Prop)(R:List Nat)(C:World->Prop):iW->Bool->Act->World->Prop
 |.nil,false,a,w=>M a w
 |.nil,true,_,_=>True
 |
  .loc i r,_,a,w=>match E[i]?with
  |none=>False
  |some o=>if Region.wanted o (yielded E a.tmps)then∃v,(execOp a.eval o).run P w=.ok (.value v) w/\nY P E M R C r false (a.put o.dst v) w else nY P E M R C r false (a.put o.dst undef) w
 |
  .bJ i r,_,a,w=>match E[i]?with
  |none=>False
  |some o=>if Region.wanted o (yielded E a.tmps)then C w/\∃v,(∀w,C w->(execOp a.eval o).run P w=.ok (.value v) w)/\nY P E M R C r false (a.put o.dst v) w else nY P E M R C r false (a.put o.dst undef) w
 |.c0 i r d,_,a,w=>x2 P E R C i (nY P E M R C r false) a w/\nY P E M R C d true a w
def ak4{i:Nat}{K fq:Act->World->Prop}{a:Act}{w:World}(g2:i∈cX)(h:x2 P E R C i K a w)(hk:∀a w,K a w->fq a w):od P E cX R C i fq a w:=by
 unfold x2 at h;unfold od;cases aJ:E[i]?with
 |none=>rw[aJ]at h;exact h.elim
 |
  some o=>
  rw[aJ]at h;simp only at h⊢;by_cases O:Region.wanted o (yielded E a.tmps)=true
  . rw[bg O]at h⊢;rw[bg g2]
    exact Oper.wp_mono (λaE X co=>⟨co.1,hk _ _ co.2⟩) h
  . rw[a6 O]at h⊢;exact hk _ _ h
def ak5{l:List Oper}:∀(t:iW) (D:Array Bool) (a:Act) (w:World),mG l.toArray (k7 l []) cX R t true D=true->nY P l.toArray M R C t true a w->
 ∀i∈t.L0,∃r,i∈cX/\mG l.toArray (k7 l []) cX R r false (D.setIfInBounds i true)=true/\x2 P l.toArray R C i (nY P l.toArray M R C r false) a w/\∀n,(match t with|.nil=>true|_=>t.depth (n+1))=true->r.depth n=true
 |.nil,_,_,_,_,_=>by intro i al;cases al
 |.loc _ _,_,_,_,h,_=>by simp[mG]at h
 |.bJ _ _,_,_,_,h,_=>by simp[mG]at h
 |
  .c0 j r d,D,a,w,h,O=>by
  simp only[mG,mn,lV,iy]at h;obtain⟨⟨h1,h2⟩,aH⟩:=h;obtain⟨aG,a7⟩:=O;intro i al;rcases kf.1 al with rfl|al
  . exact⟨r,by simpa using h1,h2,aG,λn aQ=>by simp only[iW.depth,iy]at aQ;exact aQ.1⟩
  . obtain⟨S,cI,cd,ia,eB⟩:=ak5 d D a w aH a7 i al
    exact⟨S,cI,cd,ia,λn aQ=>eB n (by simp only[iW.depth,iy]at aQ;cases d<;>first|rfl|exact aQ.2)⟩
def CF{l:List Oper}(aj:Region.noSelect l.toArray=true):∀(n:Nat) (t:iW) (D:Array Bool) (a:Act) (w:World),t.depth n=true->tC l.toArray D->mG l.toArray (k7 l []) cX R t false D=true->
 nY P l.toArray M R C t false a w->w1 P l.toArray cX R M C n D a w
 |
  n,.nil,D,a,w,aQ,_,cc,h=>by
  have:n=0:=lr aQ;subst this;exact⟨by simpa[mG]using cc,h⟩
 |0,.loc _ _,_,_,_,aQ,_,_,_=>by simp[iW.depth]at aQ
 |0,.bJ _ _,_,_,_,aQ,_,_,_=>by simp[iW.depth]at aQ
 |0,.c0 _ _ _,_,_,_,aQ,_,_,_=>by simp[iW.depth]at aQ
 |
  n+1,.loc i r,D,a,w,aQ,a2,cc,h=>by
  have aQ:r.depth n=true:=aQ;simp only[nY]at h;cases aJ:l.toArray[i]?with
  |none=>rw[aJ]at h;exact h.elim
  |
   some o=>
   simp only[aJ]at h;simp only[mG,iy]at cc;obtain⟨⟨⟨⟨aD,a8⟩,g2⟩,p⟩,b⟩:=cc;have c:i∈Region.ready .any l.toArray D:=HR;have i6:i∉cX:=A7;have g:∀e∈cX,D.getD e false=true\/((k7 l []).getD e 0).testBit i=true:=HS;have fin:∀v,po P l.toArray (λX=>X=w) o v a->nY P l.toArray M R C r false (a.put o.dst v) w->w1 P l.toArray cX R M C (n+1) D a w:=λv ah cL=>
    A6 (z:=λX=>X=w) aJ i6 (Region.noSelect_spec aj) (λf=>tC l.toArray f/\∀e∈cX,f.getD e false=true\/((k7 l []).getD e 0).testBit i=true)
     (λf j bM _ J=>⟨bM.1.set J,λe Y=>(bM.2 e Y).imp (λh=>getD_set_true h) id⟩)
     (fun f j bM d7 J Y X _ => by
      exfalso;rcases bM.2 j Y with h1|h1
      . have h2:=(mem_ready.1 J).1;rw[u1 h2]at h1;cases h1
      . exact(HQ bM.1 (u1 d7) j h1).2 J)
     n D a w ⟨a2,g⟩ rfl (Region.free_spec aJ a8) c ah (CF aj n r _ _ _ aQ (a2.set c) b cL)
   by_cases O:Region.wanted o (yielded l.toArray a.tmps)=true
   . rw[bg O]at h
     obtain⟨v,V,cL⟩:=h;exact fin v (.inl ⟨O,λX e=>by subst e;exact V⟩) cL
   . rw[a6 O]at h
     exact fin undef (.inr ⟨by simpa using O,rfl⟩) h
 |
  n+1,.bJ i r,D,a,w,aQ,a2,cc,h=>by
  have aQ:r.depth n=true:=aQ;simp only[nY]at h;cases aJ:l.toArray[i]?with
  |none=>rw[aJ]at h;exact h.elim
  |
   some o=>
   simp only[aJ]at h;simp only[mG,iy]at cc;obtain⟨⟨⟨⟨aD,a8⟩,g2⟩,p⟩,b⟩:=cc;have c:i∈Region.ready .any l.toArray D:=HR;have i6:i∉cX:=A7;have g:∀e∈cX,e∈R\/D.getD e false=true\/((k7 l []).getD e 0).testBit i=true:=HS;by_cases O:Region.wanted o (yielded l.toArray a.tmps)=true
   . rw[bg O]at h
     obtain⟨N,v,V,cL⟩:=h;exact A6 (z:=C) aJ i6 (Region.noSelect_spec aj) (λf=>tC l.toArray f/\∀e∈cX,e∈R\/f.getD e false=true\/((k7 l []).getD e 0).testBit i=true)
      (λf j bM _ J=>⟨bM.1.set J,λe Y=>(bM.2 e Y).imp id (λh=>h.imp (λh=>getD_set_true h) id)⟩)
      (fun f j bM d7 J Y X q => by
       rcases bM.2 j Y with h1|h1|h1
       . exact q h1
       . exfalso;have h2:=(mem_ready.1 J).1;rw[u1 h2]at h1;cases h1
       . exfalso;exact(HQ bM.1 (u1 d7) j h1).2 J)
      n D a w ⟨a2,g⟩ N (Region.free_spec aJ a8) c (.inl ⟨O,V⟩) (CF aj n r _ _ _ aQ (a2.set c) b cL)
   . rw[a6 O]at h
     exact A6 (z:=λ_=>True) aJ i6 (Region.noSelect_spec aj) (λ_=>True) (λ_ _ _ _ _=>trivial) (λ_ _ _ _ _ _ _ _=>trivial)
      n D a w trivial trivial (Region.free_spec aJ a8) c (.inr ⟨by simpa using O,rfl⟩) (CF aj n r _ _ _ aQ (a2.set c) b h)
 |
  n+1,.c0 i r d,D,a,w,aQ,a2,cc,h=>by
  simp only[mG,lW,iy,ln]at cc;obtain⟨⟨⟨aD,g2⟩,b⟩,B⟩:=cc;simp only[iW.depth,iy]at aQ;refine⟨λbn=>(by rw[bn]at aD;cases aD),λj J=>?_⟩;obtain⟨aG,a7⟩:=h;have I:=J;rw[aD]at I;rcases kf.1 I with rfl|pm
  . exact ak4 A7 aG λaE X co=>CF aj n r _ _ _ aQ.1 (a2.set J) b co
  . obtain⟨S,cI,cd,ia,eB⟩:=ak5 d D a w B a7 j pm
    exact ak4 cI ia λaE X co=>CF aj n S _ _ _ (eB n (by cases d<;>first|rfl|exact aQ.2)) (a2.set J) cd co
theorem aBJ{id:Nat}{Q:Exit->Act->World->Prop}{a:Act}{w:World}{l:List Oper}(cX R:List Nat)(t:iW)(C:World->Prop)(bb:P.follows .mixedOrders=true)(cc:FT l cX R t=true)
 (h:nY P l.toArray (Q .normal) R C t false a {w with drawn:=w.drawn+1}):(Code.region id l.toArray true).wp P Q a w:=by
 simp only[FT,iy]at cc;obtain⟨⟨aj,aw⟩,b⟩:=cc;refine wp_region_any bb ?_;have:=HP (Q:=Q) (M:=Q .normal) (λ_ _ h=>h) _ _ _ _ (CF aj l.length t _ a _ aw NZ b h);simpa using this
variable{F:World}{n:Nat}{ak:eA}{I H J:List aq}{Q:Exit->Act->World->Prop}{op:Op}{bC:TypeId}{pos:String}{N:Array Edge}{g:Option (Nat×Bool)}{i:Nat}{t u:iW}{b:Bool}
section
variable(o:Oper){a id:Nat}{r:eA}{v:Value}{d:Nat}{p:Value->List aq->Prop}{l:List Oper}{m:Nat}{D:Array Bool}
def GT(P:Program)(F:World)(n:Nat)(E:Array Oper)(R:List Nat)(t:iW)(b:Bool)(ak:eA)(I J:List aq)(M:Act->World->Prop):Prop:=
 ∀a w,hd n ak a->db F I w->nY P E M R (db F J) t b a w
def hj{j z:Nat}{c:Bool}(a:(E[j]?).bind (·.dst)=some z)(d:gL ak z=some (.bool c))(h1:c=true->GT P F n E R t b ak I J M)(h2:c=false->GT P F n E R t b ak I J M):GT P F n E R t b ak I J M:=by
 cases c;exact h2 rfl;exact h1 rfl
def aBK(h:GE F n ak I M):GT P F n E R .nil false ak I J M:=h
def CG(f:∀h,Sat I h->Sat H h)(h:GT P F n E R t b ak H J M):GT P F n E R t b ak I J M:=λa w aj s=>h a w aj (s.imp f)
def e8(h:GT P F n E R (.c0 i t .nil) b ak I J M)(h2:GT P F n E R u true ak I J M):GT P F n E R (.c0 i t u) b ak I J M:=λa w aj s=>⟨(h a w aj s).1,h2 a w aj s⟩
def tk(aJ:E[i]?=some rE)(O:hV E ak g true)(aQ:Nat.blt d n=true)(V:bU P F n op bC ak I v)(h:GT P F n E R t false oN I J M):GT P F n E R (.loc i t) b ak I J M:=
 λa w aj s=>by
  simp only[nY,aJ,hV.wanted (o:=⟨some d,op,bC,pos,N,g⟩) O aj,fk];exact⟨v,V _ _ _ _ _ _ aj s,h _ _ ry s⟩
def jJ(aJ:E[i]?=some rE)(O:hV E ak g true)(aQ:Nat.blt d n=true)(V:bU P F n op bC ak J v)(a2:∀h,Sat I h->Sat J h)(h:GT P F n E R t false oN I J M):GT P F n E R (.bJ i t) b ak I J M:=
 λa w aj s=>by
  simp only[nY,aJ,hV.wanted (o:=⟨some d,op,bC,pos,N,g⟩) O aj,fk];exact⟨s.imp a2,v,λX aY=>V _ _ _ _ _ _ aj aY,h _ _ ry s⟩
def aBL(aJ:E[i]?=some rE)(O:hV E ak g false)(aQ:Nat.blt d n=true)(h:GT P F n E R t false AP I J M):GT P F n E R (.loc i t) b ak I J M:=
 λa w aj s=>by
  simp only[nY,aJ,hV.wanted (o:=⟨some d,op,bC,pos,N,g⟩) O aj,eH,eo];exact h _ _ yy s
def aBM(aJ:E[i]?=some rE)(O:hV E ak g false)(aQ:Nat.blt d n=true)(h:GT P F n E R t false AP I J M):GT P F n E R (.bJ i t) b ak I J M:=
 λa w aj s=>by
  simp only[nY,aJ,hV.wanted (o:=⟨some d,op,bC,pos,N,g⟩) O aj,eH,eo];exact h _ _ yy s
def aBN(aJ:E[i]?=some rE)(O:hV E ak g false)(aQ:Nat.blt d n=true)(h:GT P F n E R t false AP I J M):GT P F n E R (.c0 i t .nil) b ak I J M:=
 λa w aj s=>by
  refine⟨?_,trivial⟩;simp only[x2,aJ,hV.wanted (o:=⟨some d,op,bC,pos,N,g⟩) O aj,eH,eo];exact h _ _ yy s
def aBO(aJ:E[i]?=some Me)(O:hV E ak g true)(V:c6 P F n op bC ak I H)(a2:i∈R->∀h,Sat H h->Sat J h)(h:GT P F n E R t false ak H J M):GT P F n E R (.c0 i t .nil) b ak I J M:=
 λa w aj s=>by
  refine⟨?_,trivial⟩;obtain⟨X,aD,aY⟩:=V a w none pos N g aj s;simp only[x2,aJ,hV.wanted (o:=⟨none,op,bC,pos,N,g⟩) O aj,fk,Oper.wp,aD,Oper.upon];exact⟨λC=>aY.imp (a2 C),h _ _ aj aY⟩
def yl(aJ:E[i]?=some rE)(O:hV E ak g true)(aQ:Nat.blt d n=true)(V:cY P F n op bC ak I p)(h:∀v H,p v H->CT/\GT P F n E R t false oN H J M):GT P F n E R (.c0 i t .nil) b ak I J M:=
 λa w aj s=>by
  refine⟨?_,trivial⟩;obtain⟨v,H,X,aD,hp,aY⟩:=V a w (some d) pos N g aj s;simp only[x2,aJ,hV.wanted (o:=⟨some d,op,bC,pos,N,g⟩) O aj,fk,Oper.wp,aD,Oper.upon];exact⟨λC=>aY.imp CU,(h v H hp).2 _ _ ry aY⟩
def pR(aJ:E[i]?=some rE)(O:hV E ak g true)(aQ:Nat.blt d n=true)(V:dc P F n op bC ak I p)(h:∀v H,p v H->CT/\GT P F n E R t false oN H J M):GT P F n E R (.c0 i t .nil) b ak I J M:=
 λa w aj s=>by
  refine⟨?_,trivial⟩;obtain⟨f,args,aD,g6⟩:=V a w (some d) pos N g aj s;simp only[x2,aJ,hV.wanted (o:=⟨some d,op,bC,pos,N,g⟩) O aj,fk,Oper.wp,aD,Oper.upon];exact g6.mono λe X ⟨v,H,Y,hp,aY⟩=>by subst Y;exact⟨λC=>aY.imp CU,(h v H hp).2 _ _ ry aY⟩
def hn(ak c:eA):Prop:=∀t v,gL ak t=some v->gL c t=some v
def hn.refl(ak:eA):hn ak ak:=λ_ _ h=>h
def hn.push{ak c:eA}{k:Nat}{v:Value}(h:hn ak c)(a8:gL ak k=none):hn ak ((k,v)::c):=λt u e=>by
 simp only[gL];cases az:Nat.beq k t with
 |true=>have:=lr az;subst this;rw[a8]at e;cases e
 |false=>simpa using h t u e
def hn.dE{ak c:eA}{d:Nat}{v:Value}(h:hn ak c)(V:gL c d=some v):hn oN c:=λt u e=>by
 simp only[gL]at e;cases az:Nat.beq d t with
 |true=>rw[az]at e;have:=lr az;subst this;simp at e;subst e;exact V
 |false=>rw[az]at e;exact h t u (by simpa using e)
def hd.alw{a:Act}(h:hd n ak a)(k:hn r ak):hd n r a:=⟨h.size,h.defers,λ_ _ e=>h.val _ _ (k _ _ e)⟩
def aBP{u:iW}(t:iW)(v:Value)(k:GT P F n E R t false oN I J M)(h:(∀c,hn ((d,v)::ak) c->GT P F n E R t false c I J M)->GT P F n E R u b ak I J M):GT P F n E R u b ak I J M:=
 h λ_ hk a w aj s=>k a w (aj.alw hk) s
def mN(m:Nat)(v:Value)(k:cz P F n E (l.drop m) oN I Q)(h:(∀c,hn ((d,v)::ak) c->cz P F n E (l.drop m) c I Q)->cz P F n E l ak I Q):cz P F n E l ak I Q:=
 h λ_ hk a w aj s=>k a w (aj.alw hk) s
def qo(k:bd r ak)(h:GT P F n E R t b r I J M):GT P F n E R t b ak I J M:=λa w aj s=>h a w (aj.jM k) s
def mr{a b:Bool}(h:a=b):some (Value.bool a)=some (Value.bool b):=by rw[h]
theorem aBQ(cX R:List Nat)(t:iW)(J:List aq)(bb:P.follows .mixedOrders=true)(cc:FT l cX R t=true)
 (h:GT P F n l.toArray R t false ak I J (Q .normal)):G P F n HT ak I Q:=
 λa w aj s=>aBJ cX R t _ bb cc (h a _ aj s.drew)
structure q7 where
 dA:Nat
 CH:Nat
 LN:Nat
 an:Nat
def BG:Nat:=match o.dst with
 |some d=>2^d
 |none=>0
def vk:List Nat->Nat
 |[]=>0
 |t::r=>2^t|||vk r
def zc:Nat:=vk ((o.after.toList.filter λe=>Region.binds .any e).map (·.on))
def tc(E:Array Oper):List Oper->List Nat->List q7
 |[],_=>[]
 |o::r,[]=>⟨BG o,vk (o.looksAt E),zc o,0⟩::tc E r []
 |o::r,a::as=>⟨BG o,vk (o.looksAt E),zc o,a⟩::tc E r as
def rowsOf(l:List Oper):List q7:=tc l.toArray l (k7 l [])
def zX(r:q7)(m j:Nat):Bool:=!m.testBit j&&Nat.beq (r.LN&&&m) r.LN
def zY(m:Nat):List q7->Nat->List Nat
 |[],_=>[]
 |r::a,j=>cond (zX r m j) (j::zY m a (j+1)) (zY m a (j+1))
def CI(iq:q7)(m i:Nat):List q7->Nat->Bool
 |[],_=>true
 |r::a,j=>(Nat.beq j i||(m.testBit j||(r.LN.testBit i||(Nat.beq (iq.dA&&&r.CH) 0&&(Nat.beq (iq.dA&&&r.dA) 0&&Nat.beq (r.dA&&&iq.CH) 0)))))&&CI iq m i a (j+1)
def rY(a:List q7)(cX R:List Nat):iW->Bool->Nat->Bool
 |.nil,false,m=>(zY m a 0).isEmpty
 |.nil,true,_=>true
 |.loc i r,false,m=>(match a[i]?with|some iq=>zX iq m i&&CI iq m i a 0|none=>false)&&!cX.contains i&&cX.all (λe=>m.testBit e||(match a[e]?with|some c=>c.an.testBit i|none=>false))&&rY a cX R r false (m|||2^i)
 |.bJ i r,false,m=>(match a[i]?with|some iq=>zX iq m i&&CI iq m i a 0|none=>false)&&!cX.contains i&&cX.all (λe=>R.contains e||(m.testBit e||(match a[e]?with|some c=>c.an.testBit i|none=>false)))&&rY a cX R r false (m|||2^i)
 |.c0 i r d,b,m=>(b||decide (zY m a 0=i::d.L0))&&cX.contains i&&(match a[i]?with|some iq=>zX iq m i|none=>false)&&rY a cX R r false (m|||2^i)&&rY a cX R d true m
 |_,true,_=>false
def LO(l:List Oper)(cX R:List Nat)(t:iW):Bool:=
 Region.noSelect l.toArray&&t.depth l.length&&rY (rowsOf l) cX R t false 0
def LP{i:Nat}:∀(l:List Nat),(vk l).testBit i=true↔i∈l
 |[]=>by simp[vk]
 |
  t::r=>by
  rw[vk,NY,XU,tD,LP r,kf,ln];constructor
  . rintro(h|h);exact .inl h.symm;exact .inr h
  . rintro(h|h);exact .inl h.symm;exact .inr h
def TV{o:Oper}{i:Nat}:(zc o).testBit i=true↔∃e∈o.after,Region.binds .any e=true/\e.on=i:=by
 unfold zc;rw[LP];simp[jS,oO,and_assoc]
def aBR(h:Nat.beq (a&&&m) a=true){i:Nat}(aP:a.testBit i=true):m.testBit i=true:=by
 have q:=lr h;rw[<-q,ak6,iy]at aP;exact aP.2
def TW{b:Nat}(h:Nat.beq (a&&&b) 0=true){i:Nat}(aP:a.testBit i=true):b.testBit i=false:=by
 have q:=lr h;have:=congrArg (λn=>n.testBit i) q;simp[ak6,aP]at this;exact this
def aBS(h:∀i,a.testBit i=true->m.testBit i=true):Nat.beq (a&&&m) a=true:=by
 have:a&&&m=a:=Nat.eq_of_testBit_eq λi=>by
  rw[ak6];cases aP:a.testBit i with
  |false=>rfl
  |true=>rw[h i aP];rfl
 rw[this];exact Wi _
def LQ(E:Array Oper):∀(l:List Oper) (as:List Nat) (i:Nat) (r:q7),(tc E l as)[i]?=some r↔∃o,l[i]?=some o/\r=⟨BG o,vk (o.looksAt E),zc o,as.getD i 0⟩
 |[],_,i,r=>by simp[tc]
 |o::l,[],0,r=>by simp[tc,eq_comm]
 |o::l,a::as,0,r=>by simp[tc,eq_comm]
 |o::l,[],i+1,r=>by simp only[tc,H3];rw[LQ E l [] i r];simp
 |o::l,a::as,i+1,r=>by simp only[tc,H3];rw[LQ E l as i r];simp
def zZ{i:Nat}{r:q7}(h:(rowsOf l)[i]?=some r):∃o,l[i]?=some o/\r=acj:=(LQ _ _ _ _ _).1 h
def aBT{i:Nat}{o:Oper}(h:l[i]?=some o):(rowsOf l)[i]?=some acj:=(LQ _ _ _ _ _).2 ⟨o,h,rfl⟩
structure vT(l:List Oper)(m:Nat)(D:Array Bool):Prop where
 size:D.size=l.length
 bit:∀j,D.getD j false=m.testBit j
def vT.get(h:vT l m D){j:Nat}(J:j<l.length):D.getD j true=m.testBit j:=by
 rw[<-h.bit j];have:j<D.size:=by rw[h.size];exact J
 simp[Dr,this]
def vT.set(h:vT l m D){i:Nat}(al:i<l.length):vT l (m|||2^i) (D.setIfInBounds i true):=by
 refine⟨by rw[Array.size_setIfInBounds];exact h.size,λj=>?_⟩;rw[NY,XU,<-h.bit j];have aj:i<D.size:=by rw[h.size];exact al
 by_cases g1:i=j
 . subst g1;simp[Dr,M7,aj]
 . simp[Dr,M7,g1]
def TX(h:vT l m D){i:Nat}{o:Oper}(aJ:l[i]?=some o)(CH an dA:Nat):zX ⟨dA,CH,zc o,an⟩ m i=true↔i∈Region.ready .any l.toArray D:=by
 have al:=(dd.1 aJ).1;rw[mem_ready,h.get al];unfold zX;rw[iy,BU];refine and_congr_right λ_=>⟨λh2=>⟨o,by simpa using aJ,λe Y az=>?_⟩,fun⟨S,b,p⟩=>aBS λj J=>?_⟩
 . rw[h.bit];exact aBR h2 (TV.2 ⟨e,Y,az,rfl⟩)
 . have:S=o:=by
    have a:l[i]?=some S:=by simpa using b
    exact oe (a.symm.trans aJ)
   subst this;obtain⟨e,Y,az,rfl⟩:=TV.1 J;rw[<-h.bit];exact p e Y az
def ak7{m:Nat}{p:Nat->Bool}:∀(a:List q7) (k:Nat),(∀j r,a[j]?=some r->zX r m (k+j)=p (k+j))->zY m a k=(List.range' k a.length).filter p
 |[],_,_=>rfl
 |
  r::a,k,h=>by
  have bn:=h 0 r rfl;have L:=ak7 a (k+1) (λj r J=>by have:=h (j+1) r DP;rwa[show k+(j+1)=k+1+j by omega]at this);simp only[DO]at bn;rw[zY,iY,List.range'_succ,OG,bn,L];cases p k<;>rfl
def ak8(h:vT l m D):zY m (rowsOf l) 0=Region.ready .any l.toArray D:=by
 have aw:(rowsOf l).length=l.length:=by
  have key:∀(E:Array Oper) (l:List Oper) (as:List Nat),(tc E l as).length=l.length:=by
   intro E l
   induction l with
   |nil=>intro as;rfl
   |cons o l L=>intro as;cases as<;>simp[tc,L]
  exact key _ _ _
 have aD:Region.ready .any l.toArray D=(List.range l.toArray.size).filter (λi=>!D.getD i true&&((l.toArray[i]?).map (·.after.all λe=>!Region.binds .any e||D.getD e.on false)).getD false):=rfl;rw[aD,List.range_eq_range',ak7 (rowsOf l) 0 (p:=λi=>!D.getD i true&&((l.toArray[i]?).map (·.after.all λe=>!Region.binds .any e||D.getD e.on false)).getD false),aw,yg];intro j r J;obtain⟨o,aJ,rfl⟩:=zZ J;rw[kR,pb,TX h aJ,aD,oO,p4];have:=(dd.1 aJ).1;simp[this]
def ak9{m i:Nat}{iq:q7}:∀(a:List q7) (k:Nat),CI iq m i a k=true->∀j r,a[j]?=some r->(k+j=i\/m.testBit (k+j)=true\/r.LN.testBit i=true\/(Nat.beq (iq.dA&&&r.CH) 0=true/\Nat.beq (iq.dA&&&r.dA) 0=true/\Nat.beq (r.dA&&&iq.CH) 0=true))
 |[],_,_,j,r,J=>by simp at J
 |
  L::a,k,h,j,r,J=>by
  simp only[CI,iy,tD]at h;cases j with
  |
   zero=>
   simp at J;subst J;rcases h.1 with h1|h1|h1|h1
   . exact .inl (by rw[DO];exact lr h1)
   . exact .inr (.inl h1)
   . exact .inr (.inr (.inl h1))
   . exact .inr (.inr (.inr ⟨h1.1,h1.2.1,h1.2.2⟩))
  |
   succ j=>
   have:=ak9 a (k+1) h.2 j r DP;rwa[show k+1+j=k+(j+1) by omega]at this
def ala(h:vT l m D){i:Nat}{iq:q7}(al:(rowsOf l)[i]?=some iq)(a8:CI iq m i (rowsOf l) 0=true):Region.free .any l.toArray D i=true:=by
 obtain⟨H,k,rfl⟩:=zZ al;have a:l.toArray[i]?=some H:=by simpa using k
 unfold Region.free;simp only[a,pN,p4];intro j J;have v:j<l.length:=DP;obtain⟨g,n⟩:∃g,l[j]?=some g:=⟨_,cq v⟩;have b:l.toArray[j]?=some g:=by simpa using n
 have:=ak9 _ _ a8 j _ (aBT n);rw[kR]at this;simp only[b,tD,beq_iff_eq];rcases this with h1|h1|h1|⟨h1,h2,aH⟩
 . exact .inl (.inl h1)
 . exact .inl (.inr (by rw[h.get v];exact h1))
 . obtain⟨e,Y,az,q⟩:=TV.1 h1
   exact .inr (.inl (by rw[Array.any_eq_true'];exact⟨e,Y,by simp[az,q]⟩))
 . refine .inr (.inr ?_)
   unfold Oper.apart;have cm:∀(o:Oper) d,o.dst=some d->(BG o).testBit d=true:=λo d aQ=>by unfold BG;rw[aQ];simp
   rw[iy];constructor
   . cases aQ:H.dst with
     |none=>rfl
     |
      some d=>
      simp only[iy,BU,bne_iff_ne];have az:=cm H d aQ;constructor
      . have:=TW h1 az
        cases a2:(g.looksAt l.toArray).contains d with
        |false=>rfl
        |true=>rw[(LP _).2 (by simpa using a2)]at this;cases this
      . intro f
        have:=TW h2 az;rw[cm g d f]at this;cases this
   . cases aQ:g.dst with
     |none=>rfl
     |
      some d=>
      simp only[BU];have:=TW aH (cm g d aQ);cases a2:(H.looksAt l.toArray).contains d with
      |false=>rfl
      |true=>rw[(LP _).2 (by simpa using a2)]at this;cases this
theorem FU{l:List Oper}{cX R:List Nat}:∀(t:iW) (b:Bool) (m:Nat) (D:Array Bool),vT l m D->rY (rowsOf l) cX R t b m=true->mG l.toArray (k7 l []) cX R t b D=true
 |
  .nil,false,m,D,h,hk=>by
  simp only[rY]at hk;simp only[mG];rw[<-ak8 h];exact hk
 |.nil,true,_,_,_,_=>rfl
 |.loc i r,true,_,_,_,hk=>by simp[rY]at hk
 |.bJ i r,true,_,_,_,hk=>by simp[rY]at hk
 |
  .loc i r,false,m,D,h,hk=>by
  simp only[rY,iy]at hk;obtain⟨⟨⟨h1,h2⟩,aH⟩,bm⟩:=hk;cases al:(rowsOf l)[i]?with
  |none=>rw[al]at h1;cases h1
  |
   some iq=>
   rw[al]at h1;simp only[iy]at h1;obtain⟨H,k,M⟩:=zZ al;have d5:=(dd.1 k).1;simp only[mG,iy];refine⟨⟨⟨⟨?_,ala h al h1.2⟩,h2⟩,?_⟩,FU r false _ _ (h.set d5) bm⟩
   . rw[M]at h1;simpa using(TX h k _ _ _).1 h1.1
   . rw[pN]at aH⊢
     intro e Y;have:=aH e Y;rw[tD]at this⊢;rw[h.bit];refine this.imp id λdk=>?_;cases a:(rowsOf l)[e]?with
     |none=>rw[a]at dk;cases dk
     |some c=>rw[a]at dk;obtain⟨g,_,rfl⟩:=zZ a;exact dk
 |
  .bJ i r,false,m,D,h,hk=>by
  simp only[rY,iy]at hk;obtain⟨⟨⟨h1,h2⟩,aH⟩,bm⟩:=hk;cases al:(rowsOf l)[i]?with
  |none=>rw[al]at h1;cases h1
  |
   some iq=>
   rw[al]at h1;simp only[iy]at h1;obtain⟨H,k,M⟩:=zZ al;have d5:=(dd.1 k).1;simp only[mG,iy];refine⟨⟨⟨⟨?_,ala h al h1.2⟩,h2⟩,?_⟩,FU r false _ _ (h.set d5) bm⟩
   . rw[M]at h1;simpa using(TX h k _ _ _).1 h1.1
   . rw[pN]at aH⊢
     intro e Y;have:=aH e Y;rw[tD,tD]at this⊢;rw[h.bit];refine this.imp id λg0=>g0.imp id λdk=>?_;cases a:(rowsOf l)[e]?with
     |none=>rw[a]at dk;cases dk
     |some c=>rw[a]at dk;obtain⟨g,_,rfl⟩:=zZ a;exact dk
 |
  .c0 i r d,b,m,D,h,hk=>by
  simp only[rY,iy]at hk;obtain⟨⟨⟨⟨h1,h2⟩,aH⟩,bm⟩,dk⟩:=hk;cases al:(rowsOf l)[i]?with
  |none=>rw[al]at aH;cases aH
  |
   some iq=>
   obtain⟨H,k,M⟩:=zZ al;have d5:=(dd.1 k).1;simp only[mG,iy];exact⟨⟨⟨by rw[<-ak8 h];exact h1,h2⟩,FU r false _ _ (h.set d5) bm⟩,FU d true _ _ h dk⟩
def aBU{cX R:List Nat}{t:iW}(h:LO l cX R t=true):FT l cX R t=true:=by
 simp only[LO,iy]at h;simp only[FT,iy];exact⟨h.1,FU t false 0 _ ⟨by simp,λj=>by simp[Dr,Array.getElem?_replicate];split<;>rfl⟩ h.2⟩
theorem aBV(cX R:List Nat)(t:iW)(J:List aq)(bb:P.follows .mixedOrders=true)(cc:LO l cX R t=true)
 (h:GT P F n l.toArray R t false ak I J (Q .normal)):G P F n HT ak I Q:=aBQ cX R t J bb (aBU cc) h
end
end
class k6(P:Program)(t:TypeId)(name:String)(f:outParam FuncId):Prop where
 out:∀v w,(method (P.types.size+Made.depth) t v name).run P w=.ok (f,v) w
section
variable{P:Program}{F w:World}{n:Nat}{ak:eA}{I:List aq}{bC:TypeId}
section
variable{t e aT:Nat}{x y:Operand}{a:Option Addr}{l c i:Nat}{d6:IntKind}
theorem wU{t:TypeId}{name:String}{f:FuncId}{x:Operand}{v:Value}{xs:List Operand}{z:Array TypeId}{M:List Value}{pre D:List aq}{post:Value->List aq->Prop}[m:k6 P t name f](V:cb ak x=some (.iface t v))(ag:tz ak xs=some M)(a8:ad P f (v::M) pre post)(hp:Part pre I D)(fD:eU P f:=by exact e7):
 dc P F n Yq bC ak I H6:=λa w d pos N g aj s=>by
 refine⟨f,(v::M).toArray,?_,?_⟩
 . simp only[execOp,resolve,oP,aj.z6 ag,aj.eval V]
   have aB:=m.out v w;simp[invoke,callMethod,run_program]at aB⊢;rw[aB];simpa using H7 (P:=P) (f:=f) (v::M).toArray w
 . exact(a8 F D w DU).mono λe X ⟨v,L,Y,bo,aY⟩=>⟨v,_,Y,⟨L,bo,rfl⟩,aY⟩
instance(priority:=low) iX.litOff{b bv n C:Nat}{e:TypeId}{xs:List Value}{r:List aq}:iX (.slice (some rb) n C) (ab b e xs::r) n (xs.drop bv)where
 get:=fun⟨_,_,_,aB,aP,_⟩=>aB▸.inr ⟨b,bv,none,C,rfl,λ_=>rfl,λj x ag=>⟨rfl,xs.toArray,e,(0,0),join_some aP,by rw[Ma]at ag;simpa using ag⟩⟩
def DV{t e aT l c:Nat}{a:Option Addr}[i:jy P t e aT](h:cb ak x=some (.slice a l c)):bU P F n Oi bC ak I (.int .i64 l):=λaE w d pos N g aj s=>by
 obtain⟨z,h1,h2,aH⟩:=i.out;simp only[execOp,resolve,oP,gz,mO,aj.eval h];simp[invoke,builtin,Builtin.len_,gC h1,goInt]
def uE[j:jy P t e aT](ag:cb ak x=some (.slice a l c))(ah:cb ak y=some (.int d6 (i:Int)))(al:i<=c):bU P F n (.slice t x none (some y) none) bC ak I (.slice a i c):=λaE w d pos N g aj _=>by
 obtain⟨z,h1,h2,aH⟩:=j.out;simp only[execOp,nH,Gm,aj.eval ag,aj.eval ah];have fG:a.map (λx:Addr=>x.add 0)=a:=by cases a<;>simp[Addr.add]
 simp[Instr.sliceAt,Instr.slice,gC h1,ji h2,Instr.sliceBounds,Instr.sliceBound,asIntOf,al,fG]
def DW[j:jy P t e aT](ag:cb ak x=some (.slice a l c))(ah:cb ak y=some (.int d6 (i:Int)))(al:i<=l):bU P F n (.slice t x (some y) none none) bC ak I (.slice XP (l -i) (c -i)):=λaE w d pos N g aj _=>by
 obtain⟨z,h1,h2,aH⟩:=j.out;simp only[execOp,nH,Gm,aj.eval ag,aj.eval ah];simp[Instr.sliceAt,Instr.slice,gC h1,ji h2,aH,Instr.sliceBounds,Instr.sliceBound,asIntOf,al]
end
end
section
variable{P:Program}{f:FuncId}{args:List Value}{post z:Value->List aq->Prop}
def Oh{H c D:List aq}(i:∀h,Sat H h->Sat c h):∀h,Sat (H++D) h->Sat (c++D) h:=λ_ s=>
 let⟨_,_,d,e,a,b⟩:=Sat.split s;e▸Sat.append d (i _ a) b
def ad.aV{I:List aq}(h:ad P f args I post)(g:∀v H,post v H->∃c,z v c/\∀h,Sat H h->Sat c h):ad P f args I z:=λF D w s=>
 (h F D w s).mono λ_ _ ⟨v,H,e,p,s⟩=>let⟨c,S,i⟩:=g v H p;⟨v,c,e,S,s.imp (Oh i)⟩
def Yn{bx:Type}{fR:bx->Prop}{l:bx->List aq}(h:∀x,fR x->ad P f args (l x) post):ad P f args [df fR l] post:=λF D w s=>by
 obtain⟨x,ag,n⟩:=hb s.eI;exact h x ag F D w ⟨s.os,s.tape,s.output,s.size,n⟩
def Yo{bx:Type}{fR:bx->Prop}{l:bx->List aq}{H:List aq}(x:bx)(p:fR x)(t:∀h,Sat H h->Sat (l x) h):∀h,Sat H h->Sat [df fR l] h:=λh s=>Sat.one ⟨x,p,t h s⟩
end
class Yp(l:List aq)(v:Value)(n:outParam Nat)(xs:outParam (List Value)):Prop where
 out:∃(i:Nat) (e:TypeId) (aT:Nat),l[i]?=some (own v e aT n xs)
section
variable{P:Program}{F w:World}{I:List aq}{b bv:Nat}{T te:TypeId}{l:List Value}{v:Value}{O:Nat×Nat}{u:Obj->List aq}
instance gN.aDa{l:List aq}{v:Value}{n:Nat}{xs:List Value}[i:Yp l v n xs]:gN v (ay l) n xs where
 get:=fun{h} aP=>by
  obtain⟨i,e,aT,al⟩:=i.out;have aj:Sat (ay l::[]) h:=Sat.one aP;obtain⟨h1,h2,_,Y,aJ,_⟩:=rD al h aj;rw[Y];exact(oh.rd aJ).more
def H5[i:ew P T][j:k0 b I (.cells l.toArray te O) u](s:db F I w)(V:l[bv]?=some v):(loadVar T ⟨b,bv,none⟩).run P w=.ok v w:=by
 obtain⟨J,h1,h2⟩:=i.out;have az:=s.heap (b:=b);have a2:w.cell? rb=some v:=by simp[World.cell?,az,V]
 simp[loadVar,Bh h1 h2,run_load,a2]
def apX{aT:Nat}{T te:TypeId}{l M:List Value}{O:Nat×Nat}{u:Obj->List aq}[i:jR P T aT][j:k0 b I (.cells l.toArray te O) u](s:db F I w)(V:(l.drop bv).take aT=M)(aw:M.length=aT):(loadVar T ⟨b,bv,none⟩).run P w=.ok (.agg M.toArray) w:=by
 obtain⟨g,W,cE⟩:=i.out;obtain⟨z,d8,f9⟩:=i.size;have az:=s.heap (b:=b);have a2:=run_loadCells_list (P:=P) w rb M (λk v hk=>by
  rw[<-V]at hk;have:=z8 hk;rw[uo];simp[World.cell?,az,this])
 rw[aw]at a2;simp[loadVar,Aa W cE,ji d8,f9,a2]
def apY{A:aq}{D:List aq}(n:Nat)(B:∀D h,Sat D h->Sat (A::D) h):∀h,Sat D h->Sat (ay (List.replicate n A)::D) h:=λh s=>by
 refine Sat.flat.2 ?_
 induction n with
 |zero=>exact s
 |succ n L=>exact B _ _ L
end
structure kr(P:Prop):Prop where
 o:P
section
variable{P:Program}{F w:World}{n:Nat}{ak:eA}{I:List aq}{bC:TypeId}
section
variable{t dh:TypeId}{x y:Operand}{k:IntKind}{p q r:Int}
def aBZ(ag:cb ak x=some (.int k p))(ah:cb ak y=some (.int k q))(aD:k.wrap (p+q)=r):bU P F n (.binOp .add t x y dh) bC ak I (.int k r):=fo r aD ag ah
def aB0(ag:cb ak x=some (.int k p))(ah:cb ak y=some (.int k q))(aD:k.wrap (p -q)=r):bU P F n (.binOp .sub t x y dh) bC ak I (.int k r):=ks r aD ag ah
def aB1(ag:cb ak x=some (.int k p))(ah:cb ak y=some (.int k q))(aD:k.wrap (p*q)=r):bU P F n (.binOp .mul t x y dh) bC ak I (.int k r):=rs r aD ag ah
def aB2{dj:IntKind}{p r:Int}[u4 P t k][u4 P dh dj](ag:cb ak x=some (.int k p))(aD:dj.wrap p=r):bU P F n (.convert t dh x) bC ak I (.int dj r):=pU r aD ag
end
end
section
variable{A:Prop}
def LR{k:IntKind}{x r:Int}(h:k.wrap x=r:=by first|exact jv (by omega)|exact tq (by omega)|rfl):k.wrap x=r:=h
theorem qY(h:A:=by
 first
 |exact j8 rfl|exact mj rfl
 |exact tJ rfl|exact nE rfl
 |exact o_load rfl rfl|exact gy rfl rfl|exact vc rfl|exact kN rfl rfl rfl|exact zC rfl rfl rfl
 |exact lR rfl|exact JO rfl rfl
 |exact nb rfl rfl|exact mc rfl rfl|exact yL rfl rfl|exact If rfl rfl|exact B2 rfl rfl|exact Af rfl rfl
 |exact qF rfl|exact ary rfl|exact DV rfl|exact KN rfl rfl|exact kX rfl rfl
 |(apply aBZ;exact rfl;exact rfl;exact LR)|(apply aB0;exact rfl;exact rfl;exact LR)|(apply aB1;exact rfl;exact rfl;exact LR)
 |exact fA rfl rfl (by first|assumption|omega)|(apply lU;exact rfl;exact rfl;omega)
 |(apply aB2;exact rfl;exact LR)
 |exact arp rfl rfl|exact arr rfl rfl|exact arq rfl rfl|exact ars rfl rfl
 |exact ahN rfl rfl|exact atB rfl rfl|exact atg rfl rfl
 |exact Y5 rfl rfl
 |exact D3 rfl rfl rfl|exact yX rfl rfl rfl|(refine D3 ?_ rfl rfl;assumption)|(refine yX ?_ rfl rfl;assumption)
 |(apply ahP;exact rfl;exact rfl;(first|decide|omega))|(apply ahQ;exact rfl;exact rfl;(first|decide|omega))):A:=h
theorem TY(h:A:=by
 first
 |exact mi rfl rfl rfl rfl|exact tg rfl rfl rfl (by first|assumption|omega|simp)
 |exact Iw rfl rfl rfl rfl (by simp;omega) (by simp)|exact OP rfl rfl rfl rfl rfl
 |exact YN rfl rfl rfl):A:=h
theorem LS(h:A:=by
 first
 |exact tX|exact R0 rfl rfl|exact Br rfl|exact YU|exact ath
 |exact Ii rfl rfl rfl|exact Ij rfl rfl rfl rfl|exact qp rfl rfl rfl rfl):A:=h
theorem ws(h:A:=by
 first
 |exact D6 rfl rfl bI rfl rfl rfl (by omega) (by unfold maxLen;omega)
 |(apply Mf;exact rfl;exact rfl;unfold maxLen;omega;omega)):A:=h
end
section
variable{P:Program}{F:World}{n:Nat}{ak:eA}{I D:List aq}{fn:Func}{post:Value->List aq->Prop}{e:Exit}
def alc(Y:e=.ret\/e=.normal)(a8:fn.results=#[])(k:∃H,post (.tuple #[]) H/\∀h,Sat I h->Sat (H++D) h):GE F n ak I (AO P F fn post D e):=
 let⟨_,hp,B⟩:=k;Ds Y a8 _ hp B
def ald(Y:e=.ret\/e=.normal){t:Nat}{v:Value}(a8:fn.results=#[.tmp t])(h1:gL ak t=some v)(k:∃H,post v H/\∀h,Sat I h->Sat (H++D) h):GE F n ak I (AO P F fn post D e):=
 let⟨_,hp,B⟩:=k;jm Y a8 h1 _ hp B
def aB3(Y:e=.ret\/e=.normal){t u:Nat}{v x:Value}(a8:fn.results=#[.tmp t,.tmp u])(h1:gL ak t=some v)(h2:gL ak u=some x)(k:∃H,post (.tuple #[v,x]) H/\∀h,Sat I h->Sat (H++D) h):GE F n ak I (AO P F fn post D e):=
 let⟨_,hp,B⟩:=k;Wl Y a8 h1 h2 _ hp B
def aW{q:List aq->Prop}{H:List aq}(hp:q H)(B:∀h,Sat I h->Sat (H++D) h:=by exact au):∃H,q H/\∀h,Sat I h->Sat (H++D) h:=⟨H,hp,B⟩
end
section
variable{P Q:Prop}
def TZ{i:Nat}{R:List Nat}{D:Prop}(h:i∈R->D:=by first|exact λC=>absurd C (by decide)|exact λ_=>au):i∈R->D:=h
def mH{E:Array Oper}{ak:eA}{g:Option (Nat×Bool)}{b:Bool}(h:hV E ak g b:=by first|exact .none|exact .yes rfl rfl rfl|exact .no rfl rfl rfl|exact .un rfl rfl|(apply hV.yes;exact rfl;exact rfl;assumption)|(apply hV.no;exact rfl;exact rfl;assumption)):hV E ak g b:=h
theorem wt{A:Prop}(h:A:=by
 first
 |exact fM (c:=true) (by exact lM (by omega)) (nb rfl rfl)|exact fM (c:=false) (by exact mJ (by omega)) (nb rfl rfl)
 |exact fM (c:=true) (by exact lM (by omega)) (yL rfl rfl)|exact fM (c:=false) (by exact mJ (by omega)) (yL rfl rfl)
 |exact fM (c:=true) (by exact lM (by omega)) (If rfl rfl)|exact fM (c:=false) (by exact mJ (by omega)) (If rfl rfl)
 |exact fM (c:=true) (by exact lM (by omega)) (B2 rfl rfl)|exact fM (c:=false) (by exact mJ (by omega)) (B2 rfl rfl)
 |exact fM (c:=true) (by exact lM (by omega)) (Af rfl rfl)|exact fM (c:=false) (by exact mJ (by omega)) (Af rfl rfl)
 |exact fM (c:=true) (by rfl) (qF rfl)|exact fM (c:=false) (by rfl) (qF rfl)
 |exact fM (c:=true) (by assumption) (j8 rfl)|exact fM (c:=false) (by assumption) (j8 rfl)):A:=h
theorem cH(k:P)(h:kr P->Q:=by
 intro h
 first
 |(apply aA;exact rfl;exact wt)|(apply go_v;exact rfl;exact mH;exact rfl;exact wt)|(apply go_vs;exact rfl;exact mH;exact rfl;exact wt;exact au)
 |(apply tk;exact rfl;exact mH;exact rfl;exact wt)|(apply jJ;exact rfl;exact mH;exact rfl;exact wt;exact au)
 exact h.o):Q:=h ⟨k⟩
theorem aG(k:P)(h:kr P->Q:=by
 intro h
 first
 |refine hB ?_|refine hA ?_|refine jb ?_|(apply aA;exact rfl;exact qY)|refine ib ?_|(apply iF;exact TY)
 |refine tx ?_|refine yw ?_|refine rv ?_|refine oL ?_|refine Wj ?_
 |refine yx ?_|refine M4 ?_|refine Dm ?_|refine Wh ?_|refine anW rfl ?_
 |refine wx rfl ?_|refine tr rfl ?_
 |refine o8 rfl rfl rfl ?_|refine Hh rfl rfl rfl rfl ?_|refine anZ rfl rfl rfl ?_
 |(apply go_v;exact rfl;exact mH;exact rfl;exact qY)|(apply go_vs;exact rfl;exact mH;exact rfl;exact qY;exact au)|(apply go_u;exact rfl;exact mH;exact TY;exact TZ)
 |refine go_nil ?_|(refine⟨?_,?_⟩;exact TZ)
 |(apply go_skip;exact rfl;exact mH;exact rfl)
 |(apply o8;exact rfl;exact rfl;assumption)|(apply Hh;exact rfl;exact rfl;assumption;exact rfl)
 |(apply tk;exact rfl;exact mH;exact rfl;exact qY)|(apply jJ;exact rfl;exact mH;exact rfl;exact qY;exact au)|(apply aBO;exact rfl;exact mH;exact TY;exact TZ)
 |refine alc (.inl rfl) rfl ?_|refine alc (.inr rfl) rfl ?_|refine ald (.inl rfl) rfl rfl ?_|refine ald (.inr rfl) rfl rfl ?_|refine aB3 (.inl rfl) rfl rfl rfl ?_
 |refine aBK ?_
 |(apply aBL;exact rfl;exact mH;exact rfl)|(apply aBM;exact rfl;exact mH;exact rfl)|(apply aBN;exact rfl;exact mH;exact rfl)
 exact h.o):Q:=h ⟨k⟩
def a7(k:P)(h:kr P->Q:=by intro h;(iterate 2 refine aG ?_);exact h.o):Q:=h ⟨k⟩
def bX(k:P)(h:kr P->Q:=by intro h;(iterate 3 refine aG ?_);exact h.o):Q:=h ⟨k⟩
def bF(k:P)(h:kr P->Q:=by intro h;(iterate 4 refine aG ?_);exact h.o):Q:=h ⟨k⟩
def bz(k:P)(h:kr P->Q:=by intro h;(iterate 5 refine aG ?_);exact h.o):Q:=h ⟨k⟩
def bh(k:P)(h:kr P->Q:=by intro h;(iterate 6 refine aG ?_);exact h.o):Q:=h ⟨k⟩
def ch(k:P)(h:kr P->Q:=by intro h;(iterate 7 refine aG ?_);exact h.o):Q:=h ⟨k⟩
def bH(k:P)(h:kr P->Q:=by intro h;(iterate 8 refine aG ?_);exact h.o):Q:=h ⟨k⟩
def cr(k:P)(h:kr P->Q:=by intro h;(iterate 9 refine aG ?_);exact h.o):Q:=h ⟨k⟩
def cU(k:P)(h:kr P->Q:=by intro h;(iterate 10 refine aG ?_);exact h.o):Q:=h ⟨k⟩
def cO(k:P)(h:kr P->Q:=by intro h;(iterate 11 refine aG ?_);exact h.o):Q:=h ⟨k⟩
def dx(k:P)(h:kr P->Q:=by intro h;(iterate 12 refine aG ?_);exact h.o):Q:=h ⟨k⟩
def fx(k:P)(h:kr P->Q:=by intro h;(iterate 13 refine aG ?_);exact h.o):Q:=h ⟨k⟩
def fZ(k:P)(h:kr P->Q:=by intro h;(iterate 14 refine aG ?_);exact h.o):Q:=h ⟨k⟩
def eP(k:P)(h:kr P->Q:=by intro h;(iterate 15 refine aG ?_);exact h.o):Q:=h ⟨k⟩
def gi(k:P)(h:kr P->Q:=by intro h;(iterate 20 refine aG ?_);exact h.o):Q:=h ⟨k⟩
def uq(k:P)(h:kr P->Q:=by intro h;(iterate 30 refine aG ?_);exact h.o):Q:=h ⟨k⟩
def er(k:P)(h:kr P->Q:=by intro h;(try simp only[ale,ci,cn]);exact h.o):Q:=h ⟨k⟩
theorem wn{P:Nat->Prop}{Q:Prop}(k:∀b,P b)(h:kr (∀b,P b)->Q:=by
 intro h
 first
 |(apply iQ;exact rfl;exact LS)|(apply go_n;exact rfl;exact mH;exact rfl;exact LS)|(apply A4;exact LS)|(apply yl;exact rfl;exact mH;exact rfl;exact LS)
 rintro _ _ ⟨b,rfl,rfl⟩;exact h.o b):Q:=h ⟨k⟩
theorem gp{P:Option Addr->Nat->Prop}{Q:Prop}(k:∀a c,P a c)(h:kr (∀a c,P a c)->Q:=by
 intro h
 first
 |(apply iQ;exact rfl;exact ws)|(apply go_n;exact rfl;exact mH;exact rfl;exact ws)|(apply yl;exact rfl;exact mH;exact rfl;exact ws)
 rintro _ _ ⟨a,c,rfl,rfl⟩;exact h.o a c):Q:=h ⟨k⟩
def ait(k:P)(h:kr P->Q:=by intro h;(repeat refine aG ?_);exact h.o):Q:=h ⟨k⟩
def K0(k:P)(h:kr P->Q:=by intro h;(repeat first|refine aG ?_|refine wn λa=>?_|refine gp λa a=>?_);(repeat revert a);exact h.o):Q:=h ⟨k⟩
def ais(k:P)(h:kr P->Q:=by intro h;(repeat refine aG ?_);(try simp only[ale,ci,cn]);(repeat first|refine aG ?_|refine wn λa=>?_|refine gp λa a=>?_);(repeat revert a);exact h.o):Q:=h ⟨k⟩
end
section
variable{P:Program}{f:FuncId}{args:List Value}{pre:List aq}
theorem bt{post K:Value->List aq->Prop}{Q:Prop}(s:ad P f args pre post)(k:∀v L,post v L->K v L)(h:ad P f args pre post->kr (∀v L,post v L->K v L)->Q:=by
 intro s h
 first
 |(apply cj;exact rfl;(first|(apply b4;exact rfl;exact s;exact bI;exact e7)|exact oE rfl rfl s bI))
 |(apply go_c;exact rfl;exact mH;exact rfl;apply b4;exact rfl;exact s;exact bI;exact e7)
 |(apply pR;exact rfl;exact mH;exact rfl;apply b4;exact rfl;exact s;exact bI;exact e7)
 rintro v _ ⟨L,e,rfl⟩;exact h.o v L e):Q:=h s ⟨k⟩
theorem aV{L:List aq}{v:Value}{K Q:Prop}(s:ad P f args pre (aF v L))(k:K)(h:ad P f args pre (aF v L)->kr K->Q:=by
 intro s h;refine bt s ?_;rintro _ _ ⟨rfl,rfl⟩
 try simp only[ale,ci,cn]
 exact h.o):Q:=h s ⟨k⟩
def de{r ak:eA}(k:bd r ak:=by repeat(first|exact .nil|refine bd.cons rfl ?_)):bd r ak:=k
theorem jl{m Q:Prop}(k:m)(h:m->Q:=by
 intro e
 first
 |exact e _ (hn.dE (by repeat(first|exact hn.refl _|refine hn.push ?_ rfl)) (mr (by first|rfl|(simp only[*,nc,nf,nM,lV,mn,lW];done)|(simp[*];done)|simp_all)))
 |(refine r9 ?_ (e _ (hn.dE (by repeat(first|exact hn.refl _|refine hn.push ?_ rfl)) (mr (by first|rfl|(simp only[*,nc,nf,nM,lV,mn,lW];done)|(simp[*];done)|simp_all))));exact au)
 |(refine CG ?_ (e _ (hn.dE (by repeat(first|exact hn.refl _|refine hn.push ?_ rfl)) (mr (by first|rfl|(simp only[*,nc,nf,nM,lV,mn,lW];done)|(simp[*];done)|simp_all))));exact au)):Q:=h k
def pL{ak c:eA}(h:hn ak c:=by repeat(first|exact hn.refl _|refine hn.push ?_ rfl)):hn ak c:=h
theorem kt{m Q A B:Prop}(k:m)(a:A)(b:B)(h:m->A->B->Q:=by
 intro e a b
 first|exact e _ (hn.dE pL (mr (by first|rfl|(simp only[a,b,nc,nf,nM,lV,mn,lW];done)|(simp[a,b];done)|simp_all)))|exact CG (au) (e _ (hn.dE pL (mr (by first|rfl|(simp only[a,b,nc,nf,nM,lV,mn,lW];done)|(simp[a,b];done)|simp_all))))|exact r9 (au) (e _ (hn.dE pL (mr (by first|rfl|(simp only[a,b,nc,nf,nM,lV,mn,lW];done)|(simp[a,b];done)|simp_all))))):Q:=h k a b
theorem qq{m Q A B C:Prop}(k:m)(a:A)(b:B)(c:C)(h:m->A->B->C->Q:=by
 intro e a b c
 first|exact e _ (hn.dE pL (mr (by first|rfl|(simp only[a,b,c,nc,nf,nM,lV,mn,lW];done)|(simp[a,b,c];done)|simp_all)))|exact CG (au) (e _ (hn.dE pL (mr (by first|rfl|(simp only[a,b,c,nc,nf,nM,lV,mn,lW];done)|(simp[a,b,c];done)|simp_all))))|exact r9 (au) (e _ (hn.dE pL (mr (by first|rfl|(simp only[a,b,c,nc,nf,nM,lV,mn,lW];done)|(simp[a,b,c];done)|simp_all))))):Q:=h k a b c
theorem GF{m Q A B C z:Prop}(k:m)(a:A)(b:B)(c:C)(d:z)(h:m->A->B->C->z->Q:=by
 intro e a b c d
 first|exact e _ (hn.dE pL (mr (by first|rfl|(simp only[a,b,c,d,nc,nf,nM,lV,mn,lW];done)|(simp[a,b,c,d];done)|simp_all)))|exact CG (au) (e _ (hn.dE pL (mr (by first|rfl|(simp only[a,b,c,d,nc,nf,nM,lV,mn,lW];done)|(simp[a,b,c,d];done)|simp_all))))|exact r9 (au) (e _ (hn.dE pL (mr (by first|rfl|(simp only[a,b,c,d,nc,nf,nM,lV,mn,lW];done)|(simp[a,b,c,d];done)|simp_all))))):Q:=h k a b c d
theorem Vl{m Q A B C z cX:Prop}(k:m)(a:A)(b:B)(c:C)(d:z)(f:cX)(h:m->A->B->C->z->cX->Q:=by
 intro e a b c d f
 first|exact e _ (hn.dE pL (mr (by first|rfl|(simp only[a,b,c,d,f,nc,nf,nM,lV,mn,lW];done)|(simp[a,b,c,d,f];done)|simp_all)))|exact CG (au) (e _ (hn.dE pL (mr (by first|rfl|(simp only[a,b,c,d,f,nc,nf,nM,lV,mn,lW];done)|(simp[a,b,c,d,f];done)|simp_all))))|exact r9 (au) (e _ (hn.dE pL (mr (by first|rfl|(simp only[a,b,c,d,f,nc,nf,nM,lV,mn,lW];done)|(simp[a,b,c,d,f];done)|simp_all))))):Q:=h k a b c d f
theorem ar1{m Q A B C z cX M:Prop}(k:m)(a:A)(b:B)(c:C)(d:z)(f:cX)(g:M)(h:m->A->B->C->z->cX->M->Q:=by
 intro e a b c d f g
 first|exact e _ (hn.dE pL (mr (by first|rfl|(simp only[a,b,c,d,f,g,nc,nf,nM,lV,mn,lW];done)|(simp[a,b,c,d,f,g];done)|simp_all)))|exact CG (au) (e _ (hn.dE pL (mr (by first|rfl|(simp only[a,b,c,d,f,g,nc,nf,nM,lV,mn,lW];done)|(simp[a,b,c,d,f,g];done)|simp_all))))|exact r9 (au) (e _ (hn.dE pL (mr (by first|rfl|(simp only[a,b,c,d,f,g,nc,nf,nM,lV,mn,lW];done)|(simp[a,b,c,d,f,g];done)|simp_all))))):Q:=h k a b c d f g
end
section
variable{P:Program}{F:World}{n:Nat}{ak:eA}{I:List aq}{Q:Exit->Act->World->Prop}{c c1 bk:Code}
def b6{x:Operand}{b:Bool}{A B:Prop}(R:A->G P F n c1 ak I Q)(a8:B->G P F n bk ak I Q)(ag:cb ak x=some (.bool b):=by exact rfl)[i:oK (b=true) A][j:oK (b=false) B]:G P F n (.cond x c1 bk) ak I Q:=
 mR ag (λe=>R (i.aj e)) (λe=>a8 (j.aj e))
def aB4:Nat->mL
 |0=>.loc
 |1=>.bJ
 |_=>.c0
def alf(k:mL):Nat->Nat->(Nat->List (Nat×mL))->List (Nat×mL)
 |0,i,f=>f i
 |n+1,i,f=>(i,k)::alf k n (i+1) f
def LU:List Nat->Nat->List (Nat×mL)
 |[],_=>[]
 |c::r,i=>alf (aB4 (c/100)) (c%100) i (LU r)
def b8:List (Nat×mL)->List Nat
 |[]=>[]
 |(i,.c0)::r=>i::b8 r
 |_::r=>b8 r
def ct{id:Nat}{l:List Oper}(R o:List Nat)(J:List aq){U:List (Nat×mL)}(h:cT P F n l.toArray R U ak I J (Q .normal))(aJ:LU o 0=U:=by cbv)(bb:P.follows .mixedOrders=true:=by exact mixed)(cc:yS l (b8 (LU o 0)) R (LU o 0)=true:=by kernel_rfl):G P F n (.region id l.toArray true) ak I Q:=by
 subst aJ;exact h9 _ R _ J bb cc h
def z1:List iW->iW
 |[]=>.nil
 |t::_=>t
def td:List Nat->List iW
 |[]=>[]
 |
  c::l=>match c%4 with
  |0=>.loc (c/4) (z1 (td l))::(td l).tail
  |1=>.bJ (c/4) (z1 (td l))::(td l).tail
  |2=>.c0 (c/4) (z1 (td l)) (z1 (td l).tail)::(td l).tail.tail
  |_=>.nil::td l
def ir{id:Nat}{l:List Oper}(cX R o:List Nat)(J:List aq){t:iW}(h:GT P F n l.toArray R t false ak I J (Q .normal))(aJ:z1 (td o)=t:=by cbv)(bb:P.follows .mixedOrders=true:=by exact mixed)(cc:LO l cX R (z1 (td o))=true:=by kernel_rfl):G P F n (.region id l.toArray true) ak I Q:=by
 subst aJ;exact aBV cX R _ J bb cc h
def qn{E:Array Oper}{R:List Nat}{b:Bool}{J:List aq}{M:Act->World->Prop}{d:Nat}{u t:iW}(o:List Nat)(v:Value)(k:GT P F n E R t false ((d,v)::ak) I J M)(h:(∀c,hn ((d,v)::ak) c->GT P F n E R t false c I J M)->GT P F n E R u b ak I J M)(aJ:z1 (td o)=t:=by cbv):GT P F n E R u b ak I J M:=aBP t v k h
def QF{ba:Act->World->Prop}(h:∀a w,hd n ak a->db F I w->ba a w):GE F n ak I (Exit.then ba Q .normal):=h
theorem ax{f:FuncId}{fn:Func}{args:List Value}{post:Value->List aq->Prop}{K:World->List aq->Prop}(a8:P.funcs[f]?=some fn)(k:∀F D,K F D)(az:fn.body=some c:=by rfl)
 (h : ∀ F D, kr (K F D) → G P F fn.ntmps c (args.zipIdx.map fun (v, i) => (i, v)) (I ++ D) (AO P F fn post D) := by
  intro F D h;simp only[wE,D5,gz,mO,kR,Nat.reduceAdd,cn,ci];exact h.o) (aw:Nat.ble args.length fn.ntmps=true:=by rfl):ad P f args I post:=
 ku a8 az rfl aw λF D=>h F D ⟨k F D⟩
end
inductive FV:List Nat->eA->eA->Prop
 |nil {ak:eA}:FV [] [] ak
 |cons {t:Nat} {v:Value} {l:List Nat} {r ak:eA}:gL ak t=some v->FV l r ak->FV (t::l) ((t,v)::r) ak
def FV.jM{l:List Nat}{r ak:eA}(h:FV l r ak):bd r ak:=by
 induction h with
 |nil=>exact .nil
 |cons a _ b=>exact .cons a b
end Go.L
namespace Go.L.Lx
abbrev cy:=List UInt8
section
variable{p:UInt8->Bool}{l:cy}{j:Nat}{c:UInt8}
def w6(c:UInt8):Bool:=decide (97<=c.toNat/\c.toNat<=122)
def Ip(c:UInt8):Bool:=decide (48<=c.toNat/\c.toNat<=57)
def y0(c:UInt8):Bool:=decide ((97<=c.toNat/\c.toNat<=122)\/(48<=c.toNat/\c.toNat<=57)\/c.toNat=95)
def ml(p:UInt8->Bool):cy->Nat
 |[]=>0
 |c::l=>if p c then ml p l+1 else 0
def arc{l:cy}(h:p c=true):ml p (c::l)=ml p l+1:=by simp[ml,h]
def ard{l:cy}(h:p c=false):ml p (c::l)=0:=by simp[ml,h]
def YZ(h:l[j]?=some c):l.drop j=c::l.drop (j+1):=by
 obtain⟨J,e⟩:=dd.1 h;rw[vY J,e]
def arf(h:l[j]?=some c)(hp:p c=true):ml p (l.drop j)=ml p (l.drop (j+1))+1:=by rw[YZ h,arc hp]
def arh(h:l[j]?=some c)(hp:p c=false):ml p (l.drop j)=0:=by rw[YZ h,ard hp]
def ari(h:l.length<=j):ml p (l.drop j)=0:=by rw[Ge h];rfl
def lN(l:cy):Bool:=match l with
 |[]=>false
 |c::r=>w6 c&&decide (ml y0 (c::r)=(c::r).length)&&decide ((c::r).length<=16)
end
end Go.L.Lx
namespace Go.L.Pg
open Go.L Go.L.Lx
abbrev vx(x:Int):Value:=.int .i64 x
abbrev xA(l:List UInt8):Value:=.string ⟨l.toArray⟩
structure fw where
 do':Int
 ref:cy
 slot:cy
 name:cy
 value:Int
 n:Int
 vy:Int
deriving Inhabited,DecidableEq
structure Row where
 tag:cy
 only:Bool
 n:Int
 ea:Option Addr
 cQ:Nat
 b8:List fw
deriving Inhabited
structure fb where
 name:cy
 ra:Option Addr
 rc:Nat
 rows:List Row
deriving Inhabited
structure l7 where
 reason:cy
 do':Int
deriving Inhabited,DecidableEq
structure b1 where
 name:cy
 limit:Int
 within:Int
 ca:Option Addr
 kg:Nat
 cases:List l7
 sa:Option Addr
 sc:Nat
 states:List fb
deriving Inhabited
def fz(e:fw):List Value:=[vx e.do',xA e.ref,xA e.slot,xA e.name,vx e.value,vx e.n,vx e.vy]
def gh(r:Row):List Value:=[xA r.tag,.bool r.only,vx r.n,.slice r.ea r.b8.length r.cQ]
section
variable(c:l7)(d:Int)(K:List b1)(n:Nat)(S:List fb)(e:fw)(fh:cy)(D:List Row)(last:Bool)(i j:Nat)(k:b1)(s:fb)(r:Row)
def ft:List Value:=[xA s.name,.slice s.ra s.rows.length s.rc]
def ik:List Value:=[xA c.reason,vx c.do']
def dO:List Value:=[xA k.name,vx k.limit,vx k.within,.slice k.ca k.cases.length k.kg,.slice k.sa k.states.length k.sc]
def ur:(fz e).length=7:=rfl
def rh:(gh r).length=4:=rfl
def o7:(ft s).length=2:=rfl
def wa:(ik c).length=2:=rfl
def Ay:(dO k).length=5:=rfl
def ij(h:dR)(a:Option Addr)(c n:Nat)(xs:List Value):Prop:=gT h (.slice a n c) n xs/\n<=c
def eF:Prop:=n<=140737488351232
structure CP(e:fw):Prop where
 ref:eF e.ref.length
 slot:eF e.slot.length
 name:eF e.name.length
structure yb(h:dR)(r:Row):Prop where
 tag:eF r.tag.length
 rd:ij h r.ea r.cQ r.b8.length (r.b8.flatMap fz)
 len:eF (r.b8.length*80)
 b8:∀e∈r.b8,CP e
structure v8(h:dR)(s:fb):Prop where
 name:eF s.name.length
 rd:ij h s.ra s.rc s.rows.length (s.rows.flatMap gh)
 len:eF (s.rows.length*56)
 rows:∀r∈s.rows,yb h r
structure kM(h:dR)(k:b1):Prop where
 name:eF k.name.length
 rP:ij h k.ca k.kg k.cases.length (k.cases.flatMap ik)
 ri:eF (k.cases.length*24)
 cases:∀c∈k.cases,eF c.reason.length
 qR:ij h k.sa k.sc k.states.length (k.states.flatMap ft)
 lens:eF (k.states.length*40)
 states:∀s∈k.states,v8 h s
structure hr(h:dR)(a:Option Addr)(c:Nat)(K:List b1):Prop where
 rd:ij h a c K.length (K.flatMap dO)
 len:eF (K.length*80)
 kinds:∀k∈K,kM h k
def ij.imp{h k:dR}{a:Option Addr}{c n:Nat}{xs:List Value}(r:ij h a c n xs)(f:∀b o,h b=some o->k b=some o):ij k a c n xs:=⟨r.1.imp f,r.2⟩
def yb.imp{h k:dR}{r:Row}(s:yb h r)(f:∀b o,h b=some o->k b=some o):yb k r:=⟨s.tag,s.rd.imp f,s.len,s.b8⟩
def v8.imp{h k:dR}{r:fb}(s:v8 h r)(f:∀b o,h b=some o->k b=some o):v8 k r:=⟨s.name,s.rd.imp f,s.len,λr aD=>(s.rows r aD).imp f⟩
def kM.imp{h k:dR}{r:b1}(s:kM h r)(f:∀b o,h b=some o->k b=some o):kM k r:=⟨s.name,s.rP.imp f,s.ri,s.cases,s.qR.imp f,s.lens,λr aD=>(s.states r aD).imp f⟩
def hr.imp{h k:dR}{a:Option Addr}{c:Nat}{K:List b1}(s:hr h a c K)(f:∀b o,h b=some o->k b=some o):hr k a c K:=⟨s.rd.imp f,s.len,λr aD=>(s.kinds r aD).imp f⟩
def gT.to{h:dR}{a:Option Addr}{n c i aT:Nat}{xs:List Value}(s:gT h (.slice a n c) n xs)(al:i<=n):gT h (.slice a i c) i (xs.take (i*aT)):=by
 rcases s with⟨h1,h2,aH⟩|⟨b,bv,Q,C,h1,h2,aH⟩
 . obtain rfl:i=0:=by omega
   subst h2;simp only[Value.slice.injEq]at h1;exact .inl ⟨by simp[h1.1,h1.2.2],by simp,rfl⟩
 . simp only[Value.slice.injEq,true_and]at h1
   obtain⟨rfl,rfl⟩:=h1;exact .inr ⟨b,bv,Q,c,rfl,λbn=>h2 ae,λj x ag=>aH j x (by
    rw[ahO]at ag;split at ag
    . exact ag
    . cases ag)⟩
def Da{α:Type}(f:α->List Value)(aT:Nat)(a8:∀x,(f x).length=aT):∀(l:List α) (i:Nat),(l.flatMap f).take (i*aT)=(l.take i).flatMap f
 |l,0=>by simp
 |[],i+1=>by simp
 |
  x::l,i+1=>by
  have aB:(i+1)*aT=(f x).length+i*aT:=by rw[a8,mX];omega
  rw[pP,aB,List.take_length_add_append,Da f aT a8 l i,List.take_succ_cons,pP]
def oC:List (Bool×Int)->Int
 |[]=>0
 |(b,c)::r=>if b then c else oC r
abbrev ll:=Option (Int×List Int)
def Am(r k:ll):ll:=match r with
 |some (c,ws)=>some (c,((i+1:Nat):Int)::ws)
 |none=>k
def fst(D:Nat->ll):Nat->Nat->ll
 |_,0=>none
 |i,n+1=>Am i (D i) (fst D (i+1) n)
def k1(own:Int)(n:Nat)(D:Nat->ll):ll:=if own=0 then fst D 0 n else some (own,[])
def named(s:cy):Bool:=decide (s=[])||lN s
def Gu:Bool:=decide (d=1)||decide (d=6)||decide (d=7)
def Gv:Bool:=decide (d=2)||decide (d=10)
def C8:Bool:=decide (d=1)||decide (d=2)||decide (d=3)||decide (d=8)||decide (d=9)||decide (d=12)
def Mv:Bool:=decide (d=1)||decide (d=8)
def Gw:Bool:=decide (d=8)
def Mx:List cy:=[[115,101,108,102],[115,101,110,100,101,114],[112,97,114,101,110,116],[97],[98],[99],[100]]
def My:List cy:=[[97],[98],[99],[100]]
def aB:Bool:=decide (e.do'<1)||decide (12<e.do')
def aU:Bool:=(Gu e.do'&&!decide (e.ref∈Mx))||(!Gu e.do'&&!decide (e.ref=[]))
def bB:Bool:=(Gv e.do'&&!decide (e.slot∈My))||(!Gv e.do'&&!decide (e.slot=[]))
def c9:Bool:=(C8 e.do'&&!lN e.name)||(!C8 e.do'&&!decide (e.name=[]))
def fX:Bool:=(Gw e.do'&&(decide (e.vy<1)||decide (4095<e.vy)))||(!Gw e.do'&&!decide (e.vy=0))
def r3:Bool:=decide (e.value<0)||decide (2<e.value)||(!Mv e.do'&&!decide (e.value=0))
def uB:Bool:=decide (e.n<0)||decide (255<e.n)||(!decide (e.value=2)&&!decide (e.n=0))
def qs:Bool:=K.any λo=>decide (o.name=fh)
def uD:Bool:=S.any λo=>decide (o.name=fh)
def uC:Bool:=(decide (e.do'=2)&&!qs K e.name)||(decide (e.do'=3)&&!uD S e.name)
def ym:Bool:=(decide (e.do'=11)||decide (e.do'=12))&&!last
def r0:Int:=
 oC [(aB e,43),(aU e,43),(bB e,43),(c9 e,43),(fX e,43),(r3 e,43),(uB e,43),(uC K S e,42),(ym e last,44)]
def gZ:Bool:=!named r.tag||(r.only&&decide (r.tag=[]))||decide (r.n<0)||decide (255<r.n)||(!r.only&&!decide (r.n=0))
def wo(o r:Row):Bool:=decide (o.tag=r.tag)&&(o.only==r.only)&&decide (o.n=r.n)
def tl:Bool:=(r.b8.any λe=>decide (e.do'=4))&&decide (1<(r.b8.length:Int))
def uz:Int:=
 oC [(gZ r,43),((D.take i).any (λo=>wo o r),41),(decide (8<(r.b8.length:Int)),40),(tl r,45)]
def wl:Int:=
 oC [(!lN s.name,43),(uD (S.take i) s.name,41),(decide (16<(s.rows.length:Int)),40)]
def uA:Bool:=!named c.reason||decide (c.do'<1)||decide (4<c.do')
def wm(cs:List l7):Nat->Bool
 |0=>false
 |j+1=>wm cs j||(match cs[j]?with|some c=>(cs.take j).any λd=>decide (d.reason=c.reason)|none=>false)
def cI:Bool:=!lN k.name||decide (k.limit<0)||decide (100<k.limit)||decide (k.within<1)||decide (4095<k.within)
def ia:Bool:=decide (8<(k.cases.length:Int))||decide ((k.states.length:Int)<1)||decide (8<(k.states.length:Int))
def r1:Int:=
 oC [(cI k,43),(qs (K.take i) k.name,41),(ia k,40),(k.cases.any uA,43),(wm k.cases k.cases.length,41)]
def oF(cX:List fw)(j:Nat):ll:=match cX[j]?with
 |some e=>if r0 K S e (decide ((j:Int)=(cX.length:Int) -1))=0 then none else some (r0 K S e (decide ((j:Int)=(cX.length:Int) -1)),[])
 |none=>none
def n2:ll:=match D[j]?with
 |some r=>k1 (uz D j r) r.b8.length (oF K S r.b8)
 |none=>none
def nu:ll:=match S[j]?with
 |some s=>k1 (wl S j s) s.rows.length (n2 K S s.rows)
 |none=>none
def pa:ll:=match K[j]?with
 |some k=>k1 (r1 K j k) k.states.length (nu K k.states)
 |none=>none
def GH:Int:=oC [(decide ((K.length:Int)<1)||decide (8<(K.length:Int)),40)]
def pd:ll:=k1 (GH K) K.length (pa K)
def ahS{D:Nat->ll}{c:Int}{ws:List Int}:∀(n i:Nat),fst D i n=some (c,ws)->∃j b,i<=j/\j<i+n/\D j=some (c,b)/\ws=((j+1:Nat):Int)::b
 |0,_,h=>by cases h
 |
  n+1,i,h=>by
  cases aD:D i with
  |
   some x=>
   obtain⟨aK,b⟩:=x;simp only[fst,Am,aD,Option.some.injEq,Prod.mk.injEq]at h;obtain⟨rfl,rfl⟩:=h;exact⟨i,b,eh _,by omega,aD,rfl⟩
  |
   none=>
   simp only[fst,Am,aD]at h;obtain⟨j,b,h1,h2,aH,bm⟩:=ahS n (i+1) h;exact⟨j,b,by omega,by omega,aH,bm⟩
def ams{own:Int}{n:Nat}{D:Nat->ll}{c:Int}{ws:List Int}(h:k1 own n D=some (c,ws)):ws=[]\/∃j b,j<n/\D j=some (c,b)/\ws=((j+1:Nat):Int)::b:=by
 unfold k1 at h;split at h
 . obtain⟨j,b,_,h2,aH,bm⟩:=ahS _ _ h
   exact .inr ⟨j,b,by omega,aH,bm⟩
 . simp only[Option.some.injEq,Prod.mk.injEq]at h;exact .inl h.2.symm
end
end Go.L.Pg
