import Derived.Test.YtnnhpnccfnghdaaGreatA4
import Derived.Shelf.SlSortCmp.NoneTotal
import Derived.Ground.SlsfProg
import Derived.Shelf.SlGeneric
import Derived.Test.YtnnhpnccfnghdaaGreatProg
import Derived.Laws.BytesString
set_option linter.all false
set_option maxRecDepth 8000
set_option maxHeartbeats 1600000
namespace Go.L
open Go.Sort Go.Shelf Go.Proofs
section
variable{H w:World}{M:List al}
def auh(w:World)(os:Array Obj):fW (grow w os)=join (fW w) (λb=>if b<w.heap.size then none else os[b -w.heap.size]?):=by
 funext b;simp only[fW,grow,join,anq];by_cases h:b<w.heap.size
 . simp[h]
 . simp[h,G6 (Nat.le_of_not_lt h)]
def dt.grow(s:dt H M w)(os:Array Obj):dt H M (Go.Sort.grow w os):=by
 refine⟨s.os,s.tape,s.output,by have:=s.size;simp;omega,?_⟩;rw[auh];refine Sat.more (λb=>?_) s.fg;by_cases h:b<w.heap.size
 . right;simp[h]
 . left;simp[fW,G6 (Nat.le_of_not_lt h)]
def dt.ahead(s:dt H M w)(n:Nat):dt H M (Go.Sort.ahead w n):=⟨s.os,s.tape,s.output,s.size,s.fg⟩
def ahN{α:Type}[Inhabited α](enc:α->List Value)(k:Nat)(hk:∀x,(enc x).length=k)(d:Array α):flatK enc k d=(d.toList.flatMap enc).toArray:=by
 have aw:(d.toList.flatMap enc).length=d.size*k:=by rw[kW enc k hk];simp
 refine ext_get! (by simp[aw]) λt U=>?_;have a:t<d.size*k:=by simpa using U
 have fL:0<k:=by
  rcases HC k with h|h;· subst h;simp at a
  . exact h
 rw[get_flatK _ _ _ t a];have bt:t/k<d.size:=Nat.div_lt_of_lt_mul (by rw[RZ];exact a);have bf:t%k<k:=yK _ fL;have h1:d.toList[t/k]?=some d[t/k]!:=by rw[Array.getElem?_toList,getElem!_pos d _ bt,asF bt]
 have h2:(enc d[t/k]!)[t%k]?=some (enc d[t/k]!)[t%k]!:=by
  have:t%k<(enc d[t/k]!).length:=by rw[hk];exact bf
  rw[getElem!_pos (enc d[t/k]!) (t%k) this,cD this]
 have aN:=rK enc k hk h1 h2;rw[show t/k*k+t%k=t by rw[RZ];exact Nat.div_add_mod t k]at aN;have bA:t<(d.toList.flatMap enc).length:=by rw[aw];exact a
 rw[cD bA]at aN;rw[getElem!_pos _ t (by simpa using bA)];simpa using(n9 aN).symm
theorem dt.putRow{H w:World}{b:Nat}{e:TypeId}{xs dJ V:List Value}{D:List al}(s:dt H (eD b Hz::D) w)(aw:V.length=xs.length):
 dt H (eD b Qa::D) (Go.Sort.putRow id w b 0 V.toArray):=by
 have aA:=s.heap (b:=b);refine⟨s.os,s.tape,s.output,by have:=s.size;simpa[Go.Sort.putRow,mapBlock]using this,?_⟩;have aC:putCells id 0 V.toArray (xs++dJ).toArray=(V++dJ).toArray:=by
  apply Array.ext_getElem?
  intro j;simp only[putCells,Array.getElem?_mapIdx,MS,x2,fk,true_and,lo,Dl];by_cases h:j<V.length
  . rw[kY ad,kY h,cD ad,cD h]
    simp only[nD,bg h,id];rw[getElem!_pos _ j (by simpa using h)];simp
  . rw[py ad,py ad,aw]
    cases dJ[j -xs.length]?with
    |none=>rfl
    |some v=>simp only[nD,a7 (show¬j<V.length from h)];rw[a7 ad]
 have aV:fW (Go.Sort.putRow id w b 0 V.toArray)=j0 (fW w) b Qa:=by
  unfold Go.Sort.putRow mapBlock;rw[wo _ (o:=.cells (xs++dJ).toArray e (0,0)) aA];simp only[onCells,aC]
 rw[aV];exact kV.set (b:=b) (o:=.cells (xs++dJ).toArray e (0,0)) Qa s.fg
theorem aui{P:Program}{r:Ren}(L:SlLaysF0.n6 P r){α:Type}[Inhabited α](k:Nat)(mp:0<k)(J:∀w,(isAgg (r.t 24)).run P w=.ok true w)(N:∀w,(Go.sizeOf (r.t 24)).run P w=.ok k w)(enc:α->List Value)(hk:∀x,(enc x).length=k)(h1:∀x,∀v∈enc x,v.oneCell'=true)
 (g8:α->α->Int)(c:SWO (ltOf g8))(g:Nat)(z:∀args w,(callFunc g args).run P w=.ok (.enter g args) w)
 (g7:∀(x y:α) (W:World),Calls P g #[.agg (enc x).toArray,.agg (enc y).toArray] W λe X=>e=.returned (.int .i64 (g8 x y))/\∃q F,X=Go.Sort.grow (W.drewN q) F){v:Value}{e:TypeId}(l:List α)(hlen:l.length<4611686018427387904):
 ab P (r.f 6) [v,.func (.func g) #[] #[]] [own v e k l.length (l.flatMap enc)] (λu I=>u=.tuple #[]/\∃g6:List α,g6.Perm l/\g6.Pairwise (λa b=>ltOf g8 b a=false)/\I=[own v e k l.length (g6.flatMap enc)]):=by
 intro H D w s;rw[Ud]at s;obtain⟨A,t7,aS,Y,⟨ah,Z⟩,K⟩:=s.fg;rcases Z with⟨rfl,aO⟩|⟨b,C,dJ,rfl,o,f,Q,aA⟩
 . have d:l=[]:=rR aO
   subst d;refine(Go.Proofs.AnyF.slices_SortFunc_none L none 0 _ w).mono λex X ⟨aN,bA⟩=>?_;subst bA;exact⟨_,_,aN,⟨rfl,[],.refl _,.nil,rfl⟩,s⟩
 . have U:w.heap[b]?=some (.cells (l.flatMap enc++dJ).toArray e (0,0)):=by
    have:fW w b=_:=Y▸join_some (h2:=t7) aA;exact this
   have T:=ahN enc k hk l.toArray;have S:HoldsK enc k w b 0 l.toArray:=by
    intro j O;have M:j<l.length*k:=by simpa[T,kW enc k hk]using O
    have E:j<(l.flatMap enc).length:=by rw[kW enc k hk];exact M
    rw[lo,T];constructor
    . simp only[World.cell?,U,MS]
      rw[kY E,getElem!_pos _ j (by simpa using E),cD E];simp
    . simp[World.frozen?,U]
   refine(Go.Proofs.AnyQ.slices_SortFunc L k J N enc hk h1 g8 c g #[] b 0 C l.toArray w z (λm os aCt _ x y=>g7 x y _) S (V5 U) (by simpa using hlen)).mono ?_;rintro ex X ⟨aN,p,n,os,⟨t,_,aBY⟩,ai,R⟩;have G:p.toList.Perm l:=by
    have:(p.extract 0 l.toArray.size).toList.Perm (l.toArray.extract 0 l.toArray.size).toList:=aBY;rw[<-t]at this;rw[Array.extract_size,t,Array.extract_size]at this;simpa using this
   have B:p.toList.length=l.length:=G.length_eq;have aBZ:p.toList.Pairwise (λa b=>ltOf g8 b a=false):=by
    rw[ahO];intro i j ak O g1;have:=ai i j (fk _) g1 (by simpa[B]using O);have fP:i<p.size:=CQ;have M:j<p.size:=DL;rw[getElem!_pos p i fP,getElem!_pos p j M]at this;simpa using this
   have er:dt H (eD b (.cells (l.flatMap enc++dJ).toArray e (0,0))::D) w:=⟨s.os,s.tape,s.output,s.size,A,t7,aS,Y,aA,K⟩;have s1:=(er.ahead n).putRow (V:=p.toList.flatMap enc) (by rw[kW enc k hk,kW enc k hk,B]);have cb:=s1.grow os;have n6:X=Go.Sort.grow (Go.Sort.putRow id (Go.Sort.ahead w n) b 0 (p.toList.flatMap enc).toArray) os:=by
    rw[R];unfold sortWorldK putRowK;rw[ahN enc k hk]
   rw[n6];refine⟨_,_,aN,⟨rfl,p.toList,G,aBZ,rfl⟩,cb.imp λ_=>Sat.head λh co=>⟨by rw[kW enc k hk,B],.inr ⟨b,C,dJ,rfl,?_,f,Q,co⟩⟩⟩;rw[eZ,kW enc k hk,B];rw[eZ,kW enc k hk]at o;exact o
end
end Go.L
namespace Go.Proofs
open Go.Shelf
def Tryz.aBO:Go.Shelf.Ren:=⟨fun|6=>314|15=>371|14=>370|28=>417|29=>418|20=>409|21=>410|22=>411|23=>412|24=>413|25=>414|26=>415|27=>416|46=>437|47=>438|48=>439|49=>440|50=>441|57=>451|n=>n,fun|22=>282|24=>336|25=>370|3=>3|39=>401|0=>0|53=>423|55=>36|4=>4|46=>417|45=>416|50=>386|5=>5|9=>9|66=>425|70=>428|76=>430|77=>413|n=>n,fun|n=>n⟩
def Tryz.aBP:Go.Proofs.SlLaysF0.n6 Tryz.prog Tryz.aBO:={
 mixed:=by kernel_rfl
 f6:=⟨Tryz.f314.name,by decide,Tryz.func314.trans (congrArg some (by kernel_rfl))⟩
 f14:=⟨Tryz.f370.name,by decide,Tryz.func370.trans (congrArg some (by kernel_rfl))⟩
 f15:=Tryz.func371.trans (congrArg some (by kernel_rfl))
 f20:=⟨Tryz.f409.name,by decide,Tryz.func409.trans (congrArg some (by kernel_rfl))⟩
 f21:=⟨Tryz.f410.name,by decide,Tryz.func410.trans (congrArg some (by kernel_rfl))⟩
 f22:=⟨Tryz.f411.name,by decide,Tryz.func411.trans (congrArg some (by kernel_rfl))⟩
 f23:=⟨Tryz.f412.name,by decide,Tryz.func412.trans (congrArg some (by kernel_rfl))⟩
 f24:=⟨Tryz.f413.name,by decide,Tryz.func413.trans (congrArg some (by kernel_rfl))⟩
 f25:=⟨Tryz.f414.name,by decide,Tryz.func414.trans (congrArg some (by kernel_rfl))⟩
 f26:=⟨Tryz.f415.name,by decide,Tryz.func415.trans (congrArg some (by kernel_rfl))⟩
 f27:=⟨Tryz.f416.name,by decide,Tryz.func416.trans (congrArg some (by kernel_rfl))⟩
 f28:=Tryz.func417.trans (congrArg some (by kernel_rfl))
 f29:=Tryz.func418.trans (congrArg some (by kernel_rfl))
 f46:=⟨Tryz.f437.name,by decide,Tryz.func437.trans (congrArg some (by kernel_rfl))⟩
 f47:=Tryz.func438.trans (congrArg some (by kernel_rfl))
 f48:=Tryz.func439.trans (congrArg some (by kernel_rfl))
 f49:=⟨Tryz.f440.name,by decide,Tryz.func440.trans (congrArg some (by kernel_rfl))⟩
 f50:=⟨Tryz.f441.name,by decide,Tryz.func441.trans (congrArg some (by kernel_rfl))⟩
 f57:=⟨Tryz.f451.name,by decide,Tryz.func451.trans (congrArg some (by kernel_rfl))⟩
 t0:=Tryz.underlying0
 a0:=Tryz.isAgg0
 z0:=Tryz.sizeOf0
 v0:=Tryz.zeroValue0
 t3:=Tryz.underlying3
 a3:=Tryz.isAgg3
 z3:=Tryz.sizeOf3
 v3:=Tryz.zeroValue3
 t4:=Tryz.underlying4
 a4:=Tryz.isAgg4
 z4:=Tryz.sizeOf4
 v4:=Tryz.zeroValue4
 t5:=Tryz.underlying5
 a5:=Tryz.isAgg5
 z5:=Tryz.sizeOf5
 v5:=Tryz.zeroValue5
 t9:=Tryz.underlying9
 a9:=Tryz.isAgg9
 z9:=Tryz.sizeOf9
 v9:=Tryz.zeroValue9
 t22:=Tryz.underlying282
 a22:=Tryz.isAgg282
 z22:=Tryz.sizeOf282
 v22:=Tryz.zeroValue282
 t25:=Tryz.underlying370
 a25:=Tryz.isAgg370
 z25:=Tryz.sizeOf370
 v25:=Tryz.zeroValue370
 t39:=Tryz.underlying401
 a39:=Tryz.isAgg401
 z39:=Tryz.sizeOf401
 v39:=Tryz.zeroValue401
 t45:=Tryz.underlying416
 a45:=Tryz.isAgg416
 z45:=Tryz.sizeOf416
 v45:=Tryz.zeroValue416
 t46:=Tryz.underlying417
 a46:=Tryz.isAgg417
 z46:=Tryz.sizeOf417
 v46:=Tryz.zeroValue417
 t50:=Tryz.underlying386
 a50:=Tryz.isAgg386
 z50:=Tryz.sizeOf386
 v50:=Tryz.zeroValue386
 t53:=Tryz.underlying423
 a53:=Tryz.isAgg423
 z53:=Tryz.sizeOf423
 v53:=Tryz.zeroValue423
 t55:=Tryz.underlying36
 a55:=Tryz.isAgg36
 z55:=Tryz.sizeOf36
 v55:=Tryz.zeroValue36
 t66:=Tryz.underlying425
 a66:=Tryz.isAgg425
 z66:=Tryz.sizeOf425
 v66:=Tryz.zeroValue425
 t70:=Tryz.underlying428
 a70:=Tryz.isAgg428
 z70:=Tryz.sizeOf428
 v70:=Tryz.zeroValue428
 t76:=Tryz.underlying430
 a76:=Tryz.isAgg430
 z76:=Tryz.sizeOf430
 v76:=Tryz.zeroValue430
 t77:=Tryz.underlying413
 a77:=Tryz.isAgg413
 z77:=Tryz.sizeOf413
 v77:=Tryz.zeroValue413}
end Go.Proofs
namespace Go.Proofs.YtnnhpnccfnghdaaGreat.L
open Go.L Go.L.Whl
structure kJ where
 a:Option Addr
 c:Nat
 l:List bM
deriving Inhabited
abbrev FM(x:kJ):Value:=.slice x.a x.l.length x.c
abbrev so(x:kJ):al:=own (.slice x.a x.l.length x.c) 336 3 x.l.length (x.l.flatMap te)
section
variable(p now seq:Nat)(z:List kJ)
def l2:List Value:=af now::af seq::z.map FM
abbrev lZ:al:=aa p 286 (l2 now seq z)
abbrev nF:al:=ao (z.map so)
def fw(w:gm):al:=
 dq (bv:=List kJ) (λz=>iD (λt=>hi w.now t.due) w.T (z.map (·.l))) (λz=>[lZ p w.now w.seq z,nF z])
end
section
variable{now due seq:Nat}{z:List kJ}{j l i s n:Nat}{x:kJ}{a:Option Addr}{t:bM}{c:Nat}{m:List bM}
def w6{p:Nat}{w:gm}{M D:List al}(z:List kJ)(h:iD (λt=>hi w.now t.due) w.T (z.map (·.l)))(t:∀h,Sat M h->Sat (lZ p w.now w.seq z::nF z::D) h):∀h,Sat M h->Sat (fw p w::D) h:=cE z h t
def IG(t:bM):(te t).length=3:=rfl
def FN(h:z[8*l+s]?=some x):(l2 now seq z)[0+2+l*8+s*1]?=some (FM x):=by
 rw[show 0+2+l*8+s*1=(8*l+s)+1+1 by omega];simp[l2,h]
def aBg:(l2 now seq z).set (0+2+l*8+s*1) (FM x)=l2 now seq (z.set (8*l+s) x):=by
 rw[show 0+2+l*8+s*1=(8*l+s)+1+1 by omega];simp[l2,tA]
def OT:(l2 now seq z).length=z.length+2:=by simp[l2]
def aq3{l:List bM}{i:Nat}{t:bM}(h:l[i]?=some t):((l.flatMap te).drop (i*3)).take 3=te t:=kA te 3 IG h
def kw(l x:Nat):Nat:=x/2^(3*l)
def KD(k x:Nat):(x:Int)/2^((k:Nat):Int).toNat=((x/2^k:Nat):Int):=by rw[Kk];simp
theorem asl(aN:l<=3)(h:∀m,l<m->m<=3->kw m due=kw m now)(aw:l=0\/kw l due≠kw l now):hi now due=8*l+kw l due%8:=by
 have aC:=h 1;have aV:=h 2;have bF:=h 3;unfold kw at*;rcases(show l=0\/l=1\/l=2\/l=3 by omega)with rfl|rfl|rfl|rfl<;>simp at*<;>unfold hi<;>(repeat' split)<;>omega
theorem aBh(h:∀m,l<m->m<=3->kw m due=kw m now)(e:kw l due=kw l now):∀m,l -1<m->m<=3->kw m due=kw m now:=λm h1 h2=>by
 rcases rY l m with x|x
 . exact h m x h2
 . have:m=l:=by omega
   subst this;exact e
def jE(z:List kJ)(j:Nat):Nat:=((z.take j).map (λx=>x.l.length)).sum
def aBi(h:z[j]?=some x):jE z (j+1)=jE z j+x.l.length:=by
 obtain⟨O,e⟩:=dp.1 h;unfold jE;rw[nv O,e];simp
def LL(h:m.length=n):(l2 now seq z).set (0+2+l*8+s*1) qt=l2 now seq (z.set (8*l+s) ⟨a,c,m⟩):=by
 subst h;exact aBg (x:=⟨a,c,m⟩)
def aBj{n:Nat}{m:List bM}{t:bM}(h:m.length=n):own (.slice a (n+1) c) 336 3 (n+1) (m.flatMap te++te t)=so ⟨a,c,m++[t]⟩:=by subst h;simp[so,qU]
def aBk(l:List bM):∀x∈l.flatMap te,x.oneCell'=true:=λx ah=>by
 obtain⟨t,_,h⟩:=CF.1 ah;simp[te]at h;rcases h with rfl|rfl|rfl<;>rfl
def aBl{b c i m:Nat}{l:List bM}{D:List al}(ak:i<l.length)(V:List Value):∀H,Sat (own (.slice (some ⟨b,0,none⟩) l.length c) 336 3 l.length (((l.flatMap te).take (i*3)++(l.flatMap te).drop ((i+1)*3)++(l.flatMap te).drop ((l.length -1)*3)).take ((l.length -1)*3)++iV V m)::D) H->Sat (so ⟨some oy,c,l.eraseIdx i⟩::D) H:=λH s=>by
 have h1:=HE (k:=l.length -1) ad H s;have aw:(l.flatMap te).length=l.length*3:=kW te 3 IG l;have aC:((l.flatMap te).take (i*3)++(l.flatMap te).drop ((i+1)*3)).length=(l.length -1)*3:=by rw[eZ,oC,vP,aw];omega
 have aV:(l.flatMap te).take (i*3)=(l.take i).flatMap te:=by
  have h2:=congrArg (List.take (i*3)) (show l.flatMap te=(l.take i).flatMap te++(l.drop i).flatMap te by rw[<-qU,CL]);rw[h2,HB ZA,yW ZA]
 rw[DY aC,DY aC,aV,Ii te 3 IG,<-qU,<-YN]at h1;have bF:l.length -1=(l.eraseIdx i).length:=Oo;rw[bF]at h1;exact h1
def AX{v:Option Addr}{n c:Nat}{e:TypeId}{aZ:Nat}{xs:List Value}{D:List al}(h:0<n):∀H,Sat (own (.slice v n c) e aZ n xs::D) H->∃b,v=some oy/\n<=c:=λH s=>by
 obtain⟨_,_,_,_,⟨_,co|⟨b,C,dJ,Z,_,bA,_⟩⟩,_⟩:=s
 . omega
 . simp only[Value.slice.injEq]at Z;exact⟨b,Z.1,by rw[Z.2.2];exact bA⟩
def LM(h:z[j]?=some x)(U:x.l[i]?=some t):(z.flatMap (·.l))[jE z j+i]?=some t:=by
 obtain⟨O,e⟩:=dp.1 h;have aC:z.flatMap (·.l)=(z.take j).flatMap (·.l)++((z.drop j).flatMap (·.l)):=Zg;have aV:((z.take j).flatMap (·.l)).length=jE z j:=by unfold jE;rw[List.length_flatMap]
 rw[aC,py ad,aV,F4,s5 O,e,px,kY (dp.1 U).1];exact U
def QL(h:z.length=32):jE z 32=(z.flatMap (·.l)).length:=by
 unfold jE;rw[yW ad,List.length_flatMap]
def aBm{α z:Type}{f:α->z}{m:List α}{i:Nat}{t:α}(h:m[i]?=some t):(m.take (i+1)).map f=(m.take i).map f++[f t]:=by
 obtain⟨ak,e⟩:=dp.1 h;rw[nv ak,e,oY];rfl
end
section
variable(p now seq:Nat)(go:Nat->Bool)(a:Option Addr)(w:gm)(c:Nat)(z:List kJ)(l b s i:Nat)(t:bM)(id:Int)(aL aR aM bV Z cA k:Nat)
theorem akL{P:Program}{H:World}{n:Nat}{J:e6}{M D:List al}{fn:Func}{post:Value->List al->Prop}{e:Exit}(Y:e=.ret\/e=.normal){t1 i2 t3 t4 t5 ar V ay aL aR:Nat}{Az Ay Ax Aw Av aC aV bF dx ho aZ:Nat}{v1 u v3 v5:Value}{cg:List Value}
 {c d f g i:Obj->List al}[e3 P Az][e3 P Ay][e3 P Ax][j8 P Aw aZ][e3 P Av][kV ar M (.cells [v1].toArray aC (0,0)) c][kV V M (.cells [u].toArray aV (0,0)) d][kV ay M (.cells [v3].toArray bF (0,0)) f][kV aL M (.cells cg.toArray dx (0,0)) g][kV aR M (.cells [v5].toArray ho (0,0)) i]
 (ba:fn.results=#[.cell t1 Az,.cell i2 Ay,.cell t3 Ax,.cell t4 Aw,.cell t5 Av])(h1:gN J t1=some (ptr ar 0))(h2:gN J i2=some (ptr V 0))(aN:gN J t3=some (ptr ay 0))(bA:gN J t4=some (ptr aL 0))(d3:gN J t5=some (ptr aR 0))(aw:cg.length=aZ)
 (I:List al)(hp:post (.tuple #[v1,u,v3,.agg cg.toArray,v5]) I)(B:∀h,Sat M h->Sat (I++D) h):GE H n J M vK:=
 xQ Y (λa w ai s=>by
  have gO:=HX (P:=P) (T:=Az) (b:=ar) (bY:=0) (v:=v1) s rfl;have lD:=HX (P:=P) (T:=Ay) (b:=V) (bY:=0) (v:=u) s rfl;have o:=HX (P:=P) (T:=Ax) (b:=ay) (bY:=0) (v:=v3) s rfl;have rP:=apr (P:=P) (T:=Aw) (b:=aL) (bY:=0) (cg:=cg) s (by rw[List.drop_zero,yW (by omega)]) aw;have C:=HX (P:=P) (T:=Av) (b:=aR) (bY:=0) (v:=v5) s rfl;simp[results,ba,ai.val _ _ h1,ai.val _ _ h2,ai.val _ _ aN,ai.val _ _ bA,ai.val _ _ d3,asAddr,gO,lD,o,rP,C]) I hp B
def qQ:Prop:=∀j,j<k->go j=true
def qQ.snoc{go:Nat->Bool}{k:Nat}(h:qQ go k)(e:go k=true):qQ go (k+1):=λj O=>by
 rcases rY j k with x|x
 . exact h j x
 . have:j=k:=by omega
   subst this;exact e
theorem aBn(due seq:Nat)(z:List kJ)(aO:now<4000000000000000000)(aS:due<4000000000000000000):
 ab E 406 [ptr p 0,af due] [lZ p now seq z] (λu I=>(∃l s:Nat,u=.tuple #[af l,af s]/\l<4/\s<8/\hi now due=8*l+s)/\I=[lZ p now seq z]):=by
 refine kq Tryz.func406 rfl rfl rfl ?_;refine Ki ?_;intro H D;refine qy ?_;refine qy ?_;refine aff ?_;refine hy ?_;refine ts ?_;refine hb (bv:=Nat) (λl=>l<=3/\∀m,l<m->m<=3->kw m due=kw m now) (λl=>[(6,af l),(0,ptr p 0),(1,af due)]) (λ_=>lZ p now seq z::D) (λl=>l) 3 (⟨et _,λm h1 h2=>by omega⟩) IZ (au) ?_;rintro l ⟨r,aw⟩;refine hy ?_;refine hy ?_;refine h0 [] [] [(0,.loc),(1,.loc),(2,.loc),(3,.loc),(4,.loc),(5,.loc),(6,.loc),(7,.loc),(8,.loc),(9,.loc),(10,.loc),(11,.loc),(12,.loc),(13,.loc),(14,.loc),(15,.loc)] [] mixed hM ?_;refine oh ?_;refine go_v rfl .none rfl (BV rfl rfl) ?_;refine oh ?_;refine go_split (j:=2) rfl rfl (λW=>?_) (λW=>?_)
 . have f:=W
   replace f:=bW f;refine go_v rfl vd rfl o5 ?_;refine ac2 ?_;refine go_v rfl vd rfl (HW ((kw l due:Nat):Int) (KD _ _) rfl rfl ad D4) ?_;refine go_v rfl vd rfl o5 ?_;refine go_v rfl vd rfl (mm rfl) ?_
   first|refine go_v rfl vd rfl wz ?_|refine go_v rfl vd rfl (mX rfl) ?_
   refine go_v rfl vd rfl (o_load rfl (l:=l2 now seq z) (v:=af now) rfl) ?_;refine ac2 ?_;refine go_v rfl vd rfl (HW ((kw l now:Nat):Int) (KD _ _) rfl rfl ad D4) ?_;refine go_v rfl vd rfl (mY rfl rfl) ?_;refine go_v rfl .none rfl (DU W rfl rfl) ?_;refine go_nil ?_;refine hz ?_;refine mT rfl (λM=>?_) (λM=>?_)
   . replace M:=bW M
     have U:kw l due=kw l now:=ad;refine q8 ?_;refine hz ?_;refine ts ?_;refine aej ?_;refine yq ?_;refine gg (l -1) ⟨by omega,aBh aw U⟩ ad (bd.cons rfl (bd.cons rfl (bd.cons rfl bd.nil))) (au)
   . replace M:=bW M
     have U:l=0\/kw l due≠kw l now:=ad;exact agq
 . have f:=W
   replace f:=bW f;refine aeW ?_;refine aeW ?_;refine go_v rfl .none rfl (yR W rfl rfl) ?_;refine go_nil ?_;refine hz ?_;refine tl rfl ?_;exact agq
theorem akM(aO:now<4000000000000000000)(aS:t.due<4000000000000000000)(hlen:z.length=32)(aA:∀x∈z,x.l.length<=1000):
 ab E 366 [ptr p 0,.agg (te t).toArray] zg (λu I=>u=.tuple #[]/\∃c:List kJ,c.map (·.l)=(z.map (·.l)).set (hi now t.due) ((z.map (·.l)).getD (hi now t.due) []++[t])/\I=[lZ p now seq c,nF c]):=by
 refine kq Tryz.func366 rfl rfl rfl ?_;refine Ki ?_;intro H D;refine jn rfl (Bf rfl) ?_;rintro _ _ ⟨ay,rfl,rfl⟩;refine oN ?_;refine xa ?_;refine JS ?_
 first|refine aB rfl wA ?_|refine aB rfl wB ?_|refine aB rfl wC ?_
 refine cn rfl (b9 rfl (aBn p now t.due seq z aO aS) bN) ?_;rintro _ D ⟨_,⟨⟨l,s,rfl,aw,ai,hp⟩,rfl⟩,rfl⟩;refine fC ?_;refine ke ?_;refine zn ?_;refine zn ?_;refine qy ?_;refine qy ?_;refine oN ?_;obtain⟨x,ah⟩:∃x,z[8*l+s]?=some x:=⟨_,cD ad⟩;refine uW eP (DP ah) ?_;refine h0 [12,13,18] [12,13] [(0,.bL),(1,.bL),(2,.bL),(3,.bL),(4,.bL),(5,.bL),(6,.bL),(7,.bL),(8,.bL),(9,.bL),(10,.bL),(11,.loc),(14,.bL),(15,.bL),(16,.bL),(12,.da),(13,.da),(17,.loc),(18,.da)] [lZ p now seq z] mixed hM ?_;refine w7 ?_;refine w7 ?_;refine adF ?_;refine w7 ?_;refine go_vs rfl .none rfl (mm rfl) (au) ?_;refine Qx ?_;refine go_vs rfl .none rfl (lU rfl rfl aw) (au) ?_;refine go_vs rfl .none rfl (lU rfl rfl ai) (au) ?_;refine go_vs rfl .none rfl (o_load rfl (FN ah)) (au) ?_;refine go_v rfl .none rfl (zB rfl (cg:=te t) rfl rfl) ?_;refine go_vs rfl .none rfl (mm rfl) (au) ?_;refine Qx ?_;refine go_vs rfl .none rfl (lU rfl rfl aw) (au) ?_
 first|refine go_n rfl .none rfl (H5 rfl rfl rfl) ?_|refine go_n rfl .none rfl (H6 rfl rfl rfl rfl) ?_|refine go_n rfl .none rfl (p6 rfl rfl rfl rfl) ?_
 rintro _ _ ⟨n,rfl,rfl⟩;refine⟨ve,?_⟩;refine go_n rfl .none rfl (DX rfl rfl bN rfl rfl rfl (by have:=aA x y5;omega) (by have:=aA x y5;unfold maxLen;omega)) ?_;rintro _ _ ⟨a,b,rfl,rfl⟩;rw[aBj rfl];refine⟨ve,?_⟩;refine go_v rfl .none rfl (lU rfl rfl ai) ?_;refine acG ?_;rw[LL (m:=x.l++[t]) gl];refine go_nil ?_;refine uz (gu (A:=so ⟨a,b,x.l++[t]⟩) (i:=8*l+s) (l:=z.map so) eP eP h9) ?_;refine Dp (.inr rfl) rfl [lZ p now seq (z.set (8*l+s) ⟨a,b,x.l++[t]⟩),nF (z.set (8*l+s) ⟨a,b,x.l++[t]⟩)] (⟨rfl,_,by rw[hp,tA,iW,fD,ah];rfl,rfl⟩) IE
theorem aBo(l:List bM)(ak:i<l.length)(aA:l.length<=1000):
 ab E 369 [.slice a l.length c,af i,af ((i+1:Nat):Int)] [so ⟨a,c,l⟩] (aH (.slice a (l.length -1) c) [so ⟨a,c,l.eraseIdx i⟩]):=by
 refine kq Tryz.func369 rfl rfl rfl ?_;refine vh ?_;intro H D;refine yi (AX (show 0<l.length by omega)) ?_;rintro⟨b,rfl,d⟩;replace d:l.length<=c:=d;refine Rm ?_;refine ke ?_;refine ke ?_;refine ke ?_;refine aB rfl (DS rfl) ?_;refine aB rfl (XN rfl rfl rfl rfl ad ad d) ?_;refine ie ?_;refine aet ?_;refine aB rfl (fS (c:=false) h9 (mY rfl rfl)) ?_;refine oN ?_;refine tl rfl ?_;refine q8 ?_;refine Q0 ?_;refine aB rfl (DS rfl) ?_;refine BQ ?_;refine h0 [6] [] [(0,.loc),(1,.loc),(2,.loc),(3,.loc),(4,.loc),(5,.loc),(6,.da),(7,.loc)] [] mixed hM ?_;refine oh ?_;refine oh ?_;refine go_v rfl .none rfl (th rfl rfl ad) ?_;refine oh ?_;refine oh ?_;refine go_v rfl .none rfl (DT rfl rfl ad) ?_;refine go_n rfl .none rfl (XR (k:=l.length) (j:=i+1) (aZ:=3) rfl rfl ad ad d (aBk l)) ?_;rintro _ _ ⟨rfl,rfl⟩;rw[show i+(l.length -(i+1))=l.length -1 by omega];refine⟨(λC=>absurd C bw),?_⟩;refine go_v rfl .none rfl (mq rfl) ?_;refine go_nil ?_;refine Q2 ?_;refine aB rfl (DS rfl) ?_;refine ke ?_;refine aB rfl (XO rfl rfl rfl ad ad) ?_;refine AY (NO (k:=l.length -1) (m:=l.length -(l.length -1)) (show l.length -1+(l.length -(l.length -1))=l.length by omega) rfl ad (by intro x ah;simp at ah;rcases ah with rfl|rfl<;>rfl)) ?_;rintro _ _ ⟨rfl,rfl⟩;refine ie ?_;refine KB ?_;refine jq (.inl rfl) rfl rfl [so ⟨some oy,c,l.eraseIdx i⟩] (cj) (aBl ak _)
theorem TH{g:FuncId}(C:List Value)(Inv:Nat->al)(go:Nat->Bool)(p now seq:Nat)(z:List kJ)(hlen:z.length=32)(aA:∀x∈z,x.l.length<=1000)
 (lw:∀(l s i:Nat) (x:kJ) (t:bM),l<4->s<8->z[8*l+s]?=some x->x.l[i]?=some t->qQ go (jE z (8*l+s)+i)->ab E g ([af l,af s,af i,.agg (te t).toArray]++C) [Inv (jE z (8*l+s)+i)] (aH (.bool (go (jE z (8*l+s)+i))) [Inv (jE z (8*l+s)+i+1)]))(fI:fb E g:=by exact fl):
 ab E 255 [ptr p 0,.func (.func g) #[] C.toArray] [lZ p now seq z,nF z,Inv 0] (λu I=>u=.tuple #[]/\∃k,((k=jE z 32/\qQ go k)\/∃(l s i:Nat) (x:kJ) (t:bM),l<4/\s<8/\z[8*l+s]?=some x/\x.l[i]?=some t/\k=jE z (8*l+s)+i+1/\qQ go (jE z (8*l+s)+i)/\go (jE z (8*l+s)+i)=false)/\I=[lZ p now seq z,nF z,Inv k]):=by
 refine kq Tryz.func255 rfl rfl rfl ?_;refine Ki ?_;intro H D;refine J7 ?_;refine ts ?_;refine hb (bv:=Nat) (λl=>l<=4/\qQ go (jE z (8*l))) (λl=>PI) (λl=>lZ p now seq z::nF z::Inv (jE z (8*l))::D) (λl=>4 -l) 0 (⟨fk _,λj O=>absurd O (KI j)⟩) IZ (au) ?_;rintro l ⟨e,g2⟩;refine EN ?_;refine mT rfl (λW=>?_) (λW=>?_)
 . replace W:=bW W
   refine afZ ?_;refine jg ?_;refine J7 ?_;refine ts ?_;refine hb (bv:=Nat) (λs=>s<=8/\qQ go (jE z (8*l+s))) (λs=>((11,af s)::(4,af l)::PI)) (λs=>lZ p now seq z::nF z::Inv (jE z (8*l+s))::D) (λs=>8 -s) 0 (⟨fk _,g2⟩) O6 (au) ?_;rintro s ⟨c,b⟩;refine EN ?_;refine mT rfl (λM=>?_) (λM=>?_)
   . replace M:=bW M
     refine afZ ?_;obtain⟨x,ah⟩:∃x,z[8*l+s]?=some x:=⟨_,cD ad⟩;refine ae4 ?_;refine aB rfl (lU rfl rfl ad) ?_;refine aB rfl (o_load rfl (FN ah)) ?_;haveI:Yq (z.map so) (.slice x.a x.l.length x.c) x.l.length (x.l.flatMap te):=⟨_,_,_,DP ah⟩;refine aea ?_;refine hb (bv:=Nat) (λi=>i<=x.l.length/\qQ go JC) (λi=>((23,af i)::(22,af x.l.length)::(21,FM x)::(5,af s)::(4,af l)::(11,af s)::PI)) (λi=>lZ p now seq z::nF z::Inv JC::D) (λi=>x.l.length -i) 0 (⟨fk _,b⟩) aag (au) ?_;rintro i ⟨ak,a⟩;refine EN ?_;refine mT rfl (λL=>?_) (λL=>?_)
     . replace L:=bW L
       obtain⟨t,U⟩:∃t,x.l[i]?=some t:=⟨_,cD ad⟩;refine aeY ?_;refine ED ?_;refine QD ?_;rintro _ _ ⟨bV,rfl,rfl⟩;refine ac1 ?_;refine ie ?_;refine aeJ ?_;refine ke ?_;refine aB rfl (zB rfl (cg:=te t) rfl rfl) ?_;refine cn rfl (oB (first:=[]) (C:=C) rfl rfl (lw l s i x t ad ad ah U a) bN) ?_;refine aeh ?_;refine mT rfl (λf9=>?_) (λf9=>?_)
       . replace f9:=bW f9
         have d:go JC=false:=f9;refine oI ?_;refine QU ?_;refine QU ?_;refine QU ?_;refine Dp (.inl rfl) rfl [lZ p now seq z,nF z,Inv (jE z (8*l+s)+i+1)] (⟨rfl,_,.inr ⟨l,s,i,x,t,by omega,by omega,ah,U,rfl,a,d⟩,rfl⟩) (au)
       . replace f9:=bW f9
         have d:go JC=true:=f9;refine q8 ?_;refine J4 ?_;refine aB rfl aaP ?_;refine EG ?_;refine gg (i+1) ⟨by omega,a.snoc d⟩ ad aag (au)
     . replace L:=bW L
       refine Rk ?_;refine aB rfl (fy ((s+1:Nat):Int) ff rfl rfl) ?_;refine EG ?_;obtain rfl:i=x.l.length:=ad;rw[<-aBi ah]at a⊢;refine gg (s+1) ⟨by omega,a⟩ ad O6 (au)
   . replace M:=bW M
     refine Rk ?_;refine aB rfl (fy ((l+1:Nat):Int) ff rfl rfl) ?_;refine EG ?_;obtain rfl:s=8:=ad;rw[show 8*l+8=8*(l+1) by omega]at b⊢;refine gg (l+1) ⟨by omega,b⟩ ad IZ (au)
 . replace W:=bW W
   refine Kd ?_;refine Dp (.inr rfl) rfl [lZ p now seq z,nF z,Inv (jE z 32)] (⟨rfl,_,.inl ⟨rfl,by rw[show l=4 by omega]at g2;exact g2⟩,rfl⟩) (by rw[show l=4 by omega];exact(au))
def uc(id:Int):Option (Nat×Nat×Nat×bM)->List al
 |none=>[aa aL 36 [bx id],aa aR 3 [af 0],aa aM 3 [af 0],aa bV 3 [af 0],aa Z 336 [bx 0,af 0,af 0],aa cA 4 [.bool false]]
 |some (l,s,i,t)=>[aa aL 36 [bx id],aa aR 3 [af l],aa aM 3 [af s],aa bV 3 [af i],aa Z 336 (te t),aa cA 4 [.bool true]]
def vI:Bool:=match(z.flatMap (·.l))[k]?with
 |some t=>!decide (t.id=id)
 |none=>true
def LN:Option (Nat×Nat×Nat×bM)->Prop
 |none=>qQ (vI z id) k
 |some (l,s,i,t)=>¬qQ (vI z id) k/\l<4/\s<8/\(∃x,z[8*l+s]?=some x/\x.l[i]?=some t)/\t.id=id
def LO:al:=dq (LN z id k) (uc aL aR aM bV Z cA id)
theorem TI{z:List kJ}{id:Int}{j i:Nat}{x:kJ}{t:bM}(h:z[j]?=some x)(U:x.l[i]?=some t):vI z id (jE z j+i)=!decide (t.id=id):=by unfold vI;rw[LM h U]
theorem aBp{z:List kJ}{id:Int}(hlen:z.length=32)(h:qQ (vI z id) (jE z 32)):∀t,t∈z.flatMap (·.l)->t.id≠id:=λt U e=>by
 obtain⟨k,hk⟩:=List.getElem?_of_mem U;have h1:=h k (by rw[QL hlen];exact(dp.1 hk).1);unfold vI at h1;rw[hk]at h1;simp[e]at h1
theorem aBq:
 ab E 407 (af l::af s::af i::.agg (te t).toArray::acs) (uc aL aR aM bV Z cA id none) (aH (.bool (!decide (t.id=id))) (uc aL aR aM bV Z cA id (if t.id=id then some (l,s,i,t)else none))):=by
 refine kq Tryz.func407 rfl rfl rfl ?_;refine vh ?_;intro H D;simp only[uc,ck,ci];refine zo ?_;refine jn rfl (Bf rfl) ?_;rintro _ _ ⟨f,rfl,rfl⟩;refine BQ ?_;refine zo ?_;refine JS ?_;refine aB rfl (o_load rfl (l:=te t) (v:=bx t.id) rfl) ?_;refine JX ?_;refine aB rfl (mY rfl rfl) ?_;refine oN ?_;refine mT rfl (λW=>?_) (λW=>?_)
 . replace W:=bW W
   refine h0 [4,5,6,7,8] [4,5,6] [(0,.loc),(1,.bL),(2,.bL),(3,.bL),(4,.da),(5,.da),(6,.da),(7,.da),(8,.da)] [aa f 336 (te t)] mixed hM ?_;refine oh ?_;refine w7 ?_;refine w7 ?_;refine go_vs rfl .none rfl (zB rfl (cg:=te t) rfl rfl) (au) ?_
   first|refine go_u rfl .none pG ve ?_|refine go_u rfl .none pH ve ?_
   first|refine go_u rfl .none pG ve ?_|refine go_u rfl .none pH ve ?_
   first|refine go_u rfl .none pG ve ?_|refine go_u rfl .none pH ve ?_
   first|refine go_u rfl .none (Il rfl rfl rfl rfl h9 gl) An ?_|refine go_u rfl .none (Oz rfl rfl rfl rfl rfl) An ?_
   first|refine go_u rfl .none pG An ?_|refine go_u rfl .none pH An ?_
   refine go_nil ?_;refine afC ?_;refine jq (.inl rfl) rfl rfl _ (⟨by simp[W],by rw[bg W]<;>rfl⟩) (au)
 . replace W:=bW W
   refine q8 ?_;refine afC ?_;refine jq (.inl rfl) rfl rfl _ (⟨by simp[W],by rw[a7 W]<;>rfl⟩) (au)
theorem aBr(l s i:Nat)(x:kJ)(t:bM)(aw:l<4)(ai:s<8)(ah:z[8*l+s]?=some x)(U:x.l[i]?=some t)(g2:qQ (vI z id) (jE z (8*l+s)+i)):
 ab E 407 ([af l,af s,af i,.agg (te t).toArray]++acs) [LO z id aL aR aM bV Z cA (jE z (8*l+s)+i)] (aH (.bool (vI z id (jE z (8*l+s)+i))) [LO z id aL aR aM bV Z cA (jE z (8*l+s)+i+1)]):=
 Yo λo aJ=>by
  cases o with
  |some q=>exact absurd g2 aJ.1
  |
   none=>
   refine(aBq l s i t id aL aR aM bV Z cA).aU λu I ⟨d7,cd⟩=>⟨_,⟨by rw[d7,TI ah U],rfl⟩,?_⟩;subst cd;refine Yp (if t.id=id then some (l,s,i,t)else none) ?_ kS;by_cases e:t.id=id
   . rw[bg e];exact⟨λh=>by have:=h (jE z (8*l+s)+i) ad;rw[TI ah U]at this;simp[e]at this,aw,ai,⟨x,ah,U⟩,e⟩
   . rw[a7 e];exact g2.snoc (by rw[TI ah U];simp[e])
theorem aBs(hlen:z.length=32)(aA:∀x∈z,x.l.length<=1000):
 ab E 367 JM zg (λu I=>((∃(l s i:Nat) (x:kJ) (t:bM),l<4/\s<8/\z[8*l+s]?=some x/\x.l[i]?=some t/\t.id=id/\u=.tuple #[af l,af s,af i,.agg (te t).toArray,.bool true])\/((∀t,t∈z.flatMap (·.l)->t.id≠id)/\u=.tuple #[af 0,af 0,af 0,.agg [bx 0,af 0,af 0].toArray,.bool false]))/\I=zg):=by
 refine kq Tryz.func367 rfl rfl rfl ?_;refine Ki ?_;intro H D;refine jn rfl (RH rfl rfl) ?_;rintro _ _ ⟨ay,rfl,rfl⟩;refine jn rfl (tN) ?_;rintro _ _ ⟨aL,rfl,rfl⟩;refine jn rfl (tN) ?_;rintro _ _ ⟨aR,rfl,rfl⟩;refine jn rfl (tN) ?_;rintro _ _ ⟨aM,rfl,rfl⟩;refine jn rfl (tN) ?_;rintro _ _ ⟨bV,rfl,rfl⟩;refine jn rfl (tN) ?_;rintro _ _ ⟨Z,rfl,rfl⟩;refine zu ?_;refine nu (cE (fO:=LN z id 0) (l:=uc ay aL aR aM bV Z id) (D:=lZ p now seq z::nF z::D) none (λj O=>absurd O (KI j)) (by simp only[uc,ck,ci];exact(au))) ?_;rw[show dq (LN z id 0) (uc ay aL aR aM bV Z id)=LO z id ay aL aR aM bV Z 0 from rfl];refine zq ?_;refine aB rfl (KH (xs:=[]) (V:=[.tmp 3,.tmp 4,.tmp 5,.tmp 6,.tmp 7,.tmp 8]) rfl rfl) ?_;refine cn rfl (b9 rfl (TH (g:=407) [ptr ay 0,ptr aL 0,ptr aR 0,ptr aM 0,ptr bV 0,ptr Z 0] (LO z id ay aL aR aM bV Z) (vI z id) p now seq z hlen aA (aBr z id ay aL aR aM bV Z)) bN) ?_;rintro _ D ⟨_,⟨rfl,k,hk,rfl⟩,rfl⟩;refine fC ?_;refine oN ?_;refine oI ?_;refine aqD (fO:=LN z id k) (l:=uc ay aL aR aM bV Z id) eP ?_;rintro st ge;rcases hk with⟨rfl,hk⟩|⟨l,s,i,x,t,e,c,ah,U,rfl,mt,M⟩
 . cases st with
   |none=>simp only[uc,ck,ci];exact akL (.inl rfl) rfl rfl rfl rfl rfl rfl rfl zg ⟨.inr ⟨aBp hlen hk,rfl⟩,rfl⟩ (au)
   |some q=>exact absurd hk ge.1
 . cases st with
   |none=>have:=ge (jE z (8*l+s)+i) ad;rw[M]at this;cases this
   |
    some q=>
    obtain⟨g6,aW,R,dr⟩:=q;obtain⟨_,W,S,⟨n,d,a⟩,cy⟩:=ge;simp only[uc,ck,ci];exact akL (.inl rfl) rfl rfl rfl rfl rfl rfl rfl zg ⟨.inl ⟨g6,aW,R,n,dr,W,S,d,a,cy,rfl⟩,rfl⟩ (au)
abbrev FO:Type:={t:bM//t.seq<4611686018427387904}
instance:Inhabited FO:=⟨⟨⟨0,0,0⟩,by decide⟩⟩
def CC(x:FO):List Value:=te x.1
def xN(x y:FO):Int:=(x.1.seq:Int) -y.1.seq
def aBt:Go.Sort.SWO (Go.Proofs.ltOf xN)where
 irrefl x:=mJ (by unfold xN;omega)
 trans x y F h1 h2:=by
  have h1:=of_decide_eq_true h1;have h2:=of_decide_eq_true h2;refine lM ?_;unfold xN at*;omega
 ntrans x y F h1 h2:=by
  have h1:=of_decide_eq_false h1;have h2:=of_decide_eq_false h2;refine mJ ?_;unfold xN at*;omega
def aBu(x y:FO)(W:World):Calls E 315 #[.agg (CC x).toArray,.agg (CC y).toArray] W λe X=>e=.returned (.int .i64 (xN x y))/\∃q F,X=Go.Sort.grow (W.drewN q) F:=by
 obtain⟨⟨i1,d1,s1⟩,h1⟩:=x;obtain⟨⟨a,o,cb⟩,h2⟩:=y;have R:IntKind.i64.wrap ((s1:Int) -(cb:Int))=(s1:Int) -cb:=jz (by simp only at h1 h2;omega);simp only[CC,te,xN]
 generalize (s1:Int)=p at*
 generalize (cb:Int)=q at*
 generalize (d1:Int)=b at*
 generalize (o:Int)=c at*
 go_enter Tryz.func315,Tryz.ntmps315
 go_wp2
 go_ret
 exact⟨by first|rfl|rw[R],0,_,by rw[Go.Sort.alloc_eq_grow,Go.Sort.alloc_eq_grow,Go.Sort.grow_grow];rfl⟩
theorem aBv(l m:List bM)(hp:l.Perm m)(ai:m.Pairwise Jy)(bt:∀t∈m,t.seq<4611686018427387904)(aA:l.length<=1000):
 ab E 314 [.slice a l.length c,.func (.func 315) #[] #[]] [so ⟨a,c,l⟩] (aH eN [so ⟨a,c,m⟩]):=by
 have d:∀t∈l,t.seq<4611686018427387904:=λt U=>bt t (hp.subset U);obtain⟨L,K⟩:∃L:List FO,L.map (·.1)=l:=⟨l.pmap Subtype.mk d,by simp[List.map_pmap]⟩;have hlen:L.length=l.length:=by rw[<-K,o9]
 have T:L.flatMap CC=l.flatMap te:=by rw[<-K,List.flatMap_map];rfl
 have z:∀args w,(callFunc 315 args).run E w=.ok (.enter 315 args) w:=enters_of Tryz.func315 hM rfl;have h:=aui (P:=E) Go.Proofs.Tryz.aBP 3 bw (λw=>Af Tryz.underlying336 rfl w) (λw=>(by obtain⟨i,h1,h2⟩:=(inferInstance:j8 E 336 3).size;rw[<-h2];exact jP h1 w)) CC (λ_=>rfl) (λx v Z=>by simp[CC,te]at Z;rcases Z with rfl|rfl|rfl<;>rfl) xN aBt 315 z aBu (v:=.slice a l.length c) (e:=336) L ad;rw[hlen,T]at h;refine ab.mono h λu I ⟨d7,g6,k,S,cd⟩=>⟨d7,?_⟩;have aC:g6.map (·.1)=m:=by
  refine aBw (((k.map (·.1)).trans (FP K)).trans hp) ?_ ai;rw[List.pairwise_map];refine S.imp fun{a b} j=>?_;have j:=of_decide_eq_false j;unfold xN at j;omega
 rw[cd,<-aC,show l.length=(g6.map (·.1)).length by rw[o9,k.length_eq,hlen]];simp only[so];rw[List.flatMap_map];rfl
theorem akN(l m:List bM)(hp:l.Perm m)(ai:m.Pairwise Jy)(bt:∀t∈m,t.seq<4611686018427387904)(aA:l.length<=1000):
 ab E 257 [.slice a l.length c] [so ⟨a,c,l⟩] aaz:=by
 refine kq Tryz.func257 rfl rfl rfl ?_;refine vh ?_;intro H D;have j:l.length=m.length:=hp.length_eq;refine Rm ?_;refine cn rfl (b9 rfl (aBv a c l m hp ai bt aA) bN) ?_;refine ar9 ?_;refine hy ?_;refine hy ?_;rw[j];refine nu (jc (e:=36) (aZ:=1)) ?_;refine aeZ ?_;refine hb (bv:=Nat×Option Addr×Nat) (λx=>x.1<=m.length) (λx=>[(10,af x.1),(9,af m.length),(8,.slice a m.length c),(3,.slice x.2.1 x.1 x.2.2)]) (λx=>own (.slice x.2.1 x.1 x.2.2) 36 1 x.1 ((m.take x.1).map λt=>bx t.id)::so ⟨a,c,m⟩::D) (λx=>m.length -x.1) (0,none,0) (fk _) Pr (au) ?_;rintro⟨i,aD,aI⟩ ak;replace ak:i<=m.length:=ak;dsimp only;refine EN ?_;refine mT rfl (λW=>?_) (λW=>?_)
 . replace W:=bW W
   obtain⟨t,U⟩:∃t,m[i]?=some t:=⟨_,cD ad⟩;refine Re ?_;refine aB rfl (gf rfl rfl (show i<m.length by omega)) ?_;refine QD ?_;rintro _ _ ⟨aR,rfl,rfl⟩;refine ael ?_;refine JS ?_;refine aB rfl (o_load rfl (l:=te t) (v:=bx t.id) rfl) ?_;refine acQ ?_;rintro _ _ ⟨g,rfl,rfl⟩;refine JV ?_;rintro _ _ ⟨d,f,rfl,rfl⟩;refine qy ?_;refine ie ?_;refine J4 ?_;refine aB rfl (fy ((i+1:Nat):Int) ff rfl rfl) ?_;refine EG ?_;refine gg (i+1,d,f) (show i+1<=m.length by omega) (show m.length -(i+1)<m.length -i by omega) Pr (by dsimp only;rw[aBm U];exact(au))
 . replace W:=bW W
   refine Kd ?_;refine KB ?_;refine jq (.inl rfl) rfl rfl aaA (⟨aD,aI,by rw[show i=m.length by omega],rfl⟩) (by rw[show i=m.length by omega,nT];exact(au))
def akO(l s i:Nat)(t:bM)(b:Bool):Prop:=
 (b=true/\l<4/\s<8/\(∃x,z[8*l+s]?=some x/\x.l[i]?=some t)/\t.id=id)\/(b=false/\l=0/\s=0/\i=0/\t=⟨0,0,0⟩/\∀t,t∈z.flatMap (·.l)->t.id≠id)
theorem akP(hlen:z.length=32)(aA:∀x∈z,x.l.length<=1000):
 ab E 367 JM zg (λu I=>(∃(l s i:Nat) (t:bM) (b:Bool),u=.tuple #[af l,af s,af i,.agg (te t).toArray,.bool b]/\akO z id l s i t b)/\I=zg):=
 (aBs p now seq z id hlen aA).mono fun u I ⟨h, cd⟩ => ⟨by
  rcases h with⟨l,s,i,x,t,h1,h2,aN,bA,d3,g3⟩|⟨h1,h2⟩
  . exact⟨l,s,i,t,true,g3,.inl ⟨rfl,h1,h2,⟨x,aN,bA⟩,d3⟩⟩
  . exact⟨0,0,0,⟨0,0,0⟩,false,h2,.inr ⟨rfl,rfl,rfl,rfl,rfl,h1⟩⟩,cd⟩
abbrev nS:Prop:=iD (λt=>hi w.now t.due) w.T (z.map (·.l))
def nS.hlen{w:gm}{z:List kJ}(h:nS w z):z.length=32:=by simpa using h.1
def nS.aA{w:gm}{z:List kJ}(h:nS w z)(R:jZ w):∀x∈z,x.l.length<=1000:=λx ah=>by
 have:=iD.short h (ER (f:=(·.l)) ah);have:=R.len;omega
def nS.flat{w:gm}{z:List kJ}(h:nS w z):(z.flatMap (·.l)).Perm w.T:=by
 rw[List.flatMap_def];exact iD.all h (λt _=>TJ _ _)
theorem nS.found{w:gm}{z:List kJ}(h:nS w z)(R:jZ w){id:Int}{l s i:Nat}{t:bM}{b:Bool}(ba:akO z id l s i t b):
 (b=true/\w.get id=some t/\hi w.now t.due=8*l+s/\l<4/\s<8)\/acq:=by
 rcases ba with⟨aA,h1,h2,⟨x,aN,bA⟩,d3⟩|⟨aA,h1,h2,aN,bA,d3⟩
 . obtain⟨O,hp⟩:=iD.jr h (j:=8*l+s) (l:=x.l) (by rw[fD,aN];rfl)
   have bf:=oL.1 (hp.subset (jH bA));exact .inl ⟨aA,get_some R bf.1 d3,by simpa using bf.2,h1,h2⟩
 . exact .inr ⟨aA,get_none.2 λt U=>d3 t (h.flat.symm.subset U),h1,h2,bA⟩
theorem aBx(R:jZ w):
 ab E 367 JM [fw p w] (λu I=>(∃(l s i:Nat) (t:bM) (b:Bool),u=.tuple #[af l,af s,af i,.agg (te t).toArray,.bool b]/\((b=true/\w.get id=some t/\hi w.now t.due=8*l+s/\l<4/\s<8)\/acq))/\I=[fw p w]):=
 Yo λz K=>(akP p w.now w.seq z id (nS.hlen K) (nS.aA K R)).aU λu I ⟨⟨l,s,i,t,b,d7,ba⟩,cd⟩=>⟨_,⟨⟨l,s,i,t,b,d7,nS.found K R ba⟩,rfl⟩,by subst cd;exact Yp z K kS⟩
def amT:ab E 113 [] [] (λu I=>∃p,u=ptr p 0/\I=[fw p q7]):=by
 refine kq Tryz.func113 rfl rfl rfl ?_;refine Ol ?_;intro H D;refine aB rfl (ly (xs:=[]) rfl rfl) ?_;refine jn rfl (Bf rfl) ?_;rintro _ _ ⟨p,rfl,rfl⟩;refine Bg ?_;refine jq (.inl rfl) rfl rfl [fw p q7] (⟨p,rfl,rfl⟩) (w6 (List.replicate 32 ⟨none,0,[]⟩) ⟨rfl,λj O=>by rw[ag8,iW,S3,bg O];exact .refl _⟩ (λh s=>Sat.swap (by rw[nF,ag8];exact aps 32 (λD=>jc) h s)))
def ami:ab E 309 [ptr p 0] [fw p w] (aH (af w.now) [fw p w]):=by
 refine kq Tryz.func309 rfl rfl rfl ?_;refine Kl ?_;intro H D z K;replace K:nS w z:=K;have hlen:=K.hlen;refine af5 ?_;refine J8 ?_;refine oI ?_;exact aqR
def aBy(t:bM)(b:Nat)(hk:k<=100000):ab E 408 [af l,af s,af i,.agg (te t).toArray,ptr b 0] [aa b 3 [af k]] (aH hI [aa b 3 [af ((k+1:Nat):Int)]]):=by
 refine kq Tryz.func408 rfl rfl rfl ?_;refine vh ?_;intro H D;refine afM ?_;intro Z;refine aB rfl (fy ((k+1:Nat):Int) ff rfl rfl) ?_;refine afH ?_;refine jq (.inl rfl) rfl rfl _ (cj) (au)
def aBz(R:jZ w):ab E 368 [ptr p 0] [fw p w] (aH (af w.T.length) [fw p w]):=by
 refine kq Tryz.func368 rfl rfl rfl ?_;intro H D;simp only[wl,DW,gx,mO,lo,Nat.reduceAdd,ck,ci];refine kK eP ?_;rintro z K;replace K:nS w z:=K;have hlen:=K.hlen;have aA:=K.aA R;simp only[ck,ci];have T:=K.flat.length_eq;have aj:=R.len;refine hy ?_;refine jg ?_;refine aB rfl (mq rfl) ?_;refine ie ?_;refine hz ?_;refine hy ?_;refine jg ?_;refine jn rfl (tN) ?_;rintro _ _ ⟨ay,rfl,rfl⟩
 first|refine ko (mo rfl rfl rfl rfl) ?_|refine ko (s7 rfl rfl rfl (by first|assumption|omega|simp)) ?_
 refine ie ?_;refine hz ?_;refine hy ?_;refine jg ?_;refine aB rfl (j3 rfl) ?_;refine aB rfl (KH (xs:=[]) (V:=[.tmp 3]) rfl rfl) ?_;refine cn rfl (b9 rfl (TH (g:=408) [ptr ay 0] (λk=>aa ay 3 [af k]) (λ_=>true) p w.now w.seq z hlen aA (λl s i x t aw ai ah U g2=>aBy l s i _ t ay (by have:=(dp.1 (LM ah U)).1;omega))) bN) ?_;rintro _ D ⟨_,⟨rfl,k,hk,rfl⟩,rfl⟩
 try simp only[ck,ci]
 obtain rfl:k=w.T.length:=by
  rcases hk with⟨rfl,_⟩|⟨_,_,_,_,_,_,_,_,_,_,_,h⟩
  . rw[QL hlen,T]
  . cases h
 refine ie ?_;refine hz ?_;refine hy ?_;refine jg ?_
 first|refine aB rfl (o_load rfl rfl) ?_|refine aB rfl (gF rfl rfl) ?_|refine aB rfl (uX rfl) ?_
 refine aB rfl (mq rfl) ?_;refine ie ?_;refine hz ?_;refine oI ?_;refine jq (.inl rfl) rfl rfl [fw p w] (⟨rfl,rfl⟩) (w6 z K (au))
def FQ:al:=dq (bv:=Option Addr×Nat) (λ_=>True) (λx=>[aa b 282 [.slice x.1 k x.2],own (.slice x.1 k x.2) 336 3 k (((z.flatMap (·.l)).take k).flatMap te)])
def aBA{m:List bM}{i:Nat}{t:bM}(h:m[i]?=some t):(m.take (i+1)).flatMap te=(m.take i).flatMap te++te t:=by
 obtain⟨ak,e⟩:=dp.1 h;rw[nv ak,e,qU];simp
def aBB(t:bM)(b:Nat)(hk:k<=100000)(U:(z.flatMap (·.l))[k]?=some t):ab E 256 [af l,af s,af i,.agg (te t).toArray,ptr b 0] [FQ z b k] (aH hI [FQ z b (k+1)]):=by
 refine kq Tryz.func256 rfl rfl rfl ?_;refine vh ?_;intro H D;refine kK (fO:=λ_=>True) eP ?_;rintro⟨a,c⟩ -;refine gh ?_;refine afM ?_;intro Z;refine aB rfl (zB rfl (cg:=te t) rfl rfl) ?_;refine acQ ?_;rintro _ _ ⟨J,rfl,rfl⟩;refine JV ?_;rintro _ _ ⟨d,e,rfl,rfl⟩;rw[<-aBA U];refine afH ?_;refine jq (.inl rfl) rfl rfl [FQ z b (k+1)] (cj) (cE (d,e) trivial (au))
end
end Go.Proofs.YtnnhpnccfnghdaaGreat.L
namespace Go.Proofs.YtnnhpnccfnghdaaGreat.L
open Go.L Go.L.dP
attribute[local irreducible] G cJ GE c3 GT b1 dk c7 ds Exit.then Exit.inBlock
section
variable(n self:Nat)(a:Option Addr)(c:Nat)(l:List Nat)
abbrev pP:List Value:=l.map λw=>af ((w:Nat):Int)
abbrev ju:al:=own (.slice a l.length c) 3 1 l.length (pP l)
def aqt:∀x∈pP l,x.oneCell'=true:=λx ah=>by
 obtain⟨t,_,h⟩:=lN.1 ah;subst h;rfl
def YM{a:Option Addr}{c n:Nat}{m:List Nat}{t:Nat}(h:m.length=n):own (.slice a (n+1) c) 3 1 (n+1) (pP m++[af (t:Int)])=ju a c (m++[t]):=by subst h;simp only[ju,pP,oY,eZ];rfl
def aqu{b c i m:Nat}{l:List Nat}{D:List al}(ak:i<l.length)(V:List Value):∀H,Sat (own (.slice (some ⟨b,0,none⟩) l.length c) 3 1 l.length (((pP l).take (i*1)++(pP l).drop ((i+1)*1)++(pP l).drop ((l.length -1)*1)).take ((l.length -1)*1)++iV V m)::D) H->Sat (ju jA c (l.eraseIdx i)::D) H:=λH s=>by
 have h1:=HE (k:=l.length -1) ad H s;have aC:((pP l).take (i*1)++(pP l).drop ((i+1)*1)).length=(l.length -1)*1:=h9;rw[DY aC,DY aC,uo,uo,<-YN]at h1;have bF:l.length -1=(l.eraseIdx i).length:=Oo;have dx:(pP l).eraseIdx i=pP (l.eraseIdx i):=by simp[pP,YN,List.map_take,List.map_drop]
 rw[dx,bF]at h1;exact h1
def Xn{l:List Nat}{i y:Nat}(h:l[i]?=some y):(pP l)[i*1]?=some (af (y:Int)):=by simp[pP,h]
def aqv{l:List Nat}{e y:Nat}(h:l[e%l.length]?=some y):n4 l.length e l=[y]++n4 (l.length -1) (e/l.length) (l.eraseIdx (e%l.length)):=by
 cases l with
 |nil=>simp at h
 |cons x t=>simp only[iG]at h⊢;rw[n4,h];rfl
def Oq(i self:Nat):mV (i+1) self=if i=self then mV i self else mV i self++[i]:=by
 unfold mV;rw[List.range_succ,yS];by_cases h:i=self<;>simp[h]
def YO(h:self<n):(mV n self).length=n -1:=by
 suffices H:∀n,(mV n self).length=if self<n then n -1 else n by rw[H,bg h]
 intro n;induction n with
 |zero=>rfl
 |succ n L=>rw[Oq];split<;>simp[L]<;>(repeat' split)<;>omega
theorem aqw(i:Nat)(l:List Nat)(ak:i<l.length)(aA:l.length<=1000):
 ab E 190 [.slice a l.length c,af i,af ((i+1:Nat):Int)] [ju a c l] (aH (.slice a (l.length -1) c) [ju a c (l.eraseIdx i)]):=by
 refine av Tryz.func190 λH D=>?_;refine yi (AX (show 0<l.length by omega)) ?_;rintro⟨b,rfl,d⟩;replace d:l.length<=c:=d;refine dB ?_;refine aB rfl (XN rfl rfl rfl rfl ad ad d) ?_;refine ct ?_;refine aB rfl (fS (c:=false) h9 (mY rfl rfl)) ?_;refine fB ?_;refine cw [] [6,201,1] [] ?_;refine bb ?_;refine go_v rfl .none rfl (th rfl rfl ad) ?_;refine bb ?_;refine go_v rfl .none rfl (DT rfl rfl ad) ?_;refine go_n rfl .none rfl (XR (k:=l.length) (j:=i+1) (aZ:=1) rfl rfl ad ad d (aqt l)) ?_;rintro _ _ ⟨rfl,rfl⟩;rw[show i+(l.length -(i+1))=l.length -1 by omega];refine dh ?_;refine aB rfl (XO rfl rfl rfl ad ad) ?_;refine AY (NO (k:=l.length -1) (m:=l.length -(l.length -1)) (show l.length -1+(l.length -(l.length -1))=l.length by omega) rfl ad YP) ?_;rintro _ _ ⟨rfl,rfl⟩;refine dh ?_;exact aQ (I:=[ju jA c (l.eraseIdx i)]) cj (aqu ak _)
theorem aqx(aO:n<=8)(ai:self<n):
 ab E 189 [af n,af self] [] (λu I=>∃a c,u=.slice a (n -1) c/\I=[ju a c (mV n self)]):=by
 refine av Tryz.func189 λH D=>?_;refine gd ?_;refine cP ?_;refine bR ?_;refine cP ?_;refine bE ?_;refine cP ?_;refine ct ?_;refine cP ?_;refine bQ ?_;refine nu (jc (e:=3) (aZ:=1)) ?_;refine bj ?_;refine hb (bv:=Nat×Option Addr×Nat) (λe=>e.1<=n) (λe=>[(23,af e.1),(5,.slice e.2.1 (mV e.1 self).length e.2.2),(22,af n),(1,af self)]) (λe=>ju e.2.1 e.2.2 (mV e.1 self)::D) (λe=>n -e.1) (0,none,0) (fk _) eb (au) ?_;rintro⟨i,a,c⟩ ak;replace ak:i<=n:=ak;have j:(mV i self).length<=8:=mZ (qm _ _) yV;dsimp only;refine bj ?_;refine ch (λW=>?_) (λW=>?_)
 . refine eY ?_
   refine bb ?_;refine ch (λM=>?_) (λM=>?_)
   . have aJ:mV (i+1) self=mV i self++[i]:=by rw[Oq,a7 (by have:=M;omega)]
     refine b2 ?_;refine wn λf=>?_;refine gj λb d=>?_;refine bQ ?_;refine gg (i+1,b,d) (show i+1<=n by omega) (show n -(i+1)<n -i by omega) (bd.cons rfl (bd.cons (by dsimp only;rw[aJ,eZ];rfl) eb)) (by dsimp only;rw[aJ,<-YM rfl];exact(au))
   . have aJ:mV (i+1) self=mV i self:=by rw[Oq,bg (by have:=M;omega)]
     refine ct ?_;refine gg (i+1,a,c) (show i+1<=n by omega) (show n -(i+1)<n -i by omega) (bd.cons rfl (bd.cons (by dsimp only;rw[aJ];rfl) eb)) (by dsimp only;rw[aJ];exact(au))
 . refine fB ?_
   exact aQ (I:=[ju a c (mV n self)]) ⟨a,c,by rw[show i=n by omega,YO n self ai],rfl⟩ (by rw[show i=n by omega];exact(au))
theorem aoG(d n self:Nat)(aS:d<18446744073709551616)(aO:n<=8)(ai:self<n):
 ab E 133 [bx d,af n,af self] [] (λu I=>∃a c,u=.slice a (order d n self).length c/\I=[ju a c (order d n self)]):=by
 refine av Tryz.func133 λH D=>?_;refine cB ?_;refine bu (aqx n self aO ai) ?_;rintro _ _ ⟨a,c,rfl,rfl⟩;refine eM ?_;refine bR ?_;have hlen:=YO n self ai;rw[<-hlen];refine nu (jc (e:=3) (aZ:=1)) ?_;refine bj ?_;refine hb (bv:=(List Nat×Nat×List Nat)×(Option Addr×Nat)×(Option Addr×Nat)) (λe=>e.1.1.length+e.1.2.2.length<=8/\e.1.2.1<18446744073709551616/\order d n self=e.1.2.2++n4 e.1.1.length e.1.2.1 e.1.1) (λe=>[(7,.slice e.2.1.1 e.1.1.length e.2.1.2),(8,.slice e.2.2.1 e.1.2.2.length e.2.2.2),(0,bx e.1.2.1)]) (λe=>ju e.2.1.1 e.2.1.2 e.1.1::ju e.2.2.1 e.2.2.2 e.1.2.2::D) (λe=>e.1.1.length) ((mV n self,d,[]),(a,c),(none,0)) (⟨by show(mV n self).length+0<=8;omega,aS,by rw[ci,order,<-hlen]⟩) eb (au) ?_;rintro⟨⟨l,e,out⟩,⟨a,c⟩,⟨cC,bq⟩⟩ ⟨f,Y,b⟩;replace f:l.length+out.length<=8:=f;replace Y:e<18446744073709551616:=Y;replace b:order d n self=out++n4 l.length e l:=b;dsimp only;refine bQ ?_;refine ch (λW=>?_) (λW=>?_)
 . have bf:e%l.length<l.length:=yK _ ad
   obtain⟨y,ag⟩:∃y,l[e%l.length]?=some y:=⟨_,cD bf⟩;refine ct ?_;refine aB rfl (pD ((l.length:Nat):Int) (tk ad) rfl) ?_;refine ct ?_;refine aB rfl (tm ((e%l.length:Nat):Int) (Bb _ _) rfl rfl ad) ?_;refine aB rfl (pD ((e%l.length:Nat):Int) (jz ad) rfl) ?_;refine ct ?_;refine aB rfl (GH ((e/l.length:Nat):Int) (by rw[<-Int.ofNat_tdiv];exact tk (by have:=Nat.div_le_self e l.length;generalize e/l.length=F at this⊢;omega)) rfl rfl ad) ?_;refine bQ ?_;refine aB rfl (gf rfl rfl bf) ?_;refine aB rfl (gF rfl (Xn ag)) ?_;refine wn λj=>?_;refine gj λg i=>?_;refine ct ?_;refine aB rfl (fy ((e%l.length+1:Nat):Int) ff rfl rfl) ?_;refine cn rfl (b9 rfl (aqw a c (e%l.length) l bf ad) bN) ?_;refine gU ?_;refine pC ?_;refine gg ((l.eraseIdx (e%l.length),e/l.length,out++[y]),(a,c),(g,i)) ⟨by show(l.eraseIdx _).length+(out++[y]).length<=8;rw[Ie,bg bf,eZ];simp;omega,YQ (Nat.div_le_self _ _) Y,by show order d n self=out++[y]++n4 (l.eraseIdx (e%l.length)).length _ _;rw[b,Ie,bg bf,jI];exact congrArg _ (aqv ag)⟩ (by show(l.eraseIdx _).length<l.length;rw[Ie,bg bf];omega) (bd.cons (by dsimp only;rw[Ie,bg bf];rfl) (bd.cons uP eb)) (by dsimp only;rw[<-YM rfl];exact(au))
 . refine fB ?_
   exact aQ (I:=[ju cC bq out]) ⟨cC,bq,by rw[b,show l.length=0 by omega];simp[n4],by rw[b,show l.length=0 by omega];simp[n4]⟩
end
end Go.Proofs.YtnnhpnccfnghdaaGreat.L
namespace Go.Proofs.YtnnhpnccfnghdaaGreat.L
open Go.L
attribute[local irreducible] G cJ GE c3 GT b1 dk c7 ds Exit.then Exit.inBlock
section
variable(q F:Nat)(a:Option Addr)(dv:List Int)(c:Nat)(l:List Int)
abbrev iL:List Value:=l.map bx
abbrev ul:Value:=.slice a l.length c
abbrev fH:al:=own (ul a c l) 36 1 l.length (iL l)
def fJ(O:List Int):al:=dq (bv:=Option Addr×Nat×Option Addr×Nat) (λ_=>True) (λe=>[aa q 164 [af F,ul e.1 e.2.1 dv,ul e.2.2.1 e.2.2.2 O],fH e.1 e.2.1 dv,fH e.2.2.1 e.2.2.2 O])
def KO{a:Option Addr}{c n:Nat}{m:List Int}{t:Int}(h:m.length=n):own (.slice a (n+1) c) 36 1 (n+1) (iL m++[bx t])=fH a c (m++[t]):=by subst h;simp only[fH,ul,iL,oY,eZ];rfl
def arn(r:Int)(aF:-9223372036854775808<=r/\r<=9223372036854775807):ab E 114 [af r] [] (λu I=>∃q,u=ptr q 0/\I=[fJ q (min (max r 0) 64).toNat [] []]):=by
 refine av Tryz.func114 λH D=>?_;refine bQ ?_;refine aB rfl (s9 (max r 0) ad rfl rfl) ?_;refine aB rfl (ta (min (max r 0) 64) ad rfl rfl) ?_;refine aG ?_;refine wn λbV=>?_;refine bE ?_;exact aQ ⟨bV,rfl,rfl⟩ (cE (none,0,none,0) trivial (by rw[show(((min (max r 0) 64).toNat:Nat):Int)=min (max r 0) 64 by omega];exact λh s=>Sat.tail (λh s=>jc h (jc h s)) s))
def ar1(aF:F<=64)(dv O:List Int)(x:Int):ab E 291 [ptr q 0,bx x] EB (aH (af (if F<=dv.length then 4 else 0)) [fJ q F (if F<=dv.length then dv else dv++[x]) O]):=by
 refine av Tryz.func291 λH D=>?_;refine BP ?_;intro cu c1 cC bq;refine ct ?_;refine cw [] [10] [aa q 164 [af F,ul cu c1 dv,ul cC bq O]] ?_;refine dB ?_;refine ch (λW=>?_) (λW=>?_)
 . have a6:F<=dv.length:=by omega
   refine bQ ?_;exact aQ (I:=[fJ q F dv O]) ⟨by rw[bg a6],by rw[bg a6]⟩ (cE (cu,c1,cC,bq) trivial (au))
 . have a6:¬F<=dv.length:=by omega
   refine dh ?_;refine wn λc=>?_;refine gj λa22 b=>?_;refine dB ?_;exact aQ (I:=[fJ q F (dv++[x]) O]) ⟨by rw[a7 a6],by rw[a7 a6]⟩ (cE (a22,b,cC,bq) trivial (by dsimp only;rw[<-KO rfl,show ul a22 b (dv++[x])=.slice a22 (dv.length+1) b from by simp[ul]];exact(au)))
def auj:ab E 237 [ptr q 0] [fJ q F dv []] (aH (.tuple #[bx 0,.bool false]) [fJ q F dv []]):=by
 refine av Tryz.func237 λH D=>?_;refine BP ?_;intro cu c1 cC bq;refine gq ?_;refine uG ?_;refine dB ?_;exact aQ ⟨rfl,rfl⟩ (cE (cu,c1,cC,bq) trivial (au))
def auk(x:Int)(aw:l.length<=1099511627776):ab E 237 [ptr q 0] [fJ q F dv (l++[x])] (aH (.tuple #[bx x,.bool true]) [fJ q F dv l]):=by
 refine av Tryz.func237 λH D=>?_;refine BP ?_;intro cu c1 cC bq;refine yi (λh s=>AX gl h (hJ.to (A:=fH cC bq (l++[x])) eP s)) ?_;rintro⟨b,rfl,d⟩;have aO:(l++[x]).length=l.length+1:=gl;rw[aO]at d;have ah:(iL (l++[x]))[l.length*1]?=some (bx x):=by simp[iL]
 rw[show ul (some ⟨b,0,none⟩) bq (l++[x])=.slice (some ⟨b,0,none⟩) (l.length+1) bq by rw[ul,aO],show fH (some ⟨b,0,none⟩) bq (l++[x])=own (.slice (some ⟨b,0,none⟩) (l.length+1) bq) 36 1 (l.length+1) (iL (l++[x])) by rw[fH,ul,aO]];refine gq ?_;refine cP ?_;refine dB ?_;refine aB rfl (kl ((l.length:Nat):Int) ff rfl rfl) ?_;refine ED ?_;refine aB rfl (gF rfl ah) ?_;refine c4 ?_;refine aB rfl (kl ((l.length:Nat):Int) ff rfl rfl) ?_;refine aB rfl (th rfl rfl ad) ?_;refine gd ?_;exact aQ ⟨rfl,rfl⟩ (cE (cu,c1,some ⟨b,0,none⟩,bq) trivial (λh s=>Sat.tail (λg t=>Sat.tail (λg t=>by have:=HE (b:=b) (C:=bq) (e:=36) (aZ:=1) (xs:=iL (l++[x])) (D:=D) (k:=l.length) (io _) g t;rw[show(iL (l++[x])).take (l.length*1)=iL l by simp[iL]]at this;exact this) t) ((au) h s)))
end
end Go.Proofs.YtnnhpnccfnghdaaGreat.L
namespace Go.L
abbrev lj:=List UInt8
abbrev ow(l:lj):Value:=.string ⟨l.toArray⟩
def ii(r:Nat)(m:List (lj×Value)):al:=λh=>∃es b,h r=some (.map es b)/\es.toList.map (λe=>(e.key,e.val))=m.map (λp=>(ow p.1,p.2))
def uh{z:Type}(m:List (lj×z))(k:lj):Option z:=
 match m with
 |[]=>none
 |(j,v)::r=>if k=j then some v else uh r k
def o8{z:Type}(m:List (lj×z))(k:lj)(v:z):List (lj×z):=
 match m with
 |[]=>[(k,v)]
 |(j,u)::r=>if k=j then(k,v)::r else(j,u)::o8 r k v
def sj{z:Type}(m:List (lj×z))(k:lj):List (lj×z):=
 match m with
 |[]=>[]
 |(j,u)::r=>if k=j then r else(j,u)::sj r k
def lV{z:Type}(m:List (Int×z))(k:Int):List (Int×z):=
 match m with
 |[]=>[]
 |(j,u)::r=>if k=j then r else(j,u)::lV r k
class ug(r:Nat)(M:List al)(m:outParam (List (lj×Value)))(u:outParam (List (lj×Value)->List al)):Prop where
 get:∀{h:eQ},Sat M h->∃es b,h r=some (.map es b)/\es.toList.map (λe=>(e.key,e.val))=m.map (λp=>(ow p.1,p.2))
 set:∀{h:eQ} (q:List (lj×Value)) (es:Array MapEntry) (b:Nat),Sat M h->es.toList.map (λe=>(e.key,e.val))=q.map (λp=>(ow p.1,p.2))->Sat (u q) (j0 h r (.map es b))
instance ug.head{r:Nat}{m:List x1}{D:List al}:ug r (ii r m::D) m (λq=>ii r q::D)where
 get:=fun⟨_,_,_,e,⟨es,c,h1,h2⟩,_⟩=>⟨es,c,e▸join_some h1,h2⟩
 set:=λq es b ⟨h1,h2,d,e,⟨a,eA,cR,_⟩,aF⟩ Y=>by
  subst e;obtain⟨aC,d1⟩:=uA (S:=.map es b) cR d;exact⟨_,h2,d1,aC,⟨es,b,by simp[j0],Y⟩,aF⟩
instance ug.tail{r:Nat}{A:al}{m:List x1}{D:List al}{u:List x1->List al}[i:ug r D m u]:ug r (A::D) m (λq=>A::u q)where
 get:=λs=>i.get uB
 set:=λq es b ⟨h1,h2,d,e,aX,aF⟩ Y=>by
  subst e;obtain⟨a,eA,cR,_⟩:=i.get aF;obtain⟨aC,d1⟩:=uA (S:=.map es b) cR d.symm;refine⟨h1,_,d1.symm,?_,aX,i.set q es b aF Y⟩;rw[join_comm d,aC,join_comm d1]
class CM(P:Program)(t:TypeId)(F:outParam Value):Prop where
 out:∃k e i,P.underlying t=some (.map k e)/\P.underlying k=some .string/\P.info? e=some i/\i.zero=some F
section
variable{P:Program}{H w:World}{n:Nat}{J:e6}{M:List al}{bH:TypeId}
section
variable(a b:lj){t D:TypeId}{x y:Operand}{F:Value}{r:Nat}{k:lj}{m:List (lj×Value)}{u:List (lj×Value)->List al}
def D0{k:TypeId}(h:P.underlying k=some .string)(b:Bool)(d:Nat)(x:ByteArray)(w:World):(Instr.checkKey b (d+1) k (.string x)).run P w=.ok () w:=by
 simp[Instr.checkKey,gG h]
def YY:((⟨a.toArray⟩:ByteArray)==⟨b.toArray⟩)=decide (a=b):=by
 show(a.toArray==b.toArray)=_;rw[o0,beq_iff_eq,ln];exact⟨λh=>by simpa using h,λh=>by rw[h]⟩
def aqE:Instr.sameNow .string (ow a) (ow b)=some (decide (a=b)):=by
 simp only[Instr.sameNow,YY]
def Ij(x:lj):∀(es:List MapEntry) (m:List (lj×Value)) (i:Nat),es.map (λe=>(e.key,e.val))=m.map D1->
 ∃
  o,Instr.findNow .string (ow x) es i=some o/\o.map (·.2)=uh m x/\(∀j v,o=some (j,v)->i<=j/\∃e,es[j -i]?=some e/\e.key=ow x/\
  (∀v',(es.modify (j -i) λe=>{e with key:=ow x,val:=v'}).map If=(o8 m x v').map D1)/\
  (es.eraseIdx (j -i)).map If=(sj m x).map D1)/\
  (o=none->o8 m x=(λv'=>m++[(x,v')])/\sj m x=m)
 |
  [],m,i,h=>by
  have:m=[]:=Ov;subst this;exact⟨none,rfl,rfl,by simp,λ_=>cj⟩
 |
  e::es,m,i,h=>by
  obtain⟨⟨j,u⟩,q,rfl⟩:∃p q,m=p::q:=by cases m with
   |nil=>simp at h
   |cons p q=>exact⟨p,q,rfl⟩
  simp only[gx,List.cons.injEq,Prod.mk.injEq]at h;obtain⟨⟨h1,h2⟩,aN⟩:=h;have ai:Instr.sameNow .string (ow x) e.key=some (decide (x=j)):=by rw[h1];exact aqE x j
  by_cases ah:x=j
  . subst ah
    rw[lM rfl]at ai;refine⟨some (i,e.val),by simp[Instr.findNow,ai],by simp[uh,h2],?_,by simp⟩;intro a v Y;simp only[Option.some.injEq,Prod.mk.injEq]at Y;obtain⟨rfl,rfl⟩:=Y;exact⟨et _,e,by simp,h1,λv'=>by simp[o8,aN],by simp[sj,aN]⟩
  . rw[mJ ah]at ai
    obtain⟨o,W,cU,em,gc⟩:=Ij x es q (i+1) aN;refine⟨o,by simp[Instr.findNow,ai,W],by simp[uh,ah,cU],?_,?_⟩
    . intro a v Y
      obtain⟨cR,y,b8,il,ez,f⟩:=em a v Y;have aC:a -i=(a -(i+1))+1:=ad;refine⟨by omega,y,by rw[aC];simpa using b8,il,λv'=>?_,?_⟩
      . rw[aC];simp[o8,ah,h1,h2,ez v']
      . rw[aC];simp[sj,ah,h1,h2,f]
    . intro aJ
      obtain⟨hm,G⟩:=gc aJ;exact⟨by funext v';simp[o8,ah,hm],by simp[sj,ah,G]⟩
theorem alx[i:CM P t F][j:ug r M m u](h:cm J x=some vR)(ag:cm J y=some (ow k)):
 b1 P H n (.lookup t x y false) bH J M ((uh m k).getD F):=λa w d pos N g ai s=>by
 obtain⟨D,cQ,z,h1,h2,aN,bA⟩:=i.out;obtain⟨es,b,W,cU⟩:=j.get s.fg;have f:w.heap[r]?=_:=W;obtain⟨o,cR,b8,_,_⟩:=Ij k es.toList m 0 cU;simp only[execOp,ai.eval h,ai.eval ag];have aY:=run_getObj_map (P:=P) w r es b f;simp[Instr.lookup,gG h1,aY,D0 h2,Instr.findKey,gG h2,cR];cases o with
 |none=>simp[vQ aN bA];simp at b8;rw[<-b8];rfl
 |some p=>simp;simp at b8;rw[<-b8];rfl
def Ow{es:Array MapEntry}{b:Nat}(g:w.heap[r]?=some (.map es b))(C:Obj):(setObj r C).run P w=.ok () {w with heap:=w.heap.setIfInBounds r C}:=by
 simp[setObj,Sem.run,g]
theorem aqF{q:Operand}{F v:Value}{r:Nat}{k:lj}{m:List x1}{u:List x1->List al}[i:CM P t F][j:ug r M m u](h:cm J x=some vR)(ag:cm J y=some (ow k))(Z:cm J q=some v):
 dk P H n (.mapUpdate t x y q) bH J M (u (o8 m k v)):=λa w d pos N g ai s=>by
 obtain⟨D,cQ,z,h1,h2,aN,bA⟩:=i.out;obtain⟨es,b,W,cU⟩:=j.get s.fg;have f:w.heap[r]?=_:=W;obtain⟨o,cR,b8,il,ez⟩:=Ij k es.toList m 0 cU;have aY:=run_getObj_map (P:=P) w r es b f;have B:=Ow (P:=P) f;have fin:∀(l:Array MapEntry) (c:Nat),l.toList.map (λe=>(e.key,e.val))=(o8 m k v).map D1->dt H (u (o8 m k v)) Ig:=λl c Y=>
  ⟨s.os,s.tape,s.output,by have:=s.size;simpa using this,by rw[Dq _ W];exact j.set _ _ _ s.fg Y⟩
 simp only[execOp,ai.eval h,ai.eval ag,ai.eval Z];cases o with
 |
  none=>
  refine⟨_,?_,fin (es.push {key:=ow k,val:=v,born:=b}) (b+1) (by rw[(ez rfl).1];simp[cU])⟩;simp[Instr.mapUpdate,gG h1,aY,D0 h2,Instr.findKey,gG h2,cR,B]
 |
  some p=>
  obtain⟨R,v0⟩:=p;obtain⟨_,e,aC,aV,bF,_⟩:=il R v0 rfl;simp only[Dl]at aC bF;refine⟨_,?_,fin (es.modify R λe=>{e with key:=ow k,val:=v}) b YS⟩;have L:es[R]?=some e:=by simpa using aC
  simp[Instr.mapUpdate,gG h1,aY,D0 h2,Instr.findKey,gG h2,cR,B,L,aV,Instr.keyThatStays,Instr.sameBits,YY]
theorem aqG[i:CM P t F][j:ug r M m u](h:cm J x=some vR)(ag:cm J y=some (ow k)):
 c7 P H n YZ bH J M (λv I=>v=.tuple #[]/\I=u (sj m k)):=λa w d pos N g ai s=>by
 obtain⟨q,cQ,z,h1,h2,aN,bA⟩:=i.out;obtain⟨es,b,W,cU⟩:=j.get s.fg;have f:w.heap[r]?=_:=W;obtain⟨o,cR,b8,il,ez⟩:=Ij k es.toList m 0 cU;have aY:=run_getObj_map (P:=P) w r es b f;have B:=Ow (P:=P) f;have fin:∀(l:Array MapEntry) (c:Nat),l.toList.map (λe=>(e.key,e.val))=(sj m k).map D1->dt H (u (sj m k)) Ig:=λl c Y=>
  ⟨s.os,s.tape,s.output,by have:=s.size;simpa using this,by rw[Dq _ W];exact j.set _ _ _ s.fg Y⟩
 simp only[execOp,resolve,oM,gx,mO,ai.eval h,ai.eval ag];cases o with
 |
  none=>
  refine⟨_,_,_,?_,cj,fin es b (by rw[(ez rfl).2];exact cU)⟩;simp[invoke,builtin,Builtin.delete_,gG h1,aY,D0 h2,Instr.findKey,gG h2,cR,B]
 |
  some p=>
  obtain⟨R,v0⟩:=p;obtain⟨_,e,aC,aV,_,dx⟩:=il R v0 rfl;simp only[Dl]at aC dx;refine⟨_,_,_,?_,cj,fin (es.eraseIdxIfInBounds R) b (by simpa[Array.eraseIdxIfInBounds,show R<es.size by simpa using(dp.1 aC).1]using dx)⟩;simp[invoke,builtin,Builtin.delete_,gG h1,aY,D0 h2,Instr.findKey,gG h2,cR,B]
def Y0(d9:IntKind)(x:Int):∀(es:List MapEntry) (m:List (Int×Value)) (i:Nat),es.map (λe=>(e.key,e.val))=m.map Bi->
 ∃o,Instr.findNow (.int d9) (.int d9 x) es i=some o/\(∀j v,o=some (j,v)->i<=j/\j -i<es.length/\(es.eraseIdx (j -i)).map If=(lV m x).map Bi)/\(o=none->lV m x=m)
 |
  [],m,i,h=>by
  have:m=[]:=Ov;subst this;exact⟨none,rfl,by simp,λ_=>rfl⟩
 |
  e::es,m,i,h=>by
  obtain⟨⟨j,u⟩,q,rfl⟩:∃p q,m=p::q:=by cases m with
   |nil=>simp at h
   |cons p q=>exact⟨p,q,rfl⟩
  simp only[gx,List.cons.injEq,Prod.mk.injEq]at h;obtain⟨⟨h1,h2⟩,aN⟩:=h;have ai:Instr.sameNow (.int d9) (.int d9 x) e.key=some (x==j):=by rw[h1];simp[Instr.sameNow]
  by_cases ah:x=j
  . subst ah
    refine⟨some (i,e.val),by simp[Instr.findNow,ai],?_,by simp⟩;intro a v Y;simp only[Option.some.injEq,Prod.mk.injEq]at Y;obtain⟨rfl,rfl⟩:=Y;exact⟨et _,by simp,by simp[lV,aN]⟩
  . have aA:(x==j)=false:=by simpa using ah
    obtain⟨o,W,em,gc⟩:=Y0 d9 x es q (i+1) aN;refine⟨o,by simp[Instr.findNow,ai,aA,W],?_,?_⟩
    . intro a v Y
      obtain⟨cR,b8,f⟩:=em a v Y;have aC:a -i=(a -(i+1))+1:=ad;refine⟨by omega,by simp;omega,?_⟩;rw[aC];simp[lV,ah,h1,h2,f]
    . intro aJ;simp[lV,ah,gc aJ]
theorem Ox{d9:IntKind}{F:Value}{r:Nat}{k:Int}{m:List (Int×Value)}{u:List (Int×Value)->List al}[i:se P t d9 F][j:uY r M d9 m u](h:cm J x=some vR)(ag:cm J y=some (.int d9 k)):
 c7 P H n YZ bH J M (λv I=>v=.tuple #[]/\I=u (lV m k)):=λa w d pos N g ai s=>by
 obtain⟨q,cQ,z,h1,h2,aN,bA⟩:=i.out;obtain⟨es,b,W,cU⟩:=j.get s.fg;have f:w.heap[r]?=_:=W;obtain⟨o,cR,il,ez⟩:=Y0 d9 k es.toList m 0 cU;have aY:=run_getObj_map (P:=P) w r es b f;have B:=Ow (P:=P) f;have fin:∀(l:Array MapEntry) (c:Nat),l.toList.map (λe=>(e.key,e.val))=(lV m k).map Bi->dt H (u (lV m k)) Ig:=λl c Y=>
  ⟨s.os,s.tape,s.output,by have:=s.size;simpa using this,by rw[Dq _ W];exact j.set _ _ _ s.fg Y⟩
 simp only[execOp,resolve,oM,gx,mO,ai.eval h,ai.eval ag];cases o with
 |
  none=>
  refine⟨_,_,_,?_,cj,fin es b (by rw[ez rfl];exact cU)⟩;simp[invoke,builtin,Builtin.delete_,gG h1,aY,run_checkKey h2,Instr.findKey,gG h2,cR,B]
 |
  some p=>
  obtain⟨R,v0⟩:=p;obtain⟨_,aC,dx⟩:=il R v0 rfl;simp only[Dl]at aC dx;refine⟨_,_,_,?_,cj,fin (es.eraseIdxIfInBounds R) b (by simpa[Array.eraseIdxIfInBounds,show R<es.size by simpa using aC]using dx)⟩;simp[invoke,builtin,Builtin.delete_,gG h1,aY,run_checkKey h2,Instr.findKey,gG h2,cR,B]
def aqH{b:Nat}{D:List al}:∀h,Sat (eD b (.map #[] 0)::D) h->Sat (ii b []::D) h:=λ_=>Sat.head λ_ co=>⟨#[],0,co,rfl⟩
end
end
abbrev S(l:List UInt8):Value:=.string ⟨l.toArray⟩
def auB(l:List UInt8):(ByteArray.mk l.toArray).size=l.length:=by simp[ByteArray.size]
section
variable{P:Program}{H w:World}{n:Nat}{J:e6}{M:List al}{bH:TypeId}
section
variable{t dr:TypeId}{x y:Operand}{l m:List UInt8}
def RF{t:TypeId}{l:List UInt8}[i:A4 P t](h:cm J x=some (S l)):b1 P H n Ob bH J M (.int .i64 l.length):=λa w d pos N g ai s=>by
 simp only[execOp,resolve,oM,gx,mO,ai.eval h];simp[invoke,builtin,Builtin.len_,gG i.out,goInt,auB]
def ahf{i:Nat}{d9:IntKind}{b:UInt8}[j:A4 P t](ah:cm J x=some (S l))(ag:cm J y=some (.int d9 (i:Int)))(aA:l[i]?=some b):b1 P H n (.index t x y) bH J M (.int .u8 b.toNat):=λa w d pos N g ai s=>by
 simp only[execOp,ai.eval ah,ai.eval ag];obtain⟨ak,e⟩:=dp.1 aA;have aC:(ByteArray.mk l.toArray)[i]?=some b:=by
  rw[getElem?_pos _ _ (by simp[ByteArray.size];exact ak)];exact congrArg some e
 simp[Instr.index,asIntOf,gG j.out,aC]
def pw[i:A4 P t](ah:cm J x=some (S l))(ag:cm J y=some (S m)):b1 P H n Bk bH J M (.bool (decide (l=m))):=λa w d pos N g ai _=>by
 simp only[execOp,ai.eval ah,ai.eval ag];simp[eqGuard,binOp,Op.stringOp];rw[o0];simp
def Qp[i:A4 P t](ah:cm J x=some (S l))(ag:cm J y=some (S m)):b1 P H n Bj bH J M (.bool (!decide (l=m))):=λa w d pos N g ai _=>by
 simp only[execOp,ai.eval ah,ai.eval ag];simp[eqGuard,binOp,Op.stringOp];rw[o0];simp
end
end
section
variable{a:Option Addr}{c n aZ:Nat}
def RV(a:Option Addr)(c n:Nat)(xs:List Value):al:=λh=>Pg.jd h a c n xs
def atG{e:TypeId}{aZ:Nat}{xs:List Value}{D:List al}:∀h,Sat (own (.slice a n c) e aZ n xs::D) h->Sat (RV a c n xs::D) h:=λ_=>Sat.head λg co=>by
 refine⟨oc.rd co,?_⟩;obtain⟨_,h|⟨b,C,dJ,h1,h2,aN,bA,d3⟩⟩:=co
 . simp only[Value.slice.injEq]at h;omega
 . simp only[Value.slice.injEq]at h1;omega
def atF{x xs:List Value}(ah:x.length=aZ)(d:n=0->xs=[]){D:List al}:∀h,Sat (RV a c (n+1) (x++xs)::D) h->Sat (RV (if c=1 then a else a.map (λy:Addr=>y.add (1*aZ))) (c -1) n xs::D) h:=λ_=>Sat.head λg co=>by
 obtain⟨co,a6⟩:=co;refine⟨?_,by omega⟩;rcases co with⟨_,_,h⟩|⟨b,bY,I,C,h1,h2,aN⟩
 . omega
 . simp only[Value.slice.injEq]at h1
   obtain⟨rfl,_,rfl⟩:=h1;obtain rfl:=h2 ad;by_cases f:c=1
   . subst f
     have aO:n=0:=ad;subst aO;obtain rfl:=d rfl;rw[bg rfl];exact .inr ⟨b,bY,none,0,rfl,λ_=>rfl,λj x O=>by cases O⟩
   . rw[a7 f]
     refine .inr ⟨b,bY+aZ,none,c -1,by simp[Addr.add],λ_=>rfl,λj y O=>?_⟩;obtain⟨_,cs,e,R,cR,b8⟩:=aN (aZ+j) y (by rw[py (by omega),ah,F4];exact O);exact⟨rfl,cs,e,R,cR,by rw[nZ];exact b8⟩
end
class ib(b bY:Nat)(A:al)(v:outParam Value):Prop where
 get:∀{h:eQ},A h->∃(l:List Value) (T:TypeId) (R:Nat×Nat),h b=some (.cells l.toArray T R)/\l[bY]?=some v
instance(priority:=low) xg.part{b bY:Nat}{A:al}{v:Value}{r:List al}[i:ib b bY A v]:xg b bY (A::r) v where
 get:=fun⟨_,_,_,e,aX,_⟩=>by
  obtain⟨l,T,R,h1,h2⟩:=i.get aX;exact⟨l,T,R,e▸join_some h1,h2⟩
def jd.fV{g:eQ}{a:Option Addr}{c n:Nat}{x:Value}{xs:List Value}(h:Pg.jd g a c (n+1) (x::xs))(d:n=0->xs=[]):Pg.jd g Np (c -1) n xs:=by
 obtain⟨h1,h2,_,rfl,aX,_⟩:=atF (aZ:=1) (x:=[x]) rfl d (D:=[]) g (Sat.one h);exact Pg.jd.imp aX λb o e=>join_some e
def jd.own{h:eQ}{a:Option Addr}{c n:Nat}{e:TypeId}{aZ:Nat}{xs:List Value}(aJ:oc h qt e aZ n xs):Pg.jd h a c n xs:=by
 obtain⟨h1,h2,_,rfl,aX,_⟩:=atG (D:=[]) h (Sat.one aJ);exact Pg.jd.imp aX λb o e=>join_some e
end Go.L
