import Derived.Test.YtnnhpnccfnghdaaGreatR4
import Derived.Shelf.SlSortCmp.NoneTotal
import Derived.Ground.SlsfProg
import Derived.Shelf.SlGeneric
import Derived.Test.YtnnhpnccfnghdaaGreatProg
import Derived.Laws.BytesString
set_option linter.all false
set_option maxRecDepth 8000
set_option maxHeartbeats 1600000
namespace Go.L
open Go.Sort Go.Shelf Go.Proofs
section
variable{F w:World}{M:List aq}
def au7(w:World)(os:Array Obj):fR (grow w os)=join (fR w) (λb=>if b<w.heap.size then none else os[b -w.heap.size]?):=by
 funext b;simp only[fR,grow,join,aoL];by_cases h:b<w.heap.size
 . simp[h]
 . simp[h,Hf (Nat.le_of_not_lt h)]
def dm.grow(s:dm F M w)(os:Array Obj):dm F M (Go.Sort.grow w os):=by
 refine⟨s.os,s.tape,s.output,by have:=s.size;simp;omega,?_⟩;rw[au7];refine Sat.more (λb=>?_) s.e4;by_cases h:b<w.heap.size
 . right;simp[h]
 . left;simp[fR,Hf (Nat.le_of_not_lt h)]
def dm.ahead(s:dm F M w)(n:Nat):dm F M (Go.Sort.ahead w n):=⟨s.os,s.tape,s.output,s.size,s.e4⟩
def aiK{α:Type}[Inhabited α](enc:α->List Value)(k:Nat)(hk:∀x,(enc x).length=k)(d:Array α):flatK enc k d=(d.toList.flatMap enc).toArray:=by
 have av:(d.toList.flatMap enc).length=d.size*k:=by rw[k0 enc k hk];simp
 refine ext_get! (by simp[av]) λt R=>?_;have a:t<d.size*k:=by simpa using R
 have fd:0<k:=by
  rcases HJ k with h|h;· subst h;simp at a
  . exact h
 rw[get_flatK _ _ _ t a];have bm:t/k<d.size:=Nat.div_lt_of_lt_mul (by rw[SJ];exact a);have bf:t%k<k:=wS _ fd;have h1:d.toList[t/k]?=some d[t/k]!:=by rw[Array.getElem?_toList,getElem!_pos d _ bm,atv bm]
 have h2:(enc d[t/k]!)[t%k]?=some (enc d[t/k]!)[t%k]!:=by
  have:t%k<(enc d[t/k]!).length:=by rw[hk];exact bf
  rw[getElem!_pos (enc d[t/k]!) (t%k) this,cz this]
 have aN:=rT enc k hk h1 h2;rw[show t/k*k+t%k=t by rw[SJ];exact Nat.div_add_mod t k]at aN;have bu:t<(d.toList.flatMap enc).length:=by rw[av];exact a
 rw[cz bu]at aN;rw[getElem!_pos _ t (by simpa using bu)];simpa using(od aN).symm
theorem dm.putRow{F w:World}{b:Nat}{e:TypeId}{xs dx U:List Value}{D:List aq}(s:dm F (eB b (.cells (xs++dx).toArray e (0,0))::D) w)(av:U.length=xs.length):
 dm F (eB b (.cells (U++dx).toArray e (0,0))::D) (Go.Sort.putRow id w b 0 U.toArray):=by
 have aA:=s.heap (b:=b);refine⟨s.os,s.tape,s.output,by have:=s.size;simpa[Go.Sort.putRow,mapBlock]using this,?_⟩;have ay:putCells id 0 U.toArray (xs++dx).toArray=(U++dx).toArray:=by
  apply Array.ext_getElem?
  intro j;simp only[putCells,Array.getElem?_mapIdx,M3,yc,eX,true_and,lu,Ds];by_cases h:j<U.length
  . rw[k1 ae,k1 h,cz ae,cz h]
    simp only[nJ,bd h,id];rw[getElem!_pos _ j (by simpa using h)];simp
  . rw[pH ae,pH ae,av]
    cases dx[j -xs.length]?with
    |none=>rfl
    |some v=>simp only[nJ,a8 (show¬j<U.length from h)];rw[a8 ae]
 have aV:fR (Go.Sort.putRow id w b 0 U.toArray)=j3 (fR w) b (.cells (U++dx).toArray e (0,0)):=by
  unfold Go.Sort.putRow mapBlock;rw[wy _ (o:=.cells (xs++dx).toArray e (0,0)) aA];simp only[onCells,ay]
 rw[aV];exact kZ.set (b:=b) (o:=.cells (xs++dx).toArray e (0,0)) (.cells (U++dx).toArray e (0,0)) s.e4
theorem au8{P:Program}{r:Ren}(L:SlLaysF0.n6 P r){α:Type}[Inhabited α](k:Nat)(lw:0<k)(I:∀w,(isAgg (r.t 24)).run P w=.ok true w)(J:∀w,(Go.sizeOf (r.t 24)).run P w=.ok k w)(enc:α->List Value)(hk:∀x,(enc x).length=k)(h1:∀x,∀v∈enc x,v.oneCell'=true)
 (Z:α->α->Int)(c:SWO (ltOf Z))(g:Nat)(z:∀args w,(callFunc g args).run P w=.ok (.enter g args) w)
 (g7:∀(x y:α) (W:World),Calls P g #[.agg (enc x).toArray,.agg (enc y).toArray] W λe X=>e=.returned (.int .i64 (Z x y))/\∃q E,X=Go.Sort.grow (W.drewN q) E){v:Value}{e:TypeId}(l:List α)(hlen:l.length<4611686018427387904):
 ad P (r.f 6) [v,.func (.func g) #[] #[]] [own v e k l.length (l.flatMap enc)] (λu H=>u=.tuple #[]/\∃g6:List α,g6.Perm l/\g6.Pairwise (λa b=>ltOf Z b a=false)/\H=[own v e k l.length (g6.flatMap enc)]):=by
 intro F D w s;rw[U8]at s;obtain⟨A,t8,aL,V,⟨ah,Y⟩,K⟩:=s.e4;rcases Y with⟨rfl,aM⟩|⟨b,C,dx,rfl,o,f,R,aA⟩
 . have d:l=[]:=rY aM
   subst d;refine(Go.Proofs.AnyF.slices_SortFunc_none L none 0 _ w).mono λex X ⟨aN,bu⟩=>?_;subst bu;exact⟨_,_,aN,⟨rfl,[],.refl _,.nil,rfl⟩,s⟩
 . have mt:w.heap[b]?=some (.cells (l.flatMap enc++dx).toArray e (0,0)):=by
    have:fR w b=_:=V▸join_some (h2:=t8) aA;exact this
   have T:=aiK enc k hk l.toArray;have S:HoldsK enc k w b 0 l.toArray:=by
    intro j N;have M:j<l.length*k:=by simpa[T,k0 enc k hk]using N
    have Q:j<(l.flatMap enc).length:=by rw[k0 enc k hk];exact M
    rw[lu,T];constructor
    . simp only[World.cell?,mt,M3]
      rw[k1 Q,getElem!_pos _ j (by simpa using Q),cz Q];simp
    . simp[World.frozen?,mt]
   refine(Go.Proofs.AnyQ.slices_SortFunc L k I J enc hk h1 Z c g #[] b 0 C l.toArray w z (λm os aDO _ x y=>g7 x y _) S (W0 mt) (by simpa using hlen)).mono ?_;rintro ex X ⟨aN,p,n,os,⟨t,_,aDb⟩,aj,O⟩;have G:p.toList.Perm l:=by
    have:(p.extract 0 l.toArray.size).toList.Perm (l.toArray.extract 0 l.toArray.size).toList:=aDb;rw[<-t]at this;rw[Array.extract_size,t,Array.extract_size]at this;simpa using this
   have B:p.toList.length=l.length:=G.length_eq;have aDc:p.toList.Pairwise (λa b=>ltOf Z b a=false):=by
    rw[aiL];intro i j ak N g2;have:=aj i j (eX _) g2 (by simpa[B]using N);have fF:i<p.size:=CX;have M:j<p.size:=DR;rw[getElem!_pos p i fF,getElem!_pos p j M]at this;simpa using this
   have ec:dm F (eB b (.cells (l.flatMap enc++dx).toArray e (0,0))::D) w:=⟨s.os,s.tape,s.output,s.size,A,t8,aL,V,aA,K⟩;have s1:=(ec.ahead n).putRow (U:=p.toList.flatMap enc) (by rw[k0 enc k hk,k0 enc k hk,B]);have bP:=s1.grow os;have pi:X=Go.Sort.grow (Go.Sort.putRow id (Go.Sort.ahead w n) b 0 (p.toList.flatMap enc).toArray) os:=by
    rw[O];unfold sortWorldK putRowK;rw[aiK enc k hk]
   rw[pi];refine⟨_,_,aN,⟨rfl,p.toList,G,aDc,rfl⟩,bP.imp λ_=>Sat.head λh cl=>⟨by rw[k0 enc k hk,B],.inr ⟨b,C,dx,rfl,?_,f,R,cl⟩⟩⟩;rw[eL,k0 enc k hk,B];rw[eL,k0 enc k hk]at o;exact o
end
end Go.L
namespace Go.Proofs
open Go.Shelf
def Tryz.aCT:Go.Shelf.Ren:=⟨fun|6=>314|15=>371|14=>370|28=>417|29=>418|20=>409|21=>410|22=>411|23=>412|24=>413|25=>414|26=>415|27=>416|46=>437|47=>438|48=>439|49=>440|50=>441|57=>451|n=>n,fun|22=>282|24=>336|25=>370|3=>3|39=>401|0=>0|53=>423|55=>36|4=>4|46=>417|45=>416|50=>386|5=>5|9=>9|66=>425|70=>428|76=>430|77=>413|n=>n,fun|n=>n⟩
def Tryz.aCU:Go.Proofs.SlLaysF0.n6 Tryz.prog Tryz.aCT:={
 mixed:=by kernel_rfl
 f6:=⟨Tryz.f314.name,by decide,Tryz.func314.trans (congrArg some (by kernel_rfl))⟩
 f14:=⟨Tryz.f370.name,by decide,Tryz.func370.trans (congrArg some (by kernel_rfl))⟩
 f15:=Tryz.func371.trans (congrArg some (by kernel_rfl))
 f20:=⟨Tryz.f409.name,by decide,Tryz.func409.trans (congrArg some (by kernel_rfl))⟩
 f21:=⟨Tryz.f410.name,by decide,Tryz.func410.trans (congrArg some (by kernel_rfl))⟩
 f22:=⟨Tryz.f411.name,by decide,Tryz.func411.trans (congrArg some (by kernel_rfl))⟩
 f23:=⟨Tryz.f412.name,by decide,Tryz.func412.trans (congrArg some (by kernel_rfl))⟩
 f24:=⟨Tryz.f413.name,by decide,Tryz.func413.trans (congrArg some (by kernel_rfl))⟩
 f25:=⟨Tryz.f414.name,by decide,Tryz.func414.trans (congrArg some (by kernel_rfl))⟩
 f26:=⟨Tryz.f415.name,by decide,Tryz.func415.trans (congrArg some (by kernel_rfl))⟩
 f27:=⟨Tryz.f416.name,by decide,Tryz.func416.trans (congrArg some (by kernel_rfl))⟩
 f28:=Tryz.func417.trans (congrArg some (by kernel_rfl))
 f29:=Tryz.func418.trans (congrArg some (by kernel_rfl))
 f46:=⟨Tryz.f437.name,by decide,Tryz.func437.trans (congrArg some (by kernel_rfl))⟩
 f47:=Tryz.func438.trans (congrArg some (by kernel_rfl))
 f48:=Tryz.func439.trans (congrArg some (by kernel_rfl))
 f49:=⟨Tryz.f440.name,by decide,Tryz.func440.trans (congrArg some (by kernel_rfl))⟩
 f50:=⟨Tryz.f441.name,by decide,Tryz.func441.trans (congrArg some (by kernel_rfl))⟩
 f57:=⟨Tryz.f451.name,by decide,Tryz.func451.trans (congrArg some (by kernel_rfl))⟩
 t0:=Tryz.underlying0
 a0:=Tryz.isAgg0
 z0:=Tryz.sizeOf0
 v0:=Tryz.zeroValue0
 t3:=Tryz.underlying3
 a3:=Tryz.isAgg3
 z3:=Tryz.sizeOf3
 v3:=Tryz.zeroValue3
 t4:=Tryz.underlying4
 a4:=Tryz.isAgg4
 z4:=Tryz.sizeOf4
 v4:=Tryz.zeroValue4
 t5:=Tryz.underlying5
 a5:=Tryz.isAgg5
 z5:=Tryz.sizeOf5
 v5:=Tryz.zeroValue5
 t9:=Tryz.underlying9
 a9:=Tryz.isAgg9
 z9:=Tryz.sizeOf9
 v9:=Tryz.zeroValue9
 t22:=Tryz.underlying282
 a22:=Tryz.isAgg282
 z22:=Tryz.sizeOf282
 v22:=Tryz.zeroValue282
 t25:=Tryz.underlying370
 a25:=Tryz.isAgg370
 z25:=Tryz.sizeOf370
 v25:=Tryz.zeroValue370
 t39:=Tryz.underlying401
 a39:=Tryz.isAgg401
 z39:=Tryz.sizeOf401
 v39:=Tryz.zeroValue401
 t45:=Tryz.underlying416
 a45:=Tryz.isAgg416
 z45:=Tryz.sizeOf416
 v45:=Tryz.zeroValue416
 t46:=Tryz.underlying417
 a46:=Tryz.isAgg417
 z46:=Tryz.sizeOf417
 v46:=Tryz.zeroValue417
 t50:=Tryz.underlying386
 a50:=Tryz.isAgg386
 z50:=Tryz.sizeOf386
 v50:=Tryz.zeroValue386
 t53:=Tryz.underlying423
 a53:=Tryz.isAgg423
 z53:=Tryz.sizeOf423
 v53:=Tryz.zeroValue423
 t55:=Tryz.underlying36
 a55:=Tryz.isAgg36
 z55:=Tryz.sizeOf36
 v55:=Tryz.zeroValue36
 t66:=Tryz.underlying425
 a66:=Tryz.isAgg425
 z66:=Tryz.sizeOf425
 v66:=Tryz.zeroValue425
 t70:=Tryz.underlying428
 a70:=Tryz.isAgg428
 z70:=Tryz.sizeOf428
 v70:=Tryz.zeroValue428
 t76:=Tryz.underlying430
 a76:=Tryz.isAgg430
 z76:=Tryz.sizeOf430
 v76:=Tryz.zeroValue430
 t77:=Tryz.underlying413
 a77:=Tryz.isAgg413
 z77:=Tryz.sizeOf413
 v77:=Tryz.zeroValue413}
end Go.Proofs
namespace Go.Proofs.YtnnhpnccfnghdaaGreat.L
open Go.L Go.L.Whl
structure kJ where
 a:Option Addr
 c:Nat
 l:List bH
deriving Inhabited
abbrev FY(x:kJ):Value:=.slice x.a x.l.length x.c
abbrev so(x:kJ):aq:=own (.slice x.a x.l.length x.c) 336 3 x.l.length (x.l.flatMap te)
section
variable(p now seq:Nat)(z:List kJ)
def oo:List Value:=af now::af seq::z.map FY
abbrev mB:aq:=ab p 286 (oo now seq z)
abbrev oj:aq:=ax (z.map so)
def fJ(w:fX):aq:=
 dj (bv:=List kJ) (λz=>iB (λt=>hj w.now t.due) w.T (z.map (·.l))) (λz=>[mB p w.now w.seq z,oj z])
end
section
variable{now due seq:Nat}{z:List kJ}{j l i s n:Nat}{x:kJ}{a:Option Addr}{t:bH}{c:Nat}{m:List bH}
def xd{p:Nat}{w:fX}{M D:List aq}(z:List kJ)(h:iB (λt=>hj w.now t.due) w.T (z.map (·.l)))(t:∀h,Sat M h->Sat (mB p w.now w.seq z::oj z::D) h):∀h,Sat M h->Sat (fJ p w::D) h:=cF z h t
def IJ(t:bH):(te t).length=3:=rfl
def FZ(h:z[8*l+s]?=some x):(oo now seq z)[0+2+l*8+s*1]?=some (FY x):=by
 rw[show 0+2+l*8+s*1=(8*l+s)+1+1 by omega];simp[oo,h]
def aCl:(oo now seq z).set (0+2+l*8+s*1) (FY x)=oo now seq (z.set (8*l+s) x):=by
 rw[show 0+2+l*8+s*1=(8*l+s)+1+1 by omega];simp[oo,tE]
def PB:(oo now seq z).length=z.length+2:=by simp[oo]
def arT{l:List bH}{i:Nat}{t:bH}(h:l[i]?=some t):((l.flatMap te).drop (i*3)).take 3=te t:=kw te 3 IJ h
def kr(l x:Nat):Nat:=x/2^(3*l)
def KB(k x:Nat):(x:Int)/2^((k:Nat):Int).toNat=((x/2^k:Nat):Int):=by rw[BW];simp
theorem atb(aN:l<=3)(h:∀m,l<m->m<=3->kr m due=kr m now)(av:l=0\/kr l due≠kr l now):hj now due=8*l+kr l due%8:=by
 have ay:=h 1;have aV:=h 2;have bz:=h 3;unfold kr at*;rcases(show l=0\/l=1\/l=2\/l=3 by omega)with rfl|rfl|rfl|rfl<;>simp at*<;>unfold hj<;>(repeat' split)<;>omega
theorem aCm(h:∀m,l<m->m<=3->kr m due=kr m now)(e:kr l due=kr l now):∀m,l -1<m->m<=3->kr m due=kr m now:=λm h1 h2=>by
 rcases r7 l m with x|x
 . exact h m x h2
 . have:m=l:=by omega
   subst this;exact e
def jw(z:List kJ)(j:Nat):Nat:=((z.take j).map (λx=>x.l.length)).sum
def aCn(h:z[j]?=some x):jw z (j+1)=jw z j+x.l.length:=by
 obtain⟨N,e⟩:=dc.1 h;unfold jw;rw[nv N,e];simp
def LU(h:m.length=n):(oo now seq z).set (0+2+l*8+s*1) (.slice a n c)=oo now seq (z.set (8*l+s) ⟨a,c,m⟩):=by
 subst h;exact aCl (x:=⟨a,c,m⟩)
def aCo{n:Nat}{m:List bH}{t:bH}(h:m.length=n):own (.slice a (n+1) c) 336 3 (n+1) (m.flatMap te++te t)=so ⟨a,c,m++[t]⟩:=by subst h;simp[so,re]
def aCp(l:List bH):∀x∈l.flatMap te,x.oneCell'=true:=λx ah=>by
 obtain⟨t,_,h⟩:=CM.1 ah;simp[te]at h;rcases h with rfl|rfl|rfl<;>rfl
def aCq{b c i m:Nat}{l:List bH}{D:List aq}(ak:i<l.length)(U:List Value):∀F,Sat (own (.slice (some ⟨b,0,none⟩) l.length c) 336 3 l.length (((l.flatMap te).take (i*3)++(l.flatMap te).drop ((i+1)*3)++(l.flatMap te).drop ((l.length -1)*3)).take ((l.length -1)*3)++iH U m)::D) F->Sat (so ⟨some qs,c,l.eraseIdx i⟩::D) F:=λF s=>by
 have h1:=HL (k:=l.length -1) ae F s;have av:(l.flatMap te).length=l.length*3:=k0 te 3 IJ l;have ay:((l.flatMap te).take (i*3)++(l.flatMap te).drop ((i+1)*3)).length=(l.length -1)*3:=by rw[eL,n0,vU,av];omega
 have aV:(l.flatMap te).take (i*3)=(l.take i).flatMap te:=by
  have h2:=congrArg (List.take (i*3)) (show l.flatMap te=(l.take i).flatMap te++(l.drop i).flatMap te by rw[<-re,CS]);rw[h2,HI aae,yZ aae]
 rw[D4 ay,D4 ay,aV,Io te 3 IJ,<-re,<-Zq]at h1;have bz:l.length -1=(l.eraseIdx i).length:=O5;rw[bz]at h1;exact h1
def A8{v:Option Addr}{n c:Nat}{e:TypeId}{aY:Nat}{xs:List Value}{D:List aq}(h:0<n):∀F,Sat (own (.slice v n c) e aY n xs::D) F->∃b,v=some qs/\n<=c:=λF s=>by
 obtain⟨_,_,_,_,⟨_,cl|⟨b,C,dx,Y,_,bu,_⟩⟩,_⟩:=s
 . omega
 . simp only[Value.slice.injEq]at Y;exact⟨b,Y.1,by rw[Y.2.2];exact bu⟩
def LV(h:z[j]?=some x)(R:x.l[i]?=some t):(z.flatMap (·.l))[jw z j+i]?=some t:=by
 obtain⟨N,e⟩:=dc.1 h;have ay:z.flatMap (·.l)=(z.take j).flatMap (·.l)++((z.drop j).flatMap (·.l)):=ZT;have aV:((z.take j).flatMap (·.l)).length=jw z j:=by unfold jw;rw[List.length_flatMap]
 rw[ay,pH ae,aV,Ge,ta N,e,pG,k1 (dc.1 R).1];exact R
def Rr(h:z.length=32):jw z 32=(z.flatMap (·.l)).length:=by
 unfold jw;rw[yZ ae,List.length_flatMap]
def aCr{α z:Type}{f:α->z}{m:List α}{i:Nat}{t:α}(h:m[i]?=some t):(m.take (i+1)).map f=(m.take i).map f++[f t]:=by
 obtain⟨ak,e⟩:=dc.1 h;rw[nv ak,e,o1];rfl
end
section
variable(p now seq:Nat)(go:Nat->Bool)(a:Option Addr)(w:fX)(c:Nat)(z:List kJ)(l b s i:Nat)(t:bH)(id:Int)(aO aU aS bY Y co k:Nat)
theorem alZ{P:Program}{F:World}{n:Nat}{I:eT}{M D:List aq}{fn:Func}{post:Value->List aq->Prop}{e:Exit}(V:e=.ret\/e=.normal){t1 Y t3 t4 t5 ar U Z aO aU:Nat}{AC AB AA Az Ay ay aV bz dh gT aY:Nat}{v1 u v3 v5:Value}{ce:List Value}
 {c d f g i:Obj->List aq}[eQ P AC][eQ P AB][eQ P AA][j9 P Az aY][eQ P Ay][kZ ar M (.cells [v1].toArray ay (0,0)) c][kZ U M (.cells [u].toArray aV (0,0)) d][kZ Z M (.cells [v3].toArray bz (0,0)) f][kZ aO M (.cells ce.toArray dh (0,0)) g][kZ aU M (.cells [v5].toArray gT (0,0)) i]
 (ba:fn.results=#[.cell t1 AC,.cell Y AB,.cell t3 AA,.cell t4 Az,.cell t5 Ay])(h1:gN I t1=some (ptr ar 0))(h2:gN I Y=some (ptr U 0))(aN:gN I t3=some (ptr Z 0))(bu:gN I t4=some (ptr aO 0))(dW:gN I t5=some (ptr aU 0))(av:ce.length=aY)
 (H:List aq)(hp:post (.tuple #[v1,u,v3,.agg ce.toArray,v5]) H)(B:∀h,Sat M h->Sat (H++D) h):GE F n I M vP:=
 x0 V (λa w aj s=>by
  have gP:=H3 (P:=P) (T:=AC) (b:=ar) (bO:=0) (v:=v1) s rfl;have lM:=H3 (P:=P) (T:=AB) (b:=U) (bO:=0) (v:=u) s rfl;have o:=H3 (P:=P) (T:=AA) (b:=Z) (bO:=0) (v:=v3) s rfl;have tk:=aqL (P:=P) (T:=Az) (b:=aO) (bO:=0) (ce:=ce) s (by rw[List.drop_zero,yZ (by omega)]) av;have C:=H3 (P:=P) (T:=Ay) (b:=aU) (bO:=0) (v:=v5) s rfl;simp[results,ba,aj.val _ _ h1,aj.val _ _ h2,aj.val _ _ aN,aj.val _ _ bu,aj.val _ _ dW,asAddr,gP,lM,o,tk,C]) H hp B
def q6:Prop:=∀j,j<k->go j=true
def q6.snoc{go:Nat->Bool}{k:Nat}(h:q6 go k)(e:go k=true):q6 go (k+1):=λj N=>by
 rcases r7 j k with x|x
 . exact h j x
 . have:j=k:=by omega
   subst this;exact e
theorem aCs(due seq:Nat)(z:List kJ)(aM:now<4000000000000000000)(aL:due<4000000000000000000):
 ad aa 406 [ptr p 0,af due] [mB p now seq z] (λu H=>(∃l s:Nat,u=.tuple #[af l,af s]/\l<4/\s<8/\hj now due=8*l+s)/\H=[mB p now seq z]):=by
 refine ko Tryz.func406 rfl rfl rfl ?_;refine Kh ?_;intro F D;refine qF ?_;refine qF ?_;refine agb ?_;refine hA ?_;refine tv ?_;refine gG (bv:=Nat) (λl=>l<=3/\∀m,l<m->m<=3->kr m due=kr m now) (λl=>[(6,af l),(0,ptr p 0),(1,af due)]) (λ_=>mB p now seq z::D) (λl=>l) 3 (⟨ei _,λm h1 h2=>by omega⟩) I1 (au) ?_;rintro l ⟨r,av⟩;refine hA ?_;refine hA ?_;refine hU [] [] [(0,.loc),(1,.loc),(2,.loc),(3,.loc),(4,.loc),(5,.loc),(6,.loc),(7,.loc),(8,.loc),(9,.loc),(10,.loc),(11,.loc),(12,.loc),(13,.loc),(14,.loc),(15,.loc)] [] mixed gB ?_;refine po ?_;refine go_v rfl .none rfl (B0 rfl rfl) ?_;refine po ?_;refine go_split (j:=2) rfl rfl (λW=>?_) (λW=>?_)
 . have f:=W
   replace f:=bN f;refine go_v rfl vg rfl pb ?_;refine adT ?_;refine go_v rfl vg rfl (H2 ((kr l due:Nat):Int) (KB _ _) rfl rfl ae Ea) ?_;refine go_v rfl vg rfl pb ?_;refine go_v rfl vg rfl (lY rfl) ?_
   first|refine go_v rfl vg rfl wH ?_|refine go_v rfl vg rfl (nG rfl) ?_
   refine go_v rfl vg rfl (o_load rfl (l:=oo now seq z) (v:=af now) rfl) ?_;refine adT ?_;refine go_v rfl vg rfl (H2 ((kr l now:Nat):Int) (KB _ _) rfl rfl ae Ea) ?_;refine go_v rfl vg rfl (my rfl rfl) ?_;refine go_v rfl .none rfl (D0 W rfl rfl) ?_;refine go_nil ?_;refine hB ?_;refine mW rfl (λM=>?_) (λM=>?_)
   . replace M:=bN M
     have J:kr l due=kr l now:=ae;refine rq ?_;refine hB ?_;refine tv ?_;refine afe ?_;refine yt ?_;refine fD (l -1) ⟨by omega,aCm av J⟩ ae (bg.cons rfl (bg.cons rfl (bg.cons rfl bg.nil))) (au)
   . replace M:=bN M
     have J:l=0\/kr l due≠kr l now:=ae;exact ahm
 . have f:=W
   replace f:=bN f;refine afR ?_;refine afR ?_;refine go_v rfl .none rfl (yU W rfl rfl) ?_;refine go_nil ?_;refine hB ?_;refine tq rfl ?_;exact ahm
theorem al0(aM:now<4000000000000000000)(aL:t.due<4000000000000000000)(hlen:z.length=32)(aA:∀x∈z,x.l.length<=1000):
 ad aa 366 [ptr p 0,.agg (te t).toArray] zh (λu H=>u=.tuple #[]/\∃c:List kJ,c.map (·.l)=(z.map (·.l)).set (hj now t.due) ((z.map (·.l)).getD (hj now t.due) []++[t])/\H=[mB p now seq c,oj c]):=by
 refine ko Tryz.func366 rfl rfl rfl ?_;refine Kh ?_;intro F D;refine iX rfl (Bp rfl) ?_;rintro _ _ ⟨Z,rfl,rfl⟩;refine oO ?_;refine xi ?_;refine JR ?_
 first|refine aB rfl se ?_|refine aB rfl wI ?_|refine aB rfl wJ ?_
 refine ci rfl (b1 rfl (aCs p now t.due seq z aM aL) bF) ?_;rintro _ D ⟨_,⟨⟨l,s,rfl,av,aj,hp⟩,rfl⟩,rfl⟩;refine fm ?_;refine kh ?_;refine zq ?_;refine zq ?_;refine qF ?_;refine qF ?_;refine oO ?_;obtain⟨x,ah⟩:∃x,z[8*l+s]?=some x:=⟨_,cz ae⟩;refine u1 ey (DV ah) ?_;refine hU [12,13,18] [12,13] [(0,.bI),(1,.bI),(2,.bI),(3,.bI),(4,.bI),(5,.bI),(6,.bI),(7,.bI),(8,.bI),(9,.bI),(10,.bI),(11,.loc),(14,.bI),(15,.bI),(16,.bI),(12,.c5),(13,.c5),(17,.loc),(18,.c5)] [mB p now seq z] mixed gB ?_;refine xe ?_;refine xe ?_;refine aez ?_;refine xe ?_;refine go_vs rfl .none rfl (lY rfl) (au) ?_;refine Ra ?_;refine go_vs rfl .none rfl (l1 rfl rfl av) (au) ?_;refine go_vs rfl .none rfl (l1 rfl rfl aj) (au) ?_;refine go_vs rfl .none rfl (o_load rfl (FZ ah)) (au) ?_;refine go_v rfl .none rfl (zB rfl (ce:=te t) rfl rfl) ?_;refine go_vs rfl .none rfl (lY rfl) (au) ?_;refine Ra ?_;refine go_vs rfl .none rfl (l1 rfl rfl av) (au) ?_
 first|refine go_n rfl .none rfl (Ia rfl rfl rfl) ?_|refine go_n rfl .none rfl (Ib rfl rfl rfl rfl) ?_|refine go_n rfl .none rfl (qh rfl rfl rfl rfl) ?_
 rintro _ _ ⟨n,rfl,rfl⟩;refine⟨vh,?_⟩;refine go_n rfl .none rfl (D3 rfl rfl bF rfl rfl rfl (by have:=aA x y7;omega) (by have:=aA x y7;unfold maxLen;omega)) ?_;rintro _ _ ⟨a,b,rfl,rfl⟩;rw[aCo rfl];refine⟨vh,?_⟩;refine go_v rfl .none rfl (l1 rfl rfl aj) ?_;refine adu ?_;rw[LU (m:=x.l++[t]) ga];refine go_nil ?_;refine uG (gp (A:=so ⟨a,b,x.l++[t]⟩) (i:=8*l+s) (l:=z.map so) ey ey h5) ?_;refine Dv (.inr rfl) rfl [mB p now seq (z.set (8*l+s) ⟨a,b,x.l++[t]⟩),oj (z.set (8*l+s) ⟨a,b,x.l++[t]⟩)] (⟨rfl,_,by rw[hp,tE,ix,fs,ah];rfl,rfl⟩) IH
theorem aCt(l:List bH)(ak:i<l.length)(aA:l.length<=1000):
 ad aa 369 [.slice a l.length c,af i,af ((i+1:Nat):Int)] [so ⟨a,c,l⟩] (aH (.slice a (l.length -1) c) [so ⟨a,c,l.eraseIdx i⟩]):=by
 refine ko Tryz.func369 rfl rfl rfl ?_;refine vk ?_;intro F D;refine yq (A8 (show 0<l.length by omega)) ?_;rintro⟨b,rfl,d⟩;replace d:l.length<=c:=d;refine R5 ?_;refine kh ?_;refine kh ?_;refine kh ?_;refine aB rfl (DY rfl) ?_;refine aB rfl (Ym rfl rfl rfl rfl ae ae d) ?_;refine ic ?_;refine afp ?_;refine aB rfl (fC (c:=false) h5 (my rfl rfl)) ?_;refine oO ?_;refine tq rfl ?_;refine rq ?_;refine RJ ?_;refine aB rfl (DY rfl) ?_;refine BV ?_;refine hU [6] [] [(0,.loc),(1,.loc),(2,.loc),(3,.loc),(4,.loc),(5,.loc),(6,.c5),(7,.loc)] [] mixed gB ?_;refine po ?_;refine po ?_;refine go_v rfl .none rfl (tj rfl rfl ae) ?_;refine po ?_;refine po ?_;refine go_v rfl .none rfl (DZ rfl rfl ae) ?_;refine go_n rfl .none rfl (Yq (k:=l.length) (j:=i+1) (aY:=3) rfl rfl ae ae d (aCp l)) ?_;rintro _ _ ⟨rfl,rfl⟩;rw[show i+(l.length -(i+1))=l.length -1 by omega];refine⟨(λC=>absurd C bJ),?_⟩;refine go_v rfl .none rfl (mw rfl) ?_;refine go_nil ?_;refine RL ?_;refine aB rfl (DY rfl) ?_;refine kh ?_;refine aB rfl (Yn rfl rfl rfl ae ae) ?_;refine A9 (NU (k:=l.length -1) (m:=l.length -(l.length -1)) (show l.length -1+(l.length -(l.length -1))=l.length by omega) rfl ae (by intro x ah;simp at ah;rcases ah with rfl|rfl<;>rfl)) ?_;rintro _ _ ⟨rfl,rfl⟩;refine ic ?_;refine Kz ?_;refine jh (.inl rfl) rfl rfl [so ⟨some qs,c,l.eraseIdx i⟩] (dI) (aCq ak _)
theorem UC{g:FuncId}(C:List Value)(Inv:Nat->aq)(go:Nat->Bool)(p now seq:Nat)(z:List kJ)(hlen:z.length=32)(aA:∀x∈z,x.l.length<=1000)
 (U:∀(l s i:Nat) (x:kJ) (t:bH),l<4->s<8->z[8*l+s]?=some x->x.l[i]?=some t->q6 go (jw z (8*l+s)+i)->ad aa g ([af l,af s,af i,.agg (te t).toArray]++C) [Inv (jw z (8*l+s)+i)] (aH (.bool (go (jw z (8*l+s)+i))) [Inv (jw z (8*l+s)+i+1)]))(fz:e0 aa g:=by exact fc):
 ad aa 255 [ptr p 0,.func (.func g) #[] C.toArray] [mB p now seq z,oj z,Inv 0] (λu H=>u=.tuple #[]/\∃k,((k=jw z 32/\q6 go k)\/∃(l s i:Nat) (x:kJ) (t:bH),l<4/\s<8/\z[8*l+s]?=some x/\x.l[i]?=some t/\k=jw z (8*l+s)+i+1/\q6 go (jw z (8*l+s)+i)/\go (jw z (8*l+s)+i)=false)/\H=[mB p now seq z,oj z,Inv k]):=by
 refine ko Tryz.func255 rfl rfl rfl ?_;refine Kh ?_;intro F D;refine J5 ?_;refine tv ?_;refine gG (bv:=Nat) (λl=>l<=4/\q6 go (jw z (8*l))) (λl=>Qs) (λl=>mB p now seq z::oj z::Inv (jw z (8*l))::D) (λl=>4 -l) 0 (⟨eX _,λj N=>absurd N (KH j)⟩) I1 (au) ?_;rintro l ⟨e,g3⟩;refine ER ?_;refine mW rfl (λW=>?_) (λW=>?_)
 . replace W:=bN W
   refine agV ?_;refine ja ?_;refine J5 ?_;refine tv ?_;refine gG (bv:=Nat) (λs=>s<=8/\q6 go (jw z (8*l+s))) (λs=>((11,af s)::(4,af l)::Qs)) (λs=>mB p now seq z::oj z::Inv (jw z (8*l+s))::D) (λs=>8 -s) 0 (⟨eX _,g3⟩) PS (au) ?_;rintro s ⟨c,b⟩;refine ER ?_;refine mW rfl (λM=>?_) (λM=>?_)
   . replace M:=bN M
     refine agV ?_;obtain⟨x,ah⟩:∃x,z[8*l+s]?=some x:=⟨_,cz ae⟩;refine afZ ?_;refine aB rfl (l1 rfl rfl ae) ?_;refine aB rfl (o_load rfl (FZ ah)) ?_;haveI:YX (z.map so) (.slice x.a x.l.length x.c) x.l.length (x.l.flatMap te):=⟨_,_,_,DV ah⟩;refine ae5 ?_;refine gG (bv:=Nat) (λi=>i<=x.l.length/\q6 go JB) (λi=>((23,af i)::(22,af x.l.length)::(21,FY x)::(5,af s)::(4,af l)::(11,af s)::Qs)) (λi=>mB p now seq z::oj z::Inv JB::D) (λi=>x.l.length -i) 0 (⟨eX _,b⟩) aaX (au) ?_;rintro i ⟨ak,a⟩;refine ER ?_;refine mW rfl (λL=>?_) (λL=>?_)
     . replace L:=bN L
       obtain⟨t,R⟩:∃t,x.l[i]?=some t:=⟨_,cz ae⟩;refine afT ?_;refine EH ?_;refine Rk ?_;rintro _ _ ⟨bY,rfl,rfl⟩;refine adS ?_;refine ic ?_;refine afF ?_;refine kh ?_;refine aB rfl (zB rfl (ce:=te t) rfl rfl) ?_;refine ci rfl (oE (first:=[]) (C:=C) rfl rfl (U l s i x t ae ae ah R a) bF) ?_;refine afc ?_;refine mW rfl (λfH=>?_) (λfH=>?_)
       . replace fH:=bN fH
         have d:go JB=false:=fH;refine oJ ?_;refine RD ?_;refine RD ?_;refine RD ?_;refine Dv (.inl rfl) rfl [mB p now seq z,oj z,Inv (jw z (8*l+s)+i+1)] (⟨rfl,_,.inr ⟨l,s,i,x,t,by omega,by omega,ah,R,rfl,a,d⟩,rfl⟩) (au)
       . replace fH:=bN fH
         have d:go JB=true:=fH;refine rq ?_;refine J2 ?_;refine aB rfl abB ?_;refine EK ?_;refine fD (i+1) ⟨by omega,a.snoc d⟩ ae aaX (au)
     . replace L:=bN L
       refine R2 ?_;refine aB rfl (fk ((s+1:Nat):Int) eZ rfl rfl) ?_;refine EK ?_;obtain rfl:i=x.l.length:=ae;rw[<-aCn ah]at a⊢;refine fD (s+1) ⟨by omega,a⟩ ae PS (au)
   . replace M:=bN M
     refine R2 ?_;refine aB rfl (fk ((l+1:Nat):Int) eZ rfl rfl) ?_;refine EK ?_;obtain rfl:s=8:=ae;rw[show 8*l+8=8*(l+1) by omega]at b⊢;refine fD (l+1) ⟨by omega,b⟩ ae I1 (au)
 . replace W:=bN W
   refine Kd ?_;refine Dv (.inr rfl) rfl [mB p now seq z,oj z,Inv (jw z 32)] (⟨rfl,_,.inl ⟨rfl,by rw[show l=4 by omega]at g3;exact g3⟩,rfl⟩) (by rw[show l=4 by omega];exact(au))
def ug(id:Int):Option (Nat×Nat×Nat×bH)->List aq
 |none=>[ab aO 36 [bw id],ab aU 3 [af 0],ab aS 3 [af 0],ab bY 3 [af 0],ab Y 336 [bw 0,af 0,af 0],ab co 4 [.bool false]]
 |some (l,s,i,t)=>[ab aO 36 [bw id],ab aU 3 [af l],ab aS 3 [af s],ab bY 3 [af i],ab Y 336 (te t),ab co 4 [.bool true]]
def vN:Bool:=match(z.flatMap (·.l))[k]?with
 |some t=>!decide (t.id=id)
 |none=>true
def LW:Option (Nat×Nat×Nat×bH)->Prop
 |none=>q6 (vN z id) k
 |some (l,s,i,t)=>¬q6 (vN z id) k/\l<4/\s<8/\(∃x,z[8*l+s]?=some x/\x.l[i]?=some t)/\t.id=id
def LX:aq:=dj (LW z id k) (ug aO aU aS bY Y co id)
theorem UD{z:List kJ}{id:Int}{j i:Nat}{x:kJ}{t:bH}(h:z[j]?=some x)(R:x.l[i]?=some t):vN z id (jw z j+i)=!decide (t.id=id):=by unfold vN;rw[LV h R]
theorem aCu{z:List kJ}{id:Int}(hlen:z.length=32)(h:q6 (vN z id) (jw z 32)):∀t,t∈z.flatMap (·.l)->t.id≠id:=λt R e=>by
 obtain⟨k,hk⟩:=List.getElem?_of_mem R;have h1:=h k (by rw[Rr hlen];exact(dc.1 hk).1);unfold vN at h1;rw[hk]at h1;simp[e]at h1
theorem aCv:
 ad aa 407 (af l::af s::af i::.agg (te t).toArray::ada) (ug aO aU aS bY Y co id none) (aH (.bool (!decide (t.id=id))) (ug aO aU aS bY Y co id (if t.id=id then some (l,s,i,t)else none))):=by
 refine ko Tryz.func407 rfl rfl rfl ?_;refine vk ?_;intro F D;simp only[ug,cp,cm];refine zr ?_;refine iX rfl (Bp rfl) ?_;rintro _ _ ⟨f,rfl,rfl⟩;refine BV ?_;refine zr ?_;refine JR ?_;refine aB rfl (o_load rfl (l:=te t) (v:=bw t.id) rfl) ?_;refine JW ?_;refine aB rfl (my rfl rfl) ?_;refine oO ?_;refine mW rfl (λW=>?_) (λW=>?_)
 . replace W:=bN W
   refine hU [4,5,6,7,8] [4,5,6] [(0,.loc),(1,.bI),(2,.bI),(3,.bI),(4,.c5),(5,.c5),(6,.c5),(7,.c5),(8,.c5)] [ab f 336 (te t)] mixed gB ?_;refine po ?_;refine xe ?_;refine xe ?_;refine go_vs rfl .none rfl (zB rfl (ce:=te t) rfl rfl) (au) ?_
   first|refine go_u rfl .none pP vh ?_|refine go_u rfl .none pQ vh ?_
   first|refine go_u rfl .none pP vh ?_|refine go_u rfl .none pQ vh ?_
   first|refine go_u rfl .none pP vh ?_|refine go_u rfl .none pQ vh ?_
   first|refine go_u rfl .none (Ir rfl rfl rfl rfl h5 ga) An ?_|refine go_u rfl .none (Pe rfl rfl rfl rfl rfl) An ?_
   first|refine go_u rfl .none pP An ?_|refine go_u rfl .none pQ An ?_
   refine go_nil ?_;refine agA ?_;refine jh (.inl rfl) rfl rfl _ (⟨by simp[W],by rw[bd W]<;>rfl⟩) (au)
 . replace W:=bN W
   refine rq ?_;refine agA ?_;refine jh (.inl rfl) rfl rfl _ (⟨by simp[W],by rw[a8 W]<;>rfl⟩) (au)
theorem aCw(l s i:Nat)(x:kJ)(t:bH)(av:l<4)(aj:s<8)(ah:z[8*l+s]?=some x)(R:x.l[i]?=some t)(g3:q6 (vN z id) (jw z (8*l+s)+i)):
 ad aa 407 ([af l,af s,af i,.agg (te t).toArray]++ada) [LX z id aO aU aS bY Y co (jw z (8*l+s)+i)] (aH (.bool (vN z id (jw z (8*l+s)+i))) [LX z id aO aU aS bY Y co (jw z (8*l+s)+i+1)]):=
 YV λo aK=>by
  cases o with
  |some q=>exact absurd g3 aK.1
  |
   none=>
   refine(aCv l s i t id aO aU aS bY Y co).aT λu H ⟨d4,cb⟩=>⟨_,⟨by rw[d4,UD ah R],rfl⟩,?_⟩;subst cb;refine YW (if t.id=id then some (l,s,i,t)else none) ?_ kG;by_cases e:t.id=id
   . rw[bd e];exact⟨λh=>by have:=h (jw z (8*l+s)+i) ae;rw[UD ah R]at this;simp[e]at this,av,aj,⟨x,ah,R⟩,e⟩
   . rw[a8 e];exact g3.snoc (by rw[UD ah R];simp[e])
theorem aCx(hlen:z.length=32)(aA:∀x∈z,x.l.length<=1000):
 ad aa 367 JK zh (λu H=>((∃(l s i:Nat) (x:kJ) (t:bH),l<4/\s<8/\z[8*l+s]?=some x/\x.l[i]?=some t/\t.id=id/\u=.tuple #[af l,af s,af i,.agg (te t).toArray,.bool true])\/((∀t,t∈z.flatMap (·.l)->t.id≠id)/\u=.tuple #[af 0,af 0,af 0,.agg [bw 0,af 0,af 0].toArray,.bool false]))/\H=zh):=by
 refine ko Tryz.func367 rfl rfl rfl ?_;refine Kh ?_;intro F D;refine iX rfl (Sr rfl rfl) ?_;rintro _ _ ⟨Z,rfl,rfl⟩;refine iX rfl (tR) ?_;rintro _ _ ⟨aO,rfl,rfl⟩;refine iX rfl (tR) ?_;rintro _ _ ⟨aU,rfl,rfl⟩;refine iX rfl (tR) ?_;rintro _ _ ⟨aS,rfl,rfl⟩;refine iX rfl (tR) ?_;rintro _ _ ⟨bY,rfl,rfl⟩;refine iX rfl (tR) ?_;rintro _ _ ⟨Y,rfl,rfl⟩;refine zu ?_;refine nu (cF (fM:=LW z id 0) (l:=ug Z aO aU aS bY Y id) (D:=mB p now seq z::oj z::D) none (λj N=>absurd N (KH j)) (by simp only[ug,cp,cm];exact(au))) ?_;rw[show dj (LW z id 0) (ug Z aO aU aS bY Y id)=LX z id Z aO aU aS bY Y 0 from rfl];refine zs ?_;refine aB rfl (KG (xs:=[]) (U:=[.tmp 3,.tmp 4,.tmp 5,.tmp 6,.tmp 7,.tmp 8]) rfl rfl) ?_;refine ci rfl (b1 rfl (UC (g:=407) [ptr Z 0,ptr aO 0,ptr aU 0,ptr aS 0,ptr bY 0,ptr Y 0] (LX z id Z aO aU aS bY Y) (vN z id) p now seq z hlen aA (aCw z id Z aO aU aS bY Y)) bF) ?_;rintro _ D ⟨_,⟨rfl,k,hk,rfl⟩,rfl⟩;refine fm ?_;refine oO ?_;refine oJ ?_;refine ars (fM:=LW z id k) (l:=ug Z aO aU aS bY Y id) ey ?_;rintro st f9;rcases hk with⟨rfl,hk⟩|⟨l,s,i,x,t,e,c,ah,R,rfl,m3,M⟩
 . cases st with
   |none=>simp only[ug,cp,cm];exact alZ (.inl rfl) rfl rfl rfl rfl rfl rfl rfl zh ⟨.inr ⟨aCu hlen hk,rfl⟩,rfl⟩ (au)
   |some q=>exact absurd hk f9.1
 . cases st with
   |none=>have:=f9 (jw z (8*l+s)+i) ae;rw[M]at this;cases this
   |
    some q=>
    obtain⟨g6,aD,O,dk⟩:=q;obtain⟨_,W,E,⟨n,d,a⟩,cx⟩:=f9;simp only[ug,cp,cm];exact alZ (.inl rfl) rfl rfl rfl rfl rfl rfl rfl zh ⟨.inl ⟨g6,aD,O,n,dk,W,E,d,a,cx,rfl⟩,rfl⟩ (au)
abbrev F0:Type:={t:bH//t.seq<4611686018427387904}
instance:Inhabited F0:=⟨⟨⟨0,0,0⟩,by decide⟩⟩
def CI(x:F0):List Value:=te x.1
def xX(x y:F0):Int:=(x.1.seq:Int) -y.1.seq
def aCy:Go.Sort.SWO (Go.Proofs.ltOf xX)where
 irrefl x:=mO (by unfold xX;omega)
 trans x y E h1 h2:=by
  have h1:=of_decide_eq_true h1;have h2:=of_decide_eq_true h2;refine kM ?_;unfold xX at*;omega
 ntrans x y E h1 h2:=by
  have h1:=of_decide_eq_false h1;have h2:=of_decide_eq_false h2;refine mO ?_;unfold xX at*;omega
def aCz(x y:F0)(W:World):Calls aa 315 #[.agg (CI x).toArray,.agg (CI y).toArray] W λe X=>e=.returned (.int .i64 (xX x y))/\∃q E,X=Go.Sort.grow (W.drewN q) E:=by
 obtain⟨⟨i1,d1,s1⟩,h1⟩:=x;obtain⟨⟨a,t,bP⟩,h2⟩:=y;have O:IntKind.i64.wrap ((s1:Int) -(bP:Int))=(s1:Int) -bP:=je (by simp only at h1 h2;omega);simp only[CI,te,xX]
 generalize (s1:Int)=p at*
 generalize (bP:Int)=q at*
 generalize (d1:Int)=b at*
 generalize (t:Int)=c at*
 go_enter Tryz.func315,Tryz.ntmps315
 go_wp2
 go_ret
 exact⟨by first|rfl|rw[O],0,_,by rw[Go.Sort.alloc_eq_grow,Go.Sort.alloc_eq_grow,Go.Sort.grow_grow];rfl⟩
theorem aCA(l m:List bH)(hp:l.Perm m)(aj:m.Pairwise (λa b=>a.seq<b.seq))(bm:∀t∈m,t.seq<4611686018427387904)(aA:l.length<=1000):
 ad aa 314 [.slice a l.length c,.func (.func 315) #[] #[]] [so ⟨a,c,l⟩] (aH eu [so ⟨a,c,m⟩]):=by
 have d:∀t∈l,t.seq<4611686018427387904:=λt R=>bm t (hp.subset R);obtain⟨L,K⟩:∃L:List F0,L.map (·.1)=l:=⟨l.pmap Subtype.mk d,by simp[List.map_pmap]⟩;have hlen:L.length=l.length:=by rw[<-K,oQ]
 have T:L.flatMap CI=l.flatMap te:=by rw[<-K,List.flatMap_map];rfl
 have z:∀args w,(callFunc 315 args).run aa w=.ok (.enter 315 args) w:=enters_of Tryz.func315 gB rfl;have h:=au8 (P:=aa) Go.Proofs.Tryz.aCU 3 bJ (λw=>Ag Tryz.underlying336 rfl w) (λw=>(by obtain⟨i,h1,h2⟩:=(inferInstance:j9 aa 336 3).size;rw[<-h2];exact jM h1 w)) CI (λ_=>rfl) (λx v Y=>by simp[CI,te]at Y;rcases Y with rfl|rfl|rfl<;>rfl) xX aCy 315 z aCz (v:=.slice a l.length c) (e:=336) L ae;rw[hlen,T]at h;refine ad.mono h λu H ⟨d4,g6,j,E,cb⟩=>⟨d4,?_⟩;have ay:g6.map (·.1)=m:=by
  refine aCB (((j.map (·.1)).trans (F1 K)).trans hp) ?_ aj;rw[List.pairwise_map];refine E.imp fun{a b} f=>?_;have f:=of_decide_eq_false f;unfold xX at f;omega
 rw[cb,<-ay,show l.length=(g6.map (·.1)).length by rw[oQ,j.length_eq,hlen]];simp only[so];rw[List.flatMap_map];rfl
theorem al1(l m:List bH)(hp:l.Perm m)(aj:m.Pairwise (λa b=>a.seq<b.seq))(bm:∀t∈m,t.seq<4611686018427387904)(aA:l.length<=1000):
 ad aa 257 [.slice a l.length c] [so ⟨a,c,l⟩] abh:=by
 refine ko Tryz.func257 rfl rfl rfl ?_;refine vk ?_;intro F D;have j:l.length=m.length:=hp.length_eq;refine R5 ?_;refine ci rfl (b1 rfl (aCA a c l m hp aj bm aA) bF) ?_;refine as1 ?_;refine hA ?_;refine hA ?_;rw[j];refine nu (iV (e:=36) (aY:=1)) ?_;refine afU ?_;refine gG (bv:=Nat×Option Addr×Nat) (λx=>x.1<=m.length) (λx=>[(10,af x.1),(9,af m.length),(8,.slice a m.length c),(3,.slice x.2.1 x.1 x.2.2)]) (λx=>own (.slice x.2.1 x.1 x.2.2) 36 1 x.1 ((m.take x.1).map λt=>bw t.id)::so ⟨a,c,m⟩::D) (λx=>m.length -x.1) (0,none,0) (eX _) Qb (au) ?_;rintro⟨i,aI,aQ⟩ ak;replace ak:i<=m.length:=ak;dsimp only;refine ER ?_;refine mW rfl (λW=>?_) (λW=>?_)
 . replace W:=bN W
   obtain⟨t,R⟩:∃t,m[i]?=some t:=⟨_,cz ae⟩;refine RW ?_;refine aB rfl (fI rfl rfl (show i<m.length by omega)) ?_;refine Rk ?_;rintro _ _ ⟨aU,rfl,rfl⟩;refine afi ?_;refine JR ?_;refine aB rfl (o_load rfl (l:=te t) (v:=bw t.id) rfl) ?_;refine adE ?_;rintro _ _ ⟨g,rfl,rfl⟩;refine JU ?_;rintro _ _ ⟨d,f,rfl,rfl⟩;refine qF ?_;refine ic ?_;refine J2 ?_;refine aB rfl (fk ((i+1:Nat):Int) eZ rfl rfl) ?_;refine EK ?_;refine fD (i+1,d,f) (show i+1<=m.length by omega) (show m.length -(i+1)<m.length -i by omega) Qb (by dsimp only;rw[aCr R];exact(au))
 . replace W:=bN W
   refine Kd ?_;refine Kz ?_;refine jh (.inl rfl) rfl rfl abi (⟨aI,aQ,by rw[show i=m.length by omega],rfl⟩) (by rw[show i=m.length by omega,nw];exact(au))
def al2(l s i:Nat)(t:bH)(b:Bool):Prop:=
 (b=true/\l<4/\s<8/\(∃x,z[8*l+s]?=some x/\x.l[i]?=some t)/\t.id=id)\/(b=false/\l=0/\s=0/\i=0/\t=⟨0,0,0⟩/\∀t,t∈z.flatMap (·.l)->t.id≠id)
theorem al3(hlen:z.length=32)(aA:∀x∈z,x.l.length<=1000):
 ad aa 367 JK zh (λu H=>(∃(l s i:Nat) (t:bH) (b:Bool),u=.tuple #[af l,af s,af i,.agg (te t).toArray,.bool b]/\al2 z id l s i t b)/\H=zh):=
 (aCx p now seq z id hlen aA).mono fun u H ⟨h, cb⟩ => ⟨by
  rcases h with⟨l,s,i,x,t,h1,h2,aN,bu,dW,g1⟩|⟨h1,h2⟩
  . exact⟨l,s,i,t,true,g1,.inl ⟨rfl,h1,h2,⟨x,aN,bu⟩,dW⟩⟩
  . exact⟨0,0,0,⟨0,0,0⟩,false,h2,.inr ⟨rfl,rfl,rfl,rfl,rfl,h1⟩⟩,cb⟩
abbrev nX:Prop:=iB (λt=>hj w.now t.due) w.T (z.map (·.l))
def nX.hlen{w:fX}{z:List kJ}(h:nX w z):z.length=32:=by simpa using h.1
def nX.aA{w:fX}{z:List kJ}(h:nX w z)(O:j2 w):∀x∈z,x.l.length<=1000:=λx ah=>by
 have:=iB.short h (EV (f:=(·.l)) ah);have:=O.len;omega
def nX.flat{w:fX}{z:List kJ}(h:nX w z):(z.flatMap (·.l)).Perm w.T:=by
 rw[List.flatMap_def];exact iB.all h (λt _=>UE _ _)
theorem nX.found{w:fX}{z:List kJ}(h:nX w z)(O:j2 w){id:Int}{l s i:Nat}{t:bH}{b:Bool}(ba:al2 z id l s i t b):
 (b=true/\w.get id=some t/\hj w.now t.due=8*l+s/\l<4/\s<8)\/(b=false/\w.get id=none/\l=0/\s=0/\t=⟨0,0,0⟩):=by
 rcases ba with⟨aA,h1,h2,⟨x,aN,bu⟩,dW⟩|⟨aA,h1,h2,aN,bu,dW⟩
 . obtain⟨N,hp⟩:=iB.jG h (j:=8*l+s) (l:=x.l) (by rw[fs,aN];rfl)
   have bf:=oM.1 (hp.subset (js bu));exact .inl ⟨aA,get_some O bf.1 dW,by simpa using bf.2,h1,h2⟩
 . exact .inr ⟨aA,get_none.2 λt R=>dW t (h.flat.symm.subset R),h1,h2,bu⟩
theorem aCC(O:j2 w):
 ad aa 367 JK [fJ p w] (λu H=>(∃(l s i:Nat) (t:bH) (b:Bool),u=.tuple #[af l,af s,af i,.agg (te t).toArray,.bool b]/\((b=true/\w.get id=some t/\hj w.now t.due=8*l+s/\l<4/\s<8)\/(b=false/\w.get id=none/\l=0/\s=0/\t=⟨0,0,0⟩)))/\H=[fJ p w]):=
 YV λz K=>(al3 p w.now w.seq z id (nX.hlen K) (nX.aA K O)).aT λu H ⟨⟨l,s,i,t,b,d4,ba⟩,cb⟩=>⟨_,⟨⟨l,s,i,t,b,d4,nX.found K O ba⟩,rfl⟩,by subst cb;exact YW z K kG⟩
def aof:ad aa 113 [] [] (λu H=>∃p,u=ptr p 0/\H=[fJ p r5]):=by
 refine ko Tryz.func113 rfl rfl rfl ?_;refine O2 ?_;intro F D;refine aB rfl (kE (xs:=[]) rfl rfl) ?_;refine iX rfl (Bp rfl) ?_;rintro _ _ ⟨p,rfl,rfl⟩;refine Bq ?_;refine jh (.inl rfl) rfl rfl [fJ p r5] (AJ) (xd (List.replicate 32 ⟨none,0,[]⟩) ⟨rfl,λj N=>by rw[ah4,ix,JL,bd N];exact .refl _⟩ (λh s=>Sat.swap (by rw[oj,ah4];exact aqM 32 (λD=>iV) h s)))
def anE:ad aa 309 [ptr p 0] [fJ p w] (aH (af w.now) [fJ p w]):=by
 refine ko Tryz.func309 rfl rfl rfl ?_;refine Kk ?_;intro F D z K;replace K:nX w z:=K;have hlen:=K.hlen;refine agZ ?_;refine aB rfl (o_load rfl (l:=oo w.now w.seq z) (v:=af w.now) rfl) ?_;refine J6 ?_;refine oJ ?_;exact arH
def aCD(t:bH)(b:Nat)(hk:k<=100000):ad aa 408 [af l,af s,af i,.agg (te t).toArray,ptr b 0] [ab b 3 [af k]] (aH h6 [ab b 3 [af ((k+1:Nat):Int)]]):=by
 refine ko Tryz.func408 rfl rfl rfl ?_;refine vk ?_;intro F D;refine agJ ?_;intro Y;refine aB rfl (fk ((k+1:Nat):Int) eZ rfl rfl) ?_;refine agF ?_;refine jh (.inl rfl) rfl rfl _ (dI) (au)
def aCE(O:j2 w):ad aa 368 [ptr p 0] [fJ p w] (aH (af w.T.length) [fJ p w]):=by
 refine ko Tryz.func368 rfl rfl rfl ?_;intro F D;simp only[ww,D2,gu,mT,lu,Nat.reduceAdd,cp,cm];refine kK ey ?_;rintro z K;replace K:nX w z:=K;have hlen:=K.hlen;have aA:=K.aA O;simp only[cp,cm];have T:=K.flat.length_eq;have al:=O.len;refine hA ?_;refine ja ?_;refine aB rfl (mw rfl) ?_;refine ic ?_;refine hB ?_;refine hA ?_;refine ja ?_;refine iX rfl (tR) ?_;rintro _ _ ⟨Z,rfl,rfl⟩
 first|refine kb (mv rfl rfl rfl rfl) ?_|refine kb (rU rfl rfl rfl (by first|assumption|omega|simp)) ?_
 refine ic ?_;refine hB ?_;refine hA ?_;refine ja ?_;refine aB rfl (j6 rfl) ?_;refine aB rfl (KG (xs:=[]) (U:=[.tmp 3]) rfl rfl) ?_;refine ci rfl (b1 rfl (UC (g:=408) [ptr Z 0] (λk=>ab Z 3 [af k]) (λ_=>true) p w.now w.seq z hlen aA (λl s i x t av aj ah R g3=>aCD l s i _ t Z (by have:=(dc.1 (LV ah R)).1;omega))) bF) ?_;rintro _ D ⟨_,⟨rfl,k,hk,rfl⟩,rfl⟩
 try simp only[cp,cm]
 obtain rfl:k=w.T.length:=by
  rcases hk with⟨rfl,_⟩|⟨_,_,_,_,_,_,_,_,_,_,_,h⟩
  . rw[Rr hlen,T]
  . cases h
 refine ic ?_;refine hB ?_;refine hA ?_;refine ja ?_
 first|refine aB rfl (o_load rfl rfl) ?_|refine aB rfl (gz rfl rfl) ?_|refine aB rfl (u2 rfl) ?_
 refine aB rfl (mw rfl) ?_;refine ic ?_;refine hB ?_;refine oJ ?_;refine jh (.inl rfl) rfl rfl [fJ p w] (⟨rfl,rfl⟩) (xd z K (au))
def F2:aq:=dj (bv:=Option Addr×Nat) (λ_=>True) (λx=>[ab b 282 [.slice x.1 k x.2],own (.slice x.1 k x.2) 336 3 k (((z.flatMap (·.l)).take k).flatMap te)])
def aCF{m:List bH}{i:Nat}{t:bH}(h:m[i]?=some t):(m.take (i+1)).flatMap te=(m.take i).flatMap te++te t:=by
 obtain⟨ak,e⟩:=dc.1 h;rw[nv ak,e,re];simp
def aCG(t:bH)(b:Nat)(hk:k<=100000)(R:(z.flatMap (·.l))[k]?=some t):ad aa 256 [af l,af s,af i,.agg (te t).toArray,ptr b 0] [F2 z b k] (aH h6 [F2 z b (k+1)]):=by
 refine ko Tryz.func256 rfl rfl rfl ?_;refine vk ?_;intro F D;refine kK (fM:=λ_=>True) ey ?_;rintro⟨a,c⟩ -;refine gh ?_;refine agJ ?_;intro Y;refine aB rfl (zB rfl (ce:=te t) rfl rfl) ?_;refine adE ?_;rintro _ _ ⟨E,rfl,rfl⟩;refine JU ?_;rintro _ _ ⟨d,e,rfl,rfl⟩;rw[<-aCF R];refine agF ?_;refine jh (.inl rfl) rfl rfl [F2 z b (k+1)] (dI) (cF (d,e) trivial (au))
end
end Go.Proofs.YtnnhpnccfnghdaaGreat.L
namespace Go.Proofs.YtnnhpnccfnghdaaGreat.L
open Go.L Go.L.dA
attribute[local irreducible] G cE GE cY GT b0 df c4 di Exit.then Exit.inBlock
section
variable(n self:Nat)(a:Option Addr)(c:Nat)(l:List Nat)
abbrev pZ:List Value:=l.map λw=>af ((w:Nat):Int)
abbrev jH:aq:=own (.slice a l.length c) 3 1 l.length (pZ l)
def ari:∀x∈pZ l,x.oneCell'=true:=λx ah=>by
 obtain⟨t,_,h⟩:=lU.1 ah;subst h;rfl
def Zp{a:Option Addr}{c n:Nat}{m:List Nat}{t:Nat}(h:m.length=n):own (.slice a (n+1) c) 3 1 (n+1) (pZ m++[af (t:Int)])=jH a c (m++[t]):=by subst h;simp only[jH,pZ,o1,eL];rfl
def arj{b c i m:Nat}{l:List Nat}{D:List aq}(ak:i<l.length)(U:List Value):∀F,Sat (own (.slice (some ⟨b,0,none⟩) l.length c) 3 1 l.length (((pZ l).take (i*1)++(pZ l).drop ((i+1)*1)++(pZ l).drop ((l.length -1)*1)).take ((l.length -1)*1)++iH U m)::D) F->Sat (jH j0 c (l.eraseIdx i)::D) F:=λF s=>by
 have h1:=HL (k:=l.length -1) ae F s;have ay:((pZ l).take (i*1)++(pZ l).drop ((i+1)*1)).length=(l.length -1)*1:=h5;rw[D4 ay,D4 ay,uu,uu,<-Zq]at h1;have bz:l.length -1=(l.eraseIdx i).length:=O5;have dh:(pZ l).eraseIdx i=pZ (l.eraseIdx i):=by simp[pZ,Zq,List.map_take,List.map_drop]
 rw[dh,bz]at h1;exact h1
def XW{l:List Nat}{i y:Nat}(h:l[i]?=some y):(pZ l)[i*1]?=some (af (y:Int)):=by simp[pZ,h]
def ark{l:List Nat}{e y:Nat}(h:l[e%l.length]?=some y):oa l.length e l=[y]++oa (l.length -1) (e/l.length) (l.eraseIdx (e%l.length)):=by
 cases l with
 |nil=>simp at h
 |cons x t=>simp only[iE]at h⊢;rw[oa,h];rfl
def O6(i self:Nat):nD (i+1) self=if i=self then nD i self else nD i self++[i]:=by
 unfold nD;rw[List.range_succ,yV];by_cases h:i=self<;>simp[h]
def Zr(h:self<n):(nD n self).length=n -1:=by
 suffices F:∀n,(nD n self).length=if self<n then n -1 else n by rw[F,bd h]
 intro n;induction n with
 |zero=>rfl
 |succ n K=>rw[O6];split<;>simp[K]<;>(repeat' split)<;>omega
theorem arl(i:Nat)(l:List Nat)(ak:i<l.length)(aA:l.length<=1000):
 ad aa 190 [.slice a l.length c,af i,af ((i+1:Nat):Int)] [jH a c l] (aH (.slice a (l.length -1) c) [jH a c (l.eraseIdx i)]):=by
 refine aw Tryz.func190 λF D=>?_;refine yq (A8 (show 0<l.length by omega)) ?_;rintro⟨b,rfl,d⟩;replace d:l.length<=c:=d;refine dC ?_;refine aB rfl (Ym rfl rfl rfl rfl ae ae d) ?_;refine cq ?_;refine aB rfl (fC (c:=false) h5 (my rfl rfl)) ?_;refine fr ?_;refine cu [] [6,201,1] [] ?_;refine bb ?_;refine go_v rfl .none rfl (tj rfl rfl ae) ?_;refine bb ?_;refine go_v rfl .none rfl (DZ rfl rfl ae) ?_;refine go_n rfl .none rfl (Yq (k:=l.length) (j:=i+1) (aY:=1) rfl rfl ae ae d (ari l)) ?_;rintro _ _ ⟨rfl,rfl⟩;rw[show i+(l.length -(i+1))=l.length -1 by omega];refine c8 ?_;refine aB rfl (Yn rfl rfl rfl ae ae) ?_;refine A9 (NU (k:=l.length -1) (m:=l.length -(l.length -1)) (show l.length -1+(l.length -(l.length -1))=l.length by omega) rfl ae Zs) ?_;rintro _ _ ⟨rfl,rfl⟩;refine c8 ?_;exact aX dI (arj ak _)
theorem arm(aM:n<=8)(aj:self<n):
 ad aa 189 [af n,af self] [] (λu H=>∃a c,u=.slice a (n -1) c/\H=[jH a c (nD n self)]):=by
 refine aw Tryz.func189 λF D=>?_;refine fW ?_;refine cP ?_;refine bK ?_;refine cP ?_;refine bB ?_;refine cP ?_;refine cq ?_;refine cP ?_;refine bQ ?_;refine nu (iV (e:=3) (aY:=1)) ?_;refine bi ?_;refine gG (bv:=Nat×Option Addr×Nat) (λe=>e.1<=n) (λe=>[(23,af e.1),(5,.slice e.2.1 (nD e.1 self).length e.2.2),(22,af n),(1,af self)]) (λe=>jH e.2.1 e.2.2 (nD e.1 self)::D) (λe=>n -e.1) (0,none,0) (eX _) dy (au) ?_;rintro⟨i,a,c⟩ ak;replace ak:i<=n:=ak;have j:(nD i self).length<=8:=nb (qw _ _) yY;dsimp only;refine bi ?_;refine cg (λW=>?_) (λW=>?_)
 . refine eJ ?_
   refine bb ?_;refine cg (λM=>?_) (λM=>?_)
   . have aK:nD (i+1) self=nD i self++[i]:=by rw[O6,a8 (by have:=M;omega)]
     refine b6 ?_;refine wn λf=>?_;refine gQ λb d=>?_;refine bQ ?_;refine fD (i+1,b,d) (show i+1<=n by omega) (show n -(i+1)<n -i by omega) (bg.cons rfl (bg.cons (by dsimp only;rw[aK,eL];rfl) dy)) (by dsimp only;rw[aK,<-Zp rfl];exact(au))
   . have aK:nD (i+1) self=nD i self:=by rw[O6,bd (by have:=M;omega)]
     refine cq ?_;refine fD (i+1,a,c) (show i+1<=n by omega) (show n -(i+1)<n -i by omega) (bg.cons rfl (bg.cons (by dsimp only;rw[aK];rfl) dy)) (by dsimp only;rw[aK];exact(au))
 . refine fr ?_
   exact aX ⟨a,c,by rw[show i=n by omega,Zr n self aj],rfl⟩ (by rw[show i=n by omega];exact(au))
theorem ap0(d n self:Nat)(aL:d<18446744073709551616)(aM:n<=8)(aj:self<n):
 ad aa 133 [bw d,af n,af self] [] (λu H=>∃a c,u=.slice a (order d n self).length c/\H=[jH a c (order d n self)]):=by
 refine aw Tryz.func133 λF D=>?_;refine cv ?_;refine br (arm n self aM aj) ?_;rintro _ _ ⟨a,c,rfl,rfl⟩;refine et ?_;refine bK ?_;have hlen:=Zr n self aj;rw[<-hlen];refine nu (iV (e:=3) (aY:=1)) ?_;refine bi ?_;refine gG (bv:=(List Nat×Nat×List Nat)×(Option Addr×Nat)×(Option Addr×Nat)) (λe=>e.1.1.length+e.1.2.2.length<=8/\e.1.2.1<18446744073709551616/\order d n self=e.1.2.2++oa e.1.1.length e.1.2.1 e.1.1) (λe=>[(7,.slice e.2.1.1 e.1.1.length e.2.1.2),(8,.slice e.2.2.1 e.1.2.2.length e.2.2.2),(0,bw e.1.2.1)]) (λe=>jH e.2.1.1 e.2.1.2 e.1.1::jH e.2.2.1 e.2.2.2 e.1.2.2::D) (λe=>e.1.1.length) ((nD n self,d,[]),(a,c),(none,0)) (⟨by show(nD n self).length+0<=8;omega,aL,by rw[cm,order,<-hlen]⟩) dy (au) ?_;rintro⟨⟨l,e,out⟩,⟨a,c⟩,⟨cD,bn⟩⟩ ⟨f,V,b⟩;replace f:l.length+out.length<=8:=f;replace V:e<18446744073709551616:=V;replace b:order d n self=out++oa l.length e l:=b;dsimp only;refine bQ ?_;refine cg (λW=>?_) (λW=>?_)
 . have bf:e%l.length<l.length:=wS _ ae
   obtain⟨y,ag⟩:∃y,l[e%l.length]?=some y:=⟨_,cz bf⟩;refine cq ?_;refine aB rfl (o6 ((l.length:Nat):Int) (tp ae) rfl) ?_;refine cq ?_;refine aB rfl (r0 ((e%l.length:Nat):Int) (Bm _ _) rfl rfl ae) ?_;refine aB rfl (o6 ((e%l.length:Nat):Int) (je ae) rfl) ?_;refine cq ?_;refine aB rfl (GR ((e/l.length:Nat):Int) (by rw[<-Int.ofNat_tdiv];exact tp (by have:=Nat.div_le_self e l.length;generalize e/l.length=E at this⊢;omega)) rfl rfl ae) ?_;refine bQ ?_;refine aB rfl (fI rfl rfl bf) ?_;refine aB rfl (gz rfl (XW ag)) ?_;refine wn λj=>?_;refine gQ λg i=>?_;refine cq ?_;refine aB rfl (fk ((e%l.length+1:Nat):Int) eZ rfl rfl) ?_;refine ci rfl (b1 rfl (arl a c (e%l.length) l bf ae) bF) ?_;refine hb ?_;refine o5 ?_;refine fD ((l.eraseIdx (e%l.length),e/l.length,out++[y]),(a,c),(g,i)) ⟨by show(l.eraseIdx _).length+(out++[y]).length<=8;rw[Ij,bd bf,eL];simp;omega,Zt (Nat.div_le_self _ _) V,by show order d n self=out++[y]++oa (l.eraseIdx (e%l.length)).length _ _;rw[b,Ij,bd bf,jE];exact congrArg _ (ark ag)⟩ (by show(l.eraseIdx _).length<l.length;rw[Ij,bd bf];omega) (bg.cons (by dsimp only;rw[Ij,bd bf];rfl) (bg.cons uV dy)) (by dsimp only;rw[<-Zp rfl];exact(au))
 . refine fr ?_
   exact aX (H:=[jH cD bn out]) ⟨cD,bn,by rw[b,show l.length=0 by omega];simp[oa],by rw[b,show l.length=0 by omega];simp[oa]⟩
end
end Go.Proofs.YtnnhpnccfnghdaaGreat.L
namespace Go.Proofs.YtnnhpnccfnghdaaGreat.L
open Go.L
attribute[local irreducible] G cE GE cY GT b0 df c4 di Exit.then Exit.inBlock
section
variable(q E:Nat)(a:Option Addr)(dp:List Int)(c:Nat)(l:List Int)
abbrev iS:List Value:=l.map bw
abbrev ul:Value:=.slice a l.length c
abbrev fE:aq:=own (ul a c l) 36 1 l.length (iS l)
def gi(N:List Int):aq:=dj (bv:=Option Addr×Nat×Option Addr×Nat) (λ_=>True) (λe=>[ab q 164 [af E,ul e.1 e.2.1 dp,ul e.2.2.1 e.2.2.2 N],fE e.1 e.2.1 dp,fE e.2.2.1 e.2.2.2 N])
def KN{a:Option Addr}{c n:Nat}{m:List Int}{t:Int}(h:m.length=n):own (.slice a (n+1) c) 36 1 (n+1) (iS m++[bw t])=fE a c (m++[t]):=by subst h;simp only[fE,ul,iS,o1,eL];rfl
def asb(r:Int)(aE:-9223372036854775808<=r/\r<=9223372036854775807):ad aa 114 [af r] [] (λu H=>∃q,u=ptr q 0/\H=[gi q (min (max r 0) 64).toNat [] []]):=by
 refine aw Tryz.func114 λF D=>?_;refine bQ ?_;refine aB rfl (tc (max r 0) ae rfl rfl) ?_;refine aB rfl (td (min (max r 0) 64) ae rfl rfl) ?_;refine aG ?_;refine wn λbY=>?_;refine bB ?_;exact aX ⟨bY,rfl,rfl⟩ (cF (none,0,none,0) trivial (by rw[show(((min (max r 0) 64).toNat:Nat):Int)=min (max r 0) 64 by omega];exact λh s=>Sat.tail (λh s=>iV h (iV h s)) s))
def asT(aE:E<=64)(dp N:List Int)(x:Int):ad aa 291 [ptr q 0,bw x] EF (aH (af (if E<=dp.length then 4 else 0)) [gi q E (if E<=dp.length then dp else dp++[x]) N]):=by
 refine aw Tryz.func291 λF D=>?_;refine BU ?_;intro cr c1 cD bn;refine cq ?_;refine cu [] [10] [ab q 164 [af E,ul cr c1 dp,ul cD bn N]] ?_;refine dC ?_;refine cg (λW=>?_) (λW=>?_)
 . have a6:E<=dp.length:=by omega
   refine bQ ?_;exact aX (H:=[gi q E dp N]) ⟨by rw[bd a6],by rw[bd a6]⟩ (cF (cr,c1,cD,bn) trivial (au))
 . have a6:¬E<=dp.length:=by omega
   refine c8 ?_;refine wn λc=>?_;refine gQ λa22 b=>?_;refine dC ?_;exact aX (H:=[gi q E (dp++[x]) N]) ⟨by rw[a8 a6],by rw[a8 a6]⟩ (cF (a22,b,cD,bn) trivial (by dsimp only;rw[<-KN rfl,show ul a22 b (dp++[x])=.slice a22 (dp.length+1) b from by simp[ul]];exact(au)))
def au9:ad aa 237 [ptr q 0] [gi q E dp []] (aH (.tuple #[bw 0,.bool false]) [gi q E dp []]):=by
 refine aw Tryz.func237 λF D=>?_;refine BU ?_;intro cr c1 cD bn;refine gg ?_;refine aB rfl Nz ?_;refine dC ?_;exact aX ⟨rfl,rfl⟩ (cF (cr,c1,cD,bn) trivial (au))
def ava(x:Int)(av:l.length<=1099511627776):ad aa 237 [ptr q 0] [gi q E dp (l++[x])] (aH (.tuple #[bw x,.bool true]) [gi q E dp l]):=by
 refine aw Tryz.func237 λF D=>?_;refine BU ?_;intro cr c1 cD bn;refine yq (λh s=>A8 ga h (hI.to (A:=fE cD bn (l++[x])) ey s)) ?_;rintro⟨b,rfl,d⟩;have aM:(l++[x]).length=l.length+1:=ga;rw[aM]at d;have ah:(iS (l++[x]))[l.length*1]?=some (bw x):=by simp[iS]
 rw[show ul (some ⟨b,0,none⟩) bn (l++[x])=.slice (some ⟨b,0,none⟩) (l.length+1) bn by rw[ul,aM],show fE (some ⟨b,0,none⟩) bn (l++[x])=own (.slice (some ⟨b,0,none⟩) (l.length+1) bn) 36 1 (l.length+1) (iS (l++[x])) by rw[fE,ul,aM]];refine gg ?_;refine cP ?_;refine dC ?_;refine aB rfl (kl ((l.length:Nat):Int) eZ rfl rfl) ?_;refine EH ?_;refine aB rfl (gz rfl ah) ?_;refine c0 ?_;refine aB rfl (kl ((l.length:Nat):Int) eZ rfl rfl) ?_;refine aB rfl (tj rfl rfl ae) ?_;refine fW ?_;exact aX ⟨rfl,rfl⟩ (cF (cr,c1,some ⟨b,0,none⟩,bn) trivial (λh s=>Sat.tail (λg t=>Sat.tail (λg t=>by have:=HL (b:=b) (C:=bn) (e:=36) (aY:=1) (xs:=iS (l++[x])) (D:=D) (k:=l.length) (im _) g t;rw[show(iS (l++[x])).take (l.length*1)=iS l by simp[iS]]at this;exact this) t) ((au) h s)))
end
end Go.Proofs.YtnnhpnccfnghdaaGreat.L
namespace Go.L
abbrev lo:=List UInt8
abbrev oA(l:lo):Value:=.string ⟨l.toArray⟩
def jd(r:Nat)(m:List (lo×Value)):aq:=λh=>∃es clock,h r=some (.map es clock)/\es.toList.map (λe=>(e.key,e.val))=m.map (λp=>(oA p.1,p.2))
def uq{z:Type}(m:List (lo×z))(k:lo):Option z:=
 match m with
 |[]=>none
 |(j,v)::r=>if k=j then some v else uq r k
def pf{z:Type}(m:List (lo×z))(k:lo)(v:z):List (lo×z):=
 match m with
 |[]=>[(k,v)]
 |(j,u)::r=>if k=j then(k,v)::r else(j,u)::pf r k v
def ss{z:Type}(m:List (lo×z))(k:lo):List (lo×z):=
 match m with
 |[]=>[]
 |(j,u)::r=>if k=j then r else(j,u)::ss r k
def mz{z:Type}(m:List (Int×z))(k:Int):List (Int×z):=
 match m with
 |[]=>[]
 |(j,u)::r=>if k=j then r else(j,u)::mz r k
class uo(r:Nat)(M:List aq)(m:outParam (List (lo×Value)))(u:outParam (List (lo×Value)->List aq)):Prop where
 get:∀{h:eA},Sat M h->∃es clock,h r=some (.map es clock)/\es.toList.map (λe=>(e.key,e.val))=m.map (λp=>(oA p.1,p.2))
 set:∀{h:eA} (q:List (lo×Value)) (es:Array MapEntry) (clock:Nat),Sat M h->es.toList.map (λe=>(e.key,e.val))=q.map (λp=>(oA p.1,p.2))->Sat (u q) (j3 h r (.map es clock))
instance uo.head{r:Nat}{m:List yb}{D:List aq}:uo r (jd r m::D) m (λq=>jd r q::D)where
 get:=fun⟨_,_,_,e,⟨es,c,h1,h2⟩,_⟩=>⟨es,c,e▸join_some h1,h2⟩
 set:=λq es clock ⟨h1,h2,d,e,⟨a,en,cS,_⟩,aE⟩ V=>by
  subst e;obtain⟨ay,d1⟩:=uH (S:=.map es clock) cS d;exact⟨_,h2,d1,ay,⟨es,clock,by simp[j3],V⟩,aE⟩
instance uo.tail{r:Nat}{A:aq}{m:List yb}{D:List aq}{u:List yb->List aq}[i:uo r D m u]:uo r (A::D) m (λq=>A::u q)where
 get:=λs=>i.get uI
 set:=λq es clock ⟨h1,h2,d,e,aW,aE⟩ V=>by
  subst e;obtain⟨a,en,cS,_⟩:=i.get aE;obtain⟨ay,d1⟩:=uH (S:=.map es clock) cS d.symm;refine⟨h1,_,d1.symm,?_,aW,i.set q es clock aE V⟩;rw[join_comm d,ay,join_comm d1]
class CU(P:Program)(t:TypeId)(E:outParam Value):Prop where
 out:∃k e i,P.underlying t=some (.map k e)/\P.underlying k=some .string/\P.info? e=some i/\i.zero=some E
section
variable{P:Program}{F w:World}{n:Nat}{I:eT}{M:List aq}{bD:TypeId}
section
variable(a b:lo){t D:TypeId}{x y:Operand}{E:Value}{r:Nat}{k:lo}{m:List (lo×Value)}{u:List (lo×Value)->List aq}
def D5{k:TypeId}(h:P.underlying k=some .string)(b:Bool)(d:Nat)(x:ByteArray)(w:World):(Instr.checkKey b (d+1) k (.string x)).run P w=.ok () w:=by
 simp[Instr.checkKey,gH h]
def ZB:((⟨a.toArray⟩:ByteArray)==⟨b.toArray⟩)=decide (a=b):=by
 show(a.toArray==b.toArray)=_;rw[o4,beq_iff_eq,kN];exact⟨λh=>by simpa using h,λh=>by rw[h]⟩
def art:Instr.sameNow .string (oA a) (oA b)=some (decide (a=b)):=by
 simp only[Instr.sameNow,ZB]
def Ip(x:lo):∀(es:List MapEntry) (m:List (lo×Value)) (i:Nat),es.map (λe=>(e.key,e.val))=m.map D6->
 ∃
  o,Instr.findNow .string (oA x) es i=some o/\o.map (·.2)=uq m x/\(∀j v,o=some (j,v)->i<=j/\∃e,es[j -i]?=some e/\e.key=oA x/\
   (∀v',(es.modify (j -i) λe=>{e with key:=oA x,val:=v'}).map Ik=(pf m x v').map D6)/\
   (es.eraseIdx (j -i)).map Ik=(ss m x).map D6)/\
  (o=none->pf m x=(λv'=>m++[(x,v')])/\ss m x=m)
 |
  [],m,i,h=>by
  have:m=[]:=O9;subst this;exact⟨none,rfl,rfl,by simp,λ_=>dI⟩
 |
  e::es,m,i,h=>by
  obtain⟨⟨j,u⟩,q,rfl⟩:∃p q,m=p::q:=by cases m with
   |nil=>simp at h
   |cons p q=>exact⟨p,q,rfl⟩
  simp only[gu,List.cons.injEq,Prod.mk.injEq]at h;obtain⟨⟨h1,h2⟩,aN⟩:=h;have aj:Instr.sameNow .string (oA x) e.key=some (decide (x=j)):=by rw[h1];exact art x j
  by_cases ah:x=j
  . subst ah
    rw[kM rfl]at aj;refine⟨some (i,e.val),by simp[Instr.findNow,aj],by simp[uq,h2],?_,by simp⟩;intro a v V;simp only[Option.some.injEq,Prod.mk.injEq]at V;obtain⟨rfl,rfl⟩:=V;exact⟨ei _,e,by simp,h1,λv'=>by simp[pf,aN],by simp[ss,aN]⟩
  . rw[mO ah]at aj
    obtain⟨o,W,Z,d8,gc⟩:=Ip x es q (i+1) aN;refine⟨o,by simp[Instr.findNow,aj,W],by simp[uq,ah,Z],?_,?_⟩
    . intro a v V
      obtain⟨cS,y,cd,ir,eM,f⟩:=d8 a v V;have ay:a -i=(a -(i+1))+1:=ae;refine⟨by omega,y,by rw[ay];simpa using cd,ir,λv'=>?_,?_⟩
      . rw[ay];simp[pf,ah,h1,h2,eM v']
      . rw[ay];simp[ss,ah,h1,h2,f]
    . intro aK
      obtain⟨hm,G⟩:=gc aK;exact⟨by funext v';simp[pf,ah,hm],by simp[ss,ah,G]⟩
theorem amR[i:CU P t E][j:uo r M m u](h:ck I x=some vW)(ag:ck I y=some (oA k)):
 b0 P F n (.lookup t x y false) bD I M ((uq m k).getD E):=λa w d pos J g aj s=>by
 obtain⟨D,cK,z,h1,h2,aN,bu⟩:=i.out;obtain⟨es,clock,W,Z⟩:=j.get s.e4;have b:w.heap[r]?=_:=W;obtain⟨o,cS,cd,_,_⟩:=Ip k es.toList m 0 Z;simp only[execOp,aj.eval h,aj.eval ag];have aF:=run_getObj_map (P:=P) w r es clock b;simp[Instr.lookup,gH h1,aF,D5 h2,Instr.findKey,gH h2,cS];cases o with
 |none=>simp[vV aN bu];simp at cd;rw[<-cd];rfl
 |some p=>simp;simp at cd;rw[<-cd];rfl
def Pb{es:Array MapEntry}{clock:Nat}(g:w.heap[r]?=some (.map es clock))(B:Obj):(setObj r B).run P w=.ok () {w with heap:=w.heap.setIfInBounds r B}:=by
 simp[setObj,Sem.run,g]
theorem aru{q:Operand}{E v:Value}{r:Nat}{k:lo}{m:List yb}{u:List yb->List aq}[i:CU P t E][j:uo r M m u](h:ck I x=some vW)(ag:ck I y=some (oA k))(Y:ck I q=some v):
 df P F n (.mapUpdate t x y q) bD I M (u (pf m k v)):=λa w d pos J g aj s=>by
 obtain⟨D,cK,z,h1,h2,aN,bu⟩:=i.out;obtain⟨es,clock,W,Z⟩:=j.get s.e4;have b:w.heap[r]?=_:=W;obtain⟨o,cS,cd,ir,eM⟩:=Ip k es.toList m 0 Z;have aF:=run_getObj_map (P:=P) w r es clock b;have l:=Pb (P:=P) b;have fin:∀(f:Array MapEntry) (c:Nat),f.toList.map (λe=>(e.key,e.val))=(pf m k v).map D6->dm F (u (pf m k v)) Il:=λf c V=>
  ⟨s.os,s.tape,s.output,by have:=s.size;simpa using this,by rw[Dw _ W];exact j.set _ _ _ s.e4 V⟩
 simp only[execOp,aj.eval h,aj.eval ag,aj.eval Y];cases o with
 |
  none=>
  refine⟨_,?_,fin (es.push {key:=oA k,val:=v,born:=clock}) (clock+1) (by rw[(eM rfl).1];simp[Z])⟩;simp[Instr.mapUpdate,gH h1,aF,D5 h2,Instr.findKey,gH h2,cS,l]
 |
  some p=>
  obtain⟨O,v0⟩:=p;obtain⟨_,e,ay,aV,bz,_⟩:=ir O v0 rfl;simp only[Ds]at ay bz;refine⟨_,?_,fin (es.modify O λe=>{e with key:=oA k,val:=v}) clock Zv⟩;have L:es[O]?=some e:=by simpa using ay
  simp[Instr.mapUpdate,gH h1,aF,D5 h2,Instr.findKey,gH h2,cS,l,L,aV,Instr.keyThatStays,Instr.sameBits,ZB]
theorem arv[i:CU P t E][j:uo r M m u](h:ck I x=some vW)(ag:ck I y=some (oA k)):
 c4 P F n ZC bD I M (λv H=>v=.tuple #[]/\H=u (ss m k)):=λa w d pos J g aj s=>by
 obtain⟨q,cK,z,h1,h2,aN,bu⟩:=i.out;obtain⟨es,clock,W,Z⟩:=j.get s.e4;have b:w.heap[r]?=_:=W;obtain⟨o,cS,cd,ir,eM⟩:=Ip k es.toList m 0 Z;have aF:=run_getObj_map (P:=P) w r es clock b;have l:=Pb (P:=P) b;have fin:∀(f:Array MapEntry) (c:Nat),f.toList.map (λe=>(e.key,e.val))=(ss m k).map D6->dm F (u (ss m k)) Il:=λf c V=>
  ⟨s.os,s.tape,s.output,by have:=s.size;simpa using this,by rw[Dw _ W];exact j.set _ _ _ s.e4 V⟩
 simp only[execOp,resolve,oN,gu,mT,aj.eval h,aj.eval ag];cases o with
 |
  none=>
  refine⟨_,_,_,?_,dI,fin es clock (by rw[(eM rfl).2];exact Z)⟩;simp[invoke,builtin,Builtin.delete_,gH h1,aF,D5 h2,Instr.findKey,gH h2,cS,l]
 |
  some p=>
  obtain⟨O,v0⟩:=p;obtain⟨_,e,ay,aV,_,dh⟩:=ir O v0 rfl;simp only[Ds]at ay dh;refine⟨_,_,_,?_,dI,fin (es.eraseIdxIfInBounds O) clock (by simpa[Array.eraseIdxIfInBounds,show O<es.size by simpa using(dc.1 ay).1]using dh)⟩;simp[invoke,builtin,Builtin.delete_,gH h1,aF,D5 h2,Instr.findKey,gH h2,cS,l]
def ZD(d6:IntKind)(x:Int):∀(es:List MapEntry) (m:List (Int×Value)) (i:Nat),es.map (λe=>(e.key,e.val))=m.map Bs->
 ∃o,Instr.findNow (.int d6) (.int d6 x) es i=some o/\(∀j v,o=some (j,v)->i<=j/\j -i<es.length/\(es.eraseIdx (j -i)).map Ik=(mz m x).map Bs)/\(o=none->mz m x=m)
 |
  [],m,i,h=>by
  have:m=[]:=O9;subst this;exact⟨none,rfl,by simp,λ_=>rfl⟩
 |
  e::es,m,i,h=>by
  obtain⟨⟨j,u⟩,q,rfl⟩:∃p q,m=p::q:=by cases m with
   |nil=>simp at h
   |cons p q=>exact⟨p,q,rfl⟩
  simp only[gu,List.cons.injEq,Prod.mk.injEq]at h;obtain⟨⟨h1,h2⟩,aN⟩:=h;have aj:Instr.sameNow (.int d6) (.int d6 x) e.key=some (x==j):=by rw[h1];simp[Instr.sameNow]
  by_cases ah:x=j
  . subst ah
    refine⟨some (i,e.val),by simp[Instr.findNow,aj],?_,by simp⟩;intro a v V;simp only[Option.some.injEq,Prod.mk.injEq]at V;obtain⟨rfl,rfl⟩:=V;exact⟨ei _,by simp,by simp[mz,aN]⟩
  . have aA:(x==j)=false:=by simpa using ah
    obtain⟨o,W,d8,gc⟩:=ZD d6 x es q (i+1) aN;refine⟨o,by simp[Instr.findNow,aj,aA,W],?_,?_⟩
    . intro a v V
      obtain⟨cS,cd,f⟩:=d8 a v V;have ay:a -i=(a -(i+1))+1:=ae;refine⟨by omega,by simp;omega,?_⟩;rw[ay];simp[mz,ah,h1,h2,f]
    . intro aK;simp[mz,ah,gc aK]
theorem Pc{d6:IntKind}{E:Value}{r:Nat}{k:Int}{m:List (Int×Value)}{u:List (Int×Value)->List aq}[i:sp P t d6 E][j:u3 r M d6 m u](h:ck I x=some vW)(ag:ck I y=some (.int d6 k)):
 c4 P F n ZC bD I M (λv H=>v=.tuple #[]/\H=u (mz m k)):=λa w d pos J g aj s=>by
 obtain⟨q,cK,z,h1,h2,aN,bu⟩:=i.out;obtain⟨es,clock,W,Z⟩:=j.get s.e4;have b:w.heap[r]?=_:=W;obtain⟨o,cS,ir,eM⟩:=ZD d6 k es.toList m 0 Z;have aF:=run_getObj_map (P:=P) w r es clock b;have l:=Pb (P:=P) b;have fin:∀(f:Array MapEntry) (c:Nat),f.toList.map (λe=>(e.key,e.val))=(mz m k).map Bs->dm F (u (mz m k)) Il:=λf c V=>
  ⟨s.os,s.tape,s.output,by have:=s.size;simpa using this,by rw[Dw _ W];exact j.set _ _ _ s.e4 V⟩
 simp only[execOp,resolve,oN,gu,mT,aj.eval h,aj.eval ag];cases o with
 |
  none=>
  refine⟨_,_,_,?_,dI,fin es clock (by rw[eM rfl];exact Z)⟩;simp[invoke,builtin,Builtin.delete_,gH h1,aF,run_checkKey h2,Instr.findKey,gH h2,cS,l]
 |
  some p=>
  obtain⟨O,v0⟩:=p;obtain⟨_,ay,dh⟩:=ir O v0 rfl;simp only[Ds]at ay dh;refine⟨_,_,_,?_,dI,fin (es.eraseIdxIfInBounds O) clock (by simpa[Array.eraseIdxIfInBounds,show O<es.size by simpa using ay]using dh)⟩;simp[invoke,builtin,Builtin.delete_,gH h1,aF,run_checkKey h2,Instr.findKey,gH h2,cS,l]
def arw{b:Nat}{D:List aq}:∀h,Sat (eB b (.map #[] 0)::D) h->Sat (jd b []::D) h:=λ_=>Sat.head λ_ cl=>⟨#[],0,cl,rfl⟩
end
end
abbrev S(l:List UInt8):Value:=.string ⟨l.toArray⟩
def avq(l:List UInt8):(ByteArray.mk l.toArray).size=l.length:=by simp[ByteArray.size]
section
variable{P:Program}{F w:World}{n:Nat}{I:eT}{M:List aq}{bD:TypeId}
section
variable{t dk:TypeId}{x y:Operand}{l m:List UInt8}
def Sn{t:TypeId}{l:List UInt8}[i:Be P t](h:ck I x=some (S l)):b0 P F n Oi bD I M (.int .i64 l.length):=λa w d pos J g aj s=>by
 simp only[execOp,resolve,oN,gu,mT,aj.eval h];simp[invoke,builtin,Builtin.len_,gH i.out,goInt,avq]
def aib{i:Nat}{d6:IntKind}{b:UInt8}[j:Be P t](ah:ck I x=some (S l))(ag:ck I y=some (.int d6 (i:Int)))(aA:l[i]?=some b):b0 P F n (.index t x y) bD I M (.int .u8 b.toNat):=λa w d pos J g aj s=>by
 simp only[execOp,aj.eval ah,aj.eval ag];obtain⟨ak,e⟩:=dc.1 aA;have ay:(ByteArray.mk l.toArray)[i]?=some b:=by
  rw[getElem?_pos _ _ (by simp[ByteArray.size];exact ak)];exact congrArg some e
 simp[Instr.index,asIntOf,gH j.out,ay]
def pF[i:Be P t](ah:ck I x=some (S l))(ag:ck I y=some (S m)):b0 P F n Bu bD I M (.bool (decide (l=m))):=λa w d pos J g aj _=>by
 simp only[execOp,aj.eval ah,aj.eval ag];simp[eqGuard,binOp,Op.stringOp];rw[o4];simp
def adl[i:Be P t](ah:ck I x=some (S l))(ag:ck I y=some (S m)):b0 P F n Bt bD I M (.bool (!decide (l=m))):=λa w d pos J g aj _=>by
 simp only[execOp,aj.eval ah,aj.eval ag];simp[eqGuard,binOp,Op.stringOp];rw[o4];simp
end
end
section
variable{a:Option Addr}{c n aY:Nat}
def SF(a:Option Addr)(c n:Nat)(xs:List Value):aq:=λh=>Pg.iD h a c n xs
def auw{e:TypeId}{aY:Nat}{xs:List Value}{D:List aq}:∀h,Sat (own (.slice a n c) e aY n xs::D) h->Sat (SF a c n xs::D) h:=λ_=>Sat.head λg cl=>by
 refine⟨oh.rd cl,?_⟩;obtain⟨_,h|⟨b,C,dx,h1,h2,aN,bu,dW⟩⟩:=cl
 . simp only[Value.slice.injEq]at h;omega
 . simp only[Value.slice.injEq]at h1;omega
def auv{x xs:List Value}(ah:x.length=aY)(d:n=0->xs=[]){D:List aq}:∀h,Sat (SF a c (n+1) (x++xs)::D) h->Sat (SF (if c=1 then a else a.map (λy:Addr=>y.add (1*aY))) (c -1) n xs::D) h:=λ_=>Sat.head λg cl=>by
 obtain⟨cl,a6⟩:=cl;refine⟨?_,by omega⟩;rcases cl with⟨_,_,h⟩|⟨b,bO,H,C,h1,h2,aN⟩
 . omega
 . simp only[Value.slice.injEq]at h1
   obtain⟨rfl,_,rfl⟩:=h1;obtain rfl:=h2 ae;by_cases f:c=1
   . subst f
     have aM:n=0:=ae;subst aM;obtain rfl:=d rfl;rw[bd rfl];exact .inr ⟨b,bO,none,0,rfl,λ_=>rfl,λj x N=>by cases N⟩
   . rw[a8 f]
     refine .inr ⟨b,bO+aY,none,c -1,by simp[Addr.add],λ_=>rfl,λj y N=>?_⟩;obtain⟨_,cs,e,R,cS,cd⟩:=aN (aY+j) y (by rw[pH (by omega),ah,Ge];exact N);exact⟨rfl,cs,e,R,cS,by rw[n3];exact cd⟩
end
class h7(b bO:Nat)(A:aq)(v:outParam Value):Prop where
 get:∀{h:eA},A h->∃(l:List Value) (T:TypeId) (R:Nat×Nat),h b=some (.cells l.toArray T R)/\l[bO]?=some v
instance(priority:=low) xp.part{b bO:Nat}{A:aq}{v:Value}{r:List aq}[i:h7 b bO A v]:xp b bO (A::r) v where
 get:=fun⟨_,_,_,e,aW,_⟩=>by
  obtain⟨l,T,R,h1,h2⟩:=i.get aW;exact⟨l,T,R,e▸join_some h1,h2⟩
def iD.fQ{g:eA}{a:Option Addr}{c n:Nat}{x:Value}{xs:List Value}(h:Pg.iD g a c (n+1) (x::xs))(d:n=0->xs=[]):Pg.iD g (if c=1 then a else a.map (λy:Addr=>y.add (1*1))) (c -1) n xs:=by
 obtain⟨h1,h2,_,rfl,aW,_⟩:=auv (aY:=1) (x:=[x]) rfl d g (Sat.one h);exact Pg.iD.imp aW λb o e=>join_some e
def iD.own{h:eA}{a:Option Addr}{c n:Nat}{e:TypeId}{aY:Nat}{xs:List Value}(aK:oh h (.slice a n c) e aY n xs):Pg.iD h a c n xs:=by
 obtain⟨h1,h2,_,rfl,aW,_⟩:=auw h (Sat.one aK);exact Pg.iD.imp aW λb o e=>join_some e
end Go.L
