import Derived.Test.YtnnhpnccfnghdaaGreatR5
import Derived.Recover
import Derived.RangeFuncKeeps
import Derived.RangeFuncLeaves
set_option linter.all false
set_option maxRecDepth 8000
set_option maxHeartbeats 1600000
namespace Go.Proofs.YtnnhpnccfnghdaaGreat.L
open Go.L Go.L.Lx Go.L.Pg
attribute[local irreducible] G cE GE cY GT b0 df c4 di Exit.then Exit.inBlock
section
variable(L:List Nat){α:Type}(a:Option Addr)(c n:Nat)(Z:FuncId)(l:List Int)(xs z:List Value)(a2:aq)(I:List aq)(q:Nat->Bool)
abbrev iC:List Value:=l.map af
abbrev hN:Value:=.slice a l.length c
abbrev dz:aq:=own (hN a c l) 3 1 l.length (iC l)
abbrev B5(l:List Nat):List Value:=l.map λp=>ptr p 0
def fix(q:α->Bool)(L:List α):Int:=if L.any q then(L.findIdx q:Int)else-1
def ad2{q:α->Bool}{L:List α}{x:Nat}{t:α}(h:L[x]?=some t)(h1:(L.take x).any q=false)(h2:q t=true):fix q L=x:=by
 obtain⟨ah,e⟩:=dc.1 h;have aW:L.any q=true:=zt.2 ⟨t,js h,h2⟩;unfold fix;rw[bd aW];have:L.findIdx q=x:=by
  rw[List.findIdx_eq ah];refine⟨by rw[e];exact h2,λj N=>?_⟩;have:L[j]∈L.take x:=by
   rw[auO];exact⟨j,by omega,rfl⟩
  exact Bool.eq_false_iff.2 λbm=>by
   have:=EU.1 h1 _ this;exact this bm
 rw[this]
def Kj{q:α->Bool}{L:List α}(h:L.any q=false):fix q L=-1:=by unfold fix;rw[h];rfl
def CO{q:α->Bool}{L:List α}{t:α}(h:L.find? q=some t):∃x:Nat,fix q L=x/\L[x]?=some t/\x<L.length:=by
 have aW:L.any q=true:=zt.2 ⟨t,rb h,List.find?_some h⟩;have av:=auP.2 (zt.1 aW);refine⟨L.findIdx q,by unfold fix;rw[bd aW],?_,av⟩;rw[List.find?_eq_getElem?_findIdx]at h;exact h
def aff{q:α->Bool}{L:List α}(h:L.find? q=none):fix q L=-1:=Kj (by
 rw[EU];exact λx ah=>Sl.1 h x ah)
def Sk{q:α->Bool}{L:List α}:0<=fix q L↔L.any q=true:=by
 unfold fix;split
 . rename_i h;simp[h]
 . rename_i h;simp[h]
def ae3{L:List α}{q:α->Bool}{x:Nat}{t:α}(h:L[x]?=some t)(h1:(L.take x).any q=false)(h2:q t=false):(L.take (x+1)).any q=false:=by
 exact Vk
def aiy{a b:Bool}(h:a=b):Value.bool a=Value.bool b:=by rw[h]
def w2{D:List aq}:∀{I:List aq},Part I (I++D) D
 |[]=>.nil
 |_::I=>.cons .head (w2 (I:=I))
theorem B6{I D:List aq}{v:Value}{n:Nat}{xs:List Value}(aE:∀h,Sat I h->gI h v n xs):iW v (I++D) n xs:=⟨λs=>by
 obtain⟨h1,h2,d,e,a,_⟩:=Sat.split s;rw[e];exact(aE _ a).more⟩
def Ga{l:List Int}{i:Nat}{y:Int}(h:l[i]?=some y):(iC l)[i*1]?=some (af y):=by simp[iC,h]
def auQ{l:List Nat}{i y:Nat}(h:l[i]?=some y):(B5 l)[i*1]?=some (ptr y 0):=by simp[B5,h]
def atm{a:Option Addr}{c n:Nat}{m:List Int}{t:Int}(h:m.length=n):own (.slice a (n+1) c) 3 1 (n+1) (iC m++[af t])=dz a c (m++[t]):=by subst h;simp only[dz,hN,iC,o1,eL];rfl
def afz[gl w8 a2 n xs](ah:xs.length=n*1)(h1:xs.all Value.oneCell'=true)(aA:n*8<=140737488355328):ad aa 76 w9 [a2] (λu H=>∃aI aQ,u=.slice aI n aQ/\H=[own zk 36 1 n xs,a2]):=by
 refine aw Tryz.func76 λF D=>?_;exact zx
def ET[gl w8 a2 n xs](ah:xs.length=n*1)(h1:xs.all Value.oneCell'=true)(aA:n*8<=140737488355328):ad aa 38 w9 [a2] (λu H=>∃aI aQ,u=.slice aI n aQ/\H=[own zk 3 1 n xs,a2]):=by
 refine aw Tryz.func38 λF D=>?_;exact zx
def auR[gl w8 a2 n xs](ah:xs.length=n*9)(h1:xs.all Value.oneCell'=true)(aA:n*80<=140737488355328):ad aa 34 w9 [a2] (λu H=>∃aI aQ,u=.slice aI n aQ/\H=[own zk 38 9 n xs,a2]):=by
 refine aw Tryz.func34 λF D=>?_;exact zx
def amM[gl w8 a2 n xs](ah:xs.length=n*2)(h1:xs.all Value.oneCell'=true)(aA:n*24<=140737488355328):ad aa 178 w9 [a2] (λu H=>∃aI aQ,u=.slice aI n aQ/\H=[own zk 89 2 n xs,a2]):=by
 refine aw Tryz.func178 λF D=>?_;exact zx
def amN[gl w8 a2 n xs](ah:xs.length=n*2)(h1:xs.all Value.oneCell'=true)(aA:n*40<=140737488355328):ad aa 179 w9 [a2] (λu H=>∃aI aQ,u=.slice aI n aQ/\H=[own zk 82 2 n xs,a2]):=by
 refine aw Tryz.func179 λF D=>?_;exact zx
def amO[gl w8 a2 n xs](ah:xs.length=n*4)(h1:xs.all Value.oneCell'=true)(aA:n*56<=140737488355328):ad aa 180 w9 [a2] (λu H=>∃aI aQ,u=.slice aI n aQ/\H=[own zk 85 4 n xs,a2]):=by
 refine aw Tryz.func180 λF D=>?_;exact zx
def UP[gl w8 a2 n xs](ah:xs.length=n*7)(h1:xs.all Value.oneCell'=true)(aA:n*80<=140737488355328):ad aa 181 w9 [a2] (λu H=>∃aI aQ,u=.slice aI n aQ/\H=[own zk 87 7 n xs,a2]):=by
 refine aw Tryz.func181 λF D=>?_;exact zx
theorem amP(L:List b2)(a:Option Addr)(c:Nat)(Z:FuncId)(z:List Value)(I:List aq)(q:b2->Bool)(aM:L.length<=4611686018427387904)(aE:∀h,Sat I h->gI h kL L.length (L.flatMap eK))
 (hp:∀x∈L,ad aa Z Gp I lr)(fz:e0 aa Z:=by exact fc):ad aa 100 oD I BP:=by
 refine aw Tryz.func100 λF D=>?_;haveI:=B6 (D:=D) aE;refine rW ?_;intro x ah bm;replace ah:x<=L.length:=ah;replace bm:(L.take x).any q=false:=bm;refine bi ?_;refine cg (λW=>?_) (λW=>?_)
 . obtain⟨t,R⟩:∃t,L[x]?=some t:=⟨_,cz (show x<L.length by omega)⟩
   refine Vn ?_;exact BZ
 . exact BX
theorem as2(L:List fN)(a:Option Addr)(c:Nat)(Z:FuncId)(z:List Value)(I:List aq)(q:fN->Bool)(aM:L.length<=4611686018427387904)(aE:∀h,Sat I h->gI h kL L.length (L.flatMap gy))
 (hp:∀x∈L,ad aa Z Gq I lr)(fz:e0 aa Z:=by exact fc):ad aa 273 oD I BP:=by
 refine aw Tryz.func273 λF D=>?_;haveI:=B6 (D:=D) aE;refine rW ?_;intro x ah bm;replace ah:x<=L.length:=ah;replace bm:(L.take x).any q=false:=bm;refine bi ?_;refine cg (λW=>?_) (λW=>?_)
 . obtain⟨t,R⟩:∃t,L[x]?=some t:=⟨_,cz (show x<L.length by omega)⟩
   refine Vp ?_;exact BZ
 . exact BX
theorem atc(L:List Row)(a:Option Addr)(c:Nat)(Z:FuncId)(z:List Value)(I:List aq)(q:Row->Bool)(aM:L.length<=4611686018427387904)(aE:∀h,Sat I h->gI h kL L.length (L.flatMap hs))
 (hp:∀x∈L,ad aa Z Gr I lr)(fz:e0 aa Z:=by exact fc):ad aa 327 oD I BP:=by
 refine aw Tryz.func327 λF D=>?_;haveI:=B6 (D:=D) aE;refine rW ?_;intro x ah bm;replace ah:x<=L.length:=ah;replace bm:(L.take x).any q=false:=bm;refine bi ?_;refine cg (λW=>?_) (λW=>?_)
 . obtain⟨t,R⟩:∃t,L[x]?=some t:=⟨_,cz (show x<L.length by omega)⟩
   refine Vr ?_;exact BZ
 . exact BX
theorem atr(L:List mj)(a:Option Addr)(c:Nat)(Z:FuncId)(z:List Value)(I:List aq)(q:mj->Bool)(aM:L.length<=4611686018427387904)(aE:∀h,Sat I h->gI h kL L.length (L.flatMap jN))
 (hp:∀x∈L,ad aa Z Gn I lr)(fz:e0 aa Z:=by exact fc):ad aa 220 oD I BP:=by
 refine aw Tryz.func220 λF D=>?_;haveI:=B6 (D:=D) aE;refine rW ?_;intro x ah bm;replace ah:x<=L.length:=ah;replace bm:(L.take x).any q=false:=bm;refine bi ?_;refine cg (λW=>?_) (λW=>?_)
 . obtain⟨t,R⟩:∃t,L[x]?=some t:=⟨_,cz (show x<L.length by omega)⟩
   refine Vl ?_;exact BZ
 . exact BX
theorem aiz(L:List Int)(a:Option Addr)(c:Nat)(Z:FuncId)(z:List Value)(I:List aq)(q:Int->Bool)(aM:L.length<=4611686018427387904)(aE:∀h,Sat I h->gI h kL L.length (iC L))
 (hp:∀x∈L,ad aa Z ([af x]++z) I lr)(fz:e0 aa Z:=by exact fc):ad aa 308 oD I BP:=by
 refine aw Tryz.func308 λF D=>?_;haveI:=B6 (D:=D) aE;refine rW ?_;intro x ah bm;replace ah:x<=L.length:=ah;replace bm:(L.take x).any q=false:=bm;refine bi ?_;refine cg (λW=>?_) (λW=>?_)
 . obtain⟨t,R⟩:∃t,L[x]?=some t:=⟨_,cz (show x<L.length by omega)⟩
   refine aea ?_;exact BZ
 . exact BX
theorem auS(aM:L.length<=4611686018427387904)(aE:∀h,Sat I h->gI h kL L.length (B5 L))
 (hp:∀x∈L,ad aa Z ([ptr x 0]++z) I lr)(fz:e0 aa Z:=by exact fc):ad aa 89 oD I BP:=by
 refine aw Tryz.func89 λF D=>?_;haveI:=B6 (D:=D) aE;refine rW ?_;intro x ah bm;replace ah:x<=L.length:=ah;replace bm:(L.take x).any q=false:=bm;refine bi ?_;refine cg (λW=>?_) (λW=>?_)
 . obtain⟨t,R⟩:∃t,L[x]?=some t:=⟨_,cz (show x<L.length by omega)⟩
   refine yf ?_;refine aB rfl (gz rfl (auQ R)) ?_;exact BZ
 . exact BX
theorem aiA(aM:L.length<=4611686018427387904)(aE:∀h,Sat I h->gI h (.slice a L.length c) L.length (B5 L))
 (hp:∀x∈L,ad aa Z ([ptr x 0]++z) I (aH (.bool (q x)) I))(fz:e0 aa Z:=by exact fc):ad aa 49 [.slice a L.length c,.func (.func Z) #[] z.toArray] I (aH (.bool (L.any q)) I):=by
 refine aw Tryz.func49 λF D=>?_;refine cv ?_;refine ci rfl (b1 rfl (auS L a c Z z I q aM aE hp) w2) ?_;rintro _ D ⟨_,⟨rfl,bf⟩,rfl⟩;refine fm ?_;obtain rfl:=bf.symm;refine bi ?_;exact aX ⟨aiy (by rw[o4,kN];exact Sk),rfl⟩ (λ_ h=>h)
end
section
variable(L:List Int)(a:Option Addr)(c:Nat)(y:Int)(a2:aq)
def auT[gl kL a2 L.length (iC L)](aM:L.length<=4611686018427387904):ad aa 350 [.slice a L.length c,af y] [a2] (aH (af (fix (λx=>decide (y=x)) L)) [a2]):=by
 refine aw Tryz.func350 λF D=>?_;refine fW ?_;refine gG (bv:=Nat) (λx=>x<=L.length/\(L.take x).any (λx=>decide (y=x))=false) (λx=>[(8,af x),(7,af L.length),(0,.slice a L.length c),(1,af y)]) (λ_=>a2::D) (λx=>L.length -x) 0 (⟨eX _,rfl⟩) dy (au) ?_;rintro x ⟨ah,bm⟩;replace ah:x<=L.length:=ah;replace bm:(L.take x).any (λx=>decide (y=x))=false:=bm;refine bi ?_;refine cg (λW=>?_) (λW=>?_)
 . obtain⟨t,R⟩:∃t,L[x]?=some t:=⟨_,cz (show x<L.length by omega)⟩
   refine aea ?_;refine b6 ?_;refine cg (λM=>?_) (λM=>?_)
   . have cl:decide (y=t)=true:=by simpa using M
     refine fr ?_;exact aX ⟨by rw[ad2 R bm cl],rfl⟩
   . have cl:decide (y=t)=false:=by simpa using M
     refine C6 ?_;refine fD (x+1) ⟨show x+1<=L.length by omega,ae3 R bm cl⟩ (show L.length -(x+1)<L.length -x by omega) dy (au)
 . obtain rfl:x=L.length:=by omega
   rw[nw]at bm;refine dC ?_;exact aX ⟨by rw[Kj bm],rfl⟩
def I0[gl kL a2 L.length (iC L)](aM:L.length<=4611686018427387904):ad aa 298 [.slice a L.length c,af y] [a2] (aH (.bool (L.contains y)) [a2]):=by
 refine aw Tryz.func298 λF D=>?_;refine cv ?_;refine aT (auT L a c y a2 aM) ?_;refine bi ?_;exact aX ⟨aiy (by rw[o4,kN,Sk,List.contains_iff_mem];simp),rfl⟩
end
section
variable{q:Int->Bool}{l U:List Int}{i j:Nat}{y t:Int}
def SG(h:l[j]?=some t):(l.take (j+1)).filter (λx=>!q x)=(l.take j).filter (λx=>!q x)++if q t then[]else[t]:=by
 obtain⟨N,e⟩:=dc.1 h;rw[nv N,e,yV];by_cases bm:q t<;>simp[bm]
def aiB(h:l.any q=false):l.filter (λx=>!q x)=l:=by
 rw[SH];intro x ah;have:=EU.1 h x ah;simpa using this
def aiC{A:aq}{D:List aq}:∀{l:List aq} {h:eA},Sat (A::(l++D)) h->Sat (l++(A::D)) h
 |[],_,s=>s
 |B::l,_,s=>Sat.tail (r:=A::(l++D)) (m:=l++(A::D)) (λh s=>aiC s) (Sat.swap s)
def aiD{A:aq}{D:List aq}:∀{l:List aq} {h:eA},Sat (l++(A::D)) h->Sat (A::(l++D)) h
 |[],_,s=>s
 |B::l,_,s=>Sat.swap (Sat.tail (r:=l++(A::D)) (m:=A::(l++D)) (λh s=>aiD s) s)
def ya{P:Program}{f:FuncId}{args:List Value}{A:aq}{I:List aq}{J:Value}(h:ad P f args I (aH J I)):ad P f args (A::I) (aH J (A::I)):=λF D w s=>
 (h F (A::D) w (s.imp λg t=>aiC t)).mono λ_ _ ⟨v,H,ay,⟨aV,bz⟩,s⟩=>⟨v,_,ay,wP,s.imp λg t=>by subst bz;exact aiD t⟩
structure p3(q:Int->Bool)(l U:List Int)(i j:Nat):Prop where
 len:U.length=l.length
 auU:i<=j
 auV:j<=l.length
 lt:i<l.length
 pre:U.take i=(l.take j).filter (λx=>!q x)
 s9:i=((l.take j).filter (λx=>!q x)).length
 post:U.drop j=l.drop j
def p3.at(h:p3 q l U i j){t:Int}(R:l[j]?=some t):U[j]?=some t:=by
 have:=congrArg (·[0]?) h.post;simpa[R]using this
def p3.skip(h:p3 q l U i j){t:Int}(R:l[j]?=some t)(bm:q t=true):p3 q l U i (j+1):=by
 obtain⟨N,_⟩:=dc.1 R;have e:=SG (q:=q) R;rw[bm]at e;simp only[fi,jr]at e;refine⟨h.len,by have:=h.auU;omega,N,h.lt,by rw[e];exact h.pre,by rw[e];exact h.s9,?_⟩;have:=congrArg (List.drop 1) h.post;simpa[GJ,MB]using this
def p3.jv(h:p3 q l U i j){t:Int}(R:l[j]?=some t)(bm:q t=false)(g2:i<j):p3 q l (U.set i t) (i+1) (j+1):=by
 obtain⟨N,_⟩:=dc.1 R;have av:=h.len;have dV:=h.lt;have e:=SG (q:=q) R;rw[bm]at e;simp only[eP,ep]at e;refine⟨by simp[av],by omega,N,by omega,?_,?_,?_⟩
 . rw[e,List.take_set,nv ae,U3 _ _ It,h.pre]
   rw[<-h.s9,x9];rfl
 . rw[e,eL,<-h.s9];rfl
 . rw[List.drop_set,bd ae]
   have:=congrArg (List.drop 1) h.post;simpa[GJ,MB]using this
def p3.start{x:Nat}{t:Int}(R:l[x]?=some t)(h1:(l.take x).any q=false)(h2:q t=true):p3 q l l x (x+1):=by
 obtain⟨N,_⟩:=dc.1 R;have e:=SG (q:=q) R;rw[h2]at e;simp only[fi,jr]at e;rw[aiB h1]at e;exact⟨rfl,by omega,N,N,e.symm,by rw[e,n0];omega,rfl⟩
def auW{α:Type}{q:α->Bool}{L:List α}(h:L.any q=true):∃(x:Nat) (t:α),fix q L=x/\L[x]?=some t/\(L.take x).any q=false/\q t=true:=by
 have av:=auP.2 (zt.1 h);refine⟨L.findIdx q,L[L.findIdx q],by unfold fix;rw[bd h],cz av,?_,List.findIdx_getElem⟩;rw[EU];intro y ag;obtain⟨i,ak,rfl⟩:=auO.1 ag;have m8:i<L.findIdx q:=ae;rw[List.not_of_lt_findIdx m8];decide
def aiE(h:l[i]?=some y):(iS l)[i*1]?=some (bw y):=by simp[iS,h]
structure tT(l U:List Int)(i:Nat):Prop where
 len:U.length=l.length
 half:2*i<=l.length+1
 out:∀k,k<l.length->(k<i\/l.length -i<=k)->U[k]?=l[l.length -1 -k]?
 mid:∀k,i<=k->k<l.length -i->U[k]?=l[k]?
def tT.start(l:List Int):tT l l 0:=⟨rfl,by omega,λk h1 h2=>by omega,λk _ _=>rfl⟩
def tT.swap{x y:Int}(h:tT l U i)(ak:U[i]?=some x)(N:U[j]?=some y)(g2:j=l.length -1 -i/\i<j):tT l ((U.set i y).set j x) (i+1):=by
 obtain⟨rfl,dV⟩:=g2;have av:=h.len;have m1:=h.mid i (ei _) ae;have t:=h.mid (l.length -1 -i) ae ae;refine⟨by simp[av],by omega,λk h1 h2=>?_,λk h1 h2=>?_⟩
 . by_cases ay:k=l.length -1 -i
   . subst ay
     rw[xh h5,show l.length -1 -(l.length -1 -i)=i by omega,<-m1,ak]
   . rw[qK (λe=>ay e.symm)]
     by_cases aV:k=i
     . subst aV;rw[xh ae,<-t,N]
     . rw[qK (λe=>aV e.symm)];exact h.out k h1 ae
 . rw[qK ae,qK ae];exact h.mid k ae ae
def tT.done(h:tT l U i)(ak:l.length<=2*i+1):U=l.reverse:=by
 have av:=h.len;apply uW;intro k;by_cases hk:k<l.length
 . rw[List.getElem?_reverse hk]
   by_cases e:k<i\/l.length -i<=k
   . exact h.out k hk e
   . rw[h.mid k ae ae,show l.length -1 -k=k by omega]
 . rw[oK ae,oK h5]
def auX{b c i:Nat}{l U:List Int}{D:List aq}(h:p3 q l U i l.length)(ws:List Value):∀F,Sat (own (.slice (some ⟨b,0,none⟩) l.length c) 3 1 l.length ((iC U).take (i*1)++ws)::D) F->Sat (dz j0 c BN::D) F:=λF s=>by
 have av:=h.len;have dV:=h.lt;have B:=h.s9;have hp:=h.pre;rw[nw]at B hp;have h1:=HL (k:=i) ae F s;have ay:((iC U).take (i*1)).length=i*1:=h5;rw[D4 ay]at h1;have aV:(iC U).take (i*1)=iC BN:=by rw[uu];unfold iC;rw[<-List.map_take,hp]
 rw[aV,B]at h1;exact h1
end
section
variable(l:List Int)(a:Option Addr)(c:Nat)(Z:FuncId)(z:List Value)(I:List aq)(q:Int->Bool)
theorem auY(aM:l.length<=1099511627776)
 (hp:∀x∈l,ad aa Z ([af x]++z) I (aH (.bool (q x)) I))(bm:l.any q=false)(fz:e0 aa Z:=by exact fc):ad aa 247 [hN a c l,.func (.func Z) #[] z.toArray] (dz a c l::I) (aH (hN a c l) (dz a c l::I)):=by
 refine aw Tryz.func247 λF D=>?_;refine cv ?_;refine ci rfl (b1 rfl (aiz l a c Z z (dz a c l::I) q ae (λh s=>by haveI:iW (hN a c l) (dz a c l::I) l.length (iC l):=inferInstance;exact iW.get s) (λx ah=>ya (hp x ah))) w2) ?_;rintro _ D ⟨_,⟨rfl,bf⟩,rfl⟩;refine fm ?_;obtain rfl:=bf.symm;refine cq ?_;refine aB rfl (fC (c:=true) (by rw[Kj bm];rfl) (my rfl rfl)) ?_;refine dC ?_;exact aX dI (λ_ h=>h)
theorem auZ(b c:Nat)(Z:FuncId)(z:List Value)(I:List aq)(q:Int->Bool)(aM:l.length<=1099511627776)
 (hp:∀x∈l,ad aa Z ([af x]++z) I lr)(d:l.length<=c)(bm:l.any q=true)(fz:e0 aa Z:=by exact fc):ad aa 247 [hN j0 c l,.func (.func Z) #[] z.toArray] (dz j0 c l::I) (aH (hN j0 c BN) (dz j0 c BN::I)):=by
 refine aw Tryz.func247 λF D=>?_;obtain⟨g8,t0,g,J,f,p⟩:=auW bm;obtain⟨T,-⟩:=dc.1 J;refine cv ?_;refine ci rfl (b1 rfl (aiz l (some ⟨b,0,none⟩) c Z z (dz (some ⟨b,0,none⟩) c l::I) q ae (λh s=>by haveI:iW (hN (some ⟨b,0,none⟩) c l) (dz (some ⟨b,0,none⟩) c l::I) l.length (iC l):=inferInstance;exact iW.get s) (λx ah=>ya (hp x ah))) w2) ?_;rintro _ D ⟨_,⟨rfl,bf⟩,rfl⟩;refine fm ?_;obtain rfl:=bf.symm;rw[g];refine cq ?_;refine cP ?_;refine cv ?_;refine aB rfl (fk (((g8+1:Nat):Int)) eZ rfl rfl) ?_;refine bK ?_;refine gG (bv:=Nat×Nat×List Int) (λe=>p3 q l e.2.2 e.1 e.2.1/\e.1<e.2.1) (λe=>[(5,af e.1),(6,af e.2.1),(0,hN j0 c l),(1,.func (.func Z) #[] z.toArray)]) (λe=>own (.slice j0 l.length c) 3 1 l.length (iC e.2.2)::(I++D)) (λe=>l.length -e.2.1) (g8,g8+1,l) (⟨p3.start J f p,Nat.lt_succ_self _⟩) dy (au) ?_;rintro⟨i,j,U⟩ ⟨bC,g2⟩;replace bC:p3 q l U i j:=bC;replace g2:i<j:=g2;have v:=bC.auV;dsimp only;refine cv ?_;refine cg (λW=>?_) (λW=>?_)
 . obtain⟨t,R⟩:∃t,l[j]?=some t:=⟨_,cz (show j<l.length by omega)⟩
   refine bQ ?_;refine aB rfl QB ?_;refine aB rfl (gz rfl (Ga (bC.at R))) ?_;refine cq ?_;refine ci rfl (oE rfl rfl (ya (A:=own (.slice j0 l.length c) 3 1 l.length (iC U)) (hp t Jy)) w2) ?_;rintro _ D ⟨_,⟨rfl,bf⟩,rfl⟩;refine fm ?_;obtain rfl:=bf.symm;rw[cp];refine b6 ?_;refine cg (λM=>?_) (λM=>?_)
   . have a:q t=false:=by simpa using M
     refine bB ?_;refine aB rfl (fI rfl rfl (show i<l.length from bC.lt)) ?_;refine kb (rU rfl rfl rfl (show i*1<(iC U).length by have:=bC.len;have:=bC.lt;simp;omega)) ?_;refine bK ?_;refine Au ?_;refine bi ?_;refine L8 ?_;refine bb ?_;refine fD (i+1,j+1,U.set i t) ⟨bC.jv R a g2,by show i+1<j+1;omega⟩ (show l.length -(j+1)<l.length -j by omega) dy (by dsimp only;rw[show iC (U.set i t)=(iC U).set (i*1) (af t)from by simp[iC,tE]];exact λ_ h=>h)
   . have a:q t=true:=by simpa using M
     refine bB ?_;refine L8 ?_;refine bb ?_;refine fD (i,j+1,U) ⟨bC.skip R a,by show i<j+1;omega⟩ (show l.length -(j+1)<l.length -j by omega) dy (λ_ h=>h)
 . obtain rfl:j=l.length:=by omega
   refine cv ?_;refine aB rfl (DZ rfl rfl (show i<=l.length by have:=bC.lt;omega)) ?_;refine A9 (NU (k:=i) (m:=l.length -i) (show i+(l.length -i)=l.length by have:=bC.lt;omega) rfl (show 0<l.length -i by have:=bC.lt;omega) Zs) ?_;rintro _ _ ⟨rfl,rfl⟩;refine bi ?_;refine aB rfl (tj rfl rfl (show i<=c by have:=bC.lt;omega)) ?_;refine bB ?_;exact aX ⟨by rw[hN,<-(show i=(l.filter (λx=>!q x)).length by have:=bC.s9;rwa[nw]at this)],rfl⟩ (auX bC _)
theorem KE(aM:l.length<=1099511627776)
 (hp:∀x∈l,ad aa Z ([af x]++z) I lr)(fz:e0 aa Z:=by exact fc):ad aa 247 [hN a c l,.func (.func Z) #[] z.toArray] (dz a c l::I) (aH (hN a c BN) (dz a c BN::I)):=by
 cases bm:l.any q with
 |false=>rw[aiB bm];exact auY l a c Z z I q aM hp bm
 |
  true=>
  intro F D w s;have av:0<l.length:=by cases l with
   |nil=>cases bm
   |cons _ _=>simp
  obtain⟨b,rfl,d⟩:=A8 av _ s.e4;exact(auZ l b c Z z I q aM hp d bm) F D w s
def asU(aM:l.length<=1099511627776):ad aa 77 [ul a c l] [fE a c l] (aH eu [own (ul a c l) 36 1 l.length (iS l.reverse)]):=by
 refine aw Tryz.func77 λF D=>?_;refine bK ?_;refine aB rfl (kl ((l.length:Int) -1) y2 rfl rfl) ?_;refine bB ?_;refine gG (bv:=Nat×Int×List Int) (λe=>tT l e.2.2 e.1/\e.2.1=(l.length:Int) -1 -e.1) (λe=>[(2,af e.1),(3,af e.2.1),(0,ul a c l)]) (λe=>own (.slice a l.length c) 36 1 l.length (iS e.2.2)::D) (λe=>l.length -e.1) (0,(l.length:Int) -1,l) (⟨tT.start l,by simp⟩) dy (au) ?_;rintro⟨i,m,U⟩ ⟨bC,d⟩;replace bC:tT l U i:=bC;replace d:m=(l.length:Int) -1 -i:=d;have hlen:=bC.len;have m8:=bC.half;dsimp only;refine bQ ?_;refine cg (λW=>?_) (λW=>?_)
 . obtain⟨j,rfl⟩:∃j:Nat,m=(j:Int):=⟨l.length -1 -i,by omega⟩
   obtain⟨x,ak⟩:∃x,U[i]?=some x:=⟨_,cz (show i<U.length by omega)⟩;obtain⟨y,N⟩:∃y,U[j]?=some y:=⟨_,cz (show j<U.length by omega)⟩;have b:i*1<(iS U).length:=(by rw[oQ];omega);have p:j*1<((iS U).set (i*1) (bw y)).length:=(by rw[gn,oQ];omega);refine bK ?_;refine cu [13] [2,102,9,201,1,201] [] ?_;refine bb ?_;refine EI ?_;refine EI ?_;refine bb ?_;refine go_v rfl .none rfl QB ?_;refine go_v rfl .none rfl (gz rfl (aiE N)) ?_;refine bb ?_;refine Q6 ?_;refine go_v rfl .none rfl (gz rfl (aiE ak)) ?_;refine Q6 ?_;refine ady ?_;refine go_v rfl .none rfl QB ?_;refine bi ?_;refine Au ?_;refine aG ?_;refine aB rfl (kl ((j:Int) -1) y2 rfl rfl) ?_;refine b6 ?_;refine fD (i+1,(j:Int) -1,(U.set i y).set j x) ⟨bC.swap ak N uF,by show(j:Int) -1=(l.length:Int) -1 -((i+1:Nat):Int);omega⟩ (show l.length -(i+1)<l.length -i by omega) dy (by dsimp only;rw[show iS ((U.set i y).set j x)=((iS U).set (i*1) (bw y)).set (j*1) (bw x)from by simp[iS,tE]];exact(au))
 . refine bB ?_
   exact aX dI (by rw[<-bC.done (by omega)];exact(au))
end
section
variable(l:List Int)(q E:Nat)(dp N:List Int)
def RX:(iS l).length=l.length*1:=by simp
def RY:(iS l).all Value.oneCell'=true:=by
 rw[WH];exact qd.2 λx _=>rfl
def Si:(iC l).length=l.length*1:=by simp
def Sj:(iC l).all Value.oneCell'=true:=by
 rw[WH];exact qd.2 λx _=>rfl
def aiM(h1:dp.length<=1099511627776)(h2:N.length<=1099511627776):ad aa 39 [ptr q 0] EF (λu H=>∃a c,u=ul a c dp/\H=[fE a c dp,gi q E dp N]):=by
 refine aw Tryz.func39 λF D=>?_;refine BU ?_;intro cr c1 cD bn;refine c0 ?_;refine ci rfl (b1 rfl (afz cr c1 dp.length (iS dp) (fE cr c1 dp) (RX dp) (RY dp) ae) bF) ?_;rintro _ D ⟨_,⟨a,c,rfl,rfl⟩,rfl⟩;refine bB ?_;exact aX ⟨a,c,rfl,rfl⟩ (λh s=>Sat.swap (cF (cr,c1,cD,bn) trivial (au) h s))
def avb(h1:dp.length<=1099511627776)(h2:N.length<=1099511627776):ad aa 40 [ptr q 0] EF (λu H=>∃a c,u=ul a c N.reverse/\H=[fE a c N.reverse,gi q E dp N]):=by
 refine aw Tryz.func40 λF D=>?_;refine BU ?_;intro cr c1 cD bn;refine afy ?_;intro a c;exact aX ⟨a,c,by simp,rfl⟩ (λh s=>Sat.swap (cF (cr,c1,cD,bn) trivial ZU h s))
def avc(cr:Option Addr)(c1:Nat)(cD:Option Addr)(bn:Nat)(dp N:List Int)(h1:dp.length<=1099511627776)(h2:N.length<=1099511627776):ad aa 40 [ptr q 0] Qk (λu H=>∃a c,u=ul a c N.reverse/\H=(fE a c N.reverse::Qk)):=by
 refine aw Tryz.func40 λF D=>?_;refine afy ?_;intro a c;exact aX ⟨a,c,by simp,rfl⟩ ZU
def avd(h1:dp.length<=1099511627776)(h2:N.length<=1099511627776):ad aa 357 [ptr q 0] EF (λu H=>∃a c,u=ul a c (N.reverse++dp)/\H=[fE a c (N.reverse++dp),gi q E [] []]):=by
 refine aw Tryz.func357 λF D=>?_;refine kK ey ?_;rintro⟨cr,c1,cD,bn⟩ -;refine bi ?_;refine hU [1,6] [1] [(0,.loc),(2,.bI),(3,.bI),(4,.bI),(5,.bI),(1,.c5),(6,.c5),(7,.loc)] Qk mixed gB ?_;refine bB ?_;refine br (avc q E cr c1 cD bn dp N h1 h2) ?_;rintro _ _ ⟨a,c,rfl,rfl⟩;refine et ?_;refine aG ?_;refine go_n rfl .none rfl (MS rfl rfl ey rfl (RX dp) (RY dp) h5 (by simp;unfold maxLen;omega)) ?_;rintro _ _ ⟨b,k,rfl,rfl⟩;refine gg ?_;refine bK ?_;exact aX ⟨b,k,by simp[ul],rfl⟩ (λh s=>by rw[show own (Value.slice b (N.reverse.length+dp.length) k) 36 1 (N.reverse.length+dp.length) (iS N.reverse++iS dp)=fE b k (N.reverse++dp)from by simp[fE,ul,iS,eL]]at s;exact Sat.tail (λh s=>cF (none,0,none,0) trivial (λh s=>Sat.tail (λh s=>iV h (iV h (Sat.drop uI))) s) h s) s)
end
end Go.Proofs.YtnnhpnccfnghdaaGreat.L
namespace Go.L
structure yN(hc:List Deferred)(n:Nat)(I:eT)(a:Act):Prop where
 has:hn n I {a with defers:=[]}
 Yv:a.defers=hc
namespace yN
variable{hc:List Deferred}{n:Nat}{I:eT}{a:Act}
def put{d:Nat}(v:Value)(h:yN hc n I a)(aL:Nat.blt d n=true):yN hc n oL (a.put (some d) v):=⟨h.has.put v aL,h.Yv⟩
end yN
namespace a
end a
end Go.L
namespace Go.L.DD
open Go.L
section
variable{hc:List Deferred}{P:Program}{F:World}{n:Nat}{I:eT}{M H D:List aq}{Q:Exit->Act->World->Prop}{E:Array Oper}{op:Op}{bD:TypeId}{pos:String}{J:Array Edge}{rest:List Oper}{c c1 bn:Code}
def G(hc:List Deferred)(P:Program)(F:World)(n:Nat)(c:Code)(I:eT)(M:List aq)(Q:Exit->Act->World->Prop):Prop:=
 ∀a w,yN hc n I a->dm F M w->c.wp P Q a w
def cE(hc:List Deferred)(P:Program)(F:World)(n:Nat)(E:Array Oper)(l:List Oper)(I:eT)(M:List aq)(Q:Exit->Act->World->Prop):Prop:=
 ∀a w,yN hc n I a->dm F M w->wpList P E Q l a w
def GE(hc:List Deferred)(F:World)(n:Nat)(I:eT)(M:List aq)(Z:Act->World->Prop):Prop:=
 ∀a w,yN hc n I a->dm F M w->Z a w
def uG{Z:Act->World->Prop}(f:∀h,Sat M h->Sat H h)(h:GE hc F n I H Z):GE hc F n I M Z:=λa w aj s=>h a w aj (s.imp f)
def hA(h:G hc P F n c1 I M (Exit.then (bn.wp P Q) Q)):G hc P F n (.seq c1 bn) I M Q:=λa w aj s=>wp_seq qn
def hB(h:G hc P F n bn I M Q):GE hc F n I M (Exit.then (bn.wp P Q) Q .normal):=h
def yt{id:Nat}(h:GE hc F n I M (Q .normal)):GE hc F n I M (Exit.inBlock id Q .normal):=h
def oJ(h:GE hc F n I M (Q .ret)):G hc P F n .ret I M Q:=λa w aj s=>wp_ret qn
def ja{id:Nat}{l:List Oper}(h:cE hc P F n l.toArray l I M Q):G hc P F n (.region id l.toArray false) I M Q:=λa w aj s=>wp_region_lit qn
def ic(h:GE hc F n I M (Q .normal)):cE hc P F n E [] I M Q:=h
def aB{v:Value}{d:Nat}(aL:Nat.blt d n=true)(Y:b0 P F n op bD I M v)(h:cE hc P F n E rest oL M Q):cE hc P F n E Hd I M Q:=
 λa w aj s=>wpList_plain rfl λK cO=>by
  simp only[Oper.wp,(show(execOp a.eval _).run P w=_ from Y {a with defers:=[]} w (some d) pos J none aj.has s),Oper.upon];exact cO _ _ (h _ _ rr s)
def kb(Y:df P F n op bD I M H)(h:cE hc P F n E rest I H Q):cE hc P F n E M4 I M Q:=
 λa w aj s=>wpList_plain rfl λK cO=>by
  obtain⟨X,aE,aD⟩:=Y {a with defers:=[]} w none pos J none aj.has s;simp only[Oper.wp,(show(execOp a.eval _).run P w=_ from aE),Oper.upon];exact cO _ _ (h _ _ aj aD)
def kK{bv:Type}{fM:bv->Prop}{l:bv->List aq}(s:hI (dj fM l) M D)(h:∀x,fM x->G hc P F n c I (l x++D) Q):G hc P F n c I M Q:=λa w aj st=>by
 obtain⟨x,p,ah⟩:=hd (s.to st.e4);exact h x p a w aj HG
end
end Go.L.DD
namespace Go.L
end Go.L
namespace Go.L
section
variable{P:Program}{E:Array Oper}{Q:Exit->Act->World->Prop}
def auy{r n:Nat}{f:FuncId}{args:Array Value}{w:World}{D:Ending->World->Prop}(h:Calls P f args w D):CallsIn (Fence.wide.inRound r) n P f args w D:=(callsIn_wide.2 h:CallsIn Fence.wide n P f args w D)
def auz{r n:Nat}{row:String}{args:Array Value}{w:World}{D:Value->World->Prop}(h:Rows P row args w D):RowsIn (Fence.wide.inRound r) n P row args w D:=
 λc cs _=>let⟨v,X,q,s⟩:=h c cs;⟨v,X,q,stepsIn_wide.2 s⟩
def auA{r n:Nat}{o:Oper}{a:Act}{next next':Act->World->Prop}{x:Result Next}(d:¬LetsOut Q)(aM:∀a w,next a w->next' a w)(h:o.upon P a next Q x):o.uponIn (Fence.wide.inRound r) n P a next' Q x:=by
 unfold Oper.upon at h;split at h
 . exact aM _ _ h
 . exact aM _ _ h
 . exact aM _ _ h
 . refine⟨wq,(auy h).mono ?_⟩
   intro e X V;cases e with
   |returned v=>exact aM _ _ V
   |panicked c=>exact V
   |outgrown=>exact V
 . exact⟨wq,(auz h).mono λv X q=>aM _ _ q⟩
 . exact h
 . exact h.elim
def EY{r n:Nat}(d:¬LetsOut Q)(aL:∀(i:Nat) (o:Oper),E[i]?=some o->∀c,o.op≠Op.defer c):∀(l:List Nat) (a:Act) (w:World),wpOps P E Q l a w->wpOpsIn (Fence.wide.inRound r) n P E Q l a w
 |[],a,w,h=>h
 |
  i::l,a,w,h=>by
  simp only[wpOps]at h;simp only[wpOpsIn];cases aK:E[i]?with
  |none=>simp only[aK]at h⊢;exact EY d aL l a w h
  |
   some o=>
   simp only[aK]at h⊢;split
   . rename_i O
     rw[bd O]at h;rcases h with h|⟨_,h⟩
     . refine⟨λ_ _=>trivial,?_⟩
       have e:(o.semAt (Fence.wide.inRound r).round a.eval)=execOp a.eval o:=Oper.semAt_eq _ _ _ (aL i o aK);rw[e];exact auA d (λa w h=>EY d aL l a w h) h
     . exact absurd h d
   . rename_i O
     rw[a8 O]at h;exact⟨λ_ _=>trivial,EY d aL l _ w h⟩
variable{F:World}{n:Nat}{I:eT}{M N:List aq}
section
variable{r m id:Nat}{l:List Oper}
theorem gi_draw(cR R:List Nat)(U:List (Nat×mQ))(N:List aq)(bf:P.follows .mixedOrders=true)(cb:yQ l cR R U=true)(d:¬LetsOut Q)(aL:∀(i:Nat) (o:Oper),l.toArray[i]?=some o->∀c,o.op≠Op.defer c)
 (h:cY P F n l.toArray R U I M N (Q .normal)){a:Act}{w:World}(aj:hn n I a)(s:dm F M w):(Code.region id l.toArray true).wpIn (Fence.wide.inRound r) m P Q a w:=by
 refine wpIn_region_draw λt=>EY d aL _ _ _ ?_;have q:=h a _ aj s.drew;simp only[yQ,ii]at cb;obtain⟨⟨E,av⟩,b⟩:=cb;have W:U.length=l.length:=lA av;have:=HN (Q:=Q) (Z:=Q .normal) (λ_ _ h=>h) _ _ _ _ (yR E U _ a _ NY b q);rw[W]at this;simp only[Region.schedule,bf,k8,fi];exact wpAny_sound _ t _ a _ (by simpa using this)
theorem gi_region(d:¬LetsOut Q)(aL:∀(i:Nat) (o:Oper),l.toArray[i]?=some o->∀c,o.op≠Op.defer c)
 (h:cE P F n l.toArray l I M Q){a:Act}{w:World}(aj:hn n I a)(s:dm F M w):(Code.region id l.toArray false).wpIn (Fence.wide.inRound r) m P Q a w:=by
 refine wpIn_region (EY d aL _ _ _ ?_);rw[List.range_eq_range',<-Array.length_toList,wpOps_eq_wpList l.toArray.toList 0 ga];exact h a w aj s
end
variable{c:Code}{fn:Func}{post:Value->List aq->Prop}{D:List aq}
section
variable{r m id:Nat}{l:List Oper}{H:List aq}
theorem auB{f:FuncId}{args:List Value}(ba:P.funcs[f]?=some fn)(aA:fn.body=some c){b5:Nat}(aM:fn.ntmps=b5)(av:Nat.ble args.length b5=true)
 (h:∀F D,G P F b5 c (args.zipIdx.map fun(v,i)=>(i,v)) (M++D) (bodyPostM Fence.wide 3 P fn λe X=>∃v H,e=.returned v/\post v H/\dm F (H++D) X)):ad P f args M post:=by
 intro F D w s;subst aM;exact callsIn_wide.1 (callsIn_of_wp_marks (n:=3) ba aA trivial (wpIn_wide.2 (h F D _ _ (WV args _ (Dt av)) s)))
theorem auC{z:Nat}{v:Value}{e:Exit}(V:e=.ret\/e=.normal)(aE:∀a w,hn n I a->(results fn a.tmps).run P w=.ok v w)(H:List aq)(hp:post v H)(B:∀h,Sat M h->Sat (H++D) h):
 DD.GE [{target:=.collected z,args:=#[]}] F n I (eB z yd::M) (bodyPostM Fence.wide 3 P fn acF e):=λa w aj s=>by
 have k:LeavesInM Fence.wide 3 P fn a.tmps acF a.defers .returning w:=by
  rw[aj.Yv];have bP:=dm.set s (b:=z) (.deferred none);exact⟨by simp,.inl ⟨_,_,rfl,run_takeDeferred (s.heap (b:=z)),v,aE {a with defers:=[]} _ aj.has,v,H,rfl,hp,bP.imp λh t=>B h (Sat.drop t)⟩⟩
 rcases V with rfl|rfl<;>exact k
def Sz(l:List Oper):Bool:=l.all λo=>match o.op with
 |.defer _=>false
 |_=>true
def aiv(h:Sz l=true)(i:Nat)(o:Oper)(aK:l.toArray[i]?=some o):∀c,o.op≠Op.defer c:=λc e=>by
 have:=qd.1 h o (js (by simpa using aK));rw[e]at this;cases this
def vX(r m:Nat)(P:Program)(F:World)(n:Nat)(c:Code)(I:eT)(M:List aq)(Q:Exit->Act->World->Prop):Prop:=
 ∀a w,hn n I a->dm F M w->c.wpIn (Fence.wide.inRound r) m P Q a w
def ye(F:World)(M:List aq):Exit->Act->World->Prop:=λe _ w=>e=.normal/\dm F M w
theorem auD{id:Nat}:¬LetsOut (Exit.inBlock id (ye F H)):=fun⟨_,_,h⟩=>by cases(show Exit.outgrown=Exit.normal from h.1)
theorem gi_block(h:vX r m P F n c I M (Exit.inBlock id (ye F H))):vX r m P F n (.block id c) I M (ye F H):=λa w aj s=>wpIn_block qn
theorem gi_drw{b:Nat}(cR R:List Nat)(U:List (Nat×mQ))(N:List aq)(bf:P.follows .mixedOrders=true)(cb:yQ l cR R U=true)(aL:Sz l=true)
 (h:cY P F n l.toArray R U I M N (Exit.inBlock b (ye F H) .normal)):vX r m P F n HR I M (Exit.inBlock b (ye F H)):=λa w aj s=>
 gi_draw cR R U N bf cb auD (aiv aL) h aj s
theorem gi_reg(d:¬LetsOut Q)(aL:Sz l=true)(h:cE P F n l.toArray l I M Q):vX r m P F n (.region id l.toArray false) I M Q:=λa w aj s=>gi_region d (aiv aL) h aj s
def auE(B:∀h,Sat M h->Sat H h):GE F n I M (ye F H .normal):=λa w aj s=>⟨rfl,s.imp B⟩
def gi_open{bv:Type}{fM:bv->Prop}{l:bv->List aq}(s:hI (dj fM l) M D)(h:∀x,fM x->vX r m P F n c I (l x++D) Q):vX r m P F n c I M Q:=λa w aj st=>by
 obtain⟨x,p,ah⟩:=hd (s.to st.e4);exact h x p a w aj HG
end
end
end Go.L
namespace Go.Proofs.YtnnhpnccfnghdaaGreat.L
open Go.L
attribute[local irreducible] G cE GE cY GT b0 df c4 di Exit.then Exit.inBlock
section
variable(n:Int)(p:Nat)(L:List Int)(t:Int)(i:Nat)
def ch:aq:=
 dj (bv:=Option Addr×Nat) (λ_=>True) (λx=>[ab p 181 [.slice x.1 L.length x.2,af t],own (.slice x.1 L.length x.2) 36 1 L.length (L.map bw)])
theorem Ap{p:Nat}{L U:List Int}{t dk:Int}{M D:List aq}(a:Option Addr)(c:Nat)(e:U=L)(y:dk=t)
 (h:∀h,Sat M h->Sat (ab p 181 [.slice a L.length c,af t]::own (.slice a L.length c) 36 1 L.length (L.map bw)::D) h):∀h,Sat M h->Sat (ch p U dk::D) h:=by
 subst e y;exact cF (a,c) trivial h
def jg:Nat:=(if 65536<(if n<0 then 0 else n)then 65536 else(if n<0 then 0 else n)).toNat
def Vc:jg n<=65536:=by unfold jg;split<;>split<;>omega
def amV(h:0<=n/\n<=65536):(jg n:Int)=n:=by unfold jg;split<;>split<;>omega
def fZ:Int:=IntKind.i64.wrap (t+1)
def amW:ad aa 60 [af n] [] (λu H=>∃p,u=ptr p 0/\H=[ch p (List.replicate (jg n) 0) 0]):=by
 refine aw Tryz.func60 λF D=>?_;refine bQ ?_;refine aB rfl (tc _ rfl rfl rfl) ?_;refine aB rfl (td (jg n) (by unfold jg;split<;>split<;>omega) rfl rfl) ?_;refine iX rfl (Gl rfl rfl (by have:=Vc n;unfold maxLen;omega) (by have:=Vc n;omega)) ?_;rintro _ _ ⟨a,ge,rfl,rfl⟩;refine aG ?_;refine wn λY=>?_;refine bB ?_;exact aX ⟨_,rfl,rfl⟩ (Ap a ge rfl rfl (by rw[amX bw,Vd];exact(au)))
def Mc:ad aa 108 [ptr p 0] ur (aH (af L.length) ur):=by
 refine aw Tryz.func108 λF D=>?_;refine kK ey ?_;rintro⟨a,c⟩ -;refine gh ?_;refine eJ ?_;refine bb ?_;exact Md
def amY(ak:i<L.length):ad aa 107 [ptr p 0,af i] ur
 (λu H=>∃a c,u=.tuple #[el kL (i*1),.bool true]/\H=[ab p 181 [.slice a L.length c,af (fZ t)],own kL 36 1 L.length (L.map bw)]):=by
 refine aw Tryz.func107 λF D=>?_;refine kK ey ?_;rintro⟨a,c⟩ -;refine gh ?_;refine dC ?_;refine Ve ?_;refine o2 rfl rfl ga ?_;refine aG ?_;refine Vf ?_;refine bQ ?_;refine aB rfl (nZ rfl rfl) ?_;refine eJ ?_;refine bK ?_;exact aX ⟨_,_,rfl,rfl⟩
def nx(ak:i<L.length):ad aa 187 [ptr p 0,af i] ur
 (aH (.tuple #[bw (L.getD i 0),af 0]) [ch p L (fZ t)]):=by
 refine aw Tryz.func187 λF D=>?_;refine Vg ?_;intro a c;refine bi ?_;exact Md
def mR(ak:i<L.length)(v:Int):ad aa 64 [ptr p 0,af i,bw v] ur
 (aH (af 0) [ch p (L.set i v) (fZ t)]):=by
 refine aw Tryz.func64 λF D=>?_;refine cv ?_;refine Me ?_;intro a c;refine cq ?_;refine Mf ?_;refine cv ?_;exact aX ⟨rfl,rfl⟩ (Ap a c rfl rfl Mg)
def tf(ak:i<L.length)(x v:Int):ad aa 262 [ptr p 0,af i,bw x,bw v] ur
 (aH (.tuple #[.bool (decide (L.getD i 0=x)),af 0]) [ch p Mh (fZ t)]):=by
 refine aw Tryz.func262 λF D=>?_;refine c8 ?_;refine Me ?_;intro a c;refine cq ?_;refine aB rfl (gz rfl (Aq (d:=0) ak)) ?_;refine bK ?_;refine cg (λW=>?_) (λW=>?_)
 . refine cv ?_
   exact aX ⟨by rw[mO W],rfl⟩ (Ap a c (a8 W) rfl (au))
 . refine cq ?_
   refine Mf ?_;refine c8 ?_;exact aX ⟨by rw[kM W],rfl⟩ (Ap a c (bd W) rfl Mg)
def amZ(ak:i<L.length)(d:Int):ad aa 260 [ptr p 0,af i,bw d] ur
 (aH (.tuple #[bw (IntKind.u64.wrap (L.getD i 0+d)),af 0]) [ch p (L.set i (IntKind.u64.wrap (L.getD i 0+d))) (fZ t)]):=by
 refine aw Tryz.func260 λF D=>?_;refine Vg ?_;intro a c;refine aG ?_;refine aB rfl (nZ rfl rfl) ?_;refine aG ?_;refine Mf ?_;refine bi ?_;refine aB rfl (gz rfl (Aq (f:=bw) (l:=L.set i (IntKind.u64.wrap (L.getD i 0+d))) (d:=0) CX)) ?_;refine bi ?_;exact aX ⟨by rw[CY _ _ _ _ _ ak,bd rfl],rfl⟩ (Ap a c rfl rfl Mg)
def am0(ak:i<L.length):ad aa 51 [ptr p 0,af i] ur
 (aH (bw (L.getD i 0)) ur):=by
 refine aw Tryz.func51 λF D=>?_;refine kK ey ?_;rintro⟨a,c⟩ -;refine gh ?_;refine cv ?_;refine cP ?_;refine fW ?_;refine cP ?_;refine fW ?_;refine aB rfl (gz rfl (Aq (d:=0) ak)) ?_;refine bB ?_;exact Md
end
end Go.Proofs.YtnnhpnccfnghdaaGreat.L
namespace Go.Proofs.YtnnhpnccfnghdaaGreat.L
open Go.L Go.L.Ring
attribute[local irreducible] G cE GE cY GT b0 df c4 di Exit.then Exit.inBlock
section
variable(pc p r m b n:Nat)(L:List Int)(t:Int)(o:fo)
def KJ:Nat:=match pc with|0=>316|1=>372|2=>419|3=>442|4=>452|5=>286|6=>336|7=>380|8=>423|9=>444|10=>450|11=>454|12=>425|13=>445|14=>434|15=>448|_=>0
def B2:Value:=.func (.func (KJ pc)) #[ptr p 0] #[]
abbrev gb:aq:=ab r 281 [ptr m 0,af b,bw n]
abbrev iY:aq:=ab p 367 [ptr r 0,B2 o.pc p,af o.out,bw o.val,bw o.tick,bw o.db]
structure wm(b n:Nat)(L:List Int):Prop where
 ef:1<=n
 jQ:n<=64
 len:b+2+2*n<=L.length
 dB:L.length<=65536
def B3{b n:Nat}{L:List Int}(h:wm b n L)(t:Int):jo b n t+1<L.length:=by
 have h1:=h.ef;have h2:=h.len;unfold jo;have:(t%(n:Int)).toNat<n:=by have:=Nd t (show(0:Int)<n by omega);omega
 omega
def auF{n:Nat}{t:Int}(R:0<=t)(aM:1<=n):t.tmod n=((t%(n:Int)).toNat:Int):=by
 exact W6
def auG{n:Nat}(t:Int)(aM:1<=n):(t%(n:Int)).toNat<n:=by
 have:=Nd t (show(0:Int)<n by omega);omega
def B4(aM:1<=n)(e:n<=64)(aA:b<=65536)(t:Int)(R:0<=t):ad aa 379 [ptr r 0,bw t] [gb r m b n] (aH (af (jo b n t)) [gb r m b n]):=by
 refine aw Tryz.func379 λF D=>?_;have bf:=auG t aM;refine bi ?_;refine cu [] [15] [gb r m b n] ?_;refine c8 ?_;refine go_v rfl .none rfl (r0 _ (auF R aM) rfl rfl ae) ?_;refine bQ ?_;exact aX ⟨by unfold jo;first|rfl|(congr 1;omega),rfl⟩
def KK(aM:1<=n)(t:Int)(R:0<=t)(q:t<=18446744073709551615):ad aa 381 [ptr r 0,bw t] [gb r m b n] (aH (bw (xw n t)) [gb r m b n]):=by
 refine aw Tryz.func381 λF D=>?_;refine dC ?_;refine aB rfl (GR (t/n) (ME R q aM) rfl rfl ae) ?_;refine aB rfl (Ni rfl rfl) ?_;refine bB ?_;exact aX ⟨rfl,rfl⟩
def J9:ad aa 453 [ptr p 0] [iY p r o] (aH (.bool o.over) [iY p r o]):=by
 refine aw Tryz.func453 λF D=>?_;exact yE
def uz:ad aa 251 [ptr p 0] [iY p r o] (aH (af o.out) [iY p r o]):=by
 refine aw Tryz.func251 λF D=>?_;exact ru
def MH:ad aa 253 [ptr p 0] [iY p r o] (aH (bw o.value) [iY p r o]):=by
 refine aw Tryz.func253 λF D=>?_;refine eJ ?_;refine cg (λW=>?_) (λW=>?_)
 . refine bQ ?_
   exact aX ⟨by simp[fo.value,W],rfl⟩
 . refine fr ?_
   exact aX ⟨by simp[fo.value,W],rfl⟩
def SA(J:wm b n L)(h1:iF o):ad aa 286 [ptr p 0] Ji
 (aH eu [ch m (L) (fZ t),gb r m b n,iY p r (uE b L o)]):=by
 refine aw Tryz.func286 λF D=>?_;have g:=J.len;have a:=J.ef;have d:=J.dB;have c:b<L.length:=ae;have f:b+1<L.length:=ae;refine aG ?_;refine cu [16,22] (101::15::uL) [] ?_;refine EI ?_;refine eJ ?_;refine aT (nx _ _ _ (b+1) f) ?_;refine afl ?_;refine c0 ?_;exact aX ⟨rfl,rfl⟩
def aiw(J:wm b n L)(h1:iF o):ad aa 336 [ptr p 0] Ji
 (aH eu [ch m (L) (fZ t),gb r m b n,iY p r (r6 b n L o)]):=by
 refine aw Tryz.func336 λF D=>?_;have R:=h1.gr;have w:=h1.ay;have i:=B3 J o.db;have e:jo b n o.db<L.length:=ae;refine aG ?_;refine cu [15] [107,8,202,5] ze ?_;refine eJ ?_;refine go_c rfl .none rfl (b1 rfl (B4 r m b n J.ef J.jQ Bv _ R) bF) ?_;refine hb ?_;refine aG ?_;refine aT (nx _ _ _ (jo b n o.db) e) ?_;refine eJ ?_;refine bK ?_;refine cu [9] [101,8,201,2] [gb r m b n,iY p r {o with pc:=7}] ?_;refine cv ?_;refine aT (KK r m b n J.ef _ R w) ?_;refine aG ?_;refine go_v rfl .none rfl (nZ rfl rfl) ?_;refine b6 ?_;refine cg (λW=>?_) (λW=>?_)
 . refine cq ?_
   exact aX dI (by simp only[r6,a8 W];exact(au))
 . refine bb ?_
   exact aX dI (by simp only[r6,bd W];exact(au))
end
section
variable(p r m b n:Nat)(L:List Int)(t:Int)(o:fo)
theorem auH{o:fo}(h:iF o):e0 aa (KJ o.pc):=by
 obtain⟨k,hk⟩:∃k,k=o.pc:=⟨_,rfl⟩;have hp:=h.pc;rw[<-hk]at hp⊢
 match k,hp with
 |0,_|1,_|2,_|3,_|4,_|5,_|6,_|7,_|8,_|9,_|10,_|11,_|12,_|13,_|14,_|15,_=>simp only[KJ];exact fc
 |k+16,h=>omega
def auI(J:wm b n L)(h1:iF o):ad aa (KJ o.pc) [ptr p 0] Ji
 (aH eu [ch m (l8 b n L o) (fZ t),gb r m b n,iY p r (lz b n L o)]):=by
 obtain⟨k,hk⟩:∃k,k=o.pc:=⟨_,rfl⟩;have hp:=h1.pc;rw[<-hk]at hp⊢;unfold l8 lz;rw[<-hk]
 match k,hp with
 |
  0,_=>
  refine aw Tryz.func316 λF D=>?_;have g:=J.len;have a:=J.ef;have d:=J.dB;have c:b<L.length:=ae;have f:b+1<L.length:=ae;refine aG ?_;refine cu [15,21] Jr [] ?_;refine go_vs rfl .none rfl pb pd ?_;refine fW ?_;refine aT (nx _ _ _ (b) c) ?_;refine⟨nH,?_⟩;refine bb ?_;refine go_vs rfl .none rfl uK pd ?_;refine bb ?_
  first|refine go_u rfl .none pP nH ?_|refine go_u rfl .none pQ nH ?_
  refine gg ?_;refine aG ?_;refine cg (λW=>?_) (λW=>?_)
  ·
   refine cq ?_;exact aX dI (by simp only[AO,bd W];exact(au))
  ·
   refine bb ?_;exact aX dI (by simp only[AO,a8 (Pz.2 W)];exact(au))
 |
  1,_=>
  refine aw Tryz.func372 λF D=>?_;have g:=J.len;have a:=J.ef;have d:=J.dB;have c:b<L.length:=ae;have f:b+1<L.length:=ae;have R:=h1.t0;have w:=h1.t1;have i:=B3 J o.tick;have e:jo b n o.tick<L.length:=ae;refine aG ?_;refine cu [15] [107,8,202,5] ze ?_;refine eJ ?_;refine go_c rfl .none rfl (b1 rfl (B4 r m b n J.ef J.jQ Bv _ R) bF) ?_;rintro _ D ⟨_,⟨rfl,rfl⟩,rfl⟩
  try simp only[cp,cm]
  refine aG ?_;refine aT (nx _ _ _ (jo b n o.tick) e) ?_;refine cv ?_;refine cu [] [8,201,1] ze ?_;refine bQ ?_;refine aT (KK r m b n J.ef _ R w) ?_;refine fr ?_;refine cg (λW=>?_) (λW=>?_)
  ·
   refine c8 ?_;exact aX dI (by simp only[yr,bd W];exact(au))
  ·
   refine bQ ?_;refine cg (λM=>?_) (λM=>?_)
   ·
    refine bQ ?_;exact aX dI (by simp only[yr,a8 (Dz.2 W),bd M];exact(au))
   ·
    refine c8 ?_;exact aX dI (by simp only[yr,a8 (Dz.2 W),a8 (Dz.2 M)];exact(au))
 |
  2,_=>
  refine aw Tryz.func419 λF D=>?_;have g:=J.len;have a:=J.ef;have d:=J.dB;have c:b<L.length:=ae;have f:b+1<L.length:=ae;refine c0 ?_;refine cu [] [23,201,5] [] ?_;refine gg ?_;refine bb ?_;refine go_v rfl .none rfl (nZ rfl rfl) ?_;refine aT (tf _ _ _ b c _ _) ?_;refine fr ?_;refine cg (λW=>?_) (λW=>?_)
  ·
   refine cv ?_;exact aX dI (by simp only[EZ,AP,bd W];exact(au))
  ·
   refine bb ?_;exact aX dI (by simp only[EZ,AP,a8 W];exact(au))
 |
  3,_=>
  refine aw Tryz.func442 λF D=>?_;have g:=J.len;have a:=J.ef;have d:=J.dB;have c:b<L.length:=ae;have f:b+1<L.length:=ae;have R:=h1.t0;have w:=h1.t1;have i:=B3 J o.tick;have e:jo b n o.tick<L.length:=ae;refine aG ?_;refine hU [15,21] [15] [(0,.bI),(1,.bI),(2,.bI),(3,.bI),(4,.bI),(5,.bI),(6,.bI),(7,.loc),(8,.loc),(9,.loc),(10,.loc),(11,.loc),(12,.loc),(13,.loc),(14,.loc),(17,.bI),(18,.bI),(19,.bI),(20,.bI),(15,.c5),(16,.loc),(21,.c5)] ze mixed gB ?_;refine eJ ?_;refine bK ?_;refine go_c rfl .none rfl (b1 rfl (B4 r m b n J.ef J.jQ Bv _ R) bF) ?_;rintro _ D ⟨_,⟨rfl,rfl⟩,rfl⟩
  try simp only[cp,cm]
  refine bb ?_;refine aT (mR _ _ _ (jo b n o.tick+1) i _) ?_;refine dC ?_;exact aX ⟨rfl,rfl⟩
 |
  4,_=>
  refine aw Tryz.func452 λF D=>?_;have g:=J.len;have a:=J.ef;have d:=J.dB;have c:b<L.length:=ae;have f:b+1<L.length:=ae;have R:=h1.t0;have w:=h1.t1;have i:=B3 J o.tick;have e:jo b n o.tick<L.length:=ae;refine aG ?_;refine hU [15,24,26] [15,24] aax ze mixed gB ?_;refine gg ?_;refine b6 ?_;refine go_c rfl .none rfl (b1 rfl (B4 r m b n J.ef J.jQ Bv _ R) bF) ?_;rintro _ D ⟨_,⟨rfl,rfl⟩,rfl⟩
  try simp only[cp,cm]
  refine aG ?_;refine aT (KK r m b n J.ef _ R w) ?_;refine aG ?_;refine go_v rfl .none rfl (nZ rfl rfl) ?_;refine aT (mR _ _ _ (jo b n o.tick) e _) ?_;refine fW ?_;exact aX ⟨rfl,rfl⟩
 |5,_=>exact SA p r m b n L t o J h1
 |6,_=>exact aiw p r m b n L t o J h1
 |
  7,_=>
  refine aw Tryz.func380 λF D=>?_;have g:=J.len;have a:=J.ef;have d:=J.dB;have c:b<L.length:=ae;have f:b+1<L.length:=ae;have R:=h1.gr;have w:=h1.ay;have i:=B3 J o.db;have e:jo b n o.db<L.length:=ae;refine aG ?_;refine cu [16,18,24] (108::8::201::1::uL) [gb r m b n,DC p 367 0 (ptr r 0)] ?_;refine go_vs rfl .none rfl pb hq ?_;refine go_vs rfl .none rfl pb hq ?_;refine go_vs rfl .none rfl (lY rfl) hq ?_
  first|refine go_vs rfl .none rfl wH hq ?_|refine go_vs rfl .none rfl (nG rfl) hq ?_
  first|refine go_vs rfl .none rfl se hq ?_|refine go_vs rfl .none rfl wI hq ?_|refine go_vs rfl .none rfl wJ hq ?_
  refine go_vs rfl .none rfl (lY rfl) hq ?_
  first|refine go_vs rfl .none rfl wH hq ?_|refine go_vs rfl .none rfl (nG rfl) hq ?_
  first|refine go_vs rfl .none rfl se hq ?_|refine go_vs rfl .none rfl wI hq ?_|refine go_vs rfl .none rfl wJ hq ?_
  refine bQ ?_;refine go_c rfl .none rfl (b1 rfl (B4 r m b n J.ef J.jQ Bv _ R) bF) ?_;rintro _ D ⟨_,⟨rfl,rfl⟩,rfl⟩
  try simp only[cp,cm]
  refine⟨rv,?_⟩;refine aG ?_;refine aT (nx _ _ _ (jo b n o.db+1) i) ?_;refine⟨rv,?_⟩;refine bb ?_;refine go_vs rfl .none rfl uK hq ?_;refine bb ?_
  first|refine go_u rfl .none pP rv ?_|refine go_u rfl .none pQ rv ?_
  refine c0 ?_;exact aX ⟨rfl,rfl⟩
 |
  8,_=>
  refine aw Tryz.func423 λF D=>?_;have g:=J.len;have a:=J.ef;have d:=J.dB;have c:b<L.length:=ae;have f:b+1<L.length:=ae;have R:=h1.gr;have w:=h1.ay;have i:=B3 J o.db;have e:jo b n o.db<L.length:=ae;refine aG ?_;refine hU [15,24,26] [15,24] aax ze mixed gB ?_;refine gg ?_;refine b6 ?_;refine go_c rfl .none rfl (b1 rfl (B4 r m b n J.ef J.jQ Bv _ R) bF) ?_;rintro _ D ⟨_,⟨rfl,rfl⟩,rfl⟩
  try simp only[cp,cm]
  refine aG ?_;refine aT (KK r m b n J.ef _ R w) ?_;refine aG ?_;refine go_v rfl .none rfl (nZ rfl rfl) ?_;refine aT (mR _ _ _ (jo b n o.db) e _) ?_;refine dC ?_;exact aX ⟨rfl,rfl⟩
 |
  9,_=>
  refine aw Tryz.func444 λF D=>?_;have g:=J.len;have a:=J.ef;have d:=J.dB;have c:b<L.length:=ae;have f:b+1<L.length:=ae;refine aG ?_;refine cu [] [20,201] [] ?_;refine eJ ?_;refine bK ?_;refine go_v rfl .none rfl (nZ rfl rfl) ?_;refine aT (mR _ _ _ (b+1) f _) ?_;refine c8 ?_;exact aX ⟨rfl,rfl⟩
 |
  10,_=>
  refine aw Tryz.func450 λF D=>?_;have g:=J.len;have a:=J.ef;have d:=J.dB;have c:b<L.length:=ae;have f:b+1<L.length:=ae;refine aG ?_;refine cu [15,21] Jr [] ?_;refine go_vs rfl .none rfl pb pd ?_;refine fW ?_;refine aT (nx _ _ _ (b) c) ?_;refine⟨nH,?_⟩;refine bb ?_;refine go_vs rfl .none rfl uK pd ?_;refine bb ?_
  first|refine go_u rfl .none pP nH ?_|refine go_u rfl .none pQ nH ?_
  refine c0 ?_;exact aX ⟨rfl,rfl⟩
 |
  11,_=>
  refine aw Tryz.func454 λF D=>?_;have g:=J.len;have a:=J.ef;have d:=J.dB;have c:b<L.length:=ae;have f:b+1<L.length:=ae;refine b6 ?_;refine aT (SA _ _ _ _ _ _ _ _ J h1) ?_;refine b6 ?_;refine cu [] [10] [] ?_;refine bQ ?_;refine go_v rfl .none rfl (nZ rfl rfl) ?_;refine b6 ?_;refine cg (λW=>?_) (λW=>?_)
  ·
   refine cq ?_;exact aX dI (by simp only[AQ,bd (show o.val=eU (L.getD (b+1) 0+dB)from W)];exact(au))
  ·
   refine bb ?_;exact aX dI (by simp only[AQ,a8 (show¬o.val=eU (L.getD (b+1) 0+dB)from W)];exact(au))
 |
  12,_=>
  refine aw Tryz.func425 λF D=>?_;have g:=J.len;have a:=J.ef;have d:=J.dB;have c:b<L.length:=ae;have f:b+1<L.length:=ae;refine b6 ?_;refine aT (SA _ _ _ _ _ _ _ _ J h1) ?_;refine c0 ?_;exact aX ⟨rfl,rfl⟩
 |
  13,_=>
  refine aw Tryz.func445 λF D=>?_;have g:=J.len;have a:=J.ef;have d:=J.dB;have c:b<L.length:=ae;have f:b+1<L.length:=ae;refine b6 ?_;refine aT (aiw _ _ _ _ _ _ _ _ J h1) ?_;refine bB ?_;refine aT (J9 _ _ _) ?_;refine b6 ?_;refine cg (λW=>?_) (λW=>?_)
  ·
   refine cq ?_;exact aX dI ZS
  ·
   refine bb ?_;exact aX dI ZS
 |
  14,_=>
  refine aw Tryz.func434 λF D=>?_;have g:=J.len;have a:=J.ef;have d:=J.dB;have c:b<L.length:=ae;have f:b+1<L.length:=ae;refine aG ?_;refine cu [15,21] Jr [] ?_;refine go_vs rfl .none rfl pb pd ?_;refine fW ?_;refine aT (nx _ _ _ (b) c) ?_;refine⟨nH,?_⟩;refine bb ?_;refine go_vs rfl .none rfl uK pd ?_;refine bb ?_
  first|refine go_u rfl .none pP nH ?_|refine go_u rfl .none pQ nH ?_
  refine gg ?_;refine aG ?_;refine cg (λW=>?_) (λW=>?_)
  ·
   refine c0 ?_;exact aX dI (by simp only[AS,bd W];exact(au))
  ·
   refine bb ?_;exact aX dI (by simp only[AS,a8 (Pz.2 W)];exact(au))
 |
  15,_=>
  refine aw Tryz.func448 λF D=>?_;have g:=J.len;have a:=J.ef;have d:=J.dB;have c:b<L.length:=ae;have f:b+1<L.length:=ae;refine c0 ?_;refine cu [] [23,201,5] [] ?_;refine gg ?_;refine bb ?_;refine go_v rfl .none rfl (nZ rfl rfl) ?_;refine aT (tf _ _ _ b c _ _) ?_;refine fr ?_;refine cg (λW=>?_) (λW=>?_)
  ·
   refine c0 ?_;exact aX dI (by simp only[E0,AT,bd W];exact(au))
  ·
   refine bb ?_;exact aX dI (by simp only[E0,AT,a8 W];exact(au))
 |k+16,h=>omega
def mV(J:wm b n L)(h1:iF o):ad aa 487 [ptr p 0] Ji
 (aH (.bool (dO b n L o).over) [ch m (ly b n L o) DH,gb r m b n,iY p r (dO b n L o)]):=by
 refine aw Tryz.func487 λF D=>?_;haveI:=auH h1;refine cv ?_;refine aT (J9 _ _ _) ?_;refine b6 ?_;refine cg (λW=>?_) (λW=>?_)
 . have I:o.over=false:=W
   refine bB ?_;refine aT (auI p r m b n L t o J h1) ?_;exact aeQ
 . have I:o.over=true:=W
   exact aeQ
def Wo(v:Int):ad aa 263 [ptr r 0,bw v] [] (λu H=>∃p,u=ptr p 0/\H=[iY p r ⟨0,0,v,0,0⟩]):=by
 refine aw Tryz.func263 λF D=>?_;exact Xn
def KL(f k:Nat)(ba:∀p,ad aa f [ptr p 0] [] (aH (B2 k p) []))(fz:e0 aa f:=by exact fc):ad aa 284 [ptr r 0,.func (.func f) #[] #[]] []
 (λu H=>∃p,u=ptr p 0/\H=[iY p r ⟨k,0,0,0,0⟩]):=by
 refine aw Tryz.func284 λF D=>?_;refine cv ?_;refine wn λY=>?_;refine bQ ?_;refine aT (ba _) ?_;refine fr ?_;exact uM
def auJ:ad aa 285 [ptr p 0] [] (aH (B2 5 p) []):=by
 refine aw Tryz.func285 λF D=>?_;exact JX
def MF:ad aa 231 [ptr r 0] [] (λu H=>∃p,u=ptr p 0/\H=[iY p r ⟨5,0,0,0,0⟩]):=by
 refine aw Tryz.func231 λF D=>?_;refine bQ ?_;refine br (KL r 285 5 auJ) ?_;exact Kc
def auK:ad aa 449 [ptr p 0] [] (aH (B2 10 p) []):=by
 refine aw Tryz.func449 λF D=>?_;exact JX
def atW:ad aa 435 [ptr r 0] [] (λu H=>∃p,u=ptr p 0/\H=[iY p r ⟨10,0,0,0,0⟩]):=by
 refine aw Tryz.func435 λF D=>?_;refine bQ ?_;refine br (KL r 449 10 auK) ?_;exact Kc
def auL:ad aa 433 [ptr p 0] [] (aH (B2 14 p) []):=by
 refine aw Tryz.func433 λF D=>?_;exact JX
def atU:ad aa 399 [ptr r 0] [] (λu H=>∃p,u=ptr p 0/\H=[iY p r ⟨14,0,0,0,0⟩]):=by
 refine aw Tryz.func399 λF D=>?_;refine bQ ?_;refine br (KL r 433 14 auL) ?_;exact Kc
def auM:ad aa 424 [ptr p 0] [] (aH (B2 12 p) []):=by
 refine aw Tryz.func424 λF D=>?_;exact JX
def ahr:ad aa 382 [ptr r 0] [] (λu H=>∃p,u=ptr p 0/\H=[iY p r ⟨12,0,0,0,0⟩]):=by
 refine aw Tryz.func382 λF D=>?_;refine bQ ?_;refine br (KL r 424 12 auM) ?_;exact Kc
def G2(s:Int):ad aa 106 [af s] [] (aH (af (lW s)) []):=by
 refine aw Tryz.func106 λF D=>?_;refine c0 ?_;refine hx rfl rfl (λW=>?_) (λW=>?_) rfl
 . have f:=bN W
   refine bi ?_;refine cg (λM=>?_) (λM=>?_)
   . refine bQ ?_
     exact Q8
   . refine dC ?_
     exact Q8
 . have f:=bN W
   simp only[jD];refine fr ?_;exact Q8
end
def ait(n:Nat)(h1:1<=n)(h2:n<=64):ad aa 106 [af n] [] (aH (af ((2+2*n:Nat):Int)) []):=by
 have h:=G2 (n:Int);rw[Sx h1 h2]at h;exact h
def ju:Nat->Int->Int
 |0,t=>t
 |k+1,t=>fZ (ju k t)
def MQ(m b n:Nat)(L:List Int)(t:Int)(J:wm b n L):ad aa 112 AL wu
 (λu H=>∃r,u=.tuple #[ptr r 0,af 0]/\H=[ch m (iv L b (2+2*n)) (ju (2+2*n) t),gb r m b n]):=by
 refine aw Tryz.func112 λF D=>?_;have g:=J.len;have a:=J.ef;have e:=J.jQ;have d:=J.dB;refine cv ?_;refine aT (ait n a e) ?_;refine ag2 ?_;refine aT (Mc _ _ _) ?_;refine Vf ?_;refine c8 ?_;refine Yf ?_;intro k hk;refine cg (λW=>?_) (λW=>?_)
 . refine adM ?_
   refine hb ?_;refine cq ?_;refine fD (k+1) ae ae dy (au)
 . exact Yg
instance:k6 aa 314 "Step" 486:=pR
instance:k6 aa 314 "Over" 485:=pR
instance:k6 aa 326 "Step" 487:=pR
instance:k6 aa 326 "Over" 453:=pR
structure oG where
 T:Nat
 l:List Value
abbrev cU(p:Nat)(a E:Value)(out val:Int)(bo:oG):aq:=ab p bo.T (a::E::af out::bw val::bo.l)
section
variable(p q z ay aV bz m i:Nat)(f:Value)(bo:oG)(L:List Int)(v t:Int)(x y E:Value)(fK:Bool)(out val:Int)
abbrev o7(a:Bool)(v:Int)(fK:Bool):aq:=ab z 317 [f,.bool a,bw v,.bool fK]
abbrev mm:Value:=.iface 314 (ptr z 0)
abbrev yk:Value:=.iface 326 (ptr q 0)
abbrev bj(f:Nat)(z:List Value):Value:=.func (.func f) [].toArray z.toArray
def tn:aq:=dj (bv:=Nat×Nat×Nat) (λ_=>True) (λe=>[o7 z (bj 373 [ptr e.1 0,ptr e.2.1 0,ptr e.2.2 0]) false 0 false,ab e.1 95 [ptr m 0],ab e.2.1 3 [af i],ab e.2.2 314 [ptr z 0]])
def SK(d:Int):aq:=dj (bv:=Nat×Nat×Nat×Nat) (λ_=>True) (λe=>[o7 z (bj 259 [ptr e.1 0,ptr e.2.1 0,ptr e.2.2.1 0,ptr e.2.2.2 0]) false 0 false,ab e.1 95 [ptr m 0],ab e.2.1 3 [af i],ab e.2.2.1 36 [bw d],ab e.2.2.2 314 [ptr z 0]])
def vr(o v:Int):aq:=dj (bv:=Nat×Nat×Nat×Nat) (λ_=>True) (λe=>[o7 z (bj 261 [ptr e.1 0,ptr e.2.1 0,ptr e.2.2.1 0,ptr e.2.2.2 0]) false 0 false,ab e.1 95 [ptr m 0],ab e.2.1 3 [af i],ab e.2.2.1 36 [bw o],ab e.2.2.2 36 [bw v]])
def uy:aq:=dj (bv:=Nat×Nat×Nat) (λ_=>True) (λe=>[o7 z (bj 282 [ptr e.1 0,ptr e.2.1 0,ptr e.2.2 0]) false 0 false,ab e.1 95 [ptr m 0],ab e.2.1 3 [af i],ab e.2.2 36 [bw v]])
def qk:aq:=dj (bv:=Value) (λ_=>True) (λf=>[o7 z f true v fK])
def J4:ad aa 317 [ptr m 0,af i] [] (λu H=>∃z,u=ptr z 0/\H=[tn z m i]):=by
 refine aw Tryz.func317 λF D=>?_;refine nY ?_;intro U Z;refine bi ?_;refine wn λbY=>?_;refine wn λaU=>?_;refine gg ?_;exact aX ⟨_,rfl,rfl⟩ (cF (U,Z,aU) trivial (au))
def xo(x v:Int):ad aa 215 [ptr m 0,af i,bw x,bw v] [] (λu H=>∃z,u=ptr z 0/\H=[vr z m i x v]):=by
 refine aw Tryz.func215 λF D=>?_;refine xn ?_;intro aO aU aS bY;refine cq ?_;refine wn λb=>?_;refine bB ?_;exact aX ⟨_,rfl,rfl⟩ (cF (aO,aU,aS,bY) trivial (au))
def GM:ad aa 228 [ptr m 0,af i,bw v] [] (λu H=>∃z,u=ptr z 0/\H=[uy z m i v]):=by
 refine aw Tryz.func228 λF D=>?_;refine sG ?_;intro Z aO aU;refine cq ?_;refine wn λco=>?_;refine bB ?_;exact aX ⟨_,rfl,rfl⟩ (cF (Z,aO,aU) trivial (au))
def ave(ak:i<L.length)(f:Value)(a fK:Bool)(v0:Int):ad aa 373 Js [ab ay 95 [ptr m 0],ab aV 3 [af i],ab bz 314 [ptr z 0],o7 z f a v0 fK,ch m L t]
 (aH h6 [o7 z f a (L.getD i 0) fK,ch m L (fZ t)]):=by
 refine aw Tryz.func373 λF D=>?_;refine bi ?_;refine cu [3,9] (101::2::uL) [ab bz 314 [ptr z 0]] ?_;refine b6 ?_;refine aT (nx m L t i ak) ?_;exact ru
def avf(dh m i:Nat)(L:List Int)(t:Int)(ak:i<L.length)(x v:Int):ad aa 261 Jg [ab ay 95 [ptr m 0],ab aV 3 [af i],ab bz 36 [bw x],ab dh 36 [bw v],ch m L t]
 (aH (.bool (decide (L.getD i 0=x))) [ch m Mh (fZ t)]):=by
 refine aw Tryz.func261 λF D=>?_;refine c0 ?_;refine aT (tf m L t i ak x v) ?_;refine eJ ?_;exact aX ⟨rfl,rfl⟩
def avg(ak:i<L.length)(v:Int):ad aa 282 Js [ab ay 95 [ptr m 0],ab aV 3 [af i],ab bz 36 [bw v],ch m L t]
 (aH h6 [ch m (L.set i v) (fZ t)]):=by
 refine aw Tryz.func282 λF D=>?_;refine c8 ?_;refine aT (mR m L t i ak v) ?_;refine aB rfl Nz ?_;refine bB ?_;exact aX ⟨rfl,rfl⟩
def G0(ak:i<L.length):ad aa 486 [ptr z 0] [tn z m i,ch m L t] (aH h6 [qk z (L.getD i 0) true,ch m L (fZ t)]):=by
 refine aw Tryz.func486 λF D=>?_;refine kK ey ?_;rintro⟨ay,aV,bz⟩ -;refine Ke ?_;refine aT (ave z ay aV bz m i L t ak _ false false 0) ?_;refine eJ ?_;refine bK ?_;exact aX ⟨rfl,rfl⟩ (cF (bj 373 Js) trivial (au))
def Su(ak:i<L.length)(x v:Int):ad aa 486 [ptr z 0] [vr z m i x v,ch m L t] (aH h6 [qk z 0 (decide (L.getD i 0=x)),ch m Mh (fZ t)]):=by
 refine aw Tryz.func486 λF D=>?_;refine kK ey ?_;rintro⟨ay,aV,bz,dh⟩ -;refine Ke ?_;refine aT (avf ay aV bz dh m i L t ak x v) ?_;refine eJ ?_;refine bK ?_;exact aX ⟨rfl,rfl⟩ (cF (bj 261 Jg) trivial (au))
def G1(ak:i<L.length)(v:Int):ad aa 486 [ptr z 0] [uy z m i v,ch m L t] (aH h6 [qk z 0 true,ch m (L.set i v) (fZ t)]):=by
 refine aw Tryz.func486 λF D=>?_;refine kK ey ?_;rintro⟨ay,aV,bz⟩ -;refine Ke ?_;refine aT (avg ay aV bz m i L t ak v) ?_;refine eJ ?_;refine bK ?_;exact aX ⟨rfl,rfl⟩ (cF (bj 282 Js) trivial (au))
def avh:ad aa 485 [ptr z 0] [o7 z f false v fK] (aH gR [o7 z f false v fK]):=by
 refine aw Tryz.func485 λF D=>?_;exact ru
def asp(d:E.oneCell'=true)(out val v:Int)(f:Value)(fK:Bool):ad aa 125 [ptr p 0,mm z,E] [cU p x y out val bo,o7 z f false v fK] (aH eu [cU p (mm z) E out val bo,o7 z f false v fK]):=by
 refine aw Tryz.func125 λF D=>?_;refine bK ?_;refine ci rfl (wL rfl rfl (avh z f v fK) bF) ?_;exact agM
def AI(r:Nat)(bo:oG)(x y E:Value)(d:E.oneCell'=true)(out val:Int)(o:fo)(aK:o.over=false):ad aa 125 [ptr p 0,yk q,E] [cU p x y out val bo,iY q r o] (aH eu [cU p (yk q) E out val bo,iY q r o]):=by
 refine aw Tryz.func125 λF D=>?_;refine bK ?_;refine ci rfl (wL rfl rfl (J9 q r o) bF) ?_;refine yh ?_;refine tq Xz ?_;exact afC
def mq(s u:Int):ad aa 127 [ptr p 0,af s,bw u] ve (aH eu [cU p x y s u bo]):=by
 refine aw Tryz.func127 λF D=>?_;refine fr ?_;exact aX ⟨rfl,rfl⟩
def ts:ad aa 254 [ptr p 0] ve (aH (.bool (!decide (out=0))) ve):=by
 refine aw Tryz.func254 λF D=>?_;exact yE
def GV:ad aa 81 [ptr p 0] ve (aH (af out) ve):=by
 refine aw Tryz.func81 λF D=>?_;exact ru
def GX:ad aa 85 [ptr p 0] ve (aH (bw val) ve):=by
 refine aw Tryz.func85 λF D=>?_;exact ru
def MN(aK:out≠0):ad aa 474 [ptr p 0] ve (aH h6 ve):=by
 refine aw Tryz.func474 λF D=>?_;refine cv ?_;refine aT (ts p bo x y out val) ?_;refine aB rfl (fC (c:=false) yG (qv rfl)) ?_;refine eJ ?_;refine aT (ts p bo x y out val) ?_;refine bB ?_;exact aX ⟨by simp[aK],rfl⟩
end
section
variable{P:Program}{f:FuncId}{args:List Value}
def kd{M a Z N b:List aq}{J:Value}(h:ad P f args M (aH J N))(p:Part M a Z)(k:∀D h,Sat (N++(Z++D)) h->Sat (b++D) h):ad P f args a (aH J b):=
 λF D w s=>(h F (Z++D) w (s.imp λh s=>by
  obtain⟨h1,h2,d,rfl,s1,bP⟩:=Sat.split s;have:=Sat.append d (p.to s1) bP;rwa[jE]at this)).mono λ_ _ ⟨v,_,e,⟨aV,rfl⟩,s⟩=>⟨v,b,e,wP,s.imp (k D)⟩
def kz{bv:Type}{fM:bv->Prop}{l:bv->List aq}{M:List aq}{post:Value->List aq->Prop}(h:∀x,fM x->ad P f args (l x++M) post):ad P f args (dj fM l::M) post:=
 λF D w s=>by
  obtain⟨x,hp,ah⟩:=hd s.e4;exact h x hp F D w ⟨s.os,s.tape,s.output,s.size,by rw[jE];exact ah⟩
end
section
variable(p z:Nat)(bo:oG)(T m ik i:Nat)(J:Value)(L:List Int)(a t:Int)(x y E:Value)
def avi[k6 aa T "Step" ik](X cH:aq)(cc:ad aa ik [J] [X] (aH gR [cH]))(fz:e0 aa ik:=by exact fc):ad aa 474 [ptr p 0] [cU p qC E 0 0 bo,X] (aH gR [cU p qC E 0 0 bo,cH]):=by
 refine agx ?_;intro F D;refine lL ?_;refine bB ?_;refine aT (ts p bo _ _ 0 0) ?_;refine bB ?_;exact aX ⟨rfl,rfl⟩
def avj(Z:Nat)(J:Value)(z:List Value)[k6 aa T "Step" ik](X cH K:aq)(a:Bool)(cc:ad aa ik [J] [X] (aH h6 [cH]))(al:ad aa Z z [cU p qC xb 0 0 bo,cH] (aH eu [K]))(c:ad aa 254 [ptr p 0] [K] (aH (.bool a) [K]))(fz:e0 aa ik:=by exact fc)(i1:e0 aa Z:=by exact fc):ad aa 474 [ptr p 0] [cU p qC xb 0 0 bo,X] (aH (.bool a) [K]):=by
 refine agx ?_;intro F D;refine nN ?_;refine bB ?_;refine aT (al) ?_;refine bB ?_;refine aT (c) ?_;refine bB ?_;exact aX ⟨rfl,rfl⟩
def Ru(d:E.oneCell'=true)(out val:Int):ad aa 125 [ptr p 0,mm z,E] [cU p x y out val bo,tn z m i] (aH eu [cU p (mm z) E out val bo,tn z m i]):=by
 refine kd (M:=[tn z m i,cU p x y out val bo]) (Z:=[]) (N:=[cU p (mm z) E out val bo,tn z m i]) (kz (λe _=>?_)) QK (λD h s=>s);exact RK
def J3(b:Int)(x y E:Value)(d:E.oneCell'=true)(out val:Int):ad aa 125 [ptr p 0,mm z,E] [cU p x y out val bo,vr z m i a b] (aH eu [cU p (mm z) E out val bo,vr z m i a b]):=by
 refine kd (M:=[vr z m i a b,cU p x y out val bo]) (Z:=[]) (N:=[cU p (mm z) E out val bo,vr z m i a b]) (kz (λe _=>?_)) QK (λD h s=>s);exact RK
def GO(d:E.oneCell'=true)(out val:Int):ad aa 125 [ptr p 0,mm z,E] [cU p x y out val bo,uy z m i a] (aH eu [cU p (mm z) E out val bo,uy z m i a]):=by
 refine kd (M:=[uy z m i a,cU p x y out val bo]) (Z:=[]) (N:=[cU p (mm z) E out val bo,uy z m i a]) (kz (λe _=>?_)) QK (λD h s=>s);exact RK
def avk(d:Int):ad aa 212 [ptr m 0,af i,bw d] [] (λu H=>∃z,u=ptr z 0/\H=[SK z m i d]):=by
 refine aw Tryz.func212 λF D=>?_;refine sG ?_;intro Z aO aU;refine bi ?_;refine wn λco=>?_;refine wn λbY=>?_;refine gg ?_;exact aX ⟨_,rfl,rfl⟩ (cF (Z,aO,aU,bY) trivial (au))
def avl(ay aV bz dh m i:Nat)(L:List Int)(t:Int)(ak:i<L.length)(f:Value)(a fK:Bool)(v0 d:Int):ad aa 259 Jg [ab ay 95 [ptr m 0],ab aV 3 [af i],ab bz 36 [bw d],ab dh 314 [ptr z 0],o7 z f a v0 fK,ch m L t]
 (aH h6 [o7 z f a (eU (L.getD i 0+d)) fK,ch m (L.set i (eU (L.getD i 0+d))) (fZ t)]):=by
 refine aw Tryz.func259 λF D=>?_;refine bi ?_;refine cu [4,10] (101::3::uL) [ab dh 314 [ptr z 0]] ?_;refine bK ?_;refine aT (amZ m L t i ak d) ?_;exact ru
def avm(ak:i<L.length)(d:Int):ad aa 486 [ptr z 0] [SK z m i d,ch m L t] (aH h6 [qk z (eU (L.getD i 0+d)) true,ch m (L.set i (eU (L.getD i 0+d))) (fZ t)]):=by
 refine aw Tryz.func486 λF D=>?_;refine kK ey ?_;rintro⟨ay,aV,bz,dh⟩ -;refine Ke ?_;refine aT (avl z ay aV bz dh m i L t ak _ false false 0 d) ?_;refine eJ ?_;refine bK ?_;exact aX ⟨rfl,rfl⟩ (cF (bj 259 Jg) trivial (au))
def uN(a b:Nat)(bo:oG)(J x y E:Value)(d:E.oneCell'=true)(out val:Int)(X:aq)[k6 aa a "Over" b](c:ad aa b [J] [X] (aH gR [X]))(fz:e0 aa b:=by exact fc):ad aa 125 [ptr p 0,.iface a J,E] [cU p x y out val bo,X] (aH eu [cU p (.iface a J) E out val bo,X]):=by
 refine aw Tryz.func125 λF D=>?_;refine bK ?_;refine ci rfl (wL rfl rfl (c) bF) ?_;exact agM
end
section
variable{P:Program}{f:FuncId}{args:List Value}
section
variable{M N:List aq}{A C:aq}{J:Value}
def e1{bv:Type}{fM:bv->Prop}{l:bv->List aq}{M D:List aq}{post:Value->List aq->Prop}(s:hI (dj fM l) M D)(h:∀x,fM x->ad P f args (l x++D) post):ad P f args M post:=
 λF R' w st=>kz h F R' w (st.imp λh ec=>by
  obtain⟨h1,h2,d,rfl,s1,bP⟩:=Sat.split ec;exact Sat.append (l:=dj fM l::D) d (s.to s1) bP)
def sN(l:List aq):aq:=dj (bv:=Unit) (λ_=>True) (λ_=>l)
def SL(h:ad P f args M (aH J N)):ad P f args [sN M] (aH J [sN N]):=
 kz λx _=>by
  rw[jr];refine λF D w s=>(h F D w s).mono λ_ _ ⟨v,H,e,⟨aV,bz⟩,s⟩=>⟨v,_,e,wP,s.imp λh s=>?_⟩;subst bz;exact cF () trivial (λ_ s=>s) _ s
def avn(h:ad P f args [A,sN M] (aH J [C,sN N])):ad P f args (A::M) (aH J (C::N)):=
 λF D w s=>(h F D w acm).mono λ_ _ ⟨v,H,e,⟨aV,bz⟩,s⟩=>⟨v,_,e,wP,s.imp λh s=>by
  subst bz;exact Sat.tail (λh s=>by obtain⟨_,_,s⟩:=hd s;exact s) s⟩
def avo(h:ad P f args (A::M) (aH J (C::N))):ad P f args [A,sN M] (aH J [sN (C::N)]):=
 e1 (.tail .head) λx _=>λF D w s=>(h F D w (s.imp λh s=>by
  have:Sat (M++A::D) h:=Iu;revert h;intro h _ bP;obtain⟨h1,h2,d,rfl,s1,bZ⟩:=Sat.split bP;obtain⟨aN,bu,t,rfl,i0,md⟩:=bZ;refine⟨aN,join h1 bu,?_,?_,i0,?_⟩
  . obtain⟨r,a⟩:=rR.1 d;exact rR.2 ⟨r.symm,t⟩
  . obtain⟨r,a⟩:=rR.1 d;rw[<-join_assoc,join_comm r,join_assoc]
  . obtain⟨r,a⟩:=rR.1 d;exact Sat.append a s1 md)).mono λ_ _ ⟨v,H,e,⟨aV,bz⟩,s⟩=>⟨v,_,e,wP,s.imp λh s=>by
  subst bz;exact cF () trivial kG h s⟩
end
end
section
variable{p:Nat}{P:Program}{bo:oG}{f:FuncId}{T ik Z:Nat}{args:List Value}{J:Value}{M:List aq}{z:List Value}
theorem aiN(bo:oG)(T ik Z:Nat)(J:Value)(z:List Value)[k6 aa T "Step" ik](l b f:List aq)(A:aq)(a:Bool)
 (c:ad aa 254 [ptr p 0] [A] (aH (.bool a) [A]))
 (cc:ad aa ik [J] l (aH h6 b))(al:ad aa Z z (cU p qC xb 0 0 bo::b) (aH eu (A::f)))(fz:e0 aa ik:=by exact fc)(i1:e0 aa Z:=by exact fc):
 ad aa 474 [ptr p 0] (cU p qC xb 0 0 bo::l) (aH (.bool a) (A::f)):=by
 have h:=avj p bo T ik Z J z (sN l) (sN b) (sN (A::f)) a (SL cc) (avo al) (SL (kd c nA (λD h s=>s)));exact λF D w s=>(h F D w acm).mono λ_ _ ⟨v,H,e,⟨aV,bz⟩,s⟩=>⟨v,_,e,wP,s.imp λh s=>by
  subst bz;obtain⟨_,_,s⟩:=hd s;exact s⟩
theorem avp(bo:oG)(T ik:Nat)(J E:Value)[k6 aa T "Step" ik](l b:List aq)
 (cc:ad aa ik [J] l (aH gR b))(fz:e0 aa ik:=by exact fc):
 ad aa 474 [ptr p 0] (cU p qC E 0 0 bo::l) (aH gR (cU p qC E 0 0 bo::b)):=
 avn (avi p bo T ik J E (sN l) (sN b) (SL cc))
def SM{A:aq}{M D:List aq}{post:Value->List aq->Prop}(s:hI A M D)(h:ad P f args (A::D) post):ad P f args M post:=
 λF R' w st=>h F R' w (st.imp λh ec=>by
  obtain⟨h1,h2,d,rfl,s1,bP⟩:=Sat.split ec;exact Sat.append (l:=A::D) d (s.to s1) bP)
def SN{N b:List aq}{J:Value}(h:ad P f args M (aH J N))(k:∀D h,Sat (N++D) h->Sat (b++D) h):ad P f args M (aH J b):=
 λF D w s=>(h F D w s).mono λ_ _ ⟨v,_,e,⟨aV,rfl⟩,s⟩=>⟨v,b,e,wP,s.imp (k D)⟩
def px[k6 aa T "Step" ik]{I l d bJ j e i g b:List aq}{A:aq}{a:Bool}(c:ad aa 254 [ptr p 0] [A] (aH (.bool a) [A]))(cc:ad aa ik [J] d (aH h6 bJ))(al:ad aa Z z j (aH eu (A::g)))(X:hI (cU p qC xb 0 0 bo) I l:=by exact ey)(gA:Part d l e:=by exact bF)(U:Part j (cU p qC xb 0 0 bo::(bJ++e)) i:=by simp only[cp,cm];exact bF)(q:∀D h,Sat (A::(g++(i++D))) h->Sat (b++D) h:=by intro D;simp only[cp,cm];exact λh s=>Sat.swap GY)(fz:e0 aa ik:=by exact fc)(i1:e0 aa Z:=by exact fc):ad aa 474 [ptr p 0] I (aH (.bool a) b):=
 SM X (SN (aiN bo T ik Z J z l (bJ++e) (g++i) A a c Qw (kd al U (λD h s=>by simpa using s))) (λD h s=>q D h Iu))
def ql{E:Value}[k6 aa T "Step" ik]{I l d bJ e b:List aq}(cc:ad aa ik [J] d (aH gR bJ))(q:∀D h,Sat (cU p (.iface T J) E 0 0 bo::(bJ++(e++D))) h->Sat (b++D) h)(X:hI (cU p qC E 0 0 bo) I l:=by exact ey)(gA:Part d l e:=by exact bF)(fz:e0 aa ik:=by exact fc):ad aa 474 [ptr p 0] I (aH gR b):=
 SM X (SN (avp bo T ik J E l (bJ++e) Qw) (λD h s=>q D h Iu))
def pO[k6 aa T "Step" ik]{I l d bJ j e i k b:List aq}{A:aq}{a:Bool}(f:List aq)(c:ad aa 254 [ptr p 0] [A] (aH (.bool a) [A]))(cc:ad aa ik [J] d (aH h6 bJ))(al:ad aa Z z j (aH eu k))(X:hI (cU p qC xb 0 0 bo) I l:=by exact ey)(gA:Part d l e:=by exact bF)(U:Part j (cU p qC xb 0 0 bo::(bJ++e)) i:=by simp only[cp,cm];exact bF)(g:∀D h,Sat (k++(i++D)) h->Sat (A::(f++D)) h)(q:∀D h,Sat (A::(f++D)) h->Sat (b++D) h)(fz:e0 aa ik:=by exact fc)(i1:e0 aa Z:=by exact fc):ad aa 474 [ptr p 0] I (aH (.bool a) b):=
 SM X (SN (aiN bo T ik Z J z l (bJ++e) f A a c Qw (kd al U (λD h s=>by simpa using g D h s))) (λD h s=>q D h Iu))
end
end Go.Proofs.YtnnhpnccfnghdaaGreat.L
