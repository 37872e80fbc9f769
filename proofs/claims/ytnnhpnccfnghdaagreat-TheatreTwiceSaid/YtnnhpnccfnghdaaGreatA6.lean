import Derived.Test.YtnnhpnccfnghdaaGreatA5
import Derived.Recover
import Derived.RangeFuncKeeps
import Derived.RangeFuncLeaves
set_option linter.all false
set_option maxRecDepth 8000
set_option maxHeartbeats 1600000
namespace Go.Proofs.YtnnhpnccfnghdaaGreat.L
open Go.L Go.L.Lx Go.L.Pg
attribute[local irreducible] G cJ GE c3 GT b1 dk c7 ds Exit.then Exit.inBlock
section
variable(L:List Nat){α:Type}(a:Option Addr)(c n:Nat)(F:FuncId)(l:List Int)(xs z:List Value)(a2:al)(J:List al)(q:Nat->Bool)
abbrev iF:List Value:=l.map af
abbrev hE:Value:=.slice a l.length c
abbrev dj:al:=own (hE a c l) 3 1 l.length (iF l)
abbrev B0(l:List Nat):List Value:=l.map λp=>ptr p 0
def fix(q:α->Bool)(L:List α):Int:=if L.any q then(L.findIdx q:Int)else-1
def ac9{q:α->Bool}{L:List α}{x:Nat}{t:α}(h:L[x]?=some t)(h1:(L.take x).any q=false)(h2:q t=true):fix q L=x:=by
 obtain⟨ah,e⟩:=dp.1 h;have aX:L.any q=true:=zs.2 ⟨t,jH h,h2⟩;unfold fix;rw[bg aX];have:L.findIdx q=x:=by
  rw[List.findIdx_eq ah];refine⟨by rw[e];exact h2,λj O=>?_⟩;have:L[j]∈L.take x:=by
   rw[atY];exact⟨j,by omega,rfl⟩
  exact Bool.eq_false_iff.2 λbt=>by
   have:=EQ.1 h1 _ this;exact this bt
 rw[this]
def Km{q:α->Bool}{L:List α}(h:L.any q=false):fix q L=-1:=by unfold fix;rw[h];rfl
def CH{q:α->Bool}{L:List α}{t:α}(h:L.find? q=some t):∃x:Nat,fix q L=x/\L[x]?=some t/\x<L.length:=by
 have aX:L.any q=true:=zs.2 ⟨t,qT h,List.find?_some h⟩;have aw:=atZ.2 (zs.1 aX);refine⟨L.findIdx q,by unfold fix;rw[bg aX],?_,aw⟩;rw[List.find?_eq_getElem?_findIdx]at h;exact h
def aek{q:α->Bool}{L:List α}(h:L.find? q=none):fix q L=-1:=Km (by
 rw[EQ];exact λx ah=>RD.1 h x ah)
def RC{q:α->Bool}{L:List α}:0<=fix q L↔L.any q=true:=by
 unfold fix;split
 . rename_i h;simp[h]
 . rename_i h;simp[h]
def ad8{L:List α}{q:α->Bool}{x:Nat}{t:α}(h:L[x]?=some t)(h1:(L.take x).any q=false)(h2:q t=false):(L.take (x+1)).any q=false:=by
 exact Us
def ahB{a b:Bool}(h:a=b):Value.bool a=Value.bool b:=by rw[h]
def wV{D:List al}:∀{J:List al},Part J (J++D) D
 |[]=>.nil
 |_::J=>.cons .head (wV (J:=J))
theorem B1{J D:List al}{v:Value}{n:Nat}{xs:List Value}(aF:∀h,Sat J h->gI h v n xs):je v (J++D) n xs:=⟨λs=>by
 obtain⟨h1,h2,d,e,a,_⟩:=Sat.split s;rw[e];exact(aF _ a).more⟩
def F0{l:List Int}{i:Nat}{y:Int}(h:l[i]?=some y):(iF l)[i*1]?=some (af y):=by simp[iF,h]
def at0{l:List Nat}{i y:Nat}(h:l[i]?=some y):(B0 l)[i*1]?=some (ptr y 0):=by simp[B0,h]
def asw{a:Option Addr}{c n:Nat}{m:List Int}{t:Int}(h:m.length=n):own (.slice a (n+1) c) 3 1 (n+1) (iF m++[af t])=dj a c (m++[t]):=by subst h;simp only[dj,hE,iF,oY,eZ];rfl
def aeD[gw qt a2 n xs](ah:xs.length=n*1)(h1:xs.all Value.oneCell'=true)(aA:n*8<=140737488355328):ab E 76 w2 [a2] (λu I=>∃aD aI,u=.slice aD n aI/\I=[own zj 36 1 n xs,a2]):=by
 refine av Tryz.func76 λH D=>?_;refine dB ?_;refine ch (λW=>?_) (λW=>?_)
 . obtain rfl:a=none:=by simpa using W
   refine zr ?_;intro d f p;subst d;subst f;subst p;refine bQ ?_;exact aQ (I:=[own eK 36 1 0 [],a2]) wh wi
 . exact zx
def EP[gw qt a2 n xs](ah:xs.length=n*1)(h1:xs.all Value.oneCell'=true)(aA:n*8<=140737488355328):ab E 38 w2 [a2] (λu I=>∃aD aI,u=.slice aD n aI/\I=[own zj 3 1 n xs,a2]):=by
 refine av Tryz.func38 λH D=>?_;refine dB ?_;refine ch (λW=>?_) (λW=>?_)
 . obtain rfl:a=none:=by simpa using W
   refine zr ?_;intro d f p;subst d;subst f;subst p;refine bQ ?_;exact aQ (I:=[own eK 3 1 0 [],a2]) wh wi
 . exact zx
def at1[gw qt a2 n xs](ah:xs.length=n*9)(h1:xs.all Value.oneCell'=true)(aA:n*80<=140737488355328):ab E 34 w2 [a2] (λu I=>∃aD aI,u=.slice aD n aI/\I=[own zj 38 9 n xs,a2]):=by
 refine av Tryz.func34 λH D=>?_;refine dB ?_;refine ch (λW=>?_) (λW=>?_)
 . obtain rfl:a=none:=by simpa using W
   refine zr ?_;intro d f p;subst d;subst f;subst p;refine bQ ?_;exact aQ (I:=[own eK 38 9 0 [],a2]) wh wi
 . exact zx
def als[gw qt a2 n xs](ah:xs.length=n*2)(h1:xs.all Value.oneCell'=true)(aA:n*24<=140737488355328):ab E 178 w2 [a2] (λu I=>∃aD aI,u=.slice aD n aI/\I=[own zj 89 2 n xs,a2]):=by
 refine av Tryz.func178 λH D=>?_;refine dB ?_;refine ch (λW=>?_) (λW=>?_)
 . obtain rfl:a=none:=by simpa using W
   refine zr ?_;intro d f p;subst d;subst f;subst p;refine bQ ?_;exact aQ (I:=[own eK 89 2 0 [],a2]) wh wi
 . exact zx
def alt[gw qt a2 n xs](ah:xs.length=n*2)(h1:xs.all Value.oneCell'=true)(aA:n*40<=140737488355328):ab E 179 w2 [a2] (λu I=>∃aD aI,u=.slice aD n aI/\I=[own zj 82 2 n xs,a2]):=by
 refine av Tryz.func179 λH D=>?_;refine dB ?_;refine ch (λW=>?_) (λW=>?_)
 . obtain rfl:a=none:=by simpa using W
   refine zr ?_;intro d f p;subst d;subst f;subst p;refine bQ ?_;exact aQ (I:=[own eK 82 2 0 [],a2]) wh wi
 . exact zx
def alu[gw qt a2 n xs](ah:xs.length=n*4)(h1:xs.all Value.oneCell'=true)(aA:n*56<=140737488355328):ab E 180 w2 [a2] (λu I=>∃aD aI,u=.slice aD n aI/\I=[own zj 85 4 n xs,a2]):=by
 refine av Tryz.func180 λH D=>?_;refine dB ?_;refine ch (λW=>?_) (λW=>?_)
 . obtain rfl:a=none:=by simpa using W
   refine zr ?_;intro d f p;subst d;subst f;subst p;refine bQ ?_;exact aQ (I:=[own eK 85 4 0 [],a2]) wh wi
 . exact zx
def TU[gw qt a2 n xs](ah:xs.length=n*7)(h1:xs.all Value.oneCell'=true)(aA:n*80<=140737488355328):ab E 181 w2 [a2] (λu I=>∃aD aI,u=.slice aD n aI/\I=[own zj 87 7 n xs,a2]):=by
 refine av Tryz.func181 λH D=>?_;refine dB ?_;refine ch (λW=>?_) (λW=>?_)
 . obtain rfl:a=none:=by simpa using W
   refine zr ?_;intro d f p;subst d;subst f;subst p;refine bQ ?_;exact aQ (I:=[own eK 87 7 0 [],a2]) wh wi
 . exact zx
theorem alv(L:List cr)(a:Option Addr)(c:Nat)(F:FuncId)(z:List Value)(J:List al)(q:cr->Bool)(aO:L.length<=4611686018427387904)(aF:∀h,Sat J h->gI h kB L.length (L.flatMap eH))
 (hp:∀x∈L,ab E F Gd J lm)(fI:fb E F:=by exact fl):ab E 100 oA J BI:=by
 refine av Tryz.func100 λH D=>?_;haveI:=B1 (D:=D) aF;refine rM ?_;intro x ah bt;replace ah:x<=L.length:=ah;replace bt:(L.take x).any q=false:=bt;refine bj ?_;refine ch (λW=>?_) (λW=>?_)
 . obtain⟨t,U⟩:∃t,L[x]?=some t:=⟨_,cD (show x<L.length by omega)⟩
   refine Uv ?_;refine BN ?_;exact BU
 . exact BR
theorem asa(L:List fU)(a:Option Addr)(c:Nat)(F:FuncId)(z:List Value)(J:List al)(q:fU->Bool)(aO:L.length<=4611686018427387904)(aF:∀h,Sat J h->gI h kB L.length (L.flatMap gB))
 (hp:∀x∈L,ab E F Ge J lm)(fI:fb E F:=by exact fl):ab E 273 oA J BI:=by
 refine av Tryz.func273 λH D=>?_;haveI:=B1 (D:=D) aF;refine rM ?_;intro x ah bt;replace ah:x<=L.length:=ah;replace bt:(L.take x).any q=false:=bt;refine bj ?_;refine ch (λW=>?_) (λW=>?_)
 . obtain⟨t,U⟩:∃t,L[x]?=some t:=⟨_,cD (show x<L.length by omega)⟩
   refine Ux ?_;refine BN ?_;exact BU
 . exact BR
theorem asm(L:List Row)(a:Option Addr)(c:Nat)(F:FuncId)(z:List Value)(J:List al)(q:Row->Bool)(aO:L.length<=4611686018427387904)(aF:∀h,Sat J h->gI h kB L.length (L.flatMap gY))
 (hp:∀x∈L,ab E F Gf J lm)(fI:fb E F:=by exact fl):ab E 327 oA J BI:=by
 refine av Tryz.func327 λH D=>?_;haveI:=B1 (D:=D) aF;refine rM ?_;intro x ah bt;replace ah:x<=L.length:=ah;replace bt:(L.take x).any q=false:=bt;refine bj ?_;refine ch (λW=>?_) (λW=>?_)
 . obtain⟨t,U⟩:∃t,L[x]?=some t:=⟨_,cD (show x<L.length by omega)⟩
   refine Uz ?_;refine BN ?_;exact BU
 . exact BR
theorem asB(L:List mb)(a:Option Addr)(c:Nat)(F:FuncId)(z:List Value)(J:List al)(q:mb->Bool)(aO:L.length<=4611686018427387904)(aF:∀h,Sat J h->gI h kB L.length (L.flatMap jQ))
 (hp:∀x∈L,ab E F Gc J lm)(fI:fb E F:=by exact fl):ab E 220 oA J BI:=by
 refine av Tryz.func220 λH D=>?_;haveI:=B1 (D:=D) aF;refine rM ?_;intro x ah bt;replace ah:x<=L.length:=ah;replace bt:(L.take x).any q=false:=bt;refine bj ?_;refine ch (λW=>?_) (λW=>?_)
 . obtain⟨t,U⟩:∃t,L[x]?=some t:=⟨_,cD (show x<L.length by omega)⟩
   refine Ut ?_;refine BN ?_;exact BU
 . exact BR
theorem ahC(L:List Int)(a:Option Addr)(c:Nat)(F:FuncId)(z:List Value)(J:List al)(q:Int->Bool)(aO:L.length<=4611686018427387904)(aF:∀h,Sat J h->gI h kB L.length (iF L))
 (hp:∀x∈L,ab E F ([af x]++z) J lm)(fI:fb E F:=by exact fl):ab E 308 oA J BI:=by
 refine av Tryz.func308 λH D=>?_;haveI:=B1 (D:=D) aF;refine rM ?_;intro x ah bt;replace ah:x<=L.length:=ah;replace bt:(L.take x).any q=false:=bt;refine bj ?_;refine ch (λW=>?_) (λW=>?_)
 . obtain⟨t,U⟩:∃t,L[x]?=some t:=⟨_,cD (show x<L.length by omega)⟩
   refine adh ?_;refine BN ?_;exact BU
 . exact BR
theorem at2(aO:L.length<=4611686018427387904)(aF:∀h,Sat J h->gI h kB L.length (B0 L))
 (hp:∀x∈L,ab E F ([ptr x 0]++z) J lm)(fI:fb E F:=by exact fl):ab E 89 oA J BI:=by
 refine av Tryz.func89 λH D=>?_;haveI:=B1 (D:=D) aF;refine rM ?_;intro x ah bt;replace ah:x<=L.length:=ah;replace bt:(L.take x).any q=false:=bt;refine bj ?_;refine ch (λW=>?_) (λW=>?_)
 . obtain⟨t,U⟩:∃t,L[x]?=some t:=⟨_,cD (show x<L.length by omega)⟩
   refine x5 ?_;refine aB rfl (gF rfl (at0 U)) ?_;refine BN ?_;exact BU
 . exact BR
theorem ahD(aO:L.length<=4611686018427387904)(aF:∀h,Sat J h->gI h (.slice a L.length c) L.length (B0 L))
 (hp:∀x∈L,ab E F ([ptr x 0]++z) J (aH (.bool (q x)) J))(fI:fb E F:=by exact fl):ab E 49 [.slice a L.length c,.func (.func F) #[] z.toArray] J (aH (.bool (L.any q)) J):=by
 refine av Tryz.func49 λH D=>?_;refine cB ?_;refine cn rfl (b9 rfl (at2 L a c F z J q aO aF hp) wV) ?_;rintro _ D ⟨_,⟨rfl,bf⟩,rfl⟩;refine fC ?_;obtain rfl:=bf.symm;refine bj ?_;exact aQ (I:=J) ⟨ahB (by rw[o0,ln];exact RC),rfl⟩ (λ_ h=>h)
end
section
variable(L:List Int)(a:Option Addr)(c:Nat)(y:Int)(a2:al)
def at3[gw kB a2 L.length (iF L)](aO:L.length<=4611686018427387904):ab E 350 [.slice a L.length c,af y] [a2] (aH (af (fix (λx=>decide (y=x)) L)) [a2]):=by
 refine av Tryz.func350 λH D=>?_;refine gd ?_;refine hb (bv:=Nat) (λx=>x<=L.length/\(L.take x).any (λx=>decide (y=x))=false) (λx=>[(8,af x),(7,af L.length),(0,.slice a L.length c),(1,af y)]) (λ_=>a2::D) (λx=>L.length -x) 0 (⟨fk _,rfl⟩) eb (au) ?_;rintro x ⟨ah,bt⟩;replace ah:x<=L.length:=ah;replace bt:(L.take x).any (λx=>decide (y=x))=false:=bt;refine bj ?_;refine ch (λW=>?_) (λW=>?_)
 . obtain⟨t,U⟩:∃t,L[x]?=some t:=⟨_,cD (show x<L.length by omega)⟩
   refine adh ?_;refine b2 ?_;refine ch (λM=>?_) (λM=>?_)
   . have co:decide (y=t)=true:=by simpa using M
     refine fB ?_;exact aQ ⟨by rw[ac9 U bt co],rfl⟩
   . have co:decide (y=t)=false:=by simpa using M
     refine C0 ?_;refine gg (x+1) ⟨show x+1<=L.length by omega,ad8 U bt co⟩ (show L.length -(x+1)<L.length -x by omega) eb (au)
 . obtain rfl:x=L.length:=by omega
   rw[nT]at bt;refine dB ?_;exact aQ ⟨by rw[Km bt],rfl⟩
def IY[gw kB a2 L.length (iF L)](aO:L.length<=4611686018427387904):ab E 298 [.slice a L.length c,af y] [a2] (aH (.bool (L.contains y)) [a2]):=by
 refine av Tryz.func298 λH D=>?_;refine cB ?_;refine aU (at3 L a c y a2 aO) ?_;refine bj ?_;exact aQ ⟨ahB (by rw[o0,ln,RC,List.contains_iff_mem];simp),rfl⟩
end
section
variable{q:Int->Bool}{l V:List Int}{i j:Nat}{y t:Int}
def RW(h:l[j]?=some t):(l.take (j+1)).filter (λx=>!q x)=(l.take j).filter (λx=>!q x)++if q t then[]else[t]:=by
 obtain⟨O,e⟩:=dp.1 h;rw[nv O,e,yS];by_cases bt:q t<;>simp[bt]
def ahE(h:l.any q=false):l.filter (λx=>!q x)=l:=by
 rw[RX];intro x ah;have:=EQ.1 h x ah;simpa using this
def ahF{A:al}{D:List al}:∀{l:List al} {h:eQ},Sat (A::(l++D)) h->Sat (l++(A::D)) h
 |[],_,s=>s
 |B::l,_,s=>Sat.tail (r:=A::(l++D)) (m:=l++(A::D)) (λh s=>ahF s) (Sat.swap s)
def ahG{A:al}{D:List al}:∀{l:List al} {h:eQ},Sat (l++(A::D)) h->Sat (A::(l++D)) h
 |[],_,s=>s
 |B::l,_,s=>Sat.swap (Sat.tail (r:=l++(A::D)) (m:=A::(l++D)) (λh s=>ahG s) s)
def x0{P:Program}{f:FuncId}{args:List Value}{A:al}{J:List al}{N:Value}(h:ab P f args J (aH N J)):ab P f args (A::J) (aH N (A::J)):=λH D w s=>
 (h H (A::D) w (s.imp λg t=>ahF t)).mono λ_ _ ⟨v,I,aC,⟨aV,bF⟩,s⟩=>⟨v,_,aC,wI,s.imp λg t=>by subst bF;exact ahG t⟩
structure pV(q:Int->Bool)(l V:List Int)(i j:Nat):Prop where
 len:V.length=l.length
 at4:i<=j
 at5:j<=l.length
 lt:i<l.length
 pre:V.take i=(l.take j).filter (λx=>!q x)
 s3:i=((l.take j).filter (λx=>!q x)).length
 post:V.drop j=l.drop j
def pV.at(h:pV q l V i j){t:Int}(U:l[j]?=some t):V[j]?=some t:=by
 have:=congrArg (·[0]?) h.post;simpa[U]using this
def pV.skip(h:pV q l V i j){t:Int}(U:l[j]?=some t)(bt:q t=true):pV q l V i (j+1):=by
 obtain⟨O,_⟩:=dp.1 U;have e:=RW (q:=q) U;rw[bt]at e;simp only[fu,jb]at e;refine⟨h.len,by have:=h.at4;omega,O,h.lt,by rw[e];exact h.pre,by rw[e];exact h.s3,?_⟩;have:=congrArg (List.drop 1) h.post;simpa[Gx,Ms]using this
def pV.jC(h:pV q l V i j){t:Int}(U:l[j]?=some t)(bt:q t=false)(g1:i<j):pV q l (V.set i t) (i+1) (j+1):=by
 obtain⟨O,_⟩:=dp.1 U;have aw:=h.len;have d4:=h.lt;have e:=RW (q:=q) U;rw[bt]at e;simp only[e2,eI]at e;refine⟨by simp[aw],by omega,O,by omega,?_,?_,?_⟩
 . rw[e,List.take_set,nv ad,T8 _ _ Io,h.pre]
   rw[<-h.s3,xZ];rfl
 . rw[e,eZ,<-h.s3];rfl
 . rw[List.drop_set,bg ad]
   have:=congrArg (List.drop 1) h.post;simpa[Gx,Ms]using this
def pV.start{x:Nat}{t:Int}(U:l[x]?=some t)(h1:(l.take x).any q=false)(h2:q t=true):pV q l l x (x+1):=by
 obtain⟨O,_⟩:=dp.1 U;have e:=RW (q:=q) U;rw[h2]at e;simp only[fu,jb]at e;rw[ahE h1]at e;exact⟨rfl,by omega,O,O,e.symm,by rw[e,oC];omega,rfl⟩
def at6{α:Type}{q:α->Bool}{L:List α}(h:L.any q=true):∃(x:Nat) (t:α),fix q L=x/\L[x]?=some t/\(L.take x).any q=false/\q t=true:=by
 have aw:=atZ.2 (zs.1 h);refine⟨L.findIdx q,L[L.findIdx q],by unfold fix;rw[bg h],cD aw,?_,List.findIdx_getElem⟩;rw[EQ];intro y ag;obtain⟨i,ak,rfl⟩:=atY.1 ag;have m4:i<L.findIdx q:=ad;rw[List.not_of_lt_findIdx m4];decide
def ahH(h:l[i]?=some y):(iL l)[i*1]?=some (bx y):=by simp[iL,h]
structure tR(l V:List Int)(i:Nat):Prop where
 len:V.length=l.length
 half:2*i<=l.length+1
 out:∀k,k<l.length->(k<i\/l.length -i<=k)->V[k]?=l[l.length -1 -k]?
 mid:∀k,i<=k->k<l.length -i->V[k]?=l[k]?
def tR.start(l:List Int):tR l l 0:=⟨rfl,by omega,λk h1 h2=>by omega,λk _ _=>rfl⟩
def tR.swap{x y:Int}(h:tR l V i)(ak:V[i]?=some x)(O:V[j]?=some y)(g1:j=l.length -1 -i/\i<j):tR l ((V.set i y).set j x) (i+1):=by
 obtain⟨rfl,d4⟩:=g1;have aw:=h.len;have m1:=h.mid i (et _) ad;have X:=h.mid (l.length -1 -i) ad ad;refine⟨by simp[aw],by omega,λk h1 h2=>?_,λk h1 h2=>?_⟩
 . by_cases aC:k=l.length -1 -i
   . subst aC
     rw[zt h9,show l.length -1 -(l.length -1 -i)=i by omega,<-m1,ak]
   . rw[rz (λe=>aC e.symm)]
     by_cases aV:k=i
     . subst aV;rw[zt ad,<-X,O]
     . rw[rz (λe=>aV e.symm)];exact h.out k h1 ad
 . rw[rz ad,rz ad];exact h.mid k ad ad
def tR.done(h:tR l V i)(ak:l.length<=2*i+1):V=l.reverse:=by
 have aw:=h.len;apply uQ;intro k;by_cases hk:k<l.length
 . rw[List.getElem?_reverse hk]
   by_cases e:k<i\/l.length -i<=k
   . exact h.out k hk e
   . rw[h.mid k ad ad,show l.length -1 -k=k by omega]
 . rw[oJ ad,oJ h9]
def at7{b c i:Nat}{l V:List Int}{D:List al}(h:pV q l V i l.length)(ws:List Value):∀H,Sat (own (.slice (some ⟨b,0,none⟩) l.length c) 3 1 l.length ((iF V).take (i*1)++ws)::D) H->Sat (dj jA c Bx::D) H:=λH s=>by
 have aw:=h.len;have d4:=h.lt;have B:=h.s3;have hp:=h.pre;rw[nT]at B hp;have h1:=HE (k:=i) ad H s;have aC:((iF V).take (i*1)).length=i*1:=h9;rw[DY aC]at h1;have aV:(iF V).take (i*1)=iF Bx:=by rw[uo];unfold iF;rw[<-List.map_take,hp]
 rw[aV,B]at h1;exact h1
end
section
variable(l:List Int)(a:Option Addr)(c:Nat)(F:FuncId)(z:List Value)(J:List al)(q:Int->Bool)
theorem at8(aO:l.length<=1099511627776)
 (hp:∀x∈l,ab E F ([af x]++z) J (aH (.bool (q x)) J))(bt:l.any q=false)(fI:fb E F:=by exact fl):ab E 247 [hE a c l,.func (.func F) #[] z.toArray] (dj a c l::J) (aH (hE a c l) (dj a c l::J)):=by
 refine av Tryz.func247 λH D=>?_;refine cB ?_;refine cn rfl (b9 rfl (ahC l a c F z (dj a c l::J) q ad (λh s=>by haveI:je (hE a c l) (dj a c l::J) l.length (iF l):=inferInstance;exact je.get s) (λx ah=>x0 (hp x ah))) wV) ?_;rintro _ D ⟨_,⟨rfl,bf⟩,rfl⟩;refine fC ?_;obtain rfl:=bf.symm;refine ct ?_;refine aB rfl (fS (c:=true) (by rw[Km bt];rfl) (mY rfl rfl)) ?_;refine dB ?_;exact aQ (I:=(dj a c l::J)) ⟨rfl,rfl⟩ (λ_ h=>h)
theorem at9(b c:Nat)(F:FuncId)(z:List Value)(J:List al)(q:Int->Bool)(aO:l.length<=1099511627776)
 (hp:∀x∈l,ab E F ([af x]++z) J lm)(d:l.length<=c)(bt:l.any q=true)(fI:fb E F:=by exact fl):ab E 247 [hE jA c l,.func (.func F) #[] z.toArray] (dj jA c l::J) (aH (hE jA c Bx) acr):=by
 refine av Tryz.func247 λH D=>?_;obtain⟨g9,t0,g,p,f,o⟩:=at6 bt;obtain⟨T,-⟩:=dp.1 p;refine cB ?_;refine cn rfl (b9 rfl (ahC l (some ⟨b,0,none⟩) c F z (dj (some ⟨b,0,none⟩) c l::J) q ad (λh s=>by haveI:je (hE (some ⟨b,0,none⟩) c l) (dj (some ⟨b,0,none⟩) c l::J) l.length (iF l):=inferInstance;exact je.get s) (λx ah=>x0 (hp x ah))) wV) ?_;rintro _ D ⟨_,⟨rfl,bf⟩,rfl⟩;refine fC ?_;obtain rfl:=bf.symm;rw[g];refine ct ?_;refine cP ?_;refine cB ?_;refine aB rfl (fy (((g9+1:Nat):Int)) ff rfl rfl) ?_;refine bR ?_;refine hb (bv:=Nat×Nat×List Int) (λe=>pV q l e.2.2 e.1 e.2.1/\e.1<e.2.1) (λe=>[(5,af e.1),(6,af e.2.1),(0,hE jA c l),(1,.func (.func F) #[] z.toArray)]) (λe=>own (.slice jA l.length c) 3 1 l.length (iF e.2.2)::(J++D)) (λe=>l.length -e.2.1) (g9,g9+1,l) (⟨pV.start p f o,Nat.lt_succ_self _⟩) eb (au) ?_;rintro⟨i,j,V⟩ ⟨bK,g1⟩;replace bK:pV q l V i j:=bK;replace g1:i<j:=g1;have v:=bK.at5;dsimp only;refine cB ?_;refine ch (λW=>?_) (λW=>?_)
 . obtain⟨t,U⟩:∃t,l[j]?=some t:=⟨_,cD (show j<l.length by omega)⟩
   refine bQ ?_;refine aB rfl PU ?_;refine aB rfl (gF rfl (F0 (bK.at U))) ?_;refine ct ?_;refine cn rfl (oB rfl rfl (x0 (A:=own (.slice jA l.length c) 3 1 l.length (iF V)) (hp t Jz)) wV) ?_;rintro _ D ⟨_,⟨rfl,bf⟩,rfl⟩;refine fC ?_;obtain rfl:=bf.symm;rw[ck];refine b2 ?_;refine ch (λM=>?_) (λM=>?_)
   . have a:q t=false:=by simpa using M
     refine bE ?_;refine aB rfl (gf rfl rfl (show i<l.length from bK.lt)) ?_;refine ko (s7 rfl rfl rfl (show i*1<(iF V).length by have:=bK.len;have:=bK.lt;simp;omega)) ?_;refine bR ?_;refine Aq ?_;refine bj ?_;refine L0 ?_;refine bb ?_;refine gg (i+1,j+1,V.set i t) ⟨bK.jC U a g1,by show i+1<j+1;omega⟩ (show l.length -(j+1)<l.length -j by omega) eb (by dsimp only;rw[show iF (V.set i t)=(iF V).set (i*1) (af t)from by simp[iF,tA]];exact λ_ h=>h)
   . have a:q t=true:=by simpa using M
     refine bE ?_;refine L0 ?_;refine bb ?_;refine gg (i,j+1,V) ⟨bK.skip U a,by show i<j+1;omega⟩ (show l.length -(j+1)<l.length -j by omega) eb (λ_ h=>h)
 . obtain rfl:j=l.length:=by omega
   refine cB ?_;refine aB rfl (DT rfl rfl (show i<=l.length by have:=bK.lt;omega)) ?_;refine AY (NO (k:=i) (m:=l.length -i) (show i+(l.length -i)=l.length by have:=bK.lt;omega) rfl (show 0<l.length -i by have:=bK.lt;omega) YP) ?_;rintro _ _ ⟨rfl,rfl⟩;refine bj ?_;refine aB rfl (th rfl rfl (show i<=c by have:=bK.lt;omega)) ?_;refine bE ?_;exact aQ (I:=acr) ⟨by rw[hE,<-(show i=(l.filter (λx=>!q x)).length by have:=bK.s3;rwa[nT]at this)],rfl⟩ (at7 bK _)
theorem KG(aO:l.length<=1099511627776)
 (hp:∀x∈l,ab E F ([af x]++z) J lm)(fI:fb E F:=by exact fl):ab E 247 [hE a c l,.func (.func F) #[] z.toArray] (dj a c l::J) (aH (hE a c Bx) (dj a c Bx::J)):=by
 cases bt:l.any q with
 |false=>rw[ahE bt];exact at8 l a c F z J q aO hp bt
 |
  true=>
  intro H D w s;have aw:0<l.length:=by cases l with
   |nil=>cases bt
   |cons _ _=>simp
  obtain⟨b,rfl,d⟩:=AX aw _ s.fg;exact(at9 l b c F z J q aO hp d bt) H D w s
def ar2(aO:l.length<=1099511627776):ab E 77 [ul a c l] [fH a c l] (aH eN [own (ul a c l) 36 1 l.length (iL l.reverse)]):=by
 refine av Tryz.func77 λH D=>?_;refine bR ?_;refine aB rfl (kl ((l.length:Int) -1) yZ rfl rfl) ?_;refine bE ?_;refine hb (bv:=Nat×Int×List Int) (λe=>tR l e.2.2 e.1/\e.2.1=(l.length:Int) -1 -e.1) (λe=>[(2,af e.1),(3,af e.2.1),(0,ul a c l)]) (λe=>own (.slice a l.length c) 36 1 l.length (iL e.2.2)::D) (λe=>l.length -e.1) (0,(l.length:Int) -1,l) (⟨tR.start l,by simp⟩) eb (au) ?_;rintro⟨i,m,V⟩ ⟨bK,d⟩;replace bK:tR l V i:=bK;replace d:m=(l.length:Int) -1 -i:=d;have hlen:=bK.len;have m4:=bK.half;dsimp only;refine bQ ?_;refine ch (λW=>?_) (λW=>?_)
 . obtain⟨j,rfl⟩:∃j:Nat,m=(j:Int):=⟨l.length -1 -i,by omega⟩
   obtain⟨x,ak⟩:∃x,V[i]?=some x:=⟨_,cD (show i<V.length by omega)⟩;obtain⟨y,O⟩:∃y,V[j]?=some y:=⟨_,cD (show j<V.length by omega)⟩;have b:i*1<(iL V).length:=(by rw[o9];omega);have v:j*1<((iL V).set (i*1) (bx y)).length:=(by rw[gr,o9];omega);refine bR ?_;refine cw [13] [2,102,9,201,1,201] [] ?_;refine bb ?_;refine EE ?_;refine EE ?_;refine bb ?_;refine go_v rfl .none rfl PU ?_;refine go_v rfl .none rfl (gF rfl (ahH O)) ?_;refine bb ?_;refine Qt ?_;refine go_v rfl .none rfl (gF rfl (ahH ak)) ?_;refine Qt ?_;refine acK ?_;refine go_v rfl .none rfl PU ?_;refine bj ?_;refine Aq ?_;refine aG ?_;refine aB rfl (kl ((j:Int) -1) yZ rfl rfl) ?_;refine b2 ?_;refine gg (i+1,(j:Int) -1,(V.set i y).set j x) ⟨bK.swap ak O uy,by show(j:Int) -1=(l.length:Int) -1 -((i+1:Nat):Int);omega⟩ (show l.length -(i+1)<l.length -i by omega) eb (by dsimp only;rw[show iL ((V.set i y).set j x)=((iL V).set (i*1) (bx y)).set (j*1) (bx x)from by simp[iL,tA]];exact(au))
 . refine bE ?_
   exact aQ (I:=[own (ul a c l) 36 1 l.length (iL l.reverse)]) cj (by rw[<-bK.done (by omega)];exact(au))
end
section
variable(l:List Int)(q F:Nat)(dv O:List Int)
def Rf:(iL l).length=l.length*1:=by simp
def Rg:(iL l).all Value.oneCell'=true:=by
 rw[VN];exact p2.2 λx _=>rfl
def RA:(iF l).length=l.length*1:=by simp
def RB:(iF l).all Value.oneCell'=true:=by
 rw[VN];exact p2.2 λx _=>rfl
def ahP(h1:dv.length<=1099511627776)(h2:O.length<=1099511627776):ab E 39 [ptr q 0] EB (λu I=>∃a c,u=ul a c dv/\I=[fH a c dv,fJ q F dv O]):=by
 refine av Tryz.func39 λH D=>?_;refine BP ?_;intro cu c1 cC bq;refine c4 ?_;refine cn rfl (b9 rfl (aeD cu c1 dv.length (iL dv) (fH cu c1 dv) (Rf dv) (Rg dv) ad) bN) ?_;rintro _ D ⟨_,⟨a,c,rfl,rfl⟩,rfl⟩;refine bE ?_;exact aQ ⟨a,c,rfl,rfl⟩ (λh s=>Sat.swap (cE (D:=fH a c dv::D) (cu,c1,cC,bq) trivial (au) h s))
def aul(h1:dv.length<=1099511627776)(h2:O.length<=1099511627776):ab E 40 [ptr q 0] EB (λu I=>∃a c,u=ul a c O.reverse/\I=[fH a c O.reverse,fJ q F dv O]):=by
 refine av Tryz.func40 λH D=>?_;refine BP ?_;intro cu c1 cC bq;refine aeC ?_;intro a c;exact aQ ⟨a,c,by simp,rfl⟩ (λh s=>Sat.swap (cE (D:=fH a c O.reverse::D) (cu,c1,cC,bq) trivial Zh h s))
def aum(cu:Option Addr)(c1:Nat)(cC:Option Addr)(bq:Nat)(dv O:List Int)(h1:dv.length<=1099511627776)(h2:O.length<=1099511627776):ab E 40 [ptr q 0] Pz (λu I=>∃a c,u=ul a c O.reverse/\I=(fH a c O.reverse::Pz)):=by
 refine av Tryz.func40 λH D=>?_;refine aeC ?_;intro a c;exact aQ ⟨a,c,by simp,rfl⟩ Zh
def aun(h1:dv.length<=1099511627776)(h2:O.length<=1099511627776):ab E 357 [ptr q 0] EB (λu I=>∃a c,u=ul a c (O.reverse++dv)/\I=[fH a c (O.reverse++dv),fJ q F [] []]):=by
 refine av Tryz.func357 λH D=>?_;refine kK eP ?_;rintro⟨cu,c1,cC,bq⟩ -;refine bj ?_;refine h0 [1,6] [1] [(0,.loc),(2,.bL),(3,.bL),(4,.bL),(5,.bL),(1,.da),(6,.da),(7,.loc)] Pz mixed hM ?_;refine bE ?_;refine bu (aum q F cu c1 cC bq dv O h1 h2) ?_;rintro _ _ ⟨a,c,rfl,rfl⟩;refine eM ?_;refine aG ?_;refine go_n rfl .none rfl (MH rfl rfl eP rfl (Rf dv) (Rg dv) h9 (by simp;unfold maxLen;omega)) ?_;rintro _ _ ⟨b,k,rfl,rfl⟩;refine gq ?_;refine bR ?_;exact aQ ⟨b,k,by simp[ul],rfl⟩ (λh s=>by rw[show own (Value.slice b (O.reverse.length+dv.length) k) 36 1 (O.reverse.length+dv.length) (iL O.reverse++iL dv)=fH b k (O.reverse++dv)from by simp[fH,ul,iL,eZ]]at s;exact Sat.tail (λh s=>cE (none,0,none,0) trivial (λh s=>Sat.tail (λh s=>jc h (jc h (Sat.drop uB))) s) h s) s)
end
end Go.Proofs.YtnnhpnccfnghdaaGreat.L
namespace Go.L
structure yI(hP:List Deferred)(n:Nat)(J:e6)(a:Act):Prop where
 has:hl n J {a with defers:=[]}
 XW:a.defers=hP
namespace yI
variable{hP:List Deferred}{n:Nat}{J:e6}{a:Act}
def put{d:Nat}(v:Value)(h:yI hP n J a)(aS:Nat.blt d n=true):yI hP n n0 (a.put (some d) v):=⟨h.has.put v aS,h.XW⟩
end yI
namespace a
end a
end Go.L
namespace Go.L.DD
open Go.L
section
variable{hP:List Deferred}{P:Program}{H:World}{n:Nat}{J:e6}{M I D:List al}{Q:Exit->Act->World->Prop}{E:Array Oper}{op:Op}{bH:TypeId}{pos:String}{N:Array Edge}{rest:List Oper}{c c1 bq:Code}
def G(hP:List Deferred)(P:Program)(H:World)(n:Nat)(c:Code)(J:e6)(M:List al)(Q:Exit->Act->World->Prop):Prop:=
 ∀a w,yI hP n J a->dt H M w->c.wp P Q a w
def cJ(hP:List Deferred)(P:Program)(H:World)(n:Nat)(E:Array Oper)(l:List Oper)(J:e6)(M:List al)(Q:Exit->Act->World->Prop):Prop:=
 ∀a w,yI hP n J a->dt H M w->wpList P E Q l a w
def GE(hP:List Deferred)(H:World)(n:Nat)(J:e6)(M:List al)(F:Act->World->Prop):Prop:=
 ∀a w,yI hP n J a->dt H M w->F a w
def uz{F:Act->World->Prop}(f:∀h,Sat M h->Sat I h)(h:GE hP H n J I F):GE hP H n J M F:=λa w ai s=>h a w ai (s.imp f)
def hy(h:G hP P H n c1 J M (Exit.then (bq.wp P Q) Q)):G hP P H n (.seq c1 bq) J M Q:=λa w ai s=>wp_seq qb
def hz(h:G hP P H n bq J M Q):GE hP H n J M (Exit.then (bq.wp P Q) Q .normal):=h
def yq{id:Nat}(h:GE hP H n J M (Q .normal)):GE hP H n J M (Exit.inBlock id Q .normal):=h
def oI(h:GE hP H n J M (Q .ret)):G hP P H n .ret J M Q:=λa w ai s=>wp_ret qb
def jg{id:Nat}{l:List Oper}(h:cJ hP P H n l.toArray l J M Q):G hP P H n (.region id l.toArray false) J M Q:=λa w ai s=>wp_region_lit qb
def ie(h:GE hP H n J M (Q .normal)):cJ hP P H n E [] J M Q:=h
def aB{v:Value}{d:Nat}(aS:Nat.blt d n=true)(Z:b1 P H n op bH J M v)(h:cJ hP P H n E rest n0 M Q):cJ hP P H n E G4 J M Q:=
 λa w ai s=>wpList_plain rfl λK cV=>by
  simp only[Oper.wp,(show(execOp a.eval _).run P w=_ from Z {a with defers:=[]} w (some d) pos N none ai.has s),Oper.upon];exact cV _ _ (h _ _ q9 s)
def ko(Z:dk P H n op bH J M I)(h:cJ hP P H n E rest J I Q):cJ hP P H n E MT J M Q:=
 λa w ai s=>wpList_plain rfl λK cV=>by
  obtain⟨X,aF,aW⟩:=Z {a with defers:=[]} w none pos N none ai.has s;simp only[Oper.wp,(show(execOp a.eval _).run P w=_ from aF),Oper.upon];exact cV _ _ (h _ _ ai aW)
def kK{bv:Type}{fO:bv->Prop}{l:bv->List al}(s:hJ (dq fO l) M D)(h:∀x,fO x->G hP P H n c J (l x++D) Q):G hP P H n c J M Q:=λa w ai st=>by
 obtain⟨x,p,ah⟩:=ha (s.to st.fg);exact h x p a w ai Hy
end
end Go.L.DD
namespace Go.L
end Go.L
namespace Go.L
section
variable{P:Program}{E:Array Oper}{Q:Exit->Act->World->Prop}
def atH{r n:Nat}{f:FuncId}{args:Array Value}{w:World}{D:Ending->World->Prop}(h:Calls P f args w D):CallsIn BJ n P f args w D:=(callsIn_wide.2 h:CallsIn Fence.wide n P f args w D)
def atI{r n:Nat}{row:String}{args:Array Value}{w:World}{D:Value->World->Prop}(h:Rows P row args w D):RowsIn BJ n P row args w D:=
 λc cs _=>let⟨v,X,q,s⟩:=h c cs;⟨v,X,q,stepsIn_wide.2 s⟩
def atJ{r n:Nat}{o:Oper}{a:Act}{next next':Act->World->Prop}{x:Result Next}(d:¬LetsOut Q)(aO:∀a w,next a w->next' a w)(h:o.upon P a next Q x):o.uponIn BJ n P a next' Q x:=by
 unfold Oper.upon at h;split at h
 . exact aO _ _ h
 . exact aO _ _ h
 . exact aO _ _ h
 . refine⟨we,(atH h).mono ?_⟩
   intro e X Y;cases e with
   |returned v=>exact aO _ _ Y
   |panicked c=>exact Y
   |outgrown=>exact Y
 . exact⟨we,(atI h).mono λv X q=>aO _ _ q⟩
 . exact h
 . exact h.elim
def EU{r n:Nat}(d:¬LetsOut Q)(aS:∀(i:Nat) (o:Oper),E[i]?=some o->∀c,o.op≠Op.defer c):∀(l:List Nat) (a:Act) (w:World),wpOps P E Q l a w->wpOpsIn BJ n P E Q l a w
 |[],a,w,h=>h
 |
  i::l,a,w,h=>by
  simp only[wpOps]at h;simp only[wpOpsIn];cases aJ:E[i]?with
  |none=>simp only[aJ]at h⊢;exact EU d aS l a w h
  |
   some o=>
   simp only[aJ]at h⊢;split
   . rename_i R
     rw[bg R]at h;rcases h with h|⟨_,h⟩
     . refine⟨λ_ _=>trivial,?_⟩
       have e:(o.semAt (Fence.wide.inRound r).round a.eval)=execOp a.eval o:=Oper.semAt_eq _ _ _ (aS i o aJ);rw[e];exact atJ d (λa w h=>EU d aS l a w h) h
     . exact absurd h d
   . rename_i R
     rw[a7 R]at h;exact⟨λ_ _=>trivial,EU d aS l _ w h⟩
variable{H:World}{n:Nat}{J:e6}{M O:List al}
section
variable{r m id:Nat}{l:List Oper}
theorem gi_draw(c5 U:List Nat)(V:List (Nat×mL))(O:List al)(bf:P.follows .mixedOrders=true)(cd:yN l c5 U V=true)(d:¬LetsOut Q)(aS:∀(i:Nat) (o:Oper),l.toArray[i]?=some o->∀c,o.op≠Op.defer c)
 (h:c3 P H n l.toArray U V J M O (Q .normal)){a:Act}{w:World}(ai:hl n J a)(s:dt H M w):(Code.region id l.toArray true).wpIn BJ m P Q a w:=by
 refine wpIn_region_draw λt=>EU d aS _ _ _ ?_;have g4:=h a _ ai s.drew;simp only[yN,iy]at cd;obtain⟨⟨S,aw⟩,b⟩:=cd;have W:V.length=l.length:=lr aw;have:=HG (Q:=Q) (F:=Q .normal) (λ_ _ h=>h) _ _ _ _ (yO S V _ a _ NR b g4);rw[W]at this;simp only[Region.schedule,bf,k7,fu];exact wpAny_sound _ t _ a _ (by simpa using this)
theorem gi_region(d:¬LetsOut Q)(aS:∀(i:Nat) (o:Oper),l.toArray[i]?=some o->∀c,o.op≠Op.defer c)
 (h:cJ P H n l.toArray l J M Q){a:Act}{w:World}(ai:hl n J a)(s:dt H M w):(Code.region id l.toArray false).wpIn BJ m P Q a w:=by
 refine wpIn_region (EU d aS _ _ _ ?_);rw[List.range_eq_range',<-Array.length_toList,wpOps_eq_wpList l.toArray.toList 0 gl];exact h a w ai s
end
variable{c:Code}{fn:Func}{post:Value->List al->Prop}{D:List al}
section
variable{r m id:Nat}{l:List Oper}{I:List al}
theorem atK{f:FuncId}{args:List Value}(ba:P.funcs[f]?=some fn)(aA:fn.body=some c){V:Nat}(aO:fn.ntmps=V)(aw:Nat.ble args.length V=true)
 (h:∀H D,G P H V c (args.zipIdx.map fun(v,i)=>(i,v)) (M++D) (bodyPostM Fence.wide 3 P fn λe X=>∃v I,e=.returned v/\post v I/\dt H (I++D) X)):ab P f args M post:=by
 intro H D w s;subst aO;exact callsIn_wide.1 (callsIn_of_wp_marks (n:=3) ba aA trivial (wpIn_wide.2 (h H D _ _ (V0 args _ (Dm aw)) s)))
theorem atL{z:Nat}{v:Value}{e:Exit}(Y:e=.ret\/e=.normal)(aF:∀a w,hl n J a->(results fn a.tmps).run P w=.ok v w)(I:List al)(hp:post v I)(B:∀h,Sat M h->Sat (I++D) h):
 DD.GE [{target:=.collected z,args:=#[]}] H n J (eD z s8::M) (bodyPostM Fence.wide 3 P fn abO e):=λa w ai s=>by
 have k:LeavesInM Fence.wide 3 P fn a.tmps abO a.defers .returning w:=by
  rw[ai.XW];have cb:=dt.set s (b:=z) (.deferred none);exact⟨by simp,.inl ⟨_,_,rfl,run_takeDeferred (s.heap (b:=z)),v,aF {a with defers:=[]} _ ai.has,v,I,rfl,hp,cb.imp λh t=>B h (Sat.drop t)⟩⟩
 rcases Y with rfl|rfl<;>exact k
def RP(l:List Oper):Bool:=l.all λo=>match o.op with
 |.defer _=>false
 |_=>true
def ahy(h:RP l=true)(i:Nat)(o:Oper)(aJ:l.toArray[i]?=some o):∀c,o.op≠Op.defer c:=λc e=>by
 have:=p2.1 h o (jH (by simpa using aJ));rw[e]at this;cases this
def vS(r m:Nat)(P:Program)(H:World)(n:Nat)(c:Code)(J:e6)(M:List al)(Q:Exit->Act->World->Prop):Prop:=
 ∀a w,hl n J a->dt H M w->c.wpIn (Fence.wide.inRound r) m P Q a w
def x3(H:World)(M:List al):Exit->Act->World->Prop:=λe _ w=>e=.normal/\dt H M w
theorem atM{id:Nat}:¬LetsOut (Exit.inBlock id (x3 H I)):=fun⟨_,_,h⟩=>by cases(show Exit.outgrown=Exit.normal from h.1)
theorem gi_block(h:vS r m P H n c J M (Exit.inBlock id (x3 H I))):vS r m P H n (.block id c) J M (x3 H I):=λa w ai s=>wpIn_block qb
theorem gi_drw{b:Nat}(c5 U:List Nat)(V:List (Nat×mL))(O:List al)(bf:P.follows .mixedOrders=true)(cd:yN l c5 U V=true)(aS:RP l=true)
 (h:c3 P H n l.toArray U V J M O (Exit.inBlock b (x3 H I) .normal)):vS r m P H n HL J M (Exit.inBlock b (x3 H I)):=λa w ai s=>
 gi_draw c5 U V O bf cd atM (ahy aS) h ai s
theorem gi_reg(d:¬LetsOut Q)(aS:RP l=true)(h:cJ P H n l.toArray l J M Q):vS r m P H n (.region id l.toArray false) J M Q:=λa w ai s=>gi_region d (ahy aS) h ai s
def atN(B:∀h,Sat M h->Sat I h):GE H n J M (x3 H I .normal):=λa w ai s=>⟨rfl,s.imp B⟩
def gi_open{bv:Type}{fO:bv->Prop}{l:bv->List al}(s:hJ (dq fO l) M D)(h:∀x,fO x->vS r m P H n c J (l x++D) Q):vS r m P H n c J M Q:=λa w ai st=>by
 obtain⟨x,p,ah⟩:=ha (s.to st.fg);exact h x p a w ai Hy
end
end
end Go.L
namespace Go.Proofs.YtnnhpnccfnghdaaGreat.L
open Go.L
attribute[local irreducible] G cJ GE c3 GT b1 dk c7 ds Exit.then Exit.inBlock
section
variable(n:Int)(p:Nat)(L:List Int)(t:Int)(i:Nat)
def bz:al:=
 dq (bv:=Option Addr×Nat) (λ_=>True) (λx=>[aa p 181 [.slice x.1 L.length x.2,af t],own (.slice x.1 L.length x.2) 36 1 L.length (L.map bx)])
theorem x4{p:Nat}{L E:List Int}{t dr:Int}{M D:List al}(a:Option Addr)(c:Nat)(e:E=L)(y:dr=t)
 (h:∀h,Sat M h->Sat (aa p 181 [.slice a L.length c,af t]::own kB 36 1 L.length (L.map bx)::D) h):∀h,Sat M h->Sat (bz p E dr::D) h:=by
 subst e y;exact cE (a,c) trivial h
def jf:Nat:=(if 65536<(if n<0 then 0 else n)then 65536 else(if n<0 then 0 else n)).toNat
def Ui:jf n<=65536:=by unfold jf;split<;>split<;>omega
def alB(h:0<=n/\n<=65536):(jf n:Int)=n:=by unfold jf;split<;>split<;>omega
def dV:Int:=IntKind.i64.wrap (t+1)
def alC:ab E 60 [af n] [] (λu I=>∃p,u=ptr p 0/\I=[bz p (List.replicate (jf n) 0) 0]):=by
 refine av Tryz.func60 λH D=>?_;refine bQ ?_;refine aB rfl (s9 _ rfl rfl rfl) ?_;refine aB rfl (ta (jf n) (by unfold jf;split<;>split<;>omega) rfl rfl) ?_;refine jn rfl (L4 rfl rfl (by have:=Ui n;unfold maxLen;omega) (by have:=Ui n;omega)) ?_;rintro _ _ ⟨a,gt,rfl,rfl⟩;refine aG ?_;refine wn λZ=>?_;refine bE ?_;exact aQ (I:=[bz Z (List.replicate (jf n) 0) 0]) ⟨_,rfl,rfl⟩ (x4 a gt rfl rfl (by rw[alD bx,Uj];exact(au)))
def L5:ab E 108 [ptr p 0] tb (aH (af L.length) tb):=by
 refine av Tryz.func108 λH D=>?_;refine kK eP ?_;rintro⟨a,c⟩ -;refine gh ?_;refine eY ?_;refine bb ?_;exact Uk
def alE(ak:i<L.length):ab E 107 [ptr p 0,af i] tb
 (λu I=>∃a c,u=.tuple #[el kB (i*1),.bool true]/\I=[aa p 181 [.slice a L.length c,af (dV t)],own kB 36 1 L.length (L.map bx)]):=by
 refine av Tryz.func107 λH D=>?_;refine kK eP ?_;rintro⟨a,c⟩ -;refine gh ?_;refine dB ?_;refine Ul ?_;refine oZ rfl rfl gl ?_;refine aG ?_;refine Um ?_;refine bQ ?_;refine aB rfl (nU rfl rfl) ?_;refine eY ?_;refine bR ?_;exact aQ ⟨_,_,rfl,rfl⟩
def nx(ak:i<L.length):ab E 187 [ptr p 0,af i] tb
 (aH (.tuple #[bx (L.getD i 0),af 0]) [bz p L (dV t)]):=by
 refine av Tryz.func187 λH D=>?_;refine Un ?_;intro a c;refine bj ?_;exact aQ (I:=[bz p L (dV t)]) cj (x4 a c rfl rfl (au))
def mM(ak:i<L.length)(v:Int):ab E 64 [ptr p 0,af i,bx v] tb
 (aH (af 0) [bz p (L.set i v) (dV t)]):=by
 refine av Tryz.func64 λH D=>?_;refine cB ?_;refine L6 ?_;intro a c;refine ct ?_;refine L7 ?_;refine cB ?_;exact aQ (I:=[bz p (L.set i v) (dV t)]) cj (x4 a c rfl rfl L8)
def tc(ak:i<L.length)(x v:Int):ab E 262 [ptr p 0,af i,bx x,bx v] tb
 (aH (.tuple #[.bool (decide (L.getD i 0=x)),af 0]) Uo):=by
 refine av Tryz.func262 λH D=>?_;refine dh ?_;refine L6 ?_;intro a c;refine ct ?_;refine aB rfl (gF rfl (CP (d:=0) ak)) ?_;refine bR ?_;refine ch (λW=>?_) (λW=>?_)
 . refine cB ?_
   exact aQ (I:=Uo) ⟨by rw[mJ W],rfl⟩ (x4 a c (a7 W) rfl (au))
 . refine ct ?_
   refine L7 ?_;refine dh ?_;exact aQ (I:=[bz p (if L.getD i 0=x then L.set i v else L) (dV t)]) ⟨by rw[lM W],rfl⟩ (x4 a c (bg W) rfl L8)
def alF(ak:i<L.length)(d:Int):ab E 260 [ptr p 0,af i,bx d] tb
 (aH (.tuple #[bx (IntKind.u64.wrap (L.getD i 0+d)),af 0]) [bz p (L.set i (IntKind.u64.wrap (L.getD i 0+d))) (dV t)]):=by
 refine av Tryz.func260 λH D=>?_;refine Un ?_;intro a c;refine aG ?_;refine aB rfl (nU rfl rfl) ?_;refine aG ?_;refine L7 ?_;refine bj ?_;refine aB rfl (gF rfl (CP (f:=bx) (l:=L.set i (IntKind.u64.wrap (L.getD i 0+d))) (d:=0) CQ)) ?_;refine bj ?_;exact aQ (I:=[bz p (L.set i (IntKind.u64.wrap (L.getD i 0+d))) (dV t)]) ⟨by rw[CR _ _ _ _ _ ak,bg rfl],rfl⟩ (x4 a c rfl rfl L8)
def alG(ak:i<L.length):ab E 51 [ptr p 0,af i] tb
 (aH (bx (L.getD i 0)) tb):=by
 refine av Tryz.func51 λH D=>?_;refine kK eP ?_;rintro⟨a,c⟩ -;refine gh ?_;refine cB ?_;refine cP ?_;refine gd ?_;refine cP ?_;refine gd ?_;refine aB rfl (gF rfl (CP (d:=0) ak)) ?_;refine bE ?_;exact Uk
end
end Go.Proofs.YtnnhpnccfnghdaaGreat.L
namespace Go.Proofs.YtnnhpnccfnghdaaGreat.L
open Go.L Go.L.Ring
attribute[local irreducible] G cJ GE c3 GT b1 dk c7 ds Exit.then Exit.inBlock
section
variable(pc p r m b n:Nat)(L:List Int)(t:Int)(o:fz)
def KK:Nat:=match pc with|0=>316|1=>372|2=>419|3=>442|4=>452|5=>286|6=>336|7=>380|8=>423|9=>444|10=>450|11=>454|12=>425|13=>445|14=>434|15=>448|_=>0
def BX:Value:=.func (.func (KK pc)) #[ptr p 0] #[]
abbrev fs:al:=aa r 281 [ptr m 0,af b,bx n]
abbrev h3:al:=aa p 367 [ptr r 0,BX o.pc p,af o.out,bx o.val,bx o.tick,bx o.de]
structure wb(b n:Nat)(L:List Int):Prop where
 ed:1<=n
 jT:n<=64
 len:b+2+2*n<=L.length
 dG:L.length<=65536
def BY{b n:Nat}{L:List Int}(h:wb b n L)(t:Int):jx b n t+1<L.length:=by
 have h1:=h.ed;have h2:=h.len;unfold jx;have:(t%(n:Int)).toNat<n:=by have:=M3 t (show(0:Int)<n by omega);omega
 omega
def atO{n:Nat}{t:Int}(U:0<=t)(aO:1<=n):t.tmod n=((t%(n:Int)).toNat:Int):=by
 exact Wb
def atP{n:Nat}(t:Int)(aO:1<=n):(t%(n:Int)).toNat<n:=by
 have:=M3 t (show(0:Int)<n by omega);omega
def BZ(aO:1<=n)(Y:n<=64)(aA:b<=65536)(t:Int)(U:0<=t):ab E 379 [ptr r 0,bx t] [fs r m b n] (aH (af (jx b n t)) [fs r m b n]):=by
 refine av Tryz.func379 λH D=>?_;have bf:=atP t aO;refine bj ?_;refine cw [] [15] [fs r m b n] ?_;refine dh ?_;refine go_v rfl .none rfl (tm _ (atO U aO) rfl rfl ad) ?_;refine bQ ?_;exact aQ ⟨by unfold jx;first|rfl|(congr 1;omega),rfl⟩
def KL(aO:1<=n)(t:Int)(U:0<=t)(q:t<=18446744073709551615):ab E 381 [ptr r 0,bx t] [fs r m b n] (aH (bx (xl n t)) [fs r m b n]):=by
 refine av Tryz.func381 λH D=>?_;refine dB ?_;refine aB rfl (GH (t/n) (Mt U q aO) rfl rfl ad) ?_;refine aB rfl (M7 rfl rfl) ?_;refine bE ?_;exact aQ cj
def Ke:ab E 453 [ptr p 0] [h3 p r o] (aH (.bool o.over) [h3 p r o]):=by
 refine av Tryz.func453 λH D=>?_;exact yA
def us:ab E 251 [ptr p 0] [h3 p r o] (aH (af o.out) [h3 p r o]):=by
 refine av Tryz.func251 λH D=>?_;exact re
def Mw:ab E 253 [ptr p 0] [h3 p r o] (aH (bx o.value) [h3 p r o]):=by
 refine av Tryz.func253 λH D=>?_;refine eY ?_;refine ch (λW=>?_) (λW=>?_)
 . refine bQ ?_
   exact aQ ⟨by simp[fz.value,W],rfl⟩
 . refine fB ?_
   exact aQ ⟨by simp[fz.value,W],rfl⟩
def RQ(K:wb b n L)(h1:iH o):ab E 286 [ptr p 0] Jh
 (aH eN [bz m (L) (dV t),fs r m b n,h3 p r (ux b L o)]):=by
 refine av Tryz.func286 λH D=>?_;have g:=K.len;have a:=K.ed;have e:=K.dG;have c:b<L.length:=ad;have f:b+1<L.length:=ad;refine aG ?_;refine cw [16,22] (101::15::uE) [] ?_;refine EE ?_;refine eY ?_;refine aU (nx _ _ _ (b+1) f) ?_;refine aep ?_;refine c4 ?_;exact aQ cj
def ahz(K:wb b n L)(h1:iH o):ab E 336 [ptr p 0] Jh
 (aH eN [bz m (L) (dV t),fs r m b n,h3 p r (rX b n L o)]):=by
 refine av Tryz.func336 λH D=>?_;have U:=h1.gJ;have w:=h1.aC;have i:=BY K o.de;have d:jx b n o.de<L.length:=ad;refine aG ?_;refine cw [15] [107,8,202,5] zd ?_;refine eY ?_;refine go_c rfl .none rfl (b9 rfl (BZ r m b n K.ed K.jT Bl _ U) bN) ?_;refine gU ?_;refine aG ?_;refine aU (nx _ _ _ (jx b n o.de) d) ?_;refine eY ?_;refine bR ?_;refine cw [9] [101,8,201,2] [fs r m b n,h3 p r {o with pc:=7}] ?_;refine cB ?_;refine aU (KL r m b n K.ed _ U w) ?_;refine aG ?_;refine go_v rfl .none rfl (nU rfl rfl) ?_;refine b2 ?_;refine ch (λW=>?_) (λW=>?_)
 . refine ct ?_
   exact aQ cj (by simp only[rX,a7 W];exact(au))
 . refine bb ?_
   exact aQ cj (by simp only[rX,bg W];exact(au))
end
section
variable(p r m b n:Nat)(L:List Int)(t:Int)(o:fz)
theorem atQ{o:fz}(h:iH o):fb E (KK o.pc):=by
 obtain⟨k,hk⟩:∃k,k=o.pc:=⟨_,rfl⟩;have hp:=h.pc;rw[<-hk]at hp⊢
 match k,hp with
 |0,_|1,_|2,_|3,_|4,_|5,_|6,_|7,_|8,_|9,_|10,_|11,_|12,_|13,_|14,_|15,_=>simp only[KK];exact fl
 |k+16,h=>omega
def atS(K:wb b n L)(h1:iH o):ab E (KK o.pc) [ptr p 0] Jh
 (aH eN [bz m (l6 b n L o) (dV t),fs r m b n,h3 p r (lq b n L o)]):=by
 obtain⟨k,hk⟩:∃k,k=o.pc:=⟨_,rfl⟩;have hp:=h1.pc;rw[<-hk]at hp⊢;unfold l6 lq;rw[<-hk]
 match k,hp with
 |
  0,_=>
  refine av Tryz.func316 λH D=>?_;have g:=K.len;have a:=K.ed;have e:=K.dG;have c:b<L.length:=ad;have f:b+1<L.length:=ad;refine aG ?_;refine cw [15,21] Jp [] ?_;refine go_vs rfl .none rfl o5 o6 ?_;refine gd ?_;refine aU (nx _ _ _ (b) c) ?_;refine⟨nB,?_⟩;refine bb ?_;refine go_vs rfl .none rfl uD o6 ?_;refine bb ?_
  first|refine go_u rfl .none pG nB ?_|refine go_u rfl .none pH nB ?_
  refine gq ?_;refine aG ?_;refine ch (λW=>?_) (λW=>?_)
  ·
   refine ct ?_;exact aQ (I:=ack) cj (by simp only[yj,bg W];exact(au))
  ·
   refine bb ?_;exact aQ (I:=ack) cj (by simp only[yj,a7 (OR.2 W)];exact(au))
 |
  1,_=>
  refine av Tryz.func372 λH D=>?_;have g:=K.len;have a:=K.ed;have e:=K.dG;have c:b<L.length:=ad;have f:b+1<L.length:=ad;have U:=h1.t0;have w:=h1.t1;have i:=BY K o.tick;have d:jx b n o.tick<L.length:=ad;refine aG ?_;refine cw [15] [107,8,202,5] zd ?_;refine eY ?_;refine go_c rfl .none rfl (b9 rfl (BZ r m b n K.ed K.jT Bl _ U) bN) ?_;rintro _ D ⟨_,⟨rfl,rfl⟩,rfl⟩
  try simp only[ck,ci]
  refine aG ?_;refine aU (nx _ _ _ (jx b n o.tick) d) ?_;refine cB ?_;refine cw [] [8,201,1] zd ?_;refine bQ ?_;refine aU (KL r m b n K.ed _ U w) ?_;refine fB ?_;refine ch (λW=>?_) (λW=>?_)
  ·
   refine dh ?_;exact aQ (I:=PL) cj (by simp only[wk,bg W];exact(au))
  ·
   refine bQ ?_;refine ch (λM=>?_) (λM=>?_)
   ·
    refine bQ ?_;exact aQ (I:=PL) cj (by simp only[wk,a7 (Dt.2 W),bg M];exact(au))
   ·
    refine dh ?_;exact aQ (I:=PL) cj (by simp only[wk,a7 (Dt.2 W),a7 (Dt.2 M)];exact(au))
 |
  2,_=>
  refine av Tryz.func419 λH D=>?_;have g:=K.len;have a:=K.ed;have e:=K.dG;have c:b<L.length:=ad;have f:b+1<L.length:=ad;refine c4 ?_;refine cw [] [23,201,5] [] ?_;refine gq ?_;refine bb ?_;refine go_v rfl .none rfl (nU rfl rfl) ?_;refine aU (tc _ _ _ b c _ _) ?_;refine fB ?_;refine ch (λW=>?_) (λW=>?_)
  ·
   refine cB ?_;exact aQ (I:=abJ) cj (by simp only[Bv,yk,bg W];exact(au))
  ·
   refine bb ?_;exact aQ (I:=abJ) cj (by simp only[Bv,yk,a7 W];exact(au))
 |
  3,_=>
  refine av Tryz.func442 λH D=>?_;have g:=K.len;have a:=K.ed;have e:=K.dG;have c:b<L.length:=ad;have f:b+1<L.length:=ad;have U:=h1.t0;have w:=h1.t1;have i:=BY K o.tick;have d:jx b n o.tick<L.length:=ad;refine aG ?_;refine h0 [15,21] [15] [(0,.bL),(1,.bL),(2,.bL),(3,.bL),(4,.bL),(5,.bL),(6,.bL),(7,.loc),(8,.loc),(9,.loc),(10,.loc),(11,.loc),(12,.loc),(13,.loc),(14,.loc),(17,.bL),(18,.bL),(19,.bL),(20,.bL),(15,.da),(16,.loc),(21,.da)] zd mixed hM ?_;refine eY ?_;refine bR ?_;refine go_c rfl .none rfl (b9 rfl (BZ r m b n K.ed K.jT Bl _ U) bN) ?_;rintro _ D ⟨_,⟨rfl,rfl⟩,rfl⟩
  try simp only[ck,ci]
  refine bb ?_;refine aU (mM _ _ _ (jx b n o.tick+1) i _) ?_;refine dB ?_;exact aQ cj
 |
  4,_=>
  refine av Tryz.func452 λH D=>?_;have g:=K.len;have a:=K.ed;have e:=K.dG;have c:b<L.length:=ad;have f:b+1<L.length:=ad;have U:=h1.t0;have w:=h1.t1;have i:=BY K o.tick;have d:jx b n o.tick<L.length:=ad;refine aG ?_;refine h0 [15,24,26] [15,24] ZR zd mixed hM ?_;refine gq ?_;refine b2 ?_;refine go_c rfl .none rfl (b9 rfl (BZ r m b n K.ed K.jT Bl _ U) bN) ?_;rintro _ D ⟨_,⟨rfl,rfl⟩,rfl⟩
  try simp only[ck,ci]
  refine aG ?_;refine aU (KL r m b n K.ed _ U w) ?_;refine aG ?_;refine go_v rfl .none rfl (nU rfl rfl) ?_;refine aU (mM _ _ _ (jx b n o.tick) d _) ?_;refine gd ?_;exact aQ cj
 |5,_=>exact RQ p r m b n L t o K h1
 |6,_=>exact ahz p r m b n L t o K h1
 |
  7,_=>
  refine av Tryz.func380 λH D=>?_;have g:=K.len;have a:=K.ed;have e:=K.dG;have c:b<L.length:=ad;have f:b+1<L.length:=ad;have U:=h1.gJ;have w:=h1.aC;have i:=BY K o.de;have d:jx b n o.de<L.length:=ad;refine aG ?_;refine cw [16,18,24] (108::8::201::1::uE) [fs r m b n,Dw p 367 0 (ptr r 0)] ?_;refine go_vs rfl .none rfl o5 hq ?_;refine go_vs rfl .none rfl o5 hq ?_;refine go_vs rfl .none rfl (mm rfl) hq ?_
  first|refine go_vs rfl .none rfl wz hq ?_|refine go_vs rfl .none rfl (mX rfl) hq ?_
  first|refine go_vs rfl .none rfl wA hq ?_|refine go_vs rfl .none rfl wB hq ?_|refine go_vs rfl .none rfl wC hq ?_
  refine go_vs rfl .none rfl (mm rfl) hq ?_
  first|refine go_vs rfl .none rfl wz hq ?_|refine go_vs rfl .none rfl (mX rfl) hq ?_
  first|refine go_vs rfl .none rfl wA hq ?_|refine go_vs rfl .none rfl wB hq ?_|refine go_vs rfl .none rfl wC hq ?_
  refine bQ ?_;refine go_c rfl .none rfl (b9 rfl (BZ r m b n K.ed K.jT Bl _ U) bN) ?_;rintro _ D ⟨_,⟨rfl,rfl⟩,rfl⟩
  try simp only[ck,ci]
  refine⟨rf,?_⟩;refine aG ?_;refine aU (nx _ _ _ (jx b n o.de+1) i) ?_;refine⟨rf,?_⟩;refine bb ?_;refine go_vs rfl .none rfl uD hq ?_;refine bb ?_
  first|refine go_u rfl .none pG rf ?_|refine go_u rfl .none pH rf ?_
  refine c4 ?_;exact aQ cj
 |
  8,_=>
  refine av Tryz.func423 λH D=>?_;have g:=K.len;have a:=K.ed;have e:=K.dG;have c:b<L.length:=ad;have f:b+1<L.length:=ad;have U:=h1.gJ;have w:=h1.aC;have i:=BY K o.de;have d:jx b n o.de<L.length:=ad;refine aG ?_;refine h0 [15,24,26] [15,24] ZR zd mixed hM ?_;refine gq ?_;refine b2 ?_;refine go_c rfl .none rfl (b9 rfl (BZ r m b n K.ed K.jT Bl _ U) bN) ?_;rintro _ D ⟨_,⟨rfl,rfl⟩,rfl⟩
  try simp only[ck,ci]
  refine aG ?_;refine aU (KL r m b n K.ed _ U w) ?_;refine aG ?_;refine go_v rfl .none rfl (nU rfl rfl) ?_;refine aU (mM _ _ _ (jx b n o.de) d _) ?_;refine dB ?_;exact aQ cj
 |
  9,_=>
  refine av Tryz.func444 λH D=>?_;have g:=K.len;have a:=K.ed;have e:=K.dG;have c:b<L.length:=ad;have f:b+1<L.length:=ad;refine aG ?_;refine cw [] [20,201] [] ?_;refine eY ?_;refine bR ?_;refine go_v rfl .none rfl (nU rfl rfl) ?_;refine aU (mM _ _ _ (b+1) f _) ?_;refine dh ?_;exact aQ cj
 |
  10,_=>
  refine av Tryz.func450 λH D=>?_;have g:=K.len;have a:=K.ed;have e:=K.dG;have c:b<L.length:=ad;have f:b+1<L.length:=ad;refine aG ?_;refine cw [15,21] Jp [] ?_;refine go_vs rfl .none rfl o5 o6 ?_;refine gd ?_;refine aU (nx _ _ _ (b) c) ?_;refine⟨nB,?_⟩;refine bb ?_;refine go_vs rfl .none rfl uD o6 ?_;refine bb ?_
  first|refine go_u rfl .none pG nB ?_|refine go_u rfl .none pH nB ?_
  refine c4 ?_;exact aQ cj
 |
  11,_=>
  refine av Tryz.func454 λH D=>?_;have g:=K.len;have a:=K.ed;have e:=K.dG;have c:b<L.length:=ad;have f:b+1<L.length:=ad;refine b2 ?_;refine aU (RQ _ _ _ _ _ _ _ _ K h1) ?_;refine b2 ?_;refine cw [] [10] [] ?_;refine bQ ?_;refine go_v rfl .none rfl (nU rfl rfl) ?_;refine b2 ?_;refine ch (λW=>?_) (λW=>?_)
  ·
   refine ct ?_;exact aQ (I:=acm) cj (by simp only[yl,bg (show o.val=fe (L.getD (b+1) 0+dG)from W)];exact(au))
  ·
   refine bb ?_;exact aQ (I:=acm) cj (by simp only[yl,a7 (show¬o.val=fe (L.getD (b+1) 0+dG)from W)];exact(au))
 |
  12,_=>
  refine av Tryz.func425 λH D=>?_;have g:=K.len;have a:=K.ed;have e:=K.dG;have c:b<L.length:=ad;have f:b+1<L.length:=ad;refine b2 ?_;refine aU (RQ _ _ _ _ _ _ _ _ K h1) ?_;refine c4 ?_;exact aQ cj
 |
  13,_=>
  refine av Tryz.func445 λH D=>?_;have g:=K.len;have a:=K.ed;have e:=K.dG;have c:b<L.length:=ad;have f:b+1<L.length:=ad;refine b2 ?_;refine aU (ahz _ _ _ _ _ _ _ _ K h1) ?_;refine bE ?_;refine aU (Ke _ _ _) ?_;refine b2 ?_;refine ch (λW=>?_) (λW=>?_)
  ·
   refine ct ?_;exact aQ (I:=acg) cj Zf
  ·
   refine bb ?_;exact aQ (I:=acg) cj Zf
 |
  14,_=>
  refine av Tryz.func434 λH D=>?_;have g:=K.len;have a:=K.ed;have e:=K.dG;have c:b<L.length:=ad;have f:b+1<L.length:=ad;refine aG ?_;refine cw [15,21] Jp [] ?_;refine go_vs rfl .none rfl o5 o6 ?_;refine gd ?_;refine aU (nx _ _ _ (b) c) ?_;refine⟨nB,?_⟩;refine bb ?_;refine go_vs rfl .none rfl uD o6 ?_;refine bb ?_
  first|refine go_u rfl .none pG nB ?_|refine go_u rfl .none pH nB ?_
  refine gq ?_;refine aG ?_;refine ch (λW=>?_) (λW=>?_)
  ·
   refine c4 ?_;exact aQ (I:=ace) cj (by simp only[yn,bg W];exact(au))
  ·
   refine bb ?_;exact aQ (I:=ace) cj (by simp only[yn,a7 (OR.2 W)];exact(au))
 |
  15,_=>
  refine av Tryz.func448 λH D=>?_;have g:=K.len;have a:=K.ed;have e:=K.dG;have c:b<L.length:=ad;have f:b+1<L.length:=ad;refine c4 ?_;refine cw [] [23,201,5] [] ?_;refine gq ?_;refine bb ?_;refine go_v rfl .none rfl (nU rfl rfl) ?_;refine aU (tc _ _ _ b c _ _) ?_;refine fB ?_;refine ch (λW=>?_) (λW=>?_)
  ·
   refine c4 ?_;exact aQ (I:=abC) cj (by simp only[Bt,yo,bg W];exact(au))
  ·
   refine bb ?_;exact aQ (I:=abC) cj (by simp only[Bt,yo,a7 W];exact(au))
 |k+16,h=>omega
def mS(K:wb b n L)(h1:iH o):ab E 487 [ptr p 0] Jh
 (aH (.bool (dC b n L o).over) abd):=by
 refine av Tryz.func487 λH D=>?_;haveI:=atQ h1;refine cB ?_;refine aU (Ke _ _ _) ?_;refine b2 ?_;refine ch (λW=>?_) (λW=>?_)
 . have J:o.over=false:=W
   refine bE ?_;refine aU (atS p r m b n L t o K h1) ?_;exact adY
 . have J:o.over=true:=W
   exact adY
def Vx(v:Int):ab E 263 [ptr r 0,bx v] [] (λu I=>∃p,u=ptr p 0/\I=[h3 p r ⟨0,0,v,0,0⟩]):=by
 refine av Tryz.func263 λH D=>?_;exact WK
def KM(f k:Nat)(ba:∀p,ab E f [ptr p 0] [] (aH (BX k p) []))(fI:fb E f:=by exact fl):ab E 284 [ptr r 0,.func (.func f) #[] #[]] []
 (λu I=>∃p,u=ptr p 0/\I=[h3 p r ⟨k,0,0,0,0⟩]):=by
 refine av Tryz.func284 λH D=>?_;refine cB ?_;refine wn λZ=>?_;refine bQ ?_;refine aU (ba _) ?_;refine fB ?_;exact uF
def atT:ab E 285 [ptr p 0] [] (aH (BX 5 p) []):=by
 refine av Tryz.func285 λH D=>?_;exact JY
def Mu:ab E 231 [ptr r 0] [] (λu I=>∃p,u=ptr p 0/\I=[h3 p r ⟨5,0,0,0,0⟩]):=by
 refine av Tryz.func231 λH D=>?_;refine bQ ?_;refine bu (KM r 285 5 atT) ?_;exact Kc
def atU:ab E 449 [ptr p 0] [] (aH (BX 10 p) []):=by
 refine av Tryz.func449 λH D=>?_;exact JY
def as6:ab E 435 [ptr r 0] [] (λu I=>∃p,u=ptr p 0/\I=[h3 p r ⟨10,0,0,0,0⟩]):=by
 refine av Tryz.func435 λH D=>?_;refine bQ ?_;refine bu (KM r 449 10 atU) ?_;exact Kc
def atV:ab E 433 [ptr p 0] [] (aH (BX 14 p) []):=by
 refine av Tryz.func433 λH D=>?_;exact JY
def as4:ab E 399 [ptr r 0] [] (λu I=>∃p,u=ptr p 0/\I=[h3 p r ⟨14,0,0,0,0⟩]):=by
 refine av Tryz.func399 λH D=>?_;refine bQ ?_;refine bu (KM r 433 14 atV) ?_;exact Kc
def atW:ab E 424 [ptr p 0] [] (aH (BX 12 p) []):=by
 refine av Tryz.func424 λH D=>?_;exact JY
def agu:ab E 382 [ptr r 0] [] (λu I=>∃p,u=ptr p 0/\I=[h3 p r ⟨12,0,0,0,0⟩]):=by
 refine av Tryz.func382 λH D=>?_;refine bQ ?_;refine bu (KM r 424 12 atW) ?_;exact Kc
def GQ(s:Int):ab E 106 [af s] [] (aH (af (lP s)) []):=by
 refine av Tryz.func106 λH D=>?_;refine c4 ?_;refine hY rfl rfl (λW=>?_) (λW=>?_) rfl
 . have f:=bW W
   refine bj ?_;refine ch (λM=>?_) (λM=>?_)
   . refine bQ ?_
     exact Qv
   . refine dB ?_
     exact Qv
 . have f:=bW W
   simp only[iE];refine fB ?_;exact Qv
end
def ahw(n:Nat)(h1:1<=n)(h2:n<=64):ab E 106 [af n] [] (aH (af ((2+2*n:Nat):Int)) []):=by
 have h:=GQ (n:Int);rw[RN h1 h2]at h;exact h
def jp:Nat->Int->Int
 |0,t=>t
 |k+1,t=>dV (jp k t)
def MF(m b n:Nat)(L:List Int)(t:Int)(K:wb b n L):ab E 112 AF wg
 (λu I=>∃r,u=.tuple #[ptr r 0,af 0]/\I=[bz m (im L b (2+2*n)) (jp (2+2*n) t),fs r m b n]):=by
 refine av Tryz.func112 λH D=>?_;have g:=K.len;have a:=K.ed;have Y:=K.jT;have e:=K.dG;refine cB ?_;refine aU (ahw n a Y) ?_;refine af4 ?_;refine aU (L5 _ _ _) ?_;refine Um ?_;refine dh ?_;refine XG ?_;intro k hk;refine ch (λW=>?_) (λW=>?_)
 . refine acW ?_
   refine gU ?_;refine ct ?_;refine gg (k+1) ad ad eb (au)
 . exact XH
instance:k4 E 314 "Step" 486:=pI
instance:k4 E 314 "Over" 485:=pI
instance:k4 E 326 "Step" 487:=pI
instance:k4 E 326 "Over" 453:=pI
structure oE where
 T:Nat
 l:List Value
abbrev cW(p:Nat)(a I:Value)(out val:Int)(br:oE):al:=aa p br.T (a::I::af out::bx val::br.l)
section
variable(p q z aC aV bF m i:Nat)(f:Value)(br:oE)(L:List Int)(v t:Int)(x y I:Value)(ep:Bool)(out val:Int)
abbrev o1(a:Bool)(v:Int)(ep:Bool):al:=aa z 317 [f,.bool a,bx v,.bool ep]
abbrev mf:Value:=.iface 314 (ptr z 0)
abbrev yc:Value:=.iface 326 (ptr q 0)
abbrev bk(f:Nat)(z:List Value):Value:=.func (.func f) [].toArray z.toArray
def qZ:al:=dq (bv:=Nat×Nat×Nat) (λ_=>True) (λe=>[o1 z (bk 373 [ptr e.1 0,ptr e.2.1 0,ptr e.2.2 0]) false 0 false,aa e.1 95 [ptr m 0],aa e.2.1 3 [af i],aa e.2.2 314 [ptr z 0]])
def EW(d:Int):al:=dq (bv:=Nat×Nat×Nat×Nat) (λ_=>True) (λe=>[o1 z (bk 259 [ptr e.1 0,ptr e.2.1 0,ptr e.2.2.1 0,ptr e.2.2.2 0]) false 0 false,aa e.1 95 [ptr m 0],aa e.2.1 3 [af i],aa e.2.2.1 36 [bx d],aa e.2.2.2 314 [ptr z 0]])
def tP(o v:Int):al:=dq (bv:=Nat×Nat×Nat×Nat) (λ_=>True) (λe=>[o1 z (bk 261 [ptr e.1 0,ptr e.2.1 0,ptr e.2.2.1 0,ptr e.2.2.2 0]) false 0 false,aa e.1 95 [ptr m 0],aa e.2.1 3 [af i],aa e.2.2.1 36 [bx o],aa e.2.2.2 36 [bx v]])
def tj:al:=dq (bv:=Nat×Nat×Nat) (λ_=>True) (λe=>[o1 z (bk 282 [ptr e.1 0,ptr e.2.1 0,ptr e.2.2 0]) false 0 false,aa e.1 95 [ptr m 0],aa e.2.1 3 [af i],aa e.2.2 36 [bx v]])
def nX:al:=dq (bv:=Value) (λ_=>True) (λf=>[o1 z f true v ep])
def J6:ab E 317 [ptr m 0,af i] [] (λu I=>∃z,u=ptr z 0/\I=[qZ z m i]):=by
 refine av Tryz.func317 λH D=>?_;refine nw ?_;intro V ay;refine bj ?_;refine wn λbV=>?_;refine wn λaR=>?_;refine gq ?_;exact aQ (I:=[qZ bV m i]) ⟨_,rfl,rfl⟩ (cE (V,ay,aR) trivial (au))
def xf(x v:Int):ab E 215 [ptr m 0,af i,bx x,bx v] [] (λu I=>∃z,u=ptr z 0/\I=[tP z m i x v]):=by
 refine av Tryz.func215 λH D=>?_;refine vi ?_;intro aL aR aM bV;refine ct ?_;refine wn λb=>?_;refine bE ?_;exact aQ (I:=[tP b m i x v]) ⟨_,rfl,rfl⟩ (cE (aL,aR,aM,bV) trivial (au))
def GC:ab E 228 [ptr m 0,af i,bx v] [] (λu I=>∃z,u=ptr z 0/\I=[tj z m i v]):=by
 refine av Tryz.func228 λH D=>?_;refine sx ?_;intro ay aL aR;refine ct ?_;refine wn λcA=>?_;refine bE ?_;exact aQ (I:=[tj cA m i v]) ⟨_,rfl,rfl⟩ (cE (ay,aL,aR) trivial (au))
def auo(ak:i<L.length)(f:Value)(a ep:Bool)(v0:Int):ab E 373 Jq [aa aC 95 [ptr m 0],aa aV 3 [af i],aa bF 314 [ptr z 0],o1 z f a v0 ep,bz m L t]
 (aH hI [o1 z f a (L.getD i 0) ep,bz m L (dV t)]):=by
 refine av Tryz.func373 λH D=>?_;refine bj ?_;refine cw [3,9] (101::2::uE) [aa bF 314 [ptr z 0]] ?_;refine b2 ?_;refine aU (nx m L t i ak) ?_;exact re
def aup(dx m i:Nat)(L:List Int)(t:Int)(ak:i<L.length)(x v:Int):ab E 261 P2 [aa aC 95 [ptr m 0],aa aV 3 [af i],aa bF 36 [bx x],aa dx 36 [bx v],bz m L t]
 (aH (.bool (decide (L.getD i 0=x))) [bz m I3 (dV t)]):=by
 refine av Tryz.func261 λH D=>?_;refine c4 ?_;refine aU (tc m L t i ak x v) ?_;refine eY ?_;exact aQ cj
def auq(ak:i<L.length)(v:Int):ab E 282 Jq [aa aC 95 [ptr m 0],aa aV 3 [af i],aa bF 36 [bx v],bz m L t]
 (aH hI [bz m (L.set i v) (dV t)]):=by
 refine av Tryz.func282 λH D=>?_;refine dh ?_;refine aU (mM m L t i ak v) ?_;refine uG ?_;refine bE ?_;exact aQ cj
def GN(ak:i<L.length):ab E 486 [ptr z 0] [qZ z m i,bz m L t] (aH hI [nX z (L.getD i 0) true,bz m L (dV t)]):=by
 refine av Tryz.func486 λH D=>?_;refine kK eP ?_;rintro⟨aC,aV,bF⟩ -;refine Kf ?_;refine aU (auo z aC aV bF m i L t ak _ false false 0) ?_;refine eY ?_;refine bR ?_;exact aQ (I:=[nX z (L.getD i 0) (true),bz m (L) (dV t)]) cj (cE (bk 373 Jq) trivial (au))
def RK(ak:i<L.length)(x v:Int):ab E 486 [ptr z 0] [tP z m i x v,bz m L t] (aH hI [nX z 0 (decide (L.getD i 0=x)),bz m I3 (dV t)]):=by
 refine av Tryz.func486 λH D=>?_;refine kK eP ?_;rintro⟨aC,aV,bF,dx⟩ -;refine Kf ?_;refine aU (aup aC aV bF dx m i L t ak x v) ?_;refine eY ?_;refine bR ?_;exact aQ (I:=[nX z (0) (decide (L.getD i 0=x)),bz m I3 (dV t)]) cj (cE (bk 261 P2) trivial (au))
def GO(ak:i<L.length)(v:Int):ab E 486 [ptr z 0] [tj z m i v,bz m L t] (aH hI [nX z 0 true,bz m (L.set i v) (dV t)]):=by
 refine av Tryz.func486 λH D=>?_;refine kK eP ?_;rintro⟨aC,aV,bF⟩ -;refine Kf ?_;refine aU (auq aC aV bF m i L t ak v) ?_;refine eY ?_;refine bR ?_;exact aQ (I:=[nX z (0) (true),bz m (L.set i v) (dV t)]) cj (cE (bk 282 Jq) trivial (au))
def aur:ab E 485 [ptr z 0] [o1 z f false v ep] (aH gP [o1 z f false v ep]):=by
 refine av Tryz.func485 λH D=>?_;exact re
def arz(d:I.oneCell'=true)(out val v:Int)(f:Value)(ep:Bool):ab E 125 [ptr p 0,mf z,I] [cW p x y out val br,o1 z f false v ep] (aH eN [cW p (mf z) I out val br,o1 z f false v ep]):=by
 refine av Tryz.func125 λH D=>?_;refine bR ?_;refine cn rfl (wE rfl rfl (aur z f v ep) bN) ?_;exact afQ
def AC(r:Nat)(br:oE)(x y I:Value)(d:I.oneCell'=true)(out val:Int)(o:fz)(aJ:o.over=false):ab E 125 [ptr p 0,yc q,I] [cW p x y out val br,h3 q r o] (aH eN [cW p (yc q) I out val br,h3 q r o]):=by
 refine av Tryz.func125 λH D=>?_;refine bR ?_;refine cn rfl (wE rfl rfl (Ke q r o) bN) ?_;refine x7 ?_;refine tl W0 ?_;exact aeG
def mQ(s u:Int):ab E 127 [ptr p 0,af s,bx u] vb (aH eN [cW p x y s u br]):=by
 refine av Tryz.func127 λH D=>?_;refine fB ?_;exact aQ cj
def tq:ab E 254 [ptr p 0] vb (aH (.bool (!decide (out=0))) vb):=by
 refine av Tryz.func254 λH D=>?_;exact yA
def GJ:ab E 81 [ptr p 0] vb (aH (af out) vb):=by
 refine av Tryz.func81 λH D=>?_;exact re
def GK:ab E 85 [ptr p 0] vb (aH (bx val) vb):=by
 refine av Tryz.func85 λH D=>?_;exact re
def MC(aJ:out≠0):ab E 474 [ptr p 0] vb (aH hI vb):=by
 refine av Tryz.func474 λH D=>?_;refine cB ?_;refine aU (tq p br x y out val) ?_;refine aB rfl (fS (c:=false) yC (ql rfl)) ?_;refine eY ?_;refine aU (tq p br x y out val) ?_;refine bE ?_;exact aQ ⟨by simp[aJ],rfl⟩
end
section
variable{P:Program}{f:FuncId}{args:List Value}
def j9{M a F O b:List al}{N:Value}(h:ab P f args M (aH N O))(p:Part M a F)(k:∀D h,Sat (O++(F++D)) h->Sat (b++D) h):ab P f args a (aH N b):=
 λH D w s=>(h H (F++D) w (s.imp λh s=>by
  obtain⟨h1,h2,d,rfl,s1,cb⟩:=Sat.split s;have:=Sat.append d (p.to s1) cb;rwa[jI]at this)).mono λ_ _ ⟨v,_,e,⟨aV,rfl⟩,s⟩=>⟨v,b,e,wI,s.imp (k D)⟩
def kC{bv:Type}{fO:bv->Prop}{l:bv->List al}{M:List al}{post:Value->List al->Prop}(h:∀x,fO x->ab P f args (l x++M) post):ab P f args (dq fO l::M) post:=
 λH D w s=>by
  obtain⟨x,hp,ah⟩:=ha s.fg;exact h x hp H D w ⟨s.os,s.tape,s.output,s.size,by rw[jI];exact ah⟩
end
section
variable(p z:Nat)(br:oE)(T m ik i:Nat)(N:Value)(L:List Int)(a t:Int)(x y I:Value)
def aus[k4 E T "Step" ik](X cL:al)(i:ab E ik [N] [X] (aH gP [cL]))(fI:fb E ik:=by exact fl):ab E 474 [ptr p 0] [cW p qv I 0 0 br,X] (aH gP [cW p qv I 0 0 br,cL]):=by
 refine afz ?_;intro H D;refine og ?_;refine bE ?_;refine aU (tq p br _ _ 0 0) ?_;refine bE ?_;exact aQ cj
def aut(F:Nat)(N:Value)(z:List Value)[k4 E T "Step" ik](X cL K:al)(a:Bool)(i:ab E ik [N] [X] (aH hI [cL]))(aj:ab E F z [cW p qv w4 0 0 br,cL] (aH eN [K]))(c:ab E 254 [ptr p 0] [K] (aH (.bool a) [K]))(fI:fb E ik:=by exact fl)(i1:fb E F:=by exact fl):ab E 474 [ptr p 0] [cW p qv w4 0 0 br,X] (aH (.bool a) [K]):=by
 refine afz ?_;intro H D;refine nI ?_;refine bE ?_;refine aU (aj) ?_;refine bE ?_;refine aU (c) ?_;refine bE ?_;exact aQ cj
def QO(d:I.oneCell'=true)(out val:Int):ab E 125 [ptr p 0,mf z,I] [cW p x y out val br,qZ z m i] (aH eN [cW p (mf z) I out val br,qZ z m i]):=by
 refine j9 (M:=[qZ z m i,cW p x y out val br]) (F:=[]) (O:=[cW p (mf z) I out val br,qZ z m i]) (kC (λe _=>?_)) P3 (λD h s=>s);exact Q1
def J5(b:Int)(x y I:Value)(d:I.oneCell'=true)(out val:Int):ab E 125 [ptr p 0,mf z,I] [cW p x y out val br,tP z m i a b] (aH eN [cW p (mf z) I out val br,tP z m i a b]):=by
 refine j9 (M:=[tP z m i a b,cW p x y out val br]) (F:=[]) (O:=[cW p (mf z) I out val br,tP z m i a b]) (kC (λe _=>?_)) P3 (λD h s=>s);exact Q1
def GF(d:I.oneCell'=true)(out val:Int):ab E 125 [ptr p 0,mf z,I] [cW p x y out val br,tj z m i a] (aH eN [cW p (mf z) I out val br,tj z m i a]):=by
 refine j9 (M:=[tj z m i a,cW p x y out val br]) (F:=[]) (O:=[cW p (mf z) I out val br,tj z m i a]) (kC (λe _=>?_)) P3 (λD h s=>s);exact Q1
def auu(d:Int):ab E 212 [ptr m 0,af i,bx d] [] (λu I=>∃z,u=ptr z 0/\I=[EW z m i d]):=by
 refine av Tryz.func212 λH D=>?_;refine sx ?_;intro ay aL aR;refine bj ?_;refine wn λcA=>?_;refine wn λbV=>?_;refine gq ?_;exact aQ (I:=[EW cA m i d]) ⟨_,rfl,rfl⟩ (cE (ay,aL,aR,bV) trivial (au))
def auv(aC aV bF dx m i:Nat)(L:List Int)(t:Int)(ak:i<L.length)(f:Value)(a ep:Bool)(v0 d:Int):ab E 259 P2 [aa aC 95 [ptr m 0],aa aV 3 [af i],aa bF 36 [bx d],aa dx 314 [ptr z 0],o1 z f a v0 ep,bz m L t]
 (aH hI [o1 z f a (fe (L.getD i 0+d)) ep,bz m (L.set i (fe (L.getD i 0+d))) (dV t)]):=by
 refine av Tryz.func259 λH D=>?_;refine bj ?_;refine cw [4,10] (101::3::uE) [aa dx 314 [ptr z 0]] ?_;refine bR ?_;refine aU (alF m L t i ak d) ?_;exact re
def auw(ak:i<L.length)(d:Int):ab E 486 [ptr z 0] [EW z m i d,bz m L t] (aH hI [nX z (fe (L.getD i 0+d)) true,bz m (L.set i (fe (L.getD i 0+d))) (dV t)]):=by
 refine av Tryz.func486 λH D=>?_;refine kK eP ?_;rintro⟨aC,aV,bF,dx⟩ -;refine Kf ?_;refine aU (auv z aC aV bF dx m i L t ak _ false false 0 d) ?_;refine eY ?_;refine bR ?_;exact aQ (I:=[nX z (fe (L.getD i 0+d)) true,bz m (L.set i (fe (L.getD i 0+d))) (dV t)]) ⟨rfl,rfl⟩ (cE (bk 259 [ptr aC 0,ptr aV 0,ptr bF 0,ptr dx 0]) trivial (au))
def uH(a b:Nat)(br:oE)(N x y I:Value)(d:I.oneCell'=true)(out val:Int)(X:al)[k4 E a "Over" b](c:ab E b [N] [X] (aH gP [X]))(fI:fb E b:=by exact fl):ab E 125 [ptr p 0,.iface a N,I] [cW p x y out val br,X] (aH eN [cW p (.iface a N) I out val br,X]):=by
 refine av Tryz.func125 λH D=>?_;refine bR ?_;refine cn rfl (wE rfl rfl (c) bN) ?_;exact afQ
end
section
variable{P:Program}{f:FuncId}{args:List Value}
section
variable{M O:List al}{A C:al}{N:Value}
def fc{bv:Type}{fO:bv->Prop}{l:bv->List al}{M D:List al}{post:Value->List al->Prop}(s:hJ (dq fO l) M D)(h:∀x,fO x->ab P f args (l x++D) post):ab P f args M post:=
 λH R' w st=>kC h H R' w (st.imp λh er=>by
  obtain⟨h1,h2,d,rfl,s1,cb⟩:=Sat.split er;exact Sat.append (l:=dq fO l::D) d (s.to s1) cb)
def sE(l:List al):al:=dq (bv:=Unit) (λ_=>True) (λ_=>l)
def R0(h:ab P f args M (aH N O)):ab P f args [sE M] (aH N [sE O]):=
 kC λx _=>by
  rw[jb];refine λH D w s=>(h H D w s).mono λ_ _ ⟨v,I,e,⟨aV,bF⟩,s⟩=>⟨v,_,e,wI,s.imp λh s=>?_⟩;subst bF;exact cE () trivial (λ_ s=>s) _ s
def auy(h:ab P f args [A,sE M] (aH N [C,sE O])):ab P f args (A::M) (aH N (C::O)):=
 λH D w s=>(h H D w abw).mono λ_ _ ⟨v,I,e,⟨aV,bF⟩,s⟩=>⟨v,_,e,wI,s.imp λh s=>by
  subst bF;exact Sat.tail (λh s=>by obtain⟨_,_,s⟩:=ha s;exact s) s⟩
def auz(h:ab P f args (A::M) (aH N (C::O))):ab P f args [A,sE M] (aH N [sE (C::O)]):=
 fc (D:=[A]) (.tail .head) λx _=>λH D w s=>(h H D w (s.imp λh s=>by
  have:Sat (M++A::D) h:=Ip;revert h;intro h _ cb;obtain⟨h1,h2,d,rfl,s1,ce⟩:=Sat.split cb;obtain⟨aN,bA,o,rfl,Y,E⟩:=ce;refine⟨aN,join h1 bA,?_,?_,Y,?_⟩
  . obtain⟨t,a⟩:=rI.1 d;exact rI.2 ⟨t.symm,o⟩
  . obtain⟨t,a⟩:=rI.1 d;rw[<-join_assoc,join_comm t,join_assoc]
  . obtain⟨t,a⟩:=rI.1 d;exact Sat.append a s1 E)).mono λ_ _ ⟨v,I,e,⟨aV,bF⟩,s⟩=>⟨v,_,e,wI,s.imp λh s=>by
  subst bF;exact cE () trivial kS h s⟩
end
end
section
variable{p:Nat}{P:Program}{br:oE}{f:FuncId}{T ik F:Nat}{args:List Value}{N:Value}{M:List al}{z:List Value}
theorem ahQ(br:oE)(T ik F:Nat)(N:Value)(z:List Value)[k4 E T "Step" ik](l b j:List al)(A:al)(a:Bool)
 (c:ab E 254 [ptr p 0] [A] (aH (.bool a) [A]))
 (i:ab E ik [N] l (aH hI b))(aj:ab E F z (cW p qv w4 0 0 br::b) (aH eN (A::j)))(fI:fb E ik:=by exact fl)(i1:fb E F:=by exact fl):
 ab E 474 [ptr p 0] (cW p qv w4 0 0 br::l) (aH (.bool a) (A::j)):=by
 have h:=aut p br T ik F N z (sE l) (sE b) (sE (A::j)) a (R0 i) (auz aj) (R0 (j9 c nz (λD h s=>s)));exact λH D w s=>(h H D w abw).mono λ_ _ ⟨v,I,e,⟨aV,bF⟩,s⟩=>⟨v,_,e,wI,s.imp λh s=>by
  subst bF;obtain⟨_,_,s⟩:=ha s;exact s⟩
theorem auA(br:oE)(T ik:Nat)(N I:Value)[k4 E T "Step" ik](l b:List al)
 (i:ab E ik [N] l (aH gP b))(fI:fb E ik:=by exact fl):
 ab E 474 [ptr p 0] (cW p qv I 0 0 br::l) (aH gP (cW p qv I 0 0 br::b)):=
 auy (aus p br T ik N I (sE l) (sE b) (R0 i))
def R1{A:al}{M D:List al}{post:Value->List al->Prop}(s:hJ A M D)(h:ab P f args (A::D) post):ab P f args M post:=
 λH R' w st=>h H R' w (st.imp λh er=>by
  obtain⟨h1,h2,d,rfl,s1,cb⟩:=Sat.split er;exact Sat.append (l:=A::D) d (s.to s1) cb)
def R2{O b:List al}{N:Value}(h:ab P f args M (aH N O))(k:∀D h,Sat (O++D) h->Sat (b++D) h):ab P f args M (aH N b):=
 λH D w s=>(h H D w s).mono λ_ _ ⟨v,_,e,⟨aV,rfl⟩,s⟩=>⟨v,b,e,wI,s.imp (k D)⟩
def pn[k4 E T "Step" ik]{J l d bw f e k g b:List al}{A:al}{a:Bool}(c:ab E 254 [ptr p 0] [A] (aH (.bool a) [A]))(i:ab E ik [N] d (aH hI bw))(aj:ab E F z f (aH eN (A::g)))(Q:hJ (cW p qv w4 0 0 br) J l:=by exact eP)(gH:Part d l e:=by exact bN)(i5:Part f (cW p qv w4 0 0 br::(bw++e)) k:=by simp only[ck,ci];exact bN)(q:∀D h,Sat (A::(g++(k++D))) h->Sat (b++D) h:=by intro D;simp only[ck,ci];exact λh s=>Sat.swap GL)(fI:fb E ik:=by exact fl)(i1:fb E F:=by exact fl):ab E 474 [ptr p 0] J (aH (.bool a) b):=
 R1 Q (R2 (ahQ br T ik F N z l (bw++e) (g++k) A a c PO (j9 aj i5 (λD h s=>by simpa using s))) (λD h s=>q D h Ip))
def p9{I:Value}[k4 E T "Step" ik]{J l d bw e b:List al}(i:ab E ik [N] d (aH gP bw))(q:∀D h,Sat (cW p (.iface T N) I 0 0 br::(bw++(e++D))) h->Sat (b++D) h)(Q:hJ (cW p qv I 0 0 br) J l:=by exact eP)(gH:Part d l e:=by exact bN)(fI:fb E ik:=by exact fl):ab E 474 [ptr p 0] J (aH gP b):=
 R1 Q (R2 (auA br T ik N I l (bw++e) PO) (λD h s=>q D h Ip))
def pF[k4 E T "Step" ik]{J l d bw f e k m b:List al}{A:al}{a:Bool}(j:List al)(c:ab E 254 [ptr p 0] [A] (aH (.bool a) [A]))(i:ab E ik [N] d (aH hI bw))(aj:ab E F z f (aH eN m))(Q:hJ (cW p qv w4 0 0 br) J l:=by exact eP)(gH:Part d l e:=by exact bN)(i5:Part f (cW p qv w4 0 0 br::(bw++e)) k:=by simp only[ck,ci];exact bN)(g:∀D h,Sat (m++(k++D)) h->Sat (A::(j++D)) h)(q:∀D h,Sat (A::(j++D)) h->Sat (b++D) h)(fI:fb E ik:=by exact fl)(i1:fb E F:=by exact fl):ab E 474 [ptr p 0] J (aH (.bool a) b):=
 R1 Q (R2 (ahQ br T ik F N z l (bw++e) j A a c PO (j9 aj i5 (λD h s=>by simpa using g D h s))) (λD h s=>q D h Ip))
end
end Go.Proofs.YtnnhpnccfnghdaaGreat.L
