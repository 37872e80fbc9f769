import Derived.Test.YtnnhpnccfnghdaaGreatK3
import Derived.Laws.BytesString
import Derived.Recover
import Derived.RangeFuncKeeps
import Derived.RangeFuncLeaves
set_option linter.all false
set_option maxRecDepth 8000
set_option maxHeartbeats 1600000
namespace Go.Proofs.YtnnhpnccfnghdaaGreat.L
open Go.L Go.L.Whl
structure kL where
 a:Option Addr
 c:Nat
 l:List bE
deriving Inhabited
abbrev FW(x:kL):Value:=.slice x.a x.l.length x.c
abbrev so(x:kL):aq:=own (.slice x.a x.l.length x.c) 336 3 x.l.length (x.l.flatMap te)
section
variable(p now seq:Nat)(z:List kL)
def oq:List Value:=af now::af seq::z.map FW
abbrev mq:aq:=ab p 286 (oq now seq z)
abbrev om:aq:=ay (z.map so)
def fO(w:gd):aq:=
 df (bx:=List kL) (λz=>iC (λt=>hh w.now t.due) w.T (z.map (·.l))) (λz=>[mq p w.now w.seq z,om z])
end
section
variable{now due seq:Nat}{z:List kL}{j l i s n:Nat}{x:kL}{a:Option Addr}{t:bE}{c:Nat}{m:List bE}
def xm{p:Nat}{w:gd}{I D:List aq}(z:List kL)(h:iC (λt=>hh w.now t.due) w.T (z.map (·.l)))(t:∀h,Sat I h->Sat (mq p w.now w.seq z::om z::D) h):∀h,Sat I h->Sat (fO p w::D) h:=cA z h t
def IP(t:bE):(te t).length=3:=rfl
def FX(h:z[8*l+s]?=some x):(oq now seq z)[0+2+l*8+s*1]?=some (FW x):=by
 rw[show 0+2+l*8+s*1=(8*l+s)+1+1 by omega];simp[oq,h]
def aB5:(oq now seq z).set (0+2+l*8+s*1) (FW x)=oq now seq (z.set (8*l+s) x):=by
 rw[show 0+2+l*8+s*1=(8*l+s)+1+1 by omega];simp[oq,tL]
def Pb:(oq now seq z).length=z.length+2:=by simp[oq]
def arU{l:List bE}{i:Nat}{t:bE}(h:l[i]?=some t):((l.flatMap te).drop (i*3)).take 3=te t:=kO te 3 IP h
def kx(l x:Nat):Nat:=x/2^(3*l)
def KI(k x:Nat):(x:Int)/2^((k:Nat):Int).toNat=((x/2^k:Nat):Int):=by rw[Kp];simp
theorem atd(aH:l<=3)(h:∀m,l<m->m<=3->kx m due=kx m now)(aw:l=0\/kx l due≠kx l now):hh now due=8*l+kx l due%8:=by
 have aB:=h 1;have aU:=h 2;have bB:=h 3;unfold kx at*;rcases(show l=0\/l=1\/l=2\/l=3 by omega)with rfl|rfl|rfl|rfl<;>simp at*<;>unfold hh<;>(repeat' split)<;>omega
theorem aB6(h:∀m,l<m->m<=3->kx m due=kx m now)(e:kx l due=kx l now):∀m,l -1<m->m<=3->kx m due=kx m now:=λm h1 h2=>by
 rcases sh l m with x|x
 . exact h m x h2
 . have:m=l:=by omega
   subst this;exact e
def jC(z:List kL)(j:Nat):Nat:=((z.take j).map (λx=>x.l.length)).sum
def aB7(h:z[j]?=some x):jC z (j+1)=jC z j+x.l.length:=by
 obtain⟨J,e⟩:=dd.1 h;unfold jC;rw[ns J,e];simp
def LV(h:m.length=n):(oq now seq z).set (0+2+l*8+s*1) (.slice a n c)=oq now seq (z.set (8*l+s) ⟨a,c,m⟩):=by
 subst h;exact aB5 (x:=⟨a,c,m⟩)
def aB8{n:Nat}{m:List bE}{t:bE}(h:m.length=n):own (.slice a (n+1) c) 336 3 (n+1) (m.flatMap te++te t)=so ⟨a,c,m++[t]⟩:=by subst h;simp[so,o5]
def aB9(l:List bE):∀x∈l.flatMap te,x.oneCell'=true:=λx ag=>by
 obtain⟨t,_,h⟩:=Ad.1 ag;simp[te]at h;rcases h with rfl|rfl|rfl<;>rfl
def aCa{b c i m:Nat}{l:List bE}{D:List aq}(al:i<l.length)(U:List Value):∀F,Sat (own (.slice (some ⟨b,0,none⟩) l.length c) 336 3 l.length (((l.flatMap te).take (i*3)++(l.flatMap te).drop ((i+1)*3)++(l.flatMap te).drop ((l.length -1)*3)).take ((l.length -1)*3)++iS U m)::D) F->Sat (so ⟨some qA,c,l.eraseIdx i⟩::D) F:=λF s=>by
 have h1:=HN (k:=l.length -1) ae F s;have aw:(l.flatMap te).length=l.length*3:=kz te 3 IP l;have aB:((l.flatMap te).take (i*3)++(l.flatMap te).drop ((i+1)*3)).length=(l.length -1)*3:=by rw[ep,pS,wb,aw];omega
 have aU:(l.flatMap te).take (i*3)=(l.take i).flatMap te:=by
  have h2:=congrArg (List.take (i*3)) (show l.flatMap te=(l.take i).flatMap te++(l.drop i).flatMap te by rw[<-o5,CR]);rw[h2,HL ZL,y2 ZL]
 rw[D7 aB,D7 aB,aU,Iu te 3 IP,<-o5,<-Y1]at h1;have bB:l.length -1=(l.eraseIdx i).length:=OH;rw[bB]at h1;exact h1
def A3{v:Option Addr}{n c:Nat}{e:TypeId}{aT:Nat}{xs:List Value}{D:List aq}(h:0<n):∀F,Sat (own (.slice v n c) e aT n xs::D) F->∃b,v=some qA/\n<=c:=λF s=>by
 obtain⟨_,_,_,_,⟨_,co|⟨b,C,dq,V,_,bm,_⟩⟩,_⟩:=s
 . omega
 . simp only[Value.slice.injEq]at V;exact⟨b,V.1,by rw[V.2.2];exact bm⟩
def LW(h:z[j]?=some x)(R:x.l[i]?=some t):(z.flatMap (·.l))[jC z j+i]?=some t:=by
 obtain⟨J,e⟩:=dd.1 h;have aB:z.flatMap (·.l)=(z.take j).flatMap (·.l)++((z.drop j).flatMap (·.l)):=Zt;have aU:((z.take j).flatMap (·.l)).length=jC z j:=by unfold jC;rw[List.length_flatMap]
 rw[aB,pQ ae,aU,Gf,vY J,e,pP,kS (dd.1 R).1];exact R
def Q3(h:z.length=32):jC z 32=(z.flatMap (·.l)).length:=by
 unfold jC;rw[y2 ae,List.length_flatMap]
def aCb{α z:Type}{f:α->z}{m:List α}{i:Nat}{t:α}(h:m[i]?=some t):(m.take (i+1)).map f=(m.take i).map f++[f t]:=by
 obtain⟨al,e⟩:=dd.1 h;rw[ns al,e,o6];rfl
end
section
variable(p now seq:Nat)(go:Nat->Bool)(a:Option Addr)(w:gd)(c:Nat)(z:List kL)(l b s i:Nat)(t:bE)(id:Int)(aN aO aR bW V cx k:Nat)
theorem alg{P:Program}{F:World}{n:Nat}{ak:eA}{I D:List aq}{fn:Func}{post:Value->List aq->Prop}{e:Exit}(Y:e=.ret\/e=.normal){t1 V t3 t4 t5 av U Z aN aO:Nat}{Ax Aw Av Au As aB aU bB c9 fX aT:Nat}{v1 u v3 v5:Value}{M:List Value}
 {d f g i j:Obj->List aq}[ew P Ax][ew P Aw][ew P Av][jR P Au aT][ew P As][k0 av I (.cells [v1].toArray aB (0,0)) d][k0 U I (.cells [u].toArray aU (0,0)) f][k0 Z I (.cells [v3].toArray bB (0,0)) g][k0 aN I (.cells M.toArray c9 (0,0)) i][k0 aO I (.cells [v5].toArray fX (0,0)) j]
 (a8:fn.results=#[.cell t1 Ax,.cell V Aw,.cell t3 Av,.cell t4 Au,.cell t5 As])(h1:gL ak t1=some (ptr av 0))(h2:gL ak V=some (ptr U 0))(aH:gL ak t3=some (ptr Z 0))(bm:gL ak t4=some (ptr aN 0))(dk:gL ak t5=some (ptr aO 0))(aw:M.length=aT)
 (H:List aq)(hp:post (.tuple #[v1,u,v3,.agg M.toArray,v5]) H)(B:∀h,Sat I h->Sat (H++D) h):GE F n ak I vW:=
 x6 Y (λa w aj s=>by
  have gZ:=H5 (P:=P) (T:=Ax) (b:=av) (bv:=0) (v:=v1) s rfl;have my:=H5 (P:=P) (T:=Aw) (b:=U) (bv:=0) (v:=u) s rfl;have c:=H5 (P:=P) (T:=Av) (b:=Z) (bv:=0) (v:=v3) s rfl;have tl:=apX (P:=P) (T:=Au) (b:=aN) (bv:=0) (M:=M) s (by rw[List.drop_zero,y2 (by omega)]) aw;have C:=H5 (P:=P) (T:=As) (b:=aO) (bv:=0) (v:=v5) s rfl;simp[results,a8,aj.val _ _ h1,aj.val _ _ h2,aj.val _ _ aH,aj.val _ _ bm,aj.val _ _ dk,asAddr,gZ,my,c,tl,C]) H hp B
def q8:Prop:=∀j,j<k->go j=true
def q8.snoc{go:Nat->Bool}{k:Nat}(h:q8 go k)(e:go k=true):q8 go (k+1):=λj J=>by
 rcases sh j k with x|x
 . exact h j x
 . have:j=k:=by omega
   subst this;exact e
theorem aCc(due seq:Nat)(z:List kL)(aS:now<4000000000000000000)(aQ:due<4000000000000000000):
 ad aa 406 [ptr p 0,af due] [mq p now seq z] (λu H=>(∃l s:Nat,u=.tuple #[af l,af s]/\l<4/\s<8/\hh now due=8*l+s)/\H=[mq p now seq z]):=by
 refine ku Tryz.func406 rfl rfl rfl ?_;refine Kn ?_;intro F D;refine qP ?_;refine qP ?_;refine afK ?_;refine hA ?_;refine tx ?_;refine gO (bx:=Nat) (λl=>l<=3/\∀m,l<m->m<=3->kx m due=kx m now) (λl=>[(6,af l),(0,ptr p 0),(1,af due)]) (λ_=>mq p now seq z::D) (λl=>l) 3 (⟨eh _,λm h1 h2=>by omega⟩) I7 (au) ?_;rintro l ⟨r,aw⟩;refine hA ?_;refine hA ?_;refine h9 [] [] [(0,.loc),(1,.loc),(2,.loc),(3,.loc),(4,.loc),(5,.loc),(6,.loc),(7,.loc),(8,.loc),(9,.loc),(10,.loc),(11,.loc),(12,.loc),(13,.loc),(14,.loc),(15,.loc)] [] mixed gS ?_;refine pw ?_;refine go_v rfl .none rfl (B2 rfl rfl) ?_;refine pw ?_;refine go_split (j:=2) rfl rfl (λW=>?_) (λW=>?_)
 . have f:=W
   replace f:=bR f;refine go_v rfl vq rfl pk ?_;refine adp ?_;refine go_v rfl vq rfl (H4 ((kx l due:Nat):Int) (KI _ _) rfl rfl ae Ec) ?_;refine go_v rfl vq rfl pk ?_;refine go_v rfl vq rfl (lR rfl) ?_
   first|refine go_v rfl vq rfl wQ ?_|refine go_v rfl vq rfl (nE rfl) ?_
   refine go_v rfl vq rfl (o_load rfl (l:=oq now seq z) (v:=af now) rfl) ?_;refine adp ?_;refine go_v rfl vq rfl (H4 ((kx l now:Nat):Int) (KI _ _) rfl rfl ae Ec) ?_;refine go_v rfl vq rfl (nb rfl rfl) ?_;refine go_v rfl .none rfl (D3 W rfl rfl) ?_;refine go_nil ?_;refine hB ?_;refine mR rfl (λI=>?_) (λI=>?_)
   . replace I:=bR I
     have y:kx l due=kx l now:=ae;refine rv ?_;refine hB ?_;refine tx ?_;refine aeP ?_;refine yw ?_;refine fm (l -1) ⟨by omega,aB6 aw y⟩ ae (bd.cons rfl (bd.cons rfl (bd.cons rfl bd.nil))) (au)
   . replace I:=bR I
     have y:l=0\/kx l due≠kx l now:=ae;exact agU
 . have f:=W
   replace f:=bR f;refine afr ?_;refine afr ?_;refine go_v rfl .none rfl (yX W rfl rfl) ?_;refine go_nil ?_;refine hB ?_;refine tr rfl ?_;exact agU
theorem alh(aS:now<4000000000000000000)(aQ:t.due<4000000000000000000)(hlen:z.length=32)(az:∀x∈z,x.l.length<=1000):
 ad aa 366 [ptr p 0,.agg (te t).toArray] zj (λu H=>u=.tuple #[]/\∃a:List kL,a.map (·.l)=(z.map (·.l)).set (hh now t.due) ((z.map (·.l)).getD (hh now t.due) []++[t])/\H=[mq p now seq a,om a]):=by
 refine ku Tryz.func366 rfl rfl rfl ?_;refine Kn ?_;intro F D;refine iQ rfl (Br rfl) ?_;rintro _ _ ⟨Z,rfl,rfl⟩;refine oR ?_;refine xq ?_;refine JW ?_
 first|refine aA rfl sm ?_|refine aA rfl wR ?_|refine aA rfl wS ?_
 refine cj rfl (b4 rfl (aCc p now t.due seq z aS aQ) bI) ?_;rintro _ D ⟨_,⟨⟨l,s,rfl,aw,aj,hp⟩,rfl⟩,rfl⟩;refine fj ?_;refine km ?_;refine zq ?_;refine zq ?_;refine qP ?_;refine qP ?_;refine oR ?_;obtain⟨x,ag⟩:∃x,z[8*l+s]?=some x:=⟨_,cq ae⟩;refine u6 ek (DT ag) ?_;refine h9 [12,13,18] [12,13] [(0,.bJ),(1,.bJ),(2,.bJ),(3,.bJ),(4,.bJ),(5,.bJ),(6,.bJ),(7,.bJ),(8,.bJ),(9,.bJ),(10,.bJ),(11,.loc),(14,.bJ),(15,.bJ),(16,.bJ),(12,.c0),(13,.c0),(17,.loc),(18,.c0)] [mq p now seq z] mixed gS ?_;refine xn ?_;refine xn ?_;refine ad9 ?_;refine xn ?_;refine go_vs rfl .none rfl (lR rfl) (au) ?_;refine QM ?_;refine go_vs rfl .none rfl (lU rfl rfl aw) (au) ?_;refine go_vs rfl .none rfl (lU rfl rfl aj) (au) ?_;refine go_vs rfl .none rfl (o_load rfl (FX ag)) (au) ?_;refine go_v rfl .none rfl (zC rfl (M:=te t) rfl rfl) ?_;refine go_vs rfl .none rfl (lR rfl) (au) ?_;refine QM ?_;refine go_vs rfl .none rfl (lU rfl rfl aw) (au) ?_
 first|refine go_n rfl .none rfl (Ii rfl rfl rfl) ?_|refine go_n rfl .none rfl (Ij rfl rfl rfl rfl) ?_|refine go_n rfl .none rfl (qp rfl rfl rfl rfl) ?_
 rintro _ _ ⟨n,rfl,rfl⟩;refine⟨vr,?_⟩;refine go_n rfl .none rfl (D6 rfl rfl bI rfl rfl rfl (by have:=az x y9;omega) (by have:=az x y9;unfold maxLen;omega)) ?_;rintro _ _ ⟨b,f,rfl,rfl⟩;rw[aB8 rfl];refine⟨vr,?_⟩;refine go_v rfl .none rfl (lU rfl rfl aj) ?_;refine acZ ?_;rw[LV (m:=x.l++[t]) fW];refine go_nil ?_;refine uM (gu (A:=so ⟨b,f,x.l++[t]⟩) (i:=8*l+s) (l:=z.map so) ek ek hW) ?_;refine Ds (.inr rfl) rfl [mq p now seq (z.set (8*l+s) ⟨b,f,x.l++[t]⟩),om (z.set (8*l+s) ⟨b,f,x.l++[t]⟩)] (⟨rfl,_,by rw[hp,tL,je,fe,ag];rfl,rfl⟩) IM
theorem aCd(l:List bE)(al:i<l.length)(az:l.length<=1000):
 ad aa 369 [.slice a l.length c,af i,af ((i+1:Nat):Int)] [so ⟨a,c,l⟩] (aF (.slice a (l.length -1) c) [so ⟨a,c,l.eraseIdx i⟩]):=by
 refine ku Tryz.func369 rfl rfl rfl ?_;refine vu ?_;intro F D;refine yt (A3 (show 0<l.length by omega)) ?_;rintro⟨b,rfl,d⟩;replace d:l.length<=c:=d;refine RG ?_;refine km ?_;refine km ?_;refine km ?_;refine aA rfl (DV rfl) ?_;refine aA rfl (XN rfl rfl rfl rfl ae ae d) ?_;refine ib ?_;refine aeZ ?_;refine aA rfl (fM (c:=false) hW (nb rfl rfl)) ?_;refine oR ?_;refine tr rfl ?_;refine rv ?_;refine Rk ?_;refine aA rfl (DV rfl) ?_;refine BY ?_;refine h9 [6] [] [(0,.loc),(1,.loc),(2,.loc),(3,.loc),(4,.loc),(5,.loc),(6,.c0),(7,.loc)] [] mixed gS ?_;refine pw ?_;refine pw ?_;refine go_v rfl .none rfl (uE rfl rfl ae) ?_;refine pw ?_;refine pw ?_;refine go_v rfl .none rfl (DW rfl rfl ae) ?_;refine go_n rfl .none rfl (XR (k:=l.length) (j:=i+1) (aT:=3) rfl rfl ae ae d (aB9 l)) ?_;rintro _ _ ⟨rfl,rfl⟩;rw[show i+(l.length -(i+1))=l.length -1 by omega];refine⟨(λC=>absurd C bN),?_⟩;refine go_v rfl .none rfl (mj rfl) ?_;refine go_nil ?_;refine Rm ?_;refine aA rfl (DV rfl) ?_;refine km ?_;refine aA rfl (XO rfl rfl rfl ae ae) ?_;refine A4 (NV (k:=l.length -1) (m:=l.length -(l.length -1)) (show l.length -1+(l.length -(l.length -1))=l.length by omega) rfl ae (by intro x ag;simp at ag;rcases ag with rfl|rfl<;>rfl)) ?_;rintro _ _ ⟨rfl,rfl⟩;refine ib ?_;refine KG ?_;refine jm (.inl rfl) rfl rfl [so ⟨some qA,c,l.eraseIdx i⟩] (dD) (aCa al _)
theorem T0{g:FuncId}(C:List Value)(Inv:Nat->aq)(go:Nat->Bool)(p now seq:Nat)(z:List kL)(hlen:z.length=32)(az:∀x∈z,x.l.length<=1000)
 (U:∀(l s i:Nat) (x:kL) (t:bE),l<4->s<8->z[8*l+s]?=some x->x.l[i]?=some t->q8 go (jC z (8*l+s)+i)->ad aa g ([af l,af s,af i,.agg (te t).toArray]++C) [Inv (jC z (8*l+s)+i)] (aF (.bool (go (jC z (8*l+s)+i))) [Inv (jC z (8*l+s)+i+1)]))(fD:eU aa g:=by exact e7):
 ad aa 255 [ptr p 0,.func (.func g) #[] C.toArray] [mq p now seq z,om z,Inv 0] (λu H=>u=.tuple #[]/\∃k,((k=jC z 32/\q8 go k)\/∃(l s i:Nat) (x:kL) (t:bE),l<4/\s<8/\z[8*l+s]?=some x/\x.l[i]?=some t/\k=jC z (8*l+s)+i+1/\q8 go (jC z (8*l+s)+i)/\go (jC z (8*l+s)+i)=false)/\H=[mq p now seq z,om z,Inv k]):=by
 refine ku Tryz.func255 rfl rfl rfl ?_;refine Kn ?_;intro F D;refine Kb ?_;refine tx ?_;refine gO (bx:=Nat) (λl=>l<=4/\q8 go (jC z (8*l))) (λl=>P4) (λl=>mq p now seq z::om z::Inv (jC z (8*l))::D) (λl=>4 -l) 0 (⟨fc _,λj J=>absurd J (KO j)⟩) I7 (au) ?_;rintro l ⟨d,g3⟩;refine EQ ?_;refine mR rfl (λW=>?_) (λW=>?_)
 . replace W:=bR W
   refine ags ?_;refine jb ?_;refine Kb ?_;refine tx ?_;refine gO (bx:=Nat) (λs=>s<=8/\q8 go (jC z (8*l+s))) (λs=>((11,af s)::(4,af l)::P4)) (λs=>mq p now seq z::om z::Inv (jC z (8*l+s))::D) (λs=>8 -s) 0 (⟨fc _,g3⟩) Pt (au) ?_;rintro s ⟨c,b⟩;refine EQ ?_;refine mR rfl (λI=>?_) (λI=>?_)
   . replace I:=bR I
     refine ags ?_;obtain⟨x,ag⟩:∃x,z[8*l+s]?=some x:=⟨_,cq ae⟩;refine afz ?_;refine aA rfl (lU rfl rfl ae) ?_;refine aA rfl (o_load rfl (FX ag)) ?_;haveI:Yp (z.map so) (.slice x.a x.l.length x.c) x.l.length (x.l.flatMap te):=⟨_,_,_,DT ag⟩;refine aeF ?_;refine gO (bx:=Nat) (λi=>i<=x.l.length/\q8 go JG) (λi=>((23,af i)::(22,af x.l.length)::(21,FW x)::(5,af s)::(4,af l)::(11,af s)::P4)) (λi=>mq p now seq z::om z::Inv JG::D) (λi=>x.l.length -i) 0 (⟨fc _,b⟩) aau (au) ?_;rintro i ⟨al,a⟩;refine EQ ?_;refine mR rfl (λL=>?_) (λL=>?_)
     . replace L:=bR L
       obtain⟨t,R⟩:∃t,x.l[i]?=some t:=⟨_,cq ae⟩;refine aft ?_;refine aA rfl (fA rfl rfl ae) ?_;refine QV ?_;rintro _ _ ⟨bW,rfl,rfl⟩;refine ado ?_;refine ib ?_;refine aff ?_;refine km ?_;refine aA rfl (zC rfl (M:=te t) rfl rfl) ?_;refine cj rfl (oE (first:=[]) (C:=C) rfl rfl (U l s i x t ae ae ag R a) bI) ?_;refine aeM ?_;refine mR rfl (λfV=>?_) (λfV=>?_)
       . replace fV:=bR fV
         have e:go JG=false:=fV;refine oL ?_;refine Re ?_;refine Re ?_;refine Re ?_;refine Ds (.inl rfl) rfl [mq p now seq z,om z,Inv (jC z (8*l+s)+i+1)] (⟨rfl,_,.inr ⟨l,s,i,x,t,by omega,by omega,ag,R,rfl,a,e⟩,rfl⟩) (au)
       . replace fV:=bR fV
         have e:go JG=true:=fV;refine rv ?_;refine J8 ?_;refine aA rfl aa6 ?_;refine EJ ?_;refine fm (i+1) ⟨by omega,a.snoc e⟩ ae aau (au)
     . replace L:=bR L
       refine RD ?_;refine aA rfl (fo ((s+1:Nat):Int) eV rfl rfl) ?_;refine EJ ?_;obtain rfl:i=x.l.length:=ae;rw[<-aB7 ag]at a⊢;refine fm (s+1) ⟨by omega,a⟩ ae Pt (au)
   . replace I:=bR I
     refine RD ?_;refine aA rfl (fo ((l+1:Nat):Int) eV rfl rfl) ?_;refine EJ ?_;obtain rfl:s=8:=ae;rw[show 8*l+8=8*(l+1) by omega]at b⊢;refine fm (l+1) ⟨by omega,b⟩ ae I7 (au)
 . replace W:=bR W
   refine Kj ?_;refine Ds (.inr rfl) rfl [mq p now seq z,om z,Inv (jC z 32)] (⟨rfl,_,.inl ⟨rfl,by rw[show l=4 by omega]at g3;exact g3⟩,rfl⟩) (by rw[show l=4 by omega];exact(au))
def um(id:Int):Option (Nat×Nat×Nat×bE)->List aq
 |none=>[ab aN 36 [bu id],ab aO 3 [af 0],ab aR 3 [af 0],ab bW 3 [af 0],ab V 336 [bu 0,af 0,af 0],ab cx 4 [.bool false]]
 |some (l,s,i,t)=>[ab aN 36 [bu id],ab aO 3 [af l],ab aR 3 [af s],ab bW 3 [af i],ab V 336 (te t),ab cx 4 [.bool true]]
def vU:Bool:=match(z.flatMap (·.l))[k]?with
 |some t=>!decide (t.id=id)
 |none=>true
def LX:Option (Nat×Nat×Nat×bE)->Prop
 |none=>q8 (vU z id) k
 |some (l,s,i,t)=>¬q8 (vU z id) k/\l<4/\s<8/\(∃x,z[8*l+s]?=some x/\x.l[i]?=some t)/\t.id=id
def LY:aq:=df (LX z id k) (um aN aO aR bW V cx id)
theorem T1{z:List kL}{id:Int}{j i:Nat}{x:kL}{t:bE}(h:z[j]?=some x)(R:x.l[i]?=some t):vU z id (jC z j+i)=!decide (t.id=id):=by unfold vU;rw[LW h R]
theorem aCe{z:List kL}{id:Int}(hlen:z.length=32)(h:q8 (vU z id) (jC z 32)):∀t,t∈z.flatMap (·.l)->t.id≠id:=λt R e=>by
 obtain⟨k,hk⟩:=List.getElem?_of_mem R;have h1:=h k (by rw[Q3 hlen];exact(dd.1 hk).1);unfold vU at h1;rw[hk]at h1;simp[e]at h1
theorem aCf:
 ad aa 407 (af l::af s::af i::.agg (te t).toArray::acI) (um aN aO aR bW V cx id none) (aF (.bool (!decide (t.id=id))) (um aN aO aR bW V cx id (if t.id=id then some (l,s,i,t)else none))):=by
 refine ku Tryz.func407 rfl rfl rfl ?_;refine vu ?_;intro F D;simp only[um,cn,ci];refine zr ?_;refine iQ rfl (Br rfl) ?_;rintro _ _ ⟨f,rfl,rfl⟩;refine BY ?_;refine zr ?_;refine JW ?_;refine aA rfl (o_load rfl (l:=te t) (v:=bu t.id) rfl) ?_;refine J1 ?_;refine aA rfl (nb rfl rfl) ?_;refine oR ?_;refine mR rfl (λW=>?_) (λW=>?_)
 . replace W:=bR W
   refine h9 [4,5,6,7,8] [4,5,6] [(0,.loc),(1,.bJ),(2,.bJ),(3,.bJ),(4,.c0),(5,.c0),(6,.c0),(7,.c0),(8,.c0)] [ab f 336 (te t)] mixed gS ?_;refine pw ?_;refine xn ?_;refine xn ?_;refine go_vs rfl .none rfl (zC rfl (M:=te t) rfl rfl) (au) ?_
   first|refine go_u rfl .none pY vr ?_|refine go_u rfl .none pZ vr ?_
   first|refine go_u rfl .none pY vr ?_|refine go_u rfl .none pZ vr ?_
   first|refine go_u rfl .none pY vr ?_|refine go_u rfl .none pZ vr ?_
   first|refine go_u rfl .none (Iw rfl rfl rfl rfl hW fW) Ai ?_|refine go_u rfl .none (OP rfl rfl rfl rfl rfl) Ai ?_
   first|refine go_u rfl .none pY Ai ?_|refine go_u rfl .none pZ Ai ?_
   refine go_nil ?_;refine af7 ?_;refine jm (.inl rfl) rfl rfl _ (⟨by simp[W],by rw[bg W]<;>rfl⟩) (au)
 . replace W:=bR W
   refine rv ?_;refine af7 ?_;refine jm (.inl rfl) rfl rfl _ (⟨by simp[W],by rw[a6 W]<;>rfl⟩) (au)
theorem aCg(l s i:Nat)(x:kL)(t:bE)(aw:l<4)(aj:s<8)(ag:z[8*l+s]?=some x)(R:x.l[i]?=some t)(g3:q8 (vU z id) (jC z (8*l+s)+i)):
 ad aa 407 ([af l,af s,af i,.agg (te t).toArray]++acI) [LY z id aN aO aR bW V cx (jC z (8*l+s)+i)] (aF (.bool (vU z id (jC z (8*l+s)+i))) [LY z id aN aO aR bW V cx (jC z (8*l+s)+i+1)]):=
 Yn λo aJ=>by
  cases o with
  |some q=>exact absurd g3 aJ.1
  |
   none=>
   refine(aCf l s i t id aN aO aR bW V cx).aV λu H ⟨d7,cc⟩=>⟨_,⟨by rw[d7,T1 ag R],rfl⟩,?_⟩;subst cc;refine Yo (if t.id=id then some (l,s,i,t)else none) ?_ kH;by_cases e:t.id=id
   . rw[bg e];exact⟨λh=>by have:=h (jC z (8*l+s)+i) ae;rw[T1 ag R]at this;simp[e]at this,aw,aj,⟨x,ag,R⟩,e⟩
   . rw[a6 e];exact g3.snoc (by rw[T1 ag R];simp[e])
theorem aCh(hlen:z.length=32)(az:∀x∈z,x.l.length<=1000):
 ad aa 367 JQ zj (λu H=>((∃(l s i:Nat) (x:kL) (t:bE),l<4/\s<8/\z[8*l+s]?=some x/\x.l[i]?=some t/\t.id=id/\u=.tuple #[af l,af s,af i,.agg (te t).toArray,.bool true])\/((∀t,t∈z.flatMap (·.l)->t.id≠id)/\u=.tuple #[af 0,af 0,af 0,.agg [bu 0,af 0,af 0].toArray,.bool false]))/\H=zj):=by
 refine ku Tryz.func367 rfl rfl rfl ?_;refine Kn ?_;intro F D;refine iQ rfl (R0 rfl rfl) ?_;rintro _ _ ⟨Z,rfl,rfl⟩;refine iQ rfl (tX) ?_;rintro _ _ ⟨aN,rfl,rfl⟩;refine iQ rfl (tX) ?_;rintro _ _ ⟨aO,rfl,rfl⟩;refine iQ rfl (tX) ?_;rintro _ _ ⟨aR,rfl,rfl⟩;refine iQ rfl (tX) ?_;rintro _ _ ⟨bW,rfl,rfl⟩;refine iQ rfl (tX) ?_;rintro _ _ ⟨V,rfl,rfl⟩;refine zv ?_;refine lh (cA (fR:=LX z id 0) (l:=um Z aN aO aR bW V id) (D:=mq p now seq z::om z::D) none (λj J=>absurd J (KO j)) (by simp only[um,cn,ci];exact(au))) ?_;rw[show df (LX z id 0) (um Z aN aO aR bW V id)=LY z id Z aN aO aR bW V 0 from rfl];refine zs ?_;refine aA rfl (KN (xs:=[]) (U:=[.tmp 3,.tmp 4,.tmp 5,.tmp 6,.tmp 7,.tmp 8]) rfl rfl) ?_;refine cj rfl (b4 rfl (T0 (g:=407) [ptr Z 0,ptr aN 0,ptr aO 0,ptr aR 0,ptr bW 0,ptr V 0] (LY z id Z aN aO aR bW V) (vU z id) p now seq z hlen az (aCg z id Z aN aO aR bW V)) bI) ?_;rintro _ D ⟨_,⟨rfl,k,hk,rfl⟩,rfl⟩;refine fj ?_;refine oR ?_;refine oL ?_;refine art (fR:=LX z id k) (l:=um Z aN aO aR bW V id) ek ?_;rintro st gc;rcases hk with⟨rfl,hk⟩|⟨l,s,i,x,t,d,c,ag,R,rfl,md,M⟩
 . cases st with
   |none=>simp only[um,cn,ci];exact alg (.inl rfl) rfl rfl rfl rfl rfl rfl rfl zj ⟨.inr ⟨aCe hlen hk,rfl⟩,rfl⟩ (au)
   |some q=>exact absurd hk gc.1
 . cases st with
   |none=>have:=gc (jC z (8*l+s)+i) ae;rw[M]at this;cases this
   |
    some q=>
    obtain⟨g9,aY,O,dh⟩:=q;obtain⟨_,W,E,⟨n,b,a⟩,cv⟩:=gc;simp only[um,cn,ci];exact alg (.inl rfl) rfl rfl rfl rfl rfl rfl rfl zj ⟨.inl ⟨g9,aY,O,n,dh,W,E,b,a,cv,rfl⟩,rfl⟩ (au)
abbrev FY:Type:={t:bE//t.seq<4611686018427387904}
instance:Inhabited FY:=⟨⟨⟨0,0,0⟩,by decide⟩⟩
def CJ(x:FY):List Value:=te x.1
def x3(x y:FY):Int:=(x.1.seq:Int) -y.1.seq
def aCi:Go.Sort.SWO (Go.Proofs.ltOf x3)where
 irrefl x:=mJ (by unfold x3;omega)
 trans x y E h1 h2:=by
  have h1:=of_decide_eq_true h1;have h2:=of_decide_eq_true h2;refine lM ?_;unfold x3 at*;omega
 ntrans x y E h1 h2:=by
  have h1:=of_decide_eq_false h1;have h2:=of_decide_eq_false h2;refine mJ ?_;unfold x3 at*;omega
def aCj(x y:FY)(W:World):Calls aa 315 #[.agg (CJ x).toArray,.agg (CJ y).toArray] W λe X=>e=.returned (.int .i64 (x3 x y))/\∃q A,X=Go.Sort.grow (W.drewN q) A:=by
 obtain⟨⟨i1,d1,s1⟩,h1⟩:=x;obtain⟨⟨a,t,Z⟩,h2⟩:=y;have O:IntKind.i64.wrap ((s1:Int) -(Z:Int))=(s1:Int) -Z:=jv (by simp only at h1 h2;omega);simp only[CJ,te,x3]
 generalize (s1:Int)=p at*
 generalize (Z:Int)=q at*
 generalize (d1:Int)=b at*
 generalize (t:Int)=c at*
 go_enter Tryz.func315,Tryz.ntmps315
 go_wp2
 go_ret
 exact⟨by first|rfl|rw[O],0,_,by rw[Go.Sort.alloc_eq_grow,Go.Sort.alloc_eq_grow,Go.Sort.grow_grow];rfl⟩
theorem aCk(l m:List bE)(hp:l.Perm m)(aj:m.Pairwise (λa b=>a.seq<b.seq))(bo:∀t∈m,t.seq<4611686018427387904)(az:l.length<=1000):
 ad aa 314 [.slice a l.length c,.func (.func 315) #[] #[]] [so ⟨a,c,l⟩] (aF et [so ⟨a,c,m⟩]):=by
 have SW:∀t∈l,t.seq<4611686018427387904:=λt R=>bo t (hp.subset R);obtain⟨L,K⟩:∃L:List FY,L.map (·.1)=l:=⟨l.pmap Subtype.mk SW,by simp[List.map_pmap]⟩;have hlen:L.length=l.length:=by rw[<-K,kG]
 have T:L.flatMap CJ=l.flatMap te:=by rw[<-K,List.flatMap_map];rfl
 have z:∀args w,(callFunc 315 args).run aa w=.ok (.enter 315 args) w:=enters_of Tryz.func315 gS rfl;have h:=avb (P:=aa) Go.Proofs.Tryz.aCE 3 bN (λw=>Aa Tryz.underlying336 rfl w) (λw=>(by obtain⟨i,h1,h2⟩:=(inferInstance:jR aa 336 3).size;rw[<-h2];exact ji h1 w)) CJ (λ_=>rfl) (λx v V=>by simp[CJ,te]at V;rcases V with rfl|rfl|rfl<;>rfl) x3 aCi 315 z aCj (v:=.slice a l.length c) (e:=336) L ae;rw[hlen,T]at h;refine ad.mono h λu H ⟨d7,g9,j,E,cc⟩=>⟨d7,?_⟩;have aB:g9.map (·.1)=m:=by
  refine aCl (((j.map (·.1)).trans (FZ K)).trans hp) ?_ aj;rw[List.pairwise_map];refine E.imp fun{a b} f=>?_;have f:=of_decide_eq_false f;unfold x3 at f;omega
 rw[cc,<-aB,show l.length=(g9.map (·.1)).length by rw[kG,j.length_eq,hlen]];simp only[so];rw[List.flatMap_map];rfl
theorem ali(l m:List bE)(hp:l.Perm m)(aj:m.Pairwise (λa b=>a.seq<b.seq))(bo:∀t∈m,t.seq<4611686018427387904)(az:l.length<=1000):
 ad aa 257 [.slice a l.length c] [so ⟨a,c,l⟩] aaP:=by
 refine ku Tryz.func257 rfl rfl rfl ?_;refine vu ?_;intro F D;have j:l.length=m.length:=hp.length_eq;refine RG ?_;refine cj rfl (b4 rfl (aCk a c l m hp aj bo az) bI) ?_;refine as1 ?_;refine hA ?_;refine hA ?_;rw[j];refine lh (ii (e:=36) (aT:=1)) ?_;refine afu ?_;refine gO (bx:=Nat×Option Addr×Nat) (λx=>x.1<=m.length) (λx=>[(10,af x.1),(9,af m.length),(8,.slice a m.length c),(3,.slice x.2.1 x.1 x.2.2)]) (λx=>own (.slice x.2.1 x.1 x.2.2) 36 1 x.1 ((m.take x.1).map λt=>bu t.id)::so ⟨a,c,m⟩::D) (λx=>m.length -x.1) (0,none,0) (fc _) PN (au) ?_;rintro⟨i,aE,aK⟩ al;replace al:i<=m.length:=al;dsimp only;refine EQ ?_;refine mR rfl (λW=>?_) (λW=>?_)
 . replace W:=bR W
   obtain⟨t,R⟩:∃t,m[i]?=some t:=⟨_,cq ae⟩;refine Rx ?_;refine aA rfl (fA rfl rfl (show i<m.length by omega)) ?_;refine QV ?_;rintro _ _ ⟨aO,rfl,rfl⟩;refine aeR ?_;refine JW ?_;refine aA rfl (o_load rfl (l:=te t) (v:=bu t.id) rfl) ?_;refine ac9 ?_;rintro _ _ ⟨g,rfl,rfl⟩;refine JZ ?_;rintro _ _ ⟨d,f,rfl,rfl⟩;refine qP ?_;refine ib ?_;refine J8 ?_;refine aA rfl (fo ((i+1:Nat):Int) eV rfl rfl) ?_;refine EJ ?_;refine fm (i+1,d,f) (show i+1<=m.length by omega) (show m.length -(i+1)<m.length -i by omega) PN (by dsimp only;rw[aCb R];exact(au))
 . replace W:=bR W
   refine Kj ?_;refine KG ?_;refine jm (.inl rfl) rfl rfl aaQ (⟨aE,aK,by rw[show i=m.length by omega],rfl⟩) (by rw[show i=m.length by omega,l9];exact(au))
def alj(l s i:Nat)(t:bE)(b:Bool):Prop:=
 (b=true/\l<4/\s<8/\(∃x,z[8*l+s]?=some x/\x.l[i]?=some t)/\t.id=id)\/(b=false/\l=0/\s=0/\i=0/\t=⟨0,0,0⟩/\∀t,t∈z.flatMap (·.l)->t.id≠id)
theorem alk(hlen:z.length=32)(az:∀x∈z,x.l.length<=1000):
 ad aa 367 JQ zj (λu H=>(∃(l s i:Nat) (t:bE) (b:Bool),u=.tuple #[af l,af s,af i,.agg (te t).toArray,.bool b]/\alj z id l s i t b)/\H=zj):=
 (aCh p now seq z id hlen az).mono fun u H ⟨h, cc⟩ => ⟨by
  rcases h with⟨l,s,i,x,t,h1,h2,aH,bm,dk,g0⟩|⟨h1,h2⟩
  . exact⟨l,s,i,t,true,g0,.inl ⟨rfl,h1,h2,⟨x,aH,bm⟩,dk⟩⟩
  . exact⟨0,0,0,⟨0,0,0⟩,false,h2,.inr ⟨rfl,rfl,rfl,rfl,rfl,h1⟩⟩,cc⟩
abbrev nZ:Prop:=iC (λt=>hh w.now t.due) w.T (z.map (·.l))
def nZ.hlen{w:gd}{z:List kL}(h:nZ w z):z.length=32:=by simpa using h.1
def nZ.az{w:gd}{z:List kL}(h:nZ w z)(O:j5 w):∀x∈z,x.l.length<=1000:=λx ag=>by
 have:=iC.short h (EU (f:=(·.l)) ag);have:=O.len;omega
def nZ.flat{w:gd}{z:List kL}(h:nZ w z):(z.flatMap (·.l)).Perm w.T:=by
 rw[List.flatMap_def];exact iC.all h (λt _=>T2 _ _)
theorem nZ.found{w:gd}{z:List kL}(h:nZ w z)(O:j5 w){id:Int}{l s i:Nat}{t:bE}{b:Bool}(a8:alj z id l s i t b):
 (b=true/\w.get id=some t/\hh w.now t.due=8*l+s/\l<4/\s<8)\/(b=false/\w.get id=none/\l=0/\s=0/\t=⟨0,0,0⟩):=by
 rcases a8 with⟨az,h1,h2,⟨x,aH,bm⟩,dk⟩|⟨az,h1,h2,aH,bm,dk⟩
 . obtain⟨J,hp⟩:=iC.jK h (j:=8*l+s) (l:=x.l) (by rw[fe,aH];rfl)
   have bb:=oO.1 (hp.subset (h0 bm));exact .inl ⟨az,get_some O bb.1 dk,by simpa using bb.2,h1,h2⟩
 . exact .inr ⟨az,get_none.2 λt R=>dk t (h.flat.symm.subset R),h1,h2,bm⟩
theorem aCm(O:j5 w):
 ad aa 367 JQ [fO p w] (λu H=>(∃(l s i:Nat) (t:bE) (b:Bool),u=.tuple #[af l,af s,af i,.agg (te t).toArray,.bool b]/\((b=true/\w.get id=some t/\hh w.now t.due=8*l+s/\l<4/\s<8)\/(b=false/\w.get id=none/\l=0/\s=0/\t=⟨0,0,0⟩)))/\H=[fO p w]):=
 Yn λz K=>(alk p w.now w.seq z id (nZ.hlen K) (nZ.az K O)).aV λu H ⟨⟨l,s,i,t,b,d7,a8⟩,cc⟩=>⟨_,⟨⟨l,s,i,t,b,d7,nZ.found K O a8⟩,rfl⟩,by subst cc;exact Yo z K kH⟩
def anq:ad aa 113 [] [] (λu H=>∃p,u=ptr p 0/\H=[fO p sf]):=by
 refine ku Tryz.func113 rfl rfl rfl ?_;refine OE ?_;intro F D;refine aA rfl (kX (xs:=[]) rfl rfl) ?_;refine iQ rfl (Br rfl) ?_;rintro _ _ ⟨p,rfl,rfl⟩;refine Bs ?_;refine jm (.inl rfl) rfl rfl [fO p sf] (AC) (xm (List.replicate 32 ⟨none,0,[]⟩) ⟨rfl,λj J=>by rw[ahC,je,Tq,bg J];exact .refl _⟩ (λh s=>Sat.swap (by rw[om,ahC];exact apY 32 (λD=>ii) h s)))
def amO:ad aa 309 [ptr p 0] [fO p w] (aF (af w.now) [fO p w]):=by
 refine ku Tryz.func309 rfl rfl rfl ?_;refine Kr ?_;intro F D z K;replace K:nZ w z:=K;have hlen:=K.hlen;refine agw ?_;refine aA rfl (o_load rfl (l:=oq w.now w.seq z) (v:=af w.now) rfl) ?_;refine Kd ?_;refine oL ?_;exact arI
def aCn(t:bE)(b:Nat)(hk:k<=100000):ad aa 408 [af l,af s,af i,.agg (te t).toArray,ptr b 0] [ab b 3 [af k]] (aF iu [ab b 3 [af ((k+1:Nat):Int)]]):=by
 refine ku Tryz.func408 rfl rfl rfl ?_;refine vu ?_;intro F D;refine agh ?_;intro V;refine aA rfl (fo ((k+1:Nat):Int) eV rfl rfl) ?_;refine agc ?_;refine jm (.inl rfl) rfl rfl _ (dD) (au)
def aCo(O:j5 w):ad aa 368 [ptr p 0] [fO p w] (aF (af w.T.length) [fO p w]):=by
 refine ku Tryz.func368 rfl rfl rfl ?_;intro F D;simp only[wE,D5,gz,mO,kR,Nat.reduceAdd,cn,ci];refine kB ek ?_;rintro z K;replace K:nZ w z:=K;have hlen:=K.hlen;have az:=K.az O;simp only[cn,ci];have T:=K.flat.length_eq;have ao:=O.len;refine hA ?_;refine jb ?_;refine aA rfl (mj rfl) ?_;refine ib ?_;refine hB ?_;refine hA ?_;refine jb ?_;refine iQ rfl (tX) ?_;rintro _ _ ⟨Z,rfl,rfl⟩
 first|refine iF (mi rfl rfl rfl rfl) ?_|refine iF (tg rfl rfl rfl (by first|assumption|omega|simp)) ?_
 refine ib ?_;refine hB ?_;refine hA ?_;refine jb ?_;refine aA rfl (j8 rfl) ?_;refine aA rfl (KN (xs:=[]) (U:=[.tmp 3]) rfl rfl) ?_;refine cj rfl (b4 rfl (T0 (g:=408) [ptr Z 0] (λk=>ab Z 3 [af k]) (λ_=>true) p w.now w.seq z hlen az (λl s i x t aw aj ag R g3=>aCn l s i _ t Z (by have:=(dd.1 (LW ag R)).1;omega))) bI) ?_;rintro _ D ⟨_,⟨rfl,k,hk,rfl⟩,rfl⟩
 try simp only[cn,ci]
 obtain rfl:k=w.T.length:=by
  rcases hk with⟨rfl,_⟩|⟨_,_,_,_,_,_,_,_,_,_,_,h⟩
  . rw[Q3 hlen,T]
  . cases h
 refine ib ?_;refine hB ?_;refine hA ?_;refine jb ?_
 first|refine aA rfl (o_load rfl rfl) ?_|refine aA rfl (gy rfl rfl) ?_|refine aA rfl (vc rfl) ?_
 refine aA rfl (mj rfl) ?_;refine ib ?_;refine hB ?_;refine oL ?_;refine jm (.inl rfl) rfl rfl [fO p w] (⟨rfl,rfl⟩) (xm z K (au))
def F0:aq:=df (bx:=Option Addr×Nat) (λ_=>True) (λx=>[ab b 282 [.slice x.1 k x.2],own (.slice x.1 k x.2) 336 3 k (((z.flatMap (·.l)).take k).flatMap te)])
def aCp{m:List bE}{i:Nat}{t:bE}(h:m[i]?=some t):(m.take (i+1)).flatMap te=(m.take i).flatMap te++te t:=by
 obtain⟨al,e⟩:=dd.1 h;rw[ns al,e,o5];simp
def aCq(t:bE)(b:Nat)(hk:k<=100000)(R:(z.flatMap (·.l))[k]?=some t):ad aa 256 [af l,af s,af i,.agg (te t).toArray,ptr b 0] [F0 z b k] (aF iu [F0 z b (k+1)]):=by
 refine ku Tryz.func256 rfl rfl rfl ?_;refine vu ?_;intro F D;refine kB (fR:=λ_=>True) ek ?_;rintro⟨a,c⟩ -;refine gb ?_;refine agh ?_;intro V;refine aA rfl (zC rfl (M:=te t) rfl rfl) ?_;refine ac9 ?_;rintro _ _ ⟨E,rfl,rfl⟩;refine JZ ?_;rintro _ _ ⟨d,e,rfl,rfl⟩;rw[<-aCp R];refine agc ?_;refine jm (.inl rfl) rfl rfl [F0 z b (k+1)] (dD) (cA (d,e) trivial (au))
end
end Go.Proofs.YtnnhpnccfnghdaaGreat.L
namespace Go.Proofs.YtnnhpnccfnghdaaGreat.L
open Go.L Go.L.dB
attribute[local irreducible] G cz GE cT GT bU c6 cY dc Exit.then Exit.inBlock
section
variable(n self:Nat)(a:Option Addr)(c:Nat)(l:List Nat)
abbrev qb:List Value:=l.map λw=>af ((w:Nat):Int)
abbrev jL:aq:=own (.slice a l.length c) 3 1 l.length (qb l)
def arj:∀x∈qb l,x.oneCell'=true:=λx ag=>by
 obtain⟨t,_,h⟩:=jS.1 ag;subst h;rfl
def Y0{a:Option Addr}{c n:Nat}{m:List Nat}{t:Nat}(h:m.length=n):own (.slice a (n+1) c) 3 1 (n+1) (qb m++[af (t:Int)])=jL a c (m++[t]):=by subst h;simp only[jL,qb,o6,ep];rfl
def ark{b c i m:Nat}{l:List Nat}{D:List aq}(al:i<l.length)(U:List Value):∀F,Sat (own (.slice (some ⟨b,0,none⟩) l.length c) 3 1 l.length (((qb l).take (i*1)++(qb l).drop ((i+1)*1)++(qb l).drop ((l.length -1)*1)).take ((l.length -1)*1)++iS U m)::D) F->Sat (jL j3 c (l.eraseIdx i)::D) F:=λF s=>by
 have h1:=HN (k:=l.length -1) ae F s;have aB:((qb l).take (i*1)++(qb l).drop ((i+1)*1)).length=(l.length -1)*1:=hW;rw[D7 aB,D7 aB,rm,rm,<-Y1]at h1;have bB:l.length -1=(l.eraseIdx i).length:=OH;have c9:(qb l).eraseIdx i=qb (l.eraseIdx i):=by simp[qb,Y1,Ia,List.map_drop]
 rw[c9,bB]at h1;exact h1
def Xn{l:List Nat}{i y:Nat}(h:l[i]?=some y):(qb l)[i*1]?=some (af (y:Int)):=by simp[qb,h]
def arl{l:List Nat}{e y:Nat}(h:l[e%l.length]?=some y):ob l.length e l=[y]++ob (l.length -1) (e/l.length) (l.eraseIdx (e%l.length)):=by
 cases l with
 |nil=>simp at h
 |cons x t=>simp only[iY]at h⊢;rw[ob,h];rfl
def OI(i self:Nat):nB (i+1) self=if i=self then nB i self else nB i self++[i]:=by
 unfold nB;rw[List.range_succ,yY];by_cases h:i=self<;>simp[h]
def Y2(h:self<n):(nB n self).length=n -1:=by
 suffices F:∀n,(nB n self).length=if self<n then n -1 else n by rw[F,bg h]
 intro n;induction n with
 |zero=>rfl
 |succ n L=>rw[OI];split<;>simp[L]<;>(repeat' split)<;>omega
theorem arm(i:Nat)(l:List Nat)(al:i<l.length)(az:l.length<=1000):
 ad aa 190 [.slice a l.length c,af i,af ((i+1:Nat):Int)] [jL a c l] (aF (.slice a (l.length -1) c) [jL a c (l.eraseIdx i)]):=by
 refine ax Tryz.func190 λF D=>?_;refine yt (A3 (show 0<l.length by omega)) ?_;rintro⟨b,rfl,d⟩;replace d:l.length<=c:=d;refine dx ?_;refine aA rfl (XN rfl rfl rfl rfl ae ae d) ?_;refine ch ?_;refine aA rfl (fM (c:=false) hW (nb rfl rfl)) ?_;refine fx ?_;refine ct [] [6,201,1] [] ?_;refine a7 ?_;refine go_v rfl .none rfl (uE rfl rfl ae) ?_;refine a7 ?_;refine go_v rfl .none rfl (DW rfl rfl ae) ?_;refine go_n rfl .none rfl (XR (k:=l.length) (j:=i+1) (aT:=1) rfl rfl ae ae d (arj l)) ?_;rintro _ _ ⟨rfl,rfl⟩;rw[show i+(l.length -(i+1))=l.length -1 by omega];refine cU ?_;refine aA rfl (XO rfl rfl rfl ae ae) ?_;refine A4 (NV (k:=l.length -1) (m:=l.length -(l.length -1)) (show l.length -1+(l.length -(l.length -1))=l.length by omega) rfl ae Y3) ?_;rintro _ _ ⟨rfl,rfl⟩;refine cU ?_;exact aW dD (ark al _)
theorem arn(aS:n<=8)(aj:self<n):
 ad aa 189 [af n,af self] [] (λu H=>∃a c,u=.slice a (n -1) c/\H=[jL a c (nB n self)]):=by
 refine ax Tryz.func189 λF D=>?_;refine fZ ?_;refine cH ?_;refine bF ?_;refine cH ?_;refine bz ?_;refine cH ?_;refine ch ?_;refine cH ?_;refine bH ?_;refine lh (ii (e:=3) (aT:=1)) ?_;refine bh ?_;refine gO (bx:=Nat×Option Addr×Nat) (λe=>e.1<=n) (λe=>[(23,af e.1),(5,.slice e.2.1 (nB e.1 self).length e.2.2),(22,af n),(1,af self)]) (λe=>jL e.2.1 e.2.2 (nB e.1 self)::D) (λe=>n -e.1) (0,none,0) (fc _) de (au) ?_;rintro⟨i,a,c⟩ al;replace al:i<=n:=al;have j:(nB i self).length<=8:=mW (qG _ _) y1;dsimp only;refine bh ?_;refine b6 (λW=>?_) (λW=>?_)
 . refine eP ?_
   refine a7 ?_;refine b6 (λI=>?_) (λI=>?_)
   . have aJ:nB (i+1) self=nB i self++[i]:=by rw[OI,a6 (by have:=I;omega)]
     refine bX ?_;refine wn λf=>?_;refine gp λb d=>?_;refine bH ?_;refine fm (i+1,b,d) (show i+1<=n by omega) (show n -(i+1)<n -i by omega) (bd.cons rfl (bd.cons (by dsimp only;rw[aJ,ep];rfl) de)) (by dsimp only;rw[aJ,<-Y0 rfl];exact(au))
   . have aJ:nB (i+1) self=nB i self:=by rw[OI,bg (by have:=I;omega)]
     refine ch ?_;refine fm (i+1,a,c) (show i+1<=n by omega) (show n -(i+1)<n -i by omega) (bd.cons rfl (bd.cons (by dsimp only;rw[aJ];rfl) de)) (by dsimp only;rw[aJ];exact(au))
 . refine fx ?_
   exact aW ⟨a,c,by rw[show i=n by omega,Y2 n self aj],rfl⟩ (by rw[show i=n by omega];exact(au))
theorem apc(d n self:Nat)(aQ:d<18446744073709551616)(aS:n<=8)(aj:self<n):
 ad aa 133 [bu d,af n,af self] [] (λu H=>∃a c,u=.slice a (order d n self).length c/\H=[jL a c (order d n self)]):=by
 refine ax Tryz.func133 λF D=>?_;refine cr ?_;refine bt (arn n self aS aj) ?_;rintro _ _ ⟨a,c,rfl,rfl⟩;refine er ?_;refine bF ?_;have hlen:=Y2 n self aj;rw[<-hlen];refine lh (ii (e:=3) (aT:=1)) ?_;refine bh ?_;refine gO (bx:=(List Nat×Nat×List Nat)×(Option Addr×Nat)×(Option Addr×Nat)) (λe=>e.1.1.length+e.1.2.2.length<=8/\e.1.2.1<18446744073709551616/\order d n self=e.1.2.2++ob e.1.1.length e.1.2.1 e.1.1) (λe=>[(7,.slice e.2.1.1 e.1.1.length e.2.1.2),(8,.slice e.2.2.1 e.1.2.2.length e.2.2.2),(0,bu e.1.2.1)]) (λe=>jL e.2.1.1 e.2.1.2 e.1.1::jL e.2.2.1 e.2.2.2 e.1.2.2::D) (λe=>e.1.1.length) ((nB n self,d,[]),(a,c),(none,0)) (⟨by show(nB n self).length+0<=8;omega,aQ,by rw[ci,order,<-hlen]⟩) de (au) ?_;rintro⟨⟨l,e,out⟩,⟨a,c⟩,⟨cl,bk⟩⟩ ⟨f,Y,b⟩;replace f:l.length+out.length<=8:=f;replace Y:e<18446744073709551616:=Y;replace b:order d n self=out++ob l.length e l:=b;dsimp only;refine bH ?_;refine b6 (λW=>?_) (λW=>?_)
 . have bb:e%l.length<l.length:=yP _ ae
   obtain⟨y,ah⟩:∃y,l[e%l.length]?=some y:=⟨_,cq bb⟩;refine ch ?_;refine aA rfl (pU ((l.length:Nat):Int) (tq ae) rfl) ?_;refine ch ?_;refine aA rfl (ts ((e%l.length:Nat):Int) (Bg _ _) rfl rfl ae) ?_;refine aA rfl (pU ((e%l.length:Nat):Int) (jv ae) rfl) ?_;refine ch ?_;refine aA rfl (GX ((e/l.length:Nat):Int) (by rw[<-Int.ofNat_tdiv];exact tq (by have:=Nat.div_le_self e l.length;generalize e/l.length=E at this⊢;omega)) rfl rfl ae) ?_;refine bH ?_;refine aA rfl (fA rfl rfl bb) ?_;refine aA rfl (gy rfl (Xn ah)) ?_;refine wn λj=>?_;refine gp λg i=>?_;refine ch ?_;refine aA rfl (fo ((e%l.length+1:Nat):Int) eV rfl rfl) ?_;refine cj rfl (b4 rfl (arm a c (e%l.length) l bb ae) bI) ?_;refine gP ?_;refine pT ?_;refine fm ((l.eraseIdx (e%l.length),e/l.length,out++[y]),(a,c),(g,i)) ⟨by show(l.eraseIdx _).length+(out++[y]).length<=8;rw[Iq,bg bb,ep];simp;omega,Y4 (Nat.div_le_self _ _) Y,by show order d n self=out++[y]++ob (l.eraseIdx (e%l.length)).length _ _;rw[b,Iq,bg bb,jI];exact congrArg _ (arl ah)⟩ (by show(l.eraseIdx _).length<l.length;rw[Iq,bg bb];omega) (bd.cons (by dsimp only;rw[Iq,bg bb];rfl) (bd.cons A2 de)) (by dsimp only;rw[<-Y0 rfl];exact(au))
 . refine fx ?_
   exact aW (H:=[jL cl bk out]) ⟨cl,bk,by rw[b,show l.length=0 by omega];simp[ob],by rw[b,show l.length=0 by omega];simp[ob]⟩
end
end Go.Proofs.YtnnhpnccfnghdaaGreat.L
namespace Go.Proofs.YtnnhpnccfnghdaaGreat.L
open Go.L
attribute[local irreducible] G cz GE cT GT bU c6 cY dc Exit.then Exit.inBlock
section
variable(q E:Nat)(a:Option Addr)(di:List Int)(c:Nat)(l:List Int)
abbrev iT:List Value:=l.map bu
abbrev ul:Value:=.slice a l.length c
abbrev fH:aq:=own (ul a c l) 36 1 l.length (iT l)
def gj(M:List Int):aq:=df (bx:=Option Addr×Nat×Option Addr×Nat) (λ_=>True) (λe=>[ab q 164 [af E,ul e.1 e.2.1 di,ul e.2.2.1 e.2.2.2 M],fH e.1 e.2.1 di,fH e.2.2.1 e.2.2.2 M])
def KU{a:Option Addr}{c n:Nat}{m:List Int}{t:Int}(h:m.length=n):own (.slice a (n+1) c) 36 1 (n+1) (iT m++[bu t])=fH a c (m++[t]):=by subst h;simp only[fH,ul,iT,o6,ep];rfl
def asc(r:Int)(aD:-9223372036854775808<=r/\r<=9223372036854775807):ad aa 114 [af r] [] (λu H=>∃q,u=ptr q 0/\H=[gj q (min (max r 0) 64).toNat [] []]):=by
 refine ax Tryz.func114 λF D=>?_;refine bH ?_;refine aA rfl (ti (max r 0) ae rfl rfl) ?_;refine aA rfl (uw (min (max r 0) 64) ae rfl rfl) ?_;refine aG ?_;refine wn λbW=>?_;refine bz ?_;exact aW ⟨bW,rfl,rfl⟩ (cA (none,0,none,0) trivial (by rw[show(((min (max r 0) 64).toNat:Nat):Int)=min (max r 0) 64 by omega];exact λh s=>Sat.tail (λh s=>ii h (ii h s)) s))
def asT(aD:E<=64)(di M:List Int)(x:Int):ad aa 291 [ptr q 0,bu x] EE (aF (af (if E<=di.length then 4 else 0)) [gj q E (if E<=di.length then di else di++[x]) M]):=by
 refine ax Tryz.func291 λF D=>?_;refine BX ?_;intro ck c1 cl bk;refine ch ?_;refine ct [] [10] [ab q 164 [af E,ul ck c1 di,ul cl bk M]] ?_;refine dx ?_;refine b6 (λW=>?_) (λW=>?_)
 . have a2:E<=di.length:=by omega
   refine bH ?_;exact aW (H:=[gj q E di M]) ⟨by rw[bg a2],by rw[bg a2]⟩ (cA (ck,c1,cl,bk) trivial (au))
 . have a2:¬E<=di.length:=by omega
   refine cU ?_;refine wn λc=>?_;refine gp λa22 b=>?_;refine dx ?_;exact aW (H:=[gj q E (di++[x]) M]) ⟨by rw[a6 a2],by rw[a6 a2]⟩ (cA (a22,b,cl,bk) trivial (by dsimp only;rw[<-KU rfl,show ul a22 b (di++[x])=.slice a22 (di.length+1) b from by simp[ul]];exact(au)))
def avc:ad aa 237 [ptr q 0] [gj q E di []] (aF (.tuple #[bu 0,.bool false]) [gj q E di []]):=by
 refine ax Tryz.func237 λF D=>?_;refine BX ?_;intro ck c1 cl bk;refine gi ?_;refine aA rfl NA ?_;refine dx ?_;exact aW ⟨rfl,rfl⟩ (cA (ck,c1,cl,bk) trivial (au))
def avd(x:Int)(aw:l.length<=1099511627776):ad aa 237 [ptr q 0] [gj q E di (l++[x])] (aF (.tuple #[bu x,.bool true]) [gj q E di l]):=by
 refine ax Tryz.func237 λF D=>?_;refine BX ?_;intro ck c1 cl bk;refine yt (λh s=>A3 fW h (hG.to (A:=fH cl bk (l++[x])) ek s)) ?_;rintro⟨b,rfl,d⟩;have aS:(l++[x]).length=l.length+1:=fW;rw[aS]at d;have ag:(iT (l++[x]))[l.length*1]?=some (bu x):=by simp[iT]
 rw[show ul (some ⟨b,0,none⟩) bk (l++[x])=.slice (some ⟨b,0,none⟩) (l.length+1) bk by rw[ul,aS],show fH (some ⟨b,0,none⟩) bk (l++[x])=own (.slice (some ⟨b,0,none⟩) (l.length+1) bk) 36 1 (l.length+1) (iT (l++[x])) by rw[fH,ul,aS]];refine gi ?_;refine cH ?_;refine dx ?_;refine aA rfl (ks ((l.length:Nat):Int) eV rfl rfl) ?_;refine aA rfl (fA rfl rfl ae) ?_;refine aA rfl (gy rfl ag) ?_;refine cO ?_;refine aA rfl (ks ((l.length:Nat):Int) eV rfl rfl) ?_;refine aA rfl (uE rfl rfl ae) ?_;refine fZ ?_;exact aW ⟨rfl,rfl⟩ (cA (ck,c1,some ⟨b,0,none⟩,bk) trivial (λh s=>Sat.tail (λg t=>Sat.tail (λg t=>by have:=HN (b:=b) (C:=bk) (e:=36) (aT:=1) (xs:=iT (l++[x])) (D:=D) (k:=l.length) (il _) g t;rw[show(iT (l++[x])).take (l.length*1)=iT l by simp[iT]]at this;exact this) t) ((au) h s)))
end
end Go.Proofs.YtnnhpnccfnghdaaGreat.L
namespace Go.L
abbrev lj:=List UInt8
abbrev oA(l:lj):Value:=.string ⟨l.toArray⟩
def jf(r:Nat)(m:List (lj×Value)):aq:=λh=>∃es b,h r=some (.map es b)/\es.toList.map (λe=>(e.key,e.val))=m.map (λp=>(oA p.1,p.2))
def uv{z:Type}(m:List (lj×z))(k:lj):Option z:=
 match m with
 |[]=>none
 |(j,v)::r=>if k=j then some v else uv r k
def pq{z:Type}(m:List (lj×z))(k:lj)(v:z):List (lj×z):=
 match m with
 |[]=>[(k,v)]
 |(j,u)::r=>if k=j then(k,v)::r else(j,u)::pq r k v
def sA{z:Type}(m:List (lj×z))(k:lj):List (lj×z):=
 match m with
 |[]=>[]
 |(j,u)::r=>if k=j then r else(j,u)::sA r k
def mm{z:Type}(m:List (Int×z))(k:Int):List (Int×z):=
 match m with
 |[]=>[]
 |(j,u)::r=>if k=j then r else(j,u)::mm r k
class uu(r:Nat)(I:List aq)(m:outParam (List (lj×Value)))(u:outParam (List (lj×Value)->List aq)):Prop where
 get:∀{h:dR},Sat I h->∃es b,h r=some (.map es b)/\es.toList.map (λe=>(e.key,e.val))=m.map (λp=>(oA p.1,p.2))
 set:∀{h:dR} (q:List (lj×Value)) (es:Array MapEntry) (b:Nat),Sat I h->es.toList.map (λe=>(e.key,e.val))=q.map (λp=>(oA p.1,p.2))->Sat (u q) (iR h r (.map es b))
instance uu.head{r:Nat}{m:List yf}{D:List aq}:uu r (jf r m::D) m (λq=>jf r q::D)where
 get:=fun⟨_,_,_,e,⟨es,c,h1,h2⟩,_⟩=>⟨es,c,e▸join_some h1,h2⟩
 set:=λq es b ⟨h1,h2,d,e,⟨a,ej,cI,_⟩,aD⟩ Y=>by
  subst e;obtain⟨aB,d1⟩:=si (S:=.map es b) cI d;exact⟨_,h2,d1,aB,⟨es,b,by simp[iR],Y⟩,aD⟩
instance uu.tail{r:Nat}{A:aq}{m:List yf}{D:List aq}{u:List yf->List aq}[i:uu r D m u]:uu r (A::D) m (λq=>A::u q)where
 get:=λs=>i.get uN
 set:=λq es b ⟨h1,h2,d,e,aP,aD⟩ Y=>by
  subst e;obtain⟨a,ej,cI,_⟩:=i.get aD;obtain⟨aB,d1⟩:=si (S:=.map es b) cI d.symm;refine⟨h1,_,d1.symm,?_,aP,i.set q es b aD Y⟩;rw[join_comm d,aB,join_comm d1]
class CS(P:Program)(t:TypeId)(E:outParam Value):Prop where
 out:∃k e i,P.underlying t=some (.map k e)/\P.underlying k=some .string/\P.info? e=some i/\i.zero=some E
section
variable{P:Program}{F w:World}{n:Nat}{ak:eA}{I:List aq}{bC:TypeId}
section
variable(a b:lj){t D:TypeId}{x y:Operand}{E:Value}{r:Nat}{k:lj}{m:List (lj×Value)}{u:List (lj×Value)->List aq}
def D8{k:TypeId}(h:P.underlying k=some .string)(b:Bool)(d:Nat)(x:ByteArray)(w:World):(Instr.checkKey b (d+1) k (.string x)).run P w=.ok () w:=by
 simp[Instr.checkKey,gC h]
def Zc:((⟨a.toArray⟩:ByteArray)==⟨b.toArray⟩)=decide (a=b):=by
 show(a.toArray==b.toArray)=_;rw[pb,beq_iff_eq,ln];exact⟨λh=>by simpa using h,λh=>by rw[h]⟩
def aru:Instr.sameNow .string (oA a) (oA b)=some (decide (a=b)):=by
 simp only[Instr.sameNow,Zc]
def Iv(x:lj):∀(es:List MapEntry) (m:List (lj×Value)) (i:Nat),es.map (λe=>(e.key,e.val))=m.map D9->
 ∃
  o,Instr.findNow .string (oA x) es i=some o/\o.map (·.2)=uv m x/\(∀j v,o=some (j,v)->i<=j/\∃e,es[j -i]?=some e/\e.key=oA x/\
   (∀v',(es.modify (j -i) λe=>{e with key:=oA x,val:=v'}).map Ir=(pq m x v').map D9)/\
   (es.eraseIdx (j -i)).map Ir=(sA m x).map D9)/\
  (o=none->pq m x=(λv'=>m++[(x,v')])/\sA m x=m)
 |
  [],m,i,h=>by
  have:m=[]:=OL;subst this;exact⟨none,rfl,rfl,by simp,λ_=>dD⟩
 |
  e::es,m,i,h=>by
  obtain⟨⟨j,u⟩,q,rfl⟩:∃p q,m=p::q:=by cases m with
   |nil=>simp at h
   |cons p q=>exact⟨p,q,rfl⟩
  simp only[gz,List.cons.injEq,Prod.mk.injEq]at h;obtain⟨⟨h1,h2⟩,aH⟩:=h;have aj:Instr.sameNow .string (oA x) e.key=some (decide (x=j)):=by rw[h1];exact aru x j
  by_cases ag:x=j
  . subst ag
    rw[lM rfl]at aj;refine⟨some (i,e.val),by simp[Instr.findNow,aj],by simp[uv,h2],?_,by simp⟩;intro a v Y;simp only[Option.some.injEq,Prod.mk.injEq]at Y;obtain⟨rfl,rfl⟩:=Y;exact⟨eh _,e,by simp,h1,λv'=>by simp[pq,aH],by simp[sA,aH]⟩
  . rw[mJ ag]at aj
    obtain⟨o,W,cE,d8,f9⟩:=Iv x es q (i+1) aH;refine⟨o,by simp[Instr.findNow,aj,W],by simp[uv,ag,cE],?_,?_⟩
    . intro a v Y
      obtain⟨cI,H,cd,ia,eB,f⟩:=d8 a v Y;have aB:a -i=(a -(i+1))+1:=ae;refine⟨by omega,H,by rw[aB];simpa using cd,ia,λv'=>?_,?_⟩
      . rw[aB];simp[pq,ag,h1,h2,eB v']
      . rw[aB];simp[sA,ag,h1,h2,f]
    . intro aJ
      obtain⟨Z,G⟩:=f9 aJ;exact⟨by funext v';simp[pq,ag,Z],by simp[sA,ag,G]⟩
theorem al3[i:CS P t E][j:uu r I m u](h:cb ak x=some we)(ah:cb ak y=some (oA k)):
 bU P F n (.lookup t x y false) bC ak I ((uv m k).getD E):=λa w d pos N g aj s=>by
 obtain⟨D,M,z,h1,h2,aH,bm⟩:=i.out;obtain⟨es,b,W,cE⟩:=j.get s.eI;have f:w.heap[r]?=_:=W;obtain⟨o,cI,cd,_,_⟩:=Iv k es.toList m 0 cE;simp only[execOp,aj.eval h,aj.eval ah];have aX:=run_getObj_map (P:=P) w r es b f;simp[Instr.lookup,gC h1,aX,D8 h2,Instr.findKey,gC h2,cI];cases o with
 |none=>simp[wc aH bm];simp at cd;rw[<-cd];rfl
 |some p=>simp;simp at cd;rw[<-cd];rfl
def OM{es:Array MapEntry}{b:Nat}(g:w.heap[r]?=some (.map es b))(C:Obj):(setObj r C).run P w=.ok () {w with heap:=w.heap.setIfInBounds r C}:=by
 simp[setObj,Sem.run,g]
theorem arv{q:Operand}{E v:Value}{r:Nat}{k:lj}{m:List yf}{u:List yf->List aq}[i:CS P t E][j:uu r I m u](h:cb ak x=some we)(ah:cb ak y=some (oA k))(V:cb ak q=some v):
 c6 P F n (.mapUpdate t x y q) bC ak I (u (pq m k v)):=λa w d pos N g aj s=>by
 obtain⟨D,M,z,h1,h2,aH,bm⟩:=i.out;obtain⟨es,b,W,cE⟩:=j.get s.eI;have f:w.heap[r]?=_:=W;obtain⟨o,cI,cd,ia,eB⟩:=Iv k es.toList m 0 cE;have aX:=run_getObj_map (P:=P) w r es b f;have B:=OM (P:=P) f;have fin:∀(l:Array MapEntry) (c:Nat),l.toList.map (λe=>(e.key,e.val))=(pq m k v).map D9->db F (u (pq m k v)) Is:=λl c Y=>
  ⟨s.os,s.tape,s.output,by have:=s.size;simpa using this,by rw[Dt _ W];exact j.set _ _ _ s.eI Y⟩
 simp only[execOp,aj.eval h,aj.eval ah,aj.eval V];cases o with
 |
  none=>
  refine⟨_,?_,fin (es.push {key:=oA k,val:=v,born:=b}) (b+1) (by rw[(eB rfl).1];simp[cE])⟩;simp[Instr.mapUpdate,gC h1,aX,D8 h2,Instr.findKey,gC h2,cI,B]
 |
  some p=>
  obtain⟨O,v0⟩:=p;obtain⟨_,e,aB,aU,bB,_⟩:=ia O v0 rfl;simp only[Dp]at aB bB;refine⟨_,?_,fin (es.modify O λe=>{e with key:=oA k,val:=v}) b Y6⟩;have J:es[O]?=some e:=by simpa using aB
  simp[Instr.mapUpdate,gC h1,aX,D8 h2,Instr.findKey,gC h2,cI,B,J,aU,Instr.keyThatStays,Instr.sameBits,Zc]
theorem arw[i:CS P t E][j:uu r I m u](h:cb ak x=some we)(ah:cb ak y=some (oA k)):
 cY P F n Zd bC ak I (λv H=>v=.tuple #[]/\H=u (sA m k)):=λa w d pos N g aj s=>by
 obtain⟨q,M,z,h1,h2,aH,bm⟩:=i.out;obtain⟨es,b,W,cE⟩:=j.get s.eI;have f:w.heap[r]?=_:=W;obtain⟨o,cI,cd,ia,eB⟩:=Iv k es.toList m 0 cE;have aX:=run_getObj_map (P:=P) w r es b f;have B:=OM (P:=P) f;have fin:∀(l:Array MapEntry) (c:Nat),l.toList.map (λe=>(e.key,e.val))=(sA m k).map D9->db F (u (sA m k)) Is:=λl c Y=>
  ⟨s.os,s.tape,s.output,by have:=s.size;simpa using this,by rw[Dt _ W];exact j.set _ _ _ s.eI Y⟩
 simp only[execOp,resolve,oP,gz,mO,aj.eval h,aj.eval ah];cases o with
 |
  none=>
  refine⟨_,_,_,?_,dD,fin es b (by rw[(eB rfl).2];exact cE)⟩;simp[invoke,builtin,Builtin.delete_,gC h1,aX,D8 h2,Instr.findKey,gC h2,cI,B]
 |
  some p=>
  obtain⟨O,v0⟩:=p;obtain⟨_,e,aB,aU,_,c9⟩:=ia O v0 rfl;simp only[Dp]at aB c9;refine⟨_,_,_,?_,dD,fin (es.eraseIdxIfInBounds O) b (by simpa[Array.eraseIdxIfInBounds,show O<es.size by simpa using(dd.1 aB).1]using c9)⟩;simp[invoke,builtin,Builtin.delete_,gC h1,aX,D8 h2,Instr.findKey,gC h2,cI,B]
def Ze(d6:IntKind)(x:Int):∀(es:List MapEntry) (m:List (Int×Value)) (i:Nat),es.map (λe=>(e.key,e.val))=m.map Bu->
 ∃o,Instr.findNow (.int d6) (.int d6 x) es i=some o/\(∀j v,o=some (j,v)->i<=j/\j -i<es.length/\(es.eraseIdx (j -i)).map Ir=(mm m x).map Bu)/\(o=none->mm m x=m)
 |
  [],m,i,h=>by
  have:m=[]:=OL;subst this;exact⟨none,rfl,by simp,λ_=>rfl⟩
 |
  e::es,m,i,h=>by
  obtain⟨⟨j,u⟩,q,rfl⟩:∃p q,m=p::q:=by cases m with
   |nil=>simp at h
   |cons p q=>exact⟨p,q,rfl⟩
  simp only[gz,List.cons.injEq,Prod.mk.injEq]at h;obtain⟨⟨h1,h2⟩,aH⟩:=h;have aj:Instr.sameNow (.int d6) (.int d6 x) e.key=some (x==j):=by rw[h1];simp[Instr.sameNow]
  by_cases ag:x=j
  . subst ag
    refine⟨some (i,e.val),by simp[Instr.findNow,aj],?_,by simp⟩;intro a v Y;simp only[Option.some.injEq,Prod.mk.injEq]at Y;obtain⟨rfl,rfl⟩:=Y;exact⟨eh _,by simp,by simp[mm,aH]⟩
  . have az:(x==j)=false:=by simpa using ag
    obtain⟨o,W,d8,f9⟩:=Ze d6 x es q (i+1) aH;refine⟨o,by simp[Instr.findNow,aj,az,W],?_,?_⟩
    . intro a v Y
      obtain⟨cI,cd,f⟩:=d8 a v Y;have aB:a -i=(a -(i+1))+1:=ae;refine⟨by omega,by simp;omega,?_⟩;rw[aB];simp[mm,ag,h1,h2,f]
    . intro aJ;simp[mm,ag,f9 aJ]
theorem ON{d6:IntKind}{E:Value}{r:Nat}{k:Int}{m:List (Int×Value)}{u:List (Int×Value)->List aq}[i:sx P t d6 E][j:vd r I d6 m u](h:cb ak x=some we)(ah:cb ak y=some (.int d6 k)):
 cY P F n Zd bC ak I (λv H=>v=.tuple #[]/\H=u (mm m k)):=λa w d pos N g aj s=>by
 obtain⟨q,M,z,h1,h2,aH,bm⟩:=i.out;obtain⟨es,b,W,cE⟩:=j.get s.eI;have f:w.heap[r]?=_:=W;obtain⟨o,cI,ia,eB⟩:=Ze d6 k es.toList m 0 cE;have aX:=run_getObj_map (P:=P) w r es b f;have B:=OM (P:=P) f;have fin:∀(l:Array MapEntry) (c:Nat),l.toList.map (λe=>(e.key,e.val))=(mm m k).map Bu->db F (u (mm m k)) Is:=λl c Y=>
  ⟨s.os,s.tape,s.output,by have:=s.size;simpa using this,by rw[Dt _ W];exact j.set _ _ _ s.eI Y⟩
 simp only[execOp,resolve,oP,gz,mO,aj.eval h,aj.eval ah];cases o with
 |
  none=>
  refine⟨_,_,_,?_,dD,fin es b (by rw[eB rfl];exact cE)⟩;simp[invoke,builtin,Builtin.delete_,gC h1,aX,run_checkKey h2,Instr.findKey,gC h2,cI,B]
 |
  some p=>
  obtain⟨O,v0⟩:=p;obtain⟨_,aB,c9⟩:=ia O v0 rfl;simp only[Dp]at aB c9;refine⟨_,_,_,?_,dD,fin (es.eraseIdxIfInBounds O) b (by simpa[Array.eraseIdxIfInBounds,show O<es.size by simpa using aB]using c9)⟩;simp[invoke,builtin,Builtin.delete_,gC h1,aX,run_checkKey h2,Instr.findKey,gC h2,cI,B]
def arx{b:Nat}{D:List aq}:∀h,Sat (ev b (.map #[] 0)::D) h->Sat (jf b []::D) h:=λ_=>Sat.head λ_ co=>⟨#[],0,co,rfl⟩
end
end
abbrev S(l:List UInt8):Value:=.string ⟨l.toArray⟩
def avt(l:List UInt8):(ByteArray.mk l.toArray).size=l.length:=by simp[ByteArray.size]
section
variable{P:Program}{F w:World}{n:Nat}{ak:eA}{I:List aq}{bC:TypeId}
section
variable{t dh:TypeId}{x y:Operand}{l m:List UInt8}
def RY{t:TypeId}{l:List UInt8}[i:A9 P t](h:cb ak x=some (S l)):bU P F n Oi bC ak I (.int .i64 l.length):=λa w d pos N g aj s=>by
 simp only[execOp,resolve,oP,gz,mO,aj.eval h];simp[invoke,builtin,Builtin.len_,gC i.out,goInt,avt]
def ahJ{i:Nat}{d6:IntKind}{b:UInt8}[j:A9 P t](ag:cb ak x=some (S l))(ah:cb ak y=some (.int d6 (i:Int)))(az:l[i]?=some b):bU P F n (.index t x y) bC ak I (.int .u8 b.toNat):=λa w d pos N g aj s=>by
 simp only[execOp,aj.eval ag,aj.eval ah];obtain⟨al,e⟩:=dd.1 az;have aB:(ByteArray.mk l.toArray)[i]?=some b:=by
  rw[getElem?_pos _ _ (by simp[ByteArray.size];exact al)];exact congrArg some e
 simp[Instr.index,asIntOf,gC j.out,aB]
def pO[i:A9 P t](ag:cb ak x=some (S l))(ah:cb ak y=some (S m)):bU P F n Bw bC ak I (.bool (decide (l=m))):=λa w d pos N g aj _=>by
 simp only[execOp,aj.eval ag,aj.eval ah];simp[eqGuard,binOp,Op.stringOp];rw[pb];simp
def acR[i:A9 P t](ag:cb ak x=some (S l))(ah:cb ak y=some (S m)):bU P F n Bv bC ak I (.bool (!decide (l=m))):=λa w d pos N g aj _=>by
 simp only[execOp,aj.eval ag,aj.eval ah];simp[eqGuard,binOp,Op.stringOp];rw[pb];simp
end
end
section
variable{a:Option Addr}{c n aT:Nat}
def Se(a:Option Addr)(c n:Nat)(xs:List Value):aq:=λh=>Pg.ij h a c n xs
def auA{e:TypeId}{aT:Nat}{xs:List Value}{D:List aq}:∀h,Sat (own (.slice a n c) e aT n xs::D) h->Sat (Se a c n xs::D) h:=λ_=>Sat.head λg co=>by
 refine⟨oh.rd co,?_⟩;obtain⟨_,h|⟨b,C,dq,h1,h2,aH,bm,dk⟩⟩:=co
 . simp only[Value.slice.injEq]at h;omega
 . simp only[Value.slice.injEq]at h1;omega
def auz{x xs:List Value}(ag:x.length=aT)(d:n=0->xs=[]){D:List aq}:∀h,Sat (Se a c (n+1) (x++xs)::D) h->Sat (Se (if c=1 then a else a.map (λy:Addr=>y.add (1*aT))) (c -1) n xs::D) h:=λ_=>Sat.head λg co=>by
 obtain⟨co,a2⟩:=co;refine⟨?_,by omega⟩;rcases co with⟨_,_,h⟩|⟨b,bv,Q,C,h1,h2,aH⟩
 . omega
 . simp only[Value.slice.injEq]at h1
   obtain⟨rfl,_,rfl⟩:=h1;obtain rfl:=h2 ae;by_cases f:c=1
   . subst f
     have aS:n=0:=ae;subst aS;obtain rfl:=d rfl;rw[bg rfl];exact .inr ⟨b,bv,none,0,rfl,λ_=>rfl,λj x J=>by cases J⟩
   . rw[a6 f]
     refine .inr ⟨b,bv+aT,none,c -1,by simp[Addr.add],λ_=>rfl,λj y J=>?_⟩;obtain⟨_,cs,e,O,cI,cd⟩:=aH (aT+j) y (by rw[pQ (by omega),ag,Gf];exact J);exact⟨rfl,cs,e,O,cI,by rw[ny];exact cd⟩
end
class h3(b bv:Nat)(A:aq)(v:outParam Value):Prop where
 get:∀{h:dR},A h->∃(l:List Value) (T:TypeId) (O:Nat×Nat),h b=some (.cells l.toArray T O)/\l[bv]?=some v
instance(priority:=low) xy.part{b bv:Nat}{A:aq}{v:Value}{r:List aq}[i:h3 b bv A v]:xy b bv (A::r) v where
 get:=fun⟨_,_,_,e,aP,_⟩=>by
  obtain⟨l,T,O,h1,h2⟩:=i.get aP;exact⟨l,T,O,e▸join_some h1,h2⟩
def ij.fT{g:dR}{a:Option Addr}{c n:Nat}{x:Value}{xs:List Value}(h:Pg.ij g a c (n+1) (x::xs))(d:n=0->xs=[]):Pg.ij g (if c=1 then a else a.map (λy:Addr=>y.add (1*1))) (c -1) n xs:=by
 obtain⟨h1,h2,_,rfl,aP,_⟩:=auz (aT:=1) (x:=[x]) rfl d g (Sat.one h);exact Pg.ij.imp aP λb o e=>join_some e
def ij.own{h:dR}{a:Option Addr}{c n:Nat}{e:TypeId}{aT:Nat}{xs:List Value}(aJ:oh h (.slice a n c) e aT n xs):Pg.ij h a c n xs:=by
 obtain⟨h1,h2,_,rfl,aP,_⟩:=auA h (Sat.one aJ);exact Pg.ij.imp aP λb o e=>join_some e
end Go.L
namespace Go.Proofs.YtnnhpnccfnghdaaGreat.L
open Go.L Go.L.Lx Go.L.Pg
attribute[local irreducible] G cz GE cT GT bU c6 cY dc Exit.then Exit.inBlock
section
variable(L:List Nat){α:Type}(a:Option Addr)(c n:Nat)(M:FuncId)(l:List Int)(xs z:List Value)(ba:aq)(N:List aq)(q:Nat->Bool)
abbrev iE:List Value:=l.map af
abbrev hL:Value:=.slice a l.length c
abbrev dv:aq:=own (hL a c l) 3 1 l.length (iE l)
abbrev B7(l:List Nat):List Value:=l.map λp=>ptr p 0
def fix(q:α->Bool)(L:List α):Int:=if L.any q then(L.findIdx q:Int)else-1
def ady{q:α->Bool}{L:List α}{x:Nat}{t:α}(h:L[x]?=some t)(h1:(L.take x).any q=false)(h2:q t=true):fix q L=x:=by
 obtain⟨ag,e⟩:=dd.1 h;have aP:L.any q=true:=zt.2 ⟨t,h0 h,h2⟩;unfold fix;rw[bg aP];have:L.findIdx q=x:=by
  rw[List.findIdx_eq ag];refine⟨by rw[e];exact h2,λj J=>?_⟩;have:L[j]∈L.take x:=by
   rw[auR];exact⟨j,by omega,rfl⟩
  exact Bool.eq_false_iff.2 λbo=>by
   have:=ET.1 h1 _ this;exact this bo
 rw[this]
def Kq{q:α->Bool}{L:List α}(h:L.any q=false):fix q L=-1:=by unfold fix;rw[h];rfl
def CN{q:α->Bool}{L:List α}{t:α}(h:L.find? q=some t):∃x:Nat,fix q L=x/\L[x]?=some t/\x<L.length:=by
 have aP:L.any q=true:=zt.2 ⟨t,rf h,List.find?_some h⟩;have aw:=auS.2 (zt.1 aP);refine⟨L.findIdx q,by unfold fix;rw[bg aP],?_,aw⟩;rw[List.find?_eq_getElem?_findIdx]at h;exact h
def aeQ{q:α->Bool}{L:List α}(h:L.find? q=none):fix q L=-1:=Kq (by
 rw[ET];exact λx ag=>RW.1 h x ag)
def RV{q:α->Bool}{L:List α}:0<=fix q L↔L.any q=true:=by
 unfold fix;split
 . rename_i h;simp[h]
 . rename_i h;simp[h]
def aeD{L:List α}{q:α->Bool}{x:Nat}{t:α}(h:L[x]?=some t)(h1:(L.take x).any q=false)(h2:q t=false):(L.take (x+1)).any q=false:=by
 exact UJ
def ah5{a b:Bool}(h:a=b):Value.bool a=Value.bool b:=by rw[h]
def xd{D:List aq}:∀{N:List aq},Part N (N++D) D
 |[]=>.nil
 |_::N=>.cons .head (xd (N:=N))
theorem B8{N D:List aq}{v:Value}{n:Nat}{xs:List Value}(aD:∀h,Sat N h->gT h v n xs):iX v (N++D) n xs:=⟨λs=>by
 obtain⟨h1,h2,d,e,a,_⟩:=Sat.split s;rw[e];exact(aD _ a).more⟩
def Gc{l:List Int}{i:Nat}{y:Int}(h:l[i]?=some y):(iE l)[i*1]?=some (af y):=by simp[iE,h]
def auT{l:List Nat}{i y:Nat}(h:l[i]?=some y):(B7 l)[i*1]?=some (ptr y 0):=by simp[B7,h]
def ato{a:Option Addr}{c n:Nat}{m:List Int}{t:Int}(h:m.length=n):own (.slice a (n+1) c) 3 1 (n+1) (iE m++[af t])=dv a c (m++[t]):=by subst h;simp only[dv,hL,iE,o6,ep];rfl
def ae9[gN u9 ba n xs](ag:xs.length=n*1)(h1:xs.all Value.oneCell'=true)(az:n*8<=140737488355328):ad aa 76 xj [ba] (λu H=>∃aE aK,u=.slice aE n aK/\H=[own zm 36 1 n xs,ba]):=by
 refine ax Tryz.func76 λF D=>?_;exact zy
def ES[gN u9 ba n xs](ag:xs.length=n*1)(h1:xs.all Value.oneCell'=true)(az:n*8<=140737488355328):ad aa 38 xj [ba] (λu H=>∃aE aK,u=.slice aE n aK/\H=[own zm 3 1 n xs,ba]):=by
 refine ax Tryz.func38 λF D=>?_;exact zy
def auU[gN u9 ba n xs](ag:xs.length=n*9)(h1:xs.all Value.oneCell'=true)(az:n*80<=140737488355328):ad aa 34 xj [ba] (λu H=>∃aE aK,u=.slice aE n aK/\H=[own zm 38 9 n xs,ba]):=by
 refine ax Tryz.func34 λF D=>?_;exact zy
def alY[gN u9 ba n xs](ag:xs.length=n*2)(h1:xs.all Value.oneCell'=true)(az:n*24<=140737488355328):ad aa 178 xj [ba] (λu H=>∃aE aK,u=.slice aE n aK/\H=[own zm 89 2 n xs,ba]):=by
 refine ax Tryz.func178 λF D=>?_;exact zy
def alZ[gN u9 ba n xs](ag:xs.length=n*2)(h1:xs.all Value.oneCell'=true)(az:n*40<=140737488355328):ad aa 179 xj [ba] (λu H=>∃aE aK,u=.slice aE n aK/\H=[own zm 82 2 n xs,ba]):=by
 refine ax Tryz.func179 λF D=>?_;exact zy
def al0[gN u9 ba n xs](ag:xs.length=n*4)(h1:xs.all Value.oneCell'=true)(az:n*56<=140737488355328):ad aa 180 xj [ba] (λu H=>∃aE aK,u=.slice aE n aK/\H=[own zm 85 4 n xs,ba]):=by
 refine ax Tryz.func180 λF D=>?_;exact zy
def Uc[gN u9 ba n xs](ag:xs.length=n*7)(h1:xs.all Value.oneCell'=true)(az:n*80<=140737488355328):ad aa 181 xj [ba] (λu H=>∃aE aK,u=.slice aE n aK/\H=[own zm 87 7 n xs,ba]):=by
 refine ax Tryz.func181 λF D=>?_;exact zy
theorem al1(L:List b1)(a:Option Addr)(c:Nat)(M:FuncId)(z:List Value)(N:List aq)(q:b1->Bool)(aS:L.length<=4611686018427387904)(aD:∀h,Sat N h->gT h kQ L.length (L.flatMap dO))
 (hp:∀x∈L,ad aa M Gq N lm)(fD:eU aa M:=by exact e7):ad aa 100 oD N BR:=by
 refine ax Tryz.func100 λF D=>?_;haveI:=B8 (D:=D) aD;refine rZ ?_;intro x ag bo;replace ag:x<=L.length:=ag;replace bo:(L.take x).any q=false:=bo;refine bh ?_;refine b6 (λW=>?_) (λW=>?_)
 . obtain⟨t,R⟩:∃t,L[x]?=some t:=⟨_,cq (show x<L.length by omega)⟩
   refine UM ?_;exact B1
 . exact BZ
theorem as2(L:List fb)(a:Option Addr)(c:Nat)(M:FuncId)(z:List Value)(N:List aq)(q:fb->Bool)(aS:L.length<=4611686018427387904)(aD:∀h,Sat N h->gT h kQ L.length (L.flatMap ft))
 (hp:∀x∈L,ad aa M Gr N lm)(fD:eU aa M:=by exact e7):ad aa 273 oD N BR:=by
 refine ax Tryz.func273 λF D=>?_;haveI:=B8 (D:=D) aD;refine rZ ?_;intro x ag bo;replace ag:x<=L.length:=ag;replace bo:(L.take x).any q=false:=bo;refine bh ?_;refine b6 (λW=>?_) (λW=>?_)
 . obtain⟨t,R⟩:∃t,L[x]?=some t:=⟨_,cq (show x<L.length by omega)⟩
   refine UO ?_;exact B1
 . exact BZ
theorem ate(L:List Row)(a:Option Addr)(c:Nat)(M:FuncId)(z:List Value)(N:List aq)(q:Row->Bool)(aS:L.length<=4611686018427387904)(aD:∀h,Sat N h->gT h kQ L.length (L.flatMap gh))
 (hp:∀x∈L,ad aa M Gs N lm)(fD:eU aa M:=by exact e7):ad aa 327 oD N BR:=by
 refine ax Tryz.func327 λF D=>?_;haveI:=B8 (D:=D) aD;refine rZ ?_;intro x ag bo;replace ag:x<=L.length:=ag;replace bo:(L.take x).any q=false:=bo;refine bh ?_;refine b6 (λW=>?_) (λW=>?_)
 . obtain⟨t,R⟩:∃t,L[x]?=some t:=⟨_,cq (show x<L.length by omega)⟩
   refine UQ ?_;exact B1
 . exact BZ
theorem att(L:List l7)(a:Option Addr)(c:Nat)(M:FuncId)(z:List Value)(N:List aq)(q:l7->Bool)(aS:L.length<=4611686018427387904)(aD:∀h,Sat N h->gT h kQ L.length (L.flatMap ik))
 (hp:∀x∈L,ad aa M Gp N lm)(fD:eU aa M:=by exact e7):ad aa 220 oD N BR:=by
 refine ax Tryz.func220 λF D=>?_;haveI:=B8 (D:=D) aD;refine rZ ?_;intro x ag bo;replace ag:x<=L.length:=ag;replace bo:(L.take x).any q=false:=bo;refine bh ?_;refine b6 (λW=>?_) (λW=>?_)
 . obtain⟨t,R⟩:∃t,L[x]?=some t:=⟨_,cq (show x<L.length by omega)⟩
   refine UK ?_;exact B1
 . exact BZ
theorem ah6(L:List Int)(a:Option Addr)(c:Nat)(M:FuncId)(z:List Value)(N:List aq)(q:Int->Bool)(aS:L.length<=4611686018427387904)(aD:∀h,Sat N h->gT h kQ L.length (iE L))
 (hp:∀x∈L,ad aa M ([af x]++z) N lm)(fD:eU aa M:=by exact e7):ad aa 308 oD N BR:=by
 refine ax Tryz.func308 λF D=>?_;haveI:=B8 (D:=D) aD;refine rZ ?_;intro x ag bo;replace ag:x<=L.length:=ag;replace bo:(L.take x).any q=false:=bo;refine bh ?_;refine b6 (λW=>?_) (λW=>?_)
 . obtain⟨t,R⟩:∃t,L[x]?=some t:=⟨_,cq (show x<L.length by omega)⟩
   refine adH ?_;exact B1
 . exact BZ
theorem auV(aS:L.length<=4611686018427387904)(aD:∀h,Sat N h->gT h kQ L.length (B7 L))
 (hp:∀x∈L,ad aa M ([ptr x 0]++z) N lm)(fD:eU aa M:=by exact e7):ad aa 89 oD N BR:=by
 refine ax Tryz.func89 λF D=>?_;haveI:=B8 (D:=D) aD;refine rZ ?_;intro x ag bo;replace ag:x<=L.length:=ag;replace bo:(L.take x).any q=false:=bo;refine bh ?_;refine b6 (λW=>?_) (λW=>?_)
 . obtain⟨t,R⟩:∃t,L[x]?=some t:=⟨_,cq (show x<L.length by omega)⟩
   refine yj ?_;refine aA rfl (gy rfl (auT R)) ?_;exact B1
 . exact BZ
theorem ah7(aS:L.length<=4611686018427387904)(aD:∀h,Sat N h->gT h (.slice a L.length c) L.length (B7 L))
 (hp:∀x∈L,ad aa M ([ptr x 0]++z) N (aF (.bool (q x)) N))(fD:eU aa M:=by exact e7):ad aa 49 [.slice a L.length c,.func (.func M) #[] z.toArray] N (aF (.bool (L.any q)) N):=by
 refine ax Tryz.func49 λF D=>?_;refine cr ?_;refine cj rfl (b4 rfl (auV L a c M z N q aS aD hp) xd) ?_;rintro _ D ⟨_,⟨rfl,bb⟩,rfl⟩;refine fj ?_;obtain rfl:=bb.symm;refine bh ?_;exact aW ⟨ah5 (by rw[pb,ln];exact RV),rfl⟩ (λ_ h=>h)
end
section
variable(L:List Int)(a:Option Addr)(c:Nat)(y:Int)(ba:aq)
def auW[gN kQ ba L.length (iE L)](aS:L.length<=4611686018427387904):ad aa 350 [.slice a L.length c,af y] [ba] (aF (af (fix (λx=>decide (y=x)) L)) [ba]):=by
 refine ax Tryz.func350 λF D=>?_;refine fZ ?_;refine gO (bx:=Nat) (λx=>x<=L.length/\(L.take x).any (λx=>decide (y=x))=false) (λx=>[(8,af x),(7,af L.length),(0,.slice a L.length c),(1,af y)]) (λ_=>ba::D) (λx=>L.length -x) 0 (⟨fc _,rfl⟩) de (au) ?_;rintro x ⟨ag,bo⟩;replace ag:x<=L.length:=ag;replace bo:(L.take x).any (λx=>decide (y=x))=false:=bo;refine bh ?_;refine b6 (λW=>?_) (λW=>?_)
 . obtain⟨t,R⟩:∃t,L[x]?=some t:=⟨_,cq (show x<L.length by omega)⟩
   refine adH ?_;refine bX ?_;refine b6 (λI=>?_) (λI=>?_)
   . have co:decide (y=t)=true:=by simpa using I
     refine fx ?_;exact aW ⟨by rw[ady R bo co],rfl⟩
   . have co:decide (y=t)=false:=by simpa using I
     refine C5 ?_;refine fm (x+1) ⟨show x+1<=L.length by omega,aeD R bo co⟩ (show L.length -(x+1)<L.length -x by omega) de (au)
 . obtain rfl:x=L.length:=by omega
   rw[l9]at bo;refine dx ?_;exact aW ⟨by rw[Kq bo],rfl⟩
def I6[gN kQ ba L.length (iE L)](aS:L.length<=4611686018427387904):ad aa 298 [.slice a L.length c,af y] [ba] (aF (.bool (L.contains y)) [ba]):=by
 refine ax Tryz.func298 λF D=>?_;refine cr ?_;refine aV (auW L a c y ba aS) ?_;refine bh ?_;exact aW ⟨ah5 (by rw[pb,ln,RV,List.contains_iff_mem];simp),rfl⟩
end
section
variable{q:Int->Bool}{l U:List Int}{i j:Nat}{y t:Int}
def Sf(h:l[j]?=some t):(l.take (j+1)).filter (λx=>!q x)=(l.take j).filter (λx=>!q x)++if q t then[]else[t]:=by
 obtain⟨J,e⟩:=dd.1 h;rw[ns J,e,yY];by_cases bo:q t<;>simp[bo]
def ah8(h:l.any q=false):l.filter (λx=>!q x)=l:=by
 rw[Sg];intro x ag;have:=ET.1 h x ag;simpa using this
def ah9{A:aq}{D:List aq}:∀{l:List aq} {h:dR},Sat (A::(l++D)) h->Sat (l++(A::D)) h
 |[],_,s=>s
 |B::l,_,s=>Sat.tail (r:=A::(l++D)) (S:=l++(A::D)) (λh s=>ah9 s) (Sat.swap s)
def aia{A:aq}{D:List aq}:∀{l:List aq} {h:dR},Sat (l++(A::D)) h->Sat (A::(l++D)) h
 |[],_,s=>s
 |B::l,_,s=>Sat.swap (Sat.tail (r:=l++(A::D)) (S:=A::(l++D)) (λh s=>aia s) s)
def ye{P:Program}{f:FuncId}{args:List Value}{A:aq}{N:List aq}{R:Value}(h:ad P f args N (aF R N)):ad P f args (A::N) (aF R (A::N)):=λF D w s=>
 (h F (A::D) w (s.imp λg t=>ah9 t)).mono λ_ _ ⟨v,H,aB,⟨aU,bB⟩,s⟩=>⟨v,_,aB,wY,s.imp λg t=>by subst bB;exact aia t⟩
structure qf(q:Int->Bool)(l U:List Int)(i j:Nat):Prop where
 len:U.length=l.length
 auX:i<=j
 auY:j<=l.length
 lt:i<l.length
 pre:U.take i=(l.take j).filter (λx=>!q x)
 ql:i=((l.take j).filter (λx=>!q x)).length
 post:U.drop j=l.drop j
def qf.at(h:qf q l U i j){t:Int}(R:l[j]?=some t):U[j]?=some t:=by
 have:=congrArg (·[0]?) h.post;simpa[R]using this
def qf.skip(h:qf q l U i j){t:Int}(R:l[j]?=some t)(bo:q t=true):qf q l U i (j+1):=by
 obtain⟨J,_⟩:=dd.1 R;have e:=Sf (q:=q) R;rw[bo]at e;simp only[fk,jj]at e;refine⟨h.len,by have:=h.auX;omega,J,h.lt,by rw[e];exact h.pre,by rw[e];exact h.ql,?_⟩;have:=congrArg (List.drop 1) h.post;simpa[GL,ME]using this
def qf.jM(h:qf q l U i j){t:Int}(R:l[j]?=some t)(bo:q t=false)(g1:i<j):qf q l (U.set i t) (i+1) (j+1):=by
 obtain⟨J,_⟩:=dd.1 R;have aw:=h.len;have d5:=h.lt;have e:=Sf (q:=q) R;rw[bo]at e;simp only[eH,eo]at e;refine⟨by simp[aw],by omega,J,by omega,?_,?_,?_⟩
 . rw[e,List.take_set,ns ae,Uq _ _ OY,h.pre]
   rw[<-h.ql,yd];rfl
 . rw[e,ep,<-h.ql];rfl
 . rw[List.drop_set,bg ae]
   have:=congrArg (List.drop 1) h.post;simpa[GL,ME]using this
def qf.start{x:Nat}{t:Int}(R:l[x]?=some t)(h1:(l.take x).any q=false)(h2:q t=true):qf q l l x (x+1):=by
 obtain⟨J,_⟩:=dd.1 R;have e:=Sf (q:=q) R;rw[h2]at e;simp only[fk,jj]at e;rw[ah8 h1]at e;exact⟨rfl,by omega,J,J,e.symm,by rw[e,pS];omega,rfl⟩
def auZ{α:Type}{q:α->Bool}{L:List α}(h:L.any q=true):∃(x:Nat) (t:α),fix q L=x/\L[x]?=some t/\(L.take x).any q=false/\q t=true:=by
 have aw:=auS.2 (zt.1 h);refine⟨L.findIdx q,L[L.findIdx q],by unfold fix;rw[bg h],cq aw,?_,List.findIdx_getElem⟩;rw[ET];intro y ah;obtain⟨i,al,rfl⟩:=auR.1 ah;have lw:i<L.findIdx q:=ae;rw[List.not_of_lt_findIdx lw];decide
def aib(h:l[i]?=some y):(iT l)[i*1]?=some (bu y):=by simp[iT,h]
structure tZ(l U:List Int)(i:Nat):Prop where
 len:U.length=l.length
 half:2*i<=l.length+1
 out:∀k,k<l.length->(k<i\/l.length -i<=k)->U[k]?=l[l.length -1 -k]?
 mid:∀k,i<=k->k<l.length -i->U[k]?=l[k]?
def tZ.start(l:List Int):tZ l l 0:=⟨rfl,by omega,λk h1 h2=>by omega,λk _ _=>rfl⟩
def tZ.swap{x y:Int}(h:tZ l U i)(al:U[i]?=some x)(J:U[j]?=some y)(g1:j=l.length -1 -i/\i<j):tZ l ((U.set i y).set j x) (i+1):=by
 obtain⟨rfl,d5⟩:=g1;have aw:=h.len;have m1:=h.mid i (eh _) ae;have t:=h.mid (l.length -1 -i) ae ae;refine⟨by simp[aw],by omega,λk h1 h2=>?_,λk h1 h2=>?_⟩
 . by_cases aB:k=l.length -1 -i
   . subst aB
     rw[zu hW,show l.length -1 -(l.length -1 -i)=i by omega,<-m1,al]
   . rw[qD (λe=>aB e.symm)]
     by_cases aU:k=i
     . subst aU;rw[zu ae,<-t,J]
     . rw[qD (λe=>aU e.symm)];exact h.out k h1 ae
 . rw[qD ae,qD ae];exact h.mid k ae ae
def tZ.done(h:tZ l U i)(al:l.length<=2*i+1):U=l.reverse:=by
 have aw:=h.len;apply u0;intro k;by_cases hk:k<l.length
 . rw[List.getElem?_reverse hk]
   by_cases e:k<i\/l.length -i<=k
   . exact h.out k hk e
   . rw[h.mid k ae ae,show l.length -1 -k=k by omega]
 . rw[oM ae,oM hW]
def au0{b c i:Nat}{l U:List Int}{D:List aq}(h:qf q l U i l.length)(ws:List Value):∀F,Sat (own (.slice (some ⟨b,0,none⟩) l.length c) 3 1 l.length ((iE U).take (i*1)++ws)::D) F->Sat (dv j3 c BQ::D) F:=λF s=>by
 have aw:=h.len;have d5:=h.lt;have B:=h.ql;have hp:=h.pre;rw[l9]at B hp;have h1:=HN (k:=i) ae F s;have aB:((iE U).take (i*1)).length=i*1:=hW;rw[D7 aB]at h1;have aU:(iE U).take (i*1)=iE BQ:=by rw[rm];unfold iE;rw[<-Ia,hp]
 rw[aU,B]at h1;exact h1
end
section
variable(l:List Int)(a:Option Addr)(c:Nat)(M:FuncId)(z:List Value)(N:List aq)(q:Int->Bool)
theorem au1(aS:l.length<=1099511627776)
 (hp:∀x∈l,ad aa M ([af x]++z) N (aF (.bool (q x)) N))(bo:l.any q=false)(fD:eU aa M:=by exact e7):ad aa 247 [hL a c l,.func (.func M) #[] z.toArray] (dv a c l::N) (aF (hL a c l) (dv a c l::N)):=by
 refine ax Tryz.func247 λF D=>?_;refine cr ?_;refine cj rfl (b4 rfl (ah6 l a c M z (dv a c l::N) q ae (λh s=>by haveI:iX (hL a c l) (dv a c l::N) l.length (iE l):=inferInstance;exact iX.get s) (λx ag=>ye (hp x ag))) xd) ?_;rintro _ D ⟨_,⟨rfl,bb⟩,rfl⟩;refine fj ?_;obtain rfl:=bb.symm;refine ch ?_;refine aA rfl (fM (c:=true) (by rw[Kq bo];rfl) (nb rfl rfl)) ?_;refine dx ?_;exact aW dD (λ_ h=>h)
theorem au2(b c:Nat)(M:FuncId)(z:List Value)(N:List aq)(q:Int->Bool)(aS:l.length<=1099511627776)
 (hp:∀x∈l,ad aa M ([af x]++z) N lm)(d:l.length<=c)(bo:l.any q=true)(fD:eU aa M:=by exact e7):ad aa 247 [hL j3 c l,.func (.func M) #[] z.toArray] (dv j3 c l::N) (aF (hL j3 c BQ) (dv j3 c BQ::N)):=by
 refine ax Tryz.func247 λF D=>?_;obtain⟨hm,t0,g,Y,f,p⟩:=auZ bo;obtain⟨T,-⟩:=dd.1 Y;refine cr ?_;refine cj rfl (b4 rfl (ah6 l (some ⟨b,0,none⟩) c M z (dv (some ⟨b,0,none⟩) c l::N) q ae (λh s=>by haveI:iX (hL (some ⟨b,0,none⟩) c l) (dv (some ⟨b,0,none⟩) c l::N) l.length (iE l):=inferInstance;exact iX.get s) (λx ag=>ye (hp x ag))) xd) ?_;rintro _ D ⟨_,⟨rfl,bb⟩,rfl⟩;refine fj ?_;obtain rfl:=bb.symm;rw[g];refine ch ?_;refine cH ?_;refine cr ?_;refine aA rfl (fo (((hm+1:Nat):Int)) eV rfl rfl) ?_;refine bF ?_;refine gO (bx:=Nat×Nat×List Int) (λe=>qf q l e.2.2 e.1 e.2.1/\e.1<e.2.1) (λe=>[(5,af e.1),(6,af e.2.1),(0,hL j3 c l),(1,.func (.func M) #[] z.toArray)]) (λe=>own (.slice j3 l.length c) 3 1 l.length (iE e.2.2)::(N++D)) (λe=>l.length -e.2.1) (hm,hm+1,l) (⟨qf.start Y f p,Nat.lt_succ_self _⟩) de (au) ?_;rintro⟨i,j,U⟩ ⟨bM,g1⟩;replace bM:qf q l U i j:=bM;replace g1:i<j:=g1;have v:=bM.auY;dsimp only;refine cr ?_;refine b6 (λW=>?_) (λW=>?_)
 . obtain⟨t,R⟩:∃t,l[j]?=some t:=⟨_,cq (show j<l.length by omega)⟩
   refine bH ?_;refine aA rfl Qd ?_;refine aA rfl (gy rfl (Gc (bM.at R))) ?_;refine ch ?_;refine cj rfl (oE rfl rfl (ye (A:=own (.slice j3 l.length c) 3 1 l.length (iE U)) (hp t (h0 R))) xd) ?_;rintro _ D ⟨_,⟨rfl,bb⟩,rfl⟩;refine fj ?_;obtain rfl:=bb.symm;rw[cn];refine bX ?_;refine b6 (λI=>?_) (λI=>?_)
   . have a:q t=false:=by simpa using I
     refine bz ?_;refine aA rfl (fA rfl rfl (show i<l.length from bM.lt)) ?_;refine iF (tg rfl rfl rfl (show i*1<(iE U).length by have:=bM.len;have:=bM.lt;simp;omega)) ?_;refine bF ?_;refine An ?_;refine adG ?_;refine fm (i+1,j+1,U.set i t) ⟨bM.jM R a g1,by show i+1<j+1;omega⟩ (show l.length -(j+1)<l.length -j by omega) de (by dsimp only;rw[show iE (U.set i t)=(iE U).set (i*1) (af t)from by simp[iE,tL]];exact λ_ h=>h)
   . have a:q t=true:=by simpa using I
     refine adF ?_;refine fm (i,j+1,U) ⟨bM.skip R a,by show i<j+1;omega⟩ (show l.length -(j+1)<l.length -j by omega) de (λ_ h=>h)
 . obtain rfl:j=l.length:=by omega
   refine cr ?_;refine aA rfl (DW rfl rfl (show i<=l.length by have:=bM.lt;omega)) ?_;refine A4 (NV (k:=i) (m:=l.length -i) (show i+(l.length -i)=l.length by have:=bM.lt;omega) rfl (show 0<l.length -i by have:=bM.lt;omega) Y3) ?_;rintro _ _ ⟨rfl,rfl⟩;refine bh ?_;refine aA rfl (uE rfl rfl (show i<=c by have:=bM.lt;omega)) ?_;refine bz ?_;exact aW ⟨by rw[hL,<-(show i=(l.filter (λx=>!q x)).length by have:=bM.ql;rwa[l9]at this)],rfl⟩ (au0 bM _)
theorem KL(aS:l.length<=1099511627776)
 (hp:∀x∈l,ad aa M ([af x]++z) N lm)(fD:eU aa M:=by exact e7):ad aa 247 [hL a c l,.func (.func M) #[] z.toArray] (dv a c l::N) (aF (hL a c BQ) (dv a c BQ::N)):=by
 cases bo:l.any q with
 |false=>rw[ah8 bo];exact au1 l a c M z N q aS hp bo
 |
  true=>
  intro F D w s;have aw:0<l.length:=by cases l with
   |nil=>cases bo
   |cons _ _=>simp
  obtain⟨b,rfl,d⟩:=A3 aw _ s.eI;exact(au2 l b c M z N q aS hp d bo) F D w s
def asU(aS:l.length<=1099511627776):ad aa 77 [ul a c l] [fH a c l] (aF et [own (ul a c l) 36 1 l.length (iT l.reverse)]):=by
 refine ax Tryz.func77 λF D=>?_;refine bF ?_;refine aA rfl (ks ((l.length:Int) -1) y5 rfl rfl) ?_;refine bz ?_;refine gO (bx:=Nat×Int×List Int) (λe=>tZ l e.2.2 e.1/\e.2.1=(l.length:Int) -1 -e.1) (λe=>[(2,af e.1),(3,af e.2.1),(0,ul a c l)]) (λe=>own (.slice a l.length c) 36 1 l.length (iT e.2.2)::D) (λe=>l.length -e.1) (0,(l.length:Int) -1,l) (⟨tZ.start l,by simp⟩) de (au) ?_;rintro⟨i,m,U⟩ ⟨bM,d⟩;replace bM:tZ l U i:=bM;replace d:m=(l.length:Int) -1 -i:=d;have hlen:=bM.len;have lw:=bM.half;dsimp only;refine bH ?_;refine b6 (λW=>?_) (λW=>?_)
 . obtain⟨j,rfl⟩:∃j:Nat,m=(j:Int):=⟨l.length -1 -i,by omega⟩
   obtain⟨x,al⟩:∃x,U[i]?=some x:=⟨_,cq (show i<U.length by omega)⟩;obtain⟨y,J⟩:∃y,U[j]?=some y:=⟨_,cq (show j<U.length by omega)⟩;have b:i*1<(iT U).length:=(by rw[kG];omega);have v:j*1<((iT U).set (i*1) (bu y)).length:=(by rw[gq,kG];omega);refine bF ?_;refine ct [13] [2,102,9,201,1,201] [] ?_;refine a7 ?_;refine EH ?_;refine EH ?_;refine a7 ?_;refine go_v rfl .none rfl Qd ?_;refine go_v rfl .none rfl (gy rfl (aib J)) ?_;refine a7 ?_;refine QI ?_;refine go_v rfl .none rfl (gy rfl (aib al)) ?_;refine QI ?_;refine ac3 ?_;refine go_v rfl .none rfl Qd ?_;refine bh ?_;refine An ?_;refine aG ?_;refine aA rfl (ks ((j:Int) -1) y5 rfl rfl) ?_;refine bX ?_;refine fm (i+1,(j:Int) -1,(U.set i y).set j x) ⟨bM.swap al J uL,by show(j:Int) -1=(l.length:Int) -1 -((i+1:Nat):Int);omega⟩ (show l.length -(i+1)<l.length -i by omega) de (by dsimp only;rw[show iT ((U.set i y).set j x)=((iT U).set (i*1) (bu y)).set (j*1) (bu x)from by simp[iT,tL]];exact(au))
 . refine bz ?_
   exact aW dD (by rw[<-bM.done (by omega)];exact(au))
end
section
variable(l:List Int)(q E:Nat)(di M:List Int)
def Ry:(iT l).length=l.length*1:=by simp
def Rz:(iT l).all Value.oneCell'=true:=by
 rw[V7];exact pN.2 λx _=>rfl
def RT:(iE l).length=l.length*1:=by simp
def RU:(iE l).all Value.oneCell'=true:=by
 rw[V7];exact pN.2 λx _=>rfl
def aik(h1:di.length<=1099511627776)(h2:M.length<=1099511627776):ad aa 39 [ptr q 0] EE (λu H=>∃a c,u=ul a c di/\H=[fH a c di,gj q E di M]):=by
 refine ax Tryz.func39 λF D=>?_;refine BX ?_;intro ck c1 cl bk;refine cO ?_;refine cj rfl (b4 rfl (ae9 ck c1 di.length (iT di) (fH ck c1 di) (Ry di) (Rz di) ae) bI) ?_;rintro _ D ⟨_,⟨a,c,rfl,rfl⟩,rfl⟩;refine bz ?_;exact aW ⟨a,c,rfl,rfl⟩ (λh s=>Sat.swap (cA (ck,c1,cl,bk) trivial (au) h s))
def ave(h1:di.length<=1099511627776)(h2:M.length<=1099511627776):ad aa 40 [ptr q 0] EE (λu H=>∃a c,u=ul a c M.reverse/\H=[fH a c M.reverse,gj q E di M]):=by
 refine ax Tryz.func40 λF D=>?_;refine BX ?_;intro ck c1 cl bk;refine ae8 ?_;intro a c;exact aW ⟨a,c,by simp,rfl⟩ (λh s=>Sat.swap (cA (ck,c1,cl,bk) trivial Zu h s))
def avf(ck:Option Addr)(c1:Nat)(cl:Option Addr)(bk:Nat)(di M:List Int)(h1:di.length<=1099511627776)(h2:M.length<=1099511627776):ad aa 40 [ptr q 0] PW (λu H=>∃a c,u=ul a c M.reverse/\H=(fH a c M.reverse::PW)):=by
 refine ax Tryz.func40 λF D=>?_;refine ae8 ?_;intro a c;exact aW ⟨a,c,by simp,rfl⟩ Zu
def avg(h1:di.length<=1099511627776)(h2:M.length<=1099511627776):ad aa 357 [ptr q 0] EE (λu H=>∃a c,u=ul a c (M.reverse++di)/\H=[fH a c (M.reverse++di),gj q E [] []]):=by
 refine ax Tryz.func357 λF D=>?_;refine kB ek ?_;rintro⟨ck,c1,cl,bk⟩ -;refine bh ?_;refine h9 [1,6] [1] [(0,.loc),(2,.bJ),(3,.bJ),(4,.bJ),(5,.bJ),(1,.c0),(6,.c0),(7,.loc)] PW mixed gS ?_;refine bz ?_;refine bt (avf q E ck c1 cl bk di M h1 h2) ?_;rintro _ _ ⟨a,c,rfl,rfl⟩;refine er ?_;refine aG ?_;refine go_n rfl .none rfl (Dj rfl rfl ek rfl (Ry di) (Rz di) hW (by simp;unfold maxLen;omega)) ?_;rintro _ _ ⟨b,k,rfl,rfl⟩;refine gi ?_;refine bF ?_;exact aW ⟨b,k,by simp[ul],rfl⟩ (λh s=>by rw[show own (Value.slice b (M.reverse.length+di.length) k) 36 1 (M.reverse.length+di.length) (iT M.reverse++iT di)=fH b k (M.reverse++di)from by simp[fH,ul,iT,ep]]at s;exact Sat.tail (λh s=>cA (none,0,none,0) trivial (λh s=>Sat.tail (λh s=>ii h (ii h (Sat.drop uN))) s) h s) s)
end
end Go.Proofs.YtnnhpnccfnghdaaGreat.L
namespace Go.L
structure yO(fB:List Deferred)(n:Nat)(ak:eA)(a:Act):Prop where
 has:hd n ak {a with defers:=[]}
 XW:a.defers=fB
namespace yO
variable{fB:List Deferred}{n:Nat}{ak:eA}{a:Act}
def put{d:Nat}(v:Value)(h:yO fB n ak a)(aQ:Nat.blt d n=true):yO fB n oN (a.put (some d) v):=⟨h.has.put v aQ,h.XW⟩
end yO
namespace a
end a
end Go.L
namespace Go.L.DD
open Go.L
section
variable{fB:List Deferred}{P:Program}{F:World}{n:Nat}{ak:eA}{I H D:List aq}{Q:Exit->Act->World->Prop}{E:Array Oper}{op:Op}{bC:TypeId}{pos:String}{N:Array Edge}{rest:List Oper}{c c1 bk:Code}
def G(fB:List Deferred)(P:Program)(F:World)(n:Nat)(c:Code)(ak:eA)(I:List aq)(Q:Exit->Act->World->Prop):Prop:=
 ∀a w,yO fB n ak a->db F I w->c.wp P Q a w
def cz(fB:List Deferred)(P:Program)(F:World)(n:Nat)(E:Array Oper)(l:List Oper)(ak:eA)(I:List aq)(Q:Exit->Act->World->Prop):Prop:=
 ∀a w,yO fB n ak a->db F I w->wpList P E Q l a w
def GE(fB:List Deferred)(F:World)(n:Nat)(ak:eA)(I:List aq)(M:Act->World->Prop):Prop:=
 ∀a w,yO fB n ak a->db F I w->M a w
def uM{M:Act->World->Prop}(f:∀h,Sat I h->Sat H h)(h:GE fB F n ak H M):GE fB F n ak I M:=λa w aj s=>h a w aj (s.imp f)
def hA(h:G fB P F n c1 ak I (Exit.then (bk.wp P Q) Q)):G fB P F n (.seq c1 bk) ak I Q:=λa w aj s=>wp_seq qw
def hB(h:G fB P F n bk ak I Q):GE fB F n ak I (Exit.then (bk.wp P Q) Q .normal):=h
def yw{id:Nat}(h:GE fB F n ak I (Q .normal)):GE fB F n ak I (Exit.inBlock id Q .normal):=h
def oL(h:GE fB F n ak I (Q .ret)):G fB P F n .ret ak I Q:=λa w aj s=>wp_ret qw
def jb{id:Nat}{l:List Oper}(h:cz fB P F n l.toArray l ak I Q):G fB P F n (.region id l.toArray false) ak I Q:=λa w aj s=>wp_region_lit qw
def ib(h:GE fB F n ak I (Q .normal)):cz fB P F n E [] ak I Q:=h
def aA{v:Value}{d:Nat}(aQ:Nat.blt d n=true)(V:bU P F n op bC ak I v)(h:cz fB P F n E rest oN I Q):cz fB P F n E Hg ak I Q:=
 λa w aj s=>wpList_plain rfl λK cL=>by
  simp only[Oper.wp,(show(execOp a.eval _).run P w=_ from V {a with defers:=[]} w (some d) pos N none aj.has s),Oper.upon];exact cL _ _ (h _ _ ry s)
def iF(V:c6 P F n op bC ak I H)(h:cz fB P F n E rest ak H Q):cz fB P F n E M6 ak I Q:=
 λa w aj s=>wpList_plain rfl λK cL=>by
  obtain⟨X,aD,aY⟩:=V {a with defers:=[]} w none pos N none aj.has s;simp only[Oper.wp,(show(execOp a.eval _).run P w=_ from aD),Oper.upon];exact cL _ _ (h _ _ aj aY)
def kB{bx:Type}{fR:bx->Prop}{l:bx->List aq}(s:hG (df fR l) I D)(h:∀x,fR x->G fB P F n c ak (l x++D) Q):G fB P F n c ak I Q:=λa w aj st=>by
 obtain⟨x,p,ag⟩:=hb (s.to st.eI);exact h x p a w aj HJ
end
end Go.L.DD
namespace Go.L
end Go.L
namespace Go.L
section
variable{P:Program}{E:Array Oper}{Q:Exit->Act->World->Prop}
def auB{r n:Nat}{f:FuncId}{args:Array Value}{w:World}{D:Ending->World->Prop}(h:Calls P f args w D):CallsIn (Fence.wide.inRound r) n P f args w D:=(callsIn_wide.2 h:CallsIn Fence.wide n P f args w D)
def auC{r n:Nat}{row:String}{args:Array Value}{w:World}{D:Value->World->Prop}(h:Rows P row args w D):RowsIn (Fence.wide.inRound r) n P row args w D:=
 λc cs _=>let⟨v,X,q,s⟩:=h c cs;⟨v,X,q,stepsIn_wide.2 s⟩
def auD{r n:Nat}{o:Oper}{a:Act}{next next':Act->World->Prop}{x:Result Next}(C:¬LetsOut Q)(aS:∀a w,next a w->next' a w)(h:o.upon P a next Q x):o.uponIn (Fence.wide.inRound r) n P a next' Q x:=by
 unfold Oper.upon at h;split at h
 . exact aS _ _ h
 . exact aS _ _ h
 . exact aS _ _ h
 . refine⟨wB,(auB h).mono ?_⟩
   intro e X Y;cases e with
   |returned v=>exact aS _ _ Y
   |panicked c=>exact Y
   |outgrown=>exact Y
 . exact⟨wB,(auC h).mono λv X q=>aS _ _ q⟩
 . exact h
 . exact h.elim
def EX{r n:Nat}(C:¬LetsOut Q)(aQ:∀(i:Nat) (o:Oper),E[i]?=some o->∀c,o.op≠Op.defer c):∀(l:List Nat) (a:Act) (w:World),wpOps P E Q l a w->wpOpsIn (Fence.wide.inRound r) n P E Q l a w
 |[],a,w,h=>h
 |
  i::l,a,w,h=>by
  simp only[wpOps]at h;simp only[wpOpsIn];cases aJ:E[i]?with
  |none=>simp only[aJ]at h⊢;exact EX C aQ l a w h
  |
   some o=>
   simp only[aJ]at h⊢;split
   . rename_i O
     rw[bg O]at h;rcases h with h|⟨_,h⟩
     . refine⟨λ_ _=>trivial,?_⟩
       have e:(o.semAt (Fence.wide.inRound r).round a.eval)=execOp a.eval o:=Oper.semAt_eq _ _ _ (aQ i o aJ);rw[e];exact auD C (λa w h=>EX C aQ l a w h) h
     . exact absurd h C
   . rename_i O
     rw[a6 O]at h;exact⟨λ_ _=>trivial,EX C aQ l _ w h⟩
variable{F:World}{n:Nat}{ak:eA}{I J:List aq}
section
variable{r m id:Nat}{l:List Oper}
theorem gi_draw(cX R:List Nat)(U:List (Nat×mL))(J:List aq)(bb:P.follows .mixedOrders=true)(cc:yS l cX R U=true)(C:¬LetsOut Q)(aQ:∀(i:Nat) (o:Oper),l.toArray[i]?=some o->∀c,o.op≠Op.defer c)
 (h:cT P F n l.toArray R U ak I J (Q .normal)){a:Act}{w:World}(aj:hd n ak a)(s:db F I w):(Code.region id l.toArray true).wpIn (Fence.wide.inRound r) m P Q a w:=by
 refine wpIn_region_draw λt=>EX C aQ _ _ _ ?_;have q:=h a _ aj s.drew;simp only[yS,iy]at cc;obtain⟨⟨E,aw⟩,b⟩:=cc;have W:U.length=l.length:=lr aw;have:=HP (Q:=Q) (M:=Q .normal) (λ_ _ h=>h) _ _ _ _ (yT E U _ a _ NZ b q);rw[W]at this;simp only[Region.schedule,bb,mn,fk];exact wpAny_sound _ t _ a _ (by simpa using this)
theorem gi_region(C:¬LetsOut Q)(aQ:∀(i:Nat) (o:Oper),l.toArray[i]?=some o->∀c,o.op≠Op.defer c)
 (h:cz P F n l.toArray l ak I Q){a:Act}{w:World}(aj:hd n ak a)(s:db F I w):(Code.region id l.toArray false).wpIn (Fence.wide.inRound r) m P Q a w:=by
 refine wpIn_region (EX C aQ _ _ _ ?_);rw[List.range_eq_range',<-Array.length_toList,wpOps_eq_wpList l.toArray.toList 0 fW];exact h a w aj s
end
variable{c:Code}{fn:Func}{post:Value->List aq->Prop}{D:List aq}
section
variable{r m id:Nat}{l:List Oper}{H:List aq}
theorem auE{f:FuncId}{args:List Value}(a8:P.funcs[f]?=some fn)(az:fn.body=some c){ce:Nat}(aS:fn.ntmps=ce)(aw:Nat.ble args.length ce=true)
 (h:∀F D,G P F ce c (args.zipIdx.map fun(v,i)=>(i,v)) (I++D) (bodyPostM Fence.wide 3 P fn λe X=>∃v H,e=.returned v/\post v H/\db F (H++D) X)):ad P f args I post:=by
 intro F D w s;subst aS;exact callsIn_wide.1 (callsIn_of_wp_marks (n:=3) a8 az trivial (wpIn_wide.2 (h F D _ _ (Wk args _ (Dq aw)) s)))
theorem auF{z:Nat}{v:Value}{e:Exit}(Y:e=.ret\/e=.normal)(aD:∀a w,hd n ak a->(results fn a.tmps).run P w=.ok v w)(H:List aq)(hp:post v H)(B:∀h,Sat I h->Sat (H++D) h):
 DD.GE [{target:=.collected z,args:=#[]}] F n ak (ev z yh::I) (bodyPostM Fence.wide 3 P fn acb e):=λa w aj s=>by
 have k:LeavesInM Fence.wide 3 P fn a.tmps acb a.defers .returning w:=by
  rw[aj.XW];have Z:=db.set s (b:=z) (.deferred none);exact⟨by simp,.inl ⟨_,_,rfl,run_takeDeferred (s.heap (b:=z)),v,aD {a with defers:=[]} _ aj.has,v,H,rfl,hp,Z.imp λh t=>B h (Sat.drop t)⟩⟩
 rcases Y with rfl|rfl<;>exact k
def R8(l:List Oper):Bool:=l.all λo=>match o.op with
 |.defer _=>false
 |_=>true
def ah2(h:R8 l=true)(i:Nat)(o:Oper)(aJ:l.toArray[i]?=some o):∀c,o.op≠Op.defer c:=λc e=>by
 have:=pN.1 h o (h0 GV);rw[e]at this;cases this
def wg(r m:Nat)(P:Program)(F:World)(n:Nat)(c:Code)(ak:eA)(I:List aq)(Q:Exit->Act->World->Prop):Prop:=
 ∀a w,hd n ak a->db F I w->c.wpIn (Fence.wide.inRound r) m P Q a w
def yi(F:World)(I:List aq):Exit->Act->World->Prop:=λe _ w=>e=.normal/\db F I w
theorem auG{id:Nat}:¬LetsOut (Exit.inBlock id (yi F H)):=fun⟨_,_,h⟩=>by cases(show Exit.outgrown=Exit.normal from h.1)
theorem gi_block(h:wg r m P F n c ak I (Exit.inBlock id (yi F H))):wg r m P F n (.block id c) ak I (yi F H):=λa w aj s=>wpIn_block qw
theorem gi_drw{b:Nat}(cX R:List Nat)(U:List (Nat×mL))(J:List aq)(bb:P.follows .mixedOrders=true)(cc:yS l cX R U=true)(aQ:R8 l=true)
 (h:cT P F n l.toArray R U ak I J (Exit.inBlock b (yi F H) .normal)):wg r m P F n HT ak I (Exit.inBlock b (yi F H)):=λa w aj s=>
 gi_draw cX R U J bb cc auG (ah2 aQ) h aj s
theorem gi_reg(C:¬LetsOut Q)(aQ:R8 l=true)(h:cz P F n l.toArray l ak I Q):wg r m P F n (.region id l.toArray false) ak I Q:=λa w aj s=>gi_region C (ah2 aQ) h aj s
def auH(B:∀h,Sat I h->Sat H h):GE F n ak I (yi F H .normal):=λa w aj s=>⟨rfl,s.imp B⟩
def gi_open{bx:Type}{fR:bx->Prop}{l:bx->List aq}(s:hG (df fR l) I D)(h:∀x,fR x->wg r m P F n c ak (l x++D) Q):wg r m P F n c ak I Q:=λa w aj st=>by
 obtain⟨x,p,ag⟩:=hb (s.to st.eI);exact h x p a w aj HJ
end
end
end Go.L
