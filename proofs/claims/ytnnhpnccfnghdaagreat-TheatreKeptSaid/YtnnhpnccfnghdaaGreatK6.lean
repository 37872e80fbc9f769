import Derived.Test.YtnnhpnccfnghdaaGreatK5
set_option linter.all false
set_option maxRecDepth 8000
set_option maxHeartbeats 16000000
namespace Go.Proofs.YtnnhpnccfnghdaaGreat.L
open Go.L Go.L.Lx Go.L.Pg Go.L.Th
attribute[local irreducible] G cz GE cT GT bU c6 cY dc Exit.then Exit.inBlock
abbrev vw:=Int×Option Addr×Nat×List Int
section
variable(x:Int)(q r:Nat)(e:Option Addr×Nat×List Int){A:aq}{L:List l7}(E z c now:Int){w:cy}(es:List vw)(g:List (Int×List Int))
abbrev ER:Value:=hL e.1 e.2.1 e.2.2
abbrev ahD:aq:=dv e.1 e.2.1 e.2.2
abbrev pr:List (Int×Value):=es.map λp=>(p.1,ER p.2)
abbrev nj:List aq:=es.map λp=>ahD p.2
abbrev oX:List (Int×List Int):=es.map λp=>(p.1,p.2.2.2)
def nR(r:Nat)(es:List vw):List aq:=[ab q 289 [af E,af z,.map (some r)],b2 r .i64 (pr es),ay (nj es)]
def h4:aq:=df (bx:=Nat×List vw) (λe=>oX e.2=g) (λe=>nR q E z e.1 e.2)
instance aC9:gN eX A 0 []:=⟨λ_=>.inl ⟨rfl,rfl,rfl⟩⟩
def RP{z:Type}:∀{es:List (Int×z)} {c:Int} {v:z},dH es c=some v->∃i,es[i]?=some (c,v)/\∀w,eQ es c w=es.set i (c,w)
 |
  (j,u)::r,c,v,h=>by
  simp only[dH]at h;split at h
  . rename_i e;cases h;subst e;exact⟨0,rfl,λw=>by simp[eQ]⟩
  . rename_i e
    obtain⟨i,h1,h2⟩:=RP h;exact⟨i+1,h1,λw=>by simp[eQ,e,h2 w]⟩
def RQ{z:Type}:∀{es:List (Int×z)} {c:Int},dH es c=none->∀w,eQ es c w=es++[(c,w)]
 |[],c,_,w=>rfl
 |
  (j,u)::r,c,h,w=>by
  simp only[dH]at h;split at h
  . cases h
  . rename_i e;simp[eQ,e,RQ h w]
def RR(c:Int):dU (oX es) c=((dH es c).map (λe=>e.2.2)).getD []:=by
 unfold dU oX;rw[yW (λe:Option Addr×Nat×List Int=>e.2.2)]
def ahE:∀(es:List vw) (c:Int),oX (mm es c)=qd (oX es) c
 |[],c=>rfl
 |
  (j,u)::r,c=>by
  simp only[mm,oX,gz,qd];split
  . rfl
  . simp only[gz];congr 1;exact ahE r c
def ahF:∀(es:List vw) (c:Int),mm (pr es) c=pr (mm es c)
 |[],c=>rfl
 |
  (j,u)::r,c=>by
  simp only[mm,pr,gz];split
  . rfl
  . simp only[gz];congr 1;exact ahF r c
def ahG{D:List aq}:∀(es:List vw) (c:Int),∀h,Sat (ay (nj es)::D) h->Sat (ay (nj (mm es c))::D) h
 |[],c,h,s=>s
 |
  (j,u)::r,c,h,s=>by
  simp only[mm];split
  . exact Sat.flat.2 (Sat.drop (Sat.flat.1 s))
  . have s1:Sat (ahD u::(nj r++D)) h:=Sat.flat.1 s
    exact Sat.flat.2 (Sat.tail (r:=nj r++D) (S:=nj (mm r c)++D) (λh s=>Sat.flat.1 (ahG r c h (Sat.flat.2 s))) s1)
def Sat.LZ{B C:aq}{D:List aq}{h:dR}(s:Sat (A::B::C::D) h):Sat (B::C::A::D) h:=Sat.tail (r:=A::C::D) (λ_=>Sat.swap) (Sat.swap s)
def RS{l:List aq}{A:aq}{i:Nat}{D:List aq}(e:l[i]?=some A):∀h,Sat (A::ay (l.set i fu)::D) h->Sat (ay l::D) h:=λh s=>by
 obtain⟨al,rfl⟩:=dd.1 e;have:=uZ al h s;rwa[A1]at this
def ati{es:List vw}{c:Int}(h:dH es c=none):dH (oX es) c=none:=by
 unfold oX;rw[yW (λe:Option Addr×Nat×List Int=>e.2.2),h];rfl
def atj{es:List vw}{c:Int}(h:dH es c=none):dH (pr es) c=none:=by
 unfold pr;rw[yW ER,h];rfl
def atk{es:List vw}{c:Int}{e:Option Addr×Nat×List Int}(h:dH es c=some e):dH (pr es) c=some (ER e):=by
 unfold pr;rw[yW ER,h];rfl
def qQ(l:List Int)(now:Int):Int:=max (E -((l.filter (λt=>!decide (t<=ht now -z))).length:Int)) 0
def KK:ad aa 354 [af x] [] (aF (af (ht x)) []):=by
 refine ax Tryz.func354 λF D=>?_;refine bH ?_;refine aA rfl (ti (max x 0) ae rfl rfl) ?_;refine aA rfl (uw (ht x) OT rfl rfl) ?_;refine bz ?_;exact aW ⟨rfl,rfl⟩
def asb:ad aa 115 [af E,af z] [] (λu H=>∃q,u=ptr q 0/\H=[h4 q (min (max E 0) 100) (min (max z 1) 4095) []]):=by
 refine ax Tryz.func115 λF D=>?_;refine bH ?_;refine aA rfl (ti (max E 0) ae rfl rfl) ?_;refine aA rfl (uw (min (max E 0) 100) ae rfl rfl) ?_;refine aG ?_;refine aA rfl (ti (max z 1) ae rfl rfl) ?_;refine aA rfl (uw (min (max z 1) 4095) ae rfl rfl) ?_;refine wn λb=>?_;refine aG ?_;refine wn λf=>?_;refine bz ?_;exact aW ⟨f,rfl,rfl⟩ (cA (b,[]) rfl (λh s=>Sat.tail (λh s=>Bt h (Sat.swap (w0 h s))) s))
def ahH(bB fX:Nat)(E z now x:Int)(m:Value)(aS:0<=now/\now<=1099511627776)(O:1<=z/\z<=4095):ad aa 398 [af x,ptr fX 0,ptr bB 0] PX (aF (.bool (decide (x<=now -z))) PX):=by
 refine ax Tryz.func398 λF D=>?_;refine bh ?_;refine ct [] [9] PX ?_;refine bh ?_;refine go_v rfl .none rfl (ks (now -z) (jv ae) rfl rfl) ?_;exact J4
def atl(aw:0<=E/\E<=100)(O:1<=z/\z<=4095)(i:Nat)(a0:Option Addr)(fi:Nat)(l:List Int)(aX:dH es c=some (a0,fi,l))(al:es[i]?=some (c,a0,fi,l))(L:l.length<=1099511627776):ad aa 353 [ptr q 0,af c,af now] (nR q E z r es) (aF (af (qQ E z l now)) (nR q E z r es)):=by
 refine ax Tryz.func353 λF D=>?_;unfold nR;have g6:0<=ht now/\ht now<=1099511627776:=OT;refine gb ?_;have b:∀l:List Int,l.length<=1099511627776->-9223372036854775808<=E -((l.filter (λx=>!decide (x<=ht now -z))).length:Int)/\E -((l.filter (λx=>!decide (x<=ht now -z))).length:Int)<=9223372036854775807:=λl aw=>Zn;have g3:(nj es)[i]?=some (dv a0 fi l):=(by unfold nj;rw[fe,al];rfl);refine a7 ?_;refine wn λZ=>?_;refine wn λaO=>?_;refine bh ?_;refine aV (KK now) ?_;refine cU ?_;refine aA rfl (lA (hL a0 fi l) OU rfl rfl) ?_;refine apV ek g3 ?_;refine cj rfl (b4 rfl (ES a0 fi l.length (iE l) (dv a0 fi l) (RT l) (RU l) ae) bI) ?_;rintro _ D ⟨_,⟨a,k,rfl,rfl⟩,rfl⟩;refine th ?_;refine aV (KL l a k 398 [ptr aO 0,ptr Z 0] [ab aO 3 [af (ht now)],ab Z 113 [ptr q 0],ab q 289 [af E,af z,.map (some r)]] (λt=>decide (t<=ht now -z)) L (λx _=>ahH q Z aO E z (ht now) x (.map (some r)) g6 O)) ?_;refine cO ?_;refine aA rfl (ks (E -((l.filter (λx=>!decide (x<=ht now -z))).length:Int)) (jv (b l L)) rfl rfl) ?_;refine aA rfl (ti (qQ E z l now) (by unfold qQ;omega) rfl rfl) ?_;refine bz ?_;exact aW (H:=(nR q E z r es)) dD (by unfold nR;exact λh s=>Sat.LZ (RS g3 h ((au) h s)))
def acy(aw:0<=E/\E<=100)(O:1<=z/\z<=4095)(az:∀p∈es,p.2.2.2.length<=1099511627776):ad aa 353 [ptr q 0,af c,af now] (nR q E z r es) (aF (af (qQ E z (dU (oX es) c) now)) (nR q E z r es)):=by
 rw[RR];cases aX:dH es c with
 |
  none=>
  refine ax Tryz.func353 λF D=>?_;unfold nR;have g6:0<=ht now/\ht now<=1099511627776:=OT;simp only[cn,ci];have b:∀l:List Int,l.length<=1099511627776->-9223372036854775808<=E -((l.filter (λx=>!decide (x<=ht now -z))).length:Int)/\E -((l.filter (λx=>!decide (x<=ht now -z))).length:Int)<=9223372036854775807:=λl aw=>Zn;refine a7 ?_;refine wn λZ=>?_;refine wn λaO=>?_;refine bh ?_;refine aV (KK now) ?_;refine cU ?_;refine aA rfl (lA (.slice none 0 0) OU rfl rfl) ?_;refine r9 yc ?_;refine cj rfl (b4 rfl (ES none 0 0 [] fu rfl rfl bN) bI) ?_;rintro _ D ⟨_,⟨a,k,rfl,rfl⟩,rfl⟩
  try simp only[cn,ci]
  refine aG ?_;refine cj rfl (b4 rfl (KL [] a k 398 [ptr aO 0,ptr Z 0] [ab aO 3 [af (ht now)],ab Z 113 [ptr q 0],ab q 289 [af E,af z,.map (some r)]] (λt=>decide (t<=ht now -z)) fW (λx _=>ahH q Z aO E z (ht now) x (.map (some r)) g6 O)) bI) ?_;rintro _ D ⟨_,⟨rfl,rfl⟩,rfl⟩
  try simp only[cn,ci]
  refine cO ?_;refine aA rfl (ks (E -((([]:List Int).filter (λx=>!decide (x<=ht now -z))).length:Int)) (jv (b ([]:List Int) fW)) rfl rfl) ?_;refine aA rfl (ti (qQ E z ([]:List Int) now) (by unfold qQ;omega) rfl rfl) ?_;refine bz ?_;exact aW (H:=(nR q E z r es)) ⟨rfl,rfl⟩ (by unfold nR;exact(au))
 |
  some e=>
  obtain⟨a0,fi,l⟩:=e;obtain⟨i,al,_⟩:=RP aX;exact atl q r E z c now es aw O i a0 fi l aX al (az _ (h0 al))
def atm(aw:0<=E/\E<=100)(O:1<=z/\z<=4095)(az:∀p∈es,p.2.2.2.length<=1099511627776)(T:qQ E z (dU (oX es) c) now=0):ad aa 303 [ptr q 0,af c,af now] (nR q E z r es) (aF gQ [h4 q E z (oX es)]):=by
 refine ax Tryz.func303 λF D=>?_;refine cO ?_;refine cj rfl (b4 rfl (acy q r E z c now es aw O az) xd) ?_;refine gP ?_;refine fj ?_;refine aA rfl acA ?_;refine cO ?_;exact aW ⟨rfl,rfl⟩ (cA (r,es) rfl (au))
def zA(c now:Int):List (Int×List Int):=if qQ E z (dU g c) now=0 then g else eQ g c (dU g c++[ht now])
def atn(aw:0<=E/\E<=100)(O:1<=z/\z<=4095)(az:∀p∈g,p.2.length<1099511627776):ad aa 303 [ptr q 0,af c,af now] [h4 q E z g] (aF (.bool (!decide (qQ E z (dU g c) now=0))) [h4 q E z (zA E z g c now)]):=by
 refine kC (λe Y=>?_);obtain⟨r,es⟩:=e;replace Y:oX es=g:=Y;subst Y;rw[jj];have m0:∀p∈es,p.2.2.2.length<1099511627776:=λp hp=>az (p.1,p.2.2.2) (jS.2 ⟨p,hp,rfl⟩);have j:∀p∈es,p.2.2.2.length<=1099511627776:=λp hp=>xz (m0 p hp);unfold zA;by_cases T:qQ E z (dU (oX es) c) now=0
 . rw[bg T,lM T];exact atm q r E z c now es aw O j T
 . rw[a6 T,mJ T]
   cases aX:dH es c with
   |
    none=>
    refine ax Tryz.func303 λF D=>?_;refine cO ?_;refine cj rfl acx ?_;rintro _ D ⟨_,⟨rfl,rfl⟩,rfl⟩
    try simp only[cn,ci]
    refine aA rfl Qn ?_;refine bh ?_;simp only[nR,cn,ci];refine lh (ii (e:=3) (aT:=1)) ?_;refine ct [12,13,14] [111,1,204] acn ?_;refine cU ?_;refine go_vs rfl .none rfl (lA eX OU rfl rfl) (au) ?_;refine aG ?_;refine aV (KK now) ?_;refine aG ?_;refine wn λn=>?_;refine aG ?_;refine gp λb f=>?_;refine cO ?_;exact aW ⟨rfl,rfl⟩ (cA (r,es++[(c,b,f,[ht now])]) (by rw[RR,aX];show oX (es++_)=_;rw[RQ (ati aX)];simp[oX]) (by simp only[nR];rw[RQ (atj aX),show pr (es++[(c,b,f,[ht now])])=pr es++[(c,hL b f [ht now])]from by simp[pr],show nj (es++[(c,b,f,[ht now])])=nj es++[dv b f [ht now]]from by simp[nj]];exact λh s=>Sat.LZ (tB (A:=dv b f [ht now]) (l:=nj es) h ((au) h s))))
   |
    some e=>
    obtain⟨a0,fi,l⟩:=e;obtain⟨i,al,a⟩:=RP aX;have L:l.length<1099511627776:=(m0 _ (h0 al));refine ax Tryz.func303 λF D=>?_;have g3:(nj es)[i]?=some (dv a0 fi l):=(by unfold nj;rw[fe,al];rfl);obtain⟨B,-⟩:=dd.1 al;refine cO ?_;refine cj rfl acx ?_;rintro _ D ⟨_,⟨rfl,rfl⟩,rfl⟩
    try simp only[cn,ci]
    refine aA rfl Qn ?_;refine bh ?_;simp only[nR,cn,ci];refine u6 ek g3 ?_;refine ct [12,13,14] [111,1,204] acn ?_;refine cU ?_;refine go_vs rfl .none rfl (lA (hL a0 fi l) (by rw[atk aX];rfl) rfl rfl) (au) ?_;refine aG ?_;refine aV (KK now) ?_;refine aG ?_;refine wn λn=>?_;refine aG ?_;refine gp λb f=>?_;refine cO ?_;exact aW ⟨rfl,rfl⟩ (cA (r,eQ es c (b,f,l++[ht now])) (by rw[RR,aX];exact(D4 (λe:Option Addr×Nat×List Int=>e.2.2) es c (b,f,l++[ht now])).symm) (by simp only[nR];rw[show pr (eQ es c (b,f,l++[ht now]))=eQ (pr es) c (hL b f (l++[ht now]))from(D4 ER es c (b,f,l++[ht now])).symm,show nj (eQ es c (b,f,l++[ht now]))=(nj es).set i (dv b f (l++[ht now]))from by rw[a];simp[nj,tL]];exact λh s=>Sat.LZ (uZ (A:=dv b f (l++[ht now])) (l:=nj es) (by simpa[nj]using B) h (by rw[<-ato rfl,show hL b f (l++[ht now])=.slice b (l.length+1) f from by simp[hL]]at*;exact(au) h s))))
def atp:ad aa 248 [ptr q 0,af c] [h4 q E z g] (aF et [h4 q E z (qd g c)]):=by
 refine ax Tryz.func248 λF D=>?_;refine kB ek ?_;rintro⟨r,es⟩ a;replace a:oX es=g:=a;subst a;simp only[nR,cn,ci];refine bh ?_;refine A4 (ON rfl rfl) ?_;rintro _ _ ⟨rfl,rfl⟩;refine a7 ?_;exact aW ⟨rfl,rfl⟩ (cA (r,mm es c) (ahE es c) (by simp only[nR];rw[ahF];exact λh s=>Sat.LZ (ahG es c h ((au) h s))))
def atq(aB:Nat)(w:cy)(x:l7):ad aa 351 [.agg (ik x).toArray,ptr aB 0] Ae (aF (.bool (decide (x.reason=w))) Ae):=by
 refine ax Tryz.func351 λF D=>?_;exact L5
def atr(h:¬0<=fix (λx:l7=>decide (x.reason=w)) L):L.find? (λx=>decide (x.reason=w))=none:=by
 rw[RV,Bool.not_eq_true,ET]at h;rw[RW];exact h
def ats(h:0<=fix (λx:l7=>decide (x.reason=w)) L):∃(i:Nat) (x:l7),fix (λx:l7=>decide (x.reason=w)) L=i/\L[i]?=some x/\L.find? (λx=>decide (x.reason=w))=some x:=by
 cases a8:L.find? (λx=>decide (x.reason=w))with
 |none=>rw[aeQ a8]at h;exact absurd h bN
 |some x=>obtain⟨i,h1,h2,_⟩:=CN a8;exact⟨i,x,h1,h2,rfl⟩
def arF(k:b1)(reason:cy)(ba:aq)[gN Ab ba k.cases.length tf](aS:k.cases.length<=4611686018427387904):ad aa 299 [.agg (dO k).toArray,S reason] [ba] (aF (af (direct k reason)) [ba]):=by
 refine ax Tryz.func299 λF D=>?_;refine a7 ?_;refine wn λU=>?_;refine ch ?_;refine wn λcx=>?_;refine bz ?_;refine gO (bx:=Nat) (λx=>x<=2/\(1<=x->k.cases.find? (λc=>decide (c.reason=reason))=none)/\(2<=x->k.cases.find? (λc=>decide (c.reason=[]))=none)) (λx=>[(11,af x),(10,af 2),(9,.slice (some ⟨cx,0,none⟩) 2 2),(2,ptr U 0)]) (λ_=>ab cx 9 [S reason,S []]::ab U 78 (dO k)::ba::D) (λx=>2 -x) 0 (⟨by decide,(λh=>by omega),(λh=>by omega)⟩) de (au) ?_;rintro x ⟨ag,T,m⟩;replace ag:x<=2:=ag;replace T:1<=x->k.cases.find? (λc=>decide (c.reason=reason))=none:=T;replace m:2<=x->k.cases.find? (λc=>decide (c.reason=[]))=none:=m;refine bh ?_;refine b6 (λW=>?_) (λW=>?_)
 . obtain⟨w,O,b⟩:∃w,([S reason,S []]:List Value)[x]?=some (S w)/\(x=0/\w=reason\/x=1/\w=[]):=(by rcases(show x=0\/x=1 by omega)with rfl|rfl;exact⟨reason,rfl,.inl dD⟩;exact⟨[],rfl,.inr dD⟩)
   refine bh ?_;refine aA rfl (fA rfl rfl (show x<2 by omega)) ?_;refine aA rfl (gy rfl (by rw[rm];exact O)) ?_;refine wn λaR=>?_;refine bH ?_;refine aV (att k.cases k.ca k.kg 351 [ptr aR 0] [ba,ab aR 9 [S w]] (λx=>decide (x.reason=w)) aS (λh s=>iX.get s) (λx _=>ye (atq aR w x))) ?_;refine cr ?_;refine b6 (λI=>?_) (λI=>?_)
   . obtain⟨i,kg,d,y,a⟩:=ats I
     rw[d];refine bz ?_;refine aA rfl (fA rfl rfl (dd.1 y).1) ?_;refine aG ?_;refine aA rfl (gy rfl (lL ik 2 wa y rfl)) ?_;refine cU ?_;exact aW ⟨by unfold direct;rcases b with⟨rfl,rfl⟩|⟨rfl,rfl⟩;rw[a];rw[T bN,a],rfl⟩
   . have a:=atr (O8.2 I)
     refine C5 ?_;refine fm (x+1) ⟨show x+1<=2 by omega,λ_=>(by rcases b with⟨rfl,rfl⟩|⟨rfl,rfl⟩;exact a;exact T (by decide)),λh=>(by rcases b with⟨rfl,rfl⟩|⟨rfl,rfl⟩;omega;exact a)⟩ (show 2 -(x+1)<2 -x by omega) de (au)
 . obtain rfl:x=2:=by omega
   refine dx ?_;exact aW ⟨by unfold direct;rw[T bN,m bN],rfl⟩
end
abbrev nl:=Int×Int×Int
section
variable(cs:List (Int×Int))(q rc n:Nat)(d:List nl)(e:nl)(w:Int)
def B9:List Value:=[bu e.1,af e.2.1,af e.2.2]
def aic:(B9 e).length=3:=rfl
def oZ(why:Int):Nat:=(d.filter λe=>decide (e.2.2=why)).length
def xG(rc:Nat):Nat->List nl->List nl->List nl
 |_,[],row=>row
 |k,e::d,row=>xG rc (k+1) d (row.set (k%rc) e)
def ua:List nl:=xG rc 0 d (List.replicate rc (0,0,0))
def aid(rc:Nat)(e:nl):∀(d:List nl) (k:Nat) (row:List nl),xG rc k (d++[e]) row=(xG rc k d row).set ((k+d.length)%rc) e
 |[],k,row=>rfl
 |x::d,k,row=>by simp only[cn,xG,aid rc e d (k+1),iY];congr 2;omega
def au3:ua rc (d++[e])=(ua rc d).set (d.length%rc) e:=by unfold ua;rw[aid,kR]
def aie(rc:Nat):∀(d:List nl) (k:Nat) (row:List nl),(xG rc k d row).length=row.length
 |[],k,row=>rfl
 |x::d,k,row=>by simp only[xG,aie rc d,gq]
def KT:(ua rc d).length=rc:=by unfold ua;rw[aie,UC]
def au4:oZ (d++[e]) w=oZ d w+if e.2.2=w then 1 else 0:=by
 unfold oZ;rw[yY,ep];by_cases h:e.2.2=w<;>simp[h]
def au5:(ua n []).flatMap B9=iS [bu 0,af 0,af 0] n:=by
 unfold ua xG
 induction n with
 |zero=>rfl
 |succ n L=>rw[List.replicate_succ,pP,L];rfl
abbrev zD:List (Int×Value):=cs.map λp=>(p.1,af p.2)
def Sh:Prop:=∀w,(dH cs w).getD 0=(oZ d w:Int)
def sB:Nat:=if rc=0 then 0 else n%rc
def aif{rc n:Nat}(h:0<rc):sB rc n=n%rc:=by unfold sB;rw[a6 ae]
def E0(r:Nat)(a:Option Addr)(c:Nat)(cs:List (Int×Int)):List aq:=[ab q 168 [.map (some r),.slice a rc c,af ((sB rc d.length:Nat):Int),af d.length],b2 r .i64 (zD cs),own (.slice a rc c) 54 3 rc ((ua rc d).flatMap B9)]
def ey:aq:=df (bx:=Nat×Option Addr×Nat×List (Int×Int)) (λe=>Sh e.2.2.2 d) (λe=>E0 q rc d e.1 e.2.1 e.2.2.1 e.2.2.2)
def au6(E:Value)(T:E=af 0):(dH (zD cs) w).getD E=af ((dH cs w).getD 0):=by
 subst T;unfold zD;rw[yW af];cases dH cs w<;>rfl
def aih{cs:List w3}{d:List nl}(h:Sh cs d)(i t w:Int):Sh (eQ cs w ((oZ d w:Int)+1)) (d++[(i,t,w)]):=λv=>by
 rw[OJ,au4];by_cases e:v=w
 . subst e;simp
 . rw[a6 e,a6 (λh=>e h.symm)];exact h v
def au7:oZ d w<=d.length:=qG _ _
def au8{α:Type}(f:α->List Value)(aT:Nat)(a8:∀x,(f x).length=aT){l:List α}{k:Nat}(e:α)(hk:k<l.length):jX (l.flatMap f) (k*aT) (f e)=(l.set k e).flatMap f:=by
 have aw:=kz f aT a8 l;have K:(k+1)*aT<=l.length*aT:=p5 _ hk;rw[mX,vt]at K;rw[r4 _ _ _ (by rw[a8,aw];exact K),a8];have aB:(l.flatMap f).take (k*aT)=(l.take k).flatMap f:=by
  have aU:l.flatMap f=(l.take k).flatMap f++(l.drop k).flatMap f:=Zt;rw[aU,D7 Up]
 have bB:(l.flatMap f).drop (k*aT+aT)=(l.drop (k+1)).flatMap f:=by
  rw[show k*aT+aT=(k+1)*aT by rw[mX,vt]];exact Iu f aT a8 l (k+1)
 rw[aB,bB,alU,bg hk,o5,pP,jI]
def asq(rc:Int)(aD:0<=rc/\rc<=64):ad aa 57 [af rc] [] (λu H=>∃q,u=ptr q 0/\H=[ey q rc.toNat []]):=by
 refine ax Tryz.func57 λF D=>?_;refine ch ?_;refine wn λZ=>?_;refine aG ?_;refine aA rfl (ti rc ae rfl rfl) ?_;refine aA rfl (uw ((rc.toNat:Nat):Int) ae rfl rfl) ?_;refine iQ rfl (Mf (k:=rc.toNat) rfl rfl wu ae) ?_;rintro _ _ ⟨e,S,rfl,rfl⟩;refine aG ?_;refine wn λcx=>?_;refine bz ?_;exact aW ⟨cx,rfl,rfl⟩ (cA (Z,e,S,[]) (λw=>rfl) (by dsimp only[E0];rw[au5,show sB rc.toNat ([]:List nl).length=0 from(by unfold sB;split;rfl;exact Nat.zero_mod _)];exact λh s=>Sat.tail (λh s=>Bt h (Sat.swap s)) s))
def au9(i t w:Int)(aD:rc<=64)(O:1<=w/\w<=5)(aQ:d.length<=1099511627776):ad aa 204 [ptr q 0,bu i,af t,af w] [ey q rc d] (aF (af 0) [ey q rc (d++[(i,t,w)])]):=by
 refine ax Tryz.func204 λF D=>?_;refine kB ek ?_;rintro⟨r,a,c,cs⟩ B;replace B:=B;simp only[E0,cn,ci];have g:=au7 d w;have L:(d++[((i,t,w):nl)]).length=d.length+1:=fW;refine cr ?_;refine cH ?_;refine bF ?_;refine cH ?_;refine fx ?_;refine aA rfl (lA (af (oZ d w)) (by rw[au6 _ _ _ rfl,B w]) rfl rfl) ?_;refine aA rfl (fo ((oZ d w:Int)+1) (jv ae) rfl rfl) ?_;refine cr ?_;refine aA rfl (fo ((d.length:Int)+1) (jv ae) rfl rfl) ?_;refine nr ?_;refine b6 (λW=>?_) (λW=>?_)
 . have z2:0<rc:=by omega
   have e:d.length%rc<rc:=yP _ ae;have b:=aif (n:=d.length) z2;have f:sB rc (d.length+1)=(sB rc d.length+1)%rc:=(by rw[aif z2,b,Nat.mod_add_mod]);refine aG ?_;refine ct [] [13,201] abc ?_;refine dx ?_;refine JT ?_;refine go_u rfl .none (Iw (M:=B9 (i,t,w)) rfl rfl rfl rfl (show sB rc d.length*3+3<=_ by rw[kz B9 3 aic,KT];omega) (show 0<3 by decide)) Ai ?_;refine a7 ?_;refine ct [] [14,201] abc ?_;refine bz ?_;refine go_v rfl .none rfl (fo (((sB rc d.length+1:Nat):Int)) eV rfl rfl) ?_;refine bz ?_;refine go_v rfl .none rfl (ts (((sB rc d.length+1)%rc:Nat):Int) (Bg _ _) rfl rfl ae) ?_;refine dx ?_;exact aW ⟨rfl,rfl⟩ (cA (r,a,c,eQ cs w ((oZ d w:Int)+1)) (aih B i t w) (by dsimp only[E0];rw[L,au3,<-au8 B9 3 aic _ (by rw[KT];exact e),f,<-b,Int.natCast_add d.length 1,show zD (eQ cs w ((oZ d w:Int)+1))=eQ (zD cs) w (af ((oZ d w:Int)+1))from(D4 af cs w ((oZ d w:Int)+1)).symm];exact(au)))
 . obtain rfl:rc=0:=by omega
   refine cr ?_;exact aW ⟨rfl,rfl⟩ (cA (r,a,c,eQ cs w ((oZ d w:Int)+1)) (aih B i t w) (by dsimp only[E0];rw[L,show ua 0 (d++[((i,t,w):nl)])=ua 0 d from by rw[rn (KT 0 d),rn (KT 0 _)],Int.natCast_add d.length 1,show zD (eQ cs w ((oZ d w:Int)+1))=eQ (zD cs) w (af ((oZ d w:Int)+1))from(D4 af cs w ((oZ d w:Int)+1)).symm];exact(au)))
end
end Go.Proofs.YtnnhpnccfnghdaaGreat.L
namespace Go.Proofs.YtnnhpnccfnghdaaGreat.L
open Go.L Go.L.Lx Go.L.Pg
open Go.L.Th (o4 nq hi qk rowOf mI kZ lf ds)
attribute[local irreducible] G cz GE cT GT bU c6 cY dc Exit.then Exit.inBlock
section
variable{k:b1}{s:fb}{ba:aq}
theorem L1{P:Program}{F:World}{n:Nat}{ak:eA}{I D:List aq}{fn:Func}{post:Value->List aq->Prop}{e:Exit}(Y:e=.ret\/e=.normal){t b bv aT q:Nat}{T te:TypeId}{l M:List Value}{O:Nat×Nat}{y:Value}{u:Obj->List aq}[i:jR P T aT][j:k0 b I (.cells l.toArray te O) u](a8:fn.results=#[.cell t T,.tmp q])(h1:gL ak t=some (ptr b bv))(h2:gL ak q=some y)(V:(l.drop bv).take aT=M)(aw:M.length=aT)(H:List aq)(hp:post (.tuple #[.agg M.toArray,y]) H)(B:∀h,Sat I h->Sat (H++D) h):
 GE F n ak I vW:=
 x6 Y (λa w aj s=>by
  obtain⟨J,W,cE⟩:=i.out;obtain⟨z,d8,f9⟩:=i.size;have az:=s.heap (b:=b);have a2:=run_loadCells_list (P:=P) w rb M (λk v hk=>by
   rw[<-V]at hk;have:=z8 hk;rw[uo];simp[World.cell?,az,this])
  rw[aw]at a2;simp[results,a8,aj.val _ _ h1,aj.val _ _ h2,asAddr,loadVar,Aa W cE,ji d8,f9,a2]) H hp B
def alD{s:cy}{i:Nat}(h:nq s=some i):i<4:=by
 unfold nq at h;(repeat' split at h)<;>cases h<;>decide
def gM(k:b1):aq:=λh=>kM h k
instance aC7:gN Ab (gM k) k.cases.length tf:=⟨λh=>h.rP.1⟩
instance aC8:gN Ac (gM k) k.states.length CK:=⟨λh=>h.qR.1⟩
theorem T4(o:∀h,ba h->kM h k):gN Ab ba k.cases.length tf:=⟨λh=>(o _ h).rP.1⟩
theorem CL(o:∀h,ba h->kM h k):gN Ac ba k.states.length CK:=⟨λh=>(o _ h).qR.1⟩
theorem F9(o:∀h,ba h->kM h k)(aj:s∈k.states):gN L2 ba s.rows.length (s.rows.flatMap gh):=⟨λh=>((o _ h).states s aj).rd.1⟩
theorem L3{r:Row}{ba:aq}(o:∀h,ba h->kM h k)(aj:s∈k.states)(aD:r∈s.rows):gN (.slice r.ea r.b8.length r.cQ) ba r.b8.length (r.b8.flatMap fz):=⟨λh=>(((o _ h).states s aj).rows r aD).rd.1⟩
structure re(k:b1):Prop where
 alE:k.cases.length<=140737488351232
 alF:k.states.length<=140737488351232
 row:∀s∈k.states,s.rows.length<=140737488351232
 c0:∀s∈k.states,∀r∈s.rows,r.b8.length*80<=140737488351232
end
section
variable(k:b1)(aB:Nat)(a:Option Addr)(state w tag:cy)(c:Nat)(n:Int)(l:List fw)
def Ga{h:dR}{k:b1}(o:kM h k):re k:=
 ⟨by
  have h1:k.cases.length*24<=140737488351232:=o.ri;omega,by
   have h1:k.states.length*40<=140737488351232:=o.lens;omega,λs aj=>by
    have h1:s.rows.length*56<=140737488351232:=(o.states s aj).len;omega,λs aj r aD=>((o.states s aj).rows r aD).len⟩
def L4:(l.flatMap fz).all Value.oneCell'=true:=by
 rw[pN];intro x ag;obtain⟨e,_,Y⟩:=Ad.1 ag;simp only[fz,kf,vX,or_false]at Y;rcases Y with rfl|rfl|rfl|rfl|rfl|rfl|rfl<;>rfl
def alG(e:fw)(n:Int)(aS:-9223372036854775808<n/\n<=9223372036854775807):ad aa 340 [.agg (fz e).toArray,af n] [] (aF (af (o4 e n)) []):=by
 refine ax Tryz.func340 λF D=>?_;refine a7 ?_;refine wn λU=>?_;refine eP ?_;refine a7 ?_;refine b6 (λW=>?_) (λW=>?_)
 . have g8:e.value=0:=by simpa using W
   refine cU ?_;exact aW ⟨by unfold o4;rw[bg g8],rfl⟩
 . have g8:¬e.value=0:=by simpa using W
   refine bh ?_;refine b6 (λI=>?_) (λI=>?_)
   . have b:e.value=1:=by simpa using I
     refine ch ?_;refine b6 (λL=>?_) (λL=>?_)
     . have T:n<1:=by simpa using L
       refine cU ?_;exact aW ⟨by unfold o4;rw[a6 g8,bg b,bg T],rfl⟩
     . have T:¬n<1:=by simpa using L
       refine bz ?_;refine aA rfl (ks (n -1) (jv ae) rfl rfl) ?_;refine ch ?_;exact aW ⟨by unfold o4;rw[a6 g8,bg b,a6 T],rfl⟩
   . have b:¬e.value=1:=by simpa using I
     refine dx ?_;exact aW ⟨by unfold o4;rw[a6 g8,a6 b],rfl⟩
def alH(x:b1):ad aa 101 [.agg (dO x).toArray,ptr aB 0] Ae (aF (.bool (decide (x.name=w))) Ae):=by
 refine ax Tryz.func101 λF D=>?_;exact L5
def alI(x:fb):ad aa 385 [.agg (ft x).toArray,ptr aB 0] Ae (aF (.bool (decide (x.name=w))) Ae):=by
 refine ax Tryz.func385 λF D=>?_;exact L5
def alJ(aU:Nat)(tag:cy)(n:Int)(x:Row):ad aa 386 [.agg (gh x).toArray,ptr aB 0,ptr aU 0] [ab aB 9 [S tag],ab aU 3 [af n]] (aF (.bool (qk tag n x)) [ab aB 9 [S tag],ab aU 3 [af n]]):=by
 refine ax Tryz.func386 λF D=>?_;refine a7 ?_;refine wn λZ=>?_;refine ch ?_;refine aA rfl (pO rfl rfl) ?_;refine aG ?_;refine hU rfl rfl (λW=>?_) (λW=>?_) rfl
 . have f:=bR W
   refine bh ?_;refine aA rfl (pO rfl rfl) ?_;refine a7 ?_;refine hU rfl rfl (λI=>?_) (λI=>?_) rfl
   . have p:=bR I
     refine ch ?_;refine hU rfl rfl (λL=>?_) (λL=>?_) rfl
     . have C:=bR L
       refine eP ?_;refine a7 ?_;exact Gb
     . have C:=bR L
       simp only[iD];refine fx ?_;exact Gb
   . have p:=bR I
     simp only[iD];refine nr ?_;exact Gb
 . have f:=bR W
   simp only[iD];refine gi ?_;exact Gb
def T5(s:cy):ad aa 342 [S s] [] (aF (.tuple #[af (((nq s).getD 0:Nat):Int),.bool (nq s).isSome]) []):=by
 refine ax Tryz.func342 λF D=>?_;refine uq ?_;refine aA rfl (pO (m:=[100]) rfl rfl) ?_;refine bX ?_;refine b6 (λW=>?_) (λW=>?_)
 . have aj:s=[100]:=by simpa using W
   refine uq ?_;refine cr ?_;exact CM
 . have a:¬s=[100]:=by simpa using W
   refine bz ?_;refine aA rfl (pO (m:=[99]) rfl rfl) ?_;refine bX ?_;refine b6 (λI=>?_) (λI=>?_)
   . have aj:s=[99]:=by simpa using I
     refine uq ?_;refine bF ?_;exact CM
   . have b:¬s=[99]:=by simpa using I
     refine bz ?_;refine aA rfl (pO (m:=[98]) rfl rfl) ?_;refine bX ?_;refine b6 (λL=>?_) (λL=>?_)
     . have aj:s=[98]:=by simpa using L
       refine gi ?_;refine cr ?_;exact CM
     . have c:¬s=[98]:=by simpa using L
       refine bF ?_;refine aA rfl (pO (m:=[97]) rfl rfl) ?_;refine bX ?_;refine b6 (λfV=>?_) (λfV=>?_)
       . have aj:s=[97]:=by simpa using fV
         refine gi ?_;refine bX ?_;exact CM
       . have d:¬s=[97]:=by simpa using fV
         refine gi ?_;refine aG ?_;exact CM
def alK(ref:cy)(self b parent:Int)(a:Option Addr)(c:Nat)(ak:List Int)(ba:aq)[gN (.slice a ak.length c) ba ak.length (iE ak)](aw:ak.length=4):ad aa 341 [S ref,af self,af b,af parent,.slice a ak.length c] [ba] (aF (af (hi ref self b parent ak)) [ba]):=by
 refine ax Tryz.func341 λF D=>?_;refine fZ ?_;refine aA rfl (pO (m:=[115,101,108,102]) rfl rfl) ?_;refine bX ?_;refine b6 (λW=>?_) (λW=>?_)
 . have g:ref=[115,101,108,102]:=by simpa using W
   refine cU ?_;exact aW ⟨by unfold hi;rw[bg g],rfl⟩
 . have d:¬ref=[115,101,108,102]:=by simpa using W
   refine a7 ?_;refine aA rfl (pO (m:=[115,101,110,100,101,114]) rfl rfl) ?_;refine bX ?_;refine b6 (λI=>?_) (λI=>?_)
   . have h:ref=[115,101,110,100,101,114]:=by simpa using I
     refine cU ?_;exact aW ⟨by unfold hi;rw[a6 d,bg h],rfl⟩
   . have e:¬ref=[115,101,110,100,101,114]:=by simpa using I
     refine a7 ?_;refine aA rfl (pO (m:=[112,97,114,101,110,116]) rfl rfl) ?_;refine bX ?_;refine b6 (λL=>?_) (λL=>?_)
     . have j:ref=[112,97,114,101,110,116]:=by simpa using L
       refine cU ?_;exact aW ⟨by unfold hi;rw[a6 d,a6 e,bg j],rfl⟩
     . have f:¬ref=[112,97,114,101,110,116]:=by simpa using L
       refine bh ?_;refine aV (T5 ref) ?_;refine cr ?_;rcases gY:nq ref with _|i
       . refine a7 ?_
         refine cH ?_;refine eP ?_;refine a7 ?_;exact aW ⟨by unfold hi;rw[a6 d,a6 e,a6 f,gY],rfl⟩
       . have k:i<4:=alD gY
         obtain⟨v,V⟩:∃v,ak[i]?=some v:=⟨_,cq (show i<ak.length by omega)⟩;refine a7 ?_;refine cH ?_;refine bH ?_;refine aA rfl (fM (c:=false) (by exact mJ (by show¬(ak.length:Int)<=((i:Nat):Int);omega)) (Af rfl rfl)) ?_;refine cU ?_;refine aA rfl (fA rfl rfl (show i<ak.length by omega)) ?_;refine aA rfl (gy rfl (Gc V)) ?_;refine bz ?_;exact aW ⟨by unfold hi;rw[a6 d,a6 e,a6 f,gY];simp[V],rfl⟩
def alL(hk:re k)(ba:aq)(o:∀h,ba h->kM h k)(h:k.states.find? x7=none):ad aa 339 x8 [ba] T6:=by
 refine ax Tryz.func339 λF D=>?_;haveI:=CL o;refine T7 ?_;intro aN aO aR bW V;exact T8
def alM(hk:re k)(ba:aq)(o:∀h,ba h->kM h k)(s:fb)(aj:k.states.find? x7=some s)(h:s.rows.find? (qk tag n)=none):ad aa 339 x8 [ba] T6:=by
 refine ax Tryz.func339 λF D=>?_;haveI:=CL o;have g5:s∈k.states:=rf aj;haveI:=F9 o g5;obtain⟨i,d,p,B⟩:=CN aj;refine T9 ?_;intro aN aO aR bW V;exact T8
def alN(hk:re k)(ba:aq)(o:∀h,ba h->kM h k)(s:fb)(r:Row)(aj:k.states.find? x7=some s)(h:s.rows.find? (qk tag n)=some r):ad aa 339 x8 [ba] (λu H=>∃a c,u=.tuple #[.agg [S r.tag,.bool r.only,af r.n,.slice a r.b8.length c].toArray,.bool true]/\H=Ua):=by
 refine ax Tryz.func339 λF D=>?_;haveI:=CL o;have g5:s∈k.states:=rf aj;haveI:=F9 o g5;obtain⟨i,d,p,B⟩:=CN aj;obtain⟨j,m,b,v⟩:=CN h;have g:r∈s.rows:=rf h;haveI:=L3 o g5 g;refine T9 ?_;intro aN aO aR bW V;rw[m];refine Ub ?_;refine aA rfl (fA rfl rfl v) ?_;refine aA rfl (kN rfl (kO gh 4 rh b) rfl) ?_;refine wn λE=>?_;refine ch ?_;refine cj rfl (b4 rfl (Uc r.ea r.cQ r.b8.length (r.b8.flatMap fz) (ba) (kz fz 7 ur _) (L4 _) (by have:=hk.c0 s g5 r g;omega)) bI) ?_;rintro _ D ⟨_,⟨a,c,rfl,rfl⟩,rfl⟩;refine Gd ?_;exact L1 (.inl rfl) rfl rfl rfl rfl rfl Ua ⟨a,c,rfl,rfl⟩ (au)
def lK(p:ds):List Value:=[.bool p.dW,.slice a p.b8.length c,S p.state,.bool p.stop,S p.fail]
abbrev kA:aq:=own (.slice a l.length c) 87 7 l.length (l.flatMap fz)
structure lg(n:Int)(D:List fw)(E:ds)(state:cy)(i:Nat)(p:ds):Prop where
 ql:i<=D.length
 eq:mI n i (D.drop i) p=E
 st:p.dW=false
 dq:p.stop=false
 us:p.fail=[]
 len:p.b8.length<=i
 dY:i=0->p.state=state
end
section
variable{n:Int}{D:List fw}{E:ds}{state:cy}{i:Nat}{p:ds}{e:fw}
def x9(h:D[i]?=some e):D.drop i=e::D.drop (i+1):=by
 obtain⟨al,rfl⟩:=dd.1 h;exact vY al
def lg.ky(h:lg n D E state 0 p)(Y:D[0]?=some e)(bm:e.do'=4):E=⟨true,[],state,false,[]⟩:=by
 rw[<-h.eq,x9 Y];unfold mI;rw[bg bm,bg rfl,h.dY rfl]
def lg.skip(h:lg n D E state i p)(Y:D[i]?=some e)(bm:e.do'=4)(bn:¬i=0):lg n D E state (i+1) p:=by
 have aw:=(dd.1 Y).1;have aB:=h.eq;rw[x9 Y]at aB;unfold mI at aB;rw[bg bm,a6 bn]at aB;exact Ud
def lg.aCC(h:lg n D E state i p)(Y:D[i]?=some e)(bm:¬e.do'=4)(aH:e.do'=3):lg n D E state (i+1) {p with state:=e.name}:=by
 have aw:=(dd.1 Y).1;have aB:=h.eq;rw[x9 Y]at aB;unfold mI at aB;rw[a6 bm,bg aH]at aB;exact Ud
def lg.stop(h:lg n D E state i p)(Y:D[i]?=some e)(bm:¬e.do'=4)(aH:¬e.do'=3)(b:e.do'=11):E={p with stop:=true}:=by
 rw[<-h.eq,x9 Y];unfold mI;rw[a6 bm,a6 aH,bg b]
def lg.fail(h:lg n D E state i p)(Y:D[i]?=some e)(bm:¬e.do'=4)(aH:¬e.do'=3)(b:¬e.do'=11)(a:e.do'=12):E={p with fail:=e.name}:=by
 rw[<-h.eq,x9 Y];unfold mI;rw[a6 bm,a6 aH,a6 b,bg a]
def lg.send(h:lg n D E state i p)(Y:D[i]?=some e)(bm:¬e.do'=4)(aH:¬e.do'=3)(b:¬e.do'=11)(a:¬e.do'=12)(aj:e.do'=1\/e.do'=8):lg n D E state (i+1) {p with b8:=p.b8++[{e with n:=o4 e n,value:=2}]}:=by
 have aw:=(dd.1 Y).1;have aB:=h.eq;rw[x9 Y]at aB;unfold mI at aB;rw[a6 bm,a6 aH,a6 b,a6 a,bg aj]at aB;exact Ue
def lg.jM(h:lg n D E state i p)(Y:D[i]?=some e)(bm:¬e.do'=4)(aH:¬e.do'=3)(b:¬e.do'=11)(a:¬e.do'=12)(aj:¬(e.do'=1\/e.do'=8)):lg n D E state (i+1) {p with b8:=p.b8++[e]}:=by
 have aw:=(dd.1 Y).1;have aB:=h.eq;rw[x9 Y]at aB;unfold mI at aB;rw[a6 bm,a6 aH,a6 b,a6 a,a6 aj]at aB;exact Ue
def lg.done(h:lg n D E state i p)(al:¬i<D.length):E=p:=by
 rw[<-h.eq,Ge ae];rfl
end
section
variable(k:b1)(state tag:cy)(n:Int)
def Uf{a:Option Addr}{c m:Nat}{l:List fw}{e:fw}(h:l.length=m):own (.slice a (m+1) c) 87 7 (m+1) (l.flatMap fz++fz e)=kA a c (l++[e]):=by subst h;simp only[kA,o5,ep,pP,Ug,jj];rfl
def alO(hk:re k)(ba:aq)(o:∀h,ba h->kM h k)(aS:-9223372036854775808<n/\n<=9223372036854775807)(h:k.states.find? x7=none):ad aa 290 x8 [ba] Uh:=by
 refine ax Tryz.func290 λF D=>?_;refine a7 ?_;refine wn λaN=>?_;refine wn λV=>?_;refine bh ?_;refine wn λcx=>?_;refine cr ?_;refine aV (alL k state tag n hk ba o h) ?_;exact Ui
def alP(hk:re k)(ba:aq)(o:∀h,ba h->kM h k)(aS:-9223372036854775808<n/\n<=9223372036854775807)(s:fb)(aj:k.states.find? x7=some s)(h:s.rows.find? (qk tag n)=none):ad aa 290 x8 [ba] Uh:=by
 refine ax Tryz.func290 λF D=>?_;refine a7 ?_;refine wn λaN=>?_;refine wn λV=>?_;refine bh ?_;refine wn λcx=>?_;refine cr ?_;refine aV (alM k state tag n hk ba o s aj h) ?_;exact Ui
def alQ(hk:re k)(ba:aq)(o:∀h,ba h->kM h k)(aS:-9223372036854775808<n/\n<=9223372036854775807)(s:fb)(r:Row)(aj:k.states.find? x7=some s)(h:s.rows.find? (qk tag n)=some r)(E:ds)(J:mI n 0 r.b8 Ag=E):ad aa 290 x8 [ba] (λu H=>∃a c,u=.agg (lK a c E).toArray/\H=[kA a c E.b8,ba]):=by
 refine ax Tryz.func290 λF D=>?_;have g5:s∈k.states:=rf aj;have g:r∈s.rows:=rf h;have hlen:r.b8.length<=1759218604390:=(by have:=hk.c0 s g5 r g;omega);refine a7 ?_;refine wn λaN=>?_;refine wn λV=>?_;refine bh ?_;refine wn λcx=>?_;refine cr ?_;refine bt (alN k state tag n hk ba o s r aj h) ?_;rintro _ _ ⟨ra,rc,rfl,rfl⟩;refine er ?_;refine bX ?_;refine wn λc2=>?_;refine bH ?_;refine cH ?_;refine ch ?_;refine lh (ii (e:=87) (aT:=7)) ?_;refine bH ?_;refine gO (bx:=Nat×ds×Option Addr×Nat) (λx=>lg n r.b8 E state x.1 x.2.1) (λx=>[(30,af x.1),(29,af r.b8.length),(28,.slice ra r.b8.length rc),(9,ptr cx 0),(8,ptr V 0),(1,S state),(3,af n)]) (λx=>ab cx 356 [.bool false,.slice x.2.2.1 x.2.1.b8.length x.2.2.2,S x.2.1.state,.bool false,S []]::kA x.2.2.1 x.2.2.2 x.2.1.b8::kA ra rc r.b8::ab V 356 [.bool false,.slice none 0 0,S [],.bool false,S []]::ba::D) (λx=>r.b8.length -x.1) (0,⟨false,[],state,false,[]⟩,none,0) (⟨fc _,J,rfl,rfl,rfl,fc _,λ_=>rfl⟩) de (au) ?_;rintro⟨i,p,a,c⟩ bM;replace bM:lg n r.b8 E state i p:=bM;have B:=bM.ql;have i5:=bM.len;dsimp only;refine bh ?_;refine b6 (λW=>?_) (λW=>?_)
 . obtain⟨e,Y⟩:∃e,r.b8[i]?=some e:=⟨_,cq (show i<r.b8.length by omega)⟩
   refine ch ?_;refine aA rfl (fA rfl rfl (show i<r.b8.length by omega)) ?_;refine aA rfl (kN rfl (kO fz 7 ur Y) rfl) ?_;refine wn λf=>?_;refine uq ?_;refine aG ?_;refine b6 (λI=>?_) (λI=>?_)
   . have t:e.do'=4:=by simpa using I
     refine dx ?_;refine b6 (λL=>?_) (λL=>?_)
     . obtain rfl:i=0:=by have:=L;omega
       refine gi ?_;refine bz ?_;refine vZ (.inl rfl) rfl rfl rfl rfl [kA none 0 E.b8,ba] (⟨none,0,by rw[bM.ky Y t];rfl,rfl⟩) (by rw[bM.ky Y t];exact λh s=>ii h ((au) h s))
     . have fD:¬i=0:=by have:=L;omega
       refine eP ?_;refine a7 ?_;refine ya ?_;refine fm (i+1,p,a,c) (bM.skip Y t fD) (show r.b8.length -(i+1)<r.b8.length -i by omega) de (au)
   . have z4:¬e.do'=4:=by simpa using I
     refine cr ?_;refine b6 (λfV=>?_) (λfV=>?_)
     . have j:e.do'=3:=by simpa using fV
       refine gi ?_;refine L6 ?_;refine fm (i+1,{p with state:=e.name},a,c) (bM.aCC Y z4 j) (show r.b8.length -(i+1)<r.b8.length -i by omega) de (au)
     . have z3:¬e.do'=3:=by simpa using fV
       refine cr ?_;refine b6 (λw=>?_) (λw=>?_)
       . have q:e.do'=11:=by simpa using w
         refine uq ?_;refine bh ?_;refine vZ (.inl rfl) rfl rfl rfl rfl [kA a c E.b8,ba] (⟨a,c,by rw[bM.stop Y z4 z3 q];simp[lK,bM.st,bM.us];rfl,rfl⟩) (by rw[bM.stop Y z4 z3 q];exact(au))
       . have d:¬e.do'=11:=by simpa using w
         refine cr ?_;refine b6 (λl=>?_) (λl=>?_)
         . have v:e.do'=12:=by simpa using l
           refine uq ?_;refine bH ?_;refine vZ (.inl rfl) rfl rfl rfl rfl [kA a c E.b8,ba] (⟨a,c,by rw[bM.fail Y z4 z3 d v];simp[lK,bM.st,bM.dq];rfl,rfl⟩) (by rw[bM.fail Y z4 z3 d v];exact(au))
         . have y:¬e.do'=12:=by simpa using l
           refine cr ?_;refine b6 (λz=>?_) (λz=>?_)
           . refine a7 ?_
             refine b6 (λR=>?_) (λR=>?_)
             . exact Uj
             . refine gi ?_
               refine L7 ?_;intro m a70 b;exfalso;omega
           . refine bz ?_
             refine b6 (λX=>?_) (λX=>?_)
             . exact Uj
             . refine gi ?_
               refine L7 ?_;intro m a70 b;refine fm (i+1,{p with b8:=p.b8++[e]},a70,b) (bM.jM Y z4 z3 d y ae) (show r.b8.length -(i+1)<r.b8.length -i by omega) de (by dsimp only;rw[<-Uf (e:=e) rfl,show(p.b8++[e]).length=p.b8.length+1 from by simp];exact(au))
 . have C:=bM.done ae
   refine dx ?_;refine vZ (.inl rfl) rfl rfl rfl rfl [kA a c E.b8,ba] (⟨a,c,by rw[C];simp[lK,bM.st,bM.dq,bM.us];rfl,rfl⟩) (by rw[C];exact(au))
def alR(hk:re k)(ba:aq)(o:∀h,ba h->kM h k)(aS:-9223372036854775808<n/\n<=9223372036854775807):ad aa 290 x8 [ba] (λu H=>∃a c,u=.agg (lK a c (kZ k state tag n)).toArray/\H=[kA a c (kZ k state tag n).b8,ba]):=by
 cases aj:k.states.find? x7 with
 |
  none=>
  have e:kZ k state tag n=Ag:=by unfold kZ rowOf;rw[aj];rfl
  rw[e];exact alO k state tag n hk ba o aS aj
 |
  some s=>
  cases h:s.rows.find? (qk tag n)with
  |
   none=>
   have e:kZ k state tag n=Ag:=Uk;rw[e];exact alP k state tag n hk ba o aS s aj h
  |
   some r=>
   have e:kZ k state tag n=mI n 0 r.b8 Ag:=Uk;rw[e];exact alQ k state tag n hk ba o aS s r aj h _ rfl
end
end Go.Proofs.YtnnhpnccfnghdaaGreat.L
namespace Go.Proofs.YtnnhpnccfnghdaaGreat.L
open Go.L Go.L.Lx Go.L.Pg
attribute[local irreducible] G cz GE cT GT bU c6 cY dc Exit.then Exit.inBlock
section
variable(k:b1)(l:List Row){D:List aq}{a:Option Addr}{α:Type}{c:Nat}
def iP(r:Row):Row:={r with ea:=none,cQ:=0}
def fN(s:fb):fb:={s with ra:=none,rc:=0,rows:=s.rows.map iP}
def cN:b1:={k with ca:=none,kg:=0,sa:=none,sc:=0,states:=k.states.map fN}
structure CO(r:Row):Prop where
 tag:eF r.tag.length
 len:eF (r.b8.length*80)
 b8:∀e∈r.b8,CP e
structure L8(s:fb):Prop where
 name:eF s.name.length
 len:eF (s.rows.length*56)
 rows:∀r∈s.rows,CO r
structure kh(k:b1):Prop where
 name:eF k.name.length
 ri:eF (k.cases.length*24)
 cases:∀c∈k.cases,eF c.reason.length
 lens:eF (k.states.length*40)
 states:∀s∈k.states,L8 s
def L9{h:dR}{k:b1}(o:kM h k):kh k:=⟨o.name,o.ri,o.cases,o.lens,λs aj=>have g:=o.states s aj;⟨g.name,g.len,λr aD=>have q:=g.rows r aD;⟨q.tag,q.len,q.b8⟩⟩⟩
def kh.Ga{k:b1}(o:kh k):re k:=
 ⟨by
  have h1:k.cases.length*24<=140737488351232:=o.ri;omega,by
   have h1:k.states.length*40<=140737488351232:=o.lens;omega,λs aj=>by
    have h1:s.rows.length*56<=140737488351232:=(o.states s aj).len;omega,λs aj r aD=>((o.states s aj).rows r aD).len⟩
def v7{A B C:aq}{D:List aq}(f:∀h1 h2,li h1 h2->A h1->B h2->C (join h1 h2)):∀h,Sat (A::B::D) h->Sat (C::D) h:=λh s=>by
 obtain⟨h1,q,d,rfl,a,h2,aH,t,rfl,b,s⟩:=s;obtain⟨R,r⟩:=rj.1 d;exact⟨join h1 h2,aH,by
  intro x;rcases t x with e|e
  . rcases r x with g|g
    . exact .inl (by simp[join,g,e])
    . exact .inr g
  . exact .inr e,by rw[join_assoc],f h1 h2 R a b,s⟩
def rk:aq:=λh=>∀r∈l,yb h r
def mK(l:List fb):aq:=λh=>∀s∈l,v8 h s
def alS:∀h,Sat D h->Sat (rk []::D) h:=λh s=>Sat.head (λ_ _ r aD=>by cases aD) (yc h s)
def alT:∀h,Sat D h->Sat (mK []::D) h:=λh s=>Sat.head (λ_ _ r aD=>by cases aD) (yc h s)
def rl{h1 h2:dR}(d:li h1 h2){b:Nat}{o:Obj}(e:h2 b=some o):join h1 h2 b=some o:=by
 rw[join_comm d];exact join_some e
def Ul{r:Row}{aF:List Row}{D:List aq}(ok:CO r):∀h,Sat (own (.slice a r.b8.length c) 87 7 r.b8.length (r.b8.flatMap fz)::rk aF::D) h->Sat (rk (aF++[{r with ea:=a,cQ:=c}])::D) h:=
 v7 λh1 h2 d o l x ag=>by
  rcases kP.1 ag with ag|ag
  . exact(l x ag).imp λb o e=>rl d e
  . simp at ag;subst ag
    exact⟨ok.tag,(ij.own o).imp λb o e=>join_some e,ok.len,ok.b8⟩
def Um{s:fb}{aF:List Row}{z:List fb}{D:List aq}(aS:eF s.name.length)(aw:eF (aF.length*56)):∀h,Sat (own (.slice a aF.length c) 85 4 aF.length (aF.flatMap gh)::rk aF::mK z::D) h->Sat (mK (z++[⟨s.name,a,c,aF⟩])::D) h:=λh st=>
 v7 (A:=λh=>v8 h ⟨s.name,a,c,aF⟩) (B:=mK z) (λh1 h2 d o l x ag=>by
  rcases kP.1 ag with ag|ag
  . exact(l x ag).imp λb o e=>rl d e
  . simp at ag;subst ag;exact o.imp λb o e=>join_some e) h
  (v7 (λh1 h2 d o l=>⟨aS,(ij.own o).imp λb o e=>join_some e,aw,λr aD=>(l r aD).imp λb o e=>rl d e⟩) h st)
def Un{k:b1}{ck cl:Option Addr}{c1 bk:Nat}{z:List fb}{D:List aq}(ok:kh k)(aw:z.length=k.states.length):∀h,Sat (own (.slice ck k.cases.length c1) 89 2 k.cases.length (k.cases.flatMap ik)::own (.slice cl z.length bk) 82 2 z.length (z.flatMap ft)::mK z::D) h->Sat (gM CQ::D) h:=λh st=>
 v7 (B:=λh=>ij h cl bk z.length (z.flatMap ft)/\mK z h) (λh1 h2 d o l=>⟨ok.name,(ij.own o).imp λb o e=>join_some e,ok.ri,ok.cases,l.1.imp λb o e=>rl d e,by rw[aw];exact ok.lens,λs aj=>(l.2 s aj).imp λb o e=>rl d e⟩) h
  (Sat.tail (λh s=>v7 (λh1 h2 d o l=>⟨(ij.own o).imp λb o e=>join_some e,λs aj=>(l s aj).imp λb o e=>rl d e⟩) h s) st)
def Uo(f:α->List Value)(aT:Nat)(a8:∀x,(f x).length=aT){l:List α}{k j:Nat}{y w:α}{x:Value}(ah:l[k]?=some y)(J:j<aT)(Y:(f y).set j x=f w):(l.flatMap f).set (k*aT+j) x=(l.set k w).flatMap f:=by
 obtain⟨hk,e⟩:=dd.1 ah;have aB:l=l.take k++y::l.drop (k+1):=by rw[<-e,List.getElem_cons_drop,CR]
 have d5:((l.take k).flatMap f).length=k*aT:=Up;have aU:l.flatMap f=(l.take k).flatMap f++(f y++(l.drop (k+1)).flatMap f):=by
  conv=>lhs;rw[aB]
  rw[o5,pP]
 rw[aU,<-d5,Uq _ _ ae,Gf,Gg _ _ (by rw[a8];exact J),Y,alU,bg hk,o5,pP]
def Gh{l z:List α}{i:Nat}{s:α}(aw:z.length=i)(h:l[i]?=some s):(z++l.drop i)[i]?=some s:=by
 rw[pQ ae,aw,yd,Ma];exact h
def Ur{l z:List α}{i:Nat}{s s1:α}(aw:z.length=i)(h:l[i]?=some s):(z++l.drop i).set i s1=z++s1::l.drop (i+1):=by
 obtain⟨al,_⟩:=dd.1 h;rw[Uq _ _ ae,aw,yd,vY al,List.set_cons_zero]
def alV{l z:List α}{i:Nat}{s1:α}(aw:z.length=i):(z++s1::l)[i]?=some s1:=by
 rw[pQ ae,aw,yd];rfl
def Us(l:List l7):(l.flatMap ik).all Value.oneCell'=true:=by
 rw[pN];intro x ag;obtain⟨e,_,Y⟩:=Ad.1 ag;simp only[ik,kf,vX,or_false]at Y;rcases Y with rfl|rfl<;>rfl
def alW(l:List fb):(l.flatMap ft).all Value.oneCell'=true:=by
 rw[pN];intro x ag;obtain⟨e,_,Y⟩:=Ad.1 ag;simp only[ft,kf,vX,or_false]at Y;rcases Y with rfl|rfl<;>rfl
def row_one:(l.flatMap gh).all Value.oneCell'=true:=by
 rw[pN];intro x ag;obtain⟨e,_,Y⟩:=Ad.1 ag;simp only[gh,kf,vX,or_false]at Y;rcases Y with rfl|rfl|rfl|rfl<;>rfl
structure l8{α:Type}(b:α->α)(l z:List α)(i:Nat):Prop where
 ql:i<=l.length
 len:z.length=i
 eq:z.map b=(l.take i).map b
def l8.start{b:α->α}(l:List α):l8 b l [] 0:=⟨fc _,rfl,rfl⟩
def l8.next{b:α->α}{l z:List α}{i:Nat}{s s1:α}(h:l8 b l z i)(aj:l[i]?=some s)(e:b s1=b s):l8 b l (z++[s1]) (i+1):=by
 obtain⟨al,rfl⟩:=dd.1 aj;exact⟨al,by simp[h.len],by rw[ns al,o6,o6,h.eq];simp[e]⟩
def alX(ok:kh k)(ba:aq)(o:∀h,ba h->kM h k):ad aa 102 [.agg (dO k).toArray] [ba] (λu H=>∃dj,cN dj=cN k/\u=.agg (dO dj).toArray/\H=[gM dj,ba]):=by
 refine ax Tryz.func102 λF D=>?_;haveI:=T4 o;haveI:=CL o;have he:=ok.Ga;have and:k.cases.length*24<=140737488351232:=ok.ri;have any:k.states.length*40<=140737488351232:=ok.lens;refine a7 ?_;refine wn λav=>?_;refine wn λU=>?_;refine bh ?_;refine cj rfl (b4 rfl (alY k.ca k.kg k.cases.length (k.cases.flatMap ik) (ba) (kz ik 2 wa _) (Us _) ae) bI) ?_;rintro _ D ⟨_,⟨ck,c1,rfl,rfl⟩,rfl⟩;refine fj ?_;refine bH ?_;refine cj rfl (b4 rfl (alZ k.sa k.sc k.states.length (k.states.flatMap ft) (ba) (kz ft 2 o7 _) (alW _) ae) bI) ?_;rintro _ D ⟨_,⟨cl,bk,rfl,rfl⟩,rfl⟩;refine Ah ?_;refine lh alT ?_;refine bH ?_;refine gO (bx:=Nat×List fb) (λe=>l8 fN k.states e.2 e.1) (λe=>((17,af e.1)::Ut)) (λe=>ab av 78 Uu::own (.slice ck k.cases.length c1) 89 2 k.cases.length tf::own Gi 82 2 k.states.length ((e.2++k.states.drop e.1).flatMap ft)::mK e.2::ba::ab U 78 [S [],af 0,af 0,.slice none 0 0,.slice none 0 0]::D) (λe=>k.states.length -e.1) (0,[]) (l8.start _) de (au) ?_;rintro⟨i,z⟩ bM;replace bM:l8 fN k.states z i:=bM;have B:=bM.ql;dsimp only;refine bh ?_;refine b6 (λW=>?_) (λW=>?_)
 . obtain⟨s,p⟩:∃s,k.states[i]?=some s:=⟨_,cq (show i<k.states.length by omega)⟩
   have g5:s∈k.states:=h0 p;haveI:=F9 o g5;have y:s.rows.length*56<=140737488351232:=(ok.states s g5).len;have ol:i*2+1<((z++k.states.drop i).flatMap ft).length:=(by rw[kz ft 2 o7,ep,wb,bM.len];omega);refine eP ?_;refine aA rfl (fA rfl rfl (show i<k.states.length by omega)) ?_;refine cr ?_;refine aA rfl (gy rfl (lL ft 2 o7 (Gh bM.len p) rfl)) ?_;refine cj rfl (b4 rfl (al0 s.ra s.rc s.rows.length (s.rows.flatMap gh) (ba) (kz gh 4 rh _) (row_one _) ae) bI) ?_;rintro _ D ⟨_,⟨a3,b0,rfl,rfl⟩,rfl⟩;refine fj ?_;refine a7 ?_;refine iF (tg rfl rfl rfl ol) ?_;refine bX ?_;rw[Uo (w:=(⟨s.name,a3,b0,s.rows⟩:fb)) ft 2 o7 (Gh bM.len p) bN rfl,Ur bM.len p];have q:(z++(Gj:fb)::k.states.drop (i+1))[i]?=some (Gj:fb):=alV bM.len;refine lh alS ?_;refine bF ?_;refine aA rfl Mb ?_;refine bz ?_;refine gO (bx:=Nat×List Row) (λe=>l8 iP s.rows e.2 e.1) (λe=>((37,af e.1)::(36,af s.rows.length)::(4,el Gi (i*2))::(17,af i)::Ut)) (λe=>ab av 78 Uu::own (.slice ck k.cases.length c1) 89 2 k.cases.length tf::own Gi 82 2 k.states.length Uv::own (.slice a3 s.rows.length b0) 85 4 s.rows.length ((e.2++s.rows.drop e.1).flatMap gh)::rk e.2::mK z::ba::ab U 78 [S [],af 0,af 0,.slice none 0 0,.slice none 0 0]::D) (λe=>s.rows.length -e.1) (0,[]) (l8.start _) de (au) ?_;rintro⟨j,aF⟩ d;replace d:l8 iP s.rows aF j:=d;have v:=d.ql;dsimp only;refine bh ?_;refine b6 (λI=>?_) (λI=>?_)
   . obtain⟨r,b⟩:∃r,s.rows[j]?=some r:=⟨_,cq (show j<s.rows.length by omega)⟩
     have g:r∈s.rows:=h0 b;haveI:=L3 o g5 g;have m3:r.b8.length*80<=140737488351232:=((ok.states s g5).rows r g).len;have m9:j*4+3<((aF++s.rows.drop j).flatMap gh).length:=(by rw[kz gh 4 rh,ep,wb,d.len];omega);refine cU ?_;refine ct [13] [105,8,201,2,201] [own Gi 82 2 k.states.length Uv,own (.slice a3 s.rows.length b0) 85 4 s.rows.length ((aF++s.rows.drop j).flatMap gh),ba] ?_;refine bX ?_;refine go_vs rfl .none rfl Mb (au) ?_;refine bF ?_;refine go_v rfl .none rfl Mb ?_;refine aG ?_;refine go_v rfl .none rfl (fA rfl rfl (show j<s.rows.length by omega)) ?_;refine aG ?_;refine go_v rfl .none rfl (gy rfl (lL gh 4 rh (Gh d.len b) rfl)) ?_;refine go_c rfl .none rfl (b4 rfl (Uc r.ea r.cQ r.b8.length (r.b8.flatMap fz) (ba) (kz fz 7 ur _) (L4 _) ae) bI) ?_;rintro _ D ⟨_,⟨a4,d9,rfl,rfl⟩,rfl⟩;refine th ?_;refine go_v rfl .none rfl (fA rfl rfl (show j<s.rows.length by omega)) ?_;refine aG ?_;refine go_u rfl .none (tg rfl rfl rfl m9) Ai ?_;refine bF ?_;refine Mc ?_;refine a7 ?_;rw[Uo (w:=({r with ea:=a4,cQ:=d9}:Row)) gh 4 rh (Gh d.len b) bN rfl,Ur d.len b];refine fm (j+1,aF++[({r with ea:=a4,cQ:=d9}:Row)]) (d.next b rfl) (show s.rows.length -(j+1)<s.rows.length -j by omega) de (by dsimp only;rw[jI,Uw];exact λh st=>((au)) h (Ul (r:=r) (a:=a4) (c:=d9) (aF:=aF) (D:=ab av 78 [S k.name,af k.limit,af k.within,.slice ck k.cases.length c1,.slice cl k.states.length bk]::own (.slice ck k.cases.length c1) 89 2 k.cases.length (k.cases.flatMap ik)::own (.slice cl k.states.length bk) 82 2 k.states.length ((z++(⟨s.name,a3,b0,s.rows⟩:fb)::k.states.drop (i+1)).flatMap ft)::own (.slice a3 s.rows.length b0) 85 4 s.rows.length ((aF++({r with ea:=a4,cQ:=d9}:Row)::s.rows.drop (j+1)).flatMap gh)::mK z::ba::ab U 78 [S [],af 0,af 0,.slice none 0 0,.slice none 0 0]::D) ((ok.states s g5).rows r g) h (((au)) h st)))
   . obtain rfl:j=s.rows.length:=by omega
     refine Ux ?_;rw[Uy,jj];have R:=d.len;have aB:(z++(Gj:fb)::k.states.drop (i+1)).flatMap ft=((z++[(Gk:fb)])++k.states.drop (i+1)).flatMap ft:=(by rw[jI,Uw,o5,o5,pP,pP];simp[ft,R]);have aU:own (.slice a3 s.rows.length b0) 85 4 s.rows.length (aF.flatMap gh)=own (.slice a3 aF.length b0) 85 4 aF.length (aF.flatMap gh):=(by rw[R]);have bB:fN (Gk:fb)=fN s:=(by have:=d.eq;rw[l9]at this;simp[fN,this]);have c9:eF (aF.length*56):=(by rw[R];exact y);refine fm (i+1,z++[(⟨s.name,a3,b0,aF⟩:fb)]) (bM.next p bB) (show k.states.length -(i+1)<k.states.length -i by omega) de (by dsimp only;rw[aU,aB];exact λh st=>((au)) h (Um (s:=s) (a:=a3) (c:=b0) (aF:=aF) (z:=z) (D:=ab av 78 [S k.name,af k.limit,af k.within,.slice ck k.cases.length c1,.slice cl k.states.length bk]::own (.slice ck k.cases.length c1) 89 2 k.cases.length (k.cases.flatMap ik)::own (.slice cl k.states.length bk) 82 2 k.states.length (((z++[(⟨s.name,a3,b0,aF⟩:fb)])++k.states.drop (i+1)).flatMap ft)::ba::ab U 78 [S [],af 0,af 0,.slice none 0 0,.slice none 0 0]::D) (ok.states s g5).name c9 h (((au)) h st)))
 . obtain rfl:i=k.states.length:=by omega
   refine dx ?_;refine vZ (.inl rfl) rfl rfl rfl rfl [gM (CQ:b1),ba] (⟨(CQ:b1),by have:=bM.eq;rw[l9]at this;simp[cN,this],by show _=Value.agg (dO (CQ:b1)).toArray;simp only[dO,bM.len];rfl,rfl⟩) (by rw[Uy,jj];have gY:=bM.len;exact λh st=>Un (k:=k) (ck:=ck) (cl:=cl) (c1:=c1) (bk:=bk) (z:=z) (D:=ba::D) ok gY h (by rw[gY];exact(au) h st))
def Uz(K:List b1)(a:Option Addr)(c:Nat)(name:cy)(k:b1)(cL:K.length<=4611686018427387904)(ok:kh k)(a8:K.find? (λx=>decide (x.name=name))=some k)(ba:aq)(o:∀h,ba h->Pg.hr h a c K):ad aa 58 [.agg #[.slice a K.length c],S name] [ba] (λu H=>∃dj,cN dj=cN k/\u=.tuple #[.agg (dO dj).toArray,.bool true]/\H=[gM dj,ba]):=by
 refine ax Tryz.func58 λF D=>?_;haveI:gN (.slice a K.length c) ba K.length (K.flatMap dO):=⟨λh=>(o _ h).rd.1⟩;have hw:k∈K:=rf a8;obtain⟨i,d,O,B⟩:=CN a8;refine n0 ?_;intro U Z;refine wn λaN=>?_;refine bH ?_;refine aV (al1 K a c 101 [ptr Z 0] [ba,ab Z 9 [S name]] (λx=>decide (x.name=name)) cL (λh s=>iX.get s) (λx _=>ye (alH Z name x))) ?_;rw[d];refine ch ?_;refine cH ?_;refine cU ?_;refine aA rfl (fA rfl rfl B) ?_;refine Gl ?_;refine bt (alX k ok ba (λh m=>(o h m).kinds k hw)) ?_;rintro _ _ ⟨dj,b,rfl,rfl⟩;refine er ?_;refine bz ?_;exact L1 (.inl rfl) rfl rfl rfl rfl rfl [gM dj,ba] ⟨dj,b,rfl,rfl⟩ (au)
end
end Go.Proofs.YtnnhpnccfnghdaaGreat.L
namespace Go.Proofs.YtnnhpnccfnghdaaGreat.L.Po
open Go.Proofs.YtnnhpnccfnghdaaGreat.L
open Go.L Go.L.Ring Go.L.dr
attribute[local irreducible] G cz GE cT GT bU c6 cY dc Exit.then Exit.inBlock
abbrev atD(bp:Nat):oH:=⟨306,[ptr bp 0]⟩
instance:Coe Nat oH:=⟨atD⟩
abbrev atE(bp m b gZ my:Nat):aq:=ab bp 223 [ptr m 0,af b,ptr gZ 0,ptr my 0]
structure nk where
 bp:Nat
 m:Nat
 gZ:Nat
 my:Nat
def nk.r(X:nk):Bool->Nat
 |true=>X.my
 |false=>X.gZ
section
variable(X:nk)(M:Bool)(B:js)(p:Nat)(Y:gA)
abbrev e4:aq:=atE X.bp X.m B.b (X.r false) (X.r true)
def oo:Bool->List Int
 |true=>[0,3]
 |false=>[0]
def qS:Bool->Nat
 |true=>2
 |false=>1
def atF:(oo M).length=qS M:=by cases M<;>rfl
def atG(s:Int):xB M s=decide (s∈oo M):=by
 cases M<;>simp[xB,oo]
abbrev vi(N:Nat):Value:=.slice (some ⟨N,0,none⟩) (qS M) (qS M)
abbrev qT(held r:Bool)(E:Nat):Value:=match r with
 |
  true=>(match held with
   |true=>.slice (some ⟨E,0,none⟩) 1 2
   |false=>.slice (some ⟨E,0,none⟩) 2 2)
 |false=>.slice (some ⟨E,1,none⟩) 1 1
def jZ:vz->aq
 |.put M o=>df (bx:=Nat×Nat×Nat×Nat×Nat) (λ_=>True) (λe=>[cP p (yn e.1) (bi 264 [ptr e.2.1 0,ptr e.2.2.1 0,ptr e.2.2.2.1 0]) 0 0 X.bp,iZ e.1 (X.r M) o,ab e.2.1 326 [ptr e.1 0],ab e.2.2.1 246 [ptr p 0],ab e.2.2.2.1 49 [vi M e.2.2.2.2],ab e.2.2.2.2 36 ((oo M).map bu)])
 |.qU M=>df (bx:=Nat×Nat×Nat×Nat×Nat) (λ_=>True) (λe=>[cP p (ma e.1) (bi 318 [ptr e.2.2.2.1 0,ptr e.2.1 0,ptr e.2.2.1 0]) 0 0 X.bp,tp e.1 X.m B.b,ab e.2.1 314 [ptr e.1 0],ab e.2.2.1 246 [ptr p 0],ab e.2.2.2.1 49 [vi M e.2.2.2.2],ab e.2.2.2.2 36 ((oo M).map bu)])
 |.swp M s=>df (bx:=Nat×Nat×Nat×Nat×Nat) (λ_=>True) (λe=>[cP p (ma e.1) (bi 319 [ptr e.2.1 0,ptr e.2.2.1 0,ptr e.2.2.2.1 0]) 0 0 X.bp,vA e.1 X.m B.b s 1,ab e.2.1 314 [ptr e.1 0],ab e.2.2.1 246 [ptr p 0],ab e.2.2.2.1 49 [vi M e.2.2.2.2],ab e.2.2.2.2 36 ((oo M).map bu)])
 |.ask v=>df (bx:=Nat×Nat×Nat×Nat×Nat) (λ_=>True) (λe=>[cP p (ma e.1) (bi 216 [ptr e.2.1 0,ptr e.2.2.1 0,ptr e.2.2.2.1 0,ptr e.2.2.2.2 0]) 0 0 X.bp,vA e.1 X.m (B.b+1) 0 1,ab e.2.1 314 [ptr e.1 0],ab e.2.2.1 246 [ptr p 0],ab e.2.2.2.1 116 [ptr X.bp 0],ab e.2.2.2.2 36 [bu v]])
 |.set st=>df (bx:=Nat×Nat) (λ_=>True) (λe=>[cP p (ma e.1) (bi 229 [ptr e.2 0]) 0 0 X.bp,uF e.1 X.m B.b st,ab e.2 246 [ptr p 0]])
 |.of r o=>df (bx:=Nat×Nat×Nat) (λ_=>True) (λe=>[cP p (yn e.1) (bi 283 [ptr e.2.1 0,ptr e.2.2 0]) 0 0 X.bp,iZ e.1 (X.r r) o,ab e.2.1 246 [ptr p 0],ab e.2.2 326 [ptr e.1 0]])
 |.gone=>df (bx:=Nat×Nat×Nat) (λ_=>True) (λe=>[cP p (ma e.1) (bi 428 [ptr e.2.1 0,ptr e.2.2 0]) 0 0 X.bp,tp e.1 X.m B.b,ab e.2.1 314 [ptr e.1 0],ab e.2.2 246 [ptr p 0]])
 |.xC held=>df (bx:=Nat×Nat×Nat×Nat×Nat) (λ_=>True) (λe=>[cP p (ma e.1) (bi 337 [ptr e.2.1 0,ptr e.2.2.1 0,ptr e.2.2.2.1 0]) 0 0 X.bp,uF e.1 X.m B.b (iK held),ab e.2.1 246 [ptr p 0],ab e.2.2.1 36 [bu (iK held)],ab e.2.2.2.1 380 [qT held true e.2.2.2.2],ab e.2.2.2.2 213 [ptr (X.r true) 0,ptr (X.r false) 0]])
 |.look held r o=>df (bx:=Nat×Nat×Nat×Nat×Nat×Nat) (λ_=>True) (λe=>[cP p (yn e.1) (bi 383 [ptr e.2.1 0,ptr e.2.2.1 0,ptr e.2.2.2.1 0,ptr e.2.2.2.2.1 0]) 0 0 X.bp,iZ e.1 (X.r r) o,ab e.2.1 326 [ptr e.1 0],ab e.2.2.1 246 [ptr p 0],ab e.2.2.2.1 36 [bu (iK held)],ab e.2.2.2.2.1 380 [qT held r e.2.2.2.2.2],ab e.2.2.2.2.2 213 [ptr (X.r true) 0,ptr (X.r false) 0]])
 |.more held=>df (bx:=Nat×Nat×Nat) (λ_=>True) (λe=>[cP p (ma e.1) (bi 384 [ptr e.2.1 0,ptr e.2.2 0]) 0 0 X.bp,vA e.1 X.m B.b (iK held) 1,ab e.2.1 314 [ptr e.1 0],ab e.2.2 246 [ptr p 0]])
def EW(out val:Int):aq:=df (bx:=Value×Value) (λ_=>True) (λe=>[cP p e.1 e.2 out val X.bp])
def fY:aq:=if Y.out=0 then jZ X B p Y.ph else EW X p Y.out Y.val
def sD{X:nk}{B:js}{p:Nat}{ph:vz}{v:Int}{I D:List aq}(h:∀h,Sat I h->Sat (jZ X B p ph::D) h):∀h,Sat I h->Sat (fY X B p ⟨ph,0,v⟩::D) h:=by
 unfold fY;rw[bg rfl];exact h
def EB{X:nk}{B:js}{p:Nat}{ph:vz}{out v:Int}{I D:List aq}(aJ:out≠0)(x y:Value)(h:∀h,Sat I h->Sat (cP p x y out v X.bp::D) h):∀h,Sat I h->Sat (fY X B p ⟨ph,out,v⟩::D) h:=by
 unfold fY;rw[a6 aJ];exact cA (x,y) trivial h
def pB:ad aa 254 [ptr p 0] BS (aF (.bool Y.over) BS):=by
 obtain⟨ph,out,val⟩:=Y;by_cases aJ:out=0
 . subst aJ
   have e:fY X B p uO=jZ X B p ph:=Ix;rw[e];cases ph<;>exact kC (λx _=>ki (tv p X.bp _ _ 0 0) nx tu)
 . have e:fY X B p pj=EW X p out val:=by unfold fY;rw[a6 aJ]
   rw[e];exact kC (λx _=>ki (tv p X.bp _ _ out val) nx tu)
end
section
variable{M:Bool}{i:Nat}{s:Int}
def atH(h:i<(oo M).length)(e:(oo M).getD i 0=s):xB M s=true:=by
 rw[atG];refine lM ?_;rw[<-e,je,cq h];exact sz _
def atI(h:i=qS M)(e:∀j,j<i->(oo M).getD j 0≠s):xB M s=false:=by
 subst h;cases M
 . have:=e 0 bN;simp[oo]at this;simp[xB];omega
 . have:=e 0 bN;have h2:=e 1 bN;simp[oo]at this h2;simp[xB];omega
end
section
variable(X:nk)(B:js)(p:Nat)(x y:Value)(M:Bool)(N q z ge b0 d9 eT E ac R:Nat)(v s:Int)(eO fP:Bool)(o:fr)
def ahT:ad aa 265 [ptr p 0,vi M N] (cP p x y 0 0 X.bp::PP) (aF et [jZ X B p (.qU M),e4 X B]):=by
 refine ax Tryz.func265 λF D=>?_;refine n0 ?_;intro U Z;refine bX ?_;refine ir [14,15,16] [15] [1,5,9,13,17,21,25,29,33,37,41,45,49,53,58,62,66,3,3,3,62,58,66] [cP p x y 0 0 X.bp,e4 X B,ab U 246 [ptr p 0]] ?_;refine fZ ?_;refine e8 ?_ ?_
 . refine bt (Ka X.m B.b) ?_
   refine RJ ?_;intro z aN;exact adM
 . refine wn λaN=>?_
   refine aG ?_;refine bt (Ka X.m B.b) ?_;refine RE ?_;intro z;exact adM
def atJ:ad aa 319 [ptr eT 0,ptr ac 0,ptr R 0] (cP p x y 0 0 X.bp::qt z 0 fP::ab eT 314 [ptr z 0]::abI) (aF et [fY X B p (if fP then⟨.swp M s,7,0⟩else EG),e4 X B]):=by
 refine ax Tryz.func319 λF D=>?_;refine yr ?_;intro f;refine cr ?_;refine b6 (λW=>?_) (λW=>?_)
 . subst W
   refine bz ?_;refine aV (me p X.bp x y 0 0 7 0) ?_;exact QS
 . subst W
   refine bz ?_;refine aV (ahT X B p x y M N) ?_;exact QR
def atK(cs ac:Nat)(s:Int)(fP:Bool):ad aa 318 [ptr R 0,ptr cs 0,ptr ac 0] (cP p x y 0 0 X.bp::qt z s fP::ab R 49 [vi M N]::ab cs 314 [ptr z 0]::ab ac 246 [ptr p 0]::PP) (aF et [fY X B p (if xB M s then⟨.swp M s,0,0⟩else⟨.qU M,1,0⟩),e4 X B]):=by
 refine ax Tryz.func318 λF D=>?_;refine yr ?_;intro f;have T:=atF M;have K:qS M<=2:=by cases M<;>decide
 refine cr ?_;refine gO (λi=>i<=qS M/\∀j,j<i->(oo M).getD j 0≠s) (λi=>[(8,af i),(7,af (qS M:Nat)),(6,vi M N),(2,ptr ac 0),(1,ptr cs 0),(0,ptr R 0)]) (λi=>pe z f true s fP::cP p x y 0 0 X.bp::ab R 49 [vi M N]::ab cs 314 [ptr z 0]::ab ac 246 [ptr p 0]::ab N 36 ((oo M).map bu)::e4 X B::D) (λi=>qS M -i) 0 (⟨fc _,λj J=>absurd J (KO _)⟩) de (au) ?_;rintro i ⟨al,hC⟩;have al:i<=qS M:=al;refine bh ?_;refine b6 (λW=>?_) (λW=>?_)
 . have d5:i<qS M:=by omega
   refine ch ?_;refine aA rfl (gy rfl (CV (d:=0) ae)) ?_;refine a7 ?_
   generalize ah:(oo M).getD i 0=y
   refine cO ?_;refine b6 (λI=>?_) (λI=>?_)
   . obtain rfl:s=y:=I
     have hu:=atH (show i<(oo M).length by omega) ah;refine aG ?_;refine ir [15,16,17] [16] PM [cP p x y 0 0 X.bp,e4 X B,ab ac 246 [ptr p 0]] ?_;refine eP ?_;refine e8 ?_ ?_
     . refine bt (xx X.m B.b s 1) ?_
       rintro _ _ ⟨a,rfl,rfl⟩;refine er ?_;refine aG ?_;refine wn λaO=>?_;exact af0
     . refine wn λaO=>?_
       refine aG ?_;refine bt (xx X.m B.b s 1) ?_;rintro _ _ ⟨a,rfl,rfl⟩;refine er ?_;exact af0
   . refine bF ?_
     refine aA rfl (fo ((i+1:Nat):Int) eV rfl rfl) ?_;refine a7 ?_;refine fm (i+1) ⟨by omega,λj J=>by rcases Nat.lt_succ_iff_lt_or_eq.1 J with h|h;exact hC j h;subst h;rw[ah];exact λh=>I h.symm⟩ (by show qS M -(i+1)<qS M -i;omega) de (au)
 . have b:i=qS M:=by omega
   refine cr ?_;refine aV (me p X.bp x y 0 0 1 0) ?_;refine a7 ?_;exact aW (H:=[fY X B p ⟨.qU M,1,0⟩,e4 X B]) ⟨rfl,by rw[atI b hC];rfl⟩ EA
def R1:ad aa 217 [ptr p 0,ptr (X.r M) 0,bu v,vi M N] [cP p x y 0 0 X.bp,ab N 36 ((oo M).map bu)] (aF et [jZ X B p (.put M (gU 0 v))]):=by
 refine ax Tryz.func217 λF D=>?_;refine a7 ?_;refine wn λaN=>?_;refine wn λbW=>?_;refine bh ?_;refine bt (VP (X.r M) v) ?_;refine nv ?_;intro q;refine wn λV=>?_;refine aeI ?_;refine aV (AB p q (X.r M) X.bp x y _ rfl 0 0 (gU 0 v) rfl) ?_;refine bX ?_;exact aW ⟨rfl,rfl⟩ (cA (q,V,aN,bW,N) trivial (au))
def ahU(c ac R:Nat)(o:fr)(aJ:o.out≠0):ad aa 264 [ptr c 0,ptr ac 0,ptr R 0] (cP p x y 0 0 X.bp::iZ q (X.r M) o::ab c 326 [ptr q 0]::abI) (aF et [fY X B p (if o.out=1 then EG else⟨.put M o,o.out,0⟩),e4 X B]):=by
 refine ax Tryz.func264 λF D=>?_;refine bF ?_;refine aV (uG q (X.r M) o) ?_;refine bX ?_;refine b6 (λW=>?_) (λW=>?_)
 . refine aG ?_
   refine ct [4] [103,1,202] [ab ac 246 [ptr p 0],ab c 326 [ptr q 0]] ?_;refine bF ?_;refine aV (uG q (X.r M) o) ?_;refine aG ?_;refine aV (me p X.bp x y 0 0 o.out 0) ?_;refine bh ?_;exact aW (H:=[fY X B p ⟨.put M o,o.out,0⟩,e4 X B]) Ex (EB aJ x y (au))
 . refine bz ?_
   refine aV (ahT X B p x y M N) ?_;refine a7 ?_;exact aW (H:=[fY X B p ⟨.qU M,0,0⟩,e4 X B]) ⟨rfl,by rw[bg W]⟩ (sD (au))
def atL:ad aa 209 [ptr X.bp 0,bu v] [e4 X B] (λu H=>∃p,u=ptr p 0/\H=[jZ X B p (.put false (gU 0 v)),e4 X B]):=by
 refine ax Tryz.func209 λF D=>?_;refine cr ?_;refine wn λV=>?_;refine cO ?_;refine wn λb=>?_;refine aV (R1 X B V _ _ false b v) ?_;refine cU ?_;exact aW ⟨V,rfl,rfl⟩
def atM:ad aa 355 [ptr X.bp 0,bu v] [e4 X B] (λu H=>∃p,u=ptr p 0/\H=[jZ X B p (.put true (gU 0 v)),e4 X B]):=by
 refine ax Tryz.func355 λF D=>?_;refine cr ?_;refine wn λV=>?_;refine cO ?_;refine wn λb=>?_;refine aV (R1 X B V _ _ true b v) ?_;refine cU ?_;exact aW ⟨V,rfl,rfl⟩
def atN(bk b0:Nat)(v:Int)(fP:Bool):ad aa 216 [ptr ge 0,ptr eT 0,ptr bk 0,ptr b0 0] (cP p x y 0 0 X.bp::qt z 0 fP::ab ge 314 [ptr z 0]::ab4) (aF et [fY X B p (if fP then QE else⟨.ask v,4,0⟩),e4 X B]):=by
 refine ax Tryz.func216 λF D=>?_;refine yr ?_;intro f;refine cU ?_;refine b6 (λW=>?_) (λW=>?_)
 . subst W
   refine bz ?_;refine aV (me p X.bp x y 0 0 4 0) ?_;exact QS
 . subst W
   refine a7 ?_;refine ct [6] [106,202] ab4 ?_;refine bh ?_;refine wn λa=>?_;refine aG ?_;refine aV (R1 X B p x y true a v) ?_;refine bX ?_;exact aW ⟨rfl,rfl⟩ (sD (au))
def atO(cc:B.b<=65536)(v:Int):ad aa 165 [ptr X.bp 0,bu v] [e4 X B] (λu H=>∃p,u=ptr p 0/\H=[jZ X B p (.ask v),e4 X B]):=by
 refine ax Tryz.func165 λF D=>?_;refine n0 ?_;intro U Z;refine ch ?_;refine wn λcx=>?_;refine wn λaO=>?_;refine bF ?_;refine ir [9,10,11] [10] I9 [e4 X B,ab U 116 tP] ?_;refine bH ?_;refine jJ rfl .none rfl (fo ((B.b+1:Nat):Int) eV rfl rfl) (au) ?_;refine e8 ?_ ?_
 . refine bt (xx X.m (B.b+1) 0 1) ?_
   rintro _ _ ⟨z,rfl,rfl⟩;refine er ?_;refine aG ?_;refine wn λaR=>?_;exact afV
 . refine wn λaR=>?_
   refine aG ?_;refine bt (xx X.m (B.b+1) 0 1) ?_;rintro _ _ ⟨z,rfl,rfl⟩;refine er ?_;exact afV
def atP(z eT:Nat)(st:Int):ad aa 229 [ptr eT 0] [cP p x y 0 0 X.bp,ab eT 246 [ptr p 0]] (aF et [fY X B p ⟨.set st,1,0⟩]):=by
 refine ax Tryz.func229 λF D=>?_;refine bF ?_;exact adE
def R2:ad aa 193 [ptr X.bp 0,bu v] [e4 X B] (λu H=>∃p,u=ptr p 0/\H=[jZ X B p (.set v),e4 X B]):=by
 refine ax Tryz.func193 λF D=>?_;refine cr ?_;refine wn λV=>?_;refine wn λaO=>?_;refine bF ?_;refine h9 [12,15] [12] Pp [e4 X B,ab aO 246 [ptr V 0]] mixed gS ?_;refine fx ?_;refine bt (GO X.m B.b v) ?_;refine GQ ?_;intro z;refine aV (GR V z X.bp X.m B.b v _ _ _ rfl 0 0) ?_;refine cO ?_;exact aW ⟨V,rfl,rfl⟩ (cA (z,aO) trivial (au))
def atQ:ad aa 137 tP [e4 X B] (λu H=>∃p,u=ptr p 0/\H=[jZ X B p (.set 2),e4 X B]):=by
 refine ax Tryz.func137 λF D=>?_;refine bH ?_;refine bt (R2 X B 2) ?_;exact ru
def atS:ad aa 233 tP [e4 X B] (λu H=>∃p,u=ptr p 0/\H=[jZ X B p (.set 1),e4 X B]):=by
 refine ax Tryz.func233 λF D=>?_;refine bH ?_;refine bt (R2 X B 1) ?_;exact ru
def atT:ad aa 362 tP [e4 X B] (λu H=>∃p,u=ptr p 0/\H=[jZ X B p (.set 4),e4 X B]):=by
 refine ax Tryz.func362 λF D=>?_;refine bH ?_;refine bt (R2 X B 4) ?_;exact ru
def ahV(r eT b0:Nat)(eO:Bool)(o:fr)(aJ:o.out≠0):ad aa 283 [ptr eT 0,ptr b0 0] [cP p x y 0 0 X.bp,iZ q r o,ab eT 246 [ptr p 0],ab b0 326 [ptr q 0]] (aF et [fY X B p ⟨.of eO o,o.out,o.value⟩]):=by
 refine ax Tryz.func283 λF D=>?_;refine h9 [4,6,7] [4,6] [(0,.bJ),(1,.bJ),(2,.bJ),(3,.loc),(5,.bJ),(4,.c0),(6,.c0),(7,.c0)] [ab eT 246 [ptr p 0],ab b0 326 [ptr q 0]] mixed gS ?_;refine bz ?_;refine aV (uG q r o) ?_;refine aG ?_;refine aV (MK q r o) ?_;refine aG ?_;refine aV (me p X.bp x y 0 0 o.out o.value) ?_;refine bX ?_;exact aW ⟨rfl,rfl⟩ (EB aJ x y (au))
def KP(aJ:o.over=false):ad aa 230 [ptr X.bp 0,ptr q 0] [e4 X B,iZ q (X.r eO) o] (λu H=>∃p,u=ptr p 0/\H=[jZ X B p (.of eO o),e4 X B]):=by
 refine ax Tryz.func230 λF D=>?_;refine a7 ?_;refine wn λZ=>?_;refine ch ?_;refine wn λV=>?_;refine wn λaO=>?_;refine bF ?_;refine aeh ?_;refine aV (AB V q (X.r eO) X.bp _ _ _ rfl 0 0 o aJ) ?_;refine cO ?_;exact aW ⟨V,rfl,rfl⟩ (cA (q,aO,Z) trivial (au))
def atU:ad aa 239 tP [e4 X B] (λu H=>∃p,u=ptr p 0/\H=[jZ X B p (.of false (gU 5 0)),e4 X B]):=by
 refine ax Tryz.func239 λF D=>?_;refine dx ?_;refine bt (MI (X.r false)) ?_;refine nv ?_;intro q;refine bt (KP X B q false (gU 5 0) rfl) ?_;exact ru
def atV:ad aa 194 tP [e4 X B] (λu H=>∃p,u=ptr p 0/\H=[jZ X B p (.of true (gU 5 0)),e4 X B]):=by
 refine ax Tryz.func194 λF D=>?_;refine dx ?_;refine bt (MI (X.r true)) ?_;refine nv ?_;intro q;refine bt (KP X B q true (gU 5 0) rfl) ?_;exact ru
def atW:ad aa 358 tP [e4 X B] (λu H=>∃p,u=ptr p 0/\H=[jZ X B p (.of false (gU 14 0)),e4 X B]):=by
 refine ax Tryz.func358 λF D=>?_;refine dx ?_;refine bt (atX (X.r false)) ?_;refine nv ?_;intro q;refine bt (KP X B q false (gU 14 0) rfl) ?_;exact ru
def atY:ad aa 400 tP [e4 X B] (λu H=>∃p,u=ptr p 0/\H=[jZ X B p (.of false (gU 10 0)),e4 X B]):=by
 refine ax Tryz.func400 λF D=>?_;refine dx ?_;refine bt (atZ (X.r false)) ?_;refine nv ?_;intro q;refine bt (KP X B q false (gU 10 0) rfl) ?_;exact ru
def at0(b0:Nat)(s:Int)(fP:Bool):ad aa 428 [ptr d9 0,ptr b0 0] [cP p x y 0 0 X.bp,qt z s fP,ab d9 314 [ptr z 0],ab b0 246 [ptr p 0]] (aF et [fY X B p ⟨.gone,if s=4 then 1 else 4,0⟩]):=by
 refine ax Tryz.func428 λF D=>?_;refine yr ?_;intro f;refine cU ?_;refine b6 (λW=>?_) (λW=>?_)
 . refine bz ?_
   refine aV (me p X.bp x y 0 0 1 0) ?_;refine bz ?_;exact aW (H:=[fY X B p ⟨.gone,1,0⟩]) ⟨rfl,by rw[bg W]⟩ EA
 . refine bh ?_
   refine aV (me p X.bp x y 0 0 4 0) ?_;refine a7 ?_;exact aW (H:=[fY X B p ⟨.gone,4,0⟩]) Ex EA
def at1:ad aa 393 tP [e4 X B] (λu H=>∃p,u=ptr p 0/\H=[jZ X B p .gone,e4 X B]):=by
 refine ax Tryz.func393 λF D=>?_;refine cr ?_;refine wn λbW=>?_;refine wn λZ=>?_;refine bF ?_;refine ir [8,9,10] [9] wy [e4 X B] ?_;refine bH ?_;refine e8 ?_ ?_
 . refine GY ?_
   intro z;refine aG ?_;refine wn λaN=>?_;exact afU
 . refine wn λaN=>?_
   refine aG ?_;refine GY ?_;intro z;exact afU
def at2(held:Bool)(z d9 c1:Nat)(fP:Bool):ad aa 384 [ptr d9 0,ptr c1 0] [cP p x y 0 0 X.bp,qt z 0 fP,ab d9 314 [ptr z 0],ab c1 246 [ptr p 0]] (aF et [fY X B p (if fP then⟨.more held,8,0⟩else⟨.more held,1,0⟩)]):=by
 refine ax Tryz.func384 λF D=>?_;refine yr ?_;intro f;refine cr ?_;refine b6 (λW=>?_) (λW=>?_)
 . subst W
   refine bz ?_;refine aV (me p X.bp x y 0 0 8 0) ?_;exact QS
 . subst W
   refine bh ?_;exact adE
def ahW(B:js)(p:Nat)(x y:Value)(st:Int)(a:Option Addr)(c:Nat):ad aa 338 [ptr p 0,bu st,.slice a 0 c] [cP p x y 0 0 X.bp] (aF et [cP p x y 4 0 X.bp]):=by
 refine ax Tryz.func338 λF D=>?_;refine Ks ?_;intro Z aN aO;refine nQ ?_;refine bz ?_;refine aV (me p X.bp x y 0 0 4 0) ?_;refine bz ?_;exact aW ⟨rfl,rfl⟩
def at3:ad aa 338 [ptr p 0,bu (iK true),qT true true E] P1 (aF et [jZ X B p (.look true true (gU 12 0))]):=by
 exact agY
def at4(aJ:o.out≠0):ad aa 383 Qk (cP p x y 0 0 X.bp::iZ q (X.r true) o::ab ge 326 [ptr q 0]::ab b0 246 [ptr p 0]::ab d9 36 [bu (iK true)]::ab eT 380 [qT true true E]::P7) (aF et [fY X B p (if o.out=1 then⟨.more true,0,0⟩else⟨.look true true o,4,0⟩),e4 X B]):=by
 refine ax Tryz.func383 λF D=>?_;refine bF ?_;refine aV (uG q (X.r true) o) ?_;refine bX ?_;refine b6 (λW=>?_) (λW=>?_)
 . refine aG ?_
   refine ct [] [4,201] [ab b0 246 [ptr p 0],ab d9 36 [bu (iK true)],ab eT 380 [qT true true E]] ?_;refine QU ?_;refine aV (ahW X B p x y (iK true) _ _) ?_;refine bh ?_;exact aW (H:=[fY X B p ⟨.look true true o,4,0⟩,e4 X B]) Ex EA
 . refine bX ?_
   refine ir [15,16,17] [16] PM [cP p x y 0 0 X.bp,ab b0 246 [ptr p 0],ab d9 36 [bu (iK true)],e4 X B] ?_;refine eP ?_;refine e8 ?_ ?_
   . refine bt (xx X.m B.b (iK true) 1) ?_
     refine RJ ?_;intro z aN;exact adX
   . refine wn λaN=>?_
     refine aG ?_;refine bt (xx X.m B.b (iK true) 1) ?_;refine RE ?_;intro z;exact adX
def at5:ad aa 287 [ptr X.bp 0,.bool true] [e4 X B] (λu H=>∃p,u=ptr p 0/\H=[jZ X B p (.xC true),e4 X B]):=by
 refine ax Tryz.func287 λF D=>?_;refine cr ?_;refine wn λc2=>?_;refine wn λaO=>?_;refine bX ?_;refine Dk (λact i=>∃(x y:Value) (aR bW a:Nat),hd Tryz.f287.ntmps [(7,ptr bW 0),(6,ptr aR 0),(5,ptr aO 0),(4,.pointer none),(1,.bool true),(0,ptr X.bp 0)] act/\db F aan i) ?_ ?_
 . exact aeX
 . rintro act i ⟨x,y,aR,bW,a,gY,st⟩
   refine Dl ?_ gY st;clear gY st act i;refine bh ?_;refine nQ ?_;refine ct [2] [102,202] [ab bW 380 [.slice (some ⟨a,0,none⟩) 2 2]] ?_;refine aG ?_;refine go_vs rfl .none rfl (uE rfl rfl bN) (au) ?_;refine bz ?_;refine h9 [12,15] [12] Pp [e4 X B,ab aR 36 [bu (iK true)],ab aO 246 [ptr c2 0]] mixed gS ?_;refine fx ?_;refine bt (GO X.m B.b (iK true)) ?_;refine GQ ?_;intro z;refine aV (GR c2 z X.bp X.m B.b (iK true) _ _ _ rfl 0 0) ?_;exact adg
def at6(ge S E:Nat):ad aa 337 [ptr eT 0,ptr ge 0,ptr S 0] [cP p x y 0 0 X.bp,ab eT 246 [ptr p 0],ab ge 36 [bu (iK true)],ab S 380 [qT true true E],ab E 213 Ee] (aF et [fY X B p ⟨.look true true (gU 12 0),0,0⟩]):=by
 refine ax Tryz.func337 λF D=>?_;refine bF ?_;refine aV (at3 X B p x y E) ?_;exact QR
def at7:ad aa 338 [ptr p 0,bu (iK false),qT false false E] P1 (aF et [jZ X B p (.look false false (gU 12 0))]):=by
 refine agf ?_;intro F D Z aN aO;refine bt (agZ (X.r false)) ?_;refine afS ?_;intro q aR;refine aV (AB p q (X.r false) X.bp x y _ rfl 0 0 (gU 12 0) rfl) ?_;exact ade
def at8(aJ:o.out≠0):ad aa 383 Qk (cP p x y 0 0 X.bp::iZ q (X.r false) o::ab ge 326 [ptr q 0]::ab b0 246 [ptr p 0]::ab d9 36 zl::ab eT 380 [qT false false E]::P7) (aF et [fY X B p (if o.out=1 then⟨.more false,0,0⟩else⟨.look false false o,4,0⟩),e4 X B]):=by
 refine ax Tryz.func383 λF D=>?_;refine bF ?_;refine aV (uG q (X.r false) o) ?_;refine bX ?_;refine b6 (λW=>?_) (λW=>?_)
 . refine aG ?_
   refine ct [] [4,201] [ab b0 246 [ptr p 0],ab d9 36 zl,ab eT 380 [qT false false E]] ?_;refine QU ?_;refine aV (ahW X B p x y (iK false) _ _) ?_;refine bh ?_;exact aW (H:=[fY X B p ⟨.look false false o,4,0⟩,e4 X B]) Ex EA
 . exact afq
def at9:ad aa 338 [ptr p 0,bu (iK false),qT false true E] P1 (aF et [jZ X B p (.look false true (gU 12 0))]):=by
 exact agY
def aua(aJ:o.out≠0):ad aa 383 Qk (cP p x y 0 0 X.bp::iZ q (X.r true) o::ab ge 326 [ptr q 0]::ab b0 246 [ptr p 0]::ab d9 36 zl::ab eT 380 [qT false true E]::P7) (aF et [fY X B p (if o.out=1 then⟨.more false,0,0⟩else⟨.look false false (gU 12 0),0,0⟩),e4 X B]):=by
 refine ax Tryz.func383 λF D=>?_;refine bF ?_;refine aV (uG q (X.r true) o) ?_;refine bX ?_;refine b6 (λW=>?_) (λW=>?_)
 . refine aG ?_
   refine ct [] [4,201] [ab b0 246 [ptr p 0],ab d9 36 zl,ab eT 380 [qT false true E]] ?_;refine QU ?_;refine aV (at7 X B p x y E) ?_;refine bh ?_;exact aW (H:=[fY X B p ⟨.look false false (gU 12 0),0,0⟩,e4 X B]) Ex (sD (au))
 . exact afq
def aub:ad aa 287 [ptr X.bp 0,.bool false] [e4 X B] (λu H=>∃p,u=ptr p 0/\H=[jZ X B p (.xC false),e4 X B]):=by
 refine ax Tryz.func287 λF D=>?_;refine cr ?_;refine wn λc2=>?_;refine wn λaO=>?_;refine bX ?_;refine Dk (λact i=>∃(x y:Value) (aR bW a:Nat),hd Tryz.f287.ntmps [(7,ptr bW 0),(6,ptr aR 0),(5,ptr aO 0),(4,.pointer none),(1,.bool false),(0,ptr X.bp 0)] act/\db F aan i) ?_ ?_
 . exact aeX
 . rintro act i ⟨x,y,aR,bW,a,gY,st⟩
   refine Dl ?_ gY st;clear gY st act i;refine bh ?_;refine lD ?_;refine bX ?_;refine h9 [12,15] [12] Pp [e4 X B,ab aR 36 zl,ab aO 246 [ptr c2 0]] mixed gS ?_;refine fx ?_;refine bt (GO X.m B.b (iK false)) ?_;refine GQ ?_;intro z;refine aV (GR c2 z X.bp X.m B.b (iK false) _ _ _ rfl 0 0) ?_;exact adg
def auc(ge S E:Nat):ad aa 337 [ptr eT 0,ptr ge 0,ptr S 0] [cP p x y 0 0 X.bp,ab eT 246 [ptr p 0],ab ge 36 zl,ab S 380 [qT false true E],ab E 213 Ee] (aF et [fY X B p ⟨.look false true (gU 12 0),0,0⟩]):=by
 refine ax Tryz.func337 λF D=>?_;refine bF ?_;refine aV (at9 X B p x y E) ?_;exact QR
end
section
variable(X:nk)(B:js)(p:Nat)(L:List Int)(t:Int)(Y:gA)
def rQ:aq:=df (bx:=Unit) (λ_=>True) (λ_=>[e4 X B,cg X.m L t,gf (X.r false) X.m (B.eO false) (B.fa false),gf (X.r true) X.m (B.eO true) (B.fa true)])
def _root_.Go.L.dr.rR.iq{B:js}{L:List Int}(h:rR B L)(r:Bool):wz (B.eO r) (B.fa r) L:=let⟨a,b,c,d⟩:=rR.eO h r;⟨a,b,c,d⟩
def aud(cc:rR B L)(M:Bool)(s:Int):ad aa 474 [ptr p 0] [jZ X B p (.swp M s),rQ X B L t] (aF (.bool (if decide (L.getD B.b 0=s)then⟨.swp M s,7,0⟩else EG:gA).over) [fY X B p (if decide (L.getD B.b 0=s)then⟨.swp M s,7,0⟩else EG),rQ X B (if L.getD B.b 0=s then L.set B.b 1 else L) (ga t)]):=by
 have f:B.b<L.length:=oI;have g:B.b+1<L.length:=oI;refine eW .head (λe _=>?_);obtain⟨z,eT,ac,R,N⟩:=e;refine gb ?_;refine eW (bx:=Unit) ek (λ_ _=>?_);refine gb ?_;exact pC (pB X B p _) (R3 z X.m B.b L t f (s) 1) (atJ X B p _ _ M N z eT ac R s (decide (L.getD B.b 0=s)))
def aue(cc:rR B L)(v:Int):ad aa 474 [ptr p 0] [jZ X B p (.ask v),rQ X B L t] (aF (.bool (if decide (L.getD (B.b+1) 0=0)then QE else⟨.ask v,4,0⟩:gA).over) [fY X B p (if decide (L.getD (B.b+1) 0=0)then QE else⟨.ask v,4,0⟩),rQ X B (if L.getD (B.b+1) 0=0 then L.set (B.b+1) 1 else L) (ga t)]):=by
 have f:B.b<L.length:=oI;have g:B.b+1<L.length:=oI;refine eW .head (λe _=>?_);obtain⟨z,ge,eT,bk,b0⟩:=e;refine gb ?_;refine eW (bx:=Unit) ek (λ_ _=>?_);refine gb ?_;exact pC (pB X B p _) (R3 z X.m (B.b+1) L t g (0) 1) (atN X B p _ _ z ge eT bk b0 v (decide (L.getD (B.b+1) 0=0)))
def auf(cc:rR B L)(held:Bool):ad aa 474 [ptr p 0] [jZ X B p (.more held),rQ X B L t] (aF (.bool (if decide (L.getD B.b 0=iK held)then⟨.more held,8,0⟩else⟨.more held,1,0⟩:gA).over) [fY X B p (if decide (L.getD B.b 0=iK held)then⟨.more held,8,0⟩else⟨.more held,1,0⟩),rQ X B (if L.getD B.b 0=iK held then L.set B.b 1 else L) (ga t)]):=by
 have f:B.b<L.length:=oI;have g:B.b+1<L.length:=oI;refine eW .head (λe _=>?_);obtain⟨z,d9,c1⟩:=e;refine gb ?_;refine eW (bx:=Unit) ek (λ_ _=>?_);refine gb ?_;exact pC (pB X B p _) (R3 z X.m B.b L t f (iK held) 1) (at2 X B p _ _ held z d9 c1 (decide (L.getD B.b 0=iK held)))
def aug(cc:rR B L)(hp:sO Y):ad aa 474 [ptr p 0] [fY X B p Y,rQ X B L t] (aF (.bool (oY B L Y).over) [fY X B p (oY B L Y),rQ X B (qe B L Y) (if Y.over then t else ga t)]):=by
 obtain⟨ph,out,val⟩:=Y;by_cases aJ:out=0
 . subst aJ
   obtain⟨al,V⟩:=hp rfl;obtain rfl:val=0:=V;have G:fY X B p su=jZ X B p ph:=Ix;have j:(su:gA).over=false:=rfl;have aB:oY B L su=(iI B L ph).2:=by unfold oY;rw[j];rfl
   have aU:qe B L su=(iI B L ph).1:=by unfold qe;rw[j];rfl
   rw[G,aB,aU,j];simp only[eH,eo];have k:∀(r:Bool) (o:fr),(ph=.put r o\/ph=.of r o)->True:=λ_ _ _=>trivial;cases ph with
   |
    put M o=>
    cases U:(dL (B.eO M) (B.fa M) L o).over with
    |
     false=>
     have e:(iI B L (.put M o))=(lp (B.eO M) (B.fa M) L o,⟨.put M (dL (B.eO M) (B.fa M) L o),0,0⟩):=OX;rw[e];cases M
     . have a:iG o:=al.1
       have aJ:o.out=0:=al.2;refine eW .head (λe _=>?_);obtain⟨z,c,ac,R,N⟩:=e;simp only[cn,ci];refine eW (bx:=Unit) ek (λ_ _=>?_);simp only[cn,ci];have b:o.over=false:=mP;have i:=mQ z (X.r false) X.m sI sJ L t o (cc.iq false) a;rw[U,b]at i;simp only[eH,eo]at i;refine qu i (λD=>?_);simp only[cn,ci];refine λh s=>Sat.swap (cA () trivial (I:=_) ?_ h s);simp only[cn,ci];refine λh s=>(hG.from (A:=fY X B p ⟨.put false BL,0,0⟩) zh) acN
     . have a:iG o:=al.1
       have aJ:o.out=0:=al.2;refine eW .head (λe _=>?_);obtain⟨z,c,ac,R,N⟩:=e;simp only[cn,ci];refine eW (bx:=Unit) ek (λ_ _=>?_);simp only[cn,ci];have b:o.over=false:=mP;have i:=mQ z (X.r true) X.m (B.eO true) (B.fa true) L t o xk a;rw[U,b]at i;simp only[eH,eo]at i;refine qu i (λD=>?_);simp only[cn,ci];refine λh s=>Sat.swap (cA () trivial (I:=_) ?_ h s);simp only[cn,ci];refine λh s=>(hG.from (A:=fY X B p ⟨.put true xg,0,0⟩) zh) acN
    |
     true=>
     have e:(iI B L (.put M o))=(lp (B.eO M) (B.fa M) L o,if(dL (B.eO M) (B.fa M) L o).out=1 then EG else⟨.put M (dL (B.eO M) (B.fa M) L o),(dL (B.eO M) (B.fa M) L o).out,0⟩):=by simp only[iI,U,fk]
     rw[e];cases M
     . have a:iG o:=al.1
       have aJ:o.out=0:=al.2;refine eW .head (λe _=>?_);obtain⟨z,c,ac,R,N⟩:=e;simp only[cn,ci];refine eW (bx:=Unit) ek (λ_ _=>?_);simp only[cn,ci];have b:o.over=false:=mP;have i:=mQ z (X.r false) X.m sI sJ L t o (cc.iq false) a;rw[U,b]at i;simp only[eH,eo]at i;have d:(dL sI sJ L o).out≠0:=qv;exact pC (pB X B p _) i (ahU X B p _ _ false N z c ac R BL d)
     . have a:iG o:=al.1
       have aJ:o.out=0:=al.2;refine eW .head (λe _=>?_);obtain⟨z,c,ac,R,N⟩:=e;simp only[cn,ci];refine eW (bx:=Unit) ek (λ_ _=>?_);simp only[cn,ci];have b:o.over=false:=mP;have i:=mQ z (X.r true) X.m (B.eO true) (B.fa true) L t o xk a;rw[U,b]at i;simp only[eH,eo]at i;have d:(dL (B.eO true) (B.fa true) L o).out≠0:=qv;exact pC (pB X B p _) i (ahU X B p _ _ true N z c ac R xg d)
   |
    qU M=>
    have f:B.b<L.length:=oI;have g:B.b+1<L.length:=oI;refine eW .head (λe _=>?_);obtain⟨z,cs,ac,R,N⟩:=e;simp only[cn,ci];refine eW (bx:=Unit) ek (λ_ _=>?_);simp only[cn,ci];exact pC (pB X B p _) (G3 z X.m B.b L t f) (atK X B p _ _ M N z R cs ac (L.getD B.b 0) true)
   |
    swp M s=>
    have h:=aud X B p L t cc M s;simp only[iI];by_cases a2:L.getD B.b 0=s
    . rw[lM a2,bg a2]at h;rw[bg a2];exact h
    . rw[mJ a2,a6 a2]at h;rw[a6 a2];exact h
   |
    ask v=>
    have h:=aue X B p L t cc v;simp only[iI];by_cases a2:L.getD (B.b+1) 0=0
    . rw[lM a2,bg a2]at h;rw[bg a2];exact h
    . rw[mJ a2,a6 a2]at h;rw[a6 a2];exact h
   |
    set st=>
    have f:B.b<L.length:=oI;have g:B.b+1<L.length:=oI;refine eW .head (λe _=>?_);obtain⟨z,eT⟩:=e;simp only[cn,ci];refine eW (bx:=Unit) ek (λ_ _=>?_);simp only[cn,ci];exact pC (pB X B p _) (G4 z X.m B.b L t f st) (atP X B p _ _ z eT st)
   |
    of r o=>
    cases U:(dL (B.eO r) (B.fa r) L o).over with
    |
     false=>
     have e:(iI B L (.of r o))=(lp (B.eO r) (B.fa r) L o,⟨.of r JB,0,0⟩):=OX;rw[e];cases r
     . have a:iG o:=al.1
       have aJ:o.out=0:=al.2;refine eW .head (λe _=>?_);obtain⟨z,eT,b0⟩:=e;simp only[cn,ci];refine eW (bx:=Unit) ek (λ_ _=>?_);simp only[cn,ci];have b:o.over=false:=mP;have i:=mQ z (X.r false) X.m sI sJ L t o (cc.iq false) a;rw[U,b]at i;simp only[eH,eo]at i;refine qu i (λD=>?_);simp only[cn,ci];refine λh s=>Sat.swap (cA () trivial (I:=_) ?_ h s);simp only[cn,ci];refine λh s=>(hG.from (A:=fY X B p ⟨.of false BL,0,0⟩) zh) (sD (cA (z,eT,b0) trivial (au)) h s)
     . have a:iG o:=al.1
       have aJ:o.out=0:=al.2;refine eW .head (λe _=>?_);obtain⟨z,eT,b0⟩:=e;simp only[cn,ci];refine eW (bx:=Unit) ek (λ_ _=>?_);simp only[cn,ci];have b:o.over=false:=mP;have i:=mQ z (X.r true) X.m (B.eO true) (B.fa true) L t o xk a;rw[U,b]at i;simp only[eH,eo]at i;refine qu i (λD=>?_);simp only[cn,ci];refine λh s=>Sat.swap (cA () trivial (I:=_) ?_ h s);simp only[cn,ci];refine λh s=>(hG.from (A:=fY X B p ⟨.of true xg,0,0⟩) zh) (sD (cA (z,eT,b0) trivial (au)) h s)
    |
     true=>
     have e:(iI B L (.of r o))=(lp (B.eO r) (B.fa r) L o,⟨.of r JB,(dL (B.eO r) (B.fa r) L o).out,(dL (B.eO r) (B.fa r) L o).value⟩):=by simp only[iI,U,fk]
     rw[e];cases r
     . have a:iG o:=al.1
       have aJ:o.out=0:=al.2;refine eW .head (λe _=>?_);obtain⟨z,eT,b0⟩:=e;simp only[cn,ci];refine eW (bx:=Unit) ek (λ_ _=>?_);simp only[cn,ci];have b:o.over=false:=mP;have i:=mQ z (X.r false) X.m sI sJ L t o (cc.iq false) a;rw[U,b]at i;simp only[eH,eo]at i;have d:(dL sI sJ L o).out≠0:=qv;exact pC (pB X B p _) i (ahV X B p _ _ z (X.r false) eT b0 false BL d)
     . have a:iG o:=al.1
       have aJ:o.out=0:=al.2;refine eW .head (λe _=>?_);obtain⟨z,eT,b0⟩:=e;simp only[cn,ci];refine eW (bx:=Unit) ek (λ_ _=>?_);simp only[cn,ci];have b:o.over=false:=mP;have i:=mQ z (X.r true) X.m (B.eO true) (B.fa true) L t o xk a;rw[U,b]at i;simp only[eH,eo]at i;have d:(dL (B.eO true) (B.fa true) L o).out≠0:=qv;exact pC (pB X B p _) i (ahV X B p _ _ z (X.r true) eT b0 true xg d)
   |
    gone=>
    have f:B.b<L.length:=oI;have g:B.b+1<L.length:=oI;refine eW .head (λe _=>?_);obtain⟨z,d9,b0⟩:=e;simp only[cn,ci];refine eW (bx:=Unit) ek (λ_ _=>?_);simp only[cn,ci];exact pC (pB X B p _) (G3 z X.m B.b L t f) (at0 X B p _ _ z d9 b0 (L.getD B.b 0) true)
   |xC held=>
    cases held
    . have f:B.b<L.length:=by have:=cc.len;omega
      have g:B.b+1<L.length:=oI;refine eW .head (λe _=>?_);obtain⟨z,eT,ge,S,E⟩:=e;simp only[cn,ci];refine eW (bx:=Unit) ek (λ_ _=>?_);simp only[cn,ci];exact pC (pB X B p _) (G4 z X.m B.b L t f (iK false)) (auc X B p _ _ eT ge S E)
    . have f:B.b<L.length:=by have:=cc.len;omega
      have g:B.b+1<L.length:=oI;refine eW .head (λe _=>?_);obtain⟨z,eT,ge,S,E⟩:=e;simp only[cn,ci];refine eW (bx:=Unit) ek (λ_ _=>?_);simp only[cn,ci];exact pC (pB X B p _) (G4 z X.m B.b L t f (iK true)) (at6 X B p _ _ eT ge S E)
   |
    look held r o=>
    cases U:(dL (B.eO r) (B.fa r) L o).over with
    |
     false=>
     have e:(iI B L (.look held r o))=(lp (B.eO r) (B.fa r) L o,⟨.look held r JB,0,0⟩):=OX;rw[e];cases held<;>cases r
     . have a:iG o:=al.1
       have aJ:o.out=0:=al.2.1;refine eW .head (λe _=>?_);obtain⟨z,ge,b0,d9,eT,E⟩:=e;simp only[cn,ci];refine eW (bx:=Unit) ek (λ_ _=>?_);simp only[cn,ci];have b:o.over=false:=mP;have i:=mQ z (X.r false) X.m sI sJ L t o (cc.iq false) a;rw[U,b]at i;simp only[eH,eo]at i;refine qu i (λD=>?_);simp only[cn,ci];refine λh s=>Sat.swap (cA () trivial (I:=_) ?_ h s);simp only[cn,ci];refine λh s=>(hG.from (A:=fY X B p ⟨.look false false BL,0,0⟩) zh) P6
     . have a:iG o:=al.1
       have aJ:o.out=0:=al.2.1;refine eW .head (λe _=>?_);obtain⟨z,ge,b0,d9,eT,E⟩:=e;simp only[cn,ci];refine eW (bx:=Unit) ek (λ_ _=>?_);simp only[cn,ci];have b:o.over=false:=mP;have i:=mQ z (X.r true) X.m (B.eO true) (B.fa true) L t o xk a;rw[U,b]at i;simp only[eH,eo]at i;refine qu i (λD=>?_);simp only[cn,ci];refine λh s=>Sat.swap (cA () trivial (I:=_) ?_ h s);simp only[cn,ci];refine λh s=>(hG.from (A:=fY X B p ⟨.look false true xg,0,0⟩) zh) P6
     . cases al.2.2 rfl
     . have a:iG o:=al.1
       have aJ:o.out=0:=al.2.1;refine eW .head (λe _=>?_);obtain⟨z,ge,b0,d9,eT,E⟩:=e;simp only[cn,ci];refine eW (bx:=Unit) ek (λ_ _=>?_);simp only[cn,ci];have b:o.over=false:=mP;have i:=mQ z (X.r true) X.m (B.eO true) (B.fa true) L t o xk a;rw[U,b]at i;simp only[eH,eo]at i;refine qu i (λD=>?_);simp only[cn,ci];refine λh s=>Sat.swap (cA () trivial (I:=_) ?_ h s);simp only[cn,ci];refine λh s=>(hG.from (A:=fY X B p ⟨.look true true xg,0,0⟩) zh) P6
    |
     true=>
     have e:(iI B L (.look held r o))=(lp (B.eO r) (B.fa r) L o,if(dL (B.eO r) (B.fa r) L o).out=1 then⟨.more held,0,0⟩else if r&&!held then⟨.look held false (gU 12 0),0,0⟩else⟨.look held r JB,4,0⟩):=by simp only[iI,U,fk]
     rw[e];cases held<;>cases r
     . have a:iG o:=al.1
       have aJ:o.out=0:=al.2.1;refine eW .head (λe _=>?_);obtain⟨z,ge,b0,d9,eT,E⟩:=e;simp only[cn,ci];refine eW (bx:=Unit) ek (λ_ _=>?_);simp only[cn,ci];have b:o.over=false:=mP;have i:=mQ z (X.r false) X.m sI sJ L t o (cc.iq false) a;rw[U,b]at i;simp only[eH,eo]at i;have d:(dL sI sJ L o).out≠0:=qv;exact pC (pB X B p _) i (at8 X B p _ _ z ge b0 d9 eT E BL d)
     . have a:iG o:=al.1
       have aJ:o.out=0:=al.2.1;refine eW .head (λe _=>?_);obtain⟨z,ge,b0,d9,eT,E⟩:=e;simp only[cn,ci];refine eW (bx:=Unit) ek (λ_ _=>?_);simp only[cn,ci];have b:o.over=false:=mP;have i:=mQ z (X.r true) X.m (B.eO true) (B.fa true) L t o xk a;rw[U,b]at i;simp only[eH,eo]at i;have d:(dL (B.eO true) (B.fa true) L o).out≠0:=qv;exact pC (pB X B p _) i (aua X B p _ _ z ge b0 d9 eT E xg d)
     . cases al.2.2 rfl
     . have a:iG o:=al.1
       have aJ:o.out=0:=al.2.1;refine eW .head (λe _=>?_);obtain⟨z,ge,b0,d9,eT,E⟩:=e;simp only[cn,ci];refine eW (bx:=Unit) ek (λ_ _=>?_);simp only[cn,ci];have b:o.over=false:=mP;have i:=mQ z (X.r true) X.m (B.eO true) (B.fa true) L t o xk a;rw[U,b]at i;simp only[eH,eo]at i;have d:(dL (B.eO true) (B.fa true) L o).out≠0:=qv;exact pC (pB X B p _) i (at4 X B p _ _ z ge b0 d9 eT E xg d)
   |
    more held=>
    have h:=auf X B p L t cc held;simp only[iI];by_cases a2:L.getD B.b 0=iK held
    . rw[lM a2,bg a2]at h;rw[bg a2];exact h
    . rw[mJ a2,a6 a2]at h;rw[a6 a2];exact h
 . have U:(pj:gA).over=true:=by simp[gA.over,aJ]
   have e:fY X B p pj=EW X p out val:=by unfold fY;rw[a6 (show¬((⟨ph,out,val⟩:gA).out=0)from aJ)]
   have aB:oY B L pj=pj:=by unfold oY;rw[bg U]
   have aU:qe B L pj=L:=by unfold qe;rw[bg U]
   rw[aB,aU,U,e];simp only[fk];exact kC (λx _=>ki (MQ p X.bp _ _ out val aJ) nx tu)
def ahX:ad aa 81 [ptr p 0] BS (aF (af Y.out) BS):=by
 obtain⟨ph,out,val⟩:=Y;by_cases aJ:out=0
 . subst aJ
   have e:fY X B p uO=jZ X B p ph:=Ix;rw[e];cases ph<;>exact kC (λx _=>ki (GZ p X.bp _ _ 0 0) nx tu)
 . have e:fY X B p pj=EW X p out val:=by unfold fY;rw[a6 (show¬((⟨ph,out,val⟩:gA).out=0)from aJ)]
   rw[e];exact kC (λx _=>ki (GZ p X.bp _ _ out val) nx tu)
def auh(hp:sO Y):ad aa 85 [ptr p 0] BS (aF (bu Y.val) BS):=by
 obtain⟨ph,out,val⟩:=Y;by_cases aJ:out=0
 . subst aJ
   obtain⟨_,V⟩:=hp rfl;obtain rfl:val=0:=V;have e:fY X B p su=jZ X B p ph:=Ix;rw[e];cases ph<;>exact kC (λx _=>ki (G0 p X.bp _ _ 0 0) nx tu)
 . have e:fY X B p pj=EW X p out val:=by unfold fY;rw[a6 (show¬((⟨ph,out,val⟩:gA).out=0)from aJ)]
   rw[e];exact kC (λx _=>ki (G0 p X.bp _ _ out val) nx tu)
end
section
variable(s n:Int){fh fF:Nat}
def JY:Int:=if lP s=0\/lP n=0 then 0 else 2+lP s+lP n
def ahY:0<=lP s/\lP s<=130:=by unfold lP;split<;>omega
def R4(L:List Int)(b i:Nat):∀j,iw (iw L b i) (b+i) j=iw L b (i+j)
 |0=>rfl
 |j+1=>by rw[iw,R4 L b i j,<-ny,iw,ny]
def R5(i:Nat)(t:Int):∀j,jx j (jx i t)=jx (i+j) t
 |0=>rfl
 |j+1=>by rw[jx,R5 i t j,<-ny,jx]
def js.aT(B:js):Nat:=2+(2+2*B.fh)+(2+2*B.fF)
def aui{X:nk}{B:js}{L:List Int}{t:Int}{I D:List aq}(h:∀h,Sat I h->Sat (e4 X B::cg X.m L t::gf (X.r false) X.m sI sJ::gf (X.r true) X.m (B.eO true) (B.fa true)::D) h):∀h,Sat I h->Sat (rQ X B L t::D) h:=cA () trivial h
def auj:ad aa 63 [af s,af n] [] (aF (af (JY s n)) []):=by
 refine ax Tryz.func63 λF D=>?_;have aj:=ahY s;have aS:=ahY n;refine bH ?_;refine aV (G5 s) ?_;refine aG ?_;refine aV (G5 n) ?_;refine cU ?_;refine hU rfl rfl (λW=>?_) (λW=>?_) rfl
 . have f:=bR W
   refine bh ?_;refine b6 (λI=>?_) (λI=>?_)
   . refine bH ?_
     exact QN
   . refine bz ?_
     refine aA rfl (fo (2+lP s) (jv ae) rfl rfl) ?_;refine aG ?_;refine aA rfl (fo (2+lP s+lP n) (jv ae) rfl rfl) ?_;refine bz ?_;exact QN
 . have f:=bR W
   refine fx ?_;exact QN
def auk(h1:1<=fh/\fh<=64)(h2:1<=fF/\fF<=64):JY (fh:Int) (fF:Int)=((2+(2+2*fh)+(2+2*fF):Nat):Int):=by
 unfold JY;rw[R6 h1.1 h1.2,R6 h2.1 h2.2,a6 ae];omega
def ahZ(h1:1<=fh/\fh<=64)(h2:1<=fF/\fF<=64):ad aa 63 [af fh,af fF] [] (aF (af ((2+(2+2*fh)+(2+2*fF):Nat):Int)) []):=by
 rw[<-auk h1 h2];exact auj fh fF
def aul(m b fh fF:Nat)(L:List Int)(t:Int)(K:rR ⟨b,fh,fF⟩ L):ad aa 68 [ptr m 0,af b,af fh,af fF] wC
 (λu H=>∃X:nk,u=.tuple #[ptr X.bp 0,af 0]/\X.m=m/\H=[rQ X ⟨b,fh,fF⟩ (iw L b (js.aT ⟨b,fh,fF⟩)) (jx (js.aT ⟨b,fh,fF⟩) t)]):=by
 refine ax Tryz.func68 λF D=>?_;have h1:=K.m1;have h2:=K.m64;have aH:=K.ec;have bm:=K.jV;have dk:b+6+2*fh+2*fF<=L.length:=K.len;have g0:=K.dE;refine cU ?_;refine aV (ahZ ⟨h1,h2⟩ ⟨aH,bm⟩) ?_;refine agQ ?_;refine aA rfl (ks (L.length -(2+(2+2*fh)+(2+2*fF):Nat):Int) (jv ae) rfl rfl) ?_;refine aeN ?_;refine bh ?_;refine cj rfl (b4 rfl (mM m L t b ae 0) bI) ?_;refine gP ?_;refine bh ?_;refine MS ?_;refine cj rfl (b4 rfl (mM m (L.set b 0) _ (b+1) (by rw[gq];omega) 0) bI) ?_;refine gP ?_;refine ch ?_;refine wn λa=>?_;refine bH ?_;refine aA rfl (fo ((b+2:Nat):Int) eV rfl rfl) ?_;refine aG ?_;refine cj rfl (b4 rfl (MT m (b+2) fh ((L.set b 0).set (b+1) 0) _ ⟨h1,h2,by simp;omega,by simp;omega⟩) bI) ?_;rintro _ D ⟨_,⟨gZ,rfl,rfl⟩,rfl⟩;refine fj ?_;refine fx ?_;refine aA rfl (fo ((b+2:Nat):Int) eV rfl rfl) ?_;refine aG ?_;refine aV (ah0 fh h1 h2) ?_;refine aA rfl (fo ((b+2+(2+2*fh):Nat):Int) eV rfl rfl) ?_;refine aG ?_;refine cj rfl (b4 rfl (MT m (b+2+(2+2*fh)) fF (iw ((L.set b 0).set (b+1) 0) (b+2) (2+2*fh)) _ ⟨aH,bm,by rw[wZ];simp;omega,by rw[wZ];simp;omega⟩) bI) ?_;rintro _ D ⟨_,⟨my,rfl,rfl⟩,rfl⟩;refine fj ?_;refine eP ?_;refine a7 ?_;exact aW ⟨⟨a,m,gZ,my⟩,rfl,rfl,rfl⟩ (aui (by rw[show iw L b (js.aT ⟨b,fh,fF⟩)=iw (iw (iw L b 2) (b+2) (2+2*fh)) (b+2+(2+2*fh)) (2+2*fF) by rw[R4,R4,<-ny];rfl,show jx (js.aT ⟨b,fh,fF⟩) t=jx (2+2*fF) (jx (2+2*fh) (jx 2 t)) by rw[R5,R5,<-ny];rfl];exact(au)))
end
end Go.Proofs.YtnnhpnccfnghdaaGreat.L.Po
