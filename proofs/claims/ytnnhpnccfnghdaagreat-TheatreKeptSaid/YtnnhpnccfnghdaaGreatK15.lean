import Derived.Test.YtnnhpnccfnghdaaGreatK14
set_option linter.all false
set_option maxRecDepth 100000
set_option maxHeartbeats 12000000
namespace Go.Proofs.YtnnhpnccfnghdaaGreat.L.bE
open Go.Proofs.YtnnhpnccfnghdaaGreat.L
open Go.L Go.L.Ring Go.L.dr Go.L.dX Go.L.Whl Go.L.dB Go.L.Lx Go.L.Pg
open Go.L.Led (dg du dS bs aw e2)
open Go.L.Th (bK cV da bZ ds bQ bY eE bV ar most dU cM fg eJ dP In cR cZ eK bw bL eL eM bl cB dw go br Good eg eN dT acc Inv eu eS ff busy dG ei ef e9)
attribute[local irreducible] G cz GE cT GT bU c6 cY dc Exit.then Exit.inBlock
abbrev h8(e:dG):List Value:=[af e.kind,af e.a,af e.b,S e.tag,af e.n]
def abD{X:cJ}{z:dn}{s y:ar}{j a:Nat}(N:X.C.ok)(ao:bD X z s)(ah:Th.ask X.C j s a=some y):ad aa 95 [ptr (X.bq j) 0,af a] (bj X z s) dV:=by
 unfold Th.ask at ah;split at ah
 . rename_i a2
   obtain⟨aS,aP⟩:=a2;obtain⟨t,J,R,rfl⟩:=Th.kd ah;have hp:=akv (L:=List.replicate X.C.cells 0) N fW aP;have h1:=hp.len;have h2:=hp.dE;exact jQ (dQ z.cC z.cD s.trace::b2 X.am .i64 (cf z.ap)::ay jO::aag) (avM X z s j a t aP ae N.ha aS J R) au (λu H q=>by
    obtain⟨rfl,aE,aK,rfl⟩:=q;exact⟨bj X Ev aaF,⟨rfl,Ev,aaF,rfl,jq,rfl⟩,au⟩)
 . cases ah
theorem aAM{X:cJ}{z:dn}{s y:ar}{b:Bool}{n:Nat}{f0:Nat->Th.gl}{e:dG}(N:X.C.ok)(dm:Th.iN X.P)(Y:Th.jh f0 X.C X.C.cells)(ao:bD X z s)(h:Th.hv f0 X.C X.P n s)(aS:n+1<=Th.hM)(g:ad aa 92 [S e.tag] [] (aF (.bool (lN e.tag)) []))(ah:Th.hand X.C X.P s e=some (y,b)):
 ad aa 53 [ptr X.h 0,.agg (h8 e).toArray] (bj X z s) vs:=by
 refine Km ?_;intro hw H u d2;have W:bL s+Th.hD<=Th.hD*(n+1):=y6;have m:Th.hD*(n+1)<1099511627776:=II;obtain⟨dJ,ea,O,fl,c5⟩:=e;unfold Th.hand at ah;simp only at ah;by_cases aD:ea<0\/(X.C.cK:Int)<=ea
 . rw[bg aD]at ah
   cases ah;exact aAk X z s ea dJ O c5 fl N ao (by have:=N.h1;omega)
 . rw[a6 aD]at ah
   obtain⟨i,rfl⟩:∃i:Nat,ea=i:=⟨ea.toNat,by omega⟩;have al:i<X.C.cK:=ae;rw[Kp]at ah;obtain⟨t,M⟩:=Th.q2 (j:=X.C.bc+i) h.inv ae;have l:=rH M;by_cases d:s.shut=true
   . have g3:(s.shut||!decide Qr)=true:=by rw[d];rfl
     by_cases cd:dJ=2
     . rw[bg cd]at ah
       cases B:t.on with
       |
        some q=>
        rw[l,B]at ah;simp only[FF,fk]at ah;obtain⟨w,h1,h2⟩:=o3.1 ah;cases h2;exact aAl X z s i dJ O c5 fl N al ao d t q.1 q.2 M B cd y Qi
       |
        none=>
        rw[l,B]at ah;simp only[FG,eH,eo]at ah;cases ah;exact aAm X z s i dJ O c5 fl N al ao d t M B cd
     . rw[a6 cd]at ah
       cases B:t.on with
       |
        some q=>
        rw[l,B]at ah;simp only[FF,fk]at ah;cases ah;exact aAn X z s i dJ O c5 fl N al ao d t q.1 q.2 M B cd
       |
        none=>
        rw[l,B]at ah;simp only[FG,eH,eo]at ah;by_cases eB:dJ=4
        . rw[bg eB]at ah
          cases V:lN fl with
          |
           false=>
           rw[V]at g;rw[bg (Or.inl (by rw[V];rfl))]at ah;cases ah;exact aAu X z s i dJ O c5 fl N al ao d t M B eB g
          |
           true=>
           rw[V]at g;by_cases T:0<=c5/\c5<=255
           . rw[a6 O5]at ah
             rw[g3]at ah;rw[bg rfl]at ah;obtain⟨w,h1,h2⟩:=o3.1 ah;cases h2;obtain⟨o,rfl⟩:=Th.l4 h1;exact aAw X z s i dJ O c5 fl N al ao d t M B eB T o g
           . rw[bg (Or.inr ae)]at ah
             cases ah;exact aAv X z s i dJ O c5 fl N al ao d t M B eB T g
        . rw[a6 eB]at ah
          by_cases f:dJ=5
          . rw[bg f,g3]at ah
            rw[bg rfl]at ah;obtain⟨w,h1,h2⟩:=o3.1 ah;cases h2;obtain⟨o,rfl⟩:=Th.l4 h1;exact aAx X z s i dJ O c5 fl N al ao d t M B f o
          . rw[a6 f]at ah
            by_cases c:dJ=7
            . rw[a6 (by rintro⟨_,h1⟩;rw[d]at h1;cases h1)]at ah
              cases ah;exact aAz X z s i dJ O c5 fl N al ao d t M B c
            . rw[a6 (λh1=>c h1.1)]at ah
              cases ah;exact aAy X z s i dJ O c5 fl N al ao d t M B cd eB f c
   replace d:s.shut=false:=by simpa using d
   by_cases az:1<=O/\O<=(s.aI.length:Int)
   . have g3:(s.shut||!decide Qr)=false:=by rw[d,lM az];rfl
     have I:=ao.ap;have aX:=zJ (cq (show O.toNat -1<z.ap.length by omega));rw[show((O.toNat -1+1:Nat):Int)=O by omega]at aX;by_cases cd:dJ=2
     . rw[bg cd]at ah
       cases B:t.on with
       |
        some q=>
        rw[l,B]at ah;simp only[FF,fk]at ah;obtain⟨w,h1,h2⟩:=o3.1 ah;cases h2;exact aAr X z s i dJ O c5 fl N al ao d _ aX t q.1 q.2 M B cd y Qi
       |
        none=>
        rw[l,B]at ah;simp only[FG,eH,eo]at ah;cases ah;exact aAs X z s i dJ O c5 fl N al ao d _ aX t M B cd
     . rw[a6 cd]at ah
       cases B:t.on with
       |
        some q=>
        rw[l,B]at ah;simp only[FF,fk]at ah;cases ah;exact aAt X z s i dJ O c5 fl N al ao d _ aX t q.1 q.2 M B cd
       |
        none=>
        rw[l,B]at ah;simp only[FG,eH,eo]at ah;by_cases eB:dJ=4
        . rw[bg eB]at ah
          cases V:lN fl with
          |
           false=>
           rw[V]at g;rw[bg (Or.inl (by rw[V];rfl))]at ah;cases ah;exact aAG X z s i dJ O c5 fl N al ao d _ aX t M B eB g
          |
           true=>
           rw[V]at g;by_cases T:0<=c5/\c5<=255
           . rw[a6 O5]at ah
             rw[g3]at ah;rw[a6 bN]at ah;obtain⟨w,h1,h2⟩:=o3.1 ah;cases h2;exact aAI X z s i dJ O c5 fl N al ao d _ aX t M B eB T g y (pA (L:=[]) (Fw (p:=0) bN) (TC (k:=.nil) ao h1))
           . rw[bg (Or.inr ae)]at ah
             cases ah;exact aAH X z s i dJ O c5 fl N al ao d _ aX t M B eB T g
        . rw[a6 eB]at ah
          by_cases f:dJ=5
          . rw[bg f,g3]at ah
            rw[a6 bN]at ah;obtain⟨w,h1,h2⟩:=o3.1 ah;cases h2;exact aAJ X z s i dJ O c5 fl N al ao d _ aX t M B f y (by have aH:=abD N ao h1;rw[show((O.toNat:Nat):Int)=O by omega]at aH;exact aH)
          . rw[a6 f]at ah
            by_cases c:dJ=7
            . rw[bg ⟨c,d⟩]at ah
              obtain⟨w,h1,h2⟩:=o3.1 ah;cases h2;exact aAL X z s i dJ O c5 fl N al ao d _ aX t M B c y abC
            . rw[a6 (λh1=>c h1.1)]at ah
              cases ah;exact aAK X z s i dJ O c5 fl N al ao d _ aX t M B cd eB f c
   . have g3:(s.shut||!decide Qr)=true:=by rw[d,mJ az];rfl
     have aX:dH (cf z.ap) O=none:=K1 (by rw[ao.ap];exact az);by_cases cd:dJ=2
     . rw[bg cd]at ah
       cases B:t.on with
       |
        some q=>
        rw[l,B]at ah;simp only[FF,fk]at ah;obtain⟨w,h1,h2⟩:=o3.1 ah;cases h2;exact aAo X z s i dJ O c5 fl N al ao d aX t q.1 q.2 M B cd y Qi
       |
        none=>
        rw[l,B]at ah;simp only[FG,eH,eo]at ah;cases ah;exact aAp X z s i dJ O c5 fl N al ao d aX t M B cd
     . rw[a6 cd]at ah
       cases B:t.on with
       |
        some q=>
        rw[l,B]at ah;simp only[FF,fk]at ah;cases ah;exact aAq X z s i dJ O c5 fl N al ao d aX t q.1 q.2 M B cd
       |
        none=>
        rw[l,B]at ah;simp only[FG,eH,eo]at ah;by_cases eB:dJ=4
        . rw[bg eB]at ah
          cases V:lN fl with
          |
           false=>
           rw[V]at g;rw[bg (Or.inl (by rw[V];rfl))]at ah;cases ah;exact aAA X z s i dJ O c5 fl N al ao d aX t M B eB g
          |
           true=>
           rw[V]at g;by_cases T:0<=c5/\c5<=255
           . rw[a6 O5]at ah
             rw[g3]at ah;rw[bg rfl]at ah;obtain⟨w,h1,h2⟩:=o3.1 ah;cases h2;obtain⟨o,rfl⟩:=Th.l4 h1;exact aAC X z s i dJ O c5 fl N al ao d aX t M B eB T o g
           . rw[bg (Or.inr ae)]at ah
             cases ah;exact aAB X z s i dJ O c5 fl N al ao d aX t M B eB T g
        . rw[a6 eB]at ah
          by_cases f:dJ=5
          . rw[bg f,g3]at ah
            rw[bg rfl]at ah;obtain⟨w,h1,h2⟩:=o3.1 ah;cases h2;obtain⟨o,rfl⟩:=Th.l4 h1;exact aAD X z s i dJ O c5 fl N al ao d aX t M B f o
          . rw[a6 f]at ah
            by_cases c:dJ=7
            . rw[bg ⟨c,d⟩]at ah
              obtain⟨w,h1,h2⟩:=o3.1 ah;cases h2;exact aAF X z s i dJ O c5 fl N al ao d aX t M B c y abC
            . rw[a6 (λh1=>c h1.1)]at ah
              cases ah;exact aAE X z s i dJ O c5 fl N al ao d aX t M B cd eB f c
theorem akF(X:cJ)(z:dn)(s:ar)(O c5:Int)(fl:cy)(y:ar)(j:Nat)(t:bV)(x E:Value)(p7:aq)(N:X.C.ok)(i:j<X.C.bc)(v:j<s.aC.length)
 (d:∀D h,Sat (kn X j x E {t with draw:=e0 c5}::p7::D) h->Sat (hE X z.ap z.ai j zd::D) h)(gc:ad aa 44 [ptr (X.bq j) 0,zb X j 45] (bj X z Jb) dV):
 ad aa 26 ace [kn X j x E t,p7,jp X z s j] tS:=by
 refine gx (I:=[kn X j x E t,cG X z s,gw X,eR Pe]) (λD h q=>?_) (aAj X z s O c5 fl y j t x E (eR Pe) N i ?_)
 . have g8:Sat (kn X j x E t::jp X z s j::p7::D) h:=Sat.tail (λh q=>Sat.swap q) q
   have b:=Sat.tail (λh q=>tb (l:=LT X z s j) q) g8;have T:=(show∀h,Sat _ h->Sat (kn X j x E t::cG X z s::gw X::([p7,dQ z.cC z.cD s.trace,fp z.na z.fv s.notes,b2 X.am .i64 (cf z.ap),ay (e3 X z.ap s.aI),b2 X.e5 .u64 (cf z.ai),ay (gv z.ai s.lets),Lg.dp X.ld s.bf,ey X.c4 X.C.dF s.dead,cg X.m s.L z.tt,fI X,fC X s.bs,eD X.bG X.m X.C.bG X.C.aZ,ay (ed X),fy X,hc X,gk X,ay ((c8 X z.ap z.ai s.aC).set j fu)]++D)) h from(au)) h b;exact Sat.tail (λh q=>Sat.tail (λh q=>Sat.tail (λh q=>ta h q) q) q) T
 . refine gx (I:=bj X z Jb) (λD h q=>?_) gc
   refine FE (t:=zd) v h (d _ h ?_);have b:=Sat.tail (λh q=>Sat.tail (λh q=>Sat.tail (λh q=>tb (l:=Pe) q) q) q) q;have T:=(show∀h,Sat _ h->Sat (kn X j x E {t with draw:=e0 c5}::p7::(LT X z s j++D)) h from(au)) h b;exact Sat.tail (λh q=>Sat.tail (λh q=>ta (l:=LT X z s j) h q) q) T
theorem aAN{X:cJ}{z:dn}{s y:ar}{b:Bool}{n:Nat}{f0:Nat->Th.gl}{e:dG}(N:X.C.ok)(dm:Th.iN X.P)(Y:Th.jh f0 X.C X.C.cells)(ao:bD X z s)(h:Th.hv f0 X.C X.P n s)(aS:n+1<=Th.hM)(g:ad aa 92 [S e.tag] [] (aF (.bool (lN e.tag)) []))(ah:Th.pH X.C X.P s e=some (y,b)):
 ad aa 26 [ptr X.h 0,.agg (h8 e).toArray] (bj X z s) vs:=by
 have d2:=h.ph;have u:Th.hD=90000:=rfl;unfold Th.pH at ah;by_cases gr:e.kind=1
 . rw[bg gr]at ah
   obtain⟨dJ,ea,O,fl,c5⟩:=e;simp only at gr ah;subst gr;by_cases aD:ea<0\/(X.C.bc:Int)<=ea
   . rw[bg aD]at ah
     cases ah;exact aAi X z s O c5 fl ea N ao (by have:=N.aG;omega)
   . rw[a6 aD]at ah
     obtain⟨j,rfl⟩:∃j:Nat,ea=j:=⟨ea.toNat,by omega⟩;have i:j<X.C.bc:=ae;rw[Kp]at ah;obtain⟨t,M⟩:=Th.q2 (j:=j) h.inv ae;have v:j<s.aC.length:=(dd.1 M).1;simp only[M,qW,k3]at ah;obtain⟨w,h1,h2⟩:=o3.1 ah;cases h2;have aQ:0<=e0 c5/\e0 c5<18446744073709551616:=by rw[xF];omega
     have r:Th.hv f0 X.C X.P n Jb:=⟨Th.ajJ h.inv M rfl aQ,h.ph⟩;have gc:=akD N dm Y (z:=z) (s:=Jb) jq r aS i h1;refine gx (I:=[hE X z.ap z.ai j t,jp X z s j]) (λD h E=>TM M h E) ?_;cases B:t.on with
     |
      none=>
      have aB:hE X z.ap z.ai j t=kn X j .nilIface .nilFunc t:=by unfold hE;rw[B]
      have aU:hE X z.ap z.ai j zd=kn X j .nilIface .nilFunc zd:=by unfold hE;rw[B]
      rw[aB];refine gx (I:=[kn X j .nilIface .nilFunc t,eR [],jp X z s j]) (λD h E=>Sat.tail (λh E=>ta (l:=[]) h E) E) (akF X z s O c5 fl y j t .nilIface .nilFunc (eR []) N i v (λD h E=>?_) gc);rw[aU];exact Sat.tail (λh E=>tb (l:=[]) E) E
     |
      some q=>
      obtain⟨o,k⟩:=q;have aB:hE X z.ap z.ai j t=df (bx:=Nat×Nat×List Value) zp PI:=by unfold hE;rw[B]
      have aU:hE X z.ap z.ai j zd=df (bx:=Nat×Nat×List Value) zp (fun⟨p,f,c⟩=>(kn X j xb (bi f c) zd::BF)):=by unfold hE;rw[B]
      rw[aB];refine xX (fun⟨p,f,c⟩ _=>?_);refine gx (I:=[kn X j (.iface (nO o) (ptr p 0)) (bi f c) t,eR BF,jp X z s j]) (λD h E=>Sat.tail (λh E=>ta (l:=BF) h E) E) (akF X z s O c5 fl y j t _ _ (eR BF) N i v (λD h E=>?_) gc);rw[aU];exact cA (D:=D) (p,f,c) trivial qL h (Sat.tail (λh E=>tb (l:=BF) E) E)
 rw[a6 gr]at ah;by_cases jo:e.kind=3
 . rw[bg jo]at ah
   have bn:=akE N dm Y ao h aS ah;obtain⟨dJ,ea,O,fl,c5⟩:=e;simp only at jo;subst jo;exact aAe X z s O c5 fl y b ea bn
 rw[a6 jo]at ah;by_cases a:e.kind=6
 . rw[bg a]at ah
   obtain⟨dJ,ea,O,fl,c5⟩:=e;simp only at a;subst a;split at ah
   . rename_i hk
     cases ah;exact aAf X z s O c5 fl ea ao hk
   . rename_i hk
     cases ah;exact aAg X z s O c5 fl ea ao hk
 rw[a6 a]at ah;have bn:=aAM N dm Y ao h aS g ah;obtain⟨dJ,ea,O,fl,c5⟩:=e;exact aAh X z s O c5 fl y b dJ ea gr jo a bn
section
variable{X:cJ}{ap ai:List Nat}
def akG{j:Nat}{t:bV}{h:dR}(E:hE X ap ai j t h):h (X.bq j)≠none:=by
 unfold hE at E;cases aJ:t.on with
 |
  none=>
  rw[aJ]at E;intro e;have L:h (X.bq j)=some (.cells [ptr X.h 0,af (jY X j),Value.nilIface,Value.nilFunc,bu t.draw,Value.bool t.jg].toArray 128 (0,0)):=E;rw[e]at L;cases L
 |
  some q=>
  obtain⟨o,k⟩:=q;rw[aJ]at E;obtain⟨⟨p,f,c⟩,_,aY⟩:=hb (D:=[]) (Sat.one E);obtain⟨h1,h2,_,rfl,aP,_⟩:=aY;intro e;have aH:=join_some (h2:=h2) aP;rw[e]at aH;cases aH
def aAO{l:List bV}{D:List aq}{h:dR}(E:Sat (ay (c8 X ap ai l)::D) h){i j:Nat}(al:i<l.length)(J:j<l.length)(e:X.bq i=X.bq j):i=j:=by
 by_cases g1:i=j
 . exact g1
 . exfalso
   have aB:(c8 X ap ai l)[i]?=some (hE X ap ai i l[i]):=by simp[sS,al]
   have aU:((c8 X ap ai l).set i fu)[j]?=some (hE X ap ai j l[j]):=by rw[qD g1];simp[sS,J]
   have gt:=rD aB h E;have L:=Sat.tail (λh E=>rD aU h E) gt;obtain⟨aP,aD,aQ,_,a,⟨az,aj,_,rfl,b,_⟩⟩:=L;have c1:=akG a;have bk:=akG b;rw[e]at c1;rcases aQ (X.bq j)with h1|h1
   . exact c1 h1
   . have h2:az (X.bq j)=none:=by
      by_cases aH:az (X.bq j)=none
      . exact aH
      . obtain⟨v,V⟩:=Option.ne_none_iff_exists'.1 aH
        have:=join_some (h2:=aj) V;rw[h1]at this;cases this
     exact bk h2
end
section
variable(X:cJ)(z:dn)(s:ar)(j:Nat)(t:bV)
def aAP(J:s.aC[j]?=some t)(R:t.on=none):ad aa 48 en rM (aF gQ rM):=by
 refine ax Tryz.func48 λF D=>?_;refine bH ?_;refine aV (xv X z s j t J R) ?_;refine bz ?_;exact aW ⟨rfl,rfl⟩
def aAQ(J:s.aC[j]?=some t)(o:bY)(k:Th.K)(R:t.on=some (o,k)):ad aa 48 en rM (aF iu rM):=by
 refine ax Tryz.func48 λF D=>?_;refine bH ?_;refine aV (BH X z s j t o k J R) ?_;refine bz ?_;exact aW ⟨rfl,rfl⟩
def aAR(J:s.aC[j]?=some t)(av:Nat)(o:bY)(k:Th.K)(R:t.on=some (o,k)):ad aa 50 JD vh PJ:=by
 refine ax Tryz.func50 λF D=>?_;refine adO ?_;refine aV (BH X z s j t o k J R) ?_;refine uq ?_;exact aW ⟨rfl,rfl⟩
def aAS(J:s.aC[j]?=some t)(av:Nat)(R:t.on=none)(aP:t.jg=false):ad aa 50 JD vh PJ:=by
 refine ax Tryz.func50 λF D=>?_;haveI:h3 (X.bq j) 5 (ay (c8 X z.ap z.ai s.aC)) (.bool false):=by
  exact QY
 refine ae3 ?_;refine gi ?_;exact yk
def aAT(J:s.aC[j]?=some t)(av:Nat)(R:t.on=none)(aP:t.jg=true)(i:j<X.C.bc)(p:X.C.bc<=8)(aw:2+X.C.bc<=s.L.length)(T:s.L.getD (2+j) 0=0):ad aa 50 JD vh PJ:=by
 refine ax Tryz.func50 λF D=>?_;haveI:=sN (X:=X) (ap:=z.ap) (ai:=z.ai) J;haveI:h3 (X.bq j) 5 (ay (c8 X z.ap z.ai s.aC)) (.bool true):=by
  exact QY
 refine agB ?_;intro aB;refine go_v rfl (.yes rfl rfl rfl) rfl acA ?_;exact J4
def aAU(J:s.aC[j]?=some t)(av:Nat)(R:t.on=none)(aP:t.jg=true)(i:j<X.C.bc)(p:X.C.bc<=8)(aw:2+X.C.bc<=s.L.length)(T:¬s.L.getD (2+j) 0=0):ad aa 50 JD vh (aF gQ vh):=by
 refine ax Tryz.func50 λF D=>?_;haveI:=sN (X:=X) (ap:=z.ap) (ai:=z.ai) J;haveI:h3 (X.bq j) 5 (ay (c8 X z.ap z.ai s.aC)) (.bool true):=by
  exact QY
 refine agB ?_;intro aB;refine go_v rfl (.yes rfl rfl rfl) rfl Qn ?_;exact J4
end
def akH{P:Program}{f:FuncId}{args:List Value}{X:cJ}{ap ai:List Nat}{l:List bV}{ba:List aq}{post:Value->List aq->Prop}(h:(∀i j,i<l.length->j<l.length->X.bq i=X.bq j->i=j)->ad P f args (ay BI::ba) post):ad P f args (ay BI::ba) post:=λF D w s=>
 h (λi j al J e=>aAO s.eI al J e) F D w s
def akI(X:cJ)(k n:Nat):B7 ((List.range n).map λi=>X.bq (k+i))=(List.range n).map λi=>ptr (X.bq (k+i)) 0:=by
 simp[B7,w5,Function.comp_def]
def akJ{a:Option Addr}{c e n:Nat}{xs:List Value}{D:List aq}{h:dR}(E:Sat (own (.slice a n c) e 1 n xs::D) h):gT h (.slice a n c) n xs:=by
 obtain⟨h1,h2,_,rfl,o,_⟩:=E;exact(oh.rd o).more
def FH(X:cJ)(k n:Nat)(b:Nat->Bool)(p:Nat):Bool:=(List.range n).any λi=>decide (X.bq (k+i)=p)&&b i
section
variable{X:cJ}{k n:Nat}{b:Nat->Bool}
def LF(inj:∀i j,i<n->j<n->X.bq (k+i)=X.bq (k+j)->i=j){i:Nat}(al:i<n):FH X k n b (X.bq (k+i))=b i:=by
 unfold FH;rw[pb];simp only[zt,p4,iy,ln];constructor
 . rintro⟨j,J,e,az⟩
   rw[inj j i J al e]at az;exact az
 . exact λaz=>⟨i,al,rfl,az⟩
def akK(inj:∀i j,i<n->j<n->X.bq (k+i)=X.bq (k+j)->i=j):((List.range n).map λi=>X.bq (k+i)).any (FH X k n b)=(List.range n).any b:=by
 rw[Oq];apply pb.2;simp only[zt,p4,Function.comp_apply];constructor
 . rintro⟨i,al,az⟩
   rw[LF inj al]at az;exact⟨i,al,az⟩
 . rintro⟨i,al,az⟩
   exact⟨i,al,by rw[LF inj al];exact az⟩
def arB(X:cJ)(z:dn)(s:ar)(N:X.C.ok)(aw:s.aC.length=X.C.bc+X.C.cK+1):ad aa 49 [.slice X.zG X.C.cK X.zH,.func (.func 48) #[] #[]] Qs (aF (.bool acD) Qs):=by
 refine akH λa=>?_;have inj:∀i j,i<X.C.cK->j<X.C.cK->X.bq (X.C.bc+i)=X.bq (X.C.bc+j)->i=j:=λi j al J e=>by have:=a _ _ ae ae e;omega
 have bm:=N.bm;have bn:=ah7 ((List.range X.C.cK).map λi=>X.bq (X.C.bc+i)) X.zG X.zH 48 [] Qs (FH X X.C.bc X.C.cK (λi=>busy s (X.C.bc+i))) ZI
  (λh E=>by rw[akI,kG,vf];exact akJ (Sat.swap E))
  (fun x ag => by
   obtain⟨i,al,rfl⟩:=jS.1 ag;rw[p4]at al;rw[LF inj al];obtain⟨t,M⟩:∃t,s.aC[X.C.bc+i]?=some t:=⟨_,cq ae⟩;rw[rH M];refine jQ [hc X] (Q:=λu H=>u=.bool t.on.isSome/\H=rM) (I:=rM) ?_ qL (λu H q=>by obtain⟨rfl,rfl⟩:=q;exact⟨_,dD,λh E=>E⟩);cases B:t.on with
   |none=>exact aAP X z s _ t M B
   |some q=>exact aAQ X z s _ t M q.1 q.2 B)
 rw[kG,vf,akK inj]at bn;exact bn
def aAV(X:cJ)(z:dn)(s:ar)(av:Nat)(N:X.C.ok)(aw:s.aC.length=X.C.bc+X.C.cK+1)(K:2+X.C.bc<=s.L.length):ad aa 49 [.slice X.zE X.C.bc X.zF,.func (.func 50) #[] [ptr av 0].toArray] Eh
 (aF (.bool ((List.range X.C.bc).any λi=>!(!busy s i&&((s.aC[i]?).map (·.jg)).getD false&&!decide Ja))) Eh):=by
 refine akH λa=>?_;have inj:∀i j,i<X.C.bc->j<X.C.bc->X.bq (0+i)=X.bq (0+j)->i=j:=λi j al J e=>by have:=a _ _ ae ae e;omega
 have L:=N.bH;have bn:=ah7 ((List.range X.C.bc).map λi=>X.bq (0+i)) X.zE X.zF 50 [ptr av 0] Eh (FH X 0 X.C.bc (λi=>!(!busy s i&&((s.aC[i]?).map (·.jg)).getD false&&!decide Ja))) ZI
  (fun h E => by
   rw[akI,kG,vf];simp only[kR];exact akJ ((show∀h,Sat [ay (c8 X z.ap z.ai s.aC),ab av 32 [ptr X.h 0],cG X z s,cg X.m s.L z.tt,gw X] h->Sat [gw X,ay (c8 X z.ap z.ai s.aC),ab av 32 [ptr X.h 0],cG X z s,cg X.m s.L z.tt] h from(au)) h E))
  (fun x ag => by
   obtain⟨i,al,rfl⟩:=jS.1 ag;rw[p4]at al;rw[LF inj al,kR];obtain⟨t,M⟩:∃t,s.aC[i]?=some t:=⟨_,cq ae⟩;rw[rH M,M];simp only[nH,KZ];have fin:∀v:Bool,v=!acE->ad aa 50 [ptr (X.bq i) 0,ptr av 0] vh (aF (.bool v) vh)->ad aa 50 [ptr (X.bq i) 0,ptr av 0] Eh (aF (.bool (!acE)) Eh):=λv V h=>by
    subst V;exact jQ [gw X] h (au) (λu H q=>by obtain⟨rfl,rfl⟩:=q;exact⟨_,dD,(au)⟩)
   cases B:t.on with
   |some q=>rw[B]at fin;exact fin true fW (aAR X z s i t M av q.1 q.2 B)
   |
    none=>
    rw[B]at fin;cases aP:t.jg with
    |false=>rw[aP]at fin;exact fin true fW (aAS X z s i t M av B aP)
    |
     true=>
     rw[aP]at fin;by_cases T:s.L.getD (2+i) 0=0
     . exact fin true (by rw[lM T];rfl) (aAT X z s i t M av B aP al L K T)
     . exact fin false (by rw[mJ T];rfl) (aAU X z s i t M av B aP al L K T))
 rw[kG,vf,akK inj]at bn;exact bn
end
def aAW(X:cJ)(z:dn)(s:ar)(N:X.C.ok)(aw:s.aC.length=X.C.bc+X.C.cK+1)(co:((List.range X.C.cK).any λi=>busy s (X.C.bc+i))=false)(t:bV)(J:s.aC[(X.C.bc+X.C.cK)]?=some t)(R:t.on=none)(hk:s.ticks=0)(K:2+X.C.bc<=s.L.length):ad aa 25 [ptr X.h 0] (bj X z s) (aF (.bool (!((List.range X.C.bc).any λi=>!(!busy s i&&((s.aC[i]?).map (·.jg)).getD false&&!decide Ja)))) (bj X z s)):=by
 refine ax Tryz.func25 λF D=>?_;refine a7 ?_;refine wn λav=>?_;refine nr ?_;refine cj rfl (b4 rfl (IK) bI) ?_;refine gP ?_;refine fj ?_;refine cU ?_;refine aV (xv X z s xe t J R) ?_;refine cO ?_;refine cH ?_;refine fx ?_;refine aV (aAV X z s av N aw K) ?_;refine bh ?_;exact aW ⟨rfl,rfl⟩
def akL{X:cJ}{z:dn}{s:ar}{n:Nat}{f0:Nat->Th.gl}(N:X.C.ok)(h:Inv f0 X.C X.P n s):ad aa 25 [ptr X.h 0] (bj X z s) (aF (.bool (Th.quiet X.C s)) (bj X z s)):=by
 have aw:=h.base.uf;obtain⟨al,S,_⟩:=h.bq;have K:2+X.C.bc<=s.L.length:=by
  rw[S.len];have c9:X.C.bA.size=X.C.bc+(2+2*X.C.aZ)+X.C.bc*(2+X.C.ez):=rfl;have fX:X.C.cells=2+X.C.bA.size+(3+2*X.C.iO)+X.C.aZ*X.C.aZ+X.C.aZ*X.C.eZ:=rfl;omega
 obtain⟨t,M⟩:∃t,s.aC[(X.C.bc+X.C.cK)]?=some t:=⟨_,cq ae⟩;have G:(List.range X.C.cK).all (λi=>!busy s (X.C.bc+i))=!acD:=by rw[<-aAX]
 unfold Th.quiet;rw[G,rH M];cases co:((List.range X.C.cK).any λi=>busy s (X.C.bc+i))with
 |
  true=>
  refine ax Tryz.func25 λF D=>?_;refine a7 ?_;refine wn λav=>?_;refine eP ?_;refine aG ?_;refine cj rfl (b4 rfl (IK) bI) ?_;rintro _ D ⟨_,⟨rfl,rfl⟩,rfl⟩;refine gi ?_;refine bz ?_;exact aW ⟨rfl,rfl⟩
 |
  false=>
  cases B:t.on with
  |
   some q=>
   refine ax Tryz.func25 λF D=>?_;refine a7 ?_;refine wn λav=>?_;refine eP ?_;refine aG ?_;refine cj rfl (b4 rfl (IK) bI) ?_;rintro _ D ⟨_,⟨rfl,rfl⟩,rfl⟩
   try simp only[cn,ci]
   refine cU ?_;refine aV acK ?_;refine eP ?_;refine bF ?_;exact aW ⟨rfl,rfl⟩
  |
   none=>
   by_cases hk:s.ticks=0
   . have bn:=aAW X z s N aw co t M B hk K
     rw[lM hk];rw[aAX]at bn;simp only[Bool.not_not]at bn;exact bn
   . rw[mJ hk]
     refine ax Tryz.func25 λF D=>?_;refine a7 ?_;refine wn λav=>?_;refine eP ?_;refine aG ?_;refine cj rfl (b4 rfl (IK) bI) ?_;rintro _ D ⟨_,⟨rfl,rfl⟩,rfl⟩
     try simp only[cn,ci]
     refine cU ?_;refine aV (xv X z s xe t M B) ?_;refine cO ?_;refine cH ?_;refine dx ?_;exact aW ⟨rfl,rfl⟩
section
variable{X:cJ}{z:dn}{f0:Nat->Th.gl}{ec i:Nat}{Z s:ar}
abbrev LG(X:cJ)(j:Nat)(s:ar):Option ar:=Th.stepT X.C X.P (eS X.C j) j s
abbrev zU(X:cJ)(i:Nat)(s:ar):Option ar:=if busy s (X.C.bc+i)then eu X.C X.P (X.C.bc+i) s else some s
structure aAY(X:cJ)(f0:Nat->Th.gl)(m m5:Nat)(y:ar)(b:Bool)(k:Nat)(z:dn)(s:ar):Prop where
 ao:bD X z s
 h:Th.hv f0 X.C X.P (m5+13*k) s
 ah:Th.rest X.C X.P (m -k) s=some (y,b)
 hk:k<=m
structure xZ(X:cJ)(f0:Nat->Th.gl)(M:Nat->ar->Option ar)(w ec:Nat)(Z:ar)(i:Nat)(z:dn)(s:ar):Prop where
 ao:bD X z s
 h:Th.hv f0 X.C X.P (ec+i) s
 aj:Th.s6 M ((List.range w).drop i) s=some Z
 al:i<=w
theorem aAZ{y:ar}{n i:Nat}{f0:Nat->Th.gl}{t:bV}{o:bY}{k:Th.K}(N:X.C.ok)(dm:Th.iN X.P)(Y:Th.jh f0 X.C X.C.cells)(ao:bD X z s)(h:Th.hv f0 X.C X.P n s)(aS:n+1<=Th.hM)(M:s.aC[X.C.bc+i]?=some t)(B:t.on=some (o,k))(ah:eu X.C X.P (X.C.bc+i) s=some y):
 ad aa 44 Jl (bj X z s) dV:=by
 refine Km ?_;intro hw H u d2;have W:bL s+Th.hD<=Th.hD*(n+1):=y6;have m:Th.hD*(n+1)<1099511627776:=II;exact Jm N dm Y m ae ao h.inv M B W ah
def xZ.next{w ec i:Nat}{Z s:ar}{z:dn}(N:X.C.ok)(dm:Th.iN X.P)(Y:Th.jh f0 X.C X.C.cells)(h:xZ X f0 (LG X) w ec Z i z s)(O:w<=X.C.bc)(al:i<w)(aS:ec+i+1<=Th.hM):∃aY,LG X i s=some aY/\∀cu,bD X cu aY->xZ X f0 (LG X) w ec Z (i+1) cu aY:=by
 have bn:=h.aj;rw[Th.ajz al]at bn;obtain⟨aY,aB,aU⟩:=io.1 bn;have aD:=Th.Lt (j:=i) Y N dm aS h.h ae (Th.Lu N ae h.h);obtain⟨e,bB,c⟩:=aD;replace aB:Th.stepT X.C X.P (eS X.C i) i s=some aY:=aB;obtain rfl:e=aY:=ZJ;exact⟨e,bB,λcu fd=>⟨fd,c,aU,al⟩⟩
def xZ.aCG{z:dn}(N:X.C.ok)(dm:Th.iN X.P)(Y:Th.jh f0 X.C X.C.cells)(h:xZ X f0 (zU X) X.C.cK ec Z i z s)(al:i<X.C.cK)(aS:ec+i+1<=Th.hM):∃aY,zU X i s=some aY/\∀cu,bD X cu aY->xZ X f0 (zU X) X.C.cK ec Z (i+1) cu aY:=by
 have bn:=h.aj;rw[Th.ajz al]at bn;obtain⟨aY,aB,aU⟩:=io.1 bn;have aD:Th.hv f0 X.C X.P (ec+(i+1)) aY:=by
  unfold zU at aB;split at aB
  . rename_i az
    obtain⟨e,bB,c⟩:=Th.Fq Y N dm aS h.h ae az;obtain rfl:e=aY:=ZJ;exact c
  . cases aB;exact h.h.aV (il _) aS
 exact⟨aY,aB,λcu fd=>⟨fd,aD,aU,al⟩⟩
end
def aA0(X:cJ)(z:dn)(s:ar)(j:Nat)(t:bV)(J:s.aC[j]?=some t):ad aa 46 en rM (aF (.bool t.on.isSome) rM):=by
 cases B:t.on with
 |none=>exact xv X z s j t J B
 |some q=>exact BH X z s j t q.1 q.2 J B
def aA1(X:cJ)(z:dn)(s y:ar)(b:Bool)(n:Int)(m m5:Nat)(f0:Nat->Th.gl)(N:X.C.ok)(dm:Th.iN X.P)(Y:Th.jh f0 X.C X.C.cells)(bb:m=(min (max n 0) 20000).toNat)(ao:bD X z s)(h:Th.hv f0 X.C X.P m5 s)(aS:m5+13*m<=Th.hM)(ah:Th.rest X.C X.P m s=some (y,b)):ad aa 24 [ptr X.h 0,af n] (bj X z s) vs:=by
 refine ax Tryz.func24 λF D=>?_;have p:=N.bH;have a:=N.bm;refine cr ?_;refine aA rfl (ti (max n 0) ae rfl rfl) ?_;refine aA rfl (uw ((m:Nat):Int) ae rfl rfl) ?_;refine bF ?_;refine gO (bx:=Nat×dn×ar) (λE=>aAY X f0 m m5 y b E.1 E.2.1 E.2.2) (λE=>[(12,af E.1),(11,af m),(0,ptr X.h 0)]) Pc (λE=>m -E.1) (0,z,s) (⟨ao,h,ah,fc _⟩) de (au) ?_;rintro⟨k,f,s1⟩ bM;replace bM:=bM;have hk:=bM.hk;dsimp only;refine bh ?_;refine b6 (λW=>?_) (λW=>?_)
 . have hw:k+1<=m:=by omega
   have aD:=bM.ah;rw[show m -k=(m -(k+1))+1 by omega]at aD;refine bH ?_;refine aV (akL (z:=f) N bM.h.inv) ?_;refine a7 ?_;refine b6 (λI=>?_) (λI=>?_)
   . have bo:Th.quiet X.C s1=true:=by simpa using I
     rcases Th.ajA aD with⟨_,T⟩|⟨g,_⟩
     rotate_left
     . exfalso;rw[bo]at g;cases g
     cases T;refine fx ?_;exact aW ⟨rfl,f,bM.ao,rfl⟩
   . have bo:Th.quiet X.C s1=false:=by simpa using I
     rcases Th.ajA aD with⟨g,_⟩|⟨_,Z,b9,m2,l,aB,aU,bB,c9⟩
     . exfalso;rw[bo]at g;cases g
     refine fZ ?_;refine gO (bx:=Nat×dn×ar) (λE=>xZ X f0 (LG X) X.C.bc (m5+13*k) Z E.1 E.2.1 E.2.2) (λE=>[(21,af E.1),(20,af X.C.bc),(19,.slice X.zE X.C.bc X.zF),(12,af k),(11,af m),(0,ptr X.h 0)]) Pc (λE=>X.C.bc -E.1) (0,f,s1) (⟨bM.ao,bM.h,aB,fc _⟩) de (au) ?_;rintro⟨i,r,aY⟩ d;replace d:=d;have al:=d.al;dsimp only;refine bh ?_;refine b6 (λL=>?_) (λL=>?_)
     . obtain⟨e,a8,q⟩:=d.next N dm Y (eh _) ae ae
       refine bh ?_;refine aA rfl (fA rfl rfl ae) ?_;refine aA rfl (gy rfl (ad2 ae)) ?_;refine ch ?_;refine cj rfl (b4 rfl (EP (akD N dm Y d.ao d.h ae ae a8)) bI) ?_;exact afd
     . obtain rfl:i=X.C.bc:=by omega
       obtain rfl:aY=Z:=ZK;refine eP ?_;refine a7 ?_;refine gO (bx:=Nat×dn×ar) (λE=>xZ X f0 (zU X) X.C.cK (m5+13*k+X.C.bc) b9 E.1 E.2.1 E.2.2) (λE=>[(35,af E.1),(34,af X.C.cK),(33,.slice X.zG X.C.cK X.zH),(12,af k),(11,af m),(0,ptr X.h 0)]) Pc (λE=>X.C.cK -E.1) (0,r,aY) (⟨d.ao,d.h,aU,fc _⟩) de (au) ?_;rintro⟨i,nl,aY⟩ d;replace d:=d;have al:=d.al;dsimp only;refine bh ?_;refine b6 (λfV=>?_) (λfV=>?_)
       . obtain⟨e,a8,q⟩:=d.aCG N dm Y ae ae
         obtain⟨t,M⟩:=Th.q2 (j:=X.C.bc+i) d.h.inv ae;refine bh ?_;refine aA rfl (fA rfl rfl ae) ?_;refine aA rfl (gy rfl (ag8 ae)) ?_;refine bh ?_;refine aV (aA0 X nl aY (X.C.bc+i) t M) ?_;refine a7 ?_;refine b6 (λw=>?_) (λw=>?_)
         . have c:t.on.isSome=true:=by simpa using w
           obtain⟨⟨o,d6⟩,B⟩:=RZ.1 c;rw[show zU X i aY=eu X.C X.P (X.C.bc+i) aY from bg (by rw[rH M,c])]at a8;refine a7 ?_;refine cj rfl (b4 rfl (EP (aAZ N dm Y d.ao d.h ae M B a8)) bI) ?_;exact afd
         . have c:t.on.isSome=false:=by simpa using w
           obtain rfl:e=aY:=by rw[show zU X i aY=some aY from a6 (by rw[rH M,c];simp)]at a8;exact(oe a8).symm
           refine Gt ?_;refine fm (i+1,nl,e) (q nl d.ao) ae de (au)
       . obtain rfl:i=X.C.cK:=by omega
         obtain rfl:aY=b9:=ZK;refine ch ?_;refine cj rfl (b4 rfl (akE N dm Y d.ao d.h ae bB) bI) ?_;rintro _ D ⟨_,⟨rfl,u,v,rfl⟩,rfl⟩;refine fj ?_;have tl:Th.hv f0 X.C X.P (m5+13*(k+1)) m2:=by
          obtain⟨H,aN,fX,C⟩:=Th.Td Y N dm ae d.h;rw[bB]at fX;cases fX;exact C.aV ae ae
         refine bF ?_;refine aA rfl (fo (((k+1:Nat):Int)) eV rfl rfl) ?_;refine a7 ?_;refine fm (k+1,u,m2) ⟨v,tl,c9,hw⟩ ae de (au)
 . obtain rfl:k=m:=by omega
   have T:=bM.ah;rw[yd]at T;cases T;refine bH ?_;refine aV (akL (z:=f) N bM.h.inv) ?_;refine bz ?_;exact aW ⟨rfl,f,bM.ao,rfl⟩
section
variable(C:bK)(k:Nat)(L:List Int)
def x0(b k:Nat):Prop:=∀i,b<=i->i<b+k->L.getD i 0=0
def x0.sub{L:List Int}{b k l dj:Nat}(h:x0 L b k)(h1:b<=l)(h2:l+dj<=b+k):x0 L l dj:=λi a c=>h i ae ae
def akM{L:List Int}{i:Nat}(h:L.getD i 0=0):L.set i 0=L:=by
 by_cases al:i<L.length
 . rw[je,cq al,KZ]at h
   rw[<-h,A1 al]
 . exact List.set_eq_of_length_le ae
def CD{L:List Int}{b:Nat}:∀{k:Nat},x0 L b k->iw L b k=L
 |0,_=>rfl
 |k+1,h=>by rw[iw,CD (h.sub (eh _) ae),akM (h _ ae ae)]
def akN{L:List Int}{b:Nat}:∀{k:Nat},x0 L (b+2) k->mU L b (2+k)=(L.set b 1).set (b+1) 1
 |0,_=>rfl
 |
  k+1,h=>by
  rw[show 2+(k+1)=(2+k)+1 by omega,mU,akN (h.sub (eh _) ae),a6 ae];refine akM ?_;rw[Th.ms ae,Th.ms ae];exact h _ ae ae
def aA2:ei C (List.range (k+1)) L=((ei C (List.range k) L).set (C.bA.cm k) 1).set (C.bA.cm k+1) 1:=by
 unfold ei;rw[List.range_succ,ajX];rfl
def akO{C:bK}{L:List Int}(h:x0 L 2 (C.cells -2)):∀{k:Nat},k<=C.bc->sv L C.bA k=ei C (List.range k) L
 |
  0,_=>by
  have e:C.bA.dZ+(2+2*C.aZ)<=C.cells:=by
   show 2+C.bc+(2+2*C.aZ)<=2+(C.bc+(2+2*C.aZ)+C.bc*(2+C.ez))+(3+2*C.iO)+C.aZ*C.aZ+C.aZ*C.eZ;omega
  rw[sv,CD (h.sub (l:=C.bA.b) (dj:=C.bA.bT) (eh 2) (by show 2+C.bc<=2+(C.cells -2);have:2+C.bc<=C.bA.dZ:=eh _;omega)),CD (h.sub (by show 2<=2+C.bc;omega) (by show C.bA.dZ+(2+2*C.aZ)<=_;omega))];rfl
 |
  k+1,hk=>by
  have e:C.bA.cm k=2+C.bc+(2+2*C.aZ)+k*(2+C.ez):=rfl;have aU:k*(2+C.ez)+(2+C.ez)<=C.bc*(2+C.ez):=by
   have:=p5 (2+C.ez) hk;rwa[mX,vt]at this
  have bB:C.cells=2+(C.bc+(2+2*C.aZ)+C.bc*(2+C.ez))+(3+2*C.iO)+C.aZ*C.aZ+C.aZ*C.eZ:=rfl;rw[sv,akO h (Nat.le_of_succ_le hk),aA2];refine akN (k:=C.ez) λi h1 h2=>?_;rw[Th.Cy _ _ _ _ λw O=>?_]
  . exact h i ae ae
  . have E:w+1<=k:=p4.1 O
    have c9:C.bA.cm w=2+C.bc+(2+2*C.aZ)+w*(2+C.ez):=rfl;have fX:w*(2+C.ez)+(2+C.ez)<=k*(2+C.ez):=by
     have:=p5 (2+C.ez) E;rwa[mX,vt]at this
    omega
def vR:List Int:=(List.replicate C.cells 0).set 1 1
def jH:List Int:=ei C (List.range C.bc) (vR C)
def akP:x0 (vR C) 2 (C.cells -2):=λi h1 h2=>by unfold vR;rw[Th.ms ae,Th.Tp]
def TO:(vR C).length=C.cells:=by simp[vR]
def CE:(jH C).length=C.cells:=by unfold jH;rw[Th.Tn,TO]
def TP:x0 (jH C) (2+C.bA.size) (C.cells -(2+C.bA.size)):=λi h1 h2=>by
 unfold jH;have fG:C.bA.size=C.bc+(2+2*C.aZ)+C.bc*(2+C.ez):=rfl;rw[Th.Cy _ _ _ _ λw O=>?_]
 . exact akP C i ae ae
 . have E:w+1<=C.bc:=p4.1 O
   have c9:C.bA.cm w=2+C.bc+(2+2*C.aZ)+w*(2+C.ez):=rfl;have fX:w*(2+C.ez)+(2+C.ez)<=C.bc*(2+C.ez):=by
    have:=p5 (2+C.ez) E;rwa[mX,vt]at this
   omega
end
section
variable(X:cJ){C:bK}(z:dn)(s:ar)(id:Nat)(kind st:cy)(e6:b1)(ky:fb)
def FI(h:C.ok):C.cells<=65536/\2<=C.cells/\C.gR+C.aZ*C.eZ=C.cells:=by
 have h1:C.bc*(2+C.ez)<=8*66:=qz h.bH (by have:=h.d64;omega);have h2:C.aZ*C.aZ<=16*16:=qz h.ha h.ha;have aH:C.aZ*C.eZ<=16*214:=qz h.ha (by have:=h.m64;have:=h.ha;unfold bK.eZ bK.fF;omega);have e:C.cells=2+(C.bc+(2+2*C.aZ)+C.bc*(2+C.ez))+(3+2*C.iO)+C.aZ*C.aZ+C.aZ*C.eZ:=rfl;have:=h.bH;have:=h.ha;have:=h.i64;exact⟨by omega,by omega,rfl⟩
def aA3(N:C.ok)(m:Nat)(t:Int):ad aa 65 [ptr m 0,af ((2:Nat):Int),af C.bc,af C.ez,af C.aZ] [cg m (vR C) t] (λu H=>∃(X:kV) (dh:Int),X.m=m/\u=.tuple #[ptr X.c 0,af 0]/\H=[cg m (jH C) dh,eR [gr X C.bA,cd X C.bA,jo X C.bA,eB X C.bA,ay (lz X C.bA)]]):=by
 have R:=FI N;have e:C.cells=2+C.bA.size+(3+2*C.iO)+C.aZ*C.aZ+C.aZ*C.eZ:=rfl;refine rF [] (apE m 2 C.bc C.ez C.aZ (vR C) t ⟨N.aG,N.bH,N.d1,N.d64,N.ck,N.ha,by rw[TO];show 2+C.bA.size<=_;omega,by rw[TO];exact R.1⟩) kH λu H q=>?_;obtain⟨X,dh,bb,rfl,rfl⟩:=q;refine⟨_,⟨X,dh,bb,rfl,rfl⟩,λh s=>?_⟩;subst bb;rw[show sv (vR C) (⟨2,C.bc,C.ez,C.aZ⟩:fQ) C.bc=jH C from akO (akP C) (eh _)]at s;exact Sat.tail acH s
def aA4(N:C.ok)(m:Nat)(t:Int):ad aa 66 [ptr m 0,af ((2+C.bA.size:Nat):Int),af C.iO] [cg m (jH C) t] (λu H=>∃(X:Ck.oG) (dh:Int),X.m=m/\u=.tuple #[ptr X.c 0,af 0]/\H=[cg m (jH C) dh,eR [Ck.gn X C.dC,gf X.r m (C.dC.b+1) C.dC.n,fO X.wp sf]]):=by
 have R:=FI N;have e:C.cells=2+C.bA.size+(3+2*C.iO)+C.aZ*C.aZ+C.aZ*C.eZ:=rfl;refine rF [] (Ck.anp m (2+C.bA.size) C.iO (jH C) t ⟨N.i1,N.i64,by rw[CE];show 2+C.bA.size+3+2*C.iO<=_;omega,by rw[CE];exact R.1⟩) kH λu H q=>?_;obtain⟨X,rfl,bb,rfl⟩:=q;refine⟨_,⟨X,jx (3+2*C.iO) t,bb,rfl,rfl⟩,λh s=>?_⟩;subst bb;obtain⟨_,_,s⟩:=hb s;rw[CD ((TP C).sub (eh _) ae)]at s;exact(au) h (show Sat (cg X.m (jH C) _::eR [Ck.gn X C.dC,gf X.r X.m (C.dC.b+1) C.dC.n,fO X.wp ⟨0,0,[]⟩]::[]) h from Sat.tail (λh s=>cA (D:=[]) () trivial (λh s=>s) h s) ((au) h s))
def aA5(N:C.ok)(m:Nat)(t:Int):ad aa 67 [ptr m 0,af ((C.bG:Nat):Int),af C.aZ] [cg m (jH C) t] (λu H=>∃(q:Nat) (dh:Int),u=.tuple #[ptr q 0,af 0]/\H=[cg m (jH C) dh,eD q m C.bG C.aZ]):=by
 have R:=FI N;have e:C.cells=C.bG+C.aZ*C.aZ+C.aZ*C.eZ:=rfl;have aU:C.bG=2+C.bA.size+(3+2*C.iO):=rfl;refine(apF m C.bG C.aZ (jH C) t N.ck N.ha (by rw[CE];omega) (by rw[CE];exact R.1)).mono λu H q=>?_;obtain⟨q,rfl,rfl⟩:=q;rw[CD ((TP C).sub (l:=C.bG) (dj:=C.aZ*C.aZ) ae ae)];exact⟨q,_,rfl,rfl⟩
def zV(m:Nat)(X:Po.nk)(B:js):aq:=eR [Po.e4 X B,gf (X.r false) m (B.eO false) (B.fa false),gf (X.r true) m (B.eO true) (B.fa true)]
def aA6(N:C.ok)(m i:Nat)(al:i<C.aZ)(t:Int):ad aa 68 [ptr m 0,af ((C.gR+i*C.eZ:Nat):Int),af C.hS,af ((C.fF:Nat):Int)] [cg m (jH C) t] (λu H=>∃(X:Po.nk) (dh:Int),X.m=m/\u=.tuple #[ptr X.bp 0,af 0]/\H=[cg m (jH C) dh,zV m X (C.box (i+1))]):=by
 have R:=FI N;have e:C.cells=C.gR+C.aZ*C.eZ:=rfl;have aU:C.gR=2+C.bA.size+(3+2*C.iO)+C.aZ*C.aZ:=rfl;have bB:C.eZ=2+(2+2*C.hS)+(2+2*C.fF):=rfl;have c9:i*C.eZ+C.eZ<=C.aZ*C.eZ:=by have:=p5 C.eZ (show i+1<=C.aZ from al);rwa[mX,vt]at this
 have fX:C.fF=2*C.aZ+8:=rfl;have ol:=N.m1;have m9:=N.m64;have aP:=N.ha;refine rF [] (Po.aul m (C.gR+i*C.eZ) C.hS C.fF (jH C) t ⟨ol,m9,by show 1<=C.fF;omega,by show C.fF<=64;omega,by rw[CE];show C.gR+i*C.eZ+6+2*C.hS+2*C.fF<=_;omega,by rw[CE];exact R.1⟩) kH λu H q=>?_;obtain⟨X,rfl,bb,rfl⟩:=q;refine⟨_,⟨X,jx (Po.js.aT ⟨C.gR+i*C.eZ,C.hS,C.fF⟩) t,bb,rfl,rfl⟩,λh s=>?_⟩;subst bb;obtain⟨_,_,s⟩:=hb s;rw[CD ((TP C).sub (l:=C.gR+i*C.eZ) (dj:=Po.js.aT ⟨C.gR+i*C.eZ,C.hS,C.fF⟩) ae (by show C.gR+i*C.eZ+(2+(2+2*C.hS)+(2+2*C.fF))<=_;omega))]at s;have Z:=(show∀h,Sat _ h->Sat (cg X.m (jH C) _::[Po.e4 X (C.box (i+1)),gf (X.r false) X.m ((C.box (i+1)).eO false) ((C.box (i+1)).fa false),gf (X.r true) X.m ((C.box (i+1)).eO true) ((C.box (i+1)).fa true)]) h from(au)) h s;exact Sat.tail acH Z
def aA7(ap:List Nat):dH (cf ap) (0:Int)=none:=K1 ae
theorem aA8{X:cJ}{z:dn}{s:ar}{id b d j c g:Nat}{b5 e6:b1}{st:cy}{D:List aq}(ao:bD X z s)(Y:cN b5=cN e6)(cv:id=s.aI.length+1):
 ∀
  h,Sat (ab b 118 (ee X (mo id 0 e6 st) ⟨b5,none,0,none,0,d,j,c,g,[]⟩)::gj d X.C.dW [] []::h4 j (min (max b5.limit 0) 100) (min (max b5.within 1) 4095) []::ev c (.map #[] 0)::ev g (.map #[] 0)::gM b5::ay (e3 X z.ap s.aI)::ay (c8 X z.ap z.ai s.aC)::b2 X.am .i64 (eQ (cf z.ap) (id:Int) (ptr b 0))::D) h->
  Sat (ay (e3 X vl (s.aI++[mo id 0 e6 st]))::ay Ju::b2 X.am .i64 (cf vl)::D) h:=λh E=>by
 have he:re b5:=by
  have z0:=Sat.drop (Sat.drop (Sat.drop (Sat.drop (Sat.drop E))));obtain⟨h1,h2,_,_,o,_⟩:=z0;exact Ga o
 have aB:e3 X vl (s.aI++[mo id 0 e6 st])=e3 X z.ap s.aI++[vD X b (mo id 0 e6 st)]:=aj9 ao.ap;have aU:eQ (cf z.ap) (id:Int) (ptr b 0)=cf vl:=ZD;rw[aB,<-aU];refine tB h ?_;refine cA (D:=ay (e3 X z.ap s.aI)::ay (c8 X (z.ap++[b]) z.ai s.aC)::b2 X.am .i64 (eQ (cf z.ap) (id:Int) (ptr b 0))::D) (⟨b5,none,0,none,0,d,j,c,g,[]⟩:hR) ⟨Y,he,rfl⟩ (λh E=>E) h ?_;have f:∀h,Sat (gM b5::ay (e3 X z.ap s.aI)::ay (c8 X z.ap z.ai s.aC)::b2 X.am .i64 (eQ (cf z.ap) (id:Int) (ptr b 0))::D) h->Sat (ay []::gM b5::ay jO::ay Ju::b2 X.am .i64 (eQ (cf z.ap) (id:Int) (ptr b 0))::D) h:=λh E=>
  w0 h (Sat.tail (λh E=>Sat.tail (λh E=>LB (X:=X) (λi x e=>xW i x e) zo s.aC _ h E) E) E)
 exact Sat.tail aaw E
theorem aA9(ao:bD X z s)(N:X.C.ok)(t:X.P.length<=4611686018427387904)(i2:X.P.find? BM=some e6)(r:kh e6)(g4:e6.states[0]?=some ky)(gc:ky.name=st)(cv:id=s.aI.length+1)(m:id<=X.C.aZ)(o:s.trace.length<most):ad aa 69 [ptr X.h 0,af id,af ((0:Nat):Int),S kind] ab0 (λu H=>u=.tuple #[]/\∃aE aK b5 d j c g f,cN b5=cN e6/\H=(cG X hY aa9::dQ aE aK abv::b2 X.am .i64 Jo::gk X::fy X::ab f 118 (ee X (mo id 0 e6 st) Je)::aax)):=by
 refine ax Tryz.func69 λF D=>?_;have mp:=N.ha;have v:1<=id/\id<=X.C.aZ:=⟨by omega,m⟩;have g7:¬((0:Nat):Int)=(id:Int):=ae;refine ch ?_;refine bt (akb t r i2) ?_;rintro _ _ ⟨b5,Y,rfl,rfl⟩;refine er ?_;obtain⟨b,l,O⟩:=Tt Y g4;have gY:0<b5.states.length:=(dd.1 l).1;obtain rfl:b.name=st:=O.trans gc;refine bX ?_;refine wn λV=>?_;refine bF ?_;refine Dk (λact i=>∃(d j c g f:Nat),hd Tryz.f69.ntmps [(0,ptr X.h 0),(1,af id),(2,af ((0:Nat):Int)),(3,S kind)] act/\db F (ab f 118 (ee X (mo id 0 e6 b.name) Je)::gj d X.C.dW [] []::h4 j (min (max b5.limit 0) 100) (min (max b5.within 1) 4095) []::ev c ps::ev g ps::gM b5::b2 X.am .i64 Jo::cG X z s::dQ z.cC z.cD s.trace::gk X::fy X::D) i) ?_ ?_
 . refine agd ?_
   refine e8 ?_ ?_
   . refine zw ?_
     intro d;rw[show(min (max (X.C.dW:Int) 0) 64).toNat=X.C.dW from by have:=N.p1;omega];refine aG ?_;refine e8 ?_ ?_
     . refine xr ?_
       intro j;refine aG ?_;refine e8 ?_ ?_
       . refine wn λc=>?_
         exact afC
       . refine wn λg=>?_
         exact afB
     . refine e8 ?_ ?_
       . refine wn λc=>?_
         exact aey
       . refine wn λg=>?_
         exact aex
   . refine e8 ?_ ?_
     . refine wn λc=>?_
       refine aG ?_;refine e8 ?_ ?_
       . refine zw ?_
         intro d;rw[show(min (max (X.C.dW:Int) 0) 64).toNat=X.C.dW from by have:=N.p1;omega];exact aey
       . refine wn λg=>?_
         exact agM
     . refine wn λg=>?_
       refine aG ?_;refine e8 ?_ ?_
       . refine zw ?_
         intro d;rw[show(min (max (X.C.dW:Int) 0) 64).toNat=X.C.dW from by have:=N.p1;omega];exact aex
       . refine wn λc=>?_
         exact agM
 . rintro act i ⟨d,j,c,g,f,gY,st⟩
   refine Dl ?_ gY st;clear gY st act i;refine bH ?_;refine aA rfl (lA fS (by rw[OJ,a6 g7];rw[show((0:Nat):Int)=0 from rfl,aA7];rfl) rfl rfl) ?_;refine cr ?_;refine lD ?_;refine bH ?_;refine bt (lZ X z s (abV:bZ) o) ?_;refine lY ?_;intro aE aK;refine a7 ?_;exact aW ⟨rfl,aE,aK,b5,d,j,c,g,f,Y,rfl⟩
theorem aBa(ao:bD X z s)(N:X.C.ok)(t:X.P.length<=4611686018427387904)(i2:X.P.find? BM=some e6)(r:kh e6)(g4:e6.states[0]?=some ky)(gc:ky.name=st)(cv:id=s.aI.length+1)(m:id<=X.C.aZ)(o:s.trace.length<most):ad aa 69 [ptr X.h 0,af id,af ((0:Nat):Int),S kind] (bj X z s) (λu H=>u=.tuple #[]/\∃cu,bD X cu {s with aI:=s.aI++[mo id 0 e6 st],trace:=s.trace++[({Th.c3 with kind:=7,dK:=id,cw:=(0:Nat),name:=kind}:bZ)]}/\H=bj X cu {s with aI:=s.aI++[mo id 0 e6 st],trace:=s.trace++PH}):=
 rF (fp z.na z.fv s.notes::ay jO::aae) (aA9 X z s id kind st e6 ky ao N t i2 r g4 gc cv m o) (au) (λu H n=>by
  obtain⟨rfl,aE,aK,b5,d,j,c,g,f,Y,rfl⟩:=n;refine⟨_,⟨rfl,{z with ap:=z.ap++[f],cC:=aE,cD:=aK},⟨ao.gK,ao.gE,ao.gF,by show(z.ap++[f]).length=(s.aI++[_]).length;rw[ep,ep,ao.ap];rfl,ao.ai⟩,rfl⟩,λh E=>?_⟩;have gt:=aA8 (X:=X) (z:=z) (s:=s) (id:=id) (b:=f) (st:=st) (e6:=e6) (b5:=b5) (D:=(cG X hY aa9::dQ aE aK abv::gk X::fy X::aaf)) ao Y cv h ((au) h E);exact(au) h gt)
end
section
variable(C:bK){f:FuncId}(P:List b1){args:List Value}{X:cJ}{z:dn}{s:ar}
def kw(h:Nat)(s:ar):aq:=df (bx:=cJ×dn) (λE=>E.1.C=C/\E.1.P=P/\E.1.h=h/\bD E.1 E.2 s) (λE=>bj E.1 E.2 s)
def Qq(ao:bD X z s){D:List aq}:∀h,Sat (bj X z s++D) h->Sat (kw X.C X.P X.h s::D) h:=λh E=>cA (X,z) ⟨rfl,rfl,rfl,ao⟩ qL h E
def Bn{C:bK}{P:List b1}{h:Nat}{s:ar}{ba:List aq}{post:Value->List aq->Prop}(ag:∀X z,bD X z s->X.C=C->X.P=P->X.h=h->ad aa f args (bj X z s++ba) post):ad aa f args (kw C P h s::ba) post:=xX λE T=>ag E.1 E.2 T.2.2.2 T.1 T.2.1 T.2.2.1
def akS{y:ar}{b:Bool}(h:ad aa f args (bj X z s) vs):ad aa f args (bj X z s++[]) (aF (.bool b) [kw X.C X.P X.h y]):=
 rF [] h kH λu H ⟨e,cu,ao,cc⟩=>⟨_,⟨e,rfl⟩,λh s=>by subst cc;exact Qq (D:=[]) ao h s⟩
abbrev Bm(n:Nat)(s:ar):Prop:=Th.hv (Th.bC C) C P n s
end
section
variable{C:bK}{P:List b1}{h n:Nat}{s y:ar}{b:Bool}
def LI{e:dG}(N:C.ok)(dm:Th.iN P)(r:Bm C P n s)(aS:n+1<=Th.hM)(g:ad aa 92 [S e.tag] [] (aF (.bool (lN e.tag)) []))(ah:Th.pH C P s e=some (y,b)):ad aa 26 [ptr h 0,.agg (h8 e).toArray] [kw C P h s] (aF (.bool b) [kw C P h y]):=
 Bn λX z ao aB aU bB=>by subst aB aU bB;exact akS (aAN N dm (Th.ui N) ao r aS g ah)
def LJ{k:Int}{m:Nat}(N:C.ok)(dm:Th.iN P)(r:Bm C P n s)(bb:m=(min (max k 0) 20000).toNat)(aS:n+13*m<=Th.hM)(ah:Th.rest C P m s=some (y,b)):ad aa 24 [ptr h 0,af k] [kw C P h s] (aF (.bool b) [kw C P h y]):=
 Bn λX z ao aB aU bB=>by subst aB aU bB;exact akS (aA1 X z s y b k m n _ N dm (Th.ui N) bb ao r aS ah)
def aBr{f:FuncId}{args:List Value}{X:cJ}{z:dn}{s:ar}{v:Value}{L:List aq}(ao:bD X z s)(h:ad aa f args (bj X z s) (aF v (L++bj X z s))):ad aa f args (bj X z s++[]) (aF v (L++[kw X.C X.P X.h s])):=
 rF [] h kH λu H ⟨e,cc⟩=>⟨_,⟨e,rfl⟩,λh s=>by
  subst cc;rw[jj]at s;exact DN Ib L h s⟩
end
section
variable(X:cJ){C:bK}(z:dn){P:List b1}(s:ar){h:Nat}
theorem aBs(o:s.trace.length<=most):ad aa 14 [ptr X.h 0] (bj X z s) (λu H=>∃a c,u=.slice a s.trace.length c/\H=dQ a c s.trace::bj X z s):=by
 refine ax Tryz.func14 λF D=>?_;refine cO ?_;refine cj rfl (b4 rfl (auU z.cC z.cD s.trace.length (s.trace.flatMap kb) (dQ z.cC z.cD s.trace) (kz kb 9 zI s.trace) (avv s.trace) (by have:s.trace.length<=1099511627776:=o;omega)) bI) ?_;rintro _ D ⟨_,⟨e,S,rfl,rfl⟩,rfl⟩;refine r8 ?_;exact aW ⟨e,S,rfl,rfl⟩
theorem aBt:ad aa 30 [ptr X.h 0] (bj X z s) (aF (af s.trace.length) ([]++bj X z s)):=by
 refine ax Tryz.func30 λF D=>?_;exact yG
theorem FL{n:Nat}{s:ar}(r:Bm C P n s)(aS:n<=Th.hM):ad aa 14 [ptr h 0] [kw C P h s] (λu H=>∃a c,u=.slice a s.trace.length c/\H=[dQ a c s.trace,kw C P h s]):=
 Bn λX z ao aB aU bB=>by
  subst aB aU bB;exact rF [] (aBs X z s (by
   have h1:=r.ph;have h2:Th.hM=10000000:=rfl;have aH:Th.hD=90000:=rfl;have bm:s.trace.length+s.dead.length<=Th.bL s:=O6;have dk:Th.hD*n<=90000*10000000:=qz (eh _) aS;show _<=1099511627776;omega)) kH λu H ⟨a,c,e,cc⟩=>⟨_,⟨a,c,e,rfl⟩,λh s=>by
   subst cc;rw[jj]at s;exact Sat.tail Ib s⟩
theorem aBu{n:Nat}{s:ar}:ad aa 30 [ptr h 0] [kw C P h s] (aF (af s.trace.length) [kw C P h s]):=
 Bn λX z ao aB aU bB=>by subst aB aU bB;exact aBr (L:=[]) ao (aBt X z s)
end
structure l1 where
 bc:Int
 cK:Int
 aZ:Int
 hS:Int
 dW:Int
 mB:Int
 ez:Int
 iO:Int
 dF:Int
abbrev sQ(c:l1):List Value:=[af c.bc,af c.cK,af c.aZ,af c.hS,af c.dW,af c.mB,af c.ez,af c.iO,af c.dF]
section
variable(c:l1)(C:bK)(a E al:Int)
def fL(a:Int):Bool:=decide (E<=a)&&decide (a<=al)
def l1.okB:Bool:=fL 1 8 c.bc&&fL 1 4 c.cK&&fL 1 16 c.aZ&&fL 1 64 c.hS&&fL 0 64 c.dW&&fL 1 16 c.mB&&fL 1 64 c.ez&&fL 1 64 c.iO&&fL 0 64 c.dF
def l1.nat:bK:=⟨c.bc.toNat,c.cK.toNat,c.aZ.toNat,c.hS.toNat,c.dW.toNat,c.mB.toNat,c.ez.toNat,c.iO.toNat,c.dF.toNat⟩
def pI:l1:=⟨C.bc,C.cK,C.aZ,C.hS,C.dW,C.mB,C.ez,C.iO,C.dF⟩
def l1.aCH{c:l1}(h:c.okB=true):pI c.nat=c/\c.nat.ok:=by
 obtain⟨v0,v1,u,v3,v4,v5,e,k,p⟩:=c;simp only[l1.okB,fL,iy,ln]at h;refine⟨?_,?_⟩
 . simp only[pI,l1.nat,l1.mk.injEq];omega
 . constructor<;>simp only[l1.nat]<;>omega
def vS:ad aa 52 [af a,af E,af al] [] (aF (.bool (fL E al a)) []):=by
 unfold fL;by_cases h:E<=a/\a<=al
 . rw[lM h.1,lM h.2];exact KB a E al h
 . have e:(decide (E<=a)&&decide (a<=al))=false:=by
    cases h1:decide (E<=a)<;>cases h2:decide (a<=al)<;>first|rfl|exact absurd ⟨of_decide_eq_true h1,of_decide_eq_true h2⟩ h
   rw[e];exact Ky a E al h
instance:A8 aa 66:=⟨_,Tryz.underlying66⟩
abbrev oV:List Value:=[af C.bc,af C.cK,af C.aZ,af C.hS,af C.dW,af C.mB,af C.ez,af C.iO,af C.dF]
abbrev ng(p m a M bG E:Value)(am e5 ld c4:Nat)(aV aQ b:Value):List Value:=
 [af C.bc,af C.cK,af C.aZ,af C.hS,af C.dW,af C.mB,af C.ez,af C.iO,af C.dF,p,m,af 0,af 1,af 2,a,M,bG,E,.map (some am),.map (some e5),.slice none 0 0,ptr ld 0,ptr c4 0,.slice none 0 0,af 0,af 0,.bool false,aV,aQ,b]
end
section
variable(h:Nat)(bS:Option Addr){m:Nat}{a:Option Addr}(pc:Nat){C:bK}{c:Nat}{K P J:List b1}{k:b1}{l:List b1}{D:List aq}
def jN(l:List b1):aq:=λh=>∀k∈l,kM h k
theorem aBe:∀h,Sat D h->Sat (jN []::D) h:=λh s=>Sat.head (λ_ _ r aD=>by cases aD) (yc h s)
theorem YE:∀h,Sat (gM k::jN l::D) h->Sat (jN (l++[k])::D) h:=
 v7 λh1 h2 d o l x ag=>by
  rcases kP.1 ag with ag|ag
  . exact(l x ag).imp λb o e=>rl d e
  . simp at ag;subst ag
    exact o.imp λb o e=>join_some e
theorem YF(aw:eF (l.length*80)):∀h,Sat (own (.slice a l.length c) 78 5 l.length (l.flatMap dO)::jN l::D) h->Sat ((λh=>hr h a c l)::D) h:=
 v7 λh1 h2 d o l=>⟨(ij.own o).imp λb o e=>join_some e,aw,λk hk=>(l k hk).imp λb o e=>rl d e⟩
theorem aBn{di M D:List aq}:∀h,Sat (ay di::ay M::D) h->Sat (ay (di++M)::D) h:=λh s=>by
 refine Sat.flat.2 ?_;have s1:=Sat.flat.1 s;rw[jI];exact DN (λ_ t=>Sat.flat.1 t) di h s1
abbrev pJ(w:Int):List Value:=[ptr h 0,af w,.nilIface,.nilFunc,bu 0,.bool false]
def l5(l:List Nat):List aq:=l.mapIdx λj q=>ab q 128 (pJ h (j:Int))
def pK(l:List Nat):List aq:=l.map λq=>ab q 128 (pJ h (-1))
def oz(m:Nat)(C:bK)(l:List Po.nk):List aq:=l.mapIdx λi x=>zV m x (C.box (i+1))
theorem aBh{h q:Nat}{l:List Nat}:l5 h (l++[q])=l5 h l++[ab q 128 (pJ h (l.length:Int))]:=XD
theorem aBi{h q:Nat}{l:List Nat}:pK h (l++[q])=pK h l++[ab q 128 (pJ h (-1))]:=o6
theorem aBg{l:List Po.nk}{x:Po.nk}:oz m C (l++[x])=oz m C l++[zV m x (C.box (l++[x]).length)]:=by
 rw[ep];exact XD
def LH(C:bK):ar:=⟨jH C,⟨0,0,[]⟩,[],[],[],[],[],[],0,0,false,List.replicate (C.bc+C.cK+1) ⟨none,0,false⟩⟩
abbrev TQ(t:Int):dn:=⟨[],[],none,0,none,0,t⟩
theorem aBc{s:ar}(h:Th.start C P=some s):∃k e6 ky,P[0]?=some k/\Th.lf P k.name=some e6/\e6.states[0]?=some ky/\s={LH C with aI:=[mo 1 0 e6 ky.name],trace:=[({Th.c3 with kind:=7,dK:=(1:Nat),cw:=(0:Nat),name:=k.name}:bZ)]}:=by
 unfold Th.start at h;obtain⟨k,h1,h⟩:=io.1 h;unfold Th.vN at h;obtain⟨e6,h2,h⟩:=io.1 h;obtain⟨ky,aH,h⟩:=io.1 h;refine⟨k,e6,ky,h1,h2,aH,?_⟩;split at h
 . obtain⟨_,rfl⟩:=Th.l4 h
   rfl
 . cases h
def FJ(C:bK)(P:List b1)(h m:Nat)(cS:kV)(dt:Ck.oG)(bG:Nat)(E:List Po.nk)(KV:Option Addr)(KW:Nat)(zE:Option Addr)(zF:Nat)(zG:Option Addr)(zH:Nat)(i:List Nat)(am e5 ld c4:Nat)(bS:Option Addr)(pc:Nat):cJ:=
 ⟨C,P,h,m,cS,dt,bG,λa=>E.getD (a -1) ⟨0,m,0,0⟩,KV,KW,zE,zF,zG,zH,λj=>i.getD j 0,am,e5,ld,c4,bS,pc⟩
theorem af9(c:l1):ad aa 54 [.agg (sQ c).toArray] [] (aF (.bool c.okB) []):=by
 refine ax Tryz.func54 λF D=>?_;refine a7 ?_;refine wn λav=>?_;refine ch ?_;refine aV (vS c.bc 1 8) ?_;refine aG ?_;refine mN (d:=10) 4 (.bool (fL 1 8 c.bc&&fL 1 4 c.cK)) ?_ (λb=>?_)
 rotate_left
 . refine hU rfl rfl (λW=>?_) (λW=>?_) rfl
   . have f:=bR W
     refine bF ?_;refine aV (vS c.cK 1 4) ?_;refine aG ?_;exact jl b
   . have f:=bR W
     simp only[iD];refine bX ?_;exact jl b
 refine aG ?_;refine mN (d:=15) 4 (.bool (fL 1 8 c.bc&&fL 1 4 c.cK&&fL 1 16 c.aZ)) ?_ (λa=>?_)
 rotate_left
 . refine hU rfl rfl (λI=>?_) (λI=>?_) rfl
   . have p:=bR I
     refine bF ?_;refine aV (vS c.aZ 1 16) ?_;refine aG ?_;exact jl a
   . have p:=bR I
     simp only[iD];refine bX ?_;exact jl a
 refine aG ?_;refine mN (d:=20) 4 (.bool (fL 1 8 c.bc&&fL 1 4 c.cK&&fL 1 16 c.aZ&&fL 1 64 c.hS)) ?_ (λe=>?_)
 rotate_left
 . refine hU rfl rfl (λL=>?_) (λL=>?_) rfl
   . have C:=bR L
     refine bF ?_;refine aV (vS c.hS 1 64) ?_;refine aG ?_;exact jl e
   . have C:=bR L
     simp only[iD];refine bX ?_;exact jl e
 refine aG ?_;refine mN (d:=25) 4 (.bool (fL 1 8 c.bc&&fL 1 4 c.cK&&fL 1 16 c.aZ&&fL 1 64 c.hS&&fL 0 64 c.dW)) ?_ (λg=>?_)
 rotate_left
 . refine hU rfl rfl (λfV=>?_) (λfV=>?_) rfl
   . have E:=bR fV
     refine bF ?_;refine aV (vS c.dW 0 64) ?_;refine aG ?_;exact jl g
   . have E:=bR fV
     simp only[iD];refine bX ?_;exact jl g
 refine aG ?_;refine mN (d:=30) 4 (.bool (fL 1 8 c.bc&&fL 1 4 c.cK&&fL 1 16 c.aZ&&fL 1 64 c.hS&&fL 0 64 c.dW&&fL 1 16 c.mB)) ?_ (λh=>?_)
 rotate_left
 . refine hU rfl rfl (λw=>?_) (λw=>?_) rfl
   . have N:=bR w
     refine bF ?_;refine aV (vS c.mB 1 16) ?_;refine aG ?_;exact jl h
   . have N:=bR w
     simp only[iD];refine bX ?_;exact jl h
 refine aG ?_;refine mN (d:=35) 4 (.bool (fL 1 8 c.bc&&fL 1 4 c.cK&&fL 1 16 c.aZ&&fL 1 64 c.hS&&fL 0 64 c.dW&&fL 1 16 c.mB&&fL 1 64 c.ez)) ?_ (λn=>?_)
 rotate_left
 . refine hU rfl rfl (λl=>?_) (λl=>?_) rfl
   . have ut:=bR l
     refine bF ?_;refine aV (vS c.ez 1 64) ?_;refine aG ?_;exact jl n
   . have ut:=bR l
     simp only[iD];refine bX ?_;exact jl n
 refine aG ?_;refine mN (d:=40) 4 (.bool (fL 1 8 c.bc&&fL 1 4 c.cK&&fL 1 16 c.aZ&&fL 1 64 c.hS&&fL 0 64 c.dW&&fL 1 16 c.mB&&fL 1 64 c.ez&&fL 1 64 c.iO)) ?_ (λi=>?_)
 rotate_left
 . refine hU rfl rfl (λz=>?_) (λz=>?_) rfl
   . have Z:=bR z
     refine bF ?_;refine aV (vS c.iO 1 64) ?_;refine aG ?_;exact jl i
   . have Z:=bR z
     simp only[iD];refine bX ?_;exact jl i
 refine aG ?_;refine mN (d:=45) 4 (.bool (fL 1 8 c.bc&&fL 1 4 c.cK&&fL 1 16 c.aZ&&fL 1 64 c.hS&&fL 0 64 c.dW&&fL 1 16 c.mB&&fL 1 64 c.ez&&fL 1 64 c.iO&&fL 0 64 c.dF)) ?_ (λj=>?_)
 rotate_left
 . refine hU rfl rfl (λR=>?_) (λR=>?_) rfl
   . have rt:=bR R
     refine bF ?_;refine aV (vS c.dF 0 64) ?_;refine aG ?_;exact jl j
   . have rt:=bR R
     simp only[iD];refine bX ?_;exact jl j
 refine bz ?_;exact aW ⟨rfl,rfl⟩
theorem aBo(K:List b1)(ba:aq)(c:l1)(h:c.okB=false):ad aa 28 [.agg (sQ c).toArray,.agg #[.slice bS K.length pc]] [ba] (λu H=>∃b,u=.tuple #[.pointer none,.iface 131 (ptr b 0)]/\H=[ab b 134 [af 1,.slice none 0 0],ba]):=by
 refine af8 ?_;intro F D U Z;refine nQ ?_;refine bX ?_;refine wn λa=>?_;refine aA rfl (jw Tryz.underlying131 rfl rfl) ?_;refine ch ?_;exact aW ⟨a,rfl,rfl⟩
theorem aBp(K:List b1)(ba:aq)(c:l1)(h:c.okB=true)(cX:Nat->aq)(Pi:ad aa 55 Et [ba] (λu H=>∃b,u=.iface 131 (ptr b 0)/\H=[cX b,ba])):ad aa 28 [.agg (sQ c).toArray,.agg #[.slice bS K.length pc]] [ba] (λu H=>∃b,u=.tuple #[.pointer none,.iface 131 (ptr b 0)]/\H=[cX b,ba]):=by
 refine af8 ?_;intro F D U Z;refine lD ?_;refine bh ?_;refine bt (Pi) ?_;rintro _ _ ⟨b,rfl,rfl⟩;refine er ?_;refine bh ?_;refine QJ ?_;refine a7 ?_;refine nQ ?_;refine cU ?_;exact aW ⟨b,rfl,rfl⟩
theorem aBd(h:C.ok):(pI C).okB=true:=by
 simp only[l1.okB,fL,iy,ln];dsimp only[pI];have:=h.aG;have:=h.bH;have:=h.h1;have:=h.bm;have:=h.ck;have:=h.ha;have:=h.m1;have:=h.m64;have:=h.p1;have:=h.av;have:=h.GG;have:=h.d1;have:=h.d64;have:=h.i1;have:=h.i64;have:=h.s5;omega
theorem aBf{fi dj:b1}(az:J.map cN=(K.take J.length).map cN)(O:K[J.length]?=some fi)(Y:cN dj=cN fi):(J++[dj]).map cN=(K.take (J++[dj]).length).map cN:=by
 obtain⟨d5,e⟩:=dd.1 O;rw[o6,az,ep,aBq,ns d5,o6,e];simp[Y]
theorem akQ(az:J.map cN=K.map cN)(i8:(K.map cN)[0]?=some k):0<J.length:=by
 have h1:=(dd.1 i8).1;rw[kG]at h1;have:=congrArg List.length az;simp only[kG]at this;omega
theorem aBj{gr:b1}(az:J.map cN=K.map cN)(i8:(K.map cN)[0]?=some k)(md:J[0]?=some gr):gr.name=k.name:=by
 rw[<-az,fe,md]at i8;cases i8;rfl
theorem aBm{n:cy}{e6:b1}(s2:∀k∈K,kh k)(a8:Th.lf (K.map cN) n=some e6):kh e6:=by
 have bb:=rf a8;obtain⟨k,hk,rfl⟩:=jS.1 bb;have r:∀s:fb,fN (fN s)=fN s:=λs=>by
  simp only[fN,w5];congr 1
 have az:cN (cN k)=cN k:=by
  simp only[cN,w5];congr 1;exact akR λs _=>r s
 exact Tz az.symm (s2 k hk)
theorem aBl{h m:Nat}{cS:kV}{dt:Ck.oG}{bG:Nat}{l:List Po.nk}{d f u:Option Addr}{e g v:Nat}{i:List Nat}{am e5 ld c4:Nat}{a:Option Addr}{c:Nat}{t:Int}(pl:cS.m=m)(hw:dt.m=m)(t2:∀x∈l,x.m=m):bD (FJ C P h m cS dt bG l d e f g u v i am e5 ld c4 a c) (TQ t) (LH C):=by
 refine⟨pl,hw,λb=>?_,rfl,rfl⟩;show(l.getD (b -1) _).m=m;rw[je];cases ag:l[b -1]?with
 |none=>rfl
 |some x=>exact t2 x y9
theorem aBk{n p T i4 ld c4 m bG:Nat}{cS:kV}{dt:Ck.oG}{l:List Po.nk}{a d f u:Option Addr}{c e g v:Nat}{ws aj:List Nat}{t:Int}{D:List aq}(he:J.length=K.length)(az:J.map cN=K.map cN)(pl:cS.m=m)(hw:dt.m=m)(t2:∀x∈l,x.m=m)(i9:l.length=C.aZ)(m8:ws.length=C.bc)(Hx:aj.length=C.cK)(cL:K.length<=8):
 ∀h,Sat ([ab n 108 (ng C (.slice a J.length c) (ptr m 0) (ptr cS.c 0) (ptr dt.c 0) (ptr bG 0) (.slice d l.length e) p T ld c4 (.slice f ws.length g) (.slice u aj.length v) (ptr i4 0)),ab i4 128 (pJ n (-1)),own (.slice u aj.length v) 106 1 aj.length (aj.map λq=>ptr q 0),ay (pK n aj),own (.slice f ws.length g) 106 1 ws.length (ws.map λq=>ptr q 0),ay (l5 n ws),own (.slice d l.length e) 116 1 l.length (l.map λx=>ptr x.bp 0),ay (oz m C l),cg m (jH C) t,own (.slice a J.length c) 78 5 J.length (J.flatMap dO),jN J,eR [gr cS C.bA,cd cS C.bA,jo cS C.bA,eB cS C.bA,ay (lz cS C.bA)],eR [Ck.gn dt C.dC,gf dt.r m (C.dC.b+1) C.dC.n,fO dt.wp ⟨0,0,[]⟩],eD bG m C.bG C.aZ,ev p (.map #[] 0),ev T (.map #[] 0),Lg.dp ld [],ey c4 C.dF []]++D) h->Sat (bj (FJ C (K.map cN) n m cS dt bG l d e f g u v (ws++aj++[i4]) p T ld c4 a c) (TQ t) (LH C)++D) h:=λh s=>by
 obtain⟨X,b⟩:∃X,X=(FJ C (K.map cN) n m cS dt bG l d e f g u v (ws++aj++[i4]) p T ld c4 a c):=⟨_,rfl⟩;have H:X.C=C:=IL;have I:X.m=m:=IL;have L:∀i,(al:i<l.length)->X.bp (i+1)=l[i]:=λi al=>by
  rw[b];show l.getD (i+1 -1) _=_;rw[FK,je,cq al];rfl
 have N:ed X=oz m C l:=by
  unfold oz ed;rw[H];refine u0 λi=>?_;rw[fe,sS];by_cases al:i<C.aZ
  . rw[ve al,cq ae]
    show some (xH X (i+1))=some (zV m l[i] (C.box (i+1)));unfold xH zV;rw[L i ae,H,I]
  . rw[oM y1,oM ae];rfl
 have O:((List.range C.aZ).map λi=>ptr (X.bp (i+1)).bp 0)=l.map λx=>ptr x.bp 0:=by
  rw[b];refine u0 λi=>?_;rw[fe,fe];by_cases al:i<C.aZ
  . rw[ve al,cq ae]
    show some (ptr (l.getD (i+1 -1) _).bp 0)=some (ptr l[i].bp 0);rw[FK,je,cq ae];rfl
  . rw[oM y1,oM ae];rfl
 have z:∀i,X.bq i=(ws++aj++[i4]).getD i 0:=λi=>by rw[b];rfl
 have R:((List.range C.bc).map λi=>ptr (X.bq i) 0)=ws.map λq=>ptr q 0:=by
  refine u0 λi=>?_;rw[fe,fe];by_cases al:i<C.bc
  . rw[ve al,cq ae]
    show some (ptr (X.bq i) 0)=_;rw[z,jI,je,kS ae,cq ae];rfl
  . rw[oM y1,oM ae];rfl
 have G:((List.range C.cK).map λi=>ptr (X.bq (C.bc+i)) 0)=aj.map λq=>ptr q 0:=by
  refine u0 λi=>?_;rw[fe,fe];by_cases al:i<C.cK
  . rw[ve al,cq ae]
    show some (ptr (X.bq (C.bc+i)) 0)=_;rw[z,jI,je,pQ ae,m8,Gf,kS ae,cq ae];rfl
  . rw[oM y1,oM ae];rfl
 have M:X.bq (C.bc+C.cK)=i4:=by
  rw[z,je,pQ (by rw[ep];omega),ep,m8,Hx,yd];rfl
 have y:c8 X [] [] (List.replicate (C.bc+C.cK+1) ⟨none,0,false⟩)=l5 n ws++pK n aj++[ab i4 128 (pJ n (-1))]:=by
  have A:X.C.bc=C.bc:=IL;have F:X.h=n:=IL;refine u0 λi=>?_;rw[sS,Tq];by_cases h1:i<C.bc
  . rw[bg ae,jI,kS (by simp[l5];omega)]
    unfold l5;rw[sS,cq ae];show some (ab (X.bq i) _ [ptr X.h 0,af (jY X i),_,_,_,_])=some (ab _ _ _);rw[z,jI,je,kS ae,cq ae,F];unfold jY;rw[A,bg h1];rfl
  . by_cases h2:i<C.bc+C.cK
    . rw[bg ae,jI,pQ (by simp[l5];omega),kS (by simp[l5,pK]<;>omega)]
      unfold pK l5;rw[fe,KX,cq ae];show some (ab (X.bq i) _ [ptr X.h 0,af (jY X i),_,_,_,_])=some (ab _ _ _);rw[z,jI,je,pQ ae,kS ae,cq ae,F];unfold jY;rw[A,a6 h1];rfl
    . by_cases aH:i=C.bc+C.cK
      . subst aH
        rw[bg ae,pQ (by simp[l5,pK]<;>omega)];rw[show C.bc+C.cK -(l5 n ws++pK n aj).length=0 by simp[l5,pK]<;>omega];show some (ab (X.bq (C.bc+C.cK)) _ [ptr X.h 0,af (jY X (C.bc+C.cK)),_,_,_,_])=some (ab _ _ _);rw[M,F];unfold jY;rw[A,a6 h1]
      . rw[a6 ae,oM];rfl;simp[l5,pK];omega
 have j:J.map cN=X.P.map cN:=by
  rw[az,b];show K.map cN=(K.map cN).map cN;rw[w5];refine akR λk _=>?_;have r:∀s:fb,fN (fN s)=fN s:=λs=>by
   simp only[fN,w5];congr 1
  show cN k=cN (cN k);simp only[cN,w5];congr 1;exact(akR λs _=>r s).symm
 have S:J.length=(K.map cN).length:=by rw[kG,he]
 have s1:=(show∀h,Sat _ h->Sat (own (.slice a J.length c) 78 5 J.length (J.flatMap dO)::jN J::ab n 108 (ng C (.slice a J.length c) (ptr m 0) (ptr cS.c 0) (ptr dt.c 0) (ptr bG 0) (.slice d l.length e) p T ld c4 (.slice f ws.length g) (.slice u aj.length v) (ptr i4 0))::ab i4 128 (pJ n (-1))::own (.slice u aj.length v) 106 1 aj.length (aj.map λq=>ptr q 0)::ay (pK n aj)::own (.slice f ws.length g) 106 1 ws.length (ws.map λq=>ptr q 0)::ay (l5 n ws)::own (.slice d l.length e) 116 1 l.length (l.map λx=>ptr x.bp 0)::ay (oz m C l)::cg m (jH C) t::eR [gr cS C.bA,cd cS C.bA,jo cS C.bA,eB cS C.bA,ay (lz cS C.bA)]::eR [Ck.gn dt C.dC,gf dt.r m (C.dC.b+1) C.dC.n,fO dt.wp ⟨0,0,[]⟩]::eD bG m C.bG C.aZ::ev p (.map #[] 0)::ev T (.map #[] 0)::Lg.dp ld []::ey c4 C.dF []::D) h from(au)) h s;have Z:=YF (by unfold eF;omega) h s1;have b9:=Sat.head (B:=gk X) (λh o=>⟨J,j,by rw[b];exact o⟩) Z;have m2:=(show∀h,Sat _ h->Sat (ab i4 128 (pJ n (-1))::ay (l5 n ws)::ay (pK n aj)::gk X::ab n 108 (ng C (.slice a J.length c) (ptr m 0) (ptr cS.c 0) (ptr dt.c 0) (ptr bG 0) (.slice d l.length e) p T ld c4 (.slice f ws.length g) (.slice u aj.length v) (ptr i4 0))::own (.slice u aj.length v) 106 1 aj.length (aj.map λq=>ptr q 0)::own (.slice f ws.length g) 106 1 ws.length (ws.map λq=>ptr q 0)::own (.slice d l.length e) 116 1 l.length (l.map λx=>ptr x.bp 0)::ay (oz m C l)::cg m (jH C) t::eR [gr cS C.bA,cd cS C.bA,jo cS C.bA,eB cS C.bA,ay (lz cS C.bA)]::eR [Ck.gn dt C.dC,gf dt.r m (C.dC.b+1) C.dC.n,fO dt.wp ⟨0,0,[]⟩]::eD bG m C.bG C.aZ::ev p (.map #[] 0)::ev T (.map #[] 0)::Lg.dp ld []::ey c4 C.dF []::D) h from(au)) h b9;have Q:=tB h (Sat.tail (λh E=>aBn h E) m2);rw[<-y]at Q;have U:=Bt (d6:=.i64) h (Sat.tail (λh E=>Bt (d6:=.u64) h E) ((show∀h,Sat _ h->Sat (ev p (.map #[] 0)::ev T (.map #[] 0)::ay (c8 X [] [] (List.replicate (C.bc+C.cK+1) ⟨none,0,false⟩))::gk X::ab n 108 (ng C (.slice a J.length c) (ptr m 0) (ptr cS.c 0) (ptr dt.c 0) (ptr bG 0) (.slice d l.length e) p T ld c4 (.slice f ws.length g) (.slice u aj.length v) (ptr i4 0))::own (.slice u aj.length v) 106 1 aj.length (aj.map λq=>ptr q 0)::own (.slice f ws.length g) 106 1 ws.length (ws.map λq=>ptr q 0)::own (.slice d l.length e) 116 1 l.length (l.map λx=>ptr x.bp 0)::ay (oz m C l)::cg m (jH C) t::eR [gr cS C.bA,cd cS C.bA,jo cS C.bA,eB cS C.bA,ay (lz cS C.bA)]::eR [Ck.gn dt C.dC,gf dt.r m (C.dC.b+1) C.dC.n,fO dt.wp ⟨0,0,[]⟩]::eD bG m C.bG C.aZ::Lg.dp ld []::ey c4 C.dF []::D) h from(au)) h Q));have w:=ii (e:=38) (aT:=9) h (ii (e:=261) (aT:=3) h (w0 h (w0 h U)));rw[<-N,<-O,<-R,<-G,i9,m8,Hx,S,<-M]at w;subst b;exact(au) h w
end
end Go.Proofs.YtnnhpnccfnghdaaGreat.L.bE
namespace Go.Proofs.YtnnhpnccfnghdaaGreat.L.bE
open Go.Proofs.YtnnhpnccfnghdaaGreat.L
open Go.L Go.L.Lx Go.L.Pg Go.RowKit Go.Deep
open Go.L.Th (bK dG)
attribute[local irreducible] G cz GE cT GT bU c6 cY dc Exit.then Exit.inBlock
section
variable{F:Type}{enc:TypeId×Value->F}{P:Program}{w:World}{E:Nat}{D:Nat->Bool}{held:Bool}
theorem ah1{t n k:Nat}{cs:List Value}{y:DataW F×List MemPlace}{bv:Nat}(a2:P.cellsOf t=k)(h:DataW.trod enc P w E D held n t ((cs.drop bv).take (P.cellsOf t))=some y):DataW.trod enc P w E D held n t ((cs.drop bv).take k)=some y:=by rw[a2]at h;exact h
end
def aqm{W:World}{a:Option Addr}{c n:Nat}{xs:List Value}(p:ij (fE W) a c n xs):∀h,base W h->ij h a c n xs:=λh az=>⟨p.1.imp λb o e=>by
 have d5:b<W.heap.size:=by
  rcases sh b W.heap.size with x|x
  . exact x
  . rw[show fE W b=W.heap[b]?from rfl,Hi x]at e;cases e
 rw[az b d5];exact e,p.2⟩
instance:Inhabited dG:=⟨⟨0,0,0,[],0⟩⟩
def auw{F:Type}{enc:TypeId×Value->F}{w:World}{E:Nat}{D:Nat->Bool}{held:Bool}(n:Nat)(cs:List Value)(d:DataW F×List MemPlace)(h:DataW.trod enc aa w E D held n 60 cs=some d)(O:l0 aa 60 d.1):∃q,cs=h8 q/\eF q.tag.length:=by
 obtain⟨xs,m,_,rfl,aw,hlen,a8⟩:=DataW.trod_struct Tryz.underlying60 h;rw[show aa.cellsOf 60=5 by kernel_rfl]at aw;replace hlen:xs.length=5:=hlen;obtain⟨ej,c1,bk,b0,d9,rfl⟩:∃ej c1 bk b0 d9,cs=[ej,c1,bk,b0,d9]:=Zr;obtain⟨b,g⟩:∃y,xs[0]?=some y:=⟨_,cq ae⟩;have f0:=(a8 0 _ rfl).trans g;have l:=h7 (i:=0) Tryz.underlying60 O rfl (show(xs.map (·.1))[0]?=some b.1 by rw[fe,g];rfl);obtain⟨a,W⟩:∃y,xs[1]?=some y:=⟨_,cq ae⟩;have f1:=(a8 1 _ rfl).trans W;have aG:=h7 (i:=1) Tryz.underlying60 O rfl (show(xs.map (·.1))[1]?=some a.1 by rw[fe,W];rfl);obtain⟨f,cE⟩:∃y,xs[2]?=some y:=⟨_,cq ae⟩;have f2:=(a8 2 _ rfl).trans cE;have a7:=h7 (i:=2) Tryz.underlying60 O rfl (show(xs.map (·.1))[2]?=some f.1 by rw[fe,cE];rfl);obtain⟨j,d8⟩:∃y,xs[3]?=some y:=⟨_,cq ae⟩;have f3:=(a8 3 _ rfl).trans d8;have bX:=h7 (i:=3) Tryz.underlying60 O rfl (show(xs.map (·.1))[3]?=some j.1 by rw[fe,d8];rfl);obtain⟨t,f9⟩:∃y,xs[4]?=some y:=⟨_,cq ae⟩;have f4:=(a8 4 _ rfl).trans f9;have bF:=h7 (i:=4) Tryz.underlying60 O rfl (show(xs.map (·.1))[4]?=some t.1 by rw[fe,f9];rfl);obtain⟨v0,rfl⟩:=lE Tryz.underlying3 (show aa.cellsOf 3=1 by kernel_rfl) f0 rfl;obtain⟨v1,rfl⟩:=lE Tryz.underlying3 (show aa.cellsOf 3=1 by kernel_rfl) f1 rfl;obtain⟨u,rfl⟩:=lE Tryz.underlying3 (show aa.cellsOf 3=1 by kernel_rfl) f2 rfl;obtain⟨v3,rfl,jo⟩:=Go.Proofs.YtnnhpnccfnghdaaGreat.L.ih Tryz.underlying9 (show aa.cellsOf 9=1 by kernel_rfl) f3 bX rfl;obtain⟨v4,rfl⟩:=lE Tryz.underlying3 (show aa.cellsOf 3=1 by kernel_rfl) f4 rfl;exact⟨⟨v0,v1,u,v3,v4⟩,rfl,jo⟩
def auy{F:Type}{enc:TypeId×Value->F}{w:World}{E:Nat}{D:Nat->Bool}{held:Bool}(n:Nat)(cs:List Value)(d:DataW F×List MemPlace)(h:DataW.trod enc aa w E D held n 23 cs=some d)(O:l0 aa 23 d.1):∃q,cs=sQ q:=by
 obtain⟨xs,m,_,rfl,aw,hlen,a8⟩:=DataW.trod_struct Tryz.underlying23 h;rw[show aa.cellsOf 23=9 by kernel_rfl]at aw;replace hlen:xs.length=9:=hlen;obtain⟨ej,c1,bk,b0,d9,eT,ge,S,c,rfl⟩:∃ej c1 bk b0 d9 eT ge S c,cs=[ej,c1,bk,b0,d9,eT,ge,S,c]:=by match cs,aw with|[ej,c1,bk,b0,d9,eT,ge,S,c],_=>exact⟨_,_,_,_,_,_,_,_,_,rfl⟩
 obtain⟨b,g⟩:∃y,xs[0]?=some y:=⟨_,cq ae⟩;have f0:=(a8 0 _ rfl).trans g;have l:=h7 (i:=0) Tryz.underlying23 O rfl (show(xs.map (·.1))[0]?=some b.1 by rw[fe,g];rfl);obtain⟨a,W⟩:∃y,xs[1]?=some y:=⟨_,cq ae⟩;have f1:=(a8 1 _ rfl).trans W;have aG:=h7 (i:=1) Tryz.underlying23 O rfl (show(xs.map (·.1))[1]?=some a.1 by rw[fe,W];rfl);obtain⟨f,cE⟩:∃y,xs[2]?=some y:=⟨_,cq ae⟩;have f2:=(a8 2 _ rfl).trans cE;have a7:=h7 (i:=2) Tryz.underlying23 O rfl (show(xs.map (·.1))[2]?=some f.1 by rw[fe,cE];rfl);obtain⟨j,d8⟩:∃y,xs[3]?=some y:=⟨_,cq ae⟩;have f3:=(a8 3 _ rfl).trans d8;have bX:=h7 (i:=3) Tryz.underlying23 O rfl (show(xs.map (·.1))[3]?=some j.1 by rw[fe,d8];rfl);obtain⟨t,f9⟩:∃y,xs[4]?=some y:=⟨_,cq ae⟩;have f4:=(a8 4 _ rfl).trans f9;have bF:=h7 (i:=4) Tryz.underlying23 O rfl (show(xs.map (·.1))[4]?=some t.1 by rw[fe,f9];rfl);obtain⟨o,Z⟩:∃y,xs[5]?=some y:=⟨_,cq ae⟩;have f5:=(a8 5 _ rfl).trans Z;have bz:=h7 (i:=5) Tryz.underlying23 O rfl (show(xs.map (·.1))[5]?=some o.1 by rw[fe,Z];rfl);obtain⟨r,G⟩:∃y,xs[6]?=some y:=⟨_,cq ae⟩;have f6:=(a8 6 _ rfl).trans G;have bh:=h7 (i:=6) Tryz.underlying23 O rfl (show(xs.map (·.1))[6]?=some r.1 by rw[fe,G];rfl);obtain⟨v,T⟩:∃y,xs[7]?=some y:=⟨_,cq ae⟩;have f7:=(a8 7 _ rfl).trans T;have ch:=h7 (i:=7) Tryz.underlying23 O rfl (show(xs.map (·.1))[7]?=some v.1 by rw[fe,T];rfl);obtain⟨x,s⟩:∃y,xs[8]?=some y:=⟨_,cq ae⟩;have f8:=(a8 8 _ rfl).trans s;have bH:=h7 (i:=8) Tryz.underlying23 O rfl (show(xs.map (·.1))[8]?=some x.1 by rw[fe,s];rfl);obtain⟨v0,rfl⟩:=lE Tryz.underlying3 (show aa.cellsOf 3=1 by kernel_rfl) f0 rfl;obtain⟨v1,rfl⟩:=lE Tryz.underlying3 (show aa.cellsOf 3=1 by kernel_rfl) f1 rfl;obtain⟨u,rfl⟩:=lE Tryz.underlying3 (show aa.cellsOf 3=1 by kernel_rfl) f2 rfl;obtain⟨v3,rfl⟩:=lE Tryz.underlying3 (show aa.cellsOf 3=1 by kernel_rfl) f3 rfl;obtain⟨v4,rfl⟩:=lE Tryz.underlying3 (show aa.cellsOf 3=1 by kernel_rfl) f4 rfl;obtain⟨v5,rfl⟩:=lE Tryz.underlying3 (show aa.cellsOf 3=1 by kernel_rfl) f5 rfl;obtain⟨e,rfl⟩:=lE Tryz.underlying3 (show aa.cellsOf 3=1 by kernel_rfl) f6 rfl;obtain⟨k,rfl⟩:=lE Tryz.underlying3 (show aa.cellsOf 3=1 by kernel_rfl) f7 rfl;obtain⟨p,rfl⟩:=lE Tryz.underlying3 (show aa.cellsOf 3=1 by kernel_rfl) f8 rfl;exact⟨⟨v0,v1,u,v3,v4,v5,e,k,p⟩,rfl⟩
def aqi{F:Type}{enc:TypeId×Value->F}{w:World}{E:Nat}{D:Nat->Bool}{held:Bool}(n:Nat)(cs:List Value)(d:DataW F×List MemPlace)(h:DataW.trod enc aa w E D held n 57 cs=some d)(O:l0 aa 57 d.1):∃(q:l1) (bS:Option Addr) (pc:Nat) (K:List b1) (ea:Option Addr) (cQ:Nat) (es:List dG) (r:Int),cs=sQ q++[.slice bS K.length pc,.slice ea es.length cQ,af r]/\hr (fE w) bS pc K/\ij (fE w) ea cQ es.length (es.flatMap h8)/\eF (es.length*48)/\∀e∈es,eF e.tag.length:=by
 obtain⟨xs,m,_,rfl,aw,hlen,a8⟩:=DataW.trod_struct Tryz.underlying57 h;rw[show aa.cellsOf 57=12 by kernel_rfl]at aw;replace hlen:xs.length=4:=hlen;obtain⟨ej,c1,bk,b0,d9,eT,ge,S,c,o,k,p,rfl⟩:∃ej c1 bk b0 d9 eT ge S c o k p,cs=[ej,c1,bk,b0,d9,eT,ge,S,c,o,k,p]:=by match cs,aw with|[ej,c1,bk,b0,d9,eT,ge,S,c,o,k,p],_=>exact⟨_,_,_,_,_,_,_,_,_,_,_,_,rfl⟩
 obtain⟨b,g⟩:∃y,xs[0]?=some y:=⟨_,cq ae⟩;have f0:=(a8 0 _ rfl).trans g;have l:=h7 (i:=0) Tryz.underlying57 O rfl (show(xs.map (·.1))[0]?=some b.1 by rw[fe,g];rfl);obtain⟨a,W⟩:∃y,xs[1]?=some y:=⟨_,cq ae⟩;have f1:=(a8 1 _ rfl).trans W;have aG:=h7 (i:=1) Tryz.underlying57 O rfl (show(xs.map (·.1))[1]?=some a.1 by rw[fe,W];rfl);obtain⟨f,cE⟩:∃y,xs[2]?=some y:=⟨_,cq ae⟩;have f2:=(a8 2 _ rfl).trans cE;have a7:=h7 (i:=2) Tryz.underlying57 O rfl (show(xs.map (·.1))[2]?=some f.1 by rw[fe,cE];rfl);obtain⟨j,d8⟩:∃y,xs[3]?=some y:=⟨_,cq ae⟩;have f3:=(a8 3 _ rfl).trans d8;have bX:=h7 (i:=3) Tryz.underlying57 O rfl (show(xs.map (·.1))[3]?=some j.1 by rw[fe,d8];rfl);obtain⟨q,fG⟩:=auy _ _ _ (ah1 (show aa.cellsOf 23=9 by kernel_rfl) f0) l;obtain⟨bS,pc,K,aB,dm⟩:=auv _ _ _ (ah1 (show aa.cellsOf 26=1 by kernel_rfl) f1) aG;obtain⟨ea,cQ,es,rfl,s,t,my⟩:=B3 h8 (λe:dG=>eF e.tag.length) (λ_=>rfl) (λn cs d h w=>auw n cs d h w) Tryz.underlying27 (show aa.cellsOf 60=5 by kernel_rfl) bN (show aa.bytesOf 60=48 by kernel_rfl) (show aa.cellsOf 27=1 by kernel_rfl) f2 a7 rfl;obtain⟨v3,rfl⟩:=lE Tryz.underlying3 (show aa.cellsOf 3=1 by kernel_rfl) f3 rfl;refine⟨q,bS,pc,K,ea,cQ,es,v3,?_,dm,my,t,s⟩;replace fG:[ej,c1,bk,b0,d9,eT,ge,S,c]=sQ q:=fG;replace aB:[o]=vm:=aB;simp only[List.cons.injEq,and_true]at aB;obtain rfl:=aB;rw[<-fG];rfl
end Go.Proofs.YtnnhpnccfnghdaaGreat.L.bE
namespace Go.Proofs.YtnnhpnccfnghdaaGreat.L
open Go.L Go.L.Lx Go.L.Pg
section
variable{h k:dR}{a:Option Addr}{j c n:Nat}{x:Value}{A B C:aq}{I D:List aq}{xs:List Value}
def nK:Value->Bool
 |.slice ..=>true
 |_=>false
def mZ(h:dR)(a:Option Addr)(j:Nat)(x:Value):Prop:=∃b bv cs e,a=some ⟨b,bv,none⟩/\h b=some (.cells cs e (0,0))/\cs[bv+j]?=some x
def oi(h:dR)(a:Option Addr)(j:Nat):Prop:=∃x,mZ h a j x/\nK x=false
def p7(cs fB:Array Value):Prop:=∀(i:Nat) (x:Value),cs[i]?=some x->∃y:Value,fB[i]?=some y/\nK y=nK x/\(nK x=true->y=x)
def Bi(h k:dR):Prop:=∀b cs e,h b=some (.cells cs e (0,0))->∃fB,k b=some (.cells fB e (0,0))/\p7 cs fB
def p7.rfl{cs:Array Value}:p7 cs cs:=λ_ x h=>⟨x,h,_root_.rfl,λ_=>_root_.rfl⟩
def ap0{b:Nat}{cs fB:Array Value}{e:TypeId}(az:h b=some (.cells cs e (0,0)))(hk:p7 cs fB):Bi h (iR h b (.cells fB e (0,0))):=λl u H q=>by
 by_cases ag:l=b
 . subst ag
   rw[az]at q;cases q;exact⟨fB,by simp[iR],hk⟩
 . exact⟨u,by simp[iR,ag,q],.rfl⟩
def Bi.ak{p:Option Addr}{m q:Nat}(v:Bi h k)(o:mZ h a j (.slice p m q)):mZ k a j (.slice p m q):=by
 obtain⟨b,bv,cs,e,rfl,h1,h2⟩:=o;obtain⟨fB,aH,bm⟩:=v _ _ _ h1;obtain⟨y,dk,_,g0⟩:=bm _ _ h2;obtain rfl:=g0 rfl;exact⟨b,bv,fB,e,rfl,aH,dk⟩
def Bi.ot(v:Bi h k)(o:oi h a j):oi k a j:=by
 obtain⟨x,⟨b,bv,cs,e,rfl,h1,h2⟩,ag⟩:=o;obtain⟨fB,aH,bm⟩:=v _ _ _ h1;obtain⟨y,dk,g0,_⟩:=bm _ _ h2;exact⟨y,⟨b,bv,fB,e,rfl,aH,dk⟩,g0.trans ag⟩
class H8(A:aq):Prop where
 st:∀{h k:dR},A h->Bi h k->A k
class tE(A:aq)(I:List aq):Prop where
 get:∀{h:dR},Sat I h->∃k,A k/\(∀b o,k b=some o->h b=some o)/\∀b cs e fB,k b=some (.cells cs e (0,0))->p7 cs fB->Sat I (iR h b (.cells fB e (0,0)))
instance tE.head[i:H8 A]:tE A (A::D)where
 get:=fun⟨h1,h2,d,fG,aP,aD⟩=>⟨h1,aP,λb o e=>fG▸join_some e,λb cs e fB az hk=>by
  obtain⟨aB,d1⟩:=si (S:=.cells fB e (0,0)) az d;subst fG;exact⟨_,h2,d1,aB,i.st aP (ap0 az hk),aD⟩⟩
instance tE.tail[i:tE A D]:tE A (B::D)where
 get:=fun⟨h1,h2,d,fG,aP,aD⟩=>by
  obtain⟨k,aH,bm,dk⟩:=i.get aD;subst fG;refine⟨k,aH,λb o e=>by rw[join_comm d];exact join_some (bm b o e),λb cs e fB az hk=>?_⟩;obtain⟨aB,d1⟩:=si (S:=.cells fB e (0,0)) (bm _ _ az) d.symm;exact⟨h1,_,d1.symm,by rw[join_comm d,aB,join_comm d1],aP,dk b cs e fB az hk⟩
def w2(h:dR):Prop:=∀b o,h b=some o->∃cs e,o=.cells cs e (0,0)
def wr(A:aq):aq:=λh=>A h/\w2 h
def w2.join(a:w2 h)(b:w2 k):w2 (join h k):=λx o e=>by
 unfold Go.L.join at e;cases ag:h x with
 |some S=>rw[ag]at e;cases e;exact a _ _ ag
 |none=>rw[ag]at e;exact b _ _ e
def Bj{v:Value}{e:TypeId}{aT:Nat}:∀h,Sat (own v e aT n xs::D) h->Sat (wr (own v e aT n xs)::D) h:=λh ⟨h1,h2,d,fG,⟨aw,aP⟩,aD⟩=>by
 subst fG;rcases aP with aP|⟨b,C,dq,aB,aU,bB,c9,fX⟩
 . exact⟨λ_=>none,join h1 h2,λ_=>.inl rfl,by funext b;simp[join],⟨⟨aw,.inl aP⟩,λ_ _ h=>by cases h⟩,by rw[join_comm d];exact Sat.more d.symm aD⟩
 . have aQ:li h2 (λx=>if x=b then none else h1 x):=λx=>by
    rcases d x with y|y
    . right;simp[y]
    . exact .inl y
   have az:h2 b=none:=by
    rcases d b with y|y
    . rw[fX]at y;cases y
    . exact y
   refine⟨λx=>if x=b then h1 x else none,join h2 (λx=>if x=b then none else h1 x),λx=>?_,?_,⟨⟨aw,.inr ⟨b,C,dq,aB,aU,bB,c9,by simp[fX]⟩⟩,λx o ag=>?_⟩,Sat.more aQ aD⟩
   . by_cases y:x=b
     . right;simp[join,y,az]
     . left;simp[y]
   . funext x
     by_cases y:x=b
     . simp[join,y,fX]
     . cases aH:h1 x<;>cases bm:h2 x<;>simp[join,y,aH,bm]
       rcases d x with E|E
       . rw[aH]at E;cases E
       . rw[bm]at E;cases E
   . by_cases y:x=b
     . subst y
       simp[fX]at ag;exact⟨_,_,ag.symm⟩
     . simp[y]at ag
def Yr:∀(L:List aq) (h:dR),Sat (L.map wr++D) h->∃h1 h2,li h1 h2/\h=join h1 h2/\Sat L h1/\w2 h1/\Sat D h2
 |[],h,s=>⟨λ_=>none,h,λ_=>.inl rfl,by funext b;simp[join],trivial,λ_ _ h=>(by cases h),s⟩
 |
  A::L,h,⟨h1,q,d,e,aP,s⟩=>by
  obtain⟨h2,aH,d1,rfl,s1,aG,Z⟩:=Yr L q s;subst e;obtain⟨R,r⟩:=rj.1 d;exact⟨join h1 h2,aH,wG.2 ⟨r,d1⟩,by rw[join_assoc],⟨h1,h2,R,rfl,aP.1,s1⟩,aP.2.join aG,Z⟩
def DX{L:List aq}(mono:∀h k,A h->Ol->A k)(f:∀h,Sat L h->Sat [A] h):∀h,Sat (L.map wr++D) h->Sat (wr A::D) h:=λh s=>by
 obtain⟨h1,h2,d,rfl,s1,aG,Z⟩:=Yr L h s;obtain⟨aH,bm,d1,aB,aP,_⟩:=f _ s1;exact⟨h1,h2,d,rfl,⟨mono aH h1 aP λb o e=>by rw[aB];exact join_some e,aG⟩,Z⟩
def DY(r:ij h a c n xs)(w:w2 h)(ag:xs[j]?=some x):mZ h a j x:=by
 rcases r.1 with⟨_,rfl,_⟩|⟨b,bv,Q,C,e,_,aH⟩
 . cases ag
 . obtain⟨rfl,cs,aU,O,bm,dk⟩:=aH _ _ ag
   obtain⟨u,H,g0⟩:=w _ _ bm;cases g0;simp only[Value.slice.injEq]at e;exact⟨b,bv,cs,aU,e.1,bm,dk⟩
def Bk(r:ij h a c n xs)(w:w2 h)(ag:xs[j]?=some x)(e:nK x=false):oi h a j:=⟨x,DY r w ag,e⟩
end
section
variable{h g:dR}{a:Option Addr}{c:Nat}{K:List b1}
def ap1(h:dR)(a:Option Addr)(K:List b1):Prop:=∀i k,K[i]?=some k->oi h a (i*5+0)/\mZ h a (i*5+3) (.slice k.ca k.cases.length k.kg)/\mZ h a (i*5+4) (.slice k.sa k.states.length k.sc)/\(∀j,j<k.cases.length->oi h k.ca (j*2+1))/\
 ∀j s,k.states[j]?=some s->oi h k.sa (j*2+0)/\mZ h k.sa (j*2+1) (.slice s.ra s.rows.length s.rc)/\
 ∀l r,s.rows[l]?=some r->oi h s.ra (l*4+0)/\mZ h s.ra (l*4+3) (.slice r.ea r.b8.length r.cQ)/\∀m,m<r.b8.length->∀q,q<7->oi h r.ea (m*7+q)
def nL(a:Option Addr)(K:List b1):aq:=λh=>ap1 h a K
instance:H8 (nL a K)where
 st:=λs v i k e=>by
  obtain⟨h1,h2,aH,bm,dk⟩:=s i k e;refine⟨v.ot h1,v.ak h2,v.ak aH,λj J=>v.ot (bm j J),λj t M=>?_⟩;obtain⟨g0,u,L⟩:=dk j t M;refine⟨v.ot g0,v.ak u,λl r d=>?_⟩;obtain⟨p,c,b⟩:=L l r d;exact⟨v.ot p,v.ak c,λm bb q bo=>v.ot (b m bb q bo)⟩
def u7(a:Option Addr)(c:Nat)(K:List b1):aq:=wr (λh=>hr h a c K)
def ap2{D:List aq}:∀h,Sat (u7 a c K::D) h->Sat (nL a K::D) h:=λh=>Sat.head (r:=D) λh ⟨p,w⟩ i k e=>by
 have hk:=p.kinds k H9;refine⟨Bk p.rd w Om rfl,DY p.rd w Om,DY p.rd w Om,λj J=>Bk hk.rP w (lL ik 2 wa (cq J) rfl) rfl,λj s es=>?_⟩;have aj:=hk.states s (h0 es);refine⟨Bk hk.qR w (lL ft 2 o7 es rfl) rfl,DY hk.qR w (lL ft 2 o7 es rfl),λl r d=>?_⟩;have aD:=aj.rows r (h0 d);refine⟨Bk aj.rd w (lL gh 4 rh d rfl) rfl,DY aj.rd w (lL gh 4 rh d rfl),λm bb q bo=>?_⟩;obtain⟨x,ag,ah⟩:∃x,(fz r.b8[m])[q]?=some x/\nK x=false:=by
  match q,bo with
  |0,_=>exact⟨_,rfl,rfl⟩
  |1,_=>exact⟨_,rfl,rfl⟩
  |2,_=>exact⟨_,rfl,rfl⟩
  |3,_=>exact⟨_,rfl,rfl⟩
  |4,_=>exact⟨_,rfl,rfl⟩
  |5,_=>exact⟨_,rfl,rfl⟩
  |6,_=>exact⟨_,rfl,rfl⟩
 exact Bk aD.rd w (lL fz 7 ur (cq bb) ag) ah
def tF(a:Option Addr)(n:Nat):aq:=λh=>∀j,j<n->oi h a j
instance{n:Nat}:H8 (tF a n)where
 st:=λs v j J=>v.ot (s j J)
def Ys{n m:Nat}{e:TypeId}{aT:Nat}{xs:List Value}{D:List aq}(aj:∀x∈xs,nK x=false)(bb:m=n*aT):∀h,Sat (own (.slice a n c) e aT n xs::D) h->Sat (tF a m::D) h:=λh s=>
 Sat.head (λh ⟨o,w⟩ j J=>by
  have I:j<xs.length:=by rw[o.1,<-bb];exact J
  exact Bk (ij.own o) w (cq I) (aj _ (sz I))) (Bj h s)
end
section
variable{P:Program}{F w:World}{n:Nat}{ak:eA}{I:List aq}{bC t:TypeId}{x y:Operand}{a:Option Addr}{m k c aT:Nat}{E:Value}{M:List Value}(A:aq)
def mZ.get[r:tE A I](s:db F I w)(a2:∀h,A h->mZ h a m E):∃b bv cs e,a=some ⟨b,bv,none⟩/\w.heap[b]?=some (.cells cs e (0,0))/\cs[bv+m]?=some E:=by
 obtain⟨h1,h2,aH,_⟩:=r.get s.eI;obtain⟨b,bv,cs,e,bm,dk,g0⟩:=a2 _ h2;exact⟨b,bv,cs,e,bm,aH _ _ dk,g0⟩
def yV[i:ew P t][r:tE A I](h:cb ak x=some (el (.slice a k c) m))(a2:∀h,A h->mZ h a m E):bU P F n (.load t x) bC ak I E:=λf w d pos N g aj s=>by
 obtain⟨J,h1,h2⟩:=i.out;obtain⟨b,bv,cs,e,rfl,az,bm⟩:=mZ.get A s a2;have a2:w.cell? DZ=some E:=by simp[World.cell?,az,bm]
 simp only[execOp,aj.eval h];simp[el,p8,p9,Instr.loadAt,Instr.sureAddr,loadVar,Bh h1 h2,run_load,a2]
def tG{e:TypeId}{d6:IntKind}{j:Nat}[i:jy P t e aT][r:tE A I](h:cb ak x=some (.slice a k c))(ah:cb ak y=some (.int d6 (j:Int)))(J:j<k)(a2:∀h,A h->∃q E,mZ h a q E):bU P F n (.indexAddr t x y) bC ak I (el (.slice a k c) (j*aT)):=λf w d pos N g aj s=>by
 obtain⟨z,h1,h2,aH⟩:=i.out;obtain⟨bm,dk,_,_⟩:=r.get s.eI;obtain⟨_,_,b,bv,cs,e,rfl,_,_⟩:=a2 _ dk;simp only[execOp,aj.eval h,aj.eval ah];have bn:(0:Int)<=j/\(j:Int)<k:=ae;simp[Instr.indexAt,asIntOf,gC h1,ji h2,aH,J,el,p8,p9,Addr.add]
def Yt{cs:Array Value}{q:Nat}{o:Value}(aJ:cs[q]?=some o)(h1:nK o=false)(h2:nK E=false):p7 cs (cs.setIfInBounds q E):=λi x ag=>by
 by_cases e:q=i
 . subst e
   rw[aJ]at ag;cases ag;exact⟨E,by rw[Array.getElem?_setIfInBounds_self_of_lt (Array.getElem?_eq_some_iff.1 aJ).1],h2.trans h1.symm,λh=>by rw[h1]at h;cases h⟩
 . exact⟨x,by rw[Array.getElem?_setIfInBounds_ne e];exact ag,rfl,λ_=>rfl⟩
def Bl[i:ew P t][r:tE A I](h:cb ak x=some (el (.slice a k c) m))(ah:cb ak y=some E)(h1:E.oneCell'=true)(h2:nK E=false)(a2:∀h,A h->oi h a m):c6 P F n (.store t x y) bC ak I I:=λf w d pos N g aj s=>by
 obtain⟨z,aH,bm⟩:=i.size;obtain⟨W,cE,d8,f9⟩:=r.get s.eI;obtain⟨o,⟨b,bv,cs,e,rfl,em,aJ⟩,gY⟩:=a2 _ cE;have az:w.heap[b]?=_:=d8 _ _ em;have g6:w.cell? DZ=some o:=by simp[World.cell?,az,aJ]
 have a8:w.frozen? DZ=false:=by simp[World.frozen?,az]
 refine⟨w.setCell DZ E,?_,?_⟩
 . simp only[execOp,aj.eval h,aj.eval ah]
   simp[el,p8,p9,Instr.storeAt,Instr.sureAddr,storeVar,ji aH,bm,On h1,storeCells,Addr.add,run_store,h1,stored,g6,a8]
 . refine⟨s.os,s.tape,s.output,by have:=s.size;simpa[World.setCell]using this,?_⟩
   have:fE (w.setCell DZ E)=iR (fE w) b (.cells (cs.setIfInBounds (bv+m) E) e (0,0)):=by
    unfold World.setCell;rw[ty _ az];rfl
   rw[this];exact f9 _ _ _ _ em (Yt aJ gY h2)
def Yu:∀(M l:List Value) (m:Nat),(∀v∈M,nK v=false)->(∀j,j<M.length->∃o,l[m+j]?=some o/\nK o=false)->p7 l.toArray (jX l m M).toArray
 |[],l,m,_,_=>.rfl
 |
  v::M,l,m,h1,h2=>by
  obtain⟨o,aJ,aj⟩:=h2 0 fW;have cI:=Yt (cs:=l.toArray) (q:=m) GV aj (h1 v fW);have cd:=Yu M (l.set m v) (m+1) (λx ag=>h1 x (D0 _ ag)) λj J=>by
   obtain⟨o,aJ,aj⟩:=h2 (j+1) hW;exact⟨o,by rw[qD ae,show m+1+j=m+(j+1) by omega];exact aJ,aj⟩
  intro i x ag;obtain⟨y,aB,aU,bB⟩:=cI i x ag;obtain⟨w,c9,fX,r3⟩:=cd i y (by simpa using aB);exact⟨w,c9,fX.trans aU,λh=>by rw[r3 (aU.trans h),bB h]⟩
def Oo[i:jR P t aT][r:tE A I](h:cb ak x=some (el (.slice a k c) m))(ah:cb ak y=some yU)(h1:M.all Value.oneCell'=true)(h2:M.all (λv=>!nK v)=true)(E:M.length=aT)(bn:0<aT)(a2:∀h,A h->∀q,q<aT->oi h a (m+q)):c6 P F n (.store t x y) bC ak I I:=λf w d pos N g aj s=>by
 obtain⟨z,aH,bm⟩:=i.size;obtain⟨W,cE,d8,f9⟩:=r.get s.eI;obtain⟨o,⟨b,bv,cs,e,rfl,em,aJ⟩,_⟩:=a2 _ cE 0 bn;have az:w.heap[b]?=_:=d8 _ _ em;have aw:∀q,q<M.length->∃o,cs.toList[bv+m+q]?=some o/\nK o=false:=λq bo=>by
  obtain⟨o,⟨l,p,u,H,aB,j,aJ⟩,gY⟩:=a2 _ cE q ae;cases aB;rw[em]at j;cases j;exact⟨o,by rw[ny];simpa using aJ,gY⟩
 have K:bv+m+M.length<=cs.toList.length:=by
  obtain⟨o,aJ,_⟩:=aw (M.length -1) ae;have:=(dd.1 aJ).1;omega
 have gc:=run_storeCells_at P b (bv+m) e M 0 cs w az (by simpa using K) D1;rw[DO,<-r4 _ _ _ K]at gc;refine⟨w.setRow b (jX cs.toList (bv+m) M).toArray,?_,s.os,s.tape,s.output,by have:=s.size;simpa[World.setRow]using this,?_⟩
 . simp only[execOp,aj.eval h,aj.eval ah]
   simp[el,p8,p9,Instr.storeAt,Instr.sureAddr,storeVar,ji aH,bm,Value.cells,E];simp[gc]
 . have aU:fE (w.setRow b (jX cs.toList (bv+m) M).toArray)=iR (fE w) b (.cells (jX cs.toList (bv+m) M).toArray e (0,0)):=by
    unfold World.setRow;rw[ty _ az]
   rw[aU];exact f9 _ _ _ _ em (by simpa using Yu M cs.toList (bv+m) (λv V=>by simpa using pN.1 h2 v V) aw)
end
def Yv(K:List b1)(n:cy):qs tH n=qs K n:=by unfold qs;rw[Oq];rfl
def Yw(S:List fb)(n:cy):uD (S.map fN) n=uD S n:=by unfold uD;rw[Oq];rfl
def ap3(K:List b1)(S:List fb)(cX:List fw):oF (K.map cN) (S.map fN) cX=oF K S cX:=by
 funext j;have h:∀e b,r0 (K.map cN) (S.map fN) e b=r0 K S e b:=λe b=>by
  unfold r0 uC;rw[Yv,Yw]
 unfold oF;simp only[h]
def ap4(K:List b1)(S:List fb)(D:List Row):n2 (K.map cN) (S.map fN) (D.map iP)=n2 K S D:=by
 funext j;unfold n2;rw[fe];cases D[j]?with
 |none=>rfl
 |
  some r=>
  show k1 (uz (D.map iP) j (iP r)) r.b8.length (oF (K.map cN) (S.map fN) r.b8)=_;rw[ap3,show uz (D.map iP) j (iP r)=uz D j r by unfold uz;rw[<-Ia,Oq];rfl]
def ap5(K:List b1)(S:List fb):nu (K.map cN) (S.map fN)=nu K S:=by
 funext j;unfold nu;rw[fe];cases S[j]?with
 |none=>rfl
 |
  some s=>
  show k1 (wl (S.map fN) j (fN s)) (s.rows.map iP).length (n2 (K.map cN) (S.map fN) (s.rows.map iP))=_;rw[ap4,kG,show wl (S.map fN) j (fN s)=wl S j s by unfold wl;rw[<-Ia,Yw];simp[fN]]
def Yx(K:List b1):pd (K.map cN)=pd K:=by
 have h:pa tH=pa K:=by
  funext j;unfold pa;rw[fe];cases K[j]?with
  |none=>rfl
  |
   some k=>
   show k1 (r1 tH j (cN k)) (k.states.map fN).length (nu tH (k.states.map fN))=_;rw[ap5,kG,show r1 (K.map cN) j (cN k)=r1 K j k by
    have e:ia (cN k)=ia k:=by
     show(decide (8<(k.cases.length:Int))||decide (((k.states.map fN).length:Int)<1)||decide (8<((k.states.map fN).length:Int)))=_;rw[kG];rfl
    unfold r1;rw[<-Ia,Yv,e];rfl]
 unfold pd;rw[h,kG];unfold GH;rw[kG]
def Yy{K fq:List b1}(e:fq.map cN=K.map cN):pd fq=pd K:=by rw[<-Yx fq,e,Yx]
def ap6{K fq:List b1}(e:fq.map cN=K.map cN)(o:∀k∈K,kh k){k:b1}(hk:k∈fq):k.cases.length*24<=140737488351232/\k.states.length*40<=140737488351232/\∀s∈k.states,s.rows.length*56<=140737488351232/\∀r∈s.rows,r.b8.length*80<=140737488351232:=by
 obtain⟨fi,i8,fG⟩:=jS.1 (show cN k∈K.map cN from e▸jS.2 ⟨k,hk,rfl⟩);have g:=o fi i8;have aB:fi.cases=k.cases:=(congrArg b1.cases fG:(cN fi).cases=(cN k).cases);have aU:fi.states.map fN=k.states.map fN:=(congrArg b1.states fG:(cN fi).states=(cN k).states);refine⟨aB▸g.ri,by have h:=congrArg List.length aU;rw[kG,kG]at h;rw[<-h];exact g.lens,λs aj=>?_⟩;obtain⟨dY,g4,bB⟩:=jS.1 (show fN s∈fi.states.map fN from aU▸jS.2 ⟨s,aj,rfl⟩);have c9:dY.rows.map iP=s.rows.map iP:=(congrArg fb.rows bB:(fN dY).rows=(fN s).rows);refine⟨by have h:=congrArg List.length c9;rw[kG,kG]at h;rw[<-h];exact(g.states dY g4).len,λr aD=>?_⟩;obtain⟨L,a,fX⟩:=jS.1 (show iP r∈dY.rows.map iP from c9▸jS.2 ⟨r,aD,rfl⟩);exact(congrArg Row.b8 fX:(iP L).b8=(iP r).b8)▸((g.states dY g4).rows L a).len
end Go.Proofs.YtnnhpnccfnghdaaGreat.L
