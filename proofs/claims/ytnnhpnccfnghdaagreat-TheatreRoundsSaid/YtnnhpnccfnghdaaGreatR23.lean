import Derived.Test.YtnnhpnccfnghdaaGreatR22
set_option linter.all false
set_option maxRecDepth 8000
set_option maxHeartbeats 12000000
namespace Go.Proofs.YtnnhpnccfnghdaaGreat.L.bH
open Go.Proofs.YtnnhpnccfnghdaaGreat.L
open Go.L Go.L.Ring Go.L.dq Go.L.dR Go.L.Whl Go.L.dA Go.L.Lx Go.L.Pg
open Go.L.Led (dg du dT bs av e8)
open Go.L.Th (bt cW c9 bX dt bR bU ev bW ao most ek cZ dN fa)
attribute[local irreducible] G cE GE cY GT b0 df c4 di Exit.then Exit.inBlock
instance:tB aa 5 .u8:=N0
def pD(C:bt)(es:List cZ)(i:Nat):List Int:=(es.take i).foldl (Th.pA C) (List.replicate 8 0)
def alL{C:bt}{es:List cZ}:∀{i:Nat},(pD C es i).length=8:=by
 intro i;unfold pD
 suffices h:∀(l:List cZ) (d:List Int),d.length=8->(l.foldl (Th.pA C) d).length=8 from h _ _ rfl
 intro l;induction l with
 |nil=>exact λd h=>h
 |cons e l K=>exact λd h=>K _ (by rw[Th.akg];exact h)
def alM{C:bt}{es:List cZ}{i:Nat}{e:cZ}(h:es[i]?=some e):pD C es (i+1)=Th.pA C (pD C es i) e:=by
 unfold pD;rw[List.take_add_one,h];simp
def aBX{C:bt}{es:List cZ}:pD C es es.length=es.foldl (Th.pA C) (List.replicate 8 0):=by
 unfold pD;rw[nw]
def LL{C:bt}{P:List b2}{n:Nat}{s:ao}(r:dN C P n s)(aM:n<=Th.gM):s.trace.length<=most:=by
 exact af0
def alN(bL:Option Addr)(pc:Nat)(K:List b2)(ea:Option Addr)(cA:Nat)(es:List cZ)(r rd:Int)(a2:aq)(c:kU)(t:ad aa 23 [.agg (pY c bL pc K ea cA es 0).toArray] [a2] (λu H=>u=.pointer none/\H=[a2])):ad aa 6 adi [a2] QN:=by
 refine aw Tryz.func6 λF D=>?_;refine bb ?_;refine wn λU=>?_;refine Kb ?_;refine cv ?_;refine hU [1,3] [1] acP [ab U 57 (pY c bL pc K ea cA es 0)] mixed gB ?_;refine bb ?_;refine aT (t) ?_;refine aG ?_;refine aT (t) ?_;exact Rs
def aBY(C:bt)(bL:Option Addr)(pc:Nat)(K:List b2)(ea:Option Addr)(cA:Nat)(es:List cZ)(r rd:Int)(a2:aq)(n:Nat)(aM:rd.tmod 60=(n:Int))(aD1:n<60)(aE:0<=rd/\rd<=255)(J:C.ok)(o:∀h,a2 h->hT h bL pc K)(I:∀h,a2 h->iD h ea cA es.length (es.flatMap gv))(Y:eO (es.length*48))(b:∀e∈es,eO e.tag.length)(cO:qj K=none):ad aa 6 [.agg (pY (l4 C) bL pc K ea cA es r).toArray,.int .u8 rd] [a2] QN:=by
 refine aw Tryz.func6 λF D=>?_;have cT:=LI (Th.Fq cO).2.2.2;haveI:gl (.slice ea es.length cA) a2 es.length (es.flatMap gv):=⟨λh=>(I _ h).1⟩;obtain⟨E,T,g⟩:=Th.akn J cT es 0;have hu:Th.gM=10000000:=rfl;have av:(es.take 400).length=min 400 es.length:=n0;have aDj:=Y;unfold eO at Y;have ut:=J.bQ;have aD2:(l4 C).a1=(C.a1:Int):=rfl;have aD3:(l4 C).cB=(C.cB:Int):=rfl;have a:=J.bu;have amj:=Th.awY T J.bQ;obtain⟨iQ,Rd⟩:∃d,d=pD C (es.take 400) (es.take 400).length:=⟨_,rfl⟩;rw[<-aBX,<-Rd]at amj;have he:iQ.length=8:=by rw[Rd];exact alL
 obtain⟨y,q,ag,B⟩:=Th.Li zo J cT n 6000 E.1 ae g;have m0:=LL B ae;have t:=alH C bL pc K ea cA es 0 a2 J o I aDj b cO E T;have aDk:Th.xN C ni iQ n y q 0 E.1:=⟨g,amj,ag,eX _⟩;refine bb ?_;refine wn λU=>?_;refine Kb ?_;refine cv ?_;refine il [1,3] [1] [0,9,6,14,16,20] [ab U 57 PO] ?_;refine agv ?_;intro h1 h2;refine bK ?_;refine aB rfl (o6 rd (je ae) rfl) ?_;refine aB rfl (r0 (n:Int) aM rfl rfl bJ) ?_;refine bB ?_;refine iX rfl (Gl (k:=8) rfl rfl bJ bJ) ?_;rintro _ _ ⟨N,S,rfl,rfl⟩;rw[show iH [af 0] 8=(pD C (es.take 400) 0).map af from rfl];refine c8 ?_;refine gG (bv:=Nat) (λi=>i<=(es.take 400).length) (λi=>((9,af (i:Int))::abN)) (λi=>own (.slice N 8 S) 3 1 8 ((pD C (es.take 400) i).map af)::kF C ni h1 E.1::kF C ni h2 E.1::ab U 57 PO::a2::D) (λi=>(es.take 400).length -i) 0 (eX _) dy (au) ?_;intro i ak;replace ak:i<=(es.take 400).length:=ak;refine cv ?_;refine ls (d:=46) 3 (.bool (decide ((i:Int)<(es.length:Int))&&decide ((i:Int)<400))) ?_ (λamk=>?_)
 rotate_left
 . refine hx rfl rfl (λW=>?_) (λW=>?_) rfl
   . have f:=bN W
     refine bK ?_;exact h4 amk
   . have f:=bN W
     simp only[jD];refine bb ?_;exact h4 amk
 refine bb ?_;refine cg (λM=>?_) (λM=>?_)
 . obtain⟨e,V⟩:∃e,(es.take 400)[i]?=some e:=⟨_,cz aac⟩
   have z:es[i]?=some e:=by rw[Sq]at V;split at V;exact V;cases V
   have dV:i<es.length:=(dc.1 z).1;have Ok:i<(es.take 400).length:=(dc.1 V).1;have O:(pD C (es.take 400) i).length=8:=alL;refine aeh ?_;refine wn λc2=>?_;refine cv ?_;refine ls (d:=69) 12 (.bool ((decide (e.kind=1)&&decide (0<=e.a))&&decide (e.a<(l4 C).a1))) ?_ (λSo=>?_)
   rotate_left
   . refine hx rfl rfl (λL=>?_) (λL=>?_) rfl
     . have X:=bN L
       refine cq ?_;refine hx rfl rfl (λfH=>?_) (λfH=>?_) rfl
       . have m2:=bN fH
         refine dC ?_;exact h4 So
       . have m2:=bN fH
         simp only[jD];refine bi ?_;exact h4 So
     . have X:=bN L
       simp only[jD];refine c0 ?_;exact h4 So
   refine bb ?_;refine cg (λw=>?_) (λw=>?_)
   . obtain⟨⟨fS,cd⟩,iR⟩:(e.kind=1/\0<=e.a)/\e.a<(l4 C).a1:=by have p:=w;simpa only[ii,kN]using p
     have Z:Th.pA C (pD C (es.take 400) i) e=(pD C (es.take 400) i).set e.a.toNat e.n:=bd ⟨fS,cd,iR⟩;refine bi ?_;refine aB rfl (fI (j:=e.a.toNat) rfl (by rw[Int.toNat_of_nonneg cd];rfl) (show e.a.toNat<8 by omega)) ?_;refine kb (rU rfl rfl rfl (by rw[oQ,O];omega)) ?_;rw[adR,<-Z,<-alM V];exact aeT
   . have Z:Th.pA C (pD C (es.take 400) i) e=pD C (es.take 400) i:=a8 (λp=>by
      have O:=w;rw[kM p.1,kM p.2.1,kM (show e.a<(l4 C).a1 from p.2.2)]at O;cases O)
     rw[<-Z,<-alM V];exact aeT
 . obtain rfl:i=(es.take 400).length:=by
    have p:=M;exact adG
   rw[<-Rd];refine cv ?_;refine ci rfl (b1 rfl (Uo (h:=h1) (k:=(n:Int)) J cT g (show n=_ by omega) ae ag) bF) ?_;refine Rw ?_;refine gG (bv:=Nat×ao) (λE=>Th.xN C ni iQ n y q E.1 E.2) (λE=>((12,af (E.1:Int))::abk)) PN (λE=>n -E.1) (0,E.1) (aDk) dy (au) ?_;rintro⟨i,s⟩ bC;replace bC:Th.xN C ni iQ n y q i s:=bC;have ak:=bC.ak;dsimp only;refine cq ?_;refine ls (d:=86) 4 (.bool (decide ((i:Int)<(n:Int))&&!Th.quiet C s)) ?_ (λaml=>?_)
   rotate_left
   . refine hx rfl rfl (λl=>?_) (λl=>?_) rfl
     . have n7:=bN l
       refine bb ?_;refine aT (LG (h:=h2) J bC.r) ?_;refine b6 ?_;exact h4 aml
     . have n7:=bN l
       refine tg ?_;exact h4 aml
   refine bb ?_;refine cg (λm=>?_) (λm=>?_)
   . obtain⟨dV,bm⟩:i<n/\Th.quiet C s=false:=by have p:=m;simp only[ii,kN,zp]at p;exact⟨by omega,p.2⟩
     obtain⟨s1,bP,aDl,fS,cd⟩:=bC.go J cT ae dV bm;refine c0 ?_;refine gG (bv:=Nat×ao) (λE=>Th.qX C ni iQ (Th.Ct iQ) (Th.Lq C ni) C.a1 (6000+13*i) s1 E.1 E.2) (λE=>((13,af (E.1:Int))::abj)) PN (λE=>C.a1 -E.1) (0,s) (aDl) dy (au) ?_;rintro⟨k,bZ⟩ cc;replace cc:Th.qX C ni iQ (Th.Ct iQ) (Th.Lq C ni) C.a1 (6000+13*i) s1 k bZ:=cc;have hk:=cc.hk;dsimp only;refine c8 ?_;refine cg (λv=>?_) (λv=>?_)
     . obtain⟨i0,aO,aL,ST⟩:=cc.next J cT (show k<C.a1 by omega) ae
       refine cv ?_;refine aB rfl (fI rfl rfl (show k<8 by omega)) ?_;refine aB rfl (gz rfl (Aq (d:=0) (show k<iQ.length by omega))) ?_;refine aB rfl (kE (cs:=gv (Th.Ct iQ k)) rfl rfl) ?_;refine ci rfl (b1 rfl (CE (h:=h2) (e:=Th.Ct iQ k) J cT cc.r ae (zY [] y5) aL) bF) ?_;refine afg ?_;refine fD (k+1,i0) ST (show C.a1 -(k+1)<C.a1 -k by omega) dy (au)
     . obtain rfl:k=C.a1:=by omega
       obtain rfl:s1=bZ:=cc.fin.symm;have aDm:=fS cc;refine dC ?_;refine gG (bv:=Nat×ao) (λE=>Th.qX C ni iQ Th.Cu (Th.Ft C ni) C.cB (6000+13*i+C.a1) bP E.1 E.2) (λE=>((14,af (E.1:Int))::abj)) PN (λE=>C.cB -E.1) (0,s1) (aDm) dy (au) ?_;rintro⟨k,bZ⟩ cc;replace cc:Th.qX C ni iQ Th.Cu (Th.Ft C ni) C.cB (6000+13*i+C.a1) bP k bZ:=cc;have hk:=cc.hk;dsimp only;refine c8 ?_;refine cg (λR=>?_) (λR=>?_)
       . obtain⟨i0,aO,aL,ST⟩:=cc.next J cT (show k<C.cB by omega) ae
         refine cq ?_;refine aB rfl (kE (cs:=gv (Th.Cu k)) rfl rfl) ?_;refine ci rfl (b1 rfl (CE (h:=h2) (e:=Th.Cu k) J cT cc.r ae (zY [] y5) aL) bF) ?_;refine afg ?_;refine fD (k+1,i0) ST (show C.cB -(k+1)<C.cB -k by omega) dy (au)
       . obtain rfl:k=C.cB:=by omega
         obtain rfl:bP=bZ:=cc.fin.symm;obtain⟨md,aU,aDn,aDo⟩:=cd cc;refine cq ?_;refine aB rfl (kE (cs:=gv Th.Lp) rfl rfl) ?_;refine ci rfl (b1 rfl (CE (h:=h2) (e:=Th.Lp) J cT cc.r ae (zY [] y5) aDn) bF) ?_;refine afh ?_;refine fD (i+1,md) aDo (show n -(i+1)<n -i by omega) dy (au)
   . have p:i=n\/Th.quiet C s=true:=by
      have p:=m;simp only[arQ,sE,Bool.not_eq_false']at p;rcases p with p|p
      . exact .inl ae
      . exact .inr p
     obtain⟨pL,aDp⟩:=bC.fin p;obtain rfl:y=s:=pL.symm;refine bQ ?_;refine aT (LG (h:=h2) J B) ?_;refine aG ?_;refine aB rfl (fC (c:=true) (by rw[aDp];simp) (aif rfl rfl)) ?_;refine bK ?_;refine ci rfl (b1 rfl (xU (h:=h1) B ae) bF) ?_;rintro _ D ⟨_,⟨cr,c1,rfl,rfl⟩,rfl⟩;refine o5 ?_;refine ci rfl (b1 rfl (xU (h:=h2) B ae) bF) ?_;rintro _ D ⟨_,⟨cD,bn,rfl,rfl⟩,rfl⟩;refine fm ?_;refine aG ?_;refine aT (Us y.trace cr cD c1 bn m0) ?_;refine bi ?_;exact aX ⟨rfl,rfl⟩
def aqQ(c:kU)(bL:Option Addr)(pc:Nat)(K:List b2)(ea:Option Addr)(cA:Nat)(es:List cZ)(r rd:Int)(a2:aq)(aE:0<=rd/\rd<=255)(o:∀h,a2 h->hT h bL pc K)(I:∀h,a2 h->iD h ea cA es.length (es.flatMap gv))(Y:eO (es.length*48))(b:∀e∈es,eO e.tag.length):ad aa 6 adi [a2] QN:=by
 cases a6:c.okB with
 |false=>exact alN bL pc K ea cA es r rd a2 c (Ut bL pc K ea cA es 0 a2 c a6)
 |
  true=>
  cases ba:qj K with
  |some f=>exact alN bL pc K ea cA es r rd a2 c (Uu bL pc K ea cA es 0 a2 c a6 o f ba)
  |
   none=>
   obtain⟨e,J⟩:=kU.amf a6;rw[<-e];obtain⟨m,rfl⟩:=Int.eq_ofNat_of_zero_le aE.1;exact aBY _ bL pc K ea cA es r m a2 (m%60) rfl (wS _ bJ) aE J o I Y b ba
end Go.Proofs.YtnnhpnccfnghdaaGreat.L.bH
