import Derived.Test.YtnnhpnccfnghdaaGreatR14
set_option linter.all false
set_option maxHeartbeats 1600000
namespace Go.Proofs.YtnnhpnccfnghdaaGreat.L.bH
open Go.Proofs.YtnnhpnccfnghdaaGreat.L
open Go.L Go.L.Ring Go.L.dq Go.L.dR Go.L.Whl Go.L.dA Go.L.Lx Go.L.Pg
open Go.L.Led (dg du dT bs av e8)
open Go.L.Th (bt cW c9 bX dt bR bU ev bW ao most dU cQ ff eD dM In cV c6 eE bx bM eF eG bk cG dw go bq Good eb eH dQ acc Inv eh er e3 busy cZ ek dN fa)
attribute[local irreducible] G cE GE cY GT b0 df c4 di Exit.then Exit.inBlock
section
variable{X:cN}{ap ai:List Nat}{l:List bW}{j:Nat}{t:bW}
theorem xg(h:l[j]?=some t)(bO:Nat){v:Value}(Y:∀x y,[ptr X.h 0,af (jT X j),x,y,bw t.draw,.bool t.ij][bO]?=some v):h7 (X.bp j) bO (ax (de X ap ai l)) v:=by
 have e:(de X ap ai l)[j]?=some (hF X ap ai j t):=by simp[sO,h]
 haveI:h7 (X.bp j) bO (hF X ap ai j t) v:=⟨fun{g} s=>by
  unfold hF at s;cases aK:t.on with
  |none=>rw[aK]at s;exact⟨_,_,_,s,Y _ _⟩
  |
   some q=>
   obtain⟨o,k⟩:=q;rw[aK]at s;obtain⟨⟨p,f,c⟩,_,aD⟩:=hd (Sat.one s);obtain⟨h1,h2,_,rfl,aW,_⟩:=aD;exact⟨_,_,_,join_some aW,Y _ _⟩⟩
 exact KR e
theorem gf(h:l[j]?=some t):h7 (X.bp j) 0 (ax BF) (ptr X.h 0):=xg h 0 λ_ _=>rfl
theorem sH(h:l[j]?=some t):h7 (X.bp j) 1 (ax BF) (af (jT X j)):=xg h 1 λ_ _=>rfl
def Kw{a:Nat}(aW:1<=a/\a<=X.C.aZ):((List.range X.C.aZ).map λi=>ptr (X.bo (i+1)).bo 0)[(a -1)*1]?=some (ptr (X.bo a).bo 0):=by
 obtain⟨h1,h2⟩:=aW;simp only[uu,fs,u4 (show a -1<X.C.aZ by omega),nJ,show a -1+1=a by omega]
end
section
variable(X:cN)(z:dn)(s:ao)(j a:Nat)(t:bW)
def B9(n:c9)(I:Nat)(M:List Value)(k:Th.K)(t:bW)(aW:1<=a/\a<=X.C.aZ)(bf:X.C.aZ<=16)(aM:s.notes.length<most)(N:s.az[j]?=some t)(R:t.on=none):ad aa 305 [ptr (X.bp j) 0,af a,.agg (iz n).toArray,bj I M] (a7 X z.ap z.ai j 0 k I M::aci) (λu H=>u=.tuple #[]/\∃aI aQ,H=[cL X Ev {s with notes:=s.notes++[n]},fl aI aQ (s.notes++[n]),ax (dZ X),fu X,ax (de X z.ap z.ai (s.az.set j {t with on:=some (.post a (Th.xH s.notes.length),.lh a k)}))]):=by
 refine aw Tryz.func305 λF D=>?_;have e:s.notes.length<1099511627776:=aM;haveI:=gf (X:=X) (ap:=z.ap) (ai:=z.ai) N;refine KT ?_;intro aO aU aS bY;refine cu [12,13] [111,1,202,2,201] (ab aO 106 eo::ab aS 261 (iz n)::qy) ?_;refine KT ?_;intro c a22 b;refine il [21,22,23] [22] abz [ab aO 106 eo,ab aU 3 [af a],ab X.h 108 ((qE X z s).set (0+20) (.slice a22 (s.notes.length+1) b)),ax lJ,fu X] ?_;refine agd ?_;refine fe ?_ ?_
 . refine br (aiR X aW (s.notes.length:Int)) ?_
   rintro _ _ ⟨p,rfl,rfl⟩;refine aiU ?_;intro Y;refine aB rfl (jt Tryz.underlying246 rfl rfl) ?_;refine aiV ?_;refine adX ?_;exact adr
 . refine wn λY=>?_
   refine aG ?_;refine br (aiR X aW (s.notes.length:Int)) ?_;refine lZ ?_;intro p;refine EM ?_;refine adX ?_;exact adr
def avJ(aW:1<=a/\a<=X.C.aZ)(aA:(X.C.box a).b<=65536)(bf:X.C.aZ<=16)(aM:s.notes.length<most)(N:s.az[j]?=some t)(R:t.on=none):ad aa 95 [ptr (X.bp j) 0,af a] aci (λu H=>u=.tuple #[]/\∃aI aQ,H=[cL X Ev {s with notes:=s.notes++Eb},fl aI aQ (s.notes++Eb),ax (dZ X),fu X,ax (de X z.ap z.ai (s.az.set j aa9))]):=by
 refine aw Tryz.func95 λF D=>?_;have e:s.notes.length<1099511627776:=aM;haveI:=gf (X:=X) (ap:=z.ap) (ai:=z.ai) N;refine KT ?_;intro U Z;refine cu [12,13] [111,1,202,2,201] (ab U 106 eo::qy) ?_;refine KT ?_;intro g d f;refine il [21,22,23] [22] abz [ab U 106 eo,ab Z 3 [af a],ab X.h 108 ((qE X z s).set (0+20) (.slice d (s.notes.length+1) f)),ax lJ,fu X] ?_;refine agd ?_;refine fe ?_ ?_
 . refine br (aiS X aW aA (s.notes.length:Int)) ?_
   rintro _ _ ⟨p,rfl,rfl⟩;refine aiU ?_;intro aO;refine aB rfl (jt Tryz.underlying246 rfl rfl) ?_;refine aiV ?_;refine adW ?_;exact adq
 . refine wn λaO=>?_
   refine aG ?_;refine br (aiS X aW aA (s.notes.length:Int)) ?_;refine lZ ?_;intro p;refine EM ?_;refine adW ?_;exact adq
end
section
variable{ap ai:List Nat}{v:Int}{lets:List cW}{id:Int}{q:Nat}{l:cW}
def avK(l:List Nat):∀(o i q:Nat),l[i]?=some q->dJ (l.mapIdx λk q=>(((k+o+1:Nat):Int),ptr q 0)) ((i+o+1:Nat):Int)=some (ptr q 0):=by
 induction l with
 |nil=>intro o i q h;cases h
 |
  cons x l K=>
  intro o i q h;rw[SR];cases i with
  |zero=>simp only[YT,Option.some.injEq]at h;subst h;simp[dJ]
  |
   succ i=>
   simp only[H0]at h;simp only[dJ];rw[a8 ae];have:=K (o+1) i q h;rw[show((i+(o+1)+1:Nat):Int)=((i+1+o+1:Nat):Int) by omega]at this;rw[<-this]
   congr 1
   apply ar4.2;intro k hk;simp only[Prod.mk.injEq,and_true];omega
def zJ{i q:Nat}(h:ap[i]?=some q):dJ (cf ap) ((i+1:Nat):Int)=some (ptr q 0):=avK ap 0 i q h
def avL{x:Value}(h:dJ (cf ap) v=some x):1<=v/\v<=ap.length:=by
 have key:∀(m:List (Int×Value)),dJ m v=some x->(v,x)∈m:=by
  intro m
  induction m with
  |nil=>intro h;cases h
  |
   cons p m K=>
   intro h;simp only[dJ]at h;split at h
   . rename_i e;cases h;rw[e];exact O3
   . exact Ie _ (K h)
 obtain⟨i,ak,e⟩:=List.mem_mapIdx.1 (key _ h);simp only[Prod.mk.injEq]at e;omega
def KU(h:¬(1<=v/\v<=ap.length)):dJ (cf ap) v=none:=by
 cases e:dJ (cf ap) v with
 |none=>rfl
 |
  some x=>
  have bf:=avL e;exfalso;exact h bf
structure hG(ai:List Nat)(lets:List cW)(id:Int)(q:Nat)(l:cW):Prop where
 h1:1<=id
 ai:ai[(id -1).toNat]?=some q
 av:lets[(id -1).toNat]?=some l
theorem hG.get(h:hG ai lets id q l):(dJ (cf ai) id)=some (ptr q 0):=by
 have:=zJ h.ai;rwa[show(((id -1).toNat+1:Nat):Int)=id by have:=h.h1;omega]at this
theorem hG.rd{bO:Nat}{l:cW}{v:Value}(h:hG ai lets id q l)(Y:(py l)[bO]?=some v):h7 q bO (ax (gj ai lets)) v:=by
 have e:(gj ai lets)[(id -1).toNat]?=some (Eg q l):=by
  simp only[gj,sO,h.av,nJ,ix,h.ai,KS]
 haveI:h7 q bO (Eg q l) v:=⟨fun{g} t=>⟨_,_,_,t,Y⟩⟩;exact KR e
theorem hG.of{X:cN}{z:dn}{s:ao}(K:bE X z s){id:Int}{l:cW}(h:Th.jX s id=some l):∃q,hG z.ai s.lets id q l:=by
 unfold Th.jX at h;split at h
 . rename_i h1
   have dV:=(dc.1 h).1;exact⟨_,h1,cz (by rw[K.ai];exact dV),h⟩
 . cases h
theorem tL(X:cN)(z:dn)(s:ao)(id why:Int)(q:Nat)(l:cW)(K:hG z.ai s.lets id q l)(O:1<=why/\why<=5)(aE:X.C.dG<=64)(aL:s.dead.length<most)(av:s.trace.length<most)(aM:s.bc.length<=most):ad aa 150 [ptr X.h 0,bw id,af why] [cL X z s,b3 X.e6 .u64 (cf z.ai),ax k9,Lg.ds X.ld (s.bc),ez X.da X.C.dG (s.dead),dP z.cI z.cJ (s.trace)] (λu H=>u=.tuple #[]/\∃a c,H=[cL X Eh {s with bc:=dg s.bc id 8,dead:=s.dead++[(id,l.to,why)],trace:=s.trace++acI},b3 X.e6 .u64 (cf z.ai),ax k9,Lg.ds X.ld (dg s.bc id 8),ez X.da X.C.dG (s.dead++[(id,l.to,why)]),dP a c (s.trace++acI)]):=by
 refine aw Tryz.func150 λF D=>?_;haveI:=K.rd (bO:=1) (v:=af l.to) rfl;have f:=xq aL;refine cq ?_;refine aB rfl QZ ?_;refine fr ?_;refine aT (Lg.aq1 X.ld s.bc id aM) ?_;refine c0 ?_;refine aT (au6 X.da X.C.dG s.dead id l.to why aE O f) ?_;refine bQ ?_;refine br (l6 X z {s with bc:=dg s.bc id 8,dead:=s.dead++[(id,l.to,why)]} acJ av) ?_;rintro _ _ ⟨rfl,a,c,rfl⟩;refine et ?_;refine bb ?_;exact aX ⟨rfl,a,c,rfl⟩
end
def ct(X:cN)(x:Option ao)(u:Value)(H:List aq):Prop:=u=.tuple #[]/\∃cj aD,x=some aD/\bE X cj aD/\H=bl X cj aD
structure hr(X:cN)(j:Nat)(z:dn)(s:ao)(k:Th.K)(I:Nat)(M:List Value)(x:Option ao):Prop where
 iT:e0 aa I
 spec:ad aa I M (a7 X z.ap z.ai j 0 k I M::bl X z s) (ct X x)
theorem E3{P:Program}{f:FuncId}{args:List Value}{X:cN}{Q:Nat->aq}(h:ad P f args acK (λu H=>∃p,u=ptr p 0/\H=(Q p::acK))):
 ad P f args [fA X] (λu H=>∃p,u=ptr p 0/\H=[Q p,fA X]):=λF D w s=>by
 have bP:=s.imp λg t=>by obtain⟨_,_,dk⟩:=hd t;exact dk
 refine(h F _ w bP).mono ?_;rintro _ _ ⟨v,H,rfl,⟨p,rfl,rfl⟩,bZ⟩;exact⟨_,_,rfl,⟨p,rfl,rfl⟩,bZ.imp λg t=>Sat.tail (λg t=>cF () trivial (λg t=>t) g t) t⟩
def agP(X:cN)(J:X.C.ok)(j:Nat)(v:Int):ad aa 218 [ptr X.cX.c 0,af (jT X j),bw v] [fA X] (λu H=>∃p,u=ptr p 0/\H=[c3 X p (.fx (wB X.C.bA (Th.sV X.C j) v)),fA X]):=by
 by_cases N:j<X.C.a1
 . have ay:jT X j=j:=bd N
   have aV:Th.sV X.C j=some j:=bd N;rw[ay,aV];exact E3 (apx X.cX X.C.bA j N v)
 . have ay:jT X j=-1:=a8 N
   have aV:Th.sV X.C j=none:=a8 N;rw[ay,aV];exact E3 (apy X.cX X.C.bA (by have:=J.bQ;show 2+X.C.a1<=65536;omega) v)
def agQ{X:cN}{ap ai:List Nat}{j p f:Nat}{c:List Value}{k:Th.K}(h:Th.c6 k):∀D h,Sat ([a7 X ap ai j 0 k f c]++D) h->Sat (a7 X ap ai j p k f c::D) h:=λD g s=>by rw[avv (S:=0) h];exact s
section
variable(X:cN)(J:X.C.ok)(x y:Nat)(ah:1<=x/\x<=X.C.aZ)(ag:1<=y/\y<=X.C.aZ)
theorem SS(J:X.C.ok):X.C.bG<=65536:=by
 have:=J.bQ;have:=J.hg;have:=J.d64;have:=J.i64;show 2+(X.C.a1+(2+2*X.C.aZ)+X.C.a1*(2+X.C.eI))+(3+2*X.C.iN)<=65536;have:X.C.a1*(2+X.C.eI)<=8*66:=qq ae ae;omega
include J ah ag
theorem avM:ad aa 391 [ptr X.bG 0,af x,af y] Q0 (λu H=>∃p,u=ptr p 0/\H=[c3 X p (.hV (nE 0 Jt)),eC X.bG X.m X.C.bG X.C.aZ]):=apn _ _ _ _ _ _ J.hg (SS X J) ah ag
theorem avN:ad aa 349 [ptr X.bG 0,af x,af y] Q0 (λu H=>∃p,u=ptr p 0/\H=[c3 X p (.hV (nE 2 Jt)),eC X.bG X.m X.C.bG X.C.aZ]):=apo _ _ _ _ _ _ J.hg (SS X J) ah ag
theorem aiW:ad aa 429 [ptr X.bG 0,af x,af y] Q0 (λu H=>∃p,u=ptr p 0/\H=[c3 X p (.hV (nE 4 Jt)),eC X.bG X.m X.C.bG X.C.aZ]):=app _ _ _ _ _ _ J.hg (SS X J) ah ag
end
section
variable(X:cN)(z:dn)(s:ao)(j:Nat)(t:bW)(c1 a bn q:Nat)(l:cW)(I:Nat)(M:List Value)(k:Th.K)
def Ky(c:Nat)(d:Int):ad aa 212 [ptr X.m 0,af c,bw d] [] (λu H=>∃p,u=ptr p 0/\H=[c3 X p (.add c d)]):=avk X.m c d
def avO(x y I:Nat)(M:List Value)(k:Th.K)(J:X.C.ok)(ah:1<=x/\x<=X.C.aZ)(ag:1<=y/\y<=X.C.aZ)(N:s.az[j]?=some t)(R:t.on=none):ad aa 395 [ptr (X.bp j) 0,af x,af y,bj I M] [a7 X z.ap z.ai j 0 k I M,cL X z s,eC X.bG X.m X.C.bG X.C.aZ,ax lJ] (aH eu [cL X z s,eC X.bG X.m X.C.bG X.C.aZ,ax (de X z.ap z.ai (s.az.set j {t with on:=some (.hV (nE 4 Jt),.mK x y k)}))]):=by
 refine aw Tryz.func395 λF D=>?_;haveI:=gf (X:=X) (ap:=z.ap) (ai:=z.ai) N;refine xn ?_;intro aO aU aS bY;refine b6 ?_;refine il [9,10,11] [10] I3 (ab aO 106 eo::ab aU 3 [af x]::ab aS 3 [af y]::qy) ?_;refine cv ?_;refine fe ?_ ?_
 . refine br (aiW X J x y ah ag) ?_
   refine pr ?_;intro p;refine wn λY=>?_;exact afK
 . refine wn λY=>?_
   refine aG ?_;refine br (aiW X J x y ah ag) ?_;refine lZ ?_;intro p;exact afK
def avP(N:s.az[j]?=some t)(R:t.on=none):ad aa 163 [ptr (X.bp j) 0,.agg (py l).toArray,.bool false,bj 164 [ptr c1 0,ptr bn 0]] (ab c1 106 eo::ab bn 1 [bj I M]::I2) abD:=by
 refine aw Tryz.func163 λF D=>?_;haveI:=gf (X:=X) (ap:=z.ap) (ai:=z.ai) N;refine agy ?_;intro aU aS bY Y;refine fe ?_ ?_
 . refine agi ?_
   intro p co;exact aep
 . refine agh ?_
   intro co p;exact aep
def avQ(b9 d5 a q:Nat)(l:cW)(e:fv)(I:Nat)(M:List Value)(k:Th.K)(bm:z.ap[a -1]?=some q)(N:s.az[j]?=some t)(R:t.on=none):ad aa 163 [ptr (X.bp j) 0,.agg (py l).toArray,.bool true,bj 344 [ptr c1 0,ptr bn 0,ptr b9 0,ptr d5 0]] (ab c1 106 eo::ab bn 110 [ptr q 0]::ab b9 87 (fO e)::ab d5 1 [bj I M]::I2) (aH eu [cL X z s,ax (de X z.ap z.ai (s.az.set j {t with on:=some (.add 0 1,.gv a l e k)}))]):=by
 refine aw Tryz.func163 λF D=>?_;haveI:=gf (X:=X) (ap:=z.ap) (ai:=z.ai) N;refine agy ?_;intro aU aS bY Y;refine fe ?_ ?_
 . refine agi ?_
   intro p co;exact aet
 . refine agh ?_
   intro co p;exact aet
def avR(N:s.az[j]?=some t)(R:t.on=none):ad aa 93 [ptr (X.bp j) 0,.agg (py l).toArray,bj I M] I2 abD:=by
 refine aw Tryz.func93 λF D=>?_;refine sG ?_;intro Z aO aU;refine bi ?_;refine aT (avP X z s j t Z aU l I M k N R) ?_;exact pT
def avS(slot:Nat)(kind:cC)(I:Nat)(M:List Value)(k:Th.K)(bm:z.ap[a -1]?=some q)(N:s.az[j]?=some t)(R:t.on=none):ad aa 343 [ptr (X.bp j) 0,ptr q 0,af slot,S kind,bj I M] I2 (aH eu [cL X z s,ax (de X z.ap z.ai (s.az.set j acg))]):=by
 refine aw Tryz.func343 λF D=>?_;haveI:=gf (X:=X) (ap:=z.ap) (ai:=z.ai) N;refine bb ?_;refine wn λaS=>?_;refine wn λbY=>?_;refine wn λY=>?_;refine wn λco=>?_;refine bQ ?_;refine wn λc2=>?_;refine bK ?_;refine il [8,9,10] [9] wl [ab c2 32 [ptr X.h 0],cL X z s] ?_;refine bQ ?_;refine fe ?_ ?_
 . refine br (Ky X 1 1) ?_
   refine pr ?_;intro p;refine wn λb=>?_;exact afJ
 . refine wn λb=>?_
   refine aG ?_;refine br (Ky X 1 1) ?_;refine lZ ?_;intro p;exact afJ
end
section
variable(X:cN)(z:dn)(w:fX)(s:ao)(j:Nat)(t:bW)(a q:Nat)(id:Int)
theorem SU{P:Program}{f:FuncId}{args:List Value}{X:cN}{l:fX}{Q:Nat->aq}(h:ad P f args [Ck.gm X.dv X.C.dH] (λu H=>∃p,u=ptr p 0/\H=[Q p,Ck.gm X.dv X.C.dH])):
 ad P f args [fw X l] (λu H=>∃p,u=ptr p 0/\H=[Q p,fw X l]):=λF D w s=>by
 have bP:dm F ([Ck.gm X.dv X.C.dH]++(gb X.dv.r X.m (X.C.dH.b+1) X.C.dH.n::fJ X.dv.wp l::D)) w:=s.imp λg t=>by obtain⟨_,_,dk⟩:=hd t;exact dk
 refine(h F _ w bP).mono ?_;rintro _ _ ⟨v,H,rfl,⟨p,rfl,rfl⟩,bZ⟩;exact⟨_,_,rfl,⟨p,rfl,rfl⟩,bZ.imp λg t=>Sat.tail (λg t=>cF () trivial (λg t=>t) g t) t⟩
theorem aiX(d:Int)(h:0<=id):ad aa 388 [ptr X.dv.c 0,bw id,af d] [fw X w] (λu H=>∃p,u=ptr p 0/\H=[c3 X p (.eS (r1 id d)),fw X w]):=SU (Ck.anV _ _ _ _ h)
theorem avT(h:0<=id):ad aa 347 [ptr X.dv.c 0,bw id] [fw X w] (λu H=>∃p,u=ptr p 0/\H=[c3 X p (.eS (r2 id)),fw X w]):=SU (Ck.anX _ _ _ h)
def aiY:ad aa 301 [ptr X.dv.c 0] [fw X w] (λu H=>∃p,u=ptr p 0/\H=[c3 X p (.eS uC),fw X w]):=SU (Ck.anY _ _)
abbrev kk(to why:Int):ao:={s with bc:=dg s.bc id 8,dead:=s.dead++[(id,to,why)],trace:=s.trace++[({Th.c7 with kind:=6,id:=id,to:=to,why:=why}:bX)]}
theorem aiZ{s:ao}{id why:Int}{l:cW}(h:Th.jX s id=some l)(O:1<=why/\why<=5)(aL:s.dead.length<most)(av:s.trace.length<most):Th.kill id why s=some (kk s id l.to why):=by
 simp only[Th.kill,h,qM,k3,bd (show s.dead.length<most/\1<=why/\why<=5 from⟨aL,O⟩),Th.tell,bd av]
theorem avU(e:fv)(I:Nat)(M:List Value)(k:Th.K)(bm:z.ap[a -1]?=some q)(cx:0<=id)(N:s.az[j]?=some t)(R:t.on=none):ad aa 345 acN [a7 X z.ap z.ai j 0 k I M,cL X z s,fw X s.bs,ax lJ] (aH eu [cL X z s,fw X s.bs,ax (de X z.ap z.ai (s.az.set j abY))]):=by
 refine aw Tryz.func345 λF D=>?_;haveI:=gf (X:=X) (ap:=z.ap) (ai:=z.ai) N;refine bb ?_;refine wn λaS=>?_;refine wn λbY=>?_;refine wn λY=>?_;refine wn λco=>?_;refine bQ ?_;refine wn λc2=>?_;refine bK ?_;refine il [7,8,9] [8] [1,5,9,13,17,21,25,30,34,38,3,3,3,34,30,38] [ab c2 32 [ptr X.h 0],ab bY 36 [bw id],ab Y 87 (fO e),cL X z s] ?_;refine cq ?_;refine fe ?_ ?_
 . refine br (aiX X s.bs id e.vp cx) ?_
   refine pr ?_;intro p;refine wn λb=>?_;exact afM
 . refine wn λb=>?_
   refine aG ?_;refine br (aiX X s.bs id e.vp cx) ?_;refine lZ ?_;intro p;exact afM
def avV(t:bW)(a q:Nat)(x:bR)(B:At X z.ap s.aJ a q x)(bf:x.mode=5):ad aa 232 qz [ax jJ] (aH eu [ax jJ]):=by
 refine aw Tryz.func232 λF D=>?_;haveI:=B.box;haveI:=B.mode;refine nY ?_;intro U Z;refine cv ?_;refine cP ?_;exact Dd
def avW(x:bR)(B:At X z.ap s.aJ a q x)(bf:¬x.mode=5)(N:s.az[j]?=some t)(R:t.on=none):ad aa 232 qz acL (aH eu [ax jJ,ax (dZ X),ax (de X z.ap z.ai (s.az.set j abG))]):=by
 refine aw Tryz.func232 λF D=>?_;haveI:=gf (X:=X) (ap:=z.ap) (ai:=z.ai) N;haveI:=B.box;haveI:=B.mode;refine nY ?_;intro U Z;refine cv ?_;refine cP ?_;refine bi ?_;refine il [9,10,11] [10] I3 [ab U 106 eo,ab Z 110 [ptr q 0],ax jJ] ?_;refine cv ?_;refine fe ?_ ?_
 . refine br (aiT X B.aW (!decide (x.mode=1))) ?_
   refine pr ?_;intro p;refine wn λaO=>?_;exact afI
 . refine wn λaO=>?_
   refine aG ?_;refine br (aiT X B.aW (!decide (x.mode=1))) ?_;refine lZ ?_;intro p;exact afI
theorem avX(q:Nat)(l:cW)(K:hG z.ai s.lets id q l)(I:Nat)(M:List Value)(k:Th.K)(av:1<=l.to/\l.to<=X.C.aZ)(aW:X.C.aZ<=16)(N:s.az[j]?=some t)(R:t.on=none):ad aa 158 [ptr (X.bp j) 0,bw id,bj I M] [a7 X z.ap z.ai j 0 k I M,cL X z s,b3 X.e6 .u64 (cf z.ai),ax k9,ax (dZ X),fu X,ax lJ] (aH eu [cL X z s,b3 X.e6 .u64 (cf z.ai),ax k9,ax (dZ X),fu X,ax (de X z.ap z.ai (s.az.set j abS))]):=by
 refine aw Tryz.func158 λF D=>?_;haveI:=gf (X:=X) (ap:=z.ap) (ai:=z.ai) N;haveI:=K.rd (bO:=1) (v:=af l.to) rfl;have b:1<=l.to.toNat/\l.to.toNat<=X.C.aZ:=ae;refine sG ?_;intro Z aO aU;refine b6 ?_;refine il [16,17,18,19] [16,17,18] abK aa7 ?_;refine dC ?_;refine jF rfl .none rfl QZ (au) ?_;refine b6 ?_;refine fe ?_ ?_
 . refine wn λaS=>?_
   refine aG ?_;refine wn λbY=>?_;exact ag4
 . refine wn λbY=>?_
   refine aG ?_;refine wn λaS=>?_;exact ag4
end
section
variable(X:cN)(z:dn)(s:ao)(i n d2 d3 cn dS H J:Nat)(N M:List Value)(a2:aq)(y:Option ao)
def akA(ak:i=n)(h:ad aa J M (a2::bl X z s) (ct X y))(fz:e0 aa J:=by exact fc):ad aa 207 zd IS (ct X y):=by
 refine aw Tryz.func207 λF D=>?_;refine bb ?_;refine wn λaU=>?_;refine cq ?_;refine cP ?_;refine bi ?_;refine br (h) ?_;rintro _ _ ⟨rfl,cj,aD,ah,al,rfl⟩;refine et ?_;refine bB ?_;exact aX ⟨rfl,cj,aD,ah,al,rfl⟩
def akB(ak:i≠n)(h:∀O,ad aa H ([af i,bj 208 [ptr dS 0,ptr O 0]]++N) ([ab O 3 [af i],ab dS 188 [bj 207 [ptr d2 0,ptr d3 0,ptr cn 0,ptr dS 0]],ab d2 3 [af n],ab cn 255 [bj H N],ab d3 1 [bj J M],a2]++bl X z s) (ct X y))(fz:e0 aa H:=by exact fc):ad aa 207 zd IS (ct X y):=by
 refine aw Tryz.func207 λF D=>?_;refine bb ?_;refine wn λaU=>?_;refine cq ?_;refine cP ?_;refine cv ?_;refine br (h aU) ?_;exact Kf
def Fx(O:Nat)(ak:i<9223372036854775807)(h:ad aa 207 (af (i+1:Nat)::I6) IS (ct X y)):ad aa 208 sA ([ab O 3 [af i],ab dS 188 rD,ab d2 3 [af n],ab cn 255 [bj H N],ab d3 1 [bj J M],a2]++bl X z s) (ct X y):=by
 refine aw Tryz.func208 λF D=>?_;refine b6 ?_;refine Au ?_;refine br (h) ?_;exact Kf
def Cy(q:Nat)(h:∀d2 d3 cn dS,ad aa 207 (af (0:Nat)::I6) IS (ct X y)):ad aa 156 [ptr q 0,af n,bj H N,bj J M] (a2::bl X z s) (ct X y):=by
 refine aw Tryz.func156 λF D=>?_;refine bb ?_;refine wn λaU=>?_;refine wn λaS=>?_;refine wn λbY=>?_;refine bK ?_;refine wn λY=>?_;refine c8 ?_;refine br (h aU bY aS Y) ?_;exact Kf
end
section
variable(X:cN)(z:dn)(s:ao)(j aP ar U:Nat)(ea:Option Addr)(cA:Nat)(l:List Int)(what:Int)(k:Th.K)(I:Nat)(M:List Value)(t:bW)(y:Option ao)
def gq{P:Program}{f:FuncId}{args:List Value}{M H:List aq}{post:Value->List aq->Prop}(e:∀D h,Sat (H++D) h->Sat (M++D) h)(h:ad P f args M post):ad P f args H post:=λF D w s=>h F D w (s.imp (e D))
abbrev jk(a:Nat)(n:c9)(k:Th.K):ao:={s with notes:=s.notes++[n],az:=s.az.set j {t with on:=some (.post a (Th.xH s.notes.length),.lh a k)}}
abbrev allM:List aq:=
 [ab aP 106 [ptr (X.bp j) 0],ab ar 39 [hN ea cA l],dz ea cA l,ab U 3 [af what],a7 X z.ap z.ai j 0 k I M]
def akC(al:bE X z s)(J:X.C.ok)(aM:s.notes.length<most)(N:s.az[j]?=some t)(R:t.on=none)(i d2 d3 cn dS O a:Nat)(aW:1<=a/\a<=X.C.aZ)(Y:l[i]?=some (a:Int)):ad aa 304 acA ((ab O 3 [af i]::ab dS 188 rD::ab d2 3 [af l.length]::ab cn 255 QL::ab d3 1 [bj I M]::aby)++bl X z s) (ct X (some acX)):=by
 refine aw Tryz.func304 λF D=>?_;have B:=(dc.1 Y).1;refine cu [] [8,201] [ab aP 106 eo,ab ar 39 [hN ea cA l],dz ea cA l,ab U 3 [af what]] ?_;refine b6 ?_;refine JO ?_;refine go_v rfl .none rfl (gz rfl (Ga Y)) ?_;refine b6 ?_;refine br (iA (a7.eq_36 ..) (O,dS,d2,cn,d3,aP,ar,U,I,M,ea,cA) dI (B9 X z s j a ⟨what,0,[]⟩ 208 sA (.each w1 i l.length k) t aW J.hg aM N R)) ?_;refine l5 ?_;intro aI aQ;refine b6 ?_;exact aX ⟨rfl,Ev,_,rfl,jl,rfl⟩
theorem axb(al:bE X z s)(J:X.C.ok)(aM:s.notes.length<most)(N:s.az[j]?=some t)(R:t.on=none)
 (i d2 d3 cn dS:Nat)(B:i<=l.length)(f:i=l.length->hr X j z s k I M y)(g3:∀v:Int,l[i]?=some v->∃a:Nat,v=a/\(1<=a/\a<=X.C.aZ)/\y=some acX):
 ad aa 207 zd ([ab d2 3 [af l.length],ab d3 1 [bj I M],ab cn 255 QL,ab dS 188 rD,eW QF]++bl X z s) (ct X y):=by
 by_cases ak:i=l.length
 . haveI:=(f ak).iT
   refine akA X z s i l.length d2 d3 cn dS 304 I _ M (eW QF) y ak ?_;refine gq (λD h s=>?_) (f ak).spec;obtain⟨_,_,aD⟩:=hd s;exact Sat.drop (Sat.drop (Sat.drop (Sat.drop aD)))
 . obtain⟨v,Y⟩:∃v,l[i]?=some v:=⟨_,cz ae⟩
   obtain⟨a,rfl,aW,rfl⟩:=g3 v Y;refine akB X z s i l.length d2 d3 cn dS 304 I _ M (eW QF) _ ak λO=>?_;refine gq (λD h s=>?_) (akC X z s j aP ar U ea cA l what k I M t al J aM N R i d2 d3 cn dS O a aW Y);exact Sat.tail (λh s=>Sat.tail (λh s=>Sat.tail (λh s=>Sat.tail (λh s=>Sat.tail (λh s=>by obtain⟨_,_,aD⟩:=hd s;exact aD) s) s) s) s) s
def akD(ka:Option Addr)(kc:Nat)(l:List Int)(what:Int)(k:Th.K)(I:Nat)(M:List Value)(t:bW)(y:Option ao)(g:aq)(al:bE X z s)(J:X.C.ok)(aM:s.notes.length<most)(N:s.az[j]?=some t)(R:t.on=none)(hlen:l.length<=1099511627776)(g7:∀D h,Sat (dz ka kc l::g::D) h->Sat (bl X z s++D) h)(f:0=l.length->hr X j z s k I M y)(g3:∀v:Int,l[0]?=some v->∃a:Nat,v=a/\(1<=a/\a<=X.C.aZ)/\y=some (jk s j t a ⟨what,0,[]⟩ (.each w1 0 l.length k))):ad aa 243 [ptr (X.bp j) 0,hN ka kc l,af what,bj I M] [a7 X z.ap z.ai j 0 k I M,dz ka kc l,g] (ct X y):=by
 refine aw Tryz.func243 λF D=>?_;refine bb ?_;refine wn λaO=>?_;refine wn λaU=>?_;refine wn λaS=>?_;refine bB ?_;refine ci rfl (b1 rfl (ET ka kc l.length (iC l) (dz ka kc l) (Si l) (Sj l) ae) bF) ?_;rintro _ D ⟨_,⟨a9,o,rfl,rfl⟩,rfl⟩;refine fm ?_;refine cv ?_;refine br (gq (H:=[ab aO 106 eo,ab aU 39 [hN a9 o l],dz a9 o l,ab aS 3 [af what],a7 X z.ap z.ai j 0 k I M,dz ka kc l,g]) (λD h s=>Sat.tail (λh s=>g7 D h s) (cF () trivial kG h s)) (Cy X z s l.length 304 I [ptr aO 0,ptr aU 0,ptr aS 0] M (eW (allM X z j aO aU aS a9 o l what k I M)) y (X.bp j) (λd2 d3 cn dS=>axb X z s j aO aU aS a9 o l what k I M t y al J aM N R 0 d2 d3 cn dS (eX _) f g3))) ?_;exact xl
end
section
variable{X:cN}{z:dn}{ap:List Nat}{s:ao}{a q:Nat}{g8 x:bR}{e:hR}
abbrev ia(X:cN)(z:dn)(s:ao)(a q:Nat)(x:bR)(e:hR):List aq:=
 [ab q 118 (eg X x e),dz e.ka e.kc x.kids,dz e.hP e.hQ x.cM,gi e.gK X.C.dY x.aside x.front,h8 e.jx (min (max e.b8.limit 0) 100) (min (max e.b8.within 1) 4095) x.given,b3 e.gQ .i64 (x.watched.map λw=>(w,.bool true)),jd e.jy (h9 e.es),ax (iy e.es),gO e.b8,ax ((e5 X z.ap s.aJ).set (a -1) ft),cL X z s,dP z.cI z.cJ s.trace,fl z.na z.fq s.notes,b3 X.am .i64 (cf z.ap),b3 X.e6 .u64 (cf z.ai),ax (gj z.ai s.lets),Lg.ds X.ld s.bc,ez X.da X.C.dG s.dead,ch X.m s.L z.tt,fA X,fw X s.bs,eC X.bG X.m X.C.bG X.C.aZ,ax (dZ X),fu X,gk X,gX X,gd X,ax (de X z.ap z.ai s.az)]
def Fy{A:aq}:∀(l:List aq) {D:List aq} {h:eA},Sat (l++A::D) h->Sat (A::(l++D)) h
 |[],_,_,s=>s
 |B::l,D,_,s=>Sat.swap (Sat.tail (r:=l++A::D) (m:=A::(l++D)) (λh s=>Fy l s) s)
def akE{aJ:List bR}{a q:Nat}{g8 x:bR}{e:hR}{D:List aq}(B:At X ap aJ a q g8)(V:fT x e):∀h,Sat (B8 X q x e++(ax ((e5 X ap aJ).set (a -1) ft)::D)) h->Sat (ax (e5 X ap (aJ.set (a -1) x))::D) h:=λh s=>by
 have ay:e5 X ap (aJ.set (a -1) x)=(e5 X ap aJ).set (a -1) (vu X q x):=by
  have aV:ap.getD (a -1) 0=q:=by simp only[ix,B.ap,KS]
  rw[e5,mapIdx_set,aV]
 rw[ay];refine uU (by have:=(dc.1 B.ax).1;exact this) h ?_;exact cF e V (λg t=>t) h s
def jm(B:At X z.ap s.aJ a q g8)(V:fT x e):∀D h,Sat (ia X z s a q x e++D) h->Sat (bl X z tO++D) h:=λD h aD=>by
 have bP:=akE B V h aD;exact(au) h bP
def sF(B:At X ap s.aJ a q x):Th.dd s a x=s:=by
 obtain⟨h1,h2⟩:=dc.1 B.ah;simp only[Th.dd];rw[<-h2,yL h1]
def qZ{P:Program}{f:FuncId}{args:List Value}{A:aq}{X:cN}{z:dn}{s:ao}{a q:Nat}{x:bR}{post:Value->List aq->Prop}(B:At X z.ap s.aJ a q x)(h:∀e,fT x e->ad P f args (A::ia X z s a q x e) post):ad P f args (A::bl X z s) post:=λF D w st=>by
 have s1:dm F (vu X q x::ax wY::A::(PD++D)) w:=st.imp λg t=>sj B.ax g ((au) g t);obtain⟨e,V,ah⟩:=hd s1.e4;refine h e V F D w ⟨s1.os,s1.tape,s1.output,s1.size,?_⟩;exact(show∀h,Sat (B8 X q x e++(ax ((e5 X z.ap s.aJ).set (a -1) ft)::A::([cL X z s,dP z.cI z.cJ s.trace,fl z.na z.fq s.notes,b3 X.am .i64 (cf z.ap),b3 X.e6 .u64 (cf z.ai),ax (gj z.ai s.lets),Lg.ds X.ld s.bc,ez X.da X.C.dG s.dead,ch X.m s.L z.tt,fA X,fw X s.bs,eC X.bG X.m X.C.bG X.C.aZ,ax (dZ X),fu X,gk X,gX X,gd X,ax (de X z.ap z.ai s.az)]++D))) h->Sat (A::ia X z s a q x e++D) h from by simp only[B8,cp,cm];exact(au)) _ ah
end
section
variable(X:cN)(z:dn)(s:ao)(j:Nat)(t:bW)(a q:Nat)(x:bR)(e:hR)
def axc(t:bW)(a q:Nat)(x:bR)(e:hR)(al:bE X z s)(B:At X z.ap s.aJ a q x)(V:fT x e)(I:Nat)(M:List Value)(k:Th.K)(y:Option ao)(bf:x.mode=4)(aF:hr X j z s k I M y):ad aa 241 lK iJ (ct X y):=by
 refine aw Tryz.func241 λF D=>?_;haveI:=aF.iT;refine sG ?_;intro Z aO aU;refine cv ?_;refine cP ?_;refine fr ?_;exact Kq
def axd(t:bW)(a q:Nat)(x:bR)(e:hR)(al:bE X z s)(B:At X z.ap s.aJ a q x)(V:fT x e)(I:Nat)(M:List Value)(k:Th.K)(y:Option ao)(bf:x.mode=5)(aF:hr X j z s k I M y):ad aa 241 lK iJ (ct X y):=by
 refine aw Tryz.func241 λF D=>?_;haveI:=aF.iT;refine sG ?_;intro Z aO aU;refine cv ?_;refine cP ?_;refine c8 ?_;exact aga
theorem akF(g8 x:bR)(e:hR)(what:Int)(k:Th.K)(I:Nat)(M:List Value)(y:Option ao)(B:At X z.ap s.aJ a q g8)(V:fT x e)(al:bE X z tO)(J:X.C.ok)(aM:s.notes.length<most)(N:s.az[j]?=some t)(R:t.on=none)(hlen:x.kids.length<=1099511627776)
 (f:0=x.kids.length->hr X j z tO k I M y)(g3:∀v:Int,x.kids[0]?=some v->∃b:Nat,v=b/\Ey/\y=some (jk tO j t b ⟨what,0,[]⟩ (.each (.push x.kids what) 0 x.kids.length k))):
 ad aa 243 [ptr (X.bp j) 0,hN e.ka e.kc x.kids,af what,bj I M] iJ (ct X y):=by
 refine gq (λD h dk=>?_) (akD X z tO j e.ka e.kc x.kids what k I M t y (eW (ab q 118 (eg X x e)::aak)) al J aM N R hlen (λD h t=>?_) f g3)
 . exact Sat.tail (λh t=>Sat.tail (λh t=>cF () trivial (λh t=>t) h t) (Sat.swap t)) dk
 . obtain⟨_,_,Y⟩:=hd (Sat.swap t)
   exact jm (X:=X) (z:=z) B V D h ((au) h Y)
def axe(al:bE X z s)(B:At X z.ap s.aJ a q x)(V:fT x e)(I:Nat)(M:List Value)(k:Th.K)(y:Option ao)(J:X.C.ok)(aM:s.notes.length<most)(o:s.trace.length<most)(N:s.az[j]?=some t)(R:t.on=none)(hlen:x.kids.length<=1099511627776)(c:¬x.mode=4)(g:¬x.mode=5)(f:∀(aI:Option Addr) (aQ:Nat) (cs:List Value),0=x.kids.length->hr X j h3 P4 tP 297 cs y)(g3:∀v:Int,x.kids[0]?=some v->∃b:Nat,v=b/\Ey/\y=some (jk P4 j t b r5 (.each (.push x.kids 0) 0 x.kids.length tP))):ad aa 241 lK iJ (ct X y):=by
 refine aw Tryz.func241 λF D=>?_;haveI:=gf (X:=X) (ap:=z.ap) (ai:=z.ai) N;have cx:x.id=a:=B.cx;have d:∀aI aQ,bE X {z with cI:=aI,cJ:=aQ} P4:=λaI aQ=>⟨al.gL,al.gD,al.gE,by show _=(s.aJ.set _ _).length;rw[gn];exact al.ap,al.ai⟩;refine sG ?_;intro Z aO aU;refine cv ?_;refine cP ?_;refine c8 ?_;refine cP ?_;refine eJ ?_;refine cu [] [9,201] (ab Z 106 eo::ab aO 110 [ptr q 0]::ab q 118 ((eg X x e).set (0+13) (af 4))::qy) ?_;refine cv ?_;rw[cx];refine br (l6 X z s (Qg:bX) o) ?_;refine l5 ?_;intro aI aQ;refine b6 ?_;refine cu [] [6,201] [ab Z 106 eo,ab aO 110 [ptr q 0],ab q 118 ((eg X x e).set (0+13) (af 4))] ?_;refine bi ?_;refine br (pv (avt Z aO aU q I M B.ap) (akF X h3 abC j t a q x BB e 0 tP 297 [ptr Z 0,ptr aO 0,ptr aU 0] y B pk (d aI aQ) J aM N R hlen (f aI aQ _) g3)) ?_;refine ps ?_;exact pq
end
section
variable(X:cN)(z:dn)(s:ao)(j:Nat)(t:bW)(a q:Nat)(x:bR)(e:hR)
def At.set{X:cN}{ap:List Nat}{aJ:List bR}{a q:Nat}{x n:bR}(h:At X ap aJ a q x)(cx:n.id=a):At X ap (aJ.set (a -1) n) a q n:=
 ⟨h.ap,by rw[xh (dc.1 h.ah).1],cx,h.aW⟩
def akG(c:Nat):ad aa 317 [ptr X.m 0,af c] [] (λu H=>∃p,u=ptr p 0/\H=[c3 X p (.load c)]):=J4 X.m c
def axf(B:At X z.ap s.aJ a q x)(I:Nat)(M:List Value)(k:Th.K)(N:s.az[j]?=some t)(R:t.on=none):ad aa 360 lK (a7 X z.ap z.ai j 0 k I M::acL) (aH eu [ax jJ,ax (dZ X),ax (de X z.ap z.ai (s.az.set j {t with on:=some (.post a Th.xI,.kW a k)}))]):=by
 refine aw Tryz.func360 λF D=>?_;haveI:=B.box;refine sG ?_;intro Z aO aU;refine bQ ?_;refine br (avC X B.aW) ?_;refine lZ ?_;intro p;refine wn λaS=>?_;refine bi ?_;refine JY ?_;refine aT (iA (a7.eq_26 ..) (aS,aU,Z,aO,q,I,M) u6 (jK X z.ap z.ai s.az j p 401 [ptr aS 0,ptr aU 0,ptr Z 0,ptr aO 0] t EE (.kW a k) N R)) ?_;exact pT
def axg(al:bE X z s)(B:At X z.ap s.aJ a q x)(V:fT x e)(I:Nat)(M:List Value)(k:Th.K)(o:s.trace.length<most)(N:s.az[j]?=some t)(R:t.on=none):ad aa 364 lK iJ (ct X (some (Th.dd aa3 a {x with mode:=5}))):=by
 refine aw Tryz.func364 λF D=>?_;haveI:=gf (X:=X) (ap:=z.ap) (ai:=z.ai) N;have cx:x.id=a:=B.cx;refine sG ?_;intro Z aO aU;refine bQ ?_;refine wn λaS=>?_;refine dC ?_;refine cu [] [6,201] [ab aS 32 [ptr X.h 0],ab aO 110 [ptr q 0],ab q 118 ((eg X x e).set (0+13) (af 5))] ?_;refine bi ?_;refine br (l6 X z s (IU:bX) o) ?_;refine l5 ?_;intro aI aQ;refine bK ?_;refine il [8,9,10] [9] wl [ab aS 32 [ptr X.h 0],cL X h3 {s with trace:=s.trace++[(IU:bX)]}] ?_;refine bQ ?_;refine fe ?_ ?_
 . refine br (akG X 1) ?_
   refine pr ?_;intro p;refine wn λbY=>?_;exact afP
 . refine wn λbY=>?_
   refine aG ?_;refine br (akG X 1) ?_;refine lZ ?_;intro p;exact afP
def axh(al:bE X z s)(B:At X z.ap s.aJ a q x)(V:fT x e)(I:Nat)(M:List Value)(k:Th.K)(y:Option ao)(reason:cC)(hp:x.parent=0)(f9:∀aI aQ,ad aa 241 lK (a7 X z.ap z.ai j 0 k I M::ia X h3 Bz a q rH e) (ct X y))(o:s.trace.length<most)(N:s.az[j]?=some t)(R:t.on=none):ad aa 296 I7 iJ (ct X y):=by
 refine aw Tryz.func296 λF D=>?_;haveI:=gf (X:=X) (ap:=z.ap) (ai:=z.ai) N;refine agD ?_;intro cx aI aQ;refine bQ ?_;refine br (f9 aI aQ) ?_;exact zw
def axi(al:bE X z s)(B:At X z.ap s.aJ a q x)(V:fT x e)(I:Nat)(M:List Value)(k:Th.K)(y:Option ao)(reason:cC)(hp:¬x.parent=0)(J:X.C.ok)(aM:s.notes.length<most)(b:1<=x.parent/\x.parent<=X.C.aZ)(o:s.trace.length<most)(N:s.az[j]?=some t)(R:t.on=none):ad aa 296 I7 iJ (ct X (some (Th.dd aba a rH))):=by
 refine aw Tryz.func296 λF D=>?_;haveI:=gf (X:=X) (ap:=z.ap) (ai:=z.ai) N;refine agD ?_;intro cx aI aQ;refine bB ?_;refine cu [] [12,201] [ab q 118 ((eg X x e).set (0+13) (af 2))] ?_;refine dC ?_;refine br (B9 X h3 Bz j x.parent ⟨1,x.id,reason⟩ I M k t b J.hg aM N R) ?_;rintro _ _ ⟨rfl,cD,bn,rfl⟩;refine et ?_;refine b6 ?_;exact aX ⟨rfl,sz,_,rfl,⟨al.gL,al.gD,al.gE,by show _=(s.aJ.set _ _).length;rw[gn];exact al.ap,al.ai⟩,rfl⟩ (λh E=>jm (X:=X) (z:=sz) (s:=aba) (x:=rH) B pk D h ((au) h E))
end
section
variable(w:Int)(X:cN){l:List Int}(z:dn){i:Nat}(s:ao){x:Int}(j:Nat)(t:bW)(q:Nat)
abbrev rE(l:List Int)(r:List (Int×Int)):List (Int×Int):=l.foldl (λr id=>du r id w) r
def TX(w:Int):∀(l:List Int) (r:List (Int×Int)),(rE w l r).length=r.length
 |[],r=>rfl
 |x::l,r=>by rw[rE,yP];exact(TX w l _).trans e8
def akH(h:l[i]?=some x)(r:List (Int×Int)):rE w (l.take (i+1)) r=du (rE w (l.take i) r) x w:=by
 obtain⟨ak,e⟩:=dc.1 h;rw[nv ak,e,rE,akI];rfl
def TY(w:Int):∀(l:List Int) (x:Int) (s:ao),Th.jz w (l++[x]) s=(Th.jz w l s).bind (Th.kill x w)
 |[],x,s=>by simp[Th.jz]
 |
  y::l,x,s=>by
  simp only[cp,Th.jz,qM];cases Th.kill y w s with
  |none=>rfl
  |some s1=>simp only[k3];exact TY w l x s1
structure Fz(s:ao)(ids:List Int)(i:Nat)(d:ao):Prop where
 le:i<=ids.length
 eq:Th.jz 2 (ids.take i) s=some d
 lets:d.lets=s.lets
 bc:d.bc.length=s.bc.length
 ns:d.trace.length=s.trace.length+i
 Cz:d.dead.length=s.dead.length+i
def Fz.next{s d:ao}{ids:List Int}{i:Nat}{id:Int}{ai:List Nat}{q:Nat}{l:cW}(h:Fz s ids i d)(ah:ids[i]?=some id)(K:hG ai d.lets id q l)(R:s.trace.length+ids.length<=most)(aL:s.dead.length+ids.length<=most):Fz s ids (i+1) (kk d id l.to 2):=by
 obtain⟨ak,e⟩:=dc.1 ah;have h1:=h.ns;have h2:=h.Cz;refine⟨ak,?_,h.lets,by show(dg d.bc id 8).length=_;rw[Led.yW];exact h.bc,by simp[h1];omega,by simp[h2];omega⟩;rw[nv ak,e,TY,h.eq,k3];exact aiZ Z1 bJ ae ae
def adA(h:l[i]?=some x):(iS l)[i*1]?=some (bw x):=by simp[iS,h]
def akJ(x:bR)(e:hR)(r:List (Int×Int))(aE:r.length<=most)(h1:x.aside.length<=1099511627776)(h2:x.front.length<=1099511627776)(N:s.az[j]?=some t):ad aa 307 qz (ab q 118 (eg X x e)::gi e.gK X.C.dY x.aside x.front::Lg.ds X.ld r::qy) (aH eu (ab q 118 (eg X x e)::gi e.gK X.C.dY [] (x.front++x.aside.reverse)::Lg.ds X.ld (rE 4 x.aside r)::qy)):=by
 refine aw Tryz.func307 λF D=>?_;haveI:=gf (X:=X) (ap:=z.ap) (ai:=z.ai) N;have m:r.length<=1099511627776:=aE;refine cq ?_;refine br (aiM e.gK X.C.dY x.aside x.front h1 h2) ?_;rintro _ _ ⟨cr,c1,rfl,rfl⟩;refine et ?_;refine bB ?_;refine gG (bv:=Nat) (λi=>i<=x.aside.length) (λi=>[(12,af i),(11,af x.aside.length),(10,ul cr c1 x.aside),(0,ptr (X.bp j) 0),(1,ptr q 0)]) (λi=>Lg.ds X.ld (rE 4 (x.aside.take i) r)::fE cr c1 x.aside::ab q 118 (eg X x e)::gi e.gK X.C.dY x.aside x.front::cL X z s::ax lJ::D) (λi=>x.aside.length -i) 0 (eX _) dy Pt ?_;intro i bC;replace bC:i<=x.aside.length:=bC;refine bi ?_;refine cg (λW=>?_) (λW=>?_)
 . obtain⟨v,ah⟩:∃v,x.aside[i]?=some v:=⟨_,cz (show i<x.aside.length by omega)⟩
   refine bi ?_;refine aB rfl (fI rfl rfl (show i<x.aside.length by omega)) ?_;refine BR ?_;refine dC ?_;refine ci rfl (b1 rfl (Lg.Bo X.ld (rE 4 (x.aside.take i) r) v 4 (by rw[TX];exact aE)) bF) ?_;refine RQ ?_;refine fD (i+1) (show i+1<=x.aside.length by omega) (show x.aside.length -(i+1)<x.aside.length -i by omega) dy (by rw[akH 4 ah];exact(au))
 . obtain rfl:i=x.aside.length:=by omega
   rw[nw];refine c8 ?_;refine aT (axj e.gK X.C.dY x.aside x.front h1 h2) ?_;exact pT
def axk(x:bR)(e:hR)(I:Nat)(M:List Value)(k:Th.K)(aE:X.C.dG<=64)(bm:z.ap[x.id -1]?=some q)(aW:1<=x.id/\x.id<=X.C.aZ)(m:∀id∈(x.front.reverse++x.aside),∃q l,hG z.ai s.lets id q l)(w:s.trace.length+(x.front.reverse++x.aside).length<=most)(f:s.dead.length+(x.front.reverse++x.aside).length<=most)(aM:s.bc.length<=most)(h1:x.aside.length<=1099511627776)(h2:x.front.length<=1099511627776)(n:(x.front.reverse++x.aside).length<=1099511627776)(N:s.az[j]?=some t)(R:t.on=none):ad aa 306 [ptr (X.bp j) 0,ptr q 0,bj I M] [a7 X z.ap z.ai j 0 k I M,ab q 118 (eg X x e),gi e.gK X.C.dY x.aside x.front,cL X z s,dP z.cI z.cJ s.trace,b3 X.e6 .u64 (cf z.ai),ax (gj z.ai s.lets),Lg.ds X.ld s.bc,ez X.da X.C.dG s.dead,ax (dZ X),ax (de X z.ap z.ai s.az)] (λu H=>u=.tuple #[]/\∃aI aQ aD,Th.jz 2 (x.front.reverse++x.aside) s=some aD/\H=[ab q 118 (eg X x e),gi e.gK X.C.dY [] [],cL X {z with cI:=aI,cJ:=aQ} aD,dP aI aQ aD.trace,b3 X.e6 .u64 (cf z.ai),ax (gj z.ai aD.lets),Lg.ds X.ld aD.bc,ez X.da X.C.dG aD.dead,ax (dZ X),ax (de X z.ap z.ai (s.az.set j {t with on:=some (.post x.id Th.Cl,.closed x.id k)}))]):=by
 refine aw Tryz.func306 λF D=>?_;haveI:=gf (X:=X) (ap:=z.ap) (ai:=z.ai) N;refine sG ?_;intro Z aO aU;refine eJ ?_;refine b6 ?_;refine br (avd e.gK X.C.dY x.aside x.front h1 h2) ?_;rintro _ _ ⟨cr,c1,rfl,rfl⟩;refine et ?_;refine bB ?_;refine gG (bv:=Nat×Option Addr×Nat×ao) (λE=>Fz s (x.front.reverse++x.aside) E.1 E.2.2.2) (λE=>[(19,af E.1),(18,af (x.front.reverse++x.aside).length),(17,ul cr c1 (x.front.reverse++x.aside)),(6,ptr X.h 0),(3,ptr Z 0),(4,ptr aO 0),(5,ptr aU 0)]) (λE=>fE cr c1 (x.front.reverse++x.aside)::ab Z 106 [ptr (X.bp j) 0]::ab aO 110 [ptr q 0]::ab aU 1 [bj I M]::a7 X z.ap z.ai j 0 k I M::ab q 118 (eg X x e)::gi e.gK X.C.dY [] []::cL X {z with cI:=E.2.1,cJ:=E.2.2.1} E.2.2.2::dP E.2.1 E.2.2.1 E.2.2.2.trace::b3 X.e6 .u64 (cf z.ai)::ax (gj z.ai E.2.2.2.lets)::Lg.ds X.ld E.2.2.2.bc::ez X.da X.C.dG E.2.2.2.dead::ax (dZ X)::ax (de X z.ap z.ai s.az)::D) (λE=>(x.front.reverse++x.aside).length -E.1) (0,z.cI,z.cJ,s) (⟨eX _,rfl,rfl,rfl,rfl,rfl⟩) dy (au) ?_;rintro⟨i,cI,cJ,d⟩ bC;replace bC:Fz s (x.front.reverse++x.aside) i d:=bC;have B:=bC.le;have o:=bC.ns;have r:=bC.Cz;have g:=bC.bc;dsimp only;refine bi ?_;refine cg (λW=>?_) (λW=>?_)
 . have b:i<(x.front.reverse++x.aside).length:=by omega
   obtain⟨v,ah⟩:∃v,(x.front.reverse++x.aside)[i]?=some v:=⟨_,cz b⟩;obtain⟨c,l,a⟩:=m v (js ah);rw[<-bC.lets]at a;refine bi ?_;refine aB rfl (fI rfl rfl (show i<(x.front.reverse++x.aside).length by omega)) ?_;refine BR ?_;refine bi ?_;refine ci rfl (b1 rfl (tL X {z with cI:=cI,cJ:=cJ} d v 2 c l a bJ aE ae ae (by rw[g];exact aM)) bF) ?_;refine RR ?_;intro aI aQ;refine fD (i+1,aI,aQ,kk d v l.to 2) (bC.next ah a w f) (show(x.front.reverse++x.aside).length -(i+1)<(x.front.reverse++x.aside).length -i by omega) dy (au)
 . obtain rfl:i=(x.front.reverse++x.aside).length:=by omega
   have T:=bC.eq;rw[nw]at T;refine adY ?_;refine bi ?_;refine br (avB X aW) ?_;refine pr ?_;intro p;refine JP ?_;refine aT (iA (a7.eq_25 ..) (Z,aO,aU,q,I,M) ⟨rfl,rfl,bm⟩ (jK X z.ap z.ai s.az j p 359 [ptr Z 0,ptr aO 0,ptr aU 0] t (.post x.id Th.Cl) (.closed x.id k) N R)) ?_;refine b6 ?_;exact aX ⟨rfl,cI,cJ,d,T,rfl⟩
end
section
variable(X:cN)(z:dn)(s:ao)(j:Nat)(t:bW)(a q b:Nat)(x:bR)(e:hR)
theorem At.vO{X:cN}{ap:List Nat}{aJ:List bR}{a q:Nat}{x:bR}(h:At X ap aJ a q x):h7 q 0 Jw (af x.id):=h.rd λe=>rfl
def axl(B:At X z.ap s.aJ a q x)(l:Int)(reason:cC)(I:Nat)(M:List Value)(k:Th.K)(aA:1<=b/\b<=X.C.aZ)(bf:X.C.aZ<=16)(o:s.trace.length<most)(aM:s.notes.length<most)(N:s.az[j]?=some t)(R:t.on=none):ad aa 300 [ptr (X.bp j) 0,ptr q 0,.agg (iz ⟨l,b,reason⟩).toArray,af 1,bj I M] PP (λu H=>u=.tuple #[]/\∃aI aQ cD bn,H=(ax jJ::cL X sz (jk abn j t b (⟨2,0,[]⟩:c9) k)::dP aI aQ (s.trace++abo)::fl cD bn (s.notes++[(⟨2,0,[]⟩:c9)])::PY)):=by
 refine aw Tryz.func300 λF D=>?_;haveI:=gf (X:=X) (ap:=z.ap) (ai:=z.ai) N;haveI:=B.vO;refine RP ?_;intro bY;refine br (l6 X z s (ab8:bX) o) ?_;refine l5 ?_;intro aI aQ;refine c0 ?_;refine cP ?_;refine c8 ?_;refine br (B9 X h3 abn j b (⟨2,0,[]⟩:c9) I M k t aA bf aM N R) ?_;exact aeS
def axm(B:At X z.ap s.aJ a q x)(l:Int)(reason:cC)(I:Nat)(M:List Value)(k:Th.K)(aA:1<=b/\b<=X.C.aZ)(bf:X.C.aZ<=16)(o:s.trace.length<most)(aM:s.notes.length<most)(N:s.az[j]?=some t)(R:t.on=none):ad aa 300 [ptr (X.bp j) 0,ptr q 0,.agg (iz ⟨l,b,reason⟩).toArray,af 2,bj I M] PP (λu H=>u=.tuple #[]/\∃aI aQ cD bn,H=(ax jJ::cL X sz (jk abp j t b (⟨3,0,[]⟩:c9) k)::dP aI aQ (s.trace++abq)::fl cD bn (s.notes++[(⟨3,0,[]⟩:c9)])::PY)):=by
 refine aw Tryz.func300 λF D=>?_;haveI:=gf (X:=X) (ap:=z.ap) (ai:=z.ai) N;haveI:=B.vO;refine RP ?_;intro bY;refine br (l6 X z s (ab9:bX) o) ?_;refine l5 ?_;intro aI aQ;refine c0 ?_;refine cP ?_;refine nI ?_;refine c8 ?_;refine br (B9 X h3 abp j b (⟨3,0,[]⟩:c9) I M k t aA bf aM N R) ?_;exact aeS
def axn(B:At X z.ap s.aJ a q x)(l:Int)(reason:cC)(I:Nat)(M:List Value)(k:Th.K)(aA:1<=b/\b<=X.C.aZ)(bf:X.C.aZ<=16)(o:s.trace.length<most)(aM:s.notes.length<most)(N:s.az[j]?=some t)(R:t.on=none):ad aa 300 [ptr (X.bp j) 0,ptr q 0,.agg (iz ⟨l,b,reason⟩).toArray,af 3,bj I M] PP (λu H=>u=.tuple #[]/\∃aI aQ cD bn,H=(ax jJ::cL X sz (jk abr j t b (r5:c9) k)::dP aI aQ (s.trace++abt)::fl cD bn (s.notes++Eb)::PY)):=by
 refine aw Tryz.func300 λF D=>?_;haveI:=gf (X:=X) (ap:=z.ap) (ai:=z.ai) N;haveI:=B.vO;refine RP ?_;intro bY;refine br (l6 X z s (aca:bX) o) ?_;refine l5 ?_;intro aI aQ;refine c0 ?_;refine EO ?_;refine cP ?_;refine c8 ?_;refine br (B9 X h3 abr j b (r5:c9) I M k t aA bf aM N R) ?_;rintro _ _ ⟨rfl,cD,bn,rfl⟩;exact ad4
def axo(B:At X z.ap s.aJ a q x)(V:fT x e)(l d:Int)(reason:cC)(I:Nat)(M:List Value)(k:Th.K)(y:Option ao)(aL:¬d=1/\¬d=2/\¬d=3)(a6:x.cM.contains (b:Int)=true)(bf:¬x.mode=1)(d4:x.cM.length<most)(o:s.trace.length<most)(aF:∀aI aQ,hr X j {z with cI:=aI,cJ:=aQ} {s with trace:=s.trace++[({Th.c7 with kind:=10,dL:=b,cy:=x.id,why:=d,name:=reason}:bX)]} k I M y)(N:s.az[j]?=some t):ad aa 300 [ptr (X.bp j) 0,ptr q 0,.agg (iz ⟨l,b,reason⟩).toArray,af d,bj I M] (a7 X z.ap z.ai j 0 k I M::ia X z s a q x e) (ct X y):=by
 refine aw Tryz.func300 λF D=>?_;haveI:=gf (X:=X) (ap:=z.ap) (ai:=z.ai) N;refine Sc ?_;intro p Z f c bY aI aQ;haveI:=(aF aI aQ).iT;refine ahg ?_;refine dC ?_;refine cP ?_;refine cq ?_;refine ci rfl (oE rfl rfl (gq (H:=[a7 X z.ap z.ai j 0 k I M,ab q 118 (eg X x e),dz e.ka e.kc x.kids,dz e.hP e.hQ x.cM,gi e.gK X.C.dY x.aside x.front,h8 e.jx (min (max e.b8.limit 0) 100) (min (max e.b8.within 1) 4095) x.given,b3 e.gQ .i64 (x.watched.map λw=>(w,.bool true)),jd e.jy (h9 e.es),ax (iy e.es),gO e.b8,ax ((e5 X z.ap s.aJ).set (a -1) ft),cL X {z with cI:=aI,cJ:=aQ} {s with trace:=s.trace++[({Th.c7 with kind:=10,dL:=b,cy:=x.id,why:=d,name:=reason}:bX)]},dP aI aQ (s.trace++[({Th.c7 with kind:=10,dL:=b,cy:=x.id,why:=d,name:=reason}:bX)]),fl z.na z.fq s.notes,b3 X.am .i64 (cf z.ap),b3 X.e6 .u64 (cf z.ai),ax (gj z.ai s.lets),Lg.ds X.ld s.bc,ez X.da X.C.dG s.dead,ch X.m s.L z.tt,fA X,fw X s.bs,eC X.bG X.m X.C.bG X.C.aZ,ax (dZ X),fu X,gk X,gX X,gd X,ax (de X z.ap z.ai s.az)]) (λD h E=>Sat.tail (λh E=>by have:=jm (X:=X) (z:={z with cI:=aI,cJ:=aQ}) (s:={s with trace:=s.trace++[({Th.c7 with kind:=10,dL:=b,cy:=x.id,why:=d,name:=reason}:bX)]}) (x:=x) (e:=e) B ⟨V.b8,V.lc,V.es⟩ D h E;rw[sF (X:=X) (ap:=z.ap) (q:=q) (s:={s with trace:=s.trace++[({Th.c7 with kind:=10,dL:=b,cy:=x.id,why:=d,name:=reason}:bX)]}) B]at this;exact this) E) (aF aI aQ).spec) bF) ?_;exact aeN
def axp(B:At X z.ap s.aJ a q x)(V:fT x e)(l d:Int)(reason:cC)(I:Nat)(M:List Value)(k:Th.K)(y:Option ao)(aL:¬d=1/\¬d=2/\¬d=3)(a6:x.cM.contains (b:Int)=false)(bf:x.mode=1)(d4:x.cM.length<most)(o:s.trace.length<most)(ba:∀aI aQ hP hQ,ad aa 296 I7 (a7 X z.ap z.ai j 0 k I M::ia X h3 IW a q QG {e with hP:=hP,hQ:=hQ}) (ct X y))(N:s.az[j]?=some t):ad aa 300 acp iJ (ct X y):=by
 refine aw Tryz.func300 λF D=>?_;haveI:=gf (X:=X) (ap:=z.ap) (ai:=z.ai) N;refine Sc ?_;intro p Z f c bY aI aQ;refine aht ?_;intro v i m;refine c8 ?_;refine br (ba aI aQ i m) ?_;exact xk
def axq(B:At X z.ap s.aJ a q x)(V:fT x e)(l d:Int)(reason:cC)(I:Nat)(M:List Value)(k:Th.K)(y:Option ao)(aL:¬d=1/\¬d=2/\¬d=3)(a6:x.cM.contains (b:Int)=false)(bf:¬x.mode=1)(d4:x.cM.length<most)(o:s.trace.length<most)(aF:∀aI aQ,hr X j {z with cI:=aI,cJ:=aQ} (Th.dd IW a QG) k I M y)(N:s.az[j]?=some t):ad aa 300 acp iJ (ct X y):=by
 refine aw Tryz.func300 λF D=>?_;haveI:=gf (X:=X) (ap:=z.ap) (ai:=z.ai) N;refine Sc ?_;intro p Z f c bY aI aQ;haveI:=(aF aI aQ).iT;refine aht ?_;intro v i m;refine cq ?_;refine br (gq (H:=(a7 X z.ap z.ai j 0 k I M::ab q 118 ((eg X x e).set (0+17) (.slice i (x.cM++[(b:Int)]).length m))::dz e.ka e.kc x.kids::dz i m (x.cM++[(b:Int)])::gi e.gK X.C.dY x.aside x.front::h8 e.jx oR oS x.given::b3 e.gQ .i64 tI::jd e.jy (h9 e.es)::ax (iy e.es)::gO e.b8::ax wY::cL X h3 IW::dP aI aQ (s.trace++abu)::PH)) (λD h E=>Sat.tail (λh E=>jm (X:=X) (z:=h3) (s:=IW) (x:=QG) (e:={e with hP:=i,hQ:=m}) B pk D h E) E) (aF aI aQ).spec) ?_;refine ps ?_;exact pq
end
section
variable(X:cN)(z:dn)(s:ao)(j:Nat)
def axr(w:Int):∀l:List Int,eV (l.map λw=>(w,Value.bool true)) w (.bool true)=(Th.oq l w).map λw=>(w,Value.bool true):=by
 have key:∀l:List Int,eV (l.map λw=>(w,Value.bool true)) w h6=if l.contains w then l.map λw=>(w,Value.bool true)else(l.map λw=>(w,Value.bool true))++[(w,.bool true)]:=by
  intro l
  induction l with
  |nil=>rfl
  |
   cons x l K=>
   simp only[gu,eV,List.contains_cons];by_cases h:w=x
   . subst h;simp
   . have h2:(w==x)=false:=by simpa using h
     have aN:¬x=w:=λe=>h e.symm;rw[h2,kT]
     first|rw[a8 h,K]|rw[a8 aN,K]
     split<;>rfl
 intro l;rw[key,Th.oq,Th.mem];split<;>simp
def axs(t:bW)(a q:Nat)(x:bR)(e:hR)(al:bE X z s)(B:At X z.ap s.aJ a q x)(V:fT x e)(I:Nat)(M:List Value)(k:Th.K)(y:Option ao)(hk:0<x.kids.length)(aF:hr X j z s k I M y):ad aa 245 lK iJ (ct X y):=by
 refine aw Tryz.func245 λF D=>?_;haveI:=aF.iT;refine eJ ?_;refine b6 ?_;refine cP ?_;refine dC ?_;refine Rq ?_;intro cj aD ah d7;refine c0 ?_;exact pn
def axt(t:bW)(a q:Nat)(x:bR)(e:hR)(al:bE X z s)(B:At X z.ap s.aJ a q x)(V:fT x e)(I:Nat)(M:List Value)(k:Th.K)(y:Option ao)(hk:x.kids.length=0)(c:¬x.mode=4)(b:¬x.mode=3)(aF:hr X j z s k I M y):ad aa 245 lK iJ (ct X y):=by
 refine aw Tryz.func245 λF D=>?_;haveI:=aF.iT;refine agu ?_;refine Rq ?_;intro cj aD ah d7;refine bB ?_;exact pn
def axu(t:bW)(a q:Nat)(x:bR)(e:hR)(al:bE X z s)(B:At X z.ap s.aJ a q x)(V:fT x e)(I:Nat)(M:List Value)(k:Th.K)(who:Nat)(J:X.C.ok)(O:1<=who/\who<=X.C.aZ)(N:s.az[j]?=some t)(R:t.on=none):ad aa 348 [ptr (X.bp j) 0,ptr q 0,af who,bj I M] iJ (ct X (some (Th.dd P2 a QE))):=by
 refine aw Tryz.func348 λF D=>?_;haveI:=gf (X:=X) (ap:=z.ap) (ai:=z.ai) N;have g:1<=x.id/\x.id<=X.C.aZ:=IC;refine xn ?_;intro aO aU aS bY;refine bQ ?_;refine wn λY=>?_;refine bK ?_;refine cu [] [5,201] [ab aU 110 [ptr q 0],ab aS 3 [af who],ab q 118 (eg X x e)] ?_;refine bQ ?_;refine hU [10,13] [10] ((0,.bI)::(1,.loc)::(2,.loc)::XD) [ab aO 106 eo,ab Y 32 [ptr X.h 0],ab aU 110 [ptr q 0],ab aS 3 [af who],ab q 118 (eg X x e),cL X z s] mixed gB ?_;refine c0 ?_;refine br (avM X J x.id who g O) ?_;refine pr ?_;intro p;refine go_v rfl .none rfl (jt Tryz.underlying392 rfl rfl) ?_;refine aT (iA (a7.eq_20 ..) (Y,aS,aO,bY,aU,q,I,M) u6 (jK X z.ap z.ai s.az j p 392 [ptr Y 0,ptr aS 0,ptr aO 0,ptr bY 0,ptr aU 0] t (.hV (nE 0 (lF X.C.bG X.C.aZ x.id who))) (.watched a who k) N R)) ?_;refine b6 ?_;exact aX ⟨rfl,z,_,rfl,⟨al.gL,al.gD,al.gE,by show _=(s.aJ.set _ _).length;rw[gn];exact al.ap,al.ai⟩,rfl⟩ (λh E=>jm (X:=X) (z:=z) (s:=P2) (x:=QE) B pk D h ((show∀h,Sat _ h->Sat (ia X z P2 a q QE e++D) h from by simp only[ia];rw[<-axr];exact(au)) h E))
end
section
variable(X:cN)(z:dn)(s:ao)(j:Nat)
def axv(t:bW)(a q:Nat)(x:bR)(e:hR)(m:c9)(B:At X z.ap s.aJ a q x)(V:fT x e)(I:Nat)(M:List Value)(k:Th.K)(y:Option ao)(O:m.what=2)(bf:¬x.mode=2)(aF:hr X j z s k I M y):ad aa 197 sy iJ (ct X y):=by
 refine aw Tryz.func197 λF D=>?_;haveI:=aF.iT;refine ag1 ?_;intro aO aU aS bY;exact agc
def axw(t:bW)(a q:Nat)(x:bR)(e:hR)(m:c9)(B:At X z.ap s.aJ a q x)(V:fT x e)(I:Nat)(M:List Value)(k:Th.K)(y:Option ao)(O:m.what=3)(bf:¬x.mode=2)(aF:hr X j z s k I M y):ad aa 197 sy iJ (ct X y):=by
 refine aw Tryz.func197 λF D=>?_;haveI:=aF.iT;refine ahc ?_;intro aO aU aS bY;exact agc
def axx(t:bW)(a q:Nat)(x:bR)(e:hR)(m:c9)(B:At X z.ap s.aJ a q x)(V:fT x e)(I:Nat)(M:List Value)(k:Th.K)(y:Option ao)(O:m.what=3)(bf:x.mode=2)(al:bE X z s)(J:X.C.ok)(aM:s.notes.length<most)(N:s.az[j]?=some t)(R:t.on=none)(hlen:x.kids.length<=1099511627776)(f:∀cs,0=x.kids.length->hr X j z QY tP 244 cs y)(g3:∀v:Int,x.kids[0]?=some v->∃b:Nat,v=b/\Ey/\y=some (jk QY j t b r5 (.each (.push x.kids 0) 0 x.kids.length tP))):ad aa 197 sy iJ (ct X y):=by
 refine aw Tryz.func197 λF D=>?_;have d:bE X z QY:=⟨al.gL,al.gD,al.gE,by show _=(s.aJ.set _ _).length;rw[gn];exact al.ap,al.ai⟩;refine ahc ?_;intro aO aU aS bY;refine JQ ?_;refine fr ?_;refine cu [] [6,201] [ab aO 106 eo,ab aU 110 [ptr q 0],ab q 118 ((eg X x e).set (0+13) (af 3))] ?_;refine bi ?_;refine br (pv (avu aO aU bY q I M B.ap) (akF X z s j t a q x {x with mode:=3} e 0 tP 244 [ptr aO 0,ptr aU 0,ptr bY 0] y B pk d J aM N R hlen (f _) g3)) ?_;exact aeD
def axy(t:bW)(a q:Nat)(x:bR)(e:hR)(m:c9)(B:At X z.ap s.aJ a q x)(V:fT x e)(I:Nat)(M:List Value)(k:Th.K)(y:Option ao)(hlen:x.kids.length<=most)(a6:x.kids.contains m.who=false)(aF:hr X j z s k I M y):ad aa 242 sy iJ (ct X y):=by
 refine aw Tryz.func242 λF D=>?_;haveI:=aF.iT;refine ahh ?_;intro b aO aU aS bY;refine gg ?_;exact Kq
def axz(t:bW)(a q:Nat)(x:bR)(e:hR)(m:c9)(B:At X z.ap s.aJ a q x)(V:fT x e)(I:Nat)(M:List Value)(k:Th.K)(y:Option ao)(hlen:x.kids.length<=most)(a6:x.kids.contains m.who=true)(bf:x.mode=3)(aF:hr X j z s k I M y):ad aa 242 sy iJ (ct X y):=by
 refine aw Tryz.func242 λF D=>?_;haveI:=aF.iT;refine ahj ?_;intro b aO aU aS bY;refine fW ?_;exact Kq
def axA(t:bW)(a q:Nat)(x:bR)(e:hR)(m:c9)(B:At X z.ap s.aJ a q x)(V:fT x e)(I:Nat)(M:List Value)(k:Th.K)(y:Option ao)(hlen:x.kids.length<=most)(a6:x.kids.contains m.who=true)(bf:x.mode=4)(aF:hr X j z s k I M y):ad aa 242 sy iJ (ct X y):=by
 refine aw Tryz.func242 λF D=>?_;haveI:=aF.iT;refine ahj ?_;intro b aO aU aS bY;refine bi ?_;exact aga
end
section
variable(X:cN)(z:dn)(s:ao)(j:Nat)(t:bW)(a q left:Nat)(x:bR)(e:hR)
def axB(B:At X z.ap s.aJ a q x)(V:fT x e)(bf:x.mode=1)(av:left=0)(al:bE X z s)(N:s.az[j]?=some t)(R:t.on=none):ad aa 196 Es vf (ct X (some ace)):=by
 refine aw Tryz.func196 λF D=>?_;have g:1<=x.id/\x.id<=X.C.aZ:=IC;refine agj ?_;intro Z aO aU;refine adY ?_;refine bi ?_;refine br (avE X g) ?_;refine pr ?_;intro p;refine JP ?_;refine aT (iA (a7.eq_9 ..) (Z,aO,q) u6 (jK X z.ap z.ai s.az j p 234 [ptr Z 0,ptr aO 0] t (.post x.id (Th.nR 1)) (.again a) N R)) ?_;refine cq ?_;exact aX ⟨rfl,z,_,rfl,jl,rfl⟩ (λh E=>by have:=jm (X:=X) (z:=z) (s:=ace) (x:=x) (g8:=x) B V D h ((au) h E);rw[sF (X:=X) (ap:=z.ap) (q:=q) (s:={s with az:=s.az.set j {t with on:=some (.post x.id (Th.nR 1),.again a)}}) B]at this;exact this)
def axC(t:bW)(a q left:Nat)(x:bR)(e:hR)(B:At X z.ap s.aJ a q x)(V:fT x e)(y:Option ao)(bf:x.mode=1)(av:¬left=0)(l:List Int)(id:Int)(b:x.front=l++[id])(d:l.length<=1099511627776)(h:∀cs,ad aa 238 [ptr (X.bp j) 0,ptr q 0,bw id,bj 236 cs] (a7 X z.ap z.ai j 0 (.next a left) 236 cs::ia X z s a q {x with front:=l} e) (ct X y)):ad aa 196 Es vf (ct X y):=by
 refine aw Tryz.func196 λF D=>?_;refine agW ?_;intro Z aO aU aS;refine ci rfl (b1 rfl ((show ad aa 237 [ptr e.gK 0] QS (aH (.tuple #[bw id,.bool true]) [gi e.gK X.C.dY x.aside l])from by rw[b];exact ava e.gK X.C.dY x.aside l id d)) bF) ?_;refine Ms ?_;refine nN ?_;refine bi ?_;refine br (iA (a7.eq_10 ..) (Z,aO,aU,q) u6 (h _)) ?_;exact zw
def axD(B:At X z.ap s.aJ a q x)(V:fT x e)(bf:x.mode=1)(av:¬left=0)(b:x.front=[])(al:bE X z s)(N:s.az[j]?=some t)(R:t.on=none):ad aa 196 Es vf (ct X (some ab2)):=by
 refine aw Tryz.func196 λF D=>?_;have g:1<=x.id/\x.id<=X.C.aZ:=IC;refine agW ?_;intro Z aO aU aS;refine ci rfl (b1 rfl ((show ad aa 237 [ptr e.gK 0] QS (aH (.tuple #[bw 0,.bool false]) QS)from by rw[b];exact by simpa only[b]using au9 e.gK X.C.dY x.aside)) bF) ?_;refine Ms ?_;refine lL ?_;refine bQ ?_;refine br (avA X g) ?_;refine lZ ?_;intro p;refine wn λco=>?_;refine bi ?_;refine JY ?_;refine aT (iA (a7.eq_11 ..) (co,Z,aO,aS,aU,q) u6 (jK X z.ap z.ai s.az j p 240 [ptr co 0,ptr Z 0,ptr aO 0,ptr aS 0] t (.post x.id Th.Cj) (.nr a left) N R)) ?_;refine bb ?_;exact aX ⟨rfl,z,_,rfl,jl,rfl⟩ (λh E=>by have:=jm (X:=X) (z:=z) (s:=ab2) (x:=x) (g8:=x) B V D h ((au) h E);rw[sF (X:=X) (ap:=z.ap) (q:=q) (s:={s with az:=s.az.set j {t with on:=some (.post x.id Th.Cj,.nr a left)}}) B]at this;exact this)
end
section
variable(X:cN)(z:dn)(s:ao)(j q I:Nat)(M:List Value)(k:Th.K)(y:Option ao)(aP ar U a:Nat)
def axE(I:Nat)(M:List Value)(k:Th.K)(y:Option ao)(aP ar:Nat)(h:ad aa 139 qz (bl X z s) (ct X y)):ad aa 138 tJ acR (ct X y):=by
 refine aw Tryz.func138 λF D=>?_;refine b6 ?_;exact vl
def axF(h:ad aa 245 lK la (ct X y)):ad aa 297 l3 Ee (ct X y):=by
 refine aw Tryz.func297 λF D=>?_;exact Kt
def axG(h:ad aa 245 lK la (ct X y)):ad aa 244 l3 Ee (ct X y):=by
 refine aw Tryz.func244 λF D=>?_;exact Kt
def axH(h:ad aa 364 lK la (ct X y)):ad aa 363 l3 Ee (ct X y):=by
 refine aw Tryz.func363 λF D=>?_;exact Kt
def axI(bm:z.ap[a -1]?=some q)(h:ad aa 360 [ptr (X.bp j) 0,ptr q 0,bj 361 l3] (a7 X z.ap z.ai j 0 (.shut a k) 361 l3::bl X z s) (ct X y)):ad aa 359 l3 Ee (ct X y):=by
 refine aw Tryz.func359 λF D=>?_;refine bK ?_;refine br (iA (a7.eq_27 ..) (aP,ar,U,q,I,M) ⟨rfl,rfl,bm⟩ h) ?_;exact xl
def axJ(q I:Nat)(M:List Value)(k:Th.K)(y:Option ao)(aP ar U Z p a:Nat)(a2:aq)(h:ad aa 167 [ptr (X.bp j) 0,ptr p 0,af a,bj I M] (a7 X z.ap z.ai j 0 k I M::a2::bl X z s) (ct X y)):ad aa 356 BH ([ab aP 106 eo,ab ar 246 [ptr p 0],ab U 3 [af a],ab Z 1 [bj I M],a7 X z.ap z.ai j 0 k I M,a2]++bl X z s) (ct X y):=by
 refine aw Tryz.func356 λF D=>?_;refine bB ?_;exact vl
def axK(I:Nat)(M:List Value)(k:Th.K)(y:Option ao)(aP ar a:Nat)(x:bR)(B:At X z.ap s.aJ a q x)(bf:¬x.mode=5)(h:ad aa 139 qz (bl X z s) (ct X y)):ad aa 198 tJ acS (ct X y):=by
 refine aw Tryz.func198 λF D=>?_;haveI:=B.mode;refine bi ?_;refine Q5 ?_;exact afq
def axL(x:bR)(B:At X z.ap s.aJ a q x)(aP ar:Nat)(al:bE X z s)(bf:x.mode=5):ad aa 198 tJ acS (ct X (some s)):=by
 refine aw Tryz.func198 λF D=>?_;haveI:=B.mode;refine bi ?_;refine JQ ?_;refine bB ?_;exact aX ⟨rfl,z,s,rfl,al,rfl⟩
end
section
variable(X:cN)(z:dn)(s:ao)(j:Nat)(t:bW)(a q:Nat)(x:bR)
def FA{X:cN}{ap ai:List Nat}{j p f:Nat}(ba:f=235\/f=289\/f=168\/f=94\/f=159):∀D h,Sat ([]++D) h->Sat (a7 X ap ai j p .nil f []::D) h:=λD h s=>by
 rw[a7];exact cF () ⟨ba,rfl⟩ kG h s
theorem At.UF{X:cN}{ap:List Nat}{aJ:List bR}{a q:Nat}{x:bR}(h:At X ap aJ a q x):h7 q 1 Jw (af x.parent):=h.rd λe=>rfl
def axM(al:bE X z s)(B:At X z.ap s.aJ a q x)(I:Nat)(M:List Value)(k:Th.K)(aP ar U:Nat)(N:s.az[j]?=some t)(R:t.on=none):ad aa 361 l3 Ee (ct X (some {s with az:=s.az.set j {t with on:=some (.post a (Th.nR 4),.nS a k)}})):=by
 refine aw Tryz.func361 λF D=>?_;haveI:=B.box;refine hU [5,8] [5] abP [ab aP 106 eo,ab ar 110 [ptr q 0],ax jJ] mixed gB ?_;refine bi ?_;refine br (avF X B.aW) ?_;refine pr ?_;intro p;refine JP ?_;refine aT (iA (a7.eq_28 ..) (aP,ar,U,q,I,M) ⟨rfl,rfl,B.ap⟩ (jK X z.ap z.ai s.az j p 363 l3 t (.post a (Th.nR 4)) (.nS a k) N R)) ?_;exact adU
def axN(al:bE X z s)(B:At X z.ap s.aJ a q x)(J:X.C.ok)(aP ar:Nat)(N:s.az[j]?=some t)(R:t.on=none):ad aa 234 tJ acR (ct X (some {s with az:=s.az.set j {t with on:=some (.fx (wB X.C.bA (Th.sV X.C j) x.id),.nil)}})):=by
 refine aw Tryz.func234 λF D=>?_;haveI:=gf (X:=X) (ap:=z.ap) (ai:=z.ai) N;haveI:=sH (X:=X) (ap:=z.ap) (ai:=z.ai) N;haveI:=B.vO;haveI:=B.UF;have n:=J.hg;have cx:=B.cx;have g:=B.aW;refine cu [17] [101,16,201,1,201] (ab aP 106 eo::ab ar 110 [ptr q 0]::acT) ?_;refine oz ?_;refine go_v rfl .none rfl (o6 ((x.id:Nat):Int) (by exact tp (by omega)) rfl) ?_;refine br (agP X J j x.id) ?_;refine pr ?_;intro p;refine go_v rfl .none rfl (jt Tryz.underlying169 rfl rfl) ?_;refine aT (pv (FA (f:=235) (.inl rfl)) (jK X z.ap z.ai s.az j p 235 [] t (.fx (wB X.C.bA (Th.sV X.C j) x.id)) .nil N R)) ?_;refine b6 ?_;exact JS
def axO(t:bW)(a q:Nat)(x:bR)(al:bE X z s)(B:At X z.ap s.aJ a q x)(I:Nat)(M:List Value)(k:Th.K)(aP ar U:Nat)(y:Option ao)(hp:x.parent=0)(aF:hr X j z s k I M y):ad aa 404 l3 abw (ct X y):=by
 refine aw Tryz.func404 λF D=>?_;haveI:=B.UF;haveI:=aF.iT;refine cq ?_;refine cP ?_;exact afr
def axP(al:bE X z s)(B:At X z.ap s.aJ a q x)(I:Nat)(M:List Value)(k:Th.K)(J:X.C.ok)(aP ar U:Nat)(hp:¬x.parent=0)(b:1<=x.parent/\x.parent<=X.C.aZ)(aM:s.notes.length<most)(N:s.az[j]?=some t)(R:t.on=none):ad aa 404 l3 abw (ct X (some (jk s j t x.parent (⟨4,x.id,[]⟩:c9) k))):=by
 refine aw Tryz.func404 λF D=>?_;haveI:=gf (X:=X) (ap:=z.ap) (ai:=z.ai) N;haveI:=sH (X:=X) (ap:=z.ap) (ai:=z.ai) N;haveI:=B.box;haveI:=B.vO;haveI:=B.UF;refine cq ?_;refine cP ?_;refine bB ?_;refine cu [] [11,201] [ab aP 110 [ptr q 0],ab ar 1 [bj I M],ab U 106 eo,ax jJ] ?_;refine c0 ?_;refine br (B9 X z s j x.parent (⟨4,x.id,[]⟩:c9) I M k t b J.hg aM N R) ?_;rintro _ _ ⟨rfl,cD,bn,rfl⟩;refine et ?_;refine b6 ?_;exact aX ⟨rfl,{z with na:=cD,fq:=bn},_,rfl,jl,rfl⟩
end
section
variable(X:cN)(z:dn)(s:ao)(j a q p b:Nat)(x:bR)(V:gw)(y:Option ao)
def axQ(B:At X z.ap s.aJ a q x)(aP ar U:Nat)(h:ad aa 167 [ptr (X.bp j) 0,ptr p 0,af x.id,bj 289 []] (a7 X z.ap z.ai j 0 .nil 289 []::c3 X p kH::bl X z s) (ct X y)):ad aa 288 l3 ([ab aP 106 eo,ab ar 246 [ptr p 0],ab U 110 [ptr q 0],c3 X p kH]++bl X z s) (ct X y):=by
 refine aw Tryz.func288 λF D=>?_;haveI:=B.vO;refine cu [] [6,201] [ab aP 106 eo,ab ar 246 [ptr p 0],ab U 110 [ptr q 0],ax jJ] ?_;refine bi ?_;refine br (pv (FA (f:=289) (.inr (.inl rfl))) h) ?_;refine ps ?_;exact pq
def axR(B:At X z.ap s.aJ a q x)(aP ar U:Nat)(h:ad aa 167 [ptr (X.bp j) 0,ptr p 0,af a,bj 168 []] (a7 X z.ap z.ai j 0 .nil 168 []::c3 X p kH::bl X z s) (ct X y)):ad aa 166 l3 ([ab aP 106 eo,ab ar 246 [ptr p 0],ab U 3 [af a],c3 X p kH]++bl X z s) (ct X y):=by
 refine aw Tryz.func166 λF D=>?_;refine bK ?_;refine br (pv (FA (f:=168) (.inr (.inr (.inl rfl)))) h) ?_;exact xl
def axS(a q p b:Nat)(x:bR)(V:gw)(y:Option ao)(I:Nat)(M:List Value)(k:Th.K)(who aP ar U Z aO:Nat)(aK:¬V.out=1)(aF:hr X j z s k I M y):ad aa 394 zc aaR (ct X y):=by
 refine aw Tryz.func394 λF D=>?_;haveI:=aF.iT;refine BS ?_;exact afX
def axT(I:Nat)(M:List Value)(k:Th.K)(who:Nat)(B:At X z.ap s.aJ a q x)(aP ar U Z aO:Nat)(aK:V.out=1)(h:ad aa 395 [ptr (X.bp j) 0,af x.id,af who,bj I M] la (ct X y)):ad aa 394 zc aaR (ct X y):=by
 refine aw Tryz.func394 λF D=>?_;haveI:=B.vO;refine RF ?_;refine cu [] [7,201] [ab aP 246 [ptr p 0],ab ar 1 [bj I M],ab U 106 eo,ab Z 110 [ptr q 0],ab aO 3 [af who],ax jJ] ?_;refine cq ?_;exact RO
def axU(a q p b:Nat)(x:bR)(V:gw)(y:Option ao)(I:Nat)(M:List Value)(k:Th.K)(ef J:Nat)(i:k5)(aP ar U Z aO:Nat)(aK:¬i.out=1)(aF:hr X j z s k I M y):ad aa 430 zc aaS (ct X y):=by
 refine aw Tryz.func430 λF D=>?_;haveI:=aF.iT;refine bK ?_;refine aT (Xd p X.m i) ?_;exact afX
def axV(a q p b:Nat)(x:bR)(V:gw)(y:Option ao)(I:Nat)(M:List Value)(k:Th.K)(ef J:Nat)(i:k5)(aP ar U Z aO:Nat)(aK:i.out=1)(h:ad aa 93 [ptr (X.bp j) 0,.agg (py ⟨J,ef,[103,111,110,101],0,true⟩).toArray,bj I M] la (ct X y)):ad aa 430 zc aaS (ct X y):=by
 refine aw Tryz.func430 λF D=>?_;refine bK ?_;refine aT (Xd p X.m i) ?_;refine aB rfl (fC (c:=false) yG (mo rfl rfl)) ?_;exact afE
end
section
variable(X:cN)(z:dn)(s:ao)(j q p b:Nat)(V:gw)(y:Option ao)(I:Nat)(M:List Value)(k:Th.K)(t:bW)(aP ar U Z:Nat)
def axW(aK:V.out=5)(aF:hr X j z s k I M y):ad aa 401 BH PQ (ct X y):=by
 refine aw Tryz.func401 λF D=>?_;haveI:=aF.iT;refine RE ?_;refine cq ?_;refine br (aF.spec) ?_;exact xk
def axX(e:¬V.out=5)(d:¬V.out=1)(h:ad aa 360 lK la (ct X y)):ad aa 401 BH PQ (ct X y):=by
 refine aw Tryz.func401 λF D=>?_;refine Ks ?_;refine c0 ?_;exact vl
def axY(N:s.az[j]?=some t)(u:Nat)(l:cW)(K:hG z.ai s.lets V.val u l)(aE:X.C.dG<=64)(aL:s.dead.length<most)(o:s.trace.length<most)(aM:s.bc.length<=most)(aP ar U Z:Nat)(v:sK V)(aK:V.out=1)(h:∀aI aQ,ad aa 360 lK (a7 X z.ap z.ai j 0 k I M::bl X h3 (kk s V.val l.to 2)) (ct X y)):ad aa 401 BH PQ (ct X y):=by
 refine aw Tryz.func401 λF D=>?_;haveI:=gf (X:=X) (ap:=z.ap) (ai:=z.ai) N;refine Ks ?_;refine bK ?_;refine cu [7] [104,3,202] (ab aP 246 [ptr p 0]::ab ar 1 [bj I M]::ab U 106 eo::ab Z 110 [ptr q 0]::c3 X p kH::qy) ?_;refine cq ?_;refine Ri ?_;refine go_c rfl .none rfl (b1 rfl (tL X z s V.val 2 u l K bJ aE aL o aM) bF) ?_;refine EL ?_;intro aI aQ;refine bQ ?_;refine br (h aI aQ) ?_;exact xl
def axZ(q p b:Nat)(V:gw)(y:Option ao)(I:Nat)(M:List Value)(k:Th.K)(id to:Int)(u:Nat)(l:cW)(K:hG z.ai s.lets id u l)(aE:X.C.dG<=64)(aL:s.dead.length<most)(o:s.trace.length<most)(aM:s.bc.length<=most)(aP ar U Z aO aU:Nat)(aK:V.out=2)(aF:∀aI aQ,hr X j {z with cI:=aI,cJ:=aQ} (kk s id l.to 1) k I M y):ad aa 210 sx IN (ct X y):=by
 refine aw Tryz.func210 λF D=>?_;refine RE ?_;refine cq ?_;refine ci rfl (b1 rfl (tL X z s id 1 u l K bJ aE aL o aM) bF) ?_;exact agz
def ax0(q p b:Nat)(V:gw)(y:Option ao)(I:Nat)(M:List Value)(k:Th.K)(id to:Int)(u:Nat)(l:cW)(K:hG z.ai s.lets id u l)(aE:X.C.dG<=64)(aL:s.dead.length<most)(o:s.trace.length<most)(aM:s.bc.length<=most)(aP ar U Z aO aU:Nat)(aK:V.out=3)(aF:∀aI aQ,hr X j {z with cI:=aI,cJ:=aQ} (kk s id l.to 2) k I M y):ad aa 210 sx IN (ct X y):=by
 refine aw Tryz.func210 λF D=>?_;refine Ks ?_;refine cq ?_;refine ci rfl (b1 rfl (tL X z s id 2 u l K bJ aE aL o aM) bF) ?_;exact agz
def ax1(q p b:Nat)(V:gw)(y:Option ao)(I:Nat)(M:List Value)(k:Th.K)(id to:Int)(aP ar U Z aO aU:Nat)(aM:s.bc.length<=most)(h2:¬V.out=2)(aN:¬V.out=3)(O:bs s.bc id=1)(h:ad aa 167 [ptr (X.bp j) 0,ptr p 0,af to,bj I M] (a7 X z.ap z.ai j 0 k I M::c3 X p kH::bl X z {s with bc:=du s.bc id 2}) (ct X y)):ad aa 210 sx IN (ct X y):=by
 refine ag6 ?_;intro F D;refine b6 ?_;refine cu [] [5,201] aa1 ?_;refine bB ?_;refine aT (Lg.Bo X.ld s.bc id 2 aM) ?_;refine cv ?_;refine br (h) ?_;exact xk
def ax2(q p b:Nat)(V:gw)(y:Option ao)(I:Nat)(M:List Value)(k:Th.K)(id to:Int)(aP ar U Z aO aU:Nat)(h2:¬V.out=2)(aN:¬V.out=3)(O:¬bs s.bc id=1)(h:ad aa 167 [ptr (X.bp j) 0,ptr p 0,af to,bj I M] acU (ct X y)):ad aa 210 sx IN (ct X y):=by
 refine ag6 ?_;intro F D;refine c0 ?_;refine br (h) ?_;exact xk
def ax3(a q who:Nat)(t:bW)(I:Nat)(M:List Value)(k:Th.K)(al:bE X z s)(J:X.C.ok)(bm:z.ap[a -1]?=some q)(aW:1<=who/\who<=X.C.aZ)(aP ar U Z aO:Nat)(N:s.az[j]?=some t)(R:t.on=none):ad aa 392 zc ([ab aP 32 [ptr X.h 0],ab ar 3 [af who],ab U 106 eo,ab Z 1 [bj I M],ab aO 110 [ptr q 0],a7 X z.ap z.ai j 0 k I M]++bl X z s) (ct X (some {s with az:=s.az.set j {t with on:=some (.post who Th.xE,.gone a who k)}})):=by
 refine aw Tryz.func392 λF D=>?_;have n:=J.hg;refine aG ?_;refine il [8,9,10] [9] wl [ab aP 32 [ptr X.h 0],ab ar 3 [af who],ab U 106 eo,ab Z 1 [bj I M],ab aO 110 [ptr q 0],cL X z s,fu X] ?_;refine bB ?_;refine jF rfl .none rfl (kl ((who -1:Nat):Int) eZ rfl rfl) (au) ?_;refine jF rfl .none rfl (fI rfl rfl (show who -1<X.C.aZ by omega)) (au) ?_;refine jF rfl .none rfl (gz rfl (Kw aW)) (au) ?_;refine fe ?_ ?_
 . refine br (aiQ X aW) ?_
   refine pr ?_;intro p;refine wn λaU=>?_;exact afO
 . refine wn λaU=>?_
   refine aG ?_;refine br (aiQ X aW) ?_;refine lZ ?_;intro p;exact afO
end
section
variable{X:cN}{ap ai H N:List Nat}
def akK{α:Type}:∀(l:List α) (f g:Nat->α->aq),(∀i x D h,Sat (f i x::D) h->Sat (g i x::D) h)->∀(D:List aq) (h:eA),Sat (l.mapIdx f++D) h->Sat (l.mapIdx g++D) h
 |[],_,_,_,_,_,s=>s
 |
  x::l,f,g,e,D,h,s=>by
  rw[SR]at s⊢;exact Sat.tail (λh s=>akK l _ _ (λi x D h s=>e (i+1) x D h s) D h s) (e 0 x _ h s)
def ax4{α:Type}{f g:Nat->α->aq}(l:List α)(e:∀i x D h,Sat (f i x::D) h->Sat (g i x::D) h):∀(D:List aq) (h:eA),Sat (ax (l.mapIdx f)::D) h->Sat (ax (l.mapIdx g)::D) h:=λD h s=>Sat.flat.2 (akK l f g e D h (Sat.flat.1 s))
def ax5(aW:∀i q:Nat,ap[i]?=some q->H[i]?=some q)(av:∀i q:Nat,ai[i]?=some q->N[i]?=some q){j:Nat}{t:bW}:∀D h,Sat (hF X ap ai j t::D) h->Sat (hF X H N j t::D) h:=λD h s=>by
 unfold hF at s⊢;cases aK:t.on with
 |none=>rw[aK]at s;exact s
 |
  some q=>
  obtain⟨o,k⟩:=q;rw[aK]at s;obtain⟨⟨p,f,c⟩,_,E⟩:=hd s;exact cF (p,f,c) trivial kG h (Sat.tail (λh s=>Sat.tail (λh s=>vt aW av k p f c _ h s) s) E)
def Ly(aW:∀i q:Nat,ap[i]?=some q->H[i]?=some q)(av:∀i q:Nat,ai[i]?=some q->N[i]?=some q)(l:List bW):∀(D:List aq) (h:eA),Sat (ax (de X ap ai l)::D) h->Sat (ax (de X H N l)::D) h:=
 ax4 l λi t D h s=>ax5 aW av D h s
end
end Go.Proofs.YtnnhpnccfnghdaaGreat.L.bH
