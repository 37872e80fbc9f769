import Derived.Test.YtnnhpnccfnghdaaGreatK11
set_option linter.all false
set_option maxRecDepth 8000
set_option maxHeartbeats 5600000
namespace Go.Proofs.YtnnhpnccfnghdaaGreat.L.bE
open Go.Proofs.YtnnhpnccfnghdaaGreat.L
open Go.L Go.L.Ring Go.L.dr Go.L.dX Go.L.Whl Go.L.dB Go.L.Lx Go.L.Pg
open Go.L.Led (dg du dS bs aw e2)
open Go.L.Th (bK cV da bZ ds bQ bY eE bV ar most dU cM fg eJ dP In cR cZ eK bw bL eL eM bl cB dw go br Good eg eN dT acc Inv eu eS ff busy dG ei ef e9)
attribute[local irreducible] G cz GE cT GT bU c6 cY dc Exit.then Exit.inBlock
section
variable(X:cJ)(z:dn)(s:ar)(j q I:Nat)(M:List Value)(k:Th.K)(y:Option ar)(aM av U a:Nat)
def axt(I:Nat)(M:List Value)(k:Th.K)(y:Option ar)(aM av:Nat)(h:ad aa 139 qJ (bj X z s) (cp X y)):ad aa 138 tO aco (cp X y):=by
 refine ax Tryz.func138 λF D=>?_;refine bX ?_;exact vv
def axu(h:ad aa 245 lC k9 (cp X y)):ad aa 297 lX Eg (cp X y):=by
 refine ax Tryz.func297 λF D=>?_;exact KA
def axv(h:ad aa 245 lC k9 (cp X y)):ad aa 244 lX Eg (cp X y):=by
 refine ax Tryz.func244 λF D=>?_;exact KA
def axw(h:ad aa 364 lC k9 (cp X y)):ad aa 363 lX Eg (cp X y):=by
 refine ax Tryz.func363 λF D=>?_;exact KA
def axx(bo:z.ap[a -1]?=some q)(h:ad aa 360 [ptr (X.bq j) 0,ptr q 0,bi 361 lX] (a1 X z.ap z.ai j 0 (.shut a k) 361 lX::bj X z s) (cp X y)):ad aa 359 lX Eg (cp X y):=by
 refine ax Tryz.func359 λF D=>?_;refine bF ?_;refine bt (iB (a1.eq_27 ..) (aM,av,U,q,I,M) ⟨rfl,rfl,bo⟩ h) ?_;exact xu
def axy(q I:Nat)(M:List Value)(k:Th.K)(y:Option ar)(aM av U Z p a:Nat)(ba:aq)(h:ad aa 167 [ptr (X.bq j) 0,ptr p 0,af a,bi I M] (a1 X z.ap z.ai j 0 k I M::ba::bj X z s) (cp X y)):ad aa 356 BK ([ab aM 106 en,ab av 246 [ptr p 0],ab U 3 [af a],ab Z 1 [bi I M],a1 X z.ap z.ai j 0 k I M,ba]++bj X z s) (cp X y):=by
 refine ax Tryz.func356 λF D=>?_;refine bz ?_;exact vv
def axz(I:Nat)(M:List Value)(k:Th.K)(y:Option ar)(aM av a:Nat)(x:bQ)(B:At X z.ap s.aI a q x)(bb:¬x.mode=5)(h:ad aa 139 qJ (bj X z s) (cp X y)):ad aa 198 tO acp (cp X y):=by
 refine ax Tryz.func198 λF D=>?_;haveI:=B.mode;refine bh ?_;refine QH ?_;exact ae0
def axA(x:bQ)(B:At X z.ap s.aI a q x)(aM av:Nat)(ao:bD X z s)(bb:x.mode=5):ad aa 198 tO acp (cp X (some s)):=by
 refine ax Tryz.func198 λF D=>?_;haveI:=B.mode;refine bh ?_;refine JV ?_;refine bz ?_;exact aW ⟨rfl,z,s,rfl,ao,rfl⟩
end
section
variable(X:cJ)(z:dn)(s:ar)(j:Nat)(t:bV)(a q:Nat)(x:bQ)
def Fw{X:cJ}{ap ai:List Nat}{j p f:Nat}(a8:f=235\/f=289\/f=168\/f=94\/f=159):∀D h,Sat ([]++D) h->Sat (a1 X ap ai j p .nil f []::D) h:=λD h s=>by
 rw[a1];exact cA () ⟨a8,rfl⟩ kH h s
theorem At.T3{X:cJ}{ap:List Nat}{aI:List bQ}{a q:Nat}{x:bQ}(h:At X ap aI a q x):h3 q 1 JC (af x.parent):=h.rd λe=>rfl
def axB(ao:bD X z s)(B:At X z.ap s.aI a q x)(I:Nat)(M:List Value)(k:Th.K)(aM av U:Nat)(J:s.aC[j]?=some t)(R:t.on=none):ad aa 361 lX Eg (cp X (some {s with aC:=s.aC.set j {t with on:=some (.post a (Th.nU 4),.ow a k)}})):=by
 refine ax Tryz.func361 λF D=>?_;haveI:=B.box;refine h9 [5,8] [5] abk [ab aM 106 en,ab av 110 [ptr q 0],ay jO] mixed gS ?_;refine bh ?_;refine bt (avI X B.aP) ?_;refine py ?_;intro p;refine JU ?_;refine aV (iB (a1.eq_28 ..) (aM,av,U,q,I,M) ⟨rfl,rfl,B.ap⟩ (jP X z.ap z.ai s.aC j p 363 lX t (.post a (Th.nU 4)) (.ow a k) J R)) ?_;exact adq
def axC(ao:bD X z s)(B:At X z.ap s.aI a q x)(N:X.C.ok)(aM av:Nat)(J:s.aC[j]?=some t)(R:t.on=none):ad aa 234 tO aco (cp X (some {s with aC:=s.aC.set j {t with on:=some (.fJ (wK X.C.bA (Th.sZ X.C j) x.id),.nil)}})):=by
 refine ax Tryz.func234 λF D=>?_;haveI:=gg (X:=X) (ap:=z.ap) (ai:=z.ai) J;haveI:=sN (X:=X) (ap:=z.ap) (ai:=z.ai) J;haveI:=B.vV;haveI:=B.T3;have mp:=N.ha;have cv:=B.cv;have g:=B.aP;refine ct [17] [101,16,201,1,201] (ab aM 106 en::ab av 110 [ptr q 0]::acq) ?_;refine nr ?_;refine go_v rfl .none rfl (pU ((x.id:Nat):Int) (by exact tq (by omega)) rfl) ?_;refine bt (agm X N j x.id) ?_;refine py ?_;intro p;refine go_v rfl .none rfl (jw Tryz.underlying169 rfl rfl) ?_;refine aV (pA (Fw (f:=235) (.inl rfl)) (jP X z.ap z.ai s.aC j p 235 [] t (.fJ (wK X.C.bA (Th.sZ X.C j) x.id)) .nil J R)) ?_;refine bX ?_;exact JX
def axD(t:bV)(a q:Nat)(x:bQ)(ao:bD X z s)(B:At X z.ap s.aI a q x)(I:Nat)(M:List Value)(k:Th.K)(aM av U:Nat)(y:Option ar)(hp:x.parent=0)(aX:ho X j z s k I M y):ad aa 404 lX aa1 (cp X y):=by
 refine ax Tryz.func404 λF D=>?_;haveI:=B.T3;haveI:=aX.iU;refine ch ?_;refine cH ?_;exact ae1
def axE(ao:bD X z s)(B:At X z.ap s.aI a q x)(I:Nat)(M:List Value)(k:Th.K)(N:X.C.ok)(aM av U:Nat)(hp:¬x.parent=0)(b:1<=x.parent/\x.parent<=X.C.aZ)(aS:s.notes.length<most)(J:s.aC[j]?=some t)(R:t.on=none):ad aa 404 lX aa1 (cp X (some (jB s j t x.parent (⟨4,x.id,[]⟩:da) k))):=by
 refine ax Tryz.func404 λF D=>?_;haveI:=gg (X:=X) (ap:=z.ap) (ai:=z.ai) J;haveI:=sN (X:=X) (ap:=z.ap) (ai:=z.ai) J;haveI:=B.box;haveI:=B.vV;haveI:=B.T3;refine ch ?_;refine cH ?_;refine bz ?_;refine ct [] [11,201] [ab aM 110 [ptr q 0],ab av 1 [bi I M],ab U 106 en,ay jO] ?_;refine cO ?_;refine bt (Cb X z s j x.parent (⟨4,x.id,[]⟩:da) I M k t b N.ha aS J R) ?_;rintro _ _ ⟨rfl,cl,bk,rfl⟩;refine er ?_;refine bX ?_;exact aW ⟨rfl,{z with na:=cl,fv:=bk},_,rfl,jq,rfl⟩
end
section
variable(X:cJ)(z:dn)(s:ar)(j a q p b:Nat)(x:bQ)(Y:gA)(y:Option ar)
def axF(B:At X z.ap s.aI a q x)(aM av U:Nat)(h:ad aa 167 [ptr (X.bq j) 0,ptr p 0,af x.id,bi 289 []] (a1 X z.ap z.ai j 0 .nil 289 []::cW X p kI::bj X z s) (cp X y)):ad aa 288 lX ([ab aM 106 en,ab av 246 [ptr p 0],ab U 110 [ptr q 0],cW X p kI]++bj X z s) (cp X y):=by
 refine ax Tryz.func288 λF D=>?_;haveI:=B.vV;refine ct [] [6,201] [ab aM 106 en,ab av 246 [ptr p 0],ab U 110 [ptr q 0],ay jO] ?_;refine bh ?_;refine bt (pA (Fw (f:=289) (.inr (.inl rfl))) h) ?_;refine pz ?_;exact px
def axG(B:At X z.ap s.aI a q x)(aM av U:Nat)(h:ad aa 167 [ptr (X.bq j) 0,ptr p 0,af a,bi 168 []] (a1 X z.ap z.ai j 0 .nil 168 []::cW X p kI::bj X z s) (cp X y)):ad aa 166 lX ([ab aM 106 en,ab av 246 [ptr p 0],ab U 3 [af a],cW X p kI]++bj X z s) (cp X y):=by
 refine ax Tryz.func166 λF D=>?_;refine bF ?_;refine bt (pA (Fw (f:=168) (.inr (.inr (.inl rfl)))) h) ?_;exact xu
def axH(a q p b:Nat)(x:bQ)(Y:gA)(y:Option ar)(I:Nat)(M:List Value)(k:Th.K)(who aM av U Z aN:Nat)(aJ:¬Y.out=1)(aX:ho X j z s k I M y):ad aa 394 ze aao (cp X y):=by
 refine ax Tryz.func394 λF D=>?_;haveI:=aX.iU;refine BW ?_;exact afx
def axI(I:Nat)(M:List Value)(k:Th.K)(who:Nat)(B:At X z.ap s.aI a q x)(aM av U Z aN:Nat)(aJ:Y.out=1)(h:ad aa 395 [ptr (X.bq j) 0,af x.id,af who,bi I M] k9 (cp X y)):ad aa 394 ze aao (cp X y):=by
 refine ax Tryz.func394 λF D=>?_;haveI:=B.vV;refine Rg ?_;refine ct [] [7,201] [ab aM 246 [ptr p 0],ab av 1 [bi I M],ab U 106 en,ab Z 110 [ptr q 0],ab aN 3 [af who],ay jO] ?_;refine ch ?_;exact Rp
def axJ(a q p b:Nat)(x:bQ)(Y:gA)(y:Option ar)(I:Nat)(M:List Value)(k:Th.K)(ec J:Nat)(i:k5)(aM av U Z aN:Nat)(aJ:¬i.out=1)(aX:ho X j z s k I M y):ad aa 430 ze aap (cp X y):=by
 refine ax Tryz.func430 λF D=>?_;haveI:=aX.iU;refine bF ?_;refine aV (WC p X.m i) ?_;exact afx
def axK(a q p b:Nat)(x:bQ)(Y:gA)(y:Option ar)(I:Nat)(M:List Value)(k:Th.K)(ec J:Nat)(i:k5)(aM av U Z aN:Nat)(aJ:i.out=1)(h:ad aa 93 [ptr (X.bq j) 0,.agg (pD ⟨J,ec,[103,111,110,101],0,true⟩).toArray,bi I M] k9 (cp X y)):ad aa 430 ze aap (cp X y):=by
 refine ax Tryz.func430 λF D=>?_;refine bF ?_;refine aV (WC p X.m i) ?_;refine aA rfl (fM (c:=false) yI (mc rfl rfl)) ?_;exact afe
end
section
variable(X:cJ)(z:dn)(s:ar)(j q p b:Nat)(Y:gA)(y:Option ar)(I:Nat)(M:List Value)(k:Th.K)(t:bV)(aM av U Z:Nat)
def axL(aJ:Y.out=5)(aX:ho X j z s k I M y):ad aa 401 BK Pr (cp X y):=by
 refine ax Tryz.func401 λF D=>?_;haveI:=aX.iU;refine Rf ?_;refine ch ?_;refine bt (aX.spec) ?_;exact xt
def axM(e:¬Y.out=5)(d:¬Y.out=1)(h:ad aa 360 lC k9 (cp X y)):ad aa 401 BK Pr (cp X y):=by
 refine ax Tryz.func401 λF D=>?_;refine Kz ?_;refine cO ?_;exact vv
def axN(J:s.aC[j]?=some t)(u:Nat)(l:cV)(K:hF z.ai s.lets Y.val u l)(aD:X.C.dF<=64)(aQ:s.dead.length<most)(o:s.trace.length<most)(aS:s.bf.length<=most)(aM av U Z:Nat)(v:sO Y)(aJ:Y.out=1)(h:∀aE aK,ad aa 360 lC (a1 X z.ap z.ai j 0 k I M::bj X hY (kp s Y.val l.to 2)) (cp X y)):ad aa 401 BK Pr (cp X y):=by
 refine ax Tryz.func401 λF D=>?_;haveI:=gg (X:=X) (ap:=z.ap) (ai:=z.ai) J;refine Kz ?_;refine bF ?_;refine ct [7] [104,3,202] (ab aM 246 [ptr p 0]::ab av 1 [bi I M]::ab U 106 en::ab Z 110 [ptr q 0]::cW X p kI::qI) ?_;refine ch ?_;refine QT ?_;refine go_c rfl .none rfl (b4 rfl (tQ X z s Y.val 2 u l K bN aD aQ o aS) bI) ?_;refine EK ?_;intro aE aK;refine bH ?_;refine bt (h aE aK) ?_;exact xu
def axO(q p b:Nat)(Y:gA)(y:Option ar)(I:Nat)(M:List Value)(k:Th.K)(id to:Int)(u:Nat)(l:cV)(K:hF z.ai s.lets id u l)(aD:X.C.dF<=64)(aQ:s.dead.length<most)(o:s.trace.length<most)(aS:s.bf.length<=most)(aM av U Z aN aO:Nat)(aJ:Y.out=2)(aX:∀aE aK,ho X j {z with cC:=aE,cD:=aK} (kp s id l.to 1) k I M y):ad aa 210 sE IU (cp X y):=by
 refine ax Tryz.func210 λF D=>?_;refine Rf ?_;refine ch ?_;refine cj rfl (b4 rfl (tQ X z s id 1 u l K bN aD aQ o aS) bI) ?_;exact af6
def axP(q p b:Nat)(Y:gA)(y:Option ar)(I:Nat)(M:List Value)(k:Th.K)(id to:Int)(u:Nat)(l:cV)(K:hF z.ai s.lets id u l)(aD:X.C.dF<=64)(aQ:s.dead.length<most)(o:s.trace.length<most)(aS:s.bf.length<=most)(aM av U Z aN aO:Nat)(aJ:Y.out=3)(aX:∀aE aK,ho X j {z with cC:=aE,cD:=aK} (kp s id l.to 2) k I M y):ad aa 210 sE IU (cp X y):=by
 refine ax Tryz.func210 λF D=>?_;refine Kz ?_;refine ch ?_;refine cj rfl (b4 rfl (tQ X z s id 2 u l K bN aD aQ o aS) bI) ?_;exact af6
def axQ(q p b:Nat)(Y:gA)(y:Option ar)(I:Nat)(M:List Value)(k:Th.K)(id to:Int)(aM av U Z aN aO:Nat)(aS:s.bf.length<=most)(h2:¬Y.out=2)(aH:¬Y.out=3)(O:bs s.bf id=1)(h:ad aa 167 [ptr (X.bq j) 0,ptr p 0,af to,bi I M] (a1 X z.ap z.ai j 0 k I M::cW X p kI::bj X z {s with bf:=du s.bf id 2}) (cp X y)):ad aa 210 sE IU (cp X y):=by
 refine agE ?_;intro F D;refine bX ?_;refine ct [] [5,201] aay ?_;refine bz ?_;refine aV (Lg.Bq X.ld s.bf id 2 aS) ?_;refine cr ?_;refine bt (h) ?_;exact xt
def axR(q p b:Nat)(Y:gA)(y:Option ar)(I:Nat)(M:List Value)(k:Th.K)(id to:Int)(aM av U Z aN aO:Nat)(h2:¬Y.out=2)(aH:¬Y.out=3)(O:¬bs s.bf id=1)(h:ad aa 167 [ptr (X.bq j) 0,ptr p 0,af to,bi I M] acr (cp X y)):ad aa 210 sE IU (cp X y):=by
 refine agE ?_;intro F D;refine cO ?_;refine bt (h) ?_;exact xt
def axS(a q who:Nat)(t:bV)(I:Nat)(M:List Value)(k:Th.K)(ao:bD X z s)(N:X.C.ok)(bo:z.ap[a -1]?=some q)(aP:1<=who/\who<=X.C.aZ)(aM av U Z aN:Nat)(J:s.aC[j]?=some t)(R:t.on=none):ad aa 392 ze ([ab aM 32 [ptr X.h 0],ab av 3 [af who],ab U 106 en,ab Z 1 [bi I M],ab aN 110 [ptr q 0],a1 X z.ap z.ai j 0 k I M]++bj X z s) (cp X (some {s with aC:=s.aC.set j {t with on:=some (.post who Th.xN,.gone a who k)}})):=by
 refine ax Tryz.func392 λF D=>?_;have mp:=N.ha;refine aG ?_;refine ir [8,9,10] [9] wy [ab aM 32 [ptr X.h 0],ab av 3 [af who],ab U 106 en,ab Z 1 [bi I M],ab aN 110 [ptr q 0],cG X z s,fy X] ?_;refine bz ?_;refine jJ rfl .none rfl (ks ((who -1:Nat):Int) eV rfl rfl) (au) ?_;refine jJ rfl .none rfl (fA rfl rfl (show who -1<X.C.aZ by omega)) (au) ?_;refine jJ rfl .none rfl (gy rfl (KD aP)) (au) ?_;refine e8 ?_ ?_
 . refine bt (aio X aP) ?_
   refine py ?_;intro p;refine wn λaO=>?_;exact afo
 . refine wn λaO=>?_
   refine aG ?_;refine bt (aio X aP) ?_;refine lS ?_;intro p;exact afo
end
section
variable{X:cJ}{ap ai H N:List Nat}
def ajZ{α:Type}:∀(l:List α) (f g:Nat->α->aq),(∀i x D h,Sat (f i x::D) h->Sat (g i x::D) h)->∀(D:List aq) (h:dR),Sat (l.mapIdx f++D) h->Sat (l.mapIdx g++D) h
 |[],_,_,_,_,_,s=>s
 |
  x::l,f,g,e,D,h,s=>by
  rw[Sr]at s⊢;exact Sat.tail (λh s=>ajZ l _ _ (λi x D h s=>e (i+1) x D h s) D h s) (e 0 x _ h s)
def axT{α:Type}{f g:Nat->α->aq}(l:List α)(e:∀i x D h,Sat (f i x::D) h->Sat (g i x::D) h):∀(D:List aq) (h:dR),Sat (ay (l.mapIdx f)::D) h->Sat (ay (l.mapIdx g)::D) h:=λD h s=>Sat.flat.2 (ajZ l f g e D h (Sat.flat.1 s))
def axU(aP:∀i q:Nat,ap[i]?=some q->H[i]?=some q)(aw:∀i q:Nat,ai[i]?=some q->N[i]?=some q){j:Nat}{t:bV}:∀D h,Sat (hE X ap ai j t::D) h->Sat (hE X H N j t::D) h:=λD h s=>by
 unfold hE at s⊢;cases aJ:t.on with
 |none=>rw[aJ]at s;exact s
 |
  some q=>
  obtain⟨o,k⟩:=q;rw[aJ]at s;obtain⟨⟨p,f,c⟩,_,E⟩:=hb s;exact cA (p,f,c) trivial kH h (Sat.tail (λh s=>Sat.tail (λh s=>vC aP aw k p f c _ h s) s) E)
def LB(aP:∀i q:Nat,ap[i]?=some q->H[i]?=some q)(aw:∀i q:Nat,ai[i]?=some q->N[i]?=some q)(l:List bV):∀(D:List aq) (h:dR),Sat (ay (c8 X ap ai l)::D) h->Sat (ay (c8 X H N l)::D) h:=
 axT l λi t D h s=>axU aP aw D h s
end
section
variable(X:cJ)(z:dn)(s:ar)(j:Nat)(y:Option ar)(I:Nat)(M:List Value)(k:Th.K)(p q x E ec J aM av U Z aN:Nat)(e:fw)(v:Int)(l:cV)
def axV{m:List (Int×Value)}{k:Int}{v:Value}(h:dH m k=none):eQ m k v=m++[(k,v)]:=by
 induction m with
 |nil=>rfl
 |
  cons p m L=>
  simp only[dH]at h;split at h
  . cases h
  . rename_i g7
    simp only[eQ,a6 g7,L h,cn]
def O9(ap:List Nat)(q:Nat):eQ (cf ap) ((ap.length+1:Nat):Int) (ptr q 0)=cf (ap++[q]):=by
 rw[axV (K1 ae)];simp[cf,aj0]
def aj1{ai:List Nat}{l:List cV}{q:Nat}{x:cV}(h:ai.length=l.length):gv (ai++[q]) (l++[x])=gv ai l++[Ei q x]:=by
 simp only[gv,aj0,Sr,List.mapIdx_nil];exact ad1
def xW{l:List Nat}{q:Nat}:∀i x:Nat,l[i]?=some x->(l++[q])[i]?=some x:=λi x h=>by
 rw[kS (dd.1 h).1];exact h
theorem Fx{X:cJ}{p:Nat}{v:Int}:h3 p 2 (cW X p (.gm v)) (bu v):=⟨fun{h} s=>by
 obtain⟨w,_,s1⟩:=hb (Sat.one s);obtain⟨f,_,Z⟩:=hb s1;obtain⟨h1,h2,_,rfl,aP,_⟩:=Z;exact⟨_,_,_,join_some aP,rfl⟩⟩
def axW(h:ad aa 158 [ptr (X.bq j) 0,bu v,bi I M] k9 (cp X y)):ad aa 164 ([bu v]++[ptr x 0,ptr E 0]) ([ab x 106 en,ab E 1 [bi I M],a1 X z.ap z.ai j 0 k I M]++bj X z s) (cp X y):=by
 refine ax Tryz.func164 λF D=>?_;exact KA
def axX(ao:bD X z s)(d5:s.lets.length<most)(o:s.trace.length<most)(aS:s.bf.length<=most)(hk:Led.kW s.bf)(h:∀aE aK,ad aa 158 [ptr (X.bq j) 0,bu ((s.lets.length+1:Nat):Int),bi I M] (a1 X z.ap (z.ai++[av]) j 0 k I M::bj X {z with cC:=aE,cD:=aK,ai:=(z.ai++[av])} {s with lets:=s.lets++[l],bf:=dS s.bf ((s.lets.length+1:Nat):Int) 1,trace:=s.trace++Pu}) (cp X y)):ad aa 213 ze ((ab aM 314 [ptr p 0]::ab av 187 (pD l)::ab U 32 [ptr X.h 0]::ab Z 4 [.bool false]::ab aN 259 [bi 164 [ptr x 0,ptr E 0]]::ab x 106 en::ab E 1 [bi I M]::abR)++bj X z s) (cp X y):=by
 refine ax Tryz.func213 λF D=>?_;haveI:=Fx (X:=X) (p:=p) (v:=((s.lets.length+1:Nat):Int));refine aeJ ?_;refine bt (lZ X z s (aaC:bZ) o) ?_;refine lY ?_;intro aE aK;refine bz ?_;refine cj rfl (oE rfl rfl (gx (λD h g=>by
  have gt:Sat ((a1 X z.ap z.ai j 0 k I M::ay lB::ab av 187 (pD l)::ay k8::ab x 106 en::ab E 1 [bi I M]::cG X hY {s with trace:=s.trace++Pu}::dQ aE aK (s.trace++Pu)::ZU)++D) h:=(au) h g;have L:=vC (X:=X) (j:=j) zo (xW (l:=z.ai) (q:=av)) k 0 I M _ h gt;have z3:=Sat.tail (λh g=>LB (X:=X) (ap:=z.ap) (ai:=z.ai) (H:=z.ap) (N:=(z.ai++[av])) zo xW s.aC _ h g) L;have z4:=Sat.tail abH z3;rw[<-aj1 ao.ai,show((s.lets.length+1:Nat):Int)=((z.ai.length+1:Nat):Int) by rw[ao.ai],O9]at z4;exact(show∀h,Sat _ h->Sat ([ab x 106 [ptr (X.bq j) 0],ab E 1 [bi I M],a1 X z.ap (z.ai++[av]) j 0 k I M]++bj X {z with cC:=aE,cD:=aK,ai:=(z.ai++[av])} {s with lets:=s.lets++[l],bf:=dS s.bf ((s.lets.length+1:Nat):Int) 1,trace:=s.trace++[({Th.c3 with kind:=2,id:=((s.lets.length+1:Nat):Int),cw:=l.cw,to:=l.to,name:=l.tag,n:=l.n,nN:=false}:bZ)]}++D) h from by rw[show((z.ai.length+1:Nat):Int)=((s.lets.length+1:Nat):Int) by rw[ao.ai]];exact(au)) h z4) (axW X {z with cC:=aE,cD:=aK,ai:=(z.ai++[av])} {s with lets:=s.lets++[l],bf:=dS s.bf ((s.lets.length+1:Nat):Int) 1,trace:=s.trace++[({Th.c3 with kind:=2,id:=((s.lets.length+1:Nat):Int),cw:=l.cw,to:=l.to,name:=l.tag,n:=l.n,nN:=false}:bZ)]} j y I M k x E ((s.lets.length+1:Nat):Int) (h aE aK))) bI) ?_
 exact B0
def axY(h:ad aa 345 (ptr (X.bq j) 0::ptr q 0::bu v::P2) k9 (cp X y)):ad aa 344 ([bu v]++[ptr x 0,ptr E 0,ptr ec 0,ptr J 0]) ([ab x 106 en,ab E 110 [ptr q 0],ab ec 87 (fz e),ab J 1 [bi I M],a1 X z.ap z.ai j 0 k I M]++bj X z s) (cp X y):=by
 refine ax Tryz.func344 λF D=>?_;exact ae0
def axZ(ao:bD X z s)(d5:s.lets.length<most)(o:s.trace.length<most)(aS:s.bf.length<=most)(hk:Led.kW s.bf)(h:∀aE aK,ad aa 345 (ptr (X.bq j) 0::ptr q 0::bu ((s.lets.length+1:Nat):Int)::P2) (a1 X z.ap (z.ai++[av]) j 0 k I M::bj X {z with cC:=aE,cD:=aK,ai:=(z.ai++[av])} {s with lets:=s.lets++[l],bf:=dS s.bf ((s.lets.length+1:Nat):Int) 1,trace:=s.trace++Pv}) (cp X y)):ad aa 213 ze ((ab aM 314 [ptr p 0]::ab av 187 (pD l)::ab U 32 [ptr X.h 0]::ab Z 4 [.bool true]::ab aN 259 [bi 344 [ptr x 0,ptr E 0,ptr ec 0,ptr J 0]]::ab x 106 en::ab E 110 [ptr q 0]::ab ec 87 (fz e)::ab J 1 [bi I M]::abR)++bj X z s) (cp X y):=by
 refine ax Tryz.func213 λF D=>?_;haveI:=Fx (X:=X) (p:=p) (v:=((s.lets.length+1:Nat):Int));refine aeJ ?_;refine bt (lZ X z s (aaD:bZ) o) ?_;refine lY ?_;intro aE aK;refine bz ?_;refine cj rfl (oE rfl rfl (gx (λD h g=>by
  have gt:Sat ((a1 X z.ap z.ai j 0 k I M::ay lB::ab av 187 (pD l)::ay k8::ab x 106 en::ab E 110 [ptr q 0]::ab ec 87 (fz e)::ab J 1 [bi I M]::cG X hY {s with trace:=s.trace++Pv}::dQ aE aK (s.trace++Pv)::ZU)++D) h:=(au) h g;have L:=vC (X:=X) (j:=j) zo (xW (l:=z.ai) (q:=av)) k 0 I M _ h gt;have z3:=Sat.tail (λh g=>LB (X:=X) (ap:=z.ap) (ai:=z.ai) (H:=z.ap) (N:=(z.ai++[av])) zo xW s.aC _ h g) L;have z4:=Sat.tail abH z3;rw[<-aj1 ao.ai,show((s.lets.length+1:Nat):Int)=((z.ai.length+1:Nat):Int) by rw[ao.ai],O9]at z4;exact(show∀h,Sat _ h->Sat ([ab x 106 [ptr (X.bq j) 0],ab E 110 [ptr q 0],ab ec 87 (fz e),ab J 1 [bi I M],a1 X z.ap (z.ai++[av]) j 0 k I M]++bj X {z with cC:=aE,cD:=aK,ai:=(z.ai++[av])} {s with lets:=s.lets++[l],bf:=dS s.bf ((s.lets.length+1:Nat):Int) 1,trace:=s.trace++[({Th.c3 with kind:=2,id:=((s.lets.length+1:Nat):Int),cw:=l.cw,to:=l.to,name:=l.tag,n:=l.n,nN:=true}:bZ)]}++D) h from by rw[show((z.ai.length+1:Nat):Int)=((s.lets.length+1:Nat):Int) by rw[ao.ai]];exact(au)) h z4) (axY X {z with cC:=aE,cD:=aK,ai:=(z.ai++[av])} {s with lets:=s.lets++[l],bf:=dS s.bf ((s.lets.length+1:Nat):Int) 1,trace:=s.trace++[({Th.c3 with kind:=2,id:=((s.lets.length+1:Nat):Int),cw:=l.cw,to:=l.to,name:=l.tag,n:=l.n,nN:=true}:bZ)]} j y I M k q x E ec J e ((s.lets.length+1:Nat):Int) (h aE aK))) bI) ?_
 exact B0
end
section
variable(X:cJ)(z:dn)(s:ar)(j i n O dN d3 cm d4 aM av U I:Nat)(M:List Value)(k:Th.K)(a q:Nat)(x:bQ)(y:Option ar)
def ax0(ea:Option Addr)(cQ:Nat)(ids:List Int)(v:Int)(V:ids[i]?=some v)(r:0<=v)(t:bV)(ao:bD X z s)(J:s.aC[j]?=some t)(R:t.on=none):ad aa 346 ab6 ((ab O 3 [af i]::ab dN 188 rJ::ab d3 3 [af n]::ab cm 255 [bi 346 lX]::ab d4 1 [bi I M]::aaR)++bj X z s) (cp X (some {s with aC:=s.aC.set j {t with on:=some (.eY (r7 v),.each (.cancel ids) i n k)}})):=by
 refine ax Tryz.func346 λF D=>?_;have B:=(dd.1 V).1;refine h9 [9,12] [9] [(0,.bJ),(1,.loc),(2,.loc),(3,.loc),(4,.loc),(5,.loc),(6,.loc),(7,.loc),(8,.loc),(11,.bJ),(9,.c0),(10,.loc),(12,.c0)] [ab aM 106 en,ab av 32 [ptr X.h 0],ab U 49 [ul ea cQ ids],fH ea cQ ids,cG X z s] mixed gS ?_;refine ch ?_;refine adI ?_;refine bt (avW X s.bs v r) ?_;refine py ?_;intro p;refine go_v rfl .none rfl Jr ?_;refine aV (iB (a1.eq_34 ..) (O,dN,d3,cm,d4,aM,av,U,I,M,ea,cQ) ⟨rfl,rfl⟩ (jP X z.ap z.ai s.aC j p 208 sH t (.eY (r7 v)) (.each (.cancel ids) i n k) J R)) ?_;exact adq
def ax1(U I:Nat)(M:List Value)(k:Th.K)(ea:Option Addr)(cQ:Nat)(due:List Int)(v:Int)(y:Option ar)(V:due[i]?=some v)(h:ad aa 158 [ptr (X.bq j) 0,bu v,bi 208 sH] (a1 X z.ap z.ai j 0 (.each (.leave due) i n k) 208 sH::bj X z s) (cp X y)):ad aa 157 P5 ((ab O 3 [af i]::ab dN 188 rJ::ab d3 3 [af n]::ab cm 255 [bi 157 tO]::ab d4 1 [bi I M]::abo)++bj X z s) (cp X y):=by
 refine ax Tryz.func157 λF D=>?_;have B:=(dd.1 V).1;refine ct [] [6,201] [ab aM 106 en,ab av 49 [ul ea cQ due],fH ea cQ due] ?_;refine bX ?_;refine adI ?_;refine bt (iB (a1.eq_35 ..) (O,dN,d3,cm,d4,aM,av,I,M,ea,cQ) dD h) ?_;refine pz ?_;exact px
def ax2(B:At X z.ap s.aI a q x)(al:i<4611686018427387904)(aj:i+1=x.id)(aX:ho X j z s Qv 208 sH y):ad aa 403 P5 Z5 (cp X y):=by
 refine ax Tryz.func403 λF D=>?_;haveI:=B.vV;refine ael ?_;refine bh ?_;refine bt (iB (a1.eq_33 ..) (O,dN,d3,cm,d4,aM,av,U,q,I,M) ⟨rfl,rfl,B.ap,rfl⟩ aX.spec) ?_;exact zx
def ax3(B:At X z.ap s.aI a q x)(al:i<4611686018427387904)(aj:¬i+1=x.id)(h:ad aa 395 [ptr (X.bq j) 0,af (i+1:Nat),af x.id,bi 208 sH] (a1 X z.ap z.ai j 0 Qv 208 sH::bj X z s) (cp X y)):ad aa 403 P5 Z5 (cp X y):=by
 refine ax Tryz.func403 λF D=>?_;haveI:=B.vV;refine ael ?_;refine bz ?_;refine ct [] [8,201] [ab aM 110 [ptr q 0],ab av 106 en,ab U 1 [bi I M],ay jO] ?_;refine a7 ?_;refine go_v rfl .none rfl (fo (((i+1:Nat):Int)) eV rfl rfl) ?_;refine bz ?_;refine bt (iB (a1.eq_33 ..) (O,dN,d3,cm,d4,aM,av,U,q,I,M) ⟨rfl,rfl,B.ap,rfl⟩ h) ?_;refine pz ?_;exact px
end
section
variable(X:cJ)(z:dn)(s:ar)(j a q p:Nat)(x:bQ)(e:hR)(m:da)(ac:hy)(y:Option ar)(I:Nat)(M:List Value)(k:Th.K)(aM av U Z aN aO:Nat)
def as3{x:Int}(h:0<=x/\x<=18446744073709551615):IntKind.i64.wrap x=Th.q0 x:=by
 unfold IntKind.wrap Th.q0;simp[IntKind.bits,IntKind.signed];omega
def ax4(hp:ac.out=0->ac.val=0)(V:0<=ac.val/\ac.val<=18446744073709551615)(az:∀p∈x.given,p.2.length<1099511627776)(T:qQ oT oU (dU x.given m.who) xf=0)(h:ad aa 300 [ptr (X.bq j) 0,ptr q 0,.agg (iA m).toArray,af 3,bi I M] iJ (cp X y)):ad aa 302 sE aaj (cp X y):=by
 refine ago ?_;intro F D d ip;rw[show zA (min (max e.b5.limit 0) 100) (min (max e.b5.within 1) 4095) x.given m.who (Th.q0 ac.val)=x.given from by simp[zA,T]];refine aG ?_;refine go_v rfl .none rfl (fM (c:=true) (by simp[T]) (qF rfl)) ?_;refine fx ?_;exact vv
def ax5(hp:ac.out=0->ac.val=0)(V:0<=ac.val/\ac.val<=18446744073709551615)(az:∀p∈x.given,p.2.length<1099511627776)(T:¬qQ oT oU (dU x.given m.who) xf=0)(h:ad aa 300 [ptr (X.bq j) 0,ptr q 0,.agg (iA m).toArray,af 2,bi I M] (a1 X z.ap z.ai j 0 k I M::h6 X z s a q {x with given:=zA oT oU x.given m.who xf} e) (cp X y)):ad aa 302 sE aaj (cp X y):=by
 refine ago ?_;intro F D d ip;refine aG ?_;refine go_v rfl .none rfl (fM (c:=false) (by simp[T]) (qF rfl)) ?_;exact afe
end
section
variable{P:Program}{f:FuncId}{args:List Value}
def xX{bx:Type}{p:bx->Prop}{A:bx->List aq}{ba:List aq}{post:Value->List aq->Prop}(h:∀i,p i->ad P f args (A i++ba) post):ad P f args (df p A::ba) post:=λF D w s=>by
 obtain⟨i,al,E⟩:=hb s.eI;exact h i al F D w ⟨s.os,s.tape,s.output,s.size,by rw[jI];exact E⟩
def ayS{A B:aq}{ba:List aq}{post:Value->List aq->Prop}(h1:ad P f args (A::ba) post)(h2:ad P f args (B::ba) post):ad P f args (E1 A B::ba) post:=λF D w s=>by
 rcases Sn s.eI with E|E
 . exact h1 F D w ⟨s.os,s.tape,s.output,s.size,E⟩
 . exact h2 F D w ⟨s.os,s.tape,s.output,s.size,E⟩
end
section
variable{X:cJ}{ap ai:List Nat}{j p f:Nat}{k:Th.K}{c:List Value}{ba:List aq}{post:Value->List aq->Prop}
def iV{bx:Type}{fR:bx->Prop}{l:bx->List aq}{ba:List aq}{post:Value->List aq->Prop}(e:a1 X ap ai j p k f c=df fR l)(h:∀x,fR x->ad aa f c (l x++ba) post):ad aa f c (a1 X ap ai j p k f c::ba) post:=by
 rw[e];exact xX h
def ayT{a:Nat}{k:Th.K}{ba:List aq}{post:Value->List aq->Prop}(bn:∀(aM:Nat) (av:Nat) (U:Nat) (z:Nat) (I:Nat) (M:List Value),ap[a -1]?=some z->ad aa 297 lX abe post)(h1:∀(aM:Nat) (av:Nat) (U:Nat) (z:Nat) (I:Nat) (M:List Value),ap[a -1]?=some z->ad aa 244 lX abe post):ad aa f c (a1 X ap ai j p tU f c::ba) post:=by
 rw[a1];exact ayS (xX (fun⟨aM,av,U,z,I,M⟩ ⟨a8,a2,g⟩=>by subst a8;subst a2;exact bn aM av U z I M g)) (xX (fun⟨aM,av,U,z,I,M⟩ ⟨a8,a2,g⟩=>by subst a8;subst a2;exact h1 aM av U z I M g))
def ayU(h:∀f:Nat,(f=235\/f=289\/f=168\/f=94\/f=159)->ad aa f [] ba post):ad aa f c (a1 X ap ai j p .nil f c::ba) post:=by
 rw[a1];exact xX (λ_ ⟨a8,a2⟩=>by subst a2;exact h f a8)
theorem TB(k:Th.K)(p f:Nat)(c:List Value)(D:List aq)(h:dR)(s:Sat (a1 X ap ai j p k f c::D) h):eU aa f:=by
 unfold a1 at s;split at s
 all_goals first
  |(obtain⟨_,⟨rfl,_⟩,_⟩:=hb s;exact e7)
  |(obtain⟨_,⟨a8,_⟩,_⟩:=hb s;rcases a8 with rfl|rfl|rfl|rfl|rfl<;>exact e7)
  |(rcases Sn s with s|s<;>(obtain⟨_,⟨rfl,_⟩,_⟩:=hb s;exact e7))
  |(obtain⟨_,h,_⟩:=hb s;exact False.elim h)
def uk{I f:Nat}{k:Th.K}{M args:List Value}{ba:List aq}{post:Value->List aq->Prop}(h:eU aa I->ad aa f args JA post):ad aa f args JA post:=λF D w s=>h (TB k p I M _ _ s.eI) F D w s
end
section
variable{P:Program}{f:FuncId}{args:List Value}{A:aq}{X:cJ}{j:Nat}{z:dn}{s y:ar}{I:Nat}{M:List Value}{k:Th.K}{g:ar->bY->Th.K->Option ar}{a q b:Nat}{x:bQ}{id:Int}{e:hR}{post:Value->List aq->Prop}
def jQ{I N:List aq}{Q post:Value->List aq->Prop}(a:List aq)(h:ad P f args I Q)(i:∀h,Sat N h->Sat (I++a) h)(g:∀u H,Q u H->∃c,post u c/\∀h,Sat (H++a) h->Sat c h):ad P f args N post:=λF D w s=>
 (h F (a++D) w acm).mono λ_ _ ⟨v,H,e,p,s⟩=>let⟨c,S,O⟩:=g v H p;abP
def hx(X:cJ)(j:Nat)(g:ar->bY->Th.K->Option ar):Prop:=∀(z:dn) (s:ar) (k:Th.K) (y:ar) (I:Nat) (M:List Value),bD X z s->g s Th.dA k=some y->ad aa I M (a1 X z.ap z.ai j 0 k I M::bj X z s) (cp X (some y))
def At.of{j a:Nat}{x:bQ}(ao:bD X z s)(b7:cM X.C j s)(h:Th.dz s a=some x):∃q,At X z.ap s.aI a q x:=by
 obtain⟨h1,B⟩:=b7.aI a x h;unfold Th.dz at h;rw[bg h1]at h;have d5:=(dd.1 h).1;exact⟨_,cq (show a -1<z.ap.length by rw[ao.ap];exact d5),h,B.id,h1,by have:=b7.na;omega⟩
def At.dz{X:cJ}{ap:List Nat}{s:ar}{a q:Nat}{x:bQ}(h:At X ap s.aI a q x):Th.dz s a=some x:=by
 unfold Th.dz;rw[bg h.aP.1];exact h.ag
def At.qj{ap:List Nat}{s:ar}{j a q:Nat}{x:bQ}(h:At X ap s.aI a q x)(b7:cM X.C j s):fg a x:=(b7.aI a x h.dz).2
def CB{hm x:bQ}{e:hR}{post:Value->List aq->Prop}(B:At X z.ap s.aI a q hm)(Y:fU x e)(h:ad P f args (A::bj X z tT) post):ad P f args (A::h6 X z s a q x e) post:=
 gx (λD h t=>Sat.tail (λh t=>jr B Y D h t) t) h
def vP(B:At X z.ap s.aI a q x)(Y:fU x e)(h:ad P f args (A::bj X z s) post):ad P f args (A::h6 X z s a q x e) post:=
 CB B Y (by rw[sL B];exact h)
def ayV(B:At X z.ap s.aI a q x)(Y:fU x e)(h:ad P f args (bj X z s) post):ad P f args vp post:=
 gx (λD h t=>by have:=jr B Y D h t;rw[sL B]at this;exact this) h
def ayW(B:At X z.ap s.aI a q x)(h:∀e,fU x e->ad P f args vp post):ad P f args (bj X z s) post:=by
 have h2:ad P f args (fu::bj X z s) post:=q3 B λe Y=>gx (λD h t=>Sat.drop t) (h e Y);exact gx (λD h t=>yc h t) h2
def Fy{p b a:Nat}{Y:gA}(N:X.C.ok)(C:hx X j g)(ao:bD X z s)(aP:a<=X.C.aZ)(aQ:Th.cZ k)(ah:Th.pF X.C g j s kI a k=some y):ad aa 167 [ptr (X.bq j) 0,ptr p 0,af a,bi I M] acr dV:=by
 refine uk λa8=>?_;simp only[Th.pF]at ah;split at ah
 . rename_i h
   obtain⟨t,J,R,rfl⟩:=Th.kd ah;by_cases u:Y.out=7
   . refine ax Tryz.func167 λF D=>?_
     haveI:=gg (X:=X) (ap:=z.ap) (ai:=z.ai) J;haveI:=sN (X:=X) (ap:=z.ap) (ai:=z.ai) J;have mp:=N.ha;refine BW ?_;refine cH ?_;refine cO ?_;exact agl
   . have h:Y.out=8:=ae
     refine ax Tryz.func167 λF D=>?_;haveI:=gg (X:=X) (ap:=z.ap) (ai:=z.ai) J;haveI:=sN (X:=X) (ap:=z.ap) (ai:=z.ai) J;have mp:=N.ha;refine afv ?_;refine bz ?_;exact agl
 . rename_i h
   have u:¬Y.out=7:=ae;have L:¬Y.out=8:=ae;have aX:ho X j z s k I M (some y):=sK;refine ax Tryz.func167 λF D=>?_;haveI:=aX.iU;refine afv ?_;refine bH ?_;refine bt (aX.spec) ?_;exact Kl
def TC{l:cV}(ao:bD X z s)(ah:Th.Cg j s l k=some y):ad aa 93 [ptr (X.bq j) 0,.agg (pD l).toArray,bi I M] k9 dV:=by
 obtain⟨t,J,R,rfl⟩:=Th.kd ah;exact jQ Pl (avU X z s j t l I M k J R) au (λu H q=>by
  obtain⟨rfl,rfl⟩:=q;exact⟨bj X z ab8,⟨rfl,z,ab8,rfl,jq,rfl⟩,au⟩)
def akd(N:X.C.ok)(ao:bD X z s)(ah:Th.xO X.C j s a b k=some y):ad aa 395 [ptr (X.bq j) 0,af a,af b,bi I M] k9 dV:=by
 unfold Th.xO at ah;split at ah
 . rename_i a2
   obtain⟨t,J,R,rfl⟩:=Th.kd ah;exact jQ (dQ z.cC z.cD s.trace::fp z.na z.fv s.notes::b2 X.am .i64 (cf z.ap)::ay jO::b2 X.e5 .u64 (cf z.ai)::ay k8::Lg.dp X.ld s.bf::ey X.c4 X.C.dF s.dead::cg X.m s.L z.tt::fI X::fC X s.bs::ay (ed X)::fy X::IW) (avR X z s j t a b I M k N ⟨a2.1,a2.2.1⟩ ⟨a2.2.2.1,a2.2.2.2⟩ J R) au (λu H q=>by
    obtain⟨rfl,rfl⟩:=q;exact⟨bj X z aa5,⟨rfl,z,aa5,rfl,jq,rfl⟩,au⟩)
 . cases ah
theorem ayX{e:fw}(ao:bD X z s)(bo:z.ap[a -1]?=some q)(cv:0<=id)(ah:Th.Ld j s a id e k=some y):ad aa 345 ack k9 dV:=by
 obtain⟨t,J,R,rfl⟩:=Th.kd ah;exact jQ (dQ z.cC z.cD s.trace::fp z.na z.fv s.notes::b2 X.am .i64 (cf z.ap)::ay jO::b2 X.e5 .u64 (cf z.ai)::ay k8::Lg.dp X.ld s.bf::ey X.c4 X.C.dF s.dead::cg X.m s.L z.tt::fI X::aaB) (avX X z s j t a q id e I M k bo cv J R) au (λu H q=>by
  obtain⟨rfl,rfl⟩:=q;exact⟨bj X z abt,⟨rfl,z,abt,rfl,jq,rfl⟩,au⟩)
def ake(ao:bD X z s)(b7:cM X.C j s)(B:At X z.ap s.aI a q x)(ah:Th.zO j s a=some y):ad aa 232 qJ (bj X z s) dV:=by
 obtain⟨t0,i,hO⟩:=b7.j1;simp only[Th.zO,B.dz,bind,Option.bind]at ah;split at ah
 . rename_i bb
   cases ah;exact jQ Pd (avY X z s j t0 a q x B bb) au (λu H q=>by
    obtain⟨rfl,rfl⟩:=q;exact⟨bj X z s,⟨rfl,z,s,rfl,ao,rfl⟩,au⟩)
 . rename_i bb
   obtain⟨t,J,R,rfl⟩:=Th.kd ah;exact jQ IQ (avZ X z s j t a q x B bb J R) au (λu H q=>by
    obtain⟨rfl,rfl⟩:=q;exact⟨bj X z aba,⟨rfl,z,aba,rfl,jq,rfl⟩,au⟩)
def akf(ao:bD X z s)(B:At X z.ap s.aI a q x)(ah:Th.Ci j s a=some y):ad aa 139 qJ (bj X z s) dV:=by
 obtain⟨t,J,R,rfl⟩:=Th.kd ah;exact jQ IQ (avK X z.ap z.ai s.aI s.aC j a q x t B J R) au (λu H q=>by
  obtain⟨rfl,rfl⟩:=q;exact⟨bj X z abU,⟨rfl,z,abU,rfl,jq,rfl⟩,au⟩)
def ar7(ao:bD X z s)(B:At X z.ap s.aI a q x)(ah:Th.hq j s (.post a (Th.nU 2)) (.run a)=some y):ad aa 84 qJ (bj X z s) dV:=by
 obtain⟨t,J,R,rfl⟩:=Th.kd ah;exact jQ IQ (avL X z.ap z.ai s.aI s.aC j a q x t B J R) au (λu H q=>by
  obtain⟨rfl,rfl⟩:=q;exact⟨bj X z abS,⟨rfl,z,abS,rfl,jq,rfl⟩,au⟩)
def TD(ao:bD X z s)(B:At X z.ap s.aI a q x)(ah:Th.hq j s ED (.lc a k)=some y):ad aa 360 lC k9 dV:=by
 obtain⟨t,J,R,rfl⟩:=Th.kd ah;exact jQ IQ (aw4 X z s j t a q x B I M k J R) au (λu H q=>by
  obtain⟨rfl,rfl⟩:=q;exact⟨bj X z abO,⟨rfl,z,abO,rfl,jq,rfl⟩,au⟩)
def ayY{slot:Nat}{kind:cy}(ao:bD X z s)(bo:z.ap[a -1]?=some q)(ah:Th.hq j s (.add 1 1) (.mE a kind slot k)=some y):ad aa 343 [ptr (X.bq j) 0,ptr q 0,af slot,S kind,bi I M] k9 dV:=by
 obtain⟨t,J,R,rfl⟩:=Th.kd ah;exact jQ Pl (avV X z s j t a q slot kind I M k bo J R) au (λu H q=>by
  obtain⟨rfl,rfl⟩:=q;exact⟨bj X z abK,⟨rfl,z,abK,rfl,jq,rfl⟩,au⟩)
theorem akg(N:X.C.ok)(C:hx X j g)(ao:bD X z s)(b7:cM X.C j s)(ah:Th.ug X.C g j s id k=some y):ad aa 158 [ptr (X.bq j) 0,bu id,bi I M] k9 dV:=by
 refine uk λa8=>?_;obtain⟨t0,i,hO⟩:=b7.j1;unfold Th.ug at ah;cases aw:Th.kq s id with
 |none=>rw[aw]at ah;cases ah
 |
  some l=>
  rw[aw]at ah;simp only[bind,Option.bind]at ah;obtain⟨q,K⟩:=hF.of ao aw;split at ah
  . rename_i bn
    cases hk:Th.kill id 3 s with
    |none=>rw[hk]at ah;cases ah
    |
     some s1=>
     rw[hk]at ah;obtain⟨g9,W,aQ,o,_,rfl⟩:=Th.Cp hk;obtain rfl:l=g9:=by rw[aw]at W;cases W;rfl
     have aD:X.C.dF<=64:=N.s5;have aS:s.bf.length<=most:=b7.l6;have aX:∀cu,bD X cu (kp s id l.to 3)->ho X j cu (kp s id l.to 3) k I M (some y):=(λcu fd=>⟨a8,C cu _ k y I M fd ah⟩);refine ax Tryz.func158 λF D=>?_;haveI:=gg (X:=X) (ap:=z.ap) (ai:=z.ai) i;haveI:=K.rd (bv:=1) (v:=af l.to) rfl;refine a7 ?_;refine wn λZ=>?_;refine wn λaN=>?_;refine wn λaO=>?_;refine bX ?_;refine ir [16,17,18,19] [16,17,18] abf aaE ?_;refine dx ?_;refine jJ rfl .none rfl QB (au) ?_;refine bX ?_;refine e8 ?_ ?_
     ·
      refine wn λaR=>?_;refine aG ?_;refine wn λbW=>?_;refine cr ?_;refine cH ?_;refine ch ?_;refine cj rfl acG ?_;rintro _ D ⟨_,⟨rfl,a,c,rfl⟩,rfl⟩
      try simp only[cn,ci]
      haveI:=(aX Ej jq).iU;refine bz ?_;refine bt ab5 ?_;rintro _ _ ⟨rfl,cu,aY,ag,fd,rfl⟩;refine er ?_;refine bz ?_;exact aW BP
     ·
      refine wn λbW=>?_;refine aG ?_;refine wn λaR=>?_;refine cr ?_;refine cH ?_;refine ch ?_;refine cj rfl acG ?_;rintro _ D ⟨_,⟨rfl,a,c,rfl⟩,rfl⟩
      try simp only[cn,ci]
      haveI:=(aX Ej jq).iU;refine bz ?_;refine bt ab5 ?_;rintro _ _ ⟨rfl,cu,aY,ag,fd,rfl⟩;refine er ?_;refine bz ?_;exact aW BP
  . split at ah
    . rename_i rg
      obtain⟨t,J,R,rfl⟩:=Th.kd ah;exact jQ (dQ z.cC z.cD s.trace::fp z.na z.fv s.notes::b2 X.am .i64 (cf z.ap)::ay jO::aam) (av0 X z s j t id q l K I M k rg N.ha J R) au (λu H q=>by
       obtain⟨rfl,rfl⟩:=q;exact⟨bj X z abm,⟨rfl,z,abm,rfl,jq,rfl⟩,au⟩)
    . cases ah
def ayZ{who:Nat}{x:bQ}(N:X.C.ok)(ao:bD X z s)(B:At X z.ap s.aI a q x)(ah:Th.Cl X.C j s a who k=some y):ad aa 348 [ptr (X.bq j) 0,ptr q 0,af who,bi I M] k9 dV:=by
 obtain rfl:a=x.id:=B.cv.symm;simp only[Th.Cl,B.dz,bind,Option.bind]at ah;split at ah
 . rename_i O
   obtain⟨t,J,R,rfl⟩:=Th.kd ah;refine q3 B λe Y=>?_;have h2:=axj X z s j t x.id q x e ao B Y I M k who N O J R;exact h2
 . cases ah
def TE(N:X.C.ok)(C:hx X j g)(ao:bD X z s)(b7:cM X.C j s)(B:At X z.ap s.aI a q x)(ah:Th.s3 X.C g j s a k=some y):ad aa 241 lC k9 dV:=by
 refine uk λa8=>?_;obtain⟨t0,i,hO⟩:=b7.j1;have O:=B.qj b7;simp only[Th.s3,B.dz,bind,Option.bind]at ah;refine q3 B λe Y=>?_;split at ah
 . rename_i bb
   by_cases bm:x.mode=4
   . exact aw1 X z s j t0 a q x e ao B Y I M k (some y) bm sK
   . exact aw2 X z s j t0 a q x e ao B Y I M k (some y) ae sK
 . rename_i bb
   cases R:Th.iM (PS:bZ) (Th.c7 s a BE)with
   |none=>rw[R]at ah;cases ah
   |
    some s1=>
    rw[R]at ah;obtain⟨o,rfl⟩:=Th.l4 R;replace o:s.trace.length<most:=o;refine aw3 X z s j t0 a q x e ao B Y I M k (some y) N b7.notes o i hO (xz O.kids) ae ae (λaE aK cs bn=>?_) (λv V=>?_)
    . rcases Th.Cq ah with⟨_,ah⟩|⟨b,t,h1,_⟩
      . exact⟨e7,C _ _ _ y _ cs ⟨ao.gK,ao.gE,ao.gF,by show _=(s.aI.set _ _).length;rw[gq];exact ao.ap,ao.ai⟩ ah⟩
      . exfalso;omega
    . rcases Th.Cq ah with⟨bn,ah⟩|⟨b,t,h1,h2,aH,bm,dk,rfl⟩
      . exfalso;have:=(dd.1 V).1;omega
      . rw[V]at h2;cases h2
        replace bm:s.aC[j]?=some t:=bm;rw[i]at bm;cases bm;exact⟨b,rfl,aH,rfl⟩
def TF{reason:cy}(N:X.C.ok)(C:hx X j g)(ao:bD X z s)(b7:cM X.C j s)(B:At X z.ap s.aI a q x)(ah:Th.uh X.C g j s a reason k=some y):ad aa 296 Jd k9 dV:=by
 obtain rfl:a=x.id:=B.cv.symm;obtain⟨t0,i,hO⟩:=b7.j1;have O:=B.qj b7;simp only[Th.uh,B.dz,bind,Option.bind]at ah;cases R:Th.iM (PK:bZ) (Th.c7 s x.id rN)with
 |none=>rw[R]at ah;cases ah
 |
  some s1=>
  rw[R]at ah;obtain⟨o,rfl⟩:=Th.l4 R;replace o:s.trace.length<most:=o;simp only at ah;refine q3 B λe Y=>?_;split at ah
  . rename_i bn
    refine aw6 X z s j t0 x.id q x e ao B Y I M k (some y) reason bn (λaE aK=>?_) o i hO;refine CB (x:={x with mode:=2}) (B:At X _ _ x.id q x) ⟨Y.b5,Y.la,Y.es⟩ ?_;have E:cM X.C j (Th.c7 BC x.id rN):=(b7.z7 (aY:=BC) rfl Th.dP.same rfl rfl rfl Bz b7.np.2).set (x:=rN) B.aP.1 ⟨O.id,O.kids,O.q1⟩;exact TE (z:=hY) (s:=Th.c7 BC x.id rN) (x:=rN) N C ⟨ao.gK,ao.gE,ao.gF,by show _=(s.aI.set _ _).length;rw[gq];exact ao.ap,ao.ai⟩ E (At.set (n:=rN) B rfl) ah
  . rename_i bn
    obtain⟨aS,b,t,J,d,rfl⟩:=Th.zS ah;replace J:s.aC[j]?=some t:=J;have h2:=aw7 X z s j t x.id q x e ao B Y I M k none reason bn N aS b o J d;exact h2
end
end Go.Proofs.YtnnhpnccfnghdaaGreat.L.bE
namespace Go.L
open Go
section
variable{P:Program}{F w:World}{n:Nat}{ak:eA}{I:List aq}{bC:TypeId}
section
variable{t e:TypeId}{len:Nat}{x:Operand}
def al2{U:List Value}(h1:P.underlying t=some (.array len e))(aH:∃i,P.info? e=some i)[i:eG P t U]:bU P F n (.build t #[]) bC ak I (.agg U.toArray):=λa w d pos N g aj _=>by
 obtain⟨z,E,W,cE,d8⟩:=i.out;obtain⟨b,cI⟩:=aH;simp only[execOp,Instr.build];simp[wc W cE,gC h1,ji cI,d8,Instr.fill]
def Md{b o len aT:Nat}(h1:P.underlying t=some (.array len e))(aH:∃i,P.info? e=some i/\i.size=aT)(ag:cb ak x=some (ptr b o)):bU P F n (.slice t x none none none) bC ak I (.slice (some ⟨b,o,none⟩) len len):=λaE w d pos N g aj _=>by
 obtain⟨z,W,cE⟩:=aH;simp only[execOp,Gm,aj.eval ag];simp[Instr.sliceAt,gC h1,ji W,Instr.sureAddr,asAddr,Instr.sliceBounds,Instr.sliceBound,asIntOf,Addr.add]
theorem UA{y:Operand}{E:Value}{r:Nat}{k:lj}{m:List yf}{u:List yf->List aq}(v:Value)[i:CS P t E][j:uu r I m u](V:(uv m k).getD E=v)(h:cb ak x=some we)(ah:cb ak y=some (oA k)):
 bU P F n (.lookup t x y false) bC ak I v:=V▸al3 (i:=i) (j:=j) h ah
end
end
section
variable{P:Program}{E:Array Oper}{cX R:List Nat}{M:Act->World->Prop}{C:World->Prop}
variable{F:World}{n:Nat}{ak:eA}{I H J:List aq}{Q:Exit->Act->World->Prop}{op:Op}{bC:TypeId}{pos:String}{N:Array Edge}{g:Option (Nat×Bool)}{i:Nat}{U:List (Nat×mL)}
def go_n0{p:Value->List aq->Prop}(aJ:E[i]?=some Me)(O:hV E ak g true)(V:cY P F n op bC ak I p)(h:∀v H,p v H->CT/\cT P F n E R U ak H J M):cT P F n E R ((i,.c0)::U) ak I J M:=
 λa w aj s=>by
  obtain⟨v,H,X,aD,hp,aY⟩:=V a w none pos N g aj s;simp only[oB,aJ,hV.wanted (o:=⟨none,op,bC,pos,N,g⟩) O aj,fk,Oper.wp,aD,Oper.upon];exact⟨λC=>aY.imp CU,(h v H hp).2 _ _ aj aY⟩
end
end Go.L
namespace Go.Proofs.YtnnhpnccfnghdaaGreat.L.bE
open Go.Proofs.YtnnhpnccfnghdaaGreat.L
open Go.L Go.L.Ring Go.L.dr Go.L.dX Go.L.Whl Go.L.dB Go.L.Lx Go.L.Pg
open Go.L.Led (dg du dS bs aw e2)
open Go.L.Th (bK cV da bZ ds bQ bY eE bV ar most dU cM fg eJ dP In cR cZ eK bw bL eL eM bl cB dw go br Good eg eN dT acc Inv eu eS ff busy dG ei ef e9)
attribute[local irreducible] G cz GE cT GT bU c6 cY dc Exit.then Exit.inBlock
section
variable(l:List Int)(X:cJ){k dj:b1}(z:dn)(s:ar)(j:Nat)(t:bV)(a q:Nat)(x:bQ)(e:hR)(m:da)
def aj2(k:b1)(st tag:cy)(n:Int):Th.rowOf (cN k) st tag n=(Th.rowOf k st tag n).map iP:=by
 unfold Th.rowOf;show((k.states.map fN).find? _).bind _=_;rw[List.find?_map];have e:((λs:fb=>decide (s.name=st))∘fN)=λs=>decide (s.name=st):=rfl;rw[e];cases k.states.find? (λs=>decide (s.name=st))with
 |none=>rfl
 |
  some s=>
  show((s.rows.map iP).find? (Th.qk tag n))=((s.rows.find? (Th.qk tag n)).map iP);rw[List.find?_map];rfl
def ax6(h:cN k=cN dj)(st tag:cy)(n:Int):Th.kZ k st tag n=Th.kZ dj st tag n:=by
 have e:(Th.rowOf k st tag n).map iP=(Th.rowOf dj st tag n).map iP:=by rw[<-aj2,<-aj2,h]
 unfold Th.kZ;cases h1:Th.rowOf k st tag n with
 |
  none=>
  cases h2:Th.rowOf dj st tag n with
  |none=>rfl
  |some S=>rw[h1,h2]at e;cases e
 |
  some r=>
  cases h2:Th.rowOf dj st tag n with
  |none=>rw[h1,h2]at e;cases e
  |
   some S=>
   rw[h1,h2]at e;simp only[nH,Option.some.injEq]at e;have aU:(iP r).b8=(iP S).b8:=congrArg Row.b8 e;replace aU:r.b8=S.b8:=aU;simp only[aU]
def ax7(h:cN k=cN dj)(r:cy):Th.direct k r=Th.direct dj r:=by
 have e:k.cases=dj.cases:=(congrArg b1.cases h:(cN k).cases=(cN dj).cases);unfold Th.direct;rw[e]
def aj3(h:cN k=cN dj):k.limit=dj.limit/\k.within=dj.within/\k.name=dj.name:=
 ⟨(congrArg b1.limit h:(cN k).limit=(cN dj).limit),(congrArg b1.within h:(cN k).within=(cN dj).within),(congrArg b1.name h:(cN k).name=(cN dj).name)⟩
def Tt(h:cN k=cN dj){st:fb}(aj:dj.states[0]?=some st):∃b,k.states[0]?=some b/\b.name=st.name:=by
 have e:k.states.map fN=dj.states.map fN:=(congrArg b1.states h:(cN k).states=(cN dj).states);have aB:(k.states.map fN)[0]?=some (fN st):=by rw[e,fe,aj];rfl
 rw[fe]at aB;cases h2:k.states[0]?with
 |none=>rw[h2]at aB;cases aB
 |
  some b=>
  rw[h2]at aB;simp only[nH,Option.some.injEq]at aB;exact⟨b,rfl,(congrArg fb.name aB:(fN b).name=(fN st).name)⟩
def del_eq(x:Int):l.filter (λy=>!decide (y=x))=Th.del l x:=by
 unfold Th.del;congr 1;funext y;simp
theorem ax8(hm x:bQ)(e:hR)(ka:Option Addr)(kc:Nat)(l:List Int)(what:Int)(k:Th.K)(I:Nat)(M:List Value)(y:Option ar)(B:At X z.ap s.aI a q hm)(Y:fU x e)(ao:bD X z tT)(N:X.C.ok)(aS:s.notes.length<most)(J:s.aC[j]?=some t)(R:t.on=none)(hlen:l.length<=1099511627776)
 (f:0=l.length->ho X j z tT k I M y)(g3:∀v:Int,l[0]?=some v->∃b:Nat,v=b/\Ey/\y=some (jB tT j t b ⟨what,0,[]⟩ (.each xc 0 l.length k))):
 ad aa 243 [ptr (X.bq j) 0,hL ka kc l,af what,bi I M] (a1 X z.ap z.ai j 0 k I M::dv ka kc l::h6 X z s a q x e) (cp X y):=
 gx (λD h E=>Sat.tail (λh E=>Sat.tail (λh E=>cA (fR:=λ_:Unit=>True) (l:=λ_=>h6 X z s a q x e) () trivial qL h E) E) E)
  (ajS X z tT j ka kc l what k I M t y (eR vp) ao N aS J R hlen (fun D h E => by
   obtain⟨_,_,L⟩:=hb (Sat.swap E);exact jr B Y D h (Sat.drop (Fu vp L))) f g3)
def ax9(ao:bD X z s)(B:At X z.ap s.aI a q x)(Y:fU x e)(I:Nat)(M:List Value)(k:Th.K)(y:Option ar)(hk:x.kids.length=0)(bb:x.mode=3)(st:fb)(g4:e.b5.states[0]?=some st)(aD:s.bf.length<=most)(h1:x.aside.length<=1099511627776)(h2:x.front.length<=1099511627776)(o:s.trace.length<most)(J:s.aC[j]?=some t)(aX:∀aE aK,ho X j {z with cC:=aE,cD:=aK} (Th.c7 Px a PD) k I M y):ad aa 245 lC iJ (cp X y):=by
 refine ax Tryz.func245 λF D=>?_;haveI:=gg (X:=X) (ap:=z.ap) (ai:=z.ai) J;refine lh (ii (e:=3) (aT:=1)) ?_;have gY:0<e.b5.states.length:=(dd.1 g4).1;have cv:=B.cv;refine af2 ?_;refine wn λaR=>?_;refine cU ?_;refine aA rfl (fA rfl rfl (show 0<e.b5.states.length by omega)) ?_;refine aG ?_;refine aA rfl (gy rfl (lL ft 2 o7 g4 rfl)) ?_;refine aA rfl (al2 Tryz.underlying111 (let⟨i,a,_⟩:=HY Oe;⟨i,a⟩)) ?_;refine eP ?_;refine aV (ajY X z s j t q El Eu s.bf aD h1 h2 J) ?_;refine cU ?_;refine ct [] [9,201] (ab q 118 ((ee X El Eu).set (0+13) (af 1))::qI) ?_;refine cr ?_;refine bt (lZ X z s (Py:bZ) o) ?_;refine lY ?_;intro aE aK;haveI:=(aX aE aK).iU;refine ch ?_;refine bt (gx (H:=(a1 X z.ap z.ai j 0 k I M::ab q 118 (ee X PD Eu)::dv e.ka e.kc x.kids::dv none 0 []::gj e.gJ X.C.dW [] (x.front++x.aside.reverse)::h4 e.jD oT oU x.given::b2 e.gp .i64 tN::jf e.jE (h5 e.es)::ay (iz e.es)::gM e.b5::ay w9::cG X hY Px::dQ aE aK (s.trace++[(Py:bZ)])::Z0)) (λD h E=>Sat.tail (λh E=>jr (X:=X) (z:=hY) (s:=Px) (x:=PD) (e:=Eu) B pu D h E) E) (aX aE aK).spec) ?_;exact zx
def aj4(aR:Nat)(m:da)(v:Int):ad aa 246 ([af v]++[ptr aR 0]) [ab aR 261 (iA m)] (aF (.bool (decide (v=m.who))) [ab aR 261 (iA m)]):=by
 refine ax Tryz.func246 λF D=>?_;exact rA
def aya(B:At X z.ap s.aI a q x)(Y:fU x e)(I:Nat)(M:List Value)(k:Th.K)(y:Option ar)(O:m.what=2)(bb:x.mode=2)(ao:bD X z s)(N:X.C.ok)(aS:s.notes.length<most)(o:s.trace.length<most)(J:s.aC[j]?=some t)(R:t.on=none)(hlen:x.cF.length<=1099511627776)(f:∀(aE:Option Addr) (aK:Nat),0=x.cF.length->ho X j hY PB k I M y)(g3:∀v:Int,x.cF[0]?=some v->∃b:Nat,v=b/\Ey/\y=some (jB PB j t b ⟨2,0,[]⟩ (.each (.push x.cF 2) 0 x.cF.length k))):ad aa 197 sF iJ (cp X y):=by
 refine ax Tryz.func197 λF D=>?_;haveI:=gg (X:=X) (ap:=z.ap) (ai:=z.ai) J;refine lh (ii (e:=3) (aT:=1)) ?_;have cv:x.id=a:=B.cv;have d:∀aE aK,bD X {z with cC:=aE,cD:=aK} PB:=λaE aK=>⟨ao.gK,ao.gE,ao.gF,by show _=(s.aI.set _ _).length;rw[gq];exact ao.ap,ao.ai⟩;refine agy ?_;intro aN aO aR bW;refine JV ?_;refine fZ ?_;refine ct [] [9,201] (ab aN 106 en::ab aO 110 [ptr q 0]::ab q 118 ((ee X x e).set (0+13) (af 1))::qI) ?_;refine cr ?_;refine bt (lZ X z s (PR:bZ) o) ?_;refine lY ?_;intro aE aK;refine gi ?_;refine bF ?_;refine bt (gx (λD h E=>(au) h E) (ax8 X hY aaN j t a q x PC Eu e.hP e.hQ x.cF 2 k I M y B pu (d aE aK) N aS J R hlen (f aE aK) g3)) ?_;refine pz ?_;exact px
def ayb(t:bV)(a q:Nat)(x:bQ)(e:hR)(m:da)(B:At X z.ap s.aI a q x)(Y:fU x e)(I:Nat)(M:List Value)(k:Th.K)(y:Option ar)(O:m.what=4)(b:x.kids.length<=1099511627776)(c:x.cF.length<=1099511627776)(h:∀aU,fU {x with kids:=Th.del x.kids m.who,cF:=Th.del x.cF m.who,given:=Th.qd x.given m.who} aU->ad aa 245 lC (a1 X z.ap z.ai j 0 k I M::h6 X z s a q abl aU) (cp X y)):ad aa 197 sF iJ (cp X y):=by
 refine ax Tryz.func197 λF D=>?_;refine agD ?_;intro aN aO aR bW;refine nG ?_;refine cO ?_;refine ct [6] [101,5,201,2,201] [ab aO 110 [ptr q 0],ab aR 261 (iA m),ab q 118 (ee X x e)] ?_;refine bh ?_;refine go_c rfl .none rfl (b4 rfl ((by have bn:=KL x.kids e.ka e.kc 246 [ptr aR 0] [ab aR 261 (iA m)] (λy=>decide (y=m.who)) b (λv _=>aj4 aR m v);rw[del_eq]at bn;exact bn)) bI) ?_;refine EM ?_;refine ct [6] [101,5,201,2,201] [ab aO 110 [ptr q 0],ab aR 261 (iA m),ab q 118 ((ee X x e).set (0+12) (hL e.ka e.kc (Th.del x.kids m.who)))] ?_;refine bh ?_;refine go_c rfl .none rfl (b4 rfl ((by have bn:=KL x.cF e.hP e.hQ 246 [ptr aR 0] [ab aR 261 (iA m)] (λy=>decide (y=m.who)) c (λv _=>aj4 aR m v);rw[del_eq]at bn;exact bn)) bI) ?_;refine EM ?_;refine ct [] [6,201] [ab aO 110 [ptr q 0],ab aR 261 (iA m),ab q 118 (((ee X x e).set (0+12) (hL e.ka e.kc (Th.del x.kids m.who))).set (0+17) (hL e.hP e.hQ (Th.del x.cF m.who)))] ?_;refine bh ?_;refine aV (atp e.jD oT oU m.who x.given) ?_;refine ch ?_;refine bt (h e pu) ?_;refine pz ?_;exact px
end
section
variable{X:cJ}{j:Nat}{z:dn}{s y:ar}{I:Nat}{M:List Value}{k:Th.K}{g:ar->bY->Th.K->Option ar}{a q:Nat}{x:bQ}{m:da}
def ay0(N:X.C.ok)(ao:bD X z s)(b7:cM X.C j s)(B:At X z.ap s.aI a q x)(ah:Th.Fg j s a k=some y):ad aa 306 lC k9 dV:=by
 have O:=B.qj b7;simp only[Th.Fg,B.dz,bind,Option.bind]at ah;rw[Th.ajs]at ah;obtain rfl:a=x.id:=B.cv.symm;cases hk:Th.kK 2 (x.front.reverse++x.aside) s with
 |none=>rw[hk]at ah;cases ah
 |
  some s1=>
  rw[hk]at ah;simp only[Option.map]at ah;obtain⟨⟨di,d1,t1,rfl⟩,i,c,d,p,g⟩:=Th.Lk hk;obtain⟨t,J,R,rfl⟩:=Th.kd ah;replace J:s.aC[j]?=some t:=J;have f:=O.q1;have n7:most=1099511627776:=rfl;have o:=b7.np;have hlen:(x.front.reverse++x.aside).length=x.front.length+x.aside.length:=fW;have m9:s.trace.length+(x.front.reverse++x.aside).length<=most/\s.dead.length+(x.front.reverse++x.aside).length<=most:=by
   by_cases bn:(x.front.reverse++x.aside)=[]
   . rw[bn];exact o
   . have:=g bn;rw[d,p];exact this
  refine q3 B λe Y=>?_;refine jQ (dv e.ka e.kc x.kids::dv e.hP e.hQ x.cF::h4 e.jD oT oU x.given::b2 e.gp .i64 tN::jf e.jE (h5 e.es)::ay (iz e.es)::gM e.b5::ay ((e3 X z.ap s.aI).set (x.id -1) fu)::fp z.na z.fv s.notes::b2 X.am .i64 (cf z.ap)::Z6) (aw9 X z s j t q x e I M k N.s5 B.ap B.aP (λid cv=>(c id cv).elim λl aw=>(hF.of ao aw).elim λq bo=>⟨q,l,bo⟩) m9.1 m9.2 b7.l6 (show x.aside.length<=1099511627776 by omega) (show x.front.length<=1099511627776 by omega) (show(x.front.reverse++x.aside).length<=1099511627776 by omega) J R) au (λu H n=>?_);obtain⟨rfl,aE,aK,aY,b,rfl⟩:=n;rw[hk]at b;cases b;exact⟨bj X {z with cC:=aE,cD:=aK} (Th.c7 {s with bf:=di,dead:=d1,trace:=t1,aC:=s.aC.set j {t with on:=some (.post x.id Th.Co,.closed x.id k)}} x.id {x with front:=[],aside:=[]}),⟨rfl,{z with cC:=aE,cD:=aK},_,rfl,⟨ao.gK,ao.gE,ao.gF,by show _=(s.aI.set _ _).length;rw[gq];exact ao.ap,ao.ai⟩,rfl⟩,λh E=>jr (X:=X) (z:={z with cC:=aE,cD:=aK}) (s:={s with bf:=di,dead:=d1,trace:=t1,aC:=s.aC.set j {t with on:=some (.post x.id Th.Co,.closed x.id k)}}) (x:={x with front:=[],aside:=[]}) (e:=e) B ⟨Y.b5,Y.la,Y.es⟩ [] h ((au) h E)⟩
def TG{d:Int}(N:X.C.ok)(C:hx X j g)(ao:bD X z s)(b7:cM X.C j s)(B:At X z.ap s.aI a q x)(W:0<=m.who)(K:x.cF.length+1<most)(ah:Th.rV X.C g j s a m d k=some y):ad aa 300 [ptr (X.bq j) 0,ptr q 0,.agg (iA m).toArray,af d,bi I M] k9 dV:=by
 have O:=B.qj b7;obtain⟨l,who,reason⟩:=m;obtain⟨b,rfl⟩:∃b:Nat,who=b:=⟨who.toNat,by have:0<=who:=W;omega⟩;obtain rfl:a=x.id:=B.cv.symm;obtain⟨t0,i,hO⟩:=b7.j1;unfold Th.rV at ah;cases R:Th.iM ({Th.c3 with kind:=10,dK:=(b:Int),cw:=x.id,why:=d,name:=reason}:bZ) s with
 |none=>simp only[R,bind,Option.bind]at ah;cases ah
 |
  some s1=>
  simp only[R,bind,Option.bind]at ah;obtain⟨o,rfl⟩:=Th.l4 R;split at ah
  . rename_i aQ
    subst aQ;obtain⟨aS,az,t,J,w,rfl⟩:=Th.zS ah;replace J:s.aC[j]?=some t:=J;exact jQ Pm (axa X z s j t x.id q b x B l reason I M k az N.ha o aS J w) au (λu H q=>by
     obtain⟨rfl,aE,aK,cl,bk,rfl⟩:=q;exact⟨bj X sG Z9,⟨rfl,sG,Z9,rfl,jq,rfl⟩,au⟩)
  . rename_i c
    split at ah
    . rename_i aQ
      subst aQ;obtain⟨aS,az,t,J,w,rfl⟩:=Th.zS ah;replace J:s.aC[j]?=some t:=J;exact jQ Pm (axb X z s j t x.id q b x B l reason I M k az N.ha o aS J w) au (λu H q=>by
       obtain⟨rfl,aE,aK,cl,bk,rfl⟩:=q;exact⟨bj X sG aaa,⟨rfl,sG,aaa,rfl,jq,rfl⟩,au⟩)
    . rename_i f
      split at ah
      . rename_i aQ
        subst aQ;obtain⟨aS,az,t,J,w,rfl⟩:=Th.zS ah;replace J:s.aC[j]?=some t:=J;exact jQ Pm (axc X z s j t x.id q b x B l reason I M k az N.ha o aS J w) au (λu H q=>by
         obtain⟨rfl,aE,aK,cl,bk,rfl⟩:=q;exact⟨bj X sG aab,⟨rfl,sG,aab,rfl,jq,rfl⟩,au⟩)
      . rename_i p
        have G:Th.dz {s with trace:=s.trace++[({Th.c3 with kind:=10,dK:=(b:Int),cw:=x.id,why:=d,name:=reason}:bZ)]} x.id=some x:=B.dz;simp only[G]at ah;have r:¬d=1/\¬d=2/\¬d=3:=⟨c,f,p⟩;have E:=(b7.z7 rfl Th.dP.same rfl rfl rfl Bz b7.np.2:cM X.C j {s with trace:=s.trace++[({Th.c3 with kind:=10,dK:=(b:Int),cw:=x.id,why:=d,name:=reason}:bZ)]});refine uk λa8=>q3 B λe Y=>?_;cases a2:x.cF.contains (b:Int)with
        |
         true=>
         have aB:Th.ou x.cF b=x.cF:=by simp only[Th.ou,Th.mem,a2,fk]
         simp only[aB]at ah;have aU:Th.c7 {s with trace:=s.trace++[({Th.c3 with kind:=10,dK:=(b:Int),cw:=x.id,why:=d,name:=reason}:bZ)]} x.id x={s with trace:=s.trace++[({Th.c3 with kind:=10,dK:=(b:Int),cw:=x.id,why:=d,name:=reason}:bZ)]}:=Th.awC G;rw[aU]at ah;split at ah
         . rename_i bb
           have d7:x.cF.length<most:=(Fz K);have a8:∀aE aK,ad aa 296 [ptr (X.bq j) 0,ptr q 0,S reason,bi I M] (a1 X z.ap z.ai j 0 k I M::h6 X {z with cC:=aE,cD:=aK} {s with trace:=s.trace++[({Th.c3 with kind:=10,dK:=b,cw:=x.id,why:=d,name:=reason}:bZ)]} (x.id) q x e) (cp X (some y)):=(λaE aK=>vP (B:At X _ _ x.id q x) Y (TF (z:={z with cC:=aE,cD:=aK}) (s:={s with trace:=s.trace++[({Th.c3 with kind:=10,dK:=(b:Int),cw:=x.id,why:=d,name:=reason}:bZ)]}) N C ⟨ao.gK,ao.gE,ao.gF,ao.ap,ao.ai⟩ E B ah));refine ax Tryz.func300 λF D=>?_;haveI:=gg (X:=X) (ap:=z.ap) (ai:=z.ai) i;have v:x.cF.length<1099511627776:=d7;obtain⟨c,f,p⟩:=r;refine a7 ?_;refine wn λbW=>?_;refine bX ?_;refine ct [] [14,201] [ab bW 261 (iA ⟨l,b,reason⟩),cG X z s,ab q 118 (ee X x e),ay (c8 X z.ap z.ai s.aC)] ?_;refine fZ ?_;refine bt (lZ X z s ({Th.c3 with kind:=10,dK:=b,cw:=x.id,why:=d,name:=reason}:bZ) o) ?_;rintro _ _ ⟨rfl,aE,aK,rfl⟩;refine er ?_;refine cO ?_;refine cH ?_;refine bh ?_;refine cH ?_;refine bh ?_;refine cH ?_;refine bh ?_;refine ct [] [6,201,1] [ab bW 261 (iA ⟨l,b,reason⟩),ab q 118 (ee X x e),dv e.hP e.hQ x.cF] ?_;refine bh ?_;refine go_c rfl .none rfl (b4 rfl (I6 x.cF e.hP e.hQ b (dv e.hP e.hQ x.cF) ae) bI) ?_;rintro _ D ⟨_,⟨rfl,rfl⟩,rfl⟩
           try simp only[cn,ci]
           rw[a2];refine aG ?_;refine cH ?_;refine dx ?_;refine cH ?_;refine cU ?_;refine bt (a8 aE aK) ?_;rintro _ _ ⟨rfl,cu,aY,ag,fd,rfl⟩;refine er ?_;refine bh ?_;exact aW BP
         . rename_i bb
           exact axd X z s j t0 x.id q b x e B Y l d reason I M k (some y) r a2 bb (Fz K) o (λaE aK=>⟨a8,C _ _ k y I M ⟨ao.gK,ao.gE,ao.gF,ao.ap,ao.ai⟩ ah⟩) i
        |
         false=>
         have aB:Th.ou x.cF b=x.cF++[(b:Int)]:=by simp only[Th.ou,Th.mem,a2];rfl
         simp only[aB]at ah;split at ah
         . rename_i bb
           refine axe X z s j t0 x.id q b x e B Y l d reason I M k (some y) r a2 bb (Fz K) o (λaE aK hP hQ=>?_) i;refine CB (x:={x with cF:=x.cF++[(b:Int)]}) (B:At X _ _ x.id q x) ⟨Y.b5,Y.la,Y.es⟩ ?_;exact TF (z:={z with cC:=aE,cD:=aK}) (s:=Th.c7 {s with trace:=s.trace++[({Th.c3 with kind:=10,dK:=(b:Int),cw:=x.id,why:=d,name:=reason}:bZ)]} x.id {x with cF:=x.cF++[(b:Int)]}) (x:={x with cF:=x.cF++[(b:Int)]}) N C ⟨ao.gK,ao.gE,ao.gF,by show _=(s.aI.set _ _).length;rw[gq];exact ao.ap,ao.ai⟩ (E.set B.aP.1 ⟨O.id,O.kids,O.q1⟩) (At.set (n:={x with cF:=x.cF++[(b:Int)]}) B rfl) ah
         . rename_i bb
           exact axf X z s j t0 x.id q b x e B Y l d reason I M k (some y) r a2 bb (Fz K) o (λaE aK=>⟨a8,C _ _ k y I M ⟨ao.gK,ao.gE,ao.gF,by show _=(s.aI.set _ _).length;rw[gq];exact ao.ap,ao.ai⟩ ah⟩) i
def ay1(N:X.C.ok)(C:hx X j g)(ao:bD X z s)(b7:cM X.C j s)(B:At X z.ap s.aI a q x)(W:0<=m.who)(K:x.cF.length+1<most)(ah:Th.xQ X.C g j s a m k=some y):ad aa 242 sF k9 dV:=by
 have O:=B.qj b7;obtain⟨t0,i,hO⟩:=b7.j1;simp only[Th.xQ,B.dz,bind,Option.bind]at ah;refine uk λa8=>q3 B λe Y=>?_;have r:=ax7 Y.b5 m.reason;have he:=xz O.kids;have g6:e.b5.cases.length<=4611686018427387904:=by have:=Y.la.alE;omega
 have d:∀E,g s Th.dA k=some E->some E=some y->ho X j z s k I M (some y):=λE h1 h2=>⟨a8,C z s k y I M ao (by rw[h1];exact h2)⟩;cases a2:x.kids.contains m.who with
 |
  false=>
  rw[bg (.inl (show(!x.kids.contains m.who)=true by rw[a2];rfl))]at ah;exact axn X z s j t0 a q x e m B Y I M k (some y) he a2 (d y ah rfl)
 |
  true=>
  by_cases aH:x.mode=3
  . rw[bg (.inr (.inl aH))]at ah
    exact axo X z s j t0 a q x e m B Y I M k (some y) he a2 aH (d y ah rfl)
  . by_cases bm:x.mode=4
    . rw[bg (.inr (.inr bm))]at ah
      exact axp X z s j t0 a q x e m B Y I M k (some y) he a2 bm (d y ah rfl)
    . rw[a6 (λco=>co.elim (λco=>by rw[show Th.mem x.kids m.who=true from a2]at co;cases co) (λco=>co.elim aH bm))]at ah
      split at ah
      . rename_i aQ
        rw[<-r]at aQ ah;have h:ad aa 300 [ptr (X.bq j) 0,ptr q 0,.agg (iA m).toArray,af (Th.direct e.b5 m.reason),bi I M] iJ dV:=(vP B Y (TG N C ao b7 B W K ah));refine ax Tryz.func242 λF D=>?_;have b:x.kids.length<=1099511627776:=he;refine a7 ?_;refine wn λaN=>?_;refine wn λaO=>?_;refine wn λaR=>?_;refine wn λbW=>?_;refine bF ?_;refine ct [] [6,201,15] PO ?_;refine bh ?_;refine go_c rfl .none rfl ab2 ?_;rintro _ D ⟨_,⟨rfl,rfl⟩,rfl⟩
        try simp only[cn,ci]
        rw[a2];refine aG ?_;refine cH ?_;refine bz ?_;refine cH ?_;refine bh ?_;refine cH ?_;refine ch ?_;refine ir [6,7,8] [7] [1,5,9,13,17,21,26,30,34,3,3,3,30,26,34] ab1 ?_;refine bh ?_;refine e8 ?_ ?_
        ·
         refine aV Jf ?_;refine aG ?_;refine wn λV=>?_;refine bH ?_;refine aA rfl (fM (c:=true) (by simp[aQ]) (mc rfl rfl)) ?_;refine cU ?_;refine bt (h) ?_;rintro _ _ ⟨rfl,cu,aY,ag,fd,rfl⟩;refine er ?_;refine bz ?_;exact aW BP
        ·
         refine wn λV=>?_;refine aG ?_;refine aV Jf ?_;refine bH ?_;refine aA rfl (fM (c:=true) (by simp[aQ]) (mc rfl rfl)) ?_;refine cU ?_;refine bt (h) ?_;rintro _ _ ⟨rfl,cu,aY,ag,fd,rfl⟩;refine er ?_;refine bz ?_;exact aW BP
      . rename_i aQ
        rw[<-r]at aQ;obtain⟨t,J,R,rfl⟩:=Th.kd ah;have aQ:Th.direct e.b5 m.reason=2:=(Decidable.not_not.1 aQ);refine ax Tryz.func242 λF D=>?_;haveI:=gg (X:=X) (ap:=z.ap) (ai:=z.ai) J;have b:x.kids.length<=1099511627776:=he;refine a7 ?_;refine wn λaN=>?_;refine wn λaO=>?_;refine wn λaR=>?_;refine wn λbW=>?_;refine bF ?_;refine ct [] [6,201,15] PO ?_;refine bh ?_;refine go_c rfl .none rfl ab2 ?_;rintro _ D ⟨_,⟨rfl,rfl⟩,rfl⟩
        try simp only[cn,ci]
        rw[a2];refine aG ?_;refine cH ?_;refine bz ?_;refine cH ?_;refine bh ?_;refine cH ?_;refine ch ?_;refine ir [6,7,8] [7] [1,5,9,13,17,21,26,30,34,3,3,3,30,26,34] ab1 ?_;refine bh ?_;refine e8 ?_ ?_
        ·
         refine aV Jf ?_;rw[aQ];refine aG ?_;refine wn λV=>?_;refine bH ?_;refine aA rfl (fM (c:=false) rC (mc rfl rfl)) ?_;refine fZ ?_;refine bt (aiw X s.bs) ?_;rintro _ _ ⟨p,rfl,rfl⟩;refine er ?_;refine wn λcx=>?_;refine bh ?_;refine aA rfl Jr ?_;refine aG ?_;refine aV aal ?_;refine a7 ?_;exact aW ⟨rfl,z,_,rfl,jq,rfl⟩ (λh E=>by have:=jr (X:=X) (z:=z) (s:=abZ) (x:=x) (hm:=x) B Y D h ((au) h E);rw[sL (X:=X) (ap:=z.ap) (q:=q) (s:={s with aC:=s.aC.set j {t with on:=some (.eY uI,.mF a m k)}}) B]at this;exact this)
        ·
         refine wn λV=>?_;refine aG ?_;refine aV Jf ?_;rw[aQ];refine bH ?_;refine aA rfl (fM (c:=false) rC (mc rfl rfl)) ?_;refine fZ ?_;refine bt (aiw X s.bs) ?_;rintro _ _ ⟨p,rfl,rfl⟩;refine er ?_;refine wn λcx=>?_;refine bh ?_;refine aA rfl Jr ?_;refine aG ?_;refine aV aal ?_;refine a7 ?_;exact aW ⟨rfl,z,_,rfl,jq,rfl⟩ (λh E=>by have:=jr (X:=X) (z:=z) (s:=abZ) (x:=x) (hm:=x) B Y D h ((au) h E);rw[sL (X:=X) (ap:=z.ap) (q:=q) (s:={s with aC:=s.aC.set j {t with on:=some (.eY uI,.mF a m k)}}) B]at this;exact this)
end
section
variable{X:cJ}{j:Nat}{z:dn}{s y:ar}{I:Nat}{M:List Value}{k:Th.K}{g:ar->bY->Th.K->Option ar}{a q:Nat}{x:bQ}
def TH(N:X.C.ok)(C:hx X j g)(ao:bD X z s)(b7:cM X.C j s)(B:At X z.ap s.aI a q x)(ah:Th.rU g j s a k=some y):ad aa 245 lC k9 dV:=by
 obtain rfl:a=x.id:=B.cv.symm;have O:=B.qj b7;obtain⟨t0,i,hO⟩:=b7.j1;have c:=ah;simp only[Th.rU,B.dz,bind,Option.bind]at ah;refine uk λa8=>q3 B λe Y=>?_;split at ah
 . rename_i bn
   exact axh X z s j t0 x.id q x e ao B Y I M k (some y) (List.length_pos_iff.2 bn) sK
 . rename_i bn
   have bn:x.kids.length=0:=by rw[Decidable.not_not.1 bn];rfl
   split at ah
   . rename_i bm
     have h:ad aa 306 lC P9 dV:=(vP B Y (ay0 N ao b7 B ah));refine ax Tryz.func245 λF D=>?_;refine eP ?_;refine bX ?_;refine cH ?_;refine fx ?_;refine cH ?_;refine nr ?_;refine bt (h) ?_;rintro _ _ ⟨rfl,cu,aY,ag,fd,rfl⟩;refine er ?_;refine cr ?_;exact pv
   . rename_i bm
     split at ah
     . rename_i aH
       cases aj:x.kind.states[0]?with
       |none=>simp only[aj]at ah;cases ah
       |
        some st=>
        obtain⟨o,ah⟩:=Th.awD B.dz (List.length_eq_zero_iff.1 bn) aH aj c;obtain⟨b,E,aS⟩:=Tt Y.b5 aj;rw[<-aS]at ah;have f:=O.q1;have n7:most=1099511627776:=rfl;exact ax9 X z s j t0 x.id q x e ao B Y I M k (some y) bn aH b E b7.l6 (show x.aside.length<=1099511627776 by omega) (show x.front.length<=1099511627776 by omega) o i (λaE aK=>⟨a8,C hY _ k y I M ⟨ao.gK,ao.gE,ao.gF,by show _=(s.aI.set _ _).length;rw[gq];exact ao.ap,ao.ai⟩ ah⟩)
     . rename_i aH
       exact axi X z s j t0 x.id q x e ao B Y I M k (some y) bn bm aH sK
def ay2{m:da}(N:X.C.ok)(C:hx X j g)(ao:bD X z s)(b7:cM X.C j s)(B:At X z.ap s.aI a q x)(W:0<=m.who)(K:x.cF.length+1<most)(ah:Th.vM X.C g j s a m k=some y):ad aa 197 sF k9 dV:=by
 obtain rfl:a=x.id:=B.cv.symm;have O:=B.qj b7;obtain⟨t0,i,hO⟩:=b7.j1;simp only[Th.vM,B.dz,bind,Option.bind]at ah;refine uk λa8=>q3 B λe Y=>?_;split at ah
 . rename_i d
   have h:ad aa 241 lC P9 dV:=(vP B Y (TE N C ao b7 B ah));refine ax Tryz.func197 λF D=>?_;refine xw ?_;intro aN aO aR bW;refine cO ?_;refine cH ?_;refine bH ?_;refine bt (h) ?_;refine pz ?_;exact px
 . split at ah
   . rename_i r
     have h:ad aa 242 sF P9 dV:=(vP B Y (ay1 N C ao b7 B W K ah));refine ax Tryz.func197 λF D=>?_;refine RI ?_;intro aN aO aR bW;refine cr ?_;exact Rp
   . split at ah
     . rename_i qr
       split at ah
       . rename_i bb
         exact axk X z s j t0 x.id q x e m B Y I M k (some y) qr bb sK
       . rename_i bb
         cases R:Th.iM (PR:bZ) (Th.c7 s x.id PC)with
         |none=>rw[R]at ah;cases ah
         |
          some s1=>
          rw[R]at ah;obtain⟨o,rfl⟩:=Th.l4 R;replace o:s.trace.length<most:=o;refine aya X z s j t0 x.id q x e m B Y I M k (some y) qr (Decidable.not_not.1 bb) ao N b7.notes o i hO (xz (Fz K)) (λaE aK bn=>?_) (λv V=>?_)
          . rcases Th.Cq ah with⟨_,ah⟩|⟨b,t,h1,_⟩
            . exact⟨a8,C hY _ _ y I M ⟨ao.gK,ao.gE,ao.gF,by show _=(s.aI.set _ _).length;rw[gq];exact ao.ap,ao.ai⟩ ah⟩
            . exfalso;omega
          . rcases Th.Cq ah with⟨bn,ah⟩|⟨b,t,h1,h2,aH,bm,dk,rfl⟩
            . exfalso;have:=(dd.1 V).1;omega
            . rw[V]at h2;cases h2
              replace bm:s.aC[j]?=some t:=bm;rw[i]at bm;cases bm;exact⟨b,rfl,aH,rfl⟩
     . split at ah
       . rename_i c
         split at ah
         . rename_i bb
           exact axl X z s j t0 x.id q x e m B Y I M k (some y) c bb sK
         . rename_i bb
           refine axm X z s j t0 x.id q x e m B Y I M k (some y) c (Decidable.not_not.1 bb) ao N b7.notes i hO (xz O.kids) (λcs bn=>?_) (λv V=>?_)
           . rcases Th.Cq ah with⟨_,ah⟩|⟨b,t,h1,_⟩
             . exact⟨e7,C _ _ _ y _ cs ⟨ao.gK,ao.gE,ao.gF,by show _=(s.aI.set _ _).length;rw[gq];exact ao.ap,ao.ai⟩ ah⟩
             . exfalso;omega
           . rcases Th.Cq ah with⟨bn,ah⟩|⟨b,t,h1,h2,aH,bm,dk,rfl⟩
             . exfalso;have:=(dd.1 V).1;omega
             . rw[V]at h2;cases h2
               replace bm:s.aC[j]?=some t:=bm;rw[i]at bm;cases bm;exact⟨b,rfl,aH,rfl⟩
       . split at ah
         . rename_i f
           refine ayb X z s j t0 x.id q x e m B Y I M k (some y) f (xz O.kids) (xz (Fz K)) (λaU t8=>?_);refine CB (x:=abl) B t8 ?_;exact TH (x:={x with kids:=Th.del x.kids m.who,cF:=Th.del x.cF m.who,given:=Th.qd x.given m.who}) N C ⟨ao.gK,ao.gE,ao.gF,by show _=(s.aI.set _ _).length;rw[gq];exact ao.ap,ao.ai⟩ (b7.set B.aP.1 ⟨O.id,Y4 (Th.SL _ _) O.kids,O.q1⟩) (At.set (n:={x with kids:=Th.del x.kids m.who,cF:=Th.del x.cF m.who,given:=Th.qd x.given m.who}) B rfl) ah
         . cases ah
def ay3{left:Nat}(N:X.C.ok)(C:hx X j g)(ao:bD X z s)(b7:cM X.C j s)(B:At X z.ap s.aI a q x)(d:∀(id:Int) (I:Nat) (M:List Value),x.front.getLast?=some id->Th.s4 X.C g j (Th.c7 s a Qw) a id (.next a left)=some y->ad aa 238 Ep (a1 X z.ap z.ai j 0 (.next a left) I M::bj X z (Th.c7 s a Qw)) dV)(ah:Th.rW X.C g j s a left=some y):ad aa 196 Es (bj X z s) dV:=by
 have O:=B.qj b7;obtain⟨t0,i,hO⟩:=b7.j1;simp only[Th.rW,B.dz,bind,Option.bind]at ah;refine ayW B λe Y=>?_;split at ah
 . rename_i bb
   have h:ad aa 232 qJ vp dV:=(ayV B Y (ake ao b7 B ah));refine ax Tryz.func196 λF D=>?_;refine Ks ?_;intro Z aN aO;refine QH ?_;refine bH ?_;refine bt (h) ?_;exact xt
 . rename_i bb
   have bb:=Decidable.not_not.1 bb;split at ah
   . rename_i aw
     obtain⟨t,J,R,rfl⟩:=Th.kd ah;have h2:=axq X z s j t a q left x e B Y bb aw ao J R;rw[B.cv]at h2;exact h2
   . rename_i aw
     cases a8:x.front.getLast? with
     |
      none=>
      simp only[a8]at ah;obtain⟨t,J,R,rfl⟩:=Th.kd ah;have h2:=axs X z s j t a q left x e B Y bb aw (List.getLast?_eq_none_iff.1 a8) ao J R;rw[B.cv]at h2;exact h2
     |
      some id=>
      simp only[a8]at ah;obtain⟨U,l⟩:=List.getLast?_eq_some_iff.1 a8;have b:x.front=x.front.dropLast++[id]:=by rw[l];simp
      have n7:most=1099511627776:=rfl;have f:=O.q1;refine axr X z s j t0 a q left x e B Y (some y) bb aw x.front.dropLast id b (by rw[ajl];omega) (λcs=>?_);exact CB (x:=Qw) B pu (d id _ cs a8 ah)
end
section
variable{X:cJ}{j:Nat}{z:dn}{s y:ar}{I:Nat}{M:List Value}{k:Th.K}{g:ar->bY->Th.K->Option ar}{i n d3 d4 cm dN aM av U:Nat}{ea:Option Addr}{cQ:Nat}
theorem FA{H I:Nat}{M J:List Value}{N:List aq}{A B:Option ar}(a:eU aa H)(c:eU aa I)(ah:(if i=n then A else B)=some y)
 (f:A=some y->ad aa I J (N++bj X z s) dV)(g3:B=some y->∀O,ad aa H ([af i,bi 208 [ptr dN 0,ptr O 0]]++M) ((ab O 3 [af i]::ab dN 188 [bi 207 [ptr d3 0,ptr d4 0,ptr cm 0,ptr dN 0]]::ab d3 3 [af n]::ab cm 255 [bi H M]::ab d4 1 [bi I J]::N)++bj X z s) (cp X (some y))):
 ad aa 207 zf ([ab d3 3 [af n],ab d4 1 [bi I J],ab cm 255 [bi H M],ab dN 188 rJ,eR N]++bj X z s) dV:=by
 split at ah
 . rename_i bn
   refine ajP X z s i n d3 d4 cm dN H I M J (eR N) (some y) bn ?_;refine gx (λD h E=>?_) (f ah);obtain⟨_,_,b⟩:=hb E;rw[jI];exact b
 . rename_i bn
   refine ajQ X z s i n d3 d4 cm dN H I M J (eR N) (some y) bn λO=>?_;refine gx (λD h E=>?_) (g3 ah O);exact Sat.tail (λh E=>Sat.tail (λh E=>Sat.tail (λh E=>Sat.tail (λh E=>Sat.tail (λh E=>by obtain⟨_,_,b⟩:=hb E;show Sat ((N++bj X z s)++D) _;rw[jI];exact b) E) E) E) E) E
def akh{ids:List Int}(N:X.C.ok)(C:hx X j g)(ao:bD X z s)(a8:eU aa I)(aS:n=ids.length)(V:∀v∈ids,0<=v){kg:ar->List Int->Th.K->Option ar}(ah:(if i=n then g s Th.dA k else Th.nV X.C g j kg s (.cancel ids) i (.each (.cancel ids) i n k))=some y):ad aa 207 zf ([ab d3 3 [af n],ab d4 1 [bi I M],ab cm 255 [bi 346 lX],ab dN 188 rJ,eR aaR]++bj X z s) dV:=
 FA e7 a8 ah abg (λh O=>by
  subst aS;simp only[Th.nV]at h;cases e:ids[i]?with
  |none=>rw[e]at h;cases h
  |
   some v=>
   rw[e]at h;obtain⟨t,J,R,rfl⟩:=Th.kd h;exact ax0 X z s j i ids.length O dN d3 cm d4 aM av U I M k ea cQ ids v e (V v H9) t ao J R)
def ay4{l:List Int}{what:Int}(N:X.C.ok)(C:hx X j g)(ao:bD X z s)(a8:eU aa I)(aS:n=l.length){kg:ar->List Int->Th.K->Option ar}(ah:(if i=n then g s Th.dA k else Th.nV X.C g j kg s xc i (.each xc i n k))=some y):ad aa 207 zf ([ab d3 3 [af n],ab d4 1 [bi I M],ab cm 255 Qm,ab dN 188 rJ,eR aa3]++bj X z s) dV:=
 FA e7 a8 ah abg (λh O=>by
  subst aS;simp only[Th.nV]at h;cases e:l[i]?with
  |none=>rw[e]at h;cases h
  |
   some v=>
   rw[e]at h;obtain⟨aS,az,t,J,R,rfl⟩:=Th.zS h;have V:((v.toNat:Nat):Int)=v:=ae;exact ajR X z s j aM av U ea cQ l what k I M t ao N aS J R i d3 d4 cm dN O v.toNat az (by rw[V];exact e))
def aki{U:Nat}{ea:Option Addr}{cQ:Nat}{due:List Int}(N:X.C.ok)(C:hx X j g)(ao:bD X z s)(a8:eU aa I)(b7:cM X.C j s)(aS:n=due.length){kg:ar->List Int->Th.K->Option ar}(ah:(if i=n then g s Th.dA k else Th.nV X.C g j kg s (.leave due) i (.each (.leave due) i n k))=some y):ad aa 207 zf ([ab d3 3 [af n],ab d4 1 [bi I M],ab cm 255 [bi 157 tO],ab dN 188 rJ,eR abo]++bj X z s) dV:=
 FA e7 a8 ah (λh=>gx (λD h E=>Sat.drop (Sat.drop (Sat.drop (E)))) (C z s k y I M ao h)) (λh O=>by
  subst aS;simp only[Th.nV]at h;cases e:due[i]?with
  |none=>rw[e]at h;cases h
  |
   some v=>
   rw[e]at h;obtain⟨t,J,R⟩:=b7.j1;exact ax1 X z s j i due.length O dN d3 cm d4 aM av U I M k ea cQ due v (some y) e (akg N C ao b7 h))
def akj{ea:Option Addr}{cQ a q:Nat}{x:bQ}(N:X.C.ok)(C:hx X j g)(ao:bD X z s)(B:At X z.ap s.aI a q x)(aS:n<=16)(al:i<=n){kg:ar->List Int->Th.K->Option ar}(ah:(if i=n then g s Th.dA (.parent a k)else Th.nV X.C g j kg s (.mz a) i (.each (.mz a) i n (.parent a k)))=some y):ad aa 207 [af i,ptr d3 0,ptr d4 0,ptr cm 0,ptr dN 0] ([ab d3 3 [af n],ab d4 1 [bi 404 [ptr aM 0,ptr U 0,ptr av 0]],ab cm 255 [bi 403 [ptr aM 0,ptr av 0]],ab dN 188 [bi 207 [ptr d3 0,ptr d4 0,ptr cm 0,ptr dN 0]],eR [ab aM 110 [ptr q 0],ab av 106 [ptr (X.bq j) 0],ab U 1 [bi I M],a1 X z.ap z.ai j 0 k I M]]++bj X z s) (cp X (some y)):=
 FA e7 e7 ah (λh=>gx (λD h E=>Sp (a1.eq_30 ..) (aM,U,av,q,I,M) ⟨rfl,rfl,B.ap⟩ _ h ((au) h E)) (C z s (.parent a k) y 404 [ptr aM 0,ptr U 0,ptr av 0] ao h)) (λh O=>by
  simp only[Th.nV]at h;have cv:=B.cv;split at h
  . rename_i aj
    exact ax2 X z s j i n O dN d3 cm d4 aM av U I M k a q x (some y) B ae ae ⟨e7,C z s _ y _ _ ao h⟩
  . rename_i aj
    refine ax3 X z s j i n O dN d3 cm d4 aM av U I M k a q x (some y) B ae ae ?_;rw[cv];exact akd N ao h)
end
end Go.Proofs.YtnnhpnccfnghdaaGreat.L.bE
