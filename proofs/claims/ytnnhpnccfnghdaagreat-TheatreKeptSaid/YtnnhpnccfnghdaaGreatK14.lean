import Derived.Test.YtnnhpnccfnghdaaGreatK13
set_option linter.all false
set_option maxRecDepth 8000
set_option maxHeartbeats 5600000
namespace Go.Proofs.YtnnhpnccfnghdaaGreat.L.bE
open Go.Proofs.YtnnhpnccfnghdaaGreat.L
open Go.L Go.L.Ring Go.L.dr Go.L.dX Go.L.Whl Go.L.dB Go.L.Lx Go.L.Pg
open Go.L.Led (dg du dS bs aw e2)
open Go.L.Th (bK cV da bZ ds bQ bY eE bV ar most dU cM fg eJ dP In cR cZ eK bw bL eL eM bl cB dw go br Good eg eN dT acc Inv eu eS ff busy dG ei ef e9)
attribute[local irreducible] G cz GE cT GT bU c6 cY dc Exit.then Exit.inBlock
section
variable{X:cJ}{j p f:Nat}{c:List Value}{z:dn}{s y:ar}{k:Th.K}{g:ar->bY->Th.K->Option ar}{a:Nat}{x:bQ}{id:Int}
def FB{X:cJ}{z:dn}{s:ar}(ao:bD X z s)(h:ad aa f [] (bj X z s) (aF et (bj X z s))):ad aa f [] (bj X z s) (cp X (some s)):=λF D w st=>
 (h F D w st).mono λ_ _ ⟨v,H,e,p,q⟩=>⟨v,H,e,⟨p.1,z,s,rfl,ao,p.2⟩,q⟩
def akn{L D:List aq}{X:cJ}{z:dn}{s:ar}{h:dR}(bn:Sat ((L++bj X z s)++D) h):X.P.length<=4611686018427387904/\∀k∈X.P,kh k:=by
 have E:Sat (gk X::(L++[cG X z s,dQ z.cC z.cD s.trace,fp z.na z.fv s.notes,b2 X.am .i64 (cf z.ap),ay (e3 X z.ap s.aI),b2 X.e5 .u64 (cf z.ai),ay (gv z.ai s.lets),Lg.dp X.ld s.bf,ey X.c4 X.C.dF s.dead,cg X.m s.L z.tt,fI X,fC X s.bs,eD X.bG X.m X.C.bG X.C.aZ,ay (ed X),fy X,gw X,hc X])++(ay (c8 X z.ap z.ai s.aC)::D)) h:=Fu (L++[cG X z s,dQ z.cC z.cD s.trace,fp z.na z.fv s.notes,b2 X.am .i64 (cf z.ap),ay (e3 X z.ap s.aI),b2 X.e5 .u64 (cf z.ai),ay (gv z.ai s.lets),Lg.dp X.ld s.bf,ey X.c4 X.C.dF s.dead,cg X.m s.L z.tt,fI X,fC X s.bs,eD X.bG X.m X.C.bG X.C.aZ,ay (ed X),fy X,gw X,hc X]) (by rw[jI]at bn⊢;exact bn);have z0:=E;obtain⟨_,_,_,_,⟨a,j,o⟩,_⟩:=z0;have fG:a.length=X.P.length:=LD j;have aw:a.length*80<=140737488351232:=o.len;exact⟨by omega,λk hk=>ayH E hk⟩
def azv{P:Program}{f:FuncId}{args:List Value}(L:List aq){X:cJ}{z:dn}{s:ar}{post:Value->List aq->Prop}(h:X.P.length<=4611686018427387904->(∀k∈X.P,kh k)->ad P f args (L++bj X z s) post):ad P f args (L++bj X z s) post:=λF D w st=>
 h (akn st.eI).1 (akn st.eI).2 F D w st
def azw{t:List (cy×List Int)}{fh:cy}{n:Nat}(h:∀p∈t,p.2.length<n)(bn:0<n):(Th.gG t fh).length<n:=by
 induction t with
 |nil=>exact bn
 |
  cons p r L=>
  obtain⟨k,l⟩:=p;unfold Th.gG;split
  . exact h (k,l) (OF ..)
  . exact L λp hp=>h p (D0 _ hp)
theorem ako{q:Nat}{x:bQ}{left:Nat}(N:X.C.ok)(C:hx X j g)(ao:bD X z s)(b7:cM X.C j s)(B:At X z.ap s.aI a q x)(T:eJ X.C x)(o:s.dead.length<most/\s.trace.length<most)(L:∀id l,Th.kq s id=some l->0<=l.n/\l.n<=255)(ah:Th.rW X.C g j s a left=some y):ad aa 196 Es (bj X z s) dV:=by
 have O:=B.qj b7;refine ay3 N C ao b7 B (λid I M a8 h=>?_) ah;exact akm N C ⟨ao.gK,ao.gE,ao.gF,by show _=(s.aI.set _ _).length;rw[gq];exact ao.ap,ao.ai⟩ (b7.set B.aP.1 ⟨O.id,O.kids,by have:=O.q1;show 3*(x.front.dropLast.length+x.aside.length)<most;rw[ajl];omega⟩) (At.set B B.cv) ⟨T.par,T.slots,T.kids,T.Lh,T.SX,T.SY,T.j0⟩ o (L id) h
def azx{k:Th.K}(ao:bD X z s):ad aa f c (a1 X z.ap z.ai j p (.nil) f c::bj X z s) (cp X (some s)):=by
 refine ayU λf a8=>?_;rcases a8 with rfl|rfl|rfl|rfl|rfl
 . exact FB ao (ayx _)
 . exact FB ao (ayy _)
 . exact FB ao (ayz _)
 . exact FB ao (ayA _)
 . exact FB ao (ayB _)
theorem azy{k:Th.K}{g:ar->bY->Th.K->Option ar}{a:Nat}{x:bQ}{left:Nat}(N:X.C.ok)(C:hx X j g)(ao:bD X z s)(b7:cM X.C j s)(ag:Th.dz s a=some x)(T:eJ X.C x)(o:s.dead.length<most/\s.trace.length<most)(L:∀id l,Th.kq s id=some l->0<=l.n/\l.n<=255)(aw:1<=left/\left<=16)(ah:Th.rW X.C g j s a (left -1)=some y):ad aa f c (a1 X z.ap z.ai j p (.next a left) f c::bj X z s) dV:=by
 refine iV (a1.eq_10 ..) ?_;rintro⟨aM,av,U,q⟩ ⟨rfl,rfl,bo⟩;dsimp only;have d:1<=left:=aw.1;have ip:left<=16:=aw.2;have h:ad aa 196 [ptr (X.bq j) 0,ptr q 0,af (left -1:Nat)] (bj X z s) dV:=(ako N C ao b7 nP T o L ah);refine ax Tryz.func236 λF D=>?_;refine bF ?_;refine aA rfl (ks ((left -1:Nat):Int) eV rfl rfl) ?_;exact vv
theorem azz{k:Th.K}{g:ar->bY->Th.K->Option ar}{a:Nat}{x:bQ}{left b:Nat}{Y:gA}(N:X.C.ok)(C:hx X j g)(ao:bD X z s)(b7:cM X.C j s)(ag:Th.dz s a=some x)(T:eJ X.C x)(o:s.dead.length<most/\s.trace.length<most)(L:∀id l,Th.kq s id=some l->0<=l.n/\l.n<=255)(v:sO Y)(ah:(if Y.out≠1 then Th.zO j s a else Th.s4 X.C g j s a Y.val (.next a left))=some y):ad aa f c (a1 X z.ap z.ai j p (.nX a left) f c::cW X p kI::bj X z s) dV:=by
 refine iV (a1.eq_11 ..) ?_;rintro⟨aM,av,U,Z,ot,q⟩ ⟨rfl,rfl,bo⟩;dsimp only;have B:=At.mk' ao b7 ag bo;split at ah
 . rename_i aJ
   have h:ad aa 232 qJ (bj X z s) dV:=(ake ao b7 B ah);refine ax Tryz.func240 λF D=>?_;refine adL ?_;refine ch ?_;refine bt (h) ?_;exact zx
 . rename_i aJ
   have aJ:Y.out=1:=(Decidable.not_not.1 aJ);have h:ad aa 238 [ptr (X.bq j) 0,ptr q 0,bu Y.val,bi 236 [ptr av 0,ptr U 0,ptr ot 0]] (a1 X z.ap z.ai j 0 (.next a left) 236 [ptr av 0,ptr U 0,ptr ot 0]::bj X z s) dV:=(akm N C ao b7 B T o (L _) ah);refine ax Tryz.func240 λF D=>?_;refine Rg ?_;refine h9 [5,7] [5] [(0,.bJ),(1,.bJ),(2,.loc),(3,.loc),(4,.loc),(6,.bJ),(5,.c0),(7,.c0)] [ab aM 246 [ptr p 0],ab av 106 en,ab U 110 [ptr q 0],ab Z 1 [bi 236 [ptr av 0,ptr U 0,ptr ot 0]],cW X p kI] mixed gS ?_;refine bh ?_;refine QT ?_;refine bt (iB (a1.eq_10 ..) (av,U,ot,q) vg h) ?_;refine pz ?_;exact px
theorem azA{k:Th.K}{g:ar->bY->Th.K->Option ar}{a:Nat}{x:bQ}{b:Nat}{Y:gA}(N:X.C.ok)(C:hx X j g)(ao:bD X z s)(b7:cM X.C j s)(ag:Th.dz s a=some x)(T:eJ X.C x)(o:s.dead.length<most/\s.trace.length<most)(L:∀id l,Th.kq s id=some l->0<=l.n/\l.n<=255)(v:sO Y)(V:Y.out=1->0<=Y.val)(ah:(if Y.out≠1 then Th.rW X.C g j s a X.C.mB else(s.notes[Y.val.toNat]?).bind λm=>Th.vM X.C g j s a m (.on a))=some y):ad aa f c (a1 X z.ap z.ai j p (.jB a) f c::cW X p kI::bj X z s) dV:=by
 refine iV (a1.eq_7 ..) ?_;rintro⟨aM,av,U,q⟩ ⟨rfl,rfl,bo⟩;dsimp only;have B:=At.mk' ao b7 ag bo;obtain⟨t,J,_⟩:=b7.j1;split at ah
 . rename_i aJ
   have h:ad aa 196 [ptr (X.bq j) 0,ptr q 0,af X.C.mB] (bj X z s) dV:=(ako N C ao b7 B T o L ah);refine ax Tryz.func195 λF D=>?_;haveI:=gg (X:=X) (ap:=z.ap) (ai:=z.ai) J;refine adL ?_;refine bF ?_;refine ct [] [10,201] (ab av 106 en::ab U 110 [ptr q 0]::qI) ?_;refine cU ?_;refine bt (h) ?_;exact xt
 . rename_i aJ
   have aJ:=Decidable.not_not.1 aJ;have V:=V aJ;obtain⟨m,bb,ah⟩:=io.1 ah;have V:Y.val=((Y.val.toNat):Int):=ae;have M:s.notes.length<most:=b7.notes;have h:ad aa 197 [ptr (X.bq j) 0,ptr q 0,.agg (iA m).toArray,bi 198 [ptr U 0,ptr av 0]] (a1 X z.ap z.ai j 0 (.on a) 198 [ptr U 0,ptr av 0]::bj X z s) dV:=(ay2 N C ao b7 B (b7.Li m (h0 bb)) T.Lh ah);refine ax Tryz.func195 λF D=>?_;haveI:=gg (X:=X) (ap:=z.ap) (ai:=z.ai) J;have d:(Y.val.toNat)<s.notes.length:=(dd.1 bb).1;have e:s.notes.length<1099511627776:=M;refine Rg ?_;refine h9 [12,17] [12] [(0,.bJ),(1,.bJ),(2,.bJ),(3,.bJ),(4,.bJ),(5,.bJ),(6,.bJ),(7,.bJ),(8,.bJ),(9,.loc),(10,.loc),(11,.loc),(16,.bJ),(12,.c0),(13,.loc),(14,.loc),(15,.loc),(17,.c0)] [ab aM 246 [ptr p 0],ab av 106 en,ab U 110 [ptr q 0],cW X p kI,cG X z s,fp z.na z.fv s.notes,ay lB] mixed gS ?_;refine fx ?_;refine QT ?_;refine go_v rfl .none rfl (pU ((Y.val.toNat):Int) (by rw[V];exact jv (by omega)) rfl) ?_;refine go_v rfl .none rfl (fA rfl rfl (show(Y.val.toNat)<s.notes.length by omega)) ?_;refine go_v rfl .none rfl (kN rfl (kO iA 3 avu bb) rfl) ?_;refine bt (iB (a1.eq_8 ..) (U,av,q) ⟨rfl,rfl,bo⟩ h) ?_;refine pz ?_;exact px
theorem azB{H:ds}(N:X.C.ok)(C:hx X j g)(ao:bD X z s)(b7:cM X.C j s)(ag:Th.dz s a=some x)(ah:((Th.iM {Th.c3 with kind:=4,dK:=a,id:=id,name:=H.state} (Th.c7 s a {x with state:=H.state})).bind λs=>if H.stop then Th.s3 X.C g j s a k else if H.fail≠[]then Th.uh X.C g j s a H.fail k else g s Th.dA k)=some y):ad aa f c (a1 X z.ap z.ai j p (.ended a id H k) f c::bj X z s) dV:=by
 refine iV (a1.eq_13 ..) ?_;rintro⟨aM,av,U,Z,aN,aO,q,I,M,bS,pc⟩ ⟨rfl,rfl,bo⟩;dsimp only;have B:=At.mk' ao b7 ag bo;obtain rfl:a=x.id:=B.cv.symm;have O:=B.qj b7;obtain⟨t,J,R⟩:=b7.j1;replace ah:=io.1 ah;obtain⟨s1,l,ah⟩:=ah;obtain⟨o,rfl⟩:=Th.l4 l;replace o:s.trace.length<most:=o;obtain⟨i,m,b,r,d⟩:=H;simp only at ah;cases r with
 |
  true=>
  simp only[fk]at ah;refine xY B λe Y=>?_;exact ayk X z s j t x.id q x e B Y id I M k (some y) aM av U Z aN aO bS pc i m b d o (λaE aK=>TE (z:={z with cC:=aE,cD:=aK}) N C ⟨ao.gK,ao.gE,ao.gF,by show _=(s.aI.set _ _).length;rw[gq];exact ao.ap,ao.ai⟩ ((b7.z7 (aY:={s with trace:=s.trace++[({Th.c3 with kind:=4,dK:=x.id,id:=id,name:=b}:bZ)]}) rfl Th.dP.same rfl rfl rfl Bz b7.np.2).set B.aP.1 ⟨O.id,O.kids,O.q1⟩) (At.set (n:={x with state:=b}) B rfl) ah)
 |
  false=>
  simp only[eH,eo]at ah;split at ah
  . rename_i T
    refine xY B λe Y=>?_;exact ayl X z s j t x.id q x e B Y id I M k (some y) aM av U Z aN aO bS pc i m b d o T (λaE aK=>TF (z:={z with cC:=aE,cD:=aK}) N C ⟨ao.gK,ao.gE,ao.gF,by show _=(s.aI.set _ _).length;rw[gq];exact ao.ap,ao.ai⟩ ((b7.z7 (aY:={s with trace:=s.trace++[({Th.c3 with kind:=4,dK:=x.id,id:=id,name:=b}:bZ)]}) rfl Th.dP.same rfl rfl rfl Bz b7.np.2).set B.aP.1 ⟨O.id,O.kids,O.q1⟩) (At.set (n:={x with state:=b}) B rfl) ah)
  . rename_i T
    obtain rfl:=Decidable.not_not.1 T;refine q5 [_,_,_,_,_,_,_] λa8=>?_;refine xY (L:=[_,_,_,_,_,_,_,_]) B λe Y=>?_;exact aym X z s j t x.id q x e B Y id I M k (some y) aM av U Z aN aO bS pc i m b [] o (λaE aK=>⟨a8,C hY (Th.c7 I2 x.id JI) k y I M ⟨ao.gK,ao.gE,ao.gF,by show _=(s.aI.set _ _).length;rw[gq];exact ao.ap,ao.ai⟩ ah⟩)
def azC{v:Int}(N:X.C.ok)(C:hx X j g)(ao:bD X z s)(b7:cM X.C j s)(ag:Th.dz s a=some x)(V:0<=v)(ah:(if v<4611686018427387904 then Th.nW X.C g j s (.mz a) 0 (min v.toNat X.C.aZ) (.parent a k)else none)=some y):ad aa f c (a1 X z.ap z.ai j p (.who a k) f c::cW X p (.gm v)::bj X z s) dV:=by
 refine iV (a1.eq_29 ..) ?_;rintro⟨aM,av,U,Z,aN,q,I,M⟩ ⟨rfl,rfl,bo⟩;dsimp only;have B:=At.mk' ao b7 ag bo;have mp:=N.ha;split at ah
 . rename_i b
   have V:0<=v/\v<4611686018427387904:=⟨V,b⟩;have h:ad aa 156 [ptr (X.bq j) 0,af (min v.toNat X.C.aZ:Nat),bi 403 [ptr Z 0,ptr U 0],bi 404 [ptr Z 0,ptr aN 0,ptr U 0]] ([ab Z 110 [ptr q 0],ab U 106 en,ab aN 1 [bi I M],a1 X z.ap z.ai j 0 k I M]++bj X z s) dV:=by
    refine pA (λD h E=>cA () trivial qL h E) (Cz X z s (min v.toNat X.C.aZ) _ _ _ _ (eR [_,_,_,_]) (some y) (X.bq j) (λd3 d4 cm dN=>?_));exact akj (ea:=none) (cQ:=0) (av:=U) (U:=aN) N C ao B (mW (Nat.min_le_right _ _) mp) (fc _) ah
   refine ax Tryz.func402 λF D=>?_;haveI:=Fx (X:=X) (p:=p) (v:=v);refine aG ?_;refine ct [] [12] [ab aM 314 [ptr p 0],ab av 32 [ptr X.h 0],cW X p (.gm v),cG X z s] ?_;refine bF ?_;refine go_v rfl .none rfl (pU v y5 rfl) ?_;refine bz ?_;refine go_v rfl .none rfl (uw ((min v.toNat X.C.aZ:Nat):Int) ae rfl rfl) ?_;refine bH ?_;exact vv
 . cases ah
theorem azD{e:fw}{ac:hy}(N:X.C.ok)(C:hx X j g)(ao:bD X z s)(b7:cM X.C j s)(ag:Th.dz s a=some x)(T:eJ X.C x)(hp:ac.out=0->ac.val=0)(ah:(if ac.out=2 then(Th.kill id 1 s).bind λs=>g s Th.dA k else(Th.dz (Th.mA s id 1 5) a).bind λx=>g (Th.c7 (Th.mA s id 1 5) a {x with timers:=Th.l3 x.timers e.name id}) Th.dA k)=some y):ad aa f c (a1 X z.ap z.ai j p (.asked id a e k) f c::cW X p (.eY ac)::bj X z s) (cp X (some y)):=by
 refine iV (a1.eq_19 ..) ?_;rintro⟨aM,av,U,Z,aN,aO,q,I,M⟩ ⟨rfl,rfl,bo⟩;dsimp only;have B:=At.mk' ao b7 ag bo;obtain⟨t,J,R⟩:=b7.j1;refine q5 [_,_,_,_,_,_] λa8=>?_;split at ah
 . rename_i aJ
   obtain⟨s1,hk,aH⟩:=io.1 ah;obtain⟨l,aw,aQ,o,_,rfl⟩:=Th.Cp hk;obtain⟨u,K⟩:=hF.of ao aw;have aS:s.bf.length<=most:=b7.l6;have aD:X.C.dF<=64:=N.s5;have aX:∀aE aK,ho X j {z with cC:=aE,cD:=aK} (kp s id l.to 1) k I M (some y):=(λaE aK=>⟨a8,C {z with cC:=aE,cD:=aK} (kp s id l.to 1) k y I M ⟨ao.gK,ao.gE,ao.gF,ao.ap,ao.ai⟩ aH⟩);refine ax Tryz.func389 λF D=>?_;refine bh ?_;refine aV (Ck.VT X.dt X.C.dC p ac hp) ?_;refine cH ?_;refine bh ?_;refine cj rfl (b4 rfl (tQ X z s id 1 u l K bN aD aQ o aS) bI) ?_;refine EK ?_;intro aE aK;haveI:=(aX aE aK).iU;refine bF ?_;exact aeK
 . rename_i aJ
   have d5:=azw (fh:=e.name) T.SY bN;unfold Th.mA at ah;split at ah
   . rename_i O
     obtain⟨n,b,ah⟩:=io.1 ah;obtain rfl:n=x:=by
      exact adb
     refine xY (L:=[_,_,_,_,_,_,_,_]) B λaU Y=>?_;have aS:s.bf.length<=most:=b7.l6;have aX:ho X j z (Th.c7 {s with bf:=(du s.bf id 5)} a {n with timers:=Th.l3 n.timers e.name id}) k I M (some y):=⟨a8,C z _ k y I M ⟨ao.gK,ao.gE,ao.gF,by show _=(s.aI.set _ _).length;rw[gq];exact ao.ap,ao.ai⟩ ah⟩;refine ax Tryz.func389 λF D=>?_;haveI:=aX.iU;have v:(Th.gG n.timers e.name).length<1099511627776:=d5;obtain⟨ea,cQ,d,g5⟩:=LC aU.es e.name;rw[Y.es]at d g5;refine agx ?_;refine bX ?_;refine ct [] [5,201] [ab av 32 [ptr X.h 0],ab U 36 [bu id],cG X z s] ?_;refine bz ?_;refine aV (Lg.Bq X.ld s.bf id 5 aS) ?_;refine bX ?_;refine agk ?_;intro r i m;refine cj rfl (oE rfl rfl (gx (H:=[own (.slice i ((Th.gG n.timers e.name).length+1) m) 36 1 ((Th.gG n.timers e.name).length+1) (iT (Th.gG n.timers e.name)++[bu id]),a1 X z.ap z.ai j 0 k I M,ay (iz (mx aU.es e.name))]++[ab q 118 (ee X n aU),dv aU.ka aU.kc n.kids,dv aU.hP aU.hQ n.cF,gj aU.gJ X.C.dW n.aside n.front,h4 aU.jD (min (max aU.b5.limit 0) 100) (min (max aU.b5.within 1) 4095) n.given,b2 aU.gp .i64 (n.watched.map λw=>(w,.bool true)),jf aU.jE (pq (h5 aU.es) e.name (.slice i ((Th.gG n.timers e.name).length+1) m)),gM aU.b5,ay ((e3 X z.ap s.aI).set (a -1) fu),cG X z s,dQ z.cC z.cD s.trace,fp z.na z.fv s.notes,b2 X.am .i64 (cf z.ap),b2 X.e5 .u64 (cf z.ai),ay (gv z.ai s.lets),Lg.dp X.ld (du s.bf id 5),ey X.c4 X.C.dF s.dead,cg X.m s.L z.tt,fI X,fC X s.bs,eD X.bG X.m X.C.bG X.C.aZ,ay (ed X),fy X,gw X,hc X,gk X,ay (c8 X z.ap z.ai s.aC)]) (λD h E=>(show∀h,Sat _ h->Sat ((a1 X z.ap z.ai j 0 k I M::bj X z (Th.c7 {s with bf:=(du s.bf id 5)} a {n with timers:=Th.l3 n.timers e.name id}))++D) h from λh E=>by
      rw[KU rfl,show Value.slice i ((Th.gG n.timers e.name).length+1) m=ul i m ((Th.gG n.timers e.name)++[id]) by simp[ul]]at E;have gt:=Tx aU.es e.name i m ((Th.gG n.timers e.name)++[id]) _ h ((show∀h,Sat _ h->Sat (fH i m ((Th.gG n.timers e.name)++[id])::ay (iz (mx aU.es e.name))::(a1 X z.ap z.ai j 0 k I M::([ab q 118 (ee X n aU),dv aU.ka aU.kc n.kids,dv aU.hP aU.hQ n.cF,gj aU.gJ X.C.dW n.aside n.front,h4 aU.jD (min (max aU.b5.limit 0) 100) (min (max aU.b5.within 1) 4095) n.given,b2 aU.gp .i64 (n.watched.map λw=>(w,.bool true)),jf aU.jE (pq (h5 aU.es) e.name (ul i m ((Th.gG n.timers e.name)++[id]))),gM aU.b5,ay ((e3 X z.ap s.aI).set (a -1) fu),cG X z s,dQ z.cC z.cD s.trace,fp z.na z.fv s.notes,b2 X.am .i64 (cf z.ap),b2 X.e5 .u64 (cf z.ai),ay (gv z.ai s.lets),Lg.dp X.ld (du s.bf id 5),ey X.c4 X.C.dF s.dead,cg X.m s.L z.tt,fI X,fC X s.bs,eD X.bG X.m X.C.bG X.C.aZ,ay (ed X),fy X,gw X,hc X,gk X,ay (c8 X z.ap z.ai s.aC)]++D))) h from(au)) h E);exact Sat.tail (λh E=>jr (X:=X) (z:=z) (s:={s with bf:=(du s.bf id 5)}) (x:={n with timers:=Th.l3 n.timers e.name id}) (e:={aU with es:=q4 aU.es e.name i m (Th.gG n.timers e.name++[id])}) B ⟨Y.b5,Y.la,by rw[<-Y.es];exact Tw _ _ _ _ _⟩ D h E) ((show∀h,Sat _ h->Sat (a1 X z.ap z.ai j 0 k I M::(h6 X z {s with bf:=(du s.bf id 5)} a q {n with timers:=Th.l3 n.timers e.name id} {aU with es:=q4 aU.es e.name i m (Th.gG n.timers e.name++[id])}++D)) h from by rw[Tv];exact(au)) h gt)) h E) aX.spec) bI) ?_
     exact B0
   . rename_i O
     obtain⟨n,b,ah⟩:=io.1 ah;obtain rfl:n=x:=by
      rw[ag]at b;exact(oe b).symm
     refine xY (L:=[_,_,_,_,_,_,_,_]) B λaU Y=>?_;have aS:s.bf.length<=most:=b7.l6;have aX:ho X j z (Th.c7 {s with bf:=s.bf} a {n with timers:=Th.l3 n.timers e.name id}) k I M (some y):=⟨a8,C z _ k y I M ⟨ao.gK,ao.gE,ao.gF,by show _=(s.aI.set _ _).length;rw[gq];exact ao.ap,ao.ai⟩ ah⟩;refine ax Tryz.func389 λF D=>?_;haveI:=aX.iU;have v:(Th.gG n.timers e.name).length<1099511627776:=d5;obtain⟨ea,cQ,d,g5⟩:=LC aU.es e.name;rw[Y.es]at d g5;refine agx ?_;refine bz ?_;refine agk ?_;intro r i m;refine cj rfl (oE rfl rfl (gx (H:=[own (.slice i ((Th.gG n.timers e.name).length+1) m) 36 1 ((Th.gG n.timers e.name).length+1) (iT (Th.gG n.timers e.name)++[bu id]),a1 X z.ap z.ai j 0 k I M,ay (iz (mx aU.es e.name))]++[ab q 118 (ee X n aU),dv aU.ka aU.kc n.kids,dv aU.hP aU.hQ n.cF,gj aU.gJ X.C.dW n.aside n.front,h4 aU.jD (min (max aU.b5.limit 0) 100) (min (max aU.b5.within 1) 4095) n.given,b2 aU.gp .i64 (n.watched.map λw=>(w,.bool true)),jf aU.jE (pq (h5 aU.es) e.name (.slice i ((Th.gG n.timers e.name).length+1) m)),gM aU.b5,ay ((e3 X z.ap s.aI).set (a -1) fu),cG X z s,dQ z.cC z.cD s.trace,fp z.na z.fv s.notes,b2 X.am .i64 (cf z.ap),b2 X.e5 .u64 (cf z.ai),ay (gv z.ai s.lets),Lg.dp X.ld s.bf,ey X.c4 X.C.dF s.dead,cg X.m s.L z.tt,fI X,fC X s.bs,eD X.bG X.m X.C.bG X.C.aZ,ay (ed X),fy X,gw X,hc X,gk X,ay (c8 X z.ap z.ai s.aC)]) (λD h E=>(show∀h,Sat _ h->Sat ((a1 X z.ap z.ai j 0 k I M::bj X z (Th.c7 {s with bf:=s.bf} a {n with timers:=Th.l3 n.timers e.name id}))++D) h from λh E=>by
      rw[KU rfl,show Value.slice i ((Th.gG n.timers e.name).length+1) m=ul i m ((Th.gG n.timers e.name)++[id]) by simp[ul]]at E;have gt:=Tx aU.es e.name i m ((Th.gG n.timers e.name)++[id]) _ h ((show∀h,Sat _ h->Sat (fH i m ((Th.gG n.timers e.name)++[id])::ay (iz (mx aU.es e.name))::(a1 X z.ap z.ai j 0 k I M::([ab q 118 (ee X n aU),dv aU.ka aU.kc n.kids,dv aU.hP aU.hQ n.cF,gj aU.gJ X.C.dW n.aside n.front,h4 aU.jD (min (max aU.b5.limit 0) 100) (min (max aU.b5.within 1) 4095) n.given,b2 aU.gp .i64 (n.watched.map λw=>(w,.bool true)),jf aU.jE (pq (h5 aU.es) e.name (ul i m ((Th.gG n.timers e.name)++[id]))),gM aU.b5,ay ((e3 X z.ap s.aI).set (a -1) fu),cG X z s,dQ z.cC z.cD s.trace,fp z.na z.fv s.notes,b2 X.am .i64 (cf z.ap),b2 X.e5 .u64 (cf z.ai),ay (gv z.ai s.lets),Lg.dp X.ld s.bf,ey X.c4 X.C.dF s.dead,cg X.m s.L z.tt,fI X,fC X s.bs,eD X.bG X.m X.C.bG X.C.aZ,ay (ed X),fy X,gw X,hc X,gk X,ay (c8 X z.ap z.ai s.aC)]++D))) h from(au)) h E);exact Sat.tail (λh E=>jr (X:=X) (z:=z) (s:={s with bf:=s.bf}) (x:={n with timers:=Th.l3 n.timers e.name id}) (e:={aU with es:=q4 aU.es e.name i m (Th.gG n.timers e.name++[id])}) B ⟨Y.b5,Y.la,by rw[<-Y.es];exact Tw _ _ _ _ _⟩ D h E) ((show∀h,Sat _ h->Sat (a1 X z.ap z.ai j 0 k I M::(h6 X z {s with bf:=s.bf} a q {n with timers:=Th.l3 n.timers e.name id} {aU with es:=q4 aU.es e.name i m (Th.gG n.timers e.name++[id])}++D)) h from by rw[Tv];exact(au)) h gt)) h E) aX.spec) bI) ?_
     exact B0
end
section
variable{X:cJ}{j p f:Nat}{c:List Value}{z:dn}{s y:ar}{k:Th.K}{v:Int}{g:ar->bY->Th.K->Option ar}{a:Nat}{x:bQ}{kind:cy}
def akp(h:Th.xR j s v=some y):(1<=v/\v<=s.aI.length)/\Th.hq j s (.post v.toNat (Th.nU 2)) (.run v.toNat)=some y:=by
 unfold Th.xR at h;split at h
 . rename_i V;exact⟨V,h⟩
 . cases h
def FC{r S a:List w3}(h:dP r S)(k:dP S a):dP r a:=⟨λg=>k.1 (h.1 g),k.2.trans h.2⟩
def akq(w:Int):∀(l:List Int) (r:List (Int×Int)),dP r (rK w l r)
 |[],r=>dP.same
 |x::l,r=>FC (dP.F4 (id:=x) (w:=w)) (akq w l _)
def akr(a w:Int):∀(l:List Int) (r:List (Int×Int)),dP r (rL a w l r)
 |[],r=>dP.same
 |
  x::l,r=>by
  refine FC ?_ (akr a w l _);show dP r (if bs r x=a then du r x w else r);split
  . exact dP.F4
  . exact dP.same
def azE{C:bK}{P:List b1}{s s1:ar}{id a:Nat}{kind:cy}{x:bQ}(ag:Th.dz s a=some x)(h:Th.vN C P s id a kind=some s1):∃e6 st,P.find? (λk=>decide (k.name=kind))=some e6/\e6.states[0]?=some st/\id=s.aI.length+1/\id<=C.aZ/\s.trace.length<most/\
 s1={s with aI:=s.aI.set (a -1) {x with kids:=x.kids++[(id:Int)]}++[mo id a e6 st.name],trace:=s.trace++[({Th.c3 with kind:=7,dK:=id,cw:=a,name:=kind}:bZ)]}:=by
 unfold Th.vN at h;obtain⟨e6,hk,h⟩:=io.1 h;obtain⟨st,aj,h⟩:=io.1 h;split at h
 . rename_i a2
   simp only[ag]at h;obtain⟨o,rfl⟩:=Th.l4 h;exact⟨e6,st,hk,aj,a2.1,a2.2,o,rfl⟩
 . cases h
def azF{α:Type}{l:List α}{i:Nat}{u v n:α}(h:i<l.length):(l.set i u++[n]).set i v=(l++[n]).set i v:=by
 rw[Gg _ _ (by rw[gq];exact h),Gg _ _ h,List.set_set]
def azG{id:Int}{H:ds}{i n:Nat}(N:X.C.ok)(C:hx X j g)(ao:bD X z s)(b7:cM X.C j s)(ag:Th.dz s a=some x)(T:eJ X.C x)(e:n<most)(al:i<n)(ah:Th.nW X.C g j s (.c0 a id H) (i+1) n (.ended a id H k)=some y):ad aa f c (a1 X z.ap z.ai j p (.each (.c0 a id H) i n (.ended a id H k)) f c::bj X z s) dV:=by
 refine iV (a1.eq_32 ..) ?_;rintro⟨O,dN,d3,cm,d4,aM,av,U,Z,aN,aO,aR,q,I,M,u,ea,cQ⟩ ⟨rfl,rfl,bo,w,_⟩;dsimp only;refine gx (λD h E=>Sat.tail (λh E=>Sat.tail (λh E=>Sat.tail (λh E=>Sat.tail (λh E=>Sat.tail (λh E=>cA (fR:=λ_:Unit=>True) (l:=λ_=>[_,_,_,_,_,_,_,_,_]) (D:=bj X z s++D) () trivial qL h E) E) E) E) E) E) (Ft X z s i n d3 d4 cm dN _ _ _ _ (eR [_,_,_,_,_,_,_,_,_]) (some y) O O4 ?_);exact TI (bS:=ea) (pc:=cQ) (aM:=aM) (av:=av) (U:=U) (Z:=Z) (aN:=aN) (aO:=aO) (aR:=aR) N C ao b7 nP T w ah
def azH{k:Th.K}{ac:gD}(ao:bD X z s)(b:¬ac.out=0)(b7:cM X.C j s)(ah:Th.sleep j s (!decide (ac.out=1))=some y):ad aa f c (a1 X z.ap z.ai j p (.polled) f c::cW X p (.fJ ac)::bj X z s) dV:=by
 refine iV (a1.eq_2 ..) ?_;rintro⟨aM,av⟩ ⟨rfl,rfl⟩;dsimp only;obtain⟨t,J,R⟩:=b7.j1;obtain⟨dh,I,ah⟩:=io.1 ah;obtain rfl:t=dh:=ZG;cases ah;exact jQ Pk (ayC X z s j p t ac (λh=>absurd h b) J R aM av) au (λu H q=>by
  obtain⟨rfl,rfl⟩:=q;exact⟨bj X z ab9,⟨rfl,z,ab9,rfl,jq,rfl⟩,au⟩)
def azI{k:Th.K}{ac:gD}(N:X.C.ok)(ao:bD X z s)(b:¬ac.out=0)(b7:cM X.C j s)(i:j<X.C.bc)(ah:(if ac.out=1 then Th.xR j s ac.val else Th.hq j s (.fJ (yC j)) .pG)=some y):ad aa f c (a1 X z.ap z.ai j p (.found) f c::cW X p (.fJ ac)::bj X z s) dV:=by
 refine iV (a1.eq_3 ..) ?_;rintro⟨aM,av⟩ ⟨rfl,rfl⟩;dsimp only;obtain⟨t,J,R⟩:=b7.j1;split at ah
 . rename_i aJ
   obtain⟨V,ah⟩:=akp ah;have hH:=b7.na;have mp:=N.ha;obtain⟨x,ag⟩:∃x,Th.dz s ac.val.toNat=some x:=by
    exact adC
   obtain⟨q,B⟩:=At.of ao b7 ag;have aX:=zJ B.ap;rw[show((ac.val.toNat -1+1:Nat):Int)=ac.val by omega]at aX;refine adW ?_;intro hp V h;refine ax Tryz.func83 λF D=>?_;exact agS
 . rename_i aJ
   obtain⟨dh,I,a,rfl⟩:=Th.kd ah;have hp:ac.out=0->ac.val=0:=(λh=>absurd h b);refine ax Tryz.func83 λF D=>?_;haveI:=gg (X:=X) (ap:=z.ap) (ai:=z.ai) I;haveI:=sN (X:=X) (ap:=z.ap) (ai:=z.ai) I;refine Q6 ?_;refine bh ?_;refine ir [11,12,13] [12] [1,5,9,13,17,21,25,29,33,37,41,46,50,54,3,3,3,50,46,54] [ab av 106 [ptr (X.bq j) 0],cG X z s,ay (c8 X z.ap z.ai s.aC)] ?_;refine cO ?_;refine e8 ?_ ?_
   . refine bt (aj8 X i) ?_
     rintro _ _ ⟨S,rfl,rfl⟩;refine er ?_;refine aG ?_;refine wn λU=>?_;exact afh
   . refine wn λU=>?_
     refine aG ?_;refine bt (aj8 X i) ?_;rintro _ _ ⟨S,rfl,rfl⟩;refine er ?_;exact afh
def azJ{k:Th.K}{ac:gD}(N:X.C.ok)(ao:bD X z s)(b:¬ac.out=0)(b7:cM X.C j s)(ah:(if ac.out=1 then Th.xR j s ac.val else Th.sleep j s true)=some y):ad aa f c (a1 X z.ap z.ai j p (.pG) f c::cW X p (.fJ ac)::bj X z s) dV:=by
 refine iV (a1.eq_4 ..) ?_;rintro⟨aM,av⟩ ⟨rfl,rfl⟩;dsimp only;obtain⟨t,J,R⟩:=b7.j1;split at ah
 . rename_i aJ
   obtain⟨V,ah⟩:=akp ah;have hH:=b7.na;have mp:=N.ha;obtain⟨x,ag⟩:∃x,Th.dz s ac.val.toNat=some x:=by
    exact adC
   obtain⟨q,B⟩:=At.of ao b7 ag;have aX:=zJ B.ap;rw[show((ac.val.toNat -1+1:Nat):Int)=ac.val by omega]at aX;refine adW ?_;intro hp V h;refine ax Tryz.func87 λF D=>?_;exact agS
 . rename_i aJ
   obtain⟨dh,I,ah⟩:=io.1 ah;obtain rfl:t=dh:=ZG;cases ah;exact jQ Pk (ayD X z s j p t ac (λh=>absurd h b) J R aM av aJ) au (λu H q=>by
    obtain⟨rfl,rfl⟩:=q;exact⟨bj X z {s with aC:=s.aC.set j {t with jg:=true}},⟨rfl,z,{s with aC:=s.aC.set j {t with jg:=true}},rfl,jq,rfl⟩,au⟩)
def azK{slot:Nat}{v:Int}(N:X.C.ok)(C:hx X j g)(ao:bD X z s)(b7:cM X.C j s)(ag:Th.dz s a=some x)(T:eJ X.C x)(gY:slot<4)(V:0<=v/\v<4611686018427387904)(ah:(if(X.C.aZ:Int)<v then((Th.iM {Th.c3 with kind:=8,dK:=a,name:=kind} s).map (·,(0:Int))).bind abd else((Th.vN X.C X.P s v.toNat a kind).map (·,v)).bind abd)=some y):ad aa f c (a1 X z.ap z.ai j p (.mE a kind slot k) f c::cW X p (.gm v)::bj X z s) dV:=by
 refine iV (a1.eq_18 ..) ?_;rintro⟨aM,av,U,Z,aN,aO,q,I,M⟩ ⟨rfl,rfl,bo⟩;dsimp only;have B:=At.mk' ao b7 ag bo;have O:=B.qj b7;have m6:=B.aP.1;have d5:a -1<s.aI.length:=(dd.1 B.ag).1;refine q5 [_,_,_,_,_,_] λa8=>?_;split at ah
 . rename_i a2
   replace ah:=io.1 ah;obtain⟨E,n6,ah⟩:=ah;obtain⟨s1,d,rfl⟩:=o3.1 n6;obtain⟨o,rfl⟩:=Th.l4 d;obtain⟨n,b,ah⟩:=io.1 ah;obtain rfl:n=x:=by
    exact adb
   refine xY (L:=[_,_,_,_,_,_,_,_]) B λe Y=>?_;obtain rfl:a=n.id:=B.cv.symm;exact ayQ X z s j n.id q p slot kind n e ao N B Y I M k aM av U Z aN aO (some y) gY T.slots o v ⟨a2,V.2⟩ (λaE aK=>⟨a8,C hY _ k y I M ⟨ao.gK,ao.gE,ao.gF,by show _=(s.aI.set _ _).length;rw[gq];exact ao.ap,ao.ai⟩ ah⟩)
 . rename_i a2
   obtain⟨id,rfl⟩:∃id:Nat,v=id:=⟨v.toNat,by omega⟩;replace ah:=io.1 ah;obtain⟨E,n6,ah⟩:=ah;obtain⟨s1,d,rfl⟩:=o3.1 n6;rw[Kp]at d;obtain⟨e6,st,i2,g4,cv,m,o,rfl⟩:=azE ag d;obtain⟨n,b,ah⟩:=io.1 ah;obtain rfl:{x with kids:=x.kids++[(id:Int)]}=n:=by
    unfold Th.dz at b;rw[bg m6]at b;simp only at b;rw[kS (by rw[gq];exact d5),zu d5]at b;exact oe b
   refine azv [_,_,_,_,_,_,_,_] λt s2=>?_;refine xY (L:=[_,_,_,_,_,_,_,_]) B λe Y=>?_;have r:=s2 e6 (rf i2);refine ayR X z s j a q p slot kind x e ao N B Y I M k aM av U Z aN aO (some y) gY T.slots o id st.name e6 st t i2 r g4 rfl cv m O.kids (λi aE aK=>⟨a8,?_⟩);refine C {z with ap:=z.ap++[i],cC:=aE,cD:=aK} _ k y I M ⟨ao.gK,ao.gE,ao.gF,by show(z.ap++[i]).length=((s.aI++[_]).set _ _).length;rw[gq,ep,ep,ao.ap];rfl,ao.ai⟩ ?_;rw[<-ah];unfold Th.c7;simp only;rw[azF d5]
def azL{k:Th.K}{g:ar->bY->Th.K->Option ar}{ac:hy}(N:X.C.ok)(C:hx X j g)(ao:bD X z s)(b7:cM X.C j s)(aJ:¬ac.out=0)(d:ac.due.length<=64)(ip:ac.cut.length+ac.ref.length<=64)(e:mb s.bs)(m8:s.bs.T.length<=1099511627776)(d2:Th.bL s+200<most)(ah:((Th.iM PF {s with now:=s.now+1}).bind λs=>(Th.kK 1 ac.ref s).bind λs=>(Th.kK 4 ac.cut s).bind λs=>Th.nW X.C g j (ac.due.foldl (λs id=>Th.move s id 1) ((s.bs.T.map (·.id)).foldl (λs id=>Th.mA s id 5 6) s)) (.leave ac.due) 0 ac.due.length .nil)=some y):ad aa f c (a1 X z.ap z.ai j p (.mC) f c::cW X p (.eY ac)::bj X z s) dV:=by
 refine iV (a1.eq_5 ..) ?_;rintro⟨aM,av,U⟩ ⟨rfl,rfl⟩;dsimp only;replace ah:=io.1 ah;obtain⟨s1,h1,ah⟩:=ah;replace ah:=io.1 ah;obtain⟨Z,h2,ah⟩:=ah;replace ah:=io.1 ah;obtain⟨b9,aH,ah⟩:=ah;obtain⟨o,rfl⟩:=Th.l4 h1;replace o:s.trace.length<most:=o;obtain⟨⟨cl,I,bk,aU⟩,F,cE,V,t,_⟩:=Th.Lk h2;obtain⟨⟨a3,J,b0,bB⟩,r,d8,t3,R,_⟩:=Th.Lk aH;have u:s.trace.length+s.dead.length+s.now+200<most:=by unfold Th.bL at d2;omega
 simp only[ep,iY,lk]at V t;have b:Z.lets=s.lets:=by rw[aU]
 have i:b9.lets=s.lets:=by rw[bB,b]
 have m:b9.aI=s.aI:=by rw[bB,aU]
 have v:b9.notes=s.notes:=by rw[bB,aU]
 have w:b9.aC=s.aC:=by rw[bB,aU]
 refine ayP X z s j p ac aM av U (some y) aJ ae ae d e m8 N.s5 b7.l6 ae o (λid al=>?_) (λid al=>?_) ae ae (λB a gr cd cC cD cx a4 d9=>?_)
 . obtain⟨l,aw⟩:=cE id al
   obtain⟨q,K⟩:=hF.of ao (show Th.kq s id=some l from aw);exact⟨q,l,K⟩
 . obtain⟨l,aw⟩:=d8 id al
   have ip:Th.kq s id=some l:=by unfold Th.kq at aw⊢;rwa[b]at aw
   obtain⟨q,K⟩:=hF.of ao ip;exact⟨q,l,K⟩
 . obtain rfl:Z=B:=by rw[h2]at gr;exact oe gr
   obtain rfl:b9=a:=by rw[aH]at cd;exact oe cd
   rw[Th.S0,Th.ajt]at ah;have G:cM X.C j Ek:=b7.z7 (aY:=Ek) m (FC F (FC r (FC (akr 5 6 _ _) (akq 1 _ _)))) v i w (by show b9.trace.length<=most;omega) (by show b9.dead.length<=most;omega);have H:bD X zi Ek:=⟨ao.gK,ao.gE,ao.gF,by show z.ap.length=b9.aI.length;rw[m];exact ao.ap,by show z.ai.length=b9.lets.length;rw[i];exact ao.ai⟩;refine pA (L:=[_,_,_]) (A:=eR [_,_,_,a1 X z.ap z.ai j 0 .nil 159 []]) (λD h E=>cA (fR:=λ_:Unit=>True) (l:=λ_=>[_,_,_,_]) (D:=D) () trivial qL h (Sat.tail (λh E=>Sat.tail (λh E=>Sat.tail (λh E=>Fw (.inr (.inr (.inr (.inr rfl)))) _ h E) E) E) E)) (Cz X zi Ek ac.due.length _ _ _ _ (eR [_,_,_,_]) (some y) (X.bq j) (λd3 d4 cm dN=>?_));exact aki (z:={z with cC:=cC,cD:=cD}) (s:={b9 with bf:=rK 1 ac.due (rL 5 6 (b9.bs.T.map (·.id)) b9.bf)}) (ea:=a4) (cQ:=d9) (aM:=U) (av:=cx) (U:=0) N C H e7 G rfl ah
end
section
variable{X:cJ}{ap ai:List Nat}{j p f a i n:Nat}{id:Int}{H:ds}{k:Th.K}{c:List Value}{z:dn}{D ba:List aq}{s y:ar}{h:dR}{post:Value->List aq->Prop}{r:bY}{g:ar->bY->Th.K->Option ar}
theorem aks:∀k:Th.K,64<=bw k:=λk=>by
 cases k<;>(simp only[bw,Th.nm])<;>first|omega|(rename_i d i n k;cases d<;>simp only[Th.wd]<;>omega)
theorem azM(s:Sat (a1 X ap ai j p (.each (.c0 a id H) i n k) f c::D) h):∃dj,k=.ended a id H dj:=by
 cases k with
 |ended cl d o k=>rw[a1]at s;obtain⟨_,g,_⟩:=hb s;simp only at g;obtain⟨_,_,_,_,rfl,rfl,rfl⟩:=g;exact⟨k,rfl⟩
 |_=>rw[a1]at s;obtain⟨_,g,_⟩:=hb s;exact g.elim;all_goals(intros;simp_all)
theorem azN(s:Sat (a1 X ap ai j p (.each (.mz a) i n k) f c::D) h):∃dj,k=.parent a dj:=by
 cases k with
 |parent cl k=>rw[a1]at s;obtain⟨_,g,_⟩:=hb s;simp only at g;obtain⟨_,_,_,rfl⟩:=g;exact⟨k,rfl⟩
 |_=>rw[a1]at s;obtain⟨_,g,_⟩:=hb s;exact g.elim;all_goals(intros;simp_all)
theorem azO(h:∀dj,k=.ended a id H dj->ad aa f c (a1 X ap ai j p (.each (.c0 a id H) i n k) f c::ba) post):ad aa f c (a1 X ap ai j p (.each (.c0 a id H) i n k) f c::ba) post:=λF D w s=>
 let⟨dj,e⟩:=azM s.eI;h dj e F D w s
theorem azP(h:∀dj,k=.parent a dj->ad aa f c (a1 X ap ai j p (.each (.mz a) i n k) f c::ba) post):ad aa f c (a1 X ap ai j p (.each (.mz a) i n k) f c::ba) post:=λF D w s=>
 let⟨dj,e⟩:=azN s.eI;h dj e F D w s
theorem FD{P:Program}{f:FuncId}{args:List Value}{A B:aq}{ba:List aq}{post:Value->List aq->Prop}(h:ad P f args (A::ba) post):ad P f args (A::B::ba) post:=
 gx (I:=A::ba) (λD h E=>Sat.tail (λh E=>Sat.drop E) E) h
structure CC(X:cJ)(j:Nat)(s:ar):Prop where
 W:cM X.C j s
 dl:s.dead.length<most/\s.trace.length<most
 gJ:∀id l,Th.kq s id=some l->0<=l.n/\l.n<=255
 s9:∀a x,Th.dz s a=some x->eJ X.C x
 ex:∀a,cB (bl s) a->∃x,Th.dz s a=some x
 na:s.aI.length<=X.C.aZ
theorem CC.of{f:Nat->Th.gl}{X:cJ}{n ce j p q:Nat}{s:ar}(h:In f X.C X.P n j p q s)(aS:n<=br)(hp:bL s+64<=ce)(az:ce<1099511627776):CC X j s:=by
 have n7:most=1099511627776:=rfl;have u:s.trace.length+s.dead.length+64<=ce:=Iz;refine⟨cM.of h aS ae,by omega,λid l e=>?_,λa x e=>(h.s9 ae e).2.2,λa v=>?_,h.base.na⟩
 . unfold Th.kq at e
   split at e
   . exact(h.base.lets l H9).n
   . cases e
 . obtain⟨h1,h2⟩:=v
   unfold Th.dz;rw[bg h1];have h2:a<=s.aI.length:=h2;exact⟨_,cq ae⟩
theorem akt{k:Th.K}(N:X.C.ok)(C:hx X j g)(ao:bD X z s)(K:CC X j s)(aQ:cZ k)(hk:cR X.C X.P (bl s) k)(ah:dw X.C X.P g j s r k=some y):ad aa f c (a1 X z.ap z.ai j p k f c::bj X z s) dV:=by
 cases k with
 |nil=>simp only[dw]at ah;cases ah;exact azx (k:=.nil) ao
 |
  run a=>
  obtain⟨x,ag⟩:=K.ex a hk;exact ay5 (k:=.nil) ao K.W ag ah
 |
  on a=>
  obtain⟨x,ag⟩:=K.ex a hk;simp only[dw,ag,qW,k3]at ah;exact ay6 (k:=.nil) ao K.W ag ah
 |
  next a left=>
  obtain⟨x,ag⟩:=K.ex a hk.1;exact azy (k:=.nil) N C ao K.W ag (K.s9 a x ag) K.dl K.gJ hk.2 ah
 |
  ended a id H k=>
  obtain⟨x,ag⟩:=K.ex a hk.1;simp only[dw,ag,qW,k3]at ah;exact azB N C ao K.W ag ah
 |
  alone a k=>
  obtain⟨x,ag⟩:=K.ex a hk.1;exact aze N C ao K.W ag ah
 |
  shut a k=>
  obtain⟨x,ag⟩:=K.ex a hk.1;exact azh ao K.W ag ah
 |
  parent a k=>
  obtain⟨x,ag⟩:=K.ex a hk.1;simp only[dw,ag,qW,k3]at ah;exact azj N C ao K.W ag ah
 |
  each d i n k=>
  obtain⟨G,hu,hk,_,_⟩:=hk;have n7:most=1099511627776:=rfl;cases d with
  |
   c0 a id H=>
   obtain⟨h1,h2,aH,bm,dk⟩:=G;obtain⟨x,ag⟩:=K.ex a h1;refine azO λdj e=>?_;subst e;exact azG N C ao K.W ag (K.s9 a x ag) ae hu ah
  |cancel ids=>exact azp N C ao G.1 (λv V=>by have:1<=v:=(G.2 v V).1;omega) hu ah
  |leave due=>exact azq N C ao K.W G.1 (by have:=G.2.1;omega) hu ah
  |push l w=>exact azo N C ao G.1 hu ah
  |
   mz a=>
   obtain⟨h1,h2,aH⟩:=G;obtain⟨x,ag⟩:=K.ex a h1;refine azP λdj e=>?_;subst e;exact azr N C ao K.W ag aH ae hu ah
 |_=>exact aQ.elim
theorem azQ{f0:Nat->Th.gl}{X:cJ}{n ce j p f:Nat}{c:List Value}{z:dn}{s y:ar}{r:bY}{g:ar->bY->Th.K->Option ar}{k:Th.K}(N:X.C.ok)(C:hx X j g)(ao:bD X z s)(bM:In f0 X.C X.P n j (eL k) (eM k) s)(cL:n<=br)(az:ce<1099511627776)(W:bL s+bw k<=ce)(hk:cR X.C X.P (bl s) k)(aD:eK X.C j s r k)(aJ:r.over=true)(o:∀ac,r=.eY ac->0<=ac.val/\ac.val<=18446744073709551615)(ah:dw X.C X.P g j s r k=some y):
 ad aa f c (a1 X z.ap z.ai j p k f c::cW X p r::bj X z s) (cp X (some y)):=by
 have n7:most=1099511627776:=rfl;have H:br=1000000000000:=rfl;have u:=aks k;have K:CC X j s:=CC.of bM cL ae az;by_cases aQ:cZ k
 . refine FD ?_
   exact akt N C ao K aQ hk ah
 have v:∀{b:Nat} {Y:gA},bY.over kI=true->¬Y.out=0:=λh e=>by simp[bY.over,gA.over,e]at h
 have q:∀{ac:gD},bY.over (.fJ ac)=true->¬ac.out=0:=λh e=>by simp[bY.over,gD.over,e]at h
 have t:∀{ac:hy},bY.over (.eY ac)=true->¬ac.out=0:=λh e=>by simp[bY.over,hy.over,e]at h
 cases k with
 |polled=>obtain⟨c,rfl⟩:=aD;exact azH (k:=.nil) ao (q aJ) K.W ah
 |
  found=>
  obtain⟨J,aD⟩:=aD;cases r with
  |fJ c=>exact azI (k:=.nil) N ao (q aJ) K.W J ah
  |_=>exact aD.elim
 |
  pG=>
  obtain⟨J,aD⟩:=aD;cases r with
  |fJ c=>exact azJ (k:=.nil) N ao (q aJ) K.W ah
  |_=>exact aD.elim
 |
  mC=>
  obtain⟨c,rfl,h1,h2,aH,bm,dk⟩:=aD;obtain⟨al,a2,_⟩:=bM.bq;have e:bw .mC=7000:=rfl;have hlen:=a2.ws.ok.len;exact azL (k:=.nil) N C ao K.W (t aJ) bm dk a2.ws.fL ae ae ah
 |
  jB a=>
  cases r with
  |
   post b Y=>
   obtain⟨x,ag⟩:=K.ex a hk;exact azA (k:=.nil) N C ao K.W ag (K.s9 a x ag) K.dl K.gJ (λe=>absurd e (v aJ)) (λe=>(aD.2 e).1) ah
  |_=>exact aD.elim
 |
  again a=>
  obtain⟨x,ag⟩:=K.ex a hk;refine FD ?_;exact ay7 (k:=.nil) N ao K.W ag ah
 |
  nX a left=>
  cases r with
  |
   post b Y=>
   obtain⟨x,ag⟩:=K.ex a hk.1;exact azz (k:=.nil) N C ao K.W ag (K.s9 a x ag) K.dl K.gJ (λe=>absurd e (v aJ)) ah
  |_=>exact aD.elim
 |
  settled a=>
  obtain⟨b,Y,rfl⟩:=aD;obtain⟨x,ag⟩:=K.ex a hk;exact ay8 (k:=.nil) N C ao K.W ag ah
 |
  o2 a=>
  obtain⟨b,Y,rfl⟩:=aD;obtain⟨x,ag⟩:=K.ex a hk;exact ay9 (k:=.nil) N C ao K.W ag ah
 |
  mD l k=>
  replace aD:r=.gm ((s.lets.length+1:Nat):Int):=aD;subst aD;exact azl N C ao K.W ah
 |
  h8 a l e k=>
  replace aD:r=.gm ((s.lets.length+1:Nat):Int):=aD;subst aD;exact azm ao K.W ah
 |
  told id to k=>
  obtain⟨b,Y,rfl⟩:=aD;obtain⟨h1,h2,aH,bm,_⟩:=hk;have w:1<=to:=h2.1;have B:to<=s.aI.length:=h2.2;have hH:=K.na;exact azk N C ao K.W ae bm ah
 |
  lJ a k=>
  obtain⟨b,Y,rfl⟩:=aD;obtain⟨h1,h2,aH,_⟩:=hk;exact aza N C ao (mW h1.2 K.na) aH ah
 |
  mE a kind slot k=>
  replace aD:r=.gm (s.L.getD 1 0):=aD;subst aD;obtain⟨x,ag⟩:=K.ex a hk.1;have d:=bM.num.mu;have ip:=bM.num.mw;exact azK N C ao K.W ag (K.s9 a x ag) hk.2.2.1 ae ah
 |
  asked id a e k=>
  obtain⟨ac,rfl⟩:=aD;obtain⟨x,ag⟩:=K.ex a hk.2.1;exact azD N C ao K.W ag (K.s9 a x ag) (λe=>absurd e (t aJ)) ah
 |
  watched a who k=>
  refine FD ?_;have hH:=K.na;have h2:who<=s.aI.length:=hk.2.1.2;exact azb N ao ⟨hk.2.1.1,by omega⟩ ah
 |
  gone a who k=>
  obtain⟨b,Y,rfl⟩:=aD;obtain⟨x,ag⟩:=K.ex a hk.1;exact azc N C ao K.W ag ah
 |
  nn a b k=>
  obtain⟨i,rfl⟩:=aD;exact azd N C ao ah
 |
  mF a m k=>
  obtain⟨ac,rfl⟩:=aD;obtain⟨x,ag⟩:=K.ex a hk.1;have T:=K.s9 a x ag;simp only[dw,ag,qW,k3]at ah;exact azn N C ao K.W ag (by have:=hk.2.2.1;omega) T.Lh T.SX (λe=>absurd e (t aJ)) (o ac rfl) ah
 |
  closed a k=>
  obtain⟨x,ag⟩:=K.ex a hk.1;refine FD ?_;exact azf ao K.W ag ah
 |
  lc a k=>
  cases r with
  |
   post b Y=>
   obtain⟨x,ag⟩:=K.ex a hk.1;refine azg N C ao K.W ag (λe=>absurd e (v aJ)) ?_;simp only[dw]at ah;by_cases dk:Y.out=5
   . rw[bg dk]at ah⊢;exact ah
   . rw[a6 dk]at ah⊢
     by_cases h1:Y.out=1
     . rw[bg h1]at ah⊢;exact ah
     . rw[a6 h1]at ah⊢;exact ah
  |_=>exact aD.elim
 |
  ow a k=>
  obtain⟨x,ag⟩:=K.ex a hk.1;refine FD ?_;simp only[dw,ag,qW,k3]at ah;exact azi ao K.W ag ah
 |
  who a k=>
  replace aD:r=.gm (s.L.getD 1 0):=aD;subst aD;obtain⟨x,ag⟩:=K.ex a hk.1;have d:=bM.num.mu;exact azC N C ao K.W ag ae ah
 |_=>exact absurd trivial aQ
end
open Classical in
noncomputable def vQ (f0:Nat->Th.gl)(C:bK)(P:List b1)(n ce j m:Nat)(s:ar)(r:bY)(k:Th.K):Option ar:=
 if In f0 C P n j 0 0 s/\cR C P (bl s) k/\cZ k/\bL s+bw k<=ce/\bw k<m then go C P m j s r k else none
section
variable{f0:Nat->Th.gl}{X:cJ}{n ce j:Nat}(N:X.C.ok)(az:ce<1099511627776)(cL:n<=br)(dm:Th.iN X.P)
theorem azR(m:Nat)(s:ar)(r:bY)(k:Th.K):Th.b3 (vQ f0 X.C X.P n ce j m s r k) (go X.C X.P m j s r k):=by
 unfold vQ;split
 . exact Th.b3.refl _
 . exact λv e=>by cases e
include N az cL dm
theorem azS(m:Nat):eg f0 X.C X.P n ce j m (vQ f0 X.C X.P n ce j m):=λs k a b c d e=>by
 unfold vQ;rw[bg ⟨a,b,c,d,e⟩];exact Th.go_ok N az cL dm m s k a b c d e
theorem aku{m:Nat}{s y:ar}{r:bY}{k:Th.K}(bb:bw k<=m)(h:In f0 X.C X.P n j (eL k) (eM k) s)(hk:cR X.C X.P (bl s) k)(aD:eK X.C j s r k)(W:bL s+bw k<=ce)(ah:go X.C X.P (m+1) j s r k=some y):dw X.C X.P (vQ f0 X.C X.P n ce j m) j s r k=some y:=by
 obtain⟨aY,e,_,_⟩:=Th.S8 N az cL dm ((azS (f0:=f0) (j:=j) N az cL dm m).le bb) h hk aD W;have h2:=Th.awz (C:=X.C) (P:=X.P) (azR (f0:=f0) (X:=X) (n:=n) (ce:=ce) (j:=j) m) s r k aY e;have aH:dw X.C X.P (go X.C X.P m j) j s r k=some y:=ah;rw[aH]at h2;rw[e,oe h2]
theorem go_dm:∀(m:Nat) (z:dn) (s:ar) (k:Th.K) (y:ar) (I:Nat) (M:List Value),bD X z s->In f0 X.C X.P n j 0 0 s->cR X.C X.P (bl s) k->cZ k->bL s+bw k<=ce->bw k<m->go X.C X.P m j s Th.dA k=some y->ad aa I M k9 dV
 |0,z,s,k,y,I,M,_,_,_,_,_,h,_=>absurd h (KO _)
 |
  m+1,z,s,k,y,I,M,ao,bM,hk,aQ,W,bb,ah=>by
  have C:hx X j (vQ f0 X.C X.P n ce j m):=λz s k y I M ao h=>by
   unfold vQ at h;split at h
   . rename_i a2
     exact go_dm m z s k y I M ao a2.1 a2.2.1 a2.2.2.1 a2.2.2.2.1 a2.2.2.2.2 h
   . cases h
  have u:=aks k;exact akt N C ao (CC.of bM cL ae az) aQ hk (aku (f0:=f0) N az cL dm ae (by rw[(Th.K8 aQ).1,(Th.K8 aQ).2];exact bM) hk (Th.SC aQ) W ah)
theorem go_run{m p f:Nat}{c:List Value}{z:dn}{s y:ar}{r:bY}{k:Th.K}(ao:bD X z s)(bM:In f0 X.C X.P n j (eL k) (eM k) s)(hk:cR X.C X.P (bl s) k)(aD:eK X.C j s r k)(W:bL s+bw k<=ce)(bb:bw k<=m)(aJ:r.over=true)(o:∀ac,r=.eY ac->0<=ac.val/\ac.val<=18446744073709551615)(ah:go X.C X.P (m+1) j s r k=some y):
 ad aa f c (a1 X z.ap z.ai j p k f c::cW X p r::bj X z s) (cp X (some y)):=by
 have C:hx X j (vQ f0 X.C X.P n ce j m):=λz s k y I M ao h=>by
  unfold vQ at h;split at h
  . rename_i a2
    exact go_dm N az cL dm m z s k y I M ao a2.1 a2.2.1 a2.2.2.1 a2.2.2.2.1 a2.2.2.2.2 h
  . cases h
 exact azQ N C ao bM cL az W hk aD aJ o (aku (f0:=f0) N az cL dm bb bM hk aD W ah)
end
end Go.Proofs.YtnnhpnccfnghdaaGreat.L.bE
namespace Go.L
class qC(P:Program)(t:TypeId)(name:String)(f:outParam FuncId):Prop where
 out:∀p w,(method (P.types.size+Made.depth) t (ptr p 0) name).run P w=.ok (f,ptr p 0) w
theorem Oj{P:Program}{F:World}{n:Nat}{ak:eA}{I:List aq}{bC t:TypeId}{name:String}{f:FuncId}{x:Operand}{p:Nat}{xs:List Operand}{z:Array TypeId}{M:List Value}{pre D:List aq}{post:Value->List aq->Prop}[m:qC P t name f](V:cb ak x=some (.iface t (ptr p 0)))(ag:tz ak xs=some M)(a8:ad P f (ptr p 0::M) pre post)(hp:Part pre I D)(fD:eU P f:=by exact e7):
 dc P F n Yq bC ak I H6:=λa w d pos N g aj s=>by
 refine⟨f,(ptr p 0::M).toArray,?_,?_⟩
 . simp only[execOp,resolve,oP,aj.z6 ag,aj.eval V]
   have aB:=m.out p w;simp[invoke,callMethod,run_program]at aB⊢;rw[aB];simpa using H7 (P:=P) (f:=f) (ptr p 0::M).toArray w
 . exact(a8 F D w DU).mono λe X ⟨v,L,Y,bo,aY⟩=>⟨v,_,Y,⟨L,bo,rfl⟩,aY⟩
end Go.L
namespace Go.Proofs.YtnnhpnccfnghdaaGreat.L.bE
open Go.Proofs.YtnnhpnccfnghdaaGreat.L
open Go.L Go.L.Ring Go.L.dr Go.L.dX Go.L.Whl Go.L.dB Go.L.Lx Go.L.Pg
open Go.L.Led (dg du dS bs aw e2)
open Go.L.Th (bK cV da bZ ds bQ bY eE bV ar most dU cM fg eJ dP In cR cZ eK bw bL eL eM bl cB dw go br Good eg eN dT acc Inv eu eS ff busy dG ei ef e9)
attribute[local irreducible] G cz GE cT GT bU c6 cY dc Exit.then Exit.inBlock
section
variable(X:cJ){C:bK}(z:dn)(p:Nat){L:List Int}(s:ar)(j:Nat)
instance:qC aa 246 "Step" 474:=Ew
instance:qC aa 169 "Step" 474:=Ew
instance:qC aa 248 "Step" 474:=Ew
instance:qC aa 392 "Step" 489:=Ew
instance:qC aa 314 "Step" 486:=Ew
def azT(t:bV)(p f:Nat)(c:List Value)(T gu:Nat)[qC aa T "Step" gu](A a ba b:aq)(e:Value)(i:ad aa gu [ptr p 0] [A,ba] (aF gQ [a,b]))(fD:eU aa gu:=by exact e7):ad aa 44 [ptr (X.bq j) 0,e] [ab (X.bq j) 128 abM,A,ba] (aF et [ab (X.bq j) 128 abM,a,b]):=by
 refine ax Tryz.func44 λF D=>?_;refine ch ?_;refine aA rfl (XZ rfl) ?_;refine cO ?_;refine cj rfl (Oj rfl rfl (i) bI) ?_;refine aei ?_;exact p2
abbrev LT:List aq:=[cG X z s,dQ z.cC z.cD s.trace,fp z.na z.fv s.notes,b2 X.am .i64 (cf z.ap),ay (e3 X z.ap s.aI),b2 X.e5 .u64 (cf z.ai),ay (gv z.ai s.lets),Lg.dp X.ld s.bf,ey X.c4 X.C.dF s.dead,cg X.m s.L z.tt,fI X,fC X s.bs,eD X.bG X.m X.C.bG X.C.aZ,ay (ed X),fy X,gw X,hc X,gk X,ay ((c8 X z.ap z.ai s.aC).set j fu)]
def jp:aq:=eR (LT X z s j)
def azU{P:Program}{f:FuncId}{args:List Value}{A a:aq}{L Z:List aq}{R:Value}(h:ad P f args (A::L) (aF R (a::Z))):ad P f args [A,eR L] (aF R [a,eR Z]):=λF D w s=>
 (h F D w (s.imp fun g t => Sat.tail (fun h E => by obtain ⟨_, _, b⟩ := hb E; exact b) t)).mono fun _ _ ⟨v, H, e, ⟨p, q⟩, s⟩ => ⟨v, _, e, ⟨p, rfl⟩, s.imp fun g t => by
  subst q;exact Sat.tail (λh E=>cA (fR:=λ_:Unit=>True) (l:=λ_=>Z) (D:=D) () trivial qL h E) t⟩
def TJ(h:C.ok):C.cells<=65536:=by
 have bH:=h.bH;have ha:=h.ha;have m64:=h.m64;have d64:=h.d64;have i64:=h.i64;have aB:C.bc*(2+C.ez)<=8*66:=qz bH ae;have aU:C.aZ*C.aZ<=16*16:=qz ha ha;have bB:C.aZ*C.eZ<=16*214:=qz ha (by unfold bK.eZ bK.fF;omega);have c9:C.bA.size=C.bc+(2+2*C.aZ)+C.bc*(2+C.ez):=rfl;refine QL ?_;intro fX;omega
def akv{a:Nat}(h:C.ok)(aw:L.length=C.cells)(aP:1<=a/\a<=C.aZ):rR (C.box a) L:=by
 have m1:=h.m1;have m64:=h.m64;have ha:=h.ha;have a2:=TJ h;have bB:(a -1)*C.eZ+C.eZ<=C.aZ*C.eZ:=by
  have:(a -1+1)*C.eZ<=C.aZ*C.eZ:=p5 _ ae;exact HE
 have r3:C.eZ=2+(2+2*C.hS)+(2+2*C.fF):=rfl;have uB:C.fF=2*C.aZ+8:=rfl;have fX:C.cells=C.gR+C.aZ*C.eZ:=rfl;refine⟨m1,m64,?_,?_,?_,by omega⟩
 . show 1<=C.fF;omega
 . show C.fF<=64;omega
 . show C.gR+(a -1)*C.eZ+6+2*C.hS+2*C.fF<=L.length;omega
def azV(h:C.ok)(aw:L.length=C.cells):kl C.bA L:=by
 have a2:=TJ h;refine QL ?_;intro fX;exact⟨h.aG,h.bH,h.d1,h.d64,h.ck,h.ha,by show 2+C.bA.size<=L.length;omega,by omega⟩
def azW(h:C.ok)(aw:L.length=C.cells):se C.dC L:=by
 have a2:=TJ h;refine QL ?_;intro fX;exact⟨h.i1,h.i64,by show 2+C.bA.size+3+2*C.iO<=L.length;omega,by omega⟩
abbrev q6:bY->Nat
 |.load _=>486|.add _ _=>486|.gm _=>486|.hZ _=>489|_=>474
abbrev j2(o:bY):dn:={z with tt:=if o.over then z.tt else ga z.tt}
def azX(v:Int):ad aa 486 [ptr p 0] [cW X p (.gm v)] (aF iu [cW X p (.gm v)]):=by
 refine ax Tryz.func486 λF D=>?_;refine kB ek ?_;rintro w -;refine gb ?_;refine yr ?_;intro f;refine eP ?_;refine lD ?_;refine cr ?_;exact aW ⟨rfl,rfl⟩ (cA w trivial (cA f trivial (au)))
end
section
variable{X:cJ}{z:dn}{s:ar}{j p c:Nat}
def azY(a2:c<s.L.length):ad aa (q6 (.load c)) [ptr p 0] (cW X p (.load c)::LT X z s j) (aF (.bool (acc X.C s (.load c)).2.over) (cW X p (acc X.C s (.load c)).2::LT X (j2 z (.load c)) (acc X.C s (.load c)).1 j)):=by
 have bn:=G3 p X.m c s.L z.tt a2;exact jQ Pf bn (λh E=>(au) h E) (λu H q=>by
  obtain⟨rfl,rfl⟩:=q;exact⟨_,⟨rfl,rfl⟩,λh E=>cA (fR:=λ_:Bool=>True) (l:=λw=>[qt p (s.L.getD c 0) w]) (D:=LT X (j2 z (.load c)) (acc X.C s (.load c)).1 j) true trivial au h E⟩)
def azZ{d:Int}(a2:c<s.L.length):ad aa (q6 (.add c d)) [ptr p 0] (cW X p (.add c d)::LT X z s j) (aF (.bool (acc X.C s (.add c d)).2.over) (cW X p (acc X.C s (.add c d)).2::LT X (j2 z (.add c d)) (acc X.C s (.add c d)).1 j)):=by
 have bn:=avp p X.m c s.L z.tt a2 d;exact jQ Pf bn (λh E=>(au) h E) (λu H q=>by
  obtain⟨rfl,rfl⟩:=q;exact⟨_,⟨rfl,rfl⟩,λh E=>cA (fR:=λ_:Bool=>True) (l:=λw=>[qt p (e0 (s.L.getD c 0+d)) w]) (D:=LT X (j2 z (.add c d)) (acc X.C s (.add c d)).1 j) true trivial au h E⟩)
def az0{v:Int}:ad aa (q6 (.gm v)) [ptr p 0] (cW X p (.gm v)::LT X z s j) (aF (.bool (acc X.C s (.gm v)).2.over) (cW X p (acc X.C s (.gm v)).2::LT X (j2 z (.gm v)) (acc X.C s (.gm v)).1 j)):=by
 have bn:=azX X p v;exact jQ (cG X z s::dQ z.cC z.cD s.trace::fp z.na z.fv s.notes::b2 X.am .i64 (cf z.ap)::ay jO::b2 X.e5 .u64 (cf z.ai)::ay k8::Lg.dp X.ld s.bf::ey X.c4 X.C.dF s.dead::cg X.m s.L z.tt::ZX) bn (λh E=>(au) h E) (λu H q=>by
  obtain⟨rfl,rfl⟩:=q;exact⟨_,dD,λh E=>(au) h E⟩)
def az1{i:k5}(hk:i.pc<=4)(a2:i.cell<s.L.length):ad aa (q6 (.hZ i)) [ptr p 0] (cW X p (.hZ i)::LT X z s j) (aF (.bool (acc X.C s (.hZ i)).2.over) (cW X p (acc X.C s (.hZ i)).2::LT X (j2 z (.hZ i)) (acc X.C s (.hZ i)).1 j)):=by
 have bn:=aok p X.m s.L z.tt i hk a2;exact jQ Pf bn (λh E=>(au) h E) (λu H q=>by
  obtain⟨rfl,rfl⟩:=q;exact⟨_,dD,λh E=>(au) h E⟩)
end
section
variable{l:List aq}{f0:Nat->Th.gl}{X:cJ}{z:dn}{a:Nat}{s:ar}{L:List Int}{j p n:Nat}(o:bY){t:bV}{D:List aq}
def akw(aP:1<=a/\a<=X.C.aZ):(ed X)[a -1]?=some (xH X a):=by
 have e:a -1+1=a:=ae;rw[ed,fe,ve ae,nH,e]
abbrev az2(X:cJ)(a:Nat)(L:List Int)(t:Int):List aq:=[Po.e4 (X.bp a) (X.C.box a),cg X.m L t,gf ((X.bp a).r false) X.m ((X.C.box a).eO false) ((X.C.box a).fa false),gf ((X.bp a).r true) X.m ((X.C.box a).eO true) ((X.C.box a).fa true)]
def akx{t:Int}(bb:(X.bp a).m=X.m):Po.rQ (X.bp a) (X.C.box a) L t=eR (az2 X a L t):=by
 unfold Po.rQ;rw[bb];rfl
def aky{t:Int}{w:gd}(bb:X.dt.m=X.m):Ck.pW X.dt X.C.dC L t w=eR [Ck.gn X.dt X.C.dC,cg X.m L t,gf X.dt.r X.m (X.C.dC.b+1) X.C.dC.n,fO X.dt.wp w]:=by
 unfold Ck.pW;rw[bb];rfl
def ta:∀h,Sat (l++D) h->Sat (eR l::D) h:=λh E=>cA (fR:=λ_:Unit=>True) (l:=λ_=>l) (D:=D) () trivial qL h E
def tb{h:dR}(E:Sat (eR l::D) h):Sat (l++D) h:=by obtain⟨_,_,b⟩:=hb E;exact b
def az3(ao:bD X z s){a:Nat}{Y:gA}(aP:1<=a/\a<=X.C.aZ)(cc:rR (X.C.box a) s.L)(hp:sO Y):ad aa (q6 (.post a Y)) [ptr p 0] (cW X p (.post a Y)::LT X z s j) (aF (.bool (acc X.C s (.post a Y)).2.over) (cW X p (acc X.C s (.post a Y)).2::LT X (j2 z (.post a Y)) (acc X.C s (.post a Y)).1 j)):=by
 have bn:=Po.aug (X.bp a) (X.C.box a) p s.L z.tt Y cc hp;rw[akx (ao.gF a),akx (ao.gF a)]at bn;exact jQ (ay ((ed X).set (a -1) fu)::cG X z s::dQ z.cC z.cD s.trace::fp z.na z.fv s.notes::b2 X.am .i64 (cf z.ap)::ay jO::b2 X.e5 .u64 (cf z.ai)::ay k8::Lg.dp X.ld s.bf::ey X.c4 X.C.dF s.dead::fI X::fC X s.bs::eD X.bG X.m X.C.bG X.C.aZ::aa0) bn (λh E=>by
  have gt:=(show∀h,Sat _ h->Sat [ay (ed X),Po.fY (X.bp a) (X.C.box a) p Y,cg X.m s.L z.tt,cG X z s,dQ z.cC z.cD s.trace,fp z.na z.fv s.notes,b2 X.am .i64 (cf z.ap),ay (e3 X z.ap s.aI),b2 X.e5 .u64 (cf z.ai),ay (gv z.ai s.lets),Lg.dp X.ld s.bf,ey X.c4 X.C.dF s.dead,fI X,fC X s.bs,eD X.bG X.m X.C.bG X.C.aZ,fy X,gw X,hc X,gk X,ay ((c8 X z.ap z.ai s.aC).set j fu)] h from(au)) h E;have L:=tb (rD (akw aP) h gt);refine Sat.swap (ta h ?_);exact(au) h L) (λu H q=>by
  obtain⟨rfl,rfl⟩:=q;refine⟨_,dD,λh E=>?_⟩;have gt:=tb (Sat.swap E);have L:=(show∀h,Sat _ h->Sat ([Po.e4 (X.bp a) (X.C.box a),gf ((X.bp a).r false) X.m ((X.C.box a).eO false) ((X.C.box a).fa false),gf ((X.bp a).r true) X.m ((X.C.box a).eO true) ((X.C.box a).fa true)]++[ay ((ed X).set (a -1) fu),Po.fY (X.bp a) (X.C.box a) p (oY (X.C.box a) s.L Y),cg X.m (qe (X.C.box a) s.L Y) (if Y.over then z.tt else ga z.tt),cG X z s,dQ z.cC z.cD s.trace,fp z.na z.fv s.notes,b2 X.am .i64 (cf z.ap),ay (e3 X z.ap s.aI),b2 X.e5 .u64 (cf z.ai),ay (gv z.ai s.lets),Lg.dp X.ld s.bf,ey X.c4 X.C.dF s.dead,fI X,fC X s.bs,eD X.bG X.m X.C.bG X.C.aZ,fy X,gw X,hc X,gk X,ay ((c8 X z.ap z.ai s.aC).set j fu)]) h from(au)) h gt;have z3:=RS (akw aP) h (ta h L);exact(au) h z3)
def az4(ao:bD X z s){ac:gD}(cc:kl X.C.bA s.L)(a2:wN X.C.bA ac):ad aa (q6 (.fJ ac)) [ptr p 0] (cW X p (.fJ ac)::LT X z s j) (aF (.bool (acc X.C s (.fJ ac)).2.over) (cW X p (acc X.C s (.fJ ac)).2::LT X (j2 z (.fJ ac)) (acc X.C s (.fJ ac)).1 j)):=by
 have bn:ad aa 474 [ptr p 0] (gV X.cS X.C.bA p ac::cg X.cS.m s.L z.tt::abw) (aF (.bool (lx X.C.bA s.L ac).over) (gV X.cS X.C.bA p (lx X.C.bA s.L ac)::cg X.cS.m (nA X.C.bA s.L ac) Qx::abw)):=apx X.cS X.C.bA p s.L z.tt ac cc a2;rw[ao.gK]at bn;exact jQ ZY bn (λh E=>by
  have gt:=tb ((show∀h,Sat _ h->Sat [fI X,gV X.cS X.C.bA p ac,cg X.m s.L z.tt,cG X z s,dQ z.cC z.cD s.trace,fp z.na z.fv s.notes,b2 X.am .i64 (cf z.ap),ay (e3 X z.ap s.aI),b2 X.e5 .u64 (cf z.ai),ay (gv z.ai s.lets),Lg.dp X.ld s.bf,ey X.c4 X.C.dF s.dead,fC X s.bs,eD X.bG X.m X.C.bG X.C.aZ,ay (ed X),fy X,gw X,hc X,gk X,ay ((c8 X z.ap z.ai s.aC).set j fu)] h from(au)) h E);exact(show∀h,Sat _ h->Sat [gV X.cS X.C.bA p ac,cg X.m s.L z.tt,gr X.cS X.C.bA,cd X.cS X.C.bA,jo X.cS X.C.bA,eB X.cS X.C.bA,ay (lz X.cS X.C.bA),cG X z s,dQ z.cC z.cD s.trace,fp z.na z.fv s.notes,b2 X.am .i64 (cf z.ap),ay (e3 X z.ap s.aI),b2 X.e5 .u64 (cf z.ai),ay (gv z.ai s.lets),Lg.dp X.ld s.bf,ey X.c4 X.C.dF s.dead,fC X s.bs,eD X.bG X.m X.C.bG X.C.aZ,ay (ed X),fy X,gw X,hc X,gk X,ay ((c8 X z.ap z.ai s.aC).set j fu)] h from(au)) h gt) (λu H q=>by
  obtain⟨rfl,rfl⟩:=q;refine⟨_,dD,λh E=>?_⟩;have gt:=(show∀h,Sat _ h->Sat ([gr X.cS X.C.bA,cd X.cS X.C.bA,jo X.cS X.C.bA,eB X.cS X.C.bA,ay (lz X.cS X.C.bA)]++[gV X.cS X.C.bA p (lx X.C.bA s.L ac),cg X.m (nA X.C.bA s.L ac) (if ac.over then z.tt else ga z.tt),cG X z s,dQ z.cC z.cD s.trace,fp z.na z.fv s.notes,b2 X.am .i64 (cf z.ap),ay (e3 X z.ap s.aI),b2 X.e5 .u64 (cf z.ai),ay (gv z.ai s.lets),Lg.dp X.ld s.bf,ey X.c4 X.C.dF s.dead,fC X s.bs,eD X.bG X.m X.C.bG X.C.aZ,ay (ed X),fy X,gw X,hc X,gk X,ay ((c8 X z.ap z.ai s.aC).set j fu)]) h from(au)) h E;have L:Sat (fI X::(gV X.cS X.C.bA p (lx X.C.bA s.L ac)::cg X.m (nA X.C.bA s.L ac) Qx::ZY)) h:=ta h gt;exact(au) h L)
def az5(ao:bD X z s){ac:hy}(cc:se X.C.dC s.L)(K:iv s.L)(O:mb s.bs)(a2:tw ac):ad aa (q6 (.eY ac)) [ptr p 0] (cW X p (.eY ac)::LT X z s j) (aF (.bool (acc X.C s (.eY ac)).2.over) (cW X p (acc X.C s (.eY ac)).2::LT X (j2 z (.eY ac)) (acc X.C s (.eY ac)).1 j)):=by
 have bn:=Ck.anj X.dt X.C.dC p s.L z.tt s.bs ac cc K O a2;rw[aky ao.gE,aky ao.gE]at bn;exact jQ Z2 bn (λh E=>by
  have gt:=tb ((show∀h,Sat _ h->Sat [fC X s.bs,Ck.ja X.dt X.C.dC p ac,cg X.m s.L z.tt,cG X z s,dQ z.cC z.cD s.trace,fp z.na z.fv s.notes,b2 X.am .i64 (cf z.ap),ay (e3 X z.ap s.aI),b2 X.e5 .u64 (cf z.ai),ay (gv z.ai s.lets),Lg.dp X.ld s.bf,ey X.c4 X.C.dF s.dead,fI X,eD X.bG X.m X.C.bG X.C.aZ,ay (ed X),fy X,gw X,hc X,gk X,ay ((c8 X z.ap z.ai s.aC).set j fu)] h from(au)) h E);refine Sat.swap (ta h ?_);exact(show∀h,Sat _ h->Sat ([Ck.gn X.dt X.C.dC,cg X.m s.L z.tt,gf X.dt.r X.m (X.C.dC.b+1) X.C.dC.n,fO X.dt.wp s.bs]++[Ck.ja X.dt X.C.dC p ac,cG X z s,dQ z.cC z.cD s.trace,fp z.na z.fv s.notes,b2 X.am .i64 (cf z.ap),ay (e3 X z.ap s.aI),b2 X.e5 .u64 (cf z.ai),ay (gv z.ai s.lets),Lg.dp X.ld s.bf,ey X.c4 X.C.dF s.dead,fI X,eD X.bG X.m X.C.bG X.C.aZ,ay (ed X),fy X,gw X,hc X,gk X,ay ((c8 X z.ap z.ai s.aC).set j fu)]) h from(au)) h gt) (λu H q=>by
  obtain⟨rfl,rfl⟩:=q;refine⟨_,dD,λh E=>?_⟩;have gt:=tb (Sat.swap E);have L:=(show∀h,Sat _ h->Sat ([Ck.gn X.dt X.C.dC,gf X.dt.r X.m (X.C.dC.b+1) X.C.dC.n,fO X.dt.wp (j4 X.C.dC s.L s.bs ac).2.1]++[Ck.ja X.dt X.C.dC p (j4 X.C.dC s.L s.bs ac).2.2,cg X.m (j4 X.C.dC s.L s.bs ac).1 (if ac.over then z.tt else ga z.tt),cG X z s,dQ z.cC z.cD s.trace,fp z.na z.fv s.notes,b2 X.am .i64 (cf z.ap),ay (e3 X z.ap s.aI),b2 X.e5 .u64 (cf z.ai),ay (gv z.ai s.lets),Lg.dp X.ld s.bf,ey X.c4 X.C.dF s.dead,fI X,eD X.bG X.m X.C.bG X.C.aZ,ay (ed X),fy X,gw X,hc X,gk X,ay ((c8 X z.ap z.ai s.aC).set j fu)]) h from(au)) h gt;have z3:Sat (fC X (j4 X.C.dC s.L s.bs ac).2.1::(Ck.ja X.dt X.C.dC p (j4 X.C.dC s.L s.bs ac).2.2::cg X.m (j4 X.C.dC s.L s.bs ac).1 Qx::Z2)) h:=ta h L;exact(au) h z3)
def akz{al:Nat->Nat}{o:bY}(N:X.C.ok)(ao:bD X z s)(S:eN f0 X.C (bl s) al n s.L s.bs)(V:dT X.C (bl s) al j s.L o):ad aa (q6 o) [ptr p 0] [cW X p o,jp X z s j] (aF (.bool (acc X.C s o).2.over) [cW X p (acc X.C s o).2,jp X (j2 z o) (acc X.C s o).1 j]):=by
 refine azU ?_;have h2:2<=s.L.length:=by rw[S.len];unfold bK.cells bK.gR bK.bG;omega
 cases o with
 |load c=>exact azY (by have:c=1:=V;omega)
 |add c d=>exact azZ (by have:c=0\/c=1:=V.1;omega)
 |gm v=>exact az0
 |post a Y=>exact az3 ao ⟨V.1,V.2.1⟩ (akv N S.len ⟨V.1,V.2.1⟩) V.2.2.1
 |hZ i=>exact az1 V.1.pc V.1.cell
 |fJ ac=>exact az4 ao (azV N S.len) V.1
 |eY ac=>exact az5 ao (azW N S.len) S.jL S.ws.fL V.1
theorem TK:qC aa (nO o) "Step" (q6 o):=by
 cases o<;>first|exact(inferInstance:qC aa 314 "Step" 486)|exact(inferInstance:qC aa 392 "Step" 489)|exact(inferInstance:qC aa 246 "Step" 474)|exact(inferInstance:qC aa 169 "Step" 474)|exact(inferInstance:qC aa 248 "Step" 474)
theorem TL:eU aa (q6 o):=by
 cases o<;>first|exact(⟨_,_,Tryz.func486,rfl,by decide⟩:eU aa 486)|exact(⟨_,_,Tryz.func489,rfl,by decide⟩:eU aa 489)|exact(⟨_,_,Tryz.func474,rfl,by decide⟩:eU aa 474)
def TM(M:s.aC[j]?=some t):∀h,Sat (bj X z s++D) h->Sat (hE X z.ap z.ai j t::jp X z s j::D) h:=λh E=>by
 have e:(c8 X z.ap z.ai s.aC)[j]?=some (hE X z.ap z.ai j t):=by simp[sS,M]
 have gt:=rD (D:=Pk++D) e h ((au) h E);exact Sat.tail (λh E=>ta (l:=LT X z s j) h ((au) h E)) gt
def FE(J:j<s.aC.length):∀h,Sat (hE X z.ap z.ai j t::jp X z s j::D) h->Sat (bj X z {s with aC:=s.aC.set j t}++D) h:=λh E=>by
 have gt:=Sat.tail (λh E=>(show∀h,Sat _ h->Sat (ay ((c8 X z.ap z.ai s.aC).set j fu)::([cG X z s,dQ z.cC z.cD s.trace,fp z.na z.fv s.notes,b2 X.am .i64 (cf z.ap),ay (e3 X z.ap s.aI),b2 X.e5 .u64 (cf z.ai),ay (gv z.ai s.lets),Lg.dp X.ld s.bf,ey X.c4 X.C.dF s.dead,cg X.m s.L z.tt,fI X,fC X s.bs,eD X.bG X.m X.C.bG X.C.aZ,ay (ed X),fy X,gw X,hc X,gk X]++D)) h from(au)) h (tb E)) E;have L:=uZ (i:=j) (by rw[KX];exact J) h gt;have e:(c8 X z.ap z.ai s.aC).set j (hE X z.ap z.ai j t)=c8 X z.ap z.ai (s.aC.set j t):=by rw[c8,c8,mapIdx_set]
 rw[e]at L;exact(au) h L
def bD.step(l:List bV)(ao:bD X z s):bD X (j2 z o) {(acc X.C s o).1 with aC:=l}:=
 ⟨ao.gK,ao.gE,ao.gF,by show z.ap.length=(acc X.C s o).1.aI.length;rw[Th.awE];exact ao.ap,by show z.ai.length=(acc X.C s o).1.lets.length;rw[Th.awF];exact ao.ai⟩
theorem Jm{y:ar}{n ce j:Nat}{t:bV}{o:bY}{k:Th.K}{e:Value}(N:X.C.ok)(dm:Th.iN X.P)(Y:Th.jh f0 X.C X.C.cells)(az:ce<1099511627776)(aS:n+1<=br)(ao:bD X z s)(h:Inv f0 X.C X.P n s)(M:s.aC[j]?=some t)(B:t.on=some (o,k))(W:bL s+Th.hD<=ce)(ah:eu X.C X.P j s=some y):
 ad aa 44 [ptr (X.bq j) 0,e] (bj X z s) dV:=by
 have J:j<s.aC.length:=(dd.1 M).1;have v:j<(acc X.C s o).1.aC.length:=by rw[Th.Fp];exact J
 refine gx (I:=[hE X z.ap z.ai j t,jp X z s j]) (λD h E=>TM M h E) ?_;have aB:hE X z.ap z.ai j t=df (bx:=Nat×Nat×List Value) zp PI:=by unfold hE;rw[B]
 rw[aB];refine xX (fun⟨p,f,c⟩ _=>?_);obtain⟨al,S,r⟩:=h.bq;have V:=((r j t M).on o k B).1;have i:=akz (p:=p) N ao S V;haveI:=TK o;haveI:=TL o;unfold eu at ah;simp only[M,B,bind,Option.bind]at ah;cases U:(acc X.C s o).2.over with
 |
  false=>
  rw[U]at i ah;simp only[eH,eo]at ah;cases ah;have bn:=azT X j t p f c (nO o) (q6 o) (cW X p o) (cW X p (acc X.C s o).2) (jp X z s j) (jp X (j2 z o) (acc X.C s o).1 j) e i;refine jQ [a1 X z.ap z.ai j p k f c] bn (au) (λu H q=>?_);obtain⟨rfl,rfl⟩:=q;refine⟨_,⟨rfl,j2 z o,_,rfl,ao.step o _,rfl⟩,λh E=>?_⟩;have aU:hE X z.ap z.ai j Jk=df (bx:=Nat×Nat×List Value) zp (fun⟨p,f,c⟩=>[kn X j (.iface (nO (acc X.C s o).2) (ptr p 0)) (bi f c) Jk,cW X p (acc X.C s o).2,a1 X z.ap z.ai j p k f c]):=rfl;have bB:nO (acc X.C s o).2=nO o:=IH;have L:=FE (X:=X) (z:=j2 z o) (s:=(acc X.C s o).1) (t:=Jk) (D:=[]) v h (by
   show Sat (hE X z.ap z.ai j Jk::jp X (j2 z o) (acc X.C s o).1 j::[]) h;rw[aU,bB];exact cA (D:=[jp X (j2 z o) (acc X.C s o).1 j]) (p,f,c) trivial (au) h E)
  rw[jj]at L;exact L
 |
  true=>
  rw[U]at i ah;simp only[fk]at ah;obtain⟨⟨g8,b,T,O⟩,d,l⟩:=Th.ajw Y N aS h M B U;rw[<-Th.Fp X.C s o]at g8 b d l;refine gx (I:=[a1 X z.ap z.ai j p k f c,kn X j xb (bi f c) t,cW X p o,jp X z s j]) (λD=>(au)) (uk λa8=>?_);haveI:=a8;refine gx (I:=[kn X j xb (bi f c) t,cW X p o,jp X z s j,a1 X z.ap z.ai j p k f c]) (λD=>(au)) ?_;have ao:ad aa f c [(a1 X z.ap z.ai j p k f c),(cW X p (acc X.C s o).2),ab (X.bq j) 128 (ptr X.h 0::af (jY X j)::.nilIface::.nilFunc::I3),(jp X (j2 z o) (acc X.C s o).1 j)] dV:=by
   refine gx (I:=a1 X z.ap z.ai j p k f c::cW X p (acc X.C s o).2::bj X (j2 z o) {(acc X.C s o).1 with aC:=(acc X.C s o).1.aC.set j {t with on:=none}}) (λD h E=>?_) (go_run (f0:=f0) (n:=n+1) (ce:=ce) (m:=999999) N az aS dm (ao.step o _) d g8 l (by have:Th.hD=90000:=rfl;omega) ae U O ah);refine Sat.tail (λh E=>Sat.tail (λh E=>?_) E) E;exact FE (X:=X) (z:=j2 z o) (s:=(acc X.C s o).1) (t:={t with on:=none}) (D:=D) v h E
  refine ax Tryz.func44 λF D=>?_;refine ch ?_;refine aA rfl (XZ rfl) ?_;refine cO ?_;refine cj rfl (Oj rfl rfl (i) bI) ?_;rintro _ D ⟨_,⟨rfl,rfl⟩,rfl⟩
  try simp only[cn,ci]
  refine a7 ?_;refine wx (rfl) ?_;refine gi ?_;refine bX ?_;refine bt (ao) ?_;rintro _ _ ⟨rfl,cu,aY,ag,fd,rfl⟩;refine er ?_;refine a7 ?_;exact aW BP
end
section
variable(X:cJ)(z:dn)(s s1 Z:ar)(j:Nat)(t t1:bV)
theorem TN{X:cJ}{ap ai:List Nat}{l:List bV}{j:Nat}{t:bV}(h:l[j]?=some t)(R:t.on=none):h3 (X.bq j) 2 (ay (c8 X ap ai l)) .nilIface:=by
 have e:(c8 X ap ai l)[j]?=some (hE X ap ai j t):=by simp[sS,h]
 haveI:h3 (X.bq j) 2 (hE X ap ai j t) .nilIface:=⟨fun{g} s=>by
  unfold hE at s;rw[R]at s;exact⟨_,_,_,s,rfl⟩⟩
 exact KY e
abbrev zb(a:Nat):Value:=.func (.func a) [ptr (X.bq j) 0].toArray [].toArray
def akA{j:Nat}(J:j<X.C.bc):ad aa 78 [ptr X.cS.c 0,af (jY X j)] [fI X] (λu H=>∃p,u=ptr p 0/\H=[cW X p (.fJ (Du j)),fI X]):=by
 have aB:jY X j=j:=bg J;rw[aB];exact E2 (aoL X.cS X.C.bA j J)
def akB(N:X.C.ok){j:Nat}(J:j<X.C.bc){d:Int}(aQ:0<=d/\d<18446744073709551616):ad aa 82 [ptr X.cS.c 0,af (jY X j),bu d] [fI X] (λu H=>∃p,u=ptr p 0/\H=[cW X p (.fJ (yB X.C.bA j d.toNat)),fI X]):=by
 have aB:jY X j=j:=bg J;have aU:d=((d.toNat:Nat):Int):=ae;have bH:=N.bH;rw[aB];have bn:=E2 (X:=X) (apb X.cS X.C.bA (by show 2+X.C.bc<=65536;omega) bH j J d.toNat ae);rw[<-aU]at bn;exact bn
def az6(N:X.C.ok)(w:gd)(aS:w.now<3000000000000000000):ad aa 147 [ptr X.dt.c 0] [fC X w] (λu H=>∃p,u=ptr p 0/\H=[cW X p (.eY (ys X.C.dC w)),fC X w]):=
 jQ [gf X.dt.r X.m (X.C.dC.b+1) X.C.dC.n] (Ck.am9 X.dt X.C.dC N.i64 w aS) (λh E=>(au) h (tb E)) (λu H q=>by
  obtain⟨p,rfl,rfl⟩:=q;exact⟨_,AC,λh E=>Sat.swap (ta h ((au) h E))⟩)
def az7(N:X.C.ok)(ao:bD X z s)(J:s.aC[j]?=some t)(R:t.on=none)(aS:s.bs.now<3000000000000000000)(h1:1<=s.ticks)(h2:s.ticks<=1099511627776):ad aa 88 en (bj X z s) (cp X (some {{s with ticks:=s.ticks -1}with aC:=s.aC.set j {t with on:=some (.eY (ys X.C.dC s.bs),.mC)}})):=by
 refine ax Tryz.func88 λF D=>?_;haveI:=gg (X:=X) (ap:=z.ap) (ai:=z.ai) J;haveI:=sN (X:=X) (ap:=z.ap) (ai:=z.ai) J;haveI:h3 (X.bq j) 4 (ay lB) (bu t.draw):=xp J 4 λ_ _=>rfl;refine a7 ?_;refine wn λav=>?_;refine bH ?_;refine wn λU=>?_;refine cr ?_;refine aA rfl (ks ((s.ticks -1:Nat):Int) eV rfl rfl) ?_;refine bX ?_;rw[show(qO X z s).set (0+25) (af ((s.ticks -1:Nat):Int))=qO X z {s with ticks:=s.ticks -1}from rfl];refine bH ?_;refine bt (az6 X N s.bs aS) ?_;rintro _ _ ⟨S,rfl,rfl⟩;refine er ?_;refine wn λZ=>?_;refine bh ?_;refine aA rfl Jr ?_;refine aG ?_;refine aV (iB (a1.eq_5 ..) (U,Z,av) dD (jP X z.ap z.ai s.aC j S 148 [ptr U 0,ptr Z 0,ptr av 0] t (.eY (ys X.C.dC s.bs)) .mC J R)) ?_;exact QW
def az8(J:s.aC[j]?=some t)(R:t.on=none)(o S:bY)(k:Th.K)(a:Nat)(cc:ad aa a en (bj X z s) Z7)(i:∀(cu:dn) (p:Nat),bD X cu s1->ad aa (q6 o) [ptr p 0] [cW X p o,jp X cu s1 j] (aF gQ [cW X p S,jp X (j2 cu o) Z j]))(fD:eU aa a:=by exact e7):ad aa 44 [ptr (X.bq j) 0,zb X j a] (bj X z s) (λu H=>u=.tuple #[]/\∃(cu:dn) (p f:Nat) (c:List Value),eU aa f/\bD X cu s1/\H=[ab (X.bq j) 128 Z8,cW X p S,jp X (j2 cu o) Z j,a1 X cu.ap cu.ai j p k f c]):=by
 refine ax Tryz.func44 λF D=>?_;haveI:=TN (X:=X) (ap:=z.ap) (ai:=z.ai) J R;haveI:=TK o;haveI:=TL o;refine agu ?_;intro cu p f c a8 fd;refine lD ?_;refine a7 ?_;exact aW ⟨rfl,cu,p,f,c,a8,fd,rfl⟩
def az9(J:s.aC[j]?=some t)(R:t.on=none)(o S:bY)(k:Th.K)(a:Nat)(cc:ad aa a en (bj X z s) Z7)(i:∀(cu:dn) (p:Nat),bD X cu s1->ad aa (q6 o) [ptr p 0] [cW X p o,jp X cu s1 j] (aF iu [cW X p S,jp X (j2 cu o) Z j]))(y:Option ar)(cL:∀(cu:dn) (p f:Nat) (c:List Value),bD X cu s1->ad aa f c [a1 X cu.ap cu.ai j p k f c,cW X p S,ab (X.bq j) 128 [ptr X.h 0,af (jY X j),.nilIface,.nilFunc,bu t1.draw,.bool t1.jg],jp X (j2 cu o) Z j] (cp X y))(fD:eU aa a:=by exact e7):ad aa 44 [ptr (X.bq j) 0,zb X j a] (bj X z s) (cp X y):=by
 refine ax Tryz.func44 λF D=>?_;haveI:=TN (X:=X) (ap:=z.ap) (ai:=z.ai) J R;haveI:=TK o;haveI:=TL o;refine agu ?_;intro cu p f c a8 fd;refine nQ ?_;refine gi ?_;refine bX ?_;refine bt (cL cu p f c fd) ?_;rintro _ _ ⟨rfl,r,aY,ag,n,rfl⟩;refine er ?_;refine a7 ?_;exact aW ⟨rfl,r,aY,ag,n,rfl⟩
end
section
variable{X:cJ}{z:dn}{s y:ar}{n j:Nat}{t:bV}{f0:Nat->Th.gl}
theorem aAa{f:Nat}{args:List Value}{X:cJ}{z:dn}{s s1:ar}{j:Nat}{t1:bV}{o:bY}{k:Th.K}(h:ad aa f args (bj X z s) (cp X (some s1)))(aB:s1.aC[j]?=some t1)(B:t1.on=some (o,k)):
 ad aa f args (bj X z s) (λu H=>u=.tuple #[]/\∃(cu:dn) (p f:Nat) (c:List Value),eU aa f/\bD X cu s1/\H=[kn X j xb (bi f c) t1,cW X p o,jp X cu s1 j,a1 X cu.ap cu.ai j p k f c]):=λF D w st=>
 (h F D w st).mono fun _ _ ⟨v, H, e, ⟨d7, cu, aY, ag, fd, cc⟩, q⟩ => by
  cases ag;subst cc;have gt:=TM aB _ q.eI;have aU:hE X cu.ap cu.ai j t1=df (bx:=Nat×Nat×List Value) zp (fun⟨p,f,c⟩=>[kn X j xb (bi f c) t1,cW X p o,a1 X cu.ap cu.ai j p k f c]):=by unfold hE;rw[B]
  rw[aU]at gt;obtain⟨⟨p,f,c⟩,_,L⟩:=hb gt;have z3:=(show∀h,Sat ([kn X j (.iface (nO o) (ptr p 0)) (bi f c) t1,cW X p o,a1 X cu.ap cu.ai j p k f c]++(jp X cu s1 j::D)) h->Sat ([kn X j (.iface (nO o) (ptr p 0)) (bi f c) t1,cW X p o,jp X cu s1 j,a1 X cu.ap cu.ai j p k f c]++D) h from(au)) _ L;have a8:=TB k p f c ([kn X j (.iface (nO o) (ptr p 0)) (bi f c) t1,cW X p o,jp X cu s1 j]++D) _ ((show∀h,Sat ([kn X j (.iface (nO o) (ptr p 0)) (bi f c) t1,cW X p o,a1 X cu.ap cu.ai j p k f c]++(jp X cu s1 j::D)) h->Sat (a1 X cu.ap cu.ai j p k f c::([kn X j (.iface (nO o) (ptr p 0)) (bi f c) t1,cW X p o,jp X cu s1 j]++D)) h from(au)) _ L);exact⟨v,_,e,⟨d7,cu,p,f,c,a8,fd,rfl⟩,⟨q.os,q.tape,q.output,q.size,z3⟩⟩
theorem akC{X:cJ}{z:dn}{s s1 y:ar}{n ce j:Nat}{t t1:bV}{o:bY}{k:Th.K}{a:Nat}(N:X.C.ok)(dm:Th.iN X.P)(Y:Th.jh f0 X.C X.C.cells)(az:ce<1099511627776)(aS:n+1<=br)(M:s.aC[j]?=some t)(B:t.on=none)
 (cc:ad aa a en (bj X z s) (cp X (some s1)))(h:Inv f0 X.C X.P n s1)(e:s1.aC[j]?=some t1)(g:t1.on=some (o,k))(W:bL s1+Th.hD<=ce)(ah:eu X.C X.P j s1=some y)(fD:eU aa a:=by exact e7):
 ad aa 44 [ptr (X.bq j) 0,zb X j a] (bj X z s) dV:=by
 have J:j<s1.aC.length:=(dd.1 e).1;have v:j<(acc X.C s1 o).1.aC.length:=by rw[Th.Fp];exact J
 obtain⟨al,S,r⟩:=h.bq;have V:=((r j t1 e).on o k g).1;have C:=aAa cc e g;have i:∀(cu:dn) (p:Nat),bD X cu s1->_:=λcu p fd=>akz (o:=o) (p:=p) N fd S V;unfold eu at ah;simp only[e,g,bind,Option.bind]at ah;cases U:(acc X.C s1 o).2.over with
 |
  false=>
  rw[U]at ah;simp only[eH,eo]at ah;cases ah;have bn:=az8 X z s s1 (acc X.C s1 o).1 j t t1 M B o (acc X.C s1 o).2 k a C (λcu p fd=>by have h1:=i cu p fd;rw[U]at h1;exact h1);refine jQ [] bn (λh E=>by rw[jj];exact E) (λu H q=>?_);obtain⟨rfl,cu,p,f,c,a8,fd,rfl⟩:=q;refine⟨_,⟨rfl,j2 cu o,_,rfl,fd.step o _,rfl⟩,λh E=>?_⟩;rw[jj]at E;have aU:hE X cu.ap cu.ai j Ji=df (bx:=Nat×Nat×List Value) zp (fun⟨p,f,c⟩=>[kn X j (.iface (nO (acc X.C s1 o).2) (ptr p 0)) (bi f c) Ji,cW X p (acc X.C s1 o).2,a1 X cu.ap cu.ai j p k f c]):=rfl;have bB:nO (acc X.C s1 o).2=nO o:=IH;have L:=FE (X:=X) (z:=j2 cu o) (s:=(acc X.C s1 o).1) (t:=Ji) (D:=[]) v h (by
   show Sat (hE X cu.ap cu.ai j Ji::jp X (j2 cu o) (acc X.C s1 o).1 j::[]) h;rw[aU,bB];exact cA (D:=[jp X (j2 cu o) (acc X.C s1 o).1 j]) (p,f,c) trivial (au) h E)
  rw[jj]at L;exact L
 |
  true=>
  rw[U]at ah;simp only[fk]at ah;obtain⟨⟨g8,b,T,O⟩,d,l⟩:=Th.ajw Y N aS h e g U;rw[<-Th.Fp X.C s1 o]at g8 b d l;refine az9 X z s s1 (acc X.C s1 o).1 j t t1 M B o (acc X.C s1 o).2 k a C (λcu p fd=>by have h1:=i cu p fd;rw[U]at h1;exact h1) (some y) (λcu p f c fd=>?_);refine gx (I:=a1 X cu.ap cu.ai j p k f c::cW X p (acc X.C s1 o).2::bj X (j2 cu o) {(acc X.C s1 o).1 with aC:=(acc X.C s1 o).1.aC.set j {t1 with on:=none}}) (λD h E=>?_) (go_run (f0:=f0) (n:=n+1) (ce:=ce) (m:=999999) N az aS dm (fd.step o _) d g8 l (by have:Th.hD=90000:=rfl;omega) ae U O ah);refine Sat.tail (λh E=>Sat.tail (λh E=>?_) E) E;exact FE (X:=X) (z:=j2 cu o) (s:=(acc X.C s1 o).1) (t:={t1 with on:=none}) (D:=D) v h E
def rH(M:s.aC[j]?=some t):busy s j=t.on.isSome:=by unfold busy;rw[M];rfl
theorem akD(N:X.C.ok)(dm:Th.iN X.P)(Y:Th.jh f0 X.C X.C.cells)(ao:bD X z s)(h:Th.hv f0 X.C X.P n s)(aS:n+1<=Th.hM)(J:j<X.C.bc)(ah:Th.stepT X.C X.P (eS X.C j) j s=some y):
 ad aa 44 [ptr (X.bq j) 0,zb X j 45] (bj X z s) (cp X (some y)):=by
 refine Km ?_;intro hw H u d2;have W:bL s+Th.hD<=Th.hD*(n+1):=y6;have m:Th.hD*(n+1)<1099511627776:=II;obtain⟨t,M⟩:=Th.q2 (j:=j) h.inv ae;unfold Th.stepT at ah;cases B:t.on with
 |
  some q=>
  obtain⟨o,k⟩:=q;rw[bg IJ]at ah;exact Jm N dm Y m ae ao h.inv M B W ah
 |
  none=>
  rw[a6 (by rw[rH M,B];simp)]at ah;obtain⟨s1,h1,ah⟩:=io.1 ah;obtain⟨b,aB,gZ,av⟩:=Th.Lu N J h IJ;obtain rfl:b=s1:=ZH;have aQ:=(h.inv.bq.choose_spec.2 j t M).oJ;have b7:ad aa 45 [ptr (X.bq j) 0] (bj X z s) (cp X (some b)):=by
   unfold eS at aB;simp only[M,qW,k3]at aB;split at aB
   . rename_i aP
     obtain⟨dh,a,c,rfl⟩:=Th.kd aB;have aQ:0<=dh.draw/\dh.draw<18446744073709551616:=(by rw[M]at a;cases a;exact aQ);have aP:dh.jg=true:=(by rw[M]at a;cases a;exact aP);refine ax Tryz.func45 λF D=>?_;haveI:=gg (X:=X) (ap:=z.ap) (ai:=z.ai) a;haveI:=sN (X:=X) (ap:=z.ap) (ai:=z.ai) a;haveI:h3 (X.bq j) 4 (ay (c8 X z.ap z.ai s.aC)) (bu dh.draw):=xp a 4 λ_ _=>rfl;haveI:h3 (X.bq j) 5 (ay (c8 X z.ap z.ai s.aC)) (.bool true):=by
      have dk:h3 (X.bq j) 5 (ay (c8 X z.ap z.ai s.aC)) (.bool dh.jg):=xp a 5 λ_ _=>rfl;rw[aP]at dk;exact dk
     refine a7 ?_;refine wn λav=>?_;refine cO ?_;refine wx (rfl) ?_;refine aG ?_;refine ir [11,12,13] [12] [1,5,9,13,17,21,25,29,33,37,41,46,50,54,3,3,3,50,46,54] [ab av 106 [ptr (X.bq j) 0],cG X z s,ay (c8 X z.ap z.ai s.aC)] ?_;refine cO ?_;refine e8 ?_ ?_
     ·
      refine bt (akA X J) ?_;rintro _ _ ⟨S,rfl,rfl⟩;refine er ?_;refine aG ?_;refine wn λU=>?_;refine bH ?_;refine aA rfl (jw Tryz.underlying169 rfl rfl) ?_;refine aG ?_;refine aV (iB (a1.eq_2 ..) (U,av) ⟨rfl,rfl⟩ (jP X z.ap z.ai s.aC j S 80 [ptr U 0,ptr av 0] dh (.fJ (Du j)) .polled a c)) ?_;refine bz ?_;exact aW ⟨rfl,z,_,rfl,⟨ao.gK,ao.gE,ao.gF,ao.ap,ao.ai⟩,rfl⟩
     ·
      refine wn λU=>?_;refine aG ?_;refine bt (akA X J) ?_;rintro _ _ ⟨S,rfl,rfl⟩;refine er ?_;refine bH ?_;refine aA rfl (jw Tryz.underlying169 rfl rfl) ?_;refine aG ?_;refine aV (iB (a1.eq_2 ..) (U,av) ⟨rfl,rfl⟩ (jP X z.ap z.ai s.aC j S 80 [ptr U 0,ptr av 0] dh (.fJ (Du j)) .polled a c)) ?_;refine bz ?_;exact aW ⟨rfl,z,_,rfl,⟨ao.gK,ao.gE,ao.gF,ao.ap,ao.ai⟩,rfl⟩
   . rename_i aP
     obtain⟨dh,a,c,rfl⟩:=Th.kd aB;obtain rfl:t=dh:=by rw[M]at a;exact oe a
     have aP:t.jg=false:=(by simpa using aP);refine ax Tryz.func45 λF D=>?_;haveI:=gg (X:=X) (ap:=z.ap) (ai:=z.ai) a;haveI:=sN (X:=X) (ap:=z.ap) (ai:=z.ai) a;haveI:h3 (X.bq j) 4 (ay (c8 X z.ap z.ai s.aC)) (bu t.draw):=xp a 4 λ_ _=>rfl;haveI:h3 (X.bq j) 5 (ay (c8 X z.ap z.ai s.aC)) (.bool false):=by
      have dk:h3 (X.bq j) 5 (ay (c8 X z.ap z.ai s.aC)) (.bool t.jg):=xp a 5 λ_ _=>rfl;rw[aP]at dk;exact dk
     refine a7 ?_;refine wn λav=>?_;refine cO ?_;refine tr (rfl) ?_;refine bX ?_;refine ir [15,16,17] [16] [1,5,9,13,17,21,25,29,33,37,41,45,49,53,57,62,66,70,3,3,3,66,62,70] [ab av 106 [ptr (X.bq j) 0],cG X z s,ay (c8 X z.ap z.ai s.aC)] ?_;refine eP ?_;refine e8 ?_ ?_
     ·
      refine bt (akB X N J aQ) ?_;rintro _ _ ⟨S,rfl,rfl⟩;refine er ?_;refine aG ?_;refine wn λZ=>?_;refine ch ?_;refine aA rfl (jw Tryz.underlying169 rfl rfl) ?_;refine aG ?_;refine aV (iB (a1.eq_3 ..) (Z,av) ⟨rfl,rfl⟩ (jP X z.ap z.ai s.aC j S 83 [ptr Z 0,ptr av 0] t (.fJ (yB X.C.bA j t.draw.toNat)) .found a c)) ?_;refine a7 ?_;exact aW ⟨rfl,z,_,rfl,⟨ao.gK,ao.gE,ao.gF,ao.ap,ao.ai⟩,rfl⟩
     ·
      refine wn λZ=>?_;refine aG ?_;refine bt (akB X N J aQ) ?_;rintro _ _ ⟨S,rfl,rfl⟩;refine er ?_;refine ch ?_;refine aA rfl (jw Tryz.underlying169 rfl rfl) ?_;refine aG ?_;refine aV (iB (a1.eq_3 ..) (Z,av) ⟨rfl,rfl⟩ (jP X z.ap z.ai s.aC j S 83 [ptr Z 0,ptr av 0] t (.fJ (yB X.C.bA j t.draw.toNat)) .found a c)) ?_;refine a7 ?_;exact aW ⟨rfl,z,_,rfl,⟨ao.gK,ao.gE,ao.gF,ao.ap,ao.ai⟩,rfl⟩
  obtain⟨t1,e⟩:=Th.q2 (j:=j) gZ.inv ae;cases g:t1.on with
  |none=>rw[rH e,g]at av;cases av
  |
   some q=>
   obtain⟨o,k⟩:=q;have i:=gZ.ph;have f:bL b+Th.hD<=Th.hD*(n+1):=y6;exact akC N dm Y m ae M B b7 gZ.inv e g f ah
end
section
variable(X:cJ)(z:dn)(s y:ar)(j:Nat)(t:bV)
def BD(b:Bool)(u:Value)(H:List aq):Prop:=u=.bool b/\∃cu,bD X cu y/\H=bj X cu y
def EP{f:Nat}{args:List Value}{I:List aq}{X:cJ}{y:ar}(h:ad aa f args I dV):ad aa f args I (λu H=>u=.tuple #[]/\∃cu,bD X cu y/\H=bj X cu y):=λF D w st=>
 (h F D w st).mono λ_ _ ⟨v,H,e,⟨d7,cu,aY,ag,fd,cc⟩,q⟩=>by cases ag;exact⟨v,H,e,⟨d7,cu,fd,cc⟩,q⟩
def xv(J:s.aC[j]?=some t)(R:t.on=none):ad aa 46 en rM (aF gQ rM):=by
 refine ax Tryz.func46 λF D=>?_;haveI:=TN (X:=X) (ap:=z.ap) (ai:=z.ai) J R;refine cO ?_;refine aA rfl (N0 rfl) ?_;refine bz ?_;exact aW ⟨rfl,rfl⟩
def aAb(T:Nat)(v y:Value):ad aa 46 en abB (aF iu abB):=by
 refine ax Tryz.func46 λF D=>?_;refine cO ?_;refine aA rfl (X0 rfl) ?_;refine bz ?_;exact aW ⟨rfl,rfl⟩
def BH(o:bY)(k:Th.K)(J:s.aC[j]?=some t)(R:t.on=some (o,k)):ad aa 46 en rM (aF iu rM):=by
 have e:(c8 X z.ap z.ai s.aC)[j]?=some (hE X z.ap z.ai j t):=by simp[sS,J]
 have aB:hE X z.ap z.ai j t=df (bx:=Nat×Nat×List Value) zp PI:=by unfold hE;rw[R]
 refine gx (I:=[hE X z.ap z.ai j t,ay ((c8 X z.ap z.ai s.aC).set j fu)]) (λD h E=>rD (D:=D) e h E) ?_;have aU:=aB;rw[aB];refine xX (fun⟨p,f,c⟩ _=>?_);refine jQ [cW X p o,a1 X z.ap z.ai j p k f c,ay ((c8 X z.ap z.ai s.aC).set j fu)] (aAb X j t (nO o) (ptr p 0) (bi f c)) (au) (λu H q=>?_);obtain⟨rfl,rfl⟩:=q;refine⟨_,dD,λh E=>?_⟩;refine RS (D:=[]) e h ?_;rw[aU];exact cA (D:=[ay ((c8 X z.ap z.ai s.aC).set j fu)]) (p,f,c) trivial (au) h E
def aAc(ao:bD X z s)(J:s.aC[(X.C.bc+X.C.cK)]?=some t)(R:t.on=none)(bn:¬s.ticks=0)(gc:ad aa 44 ab3 (bj X z s) dV):ad aa 47 [ptr X.h 0] (bj X z s) tS:=by
 refine ax Tryz.func47 λF D=>?_;refine dx ?_;refine aV (xv X z s xe t J R) ?_;refine cH ?_;refine cU ?_;refine cH ?_;refine ch ?_;refine ct [] [9,201] [cG X z s] ?_;refine cr ?_;exact EO
end
theorem aAd{X:cJ}{z:dn}{s y:ar}{n:Nat}{f0:Nat->Th.gl}(N:X.C.ok)(dm:Th.iN X.P)(Y:Th.jh f0 X.C X.C.cells)(ao:bD X z s)(h:Th.hv f0 X.C X.P n s)(aS:n+1<=Th.hM)(hk:busy s (X.C.bc+X.C.cK)=false->1<=s.ticks)(ah:Th.stepT X.C X.P (ff X.C (X.C.bc+X.C.cK)) (X.C.bc+X.C.cK) s=some y):
 ad aa 44 ab3 (bj X z s) dV:=by
 refine Km ?_;intro hw H u d2;have W:bL s+Th.hD<=Th.hD*(n+1):=y6;have m:Th.hD*(n+1)<1099511627776:=II;obtain⟨t,M⟩:=Th.q2 (j:=(X.C.bc+X.C.cK)) h.inv ae;unfold Th.stepT at ah;cases B:t.on with
 |
  some q=>
  obtain⟨o,k⟩:=q;rw[bg IJ]at ah;exact Jm N dm Y m ae ao h.inv M B W ah
 |
  none=>
  have em:busy s xe=false:=IJ;rw[a6 (by rw[em];simp)]at ah;obtain⟨s1,h1,ah⟩:=io.1 ah;obtain⟨b,aB,gZ,av⟩:=Th.ajI N ae h em;obtain rfl:b=s1:=ZH;obtain⟨al,S,_⟩:=h.inv.bq;have C:=S.ws.now;have d:s.ticks<=bL s:=by unfold bL;omega
  have b7:ad aa 88 [ptr (X.bq xe) 0] (bj X z s) (cp X (some b)):=by
   unfold ff at aB;obtain⟨dh,a,c,rfl⟩:=Th.kd aB;exact az7 X z s xe dh N ao a c ae (hk em) ae
  obtain⟨t1,e⟩:=Th.q2 (j:=(X.C.bc+X.C.cK)) gZ.inv ae;cases g:t1.on with
  |none=>rw[rH e,g]at av;cases av
  |
   some q=>
   obtain⟨o,k⟩:=q;have i:=gZ.ph;have f:bL b+Th.hD<=Th.hD*(n+1):=y6;exact akC N dm Y m ae M B b7 gZ.inv e g f ah
theorem akE{X:cJ}{z:dn}{s y:ar}{b:Bool}{n:Nat}{f0:Nat->Th.gl}(N:X.C.ok)(dm:Th.iN X.P)(Y:Th.jh f0 X.C X.C.cells)(ao:bD X z s)(h:Th.hv f0 X.C X.P n s)(aS:n+1<=Th.hM)(ah:Th.zR X.C X.P s=some (y,b)):
 ad aa 47 [ptr X.h 0] (bj X z s) vs:=by
 obtain⟨t,M⟩:=Th.q2 (j:=(X.C.bc+X.C.cK)) h.inv ae;unfold Th.zR at ah;split at ah
 . rename_i a2
   cases ah;have c:t.on=none:=by
    have h1:=a2.1;rw[rH M]at h1;cases e:t.on with
    |none=>rfl
    |some q=>rw[e]at h1;simp at h1
   refine ax Tryz.func47 λF D=>?_;refine dx ?_;refine aV (xv X z s xe t M c) ?_;refine cH ?_;refine cU ?_;refine cH ?_;refine dx ?_;exact tW
 . rename_i a2
   obtain⟨w,a,d⟩:=o3.1 ah;cases d;have gc:=aAd N dm Y ao h aS (λaz=>by
    have:¬s.ticks=0:=λe=>a2 ⟨by rw[az];rfl,e⟩;omega) a
   cases B:t.on with
   |none=>exact aAc X z s y t ao M B (λe=>a2 ⟨by rw[rH M,B];rfl,e⟩) gc
   |
    some q=>
    refine ax Tryz.func47 λF D=>?_;refine dx ?_;refine aV acK ?_;refine cH ?_;refine fx ?_;refine ct [] [9,201] [cG X z s] ?_;refine cr ?_;refine bt (EP gc) ?_;rintro _ _ ⟨rfl,cu,fd,rfl⟩;refine er ?_;refine cU ?_;exact aW ⟨rfl,cu,fd,rfl⟩
section
variable(a E al:Int)(X:cJ)(z:dn)(s:ar)(O c5:Int)(fl:cy)(y:ar)(b:Bool)(ea:Int)
def ad2{X:cJ}{j:Nat}(J:j<X.C.bc):((List.range X.C.bc).map λi=>ptr (X.bq i) 0)[j*1]?=some (ptr (X.bq j) 0):=by
 rw[rm,fe,ve J];rfl
def KB(h:E<=a/\a<=al):ad aa 52 [af a,af E,af al] [] xh:=by
 exact afs
def Ky(h:¬(E<=a/\a<=al)):ad aa 52 [af a,af E,af al] [] (aF gQ []):=by
 by_cases h1:E<=a
 . have h2:=(λh2=>h ⟨h1,h2⟩)
   exact afs
 . refine ax Tryz.func52 λF D=>?_
   refine cr ?_;refine cH ?_;refine cU ?_;exact aW ⟨rfl,rfl⟩
def aAe(h:ad aa 47 [ptr X.h 0] (bj X z s) vs):ad aa 26 [ptr X.h 0,.agg [af 3,af ea,af O,S fl,af c5].toArray] (bj X z s) vs:=by
 refine RB ?_;intro F D Z;refine ch ?_;refine bt (h) ?_;rintro _ _ ⟨rfl,cu,fd,rfl⟩;refine er ?_;refine ch ?_;exact JR
def aAf(ao:bD X z s)(hk:64<=s.ticks):ad aa 26 acB (bj X z s) nh:=by
 refine agr ?_;intro F D Z;refine fx ?_;exact tW
def aAg(ao:bD X z s)(hk:¬64<=s.ticks):ad aa 26 acB (bj X z s) (BD X {s with ticks:=s.ticks+1} true):=by
 refine agr ?_;intro F D Z;refine cO ?_;refine aA rfl (fo ((s.ticks+1:Nat):Int) eV rfl rfl) ?_;refine bX ?_;rw[show(qO X z s).set (0+25) (af ((s.ticks+1:Nat):Int))=qO X z {s with ticks:=s.ticks+1}from rfl];refine cO ?_;exact aW ⟨rfl,z,jq,rfl⟩
def aAh(dJ ea:Int)(h1:¬dJ=1)(aH:¬dJ=3)(g0:¬dJ=6)(h:ad aa 53 P3 (bj X z s) vs):ad aa 26 P3 (bj X z s) vs:=by
 refine RB ?_;intro F D Z;refine nG ?_;refine cO ?_;refine bt (h) ?_;rintro _ _ ⟨rfl,cu,fd,rfl⟩;refine er ?_;refine bz ?_;exact JR
def aAi(N:X.C.ok)(ao:bD X z s)(aD:¬(0<=ea/\ea<=((X.C.bc -1:Nat):Int))):ad aa 26 [ptr X.h 0,.agg [af 1,af ea,af O,S fl,af c5].toArray] (bj X z s) nh:=by
 refine ax Tryz.func26 λF D=>?_;have r:=N.aG;have p:=N.bH;refine a7 ?_;refine wn λZ=>?_;refine fx ?_;refine cH ?_;refine bh ?_;refine ct [] [8,201,1] [ab Z 60 (af 1::af ea::Jh),cG X z s] ?_;refine adk ?_;refine aV (Ky ea 0 _ aD) ?_;refine bF ?_;refine nQ ?_;refine cU ?_;exact tW
def aAj(j:Nat)(t:bV)(x E:Value)(ba:aq)(N:X.C.ok)(i:j<X.C.bc)(gc:ad aa 44 [ptr (X.bq j) 0,zb X j 45] [ab (X.bq j) 128 [ptr X.h 0,af (jY X j),x,E,bu (e0 c5),.bool t.jg],cG X z s,gw X,ba] dV):ad aa 26 ace [ab (X.bq j) 128 acL,cG X z s,gw X,ba] tS:=by
 refine ax Tryz.func26 λF D=>?_;have p:=N.bH;refine a7 ?_;refine wn λZ=>?_;refine fx ?_;refine cH ?_;refine bh ?_;refine ct [] [8,201,1] [ab Z 60 Qe,cG X z s] ?_;refine adk ?_;refine go_c rfl .none rfl (b4 rfl (KB (j:Int) 0 ((X.C.bc -1:Nat):Int) ae) bI) ?_;refine aeL ?_;refine ct [] [13,201] [ab Z 60 Qe,ab (X.bq j) 128 acL,cG X z s,gw X] ?_;refine Q8 ?_;refine cr ?_;refine ct [] [17,201] [ab Z 60 Qe,cG X z s,gw X] ?_;refine Q8 ?_;refine Q8 ?_;refine aG ?_;refine bt (EP gc) ?_;rintro _ _ ⟨rfl,cu,fd,rfl⟩;refine er ?_;refine dx ?_;exact JR
end
section
variable(X:cJ)(z:dn)(s:ar)(i:Nat)(dJ O c5:Int)(fl:cy)
def ag8{X:cJ}{i:Nat}(al:i<X.C.cK):((List.range X.C.cK).map λi=>ptr (X.bq (X.C.bc+i)) 0)[i*1]?=some (ptr (X.bq (X.C.bc+i)) 0):=by
 rw[rm,fe,ve al];rfl
def aAk(ea dJ O c5:Int)(fl:cy)(N:X.C.ok)(ao:bD X z s)(aD:¬(0<=ea/\ea<=((X.C.cK -1:Nat):Int))):ad aa 53 P3 (bj X z s) nh:=by
 refine ax Tryz.func53 λF D=>?_;have b:=N.h1;have a:=N.bm;refine n0 ?_;intro U Z;refine bz ?_;refine ct [] [8,201,1] [ab U 32 [ptr X.h 0],ab Z 60 (af dJ::af ea::Jh),cG X z s] ?_;refine adj ?_;refine aV (Ky ea 0 ((X.C.cK -1:Nat):Int) aD) ?_;refine bF ?_;refine nQ ?_;refine bH ?_;exact tW
def aAl(N:X.C.ok)(al:i<X.C.cK)(ao:bD X z s)(d:s.shut=true)(t:bV)(o:bY)(k:Th.K)(J:s.aC[(X.C.bc+i)]?=some t)(R:t.on=some (o,k))(hk:dJ=2)(y:ar)(gc:ad aa 44 Jl (bj X z s) dV):ad aa 53 ko (bj X z s) tS:=by
 refine ahc ?_;intro F D b a U Z aR;exact RK
def aAm(N:X.C.ok)(al:i<X.C.cK)(ao:bD X z s)(d:s.shut=true)(t:bV)(J:s.aC[(X.C.bc+i)]?=some t)(R:t.on=none)(hk:dJ=2):ad aa 53 ko (bj X z s) nh:=by
 refine ahc ?_;intro F D b a U Z aR;exact RH
def aAn(N:X.C.ok)(al:i<X.C.cK)(ao:bD X z s)(d:s.shut=true)(t:bV)(o:bY)(k:Th.K)(J:s.aC[(X.C.bc+i)]?=some t)(R:t.on=some (o,k))(hk:¬dJ=2):ad aa 53 ko (bj X z s) nh:=by
 refine ahg ?_;intro F D b a U Z aR;exact Ro
def aAo(N:X.C.ok)(al:i<X.C.cK)(ao:bD X z s)(d:s.shut=false)(aX:dH (cf z.ap) O=none)(t:bV)(o:bY)(k:Th.K)(J:s.aC[(X.C.bc+i)]?=some t)(R:t.on=some (o,k))(hk:dJ=2)(y:ar)(gc:ad aa 44 Jl (bj X z s) dV):ad aa 53 ko (bj X z s) tS:=by
 refine ahi ?_;intro F D b a U Z aR;exact RK
def aAp(N:X.C.ok)(al:i<X.C.cK)(ao:bD X z s)(d:s.shut=false)(aX:dH (cf z.ap) O=none)(t:bV)(J:s.aC[(X.C.bc+i)]?=some t)(R:t.on=none)(hk:dJ=2):ad aa 53 ko (bj X z s) nh:=by
 refine ahi ?_;intro F D b a U Z aR;exact RH
def aAq(N:X.C.ok)(al:i<X.C.cK)(ao:bD X z s)(d:s.shut=false)(aX:dH (cf z.ap) O=none)(t:bV)(o:bY)(k:Th.K)(J:s.aC[(X.C.bc+i)]?=some t)(R:t.on=some (o,k))(hk:¬dJ=2):ad aa 53 ko (bj X z s) nh:=by
 refine ahl ?_;intro F D b a U Z aR;exact Ro
def aAr(N:X.C.ok)(al:i<X.C.cK)(ao:bD X z s)(d:s.shut=false)(e:Nat)(aX:dH (cf z.ap) O=some (ptr e 0))(t:bV)(o:bY)(k:Th.K)(J:s.aC[(X.C.bc+i)]?=some t)(R:t.on=some (o,k))(hk:dJ=2)(y:ar)(gc:ad aa 44 Jl (bj X z s) dV):ad aa 53 ko (bj X z s) tS:=by
 refine ahh ?_;intro F D b a U Z aR;exact RK
def aAs(N:X.C.ok)(al:i<X.C.cK)(ao:bD X z s)(d:s.shut=false)(e:Nat)(aX:dH (cf z.ap) O=some (ptr e 0))(t:bV)(J:s.aC[(X.C.bc+i)]?=some t)(R:t.on=none)(hk:dJ=2):ad aa 53 ko (bj X z s) nh:=by
 refine ahh ?_;intro F D b a U Z aR;exact RH
def aAt(N:X.C.ok)(al:i<X.C.cK)(ao:bD X z s)(d:s.shut=false)(e:Nat)(aX:dH (cf z.ap) O=some (ptr e 0))(t:bV)(o:bY)(k:Th.K)(J:s.aC[(X.C.bc+i)]?=some t)(R:t.on=some (o,k))(hk:¬dJ=2):ad aa 53 ko (bj X z s) nh:=by
 refine ahk ?_;intro F D b a U Z aR;exact Ro
def ae7(U aR Z:Nat)(a:cy)(J:Int)(o:s.trace.length<most):ad aa 90 [S a,af J,ptr U 0,ptr aR 0,ptr Z 0] [ab U 32 [ptr X.h 0],ab aR 3 [af (-1 -(i:Int))],ab Z 60 Eo,cG X z s,dQ z.cC z.cD s.trace] (λu H=>u=.tuple #[]/\∃aE aK,H=[ab U 32 [ptr X.h 0],ab aR 3 [af (-1 -(i:Int))],ab Z 60 Eo,cG X hY {s with trace:=s.trace++abz},dQ aE aK (s.trace++abz)]):=by
 refine ax Tryz.func90 λF D=>?_;refine bH ?_;refine bt (lZ X z s (abA:bZ) o) ?_;refine lY ?_;intro aE aK;refine a7 ?_;exact aW ⟨rfl,aE,aK,rfl⟩
def aAu(N:X.C.ok)(al:i<X.C.cK)(ao:bD X z s)(d:s.shut=true)(t:bV)(J:s.aC[(X.C.bc+i)]?=some t)(R:t.on=none)(hk:dJ=4)(g:ad aa 92 [S fl] [] (aF gQ [])):ad aa 53 ko (bj X z s) nh:=by
 refine ahp ?_;intro F D b a U Z aR;exact Q4
def aAv(N:X.C.ok)(al:i<X.C.cK)(ao:bD X z s)(d:s.shut=true)(t:bV)(J:s.aC[(X.C.bc+i)]?=some t)(R:t.on=none)(hk:dJ=4)(aD:¬(0<=c5/\c5<=255))(g:ad aa 92 [S fl] [] xh):ad aa 53 ko (bj X z s) nh:=by
 refine ahq ?_;intro F D b a U Z aR;exact RA
def aAw(N:X.C.ok)(al:i<X.C.cK)(ao:bD X z s)(d:s.shut=true)(t:bV)(J:s.aC[(X.C.bc+i)]?=some t)(R:t.on=none)(hk:dJ=4)(aD:0<=c5/\c5<=255)(o:s.trace.length<most)(g:ad aa 92 [S fl] [] xh):ad aa 53 ko (bj X z s) aaI:=by
 refine ahq ?_;intro F D b a U Z aR;exact agF
def aAx(N:X.C.ok)(al:i<X.C.cK)(ao:bD X z s)(d:s.shut=true)(t:bV)(J:s.aC[(X.C.bc+i)]?=some t)(R:t.on=none)(hk:dJ=5)(o:s.trace.length<most):ad aa 53 ko (bj X z s) aaK:=by
 refine ahr ?_;intro F D b a U Z aR;exact ae6
def aAy(N:X.C.ok)(al:i<X.C.cK)(ao:bD X z s)(d:s.shut=true)(t:bV)(J:s.aC[(X.C.bc+i)]?=some t)(R:t.on=none)(h2:¬dJ=2)(bm:¬dJ=4)(dk:¬dJ=5)(u:¬dJ=7):ad aa 53 ko (bj X z s) nh:=by
 refine ahy ?_;intro F D b a U Z aR;exact QQ
def aAz(N:X.C.ok)(al:i<X.C.cK)(ao:bD X z s)(d:s.shut=true)(t:bV)(J:s.aC[(X.C.bc+i)]?=some t)(R:t.on=none)(hk:dJ=7):ad aa 53 ko (bj X z s) nh:=by
 refine ahy ?_;intro F D b a U Z aR;refine cU ?_;refine aA rfl (fM (c:=false) (by rw[d];rfl) (qF rfl)) ?_;refine fZ ?_;exact tW
def aAA(N:X.C.ok)(al:i<X.C.cK)(ao:bD X z s)(d:s.shut=false)(aX:dH (cf z.ap) O=none)(t:bV)(J:s.aC[(X.C.bc+i)]?=some t)(R:t.on=none)(hk:dJ=4)(g:ad aa 92 [S fl] [] (aF gQ [])):ad aa 53 ko (bj X z s) nh:=by
 refine aht ?_;intro F D b a U Z aR;exact Q4
def aAB(N:X.C.ok)(al:i<X.C.cK)(ao:bD X z s)(d:s.shut=false)(aX:dH (cf z.ap) O=none)(t:bV)(J:s.aC[(X.C.bc+i)]?=some t)(R:t.on=none)(hk:dJ=4)(aD:¬(0<=c5/\c5<=255))(g:ad aa 92 [S fl] [] xh):ad aa 53 ko (bj X z s) nh:=by
 refine ahv ?_;intro F D b a U Z aR;exact RA
def aAC(N:X.C.ok)(al:i<X.C.cK)(ao:bD X z s)(d:s.shut=false)(aX:dH (cf z.ap) O=none)(t:bV)(J:s.aC[(X.C.bc+i)]?=some t)(R:t.on=none)(hk:dJ=4)(aD:0<=c5/\c5<=255)(o:s.trace.length<most)(g:ad aa 92 [S fl] [] xh):ad aa 53 ko (bj X z s) aaI:=by
 refine ahv ?_;intro F D b a U Z aR;exact agF
def aAD(N:X.C.ok)(al:i<X.C.cK)(ao:bD X z s)(d:s.shut=false)(aX:dH (cf z.ap) O=none)(t:bV)(J:s.aC[(X.C.bc+i)]?=some t)(R:t.on=none)(hk:dJ=5)(o:s.trace.length<most):ad aa 53 ko (bj X z s) aaK:=by
 refine ahx ?_;intro F D b a U Z aR;exact ae6
def aAE(N:X.C.ok)(al:i<X.C.cK)(ao:bD X z s)(d:s.shut=false)(aX:dH (cf z.ap) O=none)(t:bV)(J:s.aC[(X.C.bc+i)]?=some t)(R:t.on=none)(h2:¬dJ=2)(bm:¬dJ=4)(dk:¬dJ=5)(u:¬dJ=7):ad aa 53 ko (bj X z s) nh:=by
 refine ahA ?_;intro F D b a U Z aR;exact QQ
def aAF(N:X.C.ok)(al:i<X.C.cK)(ao:bD X z s)(d:s.shut=false)(aX:dH (cf z.ap) O=none)(t:bV)(J:s.aC[(X.C.bc+i)]?=some t)(R:t.on=none)(hk:dJ=7)(y:ar)(gc:ad aa 95 [ptr Er 0,af 1] (bj X z {s with shut:=true}) dV):ad aa 53 ko (bj X z s) tS:=by
 refine ahA ?_;intro F D b a U Z aR;exact agi
def aAG(N:X.C.ok)(al:i<X.C.cK)(ao:bD X z s)(d:s.shut=false)(e:Nat)(aX:dH (cf z.ap) O=some (ptr e 0))(t:bV)(J:s.aC[(X.C.bc+i)]?=some t)(R:t.on=none)(hk:dJ=4)(g:ad aa 92 [S fl] [] (aF gQ [])):ad aa 53 ko (bj X z s) nh:=by
 refine ahs ?_;intro F D b a U Z aR;exact Q4
def aAH(N:X.C.ok)(al:i<X.C.cK)(ao:bD X z s)(d:s.shut=false)(e:Nat)(aX:dH (cf z.ap) O=some (ptr e 0))(t:bV)(J:s.aC[(X.C.bc+i)]?=some t)(R:t.on=none)(hk:dJ=4)(aD:¬(0<=c5/\c5<=255))(g:ad aa 92 [S fl] [] xh):ad aa 53 ko (bj X z s) nh:=by
 refine ahu ?_;intro F D b a U Z aR;exact RA
def aAI(N:X.C.ok)(al:i<X.C.cK)(ao:bD X z s)(d:s.shut=false)(e:Nat)(aX:dH (cf z.ap) O=some (ptr e 0))(t:bV)(J:s.aC[(X.C.bc+i)]?=some t)(R:t.on=none)(hk:dJ=4)(aD:0<=c5/\c5<=255)(g:ad aa 92 [S fl] [] xh)(y:ar)(gc:ad aa 93 [ptr Er 0,.agg (pD ⟨-1 -(i:Int),O,fl,c5,false⟩).toArray,bi 94 []] (bj X z s) dV):ad aa 53 ko (bj X z s) tS:=by
 refine ahu ?_;intro F D b a U Z aR;refine afw ?_;refine dx ?_;refine cH ?_;refine fZ ?_;exact EO
def aAJ(N:X.C.ok)(al:i<X.C.cK)(ao:bD X z s)(d:s.shut=false)(e:Nat)(aX:dH (cf z.ap) O=some (ptr e 0))(t:bV)(J:s.aC[(X.C.bc+i)]?=some t)(R:t.on=none)(hk:dJ=5)(y:ar)(gc:ad aa 95 [ptr Er 0,af O] (bj X z s) dV):ad aa 53 ko (bj X z s) tS:=by
 refine ahw ?_;intro F D b a U Z aR;refine dx ?_;refine cH ?_;refine bH ?_;exact EO
def aAK(N:X.C.ok)(al:i<X.C.cK)(ao:bD X z s)(d:s.shut=false)(e:Nat)(aX:dH (cf z.ap) O=some (ptr e 0))(t:bV)(J:s.aC[(X.C.bc+i)]?=some t)(R:t.on=none)(h2:¬dJ=2)(bm:¬dJ=4)(dk:¬dJ=5)(u:¬dJ=7):ad aa 53 ko (bj X z s) nh:=by
 refine ahz ?_;intro F D b a U Z aR;exact QQ
def aAL(N:X.C.ok)(al:i<X.C.cK)(ao:bD X z s)(d:s.shut=false)(e:Nat)(aX:dH (cf z.ap) O=some (ptr e 0))(t:bV)(J:s.aC[(X.C.bc+i)]?=some t)(R:t.on=none)(hk:dJ=7)(y:ar)(gc:ad aa 95 [ptr Er 0,af 1] (bj X z {s with shut:=true}) dV):ad aa 53 ko (bj X z s) tS:=by
 refine ahz ?_;intro F D b a U Z aR;exact agi
end
end Go.Proofs.YtnnhpnccfnghdaaGreat.L.bE
