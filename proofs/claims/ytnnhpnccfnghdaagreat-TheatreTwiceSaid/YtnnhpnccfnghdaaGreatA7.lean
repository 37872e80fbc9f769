import Derived.Test.YtnnhpnccfnghdaaGreatA6
import Derived.Shelf.Abstract
import Derived.OwnWalkIn
import Derived.TacticsInMore
import Derived.LoopNIn
import Derived.LoopIn
set_option linter.all false
set_option maxRecDepth 100000
set_option maxHeartbeats 4000000
namespace Go.Proofs.YtnnhpnccfnghdaaGreat.L
open Go.L Go.RowKit Go.Shelf
attribute[local irreducible] G cJ GE c3 GT b1 dk c7 ds Exit.then Exit.inBlock
attribute[local go_sem] Oper.semAt_some
section
variable{H:World}{V:Nat}{J:e6}{g:Operand}{gH i5:Nat}{assign body:Code}{Q:Exit->Act->World->Prop}
theorem aly(n:Nat)(aO:1<=n)(l br b c:Nat)(cu:Option Addr)(xs:List Int)(j:0<xs.length->cu=some oy)(m:Nat->World->Prop)(hlen:xs.length<=1099511627776)
 (N:∀k W,m k W->W.cell? ⟨br,0,none⟩=some (.slice cu xs.length c)/\∀i x,xs[i]?=some x->W.cell? ⟨b,i,none⟩=some (bx x))
 (a:∀k i x W,m k W->i+1+k=xs.length->xs[i]?=some x->YieldAt Fence.wide (n -1) E l #[.int .i64 i,bx x] W λe o=>e=.returned hI/\m (k+1) o)
 (W:World)(bi:m 0 W):
 CallsIn Fence.wide n E 436 #[.func (.yield l) #[] #[],.pointer (some ⟨br,0,none⟩)] W λe o=>(∃v,e=.returned v)/\m xs.length o:=by
 refine callsIn_of_wp Tryz.func436 rfl trivial ?_ rfl;simp only[Tryz.ntmps436,x2,iG,lk,Nat.reduceAdd,Nat.reduceSub,Array.replicate_succ,Array.replicate_zero,List.push_toArray,List.append_toArray,ci,ck];have f:=(N 0 W bi).1
 gi_wp2
 gi_loopw [3] (λp wr=>∃k:Nat,k<=xs.length/\p=.int .i64 ((xs.length:Int) -1 -k)/\m k wr) (λp wr=>match p with
  |.int _ F=>(F+1).toNat
  |_=>0)
 case atStart=>
  exact⟨0,fk _,by simp,bi⟩
 case round=>
  obtain⟨k,hk,rfl,d⟩:=hrel;by_cases Y:k=xs.length
  . subst Y
    have aC:((xs.length:Int) -1 -xs.length)=-1:=ad;rw[aC]
    gi_wp2
    go_end0
    exact⟨⟨_,rfl⟩,d⟩
  . obtain rfl:=j ad
    obtain⟨i,ak⟩:∃i:Nat,i+1+k=xs.length:=⟨xs.length -1 -k,by omega⟩;have aC:((xs.length:Int) -1 -k)=(i:Int):=ad;rw[aC];obtain⟨x,ah⟩:∃x,xs[i]?=some x:=⟨_,cD (show i<xs.length by omega)⟩;obtain⟨q,g⟩:=N k wr d;have s:=g i x ah;obtain⟨fn,tmps,assign,body,ag,K⟩:=a k i x wr d ak ah;have t:(i:Int)<xs.length:=ad
    gi_wp2
    refine K.mono ?_;rintro e u ⟨rfl,r⟩
    gi_wp2
    go_roundw
    case rel=>exact⟨k+1,by omega,by congr 1;omega,r⟩
    case measure=>simp
theorem alz{a:Act}{w:World}{br b c:Nat}{cu:Option Addr}{xs:List Int}(Inv:Nat->List al)(hlen:xs.length<=1099511627776)(j:0<xs.length->cu=some oy)
 (ai:hl V J a)(aY:cm J g=some (bk 436 [ptr br 0]))
 (N:∀k W d f,dt H (d::f::Inv k) W->W.cell? ⟨br,0,none⟩=some (.slice cu xs.length c)/\∀i x,xs[i]?=some x->W.cell? ⟨b,i,none⟩=some (bx x))
 (s:dt H (Inv 0) w)
 (I : ∀ (l z k i : Nat) (x : Int) (rec : Loop) (W : World) (m : Nat), dt H (eD l (.loop rec) :: eD z (.deferred (some [])) :: Inv k) W → i + 1 + k = xs.length → xs[i]? = some x →
  assign.wpIn (Fence.wide.inRound l) m E (Exit.then (λp q=>dt H Uh q/\∀D o,dt H (eD l (.loop D)::eD z (.deferred (some []))::Inv k) o->body.wpIn (Fence.wide.inRound l) m E (λe _ B=>e=.normal/\dt H (eD l (.loop D)::eD z s8::Inv (k+1)) B) p o) (λ_ _ _=>False)) {tmps:=(a.tmps.setIfInBounds gH (.int .i64 i)).setIfInBounds i5 (bx x),defers:=[]} W)
 (K:∀z W,dt H (eD z (.deferred (some []))::Inv xs.length) W->Q .normal {a with defers:=[{target:=.collected z,args:=#[]}]} W):
 (Code.rangeFunc g #[gH,i5] assign body).wp E Q a w:=by
 refine(wpIn_wide (n:=3)).1 (wpIn_rangeFunc ?_);intro fn R;have F:=ai.eval aY;obtain⟨rec,u⟩:∃rec:LoopState->Option Code->Loop,rec=λst G=>{state:=st,pending:=G,fn,tmps:=a.tmps,params:=#[gH,i5],assign,body,defers:=w.heap.size}:=⟨_,rfl⟩;have s1:dt H (eD (w.heap.size+1) Ao::eD w.heap.size s8::Inv 0) ((w.alloc s8).alloc Ao):=by
  have:=(s.new s8).new Ao;dsimp only at this;rw[Array.size_push]at this;exact this
 obtain⟨y,L⟩:∃y,(w.alloc (.deferred (some []))).alloc Ao=y:=⟨_,rfl⟩;rw[L]at s1;refine⟨w.heap.size+1,[{target:=.collected w.heap.size,args:=#[]}],y,{target:=.fn (.func 436) #[ptr br 0],args:=#[.func (.yield (w.heap.size+1)) #[] #[]]},y,436,
  #[.func (.yield (w.heap.size+1)) #[] #[]]++#[ptr br 0],y,?_,?_,?_,?_,λ_=>by decide,?_⟩
 . rw[<-L,u];exact run_enterLoop_outer _ _ _ _ _
 . simp only[resolve,F]
   simp[go_sem]
 . intro t M;trivial
 . simp[invoke,go_sem,enters_of Tryz.func436 hM rfl]
 . refine(aly 2 bw (w.heap.size+1) br b c cu xs j (λk W=>dt H (eD (w.heap.size+1) Ao::eD w.heap.size s8::Inv k) W) hlen (λk W h=>N k W _ _ h) ?_ y s1).mono ?_
   . intro k i x W h C ah
     have aw:=h.heap (b:=w.heap.size+1);have ag:=run_yield (P:=E) (args:=#[.int .i64 i,bx x]) aw (by rw[u];rfl);rw[u]at ag;simp at ag;refine⟨fn,_,assign,body,ag,roundIn_of_wpIn trivial (wpIn_mono (I _ _ k i x _ W (2 -1) h C ah) ?_)⟩;intro e p q Y;cases e with
     |
      normal=>
      simp only[Exit.then]at Y⊢;obtain⟨h,aA⟩:=Y;have aw:=h.heap (b:=w.heap.size+1);refine⟨_,run_beginRound aw (by rw[u]),?_⟩;have h2:=dt.set h (b:=w.heap.size+1) (.loop {rec .ready none with state:=.busy});refine wpIn_mono (aA _ _ h2) ?_;rintro aV cC bb ⟨rfl,aN⟩;have r:=aN.heap (b:=w.heap.size+1);refine⟨_,_,run_endRound none r,rfl,?_⟩;have bA:=dt.set aN (b:=w.heap.size+1) Ao;rw[u]at bA⊢;exact bA
     |_=>simp only[Exit.then]at Y
   . rintro e O ⟨⟨v,rfl⟩,h⟩
     have aw:=h.heap (b:=w.heap.size+1);refine⟨none,_,by have:=run_endLoop (P:=E) aw (by rw[u];simp);rw[u]at this;exact this,?_⟩;have h2:=dt.set h (b:=w.heap.size+1) (.loop {rec .ready none with state:=.exhausted});have aN:=K w.heap.size _ (h2.imp λ_ s=>Sat.drop s);rw[ai.defers];rw[u]at aN;exact aN
theorem alA{M:List al}{g:Operand}{gH i5:Nat}{assign body:Code}{Q:Exit->Act->World->Prop}{br b c:Nat}{cu:Option Addr}{xs:List Int}(Inv:Nat->List al)(n:Nat->Int->e6)(B:∀h,Sat M h->Sat (Inv 0) h)(hlen:xs.length<=1099511627776)(j:0<xs.length->cu=some oy)
 (t:Nat.blt gH V=true)(u:Nat.blt i5 V=true)(aY:cm J g=some (bk 436 [ptr br 0]))
 (N:∀k W d f,dt H (d::f::Inv k) W->W.cell? ⟨br,0,none⟩=some (.slice cu xs.length c)/\∀i x,xs[i]?=some x->W.cell? ⟨b,i,none⟩=some (bx x))
 (p:∀(r m i:Nat) (x:Int) (M:List al),vS r m E H V assign ((i5,bx x)::(gH,.int .i64 i)::J) M (λe a w=>e=.normal/\hl V (n i x) a/\dt H M w))
 (I:∀(l z m k i:Nat) (x:Int) (rec:Loop),i+1+k=xs.length->xs[i]?=some x->vS l m E H V body (n i x) Uh (x3 H (eD l (.loop rec)::eD z s8::Inv (k+1))))
 (K:∀z,DD.GE [{target:=.collected z,args:=#[]}] H V J (eD z (.deferred (some []))::Inv xs.length) (Q .normal)):G E H V (.rangeFunc g #[gH,i5] assign body) J M Q:=by
 delta G;intro a w ai s
 refine alz Inv hlen j ai aY N (s.imp B) ?_ ?_
 . intro l z k i x rec W m cc C ah
   have h1:hl V ((i5,bx x)::(gH,.int .i64 i)::J) {tmps:=(a.tmps.setIfInBounds gH (.int .i64 i)).setIfInBounds i5 (bx x),defers:=[]}:=by
    have:=(ai.put (.int .i64 i) t).put (bx x) u;have aS:=ai.defers;cases a;simp at aS;subst aS;exact this
   refine wpIn_mono (p l m i x _ _ _ h1 cc) ?_;rintro e cu aG ⟨rfl,h2,aN⟩;simp only[Exit.then];exact⟨aN,λD o aW=>I l z m k i x D C ah _ _ h2 aW⟩
 . intro z W aW
   refine K z _ W ⟨?_,rfl⟩ aW;have aS:=ai.defers;cases a;simp at aS;subst aS;exact ai
end
end Go.Proofs.YtnnhpnccfnghdaaGreat.L
namespace Go.Proofs.YtnnhpnccfnghdaaGreat.L
open Go.L Go.L.Lx Go.L.Pg
attribute[local irreducible] G cJ GE c3 GT b1 dk c7 ds Exit.then Exit.inBlock
def aA7{l:List Int}{i k:Nat}{x:Int}(h:i+1+k=l.length)(ah:l[i]?=some x):l.reverse.take (k+1)=l.reverse.take k++[x]:=by
 have hk:k<l.reverse.length:=h9;rw[nv hk]
 congr 2
 rw[List.getElem_reverse];have e:l.length -1 -k=i:=ad;obtain⟨_,aV⟩:=dp.1 ah;simp only[e,aV]
def aA8(v:Value)(Z:v.oneCell'=true):ab E 405 [v] [] (λu I=>∃br,u=bk 436 [ptr br 0]/\I=[aa br 49 [v]]):=by
 refine av Tryz.func405 λH D=>?_;refine bb ?_;refine jn rfl (RH rfl Z) ?_;rintro _ _ ⟨ar,rfl,rfl⟩;refine c4 ?_;exact aQ ⟨ar,rfl,rfl⟩
def akH(q F:Nat)(v:Value)(O:List Int):al:=dq (bv:=Option Addr×Nat) (λ_=>True) (λe=>[aa q 164 [af F,v,ul e.1 e.2 O],fH e.1 e.2 O])
def aA9{q F:Nat}{v:Value}{a:Option Addr}{c:Nat}{l:List Int}{D:List al}:∀h,Sat (aa q 164 [af F,v,ul a c l]::fH a c l::D) h->Sat (akH q F v l::D) h:=cE (D:=D) (a,c) trivial kS
def awg(q F:Nat)(dv O:List Int)(h1:dv.length<=1099511627776)(h2:O.length<=1099511627776):ab E 365 [ptr q 0] EB (aH (af dv.length) [fJ q F [] (O++dv.reverse)]):=by
 refine atK Tryz.func365 rfl rfl rfl ?_;intro H D;refine BP ?_;intro cu c1 cC bq;refine yi (p:=∃b,0<dv.length->cu=some oy) (λh s=>?_) ?_
 . rcases HC dv.length with bi|bi
   . exact⟨0,λh=>by omega⟩
   . obtain⟨b,e,_⟩:=AX bi h (hJ.to (A:=fH cu c1 dv) eP s);exact⟨b,λ_=>e⟩
 rintro⟨b,j⟩;refine bb ?_;refine wn λar=>?_;refine gq ?_;refine bu (aA8 (ul cu c1 dv) rfl) ?_;rintro _ _ ⟨br,rfl,rfl⟩;refine eM ?_;refine b2 ?_;refine alA (cu:=cu) (c:=c1) (b:=b) (xs:=dv) (br:=br) (λk=>[akH q F (ul cu c1 dv) JB,aa ar 112 [ptr q 0],aa br 49 [ul cu c1 dv],fH cu c1 dv]++D) (λi x=>[(5,bx x),(1,ptr ar 0)]) (λh s=>by rw[OM,jb];exact cE (cC,bq) trivial (au) h s) h1 j rfl rfl rfl ?_ ?_ ?_ ?_
 . intro k W d f h
   simp only[ck,ci]at h;refine⟨by have:=h.heap (b:=br);simp[World.cell?,this],λi x ah=>?_⟩;obtain rfl:=j (by have:=(dp.1 ah).1;omega);have d7:gI (fW W) (ul jA c1 dv) dv.length (iL dv):=je.get h.fg;have:=Oy (m:=i) (x:=bx x) d7 (by simp[iL,ah]);simpa[tC,tD]using this
 . intro r m i x M
   exact gi_reg (by rintro⟨_,_,h⟩;cases h.1) rfl (aB rfl (mq rfl) (ie (by delta GE;intro a w ai s;exact⟨rfl,ai.jC eb,s⟩)))
 . intro l z m k i x rec C ah
   refine gi_open eP ?_;rintro⟨a3,b7⟩ -;refine gi_block ?_;refine gi_drw [6,7,10] [6,7] [(0,.bL),(1,.bL),(2,.bL),(3,.bL),(4,.bL),(5,.loc),(6,.da),(7,.da),(8,.loc),(9,.loc),(10,.da)] [aa ar 112 [ptr q 0],aa q 164 [af F,ul cu c1 dv,ul a3 b7 JB]] mixed hM rfl ?_;refine bj ?_;refine wn λn=>?_;refine aG ?_;refine go_n rfl .none rfl (DX rfl rfl bN rfl rfl rfl h9 (by unfold maxLen;simp;omega)) ?_;rintro _ _ ⟨a25,g,rfl,rfl⟩;refine bj ?_;rw[aA7 C ah,<-jI];refine uz (I:=eD l (.loop rec)::eD z s8::aa q 164 [af F,ul cu c1 dv,ul a25 g (JB++[x])]::fH a25 g (JB++[x])::aa ar 112 [ptr q 0]::aa br 49 [ul cu c1 dv]::fH cu c1 dv::D) (by
    rw[<-KO rfl,show ul a25 g ((O++dv.reverse.take k)++[x])=.slice a25 ((O++dv.reverse.take k).length+1) g from by simp[ul];omega];exact(au)) ?_
   exact atN (λh s=>Sat.tail (λh s=>Sat.tail aA9 s) s)
 . intro z
   simp only[ck,ci,yW (show dv.reverse.length<=dv.length by simp)];refine DD.yq ?_;refine DD.hz ?_;refine DD.hy ?_;refine DD.kK eP ?_;rintro⟨a3,b7⟩ -;refine gh ?_;refine DD.jg ?_
   first|refine DD.aB rfl wA ?_|refine DD.aB rfl wB ?_|refine DD.aB rfl wC ?_
   refine DD.aB rfl (mm rfl) ?_
   first|refine DD.aB rfl wz ?_|refine DD.aB rfl (mX rfl) ?_
   first|refine DD.ko pG ?_|refine DD.ko pH ?_
   refine DD.ie ?_;refine DD.hz ?_;refine DD.hy ?_;refine DD.jg ?_;refine DD.aB rfl o5 ?_;refine DD.aB rfl (mq rfl) ?_;refine DD.ie ?_;refine DD.hz ?_;refine DD.oI ?_;refine DD.uz (I:=eD z s8::aa q 164 [af F,.slice none 0 0,ul a3 b7 (O++dv.reverse)]::fH a3 b7 (O++dv.reverse)::D) (au) ?_;exact atL (.inl rfl) (λa w ai=>by rw[results_tmp rfl,G3 ai rfl]) [fJ q F [] (O++dv.reverse)] cj (cE (none,0,a3,b7) trivial (λh s=>Sat.tail (λh s=>jc h s) s))
end Go.Proofs.YtnnhpnccfnghdaaGreat.L
namespace Go.L.ej
open Go.L Go.L.Ring Go.L.Whl Go.L.dD
structure kZ where
 b:Nat
 n:Nat
inductive vZ
 |put(o:fz)
 |now
 |take(left:Nat)(o:fz)
 |tick(v:Int)
structure hx where
 ph:vZ
 out:Int
 val:Int
 due:List Int
 cut:List Int
 ref:List Int
def hx.over(c:hx):Bool:=!decide (c.out=0)
section
variable(B:kZ)(id v:Int){k:Nat}(L:List Int)(w:gm)(c:hx)
def lO:gm:=if v%4096=0 then q1 w (v/4096)else q0 w (v/4096) (v%4096)
def q2:List Int:=if v%4096=0/\(w.get (v/4096)).isSome=true then[v/4096]else[]
def q3:List Int:=if v%4096≠0/\nW w (v/4096) (v%4096)≠0 then[v/4096]else[]
def pE(left:Nat)(w:gm):vZ:=if left=0 then .tick ((w.now+1:Nat):Int)else .take left (gi 5 0)
def nY:List Int×gm×hx:=
 match c.ph with
 |
  .put o=>
  let S:=dC (B.b+1) B.n L o
  (lp (B.b+1) B.n L o,w,{c with ph:=.put S,out:=S.out})
 |.now=>(L,w,{c with out:=1,val:=L.getD B.b 0})
 |
  .take left o=>
  let S:=dC (B.b+1) B.n L o
  let E:=lp (B.b+1) B.n L o
  if S.over then
   if S.out=1 then(E,lO S.value w,{c with ph:=pE (left -1) (lO S.value w),cut:=c.cut++q2 S.value w,ref:=c.ref++q3 S.value w})
   else(E,w,{c with ph:=.tick ((w.now+1:Nat):Int)})
  else(E,w,{c with ph:=.take left S})
 |.tick v=>(L.set B.b v,tn w,{c with out:=1,due:=(mP w).map (·.id)})
def jY:List Int×gm×hx:=if c.over then(L,w,c)else nY B L w c
def p8(ph:vZ):hx:=⟨ph,0,0,[],[],[]⟩
def q4(d:Int):hx:=if d<1\/4095<d\/1125899906842624<id then{p8 .now with out:=4}else p8 (.put (gi 0 (id*4096+d)))
def rU:hx:=if 1125899906842624<id then{p8 .now with out:=4}else p8 (.put (gi 0 (id*4096)))
def o2:hx:=p8 .now
def uv:hx:=p8 (pE B.n w)
structure rW(B:kZ)(L:List Int):Prop where
 m1:1<=B.n
 m64:B.n<=64
 len:B.b+3+2*B.n<=L.length
 dG:L.length<=65536
structure mg(w:gm):Prop where
 ok:jZ w
 now:w.now<3000000000000000000
 seq:w.seq<4611686018427387903
def VS:vZ->Prop
 |.put o=>iH o/\o.out=0/\o.pc<=9
 |.now=>True
 |.take left o=>iH o/\o.out=0/\o.pc<=9/\1<=left/\left<=64
 |.tick v=>0<=v/\v<=18446744073709551615
def leftOf:vZ->Nat
 |.take left _=>left
 |_=>0
structure tr(c:hx):Prop where
 run:c.out=0->VS c.ph/\c.val=0/\c.due=[]
 MO:c.cut.length+c.ref.length+leftOf c.ph<=64
 val:0<=c.val/\c.val<=18446744073709551615
structure wj(k:Nat)(w:gm):Prop where
 ok:jZ w
 now:w.now+k<3000000000000000000
 seq:w.seq+k<4611686018427387903
def wj.fR{w:gm}(h:wj k w):mg w:=⟨h.ok,by have:=h.now;omega,by have:=h.seq;omega⟩
def wj.le{j:Nat}{w:gm}(h:wj k w)(O:j<=k):wj j w:=⟨h.ok,by have:=h.now;omega,by have:=h.seq;omega⟩
def VH:(lO v w).now=w.now:=by
 unfold lO q1 q0;split
 . rfl
 . split<;>rfl
def am9:(lO v w).seq<=w.seq+1:=by
 unfold lO q1 q0;split
 . exact io _
 . split
   . exact et _
   . exact io _
def ana{w:gm}(h:jZ w):jZ (lO v w):=by
 unfold lO;split
 . exact h.cut _
 . exact h.add _ _
def anb:(q2 v w).length+(q3 v w).length<=1:=by
 unfold q2 q3;by_cases h:v%4096=0
 . rw[a7 (show¬(v%4096≠0/\_)from λg=>g.1 h)];split<;>simp
 . rw[a7 (show¬(v%4096=0/\_)from λg=>h g.1)];split<;>simp
def VT{b n:Nat}{L:List Int}{o:fz}(h:o.pc<=9):(dC b n L o).pc<=9:=by
 unfold dC;split
 . exact h
 . unfold lq;split<;>(try exact h)<;>simp only[yj,wk,yk,GV,GX,ux,rX,GY,GZ,G0,G1,yl,G2,ym,yn,yo]<;>(repeat' split)<;>first|exact h|((try dsimp only);omega)
def VU{pc:Nat}(h:pc<=9){v:Int}(Z:0<=v/\v<=18446744073709551615):iH (gi pc v)/\(gi pc v).out=0/\(gi pc v).pc<=9:=⟨AI ad Z,rfl,h⟩
def VV{left:Nat}(h:left<=64){w:gm}(aO:w.now<3000000000000000000):VS (pE left w)/\leftOf (pE left w)=left:=by
 unfold pE;split
 . rename_i e;subst e;exact⟨uy,rfl⟩
 . rename_i e
   obtain⟨a,b,c⟩:=VU (pc:=5) bw (v:=0) bw;exact⟨⟨a,b,c,by omega,h⟩,rfl⟩
def anc{B:kZ}{L:List Int}{k:Nat}{w:gm}{c:hx}(K:iv L)(R:wj (k+1) w)(a6:tr c):iv (jY B L w c).1/\wj k (jY B L w c).2.1/\tr (jY B L w c).2.2:=by
 unfold jY;cases J:c.over with
 |true=>exact⟨K,R.le (io k),a6⟩
 |
  false=>
  simp only[e2,eI];obtain⟨ph,out,val,due,cut,ref⟩:=c;have aJ:out=0:=by simpa[hx.over]using J
  subst aJ;obtain⟨Y,Z,aS⟩:=a6.run rfl;have U:=a6.MO;have fI:(0:Int)<=0/\(0:Int)<=18446744073709551615:=bw;obtain rfl:val=0:=Z;obtain rfl:due=[]:=aS;cases ph with
  |
   put o=>
   obtain⟨h1,h2,aN⟩:=Y;exact⟨yp K h1,R.le (io k),⟨λh=>⟨⟨AE K h1,h,VT aN⟩,rfl,rfl⟩,U,fI⟩⟩
  |now=>exact⟨K,R.le (io k),⟨we,U,K.get _⟩⟩
  |
   take left o=>
   obtain⟨h1,h2,aN,bA,d3⟩:=Y;have g:=AE (b:=B.b+1) (n:=B.n) K h1;simp only[leftOf]at U;cases d:(dC (B.b+1) B.n L o).over with
   |
    false=>
    have e:nY B L w MP=(lp (B.b+1) B.n L o,w,VE):=by simp only[nY,d,e2,eI]
    rw[e];have T:(dC (B.b+1) B.n L o).out=0:=MQ;exact⟨yp K h1,R.le (io k),⟨λ_=>⟨⟨g,T,VT aN,bA,d3⟩,rfl,rfl⟩,U,fI⟩⟩
   |
    true=>
    by_cases g3:(dC (B.b+1) B.n L o).out=1
    . have e:nY B L w MP=(lp (B.b+1) B.n L o,lO (dC (B.b+1) B.n L o).value w,VG):=by simp only[nY,d,fu,g3]
      rw[e];have aO:=VH (dC (B.b+1) B.n L o).value w;have ai:=am9 (dC (B.b+1) B.n L o).value w;have aw:=anb (dC (B.b+1) B.n L o).value w;have u:=R.now;have f:=R.seq;obtain⟨a,b⟩:=VV (left:=left -1) ad (w:=lO (dC (B.b+1) B.n L o).value w) (by rw[aO];omega);refine⟨yp K h1,⟨ana _ R.ok,by rw[aO];omega,by show(lO (dC (B.b+1) B.n L o).value w).seq+k<_;omega⟩,⟨λ_=>⟨a,rfl,rfl⟩,?_,fI⟩⟩;simp only[eZ];rw[b];omega
    . have e:nY B L w MP=(lp (B.b+1) B.n L o,w,VF):=by simp only[nY,d,fu,g3,eI]
      rw[e];refine⟨yp K h1,R.le (io k),⟨λ_=>⟨⟨by omega,by have:=R.now;omega⟩,rfl,rfl⟩,?_,fI⟩⟩;simp only[leftOf];omega
  |
   tick v=>
   exact⟨K.set _ _ Y,⟨R.ok.tick,by have:=R.now;show w.now+1+k<_;omega,by have:=R.seq;show w.seq+k<_;omega⟩,⟨we,U,fI⟩⟩
theorem ane{id d:Int}(cy:0<=id):tr (q4 id d):=by
 have fI:(0:Int)<=0/\(0:Int)<=18446744073709551615:=bw;unfold q4;split
 . exact⟨we,by decide,fI⟩
 . rename_i h
   exact VW
theorem anf{id:Int}(cy:0<=id):tr (rU id):=by
 have fI:(0:Int)<=0/\(0:Int)<=18446744073709551615:=bw;unfold rU;split
 . exact⟨we,by decide,fI⟩
 . exact VW
def ang:tr o2:=⟨λ_=>⟨trivial,rfl,rfl⟩,by decide,by decide⟩
def anh{B:kZ}(h:B.n<=64){w:gm}(aO:w.now<3000000000000000000):tr (uv B w):=by
 obtain⟨a,b⟩:=VV h aO;exact⟨λ_=>⟨a,rfl,rfl⟩,by show 0+0+leftOf (pE B.n w)<=64;omega,(show(0:Int)<=0/\(0:Int)<=18446744073709551615 by decide)⟩
end
end Go.L.ej
namespace Go.L.Led
open Go.L
section
variable(r:List (Int×Int))(z v:Value)(id w:Int)(cs:List Int)(k:Nat)(x:Int)
abbrev j2:Value:=.int .i64 x
abbrev rj:Value:=.int .u64 x
def Yx(h:k<cs.length):(z::v::cs.map j2)[2+k*1]?=some (j2 (cs.getD k 0)):=by
 rw[show 2+k*1=k+1+1 by omega];simp[iW,cD h]
def Yy:(z::v::cs.map j2).set (2+k*1) (j2 x)=z::v::(cs.set k x).map j2:=by
 rw[show 2+k*1=k+1+1 by omega];simp[tA]
def bump(d:Int):List Int:=cs.set k (IntKind.i64.wrap (cs.getD k 0+d))
def bm:Int:=(dR r id).getD 0
def tB:Nat:=(r.filter λq=>decide (q.2=w)).length
def aw:Bool:=decide (1<=w/\w<=6)
def du(j:Int):List (Int×Int):=if aw (bm r id)then ew r id j else r
def Bd:Int:=if aw (bm r id)then 0 else 2
def dH:List (Int×Int):=if aw w then du r id w else r
def Oi:Int:=if aw w then Bd r id else 1
def dW:List (Int×Int):=if aw w/\bm r id=0 then r++[(id,w)]else r
def H4:Int:=if aw w then(if bm r id=0 then 0 else 3)else 1
structure kO(r:List (Int×Int)):Prop where
 nd:(r.map (·.1)).Nodup
 jr:∀q∈r,1<=q.2/\q.2<=8
structure sg(r:List (Int×Int))(cs:List Int):Prop where
 len:cs.length=9
 zero:cs.getD 0 0=-(r.length:Int)
 jf:∀w:Nat,1<=w->w<9->cs.getD w 0=tB r w
end
section
variable(cs:List Int){r:List (Int×Int)}(k j:Nat){id w x:Int}(d:Int)
theorem aqh(h:dR r id=some x):(id,x)∈r:=by
 induction r with
 |nil=>cases h
 |
  cons q r L=>
  simp only[dR]at h;split at h
  . rename_i e;cases h;rw[e];exact Om
  . exact H8 _ (L h)
theorem aqi(h:dR r id=none):id∉r.map (·.1):=by
 induction r with
 |nil=>simp
 |
  cons q r L=>
  simp only[dR]at h;split at h
  . cases h
  . rename_i e;simp only[gx,ky,not_or];exact⟨e,L h⟩
theorem aqg(h:dR r id=none):ew r id w=r++[(id,w)]:=by
 induction r with
 |nil=>rfl
 |
  cons q r L=>
  simp only[dR]at h;split at h
  . cases h
  . rename_i e;simp[ew,e,L h]
theorem Od(h:dR r id=some x):(ew r id w).map (·.1)=r.map (·.1):=by
 induction r with
 |nil=>cases h
 |
  cons q r L=>
  simp only[dR]at h;simp only[ew];split at h
  . rename_i e;simp[e]
  . rename_i e;simp[e,L h]
theorem Oh(h:dR r id=some x):(ew r id w).length=r.length:=by
 have:=congrArg List.length (Od (w:=w) h);simpa using this
theorem aqj:∀q∈ew r id w,q∈r\/q=(id,w):=by
 induction r with
 |nil=>intro q h;simp[ew]at h;exact .inr h
 |
  cons p r L=>
  intro q h;simp only[ew]at h;split at h
  . rcases ky.1 h with h|h
    . exact .inr h
    . exact .inl (H8 _ h)
  . rcases ky.1 h with h|h
    . exact .inl (h▸Om)
    . exact(L q h).imp (H8 _) (λh=>h)
def H9(q:Int×Int)(r:List sh)(w:Int):tB (q::r) w=(if q.2=w then 1 else 0)+tB r w:=by
 unfold tB;rw[On];by_cases h:q.2=w<;>simp[h];omega
theorem aqk(h:dR r id=some x)(y:Int):(tB (ew r id w) y:Int)=tB r y -(if x=y then 1 else 0)+(if w=y then 1 else 0):=by
 induction r with
 |nil=>cases h
 |
  cons q r L=>
  simp only[dR]at h;simp only[ew];split at h
  . rename_i e;cases h
    rw[bg e,H9,H9];split<;>split<;>simp_all<;>omega
  . rename_i e
    rw[a7 e,H9,H9];have:=L h;split<;>simp_all<;>omega
def aql(r:List sh)(w:Int):tB r w<=r.length:=qm _ _
theorem aqm(r:List (Int×Int))(id w y:Int):tB (r++[(id,w)]) y=tB r y+if w=y then 1 else 0:=by
 unfold tB;rw[yS,eZ];by_cases h:w=y<;>simp[h]
def aqn(x:Int)(h:k<cs.length):(cs.set k x).getD j 0=if j=k then x else cs.getD j 0:=by
 simp only[iW,Yn];by_cases e:k=j
 . subst e;simp[h]
 . rw[a7 e,a7 (Ne.symm e)]
def Ia(h:k<cs.length)(aA:-9223372036854775808<=cs.getD k 0+d/\cs.getD k 0+d<=9223372036854775807):(bump cs k d).getD j 0=cs.getD j 0+if j=k then d else 0:=by
 unfold bump;rw[aqn _ _ _ _ h,jz aA];by_cases e:j=k
 . subst e;simp
 . simp[e]
def Ib:(bump cs k d).length=cs.length:=by simp[bump]
theorem sg.move{cs:List Int}(l:sg r cs){id:Int}{k j:Nat}(hk:dR r id=some (k:Int))(mt:1<=k)(a:k<9)(g:1<=j)(O:j<9)(aF:r.length<=1099511627776):sg (ew r id j) (bump (bump cs k (-1)) j 1):=by
 refine YI ?_;intro bi;have ar:∀w,(bump cs k (-1)).getD w 0=cs.getD w 0+if w=k then-1 else 0:=λw=>Ia _ _ _ _ (by rw[l.len];exact a) (by have:=bi k a;omega)
 have V:∀w,(bump (bump cs k (-1)) j 1).getD w 0=(bump cs k (-1)).getD w 0+if w=j then 1 else 0:=λw=>Ia _ _ _ _ (by rw[Ib,l.len];exact O) YJ
 refine⟨by simp[Ib,l.len],?_,λw h1 p=>?_⟩
 . rw[V,ar,l.zero,Oh hk];rw[a7 ad,a7 ad];omega
 . rw[V,ar,l.jf w h1 p,aqk hk]
   have aC:((k:Int)=(w:Int))↔w=k:=ad;have aV:((j:Int)=(w:Int))↔w=j:=ad;simp only[aC,aV];split<;>split<;>omega
theorem sg.accept{cs:List Int}(l:sg r cs){id:Int}{j:Nat}(g:1<=j)(O:j<9)(aF:r.length<=1099511627776):sg (r++[(id,(j:Int))]) (bump (bump cs 0 (-1)) j 1):=by
 refine YI ?_;intro bi;have ar:∀w,(bump cs 0 (-1)).getD w 0=cs.getD w 0+if w=0 then-1 else 0:=λw=>Ia _ _ _ _ (by rw[l.len];omega) (by have:=bi 0 (by omega);omega)
 have V:∀w,(bump (bump cs 0 (-1)) j 1).getD w 0=(bump cs 0 (-1)).getD w 0+if w=j then 1 else 0:=λw=>Ia _ _ _ _ (by rw[Ib,l.len];exact O) YJ
 refine⟨by simp[Ib,l.len],?_,λw h1 p=>?_⟩
 . rw[V,ar,l.zero];rw[bg rfl,a7 ad];simp;omega
 . rw[V,ar,l.jf w h1 p,aqm]
   have aV:((j:Int)=(w:Int))↔w=j:=ad;simp only[aV];rw[a7 ad];split<;>omega
theorem kO.akY(h:kO r){id:Int}:bm r id=0↔dR r id=none:=by
 unfold Led.bm;constructor
 . intro e
   cases bf:dR r id with
   |none=>rfl
   |some x=>rw[bf]at e;have:=h.jr _ (aqh bf);simp at e this;omega
 . intro e;rw[e];rfl
theorem kO.put(h:kO r){id w x:Int}(bf:dR r id=some x)(R:1<=w/\w<=8):kO (ew r id w):=
 ⟨by rw[Od bf];exact h.nd,λq bt=>by rcases aqj q bt with bt|rfl;exact h.jr q bt;exact R⟩
theorem kO.snoc(h:kO r){id w:Int}(bf:dR r id=none)(R:1<=w/\w<=8):kO (r++[(id,w)]):=
 ⟨by
  rw[oY,List.nodup_append];refine⟨h.nd,by simp,λa aX b aA e=>?_⟩;simp at aA;subst aA;subst e;exact aqi bf aX,λq bt=>by
  rcases kX.1 bt with bt|bt
  . exact h.jr q bt
  . simp at bt;subst bt;exact R⟩
def tz:aw w=true↔1<=w/\w<=6:=by simp[aw]
theorem kO.from(h:kO r){id j:Int}(O:1<=j/\j<=8):kO (du r id j):=by
 unfold du;split
 . rename_i co
   cases bf:dR r id with
   |none=>rw[tz]at co;simp[Led.bm,bf]at co
   |some x=>exact h.put bf O
 . exact h
theorem kO.FV(h:kO r){id w:Int}:kO (dH r id w):=by
 unfold dH;split
 . rename_i co;rw[tz]at co;exact h.from ⟨co.1,by omega⟩
 . exact h
theorem kO.acc(h:kO r){id w:Int}:kO (dW r id w):=by
 unfold dW;split
 . rename_i co;have:=tz.1 co.1;exact h.snoc (h.akY.1 co.2) ⟨this.1,by omega⟩
 . exact h
theorem yT{j:Int}:(du r id j).length=r.length:=by
 unfold du;split
 . rename_i co
   cases bf:dR r id with
   |none=>rw[tz]at co;simp[Led.bm,bf]at co
   |some x=>exact Oh bf
 . rfl
theorem fo:(dH r id w).length=r.length:=by
 unfold dH;split;exact yT;rfl
theorem YK:(dW r id w).length<=r.length+1:=by
 unfold dW;split<;>simp
end
end Go.L.Led
namespace Go.L.Th
open Go.L Go.L.Lx Go.L.Pg Go.L.Ring Go.L.dD Go.L.ej Go.L.Whl Go.L.dP Go.L.Led
structure bO where
 bc:Nat
 cT:Nat
 aT:Nat
 hW:Nat
 dO:Nat
 mB:Nat
 eX:Nat
 iS:Nat
 c6:Nat
def bO.fK(C:bO):Nat:=2*C.aT+8
def bO.bC(C:bO):fT:=⟨2,C.bc,C.eX,C.aT⟩
section
variable(C:bO)
def bO.df:kZ:=⟨2+C.bC.size,C.iS⟩
def bO.bl:Nat:=2+C.bC.size+(3+2*C.iS)
def bO.gS:Nat:=C.bl+C.aT*C.aT
def bO.fh:Nat:=2+(2+2*C.hW)+(2+2*C.fK)
def bO.box(a:Nat):jw:=⟨C.gS+(a -1)*C.fh,C.hW,C.fK⟩
def bO.cells:Nat:=C.gS+C.aT*C.fh
structure bO.ok(C:bO):Prop where
 aG:1<=C.bc
 bQ:C.bc<=8
 h1:1<=C.cT
 bA:C.cT<=4
 cu:1<=C.aT
 hd:C.aT<=16
 m1:1<=C.hW
 m64:C.hW<=64
 pJ:C.dO<=64
 ar:1<=C.mB
 Gt:C.mB<=16
 d1:1<=C.eX
 d64:C.eX<=64
 i1:1<=C.iS
 i64:C.iS<=64
 sQ:C.c6<=64
structure c0 where
 cf:Int
 to:Int
 tag:cG
 n:Int
 pY:Bool
structure dn where
 what:Int
 who:Int
 reason:cG
structure bG where
 kind:Int
 dc:Int
 id:Int
 cf:Int
 to:Int
 name:cG
 n:Int
 why:Int
 kF:Bool
deriving DecidableEq
def cz:bG:=⟨0,0,0,0,0,[],0,0,false⟩
structure dE where
 dO:Bool
 cx:List fF
 state:cG
 stop:Bool
 fail:cG
structure bU where
 id:Nat
 parent:Nat
 kind:cr
 state:cG
 slots:List Int
 kids:List Int
 mode:Int
 aside:List Int
 front:List Int
 given:List (Int×List Int)
 watched:List Int
 cH:List Int
 timers:List (cG×List Int)
inductive b3
 |load(c:Nat)
 |add(c:Nat)(d:Int)
 |fQ(v:Int)
 |post(a:Nat)(p:gz)
 |ht(o:k2)
 |fE(o:gC)
 |ey(o:hx)
inductive e4
 |da(a:Nat)(l:Int)(p:dE)
 |cancel(ids:List Int)
 |leave(due:List Int)
 |push(l:List Int)(what:Int)
 |my(a:Nat)
inductive K
 |nil
 |polled|found|ps|mC
 |run(a:Nat)|iX(a:Nat)|on(a:Nat)|again(a:Nat)
 |next(a left:Nat)|mD(a left:Nat)|settled(a:Nat)
 |ended(a:Nat)(id:Int)(p:dE)(k:K)
 |mE(l:c0)(k:K)
 |hR(a:Nat)(l:c0)(e:fF)(k:K)
 |told(id to:Int)(k:K)
 |lJ(a:Nat)(k:K)
 |mF(a:Nat)(kind:cG)(slot:Nat)(k:K)
 |asked(id:Int)(a:Nat)(e:fF)(k:K)
 |watched(a who:Nat)(k:K)|gone(a who:Nat)(k:K)|nq(x y:Nat)(k:K)
 |alone(a:Nat)(k:K)
 |kI(a:Nat)(n:dn)(k:K)
 |closed(a:Nat)(k:K)|lc(a:Nat)(k:K)|shut(a:Nat)(k:K)|oo(a:Nat)(k:K)|who(a:Nat)(k:K)|parent(a:Nat)(k:K)
 |each(d:e4)(i n:Nat)(k:K)
 |oU(a:Nat)
structure b0 where
 on:Option (b3×K)
 draw:Int
 jj:Bool
structure aq where
 L:List Int
 bm:gm
 aE:List bU
 lets:List c0
 a8:List (Int×Int)
 dead:List (Int×Int×Int)
 notes:List dn
 trace:List bG
 now:Nat
 ticks:Nat
 shut:Bool
 ax:List b0
abbrev most:Nat:=1099511627776
end
section
variable(C:bO)(v:Int)(k:cr)(l:List Int)(j:Nat)(state tag:cG)(g:List (Int×List Int))(x n c:Int)(s:aq)(a:Nat)(id w:Int)
def b3.over:b3->Bool
 |.load _=>false
 |.add _ _=>false
 |.fQ _=>true
 |.post _ p=>p.over
 |.ht o=>o.over
 |.fE o=>o.over
 |.ey o=>o.over
def acc:b3->aq×b3
 |.load c=>(s,.fQ (s.L.getD c 0))
 |.add c d=>({s with L:=s.L.set c (fe (s.L.getD c 0+d))},.fQ (fe (s.L.getD c 0+d)))
 |.fQ v=>(s,.fQ v)
 |.post a p=>({s with L:=pU (C.box a) s.L p},.post a (oQ (C.box a) s.L p))
 |.ht o=>({s with L:=rZ s.L o},.ht (r0 s.L o))
 |.fE o=>({s with L:=nA C.bC s.L o},.fE (lx C.bC s.L o))
 |.ey o=>({s with L:=(jY C.df s.L s.bm o).1,bm:=(jY C.df s.L s.bm o).2.1},.ey (jY C.df s.L s.bm o).2.2)
def K7:gz:=⟨.put false (gi 0 v),0,0⟩
def xB:gz:=⟨.put true (gi 0 v),0,0⟩
def E5:gz:=⟨.ask v,0,0⟩
def mA:gz:=⟨.set v,0,0⟩
def xA:gz:=⟨.of false (gi 5 0),0,0⟩
def Cc:gz:=⟨.of true (gi 5 0),0,0⟩
def zQ:gz:=⟨.of false (gi 14 0),0,0⟩
def xC:gz:=⟨.of false (gi 10 0),0,0⟩
def xv:gz:=⟨.gone,0,0⟩
def E6(held:Bool):gz:=⟨.tQ held,0,0⟩
def iR(e:bG)(s:aq):Option aq:=if s.trace.length<most then some {s with trace:=s.trace++[e]}else none
def kk:Option c0:=if 1<=id then s.lets[(id -1).toNat]?else none
def dM:Option bU:=if 1<=a then s.aE[a -1]?else none
def c8(x:bU):aq:={s with aE:=s.aE.set (a -1) x}
def move:aq:={s with a8:=dH s.a8 id w}
def mz(a w:Int):aq:=if bm s.a8 id=a then move s id w else s
def kill(why:Int)(s:aq):Option aq:=do
 let l<-kk s id
 if s.dead.length<most/\1<=why/\why<=5 then
  iR {cz with kind:=6,id:=id,to:=l.to,why:=why} {s with a8:=du s.a8 id 8,dead:=s.dead++[(id,l.to,why)]}
 else none
def kH(why:Int):List Int->aq->Option aq
 |[],s=>some s
 |id::r,s=>do kH why r (<-kill id why s)
def hs(o:b3)(k:K):Option aq:=do
 let t<-s.ax[j]?
 if t.on.isNone then some {s with ax:=s.ax.set j {t with on:=some (o,k)}}else none
def sleep(b:Bool):Option aq:=do
 let t<-s.ax[j]?
 some {s with ax:=s.ax.set j {t with jj:=b}}
def sM:Option Nat:=if j<C.bc then some j else none
def mem:Bool:=l.contains x
def del:List Int:=l.filter (λy=>decide (y≠x))
def oj:List Int:=if mem l x then l else l++[x]
def gE:List (cG×List Int)->cG->List Int
 |[],_=>[]
 |(k,l)::r,n=>if n=k then l else gE r n
def om:List (cG×List Int)->cG->List (cG×List Int)
 |[],_=>[]
 |(k,l)::r,n=>if n=k then r else(k,l)::om r n
def l7:List (cG×List Int)->cG->Int->List (cG×List Int)
 |[],n,x=>[(n,[x])]
 |(k,l)::r,n,x=>if n=k then(n,l++[x])::r else(k,l)::l7 r n x
def pj:List (Int×List Int)->Int->List (Int×List Int)
 |[],_=>[]
 |(k,l)::r,n=>if n=k then r else(k,l)::pj r n
def lf(P:List cr)(n:cG):Option cr:=P.find? (λk=>decide (k.name=n))
def p1(r:Row):Bool:=decide (r.tag=[])||(decide (r.tag=tag)&&(!r.only||decide (r.n=n)))
def rowOf:Option Row:=do
 let s<-k.states.find? (λs=>decide (s.name=state))
 s.rows.find? (p1 tag n)
def pv(e:fF)(n:Int):Int:=if e.value=0 then n else if e.value=1 then(if n<1 then 0 else n -1)else e.n
def mI(n:Int):Nat->List fF->dE->dE
 |_,[],p=>p
 |
  i,e::r,p=>
  if e.do'=4 then(if i=0 then⟨true,[],p.state,false,[]⟩else mI n (i+1) r p)
  else if e.do'=3 then mI n (i+1) r {p with state:=e.name}
  else if e.do'=11 then{p with stop:=true}
  else if e.do'=12 then{p with fail:=e.name}
  else if e.do'=1\/e.do'=8 then mI n (i+1) r {p with cx:=p.cx++[{e with n:=pv e n,value:=2}]}
  else mI n (i+1) r {p with cx:=p.cx++[e]}
def kU:dE:=
 match rowOf k state tag n with
 |none=>⟨false,[],state,false,[]⟩
 |some r=>mI n 0 r.cx ⟨false,[],state,false,[]⟩
def nt(s:cG):Option Nat:=if s=[97]then some 0 else if s=[98]then some 1 else if s=[99]then some 2 else if s=[100]then some 3 else none
def hj(ref:cG)(self b parent:Int)(slots:List Int):Int:=
 if ref=[115,101,108,102]then self else if ref=[115,101,110,100,101,114]then b else if ref=[112,97,114,101,110,116]then parent
 else match nt ref with
  |some i=>slots.getD i 0
  |none=>0
def direct(reason:cG):Int:=
 match k.cases.find? (λc=>decide (c.reason=reason))with
 |some c=>c.do'
 |
  none=>match k.cases.find? (λc=>decide (c.reason=[]))with
  |some c=>c.do'
  |none=>3
def qH:Int:=(x+9223372036854775808)%18446744073709551616 -9223372036854775808
def gV:Int:=min (max n 0) 1099511627776
def dY:List Int:=(dR g c).getD []
def Sx(now:Int):Int:=
 max (min (max k.limit 0) 100 -(((dY g c).filter (λt=>!decide (t<=gV now -min (max k.within 1) 4095))).length:Int)) 0
end
section
variable(C:bO)(P:List cr)(g:aq->b3->K->Option aq)(j:Nat)
section
variable(s:aq)(r:b3)(d:e4)(a i:Nat)(n:dn)(l:c0)(id:Int)(e:fF)(cancel:aq->List Int->K->Option aq)(k:K)
def dN:b3:=.fQ 0
def pr:Option aq:=
 match r with
 |.post _ p=>if p.out=7\/p.out=8 then hs j s (.fE (wu C.bC (sM C j) a)) k else g s dN k
 |_=>none
def tY:Option aq:=do
 let l<-kk s id
 if l.to=0 then g (<-kill id 3 s) dN k
 else if 1<=l.to/\l.to<=C.aT then hs j s (.post l.to.toNat (K7 id)) (.told id l.to k)else none
def B9:Option aq:=hs j s (.add 0 1) (.mE l k)
def sN:Option aq:=
 if s.notes.length<most/\1<=a/\a<=C.aT then hs j {s with notes:=s.notes++[n]} (.post a (xB s.notes.length)) (.lJ a k)else none
def xw(x y:Nat)(k:K):Option aq:=
 if 1<=x/\x<=C.aT/\1<=y/\y<=C.aT then hs j s (.ht (ml 4 (kM C.bl C.aT x y))) (.nq x y k)else none
def K6:Option aq:=hs j s (.ey (q4 id e.vn)) (.asked id a e k)
def zN:Option aq:=do
 let x<-dM s a
 if x.mode=5 then some s else hs j s (.post a (E6 (!decide (x.mode=1)))) (.settled a)
def Cb:Option aq:=hs j s (.post a Cc) (.iX a)
def Cd(who:Nat)(k:K):Option aq:=do
 let x<-dM s a
 if 1<=who/\who<=C.aT then hs j (c8 s a {x with watched:=oj x.watched who}) (.ht (ml 0 (kM C.bl C.aT a who))) (.watched a who k)else none
def Ce:Option aq:=do
 let x<-dM s a
 some (c8 (x.aside.foldl (λs id=>move s id 4) s) a {x with front:=x.front++x.aside.reverse,aside:=[]})
def zO(x:bU)(e:fF)(b who:Int)(slot:Nat)(cancel:aq->List Int->K->Option aq)(k:K):Option aq:=
 if e.do'=1 then B9 j s ⟨a,who,e.name,e.n,false⟩ k
 else if e.do'=2 then hs j s (.add 1 1) (.mF a e.name slot k)
 else if e.do'=10 then g (c8 s a {x with slots:=x.slots.set slot b}) dN k
 else if e.do'=5 then(Ce s a).bind λs=>g s dN k
 else if e.do'=8 then hs j s (.add 0 1) (.hR a ⟨a,a,e.name,e.n,false⟩ e k)
 else if e.do'=9 then cancel (c8 s a {x with timers:=om x.timers e.name}) (gE x.timers e.name) k
 else if e.do'=6\/e.do'=7 then
  if who=0\/who=a then g s dN k
  else if e.do'=6 then Cd C j s a who.toNat k
  else if 1<=who/\who<=C.aT then hs j (c8 s a {x with watched:=x.watched.erase who}) (.ht (ml 2 (kM C.bl C.aT a who.toNat))) k else none
 else none
def E8:Option aq:=do
 let x<-dM s a
 zO C g j s a x e (max l.cf 0) (hj e.ref a (max l.cf 0) x.parent x.slots) ((nt e.slot).getD 0) cancel k
def nM(zP:aq->List Int->K->Option aq)(s:aq)(d:e4)(i:Nat)(k:K):Option aq:=
 match d with
 |.da a id p=>do E8 C g j s a (<-kk s id) (<-p.cx[i]?) zP k
 |.cancel ids=>do hs j s (.ey (rU (<-ids[i]?))) k
 |.leave due=>do tY C g j s (<-due[i]?) k
 |.push l what=>do sN C j s (<-l[i]?).toNat ⟨what,0,[]⟩ k
 |.my a=>if i+1=a then g s dN k else xw C j s (i+1) a k
def E9(n:Nat)(k:K):Option aq:=
 if i=n then g s dN k else nM C g j (λ_ _ _=>none) s d i (.each d i n k)
def zP(ids:List Int)(k:K):Option aq:=E9 C g j s (.cancel ids) 0 ids.length k
def nN(n:Nat)(k:K):Option aq:=
 if i=n then g s dN k else nM C g j (zP C g j) s d i (.each d i n k)
def xx(l:List Int)(what:Int)(k:K):Option aq:=nN C g j s (.push l what) 0 l.length k
def sO:Option aq:=do
 let x<-dM s a
 if x.mode=4\/x.mode=5 then g s dN k
 else xx C g j (<-iR {cz with kind:=13,dc:=a} (c8 s a {x with mode:=4})) x.kids 0 (.alone a k)
def tZ(reason:cG)(k:K):Option aq:=do
 let x<-dM s a
 let s<-iR {cz with kind:=9,dc:=a,name:=reason} (c8 s a {x with mode:=2})
 if x.parent=0 then sO C g j s a k else sN C j s x.parent ⟨1,a,reason⟩ k
def Fb:Option aq:=do
 let x<-dM s a
 let s<-kH 2 (x.front.reverse++x.aside) (c8 s a {x with front:=[],aside:=[]})
 hs j s (.post a zQ) (.closed a k)
def rC:Option aq:=do
 let x<-dM s a
 if x.kids≠[]then g s dN k
 else if x.mode=4 then Fb j s a k
 else if x.mode=3 then do
  let st<-x.kind.states[0]?
  let s<-Ce (c8 s a {x with state:=st.name,slots:=[0,0,0,0],cH:=[]}) a
  let x<-dM s a
  g (<-iR {cz with kind:=12,dc:=a} (c8 s a {x with mode:=1})) dN k
 else g s dN k
def rD(d:Int)(k:K):Option aq:=do
 let s<-iR {cz with kind:=10,dc:=n.who,cf:=a,why:=d,name:=n.reason} s
 if d=1 then sN C j s n.who.toNat ⟨2,0,[]⟩ k
 else if d=2 then sN C j s n.who.toNat ⟨3,0,[]⟩ k
 else if d=3 then sN C j s n.who.toNat ⟨0,0,[]⟩ k
 else do
  let x<-dM s a
  let s:=c8 s a {x with cH:=oj x.cH n.who}
  if x.mode=1 then tZ C g j s a n.reason k else g s dN k
def xy:Option aq:=do
 let x<-dM s a
 if !mem x.kids n.who\/x.mode=3\/x.mode=4 then g s dN k
 else if direct x.kind n.reason≠2 then rD C g j s a n (direct x.kind n.reason) k
 else hs j s (.ey o2) (.kI a n k)
def vA:Option aq:=do
 let x<-dM s a
 if n.what=0 then sO C g j s a k
 else if n.what=1 then xy C g j s a n k
 else if n.what=2 then
  if x.mode≠2 then g s dN k
  else xx C g j (<-iR {cz with kind:=11,dc:=a} (c8 s a {x with mode:=1,cH:=[]})) x.cH 2 k
 else if n.what=3 then
  if x.mode≠2 then g s dN k else xx C g j (c8 s a {x with mode:=3}) x.kids 0 (.alone a k)
 else if n.what=4 then
  rC g j (c8 s a {x with kids:=del x.kids n.who,cH:=del x.cH n.who,given:=pj x.given n.who}) a k
 else none
def sP:Option aq:=do
 let x<-dM s a
 let l<-kk s id
 if l.pY=true/\mem x.watched l.cf=false then g (<-kill id 5 s) dN k
 else
  let p:=kU x.kind x.state l.tag l.n
  if p.dO then
   if C.dO<=x.aside.length then g (<-kill id 1 s) dN k
   else g (<-iR {cz with kind:=5,dc:=a,id:=id} (move (c8 s a {x with aside:=x.aside++[id]}) id 3)) dN k
  else do
   let s<-iR {cz with kind:=3,dc:=a,id:=id} {s with a8:=du s.a8 id 7}
   nN C g j (c8 s a (if l.pY then{x with watched:=x.watched.erase l.cf}else x)) (.da a id p) 0 p.cx.length (.ended a id p k)
def rE(left:Nat):Option aq:=do
 let x<-dM s a
 if x.mode≠1 then zN j s a
 else if left=0 then hs j s (.post a (mA 1)) (.again a)
 else match x.front.getLast? with
  |some id=>sP C g j (c8 s a {x with front:=x.front.dropLast}) a id (.next a left)
  |none=>hs j s (.post a xA) (.mD a left)
def vB(id parent:Nat)(kind:cG):Option aq:=do
 let k<-lf P kind
 let st<-k.states[0]?
 if id=s.aE.length+1/\id<=C.aT then
  let x:bU:=⟨id,parent,k,st.name,[0,0,0,0],[],1,[],[],[],[],[],[]⟩
  let s:={s with aE:=(match dM s parent with
   |some u=>s.aE.set (parent -1) {u with kids:=u.kids++[(id:Int)]}
   |none=>s.aE)++[x]}
  iR {cz with kind:=7,dc:=id,cf:=parent,name:=kind} s
 else none
def xz(v:Int):Option aq:=if 1<=v/\v<=s.aE.length then hs j s (.post v.toNat (mA 2)) (.run v.toNat)else none
def enter(kF:Bool)(r:b3):Option (aq×Int):=
 match r with
 |.fQ v=>if v=((s.lets.length+1:Nat):Int)/\s.lets.length<most then
  (iR {cz with kind:=2,id:=v,cf:=l.cf,to:=l.to,name:=l.tag,n:=l.n,kF:=kF} {s with lets:=s.lets++[l],a8:=dW s.a8 v 1}).map (·,v)else none
 |_=>none
def dF:K->Option aq
 |.nil=>some s
 |
  .polled=>match r with
  |.fE c=>sleep j s (!decide (c.out=1))
  |_=>none
 |
  .found=>match r with
  |.fE c=>if c.out=1 then xz j s c.val else hs j s (.fE (yx j)) .ps
  |_=>none
 |
  .ps=>match r with
  |.fE c=>if c.out=1 then xz j s c.val else sleep j s true
  |_=>none
 |
  .mC=>match r with
  |
   .ey c=>do
   let s<-iR {cz with kind:=15,n:=((s.now+1:Nat):Int)} {s with now:=s.now+1}
   let s<-kH 1 c.ref s
   let s<-kH 4 c.cut s
   let s:=(s.bm.T.map (·.id)).foldl (λs id=>mz s id 5 6) s
   let s:=c.due.foldl (λs id=>move s id 1) s
   nN C g j s (.leave c.due) 0 c.due.length .nil
  |_=>none
 |.run a=>Cb j s a
 |
  .iX a=>match r with
  |.post _ p=>if p.out≠1 then rE C g j s a C.mB else do vA C g j s a (<-s.notes[p.val.toNat]?) (.on a)
  |_=>none
 |.on a=>do if(<-dM s a).mode≠5 then Cb j s a else some s
 |.again a=>hs j s (.fE (wu C.bC (sM C j) a)) .nil
 |.next a left=>rE C g j s a (left -1)
 |
  .mD a left=>match r with
  |.post _ p=>if p.out≠1 then zN j s a else sP C g j s a p.val (.next a left)
  |_=>none
 |.settled a=>pr C g j s r a .nil
 |
  .ended a id p k=>do
  let x<-dM s a
  let s<-iR {cz with kind:=4,dc:=a,id:=id,name:=p.state} (c8 s a {x with state:=p.state})
  if p.stop then sO C g j s a k else if p.fail≠[]then tZ C g j s a p.fail k else g s dN k
 |
  .mE l k=>do
  let(s,id)<-enter s l false r
  tY C g j s id k
 |
  .hR a l e k=>do
  let(s,id)<-enter s l true r
  K6 j s a id e k
 |
  .told id to k=>match r with
  |
   .post _ p=>
   if p.out=2 then do g (<-kill id 1 s) dN k
   else if p.out=3 then do g (<-kill id 2 s) dN k
   else pr C g j (mz s id 1 2) r to.toNat k
  |_=>none
 |.lJ a k=>pr C g j s r a k
 |
  .mF a kind slot k=>match r with
  |
   .fQ v=>do
   let(s,m)<-if(C.aT:Int)<v then(iR {cz with kind:=8,dc:=a,name:=kind} s).map (·,(0:Int))else(vB C P s v.toNat a kind).map (·,v)
   let x<-dM s a
   g (c8 s a {x with slots:=x.slots.set slot m}) dN k
  |_=>none
 |
  .asked id a e k=>match r with
  |
   .ey c=>
   if c.out=2 then do g (<-kill id 1 s) dN k
   else do
    let s:=mz s id 1 5
    let x<-dM s a
    g (c8 s a {x with timers:=l7 x.timers e.name id}) dN k
  |_=>none
 |.watched a who k=>hs j s (.post who xv) (.gone a who k)
 |
  .gone a who k=>match r with
  |.post _ p=>if p.out≠1 then g s dN k else xw C j s a who k
  |_=>none
 |
  .nq x y k=>match r with
  |.ht o=>if o.out≠1 then g s dN k else B9 j s ⟨y,x,[103,111,110,101],0,true⟩ k
  |_=>none
 |.alone a k=>rC g j s a k
 |
  .kI a n k=>match r with
  |
   .ey c=>do
   let x<-dM s a
   if Sx x.kind x.given n.who (qH c.val)=0 then rD C g j s a n 3 k
   else rD C g j (c8 s a {x with given:=ew x.given n.who (dY x.given n.who++[gV (qH c.val)])}) a n 2 k
  |_=>none
 |.closed a k=>hs j s (.post a xC) (.lc a (.shut a k))
 |
  .lc a k=>match r with
  |
   .post _ p=>
   if p.out=5 then g s dN k
   else do
    let s<-if p.out=1 then kill p.val 2 s else some s
    hs j s (.post a xC) (.lc a k)
  |_=>none
 |.shut a k=>hs j s (.post a (mA 4)) (.oo a k)
 |
  .oo a k=>do
  let x<-dM s a
  hs j (<-iR {cz with kind:=14,dc:=a} (c8 s a {x with mode:=5})) (.load 1) (.who a k)
 |
  .who a k=>match r with
  |.fQ v=>if v<4611686018427387904 then nN C g j s (.my a) 0 (min v.toNat C.aT) (.parent a k)else none
  |_=>none
 |
  .parent a k=>do
  let x<-dM s a
  if x.parent=0 then g s dN k else sN C j s x.parent ⟨4,a,[]⟩ k
 |.each d i n k=>nN C g j s d (i+1) n k
 |.oU a=>pr C g j s r a .nil
end
end
section
variable(C:bO)(P:List cr)(j:Nat)(s:aq)
def go(C:bO)(P:List cr):Nat->Nat->aq->b3->K->Option aq
 |0,_,_,_,_=>none
 |n+1,j,s,r,k=>dF C P (go C P n j) j s r k
abbrev zA:Nat:=1000000
def e5:Option aq:=do
 let t<-s.ax[j]?
 if t.jj then hs j s (.fE (Dr j)) .polled else hs j s (.fE (yw C.bC j t.draw.toNat)) .found
def fj:Option aq:=hs j {s with ticks:=s.ticks -1} (.ey (uv C.df s.bm)) .mC
def eG:Option aq:=do
 let t<-s.ax[j]?
 let(o,k)<-t.on
 let(s,o):=acc C s o
 if o.over then go C P zA j {s with ax:=s.ax.set j {t with on:=none}} o k
 else some {s with ax:=s.ax.set j {t with on:=some (o,k)}}
def busy(j:Nat):Bool:=((s.ax[j]?).bind (·.on)).isSome
def stepT(a:aq->Option aq)(j:Nat)(s:aq):Option aq:=
 if busy s j then eG C P j s else do eG C P j (<-a s)
structure dA where
 kind:Int
 a:Int
 b:Int
 tag:cG
 n:Int
def quiet:Bool:=
 (List.range C.cT).all (λi=>!busy s (C.bc+i))&&!busy s (C.bc+C.cT)&&decide (s.ticks=0)&&
 (List.range C.bc).all (λi=>!busy s i&&((s.ax[i]?).map (·.jj)).getD false&&!decide (s.L.getD (2+i) 0=0))
def zR:Option (aq×Bool):=
 if !busy s (C.bc+C.cT)/\s.ticks=0 then some (s,false)
 else(stepT C P (fj C (C.bc+C.cT)) (C.bc+C.cT) s).map (·,true)
def ask(a:Nat):Option aq:=
 if s.notes.length<most/\1<=a/\a<=C.aT then hs j {s with notes:=s.notes++[⟨0,0,[]⟩]} (.post a (E5 s.notes.length)) (.oU a)else none
def hand(e:dA):Option (aq×Bool):=
 if e.a<0\/(C.cT:Int)<=e.a then some (s,false)
 else
  let j:=C.bc+e.a.toNat
  let gone:=s.shut||!decide (1<=e.b/\e.b<=s.aE.length)
  if e.kind=2 then(if busy s j then(eG C P j s).map (·,true)else some (s,false))
  else if busy s j then some (s,false)
  else if e.kind=4 then
   if !mc e.tag\/e.n<0\/255<e.n then some (s,false)
   else if gone then(iR {cz with kind:=1,cf:=-1 -e.a,to:=e.b,name:=e.tag,n:=e.n} s).map (·,true)
   else(B9 j s ⟨-1 -e.a,e.b,e.tag,e.n,false⟩ .nil).map (·,true)
  else if e.kind=5 then
   if gone then(iR {cz with kind:=1,cf:=-1 -e.a,to:=e.b} s).map (·,true)
   else(ask C j s e.b.toNat).map (·,true)
  else if e.kind=7/\s.shut=false then(ask C j {s with shut:=true} 1).map (·,true)
  else some (s,false)
def nO(e:dA):Option (aq×Bool):=
 if e.kind=1 then
  if e.a<0\/(C.bc:Int)<=e.a then some (s,false)
  else do
   let t<-s.ax[e.a.toNat]?
   let s:={s with ax:=s.ax.set e.a.toNat {t with draw:=fe e.n}}
   (stepT C P (e5 C e.a.toNat) e.a.toNat s).map (·,true)
 else if e.kind=3 then zR C P s
 else if e.kind=6 then(if 64<=s.ticks then some (s,false)else some ({s with ticks:=s.ticks+1},true))
 else hand C P s e
def sR(f:Nat->aq->Option aq):List Nat->aq->Option aq
 |[],s=>some s
 |i::r,s=>do sR f r (<-f i s)
def round:Option aq:=do
 let s<-sR (λj s=>stepT C P (e5 C j) j s) (List.range C.bc) s
 let s<-sR (λi s=>if busy s (C.bc+i)then eG C P (C.bc+i) s else some s) (List.range C.cT) s
 (zR C P s).map (·.1)
def rest(C:bO)(P:List cr):Nat->aq->Option (aq×Bool)
 |0,s=>some (s,quiet C s)
 |n+1,s=>if quiet C s then some (s,true)else do rest C P n (<-round C P s)
def start:Option aq:=do
 let a:=List.replicate C.cells 0
 let b:=a.set 1 1
 let H:=(List.range C.bc).foldl (λL w=>(L.set (C.bC.cq w) 1).set (C.bC.cq w+1) 1) b
 let k<-P[0]?
 vB C P ⟨H,⟨0,0,[]⟩,[],[],[],[],[],[],0,0,false,List.replicate (C.bc+C.cT+1) ⟨none,0,false⟩⟩ 1 0 k.name
end
end Go.L.Th
namespace Go.Proofs.YtnnhpnccfnghdaaGreat.L
open Go.L Go.L.Lx Go.L.Pg Go.L.Th
attribute[local irreducible] G cJ GE c3 GT b1 dk c7 ds Exit.then Exit.inBlock
abbrev vk:=Int×Option Addr×Nat×List Int
section
variable(x:Int)(q r:Nat)(e:Option Addr×Nat×List Int){A:al}{L:List mb}(F z c now:Int){w:cG}(es:List vk)(g:List (Int×List Int))
abbrev EO:Value:=hE e.1 e.2.1 e.2.2
abbrev ag9:al:=dj e.1 e.2.1 e.2.2
abbrev ng:List (Int×Value):=es.map λp=>(p.1,EO p.2)
abbrev nk:List al:=es.map λp=>ag9 p.2
abbrev lC:List (Int×List Int):=es.map λp=>(p.1,p.2.2.2)
def nJ(r:Nat)(es:List vk):List al:=[aa q 289 [af F,af z,.map (some r)],bs r .i64 (ng es),ao (nk es)]
def gL:al:=dq (bv:=Nat×List vk) (λe=>lC e.2=g) (λe=>nJ q F z e.1 e.2)
instance aB7:gw eK A 0 []:=⟨λ_=>.inl ⟨rfl,rfl,rfl⟩⟩
def Rw{z:Type}:∀{es:List (Int×z)} {c:Int} {v:z},dR es c=some v->∃i,es[i]?=some (c,v)/\∀w,ew es c w=es.set i (c,w)
 |
  (j,u)::r,c,v,h=>by
  simp only[dR]at h;split at h
  . rename_i e;cases h;subst e;exact⟨0,rfl,λw=>by simp[ew]⟩
  . rename_i e
    obtain⟨i,h1,h2⟩:=Rw h;exact⟨i+1,h1,λw=>by simp[ew,e,h2 w]⟩
def Rx{z:Type}:∀{es:List (Int×z)} {c:Int},dR es c=none->∀w,ew es c w=es++[(c,w)]
 |[],c,_,w=>rfl
 |
  (j,u)::r,c,h,w=>by
  simp only[dR]at h;split at h
  . cases h
  . rename_i e;simp[ew,e,Rx h w]
def Ry(c:Int):dY (lC es) c=((dR es c).map (λe=>e.2.2)).getD []:=by
 unfold dY lC;rw[yQ (λe:Option Addr×Nat×List Int=>e.2.2)]
def aha:∀(es:List vk) (c:Int),lC (lV es c)=pj (lC es) c
 |[],c=>rfl
 |
  (j,u)::r,c=>by
  simp only[lV,lC,gx,pj];split
  . rfl
  . simp only[gx];congr 1;exact aha r c
def ahb:∀(es:List vk) (c:Int),lV (ng es) c=ng (lV es c)
 |[],c=>rfl
 |
  (j,u)::r,c=>by
  simp only[lV,ng,gx];split
  . rfl
  . simp only[gx];congr 1;exact ahb r c
def ahc{D:List al}:∀(es:List vk) (c:Int),∀h,Sat (ao (nk es)::D) h->Sat (ao (nk (lV es c))::D) h
 |[],c,h,s=>s
 |
  (j,u)::r,c,h,s=>by
  simp only[lV];split
  . exact Sat.flat.2 (Sat.drop (Sat.flat.1 s))
  . have s1:Sat (ag9 u::(nk r++D)) h:=Sat.flat.1 s
    exact Sat.flat.2 (Sat.tail (r:=nk r++D) (m:=nk (lV r c)++D) (λh s=>Sat.flat.1 (ahc r c h (Sat.flat.2 s))) s1)
def Sat.LP{B C:al}{D:List al}{h:eQ}(s:Sat (A::B::C::D) h):Sat (B::C::A::D) h:=Sat.tail (r:=A::C::D) (λ_=>Sat.swap) (Sat.swap s)
def Rz{l:List al}{A:al}{i:Nat}{D:List al}(e:l[i]?=some A):∀h,Sat (A::ao (l.set i eJ)::D) h->Sat (ao l::D) h:=λh s=>by
 obtain⟨ak,rfl⟩:=dp.1 e;have:=uO ak h s;rwa[AW]at this
def asq{es:List vk}{c:Int}(h:dR es c=none):dR (lC es) c=none:=by
 unfold lC;rw[yQ (λe:Option Addr×Nat×List Int=>e.2.2),h];rfl
def asr{es:List vk}{c:Int}(h:dR es c=none):dR (ng es) c=none:=by
 unfold ng;rw[yQ EO,h];rfl
def ass{es:List vk}{c:Int}{e:Option Addr×Nat×List Int}(h:dR es c=some e):dR (ng es) c=some (EO e):=by
 unfold ng;rw[yQ EO,h];rfl
def qz(l:List Int)(now:Int):Int:=max (F -((l.filter (λt=>!decide (t<=gV now -z))).length:Int)) 0
def KF:ab E 354 [af x] [] (aH (af (gV x)) []):=by
 refine av Tryz.func354 λH D=>?_;refine bQ ?_;refine aB rfl (s9 (max x 0) ad rfl rfl) ?_;refine aB rfl (ta (gV x) OD rfl rfl) ?_;refine bE ?_;exact aQ cj
def arm:ab E 115 [af F,af z] [] (λu I=>∃q,u=ptr q 0/\I=[gL q (min (max F 0) 100) (min (max z 1) 4095) []]):=by
 refine av Tryz.func115 λH D=>?_;refine bQ ?_;refine aB rfl (s9 (max F 0) ad rfl rfl) ?_;refine aB rfl (ta (min (max F 0) 100) ad rfl rfl) ?_;refine aG ?_;refine aB rfl (s9 (max z 1) ad rfl rfl) ?_;refine aB rfl (ta (min (max z 1) 4095) ad rfl rfl) ?_;refine wn λb=>?_;refine aG ?_;refine wn λf=>?_;refine bE ?_;exact aQ (I:=[gL f (min (max F 0) 100) (min (max z 1) 4095) []]) ⟨f,rfl,rfl⟩ (cE (b,[]) rfl (λh s=>Sat.tail (λh s=>Bh h (Sat.swap (wK h s))) s))
def ahd(bF ho:Nat)(F z now x:Int)(m:Value)(aO:0<=now/\now<=1099511627776)(R:1<=z/\z<=4095):ab E 398 [af x,ptr ho 0,ptr bF 0] PA (aH (.bool (decide (x<=now -z))) PA):=by
 refine av Tryz.func398 λH D=>?_;refine bj ?_;refine cw [] [9] PA ?_;refine bj ?_;refine go_v rfl .none rfl (kl (now -z) (jz ad) rfl rfl) ?_;exact J0
def ast(aw:0<=F/\F<=100)(R:1<=z/\z<=4095)(i:Nat)(a0:Option Addr)(fL:Nat)(l:List Int)(aY:dR es c=some (a0,fL,l))(ak:es[i]?=some (c,a0,fL,l))(u:l.length<=1099511627776):ab E 353 [ptr q 0,af c,af now] (nJ q F z r es) (aH (af (qz F z l now)) (nJ q F z r es)):=by
 refine av Tryz.func353 λH D=>?_;unfold nJ;have g7:0<=gV now/\gV now<=1099511627776:=OD;refine gh ?_;have b:∀l:List Int,l.length<=1099511627776->-9223372036854775808<=F -((l.filter (λx=>!decide (x<=gV now -z))).length:Int)/\F -((l.filter (λx=>!decide (x<=gV now -z))).length:Int)<=9223372036854775807:=λl aw=>Za;have g2:(nk es)[i]?=some (dj a0 fL l):=(by unfold nk;rw[fD,ak];rfl);refine bb ?_;refine wn λay=>?_;refine wn λaR=>?_;refine bj ?_;refine aU (KF now) ?_;refine dh ?_;refine aB rfl (lT (hE a0 fL l) OE rfl rfl) ?_;refine app eP g2 ?_;refine cn rfl (b9 rfl (EP a0 fL l.length (iF l) (dj a0 fL l) (RA l) (RB l) ad) bN) ?_;rintro _ D ⟨_,⟨a,k,rfl,rfl⟩,rfl⟩;refine rL ?_;refine aU (KG l a k 398 [ptr aR 0,ptr ay 0] [aa aR 3 [af (gV now)],aa ay 113 [ptr q 0],aa q 289 [af F,af z,.map (some r)]] (λt=>decide (t<=gV now -z)) u (λx _=>ahd q ay aR F z (gV now) x (.map (some r)) g7 R)) ?_;refine c4 ?_;refine aB rfl (kl (F -((l.filter (λx=>!decide (x<=gV now -z))).length:Int)) (jz (b l u)) rfl rfl) ?_;refine aB rfl (s9 (qz F z l now) (by unfold qz;omega) rfl rfl) ?_;refine bE ?_;exact aQ (I:=(nJ q F z r es)) ⟨rfl,rfl⟩ (by unfold nJ;exact λh s=>Sat.LP (Rz (D:=aa q 289 [af F,af z,.map (some r)]::bs r .i64 (ng es)::D) g2 h ((au) h s)))
def aca(aw:0<=F/\F<=100)(R:1<=z/\z<=4095)(aA:∀p∈es,p.2.2.2.length<=1099511627776):ab E 353 [ptr q 0,af c,af now] (nJ q F z r es) (aH (af (qz F z (dY (lC es) c) now)) (nJ q F z r es)):=by
 rw[Ry];cases aY:dR es c with
 |
  none=>
  refine av Tryz.func353 λH D=>?_;unfold nJ;have g7:0<=gV now/\gV now<=1099511627776:=OD;simp only[ck,ci];have b:∀l:List Int,l.length<=1099511627776->-9223372036854775808<=F -((l.filter (λx=>!decide (x<=gV now -z))).length:Int)/\F -((l.filter (λx=>!decide (x<=gV now -z))).length:Int)<=9223372036854775807:=λl aw=>Za;refine bb ?_;refine wn λay=>?_;refine wn λaR=>?_;refine bj ?_;refine aU (KF now) ?_;refine dh ?_;refine aB rfl (lT (.slice none 0 0) OE rfl rfl) ?_;refine q6 xY ?_;refine cn rfl (b9 rfl (EP none 0 0 [] eJ rfl rfl bw) bN) ?_;rintro _ D ⟨_,⟨a,k,rfl,rfl⟩,rfl⟩
  try simp only[ck,ci]
  refine aG ?_;refine cn rfl (b9 rfl (KG [] a k 398 [ptr aR 0,ptr ay 0] [aa aR 3 [af (gV now)],aa ay 113 [ptr q 0],aa q 289 [af F,af z,.map (some r)]] (λt=>decide (t<=gV now -z)) gl (λx _=>ahd q ay aR F z (gV now) x (.map (some r)) g7 R)) bN) ?_;rintro _ D ⟨_,⟨rfl,rfl⟩,rfl⟩
  try simp only[ck,ci]
  refine c4 ?_;refine aB rfl (kl (F -((([]:List Int).filter (λx=>!decide (x<=gV now -z))).length:Int)) (jz (b ([]:List Int) gl)) rfl rfl) ?_;refine aB rfl (s9 (qz F z ([]:List Int) now) (by unfold qz;omega) rfl rfl) ?_;refine bE ?_;exact aQ (I:=(nJ q F z r es)) ⟨rfl,rfl⟩ (by unfold nJ;exact(au))
 |
  some e=>
  obtain⟨a0,fL,l⟩:=e;obtain⟨i,ak,_⟩:=Rw aY;exact ast q r F z c now es aw R i a0 fL l aY ak (aA _ (jH ak))
def asu(aw:0<=F/\F<=100)(R:1<=z/\z<=4095)(aA:∀p∈es,p.2.2.2.length<=1099511627776)(T:qz F z (dY (lC es) c) now=0):ab E 303 [ptr q 0,af c,af now] (nJ q F z r es) (aH gP [gL q F z (lC es)]):=by
 refine av Tryz.func303 λH D=>?_;refine c4 ?_;refine cn rfl (b9 rfl (aca q r F z c now es aw R aA) wV) ?_;refine gU ?_;refine fC ?_;refine aB rfl acd ?_;refine c4 ?_;exact aQ (I:=[gL q F z (lC es)]) cj (cE (r,es) rfl (au))
def zz(c now:Int):List (Int×List Int):=if qz F z (dY g c) now=0 then g else ew g c (dY g c++[gV now])
def asv(aw:0<=F/\F<=100)(R:1<=z/\z<=4095)(aA:∀p∈g,p.2.length<1099511627776):ab E 303 [ptr q 0,af c,af now] [gL q F z g] (aH (.bool (!decide (qz F z (dY g c) now=0))) [gL q F z (zz F z g c now)]):=by
 refine kC (λe Y=>?_);obtain⟨r,es⟩:=e;replace Y:lC es=g:=Y;subst Y;rw[jb];have L:∀p∈es,p.2.2.2.length<1099511627776:=λp hp=>aA (p.1,p.2.2.2) (lN.2 ⟨p,hp,rfl⟩);have j:∀p∈es,p.2.2.2.length<=1099511627776:=λp hp=>xh (L p hp);unfold zz;by_cases T:qz F z (dY (lC es) c) now=0
 . rw[bg T,lM T];exact asu q r F z c now es aw R j T
 . rw[a7 T,mJ T]
   cases aY:dR es c with
   |
    none=>
    refine av Tryz.func303 λH D=>?_;refine c4 ?_;refine cn rfl ab9 ?_;rintro _ D ⟨_,⟨rfl,rfl⟩,rfl⟩
    try simp only[ck,ci]
    refine aB rfl P5 ?_;refine bj ?_;simp only[nJ,ck,ci];refine nu (jc (e:=3) (aZ:=1)) ?_;refine cw [12,13,14] [111,1,204] ab0 ?_;refine dh ?_;refine go_vs rfl .none rfl (lT eK OE rfl rfl) (au) ?_;refine aG ?_;refine aU (KF now) ?_;refine aG ?_;refine wn λn=>?_;refine aG ?_;refine gj λa b=>?_;refine c4 ?_;exact aQ (I:=[gL q F z (ew (lC es) c (dY (lC es) c++[gV now]))]) ⟨rfl,rfl⟩ (cE (r,es++[(c,a,b,[gV now])]) (by rw[Ry,aY];show lC (es++_)=_;rw[Rx (asq aY)];simp[lC]) (by simp only[nJ];rw[Rx (asr aY),show ng (es++[(c,a,b,[gV now])])=ng es++[(c,hE a b [gV now])]from by simp[ng],show nk (es++[(c,a,b,[gV now])])=nk es++[dj a b [gV now]]from by simp[nk]];exact λh s=>Sat.LP (tw (A:=dj a b [gV now]) (l:=nk es) (D:=aa q 289 [af F,af z,.map (some r)]::bs r .i64 (ng es++[(c,hE a b [gV now])])::D) h ((au) h s))))
   |
    some e=>
    obtain⟨a0,fL,l⟩:=e;obtain⟨i,ak,d⟩:=Rw aY;have u:l.length<1099511627776:=(L _ (jH ak));refine av Tryz.func303 λH D=>?_;have g2:(nk es)[i]?=some (dj a0 fL l):=(by unfold nk;rw[fD,ak];rfl);obtain⟨B,-⟩:=dp.1 ak;refine c4 ?_;refine cn rfl ab9 ?_;rintro _ D ⟨_,⟨rfl,rfl⟩,rfl⟩
    try simp only[ck,ci]
    refine aB rfl P5 ?_;refine bj ?_;simp only[nJ,ck,ci];refine uW eP g2 ?_;refine cw [12,13,14] [111,1,204] ab0 ?_;refine dh ?_;refine go_vs rfl .none rfl (lT (hE a0 fL l) (by rw[ass aY];rfl) rfl rfl) (au) ?_;refine aG ?_;refine aU (KF now) ?_;refine aG ?_;refine wn λn=>?_;refine aG ?_;refine gj λa b=>?_;refine c4 ?_;exact aQ (I:=[gL q F z (ew (lC es) c (dY (lC es) c++[gV now]))]) ⟨rfl,rfl⟩ (cE (r,ew es c (a,b,l++[gV now])) (by rw[Ry,aY];exact(DV (λe:Option Addr×Nat×List Int=>e.2.2) es c (a,b,l++[gV now])).symm) (by simp only[nJ];rw[show ng (ew es c (a,b,l++[gV now]))=ew (ng es) c (hE a b (l++[gV now]))from(DV EO es c (a,b,l++[gV now])).symm,show nk (ew es c (a,b,l++[gV now]))=(nk es).set i (dj a b (l++[gV now]))from by rw[d];simp[nk,tA]];exact λh s=>Sat.LP (uO (A:=dj a b (l++[gV now])) (l:=nk es) (D:=aa q 289 [af F,af z,.map (some r)]::bs r .i64 (ew (ng es) c (hE a b (l++[gV now])))::D) (by simpa[nk]using B) h (by rw[<-asw rfl,show hE a b (l++[gV now])=.slice a (l.length+1) b from by simp[hE]]at*;exact(au) h s))))
def asx:ab E 248 [ptr q 0,af c] [gL q F z g] (aH eN [gL q F z (pj g c)]):=by
 refine av Tryz.func248 λH D=>?_;refine kK eP ?_;rintro⟨r,es⟩ a;replace a:lC es=g:=a;subst a;simp only[nJ,ck,ci];refine bj ?_;refine AY (Ox rfl rfl) ?_;rintro _ _ ⟨rfl,rfl⟩;refine bb ?_;exact aQ (I:=[gL q F z (pj (lC es) c)]) cj (cE (r,lV es c) (aha es c) (by simp only[nJ];rw[ahb];exact λh s=>Sat.LP (ahc (D:=aa q 289 [af F,af z,.map (some r)]::bs r .i64 (ng (lV es c))::D) es c h ((au) h s))))
def asy(aC:Nat)(w:cG)(x:mb):ab E 351 [.agg (jQ x).toArray,ptr aC 0] Ai (aH (.bool (decide (x.reason=w))) Ai):=by
 refine av Tryz.func351 λH D=>?_;exact LV
def asz(h:¬0<=fix (λx:mb=>decide (x.reason=w)) L):L.find? Qk=none:=by
 rw[RC,Bool.not_eq_true,EQ]at h;rw[RD];exact h
def asA(h:0<=fix (λx:mb=>decide (x.reason=w)) L):∃(i:Nat) (x:mb),fix (λx:mb=>decide (x.reason=w)) L=i/\L[i]?=some x/\L.find? Qk=some x:=by
 cases ba:L.find? Qk with
 |none=>rw[aek ba]at h;exact absurd h bw
 |some x=>obtain⟨i,h1,h2,_⟩:=CH ba;exact⟨i,x,h1,h2,rfl⟩
def aqO(k:cr)(reason:cG)(a2:al)[gw Ag a2 k.cases.length vL](aO:k.cases.length<=4611686018427387904):ab E 299 [.agg (eH k).toArray,S reason] [a2] (aH (af (direct k reason)) [a2]):=by
 refine av Tryz.func299 λH D=>?_;refine bb ?_;refine wn λV=>?_;refine ct ?_;refine wn λcA=>?_;refine bE ?_;refine hb (bv:=Nat) (λx=>x<=2/\(1<=x->k.cases.find? (λc=>decide (c.reason=reason))=none)/\(2<=x->k.cases.find? (λc=>decide (c.reason=[]))=none)) (λx=>[(11,af x),(10,af 2),(9,.slice (some ⟨cA,0,none⟩) 2 2),(2,ptr V 0)]) (λ_=>aa cA 9 [S reason,S []]::aa V 78 (eH k)::a2::D) (λx=>2 -x) 0 (⟨by decide,(λh=>by omega),(λh=>by omega)⟩) eb (au) ?_;rintro x ⟨ah,T,m⟩;replace ah:x<=2:=ah;replace T:1<=x->k.cases.find? (λc=>decide (c.reason=reason))=none:=T;replace m:2<=x->k.cases.find? (λc=>decide (c.reason=[]))=none:=m;refine bj ?_;refine ch (λW=>?_) (λW=>?_)
 . obtain⟨w,R,b⟩:∃w,([S reason,S []]:List Value)[x]?=some (S w)/\(x=0/\w=reason\/x=1/\w=[]):=(by rcases(show x=0\/x=1 by omega)with rfl|rfl;exact⟨reason,rfl,.inl cj⟩;exact⟨[],rfl,.inr cj⟩)
   refine bj ?_;refine aB rfl (gf rfl rfl (show x<2 by omega)) ?_;refine aB rfl (gF rfl (by rw[uo];exact R)) ?_;refine wn λaM=>?_;refine bQ ?_;refine aU (asB k.cases k.ca k.kn 351 [ptr aM 0] [a2,aa aM 9 [S w]] (λx=>decide (x.reason=w)) aO (λh s=>je.get s) (λx _=>x0 (asy aM w x))) ?_;refine cB ?_;refine ch (λM=>?_) (λM=>?_)
   . obtain⟨i,kn,d,U,a⟩:=asA M
     rw[d];refine bE ?_;refine aB rfl (gf rfl rfl (dp.1 U).1) ?_;refine aG ?_;refine aB rfl (gF rfl (rK jQ 2 Al U rfl)) ?_;refine dh ?_;exact aQ ⟨by unfold direct;rcases b with⟨rfl,rfl⟩|⟨rfl,rfl⟩;rw[a];rw[T bw,a],rfl⟩
   . have a:=asz (OR.2 M)
     refine C0 ?_;refine gg (x+1) ⟨show x+1<=2 by omega,λ_=>(by rcases b with⟨rfl,rfl⟩|⟨rfl,rfl⟩;exact a;exact T (by decide)),λh=>(by rcases b with⟨rfl,rfl⟩|⟨rfl,rfl⟩;omega;exact a)⟩ (show 2 -(x+1)<2 -x by omega) eb (au)
 . obtain rfl:x=2:=by omega
   refine dB ?_;exact aQ ⟨by unfold direct;rw[T bw,m bw],rfl⟩
end
abbrev nm:=Int×Int×Int
section
variable(cs:List (Int×Int))(q rc n:Nat)(d:List nm)(e:nm)(w:Int)
def B2:List Value:=[bx e.1,af e.2.1,af e.2.2]
def ahI:(B2 e).length=3:=rfl
def oR(why:Int):Nat:=(d.filter λe=>decide (e.2.2=why)).length
def xn(rc:Nat):Nat->List nm->List nm->List nm
 |_,[],row=>row
 |k,e::d,row=>xn rc (k+1) d (row.set (k%rc) e)
def tS:List nm:=xn rc 0 d (List.replicate rc (0,0,0))
def ahJ(rc:Nat)(e:nm):∀(d:List nm) (k:Nat) (row:List nm),xn rc k (d++[e]) row=(xn rc k d row).set ((k+d.length)%rc) e
 |[],k,row=>rfl
 |x::d,k,row=>by simp only[ck,xn,ahJ rc e d (k+1),iG];congr 2;omega
def aua:tS rc (d++[e])=(tS rc d).set (d.length%rc) e:=by unfold tS;rw[ahJ,lo]
def ahK(rc:Nat):∀(d:List nm) (k:Nat) (row:List nm),(xn rc k d row).length=row.length
 |[],k,row=>rfl
 |x::d,k,row=>by simp only[xn,ahK rc d,gr]
def KN:(tS rc d).length=rc:=by unfold tS;rw[ahK,Uj]
def aub:oR (d++[e]) w=oR d w+if e.2.2=w then 1 else 0:=by
 unfold oR;rw[yS,eZ];by_cases h:e.2.2=w<;>simp[h]
def auc:(tS n []).flatMap B2=iV [bx 0,af 0,af 0] n:=by
 unfold tS xn
 induction n with
 |zero=>rfl
 |succ n L=>rw[List.replicate_succ,px,L];rfl
abbrev zC:List (Int×Value):=cs.map λp=>(p.1,af p.2)
def RY:Prop:=∀w,(dR cs w).getD 0=(oR d w:Int)
def sk:Nat:=if rc=0 then 0 else n%rc
def ahL{rc n:Nat}(h:0<rc):sk rc n=n%rc:=by unfold sk;rw[a7 ad]
def EV(r:Nat)(a:Option Addr)(c:Nat)(cs:List (Int×Int)):List al:=[aa q 168 [.map (some r),.slice a rc c,af ((sk rc d.length:Nat):Int),af d.length],bs r .i64 (zC cs),own (.slice a rc c) 54 3 rc ((tS rc d).flatMap B2)]
def dz:al:=dq (bv:=Nat×Option Addr×Nat×List (Int×Int)) (λe=>RY e.2.2.2 d) (λe=>EV q rc d e.1 e.2.1 e.2.2.1 e.2.2.2)
def aud(F:Value)(T:F=af 0):(dR (zC cs) w).getD F=af ((dR cs w).getD 0):=by
 subst T;unfold zC;rw[yQ af];cases dR cs w<;>rfl
def ahM{cs:List sh}{d:List nm}(h:RY cs d)(i t w:Int):RY (ew cs w ((oR d w:Int)+1)) (d++[(i,t,w)]):=λv=>by
 rw[Ot,aub];by_cases e:v=w
 . subst e;simp
 . rw[a7 e,a7 (λh=>e h.symm)];exact h v
def aue:oR d w<=d.length:=qm _ _
def auf{α:Type}(f:α->List Value)(aZ:Nat)(ba:∀x,(f x).length=aZ){l:List α}{k:Nat}(e:α)(hk:k<l.length):kE (l.flatMap f) (k*aZ) (f e)=(l.set k e).flatMap f:=by
 have aw:=kW f aZ ba l;have o:(k+1)*aZ<=l.length*aZ:=pN _ hk;rw[nb,vg]at o;rw[ti _ _ _ (by rw[ba,aw];exact o),ba];have aC:(l.flatMap f).take (k*aZ)=(l.take k).flatMap f:=by
  have aV:l.flatMap f=(l.take k).flatMap f++(l.drop k).flatMap f:=Zg;rw[aV,DY T7]
 have bF:(l.flatMap f).drop (k*aZ+aZ)=(l.drop (k+1)).flatMap f:=by
  rw[show k*aZ+aZ=(k+1)*aZ by rw[nb,vg]];exact Ii f aZ ba l (k+1)
 rw[aC,bF,aln,bg hk,qU,px,jI]
def arA(rc:Int)(aF:0<=rc/\rc<=64):ab E 57 [af rc] [] (λu I=>∃q,u=ptr q 0/\I=[dz q rc.toNat []]):=by
 refine av Tryz.func57 λH D=>?_;refine ct ?_;refine wn λay=>?_;refine aG ?_;refine aB rfl (s9 rc ad rfl rfl) ?_;refine aB rfl (ta ((rc.toNat:Nat):Int) ad rfl rfl) ?_;refine jn rfl (L4 (k:=rc.toNat) rfl rfl AB ad) ?_;rintro _ _ ⟨e,S,rfl,rfl⟩;refine aG ?_;refine wn λcA=>?_;refine bE ?_;exact aQ ⟨cA,rfl,rfl⟩ (cE (ay,e,S,[]) (λw=>rfl) (by dsimp only[EV];rw[auc,show sk rc.toNat ([]:List nm).length=0 from(by unfold sk;split;rfl;exact Nat.zero_mod _)];exact λh s=>Sat.tail (λh s=>Bh h (Sat.swap s)) s))
def aug(i t w:Int)(aF:rc<=64)(R:1<=w/\w<=5)(aS:d.length<=1099511627776):ab E 204 [ptr q 0,bx i,af t,af w] [dz q rc d] (aH (af 0) [dz q rc (d++[(i,t,w)])]):=by
 refine av Tryz.func204 λH D=>?_;refine kK eP ?_;rintro⟨r,a,c,cs⟩ B;replace B:=B;simp only[EV,ck,ci];have g:=aue d w;have u:(d++[((i,t,w):nm)]).length=d.length+1:=gl;refine cB ?_;refine cP ?_;refine bR ?_;refine cP ?_;refine fB ?_;refine aB rfl (lT (af (oR d w)) (by rw[aud _ _ _ rfl,B w]) rfl rfl) ?_;refine aB rfl (fy ((oR d w:Int)+1) (jz ad) rfl rfl) ?_;refine cB ?_;refine aB rfl (fy ((d.length:Int)+1) (jz ad) rfl rfl) ?_;refine ov ?_;refine ch (λW=>?_) (λW=>?_)
 . have V:0<rc:=by omega
   have e:d.length%rc<rc:=yK _ ad;have b:=ahL (n:=d.length) V;have f:sk rc (d.length+1)=(sk rc d.length+1)%rc:=(by rw[ahL V,b,Nat.mod_add_mod]);refine aG ?_;refine cw [] [13,201] aaU ?_;refine dB ?_;refine JP ?_;refine go_u rfl .none (Il (cg:=B2 (i,t,w)) rfl rfl rfl rfl (show sk rc d.length*3+3<=_ by rw[kW B2 3 ahI,KN];omega) (show 0<3 by decide)) An ?_;refine bb ?_;refine cw [] [14,201] aaU ?_;refine bE ?_;refine go_v rfl .none rfl (fy (((sk rc d.length+1:Nat):Int)) ff rfl rfl) ?_;refine bE ?_;refine go_v rfl .none rfl (tm (((sk rc d.length+1)%rc:Nat):Int) (Bb _ _) rfl rfl ad) ?_;refine dB ?_;exact aQ ⟨rfl,rfl⟩ (cE (r,a,c,ew cs w ((oR d w:Int)+1)) (ahM B i t w) (by dsimp only[EV];rw[u,aua,<-auf B2 3 ahI _ (by rw[KN];exact e),f,<-b,Int.natCast_add d.length 1,show zC (ew cs w ((oR d w:Int)+1))=ew (zC cs) w (af ((oR d w:Int)+1))from(DV af cs w ((oR d w:Int)+1)).symm];exact(au)))
 . obtain rfl:rc=0:=by omega
   refine cB ?_;exact aQ ⟨rfl,rfl⟩ (cE (r,a,c,ew cs w ((oR d w:Int)+1)) (ahM B i t w) (by dsimp only[EV];rw[u,show tS 0 (d++[((i,t,w):nm)])=tS 0 d from by rw[rR (KN 0 d),rR (KN 0 _)],Int.natCast_add d.length 1,show zC (ew cs w ((oR d w:Int)+1))=ew (zC cs) w (af ((oR d w:Int)+1))from(DV af cs w ((oR d w:Int)+1)).symm];exact(au)))
end
end Go.Proofs.YtnnhpnccfnghdaaGreat.L
