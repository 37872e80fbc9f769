import Derived.Test.YtnnhpnccfnghdaaGreatR6
import Derived.Shelf.Abstract
import Derived.OwnWalkIn
import Derived.TacticsInMore
import Derived.LoopNIn
import Derived.LoopIn
set_option linter.all false
set_option maxRecDepth 100000
set_option maxHeartbeats 4000000
namespace Go.Proofs.YtnnhpnccfnghdaaGreat.L
open Go.L Go.RowKit Go.Shelf
attribute[local irreducible] G cE GE cY GT b0 df c4 di Exit.then Exit.inBlock
attribute[local go_sem] Oper.semAt_some
section
variable{F:World}{b5:Nat}{I:eT}{g:Operand}{gA U:Nat}{assign body:Code}{Q:Exit->Act->World->Prop}
theorem amS(n:Nat)(aM:1<=n)(l bo b c:Nat)(cr:Option Addr)(xs:List Int)(f:0<xs.length->cr=some ⟨b,0,none⟩)(m:Nat->World->Prop)(hlen:xs.length<=1099511627776)
 (J:∀k W,m k W->W.cell? ⟨bo,0,none⟩=some (.slice cr xs.length c)/\∀i x,xs[i]?=some x->W.cell? ⟨b,i,none⟩=some (bw x))
 (a:∀k i x W,m k W->i+1+k=xs.length->xs[i]?=some x->YieldAt Fence.wide (n -1) aa l #[.int .i64 i,bw x] W λe o=>e=.returned (.bool true)/\m (k+1) o)
 (W:World)(bh:m 0 W):
 CallsIn Fence.wide n aa 436 #[.func (.yield l) #[] #[],.pointer (some ⟨bo,0,none⟩)] W λe o=>(∃v,e=.returned v)/\m xs.length o:=by
 refine callsIn_of_wp Tryz.func436 rfl trivial ?_ rfl;simp only[Tryz.ntmps436,yc,iE,lp,Nat.reduceAdd,Nat.reduceSub,Array.replicate_succ,Array.replicate_zero,List.push_toArray,List.append_toArray,cm,cp];have g:=(J 0 W bh).1
 gi_wp2
 gi_loopw [3] (λp wr=>∃k:Nat,k<=xs.length/\p=.int .i64 ((xs.length:Int) -1 -k)/\m k wr) (λp wr=>match p with
  |.int _ E=>(E+1).toNat
  |_=>0)
 case atStart=>
  exact⟨0,eX _,by simp,bh⟩
 case round=>
  obtain⟨k,hk,rfl,d⟩:=hrel;by_cases V:k=xs.length
  . subst V
    have ay:((xs.length:Int) -1 -xs.length)=-1:=ae;rw[ay]
    gi_wp2
    go_end0
    exact⟨⟨_,rfl⟩,d⟩
  . obtain rfl:=f ae
    obtain⟨i,ak⟩:∃i:Nat,i+1+k=xs.length:=⟨xs.length -1 -k,by omega⟩;have ay:((xs.length:Int) -1 -k)=(i:Int):=ae;rw[ay];obtain⟨x,ah⟩:∃x,xs[i]?=some x:=⟨_,cz (show i<xs.length by omega)⟩;obtain⟨q,j⟩:=J k wr d;have s:=j i x ah;obtain⟨fn,tmps,assign,body,ag,K⟩:=a k i x wr d ak ah;have t:(i:Int)<xs.length:=ae
    gi_wp2
    refine K.mono ?_;rintro e u ⟨rfl,r⟩
    gi_wp2
    go_roundw
    case rel=>exact⟨k+1,by omega,by congr 1;omega,r⟩
    case measure=>simp
theorem amT{a:Act}{w:World}{bo b c:Nat}{cr:Option Addr}{xs:List Int}(Inv:Nat->List aq)(hlen:xs.length<=1099511627776)(f:0<xs.length->cr=some ⟨b,0,none⟩)
 (aj:hn b5 I a)(aF:ck I g=some (bj 436 [ptr bo 0]))
 (J:∀k W d j,dm F (d::j::Inv k) W->W.cell? ⟨bo,0,none⟩=some (.slice cr xs.length c)/\∀i x,xs[i]?=some x->W.cell? ⟨b,i,none⟩=some (bw x))
 (s:dm F (Inv 0) w)
 (H : ∀ (l z k i : Nat) (x : Int) (rec : Loop) (W : World) (m : Nat), dm F (eB l (.loop rec) :: eB z (.deferred (some [])) :: Inv k) W → i + 1 + k = xs.length → xs[i]? = some x →
  assign.wpIn (Fence.wide.inRound l) m aa (Exit.then (λp q=>dm F (eB l (.loop rec)::eB z (.deferred (some []))::Inv k) q/\∀D o,dm F (eB l (.loop D)::eB z (.deferred (some []))::Inv k) o->body.wpIn (Fence.wide.inRound l) m aa (λe _ B=>e=.normal/\dm F (eB l (.loop D)::eB z (.deferred (some []))::Inv (k+1)) B) p o) (λ_ _ _=>False)) {tmps:=(a.tmps.setIfInBounds gA (.int .i64 i)).setIfInBounds U (bw x),defers:=[]} W)
 (K:∀z W,dm F (eB z (.deferred (some []))::Inv xs.length) W->Q .normal {a with defers:=[{target:=.collected z,args:=#[]}]} W):
 (Code.rangeFunc g #[gA,U] assign body).wp aa Q a w:=by
 refine(wpIn_wide (n:=3)).1 (wpIn_rangeFunc ?_);intro fn O;have E:=aj.eval aF;obtain⟨rec,u⟩:∃rec:LoopState->Option Code->Loop,rec=λst G=>{state:=st,pending:=G,fn,tmps:=a.tmps,params:=#[gA,U],assign,body,defers:=w.heap.size}:=⟨_,rfl⟩;have s1:dm F (eB (w.heap.size+1) Ao::eB w.heap.size yd::Inv 0) ((w.alloc yd).alloc Ao):=by
  have:=(s.new yd).new Ao;dsimp only at this;rw[Array.size_push]at this;exact this
 obtain⟨y,L⟩:∃y,(w.alloc (.deferred (some []))).alloc Ao=y:=⟨_,rfl⟩;rw[L]at s1;refine⟨w.heap.size+1,[{target:=.collected w.heap.size,args:=#[]}],y,{target:=.fn (.func 436) #[ptr bo 0],args:=#[.func (.yield (w.heap.size+1)) #[] #[]]},y,436,
  #[.func (.yield (w.heap.size+1)) #[] #[]]++#[ptr bo 0],y,?_,?_,?_,?_,λ_=>by decide,?_⟩
 . rw[<-L,u];exact run_enterLoop_outer _ _ _ _ _
 . simp only[resolve,E]
   simp[go_sem]
 . intro t M;trivial
 . simp[invoke,go_sem,enters_of Tryz.func436 gB rfl]
 . refine(amS 2 bJ (w.heap.size+1) bo b c cr xs f (λk W=>dm F (eB (w.heap.size+1) Ao::eB w.heap.size yd::Inv k) W) hlen (λk W h=>J k W _ _ h) ?_ y s1).mono ?_
   . intro k i x W h C ah
     have av:=h.heap (b:=w.heap.size+1);have ag:=run_yield (P:=aa) (args:=#[.int .i64 i,bw x]) av (by rw[u];rfl);rw[u]at ag;simp at ag;refine⟨fn,_,assign,body,ag,roundIn_of_wpIn trivial (wpIn_mono (H _ _ k i x _ W (2 -1) h C ah) ?_)⟩;intro e p q V;cases e with
     |
      normal=>
      simp only[Exit.then]at V⊢;obtain⟨h,aA⟩:=V;have av:=h.heap (b:=w.heap.size+1);refine⟨_,run_beginRound av (by rw[u]),?_⟩;have h2:=dm.set h (b:=w.heap.size+1) (.loop {rec .ready none with state:=.busy});refine wpIn_mono (aA _ _ h2) ?_;rintro aV cD bb ⟨rfl,aN⟩;have r:=aN.heap (b:=w.heap.size+1);refine⟨_,_,run_endRound none r,rfl,?_⟩;have bu:=dm.set aN (b:=w.heap.size+1) Ao;rw[u]at bu⊢;exact bu
     |_=>simp only[Exit.then]at V
   . rintro e N ⟨⟨v,rfl⟩,h⟩
     have av:=h.heap (b:=w.heap.size+1);refine⟨none,_,by have:=run_endLoop (P:=aa) av (by rw[u];simp);rw[u]at this;exact this,?_⟩;have h2:=dm.set h (b:=w.heap.size+1) (.loop {rec .ready none with state:=.exhausted});have aN:=K w.heap.size _ (h2.imp λ_ s=>Sat.drop s);rw[aj.defers];rw[u]at aN;exact aN
theorem amU{M:List aq}{g:Operand}{gA U:Nat}{assign body:Code}{Q:Exit->Act->World->Prop}{bo b c:Nat}{cr:Option Addr}{xs:List Int}(Inv:Nat->List aq)(n:Nat->Int->eT)(B:∀h,Sat M h->Sat (Inv 0) h)(hlen:xs.length<=1099511627776)(f:0<xs.length->cr=some ⟨b,0,none⟩)
 (t:Nat.blt gA b5=true)(u:Nat.blt U b5=true)(aF:ck I g=some (bj 436 [ptr bo 0]))
 (J:∀k W d j,dm F (d::j::Inv k) W->W.cell? ⟨bo,0,none⟩=some (.slice cr xs.length c)/\∀i x,xs[i]?=some x->W.cell? ⟨b,i,none⟩=some (bw x))
 (p:∀(r m i:Nat) (x:Int) (M:List aq),vX r m aa F b5 assign ((U,bw x)::(gA,.int .i64 i)::I) M (λe a w=>e=.normal/\hn b5 (n i x) a/\dm F M w))
 (H:∀(l z m k i:Nat) (x:Int) (rec:Loop),i+1+k=xs.length->xs[i]?=some x->vX l m aa F b5 body (n i x) (eB l (.loop rec)::eB z (.deferred (some []))::Inv k) (ye F (eB l (.loop rec)::eB z (.deferred (some []))::Inv (k+1))))
 (K:∀z,DD.GE [{target:=.collected z,args:=#[]}] F b5 I (eB z (.deferred (some []))::Inv xs.length) (Q .normal)):G aa F b5 (.rangeFunc g #[gA,U] assign body) I M Q:=by
 delta G;intro a w aj s
 refine amT Inv hlen f aj aF J (s.imp B) ?_ ?_
 . intro l z k i x rec W m b7 C ah
   have h1:hn b5 ((U,bw x)::(gA,.int .i64 i)::I) {tmps:=(a.tmps.setIfInBounds gA (.int .i64 i)).setIfInBounds U (bw x),defers:=[]}:=by
    have:=(aj.put (.int .i64 i) t).put (bw x) u;have aL:=aj.defers;cases a;simp at aL;subst aL;exact this
   refine wpIn_mono (p l m i x _ _ _ h1 b7) ?_;rintro e cr aG ⟨rfl,h2,aN⟩;simp only[Exit.then];exact⟨aN,λD o aD=>H l z m k i x D C ah _ _ h2 aD⟩
 . intro z W aD
   refine K z _ W ⟨?_,rfl⟩ aD;have aL:=aj.defers;cases a;simp at aL;subst aL;exact aj
end
end Go.Proofs.YtnnhpnccfnghdaaGreat.L
namespace Go.Proofs.YtnnhpnccfnghdaaGreat.L
open Go.L Go.L.Lx Go.L.Pg
attribute[local irreducible] G cE GE cY GT b0 df c4 di Exit.then Exit.inBlock
def aCc{l:List Int}{i k:Nat}{x:Int}(h:i+1+k=l.length)(ah:l[i]?=some x):l.reverse.take (k+1)=l.reverse.take k++[x]:=by
 have hk:k<l.reverse.length:=h5;rw[nv hk]
 congr 2
 rw[List.getElem_reverse];have e:l.length -1 -k=i:=ae;obtain⟨_,aV⟩:=dc.1 ah;simp only[e,aV]
def aCd(v:Value)(Y:v.oneCell'=true):ad aa 405 [v] [] (λu H=>∃bo,u=bj 436 [ptr bo 0]/\H=[ab bo 49 [v]]):=by
 refine aw Tryz.func405 λF D=>?_;refine bb ?_;refine iX rfl (Sr rfl Y) ?_;rintro _ _ ⟨ar,rfl,rfl⟩;refine c0 ?_;exact aX ⟨ar,rfl,rfl⟩
def alV(q E:Nat)(v:Value)(N:List Int):aq:=dj (bv:=Option Addr×Nat) (λ_=>True) (λe=>[ab q 164 [af E,v,ul e.1 e.2 N],fE e.1 e.2 N])
def aCe{q E:Nat}{v:Value}{a:Option Addr}{c:Nat}{l:List Int}{D:List aq}:∀h,Sat (ab q 164 [af E,v,ul a c l]::fE a c l::D) h->Sat (alV q E v l::D) h:=cF (D:=D) (a,c) trivial kG
def axj(q E:Nat)(dp N:List Int)(h1:dp.length<=1099511627776)(h2:N.length<=1099511627776):ad aa 365 [ptr q 0] EF (aH (af dp.length) [gi q E [] (N++dp.reverse)]):=by
 refine auB Tryz.func365 rfl rfl rfl ?_;intro F D;refine BU ?_;intro cr c1 cD bn;refine yq (p:=∃b,0<dp.length->cr=some qs) (λh s=>?_) ?_
 . rcases HJ dp.length with bh|bh
   . exact⟨0,λh=>by omega⟩
   . obtain⟨b,e,_⟩:=A8 bh h (hI.to (A:=fE cr c1 dp) ey s);exact⟨b,λ_=>e⟩
 rintro⟨b,f⟩;refine bb ?_;refine wn λar=>?_;refine gg ?_;refine br (aCd (ul cr c1 dp) rfl) ?_;rintro _ _ ⟨bo,rfl,rfl⟩;refine et ?_;refine b6 ?_;refine amU (cr:=cr) (c:=c1) (b:=b) (xs:=dp) (bo:=bo) (λk=>[alV q E (ul cr c1 dp) JA,ab ar 112 [ptr q 0],ab bo 49 [ul cr c1 dp],fE cr c1 dp]++D) (λi x=>[(5,bw x),(1,ptr ar 0)]) (λh s=>by rw[Pu,jr];exact cF (cD,bn) trivial (au) h s) h1 f rfl rfl rfl ?_ ?_ ?_ ?_
 . intro k W d j h
   simp only[cp,cm]at h;refine⟨by have:=h.heap (b:=bo);simp[World.cell?,this],λi x ah=>?_⟩;obtain rfl:=f (by have:=(dc.1 ah).1;omega);have d4:gI (fR W) (ul j0 c1 dp) dp.length (iS dp):=iW.get h.e4;have:=Pd (m:=i) (x:=bw x) d4 (by simp[iS,ah]);simpa[tG,tH]using this
 . intro r m i x M
   exact gi_reg (by rintro⟨_,_,h⟩;cases h.1) rfl (aB rfl (mw rfl) (ic (by delta GE;intro a w aj s;exact⟨rfl,aj.jv dy,s⟩)))
 . intro l z m k i x rec C ah
   refine gi_open ey ?_;rintro⟨a3,b9⟩ -;refine gi_block ?_;refine gi_drw [6,7,10] [6,7] [(0,.bI),(1,.bI),(2,.bI),(3,.bI),(4,.bI),(5,.loc),(6,.c5),(7,.c5),(8,.loc),(9,.loc),(10,.c5)] [ab ar 112 [ptr q 0],ab q 164 [af E,ul cr c1 dp,ul a3 b9 JA]] mixed gB rfl ?_;refine bi ?_;refine wn λn=>?_;refine aG ?_;refine go_n rfl .none rfl (D3 rfl rfl bF rfl rfl rfl h5 (by unfold maxLen;simp;omega)) ?_;rintro _ _ ⟨a25,g,rfl,rfl⟩;refine bi ?_;rw[aCc C ah,<-jE];refine uG (H:=eB l (.loop rec)::eB z yd::ab q 164 [af E,ul cr c1 dp,ul a25 g (JA++[x])]::fE a25 g (JA++[x])::ab ar 112 [ptr q 0]::ab bo 49 [ul cr c1 dp]::fE cr c1 dp::D) (by
    rw[<-KN rfl,show ul a25 g ((N++dp.reverse.take k)++[x])=.slice a25 ((N++dp.reverse.take k).length+1) g from by simp[ul];omega];exact(au)) ?_
   exact auE (λh s=>Sat.tail (λh s=>Sat.tail aCe s) s)
 . intro z
   simp only[cp,cm,yZ (show dp.reverse.length<=dp.length by simp)];refine DD.yt ?_;refine DD.hB ?_;refine DD.hA ?_;refine DD.kK ey ?_;rintro⟨a3,b9⟩ -;refine gh ?_;refine DD.ja ?_
   first|refine DD.aB rfl se ?_|refine DD.aB rfl wI ?_|refine DD.aB rfl wJ ?_
   refine DD.aB rfl (lY rfl) ?_
   first|refine DD.aB rfl wH ?_|refine DD.aB rfl (nG rfl) ?_
   first|refine DD.kb pP ?_|refine DD.kb pQ ?_
   refine DD.ic ?_;refine DD.hB ?_;refine DD.hA ?_;refine DD.ja ?_;refine DD.aB rfl pb ?_;refine DD.aB rfl (mw rfl) ?_;refine DD.ic ?_;refine DD.hB ?_;refine DD.oJ ?_;refine DD.uG (H:=eB z yd::ab q 164 [af E,.slice none 0 0,ul a3 b9 (N++dp.reverse)]::fE a3 b9 (N++dp.reverse)::D) (au) ?_;exact auC (.inl rfl) (λa w aj=>by rw[results_tmp rfl,Hc aj rfl]) [gi q E [] (N++dp.reverse)] dI (cF (none,0,a3,b9) trivial (λh s=>Sat.tail (λh s=>iV h s) s))
end Go.Proofs.YtnnhpnccfnghdaaGreat.L
namespace Go.L.dR
open Go.L Go.L.Ring Go.L.Whl Go.L.dq
structure k2 where
 b:Nat
 n:Nat
inductive wi
 |put(o:fo)
 |now
 |take(left:Nat)(o:fo)
 |tick(v:Int)
structure hy where
 ph:wi
 out:Int
 val:Int
 due:List Int
 cut:List Int
 ref:List Int
def hy.over(c:hy):Bool:=!decide (c.out=0)
section
variable(B:k2)(id v:Int){k:Nat}(L:List Int)(w:fX)(c:hy)
def lV:fX:=if v%4096=0 then rZ w (v/4096)else rj w (v/4096) (v%4096)
def rk:List Int:=if v%4096=0/\(w.get (v/4096)).isSome=true then[v/4096]else[]
def rl:List Int:=if v%4096≠0/\n1 w (v/4096) (v%4096)≠0 then[v/4096]else[]
def pM(left:Nat)(w:fX):wi:=if left=0 then .tick ((w.now+1:Nat):Int)else .take left (gU 5 0)
def n2:List Int×fX×hy:=
 match c.ph with
 |
  .put o=>
  let S:=dO (B.b+1) B.n L o
  (ly (B.b+1) B.n L o,w,{c with ph:=.put S,out:=S.out})
 |.now=>(L,w,{c with out:=1,val:=L.getD B.b 0})
 |
  .take left o=>
  let S:=dO (B.b+1) B.n L o
  let U:=ly (B.b+1) B.n L o
  if S.over then
   if S.out=1 then(U,lV S.value w,{c with ph:=pM (left -1) (lV S.value w),cut:=c.cut++rk S.value w,ref:=c.ref++rl S.value w})
   else(U,w,{c with ph:=.tick ((w.now+1:Nat):Int)})
  else(U,w,{c with ph:=.take left S})
 |.tick v=>(L.set B.b v,uA w,{c with out:=1,due:=(nz w).map (·.id)})
def j1:List Int×fX×hy:=if c.over then(L,w,c)else n2 B L w c
def o8(ph:wi):hy:=⟨ph,0,0,[],[],[]⟩
def r1(d:Int):hy:=if d<1\/4095<d\/1125899906842624<id then{o8 .now with out:=4}else o8 (.put (gU 0 (id*4096+d)))
def r2:hy:=if 1125899906842624<id then{o8 .now with out:=4}else o8 (.put (gU 0 (id*4096)))
def uC:hy:=o8 .now
def yp:hy:=o8 (pM B.n w)
structure r4(B:k2)(L:List Int):Prop where
 m1:1<=B.n
 m64:B.n<=64
 len:B.b+3+2*B.n<=L.length
 dB:L.length<=65536
structure mn(w:fX):Prop where
 ok:j2 w
 now:w.now<3000000000000000000
 seq:w.seq<4611686018427387903
def WM:wi->Prop
 |.put o=>iF o/\o.out=0/\o.pc<=9
 |.now=>True
 |.take left o=>iF o/\o.out=0/\o.pc<=9/\1<=left/\left<=64
 |.tick v=>0<=v/\v<=18446744073709551615
def leftOf:wi->Nat
 |.take left _=>left
 |_=>0
structure tu(c:hy):Prop where
 run:c.out=0->WM c.ph/\c.val=0/\c.due=[]
 MZ:c.cut.length+c.ref.length+leftOf c.ph<=64
 val:0<=c.val/\c.val<=18446744073709551615
structure wv(k:Nat)(w:fX):Prop where
 ok:j2 w
 now:w.now+k<3000000000000000000
 seq:w.seq+k<4611686018427387903
def wv.fG{w:fX}(h:wv k w):mn w:=⟨h.ok,by have:=h.now;omega,by have:=h.seq;omega⟩
def wv.le{j:Nat}{w:fX}(h:wv k w)(N:j<=k):wv j w:=⟨h.ok,by have:=h.now;omega,by have:=h.seq;omega⟩
def Wz:(lV v w).now=w.now:=by
 unfold lV rZ rj;split
 . rfl
 . split<;>rfl
def aov:(lV v w).seq<=w.seq+1:=by
 unfold lV rZ rj;split
 . exact im _
 . split
   . exact ei _
   . exact im _
def aow{w:fX}(h:j2 w):j2 (lV v w):=by
 unfold lV;split
 . exact h.cut _
 . exact h.add _ _
def aox:(rk v w).length+(rl v w).length<=1:=by
 unfold rk rl;by_cases h:v%4096=0
 . rw[a8 (show¬(v%4096≠0/\_)from λg=>g.1 h)];split<;>simp
 . rw[a8 (show¬(v%4096=0/\_)from λg=>h g.1)];split<;>simp
def WN{b n:Nat}{L:List Int}{o:fo}(h:o.pc<=9):(dO b n L o).pc<=9:=by
 unfold dO;split
 . exact h
 . unfold lz;split<;>(try exact h)<;>simp only[AO,yr,AP,G5,G6,uE,r6,G7,G8,G9,Ha,AQ,Hb,AR,AS,AT]<;>(repeat' split)<;>first|exact h|((try dsimp only);omega)
def WO{pc:Nat}(h:pc<=9){v:Int}(Y:0<=v/\v<=18446744073709551615):iF (gU pc v)/\(gU pc v).out=0/\(gU pc v).pc<=9:=⟨AU ae Y,rfl,h⟩
def WQ{left:Nat}(h:left<=64){w:fX}(aM:w.now<3000000000000000000):WM (pM left w)/\leftOf (pM left w)=left:=by
 unfold pM;split
 . rename_i e;subst e;exact⟨uF,rfl⟩
 . rename_i e
   obtain⟨a,b,c⟩:=WO (pc:=5) bJ (v:=0) bJ;exact⟨⟨a,b,c,by omega,h⟩,rfl⟩
def aoy{B:k2}{L:List Int}{k:Nat}{w:fX}{c:hy}(K:iu L)(O:wv (k+1) w)(a6:tu c):iu (j1 B L w c).1/\wv k (j1 B L w c).2.1/\tu (j1 B L w c).2.2:=by
 unfold j1;cases I:c.over with
 |true=>exact⟨K,O.le (im k),a6⟩
 |
  false=>
  simp only[eP,ep];obtain⟨ph,out,val,due,cut,ref⟩:=c;have aK:out=0:=by simpa[hy.over]using I
  subst aK;obtain⟨V,Y,aL⟩:=a6.run rfl;have R:=a6.MZ;have fz:(0:Int)<=0/\(0:Int)<=18446744073709551615:=bJ;obtain rfl:val=0:=Y;obtain rfl:due=[]:=aL;cases ph with
  |
   put o=>
   obtain⟨h1,h2,aN⟩:=V;exact⟨ys K h1,O.le (im k),⟨λh=>⟨⟨AK K h1,h,WN aN⟩,rfl,rfl⟩,R,fz⟩⟩
  |now=>exact⟨K,O.le (im k),⟨wq,R,K.get _⟩⟩
  |
   take left o=>
   obtain⟨h1,h2,aN,bu,dW⟩:=V;have g:=AK (b:=B.b+1) (n:=B.n) K h1;simp only[leftOf]at R;cases d:(dO (B.b+1) B.n L o).over with
   |
    false=>
    have e:n2 B L w M0=(ly (B.b+1) B.n L o,w,Ww):=by simp only[n2,d,eP,ep]
    rw[e];have T:(dO (B.b+1) B.n L o).out=0:=M1;exact⟨ys K h1,O.le (im k),⟨λ_=>⟨⟨g,T,WN aN,bu,dW⟩,rfl,rfl⟩,R,fz⟩⟩
   |
    true=>
    by_cases g1:(dO (B.b+1) B.n L o).out=1
    . have e:n2 B L w M0=(ly (B.b+1) B.n L o,lV (dO (B.b+1) B.n L o).value w,Wy):=by simp only[n2,d,fi,g1]
      rw[e];have aM:=Wz (dO (B.b+1) B.n L o).value w;have aj:=aov (dO (B.b+1) B.n L o).value w;have av:=aox (dO (B.b+1) B.n L o).value w;have p:=O.now;have f:=O.seq;obtain⟨a,b⟩:=WQ (left:=left -1) ae (w:=lV (dO (B.b+1) B.n L o).value w) (by rw[aM];omega);refine⟨ys K h1,⟨aow _ O.ok,by rw[aM];omega,by show(lV (dO (B.b+1) B.n L o).value w).seq+k<_;omega⟩,⟨λ_=>⟨a,rfl,rfl⟩,?_,fz⟩⟩;simp only[eL];rw[b];omega
    . have e:n2 B L w M0=(ly (B.b+1) B.n L o,w,Wx):=by simp only[n2,d,fi,g1,ep]
      rw[e];refine⟨ys K h1,O.le (im k),⟨λ_=>⟨⟨by omega,by have:=O.now;omega⟩,rfl,rfl⟩,?_,fz⟩⟩;simp only[leftOf];omega
  |
   tick v=>
   exact⟨K.set _ _ V,⟨O.ok.tick,by have:=O.now;show w.now+1+k<_;omega,by have:=O.seq;show w.seq+k<_;omega⟩,⟨wq,R,fz⟩⟩
theorem aoz{id d:Int}(cx:0<=id):tu (r1 id d):=by
 have fz:(0:Int)<=0/\(0:Int)<=18446744073709551615:=bJ;unfold r1;split
 . exact⟨wq,by decide,fz⟩
 . rename_i h
   exact WR
theorem aoA{id:Int}(cx:0<=id):tu (r2 id):=by
 have fz:(0:Int)<=0/\(0:Int)<=18446744073709551615:=bJ;unfold r2;split
 . exact⟨wq,by decide,fz⟩
 . exact WR
def aoB:tu uC:=⟨λ_=>⟨trivial,rfl,rfl⟩,by decide,by decide⟩
def aoC{B:k2}(h:B.n<=64){w:fX}(aM:w.now<3000000000000000000):tu (yp B w):=by
 obtain⟨a,b⟩:=WQ h aM;exact⟨λ_=>⟨a,rfl,rfl⟩,by show 0+0+leftOf (pM B.n w)<=64;omega,(show(0:Int)<=0/\(0:Int)<=18446744073709551615 by decide)⟩
end
end Go.L.dR
namespace Go.L.Led
open Go.L
section
variable(r:List (Int×Int))(z v:Value)(id w:Int)(cs:List Int)(k:Nat)(x:Int)
abbrev j5:Value:=.int .i64 x
abbrev rA:Value:=.int .u64 x
def Za(h:k<cs.length):(z::v::cs.map j5)[2+k*1]?=some (j5 (cs.getD k 0)):=by
 rw[show 2+k*1=k+1+1 by omega];simp[ix,cz h]
def Zb:(z::v::cs.map j5).set (2+k*1) (j5 x)=z::v::(cs.set k x).map j5:=by
 rw[show 2+k*1=k+1+1 by omega];simp[tE]
def bump(d:Int):List Int:=cs.set k (IntKind.i64.wrap (cs.getD k 0+d))
def bs:Int:=(dJ r id).getD 0
def tF:Nat:=(r.filter λq=>decide (q.2=w)).length
def av:Bool:=decide (1<=w/\w<=6)
def dg(j:Int):List (Int×Int):=if av (bs r id)then eV r id j else r
def Bn:Int:=if av (bs r id)then 0 else 2
def du:List (Int×Int):=if av w then dg r id w else r
def O0:Int:=if av w then Bn r id else 1
def dT:List (Int×Int):=if av w/\bs r id=0 then r++[(id,w)]else r
def H9:Int:=if av w then(if bs r id=0 then 0 else 3)else 1
structure kR(r:List (Int×Int)):Prop where
 nd:(r.map (·.1)).Nodup
 jG:∀q∈r,1<=q.2/\q.2<=8
structure sr(r:List (Int×Int))(cs:List Int):Prop where
 len:cs.length=9
 zero:cs.getD 0 0=-(r.length:Int)
 jg:∀w:Nat,1<=w->w<9->cs.getD w 0=tF r w
end
section
variable(cs:List Int){r:List (Int×Int)}(k j:Nat){id w x:Int}(d:Int)
theorem aq4(h:dJ r id=some x):(id,x)∈r:=by
 induction r with
 |nil=>cases h
 |
  cons q r K=>
  simp only[dJ]at h;split at h
  . rename_i e;cases h;rw[e];exact O3
  . exact Ie _ (K h)
theorem aq5(h:dJ r id=none):id∉r.map (·.1):=by
 induction r with
 |nil=>simp
 |
  cons q r K=>
  simp only[dJ]at h;split at h
  . cases h
  . rename_i e;simp only[gu,ku,not_or];exact⟨e,K h⟩
theorem aq3(h:dJ r id=none):eV r id w=r++[(id,w)]:=by
 induction r with
 |nil=>rfl
 |
  cons q r K=>
  simp only[dJ]at h;split at h
  . cases h
  . rename_i e;simp[eV,e,K h]
theorem OU(h:dJ r id=some x):(eV r id w).map (·.1)=r.map (·.1):=by
 induction r with
 |nil=>cases h
 |
  cons q r K=>
  simp only[dJ]at h;simp only[eV];split at h
  . rename_i e;simp[e]
  . rename_i e;simp[e,K h]
theorem OZ(h:dJ r id=some x):(eV r id w).length=r.length:=by
 have:=congrArg List.length (OU (w:=w) h);simpa using this
theorem aq6:∀q∈eV r id w,q∈r\/q=(id,w):=by
 induction r with
 |nil=>intro q h;simp[eV]at h;exact .inr h
 |
  cons p r K=>
  intro q h;simp only[eV]at h;split at h
  . rcases ku.1 h with h|h
    . exact .inr h
    . exact .inl (Ie _ h)
  . rcases ku.1 h with h|h
    . exact .inl (h▸O3)
    . exact(K q h).imp (Ie _) (λh=>h)
def If(q:Int×Int)(r:List (Int×Int))(w:Int):tF (q::r) w=(if q.2=w then 1 else 0)+tF r w:=by
 unfold tF;rw[O4];by_cases h:q.2=w<;>simp[h];omega
theorem aq7(h:dJ r id=some x)(y:Int):(tF (eV r id w) y:Int)=tF r y -(if x=y then 1 else 0)+(if w=y then 1 else 0):=by
 induction r with
 |nil=>cases h
 |
  cons q r K=>
  simp only[dJ]at h;simp only[eV];split at h
  . rename_i e;cases h
    rw[bd e,If,If];split<;>split<;>simp_all<;>omega
  . rename_i e
    rw[a8 e,If,If];have:=K h;split<;>simp_all<;>omega
def aq8(r:List (Int×Int))(w:Int):tF r w<=r.length:=qw _ _
theorem aq9(r:List (Int×Int))(id w y:Int):tF (r++[(id,w)]) y=tF r y+if w=y then 1 else 0:=by
 unfold tF;rw[yV,eL];by_cases h:w=y<;>simp[h]
def ara(x:Int)(h:k<cs.length):(cs.set k x).getD j 0=if j=k then x else cs.getD j 0:=by
 simp only[ix,Og];by_cases e:k=j
 . subst e;simp[h]
 . rw[a8 e,a8 (Ne.symm e)]
def Ig(h:k<cs.length)(aA:-9223372036854775808<=cs.getD k 0+d/\cs.getD k 0+d<=9223372036854775807):(bump cs k d).getD j 0=cs.getD j 0+if j=k then d else 0:=by
 unfold bump;rw[ara _ _ _ _ h,je aA];by_cases e:j=k
 . subst e;simp
 . simp[e]
def Ih:(bump cs k d).length=cs.length:=by simp[bump]
theorem sr.move{cs:List Int}(l:sr r cs){id:Int}{k j:Nat}(hk:dJ r id=some (k:Int))(m3:1<=k)(a:k<9)(g:1<=j)(N:j<9)(aE:r.length<=1099511627776):sr (eV r id j) (bump (bump cs k (-1)) j 1):=by
 refine Zl ?_;intro bh;have ar:∀w,(bump cs k (-1)).getD w 0=cs.getD w 0+if w=k then-1 else 0:=λw=>Ig _ _ _ _ (by rw[l.len];exact a) (by have:=bh k a;omega)
 have U:∀w,(bump (bump cs k (-1)) j 1).getD w 0=(bump cs k (-1)).getD w 0+if w=j then 1 else 0:=λw=>Ig _ _ _ _ (by rw[Ih,l.len];exact N) Zm
 refine⟨by simp[Ih,l.len],?_,λw h1 p=>?_⟩
 . rw[U,ar,l.zero,OZ hk];rw[a8 ae,a8 ae];omega
 . rw[U,ar,l.jg w h1 p,aq7 hk]
   have ay:((k:Int)=(w:Int))↔w=k:=ae;have aV:((j:Int)=(w:Int))↔w=j:=ae;simp only[ay,aV];split<;>split<;>omega
theorem sr.accept{cs:List Int}(l:sr r cs){id:Int}{j:Nat}(g:1<=j)(N:j<9)(aE:r.length<=1099511627776):sr (r++[(id,(j:Int))]) (bump (bump cs 0 (-1)) j 1):=by
 refine Zl ?_;intro bh;have ar:∀w,(bump cs 0 (-1)).getD w 0=cs.getD w 0+if w=0 then-1 else 0:=λw=>Ig _ _ _ _ (by rw[l.len];omega) (by have:=bh 0 (by omega);omega)
 have U:∀w,(bump (bump cs 0 (-1)) j 1).getD w 0=(bump cs 0 (-1)).getD w 0+if w=j then 1 else 0:=λw=>Ig _ _ _ _ (by rw[Ih,l.len];exact N) Zm
 refine⟨by simp[Ih,l.len],?_,λw h1 p=>?_⟩
 . rw[U,ar,l.zero];rw[bd rfl,a8 ae];simp;omega
 . rw[U,ar,l.jg w h1 p,aq9]
   have aV:((j:Int)=(w:Int))↔w=j:=ae;simp only[aV];rw[a8 ae];split<;>omega
theorem kR.amc(h:kR r){id:Int}:bs r id=0↔dJ r id=none:=by
 unfold Led.bs;constructor
 . intro e
   cases bf:dJ r id with
   |none=>rfl
   |some x=>rw[bf]at e;have:=h.jG _ (aq4 bf);simp at e this;omega
 . intro e;rw[e];rfl
theorem kR.put(h:kR r){id w x:Int}(bf:dJ r id=some x)(O:1<=w/\w<=8):kR (eV r id w):=
 ⟨by rw[OU bf];exact h.nd,λq bm=>by rcases aq6 q bm with bm|rfl;exact h.jG q bm;exact O⟩
theorem kR.snoc(h:kR r){id w:Int}(bf:dJ r id=none)(O:1<=w/\w<=8):kR (r++[(id,w)]):=
 ⟨by
  rw[o1,List.nodup_append];refine⟨h.nd,by simp,λa aW b aA e=>?_⟩;simp at aA;subst aA;subst e;exact aq5 bf aW,λq bm=>by
  rcases ky.1 bm with bm|bm
  . exact h.jG q bm
  . simp at bm;subst bm;exact O⟩
def tD:av w=true↔1<=w/\w<=6:=by simp[av]
theorem kR.from(h:kR r){id j:Int}(N:1<=j/\j<=8):kR (dg r id j):=by
 unfold dg;split
 . rename_i cl
   cases bf:dJ r id with
   |none=>rw[tD]at cl;simp[Led.bs,bf]at cl
   |some x=>exact h.put bf N
 . exact h
theorem kR.F6(h:kR r){id w:Int}:kR (du r id w):=by
 unfold du;split
 . rename_i cl;rw[tD]at cl;exact h.from ⟨cl.1,by omega⟩
 . exact h
theorem kR.acc(h:kR r){id w:Int}:kR (dT r id w):=by
 unfold dT;split
 . rename_i cl;have:=tD.1 cl.1;exact h.snoc (h.amc.1 cl.2) ⟨this.1,by omega⟩
 . exact h
theorem yW{j:Int}:(dg r id j).length=r.length:=by
 unfold dg;split
 . rename_i cl
   cases bf:dJ r id with
   |none=>rw[tD]at cl;simp[Led.bs,bf]at cl
   |some x=>exact OZ bf
 . rfl
theorem e8:(du r id w).length=r.length:=by
 unfold du;split;exact yW;rfl
theorem Zn:(dT r id w).length<=r.length+1:=by
 unfold dT;split<;>simp
end
end Go.L.Led
namespace Go.L.Th
open Go.L Go.L.Lx Go.L.Pg Go.L.Ring Go.L.dq Go.L.dR Go.L.Whl Go.L.dA Go.L.Led
structure bt where
 a1:Nat
 cB:Nat
 aZ:Nat
 hW:Nat
 dY:Nat
 mJ:Nat
 eI:Nat
 iN:Nat
 dG:Nat
def bt.fB(C:bt):Nat:=2*C.aZ+8
def bt.bA(C:bt):fL:=⟨2,C.a1,C.eI,C.aZ⟩
section
variable(C:bt)
def bt.dH:k2:=⟨2+C.bA.size,C.iN⟩
def bt.bG:Nat:=2+C.bA.size+(3+2*C.iN)
def bt.gS:Nat:=C.bG+C.aZ*C.aZ
def bt.e7:Nat:=2+(2+2*C.hW)+(2+2*C.fB)
def bt.box(a:Nat):jn:=⟨C.gS+(a -1)*C.e7,C.hW,C.fB⟩
def bt.cells:Nat:=C.gS+C.aZ*C.e7
structure bt.ok(C:bt):Prop where
 aG:1<=C.a1
 bQ:C.a1<=8
 h1:1<=C.cB
 bu:C.cB<=4
 cr:1<=C.aZ
 hg:C.aZ<=16
 m1:1<=C.hW
 m64:C.hW<=64
 pS:C.dY<=64
 ar:1<=C.mJ
 GF:C.mJ<=16
 d1:1<=C.eI
 d64:C.eI<=64
 i1:1<=C.iN
 i64:C.iN<=64
 sY:C.dG<=64
structure cW where
 cy:Int
 to:Int
 tag:cC
 n:Int
 p9:Bool
structure c9 where
 what:Int
 who:Int
 reason:cC
structure bX where
 kind:Int
 dL:Int
 id:Int
 cy:Int
 to:Int
 name:cC
 n:Int
 why:Int
 nj:Bool
deriving DecidableEq
def c7:bX:=⟨0,0,0,0,0,[],0,0,false⟩
structure dt where
 dY:Bool
 cw:List fv
 state:cC
 stop:Bool
 fail:cC
structure bR where
 id:Nat
 parent:Nat
 kind:b2
 state:cC
 slots:List Int
 kids:List Int
 mode:Int
 aside:List Int
 front:List Int
 given:List (Int×List Int)
 watched:List Int
 cM:List Int
 timers:List (cC×List Int)
inductive bU
 |load(c:Nat)
 |add(c:Nat)(d:Int)
 |fV(v:Int)
 |post(a:Nat)(p:gw)
 |hV(o:k5)
 |fx(o:gC)
 |eS(o:hy)
inductive ev
 |c5(a:Nat)(l:Int)(p:dt)
 |cancel(ids:List Int)
 |leave(due:List Int)
 |push(l:List Int)(what:Int)
 |l9(a:Nat)
inductive K
 |nil
 |polled|found|oZ|mb
 |run(a:Nat)|jk(a:Nat)|on(a:Nat)|again(a:Nat)
 |next(a left:Nat)|nr(a left:Nat)|settled(a:Nat)
 |ended(a:Nat)(id:Int)(p:dt)(k:K)
 |mc(l:cW)(k:K)
 |gv(a:Nat)(l:cW)(e:fv)(k:K)
 |told(id to:Int)(k:K)
 |lh(a:Nat)(k:K)
 |me(a:Nat)(kind:cC)(slot:Nat)(k:K)
 |asked(id:Int)(a:Nat)(e:fv)(k:K)
 |watched(a who:Nat)(k:K)|gone(a who:Nat)(k:K)|mK(x y:Nat)(k:K)
 |alone(a:Nat)(k:K)
 |mf(a:Nat)(n:c9)(k:K)
 |closed(a:Nat)(k:K)|kW(a:Nat)(k:K)|shut(a:Nat)(k:K)|nS(a:Nat)(k:K)|who(a:Nat)(k:K)|parent(a:Nat)(k:K)
 |each(d:ev)(i n:Nat)(k:K)
 |ov(a:Nat)
structure bW where
 on:Option (bU×K)
 draw:Int
 ij:Bool
structure ao where
 L:List Int
 bs:fX
 aJ:List bR
 lets:List cW
 bc:List (Int×Int)
 dead:List (Int×Int×Int)
 notes:List c9
 trace:List bX
 now:Nat
 ticks:Nat
 shut:Bool
 az:List bW
abbrev most:Nat:=1099511627776
end
section
variable(C:bt)(v:Int)(k:b2)(l:List Int)(j:Nat)(state tag:cC)(g:List (Int×List Int))(x n c:Int)(s:ao)(a:Nat)(id w:Int)
def bU.over:bU->Bool
 |.load _=>false
 |.add _ _=>false
 |.fV _=>true
 |.post _ p=>p.over
 |.hV o=>o.over
 |.fx o=>o.over
 |.eS o=>o.over
def acc:bU->ao×bU
 |.load c=>(s,.fV (s.L.getD c 0))
 |.add c d=>({s with L:=s.L.set c (eU (s.L.getD c 0+d))},.fV (eU (s.L.getD c 0+d)))
 |.fV v=>(s,.fV v)
 |.post a p=>({s with L:=p2 (C.box a) s.L p},.post a (oV (C.box a) s.L p))
 |.hV o=>({s with L:=r8 s.L o},.hV (r9 s.L o))
 |.fx o=>({s with L:=nC C.bA s.L o},.fx (lE C.bA s.L o))
 |.eS o=>({s with L:=(j1 C.dH s.L s.bs o).1,bs:=(j1 C.dH s.L s.bs o).2.1},.eS (j1 C.dH s.L s.bs o).2.2)
def K7:gw:=⟨.put false (gU 0 v),0,0⟩
def xH:gw:=⟨.put true (gU 0 v),0,0⟩
def Fa:gw:=⟨.ask v,0,0⟩
def nR:gw:=⟨.set v,0,0⟩
def Cj:gw:=⟨.of false (gU 5 0),0,0⟩
def Ch:gw:=⟨.of true (gU 5 0),0,0⟩
def Cl:gw:=⟨.of false (gU 14 0),0,0⟩
def xI:gw:=⟨.of false (gU 10 0),0,0⟩
def xE:gw:=⟨.gone,0,0⟩
def Fb(held:Bool):gw:=⟨.xu held,0,0⟩
def tell(e:bX)(s:ao):Option ao:=if s.trace.length<most then some {s with trace:=s.trace++[e]}else none
def jX:Option cW:=if 1<=id then s.lets[(id -1).toNat]?else none
def dE:Option bR:=if 1<=a then s.aJ[a -1]?else none
def dd(x:bR):ao:={s with aJ:=s.aJ.set (a -1) x}
def move:ao:={s with bc:=du s.bc id w}
def lg(a w:Int):ao:=if bs s.bc id=a then move s id w else s
def kill(why:Int)(s:ao):Option ao:=do
 let l<-jX s id
 if s.dead.length<most/\1<=why/\why<=5 then
  tell {c7 with kind:=6,id:=id,to:=l.to,why:=why} {s with bc:=dg s.bc id 8,dead:=s.dead++[(id,l.to,why)]}
 else none
def jz(why:Int):List Int->ao->Option ao
 |[],s=>some s
 |id::r,s=>do jz why r (<-kill id why s)
def ew(o:bU)(k:K):Option ao:=do
 let t<-s.az[j]?
 if t.on.isNone then some {s with az:=s.az.set j {t with on:=some (o,k)}}else none
def sleep(b:Bool):Option ao:=do
 let t<-s.az[j]?
 some {s with az:=s.az.set j {t with ij:=b}}
def sV:Option Nat:=if j<C.a1 then some j else none
def mem:Bool:=l.contains x
def del:List Int:=l.filter (λy=>decide (y≠x))
def oq:List Int:=if mem l x then l else l++[x]
def gF:List (cC×List Int)->cC->List Int
 |[],_=>[]
 |(k,l)::r,n=>if n=k then l else gF r n
def ou:List (cC×List Int)->cC->List (cC×List Int)
 |[],_=>[]
 |(k,l)::r,n=>if n=k then r else(k,l)::ou r n
def ma:List (cC×List Int)->cC->Int->List (cC×List Int)
 |[],n,x=>[(n,[x])]
 |(k,l)::r,n,x=>if n=k then(n,l++[x])::r else(k,l)::ma r n x
def p1:List (Int×List Int)->Int->List (Int×List Int)
 |[],_=>[]
 |(k,l)::r,n=>if n=k then r else(k,l)::p1 r n
def ll(P:List b2)(n:cC):Option b2:=P.find? (λk=>decide (k.name=n))
def qc(r:Row):Bool:=decide (r.tag=[])||(decide (r.tag=tag)&&(!r.only||decide (r.n=n)))
def rowOf:Option Row:=do
 let s<-k.states.find? (λs=>decide (s.name=state))
 s.rows.find? (qc tag n)
def o0(e:fv)(n:Int):Int:=if e.value=0 then n else if e.value=1 then(if n<1 then 0 else n -1)else e.n
def mN(n:Int):Nat->List fv->dt->dt
 |_,[],p=>p
 |
  i,e::r,p=>
  if e.do'=4 then(if i=0 then⟨true,[],p.state,false,[]⟩else mN n (i+1) r p)
  else if e.do'=3 then mN n (i+1) r {p with state:=e.name}
  else if e.do'=11 then{p with stop:=true}
  else if e.do'=12 then{p with fail:=e.name}
  else if e.do'=1\/e.do'=8 then mN n (i+1) r {p with cw:=p.cw++[{e with n:=o0 e n,value:=2}]}
  else mN n (i+1) r {p with cw:=p.cw++[e]}
def kY:dt:=
 match rowOf k state tag n with
 |none=>⟨false,[],state,false,[]⟩
 |some r=>mN n 0 r.cw ⟨false,[],state,false,[]⟩
def nt(s:cC):Option Nat:=if s=[97]then some 0 else if s=[98]then some 1 else if s=[99]then some 2 else if s=[100]then some 3 else none
def hl(ref:cC)(self b parent:Int)(slots:List Int):Int:=
 if ref=[115,101,108,102]then self else if ref=[115,101,110,100,101,114]then b else if ref=[112,97,114,101,110,116]then parent
 else match nt ref with
  |some i=>slots.getD i 0
  |none=>0
def direct(reason:cC):Int:=
 match k.cases.find? (λc=>decide (c.reason=reason))with
 |some c=>c.do'
 |
  none=>match k.cases.find? (λc=>decide (c.reason=[]))with
  |some c=>c.do'
  |none=>3
def qT:Int:=(x+9223372036854775808)%18446744073709551616 -9223372036854775808
def ht:Int:=min (max n 0) 1099511627776
def dU:List Int:=(dJ g c).getD []
def Tk(now:Int):Int:=
 max (min (max k.limit 0) 100 -(((dU g c).filter (λt=>!decide (t<=ht now -min (max k.within 1) 4095))).length:Int)) 0
end
section
variable(C:bt)(P:List b2)(g:ao->bU->K->Option ao)(j:Nat)
section
variable(s:ao)(r:bU)(d:ev)(a i:Nat)(n:c9)(l:cW)(id:Int)(e:fv)(cancel:ao->List Int->K->Option ao)(k:K)
def dF:bU:=.fV 0
def ot:Option ao:=
 match r with
 |.post _ p=>if p.out=7\/p.out=8 then ew j s (.fx (wB C.bA (sV C j) a)) k else g s dF k
 |_=>none
def rN:Option ao:=do
 let l<-jX s id
 if l.to=0 then g (<-kill id 3 s) dF k
 else if 1<=l.to/\l.to<=C.aZ then ew j s (.post l.to.toNat (K7 id)) (.told id l.to k)else none
def Ce:Option ao:=ew j s (.add 0 1) (.mc l k)
def qQ:Option ao:=
 if s.notes.length<most/\1<=a/\a<=C.aZ then ew j {s with notes:=s.notes++[n]} (.post a (xH s.notes.length)) (.lh a k)else none
def ua(x y:Nat)(k:K):Option ao:=
 if 1<=x/\x<=C.aZ/\1<=y/\y<=C.aZ then ew j s (.hV (nE 4 (lF C.bG C.aZ x y))) (.mK x y k)else none
def K6:Option ao:=ew j s (.eS (r1 id e.vp)) (.asked id a e k)
def vD:Option ao:=do
 let x<-dE s a
 if x.mode=5 then some s else ew j s (.post a (Fb (!decide (x.mode=1)))) (.settled a)
def Cg:Option ao:=ew j s (.post a Ch) (.jk a)
def xF(who:Nat)(k:K):Option ao:=do
 let x<-dE s a
 if 1<=who/\who<=C.aZ then ew j (dd s a {x with watched:=oq x.watched who}) (.hV (nE 0 (lF C.bG C.aZ a who))) (.watched a who k)else none
def xG:Option ao:=do
 let x<-dE s a
 some (dd (x.aside.foldl (λs id=>move s id 4) s) a {x with front:=x.front++x.aside.reverse,aside:=[]})
def vE(x:bR)(e:fv)(b who:Int)(slot:Nat)(cancel:ao->List Int->K->Option ao)(k:K):Option ao:=
 if e.do'=1 then Ce j s ⟨a,who,e.name,e.n,false⟩ k
 else if e.do'=2 then ew j s (.add 1 1) (.me a e.name slot k)
 else if e.do'=10 then g (dd s a {x with slots:=x.slots.set slot b}) dF k
 else if e.do'=5 then(xG s a).bind λs=>g s dF k
 else if e.do'=8 then ew j s (.add 0 1) (.gv a ⟨a,a,e.name,e.n,false⟩ e k)
 else if e.do'=9 then cancel (dd s a {x with timers:=ou x.timers e.name}) (gF x.timers e.name) k
 else if e.do'=6\/e.do'=7 then
  if who=0\/who=a then g s dF k
  else if e.do'=6 then xF C j s a who.toNat k
  else if 1<=who/\who<=C.aZ then ew j (dd s a {x with watched:=x.watched.erase who}) (.hV (nE 2 (lF C.bG C.aZ a who.toNat))) k else none
 else none
def Ci:Option ao:=do
 let x<-dE s a
 vE C g j s a x e (max l.cy 0) (hl e.ref a (max l.cy 0) x.parent x.slots) ((nt e.slot).getD 0) cancel k
def mH(zO:ao->List Int->K->Option ao)(s:ao)(d:ev)(i:Nat)(k:K):Option ao:=
 match d with
 |.c5 a id p=>do Ci C g j s a (<-jX s id) (<-p.cw[i]?) zO k
 |.cancel ids=>do ew j s (.eS (r2 (<-ids[i]?))) k
 |.leave due=>do rN C g j s (<-due[i]?) k
 |.push l what=>do qQ C j s (<-l[i]?).toNat ⟨what,0,[]⟩ k
 |.l9 a=>if i+1=a then g s dF k else ua C j s (i+1) a k
def zP(n:Nat)(k:K):Option ao:=
 if i=n then g s dF k else mH C g j (λ_ _ _=>none) s d i (.each d i n k)
def zO(ids:List Int)(k:K):Option ao:=zP C g j s (.cancel ids) 0 ids.length k
def mI(n:Nat)(k:K):Option ao:=
 if i=n then g s dF k else mH C g j (zO C g j) s d i (.each d i n k)
def vF(l:List Int)(what:Int)(k:K):Option ao:=mI C g j s (.push l what) 0 l.length k
def qR:Option ao:=do
 let x<-dE s a
 if x.mode=4\/x.mode=5 then g s dF k
 else vF C g j (<-tell {c7 with kind:=13,dL:=a} (dd s a {x with mode:=4})) x.kids 0 (.alone a k)
def rO(reason:cC)(k:K):Option ao:=do
 let x<-dE s a
 let s<-tell {c7 with kind:=9,dL:=a,name:=reason} (dd s a {x with mode:=2})
 if x.parent=0 then qR C g j s a k else qQ C j s x.parent ⟨1,a,reason⟩ k
def zQ:Option ao:=do
 let x<-dE s a
 let s<-jz 2 (x.front.reverse++x.aside) (dd s a {x with front:=[],aside:=[]})
 ew j s (.post a Cl) (.closed a k)
def p6:Option ao:=do
 let x<-dE s a
 if x.kids≠[]then g s dF k
 else if x.mode=4 then zQ j s a k
 else if x.mode=3 then do
  let st<-x.kind.states[0]?
  let s<-xG (dd s a {x with state:=st.name,slots:=[0,0,0,0],cM:=[]}) a
  let x<-dE s a
  g (<-tell {c7 with kind:=12,dL:=a} (dd s a {x with mode:=1})) dF k
 else g s dF k
def p7(d:Int)(k:K):Option ao:=do
 let s<-tell {c7 with kind:=10,dL:=n.who,cy:=a,why:=d,name:=n.reason} s
 if d=1 then qQ C j s n.who.toNat ⟨2,0,[]⟩ k
 else if d=2 then qQ C j s n.who.toNat ⟨3,0,[]⟩ k
 else if d=3 then qQ C j s n.who.toNat ⟨0,0,[]⟩ k
 else do
  let x<-dE s a
  let s:=dd s a {x with cM:=oq x.cM n.who}
  if x.mode=1 then rO C g j s a n.reason k else g s dF k
def ub:Option ao:=do
 let x<-dE s a
 if !mem x.kids n.who\/x.mode=3\/x.mode=4 then g s dF k
 else if direct x.kind n.reason≠2 then p7 C g j s a n (direct x.kind n.reason) k
 else ew j s (.eS uC) (.mf a n k)
def sW:Option ao:=do
 let x<-dE s a
 if n.what=0 then qR C g j s a k
 else if n.what=1 then ub C g j s a n k
 else if n.what=2 then
  if x.mode≠2 then g s dF k
  else vF C g j (<-tell {c7 with kind:=11,dL:=a} (dd s a {x with mode:=1,cM:=[]})) x.cM 2 k
 else if n.what=3 then
  if x.mode≠2 then g s dF k else vF C g j (dd s a {x with mode:=3}) x.kids 0 (.alone a k)
 else if n.what=4 then
  p6 g j (dd s a {x with kids:=del x.kids n.who,cM:=del x.cM n.who,given:=p1 x.given n.who}) a k
 else none
def qS:Option ao:=do
 let x<-dE s a
 let l<-jX s id
 if l.p9=true/\mem x.watched l.cy=false then g (<-kill id 5 s) dF k
 else
  let p:=kY x.kind x.state l.tag l.n
  if p.dY then
   if C.dY<=x.aside.length then g (<-kill id 1 s) dF k
   else g (<-tell {c7 with kind:=5,dL:=a,id:=id} (move (dd s a {x with aside:=x.aside++[id]}) id 3)) dF k
  else do
   let s<-tell {c7 with kind:=3,dL:=a,id:=id} {s with bc:=dg s.bc id 7}
   mI C g j (dd s a (if l.p9 then{x with watched:=x.watched.erase l.cy}else x)) (.c5 a id p) 0 p.cw.length (.ended a id p k)
def p8(left:Nat):Option ao:=do
 let x<-dE s a
 if x.mode≠1 then vD j s a
 else if left=0 then ew j s (.post a (nR 1)) (.again a)
 else match x.front.getLast? with
  |some id=>qS C g j (dd s a {x with front:=x.front.dropLast}) a id (.next a left)
  |none=>ew j s (.post a Cj) (.nr a left)
def sX(id parent:Nat)(kind:cC):Option ao:=do
 let k<-ll P kind
 let st<-k.states[0]?
 if id=s.aJ.length+1/\id<=C.aZ then
  let x:bR:=⟨id,parent,k,st.name,[0,0,0,0],[],1,[],[],[],[],[],[]⟩
  let s:={s with aJ:=(match dE s parent with
   |some u=>s.aJ.set (parent -1) {u with kids:=u.kids++[(id:Int)]}
   |none=>s.aJ)++[x]}
  tell {c7 with kind:=7,dL:=id,cy:=parent,name:=kind} s
 else none
def uc(v:Int):Option ao:=if 1<=v/\v<=s.aJ.length then ew j s (.post v.toNat (nR 2)) (.run v.toNat)else none
def enter(nj:Bool)(r:bU):Option (ao×Int):=
 match r with
 |.fV v=>if v=((s.lets.length+1:Nat):Int)/\s.lets.length<most then
  (tell {c7 with kind:=2,id:=v,cy:=l.cy,to:=l.to,name:=l.tag,n:=l.n,nj:=nj} {s with lets:=s.lets++[l],bc:=dT s.bc v 1}).map (·,v)else none
 |_=>none
def dw:K->Option ao
 |.nil=>some s
 |
  .polled=>match r with
  |.fx c=>sleep j s (!decide (c.out=1))
  |_=>none
 |
  .found=>match r with
  |.fx c=>if c.out=1 then uc j s c.val else ew j s (.fx (yA j)) .oZ
  |_=>none
 |
  .oZ=>match r with
  |.fx c=>if c.out=1 then uc j s c.val else sleep j s true
  |_=>none
 |
  .mb=>match r with
  |
   .eS c=>do
   let s<-tell {c7 with kind:=15,n:=((s.now+1:Nat):Int)} {s with now:=s.now+1}
   let s<-jz 1 c.ref s
   let s<-jz 4 c.cut s
   let s:=(s.bs.T.map (·.id)).foldl (λs id=>lg s id 5 6) s
   let s:=c.due.foldl (λs id=>move s id 1) s
   mI C g j s (.leave c.due) 0 c.due.length .nil
  |_=>none
 |.run a=>Cg j s a
 |
  .jk a=>match r with
  |.post _ p=>if p.out≠1 then p8 C g j s a C.mJ else do sW C g j s a (<-s.notes[p.val.toNat]?) (.on a)
  |_=>none
 |.on a=>do if(<-dE s a).mode≠5 then Cg j s a else some s
 |.again a=>ew j s (.fx (wB C.bA (sV C j) a)) .nil
 |.next a left=>p8 C g j s a (left -1)
 |
  .nr a left=>match r with
  |.post _ p=>if p.out≠1 then vD j s a else qS C g j s a p.val (.next a left)
  |_=>none
 |.settled a=>ot C g j s r a .nil
 |
  .ended a id p k=>do
  let x<-dE s a
  let s<-tell {c7 with kind:=4,dL:=a,id:=id,name:=p.state} (dd s a {x with state:=p.state})
  if p.stop then qR C g j s a k else if p.fail≠[]then rO C g j s a p.fail k else g s dF k
 |
  .mc l k=>do
  let(s,id)<-enter s l false r
  rN C g j s id k
 |
  .gv a l e k=>do
  let(s,id)<-enter s l true r
  K6 j s a id e k
 |
  .told id to k=>match r with
  |
   .post _ p=>
   if p.out=2 then do g (<-kill id 1 s) dF k
   else if p.out=3 then do g (<-kill id 2 s) dF k
   else ot C g j (lg s id 1 2) r to.toNat k
  |_=>none
 |.lh a k=>ot C g j s r a k
 |
  .me a kind slot k=>match r with
  |
   .fV v=>do
   let(s,m)<-if(C.aZ:Int)<v then(tell {c7 with kind:=8,dL:=a,name:=kind} s).map (·,(0:Int))else(sX C P s v.toNat a kind).map (·,v)
   let x<-dE s a
   g (dd s a {x with slots:=x.slots.set slot m}) dF k
  |_=>none
 |
  .asked id a e k=>match r with
  |
   .eS c=>
   if c.out=2 then do g (<-kill id 1 s) dF k
   else do
    let s:=lg s id 1 5
    let x<-dE s a
    g (dd s a {x with timers:=ma x.timers e.name id}) dF k
  |_=>none
 |.watched a who k=>ew j s (.post who xE) (.gone a who k)
 |
  .gone a who k=>match r with
  |.post _ p=>if p.out≠1 then g s dF k else ua C j s a who k
  |_=>none
 |
  .mK x y k=>match r with
  |.hV o=>if o.out≠1 then g s dF k else Ce j s ⟨y,x,[103,111,110,101],0,true⟩ k
  |_=>none
 |.alone a k=>p6 g j s a k
 |
  .mf a n k=>match r with
  |
   .eS c=>do
   let x<-dE s a
   if Tk x.kind x.given n.who (qT c.val)=0 then p7 C g j s a n 3 k
   else p7 C g j (dd s a {x with given:=eV x.given n.who (dU x.given n.who++[ht (qT c.val)])}) a n 2 k
  |_=>none
 |.closed a k=>ew j s (.post a xI) (.kW a (.shut a k))
 |
  .kW a k=>match r with
  |
   .post _ p=>
   if p.out=5 then g s dF k
   else do
    let s<-if p.out=1 then kill p.val 2 s else some s
    ew j s (.post a xI) (.kW a k)
  |_=>none
 |.shut a k=>ew j s (.post a (nR 4)) (.nS a k)
 |
  .nS a k=>do
  let x<-dE s a
  ew j (<-tell {c7 with kind:=14,dL:=a} (dd s a {x with mode:=5})) (.load 1) (.who a k)
 |
  .who a k=>match r with
  |.fV v=>if v<4611686018427387904 then mI C g j s (.l9 a) 0 (min v.toNat C.aZ) (.parent a k)else none
  |_=>none
 |
  .parent a k=>do
  let x<-dE s a
  if x.parent=0 then g s dF k else qQ C j s x.parent ⟨4,a,[]⟩ k
 |.each d i n k=>mI C g j s d (i+1) n k
 |.ov a=>ot C g j s r a .nil
end
end
section
variable(C:bt)(P:List b2)(j:Nat)(s:ao)
def go(C:bt)(P:List b2):Nat->Nat->ao->bU->K->Option ao
 |0,_,_,_,_=>none
 |n+1,j,s,r,k=>dw C P (go C P n j) j s r k
abbrev zA:Nat:=1000000
def er:Option ao:=do
 let t<-s.az[j]?
 if t.ij then ew j s (.fx (Dx j)) .polled else ew j s (.fx (yz C.bA j t.draw.toNat)) .found
def e3:Option ao:=ew j {s with ticks:=s.ticks -1} (.eS (yp C.dH s.bs)) .mb
def eh:Option ao:=do
 let t<-s.az[j]?
 let(o,k)<-t.on
 let(s,o):=acc C s o
 if o.over then go C P zA j {s with az:=s.az.set j {t with on:=none}} o k
 else some {s with az:=s.az.set j {t with on:=some (o,k)}}
def busy(j:Nat):Bool:=((s.az[j]?).bind (·.on)).isSome
def stepT(a:ao->Option ao)(j:Nat)(s:ao):Option ao:=
 if busy s j then eh C P j s else do eh C P j (<-a s)
structure cZ where
 kind:Int
 a:Int
 b:Int
 tag:cC
 n:Int
def quiet:Bool:=
 (List.range C.cB).all (λi=>!busy s (C.a1+i))&&!busy s (C.a1+C.cB)&&decide (s.ticks=0)&&
 (List.range C.a1).all (λi=>!busy s i&&((s.az[i]?).map (·.ij)).getD false&&!decide (s.L.getD (2+i) 0=0))
def ud:Option (ao×Bool):=
 if !busy s (C.a1+C.cB)/\s.ticks=0 then some (s,false)
 else(stepT C P (e3 C (C.a1+C.cB)) (C.a1+C.cB) s).map (·,true)
def ask(a:Nat):Option ao:=
 if s.notes.length<most/\1<=a/\a<=C.aZ then ew j {s with notes:=s.notes++[⟨0,0,[]⟩]} (.post a (Fa s.notes.length)) (.ov a)else none
def hand(e:cZ):Option (ao×Bool):=
 if e.a<0\/(C.cB:Int)<=e.a then some (s,false)
 else
  let j:=C.a1+e.a.toNat
  let gone:=s.shut||!decide (1<=e.b/\e.b<=s.aJ.length)
  if e.kind=2 then(if busy s j then(eh C P j s).map (·,true)else some (s,false))
  else if busy s j then some (s,false)
  else if e.kind=4 then
   if !mS e.tag\/e.n<0\/255<e.n then some (s,false)
   else if gone then(tell {c7 with kind:=1,cy:=-1 -e.a,to:=e.b,name:=e.tag,n:=e.n} s).map (·,true)
   else(Ce j s ⟨-1 -e.a,e.b,e.tag,e.n,false⟩ .nil).map (·,true)
  else if e.kind=5 then
   if gone then(tell {c7 with kind:=1,cy:=-1 -e.a,to:=e.b} s).map (·,true)
   else(ask C j s e.b.toNat).map (·,true)
  else if e.kind=7/\s.shut=false then(ask C j {s with shut:=true} 1).map (·,true)
  else some (s,false)
def jq(e:cZ):Option (ao×Bool):=
 if e.kind=1 then
  if e.a<0\/(C.a1:Int)<=e.a then some (s,false)
  else do
   let t<-s.az[e.a.toNat]?
   let s:={s with az:=s.az.set e.a.toNat {t with draw:=eU e.n}}
   (stepT C P (er C e.a.toNat) e.a.toNat s).map (·,true)
 else if e.kind=3 then ud C P s
 else if e.kind=6 then(if 64<=s.ticks then some (s,false)else some ({s with ticks:=s.ticks+1},true))
 else hand C P s e
def qU(f:Nat->ao->Option ao):List Nat->ao->Option ao
 |[],s=>some s
 |i::r,s=>do qU f r (<-f i s)
def round:Option ao:=do
 let s<-qU (λj s=>stepT C P (er C j) j s) (List.range C.a1) s
 let s<-qU (λi s=>if busy s (C.a1+i)then eh C P (C.a1+i) s else some s) (List.range C.cB) s
 (ud C P s).map (·.1)
def rest(C:bt)(P:List b2):Nat->ao->Option (ao×Bool)
 |0,s=>some (s,quiet C s)
 |n+1,s=>if quiet C s then some (s,true)else do rest C P n (<-round C P s)
def start:Option ao:=do
 let a:=List.replicate C.cells 0
 let b:=a.set 1 1
 let F:=(List.range C.a1).foldl (λL w=>(L.set (C.bA.cn w) 1).set (C.bA.cn w+1) 1) b
 let k<-P[0]?
 sX C P ⟨F,⟨0,0,[]⟩,[],[],[],[],[],[],0,0,false,List.replicate (C.a1+C.cB+1) ⟨none,0,false⟩⟩ 1 0 k.name
end
end Go.L.Th
namespace Go.Proofs.YtnnhpnccfnghdaaGreat.L
open Go.L Go.L.Lx Go.L.Pg Go.L.Th
attribute[local irreducible] G cE GE cY GT b0 df c4 di Exit.then Exit.inBlock
abbrev vm:=Int×Option Addr×Nat×List Int
section
variable(x:Int)(q r:Nat)(e:Option Addr×Nat×List Int){A:aq}{L:List mj}(E z c now:Int){w:cC}(es:List vm)(g:List (Int×List Int))
abbrev ES:Value:=hN e.1 e.2.1 e.2.2
abbrev ah5:aq:=dz e.1 e.2.1 e.2.2
abbrev pg:List (Int×Value):=es.map λp=>(p.1,ES p.2)
abbrev nm:List aq:=es.map λp=>ah5 p.2
abbrev oU:List (Int×List Int):=es.map λp=>(p.1,p.2.2.2)
def nO(r:Nat)(es:List vm):List aq:=[ab q 289 [af E,af z,.map (some r)],b3 r .i64 (pg es),ax (nm es)]
def h8:aq:=dj (bv:=Nat×List vm) (λe=>oU e.2=g) (λe=>nO q E z e.1 e.2)
instance aDs:gl e2 A 0 []:=⟨λ_=>.inl ⟨rfl,rfl,rfl⟩⟩
def Se{z:Type}:∀{es:List (Int×z)} {c:Int} {v:z},dJ es c=some v->∃i,es[i]?=some (c,v)/\∀w,eV es c w=es.set i (c,w)
 |
  (j,u)::r,c,v,h=>by
  simp only[dJ]at h;split at h
  . rename_i e;cases h;subst e;exact⟨0,rfl,λw=>by simp[eV]⟩
  . rename_i e
    obtain⟨i,h1,h2⟩:=Se h;exact⟨i+1,h1,λw=>by simp[eV,e,h2 w]⟩
def Sf{z:Type}:∀{es:List (Int×z)} {c:Int},dJ es c=none->∀w,eV es c w=es++[(c,w)]
 |[],c,_,w=>rfl
 |
  (j,u)::r,c,h,w=>by
  simp only[dJ]at h;split at h
  . cases h
  . rename_i e;simp[eV,e,Sf h w]
def Sg(c:Int):dU (oU es) c=((dJ es c).map (λe=>e.2.2)).getD []:=by
 unfold dU oU;rw[yT (λe:Option Addr×Nat×List Int=>e.2.2)]
def ah6:∀(es:List vm) (c:Int),oU (mz es c)=p1 (oU es) c
 |[],c=>rfl
 |
  (j,u)::r,c=>by
  simp only[mz,oU,gu,p1];split
  . rfl
  . simp only[gu];congr 1;exact ah6 r c
def ah7:∀(es:List vm) (c:Int),mz (pg es) c=pg (mz es c)
 |[],c=>rfl
 |
  (j,u)::r,c=>by
  simp only[mz,pg,gu];split
  . rfl
  . simp only[gu];congr 1;exact ah7 r c
def ah8{D:List aq}:∀(es:List vm) (c:Int),∀h,Sat (ax (nm es)::D) h->Sat (ax (nm (mz es c))::D) h
 |[],c,h,s=>s
 |
  (j,u)::r,c,h,s=>by
  simp only[mz];split
  . exact Sat.flat.2 (Sat.drop (Sat.flat.1 s))
  . have s1:Sat (ah5 u::(nm r++D)) h:=Sat.flat.1 s
    exact Sat.flat.2 (Sat.tail (r:=nm r++D) (m:=nm (mz r c)++D) (λh s=>Sat.flat.1 (ah8 r c h (Sat.flat.2 s))) s1)
def Sat.LY{B C:aq}{D:List aq}{h:eA}(s:Sat (A::B::C::D) h):Sat (B::C::A::D) h:=Sat.tail (r:=A::C::D) (λ_=>Sat.swap) (Sat.swap s)
def Sh{l:List aq}{A:aq}{i:Nat}{D:List aq}(e:l[i]?=some A):∀h,Sat (A::ax (l.set i ft)::D) h->Sat (ax l::D) h:=λh s=>by
 obtain⟨ak,rfl⟩:=dc.1 e;have:=uU ak h s;rwa[yL]at this
def atg{es:List vm}{c:Int}(h:dJ es c=none):dJ (oU es) c=none:=by
 unfold oU;rw[yT (λe:Option Addr×Nat×List Int=>e.2.2),h];rfl
def ath{es:List vm}{c:Int}(h:dJ es c=none):dJ (pg es) c=none:=by
 unfold pg;rw[yT ES,h];rfl
def ati{es:List vm}{c:Int}{e:Option Addr×Nat×List Int}(h:dJ es c=some e):dJ (pg es) c=some (ES e):=by
 unfold pg;rw[yT ES,h];rfl
def qG(l:List Int)(now:Int):Int:=max (E -((l.filter (λt=>!decide (t<=ht now -z))).length:Int)) 0
def KD:ad aa 354 [af x] [] (aH (af (ht x)) []):=by
 refine aw Tryz.func354 λF D=>?_;refine bQ ?_;refine aB rfl (tc (max x 0) ae rfl rfl) ?_;refine aB rfl (td (ht x) Pk rfl rfl) ?_;refine bB ?_;exact aX ⟨rfl,rfl⟩
def asa:ad aa 115 [af E,af z] [] (λu H=>∃q,u=ptr q 0/\H=[h8 q (min (max E 0) 100) (min (max z 1) 4095) []]):=by
 refine aw Tryz.func115 λF D=>?_;refine bQ ?_;refine aB rfl (tc (max E 0) ae rfl rfl) ?_;refine aB rfl (td (min (max E 0) 100) ae rfl rfl) ?_;refine aG ?_;refine aB rfl (tc (max z 1) ae rfl rfl) ?_;refine aB rfl (td (min (max z 1) 4095) ae rfl rfl) ?_;refine wn λb=>?_;refine aG ?_;refine wn λf=>?_;refine bB ?_;exact aX ⟨f,rfl,rfl⟩ (cF (b,[]) rfl (λh s=>Sat.tail (λh s=>Br h (Sat.swap (wR h s))) s))
def ah9(bz gT:Nat)(E z now x:Int)(m:Value)(aM:0<=now/\now<=1099511627776)(O:1<=z/\z<=4095):ad aa 398 [af x,ptr gT 0,ptr bz 0] Ql (aH (.bool (decide (x<=now -z))) Ql):=by
 refine aw Tryz.func398 λF D=>?_;refine bi ?_;refine cu [] [9] Ql ?_;refine bi ?_;refine go_v rfl .none rfl (kl (now -z) (je ae) rfl rfl) ?_;exact Dd
def atj(av:0<=E/\E<=100)(O:1<=z/\z<=4095)(i:Nat)(a0:Option Addr)(fd:Nat)(l:List Int)(aF:dJ es c=some (a0,fd,l))(ak:es[i]?=some (c,a0,fd,l))(L:l.length<=1099511627776):ad aa 353 [ptr q 0,af c,af now] (nO q E z r es) (aH (af (qG E z l now)) (nO q E z r es)):=by
 refine aw Tryz.func353 λF D=>?_;unfold nO;have g7:0<=ht now/\ht now<=1099511627776:=Pk;refine gh ?_;have b:∀l:List Int,l.length<=1099511627776->-9223372036854775808<=E -((l.filter (λx=>!decide (x<=ht now -z))).length:Int)/\E -((l.filter (λx=>!decide (x<=ht now -z))).length:Int)<=9223372036854775807:=λl av=>ZN;have g3:(nm es)[i]?=some (dz a0 fd l):=(by unfold nm;rw[fs,ak];rfl);refine bb ?_;refine wn λZ=>?_;refine wn λaU=>?_;refine bi ?_;refine aT (KD now) ?_;refine c8 ?_;refine aB rfl (l0 (hN a0 fd l) Pl rfl rfl) ?_;refine aqJ ey g3 ?_;refine ci rfl (b1 rfl (ET a0 fd l.length (iC l) (dz a0 fd l) (Si l) (Sj l) ae) bF) ?_;rintro _ D ⟨_,⟨a,k,rfl,rfl⟩,rfl⟩;refine rV ?_;refine aT (KE l a k 398 [ptr aU 0,ptr Z 0] [ab aU 3 [af (ht now)],ab Z 113 [ptr q 0],ab q 289 [af E,af z,.map (some r)]] (λt=>decide (t<=ht now -z)) L (λx _=>ah9 q Z aU E z (ht now) x (.map (some r)) g7 O)) ?_;refine c0 ?_;refine aB rfl (kl (E -((l.filter (λx=>!decide (x<=ht now -z))).length:Int)) (je (b l L)) rfl rfl) ?_;refine aB rfl (tc (qG E z l now) (by unfold qG;omega) rfl rfl) ?_;refine bB ?_;exact aX (H:=(nO q E z r es)) dI (by unfold nO;exact λh s=>Sat.LY (Sh g3 h ((au) h s)))
def ac0(av:0<=E/\E<=100)(O:1<=z/\z<=4095)(aA:∀p∈es,p.2.2.2.length<=1099511627776):ad aa 353 [ptr q 0,af c,af now] (nO q E z r es) (aH (af (qG E z (dU (oU es) c) now)) (nO q E z r es)):=by
 rw[Sg];cases aF:dJ es c with
 |
  none=>
  refine aw Tryz.func353 λF D=>?_;unfold nO;have g7:0<=ht now/\ht now<=1099511627776:=Pk;simp only[cp,cm];have b:∀l:List Int,l.length<=1099511627776->-9223372036854775808<=E -((l.filter (λx=>!decide (x<=ht now -z))).length:Int)/\E -((l.filter (λx=>!decide (x<=ht now -z))).length:Int)<=9223372036854775807:=λl av=>ZN;refine bb ?_;refine wn λZ=>?_;refine wn λaU=>?_;refine bi ?_;refine aT (KD now) ?_;refine c8 ?_;refine aB rfl (l0 (.slice none 0 0) Pl rfl rfl) ?_;refine rp x8 ?_;refine ci rfl (b1 rfl (ET none 0 0 [] ft rfl rfl bJ) bF) ?_;rintro _ D ⟨_,⟨a,k,rfl,rfl⟩,rfl⟩
  try simp only[cp,cm]
  refine aG ?_;refine ci rfl (b1 rfl (KE [] a k 398 [ptr aU 0,ptr Z 0] [ab aU 3 [af (ht now)],ab Z 113 [ptr q 0],ab q 289 [af E,af z,.map (some r)]] (λt=>decide (t<=ht now -z)) ga (λx _=>ah9 q Z aU E z (ht now) x (.map (some r)) g7 O)) bF) ?_;rintro _ D ⟨_,⟨rfl,rfl⟩,rfl⟩
  try simp only[cp,cm]
  refine c0 ?_;refine aB rfl (kl (E -((([]:List Int).filter (λx=>!decide (x<=ht now -z))).length:Int)) (je (b ([]:List Int) ga)) rfl rfl) ?_;refine aB rfl (tc (qG E z ([]:List Int) now) (by unfold qG;omega) rfl rfl) ?_;refine bB ?_;exact aX (H:=(nO q E z r es)) ⟨rfl,rfl⟩ (by unfold nO;exact(au))
 |
  some e=>
  obtain⟨a0,fd,l⟩:=e;obtain⟨i,ak,_⟩:=Se aF;exact atj q r E z c now es av O i a0 fd l aF ak (aA _ (js ak))
def atk(av:0<=E/\E<=100)(O:1<=z/\z<=4095)(aA:∀p∈es,p.2.2.2.length<=1099511627776)(T:qG E z (dU (oU es) c) now=0):ad aa 303 [ptr q 0,af c,af now] (nO q E z r es) (aH gR [h8 q E z (oU es)]):=by
 refine aw Tryz.func303 λF D=>?_;refine c0 ?_;refine ci rfl (b1 rfl (ac0 q r E z c now es av O aA) w2) ?_;refine hb ?_;refine fm ?_;refine aB rfl ac2 ?_;refine c0 ?_;exact aX ⟨rfl,rfl⟩ (cF (r,es) rfl (au))
def zz(c now:Int):List (Int×List Int):=if qG E z (dU g c) now=0 then g else eV g c (dU g c++[ht now])
def atl(av:0<=E/\E<=100)(O:1<=z/\z<=4095)(aA:∀p∈g,p.2.length<1099511627776):ad aa 303 [ptr q 0,af c,af now] [h8 q E z g] (aH (.bool (!decide (qG E z (dU g c) now=0))) [h8 q E z (zz E z g c now)]):=by
 refine kz (λe V=>?_);obtain⟨r,es⟩:=e;replace V:oU es=g:=V;subst V;rw[jr];have Q:∀p∈es,p.2.2.2.length<1099511627776:=λp hp=>aA (p.1,p.2.2.2) (lU.2 ⟨p,hp,rfl⟩);have j:∀p∈es,p.2.2.2.length<=1099511627776:=λp hp=>xq (Q p hp);unfold zz;by_cases T:qG E z (dU (oU es) c) now=0
 . rw[bd T,kM T];exact atk q r E z c now es av O j T
 . rw[a8 T,mO T]
   cases aF:dJ es c with
   |
    none=>
    refine aw Tryz.func303 λF D=>?_;refine c0 ?_;refine ci rfl acZ ?_;rintro _ D ⟨_,⟨rfl,rfl⟩,rfl⟩
    try simp only[cp,cm]
    refine aB rfl QM ?_;refine bi ?_;simp only[nO,cp,cm];refine nu (iV (e:=3) (aY:=1)) ?_;refine cu [12,13,14] [111,1,204] acQ ?_;refine c8 ?_;refine go_vs rfl .none rfl (l0 e2 Pl rfl rfl) (au) ?_;refine aG ?_;refine aT (KD now) ?_;refine aG ?_;refine wn λn=>?_;refine aG ?_;refine gQ λa b=>?_;refine c0 ?_;exact aX ⟨rfl,rfl⟩ (cF (r,es++[(c,a,b,[ht now])]) (by rw[Sg,aF];show oU (es++_)=_;rw[Sf (atg aF)];simp[oU]) (by simp only[nO];rw[Sf (ath aF),show pg (es++[(c,a,b,[ht now])])=pg es++[(c,hN a b [ht now])]from by simp[pg],show nm (es++[(c,a,b,[ht now])])=nm es++[dz a b [ht now]]from by simp[nm]];exact λh s=>Sat.LY (ty (A:=dz a b [ht now]) (l:=nm es) h ((au) h s))))
   |
    some e=>
    obtain⟨a0,fd,l⟩:=e;obtain⟨i,ak,d⟩:=Se aF;have L:l.length<1099511627776:=(Q _ (js ak));refine aw Tryz.func303 λF D=>?_;have g3:(nm es)[i]?=some (dz a0 fd l):=(by unfold nm;rw[fs,ak];rfl);obtain⟨B,-⟩:=dc.1 ak;refine c0 ?_;refine ci rfl acZ ?_;rintro _ D ⟨_,⟨rfl,rfl⟩,rfl⟩
    try simp only[cp,cm]
    refine aB rfl QM ?_;refine bi ?_;simp only[nO,cp,cm];refine u1 ey g3 ?_;refine cu [12,13,14] [111,1,204] acQ ?_;refine c8 ?_;refine go_vs rfl .none rfl (l0 (hN a0 fd l) (by rw[ati aF];rfl) rfl rfl) (au) ?_;refine aG ?_;refine aT (KD now) ?_;refine aG ?_;refine wn λn=>?_;refine aG ?_;refine gQ λa b=>?_;refine c0 ?_;exact aX ⟨rfl,rfl⟩ (cF (r,eV es c (a,b,l++[ht now])) (by rw[Sg,aF];exact(D1 (λe:Option Addr×Nat×List Int=>e.2.2) es c (a,b,l++[ht now])).symm) (by simp only[nO];rw[show pg (eV es c (a,b,l++[ht now]))=eV (pg es) c (hN a b (l++[ht now]))from(D1 ES es c (a,b,l++[ht now])).symm,show nm (eV es c (a,b,l++[ht now]))=(nm es).set i (dz a b (l++[ht now]))from by rw[d];simp[nm,tE]];exact λh s=>Sat.LY (uU (A:=dz a b (l++[ht now])) (l:=nm es) (by simpa[nm]using B) h (by rw[<-atm rfl,show hN a b (l++[ht now])=.slice a (l.length+1) b from by simp[hN]]at*;exact(au) h s))))
def atn:ad aa 248 [ptr q 0,af c] [h8 q E z g] (aH eu [h8 q E z (p1 g c)]):=by
 refine aw Tryz.func248 λF D=>?_;refine kK ey ?_;rintro⟨r,es⟩ a;replace a:oU es=g:=a;subst a;simp only[nO,cp,cm];refine bi ?_;refine A9 (Pc rfl rfl) ?_;rintro _ _ ⟨rfl,rfl⟩;refine bb ?_;exact aX ⟨rfl,rfl⟩ (cF (r,mz es c) (ah6 es c) (by simp only[nO];rw[ah7];exact λh s=>Sat.LY (ah8 es c h ((au) h s))))
def ato(ay:Nat)(w:cC)(x:mj):ad aa 351 [.agg (jN x).toArray,ptr ay 0] Aj (aH (.bool (decide (x.reason=w))) Aj):=by
 refine aw Tryz.func351 λF D=>?_;exact L3
def atp(h:¬0<=fix (λx:mj=>decide (x.reason=w)) L):L.find? (λx=>decide (x.reason=w))=none:=by
 rw[Sk,Bool.not_eq_true,EU]at h;rw[Sl];exact h
def atq(h:0<=fix (λx:mj=>decide (x.reason=w)) L):∃(i:Nat) (x:mj),fix (λx:mj=>decide (x.reason=w)) L=i/\L[i]?=some x/\L.find? (λx=>decide (x.reason=w))=some x:=by
 cases ba:L.find? (λx=>decide (x.reason=w))with
 |none=>rw[aff ba]at h;exact absurd h bJ
 |some x=>obtain⟨i,h1,h2,_⟩:=CO ba;exact⟨i,x,h1,h2,rfl⟩
def arE(k:b2)(reason:cC)(a2:aq)[gl Ah a2 k.cases.length vQ](aM:k.cases.length<=4611686018427387904):ad aa 299 [.agg (eK k).toArray,S reason] [a2] (aH (af (direct k reason)) [a2]):=by
 refine aw Tryz.func299 λF D=>?_;refine bb ?_;refine wn λU=>?_;refine cq ?_;refine wn λco=>?_;refine bB ?_;refine gG (bv:=Nat) (λx=>x<=2/\(1<=x->k.cases.find? (λc=>decide (c.reason=reason))=none)/\(2<=x->k.cases.find? (λc=>decide (c.reason=[]))=none)) (λx=>[(11,af x),(10,af 2),(9,.slice (some ⟨co,0,none⟩) 2 2),(2,ptr U 0)]) (λ_=>ab co 9 [S reason,S []]::ab U 78 (eK k)::a2::D) (λx=>2 -x) 0 (⟨by decide,(λh=>by omega),(λh=>by omega)⟩) dy (au) ?_;rintro x ⟨ah,T,m⟩;replace ah:x<=2:=ah;replace T:1<=x->k.cases.find? (λc=>decide (c.reason=reason))=none:=T;replace m:2<=x->k.cases.find? (λc=>decide (c.reason=[]))=none:=m;refine bi ?_;refine cg (λW=>?_) (λW=>?_)
 . obtain⟨w,O,b⟩:∃w,([S reason,S []]:List Value)[x]?=some (S w)/\(x=0/\w=reason\/x=1/\w=[]):=(by rcases(show x=0\/x=1 by omega)with rfl|rfl;exact⟨reason,rfl,.inl dI⟩;exact⟨[],rfl,.inr dI⟩)
   refine bi ?_;refine aB rfl (fI rfl rfl (show x<2 by omega)) ?_;refine aB rfl (gz rfl (by rw[uu];exact O)) ?_;refine wn λaS=>?_;refine bQ ?_;refine aT (atr k.cases k.ca k.km 351 [ptr aS 0] [a2,ab aS 9 [S w]] (λx=>decide (x.reason=w)) aM (λh s=>iW.get s) (λx _=>ya (ato aS w x))) ?_;refine cv ?_;refine cg (λM=>?_) (λM=>?_)
   . obtain⟨i,km,d,J,a⟩:=atq M
     rw[d];refine bB ?_;refine aB rfl (fI rfl rfl (dc.1 J).1) ?_;refine aG ?_;refine aB rfl (gz rfl (rT jN 2 Am J rfl)) ?_;refine c8 ?_;exact aX ⟨by unfold direct;rcases b with⟨rfl,rfl⟩|⟨rfl,rfl⟩;rw[a];rw[T bJ,a],rfl⟩
   . have a:=atp (Pz.2 M)
     refine C6 ?_;refine fD (x+1) ⟨show x+1<=2 by omega,λ_=>(by rcases b with⟨rfl,rfl⟩|⟨rfl,rfl⟩;exact a;exact T (by decide)),λh=>(by rcases b with⟨rfl,rfl⟩|⟨rfl,rfl⟩;omega;exact a)⟩ (show 2 -(x+1)<2 -x by omega) dy (au)
 . obtain rfl:x=2:=by omega
   refine dC ?_;exact aX ⟨by unfold direct;rw[T bJ,m bJ],rfl⟩
end
abbrev np:=Int×Int×Int
section
variable(cs:List (Int×Int))(q rc n:Nat)(d:List np)(e:np)(w:Int)
def B7:List Value:=[bw e.1,af e.2.1,af e.2.2]
def aiF:(B7 e).length=3:=rfl
def oW(why:Int):Nat:=(d.filter λe=>decide (e.2.2=why)).length
def xx(rc:Nat):Nat->List np->List np->List np
 |_,[],row=>row
 |k,e::d,row=>xx rc (k+1) d (row.set (k%rc) e)
def tU:List np:=xx rc 0 d (List.replicate rc (0,0,0))
def aiG(rc:Nat)(e:np):∀(d:List np) (k:Nat) (row:List np),xx rc k (d++[e]) row=(xx rc k d row).set ((k+d.length)%rc) e
 |[],k,row=>rfl
 |x::d,k,row=>by simp only[cp,xx,aiG rc e d (k+1),iE];congr 2;omega
def au0:tU rc (d++[e])=(tU rc d).set (d.length%rc) e:=by unfold tU;rw[aiG,lu]
def aiH(rc:Nat):∀(d:List np) (k:Nat) (row:List np),(xx rc k d row).length=row.length
 |[],k,row=>rfl
 |x::d,k,row=>by simp only[xx,aiH rc d,gn]
def KM:(tU rc d).length=rc:=by unfold tU;rw[aiH,Vd]
def au1:oW (d++[e]) w=oW d w+if e.2.2=w then 1 else 0:=by
 unfold oW;rw[yV,eL];by_cases h:e.2.2=w<;>simp[h]
def au2:(tU n []).flatMap B7=iH [bw 0,af 0,af 0] n:=by
 unfold tU xx
 induction n with
 |zero=>rfl
 |succ n K=>rw[List.replicate_succ,pG,K];rfl
abbrev zD:List (Int×Value):=cs.map λp=>(p.1,af p.2)
def SI:Prop:=∀w,(dJ cs w).getD 0=(oW d w:Int)
def su:Nat:=if rc=0 then 0 else n%rc
def aiI{rc n:Nat}(h:0<rc):su rc n=n%rc:=by unfold su;rw[a8 ae]
def E1(r:Nat)(a:Option Addr)(c:Nat)(cs:List (Int×Int)):List aq:=[ab q 168 [.map (some r),.slice a rc c,af ((su rc d.length:Nat):Int),af d.length],b3 r .i64 (zD cs),own (.slice a rc c) 54 3 rc ((tU rc d).flatMap B7)]
def ez:aq:=dj (bv:=Nat×Option Addr×Nat×List (Int×Int)) (λe=>SI e.2.2.2 d) (λe=>E1 q rc d e.1 e.2.1 e.2.2.1 e.2.2.2)
def au3(E:Value)(T:E=af 0):(dJ (zD cs) w).getD E=af ((dJ cs w).getD 0):=by
 subst T;unfold zD;rw[yT af];cases dJ cs w<;>rfl
def aiJ{cs:List (Int×Int)}{d:List np}(h:SI cs d)(i t w:Int):SI (eV cs w ((oW d w:Int)+1)) (d++[(i,t,w)]):=λv=>by
 rw[O7,au1];by_cases e:v=w
 . subst e;simp
 . rw[a8 e,a8 (λh=>e h.symm)];exact h v
def au4:oW d w<=d.length:=qw _ _
def au5{α:Type}(f:α->List Value)(aY:Nat)(ba:∀x,(f x).length=aY){l:List α}{k:Nat}(e:α)(hk:k<l.length):kD (l.flatMap f) (k*aY) (f e)=(l.set k e).flatMap f:=by
 have av:=k0 f aY ba l;have o:(k+1)*aY<=l.length*aY:=pW _ hk;rw[nc,vj]at o;rw[tl _ _ _ (by rw[ba,av];exact o),ba];have ay:(l.flatMap f).take (k*aY)=(l.take k).flatMap f:=by
  have aV:l.flatMap f=(l.take k).flatMap f++(l.drop k).flatMap f:=ZT;rw[aV,D4 U2]
 have bz:(l.flatMap f).drop (k*aY+aY)=(l.drop (k+1)).flatMap f:=by
  rw[show k*aY+aY=(k+1)*aY by rw[nc,vj]];exact Io f aY ba l (k+1)
 rw[ay,bz,amH,bd hk,re,pG,jE]
def asq(rc:Int)(aE:0<=rc/\rc<=64):ad aa 57 [af rc] [] (λu H=>∃q,u=ptr q 0/\H=[ez q rc.toNat []]):=by
 refine aw Tryz.func57 λF D=>?_;refine cq ?_;refine wn λZ=>?_;refine aG ?_;refine aB rfl (tc rc ae rfl rfl) ?_;refine aB rfl (td ((rc.toNat:Nat):Int) ae rfl rfl) ?_;refine iX rfl (Gl (k:=rc.toNat) rfl rfl AG ae) ?_;rintro _ _ ⟨e,S,rfl,rfl⟩;refine aG ?_;refine wn λco=>?_;refine bB ?_;exact aX ⟨co,rfl,rfl⟩ (cF (Z,e,S,[]) (λw=>rfl) (by dsimp only[E1];rw[au2,show su rc.toNat ([]:List np).length=0 from(by unfold su;split;rfl;exact Nat.zero_mod _)];exact λh s=>Sat.tail (λh s=>Br h (Sat.swap s)) s))
def au6(i t w:Int)(aE:rc<=64)(O:1<=w/\w<=5)(aL:d.length<=1099511627776):ad aa 204 [ptr q 0,bw i,af t,af w] [ez q rc d] (aH (af 0) [ez q rc (d++[(i,t,w)])]):=by
 refine aw Tryz.func204 λF D=>?_;refine kK ey ?_;rintro⟨r,a,c,cs⟩ B;replace B:=B;simp only[E1,cp,cm];have g:=au4 d w;have L:(d++[((i,t,w):np)]).length=d.length+1:=ga;refine cv ?_;refine cP ?_;refine bK ?_;refine cP ?_;refine fr ?_;refine aB rfl (l0 (af (oW d w)) (by rw[au3 _ _ _ rfl,B w]) rfl rfl) ?_;refine aB rfl (fk ((oW d w:Int)+1) (je ae) rfl rfl) ?_;refine cv ?_;refine aB rfl (fk ((d.length:Int)+1) (je ae) rfl rfl) ?_;refine oz ?_;refine cg (λW=>?_) (λW=>?_)
 . have U:0<rc:=by omega
   have e:d.length%rc<rc:=wS _ ae;have b:=aiI (n:=d.length) U;have f:su rc (d.length+1)=(su rc d.length+1)%rc:=(by rw[aiI U,b,Nat.mod_add_mod]);refine aG ?_;refine cu [] [13,201] abH ?_;refine dC ?_;refine JO ?_;refine go_u rfl .none (Ir (ce:=B7 (i,t,w)) rfl rfl rfl rfl (show su rc d.length*3+3<=_ by rw[k0 B7 3 aiF,KM];omega) (show 0<3 by decide)) An ?_;refine bb ?_;refine cu [] [14,201] abH ?_;refine bB ?_;refine go_v rfl .none rfl (fk (((su rc d.length+1:Nat):Int)) eZ rfl rfl) ?_;refine bB ?_;refine go_v rfl .none rfl (r0 (((su rc d.length+1)%rc:Nat):Int) (Bm _ _) rfl rfl ae) ?_;refine dC ?_;exact aX ⟨rfl,rfl⟩ (cF (r,a,c,eV cs w ((oW d w:Int)+1)) (aiJ B i t w) (by dsimp only[E1];rw[L,au0,<-au5 B7 3 aiF _ (by rw[KM];exact e),f,<-b,Int.natCast_add d.length 1,show zD (eV cs w ((oW d w:Int)+1))=eV (zD cs) w (af ((oW d w:Int)+1))from(D1 af cs w ((oW d w:Int)+1)).symm];exact(au)))
 . obtain rfl:rc=0:=by omega
   refine cv ?_;exact aX ⟨rfl,rfl⟩ (cF (r,a,c,eV cs w ((oW d w:Int)+1)) (aiJ B i t w) (by dsimp only[E1];rw[L,show tU 0 (d++[((i,t,w):np)])=tU 0 d from by rw[rY (KM 0 d),rY (KM 0 _)],Int.natCast_add d.length 1,show zD (eV cs w ((oW d w:Int)+1))=eV (zD cs) w (af ((oW d w:Int)+1))from(D1 af cs w ((oW d w:Int)+1)).symm];exact(au)))
end
end Go.Proofs.YtnnhpnccfnghdaaGreat.L
