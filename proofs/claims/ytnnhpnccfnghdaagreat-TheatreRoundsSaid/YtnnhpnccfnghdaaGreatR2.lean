import Derived.Test.YtnnhpnccfnghdaaGreatR1
import Derived.Laws.AppendOwn
import Derived.Laws.MakeOwn
import Derived.Laws.IdiomMaps
import Derived.Laws.StructEq
import Derived.ProofKit
import Derived.OpenShut
import Derived.ShutString
import Derived.ChangeOld
import Derived.Below
import Derived.Deep.Slices
import Derived.Deep.Strs
import Derived.JoinedCond
import Derived.Carry
import Derived.SizedLaws
set_option linter.all false
namespace Go.L
section
variable(h:eA)(v:Value)(e:TypeId)(aY n:Nat)(xs:List Value)
def tG:Value->Nat
 |.slice (some a) _ _=>a.block
 |_=>0
def tH:Value->Nat
 |.slice (some a) _ _=>a.off
 |_=>0
def el(m:Nat):Value:=.pointer (some ⟨tG v,tH v+m,none⟩)
def gI:Prop:=
 (v=.slice none 0 0/\xs=[]/\n=0)\/∃b bO H C,v=.slice (some ⟨b,bO,H⟩) n C/\(0<n->H=none)/\(∀j x,xs[j]?=some x->H=none/\∃cs e R,h b=some (.cells cs e R)/\cs[bO+j]?=some x)
def oh:Prop:=
 xs.length=n*aY/\((v=.slice none 0 0/\n=0)\/∃b C dx,v=.slice (some ⟨b,0,none⟩) n C/\(xs++dx).length=C*aY/\n<=C/\C<=maxLen/\h b=some (.cells (xs++dx).toArray e (0,0)))
def own:aq:=λh=>oh h v e aY n xs
end
section
variable{h k:eA}{v:Value}{A:aq}{e:TypeId}{aY n:Nat}{D:List aq}{xs:List Value}{r:List aq}
def base(W:World):aq:=λh=>∀b,b<W.heap.size->h b=W.heap[b]?
class iW(v:Value)(M:List aq)(n:outParam Nat)(xs:outParam (List Value)):Prop where
 get:∀{h:eA},Sat M h->gI h v n xs
class sn(v:Value)(M:List aq)(e:outParam TypeId)(aY n:outParam Nat)(xs:outParam (List Value))(u:outParam (List Value->List aq)):Prop where
 get:∀{h:eA},Sat M h->oh h v e aY n xs
 set:∀{h:eA} {b C:Nat} {dx:List Value} (U:List Value),Sat M h->v=.slice (some ⟨b,0,none⟩) n C->h b=some (.cells (xs++dx).toArray e (0,0))->U.length=xs.length->Sat (u U) (j3 h b (.cells (U++dx).toArray e (0,0)))
def gI.imp(s:gI h v n xs)(f:∀b o,h b=some o->k b=some o):gI k v n xs:=by
 rcases s with s|⟨b,bO,H,C,h1,h2,aN⟩
 . exact .inl s
 . exact .inr ⟨b,bO,H,C,h1,h2,λj x ah=>let⟨bu,cs,e,R,dW,g1⟩:=aN j x ah;⟨bu,cs,e,R,f _ _ dW,g1⟩⟩
def gI.more(s:gI h v n xs):gI (join h k) v n xs:=s.imp λ_ _ e=>join_some e
def oh.rd(s:oh h v e aY n xs):gI h v n xs:=by
 obtain⟨av,s|⟨b,C,dx,h1,h2,aN,bu,dW⟩⟩:=s
 . obtain⟨s1,rfl⟩:=s;exact .inl ⟨s1,rY (by simpa using av),rfl⟩
 . refine .inr ⟨b,0,none,C,h1,λ_=>rfl,λj x ah=>⟨rfl,_,e,_,dW,?_⟩⟩
   have N:=(dc.1 ah).1;simp[k1 N,ah]
def oh.more(s:oh h v e aY n xs):oh (join h k) v e aY n xs:=by
 obtain⟨av,s|⟨b,C,dx,h1,h2,aN,bu,dW⟩⟩:=s
 . exact⟨av,.inl s⟩
 . exact⟨av,.inr ⟨b,C,dx,h1,h2,aN,bu,join_some dW⟩⟩
instance iW.own:iW v (own v e aY n xs::r) n xs where
 get:=fun⟨_,_,_,e,aW,_⟩=>e▸(oh.rd aW).more
instance iW.tail[i:iW v r n xs]:iW v (A::r) n xs where
 get:=λs=>i.get uI
class gl(v:Value)(A:aq)(n:outParam Nat)(xs:outParam (List Value)):Prop where
 get:∀{h:eA},A h->gI h v n xs
instance iW.part[i:gl v A n xs]:iW v (A::r) n xs where
 get:=fun⟨_,_,_,e,aW,_⟩=>e▸(i.get aW).more
instance iW.lit{b n C:Nat}{e:TypeId}{xs:List Value}{r:List aq}:iW (.slice j0 n C) (ab b e xs::r) n xs where
 get:=fun⟨_,_,_,ay,aW,_⟩=>ay▸.inr ⟨b,0,none,C,rfl,λ_=>rfl,λj x ah=>⟨rfl,xs.toArray,e,(0,0),join_some aW,by simpa using ah⟩⟩
instance sn.head:sn v (own v e aY n xs::r) e aY n xs (λU=>own v e aY n U::r)where
 get:=fun⟨_,_,_,e,aW,_⟩=>e▸oh.more aW
 set:=fun{_ b C dx} U ⟨h1,h2,d,gr,aW,aE⟩ Y aA av=>by
  subst gr;obtain⟨W,s|⟨l,p,a,cS,cd,ir,eM,f⟩⟩:=aW
  . rw[s.1]at Y;cases Y
  . have:l=b:=by rw[cS]at Y;simp only[Value.slice.injEq,Option.some.injEq,Addr.mk.injEq]at Y;exact Y.1.1
    subst this;have cl:(xs++a).toArray=(xs++dx).toArray:=by
     have:=join_some (h2:=h2) f;rw[aA]at this;simp only[Option.some.injEq,Obj.cells.injEq]at this;exact this.1.symm
    have o:a=dx:=by
     have:=congrArg Array.toList cl;simpa using this
    subst o;obtain⟨ay,d1⟩:=uH (S:=.cells (U++a).toArray e (0,0)) f d;exact⟨_,h2,d1,ay,⟨by rw[av,W],.inr ⟨l,p,a,cS,by rw[eL,av,<-eL];exact cd,ir,eM,by simp[j3]⟩⟩,aE⟩
instance sn.tail{u:List Value->List aq}[i:sn v r e aY n xs u]:sn v (A::r) e aY n xs (λU=>A::u U)where
 get:=λs=>i.get uI
 set:=fun{_ b C dx} U ⟨h1,h2,d,gr,aW,aE⟩ Y aA av=>by
  subst gr;have j:h2 b=some NS:=by
   obtain⟨_,s|⟨l,p,a,cS,_,_,_,f⟩⟩:=i.get aE
   . rw[s.1]at Y;cases Y
   . have:l=b:=by rw[cS]at Y;simp only[Value.slice.injEq,Option.some.injEq,Addr.mk.injEq]at Y;exact Y.1.1
     subst this;have:=join_some (h2:=h1) f;rw[join_comm d.symm]at this;rw[aA]at this;rw[f,<-this]
  obtain⟨ay,d1⟩:=uH (S:=.cells (U++dx).toArray e (0,0)) j d.symm;refine⟨h1,_,d1.symm,?_,aW,i.set U aE Y j av⟩;rw[join_comm d,ay,join_comm d1]
def Zk{A:aq}{D:List aq}:∀h,Sat (A::D) h->Sat (A::own e2 e aY 0 []::D) h:=λ_ s=>
 Sat.tail (r:=D) (m:=own e2 e aY 0 []::D) (λh s=>ZE) s
def iV:∀h,Sat D h->Sat (own e2 e aY 0 []::D) h:=λh s=>
 ZE
def oh.form(s:oh h v e aY n xs):∃a C,v=.slice a n C:=by
 obtain⟨_,⟨rfl,rfl⟩|⟨b,C,_,rfl,_⟩⟩:=s
 . exact⟨_,_,rfl⟩
 . exact⟨_,_,rfl⟩
end
section
variable{P:Program}{F w:World}{n:Nat}{I:eT}{M:List aq}{bD:TypeId}
section
variable{x y:Operand}{t:TypeId}{v:Value}{j k e m aY:Nat}{d6:IntKind}{xs:List Value}
def arx[i:jS P t e aY][r:iW v M k xs](h:ck I x=some v):b0 P F n Oi bD I M (.int .i64 k):=λa w d pos J g aj s=>by
 obtain⟨z,h1,h2,aN⟩:=i.out;simp only[execOp,resolve,oN,gu,mT,aj.eval h];rcases r.get s.e4 with⟨rfl,_,rfl⟩|⟨b,bO,H,C,rfl,_,_⟩<;>simp[invoke,builtin,Builtin.len_,gH h1,goInt]
def fI[i:jS P t e aY][r:iW v M k xs](h:ck I x=some v)(ag:ck I y=some (.int d6 (j:Int)))(N:j<k):b0 P F n (.indexAddr t x y) bD I M (el v (j*aY)):=λa w d pos J g aj s=>by
 obtain⟨z,h1,h2,aN⟩:=i.out;simp only[execOp,aj.eval h,aj.eval ag];rcases r.get s.e4 with⟨_,_,rfl⟩|⟨b,bO,H,C,rfl,o,_⟩
 . omega
 . obtain rfl:=o ae
   have bh:(0:Int)<=j/\(j:Int)<k:=ae;simp[Instr.indexAt,asIntOf,gH h1,jM h2,aN,N,el,tG,tH,Addr.add]
def l1{b o j len aY:Nat}{d6:IntKind}[i:Bf P t len aY](h:ck I x=some (ptr b o))(ag:ck I y=some (.int d6 (j:Int)))(N:j<len):b0 P F n (.indexAddr t x y) bD I M (ptr b (o+j*aY)):=λa w d pos J g aj s=>by
 obtain⟨e,z,h1,h2,aN⟩:=i.out;simp only[execOp,aj.eval h,aj.eval ag];simp[Instr.indexAt,Instr.sureAddr,asIntOf,gH h1,jM h2,aN,N,Addr.add]
def tC{s:TypeId}{x:Operand}{v:Value}{f m bO:Nat}[i:bS P s f bO](h:ck I x=some (el v m)):b0 P F n (.fieldAddr s x f) bD I M (el v (m+bO)):=by
 have:=nG (P:=P) (F:=F) (n:=n) (bD:=bD) (M:=M) (f:=f) (i:=i) (x:=x) (b:=tG v) (o:=tH v+m) h;rw[show el v (m+bO)=ptr (tG v) (tH v+m+bO) by simp[el,n3]];exact this
def Pd{x:Value}(h:gI (fR w) v k xs)(ah:xs[m]?=some x):w.cell? ⟨tG v,tH v+m,none⟩=some x:=by
 rcases h with⟨_,rfl,_⟩|⟨b,bO,H,C,rfl,_,aN⟩
 . simp at ah
 . obtain⟨_,cs,e,R,h2,bu⟩:=aN _ _ ah
   have aA:w.heap[b]?=_:=h2;simp[tG,tH,World.cell?,aA,bu]
end
section
variable{t e:TypeId}{x y:Operand}{v:Value}{m k aY bytes:Nat}{xs U ce:List Value}
def gz{y:Value}{m k:Nat}{xs:List Value}[i:eQ P t][r:iW v M k xs](h:ck I x=some (el v m))(ag:xs[m]?=some y):b0 P F n (.load t x) bD I M y:=λa w d pos J g aj s=>by
 obtain⟨E,h1,h2⟩:=i.out;have a6:=Pd (r.get s.e4) ag;simp only[execOp,aj.eval h];simp[el,Instr.loadAt,Instr.sureAddr,loadVar,DW h1 h2,run_load,a6]
def kv[i:j9 P t aY][r:iW v M k xs](h:ck I x=some (el v m))(Y:(xs.drop m).take aY=ce)(av:ce.length=aY):b0 P F n (.load t x) bD I M Bl:=λa w d pos J g aj s=>by
 obtain⟨E,h1,h2⟩:=i.out;obtain⟨z,aN,bu⟩:=i.size;have a6:=run_loadCells_list (P:=P) w ⟨tG v,tH v+m,none⟩ ce (λk v hk=>by
  rw[<-Y]at hk;have:=Pd (r.get s.e4) (Af hk);rw[uh];rw[n3];exact this)
 simp only[execOp,aj.eval h];simp[el,Instr.loadAt,Instr.sureAddr,loadVar,Ag h1 h2,jM aN,bu];rw[av]at a6;simp[a6]
def ZF(h1:v.oneCell'=true):v.cells=#[v]:=by cases v<;>simp[Value.oneCell']at h1<;>rfl
theorem rU{E:Value}{m k e aY:Nat}{xs:List Value}{u:List Value->List aq}[i:eQ P t][r:sn v M e aY k xs u](h:ck I x=some (el v m))(ag:ck I y=some E)(h1:E.oneCell'=true)(bf:m<xs.length):
 df P F n (.store t x y) bD I M (u (xs.set m E)):=λa w d pos J g aj s=>by
 obtain⟨z,aN,bu⟩:=i.size;obtain⟨av,⟨rfl,rfl⟩|⟨b,C,dx,Y,cd,ir,eM,f⟩⟩:=r.get s.e4
 . simp at av;subst av;simp at bf
 . have aA:w.heap[b]?=_:=f
   have j:m<(xs++dx).length:=h5;have a6:∃c,w.cell? ⟨b,m,none⟩=some c:=⟨(xs++dx)[m],by simp only[World.cell?,aA];simp[cz j]⟩;obtain⟨c,a6⟩:=a6;have ba:w.frozen? ⟨b,m,none⟩=false:=by simp[World.frozen?,aA]
   refine⟨w.setCell ⟨b,m,none⟩ E,?_,?_⟩
   . simp only[execOp,aj.eval h,aj.eval ag]
     simp[Y,el,tG,tH,Instr.storeAt,Instr.sureAddr,storeVar,jM aN,bu,ZF h1,storeCells,Addr.add,run_store,h1,stored,a6,ba]
   . have g1:=r.set (xs.set m E) s.e4 Y f ga
     refine⟨s.os,s.tape,s.output,by have:=s.size;simpa[World.setCell]using this,?_⟩;have:fR (w.setCell ⟨b,m,none⟩ E)=j3 (fR w) b (.cells (xs.set m E++dx).toArray e (0,0)):=by
      unfold World.setCell;rw[wy _ f];simp[Gf _ _ bf]
     rw[this];exact g1
def tl:∀(cs l:List Value) (bO:Nat),bO+cs.length<=l.length->kD l bO cs=l.take bO++cs++l.drop (bO+cs.length)
 |[],l,bO,_=>by simp[kD]
 |
  c::cs,l,bO,h=>by
  simp only[iE]at h;rw[kD,tl cs _ (bO+1) h5];have h1:bO<l.length:=ae;have h2:(l.set bO c).take (bO+1)=l.take bO++[c]:=by
   rw[nv (by simpa using h1),List.take_set_of_le (ei _),y0]
  rw[h2,List.drop_set_of_lt ae];rw[show bO+(c::cs).length=bO+1+cs.length by simp;omega];simp
def dm.setRow{g:Nat}{o:Obj}{u:Obj->List aq}[i:kZ g M o u](s:dm F M w){a row:Array Value}{e:TypeId}(aK:o=.cells a e (0,0)):dm F (u (.cells row e (0,0))) (w.setRow g row):=by
 have h:=i.get s.e4;refine⟨s.os,s.tape,s.output,by have:=s.size;simpa[World.setRow]using this,?_⟩;have:fR (w.setRow g row)=j3 (fR w) g (.cells row e (0,0)):=by
  unfold World.setRow;rw[wy _ h];rw[aK]
 rw[this];exact i.set _ s.e4
theorem Pe{b bO aY:Nat}{e:TypeId}{l ce:List Value}{u:Obj->List aq}[i:j9 P t aY][j:kZ b M (.cells l.toArray e (0,0)) u](h:ck I x=some (ptr b bO))(Y:ck I y=some Bl)(h1:ce.all Value.oneCell'=true)(E:ce.length=aY)(av:Nat.ble (bO+ce.length) l.length=true):
 df P F n (.store t x y) bD I M (u (.cells (kD l bO ce).toArray e (0,0))):=λa w d pos J g aj s=>by
 obtain⟨z,aN,bu⟩:=i.size;have aA:=s.heap (b:=b);have W:=Dt av;have f9:=run_storeCells_at P b bO e ce 0 l.toArray w aA (by simpa using W) Iq;refine⟨_,?_,s.setRow (g:=b) (row:=(kD l bO ce).toArray) rfl⟩;simp only[execOp,aj.eval h,aj.eval Y];rw[tl _ _ _ W];simp[Instr.storeAt,Instr.sureAddr,storeVar,jM aN,bu,Value.cells,E];simp[f9,E]
theorem Ir{e aY c:Nat}{xs ce:List Value}{u:List Value->List aq}[i:j9 P t c][r:sn v M e aY k xs u](h:ck I x=some (el v m))(ag:ck I y=some Bl)(h1:ce.all Value.oneCell'=true)(E:ce.length=c)(bf:m+ce.length<=xs.length)(bh:0<ce.length):
 df P F n (.store t x y) bD I M (u (kD xs m ce)):=λa w d pos J g aj s=>by
 obtain⟨z,aN,bu⟩:=i.size;obtain⟨av,⟨rfl,rfl⟩|⟨b,C,dx,Y,cd,ir,eM,f⟩⟩:=r.get s.e4
 . have:xs.length=0:=by simpa using av
   omega
 . have aA:w.heap[b]?=_:=f
   have f9:=run_storeCells_at P b m e ce 0 (xs++dx).toArray w aA h5 Iq;have g1:=r.set (kD xs m ce) s.e4 Y f (ZG _ _ _);have gr:((xs++dx).toArray.toList.take (m+0)++ce++(xs++dx).toArray.toList.drop (m+0+ce.length))=kD xs m ce++dx:=by
    rw[tl _ _ _ bf];simp[HI (show m<=xs.length by omega),aqu bf]
   rw[gr]at f9;refine⟨w.setRow b (kD xs m ce++dx).toArray,?_,s.os,s.tape,s.output,by have:=s.size;simpa[World.setRow]using this,?_⟩
   . simp only[execOp,aj.eval h,aj.eval ag]
     simp[Y,el,tG,tH,Instr.storeAt,Instr.sureAddr,storeVar,jM aN,bu,Value.cells,E];simp[f9]
   . have aV:fR (w.setRow b (kD xs m ce++dx).toArray)=j3 (fR w) b (.cells (kD xs m ce++dx).toArray e (0,0)):=by
      unfold World.setRow;rw[wy _ f]
     rw[aV];exact g1
def y1(aY:Nat)(l:List Value):List (Nat×Value)->Option (List Value)
 |[]=>some l
 |(i,v)::r=>match v.cells.toList with
  |cs=>cond (Nat.beq cs.length aY&&Nat.ble (i*aY+cs.length) l.length) (y1 aY (kD l (i*aY) cs) r) none
def ZH(aY:Nat):∀(N:List (Nat×Value)) (l cs:List Value),y1 aY l N=some cs->Instr.fill (λi=>some (i*aY,aY)) l.toArray N=some cs.toArray
 |[],l,cs,h=>by simp[y1]at h;simp[Instr.fill,h]
 |
  (i,v)::r,l,cs,h=>by
  simp only[y1]at h;simp only[Instr.fill];cases aA:(Nat.beq v.cells.toList.length aY&&Nat.ble (i*aY+v.cells.toList.length) l.length)with
  |false=>rw[aA]at h;cases h
  |
   true=>
   rw[aA]at h;simp only[ii,Nat.ble_eq]at aA;simp only[cond_true]at h;have h1:v.cells.size=aY:=ZI;have h2:i*aY+v.cells.size<=l.length:=by simpa using aA.2
   rw[a8 (by simp[h1];omega)];have aN:=Pf v.cells.toList l (i*aY) 0;have bu:(v.cells.zipIdx.foldl (λcs (x:Value×Nat)=>cs.setIfInBounds (i*aY+x.2) x.1) l.toArray)=(kD l (i*aY) v.cells.toList).toArray:=by
    rw[<-Ys,Array.toList_zipIdx];simpa using aN
   rw[bu];exact ZH aY r _ _ h
def iH(U:List Value):Nat->List Value
 |0=>[]
 |k+1=>U++iH U k
def Ba(U:List Value):∀k,(iH U k).length=k*U.length
 |0=>by simp[iH]
 |k+1=>by simp[iH,Ba U k,nc];omega
def NT(U:List Value)(T:0<U.length):∀(k j:Nat),j<k*U.length->(iH U k)[j]?=U[j%U.length]?
 |0,j,h=>by omega
 |
  k+1,j,h=>by
  simp only[iH];rcases r7 j U.length with x|x
  . rw[k1 x,ZJ x]
  . rw[pH x,NT U T k _ (by rw[nc]at h;omega),Nat.mod_eq_sub_mod x]
def Zw(U:List Value)(k:Nat)(d:Value):(List.range (k*U.length)).map (λi=>(U[i%U.length]?).getD d)=iH U k:=by
 apply uW;intro j;rcases r7 j (k*U.length)with x|x
 . have T:0<U.length:=by
    rcases HJ U.length with y|y;· rw[y]at x;omega
    . exact y
   have h2:j%U.length<U.length:=wS _ T;rw[fs,u4 x,NT U T k j x];simp[h2]
 . exact Yr
class jI(P:Program)(t:TypeId)(e:outParam TypeId)(aY bytes:outParam Nat)(U:outParam (List Value)):Prop where
 out:∃i E,P.underlying t=some (.slice e)/\P.info? e=some i/\i.size=aY/\i.bytes=bytes/\i.zero=some E/\E.cells=U.toArray/\U.length=aY
theorem qh{len:Nat}{U cs:List Value}{xs:List (Nat×Operand)}{N:List (Nat×Value)}[i:jI P t e aY bytes U](hlen:Nat.ble (len*aY) 16777216=true)(hp:Nat.blt 0 (len*aY)=true)(ah:wW I xs=some N)(ba:y1 aY (iH U len) N=some cs):
 c4 P F n (.buildSlice t len xs.toArray) bD I M (λv H=>∃b,v=.slice j0 len len/\H=ab b e cs::M):=λa w d pos J g aj s=>by
 obtain⟨z,E,h1,h2,aN,bu,dW,g1,l⟩:=i.out;have O:=ZH _ _ _ _ ba;have av:¬(16777216<len*aY):=by have:=Dt hlen;omega
 have j:0<len*aY:=by simpa[yx]using hp
 have f:len*aY≠0:=ae;have p:((Array.range (len*aY)).map λx=>U.toArray[x%aY]!)=(iH U len).toArray:=by
  rw[<-Zw U len default,l];apply Array.ext';simp
 refine⟨_,_,_,?_,⟨w.heap.size,rfl,rfl⟩,s.new _⟩;simp only[execOp,Instr.buildSlice,oN,Ph aj ah];have o:¬(len=0\/aY=0):=by rintro(rfl|rfl)<;>simp at f
 simp[gH h1,jM h2,vV h2 dW,aN,av,o,newRow,g1,l]at O p⊢;simp[p,O];intro h;exact absurd h f
theorem Ia{x:Operand}{v:Value}[i:jI P t e aY bytes U](ah:ck I x=some v)(h1:v.oneCell'=true)(l:Nat.beq aY 1=true):
 c4 P F n (.buildSlice t 1 [(0,x)].toArray) bD I M (λu H=>∃b,u=.slice (some ⟨b,0,none⟩) 1 1/\H=ab b e [v]::M):=by
 have aj:aY=1:=lA l;subst aj;obtain⟨z,E,W,Z,d8,gc,hm,G,L⟩:=i.out;obtain⟨z0,rfl⟩:∃z0,U=[z0]:=by match U,L with|[z0],_=>exact⟨z0,rfl⟩
 exact qh (i:=i) rfl rfl (by simp[wW,ah];rfl) (by simp[y1,ZF h1,iH,kD];rfl)
theorem Ib{x:Operand}[i:jI P t e aY bytes U](ah:ck I x=some (.agg ce.toArray))(l:Nat.beq ce.length aY=true)(bh:Nat.blt 0 aY=true)(bf:Nat.ble aY 16777216=true):
 c4 P F n (.buildSlice t 1 [(0,x)].toArray) bD I M (λu H=>∃b,u=.slice (some ⟨b,0,none⟩) 1 1/\H=ab b e ce::M):=by
 have aj:ce.length=aY:=lA l;obtain⟨z,E,W,Z,d8,gc,hm,G,L⟩:=i.out;refine qh (i:=i) (by simpa using bf) (by simpa using bh) (by simp[wW,ah];rfl) ?_;simp only[y1,Value.cells,iH,jr,Nat.zero_mul,lu];have ay:Nat.beq ce.length aY=true:=l;have aV:Nat.ble ce.length U.length=true:=by rw[L,aj];exact Nat.ble_eq_true_of_le (ei _)
 simp only[List.toList_toArray,ay,aV,Bool.and_self,cond_true];rw[tl _ _ _ ae];simp;omega
end
section
variable{x y:Operand}{v u:Value}{t e:TypeId}{aY bytes k m:Nat}{U xs O:List Value}{D:List aq}
theorem ZK[i:jI P t e aY bytes U](l:0<aY)(s:dm F (own v e aY k xs::D) w)(d4:gI (fR w) u m O)(av:O.length=m*aY)(h1:∀x∈O,x.oneCell'=true)
 (aA:(k+m)*bytes<=140737488355328)(q:k+m<=maxLen)(bD:TypeId):
 ∃v' X,(Builtin.append_ #[t,t] bD #[v,u]).run P w=.ok v' X/\dm F (own v' e aY (k+m) (xs++O)::D) X:=by
 obtain⟨z,E,W,Z,rfl,rfl,hm,G,L⟩:=i.out;have i8:(xs++O).length=(k+m)*z.size:=by
  obtain⟨bh,h2,_,_,⟨ah,_⟩,_⟩:=s.e4;rw[eL,ah,av,nc]
 have aDG:k+m<=9223372036854775807:=by simp only[maxLen]at q;omega
 have T:E.cells.size=z.size:=by rw[G];simp[L]
 -- where a new row is made
 have acl:∀a,a<k+m->dm F (own (.slice (some ⟨w.heap.size,0,none⟩) (k+m) (grownCap w (k+m) a e)) e z.size (k+m) (xs++O)::D)
  (w.drew.alloc (.cells (xs.toArray++O.toArray++Builtin.zeroCells E.cells (grownCap w (k+m) a e -(k+m))) e)):=λa aK=>by
  have I:=grownCap_ge w (k+m) a e;have ol:=grownCap_le_maxLen w (k+m) a e q;have s1:dm F (eB w.heap.size (.cells (xs.toArray++O.toArray++Builtin.zeroCells E.cells (grownCap w (k+m) a e -(k+m))) e)::D) (w.drew.alloc (.cells (xs.toArray++O.toArray++Builtin.zeroCells E.cells (grownCap w (k+m) a e -(k+m))) e)):=
   (s.imp λ_=>Sat.drop).drew.new _
  refine s1.imp λ_=>Sat.head λh cl=>⟨i8,.inr ⟨_,_,(Builtin.zeroCells E.cells (grownCap w (k+m) a e -(k+m))).toList,rfl,?_,I,ol,?_⟩⟩
  . rw[eL,i8,Array.length_toList,size_zeroCells,T,<-nc];congr 1;omega
  . have NX:h w.heap.size=some _:=cl
    rw[NX];congr 2;apply Array.ext';simp
 obtain⟨A,t8,d,gr,⟨ah,Y⟩,K⟩:=s.e4;rcases d4 with⟨rfl,rfl,rfl⟩|⟨b,bO,H,C,rfl,_,B⟩
 . -- nothing is appended
   refine⟨v,w,?_,by simpa using s⟩;rcases Y with⟨rfl,rfl⟩|⟨b,C,dx,rfl,_,hk,_,_⟩
   . simp[Builtin.append_,run_underlying W,sizeOf,typeInfo,Z,Builtin.lenOf,Builtin.firstCells]
   . simp[Builtin.append_,run_underlying W,sizeOf,typeInfo,Z,Builtin.lenOf,Builtin.firstCells,hk,storeCells]
 . have c:∀j x,O[j]?=some x->w.cell? ((⟨b,bO,H⟩:Addr).add j)=some x:=λj x N=>by
    obtain⟨rfl,cs,y,R,Q,r⟩:=B j x N;have mt:w.heap[b]?=_:=Q;rw[uh];simp[World.cell?,mt,r]
   rcases Y with⟨rfl,rfl⟩|⟨g,p,dx,rfl,cd,ir,eM,f⟩
   . have J:xs=[]:=rY (by simpa using ah)
     subst J;by_cases bf:m=0
     . subst bf
       have aM:O=[]:=rY (by simpa using av);subst aM;refine⟨_,w,?_,by simpa using s⟩;simp[Builtin.append_,run_underlying W,sizeOf,typeInfo,Z,Builtin.lenOf,Builtin.firstCells,loadCells,loadCellsFrom]
     . have aE:=run_append_nil (P:=P) w t bD e z E W Z hm ⟨b,bO,H⟩ m C O av c ae ae (by have aA:=aA;simp only[lu]at aA;omega)
       have adc:=acl 0 ae;simp only[lu,cm,Array.empty_append]at adc⊢;exact⟨_,_,aE,adc⟩
   . have aF:w.heap[g]?=some (.cells (xs++dx).toArray e (0,0)):=by
      have:fR w g=_:=gr▸join_some (h2:=t8) f;exact this
     by_cases n:k+m<=p
     . have V:k*z.size+O.length<=(xs++dx).toArray.size:=by rw[av,yc,cd,<-nc];exact pW _ n
       have aE:=run_append_room (P:=P) w t bD e z W Z g k p _ aF ⟨b,bO,H⟩ m C O av c h1 n V;refine⟨_,_,aE,s.os,s.tape,s.output,by have:=s.size;simpa[World.setRow]using this,?_⟩;have ay:((xs++dx).toArray.toList.take (k*z.size)++O++(xs++dx).toArray.toList.drop (k*z.size+O.length))=(xs++O)++dx.drop O.length:=by
        rw[<-ah];simp[List.drop_append]
       have aV:fR (w.setRow g ((xs++dx).toArray.toList.take (k*z.size)++O++(xs++dx).toArray.toList.drop (k*z.size+O.length)).toArray)=j3 (fR w) g (.cells ((xs++O)++dx.drop O.length).toArray e (0,0)):=by
        rw[ay];unfold World.setRow;rw[wy _ (o:=.cells (xs++dx).toArray e (0,0)) aF]
       rw[aV,gr];obtain⟨bz,mp⟩:=uH (S:=.cells ((xs++O)++dx.drop O.length).toArray e (0,0)) f d;refine⟨_,t8,mp,bz,⟨i8,.inr ⟨g,p,dx.drop O.length,rfl,?_,n,eM,by simp[j3]⟩⟩,K⟩;simp only[eL,vU]at cd⊢;simp only[yc,eL]at V;rw[ah]at cd V⊢;omega
     . have holds:∀j x,xs[j]?=some x->w.cell? ((⟨g,0,none⟩:Addr).add j)=some x:=λj x N=>by
        have M:=(dc.1 N).1;rw[uh];simp[World.cell?,aF,k1 M,N]
       have aE:=run_append_grow (P:=P) w t bD e z E W Z hm ⟨g,0,none⟩ k p xs ah holds ⟨b,bO,H⟩ m C O av c ae ae (growslice_fits ae aA);exact⟨_,_,aE,acl p ae⟩
theorem D3{b t e:TypeId}{aY bytes k m c:Nat}{U xs O:List Value}{D:List aq}[i:jI P t e aY bytes U](h:ck I x=some v)(ag:ck I y=some (.slice j0 m c))(hp:Part [own v e aY k xs,ab b e O] M D)
 (l:Nat.blt 0 aY=true)(av:Nat.beq O.length (m*aY)=true)(h1:O.all Value.oneCell'=true)(aA:(k+m)*bytes<=140737488355328)(q:k+m<=maxLen):
 c4 P F n NR bD I M ZL:=λa w d pos J g aj s=>by
 have s1:=s.imp λ_=>hp.to;have d4:gI (fR w) (.slice j0 m c) m O:=iW.get (M:=own v e aY k xs::ab b e O::D) s1.e4;obtain⟨v',X,aE,aD⟩:=ZK (P:=P) (i:=i) (by simpa[yx]using l) s1 d4 (lA av) Iq aA q bD;obtain⟨ca,km,rfl⟩:=(sn.get (v:=v') (M:=own v' e aY (k+m) (xs++O)::_) aD.e4).form;refine⟨_,_,X,?_,⟨ca,km,rfl,rfl⟩,aD.imp λ_=>Sat.tail λ_=>Sat.drop⟩;simp only[execOp,resolve,oN,gu,mT,aj.eval h,aj.eval ag];simp[invoke,builtin,aE]
theorem MS[i:jI P t e aY bytes U][r:iW u M m O](h:ck I x=some v)(ag:ck I y=some u)(hp:hI (own v e aY k xs) M D)
 (l:Nat.blt 0 aY=true)(av:O.length=m*aY)(h1:O.all Value.oneCell'=true)(aA:(k+m)*bytes<=140737488355328)(q:k+m<=maxLen):
 c4 P F n NR bD I M ZL:=λa w d pos J g aj s=>by
 obtain⟨v',X,aE,aD⟩:=ZK (P:=P) (i:=i) (by simpa[yx]using l) DX (r.get s.e4) av Iq aA q bD;obtain⟨ca,km,rfl⟩:=(sn.get (v:=v') (M:=own v' e aY (k+m) (xs++O)::_) aD.e4).form;refine⟨_,_,X,?_,⟨ca,km,rfl,rfl⟩,aD⟩;simp only[execOp,resolve,oN,gu,mT,aj.eval h,aj.eval ag];simp[invoke,builtin,aE]
end
end
section
variable{r:Nat}{z E:Type}{d6:IntKind}{m:List (Int×Value)}{D:List aq}
def b3(r:Nat)(d6:IntKind)(m:List (Int×Value)):aq:=λh=>∃es clock,h r=some (.map es clock)/\es.toList.map (λe=>(e.key,e.val))=m.map (λp=>(Value.int d6 p.1,p.2))
def dJ{z:Type}(m:List (Int×z))(k:Int):Option z:=
 match m with
 |[]=>none
 |(j,v)::r=>if k=j then some v else dJ r k
def eV{z:Type}(m:List (Int×z))(k:Int)(v:z):List (Int×z):=
 match m with
 |[]=>[(k,v)]
 |(j,u)::r=>if k=j then(k,v)::r else(j,u)::eV r k v
def O7(m:List (Int×z))(k:Int)(v:z)(j:Int):dJ (eV m k v) j=if j=k then some v else dJ m j:=by
 induction m with
 |nil=>simp[eV,dJ]
 |
  cons p r K=>
  obtain⟨q,u⟩:=p;simp only[eV];by_cases h:k=q
  . subst h;simp only[fi,dJ];by_cases N:j=k<;>simp[N]
  . simp only[a8 h,dJ,K]
    by_cases N:j=q
    . subst N;simp[Ne.symm h]
    . simp[N]
def yT(f:z->E)(m:List (Int×z))(k:Int):dJ (m.map λp=>(p.1,f p.2)) k=(dJ m k).map f:=by
 induction m with
 |nil=>rfl
 |cons p r K=>simp only[gu,dJ,K];split<;>rfl
def D1(f:z->E)(m:List (Int×z))(k:Int)(v:z):eV (m.map λp=>(p.1,f p.2)) k (f v)=(eV m k v).map λp=>(p.1,f p.2):=by
 induction m with
 |nil=>rfl
 |cons p r K=>simp only[gu,eV,K];split<;>simp
class u3(r:Nat)(M:List aq)(d6:outParam IntKind)(m:outParam (List (Int×Value)))(u:outParam (List (Int×Value)->List aq)):Prop where
 get:∀{h:eA},Sat M h->∃es clock,h r=some (.map es clock)/\es.toList.map (λe=>(e.key,e.val))=m.map (λp=>(Value.int d6 p.1,p.2))
 set:∀{h:eA} (q:List (Int×Value)) (es:Array MapEntry) (clock:Nat),Sat M h->es.toList.map (λe=>(e.key,e.val))=q.map (λp=>(Value.int d6 p.1,p.2))->Sat (u q) (j3 h r (.map es clock))
instance u3.head:u3 r (b3 r d6 m::D) d6 m (λq=>b3 r d6 q::D)where
 get:=fun⟨_,_,_,e,⟨es,c,h1,h2⟩,_⟩=>⟨es,c,e▸join_some h1,h2⟩
 set:=λq es clock ⟨h1,h2,d,e,⟨a,en,cS,_⟩,aE⟩ V=>by
  subst e;obtain⟨ay,d1⟩:=uH (S:=.map es clock) cS d;exact⟨_,h2,d1,ay,⟨es,clock,by simp[j3],V⟩,aE⟩
instance u3.tail{A:aq}{d6:IntKind}{m:List (Int×Value)}{D:List aq}{u:List (Int×Value)->List aq}[i:u3 r D d6 m u]:u3 r (A::D) d6 m (λq=>A::u q)where
 get:=λs=>i.get uI
 set:=λq es clock ⟨h1,h2,d,e,aW,aE⟩ V=>by
  subst e;obtain⟨a,en,cS,_⟩:=i.get aE;obtain⟨ay,d1⟩:=uH (S:=.map es clock) cS d.symm;refine⟨h1,_,d1.symm,?_,aW,i.set q es clock aE V⟩;rw[join_comm d,ay,join_comm d1]
class sp(P:Program)(t:TypeId)(d6:outParam IntKind)(E:outParam Value):Prop where
 out:∃k e i,P.underlying t=some (.map k e)/\P.underlying k=some (.int d6)/\P.info? e=some i/\i.zero=some E
end
section
variable{P:Program}{F w:World}{n:Nat}{I:eT}{M:List aq}{bD:TypeId}
section
variable{α bv:Type}{t dk e:TypeId}{x y:Operand}{z:Addr}{d6:IntKind}{E:Value}{r:Nat}{k:Int}{m:List (Int×Value)}{u:List (Int×Value)->List aq}
def run_checkKey{k:TypeId}{d6:IntKind}(h:P.underlying k=some (.int d6))(b:Bool)(d:Nat)(x:Int)(w:World):(Instr.checkKey b (d+1) k (.int d6 x)).run P w=.ok () w:=by
 simp[Instr.checkKey,gH h]
def O8(d6:IntKind)(x:Int):∀(es:List MapEntry) (m:List (Int×Value)) (i:Nat),es.map (λe=>(e.key,e.val))=m.map Bs->
 ∃
  o,Instr.findNow (.int d6) (.int d6 x) es i=some o/\o.map (·.2)=dJ m x/\(∀j v,o=some (j,v)->i<=j/\∃e,es[j -i]?=some e/\e.key=.int d6 x/\
   ∀v',(es.modify (j -i) λe=>{e with key:=.int d6 x,val:=v'}).map Ik=(eV m x v').map Bs)/\
  (o=none->eV m x=λv'=>m++[(x,v')])
 |
  [],m,i,h=>by
  have:m=[]:=O9;subst this;exact⟨none,rfl,rfl,by simp,λ_=>rfl⟩
 |
  e::es,m,i,h=>by
  obtain⟨⟨j,u⟩,q,rfl⟩:∃p q,m=p::q:=by cases m with
   |nil=>simp at h
   |cons p q=>exact⟨p,q,rfl⟩
  simp only[gu,List.cons.injEq,Prod.mk.injEq]at h;obtain⟨⟨h1,h2⟩,aN⟩:=h;have aj:Instr.sameNow (.int d6) (.int d6 x) e.key=some (x==j):=by rw[h1];simp[Instr.sameNow]
  by_cases ah:x=j
  . subst ah
    refine⟨some (i,e.val),by simp[Instr.findNow,aj],by simp[dJ,h2],?_,by simp⟩;intro a v V;simp only[Option.some.injEq,Prod.mk.injEq]at V;obtain⟨rfl,rfl⟩:=V;exact⟨ei _,e,by simp,h1,λv'=>by simp[eV,aN]⟩
  . have aA:(x==j)=false:=by simpa using ah
    obtain⟨o,W,Z,d8,gc⟩:=O8 d6 x es q (i+1) aN;refine⟨o,by simp[Instr.findNow,aj,aA,W],by simp[dJ,ah,Z],?_,?_⟩
    . intro a v V
      obtain⟨cS,y,cd,ir,eM⟩:=d8 a v V;have ay:a -i=(a -(i+1))+1:=ae;refine⟨by omega,y,by rw[ay];simpa using cd,ir,λv'=>?_⟩;rw[ay];simp[eV,ah,h1,h2,eM v']
    . intro aK;funext v'
      simp[eV,ah,gc aK]
theorem Zu[i:sp P t d6 E][j:u3 r M d6 m u](h:ck I x=some vW)(ag:ck I y=some (.int d6 k)):
 b0 P F n (.lookup t x y false) bD I M ((dJ m k).getD E):=λa w d pos J g aj s=>by
 obtain⟨D,cK,z,h1,h2,aN,bu⟩:=i.out;obtain⟨es,clock,W,Z⟩:=j.get s.e4;have b:w.heap[r]?=_:=W;obtain⟨o,cS,cd,_,_⟩:=O8 d6 k es.toList m 0 Z;simp only[execOp,aj.eval h,aj.eval ag];have aF:=run_getObj_map (P:=P) w r es clock b;simp[Instr.lookup,gH h1,aF,run_checkKey h2,Instr.findKey,gH h2,cS];cases o with
 |none=>simp[vV aN bu];simp at cd;rw[<-cd];rfl
 |some p=>simp;simp at cd;rw[<-cd];rfl
theorem l0(v:Value)[i:sp P t d6 E][j:u3 r M d6 m u](Y:(dJ m k).getD E=v)(h:ck I x=some vW)(ag:ck I y=some (.int d6 k)):
 b0 P F n (.lookup t x y false) bD I M v:=Y▸Zu (i:=i) (j:=j) h ag
theorem Zc{q:Operand}{d6:IntKind}{E v:Value}{r:Nat}{k:Int}{m:List (Int×Value)}{u:List (Int×Value)->List aq}[i:sp P t d6 E][j:u3 r M d6 m u](h:ck I x=some vW)(ag:ck I y=some (.int d6 k))(Y:ck I q=some v):
 df P F n (.mapUpdate t x y q) bD I M (u (eV m k v)):=λa w d pos J g aj s=>by
 obtain⟨D,cK,z,h1,h2,aN,bu⟩:=i.out;obtain⟨es,clock,W,Z⟩:=j.get s.e4;have b:w.heap[r]?=_:=W;obtain⟨o,cS,cd,ir,eM⟩:=O8 d6 k es.toList m 0 Z;have aF:=run_getObj_map (P:=P) w r es clock b;have l:∀B:Obj,(setObj r B).run P w=.ok () {w with heap:=w.heap.setIfInBounds r B}:=λB=>by
  simp[setObj,Sem.run,b]
 have fin:∀(f:Array MapEntry) (c:Nat),f.toList.map (λe=>(e.key,e.val))=(eV m k v).map Bs->dm F (u (eV m k v)) Il:=λf c V=>
  ⟨s.os,s.tape,s.output,by have:=s.size;simpa using this,by rw[Dw _ W];exact j.set _ _ _ s.e4 V⟩
 simp only[execOp,aj.eval h,aj.eval ag,aj.eval Y];cases o with
 |
  none=>
  refine⟨_,?_,fin (es.push {key:=.int d6 k,val:=v,born:=clock}) (clock+1) (by rw[eM rfl];simp[Z])⟩;simp[Instr.mapUpdate,gH h1,aF,run_checkKey h2,Instr.findKey,gH h2,cS,l]
 |
  some p=>
  obtain⟨O,v0⟩:=p;obtain⟨_,e,ay,aV,bz⟩:=ir O v0 rfl;simp only[Ds]at ay bz;refine⟨_,?_,fin (es.modify O λe=>{e with key:=.int d6 k,val:=v}) clock Zv⟩;have L:es[O]?=some e:=by simpa using ay
  simp[Instr.mapUpdate,gH h1,aF,run_checkKey h2,Instr.findKey,gH h2,cS,l,L,aV,Instr.keyThatStays,Instr.sameBits]
def Br{b:Nat}{d6:IntKind}{D:List aq}:∀h,Sat (eB b (.map #[] 0)::D) h->Sat (b3 b d6 []::D) h:=λ_=>Sat.head λ_ cl=>⟨#[],0,cl,rfl⟩
theorem Gl{aY bytes k:Nat}{d6 b:IntKind}{U:List Value}{x y:Operand}[i:jI P t e aY bytes U](ah:ck I x=some (.int d6 (k:Int)))(ag:ck I y=some (.int b (k:Int)))(q:k<=maxLen)(aA:bytes*k<=281474976710656):
 c4 P F n (.makeSlice t x y) bD I M (λv H=>∃a c,v=.slice a k c/\H=own (.slice a k c) e aY k (iH U k)::M):=λa w d pos J g aj s=>by
 obtain⟨z,E,h1,h2,rfl,rfl,dW,g1,l⟩:=i.out;have O:IntKind.i64.wrap (k:Int)=k:=IntWalk.i64_in _ (by simp only[maxLen]at q;omega);have Q:¬(281474976710656<(z.bytes:Int)*k):=by
  have:((z.bytes*k:Nat):Int)<=281474976710656:=by omega
  rw[DJ]at this;omega
 refine⟨.slice (some ⟨w.heap.size,0,none⟩) k k,_,{w with heap:=w.heap.push (.cells (iH U k).toArray e (0,0))},?_,⟨_,_,rfl,rfl⟩,?_⟩
 . simp only[execOp,aj.eval ah,aj.eval ag]
   have p:((Array.range (k*z.size)).map λx=>U.toArray[x%z.size]!)=(iH U k).toArray:=by
    rw[<-Zw U k default,l];apply Array.ext';simp
   have ay:¬((k:Int)<0):=ae;by_cases bh:k*z.size=0
   . have aE:iH U k=[]:=by apply rY;rw[Ba,l];exact bh
     simp[Instr.makeSlice,gH h1,asInt,asIntOf,Im h2,O,Q,ay,jM h2,newRow,bh,aE]
     congr 2;apply arn;simp
   . have:¬(k=0\/z.size=0):=λcl=>bh (by rcases cl with cl|cl<;>simp[cl])
     simp at p;simp[Instr.makeSlice,gH h1,asInt,asIntOf,Im h2,O,Q,ay,jM h2,vV h2 dW,newRow,this,g1,l,p];intro cl;exact absurd cl bh
 . refine(s.new _).imp λ_=>Sat.head λh cl=>⟨by rw[Ba,l],.inr ⟨_,k,[],rfl,by simp[Ba,l],ei _,q,by rw[jr];exact cl⟩⟩
inductive Bh|int(k:IntKind)|bool|str
def oi:List Bh->List Value->Bool
 |[],[]=>true
 |.int k::c,.int j _::ce=>(match k,j with
  |.i8,.i8|.i16,.i16|.i32,.i32|.i64,.i64|.u8,.u8|.u16,.u16|.u32,.u32|.u64,.u64=>true
  |_,_=>false)&&oi c ce
 |.bool::c,.bool _::ce=>oi c ce
 |.str::c,.string _::ce=>oi c ce
 |_,_=>false
def qx:List Value->List Value->Bool
 |.int _ a::xs,.int _ b::U=>(a==b)&&qx xs U
 |.bool a::xs,.bool b::U=>(a==b)&&qx xs U
 |.string a::xs,.string b::U=>(a.toList==b.toList)&&qx xs U
 |[],[]=>true
 |_,_=>false
def HV(P:Program)(f:Field):Option Bh:=
 if f.name = "_" then none else match P.underlying f.type with
  |some (.int k)=>some (.int k)
  |some .bool=>some .bool
  |some .string=>some .str
  |_=>none
class N1(P:Program)(t:TypeId)(c:outParam (List Bh)):Prop where
 out:∃gp,P.underlying t=some (.struct gp)/\gp.toList.map (λf=>(f.offset,HV P f))=c.zipIdx.map (λp=>(p.2,some p.1))
 held:P.stoodInHeld t=false
 guard:P.eqGuardType P.depth t=false
def Zx(w:World)(X cH:List Value):∀(gp:List Field) (c:List Bh) (k:Nat),gp.map (λf=>(f.offset,HV P f))=(c.zipIdx k).map (λp=>(p.2,some p.1))->oi c (X.drop k)=true->oi c (cH.drop k)=true->
 (Op.eqFields 9999 X.toArray cH.toArray gp).run P w=.ok (qx (X.drop k) (cH.drop k)) w
 |
  [],[],k,_,ah,ag=>by
  have h1:X.drop k=[]:=by cases h:X.drop k<;>simp[h,oi]at ah⊢
  have h2:cH.drop k=[]:=by cases h:cH.drop k<;>simp[h,oi]at ag⊢
  rw[h1,h2];simp[Op.eqFields,qx]
 |
  f::gp,b8::c,k,h,ah,ag=>by
  simp only[gu,ww,List.cons.injEq,Prod.mk.injEq]at h;obtain⟨⟨aK,ba⟩,aE⟩:=h;obtain⟨x,xs,ex⟩:∃x xs,X.drop k=x::xs:=by cases e:X.drop k with
   |nil=>rw[e]at ah;cases b8<;>simp[oi]at ah
   |cons x xs=>exact⟨x,xs,rfl⟩
  obtain⟨y,U,q⟩:∃y U,cH.drop k=y::U:=by cases e:cH.drop k with
   |nil=>rw[e]at ag;cases b8<;>simp[oi]at ag
   |cons y U=>exact⟨y,U,rfl⟩
  have i:X[k]?=some x:=by have:=congrArg (·[0]?) ex;simpa using this
  have j:cH[k]?=some y:=by have:=congrArg (·[0]?) q;simpa using this
  have l:X.drop (k+1)=xs:=by rw[<-GJ,ex];rfl
  have m:cH.drop (k+1)=U:=by rw[<-GJ,q];rfl
  have K:=Zx w X cH gp c (k+1) aE;rw[l,m]at K;rw[ex]at ah⊢;rw[q]at ag⊢;unfold HV at ba;by_cases aM:f.name = "_"
  . rw[bd aM]at ba;cases ba
  . rw[a8 aM]at ba
    have hp:∀{d:TypeDesc},P.underlying f.type=some d->uZ d=false->∀g:List Value,∀E,g[k]?=some E->(part f.type g.toArray f.offset).run P w=.ok E w:=λaL aW g E T=>by
     simp[part,DW aL aW,aK,T]
    cases aL:P.underlying f.type with
    |none=>rw[aL]at ba;cases ba
    |
     some d=>
     rw[aL]at ba;cases d<;>simp at ba<;>subst ba
     . cases x<;>simp[oi]at ah
       cases y<;>simp[oi]at ag;simp[Op.eqFields,aM,hp aL rfl X _ i,hp aL rfl cH _ j,run_equalIn_bool' w _ _ _ _ aL,qx];split
       . rename_i e;simp[e,K ah ag]
       . rename_i e;simp[e]
     . cases x<;>simp[oi]at ah
       cases y<;>simp[oi]at ag;rename_i fd cS a cd b;have ay:cS=cd:=by cases fd<;>cases cS<;>simp at ah<;>cases cd<;>simp at ag<;>rfl
       subst ay;simp[Op.eqFields,aM,hp aL rfl X _ i,hp aL rfl cH _ j,run_equalIn_int w _ _ _ _ _ _ aL,qx];split
       . rename_i e;simp[e,K ah.2 ag.2]
       . rename_i e;simp[e]
     . cases x<;>simp[oi]at ah
       cases y<;>simp[oi]at ag;simp[Op.eqFields,aM,hp aL rfl X _ i,hp aL rfl cH _ j,run_equalIn_string w _ _ _ _ aL,qx];split
       . rename_i e;simp[e,K ah ag]
       . rename_i e;simp[e]
 |[],_::_,_,h,_,_=>by simp at h
 |_::_,[],_,h,_,_=>by simp at h
def Zy{xs U:List Value}{c:List Bh}[i:N1 P t c](ah:ck I x=some (.agg xs.toArray))(ag:ck I y=some (.agg U.toArray))(b:oi c xs=true)(e:oi c U=true):b0 P F n Bt bD I M (.bool (!qx xs U)):=λa w d pos J g aj _=>by
 obtain⟨gp,h1,h2⟩:=i.out;have ba:P.fieldsOf t=gp:=by simp[Program.fieldsOf,h1]
 simp only[execOp,aj.eval ah,aj.eval ag];simp[run_eqGuard_agg w .neq t x y _ _ i.guard,run_neq_struct,run_equalIn_struct w 9999 t _ _ (by rw[ba];exact h1) i.held,ba,Zx w xs U gp.toList c 0 h2 b e]
def k0{α:Type}(f:α->List Value)(aY:Nat)(ba:∀x,(f x).length=aY):∀l:List α,(l.flatMap f).length=l.length*aY
 |[]=>by simp
 |x::l=>by rw[pG,eL,ba,k0 f aY ba l,iE,nc];omega
def Io{α:Type}(f:α->List Value)(aY:Nat)(ba:∀x,(f x).length=aY):∀(l:List α) (k:Nat),(l.flatMap f).drop (k*aY)=(l.drop k).flatMap f
 |l,0=>by simp
 |[],k+1=>by simp
 |
  x::l,k+1=>by
  have ay:(k+1)*aY=(f x).length+k*aY:=by rw[ba,nc];omega
  rw[pG,ay,List.drop_append,CP ae,cm,Ge,List.drop_succ_cons,Io f aY ba l k]
def kw(f:α->List Value)(aY:Nat)(ba:∀x,(f x).length=aY){l:List α}{k:Nat}{x:α}(hk:l[k]?=some x):((l.flatMap f).drop (k*aY)).take aY=f x:=by
 have:l.drop k=x::l.drop (k+1):=by
  obtain⟨h,e⟩:=dc.1 hk;rw[<-e];exact ta h
 rw[Io f aY ba,this,pG,HI (by rw[ba];omega),yZ (by rw[ba];omega)]
def rT(f:α->List Value)(aY:Nat)(ba:∀x,(f x).length=aY){l:List α}{k j:Nat}{x:α}{v:Value}(hk:l[k]?=some x)(Y:(f x)[j]?=some v):(l.flatMap f)[k*aY+j]?=some v:=by
 have h:=kw f aY ba hk;rw[<-h]at Y;exact Af Y
def Zz(h:P.underlying t=some (.pointer e))(d:Nat)(z:Addr)(w:World):(Op.equalIn (d+1) t (.pointer (some z)) (.pointer none)).run P w=.ok false w:=by
 simp[Op.equalIn,gH h]
def ZA(h:P.underlying t=some (.pointer e))(d:Nat)(w:World):(Op.equalIn (d+1) t (.pointer none) (.pointer none)).run P w=.ok true w:=by
 simp[Op.equalIn,gH h]
def aro[i:u0 P t](ah:ck I x=some (.pointer (some z)))(ag:ck I y=some fP):b0 P F n Bu bD I M gR:=λa w d pos J g aj _=>by
 obtain⟨e,h1⟩:=i.out;simp only[execOp,aj.eval ah,aj.eval ag];simp only[binOp];simp[eqGuard,Op.equal,Op.maxDepth,Zz h1 9999 z]
def arp[i:u0 P t](ah:ck I x=some (.pointer (some z)))(ag:ck I y=some fP):b0 P F n Bt bD I M h6:=λa w d pos J g aj _=>by
 obtain⟨e,h1⟩:=i.out;simp only[execOp,aj.eval ah,aj.eval ag];simp only[binOp];simp[eqGuard,Op.equal,Op.maxDepth,Zz h1 9999 z]
def arq[i:u0 P t](ah:ck I x=some fP)(ag:ck I y=some fP):b0 P F n Bu bD I M h6:=λa w d pos J g aj _=>by
 obtain⟨e,h1⟩:=i.out;simp only[execOp,aj.eval ah,aj.eval ag];simp only[binOp];simp[eqGuard,Op.equal,Op.maxDepth,ZA h1 9999]
def arr[i:u0 P t](ah:ck I x=some fP)(ag:ck I y=some fP):b0 P F n Bt bD I M gR:=λa w d pos J g aj _=>by
 obtain⟨e,h1⟩:=i.out;simp only[execOp,aj.eval ah,aj.eval ag];simp only[binOp];simp[eqGuard,Op.equal,Op.maxDepth,ZA h1 9999]
def dj(fM:bv->Prop)(l:bv->List aq):aq:=λh=>∃x,fM x/\Sat (l x) h
def hd{fM:bv->Prop}{l:bv->List aq}{D:List aq}{h:eA}(s:Sat (dj fM l::D) h):∃x,fM x/\Sat (l x++D) h:=by
 obtain⟨x,ah⟩:=Sat.ex.1 s;obtain⟨p,aj⟩:=Sat.pure.1 ah;exact⟨x,p,Sat.flat.1 aj⟩
def cF{fM:bv->Prop}{l:bv->List aq}{D:List aq}(x:bv)(p:fM x)(t:∀h,Sat M h->Sat (l x++D) h):∀h,Sat M h->Sat (dj fM l::D) h:=
 λh s=>Sat.ex.2 ⟨x,Sat.pure.2 ⟨p,Sat.flat.2 (t h s)⟩⟩
end
variable{Q:Exit->Act->World->Prop}{c:Code}{E:Array Oper}{D:List aq}{bv:Type}{fM:bv->Prop}{l:bv->List aq}
def kK(s:hI (dj fM l) M D)(h:∀x,fM x->G P F n c I (l x++D) Q):G P F n c I M Q:=λa w aj st=>by
 obtain⟨x,p,ah⟩:=hd (s.to st.e4);exact h x p a w aj HG
def ars{Z:Act->World->Prop}(s:hI (dj fM l) M D)(h:∀x,fM x->GE F n I (l x++D) Z):GE F n I M Z:=λa w aj st=>by
 obtain⟨x,p,ah⟩:=hd (s.to st.e4);exact h x p a w aj HG
end
end Go.L
namespace Go.L
open Go.RowKit
def Y4{W X:World}{l:List aq}(s:dm W (base W::l) X):Below W.heap.size W X:=
 ⟨s.os, s.tape, s.output, s.size, fun k hk => by
  obtain⟨h1,h2,_,e,aW,_⟩:=s.e4;have aN:=aW k hk;have bu:X.heap[k]?=join h1 h2 k:=congrFun e k;obtain⟨o,aK⟩:∃o,W.heap[k]?=some o:=⟨_,atv hk⟩;rw[bu,aK];rw[aK]at aN;exact join_some aN⟩
def Y3(W:World):dm W [base W] W:=⟨rfl,rfl,rfl,ei _,Sat.one λ_ _=>rfl⟩
section
variable{F:Type}{enc:TypeId×Value->F}{P:Program}{w:World}{E:Nat}{D:Nat->Bool}{held:Bool}
def l7(P:Program)(t:TypeId)(d:DataW F):Prop:=∀n∈d.weights P t,n<=reachBytes
theorem aic{e:TypeId}:∀{l:List (DataW F)} {d:DataW F},d∈l->∀n∈d.weights P e,n∈DataW.weightsAll P e l
 |[],_,aL,_,_=>absurd aL Ai
 |
  x::l,d,aL,n,aM=>by
  simp only[DataW.weightsAll,ky];rcases ku.1 aL with rfl|h
  . exact .inl aM
  . exact .inr (aic h n aM)
theorem Y0{z:List TypeId}{hc:List (DataW F)}(h:(DataW.weightsEach P z hc).all (·<=reachBytes)=true){j:Nat}{t:TypeId}{d:DataW F}(R:z[j]?=some t)(aL:hc[j]?=some d):l7 P t d:=λn aM=>by
 have:=qd.1 h _ (DataW.weights_mem_each R aL n aM);simpa using this
theorem aid{t e:TypeId}{el dx:List (DataW F)}(d4:P.underlying t=some (.slice e))(h:l7 P t (.slice el dx)):el.length*P.bytesOf e<=reachBytes/\∀d∈el,l7 P e d:=by
 constructor
 . have h1:=h ((el.length+dx.length)*P.bytesOf e) (by simp[DataW.weights,d4])
   exact nb (pW _ ae) h1
 . intro d aL n aM
   refine h n ?_;simp only[DataW.weights,d4,ku,ky];exact .inr (.inl (aic aL n aM))
theorem ib{t:TypeId}{gp:Array Field}{N:List (DataW F)}{i:Nat}{f:Field}{d:DataW F}(d4:P.underlying t=some (.struct gp))(h:l7 P t (.agg N))(ba:gp[i]?=some f)(aL:N[i]?=some d):l7 P f.type d:=λn aM=>by
 refine h n ?_;simp only[DataW.weights,d4];exact DataW.weights_mem_each (j:=i) (by simp[ba]) aL n aM
theorem atw{t:TypeId}{b:List UInt8}(h:l7 P t (.lit (.string b):DataW F)):b.length<=140737488351232:=by
 have h1:=h b.length (by simp[DataW.weights]);have aN:reachBytes=140737488351232:=bJ;omega
theorem atx(z:DataW F->Prop){t e zA aY:Nat}{cs:List Value}{x:DataW F×List MemPlace}(R:P.underlying t=some (.slice e))(l:P.cellsOf e=aY){T:Type}[Inhabited T](g:T->List Value)(Good:T->Prop)(hlen:∀q,(g q).length=aY)
 (r:∀n k d,DataW.trod enc P w E D held n e k=some d->z d.1->∃q,k=g q/\Good q)(G:∀el dx,x.1=.slice el dx->∀d∈el,z d)(h:DataW.trod enc P w E D held zA t cs=some x):
 ∃
  (a:Option Addr) (C:Nat) (s:List T),cs=[.slice a s.length C]/\(∀q∈s,Good q)/\s.length<=maxLen/\(0<aY->gI (fR w) (.slice a s.length C) s.length (s.flatMap g))/\
  ((x.1=.nil/\s.length=0)\/∃el dx,x.1=.slice el dx/\el.length=s.length):=by
 rcases DataW.trod_slice R h with⟨rfl,rfl⟩|⟨a,len,C,u,rest,n,_,rfl,rfl,_,av,bf,V,Y,_,_⟩
 . exact⟨none,0,[],rfl,by simp,by simp,λ_=>.inl ⟨rfl,rfl,rfl⟩,.inl dI⟩
 . obtain⟨f,ba⟩:=Go.Deep.choose_lt (α:=T) (n:=len) (p:=λi q=>Good q/\∀j x,(g q)[j]?=some x->w.cell? (a.add (i*aY+j))=some x) (λi ak=>by
    have h1:=Y i ak;have fF:i<u.length:=ae;rw[cz fF]at h1;obtain⟨k,W,M⟩:=gZ.1 h1;obtain⟨q,rfl,bm⟩:=r _ _ _ M (G _ _ rfl _ (EV (vn fF)));obtain⟨_,_,L⟩:=World.cells?_some W;refine⟨q,bm,λj x ah=>?_⟩;have N:j<aY:=by have:=(dc.1 ah).1;rw[hlen]at this;exact this
    have:=L j (by rw[l];exact N);rw[ah,l]at this;rw[<-this];congr 1;unfold Addr.add;by_cases ay:i*aY=0<;>by_cases aV:j=0<;>simp[ay,aV];omega)
   refine⟨some a,C,(List.range len).map f,by simp,λq bm=>?_,by simp;omega,λg4=>.inr ⟨a.block,a.off,a.spot,C,by simp,λbh=>?_,λj x ah=>?_⟩,.inr ⟨_,_,rfl,by simp[V]⟩⟩
   . obtain⟨i,ak,rfl⟩:=lU.1 bm;exact(ba i (pV.1 ak)).1
   . simp at bh
     have:=(ba 0 bh).2 0 ((g (f 0))[0]'Pm) (cz _)
     simp[Addr.add]at this;exact World.cell?_spot this
   . have v:j<len*aY:=by
      have:=(dc.1 ah).1;rw[k0 g aY hlen]at this;simpa using this
     have ak:j/aY<len:=by rw[Nat.div_lt_iff_lt_mul g4];exact v
     have hk:((List.range len).map f)[j/aY]?=some (f (j/aY)):=by simp[ak]
     have Q:j%aY<aY:=wS _ g4;have m:(g (f (j/aY)))[j%aY]?=some x:=by
      have:=rT g aY hlen hk (cz Pn:(g (f (j/aY)))[j%aY]?=some ((g (f (j/aY)))[j%aY]'Pn))
      rw[aie]at this;rw[ah]at this;rw[cz Pn,<-this]
     have a6:=(ba _ ak).2 _ _ m;rw[aie]at a6;have o:a.spot=none:=by
      have:=(ba (j/aY) ak).2 0 ((g (f (j/aY)))[0]'Pm) (cz _)
      by_cases bh:j/aY*aY+0=0
      . rw[bh]at this;simp[Addr.add]at this;exact World.cell?_spot this
      . have y:=(ba 0 (Zt (eX _) ak)).2 0 ((g (f 0))[0]'Pm) (cz _)
        simp[Addr.add]at y;exact World.cell?_spot y
     refine⟨o,?_⟩;obtain⟨b,bO,H⟩:=a;simp only at o;subst o;rw[uh]at a6;unfold World.cell? at a6;split at a6
     . rename_i c _ _ cl;simp at a6;exact⟨c,_,_,cl,a6⟩
     . cases a6
end
end Go.L
namespace Go.L
section
variable{P:Program}{F w:World}{n:Nat}{I:eT}{M:List aq}{bD:TypeId}
section
variable{x y:Operand}{t e:TypeId}{z:Array TypeId}{aY:Nat}{k:IntKind}{p q:Int}(r:Int)
def td(aE:(if q<p then q else p)=r)(ah:ck I x=some (.int k p))(ag:ck I y=some (.int k q)):b0 P F n (.call {callee:=.builtin .min,args:=#[x,y],argTypes:=z}) bD I M (.int k r):=λa w d pos J g aj s=>by
 simp only[execOp,resolve,oN,gu,mT,aj.eval ah,aj.eval ag];subst aE;simp[invoke,builtin,Builtin.min_,Builtin.min2]
def tc(aE:(if p<q then q else p)=r)(ah:ck I x=some (.int k p))(ag:ck I y=some (.int k q)):b0 P F n (.call {callee:=.builtin .max,args:=#[x,y],argTypes:=z}) bD I M (.int k r):=λa w d pos J g aj s=>by
 simp only[execOp,resolve,oN,gu,mT,aj.eval ah,aj.eval ag];subst aE;simp[invoke,builtin,Builtin.max_,Builtin.max2]
def atd(h:P.underlying t=some (.slice e))(d:Nat)(a:Option Addr)(l c:Nat)(w:World):(Op.equalIn (d+1) t (.slice a l c) (.slice none 0 0)).run P w=.ok a.isNone w:=by
 cases a<;>simp[Op.equalIn,gH h]
def ate{dk:TypeId}{x y:Operand}{a:Option Addr}{l c e aY:Nat}[i:jS P t e aY](ah:ck I x=some (.slice a l c))(ag:ck I y=some e2):b0 P F n Bu bD I M (.bool a.isNone):=λa w d pos J g aj _=>by
 obtain⟨z,h1,_⟩:=i.out;simp only[execOp,aj.eval ah,aj.eval ag];simp only[binOp];simp[eqGuard,Op.equal,Op.maxDepth,atd h1 9999]
def WE{h:eA}{l c k:Nat}{xs:List Value}[i:iW (.slice none l c) M k xs](s:Sat M h):l=0/\c=0/\k=0/\xs=[]:=by
 rcases i.get s with⟨h1,h2,aN⟩|⟨b,bO,H,C,h1,_⟩
 . cases h1;exact⟨rfl,rfl,aN,h2⟩
 . cases h1
def atf{bytes:Nat}{U:List Value}[i:jI P t e aY bytes U]:c4 P F n (.buildSlice t 0 #[]) bD I M (λv H=>∃b,v=.slice j0 0 0/\H=own (.slice j0 0 0) e aY 0 []::M):=λa w d pos J g aj s=>by
 obtain⟨z,E,h1,h2,aN,bu,dW,g1,l⟩:=i.out;refine⟨_,_,{w with heap:=w.heap.push (.cells #[] e (0,0))},?_,⟨w.heap.size,rfl,rfl⟩,(s.new _).imp λ_=>Sat.head λh cl=>⟨by simp,.inr ⟨_,0,[],rfl,by simp,ei _,by unfold maxLen;omega,cl⟩⟩⟩;simp[execOp,Instr.buildSlice,gH h1,jM h2,newRow,Instr.fill]
 congr 2;apply arn;simp
def ap1{b:Nat}{e:TypeId}{aY k:Nat}{xs:List Value}{D:List aq}(av:xs.length=k*aY)(q:k<=maxLen):∀h,Sat (ab b e xs::D) h->Sat (own (.slice j0 k k) e aY k xs::D) h:=
 λ_=>Sat.head λ_ cl=>⟨av,.inr ⟨b,k,[],rfl,by simpa using av,ei _,q,by rw[jr];exact cl⟩⟩
def yq{Q:Exit->Act->World->Prop}{c:Code}{p:Prop}(f:∀h,Sat M h->p)(h:p->G P F n c I M Q):G P F n c I M Q:=λa w aj st=>h (f _ st.e4) a w aj st
end
end
section
variable(x:Int){b T k:Nat}{α:Type}{v:Value}{r:List aq}
def DC(p T k:Nat)(v:Value):aq:=λh=>∃l:List Value,l[k]?=some v/\h p=some (.cells l.toArray T (0,0))
def arF{p T k:Nat}{v:Value}{l:List Value}{D:List aq}{h:eA}(s:Sat (ab p T l::D) h)(hk:l[k]?=some v):Sat (DC p T k v::D) h:=Sat.head (λ_ cl=>⟨l,hk,cl⟩) s
class xp(b bO:Nat)(M:List aq)(v:outParam Value):Prop where
 get:∀{h:eA},Sat M h->∃(l:List Value) (T:TypeId) (R:Nat×Nat),h b=some (.cells l.toArray T R)/\l[bO]?=some v
instance xp.head:xp b k (DC b T k v::r) v where
 get:=fun⟨_,_,_,e,⟨l,av,cl⟩,_⟩=>⟨l,T,(0,0),e▸join_some cl,av⟩
instance xp.tail{A:aq}{r:List aq}[i:xp b k r v]:xp b k (A::r) v where
 get:=λs=>i.get s.drop
def u2{P:Program}{F:World}{n:Nat}{I:eT}{M:List aq}{bD t:TypeId}{x:Operand}{b bO:Nat}{v:Value}[i:eQ P t][j:xp b bO M v](h:ck I x=some (ptr b bO)):b0 P F n (.load t x) bD I M v:=λa w d pos J g aj s=>by
 obtain⟨d,h1,h2⟩:=i.out;obtain⟨l,T,R,aA,av⟩:=j.get s.e4;have Q:w.heap[b]?=some (.cells l.toArray T R):=aA;have a6:w.cell? q8=some v:=by simp[World.cell?,Q,av]
 simp only[execOp,aj.eval h];simp[Instr.loadAt,Instr.sureAddr,loadVar,DW h1 h2,run_load,a6]
instance gl.own{e:TypeId}{aY n:Nat}{xs:List Value}:gl v (own v e aY n xs) n xs where
 get s:=oh.rd s
abbrev af:Value:=.int .i64 x
abbrev bw:Value:=.int .u64 x
def ah3(E:Value):∀k,iH [E] k=List.replicate k E
 |0=>rfl
 |k+1=>by rw[iH,ah3 E k,List.replicate_succ];rfl
def amX(f:α->Value)(E:α)(k:Nat):iH [f E] k=(List.replicate k E).map f:=by rw[ah3,ah4]
def Aq{f:α->Value}{l:List α}{d:α}{i:Nat}(h:i<l.length):(l.map f)[i*1]?=some (f (l.getD i d)):=by
 simp[ix,cz h]
def adR{f:α->Value}{l:List α}{i:Nat}{x:α}:(l.map f).set (i*1) (f x)=(l.set i x).map f:=by
 rw[uu,tE]
end
section
variable{l:List aq}{A:aq}{i:Nat}{D:List aq}
def ft:aq:=λ_=>True
def ax(l:List aq):aq:=M5 l
def x8:∀h,Sat D h->Sat (ft::D) h:=λh s=>WY
def wR:∀h,Sat D h->Sat (ax []::D) h:=x8
def sj(e:l[i]?=some A):∀h,Sat (ax l::D) h->Sat (A::ax (l.set i ft)::D) h:=by
 intro h s;replace s:=Sat.flat.1 s;refine Sat.tail (r:=l.set i ft++D) (λ_=>Sat.flat.2) ?_
 induction l generalizing i h with
 |nil=>simp at e
 |
  cons B l K=>
  cases i with
  |zero=>simp only[YT,Option.some.injEq]at e;subst e;exact Sat.tail (r:=l++D) (λh s=>x8 h s) s
  |
   succ i=>
   simp only[H0]at e;exact Sat.swap (Sat.tail (r:=l++D) (λh s=>K e h s) s)
def uU(ak:i<l.length):∀h,Sat (A::ax (l.set i ft)::D) h->Sat (ax (l.set i A)::D) h:=by
 intro h s;refine Sat.flat.2 ?_;replace s:Sat (A::(l.set i ft++D)) h:=Sat.tail (λ_=>Sat.flat.1) s
 induction l generalizing i h with
 |nil=>simp at ak
 |
  cons B l K=>
  cases i with
  |zero=>exact Sat.tail (r:=ft::(l++D)) (λh s=>Sat.drop s) s
  |succ i=>exact Sat.tail (r:=A::(l.set i ft++D)) (m:=l.set i A++D) (λh s=>K CX h s) (Sat.swap s)
def ty:∀h,Sat (A::ax l::D) h->Sat (ax (l++[A])::D) h:=by
 intro h s;refine Sat.flat.2 ?_;replace s:Sat (A::(l++D)) h:=Sat.tail (λ_=>Sat.flat.1) s
 induction l generalizing h with
 |nil=>exact s
 |cons B l K=>exact Sat.tail (r:=A::(l++D)) (m:=l++[A]++D) (λh s=>K h s) (Sat.swap s)
end
section
variable{P:Program}{F:World}{n:Nat}{I:eT}{M D R' l:List aq}{A:aq}{Q:Exit->Act->World->Prop}{c:Code}{E:Array Oper}{i:Nat}
def YU(s:hI (ax l) M D)(e:l[i]?=some A):∀h,Sat M h->Sat (A::ax (l.set i ft)::D) h:=λh st=>sj e h (s.to st)
def gp(s:hI A M D)(bP:hI (ax (l.set i ft)) D R')(ak:i<l.length):∀h,Sat M h->Sat (ax (l.set i A)::R') h:=λh st=>uU ak h (Sat.tail (λ_=>bP.to) (s.to st))
def u1(s:hI (ax l) M D)(e:l[i]?=some A)(h:G P F n c I (A::ax (l.set i ft)::D) Q):G P F n c I M Q:=nu (YU s e) h
def aqJ{os:List Oper}(s:hI (ax l) M D)(e:l[i]?=some A)(h:cE P F n E os I (A::ax (l.set i ft)::D) Q):cE P F n E os I M Q:=rp (YU s e) h
end
section
variable{P:Program}{α:Type}{F:World}{n:Nat}{I:eT}{M:List aq}{bD t dk:TypeId}{x y:Operand}{k z:IntKind}{p q:Int}(r:Int)
theorem x5{D:List aq}{fn:Func}{post:Value->List aq->Prop}{e:Exit}(V:e=.ret\/e=.normal){t b bO aY:Nat}{T te:TypeId}{l ce:List Value}{R:Nat×Nat}{u:Obj->List aq}[i:j9 P T aY][j:kZ b M (.cells l.toArray te R) u](ba:fn.results=#[.cell t T])(h1:gN I t=some (ptr b bO))(Y:(l.drop bO).take aY=ce)(av:ce.length=aY)(H:List aq)(hp:post Bl H)(B:∀h,Sat M h->Sat (H++D) h):
 GE F n I M vP:=
 x0 V (λa w aj s=>by
  obtain⟨E,W,Z⟩:=i.out;obtain⟨z,d8,gc⟩:=i.size;have aA:=s.heap (b:=b);have a6:=run_loadCells_list (P:=P) w q8 ce (λk v hk=>by
   rw[<-Y]at hk;have:=Af hk;rw[uh];simp[World.cell?,aA,this])
  rw[av]at a6;simp[results,ba,aj.val _ _ h1,asAddr,loadVar,Ag W Z,jM d8,gc,a6]) H hp B
def fC{op:Op}{bD:TypeId}{b c:Bool}(h:b=c)(o:b0 P F n op bD I M (.bool b)):b0 P F n op bD I M (.bool c):=h▸o
theorem aqK(aE:k.wrap (p*2^q.toNat)=r)(ah:ck I x=some (.int k p))(ag:ck I y=some (.int z q))(bh:0<=q)(h1:q<=k.bits):
 b0 P F n (.binOp .shl t x y dk) bD I M (.int k r):=λa w d pos J g aj _=>by
 simp only[execOp,aj.eval ah,aj.eval ag];simp[eqGuard,binOp_shl,shift_shl k z p q bh h1,aE]
theorem H2(aE:p/2^q.toNat=r)(ah:ck I x=some (.int k p))(ag:ck I y=some (.int z q))(bh:0<=q)(h1:q<=k.bits):
 b0 P F n (.binOp .shr t x y dk) bD I M (.int k r):=λa w d pos J g aj _=>by
 simp only[execOp,aj.eval ah,aj.eval ag];simp[eqGuard,binOp_shr,shift_shr k z p q bh h1,aE]
def DV{z:Type}{f:α->z}{l:List α}{i:Nat}{x:α}(h:l[i]?=some x):(l.map f)[i]?=some (f x):=by simp[h]
def CY(L:List α)(i j:Nat)(x d:α)(h:i<L.length):(L.set i x).getD j d=if j=i then x else L.getD j d:=by
 simp only[ix,Og];by_cases e:i=j
 . subst e;simp[h]
 . rw[a8 e,a8 (Ne.symm e)]
def Bm(s n:Nat):(s:Int).tmod n=((s%n:Nat):Int):=by rw[Wl ae];exact(Int.natCast_emod s n).symm
end
end Go.L
