import Derived.Test.YtnnhpnccfnghdaaGreatA1
import Derived.Laws.AppendOwn
import Derived.Laws.MakeOwn
import Derived.Laws.IdiomMaps
import Derived.Laws.StructEq
import Derived.ProofKit
import Derived.OpenShut
import Derived.ShutString
import Derived.ChangeOld
import Derived.Below
import Derived.Deep.Slices
import Derived.Deep.Strs
import Derived.JoinedCond
import Derived.Carry
import Derived.SizedLaws
set_option linter.all false
namespace Go.L
section
variable(h:eQ)(v:Value)(e:TypeId)(aZ n:Nat)(xs:List Value)
def tC:Value->Nat
 |.slice (some a) _ _=>a.block
 |_=>0
def tD:Value->Nat
 |.slice (some a) _ _=>a.off
 |_=>0
def el(m:Nat):Value:=.pointer (some ⟨tC v,tD v+m,none⟩)
def gI:Prop:=
 (v=.slice none 0 0/\xs=[]/\n=0)\/∃b bY I C,v=.slice (some ⟨b,bY,I⟩) n C/\(0<n->I=none)/\(∀j x,xs[j]?=some x->I=none/\∃cs e R,h b=some (.cells cs e R)/\cs[bY+j]?=some x)
def oc:Prop:=
 xs.length=n*aZ/\((v=.slice none 0 0/\n=0)\/∃b C dJ,v=.slice (some ⟨b,0,none⟩) n C/\(xs++dJ).length=C*aZ/\n<=C/\C<=maxLen/\h b=some (.cells (xs++dJ).toArray e (0,0)))
def own:al:=λh=>oc h v e aZ n xs
end
section
variable{h k:eQ}{v:Value}{A:al}{e:TypeId}{aZ n:Nat}{D:List al}{xs:List Value}{r:List al}
def base(W:World):al:=λh=>∀b,b<W.heap.size->h b=W.heap[b]?
class je(v:Value)(M:List al)(n:outParam Nat)(xs:outParam (List Value)):Prop where
 get:∀{h:eQ},Sat M h->gI h v n xs
class sd(v:Value)(M:List al)(e:outParam TypeId)(aZ n:outParam Nat)(xs:outParam (List Value))(u:outParam (List Value->List al)):Prop where
 get:∀{h:eQ},Sat M h->oc h v e aZ n xs
 set:∀{h:eQ} {b C:Nat} {dJ:List Value} (V:List Value),Sat M h->v=.slice (some ⟨b,0,none⟩) n C->h b=some (.cells (xs++dJ).toArray e (0,0))->V.length=xs.length->Sat (u V) (j0 h b (.cells (V++dJ).toArray e (0,0)))
def gI.imp(s:gI h v n xs)(f:∀b o,h b=some o->k b=some o):gI k v n xs:=by
 rcases s with s|⟨b,bY,I,C,h1,h2,aN⟩
 . exact .inl s
 . exact .inr ⟨b,bY,I,C,h1,h2,λj x ah=>let⟨bA,cs,e,R,d3,g3⟩:=aN j x ah;⟨bA,cs,e,R,f _ _ d3,g3⟩⟩
def gI.more(s:gI h v n xs):gI (join h k) v n xs:=s.imp λ_ _ e=>join_some e
def oc.rd(s:oc h v e aZ n xs):gI h v n xs:=by
 obtain⟨aw,s|⟨b,C,dJ,h1,h2,aN,bA,d3⟩⟩:=s
 . obtain⟨s1,rfl⟩:=s;exact .inl ⟨s1,rR (by simpa using aw),rfl⟩
 . refine .inr ⟨b,0,none,C,h1,λ_=>rfl,λj x ah=>⟨rfl,_,e,_,d3,?_⟩⟩
   have O:=(dp.1 ah).1;simp[kY O,ah]
def oc.more(s:oc h v e aZ n xs):oc (join h k) v e aZ n xs:=by
 obtain⟨aw,s|⟨b,C,dJ,h1,h2,aN,bA,d3⟩⟩:=s
 . exact⟨aw,.inl s⟩
 . exact⟨aw,.inr ⟨b,C,dJ,h1,h2,aN,bA,join_some d3⟩⟩
instance je.own:je v (own v e aZ n xs::r) n xs where
 get:=fun⟨_,_,_,e,aX,_⟩=>e▸(oc.rd aX).more
instance je.tail[i:je v r n xs]:je v (A::r) n xs where
 get:=λs=>i.get uB
class gw(v:Value)(A:al)(n:outParam Nat)(xs:outParam (List Value)):Prop where
 get:∀{h:eQ},A h->gI h v n xs
instance je.part[i:gw v A n xs]:je v (A::r) n xs where
 get:=fun⟨_,_,_,e,aX,_⟩=>e▸(i.get aX).more
instance je.lit{b n C:Nat}{e:TypeId}{xs:List Value}{r:List al}:je (.slice jA n C) (aa b e xs::r) n xs where
 get:=fun⟨_,_,_,aC,aX,_⟩=>aC▸.inr ⟨b,0,none,C,rfl,λ_=>rfl,λj x ah=>⟨rfl,xs.toArray,e,(0,0),join_some aX,by simpa using ah⟩⟩
instance sd.head:sd v (own v e aZ n xs::r) e aZ n xs (λV=>own v e aZ n V::r)where
 get:=fun⟨_,_,_,e,aX,_⟩=>e▸oc.more aX
 set:=fun{_ b C dJ} V ⟨h1,h2,d,gJ,aX,aF⟩ Z aA aw=>by
  subst gJ;obtain⟨W,s|⟨l,Y,a,cR,b8,il,ez,f⟩⟩:=aX
  . rw[s.1]at Z;cases Z
  . have:l=b:=by rw[cR]at Z;simp only[Value.slice.injEq,Option.some.injEq,Addr.mk.injEq]at Z;exact Z.1.1
    subst this;have co:(xs++a).toArray=(xs++dJ).toArray:=by
     have:=join_some (h2:=h2) f;rw[aA]at this;simp only[Option.some.injEq,Obj.cells.injEq]at this;exact this.1.symm
    have o:a=dJ:=by
     have:=congrArg Array.toList co;simpa using this
    subst o;obtain⟨aC,d1⟩:=uA (S:=.cells (V++a).toArray e (0,0)) f d;exact⟨_,h2,d1,aC,⟨by rw[aw,W],.inr ⟨l,Y,a,cR,by rw[eZ,aw,<-eZ];exact b8,il,ez,by simp[j0]⟩⟩,aF⟩
instance sd.tail{u:List Value->List al}[i:sd v r e aZ n xs u]:sd v (A::r) e aZ n xs (λV=>A::u V)where
 get:=λs=>i.get uB
 set:=fun{_ b C dJ} V ⟨h1,h2,d,gJ,aX,aF⟩ Z aA aw=>by
  subst gJ;have j:h2 b=some Hz:=by
   obtain⟨_,s|⟨l,Y,a,cR,_,_,_,f⟩⟩:=i.get aF
   . rw[s.1]at Z;cases Z
   . have:l=b:=by rw[cR]at Z;simp only[Value.slice.injEq,Option.some.injEq,Addr.mk.injEq]at Z;exact Z.1.1
     subst this;have:=join_some (h2:=h1) f;rw[join_comm d.symm]at this;rw[aA]at this;rw[f,<-this]
  obtain⟨aC,d1⟩:=uA (S:=.cells (V++dJ).toArray e (0,0)) j d.symm;refine⟨h1,_,d1.symm,?_,aX,i.set V aF Z j aw⟩;rw[join_comm d,aC,join_comm d1]
def YH{A:al}{D:List al}:∀h,Sat (A::D) h->Sat (A::own eK e aZ 0 []::D) h:=λ_ s=>
 Sat.tail (r:=D) (m:=own eK e aZ 0 []::D) (λh s=>Y1) s
def jc:∀h,Sat D h->Sat (own eK e aZ 0 []::D) h:=λh s=>
 Y1
def oc.form(s:oc h v e aZ n xs):∃a C,v=.slice a n C:=by
 obtain⟨_,⟨rfl,rfl⟩|⟨b,C,_,rfl,_⟩⟩:=s
 . exact⟨_,_,rfl⟩
 . exact⟨_,_,rfl⟩
end
section
variable{P:Program}{H w:World}{n:Nat}{J:e6}{M:List al}{bH:TypeId}
section
variable{x y:Operand}{t:TypeId}{v:Value}{j k e m aZ:Nat}{d9:IntKind}{xs:List Value}
def aqI[i:jU P t e aZ][r:je v M k xs](h:cm J x=some v):b1 P H n Ob bH J M (.int .i64 k):=λa w d pos N g ai s=>by
 obtain⟨z,h1,h2,aN⟩:=i.out;simp only[execOp,resolve,oM,gx,mO,ai.eval h];rcases r.get s.fg with⟨rfl,_,rfl⟩|⟨b,bY,I,C,rfl,_,_⟩<;>simp[invoke,builtin,Builtin.len_,gG h1,goInt]
def gf[i:jU P t e aZ][r:je v M k xs](h:cm J x=some v)(ag:cm J y=some (.int d9 (j:Int)))(O:j<k):b1 P H n (.indexAddr t x y) bH J M (el v (j*aZ)):=λa w d pos N g ai s=>by
 obtain⟨z,h1,h2,aN⟩:=i.out;simp only[execOp,ai.eval h,ai.eval ag];rcases r.get s.fg with⟨_,_,rfl⟩|⟨b,bY,I,C,rfl,o,_⟩
 . omega
 . obtain rfl:=o ad
   have bi:(0:Int)<=j/\(j:Int)<k:=ad;simp[Instr.indexAt,asIntOf,gG h1,jP h2,aN,O,el,tC,tD,Addr.add]
def lU{b o j len aZ:Nat}{d9:IntKind}[i:A5 P t len aZ](h:cm J x=some (ptr b o))(ag:cm J y=some (.int d9 (j:Int)))(O:j<len):b1 P H n (.indexAddr t x y) bH J M (ptr b (o+j*aZ)):=λa w d pos N g ai s=>by
 obtain⟨e,z,h1,h2,aN⟩:=i.out;simp only[execOp,ai.eval h,ai.eval ag];simp[Instr.indexAt,Instr.sureAddr,asIntOf,gG h1,jP h2,aN,O,Addr.add]
def si{s:TypeId}{x:Operand}{v:Value}{f m bY:Nat}[i:bS P s f bY](h:cm J x=some (el v m)):b1 P H n (.fieldAddr s x f) bH J M (el v (m+bY)):=by
 have:=mX (P:=P) (H:=H) (n:=n) (bH:=bH) (M:=M) (s:=s) (f:=f) (i:=i) (x:=x) (b:=tC v) (o:=tD v+m) h;rw[show el v (m+bY)=ptr (tC v) (tD v+m+bY) by simp[el,nZ]];exact this
def Oy{x:Value}(h:gI (fW w) v k xs)(ah:xs[m]?=some x):w.cell? ⟨tC v,tD v+m,none⟩=some x:=by
 rcases h with⟨_,rfl,_⟩|⟨b,bY,I,C,rfl,_,aN⟩
 . simp at ah
 . obtain⟨_,cs,e,R,h2,bA⟩:=aN _ _ ah
   have aA:w.heap[b]?=_:=h2;simp[tC,tD,World.cell?,aA,bA]
end
section
variable{t e:TypeId}{x y:Operand}{v:Value}{m k aZ bytes:Nat}{xs V cg:List Value}
def gF{y:Value}{m k:Nat}{xs:List Value}[i:e3 P t][r:je v M k xs](h:cm J x=some (el v m))(ag:xs[m]?=some y):b1 P H n (.load t x) bH J M y:=λa w d pos N g ai s=>by
 obtain⟨F,h1,h2⟩:=i.out;have a6:=Oy (r.get s.fg) ag;simp only[execOp,ai.eval h];simp[el,Instr.loadAt,Instr.sureAddr,loadVar,DQ h1 h2,run_load,a6]
def kz[i:j8 P t aZ][r:je v M k xs](h:cm J x=some (el v m))(Z:(xs.drop m).take aZ=cg)(aw:cg.length=aZ):b1 P H n (.load t x) bH J M wM:=λa w d pos N g ai s=>by
 obtain⟨F,h1,h2⟩:=i.out;obtain⟨z,aN,bA⟩:=i.size;have a6:=run_loadCells_list (P:=P) w ⟨tC v,tD v+m,none⟩ cg (λk v hk=>by
  rw[<-Z]at hk;have:=Oy (r.get s.fg) (Ae hk);rw[ud];rw[nZ];exact this)
 simp only[execOp,ai.eval h];simp[el,Instr.loadAt,Instr.sureAddr,loadVar,Af h1 h2,jP aN,bA];rw[aw]at a6;simp[a6]
def Y2(h1:v.oneCell'=true):v.cells=#[v]:=by cases v<;>simp[Value.oneCell']at h1<;>rfl
theorem s7{F:Value}{m k e aZ:Nat}{xs:List Value}{u:List Value->List al}[i:e3 P t][r:sd v M e aZ k xs u](h:cm J x=some (el v m))(ag:cm J y=some F)(h1:F.oneCell'=true)(bf:m<xs.length):
 dk P H n (.store t x y) bH J M (u (xs.set m F)):=λa w d pos N g ai s=>by
 obtain⟨z,aN,bA⟩:=i.size;obtain⟨aw,⟨rfl,rfl⟩|⟨b,C,dJ,Z,b8,il,ez,f⟩⟩:=r.get s.fg
 . simp at aw;subst aw;simp at bf
 . have aA:w.heap[b]?=_:=f
   have j:m<(xs++dJ).length:=h9;have a6:∃c,w.cell? ⟨b,m,none⟩=some c:=⟨(xs++dJ)[m],by simp only[World.cell?,aA];simp[cD j]⟩;obtain⟨c,a6⟩:=a6;have ba:w.frozen? ⟨b,m,none⟩=false:=by simp[World.frozen?,aA]
   refine⟨w.setCell ⟨b,m,none⟩ F,?_,?_⟩
   . simp only[execOp,ai.eval h,ai.eval ag]
     simp[Z,el,tC,tD,Instr.storeAt,Instr.sureAddr,storeVar,jP aN,bA,Y2 h1,storeCells,Addr.add,run_store,h1,stored,a6,ba]
   . have g3:=r.set (xs.set m F) s.fg Z f gl
     refine⟨s.os,s.tape,s.output,by have:=s.size;simpa[World.setCell]using this,?_⟩;have:fW (w.setCell ⟨b,m,none⟩ F)=j0 (fW w) b (.cells (xs.set m F++dJ).toArray e (0,0)):=by
      unfold World.setCell;rw[wo _ f];simp[F5 _ _ bf]
     rw[this];exact g3
def ti:∀(cs l:List Value) (bY:Nat),bY+cs.length<=l.length->kE l bY cs=l.take bY++cs++l.drop (bY+cs.length)
 |[],l,bY,_=>by simp[kE]
 |
  c::cs,l,bY,h=>by
  simp only[iG]at h;rw[kE,ti cs _ (bY+1) h9];have h1:bY<l.length:=ad;have h2:(l.set bY c).take (bY+1)=l.take bY++[c]:=by
   rw[nv (by simpa using h1),List.take_set_of_le (et _),yX]
  rw[h2,List.drop_set_of_lt ad];rw[show bY+(c::cs).length=bY+1+cs.length by simp;omega];simp
def dt.setRow{g:Nat}{o:Obj}{u:Obj->List al}[i:kV g M o u](s:dt H M w){a row:Array Value}{e:TypeId}(aJ:o=.cells a e (0,0)):dt H (u (.cells row e (0,0))) (w.setRow g row):=by
 have h:=i.get s.fg;refine⟨s.os,s.tape,s.output,by have:=s.size;simpa[World.setRow]using this,?_⟩;have:fW (w.setRow g row)=j0 (fW w) g (.cells row e (0,0)):=by
  unfold World.setRow;rw[wo _ h];rw[aJ]
 rw[this];exact i.set _ s.fg
theorem Oz{b bY aZ:Nat}{e:TypeId}{l cg:List Value}{u:Obj->List al}[i:j8 P t aZ][j:kV b M (.cells l.toArray e (0,0)) u](h:cm J x=some (ptr b bY))(Z:cm J y=some wM)(h1:cg.all Value.oneCell'=true)(S:cg.length=aZ)(aw:Nat.ble (bY+cg.length) l.length=true):
 dk P H n (.store t x y) bH J M (u (.cells (kE l bY cg).toArray e (0,0))):=λa w d pos N g ai s=>by
 obtain⟨z,aN,bA⟩:=i.size;have aA:=s.heap (b:=b);have W:=Dm aw;have ge:=run_storeCells_at P b bY e cg 0 l.toArray w aA (by simpa using W) Ik;refine⟨_,?_,s.setRow (g:=b) (row:=(kE l bY cg).toArray) rfl⟩;simp only[execOp,ai.eval h,ai.eval Z];rw[ti _ _ _ W];simp[Instr.storeAt,Instr.sureAddr,storeVar,jP aN,bA,Value.cells,S];simp[ge,S]
theorem Il{e aZ c:Nat}{xs cg:List Value}{u:List Value->List al}[i:j8 P t c][r:sd v M e aZ k xs u](h:cm J x=some (el v m))(ag:cm J y=some wM)(h1:cg.all Value.oneCell'=true)(S:cg.length=c)(bf:m+cg.length<=xs.length)(bi:0<cg.length):
 dk P H n (.store t x y) bH J M (u (kE xs m cg)):=λa w d pos N g ai s=>by
 obtain⟨z,aN,bA⟩:=i.size;obtain⟨aw,⟨rfl,rfl⟩|⟨b,C,dJ,Z,b8,il,ez,f⟩⟩:=r.get s.fg
 . have:xs.length=0:=by simpa using aw
   omega
 . have aA:w.heap[b]?=_:=f
   have ge:=run_storeCells_at P b m e cg 0 (xs++dJ).toArray w aA h9 Ik;have g3:=r.set (kE xs m cg) s.fg Z f (Y3 _ _ _);have gJ:((xs++dJ).toArray.toList.take (m+0)++cg++(xs++dJ).toArray.toList.drop (m+0+cg.length))=kE xs m cg++dJ:=by
    rw[ti _ _ _ bf];simp[HB (show m<=xs.length by omega),apa bf]
   rw[gJ]at ge;refine⟨w.setRow b (kE xs m cg++dJ).toArray,?_,s.os,s.tape,s.output,by have:=s.size;simpa[World.setRow]using this,?_⟩
   . simp only[execOp,ai.eval h,ai.eval ag]
     simp[Z,el,tC,tD,Instr.storeAt,Instr.sureAddr,storeVar,jP aN,bA,Value.cells,S];simp[ge]
   . have aV:fW (w.setRow b (kE xs m cg++dJ).toArray)=j0 (fW w) b (.cells (kE xs m cg++dJ).toArray e (0,0)):=by
      unfold World.setRow;rw[wo _ f]
     rw[aV];exact g3
def yY(aZ:Nat)(l:List Value):List (Nat×Value)->Option (List Value)
 |[]=>some l
 |(i,v)::r=>match v.cells.toList with
  |cs=>cond (Nat.beq cs.length aZ&&Nat.ble (i*aZ+cs.length) l.length) (yY aZ (kE l (i*aZ) cs) r) none
def Y4(aZ:Nat):∀(O:List (Nat×Value)) (l cs:List Value),yY aZ l O=some cs->Instr.fill (λi=>some (i*aZ,aZ)) l.toArray O=some cs.toArray
 |[],l,cs,h=>by simp[yY]at h;simp[Instr.fill,h]
 |
  (i,v)::r,l,cs,h=>by
  simp only[yY]at h;simp only[Instr.fill];cases aA:(Nat.beq v.cells.toList.length aZ&&Nat.ble (i*aZ+v.cells.toList.length) l.length)with
  |false=>rw[aA]at h;cases h
  |
   true=>
   rw[aA]at h;simp only[iy,Nat.ble_eq]at aA;simp only[cond_true]at h;have h1:v.cells.size=aZ:=Y5;have h2:i*aZ+v.cells.size<=l.length:=by simpa using aA.2
   rw[a7 (by simp[h1];omega)];have aN:=OA v.cells.toList l (i*aZ) 0;have bA:(v.cells.zipIdx.foldl (λcs (x:Value×Nat)=>cs.setIfInBounds (i*aZ+x.2) x.1) l.toArray)=(kE l (i*aZ) v.cells.toList).toArray:=by
    rw[<-XT,Array.toList_zipIdx];simpa using aN
   rw[bA];exact Y4 aZ r _ _ h
def iV(V:List Value):Nat->List Value
 |0=>[]
 |k+1=>V++iV V k
def AZ(V:List Value):∀k,(iV V k).length=k*V.length
 |0=>by simp[iV]
 |k+1=>by simp[iV,AZ V k,nb];omega
def NN(V:List Value)(T:0<V.length):∀(k j:Nat),j<k*V.length->(iV V k)[j]?=V[j%V.length]?
 |0,j,h=>by omega
 |
  k+1,j,h=>by
  simp only[iV];rcases rY j V.length with x|x
  . rw[kY x,Y6 x]
  . rw[py x,NN V T k _ (by rw[nb]at h;omega),Nat.mod_eq_sub_mod x]
def YT(V:List Value)(k:Nat)(d:Value):(List.range (k*V.length)).map (λi=>(V[i%V.length]?).getD d)=iV V k:=by
 apply uQ;intro j;rcases rY j (k*V.length)with x|x
 . have T:0<V.length:=by
    rcases HC V.length with y|y;· rw[y]at x;omega
    . exact y
   have h2:j%V.length<V.length:=yK _ T;rw[fD,uZ x,NN V T k j x];simp[h2]
 . exact XS
class jM(P:Program)(t:TypeId)(e:outParam TypeId)(aZ bytes:outParam Nat)(V:outParam (List Value)):Prop where
 out:∃i F,P.underlying t=some (.slice e)/\P.info? e=some i/\i.size=aZ/\i.bytes=bytes/\i.zero=some F/\F.cells=V.toArray/\V.length=aZ
theorem p6{len:Nat}{V cs:List Value}{xs:List (Nat×Operand)}{O:List (Nat×Value)}[i:jM P t e aZ bytes V](hlen:Nat.ble (len*aZ) 16777216=true)(hp:Nat.blt 0 (len*aZ)=true)(ah:wP J xs=some O)(ba:yY aZ (iV V len) O=some cs):
 c7 P H n (.buildSlice t len xs.toArray) bH J M (λv I=>∃b,v=.slice jA len len/\I=aa b e cs::M):=λa w d pos N g ai s=>by
 obtain⟨z,F,h1,h2,aN,bA,d3,g3,l⟩:=i.out;have c:=Y4 _ _ _ _ ba;have aw:¬(16777216<len*aZ):=by have:=Dm hlen;omega
 have k:0<len*aZ:=by simpa[yu]using hp
 have f:len*aZ≠0:=ad;have p:((Array.range (len*aZ)).map λx=>V.toArray[x%aZ]!)=(iV V len).toArray:=by
  rw[<-YT V len default,l];apply Array.ext';simp
 refine⟨_,_,_,?_,⟨w.heap.size,rfl,rfl⟩,s.new _⟩;simp only[execOp,Instr.buildSlice,oM,OB ai ah];have o:¬(len=0\/aZ=0):=by rintro(rfl|rfl)<;>simp at f
 simp[gG h1,jP h2,vQ h2 d3,aN,aw,o,newRow,g3,l]at c p⊢;simp[p,c];intro h;exact absurd h f
theorem H5{x:Operand}{v:Value}[i:jM P t e aZ bytes V](ah:cm J x=some v)(h1:v.oneCell'=true)(l:Nat.beq aZ 1=true):
 c7 P H n (.buildSlice t 1 [(0,x)].toArray) bH J M (λu I=>∃b,u=.slice jA 1 1/\I=aa b e [v]::M):=by
 have ai:aZ=1:=lr l;subst ai;obtain⟨z,F,W,cU,em,gc,hm,G,Q⟩:=i.out;obtain⟨z0,rfl⟩:∃z0,V=[z0]:=by match V,Q with|[z0],_=>exact⟨z0,rfl⟩
 exact p6 (i:=i) rfl rfl (by simp[wP,ah];rfl) (by simp[yY,Y2 h1,iV,kE];rfl)
theorem H6{x:Operand}[i:jM P t e aZ bytes V](ah:cm J x=some wM)(l:Nat.beq cg.length aZ=true)(bi:Nat.blt 0 aZ=true)(bf:Nat.ble aZ 16777216=true):
 c7 P H n (.buildSlice t 1 [(0,x)].toArray) bH J M (λu I=>∃b,u=.slice jA 1 1/\I=aa b e cg::M):=by
 have ai:cg.length=aZ:=lr l;obtain⟨z,F,W,cU,em,gc,hm,G,Q⟩:=i.out;refine p6 (i:=i) (by simpa using bf) (by simpa using bi) (by simp[wP,ah];rfl) ?_;simp only[yY,Value.cells,iV,jb,Nat.zero_mul,lo];have aC:Nat.beq cg.length aZ=true:=l;have aV:Nat.ble cg.length V.length=true:=by rw[Q,ai];exact Nat.ble_eq_true_of_le (et _)
 simp only[List.toList_toArray,aC,aV,Bool.and_self,cond_true];rw[ti _ _ _ ad];simp;omega
end
section
variable{x y:Operand}{v u:Value}{t e:TypeId}{aZ bytes k m:Nat}{V xs E:List Value}{D:List al}
theorem Y7[i:jM P t e aZ bytes V](l:0<aZ)(s:dt H (own v e aZ k xs::D) w)(d7:gI (fW w) u m E)(aw:E.length=m*aZ)(h1:∀x∈E,x.oneCell'=true)
 (aA:(k+m)*bytes<=140737488355328)(q:k+m<=maxLen)(bH:TypeId):
 ∃v' X,(Builtin.append_ #[t,t] bH #[v,u]).run P w=.ok v' X/\dt H (own v' e aZ (k+m) (xs++E)::D) X:=by
 obtain⟨z,F,W,cU,rfl,rfl,hm,G,Q⟩:=i.out;have i9:(xs++E).length=(k+m)*z.size:=by
  obtain⟨bi,h2,_,_,⟨ah,_⟩,_⟩:=s.fg;rw[eZ,ah,aw,nb]
 have aCl:k+m<=9223372036854775807:=by simp only[maxLen]at q;omega
 have T:F.cells.size=z.size:=by rw[G];simp[Q]
 -- where a new row is made
 have Pi:∀a,a<k+m->dt H (own (.slice (some ⟨w.heap.size,0,none⟩) (k+m) (grownCap w (k+m) a e)) e z.size (k+m) (xs++E)::D)
  (w.drew.alloc (.cells (xs.toArray++E.toArray++Builtin.zeroCells F.cells (grownCap w (k+m) a e -(k+m))) e)):=λa aJ=>by
  have N:=grownCap_ge w (k+m) a e;have m9:=grownCap_le_maxLen w (k+m) a e q;have s1:dt H (eD w.heap.size (.cells (xs.toArray++E.toArray++Builtin.zeroCells F.cells (grownCap w (k+m) a e -(k+m))) e)::D) (w.drew.alloc (.cells (xs.toArray++E.toArray++Builtin.zeroCells F.cells (grownCap w (k+m) a e -(k+m))) e)):=
   (s.imp λ_=>Sat.drop).drew.new _
  refine s1.imp λ_=>Sat.head λh co=>⟨i9,.inr ⟨_,_,(Builtin.zeroCells F.cells (grownCap w (k+m) a e -(k+m))).toList,rfl,?_,N,m9,?_⟩⟩
  . rw[eZ,i9,Array.length_toList,size_zeroCells,T,<-nb];congr 1;omega
  . have Lg:h w.heap.size=some _:=co
    rw[Lg];congr 2;apply Array.ext';simp
 obtain⟨A,t7,d,gJ,⟨ah,Z⟩,K⟩:=s.fg;rcases d7 with⟨rfl,rfl,rfl⟩|⟨b,bY,I,C,rfl,_,B⟩
 . -- nothing is appended
   refine⟨v,w,?_,by simpa using s⟩;rcases Z with⟨rfl,rfl⟩|⟨b,C,dJ,rfl,_,hk,_,_⟩
   . simp[Builtin.append_,run_underlying W,sizeOf,typeInfo,cU,Builtin.lenOf,Builtin.firstCells]
   . simp[Builtin.append_,run_underlying W,sizeOf,typeInfo,cU,Builtin.lenOf,Builtin.firstCells,hk,storeCells]
 . have c:∀j x,E[j]?=some x->w.cell? ((⟨b,bY,I⟩:Addr).add j)=some x:=λj x O=>by
    obtain⟨rfl,cs,y,R,L,r⟩:=B j x O;have U:w.heap[b]?=_:=L;rw[ud];simp[World.cell?,U,r]
   rcases Z with⟨rfl,rfl⟩|⟨g,Y,dJ,rfl,b8,il,ez,f⟩
   . have p:xs=[]:=rR (by simpa using ah)
     subst p;by_cases bf:m=0
     . subst bf
       have aO:E=[]:=rR (by simpa using aw);subst aO;refine⟨_,w,?_,by simpa using s⟩;simp[Builtin.append_,run_underlying W,sizeOf,typeInfo,cU,Builtin.lenOf,Builtin.firstCells,loadCells,loadCellsFrom]
     . have aF:=run_append_nil (P:=P) w t bH e z F W cU hm ⟨b,bY,I⟩ m C E aw c ad ad (by have aA:=aA;simp only[lo]at aA;omega)
       have Po:=Pi 0 ad;simp only[lo,ci,Array.empty_append]at Po⊢;exact⟨_,_,aF,Po⟩
   . have aY:w.heap[g]?=some (.cells (xs++dJ).toArray e (0,0)):=by
      have:fW w g=_:=gJ▸join_some (h2:=t7) f;exact this
     by_cases n:k+m<=Y
     . have Lx:k*z.size+E.length<=(xs++dJ).toArray.size:=by rw[aw,x2,b8,<-nb];exact pN _ n
       have aF:=run_append_room (P:=P) w t bH e z W cU g k Y _ aY ⟨b,bY,I⟩ m C E aw c h1 n Lx;refine⟨_,_,aF,s.os,s.tape,s.output,by have:=s.size;simpa[World.setRow]using this,?_⟩;have aC:((xs++dJ).toArray.toList.take (k*z.size)++E++(xs++dJ).toArray.toList.drop (k*z.size+E.length))=(xs++E)++dJ.drop E.length:=by
        rw[<-ah];simp[List.drop_append]
       have aV:fW (w.setRow g ((xs++dJ).toArray.toList.take (k*z.size)++E++(xs++dJ).toArray.toList.drop (k*z.size+E.length)).toArray)=j0 (fW w) g (.cells ((xs++E)++dJ.drop E.length).toArray e (0,0)):=by
        rw[aC];unfold World.setRow;rw[wo _ (o:=.cells (xs++dJ).toArray e (0,0)) aY]
       rw[aV,gJ];obtain⟨bF,J⟩:=uA (S:=.cells ((xs++E)++dJ.drop E.length).toArray e (0,0)) f d;refine⟨_,t7,J,bF,⟨i9,.inr ⟨g,Y,dJ.drop E.length,rfl,?_,n,ez,by simp[j0]⟩⟩,K⟩;simp only[eZ,vP]at b8⊢;simp only[x2,eZ]at Lx;rw[ah]at b8 Lx⊢;omega
     . have holds:∀j x,xs[j]?=some x->w.cell? ((⟨g,0,none⟩:Addr).add j)=some x:=λj x O=>by
        have M:=(dp.1 O).1;rw[ud];simp[World.cell?,aY,kY M,O]
       have aF:=run_append_grow (P:=P) w t bH e z F W cU hm ⟨g,0,none⟩ k Y xs ah holds ⟨b,bY,I⟩ m C E aw c ad ad (growslice_fits ad aA);exact⟨_,_,aF,Pi Y ad⟩
theorem DX{b t e:TypeId}{aZ bytes k m c:Nat}{V xs E:List Value}{D:List al}[i:jM P t e aZ bytes V](h:cm J x=some v)(ag:cm J y=some (.slice jA m c))(hp:Part [own v e aZ k xs,aa b e E] M D)
 (l:Nat.blt 0 aZ=true)(aw:Nat.beq E.length (m*aZ)=true)(h1:E.all Value.oneCell'=true)(aA:(k+m)*bytes<=140737488355328)(q:k+m<=maxLen):
 c7 P H n NM bH J M Y8:=λa w d pos N g ai s=>by
 have s1:=s.imp λ_=>hp.to;have d7:gI (fW w) (.slice jA m c) m E:=je.get (M:=own v e aZ k xs::aa b e E::D) s1.fg;obtain⟨v',X,aF,aW⟩:=Y7 (P:=P) (i:=i) (by simpa[yu]using l) s1 d7 (lr aw) Ik aA q bH;obtain⟨ca,kn,rfl⟩:=(sd.get (v:=v') (M:=own v' e aZ (k+m) (xs++E)::_) aW.fg).form;refine⟨_,_,X,?_,⟨ca,kn,rfl,rfl⟩,aW.imp λ_=>Sat.tail λ_=>Sat.drop⟩;simp only[execOp,resolve,oM,gx,mO,ai.eval h,ai.eval ag];simp[invoke,builtin,aF]
theorem MH[i:jM P t e aZ bytes V][r:je u M m E](h:cm J x=some v)(ag:cm J y=some u)(hp:hJ (own v e aZ k xs) M D)
 (l:Nat.blt 0 aZ=true)(aw:E.length=m*aZ)(h1:E.all Value.oneCell'=true)(aA:(k+m)*bytes<=140737488355328)(q:k+m<=maxLen):
 c7 P H n NM bH J M Y8:=λa w d pos N g ai s=>by
 obtain⟨v',X,aF,aW⟩:=Y7 (P:=P) (i:=i) (by simpa[yu]using l) DR (r.get s.fg) aw Ik aA q bH;obtain⟨ca,kn,rfl⟩:=(sd.get (v:=v') (M:=own v' e aZ (k+m) (xs++E)::_) aW.fg).form;refine⟨_,_,X,?_,⟨ca,kn,rfl,rfl⟩,aW⟩;simp only[execOp,resolve,oM,gx,mO,ai.eval h,ai.eval ag];simp[invoke,builtin,aF]
end
end
section
variable{r:Nat}{z E:Type}{d9:IntKind}{m:List (Int×Value)}{D:List al}
def bs(r:Nat)(d9:IntKind)(m:List (Int×Value)):al:=λh=>∃es b,h r=some (.map es b)/\es.toList.map (λe=>(e.key,e.val))=m.map (λp=>(Value.int d9 p.1,p.2))
def dR{z:Type}(m:List (Int×z))(k:Int):Option z:=
 match m with
 |[]=>none
 |(j,v)::r=>if k=j then some v else dR r k
def ew{z:Type}(m:List (Int×z))(k:Int)(v:z):List (Int×z):=
 match m with
 |[]=>[(k,v)]
 |(j,u)::r=>if k=j then(k,v)::r else(j,u)::ew r k v
def Ot(m:List (Int×z))(k:Int)(v:z)(j:Int):dR (ew m k v) j=if j=k then some v else dR m j:=by
 induction m with
 |nil=>simp[ew,dR]
 |
  cons p r L=>
  obtain⟨q,u⟩:=p;simp only[ew];by_cases h:k=q
  . subst h;simp only[fu,dR];by_cases O:j=k<;>simp[O]
  . simp only[a7 h,dR,L]
    by_cases O:j=q
    . subst O;simp[Ne.symm h]
    . simp[O]
def yQ(f:z->E)(m:List (Int×z))(k:Int):dR (m.map λp=>(p.1,f p.2)) k=(dR m k).map f:=by
 induction m with
 |nil=>rfl
 |cons p r L=>simp only[gx,dR,L];split<;>rfl
def DV(f:z->E)(m:List (Int×z))(k:Int)(v:z):ew (m.map λp=>(p.1,f p.2)) k (f v)=(ew m k v).map λp=>(p.1,f p.2):=by
 induction m with
 |nil=>rfl
 |cons p r L=>simp only[gx,ew,L];split<;>simp
class uY(r:Nat)(M:List al)(d9:outParam IntKind)(m:outParam (List (Int×Value)))(u:outParam (List (Int×Value)->List al)):Prop where
 get:∀{h:eQ},Sat M h->∃es b,h r=some (.map es b)/\es.toList.map (λe=>(e.key,e.val))=m.map (λp=>(Value.int d9 p.1,p.2))
 set:∀{h:eQ} (q:List (Int×Value)) (es:Array MapEntry) (b:Nat),Sat M h->es.toList.map (λe=>(e.key,e.val))=q.map (λp=>(Value.int d9 p.1,p.2))->Sat (u q) (j0 h r (.map es b))
instance uY.head:uY r (bs r d9 m::D) d9 m (λq=>bs r d9 q::D)where
 get:=fun⟨_,_,_,e,⟨es,c,h1,h2⟩,_⟩=>⟨es,c,e▸join_some h1,h2⟩
 set:=λq es b ⟨h1,h2,d,e,⟨a,eA,cR,_⟩,aF⟩ Y=>by
  subst e;obtain⟨aC,d1⟩:=uA (S:=.map es b) cR d;exact⟨_,h2,d1,aC,⟨es,b,by simp[j0],Y⟩,aF⟩
instance uY.tail{A:al}{d9:IntKind}{m:List (Int×Value)}{D:List al}{u:List (Int×Value)->List al}[i:uY r D d9 m u]:uY r (A::D) d9 m (λq=>A::u q)where
 get:=λs=>i.get uB
 set:=λq es b ⟨h1,h2,d,e,aX,aF⟩ Y=>by
  subst e;obtain⟨a,eA,cR,_⟩:=i.get aF;obtain⟨aC,d1⟩:=uA (S:=.map es b) cR d.symm;refine⟨h1,_,d1.symm,?_,aX,i.set q es b aF Y⟩;rw[join_comm d,aC,join_comm d1]
class se(P:Program)(t:TypeId)(d9:outParam IntKind)(F:outParam Value):Prop where
 out:∃k e i,P.underlying t=some (.map k e)/\P.underlying k=some (.int d9)/\P.info? e=some i/\i.zero=some F
end
section
variable{P:Program}{H w:World}{n:Nat}{J:e6}{M:List al}{bH:TypeId}
section
variable{α bv:Type}{t dr e:TypeId}{x y:Operand}{z:Addr}{d9:IntKind}{F:Value}{r:Nat}{k:Int}{m:List (Int×Value)}{u:List (Int×Value)->List al}
def run_checkKey{k:TypeId}{d9:IntKind}(h:P.underlying k=some (.int d9))(b:Bool)(d:Nat)(x:Int)(w:World):(Instr.checkKey b (d+1) k (.int d9 x)).run P w=.ok () w:=by
 simp[Instr.checkKey,gG h]
def Ou(d9:IntKind)(x:Int):∀(es:List MapEntry) (m:List (Int×Value)) (i:Nat),es.map (λe=>(e.key,e.val))=m.map Bi->
 ∃
  o,Instr.findNow (.int d9) (.int d9 x) es i=some o/\o.map (·.2)=dR m x/\(∀j v,o=some (j,v)->i<=j/\∃e,es[j -i]?=some e/\e.key=.int d9 x/\
  ∀v',(es.modify (j -i) λe=>{e with key:=.int d9 x,val:=v'}).map If=(ew m x v').map Bi)/\
  (o=none->ew m x=λv'=>m++[(x,v')])
 |
  [],m,i,h=>by
  have:m=[]:=Ov;subst this;exact⟨none,rfl,rfl,by simp,λ_=>rfl⟩
 |
  e::es,m,i,h=>by
  obtain⟨⟨j,u⟩,q,rfl⟩:∃p q,m=p::q:=by cases m with
   |nil=>simp at h
   |cons p q=>exact⟨p,q,rfl⟩
  simp only[gx,List.cons.injEq,Prod.mk.injEq]at h;obtain⟨⟨h1,h2⟩,aN⟩:=h;have ai:Instr.sameNow (.int d9) (.int d9 x) e.key=some (x==j):=by rw[h1];simp[Instr.sameNow]
  by_cases ah:x=j
  . subst ah
    refine⟨some (i,e.val),by simp[Instr.findNow,ai],by simp[dR,h2],?_,by simp⟩;intro a v Y;simp only[Option.some.injEq,Prod.mk.injEq]at Y;obtain⟨rfl,rfl⟩:=Y;exact⟨et _,e,by simp,h1,λv'=>by simp[ew,aN]⟩
  . have aA:(x==j)=false:=by simpa using ah
    obtain⟨o,W,cU,em,gc⟩:=Ou d9 x es q (i+1) aN;refine⟨o,by simp[Instr.findNow,ai,aA,W],by simp[dR,ah,cU],?_,?_⟩
    . intro a v Y
      obtain⟨cR,y,b8,il,ez⟩:=em a v Y;have aC:a -i=(a -(i+1))+1:=ad;refine⟨by omega,y,by rw[aC];simpa using b8,il,λv'=>?_⟩;rw[aC];simp[ew,ah,h1,h2,ez v']
    . intro aJ;funext v'
      simp[ew,ah,gc aJ]
theorem YR[i:se P t d9 F][j:uY r M d9 m u](h:cm J x=some vR)(ag:cm J y=some (.int d9 k)):
 b1 P H n (.lookup t x y false) bH J M ((dR m k).getD F):=λa w d pos N g ai s=>by
 obtain⟨D,cQ,z,h1,h2,aN,bA⟩:=i.out;obtain⟨es,b,W,cU⟩:=j.get s.fg;have f:w.heap[r]?=_:=W;obtain⟨o,cR,b8,_,_⟩:=Ou d9 k es.toList m 0 cU;simp only[execOp,ai.eval h,ai.eval ag];have aY:=run_getObj_map (P:=P) w r es b f;simp[Instr.lookup,gG h1,aY,run_checkKey h2,Instr.findKey,gG h2,cR];cases o with
 |none=>simp[vQ aN bA];simp at b8;rw[<-b8];rfl
 |some p=>simp;simp at b8;rw[<-b8];rfl
theorem lT(v:Value)[i:se P t d9 F][j:uY r M d9 m u](Z:(dR m k).getD F=v)(h:cm J x=some vR)(ag:cm J y=some (.int d9 k)):
 b1 P H n (.lookup t x y false) bH J M v:=Z▸YR (i:=i) (j:=j) h ag
theorem Yz{q:Operand}{d9:IntKind}{F v:Value}{r:Nat}{k:Int}{m:List (Int×Value)}{u:List (Int×Value)->List al}[i:se P t d9 F][j:uY r M d9 m u](h:cm J x=some vR)(ag:cm J y=some (.int d9 k))(Z:cm J q=some v):
 dk P H n (.mapUpdate t x y q) bH J M (u (ew m k v)):=λa w d pos N g ai s=>by
 obtain⟨D,cQ,z,h1,h2,aN,bA⟩:=i.out;obtain⟨es,b,W,cU⟩:=j.get s.fg;have f:w.heap[r]?=_:=W;obtain⟨o,cR,b8,il,ez⟩:=Ou d9 k es.toList m 0 cU;have aY:=run_getObj_map (P:=P) w r es b f;have B:∀C:Obj,(setObj r C).run P w=.ok () {w with heap:=w.heap.setIfInBounds r C}:=λC=>by
  simp[setObj,Sem.run,f]
 have fin:∀(l:Array MapEntry) (c:Nat),l.toList.map (λe=>(e.key,e.val))=(ew m k v).map Bi->dt H (u (ew m k v)) Ig:=λl c Y=>
  ⟨s.os,s.tape,s.output,by have:=s.size;simpa using this,by rw[Dq _ W];exact j.set _ _ _ s.fg Y⟩
 simp only[execOp,ai.eval h,ai.eval ag,ai.eval Z];cases o with
 |
  none=>
  refine⟨_,?_,fin (es.push {key:=.int d9 k,val:=v,born:=b}) (b+1) (by rw[ez rfl];simp[cU])⟩;simp[Instr.mapUpdate,gG h1,aY,run_checkKey h2,Instr.findKey,gG h2,cR,B]
 |
  some p=>
  obtain⟨R,v0⟩:=p;obtain⟨_,e,aC,aV,bF⟩:=il R v0 rfl;simp only[Dl]at aC bF;refine⟨_,?_,fin (es.modify R λe=>{e with key:=.int d9 k,val:=v}) b YS⟩;have L:es[R]?=some e:=by simpa using aC
  simp[Instr.mapUpdate,gG h1,aY,run_checkKey h2,Instr.findKey,gG h2,cR,B,L,aV,Instr.keyThatStays,Instr.sameBits]
def Bh{b:Nat}{d9:IntKind}{D:List al}:∀h,Sat (eD b (.map #[] 0)::D) h->Sat (bs b d9 []::D) h:=λ_=>Sat.head λ_ co=>⟨#[],0,co,rfl⟩
theorem L4{aZ bytes k:Nat}{d9 b:IntKind}{V:List Value}{x y:Operand}[i:jM P t e aZ bytes V](ah:cm J x=some (.int d9 (k:Int)))(ag:cm J y=some (.int b (k:Int)))(q:k<=maxLen)(aA:bytes*k<=281474976710656):
 c7 P H n (.makeSlice t x y) bH J M (λv I=>∃a c,v=.slice a k c/\I=own (.slice a k c) e aZ k (iV V k)::M):=λa w d pos N g ai s=>by
 obtain⟨z,F,h1,h2,rfl,rfl,d3,g3,l⟩:=i.out;have R:IntKind.i64.wrap (k:Int)=k:=IntWalk.i64_in _ (by simp only[maxLen]at q;omega);have L:¬(281474976710656<(z.bytes:Int)*k):=by
  have:((z.bytes*k:Nat):Int)<=281474976710656:=by omega
  rw[DC]at this;omega
 refine⟨.slice (some ⟨w.heap.size,0,none⟩) k k,_,{w with heap:=w.heap.push (.cells (iV V k).toArray e (0,0))},?_,⟨_,_,rfl,rfl⟩,?_⟩
 . simp only[execOp,ai.eval ah,ai.eval ag]
   have p:((Array.range (k*z.size)).map λx=>V.toArray[x%z.size]!)=(iV V k).toArray:=by
    rw[<-YT V k default,l];apply Array.ext';simp
   have aC:¬((k:Int)<0):=ad;by_cases bi:k*z.size=0
   . have aF:iV V k=[]:=by apply rR;rw[AZ,l];exact bi
     simp[Instr.makeSlice,gG h1,asInt,asIntOf,Ih h2,R,L,aC,jP h2,newRow,bi,aF]
     congr 2;apply aqy;simp
   . have:¬(k=0\/z.size=0):=λco=>bi (by rcases co with co|co<;>simp[co])
     simp at p;simp[Instr.makeSlice,gG h1,asInt,asIntOf,Ih h2,R,L,aC,jP h2,vQ h2 d3,newRow,this,g3,l,p];intro co;exact absurd co bi
 . refine(s.new _).imp λ_=>Sat.head λh co=>⟨by rw[AZ,l],.inr ⟨_,k,[],rfl,by simp[AZ,l],et _,q,by rw[jb];exact co⟩⟩
inductive A7|int(k:IntKind)|bool|str
def od:List A7->List Value->Bool
 |[],[]=>true
 |.int k::c,.int j _::cg=>(match k,j with
  |.i8,.i8|.i16,.i16|.i32,.i32|.i64,.i64|.u8,.u8|.u16,.u16|.u32,.u32|.u64,.u64=>true
  |_,_=>false)&&od c cg
 |.bool::c,.bool _::cg=>od c cg
 |.str::c,.string _::cg=>od c cg
 |_,_=>false
def qn:List Value->List Value->Bool
 |.int _ a::xs,.int _ b::V=>(a==b)&&qn xs V
 |.bool a::xs,.bool b::V=>(a==b)&&qn xs V
 |.string a::xs,.string b::V=>(a.toList==b.toList)&&qn xs V
 |[],[]=>true
 |_,_=>false
def HP(P:Program)(f:Field):Option A7:=
 if f.name = "_" then none else match P.underlying f.type with
  |some (.int k)=>some (.int k)
  |some .bool=>some .bool
  |some .string=>some .str
  |_=>none
class NT(P:Program)(t:TypeId)(c:outParam (List A7)):Prop where
 out:∃gu,P.underlying t=some (.struct gu)/\gu.toList.map (λf=>(f.offset,HP P f))=c.zipIdx.map (λp=>(p.2,some p.1))
 held:P.stoodInHeld t=false
 guard:P.eqGuardType P.depth t=false
def YU(w:World)(X cL:List Value):∀(gu:List Field) (c:List A7) (k:Nat),gu.map (λf=>(f.offset,HP P f))=(c.zipIdx k).map (λp=>(p.2,some p.1))->od c (X.drop k)=true->od c (cL.drop k)=true->
 (Op.eqFields 9999 X.toArray cL.toArray gu).run P w=.ok (qn (X.drop k) (cL.drop k)) w
 |
  [],[],k,_,ah,ag=>by
  have h1:X.drop k=[]:=by cases h:X.drop k<;>simp[h,od]at ah⊢
  have h2:cL.drop k=[]:=by cases h:cL.drop k<;>simp[h,od]at ag⊢
  rw[h1,h2];simp[Op.eqFields,qn]
 |
  f::gu,bI::c,k,h,ah,ag=>by
  simp only[gx,wl,List.cons.injEq,Prod.mk.injEq]at h;obtain⟨⟨aJ,ba⟩,aF⟩:=h;obtain⟨x,xs,ex⟩:∃x xs,X.drop k=x::xs:=by cases e:X.drop k with
   |nil=>rw[e]at ah;cases bI<;>simp[od]at ah
   |cons x xs=>exact⟨x,xs,rfl⟩
  obtain⟨y,V,t⟩:∃y V,cL.drop k=y::V:=by cases e:cL.drop k with
   |nil=>rw[e]at ag;cases bI<;>simp[od]at ag
   |cons y V=>exact⟨y,V,rfl⟩
  have i:X[k]?=some x:=by have:=congrArg (·[0]?) ex;simpa using this
  have j:cL[k]?=some y:=by have:=congrArg (·[0]?) t;simpa using this
  have l:X.drop (k+1)=xs:=by rw[<-Gx,ex];rfl
  have m:cL.drop (k+1)=V:=by rw[<-Gx,t];rfl
  have L:=YU w X cL gu c (k+1) aF;rw[l,m]at L;rw[ex]at ah⊢;rw[t]at ag⊢;unfold HP at ba;by_cases aO:f.name = "_"
  . rw[bg aO]at ba;cases ba
  . rw[a7 aO]at ba
    have hp:∀{d:TypeDesc},P.underlying f.type=some d->uT d=false->∀g:List Value,∀F,g[k]?=some F->(part f.type g.toArray f.offset).run P w=.ok F w:=λaS aX g F T=>by
     simp[part,DQ aS aX,aJ,T]
    cases aS:P.underlying f.type with
    |none=>rw[aS]at ba;cases ba
    |
     some d=>
     rw[aS]at ba;cases d<;>simp at ba<;>subst ba
     . cases x<;>simp[od]at ah
       cases y<;>simp[od]at ag;simp[Op.eqFields,aO,hp aS rfl X _ i,hp aS rfl cL _ j,run_equalIn_bool' w _ _ _ _ aS,qn];split
       . rename_i e;simp[e,L ah ag]
       . rename_i e;simp[e]
     . cases x<;>simp[od]at ah
       cases y<;>simp[od]at ag;rename_i fL cR a b8 b;have aC:cR=b8:=by cases fL<;>cases cR<;>simp at ah<;>cases b8<;>simp at ag<;>rfl
       subst aC;simp[Op.eqFields,aO,hp aS rfl X _ i,hp aS rfl cL _ j,run_equalIn_int w _ _ _ _ _ _ aS,qn];split
       . rename_i e;simp[e,L ah.2 ag.2]
       . rename_i e;simp[e]
     . cases x<;>simp[od]at ah
       cases y<;>simp[od]at ag;simp[Op.eqFields,aO,hp aS rfl X _ i,hp aS rfl cL _ j,run_equalIn_string w _ _ _ _ aS,qn];split
       . rename_i e;simp[e,L ah ag]
       . rename_i e;simp[e]
 |[],_::_,_,h,_,_=>by simp at h
 |_::_,[],_,h,_,_=>by simp at h
def YV{xs V:List Value}{c:List A7}[i:NT P t c](ah:cm J x=some (.agg xs.toArray))(ag:cm J y=some (.agg V.toArray))(b:od c xs=true)(e:od c V=true):b1 P H n Bj bH J M (.bool (!qn xs V)):=λa w d pos N g ai _=>by
 obtain⟨gu,h1,h2⟩:=i.out;have ba:P.fieldsOf t=gu:=by simp[Program.fieldsOf,h1]
 simp only[execOp,ai.eval ah,ai.eval ag];simp[run_eqGuard_agg w .neq t x y _ _ i.guard,run_neq_struct,run_equalIn_struct w 9999 t _ _ (by rw[ba];exact h1) i.held,ba,YU w xs V gu.toList c 0 h2 b e]
def kW{α:Type}(f:α->List Value)(aZ:Nat)(ba:∀x,(f x).length=aZ):∀l:List α,(l.flatMap f).length=l.length*aZ
 |[]=>by simp
 |x::l=>by rw[px,eZ,ba,kW f aZ ba l,iG,nb];omega
def Ii{α:Type}(f:α->List Value)(aZ:Nat)(ba:∀x,(f x).length=aZ):∀(l:List α) (k:Nat),(l.flatMap f).drop (k*aZ)=(l.drop k).flatMap f
 |l,0=>by simp
 |[],k+1=>by simp
 |
  x::l,k+1=>by
  have aC:(k+1)*aZ=(f x).length+k*aZ:=by rw[ba,nb];omega
  rw[px,aC,List.drop_append,CI ad,ci,F4,List.drop_succ_cons,Ii f aZ ba l k]
def kA(f:α->List Value)(aZ:Nat)(ba:∀x,(f x).length=aZ){l:List α}{k:Nat}{x:α}(hk:l[k]?=some x):((l.flatMap f).drop (k*aZ)).take aZ=f x:=by
 have:l.drop k=x::l.drop (k+1):=by
  obtain⟨h,e⟩:=dp.1 hk;rw[<-e];exact s5 h
 rw[Ii f aZ ba,this,px,HB (by rw[ba];omega),yW (by rw[ba];omega)]
def rK(f:α->List Value)(aZ:Nat)(ba:∀x,(f x).length=aZ){l:List α}{k j:Nat}{x:α}{v:Value}(hk:l[k]?=some x)(Z:(f x)[j]?=some v):(l.flatMap f)[k*aZ+j]?=some v:=by
 have h:=kA f aZ ba hk;rw[<-h]at Z;exact Ae Z
def YW(h:P.underlying t=some (.pointer e))(d:Nat)(z:Addr)(w:World):(Op.equalIn (d+1) t DZ fN).run P w=.ok false w:=by
 simp[Op.equalIn,gG h]
def YX(h:P.underlying t=some (.pointer e))(d:Nat)(w:World):(Op.equalIn (d+1) t fN fN).run P w=.ok true w:=by
 simp[Op.equalIn,gG h]
def aqz[i:uV P t](ah:cm J x=some DZ)(ag:cm J y=some fN):b1 P H n Bk bH J M gP:=λa w d pos N g ai _=>by
 obtain⟨e,h1⟩:=i.out;simp only[execOp,ai.eval ah,ai.eval ag];simp only[binOp];simp[eqGuard,Op.equal,Op.maxDepth,YW h1 9999 z]
def aqA[i:uV P t](ah:cm J x=some DZ)(ag:cm J y=some fN):b1 P H n Bj bH J M hI:=λa w d pos N g ai _=>by
 obtain⟨e,h1⟩:=i.out;simp only[execOp,ai.eval ah,ai.eval ag];simp only[binOp];simp[eqGuard,Op.equal,Op.maxDepth,YW h1 9999 z]
def aqB[i:uV P t](ah:cm J x=some fN)(ag:cm J y=some fN):b1 P H n Bk bH J M hI:=λa w d pos N g ai _=>by
 obtain⟨e,h1⟩:=i.out;simp only[execOp,ai.eval ah,ai.eval ag];simp only[binOp];simp[eqGuard,Op.equal,Op.maxDepth,YX h1 9999]
def aqC[i:uV P t](ah:cm J x=some fN)(ag:cm J y=some fN):b1 P H n Bj bH J M gP:=λa w d pos N g ai _=>by
 obtain⟨e,h1⟩:=i.out;simp only[execOp,ai.eval ah,ai.eval ag];simp only[binOp];simp[eqGuard,Op.equal,Op.maxDepth,YX h1 9999]
def dq(fO:bv->Prop)(l:bv->List al):al:=λh=>∃x,fO x/\Sat (l x) h
def ha{fO:bv->Prop}{l:bv->List al}{D:List al}{h:eQ}(s:Sat (dq fO l::D) h):∃x,fO x/\Sat (l x++D) h:=by
 obtain⟨x,ah⟩:=Sat.ex.1 s;obtain⟨p,ai⟩:=Sat.pure.1 ah;exact⟨x,p,Sat.flat.1 ai⟩
def cE{fO:bv->Prop}{l:bv->List al}{D:List al}(x:bv)(p:fO x)(t:∀h,Sat M h->Sat (l x++D) h):∀h,Sat M h->Sat (dq fO l::D) h:=
 λh s=>Sat.ex.2 ⟨x,Sat.pure.2 ⟨p,Sat.flat.2 (t h s)⟩⟩
end
variable{Q:Exit->Act->World->Prop}{c:Code}{E:Array Oper}{D:List al}{bv:Type}{fO:bv->Prop}{l:bv->List al}
def kK(s:hJ (dq fO l) M D)(h:∀x,fO x->G P H n c J (l x++D) Q):G P H n c J M Q:=λa w ai st=>by
 obtain⟨x,p,ah⟩:=ha (s.to st.fg);exact h x p a w ai Hy
def aqD{F:Act->World->Prop}(s:hJ (dq fO l) M D)(h:∀x,fO x->GE H n J (l x++D) F):GE H n J M F:=λa w ai st=>by
 obtain⟨x,p,ah⟩:=ha (s.to st.fg);exact h x p a w ai Hy
end
end Go.L
namespace Go.L
open Go.RowKit
def apA{W X:World}{l:List al}(s:dt W (base W::l) X):Below W.heap.size W X:=
 ⟨s.os, s.tape, s.output, s.size, fun k hk => by
  obtain⟨h1,h2,_,e,aX,_⟩:=s.fg;have aN:=aX k hk;have bA:X.heap[k]?=join h1 h2 k:=congrFun e k;obtain⟨o,aJ⟩:∃o,W.heap[k]?=some o:=⟨_,asF hk⟩;rw[bA,aJ];rw[aJ]at aN;exact join_some aN⟩
def apz(W:World):dt W [base W] W:=⟨rfl,rfl,rfl,et _,Sat.one λ_ _=>rfl⟩
section
variable{H:Type}{enc:TypeId×Value->H}{P:Program}{w:World}{F:Nat}{D:Nat->Bool}{held:Bool}
def l4(P:Program)(t:TypeId)(d:DataW H):Prop:=∀n∈d.weights P t,n<=reachBytes
theorem ahg{e:TypeId}:∀{l:List (DataW H)} {d:DataW H},d∈l->∀n∈d.weights P e,n∈DataW.weightsAll P e l
 |[],_,aS,_,_=>absurd aS Ah
 |
  x::l,d,aS,n,aO=>by
  simp only[DataW.weightsAll,kX];rcases ky.1 aS with rfl|h
  . exact .inl aO
  . exact .inr (ahg h n aO)
theorem apv{z:List TypeId}{hP:List (DataW H)}(h:(DataW.weightsEach P z hP).all (·<=reachBytes)=true){j:Nat}{t:TypeId}{d:DataW H}(U:z[j]?=some t)(aS:hP[j]?=some d):l4 P t d:=λn aO=>by
 have:=p2.1 h _ (DataW.weights_mem_each U aS n aO);simpa using this
theorem ahh{t e:TypeId}{el dJ:List (DataW H)}(d7:P.underlying t=some (.slice e))(h:l4 P t (.slice el dJ)):el.length*P.bytesOf e<=reachBytes/\∀d∈el,l4 P e d:=by
 constructor
 . have h1:=h ((el.length+dJ.length)*P.bytesOf e) (by simp[DataW.weights,d7])
   exact mZ (pN _ ad) h1
 . intro d aS n aO
   refine h n ?_;simp only[DataW.weights,d7,ky,kX];exact .inr (.inl (ahg aS n aO))
theorem ic{t:TypeId}{gu:Array Field}{O:List (DataW H)}{i:Nat}{f:Field}{d:DataW H}(d7:P.underlying t=some (.struct gu))(h:l4 P t (.agg O))(ba:gu[i]?=some f)(aS:O[i]?=some d):l4 P f.type d:=λn aO=>by
 refine h n ?_;simp only[DataW.weights,d7];exact DataW.weights_mem_each (j:=i) (by simp[ba]) aS n aO
theorem asG{t:TypeId}{b:List UInt8}(h:l4 P t (.lit (.string b):DataW H)):b.length<=140737488351232:=by
 have h1:=h b.length (by simp[DataW.weights]);have aN:reachBytes=140737488351232:=bw;omega
theorem asH(z:DataW H->Prop){t e zA aZ:Nat}{cs:List Value}{x:DataW H×List MemPlace}(U:P.underlying t=some (.slice e))(l:P.cellsOf e=aZ){T:Type}[Inhabited T](g:T->List Value)(Good:T->Prop)(hlen:∀q,(g q).length=aZ)
 (r:∀n k d,DataW.trod enc P w F D held n e k=some d->z d.1->∃q,k=g q/\Good q)(G:∀el dJ,x.1=.slice el dJ->∀d∈el,z d)(h:DataW.trod enc P w F D held zA t cs=some x):
 ∃
  (a:Option Addr) (C:Nat) (s:List T),cs=[.slice a s.length C]/\(∀q∈s,Good q)/\s.length<=maxLen/\(0<aZ->gI (fW w) (.slice a s.length C) s.length (s.flatMap g))/\
  ((x.1=.nil/\s.length=0)\/∃el dJ,x.1=.slice el dJ/\el.length=s.length):=by
 rcases DataW.trod_slice U h with⟨rfl,rfl⟩|⟨a,len,C,u,rest,n,_,rfl,rfl,_,aw,bf,Y,y,_,_⟩
 . exact⟨none,0,[],rfl,by simp,by simp,λ_=>.inl ⟨rfl,rfl,rfl⟩,.inl cj⟩
 . obtain⟨f,ba⟩:=Go.Deep.choose_lt (α:=T) (n:=len) (p:=λi q=>Good q/\∀j x,(g q)[j]?=some x->w.cell? (a.add (i*aZ+j))=some x) (λi ak=>by
    have h1:=y i ak;have fP:i<u.length:=ad;rw[cD fP]at h1;obtain⟨k,W,M⟩:=ij.1 h1;obtain⟨q,rfl,bt⟩:=r _ _ _ M (G _ _ rfl _ (ER (vl fP)));obtain⟨_,_,L⟩:=World.cells?_some W;refine⟨q,bt,λj x ah=>?_⟩;have O:j<aZ:=by have:=(dp.1 ah).1;rw[hlen]at this;exact this
    have:=L j (by rw[l];exact O);rw[ah,l]at this;rw[<-this];congr 1;unfold Addr.add;by_cases aC:i*aZ=0<;>by_cases aV:j=0<;>simp[aC,aV];omega)
   refine⟨some a,C,(List.range len).map f,by simp,λq bt=>?_,by simp;omega,λg5=>.inr ⟨a.block,a.off,a.spot,C,by simp,λbi=>?_,λj x ah=>?_⟩,.inr ⟨_,_,rfl,by simp[Y]⟩⟩
   . obtain⟨i,ak,rfl⟩:=lN.1 bt;exact(ba i (pM.1 ak)).1
   . simp at bi
     have:=(ba 0 bi).2 0 ((g (f 0))[0]'OF) (cD _)
     simp[Addr.add]at this;exact World.cell?_spot this
   . have v:j<len*aZ:=by
      have:=(dp.1 ah).1;rw[kW g aZ hlen]at this;simpa using this
     have ak:j/aZ<len:=by rw[Nat.div_lt_iff_lt_mul g5];exact v
     have hk:((List.range len).map f)[j/aZ]?=some (f (j/aZ)):=by simp[ak]
     have E:j%aZ<aZ:=yK _ g5;have m:(g (f (j/aZ)))[j%aZ]?=some x:=by
      have:=rK g aZ hlen hk (cD OG:(g (f (j/aZ)))[j%aZ]?=some ((g (f (j/aZ)))[j%aZ]'OG))
      rw[ahi]at this;rw[ah]at this;rw[cD OG,<-this]
     have a6:=(ba _ ak).2 _ _ m;rw[ahi]at a6;have o:a.spot=none:=by
      have:=(ba (j/aZ) ak).2 0 ((g (f (j/aZ)))[0]'OF) (cD _)
      by_cases bi:j/aZ*aZ+0=0
      . rw[bi]at this;simp[Addr.add]at this;exact World.cell?_spot this
      . have B:=(ba 0 (YQ (fk _) ak)).2 0 ((g (f 0))[0]'OF) (cD _)
        simp[Addr.add]at B;exact World.cell?_spot B
     refine⟨o,?_⟩;obtain⟨b,bY,I⟩:=a;simp only at o;subst o;rw[ud]at a6;unfold World.cell? at a6;split at a6
     . rename_i c _ _ co;simp at a6;exact⟨c,_,_,co,a6⟩
     . cases a6
end
end Go.L
namespace Go.L
section
variable{P:Program}{H w:World}{n:Nat}{J:e6}{M:List al}{bH:TypeId}
section
variable{x y:Operand}{t e:TypeId}{z:Array TypeId}{aZ:Nat}{k:IntKind}{p q:Int}(r:Int)
def ta(aF:(if q<p then q else p)=r)(ah:cm J x=some (.int k p))(ag:cm J y=some (.int k q)):b1 P H n (.call {callee:=.builtin .min,args:=#[x,y],argTypes:=z}) bH J M (.int k r):=λa w d pos N g ai s=>by
 simp only[execOp,resolve,oM,gx,mO,ai.eval ah,ai.eval ag];subst aF;simp[invoke,builtin,Builtin.min_,Builtin.min2]
def s9(aF:(if p<q then q else p)=r)(ah:cm J x=some (.int k p))(ag:cm J y=some (.int k q)):b1 P H n (.call {callee:=.builtin .max,args:=#[x,y],argTypes:=z}) bH J M (.int k r):=λa w d pos N g ai s=>by
 simp only[execOp,resolve,oM,gx,mO,ai.eval ah,ai.eval ag];subst aF;simp[invoke,builtin,Builtin.max_,Builtin.max2]
def asn(h:P.underlying t=some (.slice e))(d:Nat)(a:Option Addr)(l c:Nat)(w:World):(Op.equalIn (d+1) t yJ eK).run P w=.ok a.isNone w:=by
 cases a<;>simp[Op.equalIn,gG h]
def aso{dr:TypeId}{x y:Operand}{a:Option Addr}{l c e aZ:Nat}[i:jU P t e aZ](ah:cm J x=some yJ)(ag:cm J y=some eK):b1 P H n Bk bH J M (.bool a.isNone):=λa w d pos N g ai _=>by
 obtain⟨z,h1,_⟩:=i.out;simp only[execOp,ai.eval ah,ai.eval ag];simp only[binOp];simp[eqGuard,Op.equal,Op.maxDepth,asn h1 9999]
def VM{h:eQ}{l c k:Nat}{xs:List Value}[i:je (.slice none l c) M k xs](s:Sat M h):l=0/\c=0/\k=0/\xs=[]:=by
 rcases i.get s with⟨h1,h2,aN⟩|⟨b,bY,I,C,h1,_⟩
 . cases h1;exact⟨rfl,rfl,aN,h2⟩
 . cases h1
def asp{bytes:Nat}{V:List Value}[i:jM P t e aZ bytes V]:c7 P H n (.buildSlice t 0 #[]) bH J M (λv I=>∃b,v=.slice jA 0 0/\I=own (.slice jA 0 0) e aZ 0 []::M):=λa w d pos N g ai s=>by
 obtain⟨z,F,h1,h2,aN,bA,d3,g3,l⟩:=i.out;refine⟨_,_,{w with heap:=w.heap.push (.cells #[] e (0,0))},?_,⟨w.heap.size,rfl,rfl⟩,(s.new _).imp λ_=>Sat.head λh co=>⟨by simp,.inr ⟨_,0,[],rfl,by simp,et _,by unfold maxLen;omega,co⟩⟩⟩;simp[execOp,Instr.buildSlice,gG h1,jP h2,newRow,Instr.fill]
 congr 2;apply aqy;simp
def aoH{b:Nat}{e:TypeId}{aZ k:Nat}{xs:List Value}{D:List al}(aw:xs.length=k*aZ)(q:k<=maxLen):∀h,Sat (aa b e xs::D) h->Sat (own (.slice jA k k) e aZ k xs::D) h:=
 λ_=>Sat.head λ_ co=>⟨aw,.inr ⟨b,k,[],rfl,by simpa using aw,et _,q,by rw[jb];exact co⟩⟩
def yi{Q:Exit->Act->World->Prop}{c:Code}{p:Prop}(f:∀h,Sat M h->p)(h:p->G P H n c J M Q):G P H n c J M Q:=λa w ai st=>h (f _ st.fg) a w ai st
end
end
section
variable(x:Int){b T k:Nat}{α:Type}{v:Value}{r:List al}
def Dw(p T k:Nat)(v:Value):al:=λh=>∃l:List Value,l[k]?=some v/\h p=some (.cells l.toArray T (0,0))
def aqP{p T k:Nat}{v:Value}{l:List Value}{D:List al}{h:eQ}(s:Sat (aa p T l::D) h)(hk:l[k]?=some v):Sat (Dw p T k v::D) h:=Sat.head (λ_ co=>⟨l,hk,co⟩) s
class xg(b bY:Nat)(M:List al)(v:outParam Value):Prop where
 get:∀{h:eQ},Sat M h->∃(l:List Value) (T:TypeId) (R:Nat×Nat),h b=some (.cells l.toArray T R)/\l[bY]?=some v
instance xg.head:xg b k (Dw b T k v::r) v where
 get:=fun⟨_,_,_,e,⟨l,aw,co⟩,_⟩=>⟨l,T,(0,0),e▸join_some co,aw⟩
instance xg.tail{A:al}{r:List al}[i:xg b k r v]:xg b k (A::r) v where
 get:=λs=>i.get s.drop
def uX{P:Program}{H:World}{n:Nat}{J:e6}{M:List al}{bH t:TypeId}{x:Operand}{b bY:Nat}{v:Value}[i:e3 P t][j:xg b bY M v](h:cm J x=some (ptr b bY)):b1 P H n (.load t x) bH J M v:=λa w d pos N g ai s=>by
 obtain⟨d,h1,h2⟩:=i.out;obtain⟨l,T,R,aA,aw⟩:=j.get s.fg;have L:w.heap[b]?=some (.cells l.toArray T R):=aA;have a6:w.cell? ou=some v:=by simp[World.cell?,L,aw]
 simp only[execOp,ai.eval h];simp[Instr.loadAt,Instr.sureAddr,loadVar,DQ h1 h2,run_load,a6]
instance gw.own{e:TypeId}{aZ n:Nat}{xs:List Value}:gw v (own v e aZ n xs) n xs where
 get s:=oc.rd s
abbrev af:Value:=.int .i64 x
abbrev bx:Value:=.int .u64 x
def ag7(F:Value):∀k,iV [F] k=List.replicate k F
 |0=>rfl
 |k+1=>by rw[iV,ag7 F k,List.replicate_succ];rfl
def alD(f:α->Value)(F:α)(k:Nat):iV [f F] k=(List.replicate k F).map f:=by rw[ag7,ag8]
def CP{f:α->Value}{l:List α}{d:α}{i:Nat}(h:i<l.length):(l.map f)[i*1]?=some (f (l.getD i d)):=by
 simp[iW,cD h]
def aq2{f:α->Value}{l:List α}{i:Nat}{x:α}:(l.map f).set (i*1) (f x)=(l.set i x).map f:=by
 rw[uo,tA]
end
section
variable{l:List al}{A:al}{i:Nat}{D:List al}
def eJ:al:=λ_=>True
def ao(l:List al):al:=MU l
def xY:∀h,Sat D h->Sat (eJ::D) h:=λh s=>V3
def wK:∀h,Sat D h->Sat (ao []::D) h:=xY
def r6(e:l[i]?=some A):∀h,Sat (ao l::D) h->Sat HU h:=by
 intro h s;replace s:=Sat.flat.1 s;refine Sat.tail (r:=l.set i eJ++D) (λ_=>Sat.flat.2) ?_
 induction l generalizing i h with
 |nil=>simp at e
 |
  cons B l L=>
  cases i with
  |zero=>simp only[Yl,Option.some.injEq]at e;subst e;exact Sat.tail (r:=l++D) (λh s=>xY h s) s
  |
   succ i=>
   simp only[HV]at e;exact Sat.swap (Sat.tail (r:=l++D) (λh s=>L e h s) s)
def uO(ak:i<l.length):∀h,Sat (A::ao (l.set i eJ)::D) h->Sat (ao (l.set i A)::D) h:=by
 intro h s;refine Sat.flat.2 ?_;replace s:Sat (A::(l.set i eJ++D)) h:=Sat.tail (λ_=>Sat.flat.1) s
 induction l generalizing i h with
 |nil=>simp at ak
 |
  cons B l L=>
  cases i with
  |zero=>exact Sat.tail (r:=eJ::(l++D)) (λh s=>Sat.drop s) s
  |succ i=>exact Sat.tail (r:=A::(l.set i eJ++D)) (m:=l.set i A++D) (λh s=>L CQ h s) (Sat.swap s)
def tw:∀h,Sat (A::ao l::D) h->Sat (ao (l++[A])::D) h:=by
 intro h s;refine Sat.flat.2 ?_;replace s:Sat (A::(l++D)) h:=Sat.tail (λ_=>Sat.flat.1) s
 induction l generalizing h with
 |nil=>exact s
 |cons B l L=>exact Sat.tail (r:=A::(l++D)) (m:=l++[A]++D) (λh s=>L h s) (Sat.swap s)
end
section
variable{P:Program}{H:World}{n:Nat}{J:e6}{M D R' l:List al}{A:al}{Q:Exit->Act->World->Prop}{c:Code}{E:Array Oper}{i:Nat}
def Ym(s:hJ (ao l) M D)(e:l[i]?=some A):∀h,Sat M h->Sat HU h:=λh st=>r6 e h (s.to st)
def gu(s:hJ A M D)(cb:hJ (ao (l.set i eJ)) D R')(ak:i<l.length):∀h,Sat M h->Sat (ao (l.set i A)::R') h:=λh st=>uO ak h (Sat.tail (λ_=>cb.to) (s.to st))
def uW(s:hJ (ao l) M D)(e:l[i]?=some A)(h:G P H n c J HU Q):G P H n c J M Q:=nu (Ym s e) h
def app{os:List Oper}(s:hJ (ao l) M D)(e:l[i]?=some A)(h:cJ P H n E os J HU Q):cJ P H n E os J M Q:=q6 (Ym s e) h
end
section
variable{P:Program}{α:Type}{H:World}{n:Nat}{J:e6}{M:List al}{bH t dr:TypeId}{x y:Operand}{k z:IntKind}{p q:Int}(r:Int)
theorem xV{D:List al}{fn:Func}{post:Value->List al->Prop}{e:Exit}(Y:e=.ret\/e=.normal){t b bY aZ:Nat}{T te:TypeId}{l cg:List Value}{R:Nat×Nat}{u:Obj->List al}[i:j8 P T aZ][j:kV b M FW u](ba:fn.results=#[.cell t T])(h1:gN J t=some (ptr b bY))(Z:(l.drop bY).take aZ=cg)(aw:cg.length=aZ)(I:List al)(hp:post wM I)(B:∀h,Sat M h->Sat (I++D) h):
 GE H n J M vK:=
 xQ Y (λa w ai s=>by
  obtain⟨F,W,cU⟩:=i.out;obtain⟨z,em,gc⟩:=i.size;have aA:=s.heap (b:=b);have a6:=run_loadCells_list (P:=P) w ou cg (λk v hk=>by
   rw[<-Z]at hk;have:=Ae hk;rw[ud];simp[World.cell?,aA,this])
  rw[aw]at a6;simp[results,ba,ai.val _ _ h1,asAddr,loadVar,Af W cU,jP em,gc,a6]) I hp B
def fS{op:Op}{bH:TypeId}{b c:Bool}(h:b=c)(o:b1 P H n op bH J M (.bool b)):b1 P H n op bH J M (.bool c):=h▸o
theorem apq(aF:k.wrap (p*2^q.toNat)=r)(ah:cm J x=some (.int k p))(ag:cm J y=some (.int z q))(bi:0<=q)(h1:q<=k.bits):
 b1 P H n (.binOp .shl t x y dr) bH J M (.int k r):=λa w d pos N g ai _=>by
 simp only[execOp,ai.eval ah,ai.eval ag];simp[eqGuard,binOp_shl,shift_shl k z p q bi h1,aF]
theorem HW(aF:p/2^q.toNat=r)(ah:cm J x=some (.int k p))(ag:cm J y=some (.int z q))(bi:0<=q)(h1:q<=k.bits):
 b1 P H n (.binOp .shr t x y dr) bH J M (.int k r):=λa w d pos N g ai _=>by
 simp only[execOp,ai.eval ah,ai.eval ag];simp[eqGuard,binOp_shr,shift_shr k z p q bi h1,aF]
def DP{z:Type}{f:α->z}{l:List α}{i:Nat}{x:α}(h:l[i]?=some x):(l.map f)[i]?=some (f x):=by simp[h]
def CR(L:List α)(i j:Nat)(x d:α)(h:i<L.length):(L.set i x).getD j d=if j=i then x else L.getD j d:=by
 simp only[iW,Yn];by_cases e:i=j
 . subst e;simp[h]
 . rw[a7 e,a7 (Ne.symm e)]
def Bb(s n:Nat):(s:Int).tmod n=((s%n:Nat):Int):=by rw[Vu ad];exact(Int.natCast_emod s n).symm
end
end Go.L
