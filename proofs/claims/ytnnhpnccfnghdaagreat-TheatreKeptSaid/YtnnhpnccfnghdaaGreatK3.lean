import Derived.Test.YtnnhpnccfnghdaaGreatK2
import Derived.Test.YtnnhpnccfnghdaaGreatChecked
import Derived.Lib.SmallJoins
import Derived.Shelf.SlSortCmp.NoneTotal
import Derived.Ground.SlsfProg
import Derived.Shelf.SlGeneric
import Derived.Test.YtnnhpnccfnghdaaGreatProg
set_option linter.all false
set_option maxRecDepth 100000
namespace Go.Proofs.YtnnhpnccfnghdaaGreat.L
open Go.L
noncomputable abbrev aa:=Tryz.prog
section
variable{P:Program}{t s f e:Nat}
def X1(p:Array Field->Bool):TypeDesc->Bool
 |.struct gu=>p gu
 |_=>false
def apQ{p:Array Field->Bool}{d:TypeDesc}(h:X1 p d=true):∃gu,d=.struct gu/\p gu=true:=by
 cases d<;>first|exact⟨_,rfl,h⟩|cases h
theorem e1{U:List Value}(h:(P.info? t).map (λi=>(i.zero.map (·.cells)))=some (some U.toArray):=by kernel_rfl):eG P t U:=by
 cases al:P.info? t with
 |none=>rw[al]at h;cases h
 |
  some i=>
  rw[al]at h;simp only[nH,Option.some.injEq]at h;cases T:i.zero with
  |none=>rw[T]at h;cases h
  |some E=>rw[T]at h;simp only[nH,Option.some.injEq]at h;exact⟨i,E,al,T,h⟩
theorem nI{n:Nat}(h:(p6 (P.underlying t) u3&&p6 (P.info? t) (λi=>Nat.beq i.size n))=true:=by kernel_rfl):jR P t n:=by
 obtain⟨h1,h2⟩:=DQ.1 h;obtain⟨d,h1,aH⟩:=qB h1;obtain⟨i,h2,bm⟩:=qB h2;exact⟨⟨d,h1,aH⟩,i,h2,lr bm⟩
theorem fs(h:(p6 (P.underlying t) (λd=>!u3 d)&&p6 (P.info? t) (λi=>Nat.beq i.size 1))=true:=by kernel_rfl):ew P t:=by
 obtain⟨h1,h2⟩:=DQ.1 h;obtain⟨d,h1,aH⟩:=qB h1;obtain⟨i,h2,bm⟩:=qB h2;exact⟨⟨d,h1,by simpa using aH⟩,i,h2,lr bm⟩
theorem X2{k:IntKind}(h:P.underlying t=some (.int k):=by kernel_rfl):u4 P t k:=⟨h⟩
theorem apR(h:P.underlying t=some .bool:=by kernel_rfl):HU P t:=⟨h⟩
theorem apS(h:P.underlying t=some .string:=by kernel_rfl):A9 P t:=⟨h⟩
theorem HV(h:p6 (P.underlying t) (fun|.pointer _=>true|_=>false)=true:=by kernel_rfl):u5 P t:=by
 obtain⟨d,h1,h2⟩:=qB h;cases d<;>first|exact⟨_,h1⟩|cases h2
theorem lT{E:Nat}(h:P.underlying t=some (.slice e):=by kernel_rfl)(g:p6 (P.info? e) (λi=>Nat.beq i.size E)=true:=by kernel_rfl):jy P t e E:=by
 obtain⟨i,h1,h2⟩:=qB g;exact⟨i,h,h1,lr h2⟩
theorem mh{E b:Nat}{U:List Value}(h:P.underlying t=some (.slice e):=by kernel_rfl)(g:p6 (P.info? e) (λi=>Nat.beq i.size E&&Nat.beq i.bytes b)=true:=by kernel_rfl)(i:eG P e U:=by infer_instance)(l:U.length=E:=by rfl):jz P t e E b U:=by
 obtain⟨j,h1,h2⟩:=qB g;obtain⟨h2,aH⟩:=DQ.1 h2;obtain⟨a,y,W,cE,d8⟩:=i.out;obtain rfl:j=a:=oe (h1.symm.trans W);exact⟨j,y,h,h1,lr h2,lr aH,cE,d8,l⟩
theorem HW{n E:Nat}(h:p6 (P.underlying t) (fun|.array m e=>Nat.beq m n&&p6 (P.info? e) (λi=>Nat.beq i.size E)|_=>false)=true:=by kernel_rfl):Ba P t n E:=by
 obtain⟨d,h1,h2⟩:=qB h;cases d<;>first|cases h2;done|skip
 obtain⟨h2,aH⟩:=DQ.1 h2;obtain⟨i,aH,bm⟩:=qB aH;exact⟨_,i,by rw[h1,lr h2],aH,lr bm⟩
theorem Bb{d6:IntKind}{E:Value}{k:Nat}(h:P.underlying t=some (.map k e))(hk:P.underlying k=some (.int d6))(g:(P.info? e).map (·.zero)=some (some E):=by kernel_rfl):sx P t d6 E:=by
 cases al:P.info? e with
 |none=>rw[al]at g;cases g
 |some i=>rw[al]at g;exact⟨k,e,i,h,hk,al,oe g⟩
theorem bP{o:Nat}(h:p6 (P.underlying s) (X1 λgu=>p6 gu[f]? λd=>Nat.beq d.offset o&&p6 (P.info? d.type) λi=>!Nat.beq i.size 0)=true:=by kernel_rfl):bO P s f o:=by
 obtain⟨d,h1,h2⟩:=qB h;obtain⟨gu,rfl,h2⟩:=apQ h2;obtain⟨d,h2,aH⟩:=qB h2;obtain⟨aH,bm⟩:=DQ.1 aH;obtain⟨i,bm,dk⟩:=qB bm;exact⟨gu,d,i,h1,h2,lr aH,bm,λh=>by rw[h]at dk;cases dk⟩
theorem apT{l:List Bc}{gu:Array Field}(h:P.underlying t=some (.struct gu))(g:gu.toList.map (λf=>(f.offset,HX P f))=l.zipIdx.map (λp=>(p.2,some p.1)):=by kernel_rfl)(a:P.stoodInHeld t=false:=by kernel_rfl)(b:P.eqGuardType P.depth t=false:=by kernel_rfl):N1 P t l:=⟨⟨gu,h,g⟩,a,b⟩
theorem hK{H:List (Nat×Nat)}{U:List Value}{gu:Array Field}(h:P.underlying t=some (.struct gu))(i:eG P t U:=by infer_instance)(g:gu.toList.map (λf=>(f.offset,((P.info? f.type).map (·.size))))=H.map (λp=>(p.1,some p.2)):=by kernel_rfl):hs P t H U:=
 let⟨j,E,a,b,c⟩:=i.out;⟨j,E,gu,a,b,c,h,g⟩
end
def HY{P:Program}{t:TypeId}{E:Value}{s b:Nat}(h:(P.info? t).map (λi=>(i.zero,i.size,i.bytes))=some (some E,s,b)):∃i,P.info? t=some i/\i.zero=some E/\i.size=s/\i.bytes=b:=by
 cases al:P.info? t with
 |none=>rw[al]at h;cases h
 |some i=>rw[al]at h;simp only[nH,Option.some.injEq,Prod.mk.injEq]at h;exact⟨i,rfl,h.1,h.2.1,h.2.2⟩
instance:eG aa 1 [.nilFunc]:=e1
instance:eG aa 3 [dM]:=e1
instance:eG aa 4 [gQ]:=e1
instance:eG aa 9 [nJ]:=e1
instance:eG aa 23 N2:=e1
instance:eG aa 26 DR:=e1
instance:eG aa 32 mY:=e1
instance:eG aa 36 [og]:=e1
instance:eG aa 38 N3:=e1
instance:eG aa 49 DR:=e1
instance:eG aa 51 N4:=e1
instance:eG aa 54 Bd:=e1
instance:eG aa 60 X3:=e1
instance:eG aa 78 N5:=e1
instance:eG aa 82 N6:=e1
instance:eG aa 85 N7:=e1
instance:eG aa 87 N8:=e1
instance:eG aa 89 N9:=e1
instance:eG aa 106 mY:=e1
instance:eG aa 108 X4:=e1
instance:eG aa 111 X5:=e1
instance:eG aa 116 mY:=e1
instance:eG aa 118 X6:=e1
instance:eG aa 128 X7:=e1
instance:eG aa 134 Oa:=e1
instance:eG aa 161 X8:=e1
instance:eG aa 164 Ob:=e1
instance:eG aa 168 X9:=e1
instance:eG aa 169 mY:=e1
instance:eG aa 175 HZ:=e1
instance:eG aa 181 Oc:=e1
instance:eG aa 187 Ya:=e1
instance:eG aa 188 [.nilFunc]:=e1
instance:eG aa 191 [gQ,dM]:=e1
instance:eG aa 205 [fS,fS,eX]:=e1
instance:eG aa 210 mY:=e1
instance:eG aa 213 mY:=e1
instance:eG aa 219 Yb:=e1
instance:eG aa 221 H0:=e1
instance:eG aa 223 Yc:=e1
instance:eG aa 232 mY:=e1
instance:eG aa 237 [.nilIface]:=e1
instance:eG aa 238 mY:=e1
instance:eG aa 240 [.nilFunc]:=e1
instance:eG aa 241 mY:=e1
instance:eG aa 246 mY:=e1
instance:eG aa 248 mY:=e1
instance:eG aa 261 Od:=e1
instance:eG aa 275 H0:=e1
instance:eG aa 277 Be:=e1
instance:eG aa 279 Be:=e1
instance:eG aa 281 Be:=e1
instance:eG aa 282 DR:=e1
instance:eG aa 286 Yd:=e1
instance:eG aa 289 [dM,dM,(.map none)]:=e1
instance:eG aa 295 Ye:=e1
instance:eG aa 299 Yf:=e1
instance:eG aa 302 Yg:=e1
instance:eG aa 306 HZ:=e1
instance:eG aa 310 Yh:=e1
instance:eG aa 311 mY:=e1
instance:eG aa 314 mY:=e1
instance:eG aa 317 (.nilFunc::gQ::H2):=e1
instance:eG aa 326 mY:=e1
instance:eG aa 336 Bd:=e1
instance:eG aa 356 Yi:=e1
instance:eG aa 367 Yj:=e1
instance:eG aa 380 DR:=e1
instance:eG aa 392 mY:=e1
instance:eG aa 409 Yk:=e1
instance:ew aa 1:=fs
def Oe:(aa.info? 3).map (λi=>(i.zero,i.size,i.bytes))=some (some dM,1,8):=by kernel_rfl
instance:ew aa 3:=fs
instance:u4 aa 3 .i64:=X2
instance:ew aa 4:=fs
instance:HU aa 4:=apR
instance:ew aa 9:=fs
instance:A9 aa 9:=apS
instance:jR aa 23 9:=nI
instance:bO aa 23 0 0:=bP
instance:bO aa 23 1 1:=bP
instance:bO aa 23 2 2:=bP
instance:bO aa 23 3 3:=bP
instance:bO aa 23 4 4:=bP
instance:bO aa 23 5 5:=bP
instance:bO aa 23 6 6:=bP
instance:bO aa 23 7 7:=bP
instance:bO aa 23 8 8:=bP
instance:hs aa 23 Of N2:=hK Tryz.underlying23
instance:ew aa 24:=fs
instance:jy aa 24 78 5:=lT
instance:jz aa 24 78 5 80 N5:=mh
instance:jR aa 26 1:=nI
instance:bO aa 26 0 0:=bP
instance:hs aa 26 [(0,1)] DR:=hK Tryz.underlying26
instance:ew aa 27:=fs
instance:jy aa 27 60 5:=lT
instance:ew aa 30:=fs
instance:ew aa 32:=fs
instance:u5 aa 32:=HV
instance:ew aa 34:=fs
instance:jy aa 34 38 9:=lT
instance:jz aa 34 38 9 80 N3:=mh
instance:ew aa 36:=fs
instance:u4 aa 36 .u64:=X2
instance:jR aa 38 9:=nI
instance:bO aa 38 0 0:=bP
instance:N1 aa 38 [.int .i64,.int .i64,.int .u64,.int .i64,.int .i64,.str,.int .i64,.int .i64,.bool]:=apT Tryz.underlying38
instance:hs aa 38 Of N3:=hK Tryz.underlying38
instance:ew aa 39:=fs
instance:jy aa 39 3 1:=lT
instance:jz aa 39 3 1 8 [dM]:=mh
instance:jy aa 47 51 9:=lT
instance:jz aa 47 51 9 152 N4:=mh
def apU:(aa.info? 49).map (λi=>(i.zero,i.size,i.bytes))=some (some eX,1,24):=by kernel_rfl
instance:ew aa 49:=fs
instance:jy aa 49 36 1:=lT
instance:jz aa 49 36 1 8 [og]:=mh
instance:bO aa 51 4 4:=bP
instance:hs aa 51 Of N4:=hK Tryz.underlying51
instance:ew aa 52:=fs
instance:jy aa 52 54 3:=lT
instance:jz aa 52 54 3 24 Bd:=mh
instance:jR aa 54 3:=nI
instance:hs aa 54 sy Bd:=hK Tryz.underlying54
instance:jR aa 57 12:=nI
instance:bO aa 57 0 0:=bP
instance:bO aa 57 1 9:=bP
instance:bO aa 57 2 10:=bP
instance:bO aa 57 3 11:=bP
instance:jR aa 60 5:=nI
instance:bO aa 60 0 0:=bP
instance:bO aa 60 1 1:=bP
instance:bO aa 60 2 2:=bP
instance:bO aa 60 3 3:=bP
instance:bO aa 60 4 4:=bP
instance:hs aa 60 Bf X3:=hK Tryz.underlying60
instance:ew aa 75:=fs
instance:jy aa 75 89 2:=lT
instance:jz aa 75 89 2 24 N9:=mh
instance:ew aa 76:=fs
instance:jy aa 76 82 2:=lT
instance:jz aa 76 82 2 40 N6:=mh
instance:jR aa 78 5:=nI
instance:bO aa 78 0 0:=bP
instance:bO aa 78 1 1:=bP
instance:bO aa 78 2 2:=bP
instance:bO aa 78 3 3:=bP
instance:bO aa 78 4 4:=bP
instance:hs aa 78 Bf N5:=hK Tryz.underlying78
instance:ew aa 80:=fs
instance:jy aa 80 85 4:=lT
instance:jz aa 80 85 4 56 N7:=mh
instance:jR aa 82 2:=nI
instance:bO aa 82 0 0:=bP
instance:bO aa 82 1 1:=bP
instance:hs aa 82 [(0,1),(1,1)] N6:=hK Tryz.underlying82
instance:ew aa 83:=fs
instance:jy aa 83 87 7:=lT
instance:jz aa 83 87 7 80 N8:=mh
instance:jR aa 85 4:=nI
instance:bO aa 85 0 0:=bP
instance:bO aa 85 1 1:=bP
instance:bO aa 85 2 2:=bP
instance:bO aa 85 3 3:=bP
instance:hs aa 85 DS N7:=hK Tryz.underlying85
instance:jR aa 87 7:=nI
instance:bO aa 87 0 0:=bP
instance:bO aa 87 1 1:=bP
instance:bO aa 87 2 2:=bP
instance:bO aa 87 3 3:=bP
instance:bO aa 87 4 4:=bP
instance:bO aa 87 5 5:=bP
instance:bO aa 87 6 6:=bP
instance:hs aa 87 Og N8:=hK Tryz.underlying87
instance:jR aa 89 2:=nI
instance:bO aa 89 0 0:=bP
instance:bO aa 89 1 1:=bP
instance:ew aa 95:=fs
instance:u5 aa 95:=HV
instance:ew aa 96:=fs
instance:ew aa 97:=fs
instance:ew aa 98:=fs
instance:ew aa 99:=fs
instance:jy aa 99 116 1:=lT
instance:jz aa 99 116 1 8 mY:=mh
instance:ew aa 100:=fs
instance:sx aa 100 .i64 fS:=Bb Tryz.underlying100 Tryz.underlying3
instance:ew aa 101:=fs
instance:sx aa 101 .u64 fS:=Bb Tryz.underlying101 Tryz.underlying36
instance:ew aa 102:=fs
instance:jy aa 102 261 3:=lT
instance:jz aa 102 261 3 32 Od:=mh
instance:ew aa 103:=fs
instance:ew aa 104:=fs
instance:ew aa 105:=fs
instance:jy aa 105 106 1:=lT
instance:jz aa 105 106 1 8 mY:=mh
instance:ew aa 106:=fs
instance:bO aa 108 0 0:=bP
instance:bO aa 108 1 9:=bP
instance:bO aa 108 2 10:=bP
instance:bO aa 108 3 11:=bP
instance:bO aa 108 4 12:=bP
instance:bO aa 108 5 13:=bP
instance:bO aa 108 6 14:=bP
instance:bO aa 108 7 15:=bP
instance:bO aa 108 8 16:=bP
instance:bO aa 108 9 17:=bP
instance:bO aa 108 10 18:=bP
instance:bO aa 108 11 19:=bP
instance:bO aa 108 12 20:=bP
instance:bO aa 108 13 21:=bP
instance:bO aa 108 14 22:=bP
instance:bO aa 108 15 23:=bP
instance:bO aa 108 16 24:=bP
instance:bO aa 108 17 25:=bP
instance:bO aa 108 18 26:=bP
instance:bO aa 108 19 27:=bP
instance:bO aa 108 20 28:=bP
instance:bO aa 108 21 29:=bP
instance:hs aa 108 [(0,9),(9,1),(10,1),(11,1),(12,1),(13,1),(14,1),(15,1),(16,1),(17,1),(18,1),(19,1),(20,1),(21,1),(22,1),(23,1),(24,1),(25,1),(26,1),(27,1),(28,1),(29,1)] X4:=hK Tryz.underlying108
instance:ew aa 110:=fs
instance:u5 aa 110:=HV
instance:jR aa 111 4:=nI
instance:Ba aa 111 4 1:=HW
instance:ew aa 112:=fs
instance:ew aa 113:=fs
instance:ew aa 114:=fs
instance:sx aa 114 .i64 gQ:=Bb Tryz.underlying114 Tryz.underlying3
instance:ew aa 115:=fs
instance:ew aa 116:=fs
instance:bO aa 118 0 0:=bP
instance:bO aa 118 1 1:=bP
instance:bO aa 118 2 2:=bP
instance:bO aa 118 3 7:=bP
instance:bO aa 118 4 8:=bP
instance:bO aa 118 5 12:=bP
instance:bO aa 118 6 13:=bP
instance:bO aa 118 7 14:=bP
instance:bO aa 118 8 15:=bP
instance:bO aa 118 9 16:=bP
instance:bO aa 118 10 17:=bP
instance:bO aa 118 11 18:=bP
instance:bO aa 118 12 19:=bP
instance:hs aa 118 [(0,1),(1,1),(2,5),(7,1),(8,4),(12,1),(13,1),(14,1),(15,1),(16,1),(17,1),(18,1),(19,1)] X6:=hK Tryz.underlying118
instance:ew aa 126:=fs
instance:bO aa 128 0 0:=bP
instance:bO aa 128 1 1:=bP
instance:bO aa 128 2 2:=bP
instance:bO aa 128 3 3:=bP
instance:bO aa 128 4 4:=bP
instance:bO aa 128 5 5:=bP
instance:hs aa 128 [(0,1),(1,1),(2,1),(3,1),(4,1),(5,1)] X7:=hK Tryz.underlying128
instance:u5 aa 131:=HV
instance:ew aa 132:=fs
instance:bO aa 134 1 1:=bP
instance:hs aa 134 [(0,1),(1,1)] Oa:=hK Tryz.underlying134
instance:ew aa 158:=fs
instance:sx aa 158 .u64 dM:=Bb Tryz.underlying158 Tryz.underlying36
instance:Ba aa 159 9 1:=HW
instance:bO aa 161 0 0:=bP
instance:bO aa 161 1 1:=bP
instance:bO aa 161 2 2:=bP
instance:hs aa 161 [(0,1),(1,1),(2,9)] X8:=hK Tryz.underlying161
instance:bO aa 164 0 0:=bP
instance:bO aa 164 1 1:=bP
instance:bO aa 164 2 2:=bP
instance:hs aa 164 sy Ob:=hK Tryz.underlying164
instance:ew aa 166:=fs
instance:sx aa 166 .i64 dM:=Bb Tryz.underlying166 Tryz.underlying3
instance:bO aa 168 0 0:=bP
instance:bO aa 168 1 1:=bP
instance:bO aa 168 2 2:=bP
instance:bO aa 168 3 3:=bP
instance:hs aa 168 DS X9:=hK Tryz.underlying168
instance:ew aa 169:=fs
instance:bO aa 173 0 0:=bP
instance:bO aa 173 1 1:=bP
instance:bO aa 173 2 2:=bP
instance:bO aa 173 3 3:=bP
instance:bO aa 175 0 0:=bP
instance:bO aa 175 1 4:=bP
instance:hs aa 175 [(0,4),(4,1)] HZ:=hK Tryz.underlying175
instance:bO aa 181 0 0:=bP
instance:bO aa 181 1 1:=bP
instance:hs aa 181 [(0,1),(1,1)] Oc:=hK Tryz.underlying181
instance:jR aa 187 5:=nI
instance:bO aa 187 0 0:=bP
instance:bO aa 187 1 1:=bP
instance:bO aa 187 2 2:=bP
instance:bO aa 187 3 3:=bP
instance:bO aa 187 4 4:=bP
instance:hs aa 187 Bf Ya:=hK Tryz.underlying187
instance:ew aa 188:=fs
instance:jR aa 191 2:=nI
instance:bO aa 191 0 0:=bP
instance:bO aa 191 1 1:=bP
instance:hs aa 191 [(0,1),(1,1)] [gQ,dM]:=hK Tryz.underlying191
instance:ew aa 201:=fs
instance:ew aa 202:=fs
instance:ew aa 203:=fs
instance:jy aa 203 210 1:=lT
instance:jz aa 203 210 1 8 mY:=mh
instance:bO aa 205 0 0:=bP
instance:bO aa 205 1 1:=bP
instance:bO aa 205 2 2:=bP
instance:hs aa 205 sy [fS,fS,eX]:=hK Tryz.underlying205
instance:ew aa 210:=fs
instance:ew aa 213:=fs
instance:ew aa 216:=fs
instance:bO aa 219 0 0:=bP
instance:bO aa 219 1 1:=bP
instance:bO aa 219 2 2:=bP
instance:bO aa 219 3 3:=bP
instance:bO aa 219 4 4:=bP
instance:hs aa 219 Bf Yb:=hK Tryz.underlying219
instance:bO aa 221 0 0:=bP
instance:bO aa 221 1 1:=bP
instance:bO aa 221 2 2:=bP
instance:hs aa 221 sy H0:=hK Tryz.underlying221
instance:bO aa 223 0 0:=bP
instance:bO aa 223 1 1:=bP
instance:bO aa 223 2 2:=bP
instance:bO aa 223 3 3:=bP
instance:hs aa 223 DS Yc:=hK Tryz.underlying223
instance:ew aa 232:=fs
instance:ew aa 237:=fs
instance:ew aa 238:=fs
instance:ew aa 240:=fs
instance:ew aa 241:=fs
instance:ew aa 243:=fs
instance:jy aa 243 240 1:=lT
instance:jz aa 243 240 1 8 [.nilFunc]:=mh
instance:ew aa 246:=fs
instance:ew aa 248:=fs
instance:ew aa 255:=fs
instance:ew aa 259:=fs
instance:jR aa 261 3:=nI
instance:bO aa 261 0 0:=bP
instance:bO aa 261 1 1:=bP
instance:bO aa 261 2 2:=bP
instance:hs aa 261 sy Od:=hK Tryz.underlying261
instance:jy aa 264 191 2:=lT
instance:jz aa 264 191 2 16 [gQ,dM]:=mh
instance:bO aa 275 0 0:=bP
instance:bO aa 275 1 1:=bP
instance:bO aa 275 2 2:=bP
instance:hs aa 275 sy H0:=hK Tryz.underlying275
instance:bO aa 277 0 0:=bP
instance:bO aa 277 1 1:=bP
instance:bO aa 277 2 2:=bP
instance:hs aa 277 sy Be:=hK Tryz.underlying277
instance:bO aa 279 0 0:=bP
instance:bO aa 279 1 1:=bP
instance:bO aa 279 2 2:=bP
instance:hs aa 279 sy Be:=hK Tryz.underlying279
instance:bO aa 281 0 0:=bP
instance:bO aa 281 1 1:=bP
instance:bO aa 281 2 2:=bP
instance:hs aa 281 sy Be:=hK Tryz.underlying281
instance:ew aa 282:=fs
instance:jy aa 282 336 3:=lT
instance:jz aa 282 336 3 24 Bd:=mh
instance:Ba aa 283 8 1:=HW
instance:Ba aa 284 4 8:=HW
instance:bO aa 286 0 0:=bP
instance:bO aa 286 1 1:=bP
instance:bO aa 286 2 2:=bP
instance:hs aa 286 [(0,1),(1,1),(2,32)] Yd:=hK Tryz.underlying286
instance:ew aa 287:=fs
instance:sx aa 287 .i64 eX:=Bb Tryz.underlying287 Tryz.underlying3
instance:bO aa 289 0 0:=bP
instance:bO aa 289 1 1:=bP
instance:bO aa 289 2 2:=bP
instance:hs aa 289 sy [dM,dM,(.map none)]:=hK Tryz.underlying289
instance:ew aa 293:=fs
instance:bO aa 295 0 0:=bP
instance:bO aa 295 1 1:=bP
instance:bO aa 295 2 2:=bP
instance:bO aa 295 3 3:=bP
instance:hs aa 295 DS Ye:=hK Tryz.underlying295
instance:bO aa 299 0 0:=bP
instance:bO aa 299 1 1:=bP
instance:bO aa 299 2 2:=bP
instance:bO aa 299 3 3:=bP
instance:bO aa 299 4 4:=bP
instance:bO aa 299 5 5:=bP
instance:bO aa 299 6 6:=bP
instance:hs aa 299 Og Yf:=hK Tryz.underlying299
instance:ew aa 300:=fs
instance:bO aa 302 0 0:=bP
instance:bO aa 302 1 1:=bP
instance:bO aa 302 2 2:=bP
instance:bO aa 302 3 3:=bP
instance:bO aa 302 4 4:=bP
instance:bO aa 302 5 5:=bP
instance:bO aa 302 6 6:=bP
instance:hs aa 302 Og Yg:=hK Tryz.underlying302
instance:bO aa 306 0 0:=bP
instance:bO aa 306 1 4:=bP
instance:hs aa 306 [(0,4),(4,1)] HZ:=hK Tryz.underlying306
instance:bO aa 310 0 0:=bP
instance:bO aa 310 1 4:=bP
instance:bO aa 310 2 5:=bP
instance:bO aa 310 3 6:=bP
instance:bO aa 310 4 7:=bP
instance:hs aa 310 [(0,4),(4,1),(5,1),(6,1),(7,1)] Yh:=hK Tryz.underlying310
instance:ew aa 311:=fs
instance:ew aa 314:=fs
instance:bO aa 317 0 0:=bP
instance:bO aa 317 1 1:=bP
instance:bO aa 317 2 2:=bP
instance:bO aa 317 3 3:=bP
instance:hs aa 317 DS (.nilFunc::gQ::H2):=hK Tryz.underlying317
instance:ew aa 326:=fs
instance:jR aa 336 3:=nI
instance:bO aa 336 0 0:=bP
instance:bO aa 336 1 1:=bP
instance:hs aa 336 sy Bd:=hK Tryz.underlying336
instance:jR aa 356 5:=nI
instance:bO aa 356 0 0:=bP
instance:bO aa 356 1 1:=bP
instance:bO aa 356 2 2:=bP
instance:bO aa 356 3 3:=bP
instance:bO aa 356 4 4:=bP
instance:hs aa 356 Bf Yi:=hK Tryz.underlying356
instance:bO aa 367 0 0:=bP
instance:bO aa 367 1 1:=bP
instance:bO aa 367 2 2:=bP
instance:bO aa 367 3 3:=bP
instance:bO aa 367 4 4:=bP
instance:bO aa 367 5 5:=bP
instance:hs aa 367 [(0,1),(1,1),(2,1),(3,1),(4,1),(5,1)] Yj:=hK Tryz.underlying367
instance:jy aa 379 9 1:=lT
instance:jz aa 379 9 1 16 [nJ]:=mh
instance:ew aa 380:=fs
instance:jy aa 380 213 1:=lT
instance:jz aa 380 213 1 8 mY:=mh
instance:ew aa 392:=fs
instance:bO aa 409 0 0:=bP
instance:bO aa 409 1 1:=bP
instance:bO aa 409 2 2:=bP
instance:bO aa 409 3 3:=bP
instance:bO aa 409 4 4:=bP
instance:hs aa 409 Bf Yk:=hK Tryz.underlying409
def mixed:aa.follows .mixedOrders=true:=by kernel_rfl
end Go.Proofs.YtnnhpnccfnghdaaGreat.L
namespace Go.Proofs.YtnnhpnccfnghdaaGreat.L
open Go.L Go.L.Lx Go.L.Pg Go.RowKit Go.Deep
attribute[local irreducible] G cz GE cT GT bU c6 cY dc Exit.then Exit.inBlock
section
variable{F:Type}{enc:TypeId×Value->F}{P:Program}{w:World}{E:Nat}{D:Nat->Bool}{held:Bool}
section
variable{t e n aT z:Nat}{cs:List Value}{y:DataW F×List MemPlace}{c:Value}{bv:Nat}
theorem auo{zB aT z:Nat}{cs:List Value}{x:DataW F×List MemPlace}(R:P.underlying t=some (.slice e))(l:P.cellsOf e=aT)(bn:0<aT)(b:P.bytesOf e=z){T:Type}[Inhabited T](g:T->List Value)(Good:T->Prop)(hlen:∀q,(g q).length=aT)
 (k:∀n u d,DataW.trod enc P w E D held n e u=some d->l0 P e d.1->∃q,u=g q/\Good q)(h:DataW.trod enc P w E D held zB t cs=some x)(O:l0 P t x.1):
 ∃(a:Option Addr) (C:Nat) (s:List T),cs=[.slice a s.length C]/\(∀q∈s,Good q)/\eF (s.length*z)/\ij (fE w) a C s.length (s.flatMap g):=by
 obtain⟨a,C,s,aB,aX,bb,aD,ag⟩:=atz (λd=>l0 P e d) R l g Good hlen k (λel dq e=>(ahL R (e▸O)).2) h;have a2:s.length<=C:=by
  rcases DataW.trod_slice R h with⟨aU,_⟩|⟨aE,len,p,o,rest,n,_,aU,_,_,aw,_⟩
  . exact acU
  . exact acU
 refine⟨a,C,s,aB,aX,?_,aD bn,a2⟩;unfold eF;rcases ag with⟨_,h2⟩|⟨el,dq,h2,aH⟩
 . rw[h2];omega
 . have bm:=(ahL R (h2▸O)).1
   rw[b,aH]at bm;have:reachBytes=140737488351232:=bN;omega
theorem lE(d7:P.underlying t=some (.int .i64))(a2:P.cellsOf t=1)(h:DataW.trod enc P w E D held n t ((cs.drop bv).take (P.cellsOf t))=some y)(B:(cs.drop bv).take 1=[c]):∃v,c=vx v:=by
 rw[a2,B]at h;obtain⟨v,e,_⟩:=DataW.trod_int d7 h;exact⟨v,by simpa using e⟩
theorem aup(d7:P.underlying t=some .bool)(a2:P.cellsOf t=1)(h:DataW.trod enc P w E D held n t ((cs.drop bv).take (P.cellsOf t))=some y)(B:(cs.drop bv).take 1=[c]):∃v,c=.bool v:=by
 rw[a2,B]at h;obtain⟨v,e,_⟩:=DataW.trod_bool d7 h;exact⟨v,by simpa using e⟩
theorem ih(d7:P.underlying t=some .string)(a2:P.cellsOf t=1)(h:DataW.trod enc P w E D held n t ((cs.drop bv).take (P.cellsOf t))=some y)(O:l0 P t y.1)(B:(cs.drop bv).take 1=[c]):∃v,c=xA v/\eF v.length:=by
 rw[a2,B]at h;obtain⟨⟨⟨s⟩⟩,e,rfl,aj⟩:=DataW.trod_string d7 h;exact⟨s,by simpa using e,aty O⟩
theorem B3{T:Type}[Inhabited T](g:T->List Value)(Good:T->Prop)(hlen:∀q,(g q).length=aT)(k:∀n u d,DataW.trod enc P w E D held n e u=some d->l0 P e d.1->∃q,u=g q/\Good q)
 (R:P.underlying t=some (.slice e))(l:P.cellsOf e=aT)(bn:0<aT)(b:P.bytesOf e=z)(a2:P.cellsOf t=1)(h:DataW.trod enc P w E D held n t ((cs.drop bv).take (P.cellsOf t))=some y)(O:l0 P t y.1)(B:(cs.drop bv).take 1=[c]):
 ∃(a:Option Addr) (C:Nat) (s:List T),c=.slice a s.length C/\(∀q∈s,Good q)/\eF (s.length*z)/\ij (fE w) a C s.length (s.flatMap g):=by
 rw[a2,B]at h;obtain⟨a,C,s,aB,h1⟩:=auo R l bn b g Good hlen k h O;exact⟨a,C,s,by simpa using aB,h1⟩
end
end
section
variable{F:Type}
def auq{enc:TypeId×Value->F}{w:World}{E:Nat}{D:Nat->Bool}{held:Bool}(n:Nat)(cs:List Value)(d:DataW F×List MemPlace)(h:DataW.trod enc aa w E D held n 87 cs=some d)(O:l0 aa 87 d.1):∃q,cs=fz q/\CP q:=by
 obtain⟨xs,m,_,rfl,aw,hlen,a8⟩:=DataW.trod_struct Tryz.underlying87 h;rw[show aa.cellsOf 87=7 by kernel_rfl]at aw;replace hlen:xs.length=7:=hlen;obtain⟨ej,c1,bk,b0,d9,eT,ge,rfl⟩:∃ej c1 bk b0 d9 eT ge,cs=[ej,c1,bk,b0,d9,eT,ge]:=by match cs,aw with|[ej,c1,bk,b0,d9,eT,ge],_=>exact⟨_,_,_,_,_,_,_,rfl⟩
 obtain⟨b,g⟩:∃y,xs[0]?=some y:=⟨_,cq ae⟩;have f0:=(a8 0 _ rfl).trans g;have l:=h7 (i:=0) Tryz.underlying87 O rfl (show(xs.map (·.1))[0]?=some b.1 by rw[fe,g];rfl);obtain⟨v0,rfl⟩:=lE Tryz.underlying3 (show aa.cellsOf 3=1 by kernel_rfl) f0 rfl;obtain⟨a,W⟩:∃y,xs[1]?=some y:=⟨_,cq ae⟩;have f1:=(a8 1 _ rfl).trans W;have aG:=h7 (i:=1) Tryz.underlying87 O rfl (show(xs.map (·.1))[1]?=some a.1 by rw[fe,W];rfl);obtain⟨v1,rfl,cI⟩:=ih Tryz.underlying9 (show aa.cellsOf 9=1 by kernel_rfl) f1 aG rfl;obtain⟨f,cE⟩:∃y,xs[2]?=some y:=⟨_,cq ae⟩;have f2:=(a8 2 _ rfl).trans cE;have a7:=h7 (i:=2) Tryz.underlying87 O rfl (show(xs.map (·.1))[2]?=some f.1 by rw[fe,cE];rfl);obtain⟨u,rfl,cd⟩:=ih Tryz.underlying9 (show aa.cellsOf 9=1 by kernel_rfl) f2 a7 rfl;obtain⟨j,d8⟩:∃y,xs[3]?=some y:=⟨_,cq ae⟩;have f3:=(a8 3 _ rfl).trans d8;have bX:=h7 (i:=3) Tryz.underlying87 O rfl (show(xs.map (·.1))[3]?=some j.1 by rw[fe,d8];rfl);obtain⟨v3,rfl,ia⟩:=ih Tryz.underlying9 (show aa.cellsOf 9=1 by kernel_rfl) f3 bX rfl;obtain⟨t,f9⟩:∃y,xs[4]?=some y:=⟨_,cq ae⟩;have f4:=(a8 4 _ rfl).trans f9;have bF:=h7 (i:=4) Tryz.underlying87 O rfl (show(xs.map (·.1))[4]?=some t.1 by rw[fe,f9];rfl);obtain⟨v4,rfl⟩:=lE Tryz.underlying3 (show aa.cellsOf 3=1 by kernel_rfl) f4 rfl;obtain⟨o,Z⟩:∃y,xs[5]?=some y:=⟨_,cq ae⟩;have f5:=(a8 5 _ rfl).trans Z;have bz:=h7 (i:=5) Tryz.underlying87 O rfl (show(xs.map (·.1))[5]?=some o.1 by rw[fe,Z];rfl);obtain⟨v5,rfl⟩:=lE Tryz.underlying3 (show aa.cellsOf 3=1 by kernel_rfl) f5 rfl;obtain⟨r,G⟩:∃y,xs[6]?=some y:=⟨_,cq ae⟩;have f6:=(a8 6 _ rfl).trans G;have bh:=h7 (i:=6) Tryz.underlying87 O rfl (show(xs.map (·.1))[6]?=some r.1 by rw[fe,G];rfl);obtain⟨e,rfl⟩:=lE Tryz.underlying3 (show aa.cellsOf 3=1 by kernel_rfl) f6 rfl;exact⟨⟨v0,v1,u,v3,v4,v5,e⟩,rfl,⟨cI,cd,ia⟩⟩
def aur{enc:TypeId×Value->F}{w:World}{E:Nat}{D:Nat->Bool}{held:Bool}(n:Nat)(cs:List Value)(d:DataW F×List MemPlace)(h:DataW.trod enc aa w E D held n 85 cs=some d)(O:l0 aa 85 d.1):∃q,cs=gh q/\yb (fE w) q:=by
 obtain⟨xs,m,_,rfl,aw,hlen,a8⟩:=DataW.trod_struct Tryz.underlying85 h;rw[show aa.cellsOf 85=4 by kernel_rfl]at aw;replace hlen:xs.length=4:=hlen;obtain⟨ej,c1,bk,b0,rfl⟩:∃ej c1 bk b0,cs=[ej,c1,bk,b0]:=by match cs,aw with|[ej,c1,bk,b0],_=>exact⟨_,_,_,_,rfl⟩
 obtain⟨b,g⟩:∃y,xs[0]?=some y:=⟨_,cq ae⟩;have f0:=(a8 0 _ rfl).trans g;have l:=h7 (i:=0) Tryz.underlying85 O rfl (show(xs.map (·.1))[0]?=some b.1 by rw[fe,g];rfl);obtain⟨v0,rfl,fi⟩:=ih Tryz.underlying9 (show aa.cellsOf 9=1 by kernel_rfl) f0 l rfl;obtain⟨a,W⟩:∃y,xs[1]?=some y:=⟨_,cq ae⟩;have f1:=(a8 1 _ rfl).trans W;have aG:=h7 (i:=1) Tryz.underlying85 O rfl (show(xs.map (·.1))[1]?=some a.1 by rw[fe,W];rfl);obtain⟨v1,rfl⟩:=aup Tryz.underlying4 (show aa.cellsOf 4=1 by kernel_rfl) f1 rfl;obtain⟨f,cE⟩:∃y,xs[2]?=some y:=⟨_,cq ae⟩;have f2:=(a8 2 _ rfl).trans cE;have a7:=h7 (i:=2) Tryz.underlying85 O rfl (show(xs.map (·.1))[2]?=some f.1 by rw[fe,cE];rfl);obtain⟨u,rfl⟩:=lE Tryz.underlying3 (show aa.cellsOf 3=1 by kernel_rfl) f2 rfl;obtain⟨j,d8⟩:∃y,xs[3]?=some y:=⟨_,cq ae⟩;have f3:=(a8 3 _ rfl).trans d8;have bX:=h7 (i:=3) Tryz.underlying85 O rfl (show(xs.map (·.1))[3]?=some j.1 by rw[fe,d8];rfl);obtain⟨a3,sP,b9,rfl,e,I,c⟩:=B3 fz (λq=>CP q) ur (λn cs d h w=>auq n cs d h w) Tryz.underlying83 (show aa.cellsOf 87=7 by kernel_rfl) bN (show aa.bytesOf 87=80 by kernel_rfl) (show aa.cellsOf 83=1 by kernel_rfl) f3 bX rfl;exact⟨⟨v0,v1,u,a3,sP,b9⟩,rfl,⟨fi,c,I,e⟩⟩
def aus{enc:TypeId×Value->F}{w:World}{E:Nat}{D:Nat->Bool}{held:Bool}(n:Nat)(cs:List Value)(d:DataW F×List MemPlace)(h:DataW.trod enc aa w E D held n 82 cs=some d)(O:l0 aa 82 d.1):∃q,cs=ft q/\v8 (fE w) q:=by
 obtain⟨xs,m,_,rfl,aw,hlen,a8⟩:=DataW.trod_struct Tryz.underlying82 h;rw[show aa.cellsOf 82=2 by kernel_rfl]at aw;replace hlen:xs.length=2:=hlen;obtain⟨ej,c1,rfl⟩:∃ej c1,cs=[ej,c1]:=Zq;obtain⟨b,g⟩:∃y,xs[0]?=some y:=⟨_,cq ae⟩;have f0:=(a8 0 _ rfl).trans g;have l:=h7 (i:=0) Tryz.underlying82 O rfl (show(xs.map (·.1))[0]?=some b.1 by rw[fe,g];rfl);obtain⟨v0,rfl,fi⟩:=ih Tryz.underlying9 (show aa.cellsOf 9=1 by kernel_rfl) f0 l rfl;obtain⟨a,W⟩:∃y,xs[1]?=some y:=⟨_,cq ae⟩;have f1:=(a8 1 _ rfl).trans W;have aG:=h7 (i:=1) Tryz.underlying82 O rfl (show(xs.map (·.1))[1]?=some a.1 by rw[fe,W];rfl);obtain⟨ck,gH,s1,rfl,k,m1,gZ⟩:=B3 gh (λq=>yb (fE w) q) rh (λn cs d h w=>aur n cs d h w) Tryz.underlying80 (show aa.cellsOf 85=4 by kernel_rfl) bN (show aa.bytesOf 85=56 by kernel_rfl) (show aa.cellsOf 80=1 by kernel_rfl) f1 aG rfl;exact⟨⟨v0,ck,gH,s1⟩,rfl,⟨fi,gZ,m1,k⟩⟩
def aut{enc:TypeId×Value->F}{w:World}{E:Nat}{D:Nat->Bool}{held:Bool}(n:Nat)(cs:List Value)(d:DataW F×List MemPlace)(h:DataW.trod enc aa w E D held n 89 cs=some d)(O:l0 aa 89 d.1):∃q,cs=ik q/\eF q.reason.length:=by
 obtain⟨xs,m,_,rfl,aw,hlen,a8⟩:=DataW.trod_struct Tryz.underlying89 h;rw[show aa.cellsOf 89=2 by kernel_rfl]at aw;replace hlen:xs.length=2:=hlen;obtain⟨ej,c1,rfl⟩:∃ej c1,cs=[ej,c1]:=Zq;obtain⟨b,g⟩:∃y,xs[0]?=some y:=⟨_,cq ae⟩;have f0:=(a8 0 _ rfl).trans g;have l:=h7 (i:=0) Tryz.underlying89 O rfl (show(xs.map (·.1))[0]?=some b.1 by rw[fe,g];rfl);obtain⟨v0,rfl,fi⟩:=ih Tryz.underlying9 (show aa.cellsOf 9=1 by kernel_rfl) f0 l rfl;obtain⟨a,W⟩:∃y,xs[1]?=some y:=⟨_,cq ae⟩;have f1:=(a8 1 _ rfl).trans W;have aG:=h7 (i:=1) Tryz.underlying89 O rfl (show(xs.map (·.1))[1]?=some a.1 by rw[fe,W];rfl);obtain⟨v1,rfl⟩:=lE Tryz.underlying3 (show aa.cellsOf 3=1 by kernel_rfl) f1 rfl;exact⟨⟨v0,v1⟩,rfl,fi⟩
def auu{enc:TypeId×Value->F}{w:World}{E:Nat}{D:Nat->Bool}{held:Bool}(n:Nat)(cs:List Value)(d:DataW F×List MemPlace)(h:DataW.trod enc aa w E D held n 78 cs=some d)(O:l0 aa 78 d.1):∃q,cs=dO q/\kM (fE w) q:=by
 obtain⟨xs,m,_,rfl,aw,hlen,a8⟩:=DataW.trod_struct Tryz.underlying78 h;rw[show aa.cellsOf 78=5 by kernel_rfl]at aw;replace hlen:xs.length=5:=hlen;obtain⟨ej,c1,bk,b0,d9,rfl⟩:∃ej c1 bk b0 d9,cs=[ej,c1,bk,b0,d9]:=Zr;obtain⟨b,g⟩:∃y,xs[0]?=some y:=⟨_,cq ae⟩;have f0:=(a8 0 _ rfl).trans g;have l:=h7 (i:=0) Tryz.underlying78 O rfl (show(xs.map (·.1))[0]?=some b.1 by rw[fe,g];rfl);obtain⟨v0,rfl,fi⟩:=ih Tryz.underlying9 (show aa.cellsOf 9=1 by kernel_rfl) f0 l rfl;obtain⟨a,W⟩:∃y,xs[1]?=some y:=⟨_,cq ae⟩;have f1:=(a8 1 _ rfl).trans W;have aG:=h7 (i:=1) Tryz.underlying78 O rfl (show(xs.map (·.1))[1]?=some a.1 by rw[fe,W];rfl);obtain⟨v1,rfl⟩:=lE Tryz.underlying3 (show aa.cellsOf 3=1 by kernel_rfl) f1 rfl;obtain⟨f,cE⟩:∃y,xs[2]?=some y:=⟨_,cq ae⟩;have f2:=(a8 2 _ rfl).trans cE;have a7:=h7 (i:=2) Tryz.underlying78 O rfl (show(xs.map (·.1))[2]?=some f.1 by rw[fe,cE];rfl);obtain⟨u,rfl⟩:=lE Tryz.underlying3 (show aa.cellsOf 3=1 by kernel_rfl) f2 rfl;obtain⟨j,d8⟩:∃y,xs[3]?=some y:=⟨_,cq ae⟩;have f3:=(a8 3 _ rfl).trans d8;have bX:=h7 (i:=3) Tryz.underlying78 O rfl (show(xs.map (·.1))[3]?=some j.1 by rw[fe,d8];rfl);obtain⟨a3,sP,b9,rfl,e,I,c⟩:=B3 ik (λq=>eF q.reason.length) wa (λn cs d h w=>aut n cs d h w) Tryz.underlying75 (show aa.cellsOf 89=2 by kernel_rfl) bN (show aa.bytesOf 89=24 by kernel_rfl) (show aa.cellsOf 75=1 by kernel_rfl) f3 bX rfl;obtain⟨t,f9⟩:∃y,xs[4]?=some y:=⟨_,cq ae⟩;have f4:=(a8 4 _ rfl).trans f9;have bF:=h7 (i:=4) Tryz.underlying78 O rfl (show(xs.map (·.1))[4]?=some t.1 by rw[fe,f9];rfl);obtain⟨a4,xD,m2,rfl,k,A,tl⟩:=B3 ft (λq=>v8 (fE w) q) o7 (λn cs d h w=>aus n cs d h w) Tryz.underlying76 (show aa.cellsOf 82=2 by kernel_rfl) bN (show aa.bytesOf 82=40 by kernel_rfl) (show aa.cellsOf 76=1 by kernel_rfl) f4 bF rfl;exact⟨⟨v0,v1,u,a3,sP,b9,a4,xD,m2⟩,rfl,⟨fi,c,I,e,tl,A,k⟩⟩
def auv{enc:TypeId×Value->F}{w:World}{E:Nat}{D:Nat->Bool}{held:Bool}(n:Nat)(cs:List Value)(d:DataW F×List MemPlace)(h:DataW.trod enc aa w E D held n 26 cs=some d)(O:l0 aa 26 d.1):∃a c K,cs=[.slice a (List.length K) c]/\hr (fE w) a c K:=by
 obtain⟨xs,m,_,rfl,aw,hlen,a8⟩:=DataW.trod_struct Tryz.underlying26 h;rw[show aa.cellsOf 26=1 by kernel_rfl]at aw;replace hlen:xs.length=1:=hlen;obtain⟨ej,rfl⟩:∃ej,cs=[ej]:=by match cs,aw with|[ej],_=>exact⟨_,rfl⟩
 obtain⟨b,g⟩:∃y,xs[0]?=some y:=⟨_,cq ae⟩;have f0:=(a8 0 _ rfl).trans g;have l:=h7 (i:=0) Tryz.underlying26 O rfl (show(xs.map (·.1))[0]?=some b.1 by rw[fe,g];rfl);obtain⟨a,p,s,rfl,aJ,bb,aD⟩:=B3 dO (λq=>kM (fE w) q) Ay (λn cs d h w=>auu n cs d h w) Tryz.underlying24 (show aa.cellsOf 78=5 by kernel_rfl) bN (show aa.bytesOf 78=80 by kernel_rfl) (show aa.cellsOf 24=1 by kernel_rfl) f0 l rfl;exact⟨a,p,s,rfl,⟨aD,bb,aJ⟩⟩
def aql{W:World}{a:Option Addr}{c:Nat}{K:List b1}(p:hr (fE W) a c K):∀h,base W h->hr h a c K:=λh az=>p.imp λb o e=>by
 have d5:b<W.heap.size:=by
  rcases sh b W.heap.size with x|x
  . exact x
  . rw[show fE W b=W.heap[b]?from rfl,Hi x]at e;cases e
 rw[az b d5];exact e
end
end Go.Proofs.YtnnhpnccfnghdaaGreat.L
namespace Go.L.Ring
open Go.L
abbrev e0(x:Int):Int:=IntKind.u64.wrap x
def jt(b n:Nat)(t:Int):Nat:=b+2+2*(t%(n:Int)).toNat
def xE(n:Nat)(t:Int):Int:=e0 (t/n*2)
def MH{t:Int}{n:Nat}(R:0<=t)(h2:t<=18446744073709551615)(aS:1<=n):IntKind.u64.wrap (t.tdiv n)=t/n:=by
 rw[Int.tdiv_eq_ediv_of_nonneg R];have bn:0<=t/n:=Int.ediv_nonneg R ae;have h1:t/n<=t:=Int.ediv_le_self _ R;exact tq ae
structure fr where
 pc:Nat
 out:Int
 val:Int
 tick:Int
 c5:Int
 deriving DecidableEq
structure iG(o:fr):Prop where
 pc:o.pc<=15
 v0:0<=o.val
 v1:o.val<=18446744073709551615
 t0:0<=o.tick
 t1:o.tick<=18446744073709551615
 fG:0<=o.c5
 aB:o.c5<=18446744073709551615
def fr.over(o:fr):Bool:=!decide (o.out=0)
section
variable(b n:Nat)(L:List Int)(o:fr)
def fr.value:Int:=if o.out=1 then o.val else 0
abbrev dE:Int:=9223372036854775808
def AH:fr:={o with pc:=1,tick:=L.getD b 0,out:=if dE<=L.getD b 0 then 3 else o.out}
def yu:fr:=
 if xE n o.tick<L.getD (jt b n o.tick) 0 then{o with pc:=0}else if L.getD (jt b n o.tick) 0<xE n o.tick then{o with out:=2}else{o with pc:=2}
def AI:fr:={o with pc:=if L.getD b 0=o.tick then 3 else 0}
def EY:List Int:=if L.getD b 0=o.tick then L.set b (e0 (o.tick+1))else L
def G8:fr:={o with pc:=4}
def Sa:List Int:=L.set (jt b n o.tick+1) o.val
def G9:fr:={o with out:=1,val:=0}
def Sb:List Int:=L.set (jt b n o.tick) (e0 (xE n o.tick+1))
def uK:fr:={o with pc:=6,c5:=L.getD (b+1) 0}
def sg:fr:={o with pc:=7,out:=if L.getD (jt b n o.c5) 0=e0 (xE n o.c5+1)then o.out else 4}
def Ha:fr:={o with pc:=8,val:=L.getD (jt b n o.c5+1) 0}
def Hb:fr:={o with pc:=9}
def Sc:List Int:=L.set (jt b n o.c5) (e0 (xE n o.c5+2))
def Hc:fr:={o with out:=1}
def Sd:List Int:=L.set (b+1) (e0 (o.c5+1))
def Hd:fr:={o with pc:=11,val:=L.getD b 0}
def AJ:fr:={uK b L o with out:=if o.val=e0 (L.getD (b+1) 0+dE)then 5 else o.out}
def He:fr:={uK b L o with pc:=13}
def AK:fr:={sg b n L o with out:=if(sg b n L o).over then(sg b n L o).out else 1}
def AL:fr:={o with pc:=15,out:=if dE<=L.getD b 0 then 1 else o.out,val:=if dE<=L.getD b 0 then 0 else L.getD b 0}
def AM:fr:={o with pc:=14,out:=if L.getD b 0=o.val then 1 else o.out,val:=if L.getD b 0=o.val then 0 else o.val}
def EZ:List Int:=if L.getD b 0=o.val then L.set b (e0 (o.val+dE))else L
def l2:List Int:=
 match o.pc with
 |2=>EY b L o|3=>Sa b n L o|4=>Sb b n L o|8=>Sc b n L o|9=>Sd b L o|15=>EZ b L o|_=>L
def lq:fr:=
 match o.pc with
 |0=>AH b L o|1=>yu b n L o|2=>AI b L o|3=>G8 o|4=>G9 o|5=>uK b L o|6=>sg b n L o|7=>Ha b n L o
 |8=>Hb o|9=>Hc o|10=>Hd b L o|11=>AJ b L o|12=>He b L o|13=>AK b n L o|14=>AL b L o|15=>AM b L o|_=>o
def lp:List Int:=if o.over then L else l2 b n L o
def dL:fr:=if o.over then o else lq b n L o
def iv:Prop:=∀x∈L,0<=x/\x<=18446744073709551615
end
section
variable(x:Int){b n:Nat}{L:List Int}{o:fr}
def iv.get(h:iv L)(i:Nat):0<=L.getD i 0/\L.getD i 0<=18446744073709551615:=by
 rw[je];by_cases al:i<L.length
 . rw[cq al];exact h _ (sz al)
 . rw[oM ae];simp
def iv.set(h:iv L)(i:Nat)(x:Int)(ag:0<=x/\x<=18446744073709551615):iv (L.set i x):=λy ah=>by
 rcases ah4 ah with ah|rfl
 . exact h y ah
 . exact ag
def xF:e0 x=x%18446744073709551616:=by
 unfold e0 IntKind.wrap;simp[IntKind.bits,IntKind.signed]
def AR:0<=e0 x/\e0 x<=18446744073709551615:=by
 rw[xF];omega
def yv(h:iv L)(aJ:iG o):iv (lp b n L o):=by
 unfold lp;split
 . exact h
 . unfold l2;split<;>(try exact h)<;>simp only[EY,Sa,Sb,Sc,Sd,EZ]<;>(try split)<;>first|exact h|exact h.set _ _ (AR _)|exact h.set _ _ ⟨aJ.v0,aJ.v1⟩
def AD(h:iv L)(aJ:iG o):iG (dL b n L o):=by
 obtain⟨ck,cl,a3,a4,a5,a,e⟩:=aJ;unfold dL;split
 . exact⟨ck,cl,a3,a4,a5,a,e⟩
 . have g:=h.get
   unfold lq;split<;>(try simp only[AH,yu,AI,G8,G9,uK,sg,Ha,Hb,Hc,Hd,AJ,He,AK,AL,AM])<;>(repeat' split)<;>
    (constructor<;>first|assumption|exact(g _).1|exact(g _).2|(simp;done)|(split<;>simp;done)|(split<;>first|assumption|exact(g _).1|exact(g _).2|simp))
def iw(L:List Int)(b:Nat):Nat->List Int
 |0=>L
 |i+1=>(iw L b i).set (b+i) 0
def wZ(L:List Int)(b:Nat):∀i,(iw L b i).length=L.length
 |0=>rfl
 |i+1=>by rw[iw,gq,wZ L b i]
def lP(s:Int):Int:=if 1<=s/\s<=64 then 2+2*s else 0
def R6(h1:1<=n)(h2:n<=64):lP (n:Int)=((2+2*n:Nat):Int):=by unfold lP;rw[bg ae];omega
def auQ(k:Nat):iv (List.replicate k 0):=λx ag=>by rw[List.eq_of_mem_replicate ag];simp
end
end Go.L.Ring
namespace Go.L.dr
open Go.L Go.L.Ring
structure js where
 b:Nat
 fh:Nat
 fF:Nat
def js.eO(B:js)(r:Bool):Nat:=if r then B.b+2+(2+2*B.fh)else B.b+2
def js.fa(B:js)(r:Bool):Nat:=if r then B.fF else B.fh
inductive vz
 |put(M:Bool)(o:fr)
 |qU(M:Bool)
 |swp(M:Bool)(s:Int)
 |ask(v:Int)
 |set(st:Int)
 |of(r:Bool)(o:fr)
 |gone
 |xC(held:Bool)
 |look(held r:Bool)(o:fr)
 |more(held:Bool)
structure gA where
 ph:vz
 out:Int
 val:Int
def gA.over(p:gA):Bool:=!decide (p.out=0)
section
variable(B:js)(L:List Int)(p:gA)
def gU(pc:Nat)(v:Int):fr:=⟨pc,0,v,0,0⟩
def iK(held:Bool):Int:=if held then 3 else 0
def xB(M:Bool)(s:Int):Bool:=decide (s=0)||(M&&decide (s=3))
def iI:vz->List Int×gA
 |
  .put M o=>
  let Z:=lp (B.eO M) (B.fa M) L o
  let S:=dL (B.eO M) (B.fa M) L o
  (Z,if S.over then(if S.out=1 then⟨.qU M,0,0⟩else⟨.put M S,S.out,0⟩)else⟨.put M S,0,0⟩)
 |.qU M=>(L,if xB M (L.getD B.b 0)then⟨.swp M (L.getD B.b 0),0,0⟩else⟨.qU M,1,0⟩)
 |.swp M s=>if L.getD B.b 0=s then(L.set B.b 1,⟨.swp M s,7,0⟩)else(L,⟨.qU M,0,0⟩)
 |.ask v=>if L.getD (B.b+1) 0=0 then(L.set (B.b+1) 1,⟨.put true (gU 0 v),0,0⟩)else(L,⟨.ask v,4,0⟩)
 |.set st=>(L.set B.b st,⟨.set st,1,0⟩)
 |
  .of r o=>
  let Z:=lp (B.eO r) (B.fa r) L o
  let S:=dL (B.eO r) (B.fa r) L o
  (Z,if S.over then⟨.of r S,S.out,S.value⟩else⟨.of r S,0,0⟩)
 |.gone=>(L,⟨.gone,if L.getD B.b 0=4 then 1 else 4,0⟩)
 |.xC held=>(L.set B.b (iK held),⟨.look held true (gU 12 0),0,0⟩)
 |
  .look held r o=>
  let Z:=lp (B.eO r) (B.fa r) L o
  let S:=dL (B.eO r) (B.fa r) L o
  (Z,if S.over then(if S.out=1 then⟨.more held,0,0⟩else if r&&!held then⟨.look held false (gU 12 0),0,0⟩else⟨.look held r S,4,0⟩)else⟨.look held r S,0,0⟩)
 |.more held=>if L.getD B.b 0=iK held then(L.set B.b 1,⟨.more held,8,0⟩)else(L,⟨.more held,1,0⟩)
def qe:List Int:=if p.over then L else(iI B L p.ph).1
def oY:gA:=if p.over then p else(iI B L p.ph).2
structure rR(B:js)(L:List Int):Prop where
 m1:1<=B.fh
 m64:B.fh<=64
 ec:1<=B.fF
 jV:B.fF<=64
 len:B.b+6+2*B.fh+2*B.fF<=L.length
 dE:L.length<=65536
def aum:vz->Prop
 |.put _ o=>iG o/\o.out=0
 |.swp _ s=>0<=s/\s<=18446744073709551615
 |.ask v=>0<=v/\v<=18446744073709551615
 |.set st=>0<=st/\st<=18446744073709551615
 |.of _ o=>iG o/\o.out=0
 |.look held r o=>iG o/\o.out=0/\(held=true->r=true)
 |_=>True
def sO:Prop:=p.out=0->aum p.ph/\p.val=0
def rR.eO{B:js}{L:List Int}(h:rR B L)(r:Bool):1<=B.fa r/\B.fa r<=64/\B.eO r+2+2*B.fa r<=L.length/\L.length<=65536:=by
 have h1:=h.m1;have h2:=h.m64;have aH:=h.ec;have bm:=h.jV;have dk:=h.len;have g0:=h.dE;cases r<;>simp[js.eO,js.fa]<;>omega
def AN{pc:Nat}{v:Int}(h:pc<=15)(V:0<=v/\v<=18446744073709551615):iG (gU pc v):=⟨h,V.1,V.2,vB 0,(show(0:Int)<=18446744073709551615 by decide),vB 0,(show(0:Int)<=18446744073709551615 by decide)⟩
def R7{o:fr}(h:o.over=false):o.out=0:=by simpa[fr.over]using h
def aun{B:js}{L:List Int}{p:gA}(K:iv L)(hp:sO p):iv (qe B L p)/\sO (oY B L p):=by
 unfold qe oY;cases U:p.over with
 |true=>exact⟨K,hp⟩
 |
  false=>
  simp only[eH,eo];obtain⟨ph,out,val⟩:=p;have aJ:out=0:=by simpa[gA.over]using U
  obtain⟨d2,V⟩:=hp aJ;have fD:(0:Int)<=0/\(0:Int)<=18446744073709551615:=bN;cases ph with
  |
   put M o=>
   simp only[iI];have g:=AD (b:=B.eO M) (n:=B.fa M) K d2.1;refine⟨yv K d2.1,?_⟩;cases d:(dL (B.eO M) (B.fa M) L o).over with
   |false=>simp only[eH,eo];exact λ_=>⟨⟨g,R7 d⟩,rfl⟩
   |
    true=>
    simp only[fk];split
    . exact λ_=>⟨trivial,rfl⟩
    . intro h;exact absurd h M3
  |
   qU M=>
   simp only[iI];refine⟨K,?_⟩;split
   . exact λ_=>⟨K.get _,rfl⟩
   . intro h;cases h
  |
   swp M s=>
   simp only[iI];split
   . exact⟨K.set _ _ bN,λh=>by cases h⟩
   . exact⟨K,λ_=>⟨trivial,rfl⟩⟩
  |
   ask v=>
   simp only[iI];split
   . exact⟨K.set _ _ bN,λ_=>⟨⟨AN bN d2,rfl⟩,rfl⟩⟩
   . exact⟨K,λh=>by cases h⟩
  |set st=>exact⟨K.set _ _ d2,λh=>by cases h⟩
  |
   of r o=>
   simp only[iI];have g:=AD (b:=B.eO r) (n:=B.fa r) K d2.1;refine⟨yv K d2.1,?_⟩;cases d:(dL (B.eO r) (B.fa r) L o).over with
   |false=>simp only[eH,eo];exact λ_=>⟨⟨g,R7 d⟩,rfl⟩
   |true=>simp only[fk];intro h;exact absurd h M3
  |
   gone=>
   refine⟨K,λh=>?_⟩;simp only[iI]at h;split at h<;>cases h
  |xC held=>exact⟨K.set _ _ (by cases held<;>decide),λ_=>⟨⟨AN bN fD,rfl,λ_=>rfl⟩,rfl⟩⟩
  |
   look held r o=>
   simp only[iI];have g:=AD (b:=B.eO r) (n:=B.fa r) K d2.1;refine⟨yv K d2.1,?_⟩;cases d:(dL (B.eO r) (B.fa r) L o).over with
   |false=>simp only[eH,eo];exact λ_=>⟨⟨g,R7 d,d2.2.2⟩,rfl⟩
   |
    true=>
    simp only[fk];split
    . exact λ_=>⟨trivial,rfl⟩
    . split
      . rename_i co;exact λ_=>⟨⟨AN bN fD,rfl,λh=>by rw[h]at co;simp at co⟩,rfl⟩
      . intro h;cases h
  |
   more held=>
   simp only[iI];split
   . exact⟨K.set _ _ bN,λh=>by cases h⟩
   . exact⟨K,λh=>by cases h⟩
end
end Go.L.dr
namespace Go.L.dB
open Go.L Go.L.Ring Go.L.dr
abbrev jn(x:Int):Prop:=0<=x/\x<=18446744073709551615
structure ic where
 pc:Nat
 out:Int
 v:Int
 t:Int
 b:Int
 fP:Bool
def ic.over(o:ic):Bool:=!decide (o.out=0)
section
variable(b n:Nat)(t:Int)(L:List Int)(eb:Bool)(o:ic)(v:Int)
def ic.value:Int:=if o.out=1 then o.v else 0
def kj:Nat:=b+2+(t%(n:Int)).toNat
def kv:List Int:=
 match o.pc with
 |2=>L.set (kj b n o.b) o.v
 |3=>L.set (b+1) (e0 (o.b+1))
 |5=>L.set (b+1) (e0 (o.b -1))
 |8=>if L.getD b 0=o.t then L.set b (e0 (o.t+1))else L
 |9=>L.set (b+1) o.b
 |13=>if L.getD b 0=o.t then L.set b (e0 (o.t+1))else L
 |_=>L
def kD:ic:=
 match o.pc with
 |0=>{o with b:=L.getD (b+1) 0,pc:=1}
 |1=>{o with t:=L.getD b 0,pc:=2,out:=if(n:Int)<=e0 (o.b -L.getD b 0)then 2 else o.out}
 |2=>{o with pc:=3}
 |3=>{o with out:=1,v:=0}
 |4=>{o with b:=L.getD (b+1) 0,pc:=5}
 |5=>{o with pc:=6}
 |6=>{o with t:=L.getD b 0,pc:=if e0 (o.b -1)<L.getD b 0 then 9 else 7}
 |7=>{o with v:=L.getD (kj b n (e0 (o.b -1))) 0,pc:=8,out:=if o.t<e0 (o.b -1)then 1 else o.out}
 |8=>{o with fP:=decide (L.getD b 0=o.t),pc:=9}
 |9=>{o with out:=if o.fP then 1 else 4}
 |10=>{o with t:=L.getD b 0,pc:=11}
 |11=>{o with b:=L.getD (b+1) 0,pc:=12,out:=if L.getD (b+1) 0<=o.t then 4 else o.out}
 |12=>{o with v:=L.getD (kj b n o.t) 0,pc:=13}
 |13=>{o with out:=if L.getD b 0=o.t then 1 else 6}
 |_=>o
def mf:List Int:=if o.over then L else kv b n L o
def jc:ic:=if o.over then o else kD b n L o
def mS(pc:Nat)(v:Int):ic:=⟨pc,0,v,0,0,false⟩
structure qx(o:ic):Prop where
 pc:o.pc<=13
 v:jn o.v
 t:jn o.t
 b:jn o.b
structure hI where
 jK:Nat
 eb:Bool
 t:Int
 v:Int
 out:Int
def hI.over(o:hI):Bool:=!decide (o.out=0)
def hI.value(o:hI):Int:=if o.out=1/\o.eb=true then o.v else 0
def Hj:Int:=if eb then 1 else 0
def ls:Nat:=b+2+2*(t%(n:Int)).toNat
def yA:Int:=e0 (e0 (t/n*2)+Hj eb)
def n5:Nat:=if eb then b+1 else b
def lu(o:hI):List Int:=
 match o.jK with
 |2=>if L.getD (n5 b o.eb) 0=o.t then L.set (n5 b o.eb) (e0 (o.t+1))else L
 |3=>if o.eb then L else L.set (ls b n o.t+1) o.v
 |4=>L.set (ls b n o.t) (e0 (yA n o.t o.eb+1))
 |_=>L
def jT(o:hI):hI:=
 match o.jK with
 |0=>{o with t:=L.getD (n5 b o.eb) 0,jK:=1}
 |1=>if L.getD (ls b n o.t) 0=yA n o.t o.eb then{o with jK:=2}else if yA n o.t o.eb<L.getD (ls b n o.t) 0 then{o with jK:=0}else if o.eb then{o with out:=4}else{o with out:=2}
 |2=>{o with jK:=if L.getD (n5 b o.eb) 0=o.t then 3 else 0}
 |3=>{o with jK:=4,v:=if o.eb then L.getD (ls b n o.t+1) 0 else o.v}
 |4=>{o with out:=1}
 |_=>o
def n9(o:hI):List Int:=if o.over then L else lu b n L o
def ix(o:hI):hI:=if o.over then o else jT b n L o
def k4:hI:=⟨0,eb,0,v,0⟩
structure oa(o:hI):Prop where
 jK:o.jK<=4
 t:jn o.t
 v:jn o.v
structure hN where
 k:Nat
 w:Nat
 out:Int
def hN.over(o:hN):Bool:=!decide (o.out=0)
def AQ(o:hN):hN:={o with k:=3,w:=o.w+1,out:=if o.w+1=n then 4 else o.out}
def wI(n:Nat)(L:List Int)(o:hN):List Int:=
 match o.k with
 |0=>L.set (b+o.w) 1
 |1=>L.set (b+o.w) 0
 |4=>if L.getD (b+o.w) 0=1 then L.set (b+o.w) 0 else L
 |_=>L
def wJ(o:hN):hN:=
 match o.k with
 |0=>{o with out:=1}
 |1=>{o with out:=1}
 |2=>{o with out:=if L.getD (b+o.w) 0=0 then 1 else 4}
 |3=>if L.getD (b+o.w) 0=1 then{o with k:=4}else AQ n o
 |4=>if L.getD (b+o.w) 0=1 then{o with out:=7}else AQ n o
 |_=>o
def qy(o:hN):List Int:=if o.over then L else wI b n L o
def j6(o:hN):hN:=if o.over then o else wJ b n L o
def kk(k w:Nat):hN:=⟨k,w,0⟩
structure fQ where
 b:Nat
 bT:Nat
 eC:Nat
 na:Nat
def fQ.dZ(B:fQ):Nat:=B.b+B.bT
end
section
variable(B:fQ)(w d n self:Nat)(L:List Int)
def fQ.cm:Nat:=B.b+B.bT+(2+2*B.na)+w*(2+B.eC)
def fQ.size:Nat:=B.bT+(2+2*B.na)+B.bT*(2+B.eC)
inductive Src
 |pop(w:Nat)
 |take
 |mg(w:Nat)
inductive tA
 |push(w:Nat)(o:ic)(v:Int)
 |enter(o:hI)(v:Int)
 |ring(o:hN)
 |ie(w:Nat)(o:ic)(l:List Src)
 |mT(o:hI)(l:List Src)
 |rz(w:Nat)(o:hN)
 |lv(w:Nat)(o:hI)
 |up(w:Nat)(v:Int)(o:hN)
 |pg(o:hN)
structure gD where
 ph:tA
 out:Int
 val:Int
def gD.over(o:gD):Bool:=!decide (o.out=0)
def nz:List Src->gD
 |[]=>⟨.ring (kk 3 0),4,0⟩
 |.pop w::l=>⟨.ie w (mS 4 0) l,0,0⟩
 |.take::l=>⟨.mT (k4 true 0) l,0,0⟩
 |.mg w::l=>⟨.ie w (mS 10 0) l,0,0⟩
def hX(c:gD):List Int×gD:=
 match c.ph with
 |
  .push w o v=>
  let S:=jc (B.cm w) B.eC L o
  (mf (B.cm w) B.eC L o,if S.over then(if S.out=2 then⟨.enter (k4 false v) v,0,0⟩else⟨.ring (kk 3 0),0,0⟩)else⟨.push w S v,0,0⟩)
 |
  .enter o v=>
  let S:=ix B.dZ B.na L o
  (n9 B.dZ B.na L o,if S.over then(if S.out=2 then⟨.enter (k4 false v) v,0,0⟩else⟨.ring (kk 3 0),0,0⟩)else⟨.enter S v,0,0⟩)
 |
  .ring o=>
  let S:=j6 B.b B.bT L o
  (qy B.b B.bT L o,⟨.ring S,if S.over then 1 else 0,0⟩)
 |
  .ie w o l=>
  let S:=jc (B.cm w) B.eC L o
  (mf (B.cm w) B.eC L o,if S.over then(if S.out=1 then⟨.ie w S l,1,S.value⟩else nz l)else⟨.ie w S l,0,0⟩)
 |
  .mT o l=>
  let S:=ix B.dZ B.na L o
  (n9 B.dZ B.na L o,if S.over then(if S.out=1 then⟨.mT S l,1,S.value⟩else nz l)else⟨.mT S l,0,0⟩)
 |.rz w o=>(qy B.b B.bT L o,⟨.lv w (k4 true 0),0,0⟩)
 |
  .lv w o=>
  let S:=ix B.dZ B.na L o
  (n9 B.dZ B.na L o,if S.over then(if S.out=1 then⟨.up w S.value (kk 1 w),0,0⟩else⟨.lv w S,4,0⟩)else⟨.lv w S,0,0⟩)
 |.up w v o=>(qy B.b B.bT L o,⟨.up w v (j6 B.b B.bT L o),1,v⟩)
 |.pg o=>(qy B.b B.bT L o,⟨.pg (j6 B.b B.bT L o),(j6 B.b B.bT L o).out,0⟩)
def nA(c:gD):List Int:=if c.over then L else(hX B L c).1
def lx(c:gD):gD:=if c.over then c else(hX B L c).2
def ob:Nat->Nat->List Nat->List Nat
 |0,_,_=>[]
 |
  k+1,d,l=>match l[d%(k+1)]?with
  |none=>[]
  |some x=>x::ob k (d/(k+1)) (l.eraseIdx (d%(k+1)))
def nB:List Nat:=(List.range n).filter (λi=>decide (i≠self))
def order:List Nat:=ob (n -1) d (nB n self)
def wK(B:fQ)(w:Option Nat)(v:Int):gD:=
 match w with
 |some w=>⟨.push w (mS 0 v) v,0,0⟩
 |none=>⟨.enter (k4 false v) v,0,0⟩
def yB:gD:=nz (.pop w::.take::(order d B.bT w).map .mg)
def yC:gD:=⟨.rz w (kk 0 w),0,0⟩
def Du:gD:=⟨.pg (kk 2 w),0,0⟩
structure k5 where
 pc:Nat
 cell:Nat
 seen:Int
 out:Int
def k5.over(o:k5):Bool:=!decide (o.out=0)
def yD(o:k5):List Int:=
 match o.pc with
 |1=>if L.getD o.cell 0=o.seen then L.set o.cell 1 else L
 |3=>if L.getD o.cell 0=1 then L.set o.cell 0 else L
 |4=>if L.getD o.cell 0=1 then L.set o.cell 2 else L
 |_=>L
def wL(o:k5):k5:=
 match o.pc with
 |0=>{o with seen:=L.getD o.cell 0,pc:=1,out:=if L.getD o.cell 0=1 then 4 else o.out}
 |1=>{o with pc:=0,out:=if L.getD o.cell 0=o.seen then 1 else o.out}
 |2=>{o with seen:=L.getD o.cell 0,pc:=3,out:=if L.getD o.cell 0=1 then o.out else 4}
 |3=>{o with pc:=2,out:=if L.getD o.cell 0=1 then 1 else o.out}
 |4=>{o with out:=if L.getD o.cell 0=1 then 1 else 4}
 |_=>o
def sj(o:k5):List Int:=if o.over then L else yD L o
def sk(o:k5):k5:=if o.over then o else wL L o
def ly(b n x y:Nat):Nat:=b+(x -1)*n+y -1
def nC(pc cell:Nat):k5:=⟨pc,cell,0,0⟩
structure wM(L:List Int)(o:k5):Prop where
 pc:o.pc<=4
 cell:o.cell<L.length
 seen:jn o.seen
end
end Go.L.dB
namespace Go.L.Whl
open Go.L
structure bE where
 id:Int
 due:Nat
 seq:Nat
deriving DecidableEq,Inhabited
structure gd where
 now:Nat
 seq:Nat
 T:List bE
abbrev te(t:bE):List Value:=[bu t.id,af t.due,af t.seq]
def hh(now due:Nat):Nat:=
 if due/512≠now/512 then 24+due/512%8 else if due/64≠now/64 then 16+due/64%8 else if due/8≠now/8 then 8+due/8%8 else due%8
section
variable{z l:Nat}{f:bE->Nat}{w:gd}{g:Nat->Nat}{id d:Int}{T:List bE}{t:bE}{E:Nat}{D:List bE}{k:Nat}{ak:List (List bE)}
def T2(now due:Nat):hh now due<32:=by unfold hh;(repeat' split)<;>omega
def pass(z l u:Nat)(f:bE->Nat):bE->Nat:=λt=>if z%u=0 then(if f t=8*l+z/u%8 then hh z t.due else f t)else f t
theorem aCx(bn:0<z)(h1:z -1<t.due)(h2:t.due<=z -1+4095):
 pass z 3 512 (λt=>hh (z -1) t.due) t=if t.due/512=z/512 then(if z%512=0 then hh z t.due else hh (z -1) t.due)else hh z t.due:=by
 unfold pass;dsimp only;unfold hh;(repeat' split)<;>omega
theorem aCy(bn:0<z)(h1:z -1<t.due)(h2:t.due<=z -1+4095):
 pass z 2 64 (pass z 3 512 (λt=>hh (z -1) t.due)) t=if t.due/64=z/64 then(if z%64=0 then hh z t.due else hh (z -1) t.due)else hh z t.due:=by
 have e:=aCx bn h1 h2;unfold pass at e⊢;rw[e];unfold hh;(repeat' split)<;>omega
theorem aCz(bn:0<z)(h1:z -1<t.due)(h2:t.due<=z -1+4095):
 pass z 1 8 (pass z 2 64 (pass z 3 512 (λt=>hh (z -1) t.due))) t=hh z t.due:=by
 have e:=aCy bn h1 h2;rw[show pass z 1 8 (pass z 2 64 (pass z 3 512 (λt=>hh (z -1) t.due))) t=(if z%8=0 then(if pass z 2 64 (pass z 3 512 (λt=>hh (z -1) t.due)) t=8*1+z/8%8 then hh z t.due else pass z 2 64 (pass z 3 512 (λt=>hh (z -1) t.due)) t)else pass z 2 64 (pass z 3 512 (λt=>hh (z -1) t.due)) t)from rfl];rw[e];unfold hh;(repeat' split)<;>omega
def alq{due:Nat}(h1:z<=due)(h2:due<=z+4094):hh z due=z%8↔due=z:=by
 unfold hh;(repeat' split)<;>omega
def iC(f:bE->Nat)(T:List bE)(ak:List (List bE)):Prop:=ak.length=32/\∀j,j<32->(ak.getD j []).Perm (T.filter λt=>f t=j)
def iC.congr{g:bE->Nat}{T:List bE}{ak:List (List bE)}(h:iC f T ak)(e:∀t∈T,f t=g t):iC g T ak:=
 ⟨h.1,λj J=>by rw[show T.filter (λt=>g t=j)=T.filter (λt=>f t=j)from tY λt R=>by rw[e t R]];exact h.2 j J⟩
def iC.lay(h:iC f T ak)(t:bE)(R:f t<32):iC f (T++[t]) (ak.set (f t) (ak.getD (f t) []++[t])):=by
 refine⟨by simp[h.1],λj J=>?_⟩;rw[CX _ _ _ _ _ (by rw[h.1];exact R),yY];by_cases e:j=f t
 . subst e
   rw[bg rfl,show[t].filter (λu=>f u=f t)=[t] by simp];exact(h.2 _ R).append_right _
 . rw[a6 e,show[t].filter (λu=>f u=j)=[] by simp[Ne.symm e],jj]
   exact h.2 j J
def alr{j:Nat}(T:List bE):T.Perm (T.filter (λt=>¬f t=j)++T.filter (λt=>f t=j)):=by
 have:=List.filter_append_perm (λt=>decide (f t=j)) T;refine(this.symm.trans List.perm_append_comm).trans ?_;rw[show T.filter (λx=>!decide (f x=j))=T.filter (λt=>¬f t=j)from tY λt _=>by simp]
def pM(f:bE->Nat)(g:Nat->Nat)(T:List bE)(E:Nat)(D:List bE)(k:Nat)(ak:List (List bE)):Prop:=
 ak.length=32/\∀j,j<32->(ak.getD j []).Perm (T.filter (λt=>¬f t=E/\f t=j)++(D.take k).filter (λt=>g t.due=j))
def pM.start(h:iC f T ak){E:Nat}(bn:E<32):pM f g T E (ak.getD E []) 0 (ak.set E []):=by
 refine⟨by simp[h.1],λj J=>?_⟩;rw[CX _ _ _ _ _ (by rw[h.1];exact bn),O3,List.filter_nil,jj];by_cases e:j=E
 . subst e;rw[bg rfl,List.filter_eq_nil_iff.2 (λt _=>by simp)]
 . rw[a6 e,show T.filter (λt=>¬f t=E/\f t=j)=T.filter (λt=>f t=j)from tY λt _=>by
    by_cases aU:f t=j
    . simp[aU,e]
    . simp[aU]]
   exact h.2 j J
theorem pM.step(h:pM f g T E D k ak){t:bE}(hk:D[k]?=some t)(aX:g t.due<32):
 pM f g T E D (k+1) (ak.set (g t.due) (ak.getD (g t.due) []++[t])):=by
 obtain⟨md,M⟩:=dd.1 hk;refine⟨by simp[h.1],λj J=>?_⟩;rw[CX _ _ _ _ _ (by rw[h.1];exact aX),ns md,M,yY,<-jI];by_cases e:j=g t.due
 . subst e
   rw[bg rfl,show[t].filter (λu=>g u.due=g t.due)=[t] by simp];exact(h.2 _ aX).append_right _
 . rw[a6 e,show[t].filter (λu=>g u.due=j)=[] by simp[Ne.symm e],jj]
   exact h.2 j J
theorem pM.done(h:pM f g T E D D.length ak)(aQ:D.Perm (T.filter λt=>f t=E)):
 iC (λt=>if f t=E then g t.due else f t) T ak:=by
 refine⟨h.1,λj J=>?_⟩;have h1:=h.2 j J;rw[l9]at h1;refine h1.trans ((List.Perm.append_left _ (aQ.filter _)).trans ?_);have h2:=(alr (f:=f) (j:=E) T).filter (λt=>decide ((if f t=E then g t.due else f t)=j));refine List.Perm.trans (FZ ?_) h2.symm;rw[yY,x4,x4,x4]
 congr 1
 . exact aec
 . exact aec
def iC.empty(h:iC f T ak){E:Nat}(bn:E<32):iC f (T.filter λt=>¬f t=E) (ak.set E []):=by
 have h1:=pM.start (g:=λ_=>0) h bn;refine⟨h1.1,λj J=>?_⟩;have h2:=h1.2 j J;rw[O3,List.filter_nil,jj]at h2;rw[x4];rw[show T.filter (λa=>decide (f a=j)&&decide (¬f a=E))=T.filter (λt=>¬f t=E/\f t=j)from tY λt _=>by by_cases e:f t=j<;>by_cases aU:f t=E<;>simp[e,aU]];exact h2
def iC.all(h:iC f T ak)(a8:∀t∈T,f t<32):ak.flatten.Perm T:=by
 have key:∀n,n<=32->(ak.take n).flatten.Perm (T.filter λt=>f t<n):=by
  intro n
  induction n with
  |zero=>intro _;simp
  |
   succ n L=>
   intro aS;have aw:n<ak.length:=by rw[h.1];omega
   rw[ns aw,List.flatten_append,List.flatten_singleton];have aB:=h.2 n ae;rw[je,cq aw]at aB;have aU:(T.filter λt=>f t<n+1).Perm ((T.filter λt=>f t<n)++T.filter λt=>f t=n):=by
    refine((alr (f:=f) (j:=n) T).filter _).trans (FZ ?_);rw[yY,x4,x4]
    congr 1
    . apply tY;intro t _;rw[pb];simp;omega
    . apply tY;intro t _;rw[pb];simp;omega
   exact((L ae).append aB).trans aU.symm
 have:=key 32 (eh _);rwa[y2 (by rw[h.1];exact eh _),Sg.2 (λt R=>by simpa using a8 t R)]at this
structure j5(w:gd):Prop where
 nd:(w.T.map (·.id)).Nodup
 due:∀t∈w.T,w.now<t.due/\t.due<=w.now+4095
 x5:w.T.Pairwise (λa b=>a.seq<b.seq)
 sb:∀t∈w.T,t.seq<=w.seq
 len:w.T.length<=64
def gd.get(w:gd)(id:Int):Option bE:=w.T.find? (λt=>decide (t.id=id))
def n3(w:gd)(id d:Int):Int:=if d<1\/4095<d then 1 else if(w.get id).isSome then 3 else if 64<=w.T.length then 4 else 0
def rp(w:gd)(id d:Int):gd:=if n3 w id d=0 then⟨w.now,w.seq+1,w.T++[⟨id,w.now+d.toNat,w.seq+1⟩]⟩else w
def r5(w:gd)(id:Int):gd:={w with T:=w.T.filter (λt=>¬t.id=id)}
def uH(w:gd):gd:=⟨w.now+1,w.seq,w.T.filter (λt=>¬t.due=w.now+1)⟩
def nw(w:gd):List bE:=w.T.filter (λt=>t.due=w.now+1)
theorem get_some(h:j5 w){id:Int}{t:bE}(R:t∈w.T)(e:t.id=id):w.get id=some t:=by
 have nd:=h.nd;unfold gd.get;clear h
 generalize w.T=T at*
 induction T with
 |nil=>simp at R
 |
  cons u T L=>
  simp only[gz,List.nodup_cons]at nd;rw[ajO];rcases kf.1 R with h1|h1
  . subst h1;simp[e]
  . have:u.id≠id:=λh2=>nd.1 (by rw[h2,<-e];exact EU h1)
    simp only[this,decide_false];exact L h1 nd.2
theorem get_none:w.get id=none↔∀t∈w.T,t.id≠id:=by
 unfold gd.get;rw[RW];simp
theorem get_mem(h:w.get id=some t):t∈w.T/\t.id=id:=by
 unfold gd.get at h;exact⟨rf h,by simpa using List.find?_some h⟩
theorem j5.cut(h:j5 w)(id:Int):j5 (r5 w id)where
 nd:=h.nd.sublist ((F1).map _)
 due:=λt R=>h.due t (oO.1 R).1
 x5:=h.x5.sublist F1
 sb:=λt R=>h.sb t (oO.1 R).1
 len:=mW (qG _ _) h.len
def j5.tick(h:j5 w):j5 (uH w)where
 nd:=h.nd.sublist ((F1).map _)
 due:=λt R=>by
  have h1:=oO.1 R;have h2:=h.due t h1.1;have aH:¬t.due=w.now+1:=by simpa using h1.2
  show w.now+1<t.due/\t.due<=w.now+1+4095;omega
 x5:=h.x5.sublist F1
 sb:=λt R=>h.sb t (oO.1 R).1
 len:=mW (qG _ _) h.len
theorem aCA(h:n3 w id d=0):1<=d/\d<=4095/\w.get id=none/\w.T.length<64:=by
 unfold n3 at h;(repeat' split at h)<;>first|omega|(rename_i h1 h2 aH;refine⟨by omega,by omega,?_,by omega⟩;simpa using h2)
theorem j5.add(h:j5 w)(id d:Int):j5 (rp w id d):=by
 unfold rp;split
 . rename_i e
   obtain⟨h1,h2,aH,bm⟩:=aCA e;have dk:=get_none.1 aH;exact {
    nd:=by
     show((w.T++[(⟨id,w.now+d.toNat,w.seq+1⟩:bE)]).map (·.id)).Nodup;rw[o6,List.nodup_append];refine⟨h.nd,by simp,λa aP b az=>?_⟩;obtain⟨t,R,rfl⟩:=jS.1 aP;have:b=id:=by simpa using az
     subst this;exact dk t R
    due:=λt R=>by
     rcases kP.1 R with R|R
     . exact h.due t R
     . have:t=_:=r2.1 R
       subst this;show w.now<w.now+d.toNat/\w.now+d.toNat<=w.now+4095;omega
    x5:=by
     show(w.T++[_]).Pairwise _;rw[List.pairwise_append];refine⟨h.x5,by simp,λa aP b az=>?_⟩;have:b=_:=r2.1 az;subst this;have:=h.sb a aP;show a.seq<w.seq+1;omega
    sb:=λt R=>by
     rcases kP.1 R with R|R
     . have:=h.sb t R;show t.seq<=w.seq+1;omega
     . have:t=_:=r2.1 R
       subst this;exact eh _
    len:=by show(w.T++[_]).length<=64;simp;omega}
 . exact h
def j5.nil:j5 sf:=⟨by simp,by simp,by simp,by simp,by simp⟩
theorem afX(h:d<1\/4095<d):n3 w id d=1:=by unfold n3;rw[bg h]
theorem alm(h:¬(d<1\/4095<d)){t:bE}(h2:w.get id=some t):n3 w id d=3:=by unfold n3;rw[a6 h,h2];rfl
theorem aln(h:¬(d<1\/4095<d))(h2:w.get id=none)(aH:64<=w.T.length):n3 w id d=4:=by unfold n3;rw[a6 h,h2,bg aH];rfl
theorem alo(h:¬(d<1\/4095<d))(h2:w.get id=none)(aH:¬64<=w.T.length):n3 w id d=0:=by unfold n3;rw[a6 h,h2,a6 aH];rfl
theorem RF(h:n3 w id d≠0):rp w id d=w:=by unfold rp;rw[a6 h]
theorem aCs(h:w.get id=none):r5 w id=w:=by
 unfold r5;rw[Sg.2 (λt R=>by simpa using get_none.1 h t R)]
def aCv(h:j5 w):w.T.filter (λt=>hh (w.now+1) t.due=(w.now+1)%8)=nw w:=by
 unfold nw;apply tY;intro t R;have:=h.due t R;rw[pb,ln,ln];exact alq ae ae
def aCw(h:j5 w):w.T.filter (λt=>¬hh (w.now+1) t.due=(w.now+1)%8)=(uH w).T:=by
 unfold uH;apply tY;intro t R;have:=h.due t R;rw[pb,ln,ln,alq ae ae]
def aCt(h:l<=3):IntKind.i64.wrap (1*2^((3*l:Nat):Int).toNat)=((2^(3*l):Nat):Int):=by
 rcases(show l=0\/l=1\/l=2\/l=3 by omega)with rfl|rfl|rfl|rfl<;>decide
def q9(z:Nat):Nat->bE->Nat
 |0=>pass z 1 8 (pass z 2 64 (pass z 3 512 (λt=>hh (z -1) t.due)))
 |1=>pass z 2 64 (pass z 3 512 (λt=>hh (z -1) t.due))
 |2=>pass z 3 512 (λt=>hh (z -1) t.due)
 |_=>λt=>hh (z -1) t.due
def alp(h1:1<=l)(h2:l<=3):q9 z (l -1)=pass z l (2^(3*l)) (q9 z l):=by
 rcases(show l=1\/l=2\/l=3 by omega)with rfl|rfl|rfl<;>rfl
def aCu(bn:0<z)(aQ:z -1<t.due)(f:t.due<=z -1+4095):q9 z 0 t=hh z t.due:=aCz bn aQ f
def iC.short(h:iC f T ak){l:List bE}(aw:l∈ak):l.length<=T.length:=by
 obtain⟨j,J,e⟩:=F2 aw;have h1:=h.2 j O7;rw[je,cq J,e]at h1;have h1:l.Perm _:=h1;rw[h1.length_eq];exact qG _ _
def pM.short(h:pM f g T E D k ak){l:List bE}(aw:l∈ak):l.length<=T.length+D.length:=by
 obtain⟨j,J,e⟩:=F2 aw;have h1:=h.2 j O7;rw[je,cq J,e]at h1;have h1:l.Perm _:=h1;rw[h1.length_eq,ep];have h2:=qG (λt=>decide (g t.due=j)) (D.take k);have aH:=qG (λt=>decide (¬f t=E/\f t=j)) T;have bm:(D.take k).length<=D.length:=OY;omega
def iC.jK(h:iC f T ak){j:Nat}{l:List bE}(aw:ak[j]?=some l):j<32/\l.Perm (T.filter λt=>f t=j):=by
 have J:j<ak.length:=(dd.1 aw).1;have h1:=h.2 j O7;rw[je,aw]at h1;exact⟨by rw[<-h.1];exact J,h1⟩
theorem aCB(nd:(T.map (·.id)).Nodup){u t:bE}(d7:u∈T)(R:t∈T)(bB:u.id=t.id):u=t:=by
 obtain⟨a,aP,c9⟩:=F2 d7;obtain⟨b,az,fX⟩:=F2 R;have f:a=b:=by
  have g0:(T.map (·.id))[a]?=(T.map (·.id))[b]?:=by simp[fe,cq aP,cq az,c9,fX,bB]
  exact(List.getElem?_inj (by simpa using aP) nd).1 g0
 subst f;rw[<-c9,<-fX]
theorem iC.cut(h:iC f T ak)(nd:(T.map (·.id)).Nodup){j i:Nat}{l:List bE}{t:bE}(aw:ak[j]?=some l)(R:l[i]?=some t):iC f (T.filter λu=>¬u.id=t.id) (ak.set j (l.eraseIdx i)):=by
 obtain⟨J,hp⟩:=h.jK aw;have b:t∈T.filter λt=>f t=j:=hp.subset (h0 R);have C:=(oO.1 b).1;have m:f t=j:=by simpa using(oO.1 b).2
 have a:(l.map (·.id)).Nodup:=(hp.map _).nodup_iff.2 (nd.sublist ((F1).map _));refine⟨by simp[h.1],λk hk=>?_⟩;rw[CX _ _ _ _ _ (by rw[h.1];exact J)];by_cases e:k=j
 . subst e
   rw[bg rfl,x4];have aB:l.eraseIdx i=l.filter λu=>¬u.id=t.id:=by
    clear hp aw b
    induction l generalizing i with
    |nil=>simp at R
    |
     cons u l L=>
     simp only[gz,List.nodup_cons]at a;cases i with
     |
      zero=>
      simp only[Yl,Option.some.injEq]at R;subst R;rw[List.eraseIdx_cons_zero,OG,a6 fW];exact(Sg.2 λv V=>by simp;intro e;exact a.1 (by rw[<-e];exact EU V)).symm
     |
      succ i=>
      simp only[H3]at R;have g7:u.id≠t.id:=λe=>a.1 (by rw[e];exact EU (h0 R));rw[List.eraseIdx_cons_succ,OG,bg (by simpa using g7),L R a.2]
   rw[aB];refine(hp.filter _).trans (FZ ?_);rw[x4];apply tY;intro u _;simp[Bool.and_comm]
 . rw[a6 e]
   have h1:=h.2 k hk;refine h1.trans (FZ ?_);rw[x4];apply tY;intro u d7;by_cases aU:f u=k
   . have:u.id≠t.id:=λbB=>by
      have:u=t:=aCB nd d7 C bB;subst this;exact e (aU.symm.trans m)
     simp[aU,this]
   . simp[aU]
def aCl{l m:List bE}(hp:l.Perm m)(h1:l.Pairwise (λa b=>a.seq<=b.seq))(h2:m.Pairwise (λa b=>a.seq<b.seq)):l=m:=by
 refine hp.eq_of_pairwise (le:=λa b=>a.seq<=b.seq) (λa b aP az aH bm=>?_) h1 (h2.imp λh=>xz h);have m0:b∈m:=az;have c:a∈m:=hp.subset aP;obtain⟨i,al,aB⟩:=F2 c;obtain⟨j,J,aU⟩:=F2 m0;rcases Nat.lt_trichotomy i j with h|h|h
 . have:=aij.1 h2 i j al J h
   rw[aB,aU]at this;omega
 . subst h;rw[<-aB,<-aU]
 . have:=aij.1 h2 j i J al h
   rw[aB,aU]at this;omega
end
end Go.L.Whl
namespace Go.L
section
variable{P:Program}{F w:World}{n:Nat}{ak:eA}{I:List aq}{bC:TypeId}
section
variable{t e aT:Nat}{x y E:Operand}{a:Option Addr}{l c i k:Nat}{cI cd:IntKind}
theorem XN{q:Operand}{a:Option Addr}{l c i k m:Nat}{cI cd ia:IntKind}[j:jy P t e aT](ag:cb ak x=some (.slice a l c))(ah:cb ak y=some (.int cI (i:Int)))(T:cb ak E=some (.int cd (k:Int)))(bo:cb ak q=some (.int ia (m:Int)))(h1:i<=k)(h2:k<=m)(aH:m<=c):
 bU P F n (.slice t x (some y) (some E) (some q)) bC ak I (.slice (if m=i then a else a.map (λx:Addr=>x.add (i*aT))) (k -i) (m -i)):=λaE w d pos N g aj _=>by
 obtain⟨z,W,cE,d8⟩:=j.out;simp only[execOp,nH,Gm,aj.eval ag,aj.eval ah,aj.eval T,aj.eval bo];simp[Instr.sliceAt,Instr.slice,gC W,ji cE,d8,Instr.sliceBounds,Instr.sliceBound,asIntOf,h1,h2,aH]
theorem XO[j:jy P t e aT](ag:cb ak x=some (.slice a l c))(ah:cb ak y=some (.int cI (i:Int)))(T:cb ak E=some (.int cd (k:Int)))(h1:i<=k)(h2:k<=c):
 bU P F n (.slice t x (some y) (some E) none) bC ak I (.slice XP (k -i) (c -i)):=λaE w d pos N g aj _=>by
 obtain⟨z,W,cE,d8⟩:=j.out;simp only[execOp,nH,Gm,aj.eval ag,aj.eval ah,aj.eval T];simp[Instr.sliceAt,Instr.slice,gC W,ji cE,d8,Instr.sliceBounds,Instr.sliceBound,asIntOf,h1,h2]
def XQ(b k:Nat):Addr.add qA k=⟨b,k,none⟩:=by unfold Addr.add;split<;>simp_all
theorem XR{b i j k C:Nat}{t e:TypeId}{aT bytes:Nat}{U xs:List Value}{u:List Value->List aq}[it:jz P t e aT bytes U][r:sw (.slice j3 k C) I e aT k xs u](ag:cb ak x=some (.slice j3 i C))
 (ah:cb ak y=some (.slice (if C=j then some qA else(some (qA:Addr)).map (λx:Addr=>x.add (j*aT))) (k -j) (C -j)))(g1:i<=j)(J:j<=k)(hk:k<=C)(h1:∀x∈xs,x.oneCell'=true):
 cY P F n NS bC ak I (λv' H=>v'=.slice j3 (i+(k -j)) C/\H=u (xs.take (i*aT)++xs.drop (j*aT)++xs.drop ((i+(k -j))*aT))):=λa w d pos N g aj s=>by
 obtain⟨z,E,W,cE,rfl,f9,Z,G,T⟩:=it.out;obtain⟨aw,co|⟨l,p,dq,V,cd,ia,eB,f⟩⟩:=r.get s.eI
 . cases co.1
 . simp only[Value.slice.injEq,Option.some.injEq,Addr.mk.injEq]at V
   obtain⟨⟨rfl,_,_⟩,_,rfl⟩:=V;have m4:w.heap[b]?=some NT:=f;obtain⟨A,B,c⟩:∃A:Addr,(if C=j then some (qA:Addr)else(some (qA:Addr)).map (λx:Addr=>x.add (j*z.size)))=some A/\∀q x,(xs.drop (j*z.size))[q]?=some x->w.cell? (A.add q)=some x:=by
    by_cases h:C=j
    . refine⟨qA,by rw[bg h],λq x bo=>?_⟩
      rw[List.drop_of_length_le (by rw[aw,show j=k by omega];exact eh _)]at bo;simp at bo
    . refine⟨⟨b,j*z.size,none⟩,by rw[a6 h,nH,XQ],λq x bo=>?_⟩
      rw[uo];rw[Ma]at bo;have d5:=(dd.1 bo).1;simp[World.cell?,m4,kS d5,bo]
   rw[B]at ah;have M:(xs.drop (j*z.size)).length=(k -j)*z.size:=by rw[wb,aw,Nat.sub_mul]
   have NX:i*z.size+(k -j)*z.size=(i+(k -j))*z.size:=by rw[mX]
   have K:(i+(k -j))*z.size<=k*z.size:=p5 _ ae;have aD:=run_append_room (P:=P) w t bC e z W cE b i C (xs++dq).toArray m4 A (k -j) (C -j) (xs.drop (j*z.size)) M c (λx ag=>h1 x (List.mem_of_mem_drop ag)) ae (by rw[M,yg,ep,aw];omega);have m:i*z.size<=xs.length:=by rw[aw];omega
   have aB:((xs++dq).toArray.toList.take (i*z.size)++xs.drop (j*z.size)++(xs++dq).toArray.toList.drop (i*z.size+(xs.drop (j*z.size)).length))=HK++dq:=by
    rw[M,NX,HL m,apG (by rw[aw];exact K)];simp
   rw[aB]at aD;have hlen:(xs.take (i*z.size)++xs.drop (j*z.size)++xs.drop ((i+(k -j))*z.size)).length=xs.length:=by
    simp only[ep,pS,wb];rw[M.symm.trans (wb ..)]at NX;omega
   refine⟨_,_,w.setRow b (HK++dq).toArray,?_,dD,s.os,s.tape,s.output,by have:=s.size;simpa[World.setRow]using this,?_⟩
   . simp only[execOp,resolve,oP,gz,mO,aj.eval ag,aj.eval ah]
     simp[invoke,builtin]at aD⊢;simp[aD]
   . have aU:fE (w.setRow b (HK++dq).toArray)=iR (fE w) b (.cells (HK++dq).toArray e (0,0)):=by
      unfold World.setRow;rw[ty _ f]
     rw[aU];exact r.set _ s.eI rfl f hlen
end
def A4{Q:Exit->Act->World->Prop}{E:Array Oper}{op:Op}{pos:String}{N:Array Edge}{rest:List Oper}{p:Value->List aq->Prop}(V:cY P F n op bC ak I p)(h:∀v H,p v H->cz P F n E rest ak H Q):cz P F n E M6 ak I Q:=
 λa w aj s=>wpList_plain rfl λK cL=>by
  obtain⟨v,H,X,aD,hp,aY⟩:=V a w none pos N none aj s;simp only[Oper.wp,aD,Oper.upon];exact cL _ _ (h v H hp _ _ aj aY)
def apH(U:List Value)(m:Nat):(Builtin.zeroCells U.toArray m).toList=iS U m:=by
 rcases HM U.length with h|h
 . have:U=[]:=rn h
   subst this;have aD:∀m,iS ([]:List Value) m=[]:=λm=>by induction m with|zero=>rfl|succ m L=>simp[iS,L]
   simp[Builtin.zeroCells,aD]
 . apply u0
   intro j;simp only[Builtin.zeroCells];rcases sh j (m*U.length)with x|x
   . have bb:j%U.length<U.length:=yP _ h
     rw[NU U h m j x];simp[x,bb]
   . exact XS
theorem NV{x:Operand}{b n' k m C c:Nat}{t e:TypeId}{aT bytes:Nat}{U xs:List Value}{u:List Value->List aq}[it:jz P t e aT bytes U][r:sw (.slice j3 n' C) I e aT n' xs u](aS:k+m=n')(ag:cb ak x=some (.slice (if C=k then some qA else(some (qA:Addr)).map (λx:Addr=>x.add (k*aT))) m c))(bb:0<m)(h1:∀x∈U,x.oneCell'=true):
 cY P F n (.call {callee:=.builtin .clear,args:=#[x],argTypes:=#[t]}) bC ak I (λv' H=>v'=.tuple #[]/\H=u (xs.take (k*aT)++iS U m)):=λa w d pos N g aj s=>by
 subst aS;obtain⟨z,E,W,cE,rfl,f9,Z,G,T⟩:=it.out;obtain⟨aw,co|⟨l,p,dq,V,cd,ia,eB,f⟩⟩:=r.get s.eI
 . cases co.1
 . simp only[Value.slice.injEq,Option.some.injEq,Addr.mk.injEq]at V
   obtain⟨⟨rfl,_,_⟩,_,rfl⟩:=V;have m4:w.heap[b]?=some NT:=f;rw[a6 ae,nH,XQ]at ag;have y:(iS U m).length=m*z.size:=by rw[A5,T]
   have hw:(k+m)*z.size=k*z.size+m*z.size:=mX ..;have gc:=run_storeCells_at P b (k*z.size) e (iS U m) 0 (xs++dq).toArray w m4 (by rw[y,yg,ep,aw];omega) (λx ag=>by
    have:∀m,∀x∈iS U m,x.oneCell'=true:=λm=>by
     induction m with
     |zero=>intro x ag;simp[iS]at ag
     |succ m L=>intro x ag;simp only[iS,kP]at ag;rcases ag with ag|ag;exact h1 x ag;exact L x ag
    exact this m x ag)
   have fG:((xs++dq).toArray.toList.take (k*z.size+0)++iS U m++(xs++dq).toArray.toList.drop (k*z.size+0+(iS U m).length))=(xs.take (k*z.size)++iS U m)++dq:=by
    rw[y,DO,<-hw,<-aw];simp[HL (show k*z.size<=xs.length by rw[aw];omega)]
   rw[fG]at gc;obtain⟨q,rfl⟩:∃q,m=q+1:=⟨m -1,by omega⟩;refine⟨_,_,w.setRow b (NW++dq).toArray,?_,dD,s.os,s.tape,s.output,by have:=s.size;simpa[World.setRow]using this,?_⟩
   . have i:=apH U (q+1)
     simp only[execOp,resolve,oP,gz,mO,aj.eval ag];simp only[invoke];simp[builtin,Builtin.clear_,gC W,wc cE Z,G,i]at gc⊢;simp[gc]
   . have aU:fE (w.setRow b (NW++dq).toArray)=iR (fE w) b (.cells (NW++dq).toArray e (0,0)):=by
      unfold World.setRow;rw[ty _ f]
     rw[aU];exact r.set _ s.eI rfl f (by rw[ep,y,pS,aw];omega)
end
def HN{b n k C:Nat}{e:TypeId}{aT:Nat}{xs:List Value}{D:List aq}(h:k<=n):∀F,Sat (own (.slice (some ⟨b,0,none⟩) n C) e aT n xs::D) F->Sat (own (.slice j3 k C) e aT k (xs.take (k*aT))::D) F:=λ_=>Sat.head λg co=>by
 obtain⟨aw,co|⟨l,p,dq,V,cd,ia,eB,f⟩⟩:=co
 . cases co.1
 . simp only[Value.slice.injEq,Option.some.injEq,Addr.mk.injEq]at V
   obtain⟨⟨rfl,_,_⟩,_,rfl⟩:=V;have K:k*aT<=n*aT:=p5 _ h;refine⟨by rw[pS,aw];omega,.inr ⟨b,C,xs.drop (k*aT)++dq,rfl,?_,by omega,eB,?_⟩⟩
   . rw[<-jI,CR];exact cd
   . rw[<-jI,CR];exact f
end Go.L
namespace Go.L
open Go.Sort Go.Shelf Go.Proofs
section
variable{F w:World}{I:List aq}
def ava(w:World)(os:Array Obj):fE (grow w os)=join (fE w) (λb=>if b<w.heap.size then none else os[b -w.heap.size]?):=by
 funext b;simp only[fE,grow,join,anX];by_cases h:b<w.heap.size
 . simp[h]
 . simp[h,Hi (Nat.le_of_not_lt h)]
def db.grow(s:db F I w)(os:Array Obj):db F I (Go.Sort.grow w os):=by
 refine⟨s.os,s.tape,s.output,by have:=s.size;simp;omega,?_⟩;rw[ava];refine Sat.more (λb=>?_) s.eI;by_cases h:b<w.heap.size
 . right;simp[h]
 . left;simp[fE,Hi (Nat.le_of_not_lt h)]
def db.ahead(s:db F I w)(n:Nat):db F I (Go.Sort.ahead w n):=⟨s.os,s.tape,s.output,s.size,s.eI⟩
def aii{α:Type}[Inhabited α](enc:α->List Value)(k:Nat)(hk:∀x,(enc x).length=k)(d:Array α):flatK enc k d=(d.toList.flatMap enc).toArray:=by
 have aw:(d.toList.flatMap enc).length=d.size*k:=by rw[kz enc k hk];simp
 refine ext_get! (by simp[aw]) λt R=>?_;have a:t<d.size*k:=by simpa using R
 have fi:0<k:=by
  rcases HM k with h|h;· subst h;simp at a
  . exact h
 rw[get_flatK _ _ _ t a];have bo:t/k<d.size:=Nat.div_lt_of_lt_mul (by rw[Si];exact a);have bb:t%k<k:=yP _ fi;have h1:d.toList[t/k]?=some d[t/k]!:=by rw[Array.getElem?_toList,getElem!_pos d _ bo,atx bo]
 have h2:(enc d[t/k]!)[t%k]?=some (enc d[t/k]!)[t%k]!:=by
  have:t%k<(enc d[t/k]!).length:=by rw[hk];exact bb
  rw[getElem!_pos (enc d[t/k]!) (t%k) this,cq this]
 have aH:=lL enc k hk h1 h2;rw[show t/k*k+t%k=t by rw[Si];exact Nat.div_add_mod t k]at aH;have bm:t<(d.toList.flatMap enc).length:=by rw[aw];exact a
 rw[cq bm]at aH;rw[getElem!_pos _ t (by simpa using bm)];simpa using(oe aH).symm
theorem db.putRow{F w:World}{b:Nat}{e:TypeId}{xs dq U:List Value}{D:List aq}(s:db F (ev b (.cells (xs++dq).toArray e (0,0))::D) w)(aw:U.length=xs.length):
 db F (ev b (.cells (U++dq).toArray e (0,0))::D) (Go.Sort.putRow id w b 0 U.toArray):=by
 have az:=s.heap (b:=b);refine⟨s.os,s.tape,s.output,by have:=s.size;simpa[Go.Sort.putRow,mapBlock]using this,?_⟩;have aB:putCells id 0 U.toArray (xs++dq).toArray=(U++dq).toArray:=by
  apply Array.ext_getElem?
  intro j;simp only[putCells,Array.getElem?_mapIdx,M5,yg,fc,true_and,kR,Dp];by_cases h:j<U.length
  . rw[kS ae,kS h,cq ae,cq h]
    simp only[nH,bg h,id];rw[getElem!_pos _ j (by simpa using h)];simp
  . rw[pQ ae,pQ ae,aw]
    cases dq[j -xs.length]?with
    |none=>rfl
    |some v=>simp only[nH,a6 (show¬j<U.length from h)];rw[a6 ae]
 have aU:fE (Go.Sort.putRow id w b 0 U.toArray)=iR (fE w) b (.cells (U++dq).toArray e (0,0)):=by
  unfold Go.Sort.putRow mapBlock;rw[ty _ (o:=.cells (xs++dq).toArray e (0,0)) az];simp only[onCells,aB]
 rw[aU];exact k0.set (b:=b) (o:=.cells (xs++dq).toArray e (0,0)) (.cells (U++dq).toArray e (0,0)) s.eI
theorem avb{P:Program}{o:Ren}(L:SlLaysF0.n6 P o){α:Type}[Inhabited α](k:Nat)(i8:0<k)(E:∀w,(isAgg (o.t 24)).run P w=.ok true w)(G:∀w,(Go.sizeOf (o.t 24)).run P w=.ok k w)(enc:α->List Value)(hk:∀x,(enc x).length=k)(h1:∀x,∀v∈enc x,v.oneCell'=true)
 (R:α->α->Int)(c:SWO (ltOf R))(g:Nat)(z:∀args w,(callFunc g args).run P w=.ok (.enter g args) w)
 (g6:∀(x y:α) (W:World),Calls P g #[.agg (enc x).toArray,.agg (enc y).toArray] W λe X=>e=.returned (.int .i64 (R x y))/\∃q A,X=Go.Sort.grow (W.drewN q) A){v:Value}{e:TypeId}(l:List α)(hlen:l.length<4611686018427387904):
 ad P (o.f 6) [v,.func (.func g) #[] #[]] [own v e k l.length (l.flatMap enc)] (λu H=>u=.tuple #[]/\∃g9:List α,g9.Perm l/\g9.Pairwise (λa b=>ltOf R b a=false)/\H=[own v e k l.length (g9.flatMap enc)]):=by
 intro F D w s;rw[Uw]at s;obtain⟨N,Do,aQ,Y,⟨ag,V⟩,K⟩:=s.eI;rcases V with⟨rfl,aS⟩|⟨b,C,dq,rfl,M,f,Q,az⟩
 . have d:l=[]:=rn aS
   subst d;refine(Go.Proofs.AnyF.slices_SortFunc_none L none 0 _ w).mono λex X ⟨aH,bm⟩=>?_;subst bm;exact⟨_,_,aH,⟨rfl,[],.refl _,.nil,rfl⟩,s⟩
 . have m4:w.heap[b]?=some (.cells (l.flatMap enc++dq).toArray e (0,0)):=by
    have:fE w b=_:=Y▸join_some (h2:=Do) az;exact this
   have T:=aii enc k hk l.toArray;have S:HoldsK enc k w b 0 l.toArray:=by
    intro j J;have I:j<l.length*k:=by simpa[T,kz enc k hk]using J
    have pm:j<(l.flatMap enc).length:=by rw[kz enc k hk];exact I
    rw[kR,T];constructor
    . simp only[World.cell?,m4,M5]
      rw[kS pm,getElem!_pos _ j (by simpa using pm),cq pm];simp
    . simp[World.frozen?,m4]
   refine(Go.Proofs.AnyQ.slices_SortFunc L k E G enc hk h1 R c g #[] b 0 C l.toArray w z (λm os aDj _ x y=>g6 x y _) S (Wp m4) (by simpa using hlen)).mono ?_;rintro ex X ⟨aH,p,n,os,⟨t,_,aCX⟩,aj,O⟩;have B:p.toList.Perm l:=by
    have:(p.extract 0 l.toArray.size).toList.Perm (l.toArray.extract 0 l.toArray.size).toList:=aCX;rw[<-t]at this;rw[Array.extract_size,t,Array.extract_size]at this;simpa using this
   have r:p.toList.length=l.length:=B.length_eq;have aCY:p.toList.Pairwise (λa b=>ltOf R b a=false):=by
    rw[aij];intro i j al J g1;have:=aj i j (fc _) g1 (by simpa[r]using J);have fK:i<p.size:=CW;have I:j<p.size:=DP;rw[getElem!_pos p i fK,getElem!_pos p j I]at this;simpa using this
   have dY:db F (ev b (.cells (l.flatMap enc++dq).toArray e (0,0))::D) w:=⟨s.os,s.tape,s.output,s.size,N,Do,aQ,Y,az,K⟩;have s1:=(dY.ahead n).putRow (U:=p.toList.flatMap enc) (by rw[kz enc k hk,kz enc k hk,r]);have Z:=s1.grow os;have qr:X=Go.Sort.grow (Go.Sort.putRow id (Go.Sort.ahead w n) b 0 (p.toList.flatMap enc).toArray) os:=by
    rw[O];unfold sortWorldK putRowK;rw[aii enc k hk]
   rw[qr];refine⟨_,_,aH,⟨rfl,p.toList,B,aCY,rfl⟩,Z.imp λ_=>Sat.head λh co=>⟨by rw[kz enc k hk,r],.inr ⟨b,C,dq,rfl,?_,f,Q,co⟩⟩⟩;rw[ep,kz enc k hk,r];rw[ep,kz enc k hk]at M;exact M
end
end Go.L
namespace Go.Proofs
open Go.Shelf
def Tryz.aCD:Go.Shelf.Ren:=⟨fun|6=>314|15=>371|14=>370|28=>417|29=>418|20=>409|21=>410|22=>411|23=>412|24=>413|25=>414|26=>415|27=>416|46=>437|47=>438|48=>439|49=>440|50=>441|57=>451|n=>n,fun|22=>282|24=>336|25=>370|3=>3|39=>401|0=>0|53=>423|55=>36|4=>4|46=>417|45=>416|50=>386|5=>5|9=>9|66=>425|70=>428|76=>430|77=>413|n=>n,fun|n=>n⟩
def Tryz.aCE:Go.Proofs.SlLaysF0.n6 Tryz.prog Tryz.aCD:={
 mixed:=by kernel_rfl
 f6:=⟨Tryz.f314.name,by decide,Tryz.func314.trans (congrArg some (by kernel_rfl))⟩
 f14:=⟨Tryz.f370.name,by decide,Tryz.func370.trans (congrArg some (by kernel_rfl))⟩
 f15:=Tryz.func371.trans (congrArg some (by kernel_rfl))
 f20:=⟨Tryz.f409.name,by decide,Tryz.func409.trans (congrArg some (by kernel_rfl))⟩
 f21:=⟨Tryz.f410.name,by decide,Tryz.func410.trans (congrArg some (by kernel_rfl))⟩
 f22:=⟨Tryz.f411.name,by decide,Tryz.func411.trans (congrArg some (by kernel_rfl))⟩
 f23:=⟨Tryz.f412.name,by decide,Tryz.func412.trans (congrArg some (by kernel_rfl))⟩
 f24:=⟨Tryz.f413.name,by decide,Tryz.func413.trans (congrArg some (by kernel_rfl))⟩
 f25:=⟨Tryz.f414.name,by decide,Tryz.func414.trans (congrArg some (by kernel_rfl))⟩
 f26:=⟨Tryz.f415.name,by decide,Tryz.func415.trans (congrArg some (by kernel_rfl))⟩
 f27:=⟨Tryz.f416.name,by decide,Tryz.func416.trans (congrArg some (by kernel_rfl))⟩
 f28:=Tryz.func417.trans (congrArg some (by kernel_rfl))
 f29:=Tryz.func418.trans (congrArg some (by kernel_rfl))
 f46:=⟨Tryz.f437.name,by decide,Tryz.func437.trans (congrArg some (by kernel_rfl))⟩
 f47:=Tryz.func438.trans (congrArg some (by kernel_rfl))
 f48:=Tryz.func439.trans (congrArg some (by kernel_rfl))
 f49:=⟨Tryz.f440.name,by decide,Tryz.func440.trans (congrArg some (by kernel_rfl))⟩
 f50:=⟨Tryz.f441.name,by decide,Tryz.func441.trans (congrArg some (by kernel_rfl))⟩
 f57:=⟨Tryz.f451.name,by decide,Tryz.func451.trans (congrArg some (by kernel_rfl))⟩
 t0:=Tryz.underlying0
 a0:=Tryz.isAgg0
 z0:=Tryz.sizeOf0
 v0:=Tryz.zeroValue0
 t3:=Tryz.underlying3
 a3:=Tryz.isAgg3
 z3:=Tryz.sizeOf3
 v3:=Tryz.zeroValue3
 t4:=Tryz.underlying4
 a4:=Tryz.isAgg4
 z4:=Tryz.sizeOf4
 v4:=Tryz.zeroValue4
 t5:=Tryz.underlying5
 a5:=Tryz.isAgg5
 z5:=Tryz.sizeOf5
 v5:=Tryz.zeroValue5
 t9:=Tryz.underlying9
 a9:=Tryz.isAgg9
 z9:=Tryz.sizeOf9
 v9:=Tryz.zeroValue9
 t22:=Tryz.underlying282
 a22:=Tryz.isAgg282
 z22:=Tryz.sizeOf282
 v22:=Tryz.zeroValue282
 t25:=Tryz.underlying370
 a25:=Tryz.isAgg370
 z25:=Tryz.sizeOf370
 v25:=Tryz.zeroValue370
 t39:=Tryz.underlying401
 a39:=Tryz.isAgg401
 z39:=Tryz.sizeOf401
 v39:=Tryz.zeroValue401
 t45:=Tryz.underlying416
 a45:=Tryz.isAgg416
 z45:=Tryz.sizeOf416
 v45:=Tryz.zeroValue416
 t46:=Tryz.underlying417
 a46:=Tryz.isAgg417
 z46:=Tryz.sizeOf417
 v46:=Tryz.zeroValue417
 t50:=Tryz.underlying386
 a50:=Tryz.isAgg386
 z50:=Tryz.sizeOf386
 v50:=Tryz.zeroValue386
 t53:=Tryz.underlying423
 a53:=Tryz.isAgg423
 z53:=Tryz.sizeOf423
 v53:=Tryz.zeroValue423
 t55:=Tryz.underlying36
 a55:=Tryz.isAgg36
 z55:=Tryz.sizeOf36
 v55:=Tryz.zeroValue36
 t66:=Tryz.underlying425
 a66:=Tryz.isAgg425
 z66:=Tryz.sizeOf425
 v66:=Tryz.zeroValue425
 t70:=Tryz.underlying428
 a70:=Tryz.isAgg428
 z70:=Tryz.sizeOf428
 v70:=Tryz.zeroValue428
 t76:=Tryz.underlying430
 a76:=Tryz.isAgg430
 z76:=Tryz.sizeOf430
 v76:=Tryz.zeroValue430
 t77:=Tryz.underlying413
 a77:=Tryz.isAgg413
 z77:=Tryz.sizeOf413
 v77:=Tryz.zeroValue413}
end Go.Proofs
