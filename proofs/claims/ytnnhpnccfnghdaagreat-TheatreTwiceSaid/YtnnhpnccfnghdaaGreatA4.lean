import Derived.Test.YtnnhpnccfnghdaaGreatA3
import Derived.Test.YtnnhpnccfnghdaaGreatChecked
import Derived.Lib.SmallJoins
set_option linter.all false
set_option maxRecDepth 100000
namespace Go.Proofs.YtnnhpnccfnghdaaGreat.L
open Go.L
noncomputable abbrev E:=Tryz.prog
section
variable{P:Program}{t s f e:Nat}
def X1(p:Array Field->Bool):TypeDesc->Bool
 |.struct gu=>p gu
 |_=>false
def apk{p:Array Field->Bool}{d:TypeDesc}(h:X1 p d=true):∃gu,d=.struct gu/\p gu=true:=by
 cases d<;>first|exact⟨_,rfl,h⟩|cases h
theorem fq{V:List Value}(h:(P.info? t).map (λi=>(i.zero.map (·.cells)))=some (some V.toArray):=by kernel_rfl):e9 P t V:=by
 cases ak:P.info? t with
 |none=>rw[ak]at h;cases h
 |
  some i=>
  rw[ak]at h;simp only[nD,Option.some.injEq]at h;cases T:i.zero with
  |none=>rw[T]at h;cases h
  |some F=>rw[T]at h;simp only[nD,Option.some.injEq]at h;exact⟨i,F,ak,T,h⟩
theorem oa{n:Nat}(h:(pO (P.underlying t) uT&&pO (P.info? t) (λi=>Nat.beq i.size n))=true:=by kernel_rfl):j8 P t n:=by
 obtain⟨h1,h2⟩:=DM.1 h;obtain⟨d,h1,aN⟩:=qj h1;obtain⟨i,h2,bA⟩:=qj h2;exact⟨⟨d,h1,aN⟩,i,h2,lr bA⟩
theorem fA(h:(pO (P.underlying t) (λd=>!uT d)&&pO (P.info? t) (λi=>Nat.beq i.size 1))=true:=by kernel_rfl):e3 P t:=by
 obtain⟨h1,h2⟩:=DM.1 h;obtain⟨d,h1,aN⟩:=qj h1;obtain⟨i,h2,bA⟩:=qj h2;exact⟨⟨d,h1,by simpa using aN⟩,i,h2,lr bA⟩
theorem X2{k:IntKind}(h:P.underlying t=some (.int k):=by kernel_rfl):uU P t k:=⟨h⟩
theorem apl(h:P.underlying t=some .bool:=by kernel_rfl):HM P t:=⟨h⟩
theorem apm(h:P.underlying t=some .string:=by kernel_rfl):A4 P t:=⟨h⟩
theorem HN(h:pO (P.underlying t) (fun|.pointer _=>true|_=>false)=true:=by kernel_rfl):uV P t:=by
 obtain⟨d,h1,h2⟩:=qj h;cases d<;>first|exact⟨_,h1⟩|cases h2
theorem mn{F:Nat}(h:P.underlying t=some (.slice e):=by kernel_rfl)(g:pO (P.info? e) (λi=>Nat.beq i.size F)=true:=by kernel_rfl):jU P t e F:=by
 obtain⟨i,h1,h2⟩:=qj g;exact⟨i,h,h1,lr h2⟩
theorem nc{F b:Nat}{V:List Value}(h:P.underlying t=some (.slice e):=by kernel_rfl)(g:pO (P.info? e) (λi=>Nat.beq i.size F&&Nat.beq i.bytes b)=true:=by kernel_rfl)(i:e9 P e V:=by infer_instance)(l:V.length=F:=by rfl):jM P t e F b V:=by
 obtain⟨j,h1,h2⟩:=qj g;obtain⟨h2,aN⟩:=DM.1 h2;obtain⟨a,y,W,cU,em⟩:=i.out;obtain rfl:j=a:=n9 (h1.symm.trans W);exact⟨j,y,h,h1,lr h2,lr aN,cU,em,l⟩
theorem HO{n F:Nat}(h:pO (P.underlying t) (fun|.array m e=>Nat.beq m n&&pO (P.info? e) (λi=>Nat.beq i.size F)|_=>false)=true:=by kernel_rfl):A5 P t n F:=by
 obtain⟨d,h1,h2⟩:=qj h;cases d<;>first|cases h2;done|skip
 obtain⟨h2,aN⟩:=DM.1 h2;obtain⟨i,aN,bA⟩:=qj aN;exact⟨_,i,by rw[h1,lr h2],aN,lr bA⟩
theorem A6{d9:IntKind}{F:Value}{k:Nat}(h:P.underlying t=some (.map k e))(hk:P.underlying k=some (.int d9))(g:(P.info? e).map (·.zero)=some (some F):=by kernel_rfl):se P t d9 F:=by
 cases ak:P.info? e with
 |none=>rw[ak]at g;cases g
 |some i=>rw[ak]at g;exact⟨k,e,i,h,hk,ak,n9 g⟩
theorem bT{o:Nat}(h:pO (P.underlying s) (X1 λgu=>pO gu[f]? λd=>Nat.beq d.offset o&&pO (P.info? d.type) λi=>!Nat.beq i.size 0)=true:=by kernel_rfl):bS P s f o:=by
 obtain⟨d,h1,h2⟩:=qj h;obtain⟨gu,rfl,h2⟩:=apk h2;obtain⟨d,h2,aN⟩:=qj h2;obtain⟨aN,bA⟩:=DM.1 aN;obtain⟨i,bA,d3⟩:=qj bA;exact⟨gu,d,i,h1,h2,lr aN,bA,λh=>by rw[h]at d3;cases d3⟩
theorem apn{c:List A7}{gu:Array Field}(h:P.underlying t=some (.struct gu))(g:gu.toList.map (λf=>(f.offset,HP P f))=c.zipIdx.map (λp=>(p.2,some p.1)):=by kernel_rfl)(a:P.stoodInHeld t=false:=by kernel_rfl)(b:P.eqGuardType P.depth t=false:=by kernel_rfl):NT P t c:=⟨⟨gu,h,g⟩,a,b⟩
theorem hQ{I:List (Nat×Nat)}{V:List Value}{gu:Array Field}(h:P.underlying t=some (.struct gu))(i:e9 P t V:=by infer_instance)(g:gu.toList.map (λf=>(f.offset,((P.info? f.type).map (·.size))))=I.map (λp=>(p.1,some p.2)):=by kernel_rfl):hA P t I V:=
 let⟨j,F,a,b,c⟩:=i.out;⟨j,F,gu,a,b,c,h,g⟩
end
def HQ{P:Program}{t:TypeId}{F:Value}{s b:Nat}(h:(P.info? t).map NU=some (some F,s,b)):∃i,P.info? t=some i/\i.zero=some F/\i.size=s/\i.bytes=b:=by
 cases ak:P.info? t with
 |none=>rw[ak]at h;cases h
 |some i=>rw[ak]at h;simp only[nD,Option.some.injEq,Prod.mk.injEq]at h;exact⟨i,rfl,h.1,h.2.1,h.2.2⟩
instance:e9 E 1 [.nilFunc]:=fq
instance:e9 E 3 [eu]:=fq
instance:e9 E 4 [gP]:=fq
instance:e9 E 9 [nE]:=fq
instance:e9 E 23 NV:=fq
instance:e9 E 26 DN:=fq
instance:e9 E 32 nf:=fq
instance:e9 E 36 [ob]:=fq
instance:e9 E 38 NW:=fq
instance:e9 E 49 DN:=fq
instance:e9 E 51 NY:=fq
instance:e9 E 54 A8:=fq
instance:e9 E 60 X3:=fq
instance:e9 E 78 NZ:=fq
instance:e9 E 82 N0:=fq
instance:e9 E 85 N1:=fq
instance:e9 E 87 N2:=fq
instance:e9 E 89 N3:=fq
instance:e9 E 106 nf:=fq
instance:e9 E 108 X4:=fq
instance:e9 E 111 X5:=fq
instance:e9 E 116 nf:=fq
instance:e9 E 118 X6:=fq
instance:e9 E 128 X7:=fq
instance:e9 E 134 N4:=fq
instance:e9 E 161 X8:=fq
instance:e9 E 164 N5:=fq
instance:e9 E 168 X9:=fq
instance:e9 E 169 nf:=fq
instance:e9 E 175 HR:=fq
instance:e9 E 181 [eK,eu]:=fq
instance:e9 E 187 Ya:=fq
instance:e9 E 188 [.nilFunc]:=fq
instance:e9 E 191 [gP,eu]:=fq
instance:e9 E 205 [fN,fN,eK]:=fq
instance:e9 E 210 nf:=fq
instance:e9 E 213 nf:=fq
instance:e9 E 219 Yb:=fq
instance:e9 E 221 HS:=fq
instance:e9 E 223 Yc:=fq
instance:e9 E 232 nf:=fq
instance:e9 E 237 [.nilIface]:=fq
instance:e9 E 238 nf:=fq
instance:e9 E 240 [.nilFunc]:=fq
instance:e9 E 241 nf:=fq
instance:e9 E 246 nf:=fq
instance:e9 E 248 nf:=fq
instance:e9 E 261 N6:=fq
instance:e9 E 275 HS:=fq
instance:e9 E 277 A9:=fq
instance:e9 E 279 A9:=fq
instance:e9 E 281 A9:=fq
instance:e9 E 282 DN:=fq
instance:e9 E 286 Yd:=fq
instance:e9 E 289 [eu,eu,(.map none)]:=fq
instance:e9 E 295 Ye:=fq
instance:e9 E 299 Yf:=fq
instance:e9 E 302 Yg:=fq
instance:e9 E 306 HR:=fq
instance:e9 E 310 Yh:=fq
instance:e9 E 311 nf:=fq
instance:e9 E 314 nf:=fq
instance:e9 E 317 (.nilFunc::gP::HT):=fq
instance:e9 E 326 nf:=fq
instance:e9 E 336 A8:=fq
instance:e9 E 356 Yi:=fq
instance:e9 E 367 Yj:=fq
instance:e9 E 380 DN:=fq
instance:e9 E 392 nf:=fq
instance:e9 E 409 Yk:=fq
instance:e3 E 1:=fA
def N7:(E.info? 3).map NU=some (some eu,1,8):=by kernel_rfl
instance:e3 E 3:=fA
instance:uU E 3 .i64:=X2
instance:e3 E 4:=fA
instance:HM E 4:=apl
instance:e3 E 9:=fA
instance:A4 E 9:=apm
instance:j8 E 23 9:=oa
instance:bS E 23 0 0:=bT
instance:bS E 23 1 1:=bT
instance:bS E 23 2 2:=bT
instance:bS E 23 3 3:=bT
instance:bS E 23 4 4:=bT
instance:bS E 23 5 5:=bT
instance:bS E 23 6 6:=bT
instance:bS E 23 7 7:=bT
instance:bS E 23 8 8:=bT
instance:hA E 23 N8 NV:=hQ Tryz.underlying23
instance:e3 E 24:=fA
instance:jU E 24 78 5:=mn
instance:jM E 24 78 5 80 NZ:=nc
instance:j8 E 26 1:=oa
instance:bS E 26 0 0:=bT
instance:hA E 26 [(0,1)] DN:=hQ Tryz.underlying26
instance:e3 E 27:=fA
instance:jU E 27 60 5:=mn
instance:e3 E 30:=fA
instance:e3 E 32:=fA
instance:uV E 32:=HN
instance:e3 E 34:=fA
instance:jU E 34 38 9:=mn
instance:jM E 34 38 9 80 NW:=nc
instance:e3 E 36:=fA
instance:uU E 36 .u64:=X2
instance:j8 E 38 9:=oa
instance:bS E 38 0 0:=bT
instance:NT E 38 [.int .i64,.int .i64,.int .u64,.int .i64,.int .i64,.str,.int .i64,.int .i64,.bool]:=apn Tryz.underlying38
instance:hA E 38 N8 NW:=hQ Tryz.underlying38
instance:e3 E 39:=fA
instance:jU E 39 3 1:=mn
instance:jM E 39 3 1 8 [eu]:=nc
instance:jU E 47 51 9:=mn
instance:jM E 47 51 9 152 NY:=nc
def apo:(E.info? 49).map NU=some (some eK,1,24):=by kernel_rfl
instance:e3 E 49:=fA
instance:jU E 49 36 1:=mn
instance:jM E 49 36 1 8 [ob]:=nc
instance:bS E 51 4 4:=bT
instance:hA E 51 N8 NY:=hQ Tryz.underlying51
instance:e3 E 52:=fA
instance:jU E 52 54 3:=mn
instance:jM E 52 54 3 24 A8:=nc
instance:j8 E 54 3:=oa
instance:hA E 54 sf A8:=hQ Tryz.underlying54
instance:j8 E 57 12:=oa
instance:bS E 57 0 0:=bT
instance:bS E 57 1 9:=bT
instance:bS E 57 2 10:=bT
instance:bS E 57 3 11:=bT
instance:j8 E 60 5:=oa
instance:bS E 60 0 0:=bT
instance:bS E 60 1 1:=bT
instance:bS E 60 2 2:=bT
instance:bS E 60 3 3:=bT
instance:bS E 60 4 4:=bT
instance:hA E 60 Ba X3:=hQ Tryz.underlying60
instance:e3 E 75:=fA
instance:jU E 75 89 2:=mn
instance:jM E 75 89 2 24 N3:=nc
instance:e3 E 76:=fA
instance:jU E 76 82 2:=mn
instance:jM E 76 82 2 40 N0:=nc
instance:j8 E 78 5:=oa
instance:bS E 78 0 0:=bT
instance:bS E 78 1 1:=bT
instance:bS E 78 2 2:=bT
instance:bS E 78 3 3:=bT
instance:bS E 78 4 4:=bT
instance:hA E 78 Ba NZ:=hQ Tryz.underlying78
instance:e3 E 80:=fA
instance:jU E 80 85 4:=mn
instance:jM E 80 85 4 56 N1:=nc
instance:j8 E 82 2:=oa
instance:bS E 82 0 0:=bT
instance:bS E 82 1 1:=bT
instance:hA E 82 [(0,1),(1,1)] N0:=hQ Tryz.underlying82
instance:e3 E 83:=fA
instance:jU E 83 87 7:=mn
instance:jM E 83 87 7 80 N2:=nc
instance:j8 E 85 4:=oa
instance:bS E 85 0 0:=bT
instance:bS E 85 1 1:=bT
instance:bS E 85 2 2:=bT
instance:bS E 85 3 3:=bT
instance:hA E 85 DO N1:=hQ Tryz.underlying85
instance:j8 E 87 7:=oa
instance:bS E 87 0 0:=bT
instance:bS E 87 1 1:=bT
instance:bS E 87 2 2:=bT
instance:bS E 87 3 3:=bT
instance:bS E 87 4 4:=bT
instance:bS E 87 5 5:=bT
instance:bS E 87 6 6:=bT
instance:hA E 87 N9 N2:=hQ Tryz.underlying87
instance:j8 E 89 2:=oa
instance:bS E 89 0 0:=bT
instance:bS E 89 1 1:=bT
instance:e3 E 95:=fA
instance:uV E 95:=HN
instance:e3 E 96:=fA
instance:e3 E 97:=fA
instance:e3 E 98:=fA
instance:e3 E 99:=fA
instance:jU E 99 116 1:=mn
instance:jM E 99 116 1 8 nf:=nc
instance:e3 E 100:=fA
instance:se E 100 .i64 fN:=A6 Tryz.underlying100 Tryz.underlying3
instance:e3 E 101:=fA
instance:se E 101 .u64 fN:=A6 Tryz.underlying101 Tryz.underlying36
instance:e3 E 102:=fA
instance:jU E 102 261 3:=mn
instance:jM E 102 261 3 32 N6:=nc
instance:e3 E 103:=fA
instance:e3 E 104:=fA
instance:e3 E 105:=fA
instance:jU E 105 106 1:=mn
instance:jM E 105 106 1 8 nf:=nc
instance:e3 E 106:=fA
instance:bS E 108 0 0:=bT
instance:bS E 108 1 9:=bT
instance:bS E 108 2 10:=bT
instance:bS E 108 3 11:=bT
instance:bS E 108 4 12:=bT
instance:bS E 108 5 13:=bT
instance:bS E 108 6 14:=bT
instance:bS E 108 7 15:=bT
instance:bS E 108 8 16:=bT
instance:bS E 108 9 17:=bT
instance:bS E 108 10 18:=bT
instance:bS E 108 11 19:=bT
instance:bS E 108 12 20:=bT
instance:bS E 108 13 21:=bT
instance:bS E 108 14 22:=bT
instance:bS E 108 15 23:=bT
instance:bS E 108 16 24:=bT
instance:bS E 108 17 25:=bT
instance:bS E 108 18 26:=bT
instance:bS E 108 19 27:=bT
instance:bS E 108 20 28:=bT
instance:bS E 108 21 29:=bT
instance:hA E 108 [(0,9),(9,1),(10,1),(11,1),(12,1),(13,1),(14,1),(15,1),(16,1),(17,1),(18,1),(19,1),(20,1),(21,1),(22,1),(23,1),(24,1),(25,1),(26,1),(27,1),(28,1),(29,1)] X4:=hQ Tryz.underlying108
instance:e3 E 110:=fA
instance:uV E 110:=HN
instance:j8 E 111 4:=oa
instance:A5 E 111 4 1:=HO
instance:e3 E 112:=fA
instance:e3 E 113:=fA
instance:e3 E 114:=fA
instance:se E 114 .i64 gP:=A6 Tryz.underlying114 Tryz.underlying3
instance:e3 E 115:=fA
instance:e3 E 116:=fA
instance:bS E 118 0 0:=bT
instance:bS E 118 1 1:=bT
instance:bS E 118 2 2:=bT
instance:bS E 118 3 7:=bT
instance:bS E 118 4 8:=bT
instance:bS E 118 5 12:=bT
instance:bS E 118 6 13:=bT
instance:bS E 118 7 14:=bT
instance:bS E 118 8 15:=bT
instance:bS E 118 9 16:=bT
instance:bS E 118 10 17:=bT
instance:bS E 118 11 18:=bT
instance:bS E 118 12 19:=bT
instance:hA E 118 [(0,1),(1,1),(2,5),(7,1),(8,4),(12,1),(13,1),(14,1),(15,1),(16,1),(17,1),(18,1),(19,1)] X6:=hQ Tryz.underlying118
instance:e3 E 126:=fA
instance:bS E 128 0 0:=bT
instance:bS E 128 1 1:=bT
instance:bS E 128 2 2:=bT
instance:bS E 128 3 3:=bT
instance:bS E 128 4 4:=bT
instance:bS E 128 5 5:=bT
instance:hA E 128 [(0,1),(1,1),(2,1),(3,1),(4,1),(5,1)] X7:=hQ Tryz.underlying128
instance:uV E 131:=HN
instance:e3 E 132:=fA
instance:bS E 134 1 1:=bT
instance:hA E 134 [(0,1),(1,1)] N4:=hQ Tryz.underlying134
instance:e3 E 158:=fA
instance:se E 158 .u64 eu:=A6 Tryz.underlying158 Tryz.underlying36
instance:A5 E 159 9 1:=HO
instance:bS E 161 0 0:=bT
instance:bS E 161 1 1:=bT
instance:bS E 161 2 2:=bT
instance:hA E 161 [(0,1),(1,1),(2,9)] X8:=hQ Tryz.underlying161
instance:bS E 164 0 0:=bT
instance:bS E 164 1 1:=bT
instance:bS E 164 2 2:=bT
instance:hA E 164 sf N5:=hQ Tryz.underlying164
instance:e3 E 166:=fA
instance:se E 166 .i64 eu:=A6 Tryz.underlying166 Tryz.underlying3
instance:bS E 168 0 0:=bT
instance:bS E 168 1 1:=bT
instance:bS E 168 2 2:=bT
instance:bS E 168 3 3:=bT
instance:hA E 168 DO X9:=hQ Tryz.underlying168
instance:e3 E 169:=fA
instance:bS E 173 0 0:=bT
instance:bS E 173 1 1:=bT
instance:bS E 173 2 2:=bT
instance:bS E 173 3 3:=bT
instance:bS E 175 0 0:=bT
instance:bS E 175 1 4:=bT
instance:hA E 175 [(0,4),(4,1)] HR:=hQ Tryz.underlying175
instance:bS E 181 0 0:=bT
instance:bS E 181 1 1:=bT
instance:hA E 181 [(0,1),(1,1)] [eK,eu]:=hQ Tryz.underlying181
instance:j8 E 187 5:=oa
instance:bS E 187 0 0:=bT
instance:bS E 187 1 1:=bT
instance:bS E 187 2 2:=bT
instance:bS E 187 3 3:=bT
instance:bS E 187 4 4:=bT
instance:hA E 187 Ba Ya:=hQ Tryz.underlying187
instance:e3 E 188:=fA
instance:j8 E 191 2:=oa
instance:bS E 191 0 0:=bT
instance:bS E 191 1 1:=bT
instance:hA E 191 [(0,1),(1,1)] [gP,eu]:=hQ Tryz.underlying191
instance:e3 E 201:=fA
instance:e3 E 202:=fA
instance:e3 E 203:=fA
instance:jU E 203 210 1:=mn
instance:jM E 203 210 1 8 nf:=nc
instance:bS E 205 0 0:=bT
instance:bS E 205 1 1:=bT
instance:bS E 205 2 2:=bT
instance:hA E 205 sf [fN,fN,eK]:=hQ Tryz.underlying205
instance:e3 E 210:=fA
instance:e3 E 213:=fA
instance:e3 E 216:=fA
instance:bS E 219 0 0:=bT
instance:bS E 219 1 1:=bT
instance:bS E 219 2 2:=bT
instance:bS E 219 3 3:=bT
instance:bS E 219 4 4:=bT
instance:hA E 219 Ba Yb:=hQ Tryz.underlying219
instance:bS E 221 0 0:=bT
instance:bS E 221 1 1:=bT
instance:bS E 221 2 2:=bT
instance:hA E 221 sf HS:=hQ Tryz.underlying221
instance:bS E 223 0 0:=bT
instance:bS E 223 1 1:=bT
instance:bS E 223 2 2:=bT
instance:bS E 223 3 3:=bT
instance:hA E 223 DO Yc:=hQ Tryz.underlying223
instance:e3 E 232:=fA
instance:e3 E 237:=fA
instance:e3 E 238:=fA
instance:e3 E 240:=fA
instance:e3 E 241:=fA
instance:e3 E 243:=fA
instance:jU E 243 240 1:=mn
instance:jM E 243 240 1 8 [.nilFunc]:=nc
instance:e3 E 246:=fA
instance:e3 E 248:=fA
instance:e3 E 255:=fA
instance:e3 E 259:=fA
instance:j8 E 261 3:=oa
instance:bS E 261 0 0:=bT
instance:bS E 261 1 1:=bT
instance:bS E 261 2 2:=bT
instance:hA E 261 sf N6:=hQ Tryz.underlying261
instance:jU E 264 191 2:=mn
instance:jM E 264 191 2 16 [gP,eu]:=nc
instance:bS E 275 0 0:=bT
instance:bS E 275 1 1:=bT
instance:bS E 275 2 2:=bT
instance:hA E 275 sf HS:=hQ Tryz.underlying275
instance:bS E 277 0 0:=bT
instance:bS E 277 1 1:=bT
instance:bS E 277 2 2:=bT
instance:hA E 277 sf A9:=hQ Tryz.underlying277
instance:bS E 279 0 0:=bT
instance:bS E 279 1 1:=bT
instance:bS E 279 2 2:=bT
instance:hA E 279 sf A9:=hQ Tryz.underlying279
instance:bS E 281 0 0:=bT
instance:bS E 281 1 1:=bT
instance:bS E 281 2 2:=bT
instance:hA E 281 sf A9:=hQ Tryz.underlying281
instance:e3 E 282:=fA
instance:jU E 282 336 3:=mn
instance:jM E 282 336 3 24 A8:=nc
instance:A5 E 283 8 1:=HO
instance:A5 E 284 4 8:=HO
instance:bS E 286 0 0:=bT
instance:bS E 286 1 1:=bT
instance:bS E 286 2 2:=bT
instance:hA E 286 [(0,1),(1,1),(2,32)] Yd:=hQ Tryz.underlying286
instance:e3 E 287:=fA
instance:se E 287 .i64 eK:=A6 Tryz.underlying287 Tryz.underlying3
instance:bS E 289 0 0:=bT
instance:bS E 289 1 1:=bT
instance:bS E 289 2 2:=bT
instance:hA E 289 sf [eu,eu,(.map none)]:=hQ Tryz.underlying289
instance:e3 E 293:=fA
instance:bS E 295 0 0:=bT
instance:bS E 295 1 1:=bT
instance:bS E 295 2 2:=bT
instance:bS E 295 3 3:=bT
instance:hA E 295 DO Ye:=hQ Tryz.underlying295
instance:bS E 299 0 0:=bT
instance:bS E 299 1 1:=bT
instance:bS E 299 2 2:=bT
instance:bS E 299 3 3:=bT
instance:bS E 299 4 4:=bT
instance:bS E 299 5 5:=bT
instance:bS E 299 6 6:=bT
instance:hA E 299 N9 Yf:=hQ Tryz.underlying299
instance:e3 E 300:=fA
instance:bS E 302 0 0:=bT
instance:bS E 302 1 1:=bT
instance:bS E 302 2 2:=bT
instance:bS E 302 3 3:=bT
instance:bS E 302 4 4:=bT
instance:bS E 302 5 5:=bT
instance:bS E 302 6 6:=bT
instance:hA E 302 N9 Yg:=hQ Tryz.underlying302
instance:bS E 306 0 0:=bT
instance:bS E 306 1 4:=bT
instance:hA E 306 [(0,4),(4,1)] HR:=hQ Tryz.underlying306
instance:bS E 310 0 0:=bT
instance:bS E 310 1 4:=bT
instance:bS E 310 2 5:=bT
instance:bS E 310 3 6:=bT
instance:bS E 310 4 7:=bT
instance:hA E 310 [(0,4),(4,1),(5,1),(6,1),(7,1)] Yh:=hQ Tryz.underlying310
instance:e3 E 311:=fA
instance:e3 E 314:=fA
instance:bS E 317 0 0:=bT
instance:bS E 317 1 1:=bT
instance:bS E 317 2 2:=bT
instance:bS E 317 3 3:=bT
instance:hA E 317 DO (.nilFunc::gP::HT):=hQ Tryz.underlying317
instance:e3 E 326:=fA
instance:j8 E 336 3:=oa
instance:bS E 336 0 0:=bT
instance:bS E 336 1 1:=bT
instance:hA E 336 sf A8:=hQ Tryz.underlying336
instance:j8 E 356 5:=oa
instance:bS E 356 0 0:=bT
instance:bS E 356 1 1:=bT
instance:bS E 356 2 2:=bT
instance:bS E 356 3 3:=bT
instance:bS E 356 4 4:=bT
instance:hA E 356 Ba Yi:=hQ Tryz.underlying356
instance:bS E 367 0 0:=bT
instance:bS E 367 1 1:=bT
instance:bS E 367 2 2:=bT
instance:bS E 367 3 3:=bT
instance:bS E 367 4 4:=bT
instance:bS E 367 5 5:=bT
instance:hA E 367 [(0,1),(1,1),(2,1),(3,1),(4,1),(5,1)] Yj:=hQ Tryz.underlying367
instance:jU E 379 9 1:=mn
instance:jM E 379 9 1 16 [nE]:=nc
instance:e3 E 380:=fA
instance:jU E 380 213 1:=mn
instance:jM E 380 213 1 8 nf:=nc
instance:e3 E 392:=fA
instance:bS E 409 0 0:=bT
instance:bS E 409 1 1:=bT
instance:bS E 409 2 2:=bT
instance:bS E 409 3 3:=bT
instance:bS E 409 4 4:=bT
instance:hA E 409 Ba Yk:=hQ Tryz.underlying409
def mixed:E.follows .mixedOrders=true:=by kernel_rfl
end Go.Proofs.YtnnhpnccfnghdaaGreat.L
namespace Go.Proofs.YtnnhpnccfnghdaaGreat.L
open Go.L Go.L.Lx Go.L.Pg Go.RowKit Go.Deep
attribute[local irreducible] G cJ GE c3 GT b1 dk c7 ds Exit.then Exit.inBlock
section
variable{H:Type}{enc:TypeId×Value->H}{P:Program}{w:World}{F:Nat}{D:Nat->Bool}{held:Bool}
section
variable{t e n aZ z:Nat}{cs:List Value}{y:DataW H×List MemPlace}{c:Value}{bY:Nat}
theorem atv{zA aZ z:Nat}{cs:List Value}{x:DataW H×List MemPlace}(U:P.underlying t=some (.slice e))(l:P.cellsOf e=aZ)(bi:0<aZ)(b:P.bytesOf e=z){T:Type}[Inhabited T](g:T->List Value)(Good:T->Prop)(hlen:∀q,(g q).length=aZ)
 (r:∀n k d,DataW.trod enc P w F D held n e k=some d->l4 P e d.1->∃q,k=g q/\Good q)(h:DataW.trod enc P w F D held zA t cs=some x)(R:l4 P t x.1):
 ∃(a:Option Addr) (C:Nat) (s:List T),cs=[.slice a s.length C]/\(∀q∈s,Good q)/\fi (s.length*z)/\jd (fW w) a C s.length (s.flatMap g):=by
 obtain⟨a,C,s,aC,aY,bf,aF,ah⟩:=asH (λd=>l4 P e d) U l g Good hlen r (λel dJ e=>(ahh U (e▸R)).2) h;have a6:s.length<=C:=by
  rcases DataW.trod_slice U h with⟨aV,_⟩|⟨aD,len,Y,u,rest,n,_,aV,_,_,aw,_⟩
  . exact acC
  . exact acC
 refine⟨a,C,s,aC,aY,?_,aF bi,a6⟩;unfold fi;rcases ah with⟨_,h2⟩|⟨el,dJ,h2,aN⟩
 . rw[h2];omega
 . have bA:=(ahh U (h2▸R)).1
   rw[b,aN]at bA;have:reachBytes=140737488351232:=bw;omega
theorem lE(d7:P.underlying t=some (.int .i64))(a6:P.cellsOf t=1)(h:DataW.trod enc P w F D held n t Eo=some y)(B:(cs.drop bY).take 1=[c]):∃v,c=vm v:=by
 rw[a6,B]at h;obtain⟨v,e,_⟩:=DataW.trod_int d7 h;exact⟨v,by simpa using e⟩
theorem atw(d7:P.underlying t=some .bool)(a6:P.cellsOf t=1)(h:DataW.trod enc P w F D held n t Eo=some y)(B:(cs.drop bY).take 1=[c]):∃v,c=.bool v:=by
 rw[a6,B]at h;obtain⟨v,e,_⟩:=DataW.trod_bool d7 h;exact⟨v,by simpa using e⟩
theorem ik(d7:P.underlying t=some .string)(a6:P.cellsOf t=1)(h:DataW.trod enc P w F D held n t Eo=some y)(R:l4 P t y.1)(B:(cs.drop bY).take 1=[c]):∃v,c=xi v/\fi v.length:=by
 rw[a6,B]at h;obtain⟨⟨⟨s⟩⟩,e,rfl,ai⟩:=DataW.trod_string d7 h;exact⟨s,by simpa using e,asG R⟩
theorem BW{T:Type}[Inhabited T](g:T->List Value)(Good:T->Prop)(hlen:∀q,(g q).length=aZ)(r:∀n k d,DataW.trod enc P w F D held n e k=some d->l4 P e d.1->∃q,k=g q/\Good q)
 (U:P.underlying t=some (.slice e))(l:P.cellsOf e=aZ)(bi:0<aZ)(b:P.bytesOf e=z)(a6:P.cellsOf t=1)(h:DataW.trod enc P w F D held n t Eo=some y)(R:l4 P t y.1)(B:(cs.drop bY).take 1=[c]):
 ∃(a:Option Addr) (C:Nat) (s:List T),c=.slice a s.length C/\(∀q∈s,Good q)/\fi (s.length*z)/\jd (fW w) a C s.length (s.flatMap g):=by
 rw[a6,B]at h;obtain⟨a,C,s,aC,h1⟩:=atv U l bi b g Good hlen r h R;exact⟨a,C,s,by simpa using aC,h1⟩
end
end
section
variable{H:Type}
def atx{enc:TypeId×Value->H}{w:World}{F:Nat}{D:Nat->Bool}{held:Bool}(n:Nat)(cs:List Value)(d:DataW H×List MemPlace)(h:DataW.trod enc E w F D held n 87 cs=some d)(R:l4 E 87 d.1):∃q,cs=fM q/\CJ q:=by
 obtain⟨xs,m,_,rfl,aw,hlen,ba⟩:=DataW.trod_struct Tryz.underlying87 h;rw[show E.cellsOf 87=7 by kernel_rfl]at aw;replace hlen:xs.length=7:=hlen;obtain⟨eA,c1,bq,b7,d8,fd,gt,rfl⟩:∃eA c1 bq b7 d8 fd gt,cs=[eA,c1,bq,b7,d8,fd,gt]:=by match cs,aw with|[eA,c1,bq,b7,d8,fd,gt],_=>exact⟨_,_,_,_,_,_,_,rfl⟩
 obtain⟨b,g⟩:∃y,xs[0]?=some y:=⟨_,cD ad⟩;have f0:=(ba 0 _ rfl).trans g;have l:=ic (i:=0) Tryz.underlying87 R rfl (show(xs.map (·.1))[0]?=some b.1 by rw[fD,g];rfl);obtain⟨v0,rfl⟩:=lE Tryz.underlying3 (show E.cellsOf 3=1 by kernel_rfl) f0 rfl;obtain⟨a,W⟩:∃y,xs[1]?=some y:=⟨_,cD ad⟩;have f1:=(ba 1 _ rfl).trans W;have aG:=ic (i:=1) Tryz.underlying87 R rfl (show(xs.map (·.1))[1]?=some a.1 by rw[fD,W];rfl);obtain⟨v1,rfl,cR⟩:=ik Tryz.underlying9 (show E.cellsOf 9=1 by kernel_rfl) f1 aG rfl;obtain⟨f,cU⟩:∃y,xs[2]?=some y:=⟨_,cD ad⟩;have f2:=(ba 2 _ rfl).trans cU;have bb:=ic (i:=2) Tryz.underlying87 R rfl (show(xs.map (·.1))[2]?=some f.1 by rw[fD,cU];rfl);obtain⟨u,rfl,b8⟩:=ik Tryz.underlying9 (show E.cellsOf 9=1 by kernel_rfl) f2 bb rfl;obtain⟨j,em⟩:∃y,xs[3]?=some y:=⟨_,cD ad⟩;have f3:=(ba 3 _ rfl).trans em;have b2:=ic (i:=3) Tryz.underlying87 R rfl (show(xs.map (·.1))[3]?=some j.1 by rw[fD,em];rfl);obtain⟨v3,rfl,il⟩:=ik Tryz.underlying9 (show E.cellsOf 9=1 by kernel_rfl) f3 b2 rfl;obtain⟨t,gc⟩:∃y,xs[4]?=some y:=⟨_,cD ad⟩;have f4:=(ba 4 _ rfl).trans gc;have bR:=ic (i:=4) Tryz.underlying87 R rfl (show(xs.map (·.1))[4]?=some t.1 by rw[fD,gc];rfl);obtain⟨v4,rfl⟩:=lE Tryz.underlying3 (show E.cellsOf 3=1 by kernel_rfl) f4 rfl;obtain⟨o,hm⟩:∃y,xs[5]?=some y:=⟨_,cD ad⟩;have f5:=(ba 5 _ rfl).trans hm;have bE:=ic (i:=5) Tryz.underlying87 R rfl (show(xs.map (·.1))[5]?=some o.1 by rw[fD,hm];rfl);obtain⟨v5,rfl⟩:=lE Tryz.underlying3 (show E.cellsOf 3=1 by kernel_rfl) f5 rfl;obtain⟨r,G⟩:∃y,xs[6]?=some y:=⟨_,cD ad⟩;have f6:=(ba 6 _ rfl).trans G;have bj:=ic (i:=6) Tryz.underlying87 R rfl (show(xs.map (·.1))[6]?=some r.1 by rw[fD,G];rfl);obtain⟨e,rfl⟩:=lE Tryz.underlying3 (show E.cellsOf 3=1 by kernel_rfl) f6 rfl;exact⟨⟨v0,v1,u,v3,v4,v5,e⟩,rfl,⟨cR,b8,il⟩⟩
def aty{enc:TypeId×Value->H}{w:World}{F:Nat}{D:Nat->Bool}{held:Bool}(n:Nat)(cs:List Value)(d:DataW H×List MemPlace)(h:DataW.trod enc E w F D held n 85 cs=some d)(R:l4 E 85 d.1):∃q,cs=gY q/\xX (fW w) q:=by
 obtain⟨xs,m,_,rfl,aw,hlen,ba⟩:=DataW.trod_struct Tryz.underlying85 h;rw[show E.cellsOf 85=4 by kernel_rfl]at aw;replace hlen:xs.length=4:=hlen;obtain⟨eA,c1,bq,b7,rfl⟩:∃eA c1 bq b7,cs=[eA,c1,bq,b7]:=by match cs,aw with|[eA,c1,bq,b7],_=>exact⟨_,_,_,_,rfl⟩
 obtain⟨b,g⟩:∃y,xs[0]?=some y:=⟨_,cD ad⟩;have f0:=(ba 0 _ rfl).trans g;have l:=ic (i:=0) Tryz.underlying85 R rfl (show(xs.map (·.1))[0]?=some b.1 by rw[fD,g];rfl);obtain⟨v0,rfl,fL⟩:=ik Tryz.underlying9 (show E.cellsOf 9=1 by kernel_rfl) f0 l rfl;obtain⟨a,W⟩:∃y,xs[1]?=some y:=⟨_,cD ad⟩;have f1:=(ba 1 _ rfl).trans W;have aG:=ic (i:=1) Tryz.underlying85 R rfl (show(xs.map (·.1))[1]?=some a.1 by rw[fD,W];rfl);obtain⟨v1,rfl⟩:=atw Tryz.underlying4 (show E.cellsOf 4=1 by kernel_rfl) f1 rfl;obtain⟨f,cU⟩:∃y,xs[2]?=some y:=⟨_,cD ad⟩;have f2:=(ba 2 _ rfl).trans cU;have bb:=ic (i:=2) Tryz.underlying85 R rfl (show(xs.map (·.1))[2]?=some f.1 by rw[fD,cU];rfl);obtain⟨u,rfl⟩:=lE Tryz.underlying3 (show E.cellsOf 3=1 by kernel_rfl) f2 rfl;obtain⟨j,em⟩:∃y,xs[3]?=some y:=⟨_,cD ad⟩;have f3:=(ba 3 _ rfl).trans em;have b2:=ic (i:=3) Tryz.underlying85 R rfl (show(xs.map (·.1))[3]?=some j.1 by rw[fD,em];rfl);obtain⟨a3,sC,ce,rfl,c,J,o⟩:=BW fM (λq=>CJ q) xT (λn cs d h w=>atx n cs d h w) Tryz.underlying83 (show E.cellsOf 87=7 by kernel_rfl) bw (show E.bytesOf 87=80 by kernel_rfl) (show E.cellsOf 83=1 by kernel_rfl) f3 b2 rfl;exact⟨⟨v0,v1,u,a3,sC,ce⟩,rfl,⟨fL,o,J,c⟩⟩
def atz{enc:TypeId×Value->H}{w:World}{F:Nat}{D:Nat->Bool}{held:Bool}(n:Nat)(cs:List Value)(d:DataW H×List MemPlace)(h:DataW.trod enc E w F D held n 82 cs=some d)(R:l4 E 82 d.1):∃q,cs=gB q/\vN (fW w) q:=by
 obtain⟨xs,m,_,rfl,aw,hlen,ba⟩:=DataW.trod_struct Tryz.underlying82 h;rw[show E.cellsOf 82=2 by kernel_rfl]at aw;replace hlen:xs.length=2:=hlen;obtain⟨eA,c1,rfl⟩:∃eA c1,cs=[eA,c1]:=Zd;obtain⟨b,g⟩:∃y,xs[0]?=some y:=⟨_,cD ad⟩;have f0:=(ba 0 _ rfl).trans g;have l:=ic (i:=0) Tryz.underlying82 R rfl (show(xs.map (·.1))[0]?=some b.1 by rw[fD,g];rfl);obtain⟨v0,rfl,fL⟩:=ik Tryz.underlying9 (show E.cellsOf 9=1 by kernel_rfl) f0 l rfl;obtain⟨a,W⟩:∃y,xs[1]?=some y:=⟨_,cD ad⟩;have f1:=(ba 1 _ rfl).trans W;have aG:=ic (i:=1) Tryz.underlying82 R rfl (show(xs.map (·.1))[1]?=some a.1 by rw[fD,W];rfl);obtain⟨cu,gH,s1,rfl,c,m1,gO⟩:=BW gY (λq=>xX (fW w) q) ue (λn cs d h w=>aty n cs d h w) Tryz.underlying80 (show E.cellsOf 85=4 by kernel_rfl) bw (show E.bytesOf 85=56 by kernel_rfl) (show E.cellsOf 80=1 by kernel_rfl) f1 aG rfl;exact⟨⟨v0,cu,gH,s1⟩,rfl,⟨fL,gO,m1,c⟩⟩
def atA{enc:TypeId×Value->H}{w:World}{F:Nat}{D:Nat->Bool}{held:Bool}(n:Nat)(cs:List Value)(d:DataW H×List MemPlace)(h:DataW.trod enc E w F D held n 89 cs=some d)(R:l4 E 89 d.1):∃q,cs=jQ q/\fi q.reason.length:=by
 obtain⟨xs,m,_,rfl,aw,hlen,ba⟩:=DataW.trod_struct Tryz.underlying89 h;rw[show E.cellsOf 89=2 by kernel_rfl]at aw;replace hlen:xs.length=2:=hlen;obtain⟨eA,c1,rfl⟩:∃eA c1,cs=[eA,c1]:=Zd;obtain⟨b,g⟩:∃y,xs[0]?=some y:=⟨_,cD ad⟩;have f0:=(ba 0 _ rfl).trans g;have l:=ic (i:=0) Tryz.underlying89 R rfl (show(xs.map (·.1))[0]?=some b.1 by rw[fD,g];rfl);obtain⟨v0,rfl,fL⟩:=ik Tryz.underlying9 (show E.cellsOf 9=1 by kernel_rfl) f0 l rfl;obtain⟨a,W⟩:∃y,xs[1]?=some y:=⟨_,cD ad⟩;have f1:=(ba 1 _ rfl).trans W;have aG:=ic (i:=1) Tryz.underlying89 R rfl (show(xs.map (·.1))[1]?=some a.1 by rw[fD,W];rfl);obtain⟨v1,rfl⟩:=lE Tryz.underlying3 (show E.cellsOf 3=1 by kernel_rfl) f1 rfl;exact⟨⟨v0,v1⟩,rfl,fL⟩
def atB{enc:TypeId×Value->H}{w:World}{F:Nat}{D:Nat->Bool}{held:Bool}(n:Nat)(cs:List Value)(d:DataW H×List MemPlace)(h:DataW.trod enc E w F D held n 78 cs=some d)(R:l4 E 78 d.1):∃q,cs=eH q/\lg (fW w) q:=by
 obtain⟨xs,m,_,rfl,aw,hlen,ba⟩:=DataW.trod_struct Tryz.underlying78 h;rw[show E.cellsOf 78=5 by kernel_rfl]at aw;replace hlen:xs.length=5:=hlen;obtain⟨eA,c1,bq,b7,d8,rfl⟩:∃eA c1 bq b7 d8,cs=[eA,c1,bq,b7,d8]:=Ze;obtain⟨b,g⟩:∃y,xs[0]?=some y:=⟨_,cD ad⟩;have f0:=(ba 0 _ rfl).trans g;have l:=ic (i:=0) Tryz.underlying78 R rfl (show(xs.map (·.1))[0]?=some b.1 by rw[fD,g];rfl);obtain⟨v0,rfl,fL⟩:=ik Tryz.underlying9 (show E.cellsOf 9=1 by kernel_rfl) f0 l rfl;obtain⟨a,W⟩:∃y,xs[1]?=some y:=⟨_,cD ad⟩;have f1:=(ba 1 _ rfl).trans W;have aG:=ic (i:=1) Tryz.underlying78 R rfl (show(xs.map (·.1))[1]?=some a.1 by rw[fD,W];rfl);obtain⟨v1,rfl⟩:=lE Tryz.underlying3 (show E.cellsOf 3=1 by kernel_rfl) f1 rfl;obtain⟨f,cU⟩:∃y,xs[2]?=some y:=⟨_,cD ad⟩;have f2:=(ba 2 _ rfl).trans cU;have bb:=ic (i:=2) Tryz.underlying78 R rfl (show(xs.map (·.1))[2]?=some f.1 by rw[fD,cU];rfl);obtain⟨u,rfl⟩:=lE Tryz.underlying3 (show E.cellsOf 3=1 by kernel_rfl) f2 rfl;obtain⟨j,em⟩:∃y,xs[3]?=some y:=⟨_,cD ad⟩;have f3:=(ba 3 _ rfl).trans em;have b2:=ic (i:=3) Tryz.underlying78 R rfl (show(xs.map (·.1))[3]?=some j.1 by rw[fD,em];rfl);obtain⟨a3,sC,ce,rfl,c,J,o⟩:=BW jQ (λq=>fi q.reason.length) Al (λn cs d h w=>atA n cs d h w) Tryz.underlying75 (show E.cellsOf 89=2 by kernel_rfl) bw (show E.bytesOf 89=24 by kernel_rfl) (show E.cellsOf 75=1 by kernel_rfl) f3 b2 rfl;obtain⟨t,gc⟩:∃y,xs[4]?=some y:=⟨_,cD ad⟩;have f4:=(ba 4 _ rfl).trans gc;have bR:=ic (i:=4) Tryz.underlying78 R rfl (show(xs.map (·.1))[4]?=some t.1 by rw[fD,gc];rfl);obtain⟨a4,xk,Y,rfl,e,A,rP⟩:=BW gB (λq=>vN (fW w) q) qV (λn cs d h w=>atz n cs d h w) Tryz.underlying76 (show E.cellsOf 82=2 by kernel_rfl) bw (show E.bytesOf 82=40 by kernel_rfl) (show E.cellsOf 76=1 by kernel_rfl) f4 bR rfl;exact⟨⟨v0,v1,u,a3,sC,ce,a4,xk,Y⟩,rfl,⟨fL,o,J,c,rP,A,e⟩⟩
def atC{enc:TypeId×Value->H}{w:World}{F:Nat}{D:Nat->Bool}{held:Bool}(n:Nat)(cs:List Value)(d:DataW H×List MemPlace)(h:DataW.trod enc E w F D held n 26 cs=some d)(R:l4 E 26 d.1):∃a c K,cs=[.slice a (List.length K) c]/\h8 (fW w) a c K:=by
 obtain⟨xs,m,_,rfl,aw,hlen,ba⟩:=DataW.trod_struct Tryz.underlying26 h;rw[show E.cellsOf 26=1 by kernel_rfl]at aw;replace hlen:xs.length=1:=hlen;obtain⟨eA,rfl⟩:∃eA,cs=[eA]:=by match cs,aw with|[eA],_=>exact⟨_,rfl⟩
 obtain⟨b,g⟩:∃y,xs[0]?=some y:=⟨_,cD ad⟩;have f0:=(ba 0 _ rfl).trans g;have l:=ic (i:=0) Tryz.underlying26 R rfl (show(xs.map (·.1))[0]?=some b.1 by rw[fD,g];rfl);obtain⟨a,p,s,rfl,aJ,bf,aF⟩:=BW eH (λq=>lg (fW w) q) C8 (λn cs d h w=>atB n cs d h w) Tryz.underlying24 (show E.cellsOf 78=5 by kernel_rfl) bw (show E.bytesOf 78=80 by kernel_rfl) (show E.cellsOf 24=1 by kernel_rfl) f0 l rfl;exact⟨a,p,s,rfl,⟨aF,bf,aJ⟩⟩
def apx{W:World}{a:Option Addr}{c:Nat}{K:List cr}(p:h8 (fW W) a c K):∀h,base W h->h8 h a c K:=λh aA=>p.imp λb o e=>by
 have d4:b<W.heap.size:=by
  rcases rY b W.heap.size with x|x
  . exact x
  . rw[show fW W b=W.heap[b]?from rfl,G6 x]at e;cases e
 rw[aA b d4];exact e
end
end Go.Proofs.YtnnhpnccfnghdaaGreat.L
namespace Go.L.Ring
open Go.L
abbrev fe(x:Int):Int:=IntKind.u64.wrap x
def jx(b n:Nat)(t:Int):Nat:=b+2+2*(t%(n:Int)).toNat
def xl(n:Nat)(t:Int):Int:=fe (t/n*2)
def Mt{t:Int}{n:Nat}(U:0<=t)(h2:t<=18446744073709551615)(aO:1<=n):IntKind.u64.wrap (t.tdiv n)=t/n:=by
 rw[Int.tdiv_eq_ediv_of_nonneg U];have bi:0<=t/n:=Int.ediv_nonneg U ad;have h1:t/n<=t:=Int.ediv_le_self _ U;exact tk ad
structure fz where
 pc:Nat
 out:Int
 val:Int
 tick:Int
 de:Int
 deriving DecidableEq
structure iH(o:fz):Prop where
 pc:o.pc<=15
 v0:0<=o.val
 v1:o.val<=18446744073709551615
 t0:0<=o.tick
 t1:o.tick<=18446744073709551615
 gJ:0<=o.de
 aC:o.de<=18446744073709551615
def fz.over(o:fz):Bool:=!decide (o.out=0)
section
variable(b n:Nat)(L:List Int)(o:fz)
def fz.value:Int:=if o.out=1 then o.val else 0
abbrev dG:Int:=9223372036854775808
def yj:fz:={o with pc:=1,tick:=L.getD b 0,out:=if dG<=L.getD b 0 then 3 else o.out}
def wk:fz:=
 if xl n o.tick<L.getD (jx b n o.tick) 0 then{o with pc:=0}else if L.getD (jx b n o.tick) 0<xl n o.tick then{o with out:=2}else{o with pc:=2}
def yk:fz:={o with pc:=if L.getD b 0=o.tick then 3 else 0}
def Bv:List Int:=if L.getD b 0=o.tick then L.set b (fe (o.tick+1))else L
def GV:fz:={o with pc:=4}
def RR:List Int:=L.set (jx b n o.tick+1) o.val
def GX:fz:={o with out:=1,val:=0}
def RS:List Int:=L.set (jx b n o.tick) (fe (xl n o.tick+1))
def ux:fz:={o with pc:=6,de:=L.getD (b+1) 0}
def rX:fz:={o with pc:=7,out:=if L.getD (jx b n o.de) 0=fe (xl n o.de+1)then o.out else 4}
def GY:fz:={o with pc:=8,val:=L.getD (jx b n o.de+1) 0}
def GZ:fz:={o with pc:=9}
def RT:List Int:=L.set (jx b n o.de) (fe (xl n o.de+2))
def G0:fz:={o with out:=1}
def RU:List Int:=L.set (b+1) (fe (o.de+1))
def G1:fz:={o with pc:=11,val:=L.getD b 0}
def yl:fz:={ux b L o with out:=if o.val=fe (L.getD (b+1) 0+dG)then 5 else o.out}
def G2:fz:={ux b L o with pc:=13}
def ym:fz:={rX b n L o with out:=if(rX b n L o).over then(rX b n L o).out else 1}
def yn:fz:={o with pc:=15,out:=if dG<=L.getD b 0 then 1 else o.out,val:=if dG<=L.getD b 0 then 0 else L.getD b 0}
def yo:fz:={o with pc:=14,out:=if L.getD b 0=o.val then 1 else o.out,val:=if L.getD b 0=o.val then 0 else o.val}
def Bt:List Int:=if L.getD b 0=o.val then L.set b (fe (o.val+dG))else L
def l6:List Int:=
 match o.pc with
 |2=>Bv b L o|3=>RR b n L o|4=>RS b n L o|8=>RT b n L o|9=>RU b L o|15=>Bt b L o|_=>L
def lq:fz:=
 match o.pc with
 |0=>yj b L o|1=>wk b n L o|2=>yk b L o|3=>GV o|4=>GX o|5=>ux b L o|6=>rX b n L o|7=>GY b n L o
 |8=>GZ o|9=>G0 o|10=>G1 b L o|11=>yl b L o|12=>G2 b L o|13=>ym b n L o|14=>yn b L o|15=>yo b L o|_=>o
def lp:List Int:=if o.over then L else l6 b n L o
def dC:fz:=if o.over then o else lq b n L o
def iv:Prop:=∀x∈L,0<=x/\x<=18446744073709551615
end
section
variable(x:Int){b n:Nat}{L:List Int}{o:fz}
def iv.get(h:iv L)(i:Nat):0<=L.getD i 0/\L.getD i 0<=18446744073709551615:=by
 rw[iW];by_cases ak:i<L.length
 . rw[cD ak];exact h _ (vl ak)
 . rw[oJ ad];simp
def iv.set(h:iv L)(i:Nat)(x:Int)(ah:0<=x/\x<=18446744073709551615):iv (L.set i x):=λy ag=>by
 rcases ahA ag with ag|rfl
 . exact h y ag
 . exact ah
def xm:fe x=x%18446744073709551616:=by
 unfold fe IntKind.wrap;simp[IntKind.bits,IntKind.signed]
def AL:0<=fe x/\fe x<=18446744073709551615:=by
 rw[xm];omega
def yp(h:iv L)(aJ:iH o):iv (lp b n L o):=by
 unfold lp;split
 . exact h
 . unfold l6;split<;>(try exact h)<;>simp only[Bv,RR,RS,RT,RU,Bt]<;>(try split)<;>first|exact h|exact h.set _ _ (AL _)|exact h.set _ _ ⟨aJ.v0,aJ.v1⟩
def AE(h:iv L)(aJ:iH o):iH (dC b n L o):=by
 obtain⟨cu,cC,a3,a4,a5,a,e⟩:=aJ;unfold dC;split
 . exact⟨cu,cC,a3,a4,a5,a,e⟩
 . have g:=h.get
   unfold lq;split<;>(try simp only[yj,wk,yk,GV,GX,ux,rX,GY,GZ,G0,G1,yl,G2,ym,yn,yo])<;>(repeat' split)<;>
    (constructor<;>first|assumption|exact(g _).1|exact(g _).2|(simp;done)|(split<;>simp;done)|(split<;>first|assumption|exact(g _).1|exact(g _).2|simp))
def im(L:List Int)(b:Nat):Nat->List Int
 |0=>L
 |i+1=>(im L b i).set (b+i) 0
def wJ(L:List Int)(b:Nat):∀i,(im L b i).length=L.length
 |0=>rfl
 |i+1=>by rw[im,gr,wJ L b i]
def lP(s:Int):Int:=if 1<=s/\s<=64 then 2+2*s else 0
def RN(h1:1<=n)(h2:n<=64):lP (n:Int)=((2+2*n:Nat):Int):=by unfold lP;rw[bg ad];omega
def atX(k:Nat):iv (List.replicate k 0):=λx ah=>by rw[List.eq_of_mem_replicate ah];simp
end
end Go.L.Ring
namespace Go.L.dD
open Go.L Go.L.Ring
structure jw where
 b:Nat
 ft:Nat
 fK:Nat
def jw.ev(B:jw)(r:Bool):Nat:=if r then B.b+2+(2+2*B.ft)else B.b+2
def jw.e1(B:jw)(r:Bool):Nat:=if r then B.fK else B.ft
inductive vo
 |put(U:Bool)(o:fz)
 |po(U:Bool)
 |swp(U:Bool)(s:Int)
 |ask(v:Int)
 |set(st:Int)
 |of(r:Bool)(o:fz)
 |gone
 |tQ(held:Bool)
 |look(held r:Bool)(o:fz)
 |more(held:Bool)
structure gz where
 ph:vo
 out:Int
 val:Int
def gz.over(p:gz):Bool:=!decide (p.out=0)
section
variable(B:jw)(L:List Int)(p:gz)
def gi(pc:Nat)(v:Int):fz:=⟨pc,0,v,0,0⟩
def iO(held:Bool):Int:=if held then 3 else 0
def xj(U:Bool)(s:Int):Bool:=decide (s=0)||(U&&decide (s=3))
def iK:vo->List Int×gz
 |
  .put U o=>
  let E:=lp (B.ev U) (B.e1 U) L o
  let S:=dC (B.ev U) (B.e1 U) L o
  (E,if S.over then(if S.out=1 then⟨.po U,0,0⟩else⟨.put U S,S.out,0⟩)else⟨.put U S,0,0⟩)
 |.po U=>(L,if xj U (L.getD B.b 0)then⟨.swp U (L.getD B.b 0),0,0⟩else⟨.po U,1,0⟩)
 |.swp U s=>if L.getD B.b 0=s then(L.set B.b 1,⟨.swp U s,7,0⟩)else(L,⟨.po U,0,0⟩)
 |.ask v=>if L.getD (B.b+1) 0=0 then(L.set (B.b+1) 1,⟨.put true (gi 0 v),0,0⟩)else(L,⟨.ask v,4,0⟩)
 |.set st=>(L.set B.b st,⟨.set st,1,0⟩)
 |
  .of r o=>
  let E:=lp (B.ev r) (B.e1 r) L o
  let S:=dC (B.ev r) (B.e1 r) L o
  (E,if S.over then⟨.of r S,S.out,S.value⟩else⟨.of r S,0,0⟩)
 |.gone=>(L,⟨.gone,if L.getD B.b 0=4 then 1 else 4,0⟩)
 |.tQ held=>(L.set B.b (iO held),⟨.look held true (gi 12 0),0,0⟩)
 |
  .look held r o=>
  let E:=lp (B.ev r) (B.e1 r) L o
  let S:=dC (B.ev r) (B.e1 r) L o
  (E,if S.over then(if S.out=1 then⟨.more held,0,0⟩else if r&&!held then⟨.look held false (gi 12 0),0,0⟩else⟨.look held r S,4,0⟩)else⟨.look held r S,0,0⟩)
 |.more held=>if L.getD B.b 0=iO held then(L.set B.b 1,⟨.more held,8,0⟩)else(L,⟨.more held,1,0⟩)
def pU:List Int:=if p.over then L else(iK B L p.ph).1
def oQ:gz:=if p.over then p else(iK B L p.ph).2
structure ry(B:jw)(L:List Int):Prop where
 m1:1<=B.ft
 m64:B.ft<=64
 ed:1<=B.fK
 jT:B.fK<=64
 len:B.b+6+2*B.ft+2*B.fK<=L.length
 dG:L.length<=65536
def att:vo->Prop
 |.put _ o=>iH o/\o.out=0
 |.swp _ s=>0<=s/\s<=18446744073709551615
 |.ask v=>0<=v/\v<=18446744073709551615
 |.set st=>0<=st/\st<=18446744073709551615
 |.of _ o=>iH o/\o.out=0
 |.look held r o=>iH o/\o.out=0/\(held=true->r=true)
 |_=>True
def sB:Prop:=p.out=0->att p.ph/\p.val=0
def ry.ev{B:jw}{L:List Int}(h:ry B L)(r:Bool):1<=B.e1 r/\B.e1 r<=64/\B.ev r+2+2*B.e1 r<=L.length/\L.length<=65536:=by
 have h1:=h.m1;have h2:=h.m64;have aN:=h.ed;have bA:=h.jT;have d3:=h.len;have g3:=h.dG;cases r<;>simp[jw.ev,jw.e1]<;>omega
def AI{pc:Nat}{v:Int}(h:pc<=15)(Z:0<=v/\v<=18446744073709551615):iH (gi pc v):=⟨h,Z.1,Z.2,vp 0,(show(0:Int)<=18446744073709551615 by decide),vp 0,(show(0:Int)<=18446744073709551615 by decide)⟩
def RO{o:fz}(h:o.over=false):o.out=0:=by simpa[fz.over]using h
def atu{B:jw}{L:List Int}{p:gz}(K:iv L)(hp:sB p):iv (pU B L p)/\sB (oQ B L p):=by
 unfold pU oQ;cases J:p.over with
 |true=>exact⟨K,hp⟩
 |
  false=>
  simp only[e2,eI];obtain⟨ph,out,val⟩:=p;have aJ:out=0:=by simpa[gz.over]using J
  obtain⟨Y,Z⟩:=hp aJ;have fI:(0:Int)<=0/\(0:Int)<=18446744073709551615:=bw;cases ph with
  |
   put U o=>
   simp only[iK];have g:=AE (b:=B.ev U) (n:=B.e1 U) K Y.1;refine⟨yp K Y.1,?_⟩;cases d:(dC (B.ev U) (B.e1 U) L o).over with
   |false=>simp only[e2,eI];exact λ_=>⟨⟨g,RO d⟩,rfl⟩
   |
    true=>
    simp only[fu];split
    . exact λ_=>⟨trivial,rfl⟩
    . intro h;exact absurd h MQ
  |
   po U=>
   simp only[iK];refine⟨K,?_⟩;split
   . exact λ_=>⟨K.get _,rfl⟩
   . intro h;cases h
  |
   swp U s=>
   simp only[iK];split
   . exact⟨K.set _ _ bw,λh=>by cases h⟩
   . exact⟨K,λ_=>⟨trivial,rfl⟩⟩
  |
   ask v=>
   simp only[iK];split
   . exact⟨K.set _ _ bw,λ_=>⟨⟨AI bw Y,rfl⟩,rfl⟩⟩
   . exact⟨K,λh=>by cases h⟩
  |set st=>exact⟨K.set _ _ Y,λh=>by cases h⟩
  |
   of r o=>
   simp only[iK];have g:=AE (b:=B.ev r) (n:=B.e1 r) K Y.1;refine⟨yp K Y.1,?_⟩;cases d:(dC (B.ev r) (B.e1 r) L o).over with
   |false=>simp only[e2,eI];exact λ_=>⟨⟨g,RO d⟩,rfl⟩
   |true=>simp only[fu];intro h;exact absurd h MQ
  |
   gone=>
   refine⟨K,λh=>?_⟩;simp only[iK]at h;split at h<;>cases h
  |tQ held=>exact⟨K.set _ _ (by cases held<;>decide),λ_=>⟨⟨AI bw fI,rfl,λ_=>rfl⟩,rfl⟩⟩
  |
   look held r o=>
   simp only[iK];have g:=AE (b:=B.ev r) (n:=B.e1 r) K Y.1;refine⟨yp K Y.1,?_⟩;cases d:(dC (B.ev r) (B.e1 r) L o).over with
   |false=>simp only[e2,eI];exact λ_=>⟨⟨g,RO d,Y.2.2⟩,rfl⟩
   |
    true=>
    simp only[fu];split
    . exact λ_=>⟨trivial,rfl⟩
    . split
      . rename_i co;exact λ_=>⟨⟨AI bw fI,rfl,λh=>by rw[h]at co;simp at co⟩,rfl⟩
      . intro h;cases h
  |
   more held=>
   simp only[iK];split
   . exact⟨K.set _ _ bw,λh=>by cases h⟩
   . exact⟨K,λh=>by cases h⟩
end
end Go.L.dD
namespace Go.L.dP
open Go.L Go.L.Ring Go.L.dD
abbrev jh(x:Int):Prop:=0<=x/\x<=18446744073709551615
structure ig where
 pc:Nat
 out:Int
 v:Int
 t:Int
 b:Int
 ep:Bool
def ig.over(o:ig):Bool:=!decide (o.out=0)
section
variable(b n:Nat)(t:Int)(L:List Int)(en:Bool)(o:ig)(v:Int)
def ig.value:Int:=if o.out=1 then o.v else 0
def kb:Nat:=b+2+(t%(n:Int)).toNat
def h4:List Int:=
 match o.pc with
 |2=>L.set (kb b n o.b) o.v
 |3=>L.set (b+1) (fe (o.b+1))
 |5=>L.set (b+1) (fe (o.b -1))
 |8=>if L.getD b 0=o.t then L.set b (fe (o.t+1))else L
 |9=>L.set (b+1) o.b
 |13=>if L.getD b 0=o.t then L.set b (fe (o.t+1))else L
 |_=>L
def ia:ig:=
 match o.pc with
 |0=>{o with b:=L.getD (b+1) 0,pc:=1}
 |1=>{o with t:=L.getD b 0,pc:=2,out:=if(n:Int)<=fe (o.b -L.getD b 0)then 2 else o.out}
 |2=>{o with pc:=3}
 |3=>{o with out:=1,v:=0}
 |4=>{o with b:=L.getD (b+1) 0,pc:=5}
 |5=>{o with pc:=6}
 |6=>{o with t:=L.getD b 0,pc:=if fe (o.b -1)<L.getD b 0 then 9 else 7}
 |7=>{o with v:=L.getD (kb b n (fe (o.b -1))) 0,pc:=8,out:=if o.t<fe (o.b -1)then 1 else o.out}
 |8=>{o with ep:=decide (L.getD b 0=o.t),pc:=9}
 |9=>{o with out:=if o.ep then 1 else 4}
 |10=>{o with t:=L.getD b 0,pc:=11}
 |11=>{o with b:=L.getD (b+1) 0,pc:=12,out:=if L.getD (b+1) 0<=o.t then 4 else o.out}
 |12=>{o with v:=L.getD (kb b n o.t) 0,pc:=13}
 |13=>{o with out:=if L.getD b 0=o.t then 1 else 6}
 |_=>o
def mi:List Int:=if o.over then L else h4 b n L o
def ji:ig:=if o.over then o else ia b n L o
def mj(pc:Nat)(v:Int):ig:=⟨pc,0,v,0,0,false⟩
structure qc(o:ig):Prop where
 pc:o.pc<=13
 v:jh o.v
 t:jh o.t
 b:jh o.b
structure hK where
 jr:Nat
 en:Bool
 t:Int
 v:Int
 out:Int
def hK.over(o:hK):Bool:=!decide (o.out=0)
def hK.value(o:hK):Int:=if o.out=1/\o.en=true then o.v else 0
def G7:Int:=if en then 1 else 0
def ls:Nat:=b+2+2*(t%(n:Int)).toNat
def yv:Int:=fe (fe (t/n*2)+G7 en)
def n1:Nat:=if en then b+1 else b
def lu(o:hK):List Int:=
 match o.jr with
 |2=>if L.getD (n1 b o.en) 0=o.t then L.set (n1 b o.en) (fe (o.t+1))else L
 |3=>if o.en then L else L.set (ls b n o.t+1) o.v
 |4=>L.set (ls b n o.t) (fe (yv n o.t o.en+1))
 |_=>L
def jS(o:hK):hK:=
 match o.jr with
 |0=>{o with t:=L.getD (n1 b o.en) 0,jr:=1}
 |1=>if L.getD (ls b n o.t) 0=yv n o.t o.en then{o with jr:=2}else if yv n o.t o.en<L.getD (ls b n o.t) 0 then{o with jr:=0}else if o.en then{o with out:=4}else{o with out:=2}
 |2=>{o with jr:=if L.getD (n1 b o.en) 0=o.t then 3 else 0}
 |3=>{o with jr:=4,v:=if o.en then L.getD (ls b n o.t+1) 0 else o.v}
 |4=>{o with out:=1}
 |_=>o
def n2(o:hK):List Int:=if o.over then L else lu b n L o
def iw(o:hK):hK:=if o.over then o else jS b n L o
def kr:hK:=⟨0,en,0,v,0⟩
structure n3(o:hK):Prop where
 jr:o.jr<=4
 t:jh o.t
 v:jh o.v
structure hN where
 k:Nat
 w:Nat
 out:Int
def hN.over(o:hN):Bool:=!decide (o.out=0)
def wq(o:hN):hN:={o with k:=3,w:=o.w+1,out:=if o.w+1=n then 4 else o.out}
def qd(n:Nat)(L:List Int)(o:hN):List Int:=
 match o.k with
 |0=>L.set (b+o.w) 1
 |1=>L.set (b+o.w) 0
 |4=>if L.getD (b+o.w) 0=1 then L.set (b+o.w) 0 else L
 |_=>L
def qe(o:hN):hN:=
 match o.k with
 |0=>{o with out:=1}
 |1=>{o with out:=1}
 |2=>{o with out:=if L.getD (b+o.w) 0=0 then 1 else 4}
 |3=>if L.getD (b+o.w) 0=1 then{o with k:=4}else wq n o
 |4=>if L.getD (b+o.w) 0=1 then{o with out:=7}else wq n o
 |_=>o
def qf(o:hN):List Int:=if o.over then L else qd b n L o
def j1(o:hN):hN:=if o.over then o else qe b n L o
def jL(k w:Nat):hN:=⟨k,w,0⟩
structure fT where
 b:Nat
 bX:Nat
 e0:Nat
 na:Nat
def fT.ek(B:fT):Nat:=B.b+B.bX
end
section
variable(B:fT)(w d n self:Nat)(L:List Int)
def fT.cq:Nat:=B.b+B.bX+(2+2*B.na)+w*(2+B.e0)
def fT.size:Nat:=B.bX+(2+2*B.na)+B.bX*(2+B.e0)
inductive Src
 |pop(w:Nat)
 |take
 |lR(w:Nat)
inductive tv
 |push(w:Nat)(o:ig)(v:Int)
 |enter(o:hK)(v:Int)
 |ring(o:hN)
 |ih(w:Nat)(o:ig)(l:List Src)
 |mU(o:hK)(l:List Src)
 |qg(w:Nat)(o:hN)
 |k1(w:Nat)(o:hK)
 |up(w:Nat)(v:Int)(o:hN)
 |oK(o:hN)
structure gC where
 ph:tv
 out:Int
 val:Int
def gC.over(o:gC):Bool:=!decide (o.out=0)
def lv:List Src->gC
 |[]=>⟨.ring (jL 3 0),4,0⟩
 |.pop w::l=>⟨.ih w (mj 4 0) l,0,0⟩
 |.take::l=>⟨.mU (kr true 0) l,0,0⟩
 |.lR w::l=>⟨.ih w (mj 10 0) l,0,0⟩
def h5(c:gC):List Int×gC:=
 match c.ph with
 |
  .push w o v=>
  let S:=ji (B.cq w) B.e0 L o
  (mi (B.cq w) B.e0 L o,if S.over then(if S.out=2 then⟨.enter (kr false v) v,0,0⟩else⟨.ring (jL 3 0),0,0⟩)else⟨.push w S v,0,0⟩)
 |
  .enter o v=>
  let S:=iw B.ek B.na L o
  (n2 B.ek B.na L o,if S.over then(if S.out=2 then⟨.enter (kr false v) v,0,0⟩else⟨.ring (jL 3 0),0,0⟩)else⟨.enter S v,0,0⟩)
 |
  .ring o=>
  let S:=j1 B.b B.bX L o
  (qf B.b B.bX L o,⟨.ring S,if S.over then 1 else 0,0⟩)
 |
  .ih w o l=>
  let S:=ji (B.cq w) B.e0 L o
  (mi (B.cq w) B.e0 L o,if S.over then(if S.out=1 then⟨.ih w S l,1,S.value⟩else lv l)else⟨.ih w S l,0,0⟩)
 |
  .mU o l=>
  let S:=iw B.ek B.na L o
  (n2 B.ek B.na L o,if S.over then(if S.out=1 then⟨.mU S l,1,S.value⟩else lv l)else⟨.mU S l,0,0⟩)
 |.qg w o=>(qf B.b B.bX L o,⟨.k1 w (kr true 0),0,0⟩)
 |
  .k1 w o=>
  let S:=iw B.ek B.na L o
  (n2 B.ek B.na L o,if S.over then(if S.out=1 then⟨.up w S.value (jL 1 w),0,0⟩else⟨.k1 w S,4,0⟩)else⟨.k1 w S,0,0⟩)
 |.up w v o=>(qf B.b B.bX L o,⟨.up w v (j1 B.b B.bX L o),1,v⟩)
 |.oK o=>(qf B.b B.bX L o,⟨.oK (j1 B.b B.bX L o),(j1 B.b B.bX L o).out,0⟩)
def nA(c:gC):List Int:=if c.over then L else(h5 B L c).1
def lx(c:gC):gC:=if c.over then c else(h5 B L c).2
def n4:Nat->Nat->List Nat->List Nat
 |0,_,_=>[]
 |
  k+1,d,l=>match l[d%(k+1)]?with
  |none=>[]
  |some x=>x::n4 k (d/(k+1)) (l.eraseIdx (d%(k+1)))
def mV:List Nat:=(List.range n).filter (λi=>decide (i≠self))
def order:List Nat:=n4 (n -1) d (mV n self)
def wu(B:fT)(w:Option Nat)(v:Int):gC:=
 match w with
 |some w=>⟨.push w (mj 0 v) v,0,0⟩
 |none=>⟨.enter (kr false v) v,0,0⟩
def yw:gC:=lv (.pop w::.take::(order d B.bX w).map .lR)
def yx:gC:=⟨.qg w (jL 0 w),0,0⟩
def Dr:gC:=⟨.oK (jL 2 w),0,0⟩
structure k2 where
 pc:Nat
 cell:Nat
 seen:Int
 out:Int
def k2.over(o:k2):Bool:=!decide (o.out=0)
def rb(o:k2):List Int:=
 match o.pc with
 |1=>if L.getD o.cell 0=o.seen then L.set o.cell 1 else L
 |3=>if L.getD o.cell 0=1 then L.set o.cell 0 else L
 |4=>if L.getD o.cell 0=1 then L.set o.cell 2 else L
 |_=>L
def qh(o:k2):k2:=
 match o.pc with
 |0=>{o with seen:=L.getD o.cell 0,pc:=1,out:=if L.getD o.cell 0=1 then 4 else o.out}
 |1=>{o with pc:=0,out:=if L.getD o.cell 0=o.seen then 1 else o.out}
 |2=>{o with seen:=L.getD o.cell 0,pc:=3,out:=if L.getD o.cell 0=1 then o.out else 4}
 |3=>{o with pc:=2,out:=if L.getD o.cell 0=1 then 1 else o.out}
 |4=>{o with out:=if L.getD o.cell 0=1 then 1 else 4}
 |_=>o
def rZ(o:k2):List Int:=if o.over then L else rb L o
def r0(o:k2):k2:=if o.over then o else qh L o
def kM(b n x y:Nat):Nat:=b+(x -1)*n+y -1
def ml(pc cell:Nat):k2:=⟨pc,cell,0,0⟩
structure wv(L:List Int)(o:k2):Prop where
 pc:o.pc<=4
 cell:o.cell<L.length
 seen:jh o.seen
end
end Go.L.dP
namespace Go.L.Whl
open Go.L
structure bM where
 id:Int
 due:Nat
 seq:Nat
deriving DecidableEq,Inhabited
structure gm where
 now:Nat
 seq:Nat
 T:List bM
abbrev te(t:bM):List Value:=[bx t.id,af t.due,af t.seq]
def hi(now due:Nat):Nat:=
 if due/512≠now/512 then 24+due/512%8 else if due/64≠now/64 then 16+due/64%8 else if due/8≠now/8 then 8+due/8%8 else due%8
section
variable{z l:Nat}{f:bM->Nat}{w:gm}{g:Nat->Nat}{id d:Int}{T:List bM}{t:bM}{F:Nat}{D:List bM}{k:Nat}{J:List (List bM)}
def TJ(now due:Nat):hi now due<32:=by unfold hi;(repeat' split)<;>omega
def pass(z l u:Nat)(f:bM->Nat):bM->Nat:=λt=>if z%u=0 then(if f t=8*l+z/u%8 then hi z t.due else f t)else f t
theorem aBI(bi:0<z)(h1:z -1<t.due)(h2:t.due<=z -1+4095):
 pass z 3 512 (λt=>hi (z -1) t.due) t=if t.due/512=z/512 then(if z%512=0 then hi z t.due else hi (z -1) t.due)else hi z t.due:=by
 unfold pass;dsimp only;unfold hi;(repeat' split)<;>omega
theorem aBJ(bi:0<z)(h1:z -1<t.due)(h2:t.due<=z -1+4095):
 pass z 2 64 (pass z 3 512 (λt=>hi (z -1) t.due)) t=if t.due/64=z/64 then(if z%64=0 then hi z t.due else hi (z -1) t.due)else hi z t.due:=by
 have e:=aBI bi h1 h2;unfold pass at e⊢;rw[e];unfold hi;(repeat' split)<;>omega
theorem aBK(bi:0<z)(h1:z -1<t.due)(h2:t.due<=z -1+4095):
 pass z 1 8 (pass z 2 64 (pass z 3 512 (λt=>hi (z -1) t.due))) t=hi z t.due:=by
 have e:=aBJ bi h1 h2;rw[show pass z 1 8 (pass z 2 64 (pass z 3 512 (λt=>hi (z -1) t.due))) t=(if z%8=0 then(if pass z 2 64 (pass z 3 512 (λt=>hi (z -1) t.due)) t=8*1+z/8%8 then hi z t.due else pass z 2 64 (pass z 3 512 (λt=>hi (z -1) t.due)) t)else pass z 2 64 (pass z 3 512 (λt=>hi (z -1) t.due)) t)from rfl];rw[e];unfold hi;(repeat' split)<;>omega
def akU{due:Nat}(h1:z<=due)(h2:due<=z+4094):hi z due=z%8↔due=z:=by
 unfold hi;(repeat' split)<;>omega
def iD(f:bM->Nat)(T:List bM)(J:List (List bM)):Prop:=J.length=32/\∀j,j<32->(J.getD j []).Perm (T.filter λt=>f t=j)
def iD.congr{g:bM->Nat}{T:List bM}{J:List (List bM)}(h:iD f T J)(e:∀t∈T,f t=g t):iD g T J:=
 ⟨h.1,λj O=>by rw[show T.filter (λt=>g t=j)=T.filter (λt=>f t=j)from tO λt U=>by rw[e t U]];exact h.2 j O⟩
def iD.lay(h:iD f T J)(t:bM)(U:f t<32):iD f (T++[t]) (J.set (f t) (J.getD (f t) []++[t])):=by
 refine⟨by simp[h.1],λj O=>?_⟩;rw[CR _ _ _ _ _ (by rw[h.1];exact U),yS];by_cases e:j=f t
 . subst e
   rw[bg rfl,show[t].filter (λu=>f u=f t)=[t] by simp];exact(h.2 _ U).append_right _
 . rw[a7 e,show[t].filter (λu=>f u=j)=[] by simp[Ne.symm e],jb]
   exact h.2 j O
def akV{j:Nat}(T:List bM):T.Perm (T.filter (λt=>¬f t=j)++T.filter (λt=>f t=j)):=by
 have:=List.filter_append_perm (λt=>decide (f t=j)) T;refine(this.symm.trans List.perm_append_comm).trans ?_;rw[show T.filter (λx=>!decide (f x=j))=T.filter (λt=>¬f t=j)from tO λt _=>by simp]
def pu(f:bM->Nat)(g:Nat->Nat)(T:List bM)(F:Nat)(D:List bM)(k:Nat)(J:List (List bM)):Prop:=
 J.length=32/\∀j,j<32->(J.getD j []).Perm (T.filter (λt=>¬f t=F/\f t=j)++(D.take k).filter (λt=>g t.due=j))
def pu.start(h:iD f T J){F:Nat}(bi:F<32):pu f g T F (J.getD F []) 0 (J.set F []):=by
 refine⟨by simp[h.1],λj O=>?_⟩;rw[CR _ _ _ _ _ (by rw[h.1];exact bi),OM,List.filter_nil,jb];by_cases e:j=F
 . subst e;rw[bg rfl,List.filter_eq_nil_iff.2 (λt _=>by simp)]
 . rw[a7 e,show T.filter (λt=>¬f t=F/\f t=j)=T.filter (λt=>f t=j)from tO λt _=>by
    by_cases aV:f t=j
    . simp[aV,e]
    . simp[aV]]
   exact h.2 j O
theorem pu.step(h:pu f g T F D k J){t:bM}(hk:D[k]?=some t)(aY:g t.due<32):
 pu f g T F D (k+1) (J.set (g t.due) (J.getD (g t.due) []++[t])):=by
 obtain⟨mt,M⟩:=dp.1 hk;refine⟨by simp[h.1],λj O=>?_⟩;rw[CR _ _ _ _ _ (by rw[h.1];exact aY),nv mt,M,yS,<-jI];by_cases e:j=g t.due
 . subst e
   rw[bg rfl,show[t].filter (λu=>g u.due=g t.due)=[t] by simp];exact(h.2 _ aY).append_right _
 . rw[a7 e,show[t].filter (λu=>g u.due=j)=[] by simp[Ne.symm e],jb]
   exact h.2 j O
theorem pu.done(h:pu f g T F D D.length J)(aS:D.Perm (T.filter λt=>f t=F)):
 iD (λt=>if f t=F then g t.due else f t) T J:=by
 refine⟨h.1,λj O=>?_⟩;have h1:=h.2 j O;rw[nT]at h1;refine h1.trans ((List.Perm.append_left _ (aS.filter _)).trans ?_);have h2:=(akV (f:=f) (j:=F) T).filter (λt=>decide ((if f t=F then g t.due else f t)=j));refine List.Perm.trans (FP ?_) h2.symm;rw[yS,xO,xO,xO]
 congr 1
 . exact adI
 . exact adI
def iD.empty(h:iD f T J){F:Nat}(bi:F<32):iD f (T.filter λt=>¬f t=F) (J.set F []):=by
 have h1:=pu.start (g:=λ_=>0) h bi;refine⟨h1.1,λj O=>?_⟩;have h2:=h1.2 j O;rw[OM,List.filter_nil,jb]at h2;rw[xO];rw[show T.filter (λa=>decide (f a=j)&&decide (¬f a=F))=T.filter (λt=>¬f t=F/\f t=j)from tO λt _=>by by_cases e:f t=j<;>by_cases aV:f t=F<;>simp[e,aV]];exact h2
def iD.all(h:iD f T J)(ba:∀t∈T,f t<32):J.flatten.Perm T:=by
 have key:∀n,n<=32->(J.take n).flatten.Perm (T.filter λt=>f t<n):=by
  intro n
  induction n with
  |zero=>intro _;simp
  |
   succ n L=>
   intro aO;have aw:n<J.length:=by rw[h.1];omega
   rw[nv aw,List.flatten_append,List.flatten_singleton];have aC:=h.2 n ad;rw[iW,cD aw]at aC;have aV:(T.filter λt=>f t<n+1).Perm ((T.filter λt=>f t<n)++T.filter λt=>f t=n):=by
    refine((akV (f:=f) (j:=n) T).filter _).trans (FP ?_);rw[yS,xO,xO]
    congr 1
    . apply tO;intro t _;rw[o0];simp;omega
    . apply tO;intro t _;rw[o0];simp;omega
   exact((L ad).append aC).trans aV.symm
 have:=key 32 (et _);rwa[yW (by rw[h.1];exact et _),RX.2 (λt U=>by simpa using ba t U)]at this
structure jZ(w:gm):Prop where
 nd:(w.T.map (·.id)).Nodup
 due:∀t∈w.T,w.now<t.due/\t.due<=w.now+4095
 xP:w.T.Pairwise (λa b=>a.seq<b.seq)
 sb:∀t∈w.T,t.seq<=w.seq
 len:w.T.length<=64
def gm.get(w:gm)(id:Int):Option bM:=w.T.find? (λt=>decide (t.id=id))
def nW(w:gm)(id d:Int):Int:=if d<1\/4095<d then 1 else if(w.get id).isSome then 3 else if 64<=w.T.length then 4 else 0
def q0(w:gm)(id d:Int):gm:=if nW w id d=0 then⟨w.now,w.seq+1,w.T++[⟨id,w.now+d.toNat,w.seq+1⟩]⟩else w
def q1(w:gm)(id:Int):gm:={w with T:=w.T.filter (λt=>¬t.id=id)}
def tn(w:gm):gm:=⟨w.now+1,w.seq,w.T.filter (λt=>¬t.due=w.now+1)⟩
def mP(w:gm):List bM:=w.T.filter (λt=>t.due=w.now+1)
theorem get_some(h:jZ w){id:Int}{t:bM}(U:t∈w.T)(e:t.id=id):w.get id=some t:=by
 have nd:=h.nd;unfold gm.get;clear h
 generalize w.T=T at*
 induction T with
 |nil=>simp at U
 |
  cons u T L=>
  simp only[gx,List.nodup_cons]at nd;rw[aji];rcases ky.1 U with h1|h1
  . subst h1;simp[e]
  . have:u.id≠id:=λh2=>nd.1 (by rw[h2,<-e];exact ER h1)
    simp only[this,decide_false];exact L h1 nd.2
theorem get_none:w.get id=none↔∀t∈w.T,t.id≠id:=by
 unfold gm.get;rw[RD];simp
theorem get_mem(h:w.get id=some t):t∈w.T/\t.id=id:=by
 unfold gm.get at h;exact⟨qT h,by simpa using List.find?_some h⟩
theorem jZ.cut(h:jZ w)(id:Int):jZ (q1 w id)where
 nd:=h.nd.sublist ((FR).map _)
 due:=λt U=>h.due t (oL.1 U).1
 xP:=h.xP.sublist FR
 sb:=λt U=>h.sb t (oL.1 U).1
 len:=mZ (qm _ _) h.len
def jZ.tick(h:jZ w):jZ (tn w)where
 nd:=h.nd.sublist ((FR).map _)
 due:=λt U=>by
  have h1:=oL.1 U;have h2:=h.due t h1.1;have aN:¬t.due=w.now+1:=by simpa using h1.2
  show w.now+1<t.due/\t.due<=w.now+1+4095;omega
 xP:=h.xP.sublist FR
 sb:=λt U=>h.sb t (oL.1 U).1
 len:=mZ (qm _ _) h.len
theorem aBL(h:nW w id d=0):1<=d/\d<=4095/\w.get id=none/\w.T.length<64:=by
 unfold nW at h;(repeat' split at h)<;>first|omega|(rename_i h1 h2 aN;refine⟨by omega,by omega,?_,by omega⟩;simpa using h2)
theorem jZ.add(h:jZ w)(id d:Int):jZ (q0 w id d):=by
 unfold q0;split
 . rename_i e
   obtain⟨h1,h2,aN,bA⟩:=aBL e;have d3:=get_none.1 aN;exact {
    nd:=by
     show((w.T++[(⟨id,w.now+d.toNat,w.seq+1⟩:bM)]).map (·.id)).Nodup;rw[oY,List.nodup_append];refine⟨h.nd,by simp,λa aX b aA=>?_⟩;obtain⟨t,U,rfl⟩:=lN.1 aX;have:b=id:=by simpa using aA
     subst this;exact d3 t U
    due:=λt U=>by
     rcases kX.1 U with U|U
     . exact h.due t U
     . have:t=_:=rN.1 U
       subst this;show w.now<w.now+d.toNat/\w.now+d.toNat<=w.now+4095;omega
    xP:=by
     show(w.T++[_]).Pairwise _;rw[List.pairwise_append];refine⟨h.xP,by simp,λa aX b aA=>?_⟩;have:b=_:=rN.1 aA;subst this;have:=h.sb a aX;show a.seq<w.seq+1;omega
    sb:=λt U=>by
     rcases kX.1 U with U|U
     . have:=h.sb t U;show t.seq<=w.seq+1;omega
     . have:t=_:=rN.1 U
       subst this;exact et _
    len:=by show(w.T++[_]).length<=64;simp;omega}
 . exact h
def jZ.nil:jZ q7:=⟨by simp,by simp,by simp,by simp,by simp⟩
theorem afv(h:d<1\/4095<d):nW w id d=1:=by unfold nW;rw[bg h]
theorem akQ(h:¬(d<1\/4095<d)){t:bM}(h2:w.get id=some t):nW w id d=3:=by unfold nW;rw[a7 h,h2];rfl
theorem akR(h:¬(d<1\/4095<d))(h2:w.get id=none)(aN:64<=w.T.length):nW w id d=4:=by unfold nW;rw[a7 h,h2,bg aN];rfl
theorem akS(h:¬(d<1\/4095<d))(h2:w.get id=none)(aN:¬64<=w.T.length):nW w id d=0:=by unfold nW;rw[a7 h,h2,a7 aN];rfl
theorem Rn(h:nW w id d≠0):q0 w id d=w:=by unfold q0;rw[a7 h]
theorem aBD(h:w.get id=none):q1 w id=w:=by
 unfold q1;rw[RX.2 (λt U=>by simpa using get_none.1 h t U)]
def aBG(h:jZ w):w.T.filter (λt=>hi (w.now+1) t.due=(w.now+1)%8)=mP w:=by
 unfold mP;apply tO;intro t U;have:=h.due t U;rw[o0,ln,ln];exact akU ad ad
def aBH(h:jZ w):w.T.filter (λt=>¬hi (w.now+1) t.due=(w.now+1)%8)=(tn w).T:=by
 unfold tn;apply tO;intro t U;have:=h.due t U;rw[o0,ln,ln,akU ad ad]
def aBE(h:l<=3):IntKind.i64.wrap (1*2^((3*l:Nat):Int).toNat)=((2^(3*l):Nat):Int):=by
 rcases(show l=0\/l=1\/l=2\/l=3 by omega)with rfl|rfl|rfl|rfl<;>decide
def qR(z:Nat):Nat->bM->Nat
 |0=>pass z 1 8 (pass z 2 64 (pass z 3 512 (λt=>hi (z -1) t.due)))
 |1=>pass z 2 64 (pass z 3 512 (λt=>hi (z -1) t.due))
 |2=>pass z 3 512 (λt=>hi (z -1) t.due)
 |_=>λt=>hi (z -1) t.due
def akT(h1:1<=l)(h2:l<=3):qR z (l -1)=pass z l (2^(3*l)) (qR z l):=by
 rcases(show l=1\/l=2\/l=3 by omega)with rfl|rfl|rfl<;>rfl
def aBF(bi:0<z)(aS:z -1<t.due)(f:t.due<=z -1+4095):qR z 0 t=hi z t.due:=aBK bi aS f
def iD.short(h:iD f T J){l:List bM}(aw:l∈J):l.length<=T.length:=by
 obtain⟨j,O,e⟩:=FT aw;have h1:=h.2 j OQ;rw[iW,cD O,e]at h1;have h1:l.Perm _:=h1;rw[h1.length_eq];exact qm _ _
def pu.short(h:pu f g T F D k J){l:List bM}(aw:l∈J):l.length<=T.length+D.length:=by
 obtain⟨j,O,e⟩:=FT aw;have h1:=h.2 j OQ;rw[iW,cD O,e]at h1;have h1:l.Perm _:=h1;rw[h1.length_eq,eZ];have h2:=qm (λt=>decide (g t.due=j)) (D.take k);have aN:=qm (λt=>decide (¬f t=F/\f t=j)) T;have bA:(D.take k).length<=D.length:=Io;omega
def iD.jr(h:iD f T J){j:Nat}{l:List bM}(aw:J[j]?=some l):j<32/\l.Perm (T.filter λt=>f t=j):=by
 have O:j<J.length:=(dp.1 aw).1;have h1:=h.2 j OQ;rw[iW,aw]at h1;exact⟨by rw[<-h.1];exact O,h1⟩
theorem aBM(nd:(T.map (·.id)).Nodup){u t:bM}(d7:u∈T)(U:t∈T)(bF:u.id=t.id):u=t:=by
 obtain⟨a,aX,dx⟩:=FT d7;obtain⟨b,aA,ho⟩:=FT U;have j:a=b:=by
  have g3:(T.map (·.id))[a]?=(T.map (·.id))[b]?:=by simp[fD,cD aX,cD aA,dx,ho,bF]
  exact(List.getElem?_inj (by simpa using aX) nd).1 g3
 subst j;rw[<-dx,<-ho]
theorem iD.cut(h:iD f T J)(nd:(T.map (·.id)).Nodup){j i:Nat}{l:List bM}{t:bM}(aw:J[j]?=some l)(U:l[i]?=some t):iD f (T.filter λu=>¬u.id=t.id) (J.set j (l.eraseIdx i)):=by
 obtain⟨O,hp⟩:=h.jr aw;have b:t∈T.filter λt=>f t=j:=hp.subset Jz;have C:=(oL.1 b).1;have m:f t=j:=by simpa using(oL.1 b).2
 have a:(l.map (·.id)).Nodup:=(hp.map _).nodup_iff.2 (nd.sublist ((FR).map _));refine⟨by simp[h.1],λk hk=>?_⟩;rw[CR _ _ _ _ _ (by rw[h.1];exact O)];by_cases e:k=j
 . subst e
   rw[bg rfl,xO];have aC:l.eraseIdx i=l.filter λu=>¬u.id=t.id:=by
    clear hp aw b
    induction l generalizing i with
    |nil=>simp at U
    |
     cons u l L=>
     simp only[gx,List.nodup_cons]at a;cases i with
     |
      zero=>
      simp only[Yl,Option.some.injEq]at U;subst U;rw[List.eraseIdx_cons_zero,On,a7 gl];exact(RX.2 λv Z=>by simp;intro e;exact a.1 (by rw[<-e];exact ER Z)).symm
     |
      succ i=>
      simp only[HV]at U;have V:u.id≠t.id:=λe=>a.1 (by rw[e];exact ER Jz);rw[List.eraseIdx_cons_succ,On,bg (by simpa using V),L U a.2]
   rw[aC];refine(hp.filter _).trans (FP ?_);rw[xO];apply tO;intro u _;simp[Bool.and_comm]
 . rw[a7 e]
   have h1:=h.2 k hk;refine h1.trans (FP ?_);rw[xO];apply tO;intro u d7;by_cases aV:f u=k
   . have:u.id≠t.id:=λbF=>by
      have:u=t:=aBM nd d7 C bF;subst this;exact e (aV.symm.trans m)
     simp[aV,this]
   . simp[aV]
def aBw{l m:List bM}(hp:l.Perm m)(h1:l.Pairwise (λa b=>a.seq<=b.seq))(h2:m.Pairwise Jy):l=m:=by
 refine hp.eq_of_pairwise (le:=λa b=>a.seq<=b.seq) (λa b aX aA aN bA=>?_) h1 (h2.imp λh=>xh h);have L:b∈m:=aA;have c:a∈m:=hp.subset aX;obtain⟨i,ak,aC⟩:=FT c;obtain⟨j,O,aV⟩:=FT L;rcases Nat.lt_trichotomy i j with h|h|h
 . have:=ahO.1 h2 i j ak O h
   rw[aC,aV]at this;omega
 . subst h;rw[<-aC,<-aV]
 . have:=ahO.1 h2 j i O ak h
   rw[aC,aV]at this;omega
end
end Go.L.Whl
namespace Go.L
section
variable{P:Program}{H w:World}{n:Nat}{J:e6}{M:List al}{bH:TypeId}
section
variable{t e aZ:Nat}{x y F:Operand}{a:Option Addr}{l c i k:Nat}{cR b8:IntKind}
theorem XN{q:Operand}{a:Option Addr}{l c i k m:Nat}{cR b8 il:IntKind}[j:jU P t e aZ](ah:cm J x=some yJ)(ag:cm J y=some (.int cR (i:Int)))(T:cm J F=some (.int b8 (k:Int)))(bt:cm J q=some (.int il (m:Int)))(h1:i<=k)(h2:k<=m)(aN:m<=c):
 b1 P H n (.slice t x (some y) (some F) (some q)) bH J M (.slice (if m=i then a else a.map (λx:Addr=>x.add (i*aZ))) (k -i) (m -i)):=λaD w d pos N g ai _=>by
 obtain⟨z,W,cU,em⟩:=j.out;simp only[execOp,nD,Ga,ai.eval ah,ai.eval ag,ai.eval T,ai.eval bt];simp[Instr.sliceAt,Instr.slice,gG W,jP cU,em,Instr.sliceBounds,Instr.sliceBound,asIntOf,h1,h2,aN]
theorem XO[j:jU P t e aZ](ah:cm J x=some yJ)(ag:cm J y=some (.int cR (i:Int)))(T:cm J F=some (.int b8 (k:Int)))(h1:i<=k)(h2:k<=c):
 b1 P H n (.slice t x (some y) (some F) none) bH J M (.slice XP (k -i) (c -i)):=λaD w d pos N g ai _=>by
 obtain⟨z,W,cU,em⟩:=j.out;simp only[execOp,nD,Ga,ai.eval ah,ai.eval ag,ai.eval T];simp[Instr.sliceAt,Instr.slice,gG W,jP cU,em,Instr.sliceBounds,Instr.sliceBound,asIntOf,h1,h2]
def XQ(b k:Nat):Addr.add oy k=⟨b,k,none⟩:=by unfold Addr.add;split<;>simp_all
theorem XR{b i j k C:Nat}{t e:TypeId}{aZ bytes:Nat}{V xs:List Value}{u:List Value->List al}[it:jM P t e aZ bytes V][r:sd (.slice jA k C) M e aZ k xs u](ah:cm J x=some (.slice jA i C))
 (ag:cm J y=some (.slice (if C=j then some oy else(some (oy:Addr)).map (λx:Addr=>x.add (j*aZ))) (k -j) (C -j)))(g1:i<=j)(O:j<=k)(hk:k<=C)(h1:∀x∈xs,x.oneCell'=true):
 c7 P H n NM bH J M (λv' I=>v'=.slice jA (i+(k -j)) C/\I=u (xs.take (i*aZ)++xs.drop (j*aZ)++xs.drop ((i+(k -j))*aZ))):=λa w d pos N g ai s=>by
 obtain⟨z,F,W,cU,rfl,gc,hm,G,Q⟩:=it.out;obtain⟨aw,co|⟨l,Y,dJ,Z,b8,il,ez,f⟩⟩:=r.get s.fg
 . cases co.1
 . simp only[Value.slice.injEq,Option.some.injEq,Addr.mk.injEq]at Z
   obtain⟨⟨rfl,_,_⟩,_,rfl⟩:=Z;have U:w.heap[b]?=some Hz:=f;obtain⟨A,B,c⟩:∃A:Addr,(if C=j then some (oy:Addr)else(some (oy:Addr)).map (λx:Addr=>x.add (j*z.size)))=some A/\∀q x,(xs.drop (j*z.size))[q]?=some x->w.cell? (A.add q)=some x:=by
    by_cases h:C=j
    . refine⟨oy,by rw[bg h],λq x bt=>?_⟩
      rw[List.drop_of_length_le (by rw[aw,show j=k by omega];exact et _)]at bt;simp at bt
    . refine⟨⟨b,j*z.size,none⟩,by rw[a7 h,nD,XQ],λq x bt=>?_⟩
      rw[ud];rw[LY]at bt;have d4:=(dp.1 bt).1;simp[World.cell?,U,kY d4,bt]
   rw[B]at ag;have v:(xs.drop (j*z.size)).length=(k -j)*z.size:=by rw[vP,aw,Nat.sub_mul]
   have H1:i*z.size+(k -j)*z.size=(i+(k -j))*z.size:=by rw[nb]
   have o:(i+(k -j))*z.size<=k*z.size:=pN _ ad;have aF:=run_append_room (P:=P) w t bH e z W cU b i C (xs++dJ).toArray U A (k -j) (C -j) (xs.drop (j*z.size)) v c (λx ah=>h1 x (List.mem_of_mem_drop ah)) ad (by rw[v,x2,eZ,aw];omega);have m:i*z.size<=xs.length:=by rw[aw];omega
   have aC:((xs++dJ).toArray.toList.take (i*z.size)++xs.drop (j*z.size)++(xs++dJ).toArray.toList.drop (i*z.size+(xs.drop (j*z.size)).length))=HA++dJ:=by
    rw[v,H1,HB m,apa (by rw[aw];exact o)];simp
   rw[aC]at aF;have hlen:(xs.take (i*z.size)++xs.drop (j*z.size)++xs.drop ((i+(k -j))*z.size)).length=xs.length:=by
    simp only[eZ,oC,vP];rw[v.symm.trans (vP ..)]at H1;omega
   refine⟨_,_,w.setRow b (HA++dJ).toArray,?_,cj,s.os,s.tape,s.output,by have:=s.size;simpa[World.setRow]using this,?_⟩
   . simp only[execOp,resolve,oM,gx,mO,ai.eval ah,ai.eval ag]
     simp[invoke,builtin]at aF⊢;simp[aF]
   . have aV:fW (w.setRow b (HA++dJ).toArray)=j0 (fW w) b (.cells (HA++dJ).toArray e (0,0)):=by
      unfold World.setRow;rw[wo _ f]
     rw[aV];exact r.set _ s.fg rfl f hlen
end
def AY{Q:Exit->Act->World->Prop}{E:Array Oper}{op:Op}{pos:String}{N:Array Edge}{rest:List Oper}{p:Value->List al->Prop}(Z:c7 P H n op bH J M p)(h:∀v I,p v I->cJ P H n E rest J I Q):cJ P H n E MT J M Q:=
 λa w ai s=>wpList_plain rfl λK cV=>by
  obtain⟨v,I,X,aF,hp,aW⟩:=Z a w none pos N none ai s;simp only[Oper.wp,aF,Oper.upon];exact cV _ _ (h v I hp _ _ ai aW)
def apb(V:List Value)(m:Nat):(Builtin.zeroCells V.toArray m).toList=iV V m:=by
 rcases HC V.length with h|h
 . have:V=[]:=rR h
   subst this;have aF:∀m,iV ([]:List Value) m=[]:=λm=>by induction m with|zero=>rfl|succ m L=>simp[iV,L]
   simp[Builtin.zeroCells,aF]
 . apply uQ
   intro j;simp only[Builtin.zeroCells];rcases rY j (m*V.length)with x|x
   . have bf:j%V.length<V.length:=yK _ h
     rw[NN V h m j x];simp[x,bf]
   . exact XS
theorem NO{x:Operand}{b n' k m C c:Nat}{t e:TypeId}{aZ bytes:Nat}{V xs:List Value}{u:List Value->List al}[it:jM P t e aZ bytes V][r:sd (.slice jA n' C) M e aZ n' xs u](aO:k+m=n')(ah:cm J x=some (.slice (if C=k then some oy else(some (oy:Addr)).map (λx:Addr=>x.add (k*aZ))) m c))(bf:0<m)(h1:∀x∈V,x.oneCell'=true):
 c7 P H n (.call {callee:=.builtin .clear,args:=#[x],argTypes:=#[t]}) bH J M (λv' I=>v'=.tuple #[]/\I=u (xs.take (k*aZ)++iV V m)):=λa w d pos N g ai s=>by
 subst aO;obtain⟨z,F,W,cU,rfl,gc,hm,G,Q⟩:=it.out;obtain⟨aw,co|⟨l,Y,dJ,Z,b8,il,ez,f⟩⟩:=r.get s.fg
 . cases co.1
 . simp only[Value.slice.injEq,Option.some.injEq,Addr.mk.injEq]at Z
   obtain⟨⟨rfl,_,_⟩,_,rfl⟩:=Z;have U:w.heap[b]?=some Hz:=f;rw[a7 ad,nD,XQ]at ah;have p:(iV V m).length=m*z.size:=by rw[AZ,Q]
   have hw:(k+m)*z.size=k*z.size+m*z.size:=nb ..;have ge:=run_storeCells_at P b (k*z.size) e (iV V m) 0 (xs++dJ).toArray w U (by rw[p,x2,eZ,aw];omega) (λx ah=>by
    have:∀m,∀x∈iV V m,x.oneCell'=true:=λm=>by
     induction m with
     |zero=>intro x ah;simp[iV]at ah
     |succ m L=>intro x ah;simp only[iV,kX]at ah;rcases ah with ah|ah;exact h1 x ah;exact L x ah
    exact this m x ah)
   have gJ:((xs++dJ).toArray.toList.take (k*z.size+0)++iV V m++(xs++dJ).toArray.toList.drop (k*z.size+0+(iV V m).length))=(xs.take (k*z.size)++iV V m)++dJ:=by
    rw[p,HD,<-hw,<-aw];simp[HB (show k*z.size<=xs.length by rw[aw];omega)]
   rw[gJ]at ge;obtain⟨q,rfl⟩:∃q,m=q+1:=⟨m -1,by omega⟩;refine⟨_,_,w.setRow b (NP++dJ).toArray,?_,cj,s.os,s.tape,s.output,by have:=s.size;simpa[World.setRow]using this,?_⟩
   . have i:=apb V (q+1)
     simp only[execOp,resolve,oM,gx,mO,ai.eval ah];simp only[invoke];simp[builtin,Builtin.clear_,gG W,vQ cU hm,G,i]at ge⊢;simp[ge]
   . have aV:fW (w.setRow b (NP++dJ).toArray)=j0 (fW w) b (.cells (NP++dJ).toArray e (0,0)):=by
      unfold World.setRow;rw[wo _ f]
     rw[aV];exact r.set _ s.fg rfl f (by rw[eZ,p,oC,aw];omega)
end
def HE{b n k C:Nat}{e:TypeId}{aZ:Nat}{xs:List Value}{D:List al}(h:k<=n):∀H,Sat (own (.slice (some ⟨b,0,none⟩) n C) e aZ n xs::D) H->Sat (own (.slice jA k C) e aZ k (xs.take (k*aZ))::D) H:=λ_=>Sat.head λg co=>by
 obtain⟨aw,co|⟨l,Y,dJ,Z,b8,il,ez,f⟩⟩:=co
 . cases co.1
 . simp only[Value.slice.injEq,Option.some.injEq,Addr.mk.injEq]at Z
   obtain⟨⟨rfl,_,_⟩,_,rfl⟩:=Z;have o:k*aZ<=n*aZ:=pN _ h;refine⟨by rw[oC,aw];omega,.inr ⟨b,C,xs.drop (k*aZ)++dJ,rfl,?_,by omega,ez,?_⟩⟩
   . rw[<-jI,CL];exact b8
   . rw[<-jI,CL];exact f
end Go.L
