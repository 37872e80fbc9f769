import Derived.Test.YtnnhpnccfnghdaaGreatR3
import Derived.Test.YtnnhpnccfnghdaaGreatChecked
import Derived.Lib.SmallJoins
set_option linter.all false
set_option maxRecDepth 100000
namespace Go.Proofs.YtnnhpnccfnghdaaGreat.L
open Go.L
noncomputable abbrev aa:=Tryz.prog
section
variable{P:Program}{t s f e:Nat}
def YA(p:Array Field->Bool):TypeDesc->Bool
 |.struct gp=>p gp
 |_=>false
def aqE{p:Array Field->Bool}{d:TypeDesc}(h:YA p d=true):∃gp,d=.struct gp/\p gp=true:=by
 cases d<;>first|exact⟨_,rfl,h⟩|cases h
theorem fh{U:List Value}(h:(P.info? t).map (λi=>(i.zero.map (·.cells)))=some (some U.toArray):=by kernel_rfl):eY P t U:=by
 cases ak:P.info? t with
 |none=>rw[ak]at h;cases h
 |
  some i=>
  rw[ak]at h;simp only[nJ,Option.some.injEq]at h;cases T:i.zero with
  |none=>rw[T]at h;cases h
  |some E=>rw[T]at h;simp only[nJ,Option.some.injEq]at h;exact⟨i,E,ak,T,h⟩
theorem oe{n:Nat}(h:(pX (P.underlying t) uZ&&pX (P.info? t) (λi=>Nat.beq i.size n))=true:=by kernel_rfl):j9 P t n:=by
 obtain⟨h1,h2⟩:=DS.1 h;obtain⟨d,h1,aN⟩:=qt h1;obtain⟨i,h2,bu⟩:=qt h2;exact⟨⟨d,h1,aN⟩,i,h2,lA bu⟩
theorem fp(h:(pX (P.underlying t) (λd=>!uZ d)&&pX (P.info? t) (λi=>Nat.beq i.size 1))=true:=by kernel_rfl):eQ P t:=by
 obtain⟨h1,h2⟩:=DS.1 h;obtain⟨d,h1,aN⟩:=qt h1;obtain⟨i,h2,bu⟩:=qt h2;exact⟨⟨d,h1,by simpa using aN⟩,i,h2,lA bu⟩
theorem N0{k:IntKind}(h:P.underlying t=some (.int k):=by kernel_rfl):tB P t k:=⟨h⟩
theorem aqF(h:P.underlying t=some .bool:=by kernel_rfl):HS P t:=⟨h⟩
theorem aqG(h:P.underlying t=some .string:=by kernel_rfl):Be P t:=⟨h⟩
theorem HT(h:pX (P.underlying t) (fun|.pointer _=>true|_=>false)=true:=by kernel_rfl):u0 P t:=by
 obtain⟨d,h1,h2⟩:=qt h;cases d<;>first|exact⟨_,h1⟩|cases h2
theorem mu{E:Nat}(h:P.underlying t=some (.slice e):=by kernel_rfl)(g:pX (P.info? e) (λi=>Nat.beq i.size E)=true:=by kernel_rfl):jS P t e E:=by
 obtain⟨i,h1,h2⟩:=qt g;exact⟨i,h,h1,lA h2⟩
theorem nf{E b:Nat}{U:List Value}(h:P.underlying t=some (.slice e):=by kernel_rfl)(g:pX (P.info? e) (λi=>Nat.beq i.size E&&Nat.beq i.bytes b)=true:=by kernel_rfl)(i:eY P e U:=by infer_instance)(l:U.length=E:=by rfl):jI P t e E b U:=by
 obtain⟨j,h1,h2⟩:=qt g;obtain⟨h2,aN⟩:=DS.1 h2;obtain⟨a,y,W,Z,d8⟩:=i.out;obtain rfl:j=a:=od (h1.symm.trans W);exact⟨j,y,h,h1,lA h2,lA aN,Z,d8,l⟩
theorem HU{n E:Nat}(h:pX (P.underlying t) (fun|.array m e=>Nat.beq m n&&pX (P.info? e) (λi=>Nat.beq i.size E)|_=>false)=true:=by kernel_rfl):Bf P t n E:=by
 obtain⟨d,h1,h2⟩:=qt h;cases d<;>first|cases h2;done|skip
 obtain⟨h2,aN⟩:=DS.1 h2;obtain⟨i,aN,bu⟩:=qt aN;exact⟨_,i,by rw[h1,lA h2],aN,lA bu⟩
theorem Bg{d6:IntKind}{E:Value}{k:Nat}(h:P.underlying t=some (.map k e))(hk:P.underlying k=some (.int d6))(g:(P.info? e).map (·.zero)=some (some E):=by kernel_rfl):sp P t d6 E:=by
 cases ak:P.info? e with
 |none=>rw[ak]at g;cases g
 |some i=>rw[ak]at g;exact⟨k,e,i,h,hk,ak,od g⟩
theorem bT{o:Nat}(h:pX (P.underlying s) (YA λgp=>pX gp[f]? λd=>Nat.beq d.offset o&&pX (P.info? d.type) λi=>!Nat.beq i.size 0)=true:=by kernel_rfl):bS P s f o:=by
 obtain⟨d,h1,h2⟩:=qt h;obtain⟨gp,rfl,h2⟩:=aqE h2;obtain⟨d,h2,aN⟩:=qt h2;obtain⟨aN,bu⟩:=DS.1 aN;obtain⟨i,bu,dW⟩:=qt bu;exact⟨gp,d,i,h1,h2,lA aN,bu,λh=>by rw[h]at dW;cases dW⟩
theorem aqH{c:List Bh}{gp:Array Field}(h:P.underlying t=some (.struct gp))(g:gp.toList.map (λf=>(f.offset,HV P f))=c.zipIdx.map (λp=>(p.2,some p.1)):=by kernel_rfl)(a:P.stoodInHeld t=false:=by kernel_rfl)(b:P.eqGuardType P.depth t=false:=by kernel_rfl):N1 P t c:=⟨⟨gp,h,g⟩,a,b⟩
theorem hM{H:List (Nat×Nat)}{U:List Value}{gp:Array Field}(h:P.underlying t=some (.struct gp))(i:eY P t U:=by infer_instance)(g:gp.toList.map (λf=>(f.offset,((P.info? f.type).map (·.size))))=H.map (λp=>(p.1,some p.2)):=by kernel_rfl):hD P t H U:=
 let⟨j,E,a,b,c⟩:=i.out;⟨j,E,gp,a,b,c,h,g⟩
end
def HW{P:Program}{t:TypeId}{E:Value}{s b:Nat}(h:(P.info? t).map (λi=>(i.zero,i.size,i.bytes))=some (some E,s,b)):∃i,P.info? t=some i/\i.zero=some E/\i.size=s/\i.bytes=b:=by
 cases ak:P.info? t with
 |none=>rw[ak]at h;cases h
 |some i=>rw[ak]at h;simp only[nJ,Option.some.injEq,Prod.mk.injEq]at h;exact⟨i,rfl,h.1,h.2.1,h.2.2⟩
instance:eY aa 1 [.nilFunc]:=fh
instance:eY aa 3 [ej]:=fh
instance:eY aa 4 [gR]:=fh
instance:eY aa 9 [nK]:=fh
instance:eY aa 23 N2:=fh
instance:eY aa 26 DT:=fh
instance:eY aa 32 ng:=fh
instance:eY aa 36 [og]:=fh
instance:eY aa 38 N3:=fh
instance:eY aa 49 DT:=fh
instance:eY aa 51 N4:=fh
instance:eY aa 54 Bi:=fh
instance:eY aa 60 YB:=fh
instance:eY aa 78 N5:=fh
instance:eY aa 82 N6:=fh
instance:eY aa 85 N7:=fh
instance:eY aa 87 N8:=fh
instance:eY aa 89 N9:=fh
instance:eY aa 106 ng:=fh
instance:eY aa 108 YC:=fh
instance:eY aa 111 YD:=fh
instance:eY aa 116 ng:=fh
instance:eY aa 118 YE:=fh
instance:eY aa 128 YF:=fh
instance:eY aa 134 Oa:=fh
instance:eY aa 161 YG:=fh
instance:eY aa 164 Ob:=fh
instance:eY aa 168 YH:=fh
instance:eY aa 169 ng:=fh
instance:eY aa 175 HX:=fh
instance:eY aa 181 [e2,ej]:=fh
instance:eY aa 187 YI:=fh
instance:eY aa 188 [.nilFunc]:=fh
instance:eY aa 191 [gR,ej]:=fh
instance:eY aa 205 [fP,fP,e2]:=fh
instance:eY aa 210 ng:=fh
instance:eY aa 213 ng:=fh
instance:eY aa 219 YJ:=fh
instance:eY aa 221 HY:=fh
instance:eY aa 223 YK:=fh
instance:eY aa 232 ng:=fh
instance:eY aa 237 [.nilIface]:=fh
instance:eY aa 238 ng:=fh
instance:eY aa 240 [.nilFunc]:=fh
instance:eY aa 241 ng:=fh
instance:eY aa 246 ng:=fh
instance:eY aa 248 ng:=fh
instance:eY aa 261 Oc:=fh
instance:eY aa 275 HY:=fh
instance:eY aa 277 Bj:=fh
instance:eY aa 279 Bj:=fh
instance:eY aa 281 Bj:=fh
instance:eY aa 282 DT:=fh
instance:eY aa 286 YL:=fh
instance:eY aa 289 [ej,ej,(.map none)]:=fh
instance:eY aa 295 YM:=fh
instance:eY aa 299 YN:=fh
instance:eY aa 302 YO:=fh
instance:eY aa 306 HX:=fh
instance:eY aa 310 YP:=fh
instance:eY aa 311 ng:=fh
instance:eY aa 314 ng:=fh
instance:eY aa 317 (.nilFunc::gR::HZ):=fh
instance:eY aa 326 ng:=fh
instance:eY aa 336 Bi:=fh
instance:eY aa 356 YQ:=fh
instance:eY aa 367 YR:=fh
instance:eY aa 380 DT:=fh
instance:eY aa 392 ng:=fh
instance:eY aa 409 YS:=fh
instance:eQ aa 1:=fp
def Od:(aa.info? 3).map (λi=>(i.zero,i.size,i.bytes))=some (some ej,1,8):=by kernel_rfl
instance:eQ aa 3:=fp
instance:tB aa 3 .i64:=N0
instance:eQ aa 4:=fp
instance:HS aa 4:=aqF
instance:eQ aa 9:=fp
instance:Be aa 9:=aqG
instance:j9 aa 23 9:=oe
instance:bS aa 23 0 0:=bT
instance:bS aa 23 1 1:=bT
instance:bS aa 23 2 2:=bT
instance:bS aa 23 3 3:=bT
instance:bS aa 23 4 4:=bT
instance:bS aa 23 5 5:=bT
instance:bS aa 23 6 6:=bT
instance:bS aa 23 7 7:=bT
instance:bS aa 23 8 8:=bT
instance:hD aa 23 Oe N2:=hM Tryz.underlying23
instance:eQ aa 24:=fp
instance:jS aa 24 78 5:=mu
instance:jI aa 24 78 5 80 N5:=nf
instance:j9 aa 26 1:=oe
instance:bS aa 26 0 0:=bT
instance:hD aa 26 [(0,1)] DT:=hM Tryz.underlying26
instance:eQ aa 27:=fp
instance:jS aa 27 60 5:=mu
instance:eQ aa 30:=fp
instance:eQ aa 32:=fp
instance:u0 aa 32:=HT
instance:eQ aa 34:=fp
instance:jS aa 34 38 9:=mu
instance:jI aa 34 38 9 80 N3:=nf
instance:eQ aa 36:=fp
instance:tB aa 36 .u64:=N0
instance:j9 aa 38 9:=oe
instance:bS aa 38 0 0:=bT
instance:N1 aa 38 [.int .i64,.int .i64,.int .u64,.int .i64,.int .i64,.str,.int .i64,.int .i64,.bool]:=aqH Tryz.underlying38
instance:hD aa 38 Oe N3:=hM Tryz.underlying38
instance:eQ aa 39:=fp
instance:jS aa 39 3 1:=mu
instance:jI aa 39 3 1 8 [ej]:=nf
instance:jS aa 47 51 9:=mu
instance:jI aa 47 51 9 152 N4:=nf
def aqI:(aa.info? 49).map (λi=>(i.zero,i.size,i.bytes))=some (some e2,1,24):=by kernel_rfl
instance:eQ aa 49:=fp
instance:jS aa 49 36 1:=mu
instance:jI aa 49 36 1 8 [og]:=nf
instance:bS aa 51 4 4:=bT
instance:hD aa 51 Oe N4:=hM Tryz.underlying51
instance:eQ aa 52:=fp
instance:jS aa 52 54 3:=mu
instance:jI aa 52 54 3 24 Bi:=nf
instance:j9 aa 54 3:=oe
instance:hD aa 54 sq Bi:=hM Tryz.underlying54
instance:j9 aa 57 12:=oe
instance:bS aa 57 0 0:=bT
instance:bS aa 57 1 9:=bT
instance:bS aa 57 2 10:=bT
instance:bS aa 57 3 11:=bT
instance:j9 aa 60 5:=oe
instance:bS aa 60 0 0:=bT
instance:bS aa 60 1 1:=bT
instance:bS aa 60 2 2:=bT
instance:bS aa 60 3 3:=bT
instance:bS aa 60 4 4:=bT
instance:hD aa 60 Bk YB:=hM Tryz.underlying60
instance:eQ aa 75:=fp
instance:jS aa 75 89 2:=mu
instance:jI aa 75 89 2 24 N9:=nf
instance:eQ aa 76:=fp
instance:jS aa 76 82 2:=mu
instance:jI aa 76 82 2 40 N6:=nf
instance:j9 aa 78 5:=oe
instance:bS aa 78 0 0:=bT
instance:bS aa 78 1 1:=bT
instance:bS aa 78 2 2:=bT
instance:bS aa 78 3 3:=bT
instance:bS aa 78 4 4:=bT
instance:hD aa 78 Bk N5:=hM Tryz.underlying78
instance:eQ aa 80:=fp
instance:jS aa 80 85 4:=mu
instance:jI aa 80 85 4 56 N7:=nf
instance:j9 aa 82 2:=oe
instance:bS aa 82 0 0:=bT
instance:bS aa 82 1 1:=bT
instance:hD aa 82 [(0,1),(1,1)] N6:=hM Tryz.underlying82
instance:eQ aa 83:=fp
instance:jS aa 83 87 7:=mu
instance:jI aa 83 87 7 80 N8:=nf
instance:j9 aa 85 4:=oe
instance:bS aa 85 0 0:=bT
instance:bS aa 85 1 1:=bT
instance:bS aa 85 2 2:=bT
instance:bS aa 85 3 3:=bT
instance:hD aa 85 DU N7:=hM Tryz.underlying85
instance:j9 aa 87 7:=oe
instance:bS aa 87 0 0:=bT
instance:bS aa 87 1 1:=bT
instance:bS aa 87 2 2:=bT
instance:bS aa 87 3 3:=bT
instance:bS aa 87 4 4:=bT
instance:bS aa 87 5 5:=bT
instance:bS aa 87 6 6:=bT
instance:hD aa 87 Of N8:=hM Tryz.underlying87
instance:j9 aa 89 2:=oe
instance:bS aa 89 0 0:=bT
instance:bS aa 89 1 1:=bT
instance:eQ aa 95:=fp
instance:u0 aa 95:=HT
instance:eQ aa 96:=fp
instance:eQ aa 97:=fp
instance:eQ aa 98:=fp
instance:eQ aa 99:=fp
instance:jS aa 99 116 1:=mu
instance:jI aa 99 116 1 8 ng:=nf
instance:eQ aa 100:=fp
instance:sp aa 100 .i64 fP:=Bg Tryz.underlying100 Tryz.underlying3
instance:eQ aa 101:=fp
instance:sp aa 101 .u64 fP:=Bg Tryz.underlying101 Tryz.underlying36
instance:eQ aa 102:=fp
instance:jS aa 102 261 3:=mu
instance:jI aa 102 261 3 32 Oc:=nf
instance:eQ aa 103:=fp
instance:eQ aa 104:=fp
instance:eQ aa 105:=fp
instance:jS aa 105 106 1:=mu
instance:jI aa 105 106 1 8 ng:=nf
instance:eQ aa 106:=fp
instance:bS aa 108 0 0:=bT
instance:bS aa 108 1 9:=bT
instance:bS aa 108 2 10:=bT
instance:bS aa 108 3 11:=bT
instance:bS aa 108 4 12:=bT
instance:bS aa 108 5 13:=bT
instance:bS aa 108 6 14:=bT
instance:bS aa 108 7 15:=bT
instance:bS aa 108 8 16:=bT
instance:bS aa 108 9 17:=bT
instance:bS aa 108 10 18:=bT
instance:bS aa 108 11 19:=bT
instance:bS aa 108 12 20:=bT
instance:bS aa 108 13 21:=bT
instance:bS aa 108 14 22:=bT
instance:bS aa 108 15 23:=bT
instance:bS aa 108 16 24:=bT
instance:bS aa 108 17 25:=bT
instance:bS aa 108 18 26:=bT
instance:bS aa 108 19 27:=bT
instance:bS aa 108 20 28:=bT
instance:bS aa 108 21 29:=bT
instance:hD aa 108 [(0,9),(9,1),(10,1),(11,1),(12,1),(13,1),(14,1),(15,1),(16,1),(17,1),(18,1),(19,1),(20,1),(21,1),(22,1),(23,1),(24,1),(25,1),(26,1),(27,1),(28,1),(29,1)] YC:=hM Tryz.underlying108
instance:eQ aa 110:=fp
instance:u0 aa 110:=HT
instance:j9 aa 111 4:=oe
instance:Bf aa 111 4 1:=HU
instance:eQ aa 112:=fp
instance:eQ aa 113:=fp
instance:eQ aa 114:=fp
instance:sp aa 114 .i64 gR:=Bg Tryz.underlying114 Tryz.underlying3
instance:eQ aa 115:=fp
instance:eQ aa 116:=fp
instance:bS aa 118 0 0:=bT
instance:bS aa 118 1 1:=bT
instance:bS aa 118 2 2:=bT
instance:bS aa 118 3 7:=bT
instance:bS aa 118 4 8:=bT
instance:bS aa 118 5 12:=bT
instance:bS aa 118 6 13:=bT
instance:bS aa 118 7 14:=bT
instance:bS aa 118 8 15:=bT
instance:bS aa 118 9 16:=bT
instance:bS aa 118 10 17:=bT
instance:bS aa 118 11 18:=bT
instance:bS aa 118 12 19:=bT
instance:hD aa 118 [(0,1),(1,1),(2,5),(7,1),(8,4),(12,1),(13,1),(14,1),(15,1),(16,1),(17,1),(18,1),(19,1)] YE:=hM Tryz.underlying118
instance:eQ aa 126:=fp
instance:bS aa 128 0 0:=bT
instance:bS aa 128 1 1:=bT
instance:bS aa 128 2 2:=bT
instance:bS aa 128 3 3:=bT
instance:bS aa 128 4 4:=bT
instance:bS aa 128 5 5:=bT
instance:hD aa 128 [(0,1),(1,1),(2,1),(3,1),(4,1),(5,1)] YF:=hM Tryz.underlying128
instance:u0 aa 131:=HT
instance:eQ aa 132:=fp
instance:bS aa 134 1 1:=bT
instance:hD aa 134 [(0,1),(1,1)] Oa:=hM Tryz.underlying134
instance:eQ aa 158:=fp
instance:sp aa 158 .u64 ej:=Bg Tryz.underlying158 Tryz.underlying36
instance:Bf aa 159 9 1:=HU
instance:bS aa 161 0 0:=bT
instance:bS aa 161 1 1:=bT
instance:bS aa 161 2 2:=bT
instance:hD aa 161 [(0,1),(1,1),(2,9)] YG:=hM Tryz.underlying161
instance:bS aa 164 0 0:=bT
instance:bS aa 164 1 1:=bT
instance:bS aa 164 2 2:=bT
instance:hD aa 164 sq Ob:=hM Tryz.underlying164
instance:eQ aa 166:=fp
instance:sp aa 166 .i64 ej:=Bg Tryz.underlying166 Tryz.underlying3
instance:bS aa 168 0 0:=bT
instance:bS aa 168 1 1:=bT
instance:bS aa 168 2 2:=bT
instance:bS aa 168 3 3:=bT
instance:hD aa 168 DU YH:=hM Tryz.underlying168
instance:eQ aa 169:=fp
instance:bS aa 173 0 0:=bT
instance:bS aa 173 1 1:=bT
instance:bS aa 173 2 2:=bT
instance:bS aa 173 3 3:=bT
instance:bS aa 175 0 0:=bT
instance:bS aa 175 1 4:=bT
instance:hD aa 175 [(0,4),(4,1)] HX:=hM Tryz.underlying175
instance:bS aa 181 0 0:=bT
instance:bS aa 181 1 1:=bT
instance:hD aa 181 [(0,1),(1,1)] [e2,ej]:=hM Tryz.underlying181
instance:j9 aa 187 5:=oe
instance:bS aa 187 0 0:=bT
instance:bS aa 187 1 1:=bT
instance:bS aa 187 2 2:=bT
instance:bS aa 187 3 3:=bT
instance:bS aa 187 4 4:=bT
instance:hD aa 187 Bk YI:=hM Tryz.underlying187
instance:eQ aa 188:=fp
instance:j9 aa 191 2:=oe
instance:bS aa 191 0 0:=bT
instance:bS aa 191 1 1:=bT
instance:hD aa 191 [(0,1),(1,1)] [gR,ej]:=hM Tryz.underlying191
instance:eQ aa 201:=fp
instance:eQ aa 202:=fp
instance:eQ aa 203:=fp
instance:jS aa 203 210 1:=mu
instance:jI aa 203 210 1 8 ng:=nf
instance:bS aa 205 0 0:=bT
instance:bS aa 205 1 1:=bT
instance:bS aa 205 2 2:=bT
instance:hD aa 205 sq [fP,fP,e2]:=hM Tryz.underlying205
instance:eQ aa 210:=fp
instance:eQ aa 213:=fp
instance:eQ aa 216:=fp
instance:bS aa 219 0 0:=bT
instance:bS aa 219 1 1:=bT
instance:bS aa 219 2 2:=bT
instance:bS aa 219 3 3:=bT
instance:bS aa 219 4 4:=bT
instance:hD aa 219 Bk YJ:=hM Tryz.underlying219
instance:bS aa 221 0 0:=bT
instance:bS aa 221 1 1:=bT
instance:bS aa 221 2 2:=bT
instance:hD aa 221 sq HY:=hM Tryz.underlying221
instance:bS aa 223 0 0:=bT
instance:bS aa 223 1 1:=bT
instance:bS aa 223 2 2:=bT
instance:bS aa 223 3 3:=bT
instance:hD aa 223 DU YK:=hM Tryz.underlying223
instance:eQ aa 232:=fp
instance:eQ aa 237:=fp
instance:eQ aa 238:=fp
instance:eQ aa 240:=fp
instance:eQ aa 241:=fp
instance:eQ aa 243:=fp
instance:jS aa 243 240 1:=mu
instance:jI aa 243 240 1 8 [.nilFunc]:=nf
instance:eQ aa 246:=fp
instance:eQ aa 248:=fp
instance:eQ aa 255:=fp
instance:eQ aa 259:=fp
instance:j9 aa 261 3:=oe
instance:bS aa 261 0 0:=bT
instance:bS aa 261 1 1:=bT
instance:bS aa 261 2 2:=bT
instance:hD aa 261 sq Oc:=hM Tryz.underlying261
instance:jS aa 264 191 2:=mu
instance:jI aa 264 191 2 16 [gR,ej]:=nf
instance:bS aa 275 0 0:=bT
instance:bS aa 275 1 1:=bT
instance:bS aa 275 2 2:=bT
instance:hD aa 275 sq HY:=hM Tryz.underlying275
instance:bS aa 277 0 0:=bT
instance:bS aa 277 1 1:=bT
instance:bS aa 277 2 2:=bT
instance:hD aa 277 sq Bj:=hM Tryz.underlying277
instance:bS aa 279 0 0:=bT
instance:bS aa 279 1 1:=bT
instance:bS aa 279 2 2:=bT
instance:hD aa 279 sq Bj:=hM Tryz.underlying279
instance:bS aa 281 0 0:=bT
instance:bS aa 281 1 1:=bT
instance:bS aa 281 2 2:=bT
instance:hD aa 281 sq Bj:=hM Tryz.underlying281
instance:eQ aa 282:=fp
instance:jS aa 282 336 3:=mu
instance:jI aa 282 336 3 24 Bi:=nf
instance:Bf aa 283 8 1:=HU
instance:Bf aa 284 4 8:=HU
instance:bS aa 286 0 0:=bT
instance:bS aa 286 1 1:=bT
instance:bS aa 286 2 2:=bT
instance:hD aa 286 [(0,1),(1,1),(2,32)] YL:=hM Tryz.underlying286
instance:eQ aa 287:=fp
instance:sp aa 287 .i64 e2:=Bg Tryz.underlying287 Tryz.underlying3
instance:bS aa 289 0 0:=bT
instance:bS aa 289 1 1:=bT
instance:bS aa 289 2 2:=bT
instance:hD aa 289 sq [ej,ej,(.map none)]:=hM Tryz.underlying289
instance:eQ aa 293:=fp
instance:bS aa 295 0 0:=bT
instance:bS aa 295 1 1:=bT
instance:bS aa 295 2 2:=bT
instance:bS aa 295 3 3:=bT
instance:hD aa 295 DU YM:=hM Tryz.underlying295
instance:bS aa 299 0 0:=bT
instance:bS aa 299 1 1:=bT
instance:bS aa 299 2 2:=bT
instance:bS aa 299 3 3:=bT
instance:bS aa 299 4 4:=bT
instance:bS aa 299 5 5:=bT
instance:bS aa 299 6 6:=bT
instance:hD aa 299 Of YN:=hM Tryz.underlying299
instance:eQ aa 300:=fp
instance:bS aa 302 0 0:=bT
instance:bS aa 302 1 1:=bT
instance:bS aa 302 2 2:=bT
instance:bS aa 302 3 3:=bT
instance:bS aa 302 4 4:=bT
instance:bS aa 302 5 5:=bT
instance:bS aa 302 6 6:=bT
instance:hD aa 302 Of YO:=hM Tryz.underlying302
instance:bS aa 306 0 0:=bT
instance:bS aa 306 1 4:=bT
instance:hD aa 306 [(0,4),(4,1)] HX:=hM Tryz.underlying306
instance:bS aa 310 0 0:=bT
instance:bS aa 310 1 4:=bT
instance:bS aa 310 2 5:=bT
instance:bS aa 310 3 6:=bT
instance:bS aa 310 4 7:=bT
instance:hD aa 310 [(0,4),(4,1),(5,1),(6,1),(7,1)] YP:=hM Tryz.underlying310
instance:eQ aa 311:=fp
instance:eQ aa 314:=fp
instance:bS aa 317 0 0:=bT
instance:bS aa 317 1 1:=bT
instance:bS aa 317 2 2:=bT
instance:bS aa 317 3 3:=bT
instance:hD aa 317 DU (.nilFunc::gR::HZ):=hM Tryz.underlying317
instance:eQ aa 326:=fp
instance:j9 aa 336 3:=oe
instance:bS aa 336 0 0:=bT
instance:bS aa 336 1 1:=bT
instance:hD aa 336 sq Bi:=hM Tryz.underlying336
instance:j9 aa 356 5:=oe
instance:bS aa 356 0 0:=bT
instance:bS aa 356 1 1:=bT
instance:bS aa 356 2 2:=bT
instance:bS aa 356 3 3:=bT
instance:bS aa 356 4 4:=bT
instance:hD aa 356 Bk YQ:=hM Tryz.underlying356
instance:bS aa 367 0 0:=bT
instance:bS aa 367 1 1:=bT
instance:bS aa 367 2 2:=bT
instance:bS aa 367 3 3:=bT
instance:bS aa 367 4 4:=bT
instance:bS aa 367 5 5:=bT
instance:hD aa 367 [(0,1),(1,1),(2,1),(3,1),(4,1),(5,1)] YR:=hM Tryz.underlying367
instance:jS aa 379 9 1:=mu
instance:jI aa 379 9 1 16 [nK]:=nf
instance:eQ aa 380:=fp
instance:jS aa 380 213 1:=mu
instance:jI aa 380 213 1 8 ng:=nf
instance:eQ aa 392:=fp
instance:bS aa 409 0 0:=bT
instance:bS aa 409 1 1:=bT
instance:bS aa 409 2 2:=bT
instance:bS aa 409 3 3:=bT
instance:bS aa 409 4 4:=bT
instance:hD aa 409 Bk YS:=hM Tryz.underlying409
def mixed:aa.follows .mixedOrders=true:=by kernel_rfl
end Go.Proofs.YtnnhpnccfnghdaaGreat.L
namespace Go.Proofs.YtnnhpnccfnghdaaGreat.L
open Go.L Go.L.Lx Go.L.Pg Go.RowKit Go.Deep
attribute[local irreducible] G cE GE cY GT b0 df c4 di Exit.then Exit.inBlock
section
variable{F:Type}{enc:TypeId×Value->F}{P:Program}{w:World}{E:Nat}{D:Nat->Bool}{held:Bool}
section
variable{t e n aY z:Nat}{cs:List Value}{y:DataW F×List MemPlace}{c:Value}{bO:Nat}
theorem aul{zA aY z:Nat}{cs:List Value}{x:DataW F×List MemPlace}(R:P.underlying t=some (.slice e))(l:P.cellsOf e=aY)(bh:0<aY)(b:P.bytesOf e=z){T:Type}[Inhabited T](g:T->List Value)(Good:T->Prop)(hlen:∀q,(g q).length=aY)
 (r:∀n k d,DataW.trod enc P w E D held n e k=some d->l7 P e d.1->∃q,k=g q/\Good q)(h:DataW.trod enc P w E D held zA t cs=some x)(O:l7 P t x.1):
 ∃(a:Option Addr) (C:Nat) (s:List T),cs=[.slice a s.length C]/\(∀q∈s,Good q)/\eO (s.length*z)/\iD (fR w) a C s.length (s.flatMap g):=by
 obtain⟨a,C,s,ay,aF,bf,aE,ah⟩:=atx (λd=>l7 P e d) R l g Good hlen r (λel dx e=>(aid R (e▸O)).2) h;have a6:s.length<=C:=by
  rcases DataW.trod_slice R h with⟨aV,_⟩|⟨aI,len,p,u,rest,n,_,aV,_,_,av,_⟩
  . exact adp
  . exact adp
 refine⟨a,C,s,ay,aF,?_,aE bh,a6⟩;unfold eO;rcases ah with⟨_,h2⟩|⟨el,dx,h2,aN⟩
 . rw[h2];omega
 . have bu:=(aid R (h2▸O)).1
   rw[b,aN]at bu;have:reachBytes=140737488351232:=bJ;omega
theorem lN(d4:P.underlying t=some (.int .i64))(a6:P.cellsOf t=1)(h:DataW.trod enc P w E D held n t ((cs.drop bO).take (P.cellsOf t))=some y)(B:(cs.drop bO).take 1=[c]):∃v,c=vo v:=by
 rw[a6,B]at h;obtain⟨v,e,_⟩:=DataW.trod_int d4 h;exact⟨v,by simpa using e⟩
theorem aum(d4:P.underlying t=some .bool)(a6:P.cellsOf t=1)(h:DataW.trod enc P w E D held n t ((cs.drop bO).take (P.cellsOf t))=some y)(B:(cs.drop bO).take 1=[c]):∃v,c=.bool v:=by
 rw[a6,B]at h;obtain⟨v,e,_⟩:=DataW.trod_bool d4 h;exact⟨v,by simpa using e⟩
theorem ik(d4:P.underlying t=some .string)(a6:P.cellsOf t=1)(h:DataW.trod enc P w E D held n t ((cs.drop bO).take (P.cellsOf t))=some y)(O:l7 P t y.1)(B:(cs.drop bO).take 1=[c]):∃v,c=xr v/\eO v.length:=by
 rw[a6,B]at h;obtain⟨⟨⟨s⟩⟩,e,rfl,aj⟩:=DataW.trod_string d4 h;exact⟨s,by simpa using e,atw O⟩
theorem B1{T:Type}[Inhabited T](g:T->List Value)(Good:T->Prop)(hlen:∀q,(g q).length=aY)(r:∀n k d,DataW.trod enc P w E D held n e k=some d->l7 P e d.1->∃q,k=g q/\Good q)
 (R:P.underlying t=some (.slice e))(l:P.cellsOf e=aY)(bh:0<aY)(b:P.bytesOf e=z)(a6:P.cellsOf t=1)(h:DataW.trod enc P w E D held n t ((cs.drop bO).take (P.cellsOf t))=some y)(O:l7 P t y.1)(B:(cs.drop bO).take 1=[c]):
 ∃(a:Option Addr) (C:Nat) (s:List T),c=.slice a s.length C/\(∀q∈s,Good q)/\eO (s.length*z)/\iD (fR w) a C s.length (s.flatMap g):=by
 rw[a6,B]at h;obtain⟨a,C,s,ay,h1⟩:=aul R l bh b g Good hlen r h O;exact⟨a,C,s,by simpa using ay,h1⟩
end
end
section
variable{F:Type}
def aun{enc:TypeId×Value->F}{w:World}{E:Nat}{D:Nat->Bool}{held:Bool}(n:Nat)(cs:List Value)(d:DataW F×List MemPlace)(h:DataW.trod enc aa w E D held n 87 cs=some d)(O:l7 aa 87 d.1):∃q,cs=fO q/\CQ q:=by
 obtain⟨xs,m,_,rfl,av,hlen,ba⟩:=DataW.trod_struct Tryz.underlying87 h;rw[show aa.cellsOf 87=7 by kernel_rfl]at av;replace hlen:xs.length=7:=hlen;obtain⟨en,c1,bn,b9,d5,d9,ge,rfl⟩:∃en c1 bn b9 d5 d9 ge,cs=[en,c1,bn,b9,d5,d9,ge]:=by match cs,av with|[en,c1,bn,b9,d5,d9,ge],_=>exact⟨_,_,_,_,_,_,_,rfl⟩
 obtain⟨b,g⟩:∃y,xs[0]?=some y:=⟨_,cz ae⟩;have f0:=(ba 0 _ rfl).trans g;have l:=ib (i:=0) Tryz.underlying87 O rfl (show(xs.map (·.1))[0]?=some b.1 by rw[fs,g];rfl);obtain⟨v0,rfl⟩:=lN Tryz.underlying3 (show aa.cellsOf 3=1 by kernel_rfl) f0 rfl;obtain⟨a,W⟩:∃y,xs[1]?=some y:=⟨_,cz ae⟩;have f1:=(ba 1 _ rfl).trans W;have aG:=ib (i:=1) Tryz.underlying87 O rfl (show(xs.map (·.1))[1]?=some a.1 by rw[fs,W];rfl);obtain⟨v1,rfl,cS⟩:=ik Tryz.underlying9 (show aa.cellsOf 9=1 by kernel_rfl) f1 aG rfl;obtain⟨f,Z⟩:∃y,xs[2]?=some y:=⟨_,cz ae⟩;have f2:=(ba 2 _ rfl).trans Z;have bb:=ib (i:=2) Tryz.underlying87 O rfl (show(xs.map (·.1))[2]?=some f.1 by rw[fs,Z];rfl);obtain⟨u,rfl,cd⟩:=ik Tryz.underlying9 (show aa.cellsOf 9=1 by kernel_rfl) f2 bb rfl;obtain⟨j,d8⟩:∃y,xs[3]?=some y:=⟨_,cz ae⟩;have f3:=(ba 3 _ rfl).trans d8;have b6:=ib (i:=3) Tryz.underlying87 O rfl (show(xs.map (·.1))[3]?=some j.1 by rw[fs,d8];rfl);obtain⟨v3,rfl,ir⟩:=ik Tryz.underlying9 (show aa.cellsOf 9=1 by kernel_rfl) f3 b6 rfl;obtain⟨t,gc⟩:∃y,xs[4]?=some y:=⟨_,cz ae⟩;have f4:=(ba 4 _ rfl).trans gc;have bK:=ib (i:=4) Tryz.underlying87 O rfl (show(xs.map (·.1))[4]?=some t.1 by rw[fs,gc];rfl);obtain⟨v4,rfl⟩:=lN Tryz.underlying3 (show aa.cellsOf 3=1 by kernel_rfl) f4 rfl;obtain⟨o,hm⟩:∃y,xs[5]?=some y:=⟨_,cz ae⟩;have f5:=(ba 5 _ rfl).trans hm;have bB:=ib (i:=5) Tryz.underlying87 O rfl (show(xs.map (·.1))[5]?=some o.1 by rw[fs,hm];rfl);obtain⟨v5,rfl⟩:=lN Tryz.underlying3 (show aa.cellsOf 3=1 by kernel_rfl) f5 rfl;obtain⟨r,G⟩:∃y,xs[6]?=some y:=⟨_,cz ae⟩;have f6:=(ba 6 _ rfl).trans G;have bi:=ib (i:=6) Tryz.underlying87 O rfl (show(xs.map (·.1))[6]?=some r.1 by rw[fs,G];rfl);obtain⟨e,rfl⟩:=lN Tryz.underlying3 (show aa.cellsOf 3=1 by kernel_rfl) f6 rfl;exact⟨⟨v0,v1,u,v3,v4,v5,e⟩,rfl,⟨cS,cd,ir⟩⟩
def auo{enc:TypeId×Value->F}{w:World}{E:Nat}{D:Nat->Bool}{held:Bool}(n:Nat)(cs:List Value)(d:DataW F×List MemPlace)(h:DataW.trod enc aa w E D held n 85 cs=some d)(O:l7 aa 85 d.1):∃q,cs=hs q/\x7 (fR w) q:=by
 obtain⟨xs,m,_,rfl,av,hlen,ba⟩:=DataW.trod_struct Tryz.underlying85 h;rw[show aa.cellsOf 85=4 by kernel_rfl]at av;replace hlen:xs.length=4:=hlen;obtain⟨en,c1,bn,b9,rfl⟩:∃en c1 bn b9,cs=[en,c1,bn,b9]:=by match cs,av with|[en,c1,bn,b9],_=>exact⟨_,_,_,_,rfl⟩
 obtain⟨b,g⟩:∃y,xs[0]?=some y:=⟨_,cz ae⟩;have f0:=(ba 0 _ rfl).trans g;have l:=ib (i:=0) Tryz.underlying85 O rfl (show(xs.map (·.1))[0]?=some b.1 by rw[fs,g];rfl);obtain⟨v0,rfl,fd⟩:=ik Tryz.underlying9 (show aa.cellsOf 9=1 by kernel_rfl) f0 l rfl;obtain⟨a,W⟩:∃y,xs[1]?=some y:=⟨_,cz ae⟩;have f1:=(ba 1 _ rfl).trans W;have aG:=ib (i:=1) Tryz.underlying85 O rfl (show(xs.map (·.1))[1]?=some a.1 by rw[fs,W];rfl);obtain⟨v1,rfl⟩:=aum Tryz.underlying4 (show aa.cellsOf 4=1 by kernel_rfl) f1 rfl;obtain⟨f,Z⟩:∃y,xs[2]?=some y:=⟨_,cz ae⟩;have f2:=(ba 2 _ rfl).trans Z;have bb:=ib (i:=2) Tryz.underlying85 O rfl (show(xs.map (·.1))[2]?=some f.1 by rw[fs,Z];rfl);obtain⟨u,rfl⟩:=lN Tryz.underlying3 (show aa.cellsOf 3=1 by kernel_rfl) f2 rfl;obtain⟨j,d8⟩:∃y,xs[3]?=some y:=⟨_,cz ae⟩;have f3:=(ba 3 _ rfl).trans d8;have b6:=ib (i:=3) Tryz.underlying85 O rfl (show(xs.map (·.1))[3]?=some j.1 by rw[fs,d8];rfl);obtain⟨a3,sL,bZ,rfl,c,V,o⟩:=B1 fO (λq=>CQ q) x3 (λn cs d h w=>aun n cs d h w) Tryz.underlying83 (show aa.cellsOf 87=7 by kernel_rfl) bJ (show aa.bytesOf 87=80 by kernel_rfl) (show aa.cellsOf 83=1 by kernel_rfl) f3 b6 rfl;exact⟨⟨v0,v1,u,a3,sL,bZ⟩,rfl,⟨fd,o,V,c⟩⟩
def aup{enc:TypeId×Value->F}{w:World}{E:Nat}{D:Nat->Bool}{held:Bool}(n:Nat)(cs:List Value)(d:DataW F×List MemPlace)(h:DataW.trod enc aa w E D held n 82 cs=some d)(O:l7 aa 82 d.1):∃q,cs=gy q/\vS (fR w) q:=by
 obtain⟨xs,m,_,rfl,av,hlen,ba⟩:=DataW.trod_struct Tryz.underlying82 h;rw[show aa.cellsOf 82=2 by kernel_rfl]at av;replace hlen:xs.length=2:=hlen;obtain⟨en,c1,rfl⟩:∃en c1,cs=[en,c1]:=ZQ;obtain⟨b,g⟩:∃y,xs[0]?=some y:=⟨_,cz ae⟩;have f0:=(ba 0 _ rfl).trans g;have l:=ib (i:=0) Tryz.underlying82 O rfl (show(xs.map (·.1))[0]?=some b.1 by rw[fs,g];rfl);obtain⟨v0,rfl,fd⟩:=ik Tryz.underlying9 (show aa.cellsOf 9=1 by kernel_rfl) f0 l rfl;obtain⟨a,W⟩:∃y,xs[1]?=some y:=⟨_,cz ae⟩;have f1:=(ba 1 _ rfl).trans W;have aG:=ib (i:=1) Tryz.underlying82 O rfl (show(xs.map (·.1))[1]?=some a.1 by rw[fs,W];rfl);obtain⟨cr,gA,s1,rfl,c,m1,gP⟩:=B1 hs (λq=>x7 (fR w) q) uj (λn cs d h w=>auo n cs d h w) Tryz.underlying80 (show aa.cellsOf 85=4 by kernel_rfl) bJ (show aa.bytesOf 85=56 by kernel_rfl) (show aa.cellsOf 80=1 by kernel_rfl) f1 aG rfl;exact⟨⟨v0,cr,gA,s1⟩,rfl,⟨fd,gP,m1,c⟩⟩
def auq{enc:TypeId×Value->F}{w:World}{E:Nat}{D:Nat->Bool}{held:Bool}(n:Nat)(cs:List Value)(d:DataW F×List MemPlace)(h:DataW.trod enc aa w E D held n 89 cs=some d)(O:l7 aa 89 d.1):∃q,cs=jN q/\eO q.reason.length:=by
 obtain⟨xs,m,_,rfl,av,hlen,ba⟩:=DataW.trod_struct Tryz.underlying89 h;rw[show aa.cellsOf 89=2 by kernel_rfl]at av;replace hlen:xs.length=2:=hlen;obtain⟨en,c1,rfl⟩:∃en c1,cs=[en,c1]:=ZQ;obtain⟨b,g⟩:∃y,xs[0]?=some y:=⟨_,cz ae⟩;have f0:=(ba 0 _ rfl).trans g;have l:=ib (i:=0) Tryz.underlying89 O rfl (show(xs.map (·.1))[0]?=some b.1 by rw[fs,g];rfl);obtain⟨v0,rfl,fd⟩:=ik Tryz.underlying9 (show aa.cellsOf 9=1 by kernel_rfl) f0 l rfl;obtain⟨a,W⟩:∃y,xs[1]?=some y:=⟨_,cz ae⟩;have f1:=(ba 1 _ rfl).trans W;have aG:=ib (i:=1) Tryz.underlying89 O rfl (show(xs.map (·.1))[1]?=some a.1 by rw[fs,W];rfl);obtain⟨v1,rfl⟩:=lN Tryz.underlying3 (show aa.cellsOf 3=1 by kernel_rfl) f1 rfl;exact⟨⟨v0,v1⟩,rfl,fd⟩
def aur{enc:TypeId×Value->F}{w:World}{E:Nat}{D:Nat->Bool}{held:Bool}(n:Nat)(cs:List Value)(d:DataW F×List MemPlace)(h:DataW.trod enc aa w E D held n 78 cs=some d)(O:l7 aa 78 d.1):∃q,cs=eK q/\lm (fR w) q:=by
 obtain⟨xs,m,_,rfl,av,hlen,ba⟩:=DataW.trod_struct Tryz.underlying78 h;rw[show aa.cellsOf 78=5 by kernel_rfl]at av;replace hlen:xs.length=5:=hlen;obtain⟨en,c1,bn,b9,d5,rfl⟩:∃en c1 bn b9 d5,cs=[en,c1,bn,b9,d5]:=ZR;obtain⟨b,g⟩:∃y,xs[0]?=some y:=⟨_,cz ae⟩;have f0:=(ba 0 _ rfl).trans g;have l:=ib (i:=0) Tryz.underlying78 O rfl (show(xs.map (·.1))[0]?=some b.1 by rw[fs,g];rfl);obtain⟨v0,rfl,fd⟩:=ik Tryz.underlying9 (show aa.cellsOf 9=1 by kernel_rfl) f0 l rfl;obtain⟨a,W⟩:∃y,xs[1]?=some y:=⟨_,cz ae⟩;have f1:=(ba 1 _ rfl).trans W;have aG:=ib (i:=1) Tryz.underlying78 O rfl (show(xs.map (·.1))[1]?=some a.1 by rw[fs,W];rfl);obtain⟨v1,rfl⟩:=lN Tryz.underlying3 (show aa.cellsOf 3=1 by kernel_rfl) f1 rfl;obtain⟨f,Z⟩:∃y,xs[2]?=some y:=⟨_,cz ae⟩;have f2:=(ba 2 _ rfl).trans Z;have bb:=ib (i:=2) Tryz.underlying78 O rfl (show(xs.map (·.1))[2]?=some f.1 by rw[fs,Z];rfl);obtain⟨u,rfl⟩:=lN Tryz.underlying3 (show aa.cellsOf 3=1 by kernel_rfl) f2 rfl;obtain⟨j,d8⟩:∃y,xs[3]?=some y:=⟨_,cz ae⟩;have f3:=(ba 3 _ rfl).trans d8;have b6:=ib (i:=3) Tryz.underlying78 O rfl (show(xs.map (·.1))[3]?=some j.1 by rw[fs,d8];rfl);obtain⟨a3,sL,bZ,rfl,c,V,o⟩:=B1 jN (λq=>eO q.reason.length) Am (λn cs d h w=>auq n cs d h w) Tryz.underlying75 (show aa.cellsOf 89=2 by kernel_rfl) bJ (show aa.bytesOf 89=24 by kernel_rfl) (show aa.cellsOf 75=1 by kernel_rfl) f3 b6 rfl;obtain⟨t,gc⟩:∃y,xs[4]?=some y:=⟨_,cz ae⟩;have f4:=(ba 4 _ rfl).trans gc;have bK:=ib (i:=4) Tryz.underlying78 O rfl (show(xs.map (·.1))[4]?=some t.1 by rw[fs,gc];rfl);obtain⟨a4,xv,i0,rfl,e,GS,tk⟩:=B1 gy (λq=>vS (fR w) q) rf (λn cs d h w=>aup n cs d h w) Tryz.underlying76 (show aa.cellsOf 82=2 by kernel_rfl) bJ (show aa.bytesOf 82=40 by kernel_rfl) (show aa.cellsOf 76=1 by kernel_rfl) f4 bK rfl;exact⟨⟨v0,v1,u,a3,sL,bZ,a4,xv,i0⟩,rfl,⟨fd,o,V,c,tk,GS,e⟩⟩
def aus{enc:TypeId×Value->F}{w:World}{E:Nat}{D:Nat->Bool}{held:Bool}(n:Nat)(cs:List Value)(d:DataW F×List MemPlace)(h:DataW.trod enc aa w E D held n 26 cs=some d)(O:l7 aa 26 d.1):∃a c K,cs=[.slice a (List.length K) c]/\hT (fR w) a c K:=by
 obtain⟨xs,m,_,rfl,av,hlen,ba⟩:=DataW.trod_struct Tryz.underlying26 h;rw[show aa.cellsOf 26=1 by kernel_rfl]at av;replace hlen:xs.length=1:=hlen;obtain⟨en,rfl⟩:∃en,cs=[en]:=by match cs,av with|[en],_=>exact⟨_,rfl⟩
 obtain⟨b,g⟩:∃y,xs[0]?=some y:=⟨_,cz ae⟩;have f0:=(ba 0 _ rfl).trans g;have l:=ib (i:=0) Tryz.underlying26 O rfl (show(xs.map (·.1))[0]?=some b.1 by rw[fs,g];rfl);obtain⟨a,p,s,rfl,aK,bf,aE⟩:=B1 eK (λq=>lm (fR w) q) Df (λn cs d h w=>aur n cs d h w) Tryz.underlying24 (show aa.cellsOf 78=5 by kernel_rfl) bJ (show aa.bytesOf 78=80 by kernel_rfl) (show aa.cellsOf 24=1 by kernel_rfl) f0 l rfl;exact⟨a,p,s,rfl,⟨aE,bf,aK⟩⟩
def Y1{W:World}{a:Option Addr}{c:Nat}{K:List b2}(p:hT (fR W) a c K):∀h,base W h->hT h a c K:=λh aA=>p.imp λb o e=>by
 have dV:b<W.heap.size:=by
  rcases r7 b W.heap.size with x|x
  . exact x
  . rw[show fR W b=W.heap[b]?from rfl,Hf x]at e;cases e
 rw[aA b dV];exact e
end
end Go.Proofs.YtnnhpnccfnghdaaGreat.L
namespace Go.L.Ring
open Go.L
abbrev eU(x:Int):Int:=IntKind.u64.wrap x
def jo(b n:Nat)(t:Int):Nat:=b+2+2*(t%(n:Int)).toNat
def xw(n:Nat)(t:Int):Int:=eU (t/n*2)
def ME{t:Int}{n:Nat}(R:0<=t)(h2:t<=18446744073709551615)(aM:1<=n):IntKind.u64.wrap (t.tdiv n)=t/n:=by
 rw[Int.tdiv_eq_ediv_of_nonneg R];have bh:0<=t/n:=Int.ediv_nonneg R ae;have h1:t/n<=t:=Int.ediv_le_self _ R;exact tp ae
structure fo where
 pc:Nat
 out:Int
 val:Int
 tick:Int
 db:Int
 deriving DecidableEq
structure iF(o:fo):Prop where
 pc:o.pc<=15
 v0:0<=o.val
 v1:o.val<=18446744073709551615
 t0:0<=o.tick
 t1:o.tick<=18446744073709551615
 gr:0<=o.db
 ay:o.db<=18446744073709551615
def fo.over(o:fo):Bool:=!decide (o.out=0)
section
variable(b n:Nat)(L:List Int)(o:fo)
def fo.value:Int:=if o.out=1 then o.val else 0
abbrev dB:Int:=9223372036854775808
def AO:fo:={o with pc:=1,tick:=L.getD b 0,out:=if dB<=L.getD b 0 then 3 else o.out}
def yr:fo:=
 if xw n o.tick<L.getD (jo b n o.tick) 0 then{o with pc:=0}else if L.getD (jo b n o.tick) 0<xw n o.tick then{o with out:=2}else{o with pc:=2}
def AP:fo:={o with pc:=if L.getD b 0=o.tick then 3 else 0}
def EZ:List Int:=if L.getD b 0=o.tick then L.set b (eU (o.tick+1))else L
def G5:fo:={o with pc:=4}
def SB:List Int:=L.set (jo b n o.tick+1) o.val
def G6:fo:={o with out:=1,val:=0}
def SC:List Int:=L.set (jo b n o.tick) (eU (xw n o.tick+1))
def uE:fo:={o with pc:=6,db:=L.getD (b+1) 0}
def r6:fo:={o with pc:=7,out:=if L.getD (jo b n o.db) 0=eU (xw n o.db+1)then o.out else 4}
def G7:fo:={o with pc:=8,val:=L.getD (jo b n o.db+1) 0}
def G8:fo:={o with pc:=9}
def SD:List Int:=L.set (jo b n o.db) (eU (xw n o.db+2))
def G9:fo:={o with out:=1}
def SE:List Int:=L.set (b+1) (eU (o.db+1))
def Ha:fo:={o with pc:=11,val:=L.getD b 0}
def AQ:fo:={uE b L o with out:=if o.val=eU (L.getD (b+1) 0+dB)then 5 else o.out}
def Hb:fo:={uE b L o with pc:=13}
def AR:fo:={r6 b n L o with out:=if(r6 b n L o).over then(r6 b n L o).out else 1}
def AS:fo:={o with pc:=15,out:=if dB<=L.getD b 0 then 1 else o.out,val:=if dB<=L.getD b 0 then 0 else L.getD b 0}
def AT:fo:={o with pc:=14,out:=if L.getD b 0=o.val then 1 else o.out,val:=if L.getD b 0=o.val then 0 else o.val}
def E0:List Int:=if L.getD b 0=o.val then L.set b (eU (o.val+dB))else L
def l8:List Int:=
 match o.pc with
 |2=>EZ b L o|3=>SB b n L o|4=>SC b n L o|8=>SD b n L o|9=>SE b L o|15=>E0 b L o|_=>L
def lz:fo:=
 match o.pc with
 |0=>AO b L o|1=>yr b n L o|2=>AP b L o|3=>G5 o|4=>G6 o|5=>uE b L o|6=>r6 b n L o|7=>G7 b n L o
 |8=>G8 o|9=>G9 o|10=>Ha b L o|11=>AQ b L o|12=>Hb b L o|13=>AR b n L o|14=>AS b L o|15=>AT b L o|_=>o
def ly:List Int:=if o.over then L else l8 b n L o
def dO:fo:=if o.over then o else lz b n L o
def iu:Prop:=∀x∈L,0<=x/\x<=18446744073709551615
end
section
variable(x:Int){b n:Nat}{L:List Int}{o:fo}
def iu.get(h:iu L)(i:Nat):0<=L.getD i 0/\L.getD i 0<=18446744073709551615:=by
 rw[ix];by_cases ak:i<L.length
 . rw[cz ak];exact h _ (vn ak)
 . rw[oK ae];simp
def iu.set(h:iu L)(i:Nat)(x:Int)(ah:0<=x/\x<=18446744073709551615):iu (L.set i x):=λy ag=>by
 rcases aix ag with ag|rfl
 . exact h y ag
 . exact ah
def zC:eU x=x%18446744073709551616:=by
 unfold eU IntKind.wrap;simp[IntKind.bits,IntKind.signed]
def AY:0<=eU x/\eU x<=18446744073709551615:=by
 rw[zC];omega
def ys(h:iu L)(aK:iF o):iu (ly b n L o):=by
 unfold ly;split
 . exact h
 . unfold l8;split<;>(try exact h)<;>simp only[EZ,SB,SC,SD,SE,E0]<;>(try split)<;>first|exact h|exact h.set _ _ (AY _)|exact h.set _ _ ⟨aK.v0,aK.v1⟩
def AK(h:iu L)(aK:iF o):iF (dO b n L o):=by
 obtain⟨cr,cD,a3,a4,a5,a,e⟩:=aK;unfold dO;split
 . exact⟨cr,cD,a3,a4,a5,a,e⟩
 . have g:=h.get
   unfold lz;split<;>(try simp only[AO,yr,AP,G5,G6,uE,r6,G7,G8,G9,Ha,AQ,Hb,AR,AS,AT])<;>(repeat' split)<;>
    (constructor<;>first|assumption|exact(g _).1|exact(g _).2|(simp;done)|(split<;>simp;done)|(split<;>first|assumption|exact(g _).1|exact(g _).2|simp))
def iv(L:List Int)(b:Nat):Nat->List Int
 |0=>L
 |i+1=>(iv L b i).set (b+i) 0
def wQ(L:List Int)(b:Nat):∀i,(iv L b i).length=L.length
 |0=>rfl
 |i+1=>by rw[iv,gn,wQ L b i]
def lW(s:Int):Int:=if 1<=s/\s<=64 then 2+2*s else 0
def Sx(h1:1<=n)(h2:n<=64):lW (n:Int)=((2+2*n:Nat):Int):=by unfold lW;rw[bd ae];omega
def auN(k:Nat):iu (List.replicate k 0):=λx ah=>by rw[List.eq_of_mem_replicate ah];simp
end
end Go.L.Ring
namespace Go.L.dq
open Go.L Go.L.Ring
structure jn where
 b:Nat
 fj:Nat
 fB:Nat
def jn.eR(B:jn)(r:Bool):Nat:=if r then B.b+2+(2+2*B.fj)else B.b+2
def jn.fg(B:jn)(r:Bool):Nat:=if r then B.fB else B.fj
inductive vq
 |put(R:Bool)(o:fo)
 |qJ(R:Bool)
 |swp(R:Bool)(s:Int)
 |ask(v:Int)
 |set(st:Int)
 |of(r:Bool)(o:fo)
 |gone
 |xu(held:Bool)
 |look(held r:Bool)(o:fo)
 |more(held:Bool)
structure gw where
 ph:vq
 out:Int
 val:Int
def gw.over(p:gw):Bool:=!decide (p.out=0)
section
variable(B:jn)(L:List Int)(p:gw)
def gU(pc:Nat)(v:Int):fo:=⟨pc,0,v,0,0⟩
def iK(held:Bool):Int:=if held then 3 else 0
def xt(R:Bool)(s:Int):Bool:=decide (s=0)||(R&&decide (s=3))
def iI:vq->List Int×gw
 |
  .put R o=>
  let U:=ly (B.eR R) (B.fg R) L o
  let S:=dO (B.eR R) (B.fg R) L o
  (U,if S.over then(if S.out=1 then⟨.qJ R,0,0⟩else⟨.put R S,S.out,0⟩)else⟨.put R S,0,0⟩)
 |.qJ R=>(L,if xt R (L.getD B.b 0)then⟨.swp R (L.getD B.b 0),0,0⟩else⟨.qJ R,1,0⟩)
 |.swp R s=>if L.getD B.b 0=s then(L.set B.b 1,⟨.swp R s,7,0⟩)else(L,⟨.qJ R,0,0⟩)
 |.ask v=>if L.getD (B.b+1) 0=0 then(L.set (B.b+1) 1,⟨.put true (gU 0 v),0,0⟩)else(L,⟨.ask v,4,0⟩)
 |.set st=>(L.set B.b st,⟨.set st,1,0⟩)
 |
  .of r o=>
  let U:=ly (B.eR r) (B.fg r) L o
  let S:=dO (B.eR r) (B.fg r) L o
  (U,if S.over then⟨.of r S,S.out,S.value⟩else⟨.of r S,0,0⟩)
 |.gone=>(L,⟨.gone,if L.getD B.b 0=4 then 1 else 4,0⟩)
 |.xu held=>(L.set B.b (iK held),⟨.look held true (gU 12 0),0,0⟩)
 |
  .look held r o=>
  let U:=ly (B.eR r) (B.fg r) L o
  let S:=dO (B.eR r) (B.fg r) L o
  (U,if S.over then(if S.out=1 then⟨.more held,0,0⟩else if r&&!held then⟨.look held false (gU 12 0),0,0⟩else⟨.look held r S,4,0⟩)else⟨.look held r S,0,0⟩)
 |.more held=>if L.getD B.b 0=iK held then(L.set B.b 1,⟨.more held,8,0⟩)else(L,⟨.more held,1,0⟩)
def p2:List Int:=if p.over then L else(iI B L p.ph).1
def oV:gw:=if p.over then p else(iI B L p.ph).2
structure rK(B:jn)(L:List Int):Prop where
 m1:1<=B.fj
 m64:B.fj<=64
 ef:1<=B.fB
 jQ:B.fB<=64
 len:B.b+6+2*B.fj+2*B.fB<=L.length
 dB:L.length<=65536
def auj:vq->Prop
 |.put _ o=>iF o/\o.out=0
 |.swp _ s=>0<=s/\s<=18446744073709551615
 |.ask v=>0<=v/\v<=18446744073709551615
 |.set st=>0<=st/\st<=18446744073709551615
 |.of _ o=>iF o/\o.out=0
 |.look held r o=>iF o/\o.out=0/\(held=true->r=true)
 |_=>True
def sK:Prop:=p.out=0->auj p.ph/\p.val=0
def rK.eR{B:jn}{L:List Int}(h:rK B L)(r:Bool):1<=B.fg r/\B.fg r<=64/\B.eR r+2+2*B.fg r<=L.length/\L.length<=65536:=by
 have h1:=h.m1;have h2:=h.m64;have aN:=h.ef;have bu:=h.jQ;have dW:=h.len;have g1:=h.dB;cases r<;>simp[jn.eR,jn.fg]<;>omega
def AU{pc:Nat}{v:Int}(h:pc<=15)(Y:0<=v/\v<=18446744073709551615):iF (gU pc v):=⟨h,Y.1,Y.2,vs 0,(show(0:Int)<=18446744073709551615 by decide),vs 0,(show(0:Int)<=18446744073709551615 by decide)⟩
def Sy{o:fo}(h:o.over=false):o.out=0:=by simpa[fo.over]using h
def auk{B:jn}{L:List Int}{p:gw}(K:iu L)(hp:sK p):iu (p2 B L p)/\sK (oV B L p):=by
 unfold p2 oV;cases I:p.over with
 |true=>exact⟨K,hp⟩
 |
  false=>
  simp only[eP,ep];obtain⟨ph,out,val⟩:=p;have aK:out=0:=by simpa[gw.over]using I
  obtain⟨V,Y⟩:=hp aK;have fz:(0:Int)<=0/\(0:Int)<=18446744073709551615:=bJ;cases ph with
  |
   put R o=>
   simp only[iI];have g:=AK (b:=B.eR R) (n:=B.fg R) K V.1;refine⟨ys K V.1,?_⟩;cases d:(dO (B.eR R) (B.fg R) L o).over with
   |false=>simp only[eP,ep];exact λ_=>⟨⟨g,Sy d⟩,rfl⟩
   |
    true=>
    simp only[fi];split
    . exact λ_=>⟨trivial,rfl⟩
    . intro h;exact absurd h M1
  |
   qJ R=>
   simp only[iI];refine⟨K,?_⟩;split
   . exact λ_=>⟨K.get _,rfl⟩
   . intro h;cases h
  |
   swp R s=>
   simp only[iI];split
   . exact⟨K.set _ _ bJ,λh=>by cases h⟩
   . exact⟨K,λ_=>⟨trivial,rfl⟩⟩
  |
   ask v=>
   simp only[iI];split
   . exact⟨K.set _ _ bJ,λ_=>⟨⟨AU bJ V,rfl⟩,rfl⟩⟩
   . exact⟨K,λh=>by cases h⟩
  |set st=>exact⟨K.set _ _ V,λh=>by cases h⟩
  |
   of r o=>
   simp only[iI];have g:=AK (b:=B.eR r) (n:=B.fg r) K V.1;refine⟨ys K V.1,?_⟩;cases d:(dO (B.eR r) (B.fg r) L o).over with
   |false=>simp only[eP,ep];exact λ_=>⟨⟨g,Sy d⟩,rfl⟩
   |true=>simp only[fi];intro h;exact absurd h M1
  |
   gone=>
   refine⟨K,λh=>?_⟩;simp only[iI]at h;split at h<;>cases h
  |xu held=>exact⟨K.set _ _ (by cases held<;>decide),λ_=>⟨⟨AU bJ fz,rfl,λ_=>rfl⟩,rfl⟩⟩
  |
   look held r o=>
   simp only[iI];have g:=AK (b:=B.eR r) (n:=B.fg r) K V.1;refine⟨ys K V.1,?_⟩;cases d:(dO (B.eR r) (B.fg r) L o).over with
   |false=>simp only[eP,ep];exact λ_=>⟨⟨g,Sy d,V.2.2⟩,rfl⟩
   |
    true=>
    simp only[fi];split
    . exact λ_=>⟨trivial,rfl⟩
    . split
      . rename_i cl;exact λ_=>⟨⟨AU bJ fz,rfl,λh=>by rw[h]at cl;simp at cl⟩,rfl⟩
      . intro h;cases h
  |
   more held=>
   simp only[iI];split
   . exact⟨K.set _ _ bJ,λh=>by cases h⟩
   . exact⟨K,λh=>by cases h⟩
end
end Go.L.dq
namespace Go.L.dA
open Go.L Go.L.Ring Go.L.dq
abbrev ji(x:Int):Prop:=0<=x/\x<=18446744073709551615
structure ie where
 pc:Nat
 out:Int
 v:Int
 t:Int
 b:Int
 fK:Bool
def ie.over(o:ie):Bool:=!decide (o.out=0)
section
variable(b n:Nat)(t:Int)(L:List Int)(ee:Bool)(o:ie)(v:Int)
def ie.value:Int:=if o.out=1 then o.v else 0
def ke:Nat:=b+2+(t%(n:Int)).toNat
def kp:List Int:=
 match o.pc with
 |2=>L.set (ke b n o.b) o.v
 |3=>L.set (b+1) (eU (o.b+1))
 |5=>L.set (b+1) (eU (o.b -1))
 |8=>if L.getD b 0=o.t then L.set b (eU (o.t+1))else L
 |9=>L.set (b+1) o.b
 |13=>if L.getD b 0=o.t then L.set b (eU (o.t+1))else L
 |_=>L
def kA:ie:=
 match o.pc with
 |0=>{o with b:=L.getD (b+1) 0,pc:=1}
 |1=>{o with t:=L.getD b 0,pc:=2,out:=if(n:Int)<=eU (o.b -L.getD b 0)then 2 else o.out}
 |2=>{o with pc:=3}
 |3=>{o with out:=1,v:=0}
 |4=>{o with b:=L.getD (b+1) 0,pc:=5}
 |5=>{o with pc:=6}
 |6=>{o with t:=L.getD b 0,pc:=if eU (o.b -1)<L.getD b 0 then 9 else 7}
 |7=>{o with v:=L.getD (ke b n (eU (o.b -1))) 0,pc:=8,out:=if o.t<eU (o.b -1)then 1 else o.out}
 |8=>{o with fK:=decide (L.getD b 0=o.t),pc:=9}
 |9=>{o with out:=if o.fK then 1 else 4}
 |10=>{o with t:=L.getD b 0,pc:=11}
 |11=>{o with b:=L.getD (b+1) 0,pc:=12,out:=if L.getD (b+1) 0<=o.t then 4 else o.out}
 |12=>{o with v:=L.getD (ke b n o.t) 0,pc:=13}
 |13=>{o with out:=if L.getD b 0=o.t then 1 else 6}
 |_=>o
def mr:List Int:=if o.over then L else kp b n L o
def jb:ie:=if o.over then o else kA b n L o
def mX(pc:Nat)(v:Int):ie:=⟨pc,0,v,0,0,false⟩
structure qo(o:ie):Prop where
 pc:o.pc<=13
 v:ji o.v
 t:ji o.t
 b:ji o.b
structure hJ where
 jG:Nat
 ee:Bool
 t:Int
 v:Int
 out:Int
def hJ.over(o:hJ):Bool:=!decide (o.out=0)
def hJ.value(o:hJ):Int:=if o.out=1/\o.ee=true then o.v else 0
def Hg:Int:=if ee then 1 else 0
def lB:Nat:=b+2+2*(t%(n:Int)).toNat
def yy:Int:=eU (eU (t/n*2)+Hg ee)
def n4:Nat:=if ee then b+1 else b
def lC(o:hJ):List Int:=
 match o.jG with
 |2=>if L.getD (n4 b o.ee) 0=o.t then L.set (n4 b o.ee) (eU (o.t+1))else L
 |3=>if o.ee then L else L.set (lB b n o.t+1) o.v
 |4=>L.set (lB b n o.t) (eU (yy n o.t o.ee+1))
 |_=>L
def jO(o:hJ):hJ:=
 match o.jG with
 |0=>{o with t:=L.getD (n4 b o.ee) 0,jG:=1}
 |1=>if L.getD (lB b n o.t) 0=yy n o.t o.ee then{o with jG:=2}else if yy n o.t o.ee<L.getD (lB b n o.t) 0 then{o with jG:=0}else if o.ee then{o with out:=4}else{o with out:=2}
 |2=>{o with jG:=if L.getD (n4 b o.ee) 0=o.t then 3 else 0}
 |3=>{o with jG:=4,v:=if o.ee then L.getD (lB b n o.t+1) 0 else o.v}
 |4=>{o with out:=1}
 |_=>o
def n5(o:hJ):List Int:=if o.over then L else lC b n L o
def iw(o:hJ):hJ:=if o.over then o else jO b n L o
def k4:hJ:=⟨0,ee,0,v,0⟩
structure n9(o:hJ):Prop where
 jG:o.jG<=4
 t:ji o.t
 v:ji o.v
structure hL where
 k:Nat
 w:Nat
 out:Int
def hL.over(o:hL):Bool:=!decide (o.out=0)
def AX(o:hL):hL:={o with k:=3,w:=o.w+1,out:=if o.w+1=n then 4 else o.out}
def wz(n:Nat)(L:List Int)(o:hL):List Int:=
 match o.k with
 |0=>L.set (b+o.w) 1
 |1=>L.set (b+o.w) 0
 |4=>if L.getD (b+o.w) 0=1 then L.set (b+o.w) 0 else L
 |_=>L
def wA(o:hL):hL:=
 match o.k with
 |0=>{o with out:=1}
 |1=>{o with out:=1}
 |2=>{o with out:=if L.getD (b+o.w) 0=0 then 1 else 4}
 |3=>if L.getD (b+o.w) 0=1 then{o with k:=4}else AX n o
 |4=>if L.getD (b+o.w) 0=1 then{o with out:=7}else AX n o
 |_=>o
def qp(o:hL):List Int:=if o.over then L else wz b n L o
def j4(o:hL):hL:=if o.over then o else wA b n L o
def kf(k w:Nat):hL:=⟨k,w,0⟩
structure fL where
 b:Nat
 bV:Nat
 eN:Nat
 na:Nat
def fL.ed(B:fL):Nat:=B.b+B.bV
end
section
variable(B:fL)(w d n self:Nat)(L:List Int)
def fL.cn:Nat:=B.b+B.bV+(2+2*B.na)+w*(2+B.eN)
def fL.size:Nat:=B.bV+(2+2*B.na)+B.bV*(2+B.eN)
inductive Src
 |pop(w:Nat)
 |take
 |ms(w:Nat)
inductive tx
 |push(w:Nat)(o:ie)(v:Int)
 |enter(o:hJ)(v:Int)
 |ring(o:hL)
 |ig(w:Nat)(o:ie)(l:List Src)
 |mY(o:hJ)(l:List Src)
 |rs(w:Nat)(o:hL)
 |lD(w:Nat)(o:hJ)
 |up(w:Nat)(v:Int)(o:hL)
 |o9(o:hL)
structure gC where
 ph:tx
 out:Int
 val:Int
def gC.over(o:gC):Bool:=!decide (o.out=0)
def nB:List Src->gC
 |[]=>⟨.ring (kf 3 0),4,0⟩
 |.pop w::l=>⟨.ig w (mX 4 0) l,0,0⟩
 |.take::l=>⟨.mY (k4 true 0) l,0,0⟩
 |.ms w::l=>⟨.ig w (mX 10 0) l,0,0⟩
def h0(c:gC):List Int×gC:=
 match c.ph with
 |
  .push w o v=>
  let S:=jb (B.cn w) B.eN L o
  (mr (B.cn w) B.eN L o,if S.over then(if S.out=2 then⟨.enter (k4 false v) v,0,0⟩else⟨.ring (kf 3 0),0,0⟩)else⟨.push w S v,0,0⟩)
 |
  .enter o v=>
  let S:=iw B.ed B.na L o
  (n5 B.ed B.na L o,if S.over then(if S.out=2 then⟨.enter (k4 false v) v,0,0⟩else⟨.ring (kf 3 0),0,0⟩)else⟨.enter S v,0,0⟩)
 |
  .ring o=>
  let S:=j4 B.b B.bV L o
  (qp B.b B.bV L o,⟨.ring S,if S.over then 1 else 0,0⟩)
 |
  .ig w o l=>
  let S:=jb (B.cn w) B.eN L o
  (mr (B.cn w) B.eN L o,if S.over then(if S.out=1 then⟨.ig w S l,1,S.value⟩else nB l)else⟨.ig w S l,0,0⟩)
 |
  .mY o l=>
  let S:=iw B.ed B.na L o
  (n5 B.ed B.na L o,if S.over then(if S.out=1 then⟨.mY S l,1,S.value⟩else nB l)else⟨.mY S l,0,0⟩)
 |.rs w o=>(qp B.b B.bV L o,⟨.lD w (k4 true 0),0,0⟩)
 |
  .lD w o=>
  let S:=iw B.ed B.na L o
  (n5 B.ed B.na L o,if S.over then(if S.out=1 then⟨.up w S.value (kf 1 w),0,0⟩else⟨.lD w S,4,0⟩)else⟨.lD w S,0,0⟩)
 |.up w v o=>(qp B.b B.bV L o,⟨.up w v (j4 B.b B.bV L o),1,v⟩)
 |.o9 o=>(qp B.b B.bV L o,⟨.o9 (j4 B.b B.bV L o),(j4 B.b B.bV L o).out,0⟩)
def nC(c:gC):List Int:=if c.over then L else(h0 B L c).1
def lE(c:gC):gC:=if c.over then c else(h0 B L c).2
def oa:Nat->Nat->List Nat->List Nat
 |0,_,_=>[]
 |
  k+1,d,l=>match l[d%(k+1)]?with
  |none=>[]
  |some x=>x::oa k (d/(k+1)) (l.eraseIdx (d%(k+1)))
def nD:List Nat:=(List.range n).filter (λi=>decide (i≠self))
def order:List Nat:=oa (n -1) d (nD n self)
def wB(B:fL)(w:Option Nat)(v:Int):gC:=
 match w with
 |some w=>⟨.push w (mX 0 v) v,0,0⟩
 |none=>⟨.enter (k4 false v) v,0,0⟩
def yz:gC:=nB (.pop w::.take::(order d B.bV w).map .ms)
def yA:gC:=⟨.rs w (kf 0 w),0,0⟩
def Dx:gC:=⟨.o9 (kf 2 w),0,0⟩
structure k5 where
 pc:Nat
 cell:Nat
 seen:Int
 out:Int
def k5.over(o:k5):Bool:=!decide (o.out=0)
def yB(o:k5):List Int:=
 match o.pc with
 |1=>if L.getD o.cell 0=o.seen then L.set o.cell 1 else L
 |3=>if L.getD o.cell 0=1 then L.set o.cell 0 else L
 |4=>if L.getD o.cell 0=1 then L.set o.cell 2 else L
 |_=>L
def wC(o:k5):k5:=
 match o.pc with
 |0=>{o with seen:=L.getD o.cell 0,pc:=1,out:=if L.getD o.cell 0=1 then 4 else o.out}
 |1=>{o with pc:=0,out:=if L.getD o.cell 0=o.seen then 1 else o.out}
 |2=>{o with seen:=L.getD o.cell 0,pc:=3,out:=if L.getD o.cell 0=1 then o.out else 4}
 |3=>{o with pc:=2,out:=if L.getD o.cell 0=1 then 1 else o.out}
 |4=>{o with out:=if L.getD o.cell 0=1 then 1 else 4}
 |_=>o
def r8(o:k5):List Int:=if o.over then L else yB L o
def r9(o:k5):k5:=if o.over then o else wC L o
def lF(b n x y:Nat):Nat:=b+(x -1)*n+y -1
def nE(pc cell:Nat):k5:=⟨pc,cell,0,0⟩
structure wD(L:List Int)(o:k5):Prop where
 pc:o.pc<=4
 cell:o.cell<L.length
 seen:ji o.seen
end
end Go.L.dA
namespace Go.L.Whl
open Go.L
structure bH where
 id:Int
 due:Nat
 seq:Nat
deriving DecidableEq,Inhabited
structure fX where
 now:Nat
 seq:Nat
 T:List bH
abbrev te(t:bH):List Value:=[bw t.id,af t.due,af t.seq]
def hj(now due:Nat):Nat:=
 if due/512≠now/512 then 24+due/512%8 else if due/64≠now/64 then 16+due/64%8 else if due/8≠now/8 then 8+due/8%8 else due%8
section
variable{z l:Nat}{f:bH->Nat}{w:fX}{g:Nat->Nat}{id d:Int}{T:List bH}{t:bH}{E:Nat}{D:List bH}{k:Nat}{I:List (List bH)}
def UE(now due:Nat):hj now due<32:=by unfold hj;(repeat' split)<;>omega
def pass(z l u:Nat)(f:bH->Nat):bH->Nat:=λt=>if z%u=0 then(if f t=8*l+z/u%8 then hj z t.due else f t)else f t
theorem aCN(bh:0<z)(h1:z -1<t.due)(h2:t.due<=z -1+4095):
 pass z 3 512 (λt=>hj (z -1) t.due) t=if t.due/512=z/512 then(if z%512=0 then hj z t.due else hj (z -1) t.due)else hj z t.due:=by
 unfold pass;dsimp only;unfold hj;(repeat' split)<;>omega
theorem aCO(bh:0<z)(h1:z -1<t.due)(h2:t.due<=z -1+4095):
 pass z 2 64 (pass z 3 512 (λt=>hj (z -1) t.due)) t=if t.due/64=z/64 then(if z%64=0 then hj z t.due else hj (z -1) t.due)else hj z t.due:=by
 have e:=aCN bh h1 h2;unfold pass at e⊢;rw[e];unfold hj;(repeat' split)<;>omega
theorem aCP(bh:0<z)(h1:z -1<t.due)(h2:t.due<=z -1+4095):
 pass z 1 8 (pass z 2 64 (pass z 3 512 (λt=>hj (z -1) t.due))) t=hj z t.due:=by
 have e:=aCO bh h1 h2;rw[show pass z 1 8 (pass z 2 64 (pass z 3 512 (λt=>hj (z -1) t.due))) t=(if z%8=0 then(if pass z 2 64 (pass z 3 512 (λt=>hj (z -1) t.due)) t=8*1+z/8%8 then hj z t.due else pass z 2 64 (pass z 3 512 (λt=>hj (z -1) t.due)) t)else pass z 2 64 (pass z 3 512 (λt=>hj (z -1) t.due)) t)from rfl];rw[e];unfold hj;(repeat' split)<;>omega
def al8{due:Nat}(h1:z<=due)(h2:due<=z+4094):hj z due=z%8↔due=z:=by
 unfold hj;(repeat' split)<;>omega
def iB(f:bH->Nat)(T:List bH)(I:List (List bH)):Prop:=I.length=32/\∀j,j<32->(I.getD j []).Perm (T.filter λt=>f t=j)
def iB.congr{g:bH->Nat}{T:List bH}{I:List (List bH)}(h:iB f T I)(e:∀t∈T,f t=g t):iB g T I:=
 ⟨h.1,λj N=>by rw[show T.filter (λt=>g t=j)=T.filter (λt=>f t=j)from tS λt R=>by rw[e t R]];exact h.2 j N⟩
def iB.lay(h:iB f T I)(t:bH)(R:f t<32):iB f (T++[t]) (I.set (f t) (I.getD (f t) []++[t])):=by
 refine⟨by simp[h.1],λj N=>?_⟩;rw[CY _ _ _ _ _ (by rw[h.1];exact R),yV];by_cases e:j=f t
 . subst e
   rw[bd rfl,show[t].filter (λu=>f u=f t)=[t] by simp];exact(h.2 _ R).append_right _
 . rw[a8 e,show[t].filter (λu=>f u=j)=[] by simp[Ne.symm e],jr]
   exact h.2 j N
def al9{j:Nat}(T:List bH):T.Perm (T.filter (λt=>¬f t=j)++T.filter (λt=>f t=j)):=by
 have:=List.filter_append_perm (λt=>decide (f t=j)) T;refine(this.symm.trans List.perm_append_comm).trans ?_;rw[show T.filter (λx=>!decide (f x=j))=T.filter (λt=>¬f t=j)from tS λt _=>by simp]
def pE(f:bH->Nat)(g:Nat->Nat)(T:List bH)(E:Nat)(D:List bH)(k:Nat)(I:List (List bH)):Prop:=
 I.length=32/\∀j,j<32->(I.getD j []).Perm (T.filter (λt=>¬f t=E/\f t=j)++(D.take k).filter (λt=>g t.due=j))
def pE.start(h:iB f T I){E:Nat}(bh:E<32):pE f g T E (I.getD E []) 0 (I.set E []):=by
 refine⟨by simp[h.1],λj N=>?_⟩;rw[CY _ _ _ _ _ (by rw[h.1];exact bh),Pu,List.filter_nil,jr];by_cases e:j=E
 . subst e;rw[bd rfl,List.filter_eq_nil_iff.2 (λt _=>by simp)]
 . rw[a8 e,show T.filter (λt=>¬f t=E/\f t=j)=T.filter (λt=>f t=j)from tS λt _=>by
    by_cases aV:f t=j
    . simp[aV,e]
    . simp[aV]]
   exact h.2 j N
theorem pE.step(h:pE f g T E D k I){t:bH}(hk:D[k]?=some t)(aF:g t.due<32):
 pE f g T E D (k+1) (I.set (g t.due) (I.getD (g t.due) []++[t])):=by
 obtain⟨m3,M⟩:=dc.1 hk;refine⟨by simp[h.1],λj N=>?_⟩;rw[CY _ _ _ _ _ (by rw[h.1];exact aF),nv m3,M,yV,<-jE];by_cases e:j=g t.due
 . subst e
   rw[bd rfl,show[t].filter (λu=>g u.due=g t.due)=[t] by simp];exact(h.2 _ aF).append_right _
 . rw[a8 e,show[t].filter (λu=>g u.due=j)=[] by simp[Ne.symm e],jr]
   exact h.2 j N
theorem pE.done(h:pE f g T E D D.length I)(aL:D.Perm (T.filter λt=>f t=E)):
 iB (λt=>if f t=E then g t.due else f t) T I:=by
 refine⟨h.1,λj N=>?_⟩;have h1:=h.2 j N;rw[nw]at h1;refine h1.trans ((List.Perm.append_left _ (aL.filter _)).trans ?_);have h2:=(al9 (f:=f) (j:=E) T).filter (λt=>decide ((if f t=E then g t.due else f t)=j));refine List.Perm.trans (F1 ?_) h2.symm;rw[yV,xY,xY,xY]
 congr 1
 . exact aeC
 . exact aeC
def iB.empty(h:iB f T I){E:Nat}(bh:E<32):iB f (T.filter λt=>¬f t=E) (I.set E []):=by
 have h1:=pE.start (g:=λ_=>0) h bh;refine⟨h1.1,λj N=>?_⟩;have h2:=h1.2 j N;rw[Pu,List.filter_nil,jr]at h2;rw[xY];rw[show T.filter (λa=>decide (f a=j)&&decide (¬f a=E))=T.filter (λt=>¬f t=E/\f t=j)from tS λt _=>by by_cases e:f t=j<;>by_cases aV:f t=E<;>simp[e,aV]];exact h2
def iB.all(h:iB f T I)(ba:∀t∈T,f t<32):I.flatten.Perm T:=by
 have key:∀n,n<=32->(I.take n).flatten.Perm (T.filter λt=>f t<n):=by
  intro n
  induction n with
  |zero=>intro _;simp
  |
   succ n K=>
   intro aM;have av:n<I.length:=by rw[h.1];omega
   rw[nv av,List.flatten_append,List.flatten_singleton];have ay:=h.2 n ae;rw[ix,cz av]at ay;have aV:(T.filter λt=>f t<n+1).Perm ((T.filter λt=>f t<n)++T.filter λt=>f t=n):=by
    refine((al9 (f:=f) (j:=n) T).filter _).trans (F1 ?_);rw[yV,xY,xY]
    congr 1
    . apply tS;intro t _;rw[o4];simp;omega
    . apply tS;intro t _;rw[o4];simp;omega
   exact((K ae).append ay).trans aV.symm
 have:=key 32 (ei _);rwa[yZ (by rw[h.1];exact ei _),SH.2 (λt R=>by simpa using ba t R)]at this
structure j2(w:fX):Prop where
 nd:(w.T.map (·.id)).Nodup
 due:∀t∈w.T,w.now<t.due/\t.due<=w.now+4095
 xZ:w.T.Pairwise (λa b=>a.seq<b.seq)
 sb:∀t∈w.T,t.seq<=w.seq
 len:w.T.length<=64
def fX.get(w:fX)(id:Int):Option bH:=w.T.find? (λt=>decide (t.id=id))
def n1(w:fX)(id d:Int):Int:=if d<1\/4095<d then 1 else if(w.get id).isSome then 3 else if 64<=w.T.length then 4 else 0
def rj(w:fX)(id d:Int):fX:=if n1 w id d=0 then⟨w.now,w.seq+1,w.T++[⟨id,w.now+d.toNat,w.seq+1⟩]⟩else w
def rZ(w:fX)(id:Int):fX:={w with T:=w.T.filter (λt=>¬t.id=id)}
def uA(w:fX):fX:=⟨w.now+1,w.seq,w.T.filter (λt=>¬t.due=w.now+1)⟩
def nz(w:fX):List bH:=w.T.filter (λt=>t.due=w.now+1)
theorem get_some(h:j2 w){id:Int}{t:bH}(R:t∈w.T)(e:t.id=id):w.get id=some t:=by
 have nd:=h.nd;unfold fX.get;clear h
 generalize w.T=T at*
 induction T with
 |nil=>simp at R
 |
  cons u T K=>
  simp only[gu,List.nodup_cons]at nd;rw[akz];rcases ku.1 R with h1|h1
  . subst h1;simp[e]
  . have:u.id≠id:=λh2=>nd.1 (by rw[h2,<-e];exact EV h1)
    simp only[this,decide_false];exact K h1 nd.2
theorem get_none:w.get id=none↔∀t∈w.T,t.id≠id:=by
 unfold fX.get;rw[Sl];simp
theorem get_mem(h:w.get id=some t):t∈w.T/\t.id=id:=by
 unfold fX.get at h;exact⟨rb h,by simpa using List.find?_some h⟩
theorem j2.cut(h:j2 w)(id:Int):j2 (rZ w id)where
 nd:=h.nd.sublist ((F3).map _)
 due:=λt R=>h.due t (oM.1 R).1
 xZ:=h.xZ.sublist F3
 sb:=λt R=>h.sb t (oM.1 R).1
 len:=nb (qw _ _) h.len
def j2.tick(h:j2 w):j2 (uA w)where
 nd:=h.nd.sublist ((F3).map _)
 due:=λt R=>by
  have h1:=oM.1 R;have h2:=h.due t h1.1;have aN:¬t.due=w.now+1:=by simpa using h1.2
  show w.now+1<t.due/\t.due<=w.now+1+4095;omega
 xZ:=h.xZ.sublist F3
 sb:=λt R=>h.sb t (oM.1 R).1
 len:=nb (qw _ _) h.len
theorem aCQ(h:n1 w id d=0):1<=d/\d<=4095/\w.get id=none/\w.T.length<64:=by
 unfold n1 at h;(repeat' split at h)<;>first|omega|(rename_i h1 h2 aN;refine⟨by omega,by omega,?_,by omega⟩;simpa using h2)
theorem j2.add(h:j2 w)(id d:Int):j2 (rj w id d):=by
 unfold rj;split
 . rename_i e
   obtain⟨h1,h2,aN,bu⟩:=aCQ e;have dW:=get_none.1 aN;exact {
    nd:=by
     show((w.T++[(⟨id,w.now+d.toNat,w.seq+1⟩:bH)]).map (·.id)).Nodup;rw[o1,List.nodup_append];refine⟨h.nd,by simp,λa aW b aA=>?_⟩;obtain⟨t,R,rfl⟩:=lU.1 aW;have:b=id:=by simpa using aA
     subst this;exact dW t R
    due:=λt R=>by
     rcases ky.1 R with R|R
     . exact h.due t R
     . have:t=_:=rX.1 R
       subst this;show w.now<w.now+d.toNat/\w.now+d.toNat<=w.now+4095;omega
    xZ:=by
     show(w.T++[_]).Pairwise _;rw[List.pairwise_append];refine⟨h.xZ,by simp,λa aW b aA=>?_⟩;have:b=_:=rX.1 aA;subst this;have:=h.sb a aW;show a.seq<w.seq+1;omega
    sb:=λt R=>by
     rcases ky.1 R with R|R
     . have:=h.sb t R;show t.seq<=w.seq+1;omega
     . have:t=_:=rX.1 R
       subst this;exact ei _
    len:=by show(w.T++[_]).length<=64;simp;omega}
 . exact h
def j2.nil:j2 r5:=⟨by simp,by simp,by simp,by simp,by simp⟩
theorem agp(h:d<1\/4095<d):n1 w id d=1:=by unfold n1;rw[bd h]
theorem al4(h:¬(d<1\/4095<d)){t:bH}(h2:w.get id=some t):n1 w id d=3:=by unfold n1;rw[a8 h,h2];rfl
theorem al5(h:¬(d<1\/4095<d))(h2:w.get id=none)(aN:64<=w.T.length):n1 w id d=4:=by unfold n1;rw[a8 h,h2,bd aN];rfl
theorem al6(h:¬(d<1\/4095<d))(h2:w.get id=none)(aN:¬64<=w.T.length):n1 w id d=0:=by unfold n1;rw[a8 h,h2,a8 aN];rfl
theorem R4(h:n1 w id d≠0):rj w id d=w:=by unfold rj;rw[a8 h]
theorem aCI(h:w.get id=none):rZ w id=w:=by
 unfold rZ;rw[SH.2 (λt R=>by simpa using get_none.1 h t R)]
def aCL(h:j2 w):w.T.filter (λt=>hj (w.now+1) t.due=(w.now+1)%8)=nz w:=by
 unfold nz;apply tS;intro t R;have:=h.due t R;rw[o4,kN,kN];exact al8 ae ae
def aCM(h:j2 w):w.T.filter (λt=>¬hj (w.now+1) t.due=(w.now+1)%8)=(uA w).T:=by
 unfold uA;apply tS;intro t R;have:=h.due t R;rw[o4,kN,kN,al8 ae ae]
def aCJ(h:l<=3):IntKind.i64.wrap (1*2^((3*l:Nat):Int).toNat)=((2^(3*l):Nat):Int):=by
 rcases(show l=0\/l=1\/l=2\/l=3 by omega)with rfl|rfl|rfl|rfl<;>decide
def q7(z:Nat):Nat->bH->Nat
 |0=>pass z 1 8 (pass z 2 64 (pass z 3 512 (λt=>hj (z -1) t.due)))
 |1=>pass z 2 64 (pass z 3 512 (λt=>hj (z -1) t.due))
 |2=>pass z 3 512 (λt=>hj (z -1) t.due)
 |_=>λt=>hj (z -1) t.due
def al7(h1:1<=l)(h2:l<=3):q7 z (l -1)=pass z l (2^(3*l)) (q7 z l):=by
 rcases(show l=1\/l=2\/l=3 by omega)with rfl|rfl|rfl<;>rfl
def aCK(bh:0<z)(aL:z -1<t.due)(f:t.due<=z -1+4095):q7 z 0 t=hj z t.due:=aCP bh aL f
def iB.short(h:iB f T I){l:List bH}(av:l∈I):l.length<=T.length:=by
 obtain⟨j,N,e⟩:=F4 av;have h1:=h.2 j Py;rw[ix,cz N,e]at h1;have h1:l.Perm _:=h1;rw[h1.length_eq];exact qw _ _
def pE.short(h:pE f g T E D k I){l:List bH}(av:l∈I):l.length<=T.length+D.length:=by
 obtain⟨j,N,e⟩:=F4 av;have h1:=h.2 j Py;rw[ix,cz N,e]at h1;have h1:l.Perm _:=h1;rw[h1.length_eq,eL];have h2:=qw (λt=>decide (g t.due=j)) (D.take k);have aN:=qw (λt=>decide (¬f t=E/\f t=j)) T;have bu:(D.take k).length<=D.length:=It;omega
def iB.jG(h:iB f T I){j:Nat}{l:List bH}(av:I[j]?=some l):j<32/\l.Perm (T.filter λt=>f t=j):=by
 have N:j<I.length:=(dc.1 av).1;have h1:=h.2 j Py;rw[ix,av]at h1;exact⟨by rw[<-h.1];exact N,h1⟩
theorem aCR(nd:(T.map (·.id)).Nodup){u t:bH}(d4:u∈T)(R:t∈T)(bz:u.id=t.id):u=t:=by
 obtain⟨a,aW,dh⟩:=F4 d4;obtain⟨b,aA,gT⟩:=F4 R;have f:a=b:=by
  have g1:(T.map (·.id))[a]?=(T.map (·.id))[b]?:=by simp[fs,cz aW,cz aA,dh,gT,bz]
  exact(List.getElem?_inj (by simpa using aW) nd).1 g1
 subst f;rw[<-dh,<-gT]
theorem iB.cut(h:iB f T I)(nd:(T.map (·.id)).Nodup){j i:Nat}{l:List bH}{t:bH}(av:I[j]?=some l)(R:l[i]?=some t):iB f (T.filter λu=>¬u.id=t.id) (I.set j (l.eraseIdx i)):=by
 obtain⟨N,hp⟩:=h.jG av;have b:t∈T.filter λt=>f t=j:=hp.subset Jy;have C:=(oM.1 b).1;have m:f t=j:=by simpa using(oM.1 b).2
 have a:(l.map (·.id)).Nodup:=(hp.map _).nodup_iff.2 (nd.sublist ((F3).map _));refine⟨by simp[h.1],λk hk=>?_⟩;rw[CY _ _ _ _ _ (by rw[h.1];exact N)];by_cases e:k=j
 . subst e
   rw[bd rfl,xY];have ay:l.eraseIdx i=l.filter λu=>¬u.id=t.id:=by
    clear hp av b
    induction l generalizing i with
    |nil=>simp at R
    |
     cons u l K=>
     simp only[gu,List.nodup_cons]at a;cases i with
     |
      zero=>
      simp only[YT,Option.some.injEq]at R;subst R;rw[List.eraseIdx_cons_zero,O4,a8 ga];exact(SH.2 λv Y=>by simp;intro e;exact a.1 (by rw[<-e];exact EV Y)).symm
     |
      succ i=>
      simp only[H0]at R;have U:u.id≠t.id:=λe=>a.1 (by rw[e];exact EV Jy);rw[List.eraseIdx_cons_succ,O4,bd (by simpa using U),K R a.2]
   rw[ay];refine(hp.filter _).trans (F1 ?_);rw[xY];apply tS;intro u _;simp[Bool.and_comm]
 . rw[a8 e]
   have h1:=h.2 k hk;refine h1.trans (F1 ?_);rw[xY];apply tS;intro u d4;by_cases aV:f u=k
   . have:u.id≠t.id:=λbz=>by
      have:u=t:=aCR nd d4 C bz;subst this;exact e (aV.symm.trans m)
     simp[aV,this]
   . simp[aV]
def aCB{l m:List bH}(hp:l.Perm m)(h1:l.Pairwise (λa b=>a.seq<=b.seq))(h2:m.Pairwise (λa b=>a.seq<b.seq)):l=m:=by
 refine hp.eq_of_pairwise (le:=λa b=>a.seq<=b.seq) (λa b aW aA aN bu=>?_) h1 (h2.imp λh=>xq h);have Q:b∈m:=aA;have c:a∈m:=hp.subset aW;obtain⟨i,ak,ay⟩:=F4 c;obtain⟨j,N,aV⟩:=F4 Q;rcases Nat.lt_trichotomy i j with h|h|h
 . have:=aiL.1 h2 i j ak N h
   rw[ay,aV]at this;omega
 . subst h;rw[<-ay,<-aV]
 . have:=aiL.1 h2 j i N ak h
   rw[ay,aV]at this;omega
end
end Go.L.Whl
namespace Go.L
section
variable{P:Program}{F w:World}{n:Nat}{I:eT}{M:List aq}{bD:TypeId}
section
variable{t e aY:Nat}{x y E:Operand}{a:Option Addr}{l c i k:Nat}{cS cd:IntKind}
theorem Ym{q:Operand}{a:Option Addr}{l c i k m:Nat}{cS cd ir:IntKind}[j:jS P t e aY](ah:ck I x=some (.slice a l c))(ag:ck I y=some (.int cS (i:Int)))(T:ck I E=some (.int cd (k:Int)))(bm:ck I q=some (.int ir (m:Int)))(h1:i<=k)(h2:k<=m)(aN:m<=c):
 b0 P F n (.slice t x (some y) (some E) (some q)) bD I M (.slice (if m=i then a else a.map (λx:Addr=>x.add (i*aY))) (k -i) (m -i)):=λaI w d pos J g aj _=>by
 obtain⟨z,W,Z,d8⟩:=j.out;simp only[execOp,nJ,Gk,aj.eval ah,aj.eval ag,aj.eval T,aj.eval bm];simp[Instr.sliceAt,Instr.slice,gH W,jM Z,d8,Instr.sliceBounds,Instr.sliceBound,asIntOf,h1,h2,aN]
theorem Yn[j:jS P t e aY](ah:ck I x=some (.slice a l c))(ag:ck I y=some (.int cS (i:Int)))(T:ck I E=some (.int cd (k:Int)))(h1:i<=k)(h2:k<=c):
 b0 P F n (.slice t x (some y) (some E) none) bD I M (.slice Yo (k -i) (c -i)):=λaI w d pos J g aj _=>by
 obtain⟨z,W,Z,d8⟩:=j.out;simp only[execOp,nJ,Gk,aj.eval ah,aj.eval ag,aj.eval T];simp[Instr.sliceAt,Instr.slice,gH W,jM Z,d8,Instr.sliceBounds,Instr.sliceBound,asIntOf,h1,h2]
def Yp(b k:Nat):Addr.add qs k=⟨b,k,none⟩:=by unfold Addr.add;split<;>simp_all
theorem Yq{b i j k C:Nat}{t e:TypeId}{aY bytes:Nat}{U xs:List Value}{u:List Value->List aq}[it:jI P t e aY bytes U][r:sn (.slice j0 k C) M e aY k xs u](ah:ck I x=some (.slice j0 i C))
 (ag:ck I y=some (.slice (if C=j then some qs else(some (qs:Addr)).map (λx:Addr=>x.add (j*aY))) (k -j) (C -j)))(g2:i<=j)(N:j<=k)(hk:k<=C)(h1:∀x∈xs,x.oneCell'=true):
 c4 P F n NR bD I M (λv' H=>v'=.slice j0 (i+(k -j)) C/\H=u (xs.take (i*aY)++xs.drop (j*aY)++xs.drop ((i+(k -j))*aY))):=λa w d pos J g aj s=>by
 obtain⟨z,E,W,Z,rfl,gc,hm,G,L⟩:=it.out;obtain⟨av,cl|⟨l,p,dx,Y,cd,ir,eM,f⟩⟩:=r.get s.e4
 . cases cl.1
 . simp only[Value.slice.injEq,Option.some.injEq,Addr.mk.injEq]at Y
   obtain⟨⟨rfl,_,_⟩,_,rfl⟩:=Y;have mt:w.heap[b]?=some NS:=f;obtain⟨A,B,c⟩:∃A:Addr,(if C=j then some (qs:Addr)else(some (qs:Addr)).map (λx:Addr=>x.add (j*z.size)))=some A/\∀q x,(xs.drop (j*z.size))[q]?=some x->w.cell? (A.add q)=some x:=by
    by_cases h:C=j
    . refine⟨qs,by rw[bd h],λq x bm=>?_⟩
      rw[List.drop_of_length_le (by rw[av,show j=k by omega];exact ei _)]at bm;simp at bm
    . refine⟨⟨b,j*z.size,none⟩,by rw[a8 h,nJ,Yp],λq x bm=>?_⟩
      rw[uh];rw[L6]at bm;have dV:=(dc.1 bm).1;simp[World.cell?,mt,k1 dV,bm]
   rw[B]at ag;have K:(xs.drop (j*z.size)).length=(k -j)*z.size:=by rw[vU,av,Nat.sub_mul]
   have Nm:i*z.size+(k -j)*z.size=(i+(k -j))*z.size:=by rw[nc]
   have o:(i+(k -j))*z.size<=k*z.size:=pW _ ae;have aE:=run_append_room (P:=P) w t bD e z W Z b i C (xs++dx).toArray mt A (k -j) (C -j) (xs.drop (j*z.size)) K c (λx ah=>h1 x (List.mem_of_mem_drop ah)) ae (by rw[K,yc,eL,av];omega);have m:i*z.size<=xs.length:=by rw[av];omega
   have ay:((xs++dx).toArray.toList.take (i*z.size)++xs.drop (j*z.size)++(xs++dx).toArray.toList.drop (i*z.size+(xs.drop (j*z.size)).length))=HH++dx:=by
    rw[K,Nm,HI m,aqu (by rw[av];exact o)];simp
   rw[ay]at aE;have hlen:(xs.take (i*z.size)++xs.drop (j*z.size)++xs.drop ((i+(k -j))*z.size)).length=xs.length:=by
    simp only[eL,n0,vU];rw[K.symm.trans (vU ..)]at Nm;omega
   refine⟨_,_,w.setRow b (HH++dx).toArray,?_,dI,s.os,s.tape,s.output,by have:=s.size;simpa[World.setRow]using this,?_⟩
   . simp only[execOp,resolve,oN,gu,mT,aj.eval ah,aj.eval ag]
     simp[invoke,builtin]at aE⊢;simp[aE]
   . have aV:fR (w.setRow b (HH++dx).toArray)=j3 (fR w) b (.cells (HH++dx).toArray e (0,0)):=by
      unfold World.setRow;rw[wy _ f]
     rw[aV];exact r.set _ s.e4 rfl f hlen
end
def A9{Q:Exit->Act->World->Prop}{E:Array Oper}{op:Op}{pos:String}{J:Array Edge}{rest:List Oper}{p:Value->List aq->Prop}(Y:c4 P F n op bD I M p)(h:∀v H,p v H->cE P F n E rest I H Q):cE P F n E M4 I M Q:=
 λa w aj s=>wpList_plain rfl λK cO=>by
  obtain⟨v,H,X,aE,hp,aD⟩:=Y a w none pos J none aj s;simp only[Oper.wp,aE,Oper.upon];exact cO _ _ (h v H hp _ _ aj aD)
def aqv(U:List Value)(m:Nat):(Builtin.zeroCells U.toArray m).toList=iH U m:=by
 rcases HJ U.length with h|h
 . have:U=[]:=rY h
   subst this;have aE:∀m,iH ([]:List Value) m=[]:=λm=>by induction m with|zero=>rfl|succ m K=>simp[iH,K]
   simp[Builtin.zeroCells,aE]
 . apply uW
   intro j;simp only[Builtin.zeroCells];rcases r7 j (m*U.length)with x|x
   . have bf:j%U.length<U.length:=wS _ h
     rw[NT U h m j x];simp[x,bf]
   . exact Yr
theorem NU{x:Operand}{b n' k m C c:Nat}{t e:TypeId}{aY bytes:Nat}{U xs:List Value}{u:List Value->List aq}[it:jI P t e aY bytes U][r:sn (.slice j0 n' C) M e aY n' xs u](aM:k+m=n')(ah:ck I x=some (.slice (if C=k then some qs else(some (qs:Addr)).map (λx:Addr=>x.add (k*aY))) m c))(bf:0<m)(h1:∀x∈U,x.oneCell'=true):
 c4 P F n (.call {callee:=.builtin .clear,args:=#[x],argTypes:=#[t]}) bD I M (λv' H=>v'=.tuple #[]/\H=u (xs.take (k*aY)++iH U m)):=λa w d pos J g aj s=>by
 subst aM;obtain⟨z,E,W,Z,rfl,gc,hm,G,L⟩:=it.out;obtain⟨av,cl|⟨l,p,dx,Y,cd,ir,eM,f⟩⟩:=r.get s.e4
 . cases cl.1
 . simp only[Value.slice.injEq,Option.some.injEq,Addr.mk.injEq]at Y
   obtain⟨⟨rfl,_,_⟩,_,rfl⟩:=Y;have mt:w.heap[b]?=some NS:=f;rw[a8 ae,nJ,Yp]at ah;have y:(iH U m).length=m*z.size:=by rw[Ba,L]
   have hu:(k+m)*z.size=k*z.size+m*z.size:=nc ..;have f9:=run_storeCells_at P b (k*z.size) e (iH U m) 0 (xs++dx).toArray w mt (by rw[y,yc,eL,av];omega) (λx ah=>by
    have:∀m,∀x∈iH U m,x.oneCell'=true:=λm=>by
     induction m with
     |zero=>intro x ah;simp[iH]at ah
     |succ m K=>intro x ah;simp only[iH,ky]at ah;rcases ah with ah|ah;exact h1 x ah;exact K x ah
    exact this m x ah)
   have gr:((xs++dx).toArray.toList.take (k*z.size+0)++iH U m++(xs++dx).toArray.toList.drop (k*z.size+0+(iH U m).length))=(xs.take (k*z.size)++iH U m)++dx:=by
    rw[y,HK,<-hu,<-av];simp[HI (show k*z.size<=xs.length by rw[av];omega)]
   rw[gr]at f9;obtain⟨q,rfl⟩:∃q,m=q+1:=⟨m -1,by omega⟩;refine⟨_,_,w.setRow b (NV++dx).toArray,?_,dI,s.os,s.tape,s.output,by have:=s.size;simpa[World.setRow]using this,?_⟩
   . have i:=aqv U (q+1)
     simp only[execOp,resolve,oN,gu,mT,aj.eval ah];simp only[invoke];simp[builtin,Builtin.clear_,gH W,vV Z hm,G,i]at f9⊢;simp[f9]
   . have aV:fR (w.setRow b (NV++dx).toArray)=j3 (fR w) b (.cells (NV++dx).toArray e (0,0)):=by
      unfold World.setRow;rw[wy _ f]
     rw[aV];exact r.set _ s.e4 rfl f (by rw[eL,y,n0,av];omega)
end
def HL{b n k C:Nat}{e:TypeId}{aY:Nat}{xs:List Value}{D:List aq}(h:k<=n):∀F,Sat (own (.slice (some ⟨b,0,none⟩) n C) e aY n xs::D) F->Sat (own (.slice j0 k C) e aY k (xs.take (k*aY))::D) F:=λ_=>Sat.head λg cl=>by
 obtain⟨av,cl|⟨l,p,dx,Y,cd,ir,eM,f⟩⟩:=cl
 . cases cl.1
 . simp only[Value.slice.injEq,Option.some.injEq,Addr.mk.injEq]at Y
   obtain⟨⟨rfl,_,_⟩,_,rfl⟩:=Y;have o:k*aY<=n*aY:=pW _ h;refine⟨by rw[n0,av];omega,.inr ⟨b,C,xs.drop (k*aY)++dx,rfl,?_,by omega,eM,?_⟩⟩
   . rw[<-jE,CS];exact cd
   . rw[<-jE,CS];exact f
end Go.L
