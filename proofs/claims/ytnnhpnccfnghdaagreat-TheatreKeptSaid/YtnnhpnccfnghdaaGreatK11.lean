import Derived.Test.YtnnhpnccfnghdaaGreatK10
import Derived.Test.YtnnhpnccfnghdaaGreatK6
set_option linter.all false
set_option maxHeartbeats 8000000
namespace Go.Proofs.YtnnhpnccfnghdaaGreat.L.bE
open Go.Proofs.YtnnhpnccfnghdaaGreat.L
open Go.L Go.L.Ring Go.L.dr Go.L.dX Go.L.Whl Go.L.dB Go.L.Lx Go.L.Pg
open Go.L.Led (dg du dS bs aw e2)
open Go.L.Th (bK cV da bZ ds bQ bY eE bV ar most dU cM fg eJ dP In cR cZ eK bw bL eL eM bl cB dw go br Good eg eN dT acc Inv eu eS ff busy dG ei ef e9)
attribute[local irreducible] G cz GE cT GT bU c6 cY dc Exit.then Exit.inBlock
section
variable{A B:aq}{D:List aq}{h:dR}
def E1(A B:aq):aq:=λh=>A h\/B h
theorem aim(s:Sat (A::D) h):Sat (E1 A B::D) h:=Sat.head (λ_ x=>.inl x) s
theorem ain(s:Sat (B::D) h):Sat (E1 A B::D) h:=Sat.head (λ_ x=>.inr x) s
theorem Sn(s:Sat (E1 A B::D) h):Sat (A::D) h\/Sat (B::D) h:=by
 obtain⟨h1,h2,d,e,aP|az,t⟩:=s
 . exact .inl ⟨h1,h2,d,e,aP,t⟩
 . exact .inr ⟨h1,h2,d,e,az,t⟩
def eR(l:List aq):aq:=df (bx:=Unit) (λ_=>True) (λ_=>l)
structure cJ where
 C:bK
 P:List b1
 h:Nat
 m:Nat
 cS:kV
 dt:Ck.oG
 bG:Nat
 bp:Nat->Po.nk
 KV:Option Addr
 KW:Nat
 zE:Option Addr
 zF:Nat
 zG:Option Addr
 zH:Nat
 bq:Nat->Nat
 am:Nat
 e5:Nat
 ld:Nat
 c4:Nat
 bS:Option Addr
 pc:Nat
structure dn where
 ap:List Nat
 ai:List Nat
 na:Option Addr
 fv:Nat
 cC:Option Addr
 cD:Nat
 tt:Int
abbrev pD(l:cV):List Value:=[af l.cw,af l.to,S l.tag,af l.n,.bool l.qi]
end
section
variable(e:bZ)(n:da)(a:Option Addr)(X:cJ)(c:Nat)(z:dn)(l:List bZ)(s:ar)
abbrev iA:List Value:=[af n.what,af n.who,S n.reason]
abbrev kb:List Value:=[af e.kind,af e.dK,bu e.id,af e.cw,af e.to,S e.name,af e.n,af e.why,.bool e.nN]
def avu:(iA n).length=3:=rfl
def zI:(kb e).length=9:=rfl
def avv:(l.flatMap kb).all Value.oneCell'=true:=by
 rw[pN];intro x ag;obtain⟨e,_,Y⟩:=Ad.1 ag;simp only[kb,kf,vX,or_false]at Y;rcases Y with rfl|rfl|rfl|rfl|rfl|rfl|rfl|rfl|rfl<;>rfl
abbrev dQ:aq:=own (.slice a l.length c) 38 9 l.length (l.flatMap kb)
abbrev fp(l:List da):aq:=own (.slice a l.length c) 261 3 l.length (l.flatMap iA)
abbrev qO:List Value:=
 [
  af X.C.bc,af X.C.cK,af X.C.aZ,af X.C.hS,af X.C.dW,af X.C.mB,af X.C.ez,af X.C.iO,af X.C.dF,.slice X.bS X.P.length X.pc,ptr X.m 0,af 0,af 1,af 2,ptr X.cS.c 0,ptr X.dt.c 0,ptr X.bG 0,
  .slice X.KV X.C.aZ X.KW,.map (some X.am),.map (some X.e5),.slice z.na s.notes.length z.fv,ptr X.ld 0,ptr X.c4 0,.slice z.cC s.trace.length z.cD,af s.now,af s.ticks,.bool s.shut,.slice X.zE X.C.bc X.zF,.slice X.zG X.C.cK X.zH,ptr (X.bq (X.C.bc+X.C.cK)) 0]
abbrev cG:aq:=ab X.h 108 (qO X z s)
def nO:bY->Nat
 |.load _=>314
 |.add _ _=>314
 |.gm _=>314
 |.post _ _=>246
 |.hZ _=>392
 |.fJ _=>169
 |.eY _=>248
def cW(p:Nat):bY->aq
 |.load c=>tp p X.m c
 |.add c d=>Sj p X.m c d
 |.gm v=>df (bx:=Bool) (λ_=>True) (λw=>[qt p v w])
 |.post a o=>Po.fY (X.bp a) (X.C.box a) p o
 |.hZ o=>oc p X.m o
 |.fJ o=>gV X.cS X.C.bA p o
 |.eY o=>Ck.ja X.dt X.C.dC p o
end
section
variable{X:cJ}{ap ai:List Nat}{j p f a:Nat}{k:Th.K}{c:List Value}(aM av U z I:Nat)(M:List Value)
def a1(X:cJ)(ap ai:List Nat)(j p:Nat):Th.K->Nat->List Value->aq
 |.nil,f,c=>df (bx:=Unit) (λ_=>(f=235\/f=289\/f=168\/f=94\/f=159)/\c=[]) (λ_=>[])
 |.polled,f,c=>df (bx:=Nat×Nat) (fun⟨aM,av⟩=>f=80/\c=[ptr aM 0,ptr av 0]) (fun⟨aM,av⟩=>[ab aM 169 [ptr p 0],ab av 106 [ptr (X.bq j) 0]])
 |.found,f,c=>df (bx:=Nat×Nat) (fun⟨aM,av⟩=>f=83/\c=[ptr aM 0,ptr av 0]) (fun⟨aM,av⟩=>[ab aM 169 [ptr p 0],ab av 106 [ptr (X.bq j) 0]])
 |.pG,f,c=>df (bx:=Nat×Nat) (fun⟨aM,av⟩=>f=87/\c=[ptr aM 0,ptr av 0]) (fun⟨aM,av⟩=>[ab aM 169 [ptr p 0],ab av 106 [ptr (X.bq j) 0]])
 |.mC,f,c=>df (bx:=Nat×Nat×Nat) (fun⟨aM,av,U⟩=>f=148/\c=[ptr aM 0,ptr av 0,ptr U 0]) (fun⟨aM,av,U⟩=>[ab aM 32 [ptr X.h 0],ab av 248 [ptr p 0],ab U 106 [ptr (X.bq j) 0]])
 |.run a,f,c=>df (bx:=Nat×Nat×Nat) (fun⟨aM,av,z⟩=>f=138/\c=[ptr aM 0,ptr av 0]/\ap[a -1]?=some z) (fun⟨aM,av,z⟩=>[ab aM 106 [ptr (X.bq j) 0],ab av 110 [ptr z 0]])
 |.jB a,f,c=>df (bx:=Nat×Nat×Nat×Nat) (fun⟨aM,av,U,z⟩=>f=195/\c=[ptr aM 0,ptr av 0,ptr U 0]/\ap[a -1]?=some z) (fun⟨aM,av,U,z⟩=>[ab aM 246 [ptr p 0],ab av 106 [ptr (X.bq j) 0],ab U 110 [ptr z 0]])
 |.on a,f,c=>df (bx:=Nat×Nat×Nat) (fun⟨aM,av,z⟩=>f=198/\c=[ptr aM 0,ptr av 0]/\ap[a -1]?=some z) (fun⟨aM,av,z⟩=>[ab aM 110 [ptr z 0],ab av 106 [ptr (X.bq j) 0]])
 |.again a,f,c=>df (bx:=Nat×Nat×Nat) (fun⟨aM,av,z⟩=>f=234/\c=[ptr aM 0,ptr av 0]/\ap[a -1]?=some z) (fun⟨aM,av,z⟩=>[ab aM 106 [ptr (X.bq j) 0],ab av 110 [ptr z 0]])
 |.next a left,f,c=>df (bx:=Nat×Nat×Nat×Nat) (fun⟨aM,av,U,z⟩=>f=236/\c=[ptr aM 0,ptr av 0,ptr U 0]/\ap[a -1]?=some z) (fun⟨aM,av,U,z⟩=>[ab aM 106 [ptr (X.bq j) 0],ab av 110 [ptr z 0],ab U 3 [af left]])
 |.nX a left,f,c=>df (bx:=Nat×Nat×Nat×Nat×Nat×Nat) (fun⟨aM,av,U,Z,ot,z⟩=>f=240/\c=[ptr aM 0,ptr av 0,ptr U 0,ptr Z 0]/\ap[a -1]?=some z) (fun⟨aM,av,U,Z,ot,z⟩=>[ab aM 246 [ptr p 0],ab av 106 [ptr (X.bq j) 0],ab U 110 [ptr z 0],ab Z 1 [bi 236 [ptr av 0,ptr U 0,ptr ot 0]],ab ot 3 [af left]])
 |.settled a,f,c=>df (bx:=Nat×Nat×Nat×Nat) (fun⟨aM,av,U,z⟩=>f=288/\c=[ptr aM 0,ptr av 0,ptr U 0]/\ap[a -1]?=some z) (fun⟨aM,av,U,z⟩=>[ab aM 106 [ptr (X.bq j) 0],ab av 246 [ptr p 0],ab U 110 [ptr z 0]])
 |.ended a id H k,f,c=>df (bx:=Nat×Nat×Nat×Nat×Nat×Nat×Nat×Nat×List Value×Option Addr×Nat) (fun⟨aM,av,U,Z,aN,aO,z,I,M,ea,cQ⟩=>f=295/\c=[ptr aM 0,ptr av 0,ptr U 0,ptr Z 0,ptr aN 0,ptr aO 0]/\ap[a -1]?=some z) (fun⟨aM,av,U,Z,aN,aO,z,I,M,ea,cQ⟩=>[ab aM 356 (lK ea cQ H),ab av 110 [ptr z 0],ab U 32 [ptr X.h 0],ab Z 36 [bu id],ab aN 106 [ptr (X.bq j) 0],ab aO 1 [bi I M],kA ea cQ H.b8,a1 X ap ai j 0 k I M])
 |.mD l k,f,c=>df (bx:=Nat×Nat×Nat×Nat×Nat×Nat×Nat×Nat×List Value) (fun⟨aM,av,U,Z,aN,x,y,I,M⟩=>f=213/\c=[ptr aM 0,ptr av 0,ptr U 0,ptr Z 0,ptr aN 0]) (fun⟨aM,av,U,Z,aN,x,y,I,M⟩=>[ab aM 314 [ptr p 0],ab av 187 (pD l),ab U 32 [ptr X.h 0],ab Z 4 [.bool false],ab aN 259 [bi 164 [ptr x 0,ptr y 0]],ab x 106 [ptr (X.bq j) 0],ab y 1 [bi I M],a1 X ap ai j 0 k I M])
 |.h8 a l e k,f,c=>df (bx:=Nat×Nat×Nat×Nat×Nat×Nat×Nat×Nat×Nat×Nat×Nat×List Value) (fun⟨aM,av,U,Z,aN,x,E,w,y,z,I,M⟩=>f=213/\c=[ptr aM 0,ptr av 0,ptr U 0,ptr Z 0,ptr aN 0]/\ap[a -1]?=some z) (fun⟨aM,av,U,Z,aN,x,E,w,y,z,I,M⟩=>[ab aM 314 [ptr p 0],ab av 187 (pD l),ab U 32 [ptr X.h 0],ab Z 4 [.bool true],ab aN 259 [bi 344 [ptr x 0,ptr E 0,ptr w 0,ptr y 0]],ab x 106 [ptr (X.bq j) 0],ab E 110 [ptr z 0],ab w 87 (fz e),ab y 1 [bi I M],a1 X ap ai j 0 k I M])
 |.told id to k,f,c=>df (bx:=Nat×Nat×Nat×Nat×Nat×Nat×Nat×List Value) (fun⟨aM,av,U,Z,aN,aO,I,M⟩=>f=210/\c=[ptr aM 0,ptr av 0,ptr U 0,ptr Z 0,ptr aN 0,ptr aO 0]) (fun⟨aM,av,U,Z,aN,aO,I,M⟩=>[ab aM 246 [ptr p 0],ab av 32 [ptr X.h 0],ab U 36 [bu id],ab Z 106 [ptr (X.bq j) 0],ab aN 3 [af to],ab aO 1 [bi I M],a1 X ap ai j 0 k I M])
 |.lJ a k,f,c=>df (bx:=Nat×Nat×Nat×Nat×Nat×List Value) (fun⟨aM,av,U,Z,I,M⟩=>f=356/\c=[ptr aM 0,ptr av 0,ptr U 0,ptr Z 0]) (fun⟨aM,av,U,Z,I,M⟩=>[ab aM 106 [ptr (X.bq j) 0],ab av 246 [ptr p 0],ab U 3 [af a],ab Z 1 [bi I M],a1 X ap ai j 0 k I M])
 |.mE a kind slot k,f,c=>df (bx:=Nat×Nat×Nat×Nat×Nat×Nat×Nat×Nat×List Value) (fun⟨aM,av,U,Z,aN,aO,z,I,M⟩=>f=387/\c=[ptr aM 0,ptr av 0,ptr U 0,ptr Z 0,ptr aN 0,ptr aO 0]/\ap[a -1]?=some z) (fun⟨aM,av,U,Z,aN,aO,z,I,M⟩=>[ab aM 314 [ptr p 0],ab av 32 [ptr X.h 0],ab U 110 [ptr z 0],ab Z 9 [S kind],ab aN 3 [af slot],ab aO 1 [bi I M],a1 X ap ai j 0 k I M])
 |.asked id a e k,f,c=>df (bx:=Nat×Nat×Nat×Nat×Nat×Nat×Nat×Nat×List Value) (fun⟨aM,av,U,Z,aN,aO,z,I,M⟩=>f=389/\c=[ptr aM 0,ptr av 0,ptr U 0,ptr Z 0,ptr aN 0,ptr aO 0]/\ap[a -1]?=some z) (fun⟨aM,av,U,Z,aN,aO,z,I,M⟩=>[ab aM 248 [ptr p 0],ab av 32 [ptr X.h 0],ab U 36 [bu id],ab Z 110 [ptr z 0],ab aN 87 (fz e),ab aO 1 [bi I M],a1 X ap ai j 0 k I M])
 |.watched a who k,f,c=>df (bx:=Nat×Nat×Nat×Nat×Nat×Nat×Nat×List Value) (fun⟨aM,av,U,Z,aN,z,I,M⟩=>f=392/\c=[ptr aM 0,ptr av 0,ptr U 0,ptr Z 0,ptr aN 0]/\ap[a -1]?=some z) (fun⟨aM,av,U,Z,aN,z,I,M⟩=>[ab aM 32 [ptr X.h 0],ab av 3 [af who],ab U 106 [ptr (X.bq j) 0],ab Z 1 [bi I M],ab aN 110 [ptr z 0],a1 X ap ai j 0 k I M])
 |.gone a who k,f,c=>df (bx:=Nat×Nat×Nat×Nat×Nat×Nat×Nat×List Value) (fun⟨aM,av,U,Z,aN,z,I,M⟩=>f=394/\c=[ptr aM 0,ptr av 0,ptr U 0,ptr Z 0,ptr aN 0]/\ap[a -1]?=some z) (fun⟨aM,av,U,Z,aN,z,I,M⟩=>[ab aM 246 [ptr p 0],ab av 1 [bi I M],ab U 106 [ptr (X.bq j) 0],ab Z 110 [ptr z 0],ab aN 3 [af who],a1 X ap ai j 0 k I M])
 |.nn x y k,f,c=>df (bx:=Nat×Nat×Nat×Nat×Nat×Nat×List Value) (fun⟨aM,av,U,Z,aN,I,M⟩=>f=430/\c=[ptr aM 0,ptr av 0,ptr U 0,ptr Z 0,ptr aN 0]) (fun⟨aM,av,U,Z,aN,I,M⟩=>[ab aM 392 [ptr p 0],ab av 1 [bi I M],ab U 106 [ptr (X.bq j) 0],ab Z 3 [af y],ab aN 3 [af x],a1 X ap ai j 0 k I M])
 |.alone a k,f,c=>E1 (df (bx:=Nat×Nat×Nat×Nat×Nat×List Value) (fun⟨aM,av,U,z,I,M⟩=>f=297/\c=[ptr aM 0,ptr av 0,ptr U 0]/\ap[a -1]?=some z) (fun⟨aM,av,U,z,I,M⟩=>[ab aM 106 [ptr (X.bq j) 0],ab av 110 [ptr z 0],ab U 1 [bi I M],a1 X ap ai j 0 k I M])) (df (bx:=Nat×Nat×Nat×Nat×Nat×List Value) (fun⟨aM,av,U,z,I,M⟩=>f=244/\c=[ptr aM 0,ptr av 0,ptr U 0]/\ap[a -1]?=some z) (fun⟨aM,av,U,z,I,M⟩=>[ab aM 106 [ptr (X.bq j) 0],ab av 110 [ptr z 0],ab U 1 [bi I M],a1 X ap ai j 0 k I M]))
 |.mF a m k,f,c=>df (bx:=Nat×Nat×Nat×Nat×Nat×Nat×Nat×Nat×List Value) (fun⟨aM,av,U,Z,aN,aO,z,I,M⟩=>f=302/\c=[ptr aM 0,ptr av 0,ptr U 0,ptr Z 0,ptr aN 0,ptr aO 0]/\ap[a -1]?=some z) (fun⟨aM,av,U,Z,aN,aO,z,I,M⟩=>[ab aM 110 [ptr z 0],ab av 261 (iA m),ab U 248 [ptr p 0],ab Z 3 [af 2],ab aN 106 [ptr (X.bq j) 0],ab aO 1 [bi I M],a1 X ap ai j 0 k I M])
 |.closed a k,f,c=>df (bx:=Nat×Nat×Nat×Nat×Nat×List Value) (fun⟨aM,av,U,z,I,M⟩=>f=359/\c=[ptr aM 0,ptr av 0,ptr U 0]/\ap[a -1]?=some z) (fun⟨aM,av,U,z,I,M⟩=>[ab aM 106 [ptr (X.bq j) 0],ab av 110 [ptr z 0],ab U 1 [bi I M],a1 X ap ai j 0 k I M])
 |.lc a k,f,c=>df (bx:=Nat×Nat×Nat×Nat×Nat×Nat×List Value) (fun⟨aM,av,U,Z,z,I,M⟩=>f=401/\c=[ptr aM 0,ptr av 0,ptr U 0,ptr Z 0]/\ap[a -1]?=some z) (fun⟨aM,av,U,Z,z,I,M⟩=>[ab aM 246 [ptr p 0],ab av 1 [bi I M],ab U 106 [ptr (X.bq j) 0],ab Z 110 [ptr z 0],a1 X ap ai j 0 k I M])
 |.shut a k,f,c=>df (bx:=Nat×Nat×Nat×Nat×Nat×List Value) (fun⟨aM,av,U,z,I,M⟩=>f=361/\c=[ptr aM 0,ptr av 0,ptr U 0]/\ap[a -1]?=some z) (fun⟨aM,av,U,z,I,M⟩=>[ab aM 106 [ptr (X.bq j) 0],ab av 110 [ptr z 0],ab U 1 [bi I M],a1 X ap ai j 0 k I M])
 |.ow a k,f,c=>df (bx:=Nat×Nat×Nat×Nat×Nat×List Value) (fun⟨aM,av,U,z,I,M⟩=>f=363/\c=[ptr aM 0,ptr av 0,ptr U 0]/\ap[a -1]?=some z) (fun⟨aM,av,U,z,I,M⟩=>[ab aM 106 [ptr (X.bq j) 0],ab av 110 [ptr z 0],ab U 1 [bi I M],a1 X ap ai j 0 k I M])
 |.who a k,f,c=>df (bx:=Nat×Nat×Nat×Nat×Nat×Nat×Nat×List Value) (fun⟨aM,av,U,Z,aN,z,I,M⟩=>f=402/\c=[ptr aM 0,ptr av 0,ptr U 0,ptr Z 0,ptr aN 0]/\ap[a -1]?=some z) (fun⟨aM,av,U,Z,aN,z,I,M⟩=>[ab aM 314 [ptr p 0],ab av 32 [ptr X.h 0],ab U 106 [ptr (X.bq j) 0],ab Z 110 [ptr z 0],ab aN 1 [bi I M],a1 X ap ai j 0 k I M])
 |.parent a k,f,c=>df (bx:=Nat×Nat×Nat×Nat×Nat×List Value) (fun⟨aM,av,U,z,I,M⟩=>f=404/\c=[ptr aM 0,ptr av 0,ptr U 0]/\ap[a -1]?=some z) (fun⟨aM,av,U,z,I,M⟩=>[ab aM 110 [ptr z 0],ab av 1 [bi I M],ab U 106 [ptr (X.bq j) 0],a1 X ap ai j 0 k I M])
 |.o2 a,f,c=>df (bx:=Nat×Nat×Nat) (fun⟨aM,av,U⟩=>f=166/\c=[ptr aM 0,ptr av 0,ptr U 0]) (fun⟨aM,av,U⟩=>[ab aM 106 [ptr (X.bq j) 0],ab av 246 [ptr p 0],ab U 3 [af a]])
 |.each (.c0 a id H) i n (.ended cl d o k),f,c=>df (bx:=Nat×Nat×Nat×Nat×Nat×Nat×Nat×Nat×Nat×Nat×Nat×Nat×Nat×Nat×List Value×Nat×Option Addr×Nat) (fun⟨O,dN,d3,cm,d4,aM,av,U,Z,aN,aO,aR,z,I,M,b,ea,cQ⟩=>f=208/\c=[ptr dN 0,ptr O 0]/\ap[a -1]?=some z/\ai[(id -1).toNat]?=some b/\(cl=a/\d=id/\o=H)) (fun⟨O,dN,d3,cm,d4,aM,av,U,Z,aN,aO,aR,z,I,M,b,ea,cQ⟩=>[ab O 3 [af i],ab dN 188 [bi 207 [ptr d3 0,ptr d4 0,ptr cm 0,ptr dN 0]],ab d3 3 [af n],ab cm 255 [bi 293 [ptr aM 0,ptr av 0,ptr U 0,ptr Z 0]],ab d4 1 [bi 295 [ptr Z 0,ptr av 0,ptr aN 0,ptr aO 0,ptr aM 0,ptr aR 0]],ab aM 106 [ptr (X.bq j) 0],ab av 110 [ptr z 0],ab U 311 [ptr b 0],ab Z 356 (lK ea cQ H),ab aN 32 [ptr X.h 0],ab aO 36 [bu id],ab aR 1 [bi I M],kA ea cQ H.b8,a1 X ap ai j 0 k I M])
 |.each (.mz a) i n (.parent cl k),f,c=>df (bx:=Nat×Nat×Nat×Nat×Nat×Nat×Nat×Nat×Nat×Nat×List Value) (fun⟨O,dN,d3,cm,d4,aM,av,U,z,I,M⟩=>f=208/\c=[ptr dN 0,ptr O 0]/\ap[a -1]?=some z/\cl=a) (fun⟨O,dN,d3,cm,d4,aM,av,U,z,I,M⟩=>[ab O 3 [af i],ab dN 188 [bi 207 [ptr d3 0,ptr d4 0,ptr cm 0,ptr dN 0]],ab d3 3 [af n],ab cm 255 [bi 403 [ptr aM 0,ptr av 0]],ab d4 1 [bi 404 [ptr aM 0,ptr U 0,ptr av 0]],ab aM 110 [ptr z 0],ab av 106 [ptr (X.bq j) 0],ab U 1 [bi I M],a1 X ap ai j 0 k I M])
 |.each (.cancel ids) i n k,f,c=>df (bx:=Nat×Nat×Nat×Nat×Nat×Nat×Nat×Nat×Nat×List Value×Option Addr×Nat) (fun⟨O,dN,d3,cm,d4,aM,av,U,I,M,ea,cQ⟩=>f=208/\c=[ptr dN 0,ptr O 0]) (fun⟨O,dN,d3,cm,d4,aM,av,U,I,M,ea,cQ⟩=>[ab O 3 [af i],ab dN 188 [bi 207 [ptr d3 0,ptr d4 0,ptr cm 0,ptr dN 0]],ab d3 3 [af n],ab cm 255 [bi 346 [ptr aM 0,ptr av 0,ptr U 0]],ab d4 1 [bi I M],ab aM 106 [ptr (X.bq j) 0],ab av 32 [ptr X.h 0],ab U 49 [ul ea cQ ids],fH ea cQ ids,a1 X ap ai j 0 k I M])
 |.each (.leave due) i n k,f,c=>df (bx:=Nat×Nat×Nat×Nat×Nat×Nat×Nat×Nat×List Value×Option Addr×Nat) (fun⟨O,dN,d3,cm,d4,aM,av,I,M,ea,cQ⟩=>f=208/\c=[ptr dN 0,ptr O 0]) (fun⟨O,dN,d3,cm,d4,aM,av,I,M,ea,cQ⟩=>[ab O 3 [af i],ab dN 188 [bi 207 [ptr d3 0,ptr d4 0,ptr cm 0,ptr dN 0]],ab d3 3 [af n],ab cm 255 [bi 157 [ptr aM 0,ptr av 0]],ab d4 1 [bi I M],ab aM 106 [ptr (X.bq j) 0],ab av 49 [ul ea cQ due],fH ea cQ due,a1 X ap ai j 0 k I M])
 |.each (.push l what) i n k,f,c=>df (bx:=Nat×Nat×Nat×Nat×Nat×Nat×Nat×Nat×Nat×List Value×Option Addr×Nat) (fun⟨O,dN,d3,cm,d4,aM,av,U,I,M,ea,cQ⟩=>f=208/\c=[ptr dN 0,ptr O 0]) (fun⟨O,dN,d3,cm,d4,aM,av,U,I,M,ea,cQ⟩=>[ab O 3 [af i],ab dN 188 [bi 207 [ptr d3 0,ptr d4 0,ptr cm 0,ptr dN 0]],ab d3 3 [af n],ab cm 255 [bi 304 [ptr aM 0,ptr av 0,ptr U 0]],ab d4 1 [bi I M],ab aM 106 [ptr (X.bq j) 0],ab av 39 [hL ea cQ l],dv ea cQ l,ab U 3 [af what],a1 X ap ai j 0 k I M])
 |.each _ _ _ _,_,_=>df (bx:=Unit) (λ_=>False) (λ_=>[])
def avw(bn:ap[a -1]?=some z):∀D h,Sat ([ab aM 106 [ptr (X.bq j) 0],ab av 110 [ptr z 0],ab U 1 [bi I M],a1 X ap ai j 0 k I M]++D) h->Sat (a1 X ap ai j p tU 297 lX::D) h:=λD h s=>by
 rw[a1];exact(aim acd)
def avx(bn:ap[a -1]?=some z):∀D h,Sat ([ab aM 106 [ptr (X.bq j) 0],ab av 110 [ptr z 0],ab U 1 [bi I M],a1 X ap ai j 0 k I M]++D) h->Sat (a1 X ap ai j p tU 244 lX::D) h:=λD h s=>by
 rw[a1];exact(ain acd)
def Sp{bx:Type}{fR:bx->Prop}{l:bx->List aq}(e:a1 X ap ai j p k f c=df fR l)(x:bx)(ag:fR x):∀D h,Sat (l x++D) h->Sat (a1 X ap ai j p k f c::D) h:=λD h s=>by
 rw[e];exact cA x ag (λh s=>s) h s
def vC{X:cJ}{ap ai H N:List Nat}{j:Nat}(aP:∀i q:Nat,ap[i]?=some q->H[i]?=some q)(aw:∀i q:Nat,ai[i]?=some q->N[i]?=some q):∀(k:Th.K) (p f:Nat) (c:List Value) (D:List aq) (h:dR),Sat (a1 X ap ai j p k f c::D) h->Sat (a1 X H N j p k f c::D) h
 |
  .nil,p,f,c,D,h,s|.polled,p,f,c,D,h,s|.found,p,f,c,D,h,s|.pG,p,f,c,D,h,s|.mC,p,f,c,D,h,s|.run _,p,f,c,D,h,s|.jB _,p,f,c,D,h,s|.on _,p,f,c,D,h,s|.again _,p,f,c,D,h,s|.next _ _,p,f,c,D,h,s|.nX _ _,p,f,c,D,h,s|.settled _,p,f,c,D,h,s|.o2 _,p,f,c,D,h,s=>by
  rw[a1]at s⊢;obtain⟨x,ag,G⟩:=hb s;exact cA x Zv kH h G
 |
  .ended _ _ _ k,p,f,c,D,h,s|.mD _ k,p,f,c,D,h,s|.h8 _ _ _ k,p,f,c,D,h,s|.told _ _ k,p,f,c,D,h,s|.lJ _ k,p,f,c,D,h,s|.mE _ _ _ k,p,f,c,D,h,s|.asked _ _ _ k,p,f,c,D,h,s|.watched _ _ k,p,f,c,D,h,s|.gone _ _ k,p,f,c,D,h,s|.nn _ _ k,p,f,c,D,h,s|.mF _ _ k,p,f,c,D,h,s|.closed _ k,p,f,c,D,h,s|.lc _ k,p,f,c,D,h,s|.shut _ k,p,f,c,D,h,s|.ow _ k,p,f,c,D,h,s|.who _ k,p,f,c,D,h,s|.parent _ k,p,f,c,D,h,s|.each (.cancel _) _ _ k,p,f,c,D,h,s|.each (.leave _) _ _ k,p,f,c,D,h,s|.each (.push _ _) _ _ k,p,f,c,D,h,s=>by
  rw[a1]at s⊢;obtain⟨x,ag,G⟩:=hb s;refine cA x Zv (λh s=>?_) h G;clear ag G
  repeat(obtain⟨_,x⟩:_×_:=x)
  simp only[cn,ci]at s⊢
  repeat(first|exact vC aP aw k 0 _ _ _ _ s|refine Sat.tail (λh s=>?_) s)
 |
  .alone _ k,p,f,c,D,h,s=>by
  rw[a1]at s⊢;rcases Sn s with s|s
  . refine aim ?_
    obtain⟨x,ag,G⟩:=hb s;refine cA x Zw (λh s=>?_) h G;clear ag G
    repeat(obtain⟨_,x⟩:_×_:=x)
    simp only[cn,ci]at s⊢
    repeat(first|exact vC aP aw k 0 _ _ _ _ s|refine Sat.tail (λh s=>?_) s)
  . refine ain ?_
    obtain⟨x,ag,G⟩:=hb s;refine cA x Zw (λh s=>?_) h G;clear ag G
    repeat(obtain⟨_,x⟩:_×_:=x)
    simp only[cn,ci]at s⊢
    repeat(first|exact vC aP aw k 0 _ _ _ _ s|refine Sat.tail (λh s=>?_) s)
 |
  .each (.c0 _ _ _) _ _ k,p,f,c,D,h,s=>by
  cases k with
  |
   ended _ _ _ k=>
   rw[a1]at s⊢;obtain⟨x,ag,G⟩:=hb s;refine cA x (by first|exact⟨ag.1,ag.2.1,aP _ _ ag.2.2.1,aw _ _ ag.2.2.2.1,ag.2.2.2.2⟩) (λh s=>?_) h G;clear ag G
   repeat(obtain⟨_,x⟩:_×_:=x)
   simp only[cn,ci]at s⊢
   repeat(first|exact vC aP aw k 0 _ _ _ _ s|refine Sat.tail (λh s=>?_) s)
  |_=>exfalso;rw[a1]at s;obtain⟨_,g,_⟩:=hb s;exact g.elim;all_goals(intros;simp_all)
 |
  .each (.mz _) _ _ k,p,f,c,D,h,s=>by
  cases k with
  |
   parent _ k=>
   rw[a1]at s⊢;obtain⟨x,ag,G⟩:=hb s;refine cA x (by first|exact⟨ag.1,ag.2.1,aP _ _ ag.2.2.1,ag.2.2.2⟩) (λh s=>?_) h G;clear ag G
   repeat(obtain⟨_,x⟩:_×_:=x)
   simp only[cn,ci]at s⊢
   repeat(first|exact vC aP aw k 0 _ _ _ _ s|refine Sat.tail (λh s=>?_) s)
  |_=>exfalso;rw[a1]at s;obtain⟨_,g,_⟩:=hb s;exact g.elim;all_goals(intros;simp_all)
def avy{S f:Nat}{c:List Value}{k:Th.K}(h:Th.cZ k):a1 X ap ai j p k f c=a1 X ap ai j S k f c:=by
 cases k with
 |each d i n k=>cases d<;>first|rfl|(cases k<;>rfl)
 |_=>first|rfl|exact absurd h id
end
section
variable(X:cJ)(y:Nat)(ap ai:List Nat)(x:bQ)(j:Nat)
abbrev jY:Int:=if j<X.C.bc then(j:Int)else-1
def hE(t:bV):aq:=
 match t.on with
 |none=>ab (X.bq j) 128 [ptr X.h 0,af (jY X j),.nilIface,.nilFunc,bu t.draw,.bool t.jg]
 |some (o,k)=>df (bx:=Nat×Nat×List Value) (λ_=>True) (fun⟨p,f,c⟩=>[ab (X.bq j) 128 [ptr X.h 0,af (jY X j),.iface (nO o) (ptr p 0),bi f c,bu t.draw,.bool t.jg],cW X p o,a1 X ap ai j p k f c])
abbrev c8(l:List bV):List aq:=l.mapIdx λj t=>hE X ap ai j t
abbrev qg:=cy×Option Addr×Nat×List Int
abbrev h5(es:List qg):List (cy×Value):=es.map λp=>(p.1,ul p.2.1 p.2.2.1 p.2.2.2)
abbrev iz(es:List qg):List aq:=es.map λp=>fH p.2.1 p.2.2.1 p.2.2.2
abbrev pE(es:List qg):List (cy×List Int):=es.map λp=>(p.1,p.2.2.2)
structure hR where
 b5:b1
 ka:Option Addr
 kc:Nat
 hP:Option Addr
 hQ:Nat
 gJ:Nat
 jD:Nat
 gp:Nat
 jE:Nat
 es:List qg
abbrev ee(e:hR):List Value:=
 af x.id::af x.parent::S e.b5.name::af e.b5.limit::af e.b5.within::.slice e.b5.ca e.b5.cases.length e.b5.kg::.slice e.b5.sa e.b5.states.length e.b5.sc::S x.state::
  [af (x.slots.getD 0 0),af (x.slots.getD 1 0),af (x.slots.getD 2 0),af (x.slots.getD 3 0),hL e.ka e.kc x.kids,af x.mode,ptr e.gJ 0,ptr e.jD 0,.map (some e.gp),hL e.hP e.hQ x.cF,.map (some e.jE),ptr (X.bp x.id).bp 0]
abbrev Ca(e:hR):List aq:=
 [
  ab y 118 (ee X x e),dv e.ka e.kc x.kids,dv e.hP e.hQ x.cF,gj e.gJ X.C.dW x.aside x.front,h4 e.jD (min (max e.b5.limit 0) 100) (min (max e.b5.within 1) 4095) x.given,
  b2 e.gp .i64 (x.watched.map λw=>(w,.bool true)),jf e.jE (h5 e.es),ay (iz e.es),gM e.b5]
structure fU(x:bQ)(e:hR):Prop where
 b5:cN e.b5=cN x.kind
 la:re e.b5
 es:pE e.es=x.timers
def vD:aq:=df (fU x) (Ca X y x)
abbrev e3(l:List bQ):List aq:=l.mapIdx λi x=>vD X (ap.getD i 0) x
abbrev cf:List (Int×Value):=ap.mapIdx λi q=>(((i+1:Nat):Int),ptr q 0)
abbrev Ei(q:Nat)(l:cV):aq:=ab q 187 (pD l)
abbrev gv(l:List cV):List aq:=l.mapIdx λi x=>Ei (ai.getD i 0) x
def xH(a:Nat):aq:=eR [Po.e4 (X.bp a) (X.C.box a),gf ((X.bp a).r false) X.m ((X.C.box a).eO false) ((X.C.box a).fa false),gf ((X.bp a).r true) X.m ((X.C.box a).eO true) ((X.C.box a).fa true)]
abbrev ed:List aq:=(List.range X.C.aZ).map λi=>xH X (i+1)
def fI:aq:=eR [gr X.cS X.C.bA,cd X.cS X.C.bA,jo X.cS X.C.bA,eB X.cS X.C.bA,ay (lz X.cS X.C.bA)]
def fC(w:gd):aq:=eR [Ck.gn X.dt X.C.dC,gf X.dt.r X.m (X.C.dC.b+1) X.C.dC.n,fO X.dt.wp w]
def gk:aq:=λh=>∃a,a.map cN=X.P.map cN/\hr h X.bS X.pc a
abbrev fy:aq:=own (.slice X.KV X.C.aZ X.KW) 116 1 X.C.aZ ((List.range X.C.aZ).map λi=>ptr (X.bp (i+1)).bp 0)
abbrev gw:aq:=own (.slice X.zE X.C.bc X.zF) 106 1 X.C.bc ((List.range X.C.bc).map λi=>ptr (X.bq i) 0)
abbrev hc:aq:=own (.slice X.zG X.C.cK X.zH) 106 1 X.C.cK ((List.range X.C.cK).map λi=>ptr (X.bq (X.C.bc+i)) 0)
abbrev bj(z:dn)(s:ar):List aq:=
 [
  cG X z s,dQ z.cC z.cD s.trace,fp z.na z.fv s.notes,b2 X.am .i64 (cf z.ap),ay (e3 X z.ap s.aI),b2 X.e5 .u64 (cf z.ai),ay (gv z.ai s.lets),Lg.dp X.ld s.bf,ey X.c4 X.C.dF s.dead,
  cg X.m s.L z.tt,fI X,fC X s.bs,eD X.bG X.m X.C.bG X.C.aZ,ay (ed X),fy X,gw X,hc X,gk X,ay (c8 X z.ap z.ai s.aC)]
structure bD(X:cJ)(z:dn)(s:ar):Prop where
 gK:X.cS.m=X.m
 gE:X.dt.m=X.m
 gF:∀a,(X.bp a).m=X.m
 ap:z.ap.length=s.aI.length
 ai:z.ai.length=s.lets.length
end
end Go.Proofs.YtnnhpnccfnghdaaGreat.L.bE
namespace Go.L
open Go.RowKit
class A8(P:Program)(t:TypeId):Prop where
 out:∃c,P.underlying t=some (.interface c)
section
variable{P:Program}{F w:World}{n:Nat}{ak:eA}{I:List aq}{bC:TypeId}
section
variable{t dh t1:TypeId}{x:Operand}{v:Value}
def XX{c}(h:P.underlying t=some (.interface c))(d:Nat)(t1:TypeId)(v:Value)(w:World):(Op.equalIn (d+1) t (.iface t1 v) .nilIface).run P w=.ok false w:=by
 simp[Op.equalIn,gC h]
def XY{c}(h:P.underlying t=some (.interface c))(d:Nat)(w:World):(Op.equalIn (d+1) t .nilIface .nilIface).run P w=.ok true w:=by
 simp[Op.equalIn,gC h]
def XZ[i:A8 P t](ag:cb ak x=some (.iface t1 v)):bU P F n (.binOp .eql t x (.const .nilIface) dh) bC ak I gQ:=λa w d pos N g aj _=>by
 obtain⟨c,h1⟩:=i.out;simp only[execOp,aj.eval ag,show a.eval (.const .nilIface)=.nilIface from rfl];simp only[binOp];simp[eqGuard,Op.equal,Op.maxDepth,XX h1 9999]
def X0[i:A8 P t](ag:cb ak x=some (.iface t1 v)):bU P F n (.binOp .neq t x (.const .nilIface) dh) bC ak I iu:=λa w d pos N g aj _=>by
 obtain⟨c,h1⟩:=i.out;simp only[execOp,aj.eval ag,show a.eval (.const .nilIface)=.nilIface from rfl];simp only[binOp];simp[eqGuard,Op.equal,Op.maxDepth,XX h1 9999]
def apP[i:A8 P t](ag:cb ak x=some .nilIface):bU P F n (.binOp .eql t x (.const .nilIface) dh) bC ak I iu:=λa w d pos N g aj _=>by
 obtain⟨c,h1⟩:=i.out;simp only[execOp,aj.eval ag,show a.eval (.const .nilIface)=.nilIface from rfl];simp only[binOp];simp[eqGuard,Op.equal,Op.maxDepth,XY h1 9999]
def N0[i:A8 P t](ag:cb ak x=some .nilIface):bU P F n (.binOp .neq t x (.const .nilIface) dh) bC ak I gQ:=λa w d pos N g aj _=>by
 obtain⟨c,h1⟩:=i.out;simp only[execOp,aj.eval ag,show a.eval (.const .nilIface)=.nilIface from rfl];simp only[binOp];simp[eqGuard,Op.equal,Op.maxDepth,XY h1 9999]
end
end
end Go.L
namespace Go.Proofs.YtnnhpnccfnghdaaGreat.L.bE
open Go.Proofs.YtnnhpnccfnghdaaGreat.L
open Go.L Go.L.Ring Go.L.dr Go.L.dX Go.L.Whl Go.L.dB Go.L.Lx Go.L.Pg
open Go.L.Led (dg du dS bs aw e2)
open Go.L.Th (bK cV da bZ ds bQ bY eE bV ar most dU cM fg eJ dP In cR cZ eK bw bL eL eM bl cB dw go br Good eg eN dT acc Inv eu eS ff busy dG ei ef e9)
attribute[local irreducible] G cz GE cT GT bU c6 cY dc Exit.then Exit.inBlock
section
variable(X:cJ){a:Option Addr}(z:dn){c m:Nat}(s:ar)(e:bZ)
def mapIdx_set{α z:Type}(g:Nat->α->z)(l:List α)(j:Nat)(x:α):(l.set j x).mapIdx g=(l.mapIdx g).set j (g j x):=by
 apply u0;intro i;by_cases h:j=i
 . subst h;by_cases h2:j<l.length<;>simp[h2]
 . simp[h]
def avz{l:List bZ}{e:bZ}(h:l.length=m):own (.slice a (m+1) c) 38 9 (m+1) (l.flatMap kb++kb e)=dQ a c (l++[e]):=by
 subst h;simp only[dQ,o5,ep,pP,Ug,jj];rfl
def arD{l:List da}{e:da}(h:l.length=m):own (.slice a (m+1) c) 261 3 (m+1) (l.flatMap iA++iA e)=fp a c (l++[e]):=by
 subst h;simp only[fp,o5,ep,pP,Ug,jj];rfl
def avA(a:Option Addr)(c:Nat):cG X {z with cC:=a,cD:=c} {s with trace:=s.trace++[e]}=ab X.h 108 ((qO X z s).set (0+23) (.slice a (s.trace.length+1) c)):=by
 exact acS
def arE(e:da)(a:Option Addr)(c:Nat):cG X {z with na:=a,fv:=c} {s with notes:=s.notes++[e]}=ab X.h 108 ((qO X z s).set (0+20) (.slice a (s.notes.length+1) c)):=by
 exact acS
instance:A8 aa 126:=⟨_,Tryz.underlying126⟩
abbrev kn(j:Nat)(x y:Value)(t:bV):aq:=ab (X.bq j) 128 [ptr X.h 0,af (jY X j),x,y,bu t.draw,.bool t.jg]
def lZ(aw:s.trace.length<most):ad aa 91 [ptr X.h 0,.agg (kb e).toArray] [cG X z s,dQ z.cC z.cD s.trace] (λu H=>u=.tuple #[]/\∃a c,H=[cG X Ej Qz,dQ a c (s.trace++[e])]):=by
 refine ax Tryz.func91 λF D=>?_;have ip:s.trace.length<1099511627776:=aw;refine a7 ?_;refine wn λZ=>?_;refine a7 ?_;refine ct [6,7] [105,1,202,2,201] [cG X z s,ab Z 38 (kb e)] ?_;refine bh ?_;refine wn λc2=>?_;refine aG ?_;refine gp λb p=>?_;refine bh ?_;exact aW ⟨rfl,b,p,rfl⟩ (by rw[<-avz rfl,avA];exact(au))
end
section
variable{P:Program}{f:FuncId}{args:List Value}{X:cJ}{ap ai:List Nat}{l:List bV}{j p:Nat}{t:bV}
def Sq(h:l[j]?=some t)(R:t.on=none):(c8 X ap ai l)[j]?=some (kn X j .nilIface .nilFunc t):=by
 simp[sS,h,hE,R]
theorem avB{f:Nat}{c:List Value}{t:bV}{o:bY}{k:Th.K}{D I:List aq}(h:l[j]?=some t)
 (e:∀h,Sat I h->Sat (kn X j xb (bi f c) t::cW X p o::a1 X ap ai j p k f c::ay ((c8 X ap ai l).set j fu)::D) h):
 ∀h,Sat I h->Sat (ay (c8 X ap ai (l.set j {t with on:=some (o,k)}))::D) h:=λq s=>by
 rw[c8,mapIdx_set];refine uZ (by rw[KX];exact(dd.1 h).1) q ?_;exact cA (p,f,c) trivial (λg t=>t) q (e q s)
def pA{L I:List aq}{A:aq}{post:Value->List aq->Prop}(e:∀D h,Sat (L++D) h->Sat (A::D) h)(h:ad P f args (A::I) post):ad P f args (L++I) post:=λF D w s=>
 h F D w (s.imp λg t=>by rw[jI]at t;exact e _ g t)
def iB{f:Nat}{k:Th.K}{c:List Value}{bx:Type}{fR:bx->Prop}{l:bx->List aq}{P:Program}{t:FuncId}{args:List Value}{I L:List aq}{post:Value->List aq->Prop}(e:a1 X ap ai j p k f c=df fR l)(x:bx)(ag:fR x)(h:ad P t args (a1 X ap ai j p k f c::I) post)(K:l x++I=L:=by simp only[cn,ci];rfl):ad P t args L post:=by
 subst K;exact pA (Sp e x ag) h
theorem qV{a:Nat}{Q:Nat->aq}(aP:1<=a/\a<=X.C.aZ)(h:ad P f args [Po.e4 (X.bp a) (X.C.box a)] (λu H=>∃p,u=ptr p 0/\H=[Q p,Po.e4 (X.bp a) (X.C.box a)])):
 ad P f args qN (λu H=>∃p,u=ptr p 0/\H=[Q p,ay (ed X)]):=λF D w s=>by
 have e:(ed X)[a -1]?=some (xH X a):=by
  obtain⟨h1,h2⟩:=aP;simp only[ed,fe,ve (show a -1<X.C.aZ by omega),nH,show a -1+1=a by omega]
 have s1:db F (xH X a::ay ((ed X).set (a -1) fu)::D) w:=s.imp λg t=>rD e g t;have Z:db F ([Po.e4 (X.bp a) (X.C.box a)]++(gf ((X.bp a).r false) X.m ((X.C.box a).eO false) ((X.C.box a).fa false)::gf ((X.bp a).r true) X.m ((X.C.box a).eO true) ((X.C.box a).fa true)::ay ((ed X).set (a -1) fu)::D)) w:=
  s1.imp λg t=>by obtain⟨_,_,dh⟩:=hb t;exact dh
 refine(h F _ w Z).mono ?_;rintro _ _ ⟨v,H,rfl,⟨p,rfl,rfl⟩,b9⟩;refine⟨_,_,rfl,AC,b9.imp λg t=>?_⟩;have aw:a -1<(ed X).length:=by obtain⟨h1,h2⟩:=aP;simp;omega
 refine Sat.tail (λg t=>?_) t;have V:=uZ (A:=xH X a) aw g (cA () trivial (λg t=>t) g t);rwa[show(ed X).set (a -1) (xH X a)=ed X from by obtain⟨h1,h2⟩:=dd.1 e;rw[<-h2];exact A1 h1]at V
end
section
variable(X:cJ){a:Nat}(aP:1<=a/\a<=X.C.aZ)
include aP
theorem avC:ad aa 194 xi qN (λu H=>∃p,u=ptr p 0/\H=[cW X p (.post a Th.Cj),ay (ed X)]):=qV aP (Po.atV _ _)
theorem avD:ad aa 239 xi qN (λu H=>∃p,u=ptr p 0/\H=[cW X p (.post a Th.Cn),ay (ed X)]):=qV aP (Po.atU _ _)
theorem avE:ad aa 358 xi qN (λu H=>∃p,u=ptr p 0/\H=[cW X p (.post a Th.Co),ay (ed X)]):=qV aP (Po.atW _ _)
theorem avF:ad aa 400 xi qN (λu H=>∃p,u=ptr p 0/\H=[cW X p ED,ay (ed X)]):=qV aP (Po.atY _ _)
theorem aio:ad aa 393 xi qN (λu H=>∃p,u=ptr p 0/\H=[cW X p (.post a Th.xN),ay (ed X)]):=qV aP (Po.at1 _ _)
theorem agv(v:Int):ad aa 209 [ptr (X.bp a).bp 0,bu v] qN (λu H=>∃p,u=ptr p 0/\H=[cW X p (.post a (Th.Le v)),ay (ed X)]):=qV aP (Po.atL _ _ v)
theorem aip(v:Int):ad aa 355 [ptr (X.bp a).bp 0,bu v] qN (λu H=>∃p,u=ptr p 0/\H=[cW X p (.post a (Th.xS v)),ay (ed X)]):=qV aP (Po.atM _ _ v)
theorem aiq(az:(X.C.box a).b<=65536)(v:Int):ad aa 165 [ptr (X.bp a).bp 0,bu v] qN (λu H=>∃p,u=ptr p 0/\H=[cW X p (.post a (Th.E9 v)),ay (ed X)]):=qV aP (Po.atO _ _ az v)
theorem avG:ad aa 137 xi qN (λu H=>∃p,u=ptr p 0/\H=[cW X p (.post a (Th.nU 2)),ay (ed X)]):=qV aP (Po.atQ _ _)
theorem avH:ad aa 233 xi qN (λu H=>∃p,u=ptr p 0/\H=[cW X p (.post a (Th.nU 1)),ay (ed X)]):=qV aP (Po.atS _ _)
theorem avI:ad aa 362 xi qN (λu H=>∃p,u=ptr p 0/\H=[cW X p (.post a (Th.nU 4)),ay (ed X)]):=qV aP (Po.atT _ _)
theorem air(held:Bool):ad aa 287 [ptr (X.bp a).bp 0,.bool held] qN (λu H=>∃p,u=ptr p 0/\H=[cW X p (.post a (Th.Fa held)),ay (ed X)]):=by
 cases held
 . exact qV aP (Po.aub _ _)
 . exact qV aP (Po.at5 _ _)
end
section
variable{X:cJ}{ap:List Nat}{aI:List bQ}{a q bv:Nat}{x:bQ}{v:Value}
theorem KY{b bv i:Nat}{A:aq}{l:List aq}{v:Value}(e:l[i]?=some A)[r:h3 b bv A v]:h3 b bv (ay l) v:=⟨fun{h} t=>by
 obtain⟨h1,h2,_,rfl,aP,_⟩:=rD e h (Sat.one t);obtain⟨l,T,O,W,cE⟩:=r.get aP;exact⟨l,T,O,join_some W,cE⟩⟩
theorem avJ(V:∀e,(ee X x e)[bv]?=some v):h3 q bv (vD X q x) v:=⟨fun{h} t=>by
 obtain⟨e,_,dh⟩:=hb (Sat.one t);obtain⟨h1,h2,_,rfl,aP,_⟩:=dh;exact⟨_,_,_,join_some aP,V e⟩⟩
structure At(X:cJ)(ap:List Nat)(aI:List bQ)(a q:Nat)(x:bQ):Prop where
 ap:ap[a -1]?=some q
 ag:aI[a -1]?=some x
 cv:x.id=a
 aP:1<=a/\a<=X.C.aZ
def At.ay(h:At X ap aI a q x):(e3 X ap aI)[a -1]?=some (vD X q x):=by
 simp only[e3,sS,h.ag,nH,je,h.ap,KZ]
theorem At.rd(h:At X ap aI a q x)(V:∀e,(ee X x e)[bv]?=some v):h3 q bv (Go.L.ay (e3 X ap aI)) v:=by
 haveI:=avJ (q:=q) V;exact KY h.ay
theorem At.box(h:At X ap aI a q x):h3 q 19 JC (ptr (X.bp a).bp 0):=h.rd λe=>by rw[<-h.cv];rfl
theorem At.mode(h:At X ap aI a q x):h3 q 13 JC (af x.mode):=h.rd λe=>rfl
end
section
variable(X:cJ)(ap ai:List Nat)(aI:List bQ)(l:List bV)(j a q:Nat)(x:bQ)(t:bV)
def arS{i p:Nat}:(Value.iface i (ptr p 0)).oneCell'=true:=rfl
def jP(p f:Nat)(c:List Value)(t:bV)(o:bY)(k:Th.K)(J:l[j]?=some t)(R:t.on=none):ad aa 79 [ptr (X.bq j) 0,.iface (nO o) (ptr p 0),bi f c] [a1 X ap ai j p k f c,cW X p o,ay BI] (aF et [ay (c8 X ap ai (l.set j {t with on:=some (o,k)}))]):=by
 refine ax Tryz.func79 λF D=>?_;refine u6 ek (Sq J R) ?_;refine ch ?_;refine adh ?_;refine adh ?_;exact aW ⟨rfl,rfl⟩ (avB (p:=p) (f:=f) (c:=c) J (au))
def avK(B:At X ap aI a q x)(J:l[j]?=some t)(R:t.on=none):ad aa 139 qJ acO (aF et [ay (e3 X ap aI),ay (ed X),ay (c8 X ap ai (l.set j {t with on:=some (.post a Th.Cj,.jB a)}))]):=by
 refine ax Tryz.func139 λF D=>?_;haveI:=B.box;haveI:=B.mode;refine n0 ?_;intro U Z;refine bH ?_;refine bt (avC X B.aP) ?_;refine lS ?_;intro p;refine wn λaN=>?_;refine bh ?_;refine J3 ?_;refine aV (iB (a1.eq_7 ..) (aN,U,Z,q) vg (jP X ap ai l j p 195 [ptr aN 0,ptr U 0,ptr Z 0] t (.post a Th.Cj) (.jB a) J R)) ?_;exact p2
def avL(B:At X ap aI a q x)(J:l[j]?=some t)(R:t.on=none):ad aa 84 qJ acO (aF et [ay (e3 X ap aI),ay (ed X),ay (c8 X ap ai (l.set j {t with on:=some (.post a (Th.nU 2),.run a)}))]):=by
 refine ax Tryz.func84 λF D=>?_;haveI:=B.box;haveI:=B.mode;refine n0 ?_;intro U Z;refine a7 ?_;refine h9 [5,8] [5] abk [ab U 106 en,ab Z 110 [ptr q 0],ay (e3 X ap aI)] mixed gS ?_;refine bh ?_;refine bt (avG X B.aP) ?_;refine lS ?_;intro p;refine aG ?_;refine JU ?_;refine aV (iB (a1.eq_6 ..) (U,Z,q) vg (jP X ap ai l j p 138 [ptr U 0,ptr Z 0] t (.post a (Th.nU 2)) (.run a) J R)) ?_;exact yk
end
section
variable{X:cJ}{ap ai:List Nat}{l:List bV}{j:Nat}{t:bV}
theorem xp(h:l[j]?=some t)(bv:Nat){v:Value}(V:∀x y,[ptr X.h 0,af (jY X j),x,y,bu t.draw,.bool t.jg][bv]?=some v):h3 (X.bq j) bv (ay (c8 X ap ai l)) v:=by
 have e:(c8 X ap ai l)[j]?=some (hE X ap ai j t):=by simp[sS,h]
 haveI:h3 (X.bq j) bv (hE X ap ai j t) v:=⟨fun{g} s=>by
  unfold hE at s;cases aJ:t.on with
  |none=>rw[aJ]at s;exact⟨_,_,_,s,V _ _⟩
  |
   some q=>
   obtain⟨o,k⟩:=q;rw[aJ]at s;obtain⟨⟨p,f,c⟩,_,aY⟩:=hb (Sat.one s);obtain⟨h1,h2,_,rfl,aP,_⟩:=aY;exact⟨_,_,_,join_some aP,V _ _⟩⟩
 exact KY e
theorem gg(h:l[j]?=some t):h3 (X.bq j) 0 (ay BI) (ptr X.h 0):=xp h 0 λ_ _=>rfl
theorem sN(h:l[j]?=some t):h3 (X.bq j) 1 (ay BI) (af (jY X j)):=xp h 1 λ_ _=>rfl
def KD{a:Nat}(aP:1<=a/\a<=X.C.aZ):((List.range X.C.aZ).map λi=>ptr (X.bp (i+1)).bp 0)[(a -1)*1]?=some (ptr (X.bp a).bp 0):=by
 obtain⟨h1,h2⟩:=aP;simp only[rm,fe,ve (show a -1<X.C.aZ by omega),nH,show a -1+1=a by omega]
end
section
variable(X:cJ)(z:dn)(s:ar)(j a:Nat)(t:bV)
def Cb(n:da)(I:Nat)(M:List Value)(k:Th.K)(t:bV)(aP:1<=a/\a<=X.C.aZ)(bb:X.C.aZ<=16)(aS:s.notes.length<most)(J:s.aC[j]?=some t)(R:t.on=none):ad aa 305 [ptr (X.bq j) 0,af a,.agg (iA n).toArray,bi I M] (a1 X z.ap z.ai j 0 k I M::abN) (λu H=>u=.tuple #[]/\∃aE aK,H=[cG X Ev {s with notes:=s.notes++[n]},fp aE aK (s.notes++[n]),ay (ed X),fy X,ay (c8 X z.ap z.ai (s.aC.set j {t with on:=some (.post a (Th.xS s.notes.length),.lJ a k)}))]):=by
 refine ax Tryz.func305 λF D=>?_;have e:s.notes.length<1099511627776:=aS;haveI:=gg (X:=X) (ap:=z.ap) (ai:=z.ai) J;refine K0 ?_;intro aN aO aR bW;refine ct [12,13] [111,1,202,2,201] (ab aN 106 en::ab aR 261 (iA n)::qI) ?_;refine K0 ?_;intro c a22 b;refine ir [21,22,23] [22] aa4 [ab aN 106 en,ab aO 3 [af a],ab X.h 108 ((qO X z s).set (0+20) (.slice a22 (s.notes.length+1) b)),ay lB,fy X] ?_;refine afM ?_;refine e8 ?_ ?_
 . refine bt (aip X aP (s.notes.length:Int)) ?_
   rintro _ _ ⟨p,rfl,rfl⟩;refine ais ?_;intro V;refine aA rfl (jw Tryz.underlying246 rfl rfl) ?_;refine ait ?_;refine adt ?_;exact acW
 . refine wn λV=>?_
   refine aG ?_;refine bt (aip X aP (s.notes.length:Int)) ?_;refine lS ?_;intro p;refine EL ?_;refine adt ?_;exact acW
def avM(aP:1<=a/\a<=X.C.aZ)(az:(X.C.box a).b<=65536)(bb:X.C.aZ<=16)(aS:s.notes.length<most)(J:s.aC[j]?=some t)(R:t.on=none):ad aa 95 [ptr (X.bq j) 0,af a] abN (λu H=>u=.tuple #[]/\∃aE aK,H=[cG X Ev {s with notes:=s.notes++Ed},fp aE aK (s.notes++Ed),ay (ed X),fy X,ay (c8 X z.ap z.ai (s.aC.set j aaG))]):=by
 refine ax Tryz.func95 λF D=>?_;have e:s.notes.length<1099511627776:=aS;haveI:=gg (X:=X) (ap:=z.ap) (ai:=z.ai) J;refine K0 ?_;intro U Z;refine ct [12,13] [111,1,202,2,201] (ab U 106 en::qI) ?_;refine K0 ?_;intro g d f;refine ir [21,22,23] [22] aa4 [ab U 106 en,ab Z 3 [af a],ab X.h 108 ((qO X z s).set (0+20) (.slice d (s.notes.length+1) f)),ay lB,fy X] ?_;refine afM ?_;refine e8 ?_ ?_
 . refine bt (aiq X aP az (s.notes.length:Int)) ?_
   rintro _ _ ⟨p,rfl,rfl⟩;refine ais ?_;intro aN;refine aA rfl (jw Tryz.underlying246 rfl rfl) ?_;refine ait ?_;refine ads ?_;exact acV
 . refine wn λaN=>?_
   refine aG ?_;refine bt (aiq X aP az (s.notes.length:Int)) ?_;refine lS ?_;intro p;refine EL ?_;refine ads ?_;exact acV
end
section
variable{ap ai:List Nat}{v:Int}{lets:List cV}{id:Int}{q:Nat}{l:cV}
def avN(l:List Nat):∀(o i q:Nat),l[i]?=some q->dH (l.mapIdx λk q=>(((k+o+1:Nat):Int),ptr q 0)) ((i+o+1:Nat):Int)=some (ptr q 0):=by
 induction l with
 |nil=>intro o i q h;cases h
 |
  cons x l L=>
  intro o i q h;rw[Sr];cases i with
  |zero=>simp only[Yl,Option.some.injEq]at h;subst h;simp[dH]
  |
   succ i=>
   simp only[H3]at h;simp only[dH];rw[a6 ae];have:=L (o+1) i q h;rw[show((i+(o+1)+1:Nat):Int)=((i+1+o+1:Nat):Int) by omega]at this;rw[<-this]
   congr 1
   apply ar5.2;intro k hk;simp only[Prod.mk.injEq,and_true];omega
def zJ{i q:Nat}(h:ap[i]?=some q):dH (cf ap) ((i+1:Nat):Int)=some (ptr q 0):=avN ap 0 i q h
def avO{x:Value}(h:dH (cf ap) v=some x):1<=v/\v<=ap.length:=by
 have key:∀(m:List (Int×Value)),dH m v=some x->(v,x)∈m:=by
  intro m
  induction m with
  |nil=>intro h;cases h
  |
   cons p m L=>
   intro h;simp only[dH]at h;split at h
   . rename_i e;cases h;rw[e];exact OF
   . exact D0 _ (L h)
 obtain⟨i,al,e⟩:=List.mem_mapIdx.1 (key _ h);simp only[Prod.mk.injEq]at e;omega
def K1(h:¬(1<=v/\v<=ap.length)):dH (cf ap) v=none:=by
 cases e:dH (cf ap) v with
 |none=>rfl
 |
  some x=>
  have bb:=avO e;exfalso;exact h bb
structure hF(ai:List Nat)(lets:List cV)(id:Int)(q:Nat)(l:cV):Prop where
 h1:1<=id
 ai:ai[(id -1).toNat]?=some q
 aw:lets[(id -1).toNat]?=some l
theorem hF.get(h:hF ai lets id q l):(dH (cf ai) id)=some (ptr q 0):=by
 have:=zJ h.ai;rwa[show(((id -1).toNat+1:Nat):Int)=id by have:=h.h1;omega]at this
theorem hF.rd{bv:Nat}{l:cV}{v:Value}(h:hF ai lets id q l)(V:(pD l)[bv]?=some v):h3 q bv (ay (gv ai lets)) v:=by
 have e:(gv ai lets)[(id -1).toNat]?=some (Ei q l):=by
  simp only[gv,sS,h.aw,nH,je,h.ai,KZ]
 haveI:h3 q bv (Ei q l) v:=⟨fun{g} t=>⟨_,_,_,t,V⟩⟩;exact KY e
theorem hF.of{X:cJ}{z:dn}{s:ar}(K:bD X z s){id:Int}{l:cV}(h:Th.kq s id=some l):∃q,hF z.ai s.lets id q l:=by
 unfold Th.kq at h;split at h
 . rename_i h1
   have d5:=(dd.1 h).1;exact⟨_,h1,cq (by rw[K.ai];exact d5),h⟩
 . cases h
theorem tQ(X:cJ)(z:dn)(s:ar)(id why:Int)(q:Nat)(l:cV)(K:hF z.ai s.lets id q l)(O:1<=why/\why<=5)(aD:X.C.dF<=64)(aQ:s.dead.length<most)(aw:s.trace.length<most)(aS:s.bf.length<=most):ad aa 150 [ptr X.h 0,bu id,af why] [cG X z s,b2 X.e5 .u64 (cf z.ai),ay k8,Lg.dp X.ld (s.bf),ey X.c4 X.C.dF (s.dead),dQ z.cC z.cD (s.trace)] (λu H=>u=.tuple #[]/\∃a c,H=[cG X Ej {s with bf:=dg s.bf id 8,dead:=s.dead++[(id,l.to,why)],trace:=s.trace++acf},b2 X.e5 .u64 (cf z.ai),ay k8,Lg.dp X.ld (dg s.bf id 8),ey X.c4 X.C.dF (s.dead++[(id,l.to,why)]),dQ a c (s.trace++acf)]):=by
 refine ax Tryz.func150 λF D=>?_;haveI:=K.rd (bv:=1) (v:=af l.to) rfl;have f:=xz aQ;refine ch ?_;refine aA rfl QB ?_;refine fx ?_;refine aV (Lg.aq2 X.ld s.bf id aS) ?_;refine cO ?_;refine aV (au9 X.c4 X.C.dF s.dead id l.to why aD O f) ?_;refine bH ?_;refine bt (lZ X z {s with bf:=dg s.bf id 8,dead:=s.dead++[(id,l.to,why)]} acg aw) ?_;rintro _ _ ⟨rfl,a,c,rfl⟩;refine er ?_;refine a7 ?_;exact aW ⟨rfl,a,c,rfl⟩
end
def cp(X:cJ)(x:Option ar)(u:Value)(H:List aq):Prop:=u=.tuple #[]/\∃cu aY,x=some aY/\bD X cu aY/\H=bj X cu aY
structure ho(X:cJ)(j:Nat)(z:dn)(s:ar)(k:Th.K)(I:Nat)(M:List Value)(x:Option ar):Prop where
 iU:eU aa I
 spec:ad aa I M (a1 X z.ap z.ai j 0 k I M::bj X z s) (cp X x)
theorem E2{P:Program}{f:FuncId}{args:List Value}{X:cJ}{Q:Nat->aq}(h:ad P f args ach (λu H=>∃p,u=ptr p 0/\H=(Q p::ach))):
 ad P f args [fI X] (λu H=>∃p,u=ptr p 0/\H=[Q p,fI X]):=λF D w s=>by
 have Z:=s.imp λg t=>by obtain⟨_,_,dh⟩:=hb t;exact dh
 refine(h F _ w Z).mono ?_;rintro _ _ ⟨v,H,rfl,⟨p,rfl,rfl⟩,b9⟩;exact⟨_,_,rfl,⟨p,rfl,rfl⟩,b9.imp λg t=>Sat.tail (λg t=>cA () trivial (λg t=>t) g t) t⟩
def agm(X:cJ)(N:X.C.ok)(j:Nat)(v:Int):ad aa 218 [ptr X.cS.c 0,af (jY X j),bu v] [fI X] (λu H=>∃p,u=ptr p 0/\H=[cW X p (.fJ (wK X.C.bA (Th.sZ X.C j) v)),fI X]):=by
 by_cases J:j<X.C.bc
 . have aB:jY X j=j:=bg J
   have aU:Th.sZ X.C j=some j:=bg J;rw[aB,aU];exact E2 (aoJ X.cS X.C.bA j J v)
 . have aB:jY X j=-1:=a6 J
   have aU:Th.sZ X.C j=none:=a6 J;rw[aB,aU];exact E2 (aoK X.cS X.C.bA (by have:=N.bH;show 2+X.C.bc<=65536;omega) v)
def agn{X:cJ}{ap ai:List Nat}{j p f:Nat}{c:List Value}{k:Th.K}(h:Th.cZ k):∀D h,Sat ([a1 X ap ai j 0 k f c]++D) h->Sat (a1 X ap ai j p k f c::D) h:=λD g s=>by rw[avy (S:=0) h];exact s
section
variable(X:cJ)(N:X.C.ok)(x y:Nat)(ag:1<=x/\x<=X.C.aZ)(ah:1<=y/\y<=X.C.aZ)
theorem Ss(N:X.C.ok):X.C.bG<=65536:=by
 have:=N.bH;have:=N.ha;have:=N.d64;have:=N.i64;show 2+(X.C.bc+(2+2*X.C.aZ)+X.C.bc*(2+X.C.ez))+(3+2*X.C.iO)<=65536;have:X.C.bc*(2+X.C.ez)<=8*66:=qz ae ae;omega
include N ag ah
theorem avP:ad aa 391 [ptr X.bG 0,af x,af y] QC (λu H=>∃p,u=ptr p 0/\H=[cW X p (.hZ (nC 0 Jz)),eD X.bG X.m X.C.bG X.C.aZ]):=aoz _ _ _ _ _ _ N.ha (Ss X N) ag ah
theorem avQ:ad aa 349 [ptr X.bG 0,af x,af y] QC (λu H=>∃p,u=ptr p 0/\H=[cW X p (.hZ (nC 2 Jz)),eD X.bG X.m X.C.bG X.C.aZ]):=aoA _ _ _ _ _ _ N.ha (Ss X N) ag ah
theorem aiu:ad aa 429 [ptr X.bG 0,af x,af y] QC (λu H=>∃p,u=ptr p 0/\H=[cW X p (.hZ (nC 4 Jz)),eD X.bG X.m X.C.bG X.C.aZ]):=aoB _ _ _ _ _ _ N.ha (Ss X N) ag ah
end
section
variable(X:cJ)(z:dn)(s:ar)(j:Nat)(t:bV)(c1 a bk q:Nat)(l:cV)(I:Nat)(M:List Value)(k:Th.K)
def KF(c:Nat)(d:Int):ad aa 212 [ptr X.m 0,af c,bu d] [] (λu H=>∃p,u=ptr p 0/\H=[cW X p (.add c d)]):=avn X.m c d
def avR(x y I:Nat)(M:List Value)(k:Th.K)(N:X.C.ok)(ag:1<=x/\x<=X.C.aZ)(ah:1<=y/\y<=X.C.aZ)(J:s.aC[j]?=some t)(R:t.on=none):ad aa 395 [ptr (X.bq j) 0,af x,af y,bi I M] [a1 X z.ap z.ai j 0 k I M,cG X z s,eD X.bG X.m X.C.bG X.C.aZ,ay lB] (aF et [cG X z s,eD X.bG X.m X.C.bG X.C.aZ,ay (c8 X z.ap z.ai (s.aC.set j {t with on:=some (.hZ (nC 4 Jz),.nn x y k)}))]):=by
 refine ax Tryz.func395 λF D=>?_;haveI:=gg (X:=X) (ap:=z.ap) (ai:=z.ai) J;refine xw ?_;intro aN aO aR bW;refine bX ?_;refine ir [9,10,11] [10] I9 (ab aN 106 en::ab aO 3 [af x]::ab aR 3 [af y]::qI) ?_;refine cr ?_;refine e8 ?_ ?_
 . refine bt (aiu X N x y ag ah) ?_
   refine py ?_;intro p;refine wn λV=>?_;exact afk
 . refine wn λV=>?_
   refine aG ?_;refine bt (aiu X N x y ag ah) ?_;refine lS ?_;intro p;exact afk
def avS(J:s.aC[j]?=some t)(R:t.on=none):ad aa 163 [ptr (X.bq j) 0,.agg (pD l).toArray,.bool false,bi 164 [ptr c1 0,ptr bk 0]] (ab c1 106 en::ab bk 1 [bi I M]::I8) aa8:=by
 refine ax Tryz.func163 λF D=>?_;haveI:=gg (X:=X) (ap:=z.ap) (ai:=z.ai) J;refine af5 ?_;intro aO aR bW V;refine e8 ?_ ?_
 . refine afQ ?_
   intro p cx;exact adZ
 . refine afP ?_
   intro cx p;exact adZ
def avT(b0 d9 a q:Nat)(l:cV)(e:fw)(I:Nat)(M:List Value)(k:Th.K)(bo:z.ap[a -1]?=some q)(J:s.aC[j]?=some t)(R:t.on=none):ad aa 163 [ptr (X.bq j) 0,.agg (pD l).toArray,.bool true,bi 344 [ptr c1 0,ptr bk 0,ptr b0 0,ptr d9 0]] (ab c1 106 en::ab bk 110 [ptr q 0]::ab b0 87 (fz e)::ab d9 1 [bi I M]::I8) (aF et [cG X z s,ay (c8 X z.ap z.ai (s.aC.set j {t with on:=some (.add 0 1,.h8 a l e k)}))]):=by
 refine ax Tryz.func163 λF D=>?_;haveI:=gg (X:=X) (ap:=z.ap) (ai:=z.ai) J;refine af5 ?_;intro aO aR bW V;refine e8 ?_ ?_
 . refine afQ ?_
   intro p cx;exact ad3
 . refine afP ?_
   intro cx p;exact ad3
def avU(J:s.aC[j]?=some t)(R:t.on=none):ad aa 93 [ptr (X.bq j) 0,.agg (pD l).toArray,bi I M] I8 aa8:=by
 refine ax Tryz.func93 λF D=>?_;refine sM ?_;intro Z aN aO;refine bh ?_;refine aV (avS X z s j t Z aO l I M k J R) ?_;exact p2
def avV(slot:Nat)(kind:cy)(I:Nat)(M:List Value)(k:Th.K)(bo:z.ap[a -1]?=some q)(J:s.aC[j]?=some t)(R:t.on=none):ad aa 343 [ptr (X.bq j) 0,ptr q 0,af slot,S kind,bi I M] I8 (aF et [cG X z s,ay (c8 X z.ap z.ai (s.aC.set j abL))]):=by
 refine ax Tryz.func343 λF D=>?_;haveI:=gg (X:=X) (ap:=z.ap) (ai:=z.ai) J;refine a7 ?_;refine wn λaR=>?_;refine wn λbW=>?_;refine wn λV=>?_;refine wn λcx=>?_;refine bH ?_;refine wn λc2=>?_;refine bF ?_;refine ir [8,9,10] [9] wy [ab c2 32 [ptr X.h 0],cG X z s] ?_;refine bH ?_;refine e8 ?_ ?_
 . refine bt (KF X 1 1) ?_
   refine py ?_;intro p;refine wn λb=>?_;exact afj
 . refine wn λb=>?_
   refine aG ?_;refine bt (KF X 1 1) ?_;refine lS ?_;intro p;exact afj
end
section
variable(X:cJ)(z:dn)(w:gd)(s:ar)(j:Nat)(t:bV)(a q:Nat)(id:Int)
theorem St{P:Program}{f:FuncId}{args:List Value}{X:cJ}{l:gd}{Q:Nat->aq}(h:ad P f args [Ck.gn X.dt X.C.dC] (λu H=>∃p,u=ptr p 0/\H=[Q p,Ck.gn X.dt X.C.dC])):
 ad P f args [fC X l] (λu H=>∃p,u=ptr p 0/\H=[Q p,fC X l]):=λF D w s=>by
 have Z:db F ([Ck.gn X.dt X.C.dC]++(gf X.dt.r X.m (X.C.dC.b+1) X.C.dC.n::fO X.dt.wp l::D)) w:=s.imp λg t=>by obtain⟨_,_,dh⟩:=hb t;exact dh
 refine(h F _ w Z).mono ?_;rintro _ _ ⟨v,H,rfl,⟨p,rfl,rfl⟩,b9⟩;exact⟨_,_,rfl,⟨p,rfl,rfl⟩,b9.imp λg t=>Sat.tail (λg t=>cA () trivial (λg t=>t) g t) t⟩
theorem aiv(d:Int)(h:0<=id):ad aa 388 [ptr X.dt.c 0,bu id,af d] [fC X w] (λu H=>∃p,u=ptr p 0/\H=[cW X p (.eY (r6 id d)),fC X w]):=St (Ck.am5 _ _ _ _ h)
theorem avW(h:0<=id):ad aa 347 [ptr X.dt.c 0,bu id] [fC X w] (λu H=>∃p,u=ptr p 0/\H=[cW X p (.eY (r7 id)),fC X w]):=St (Ck.am7 _ _ _ h)
def aiw:ad aa 301 [ptr X.dt.c 0] [fC X w] (λu H=>∃p,u=ptr p 0/\H=[cW X p (.eY uI),fC X w]):=St (Ck.am8 _ _)
abbrev kp(to why:Int):ar:={s with bf:=dg s.bf id 8,dead:=s.dead++[(id,to,why)],trace:=s.trace++[({Th.c3 with kind:=6,id:=id,to:=to,why:=why}:bZ)]}
theorem aix{s:ar}{id why:Int}{l:cV}(h:Th.kq s id=some l)(O:1<=why/\why<=5)(aQ:s.dead.length<most)(aw:s.trace.length<most):Th.kill id why s=some (kp s id l.to why):=by
 simp only[Th.kill,h,qW,k3,bg (show s.dead.length<most/\1<=why/\why<=5 from⟨aQ,O⟩),Th.iM,bg aw]
theorem avX(e:fw)(I:Nat)(M:List Value)(k:Th.K)(bo:z.ap[a -1]?=some q)(cv:0<=id)(J:s.aC[j]?=some t)(R:t.on=none):ad aa 345 ack [a1 X z.ap z.ai j 0 k I M,cG X z s,fC X s.bs,ay lB] (aF et [cG X z s,fC X s.bs,ay (c8 X z.ap z.ai (s.aC.set j abu))]):=by
 refine ax Tryz.func345 λF D=>?_;haveI:=gg (X:=X) (ap:=z.ap) (ai:=z.ai) J;refine a7 ?_;refine wn λaR=>?_;refine wn λbW=>?_;refine wn λV=>?_;refine wn λcx=>?_;refine bH ?_;refine wn λc2=>?_;refine bF ?_;refine ir [7,8,9] [8] [1,5,9,13,17,21,25,30,34,38,3,3,3,34,30,38] [ab c2 32 [ptr X.h 0],ab bW 36 [bu id],ab V 87 (fz e),cG X z s] ?_;refine ch ?_;refine e8 ?_ ?_
 . refine bt (aiv X s.bs id e.vy cv) ?_
   refine py ?_;intro p;refine wn λb=>?_;exact afm
 . refine wn λb=>?_
   refine aG ?_;refine bt (aiv X s.bs id e.vy cv) ?_;refine lS ?_;intro p;exact afm
def avY(t:bV)(a q:Nat)(x:bQ)(B:At X z.ap s.aI a q x)(bb:x.mode=5):ad aa 232 qJ [ay jO] (aF et [ay jO]):=by
 refine ax Tryz.func232 λF D=>?_;haveI:=B.box;haveI:=B.mode;refine n0 ?_;intro U Z;refine cr ?_;refine cH ?_;exact J4
def avZ(x:bQ)(B:At X z.ap s.aI a q x)(bb:¬x.mode=5)(J:s.aC[j]?=some t)(R:t.on=none):ad aa 232 qJ aci (aF et [ay jO,ay (ed X),ay (c8 X z.ap z.ai (s.aC.set j abb))]):=by
 refine ax Tryz.func232 λF D=>?_;haveI:=gg (X:=X) (ap:=z.ap) (ai:=z.ai) J;haveI:=B.box;haveI:=B.mode;refine n0 ?_;intro U Z;refine cr ?_;refine cH ?_;refine bh ?_;refine ir [9,10,11] [10] I9 [ab U 106 en,ab Z 110 [ptr q 0],ay jO] ?_;refine cr ?_;refine e8 ?_ ?_
 . refine bt (air X B.aP (!decide (x.mode=1))) ?_
   refine py ?_;intro p;refine wn λaN=>?_;exact afi
 . refine wn λaN=>?_
   refine aG ?_;refine bt (air X B.aP (!decide (x.mode=1))) ?_;refine lS ?_;intro p;exact afi
theorem av0(q:Nat)(l:cV)(K:hF z.ai s.lets id q l)(I:Nat)(M:List Value)(k:Th.K)(aw:1<=l.to/\l.to<=X.C.aZ)(aP:X.C.aZ<=16)(J:s.aC[j]?=some t)(R:t.on=none):ad aa 158 [ptr (X.bq j) 0,bu id,bi I M] [a1 X z.ap z.ai j 0 k I M,cG X z s,b2 X.e5 .u64 (cf z.ai),ay k8,ay (ed X),fy X,ay lB] (aF et [cG X z s,b2 X.e5 .u64 (cf z.ai),ay k8,ay (ed X),fy X,ay (c8 X z.ap z.ai (s.aC.set j abn))]):=by
 refine ax Tryz.func158 λF D=>?_;haveI:=gg (X:=X) (ap:=z.ap) (ai:=z.ai) J;haveI:=K.rd (bv:=1) (v:=af l.to) rfl;have b:1<=l.to.toNat/\l.to.toNat<=X.C.aZ:=ae;refine sM ?_;intro Z aN aO;refine bX ?_;refine ir [16,17,18,19] [16,17,18] abf aaE ?_;refine dx ?_;refine jJ rfl .none rfl QB (au) ?_;refine bX ?_;refine e8 ?_ ?_
 . refine wn λaR=>?_
   refine aG ?_;refine wn λbW=>?_;exact agC
 . refine wn λbW=>?_
   refine aG ?_;refine wn λaR=>?_;exact agC
end
section
variable(X:cJ)(z:dn)(s:ar)(i n d3 d4 cm dN H I:Nat)(M J:List Value)(ba:aq)(y:Option ar)
def ajP(al:i=n)(h:ad aa I J (ba::bj X z s) (cp X y))(fD:eU aa I:=by exact e7):ad aa 207 zf IY (cp X y):=by
 refine ax Tryz.func207 λF D=>?_;refine a7 ?_;refine wn λaO=>?_;refine ch ?_;refine cH ?_;refine bh ?_;refine bt (h) ?_;rintro _ _ ⟨rfl,cu,aY,ag,ao,rfl⟩;refine er ?_;refine bz ?_;exact aW ⟨rfl,cu,aY,ag,ao,rfl⟩
def ajQ(al:i≠n)(h:∀O,ad aa H ([af i,bi 208 [ptr dN 0,ptr O 0]]++M) ([ab O 3 [af i],ab dN 188 [bi 207 [ptr d3 0,ptr d4 0,ptr cm 0,ptr dN 0]],ab d3 3 [af n],ab cm 255 [bi H M],ab d4 1 [bi I J],ba]++bj X z s) (cp X y))(fD:eU aa H:=by exact e7):ad aa 207 zf IY (cp X y):=by
 refine ax Tryz.func207 λF D=>?_;refine a7 ?_;refine wn λaO=>?_;refine ch ?_;refine cH ?_;refine cr ?_;refine bt (h aO) ?_;exact Kl
def Ft(O:Nat)(al:i<9223372036854775807)(h:ad aa 207 (af (i+1:Nat)::Jc) IY (cp X y)):ad aa 208 sH ([ab O 3 [af i],ab dN 188 rJ,ab d3 3 [af n],ab cm 255 [bi H M],ab d4 1 [bi I J],ba]++bj X z s) (cp X y):=by
 refine ax Tryz.func208 λF D=>?_;refine bX ?_;refine An ?_;refine bt (h) ?_;exact Kl
def Cz(q:Nat)(h:∀d3 d4 cm dN,ad aa 207 (af (0:Nat)::Jc) IY (cp X y)):ad aa 156 [ptr q 0,af n,bi H M,bi I J] (ba::bj X z s) (cp X y):=by
 refine ax Tryz.func156 λF D=>?_;refine a7 ?_;refine wn λaO=>?_;refine wn λaR=>?_;refine wn λbW=>?_;refine bF ?_;refine wn λV=>?_;refine cU ?_;refine bt (h aO bW aR V) ?_;exact Kl
end
section
variable(X:cJ)(z:dn)(s:ar)(j aM av U:Nat)(ea:Option Addr)(cQ:Nat)(l:List Int)(what:Int)(k:Th.K)(I:Nat)(M:List Value)(t:bV)(y:Option ar)
def gx{P:Program}{f:FuncId}{args:List Value}{I H:List aq}{post:Value->List aq->Prop}(e:∀D h,Sat (H++D) h->Sat (I++D) h)(h:ad P f args I post):ad P f args H post:=λF D w s=>h F D w (s.imp (e D))
abbrev jB(a:Nat)(n:da)(k:Th.K):ar:={s with notes:=s.notes++[n],aC:=s.aC.set j {t with on:=some (.post a (Th.xS s.notes.length),.lJ a k)}}
abbrev allM:List aq:=
 [ab aM 106 [ptr (X.bq j) 0],ab av 39 [hL ea cQ l],dv ea cQ l,ab U 3 [af what],a1 X z.ap z.ai j 0 k I M]
def ajR(ao:bD X z s)(N:X.C.ok)(aS:s.notes.length<most)(J:s.aC[j]?=some t)(R:t.on=none)(i d3 d4 cm dN O a:Nat)(aP:1<=a/\a<=X.C.aZ)(V:l[i]?=some (a:Int)):ad aa 304 ab6 ((ab O 3 [af i]::ab dN 188 rJ::ab d3 3 [af l.length]::ab cm 255 Qm::ab d4 1 [bi I M]::aa3)++bj X z s) (cp X (some acv)):=by
 refine ax Tryz.func304 λF D=>?_;have B:=(dd.1 V).1;refine ct [] [8,201] [ab aM 106 en,ab av 39 [hL ea cQ l],dv ea cQ l,ab U 3 [af what]] ?_;refine bX ?_;refine JT ?_;refine go_v rfl .none rfl (gy rfl (Gc V)) ?_;refine bX ?_;refine bt (iB (a1.eq_36 ..) (O,dN,d3,cm,d4,aM,av,U,I,M,ea,cQ) dD (Cb X z s j a ⟨what,0,[]⟩ 208 sH (.each xc i l.length k) t aP N.ha aS J R)) ?_;refine lY ?_;intro aE aK;refine bX ?_;exact aW ⟨rfl,Ev,_,rfl,jq,rfl⟩
theorem aw0(ao:bD X z s)(N:X.C.ok)(aS:s.notes.length<most)(J:s.aC[j]?=some t)(R:t.on=none)
 (i d3 d4 cm dN:Nat)(B:i<=l.length)(f:i=l.length->ho X j z s k I M y)(g3:∀v:Int,l[i]?=some v->∃a:Nat,v=a/\(1<=a/\a<=X.C.aZ)/\y=some acv):
 ad aa 207 zf ([ab d3 3 [af l.length],ab d4 1 [bi I M],ab cm 255 Qm,ab dN 188 rJ,eR Qg]++bj X z s) (cp X y):=by
 by_cases al:i=l.length
 . haveI:=(f al).iU
   refine ajP X z s i l.length d3 d4 cm dN 304 I _ M (eR Qg) y al ?_;refine gx (λD h s=>?_) (f al).spec;obtain⟨_,_,aY⟩:=hb s;exact Sat.drop (Sat.drop (Sat.drop (Sat.drop aY)))
 . obtain⟨v,V⟩:∃v,l[i]?=some v:=⟨_,cq ae⟩
   obtain⟨a,rfl,aP,rfl⟩:=g3 v V;refine ajQ X z s i l.length d3 d4 cm dN 304 I _ M (eR Qg) _ al λO=>?_;refine gx (λD h s=>?_) (ajR X z s j aM av U ea cQ l what k I M t ao N aS J R i d3 d4 cm dN O a aP V);exact Sat.tail (λh s=>Sat.tail (λh s=>Sat.tail (λh s=>Sat.tail (λh s=>Sat.tail (λh s=>by obtain⟨_,_,aY⟩:=hb s;exact aY) s) s) s) s) s
def ajS(ka:Option Addr)(kc:Nat)(l:List Int)(what:Int)(k:Th.K)(I:Nat)(M:List Value)(t:bV)(y:Option ar)(g:aq)(ao:bD X z s)(N:X.C.ok)(aS:s.notes.length<most)(J:s.aC[j]?=some t)(R:t.on=none)(hlen:l.length<=1099511627776)(g6:∀D h,Sat (dv ka kc l::g::D) h->Sat (bj X z s++D) h)(f:0=l.length->ho X j z s k I M y)(g3:∀v:Int,l[0]?=some v->∃a:Nat,v=a/\(1<=a/\a<=X.C.aZ)/\y=some (jB s j t a ⟨what,0,[]⟩ (.each xc 0 l.length k))):ad aa 243 [ptr (X.bq j) 0,hL ka kc l,af what,bi I M] [a1 X z.ap z.ai j 0 k I M,dv ka kc l,g] (cp X y):=by
 refine ax Tryz.func243 λF D=>?_;refine a7 ?_;refine wn λaN=>?_;refine wn λaO=>?_;refine wn λaR=>?_;refine bz ?_;refine cj rfl (b4 rfl (ES ka kc l.length (iE l) (dv ka kc l) (RT l) (RU l) ae) bI) ?_;rintro _ D ⟨_,⟨a9,o,rfl,rfl⟩,rfl⟩;refine fj ?_;refine cr ?_;refine bt (gx (H:=[ab aN 106 en,ab aO 39 [hL a9 o l],dv a9 o l,ab aR 3 [af what],a1 X z.ap z.ai j 0 k I M,dv ka kc l,g]) (λD h s=>Sat.tail (λh s=>g6 D h s) (cA () trivial kH h s)) (Cz X z s l.length 304 I [ptr aN 0,ptr aO 0,ptr aR 0] M (eR (allM X z j aN aO aR a9 o l what k I M)) y (X.bq j) (λd3 d4 cm dN=>aw0 X z s j aN aO aR a9 o l what k I M t y ao N aS J R 0 d3 d4 cm dN (fc _) f g3))) ?_;exact xu
end
section
variable{X:cJ}{z:dn}{ap:List Nat}{s:ar}{a q:Nat}{hm x:bQ}{e:hR}
abbrev h6(X:cJ)(z:dn)(s:ar)(a q:Nat)(x:bQ)(e:hR):List aq:=
 [ab q 118 (ee X x e),dv e.ka e.kc x.kids,dv e.hP e.hQ x.cF,gj e.gJ X.C.dW x.aside x.front,h4 e.jD (min (max e.b5.limit 0) 100) (min (max e.b5.within 1) 4095) x.given,b2 e.gp .i64 (x.watched.map λw=>(w,.bool true)),jf e.jE (h5 e.es),ay (iz e.es),gM e.b5,ay ((e3 X z.ap s.aI).set (a -1) fu),cG X z s,dQ z.cC z.cD s.trace,fp z.na z.fv s.notes,b2 X.am .i64 (cf z.ap),b2 X.e5 .u64 (cf z.ai),ay (gv z.ai s.lets),Lg.dp X.ld s.bf,ey X.c4 X.C.dF s.dead,cg X.m s.L z.tt,fI X,fC X s.bs,eD X.bG X.m X.C.bG X.C.aZ,ay (ed X),fy X,gw X,hc X,gk X,ay (c8 X z.ap z.ai s.aC)]
def Fu{A:aq}:∀(l:List aq) {D:List aq} {h:dR},Sat (l++A::D) h->Sat (A::(l++D)) h
 |[],_,_,s=>s
 |B::l,D,_,s=>Sat.swap (Sat.tail (r:=l++A::D) (S:=A::(l++D)) (λh s=>Fu l s) s)
def ajT{aI:List bQ}{a q:Nat}{hm x:bQ}{e:hR}{D:List aq}(B:At X ap aI a q hm)(Y:fU x e):∀h,Sat (Ca X q x e++(ay ((e3 X ap aI).set (a -1) fu)::D)) h->Sat (ay (e3 X ap (aI.set (a -1) x))::D) h:=λh s=>by
 have aB:e3 X ap (aI.set (a -1) x)=(e3 X ap aI).set (a -1) (vD X q x):=by
  have aU:ap.getD (a -1) 0=q:=by simp only[je,B.ap,KZ]
  rw[e3,mapIdx_set,aU]
 rw[aB];refine uZ (by have:=(dd.1 B.ay).1;exact this) h ?_;exact cA e Y (λg t=>t) h s
def jr(B:At X z.ap s.aI a q hm)(Y:fU x e):∀D h,Sat (h6 X z s a q x e++D) h->Sat (bj X z tT++D) h:=λD h aY=>by
 have Z:=ajT B Y h aY;exact(au) h Z
def sL(B:At X ap s.aI a q x):Th.c7 s a x=s:=by
 obtain⟨h1,h2⟩:=dd.1 B.ag;simp only[Th.c7];rw[<-h2,A1 h1]
def q3{P:Program}{f:FuncId}{args:List Value}{A:aq}{X:cJ}{z:dn}{s:ar}{a q:Nat}{x:bQ}{post:Value->List aq->Prop}(B:At X z.ap s.aI a q x)(h:∀e,fU x e->ad P f args (A::h6 X z s a q x e) post):ad P f args (A::bj X z s) post:=λF D w st=>by
 have s1:db F (vD X q x::ay w9::A::(Pd++D)) w:=st.imp λg t=>rD B.ay g ((au) g t);obtain⟨e,Y,ag⟩:=hb s1.eI;refine h e Y F D w ⟨s1.os,s1.tape,s1.output,s1.size,?_⟩;exact(show∀h,Sat (Ca X q x e++(ay ((e3 X z.ap s.aI).set (a -1) fu)::A::([cG X z s,dQ z.cC z.cD s.trace,fp z.na z.fv s.notes,b2 X.am .i64 (cf z.ap),b2 X.e5 .u64 (cf z.ai),ay (gv z.ai s.lets),Lg.dp X.ld s.bf,ey X.c4 X.C.dF s.dead,cg X.m s.L z.tt,fI X,fC X s.bs,eD X.bG X.m X.C.bG X.C.aZ,ay (ed X),fy X,gw X,hc X,gk X,ay (c8 X z.ap z.ai s.aC)]++D))) h->Sat (A::h6 X z s a q x e++D) h from by simp only[Ca,cn,ci];exact(au)) _ ag
end
section
variable(X:cJ)(z:dn)(s:ar)(j:Nat)(t:bV)(a q:Nat)(x:bQ)(e:hR)
def aw1(t:bV)(a q:Nat)(x:bQ)(e:hR)(ao:bD X z s)(B:At X z.ap s.aI a q x)(Y:fU x e)(I:Nat)(M:List Value)(k:Th.K)(y:Option ar)(bb:x.mode=4)(aX:ho X j z s k I M y):ad aa 241 lC iJ (cp X y):=by
 refine ax Tryz.func241 λF D=>?_;haveI:=aX.iU;refine sM ?_;intro Z aN aO;refine cr ?_;refine cH ?_;refine fx ?_;exact Kx
def aw2(t:bV)(a q:Nat)(x:bQ)(e:hR)(ao:bD X z s)(B:At X z.ap s.aI a q x)(Y:fU x e)(I:Nat)(M:List Value)(k:Th.K)(y:Option ar)(bb:x.mode=5)(aX:ho X j z s k I M y):ad aa 241 lC iJ (cp X y):=by
 refine ax Tryz.func241 λF D=>?_;haveI:=aX.iU;refine sM ?_;intro Z aN aO;refine cr ?_;refine cH ?_;refine cU ?_;exact afJ
theorem ajU(hm x:bQ)(e:hR)(what:Int)(k:Th.K)(I:Nat)(M:List Value)(y:Option ar)(B:At X z.ap s.aI a q hm)(Y:fU x e)(ao:bD X z tT)(N:X.C.ok)(aS:s.notes.length<most)(J:s.aC[j]?=some t)(R:t.on=none)(hlen:x.kids.length<=1099511627776)
 (f:0=x.kids.length->ho X j z tT k I M y)(g3:∀v:Int,x.kids[0]?=some v->∃b:Nat,v=b/\Ey/\y=some (jB tT j t b ⟨what,0,[]⟩ (.each (.push x.kids what) 0 x.kids.length k))):
 ad aa 243 [ptr (X.bq j) 0,hL e.ka e.kc x.kids,af what,bi I M] iJ (cp X y):=by
 refine gx (λD h dh=>?_) (ajS X z tT j e.ka e.kc x.kids what k I M t y (eR (ab q 118 (ee X x e)::ZR)) ao N aS J R hlen (λD h t=>?_) f g3)
 . exact Sat.tail (λh t=>Sat.tail (λh t=>cA () trivial (λh t=>t) h t) (Sat.swap t)) dh
 . obtain⟨_,_,V⟩:=hb (Sat.swap t)
   exact jr (X:=X) (z:=z) B Y D h ((au) h V)
def aw3(ao:bD X z s)(B:At X z.ap s.aI a q x)(Y:fU x e)(I:Nat)(M:List Value)(k:Th.K)(y:Option ar)(N:X.C.ok)(aS:s.notes.length<most)(o:s.trace.length<most)(J:s.aC[j]?=some t)(R:t.on=none)(hlen:x.kids.length<=1099511627776)(c:¬x.mode=4)(g:¬x.mode=5)(f:∀(aE:Option Addr) (aK:Nat) (cs:List Value),0=x.kids.length->ho X j hY PG tU 297 cs y)(g3:∀v:Int,x.kids[0]?=some v->∃b:Nat,v=b/\Ey/\y=some (jB PG j t b sf (.each (.push x.kids 0) 0 x.kids.length tU))):ad aa 241 lC iJ (cp X y):=by
 refine ax Tryz.func241 λF D=>?_;haveI:=gg (X:=X) (ap:=z.ap) (ai:=z.ai) J;have cv:x.id=a:=B.cv;have d:∀aE aK,bD X {z with cC:=aE,cD:=aK} PG:=λaE aK=>⟨ao.gK,ao.gE,ao.gF,by show _=(s.aI.set _ _).length;rw[gq];exact ao.ap,ao.ai⟩;refine sM ?_;intro Z aN aO;refine cr ?_;refine cH ?_;refine cU ?_;refine cH ?_;refine eP ?_;refine ct [] [9,201] (ab Z 106 en::ab aN 110 [ptr q 0]::ab q 118 ((ee X x e).set (0+13) (af 4))::qI) ?_;refine cr ?_;rw[cv];refine bt (lZ X z s (PS:bZ) o) ?_;refine lY ?_;intro aE aK;refine bX ?_;refine ct [] [6,201] [ab Z 106 en,ab aN 110 [ptr q 0],ab q 118 ((ee X x e).set (0+13) (af 4))] ?_;refine bh ?_;refine bt (pA (avw Z aN aO q I M B.ap) (ajU X hY aa7 j t a q x BE e 0 tU 297 [ptr Z 0,ptr aN 0,ptr aO 0] y B pu (d aE aK) N aS J R hlen (f aE aK _) g3)) ?_;refine pz ?_;exact px
end
section
variable(X:cJ)(z:dn)(s:ar)(j:Nat)(t:bV)(a q:Nat)(x:bQ)(e:hR)
def At.set{X:cJ}{ap:List Nat}{aI:List bQ}{a q:Nat}{x n:bQ}(h:At X ap aI a q x)(cv:n.id=a):At X ap (aI.set (a -1) n) a q n:=
 ⟨h.ap,by rw[zu (dd.1 h.ag).1],cv,h.aP⟩
def ajV(c:Nat):ad aa 317 [ptr X.m 0,af c] [] (λu H=>∃p,u=ptr p 0/\H=[cW X p (.load c)]):=Ka X.m c
def aw4(B:At X z.ap s.aI a q x)(I:Nat)(M:List Value)(k:Th.K)(J:s.aC[j]?=some t)(R:t.on=none):ad aa 360 lC (a1 X z.ap z.ai j 0 k I M::aci) (aF et [ay jO,ay (ed X),ay (c8 X z.ap z.ai (s.aC.set j {t with on:=some (.post a Th.xT,.lc a k)}))]):=by
 refine ax Tryz.func360 λF D=>?_;haveI:=B.box;refine sM ?_;intro Z aN aO;refine bH ?_;refine bt (avF X B.aP) ?_;refine lS ?_;intro p;refine wn λaR=>?_;refine bh ?_;refine J3 ?_;refine aV (iB (a1.eq_26 ..) (aR,aO,Z,aN,q,I,M) vg (jP X z.ap z.ai s.aC j p 401 [ptr aR 0,ptr aO 0,ptr Z 0,ptr aN 0] t ED (.lc a k) J R)) ?_;exact p2
def aw5(ao:bD X z s)(B:At X z.ap s.aI a q x)(Y:fU x e)(I:Nat)(M:List Value)(k:Th.K)(o:s.trace.length<most)(J:s.aC[j]?=some t)(R:t.on=none):ad aa 364 lC iJ (cp X (some (Th.c7 aaA a {x with mode:=5}))):=by
 refine ax Tryz.func364 λF D=>?_;haveI:=gg (X:=X) (ap:=z.ap) (ai:=z.ai) J;have cv:x.id=a:=B.cv;refine sM ?_;intro Z aN aO;refine bH ?_;refine wn λaR=>?_;refine dx ?_;refine ct [] [6,201] [ab aR 32 [ptr X.h 0],ab aN 110 [ptr q 0],ab q 118 ((ee X x e).set (0+13) (af 5))] ?_;refine bh ?_;refine bt (lZ X z s (IZ:bZ) o) ?_;refine lY ?_;intro aE aK;refine bF ?_;refine ir [8,9,10] [9] wy [ab aR 32 [ptr X.h 0],cG X hY {s with trace:=s.trace++[(IZ:bZ)]}] ?_;refine bH ?_;refine e8 ?_ ?_
 . refine bt (ajV X 1) ?_
   refine py ?_;intro p;refine wn λbW=>?_;exact afp
 . refine wn λbW=>?_
   refine aG ?_;refine bt (ajV X 1) ?_;refine lS ?_;intro p;exact afp
def aw6(ao:bD X z s)(B:At X z.ap s.aI a q x)(Y:fU x e)(I:Nat)(M:List Value)(k:Th.K)(y:Option ar)(reason:cy)(hp:x.parent=0)(gc:∀aE aK,ad aa 241 lC (a1 X z.ap z.ai j 0 k I M::h6 X hY BC a q rN e) (cp X y))(o:s.trace.length<most)(J:s.aC[j]?=some t)(R:t.on=none):ad aa 296 Jd iJ (cp X y):=by
 refine ax Tryz.func296 λF D=>?_;haveI:=gg (X:=X) (ap:=z.ap) (ai:=z.ai) J;refine aga ?_;intro cv aE aK;refine bH ?_;refine bt (gc aE aK) ?_;exact zx
def aw7(ao:bD X z s)(B:At X z.ap s.aI a q x)(Y:fU x e)(I:Nat)(M:List Value)(k:Th.K)(y:Option ar)(reason:cy)(hp:¬x.parent=0)(N:X.C.ok)(aS:s.notes.length<most)(b:1<=x.parent/\x.parent<=X.C.aZ)(o:s.trace.length<most)(J:s.aC[j]?=some t)(R:t.on=none):ad aa 296 Jd iJ (cp X (some (Th.c7 aaH a rN))):=by
 refine ax Tryz.func296 λF D=>?_;haveI:=gg (X:=X) (ap:=z.ap) (ai:=z.ai) J;refine aga ?_;intro cv aE aK;refine bz ?_;refine ct [] [12,201] [ab q 118 ((ee X x e).set (0+13) (af 2))] ?_;refine dx ?_;refine bt (Cb X hY BC j x.parent ⟨1,x.id,reason⟩ I M k t b N.ha aS J R) ?_;rintro _ _ ⟨rfl,cl,bk,rfl⟩;refine er ?_;refine bX ?_;exact aW ⟨rfl,sG,_,rfl,⟨ao.gK,ao.gE,ao.gF,by show _=(s.aI.set _ _).length;rw[gq];exact ao.ap,ao.ai⟩,rfl⟩ (λh E=>jr (X:=X) (z:=sG) (s:=aaH) (x:=rN) B pu D h ((au) h E))
end
section
variable(w:Int)(X:cJ){l:List Int}(z:dn){i:Nat}(s:ar){x:Int}(j:Nat)(t:bV)(q:Nat)
abbrev rK(l:List Int)(r:List (Int×Int)):List (Int×Int):=l.foldl (λr id=>du r id w) r
def Tr(w:Int):∀(l:List Int) (r:List (Int×Int)),(rK w l r).length=r.length
 |[],r=>rfl
 |x::l,r=>by rw[rK,yR];exact(Tr w l _).trans e2
def ajW(h:l[i]?=some x)(r:List (Int×Int)):rK w (l.take (i+1)) r=du (rK w (l.take i) r) x w:=by
 obtain⟨al,e⟩:=dd.1 h;rw[ns al,e,rK,ajX];rfl
def Ts(w:Int):∀(l:List Int) (x:Int) (s:ar),Th.kK w (l++[x]) s=(Th.kK w l s).bind (Th.kill x w)
 |[],x,s=>by simp[Th.kK]
 |
  y::l,x,s=>by
  simp only[cn,Th.kK,qW];cases Th.kill y w s with
  |none=>rfl
  |some s1=>simp only[k3];exact Ts w l x s1
structure Fv(s:ar)(ids:List Int)(i:Nat)(d:ar):Prop where
 le:i<=ids.length
 eq:Th.kK 2 (ids.take i) s=some d
 lets:d.lets=s.lets
 bf:d.bf.length=s.bf.length
 np:d.trace.length=s.trace.length+i
 CA:d.dead.length=s.dead.length+i
def Fv.next{s d:ar}{ids:List Int}{i:Nat}{id:Int}{ai:List Nat}{q:Nat}{l:cV}(h:Fv s ids i d)(ag:ids[i]?=some id)(K:hF ai d.lets id q l)(R:s.trace.length+ids.length<=most)(aQ:s.dead.length+ids.length<=most):Fv s ids (i+1) (kp d id l.to 2):=by
 obtain⟨al,e⟩:=dd.1 ag;have h1:=h.np;have h2:=h.CA;refine⟨al,?_,h.lets,by show(dg d.bf id 8).length=_;rw[Led.yZ];exact h.bf,by simp[h1];omega,by simp[h2];omega⟩;rw[ns al,e,Ts,h.eq,k3];exact aix ZB bN ae ae
def ac5(h:l[i]?=some x):(iT l)[i*1]?=some (bu x):=by simp[iT,h]
def ajY(x:bQ)(e:hR)(r:List w3)(aD:r.length<=most)(h1:x.aside.length<=1099511627776)(h2:x.front.length<=1099511627776)(J:s.aC[j]?=some t):ad aa 307 qJ (ab q 118 (ee X x e)::gj e.gJ X.C.dW x.aside x.front::Lg.dp X.ld r::qI) (aF et (ab q 118 (ee X x e)::gj e.gJ X.C.dW [] (x.front++x.aside.reverse)::Lg.dp X.ld (rK 4 x.aside r)::qI)):=by
 refine ax Tryz.func307 λF D=>?_;haveI:=gg (X:=X) (ap:=z.ap) (ai:=z.ai) J;have f:r.length<=1099511627776:=aD;refine ch ?_;refine bt (aik e.gJ X.C.dW x.aside x.front h1 h2) ?_;rintro _ _ ⟨ck,c1,rfl,rfl⟩;refine er ?_;refine bz ?_;refine gO (bx:=Nat) (λi=>i<=x.aside.length) (λi=>[(12,af i),(11,af x.aside.length),(10,ul ck c1 x.aside),(0,ptr (X.bq j) 0),(1,ptr q 0)]) (λi=>Lg.dp X.ld (rK 4 (x.aside.take i) r)::fH ck c1 x.aside::ab q 118 (ee X x e)::gj e.gJ X.C.dW x.aside x.front::cG X z s::ay lB::D) (λi=>x.aside.length -i) 0 (fc _) de O2 ?_;intro i bM;replace bM:i<=x.aside.length:=bM;refine bh ?_;refine b6 (λW=>?_) (λW=>?_)
 . obtain⟨v,ag⟩:∃v,x.aside[i]?=some v:=⟨_,cq (show i<x.aside.length by omega)⟩
   refine bh ?_;refine aA rfl (fA rfl rfl (show i<x.aside.length by omega)) ?_;refine BV ?_;refine dx ?_;refine cj rfl (b4 rfl (Lg.Bq X.ld (rK 4 (x.aside.take i) r) v 4 (by rw[Tr];exact aD)) bI) ?_;refine Rr ?_;refine fm (i+1) (show i+1<=x.aside.length by omega) (show x.aside.length -(i+1)<x.aside.length -i by omega) de (by rw[ajW 4 ag];exact(au))
 . obtain rfl:i=x.aside.length:=by omega
   rw[l9];refine cU ?_;refine aV (aw8 e.gJ X.C.dW x.aside x.front h1 h2) ?_;exact p2
def aw9(x:bQ)(e:hR)(I:Nat)(M:List Value)(k:Th.K)(aD:X.C.dF<=64)(bo:z.ap[x.id -1]?=some q)(aP:1<=x.id/\x.id<=X.C.aZ)(m:∀id∈(x.front.reverse++x.aside),∃q l,hF z.ai s.lets id q l)(w:s.trace.length+(x.front.reverse++x.aside).length<=most)(f:s.dead.length+(x.front.reverse++x.aside).length<=most)(aS:s.bf.length<=most)(h1:x.aside.length<=1099511627776)(h2:x.front.length<=1099511627776)(n:(x.front.reverse++x.aside).length<=1099511627776)(J:s.aC[j]?=some t)(R:t.on=none):ad aa 306 [ptr (X.bq j) 0,ptr q 0,bi I M] [a1 X z.ap z.ai j 0 k I M,ab q 118 (ee X x e),gj e.gJ X.C.dW x.aside x.front,cG X z s,dQ z.cC z.cD s.trace,b2 X.e5 .u64 (cf z.ai),ay (gv z.ai s.lets),Lg.dp X.ld s.bf,ey X.c4 X.C.dF s.dead,ay (ed X),ay (c8 X z.ap z.ai s.aC)] (λu H=>u=.tuple #[]/\∃aE aK aY,Th.kK 2 (x.front.reverse++x.aside) s=some aY/\H=[ab q 118 (ee X x e),gj e.gJ X.C.dW [] [],cG X {z with cC:=aE,cD:=aK} aY,dQ aE aK aY.trace,b2 X.e5 .u64 (cf z.ai),ay (gv z.ai aY.lets),Lg.dp X.ld aY.bf,ey X.c4 X.C.dF aY.dead,ay (ed X),ay (c8 X z.ap z.ai (s.aC.set j {t with on:=some (.post x.id Th.Co,.closed x.id k)}))]):=by
 refine ax Tryz.func306 λF D=>?_;haveI:=gg (X:=X) (ap:=z.ap) (ai:=z.ai) J;refine sM ?_;intro Z aN aO;refine eP ?_;refine bX ?_;refine bt (avg e.gJ X.C.dW x.aside x.front h1 h2) ?_;rintro _ _ ⟨ck,c1,rfl,rfl⟩;refine er ?_;refine bz ?_;refine gO (bx:=Nat×Option Addr×Nat×ar) (λE=>Fv s (x.front.reverse++x.aside) E.1 E.2.2.2) (λE=>[(19,af E.1),(18,af (x.front.reverse++x.aside).length),(17,ul ck c1 (x.front.reverse++x.aside)),(6,ptr X.h 0),(3,ptr Z 0),(4,ptr aN 0),(5,ptr aO 0)]) (λE=>fH ck c1 (x.front.reverse++x.aside)::ab Z 106 [ptr (X.bq j) 0]::ab aN 110 [ptr q 0]::ab aO 1 [bi I M]::a1 X z.ap z.ai j 0 k I M::ab q 118 (ee X x e)::gj e.gJ X.C.dW [] []::cG X {z with cC:=E.2.1,cD:=E.2.2.1} E.2.2.2::dQ E.2.1 E.2.2.1 E.2.2.2.trace::b2 X.e5 .u64 (cf z.ai)::ay (gv z.ai E.2.2.2.lets)::Lg.dp X.ld E.2.2.2.bf::ey X.c4 X.C.dF E.2.2.2.dead::ay (ed X)::ay (c8 X z.ap z.ai s.aC)::D) (λE=>(x.front.reverse++x.aside).length -E.1) (0,z.cC,z.cD,s) (⟨fc _,rfl,rfl,rfl,rfl,rfl⟩) de (au) ?_;rintro⟨i,cC,cD,d⟩ bM;replace bM:Fv s (x.front.reverse++x.aside) i d:=bM;have B:=bM.le;have o:=bM.np;have r:=bM.CA;have g:=bM.bf;dsimp only;refine bh ?_;refine b6 (λW=>?_) (λW=>?_)
 . have b:i<(x.front.reverse++x.aside).length:=by omega
   obtain⟨v,ag⟩:∃v,(x.front.reverse++x.aside)[i]?=some v:=⟨_,cq b⟩;obtain⟨c,l,a⟩:=m v (h0 ag);rw[<-bM.lets]at a;refine bh ?_;refine aA rfl (fA rfl rfl (show i<(x.front.reverse++x.aside).length by omega)) ?_;refine BV ?_;refine bh ?_;refine cj rfl (b4 rfl (tQ X {z with cC:=cC,cD:=cD} d v 2 c l a bN aD ae ae (by rw[g];exact aS)) bI) ?_;refine Rs ?_;intro aE aK;refine fm (i+1,aE,aK,kp d v l.to 2) (bM.next ag a w f) (show(x.front.reverse++x.aside).length -(i+1)<(x.front.reverse++x.aside).length -i by omega) de (au)
 . obtain rfl:i=(x.front.reverse++x.aside).length:=by omega
   have he:=bM.eq;rw[l9]at he;refine adu ?_;refine bh ?_;refine bt (avE X aP) ?_;refine py ?_;intro p;refine JU ?_;refine aV (iB (a1.eq_25 ..) (Z,aN,aO,q,I,M) ⟨rfl,rfl,bo⟩ (jP X z.ap z.ai s.aC j p 359 [ptr Z 0,ptr aN 0,ptr aO 0] t (.post x.id Th.Co) (.closed x.id k) J R)) ?_;refine bX ?_;exact aW ⟨rfl,cC,cD,d,he,rfl⟩
end
section
variable(X:cJ)(z:dn)(s:ar)(j:Nat)(t:bV)(a q b:Nat)(x:bQ)(e:hR)
theorem At.vV{X:cJ}{ap:List Nat}{aI:List bQ}{a q:Nat}{x:bQ}(h:At X ap aI a q x):h3 q 0 JC (af x.id):=h.rd λe=>rfl
def axa(B:At X z.ap s.aI a q x)(l:Int)(reason:cy)(I:Nat)(M:List Value)(k:Th.K)(az:1<=b/\b<=X.C.aZ)(bb:X.C.aZ<=16)(o:s.trace.length<most)(aS:s.notes.length<most)(J:s.aC[j]?=some t)(R:t.on=none):ad aa 300 [ptr (X.bq j) 0,ptr q 0,.agg (iA ⟨l,b,reason⟩).toArray,af 1,bi I M] Pq (λu H=>u=.tuple #[]/\∃aE aK cl bk,H=(ay jO::cG X sG (jB aaT j t b (⟨2,0,[]⟩:da) k)::dQ aE aK (s.trace++aaU)::fp cl bk (s.notes++[(⟨2,0,[]⟩:da)])::PA)):=by
 refine ax Tryz.func300 λF D=>?_;haveI:=gg (X:=X) (ap:=z.ap) (ai:=z.ai) J;haveI:=B.vV;refine Rq ?_;intro bW;refine bt (lZ X z s (abE:bZ) o) ?_;refine lY ?_;intro aE aK;refine cO ?_;refine cH ?_;refine cU ?_;refine bt (Cb X hY aaT j b (⟨2,0,[]⟩:da) I M k t az bb aS J R) ?_;exact aes
def axb(B:At X z.ap s.aI a q x)(l:Int)(reason:cy)(I:Nat)(M:List Value)(k:Th.K)(az:1<=b/\b<=X.C.aZ)(bb:X.C.aZ<=16)(o:s.trace.length<most)(aS:s.notes.length<most)(J:s.aC[j]?=some t)(R:t.on=none):ad aa 300 [ptr (X.bq j) 0,ptr q 0,.agg (iA ⟨l,b,reason⟩).toArray,af 2,bi I M] Pq (λu H=>u=.tuple #[]/\∃aE aK cl bk,H=(ay jO::cG X sG (jB aaV j t b (⟨3,0,[]⟩:da) k)::dQ aE aK (s.trace++aaW)::fp cl bk (s.notes++[(⟨3,0,[]⟩:da)])::PA)):=by
 refine ax Tryz.func300 λF D=>?_;haveI:=gg (X:=X) (ap:=z.ap) (ai:=z.ai) J;haveI:=B.vV;refine Rq ?_;intro bW;refine bt (lZ X z s (abF:bZ) o) ?_;refine lY ?_;intro aE aK;refine cO ?_;refine cH ?_;refine nG ?_;refine cU ?_;refine bt (Cb X hY aaV j b (⟨3,0,[]⟩:da) I M k t az bb aS J R) ?_;exact aes
def axc(B:At X z.ap s.aI a q x)(l:Int)(reason:cy)(I:Nat)(M:List Value)(k:Th.K)(az:1<=b/\b<=X.C.aZ)(bb:X.C.aZ<=16)(o:s.trace.length<most)(aS:s.notes.length<most)(J:s.aC[j]?=some t)(R:t.on=none):ad aa 300 [ptr (X.bq j) 0,ptr q 0,.agg (iA ⟨l,b,reason⟩).toArray,af 3,bi I M] Pq (λu H=>u=.tuple #[]/\∃aE aK cl bk,H=(ay jO::cG X sG (jB aaX j t b (sf:da) k)::dQ aE aK (s.trace++aaY)::fp cl bk (s.notes++Ed)::PA)):=by
 refine ax Tryz.func300 λF D=>?_;haveI:=gg (X:=X) (ap:=z.ap) (ai:=z.ai) J;haveI:=B.vV;refine Rq ?_;intro bW;refine bt (lZ X z s (abG:bZ) o) ?_;refine lY ?_;intro aE aK;refine cO ?_;refine EN ?_;refine cH ?_;refine cU ?_;refine bt (Cb X hY aaX j b (sf:da) I M k t az bb aS J R) ?_;rintro _ _ ⟨rfl,cl,bk,rfl⟩;exact adA
def axd(B:At X z.ap s.aI a q x)(Y:fU x e)(l d:Int)(reason:cy)(I:Nat)(M:List Value)(k:Th.K)(y:Option ar)(aQ:¬d=1/\¬d=2/\¬d=3)(a2:x.cF.contains (b:Int)=true)(bb:¬x.mode=1)(d7:x.cF.length<most)(o:s.trace.length<most)(aX:∀aE aK,ho X j {z with cC:=aE,cD:=aK} {s with trace:=s.trace++[({Th.c3 with kind:=10,dK:=b,cw:=x.id,why:=d,name:=reason}:bZ)]} k I M y)(J:s.aC[j]?=some t):ad aa 300 [ptr (X.bq j) 0,ptr q 0,.agg (iA ⟨l,b,reason⟩).toArray,af d,bi I M] (a1 X z.ap z.ai j 0 k I M::h6 X z s a q x e) (cp X y):=by
 refine ax Tryz.func300 λF D=>?_;haveI:=gg (X:=X) (ap:=z.ap) (ai:=z.ai) J;refine RN ?_;intro v c f p bW aE aK;haveI:=(aX aE aK).iU;refine agO ?_;refine dx ?_;refine cH ?_;refine ch ?_;refine cj rfl (oE rfl rfl (gx (H:=[a1 X z.ap z.ai j 0 k I M,ab q 118 (ee X x e),dv e.ka e.kc x.kids,dv e.hP e.hQ x.cF,gj e.gJ X.C.dW x.aside x.front,h4 e.jD (min (max e.b5.limit 0) 100) (min (max e.b5.within 1) 4095) x.given,b2 e.gp .i64 (x.watched.map λw=>(w,.bool true)),jf e.jE (h5 e.es),ay (iz e.es),gM e.b5,ay ((e3 X z.ap s.aI).set (a -1) fu),cG X {z with cC:=aE,cD:=aK} {s with trace:=s.trace++[({Th.c3 with kind:=10,dK:=b,cw:=x.id,why:=d,name:=reason}:bZ)]},dQ aE aK (s.trace++[({Th.c3 with kind:=10,dK:=b,cw:=x.id,why:=d,name:=reason}:bZ)]),fp z.na z.fv s.notes,b2 X.am .i64 (cf z.ap),b2 X.e5 .u64 (cf z.ai),ay (gv z.ai s.lets),Lg.dp X.ld s.bf,ey X.c4 X.C.dF s.dead,cg X.m s.L z.tt,fI X,fC X s.bs,eD X.bG X.m X.C.bG X.C.aZ,ay (ed X),fy X,gw X,hc X,gk X,ay (c8 X z.ap z.ai s.aC)]) (λD h E=>Sat.tail (λh E=>by have:=jr (X:=X) (z:={z with cC:=aE,cD:=aK}) (s:={s with trace:=s.trace++[({Th.c3 with kind:=10,dK:=b,cw:=x.id,why:=d,name:=reason}:bZ)]}) (x:=x) (e:=e) B ⟨Y.b5,Y.la,Y.es⟩ D h E;rw[sL (X:=X) (ap:=z.ap) (q:=q) (s:={s with trace:=s.trace++[({Th.c3 with kind:=10,dK:=b,cw:=x.id,why:=d,name:=reason}:bZ)]}) B]at this;exact this) E) (aX aE aK).spec) bI) ?_;exact aen
def axe(B:At X z.ap s.aI a q x)(Y:fU x e)(l d:Int)(reason:cy)(I:Nat)(M:List Value)(k:Th.K)(y:Option ar)(aQ:¬d=1/\¬d=2/\¬d=3)(a2:x.cF.contains (b:Int)=false)(bb:x.mode=1)(d7:x.cF.length<most)(o:s.trace.length<most)(a8:∀aE aK hP hQ,ad aa 296 Jd (a1 X z.ap z.ai j 0 k I M::h6 X hY I1 a q Qh {e with hP:=hP,hQ:=hQ}) (cp X y))(J:s.aC[j]?=some t):ad aa 300 abT iJ (cp X y):=by
 refine ax Tryz.func300 λF D=>?_;haveI:=gg (X:=X) (ap:=z.ap) (ai:=z.ai) J;refine RN ?_;intro v c f p bW aE aK;refine ag1 ?_;intro r i m;refine cU ?_;refine bt (a8 aE aK i m) ?_;exact xt
def axf(B:At X z.ap s.aI a q x)(Y:fU x e)(l d:Int)(reason:cy)(I:Nat)(M:List Value)(k:Th.K)(y:Option ar)(aQ:¬d=1/\¬d=2/\¬d=3)(a2:x.cF.contains (b:Int)=false)(bb:¬x.mode=1)(d7:x.cF.length<most)(o:s.trace.length<most)(aX:∀aE aK,ho X j {z with cC:=aE,cD:=aK} (Th.c7 I1 a Qh) k I M y)(J:s.aC[j]?=some t):ad aa 300 abT iJ (cp X y):=by
 refine ax Tryz.func300 λF D=>?_;haveI:=gg (X:=X) (ap:=z.ap) (ai:=z.ai) J;refine RN ?_;intro v c f p bW aE aK;haveI:=(aX aE aK).iU;refine ag1 ?_;intro r i m;refine ch ?_;refine bt (gx (H:=(a1 X z.ap z.ai j 0 k I M::ab q 118 ((ee X x e).set (0+17) (.slice i (x.cF++[(b:Int)]).length m))::dv e.ka e.kc x.kids::dv i m (x.cF++[(b:Int)])::gj e.gJ X.C.dW x.aside x.front::h4 e.jD oT oU x.given::b2 e.gp .i64 tN::jf e.jE (h5 e.es)::ay (iz e.es)::gM e.b5::ay w9::cG X hY I1::dQ aE aK (s.trace++aaZ)::Pj)) (λD h E=>Sat.tail (λh E=>jr (X:=X) (z:=hY) (s:=I1) (x:=Qh) (e:={e with hP:=i,hQ:=m}) B pu D h E) E) (aX aE aK).spec) ?_;refine pz ?_;exact px
end
section
variable(X:cJ)(z:dn)(s:ar)(j:Nat)
def axg(w:Int):∀l:List Int,eQ (l.map λw=>(w,Value.bool true)) w (.bool true)=(Th.ou l w).map λw=>(w,Value.bool true):=by
 have key:∀l:List Int,eQ (l.map λw=>(w,Value.bool true)) w iu=if l.contains w then l.map λw=>(w,Value.bool true)else(l.map λw=>(w,Value.bool true))++[(w,.bool true)]:=by
  intro l
  induction l with
  |nil=>rfl
  |
   cons x l L=>
   simp only[gz,eQ,List.contains_cons];by_cases h:w=x
   . subst h;simp
   . have h2:(w==x)=false:=by simpa using h
     have aH:¬x=w:=λe=>h e.symm;rw[h2,lW]
     first|rw[a6 h,L]|rw[a6 aH,L]
     split<;>rfl
 intro l;rw[key,Th.ou,Th.mem];split<;>simp
def axh(t:bV)(a q:Nat)(x:bQ)(e:hR)(ao:bD X z s)(B:At X z.ap s.aI a q x)(Y:fU x e)(I:Nat)(M:List Value)(k:Th.K)(y:Option ar)(hk:0<x.kids.length)(aX:ho X j z s k I M y):ad aa 245 lC iJ (cp X y):=by
 refine ax Tryz.func245 λF D=>?_;haveI:=aX.iU;refine eP ?_;refine bX ?_;refine cH ?_;refine dx ?_;refine Q2 ?_;intro cu aY ag fd;refine cO ?_;exact pv
def axi(t:bV)(a q:Nat)(x:bQ)(e:hR)(ao:bD X z s)(B:At X z.ap s.aI a q x)(Y:fU x e)(I:Nat)(M:List Value)(k:Th.K)(y:Option ar)(hk:x.kids.length=0)(c:¬x.mode=4)(b:¬x.mode=3)(aX:ho X j z s k I M y):ad aa 245 lC iJ (cp X y):=by
 refine ax Tryz.func245 λF D=>?_;haveI:=aX.iU;refine af2 ?_;refine Q2 ?_;intro cu aY ag fd;refine bz ?_;exact pv
def axj(t:bV)(a q:Nat)(x:bQ)(e:hR)(ao:bD X z s)(B:At X z.ap s.aI a q x)(Y:fU x e)(I:Nat)(M:List Value)(k:Th.K)(who:Nat)(N:X.C.ok)(O:1<=who/\who<=X.C.aZ)(J:s.aC[j]?=some t)(R:t.on=none):ad aa 348 [ptr (X.bq j) 0,ptr q 0,af who,bi I M] iJ (cp X (some (Th.c7 PE a Qf))):=by
 refine ax Tryz.func348 λF D=>?_;haveI:=gg (X:=X) (ap:=z.ap) (ai:=z.ai) J;have g:1<=x.id/\x.id<=X.C.aZ:=IG;refine xw ?_;intro aN aO aR bW;refine bH ?_;refine wn λV=>?_;refine bF ?_;refine ct [] [5,201] [ab aO 110 [ptr q 0],ab aR 3 [af who],ab q 118 (ee X x e)] ?_;refine bH ?_;refine h9 [10,13] [10] ((0,.bJ)::(1,.loc)::(2,.loc)::W4) [ab aN 106 en,ab V 32 [ptr X.h 0],ab aO 110 [ptr q 0],ab aR 3 [af who],ab q 118 (ee X x e),cG X z s] mixed gS ?_;refine cO ?_;refine bt (avP X N x.id who g O) ?_;refine py ?_;intro p;refine go_v rfl .none rfl (jw Tryz.underlying392 rfl rfl) ?_;refine aV (iB (a1.eq_20 ..) (V,aR,aN,bW,aO,q,I,M) vg (jP X z.ap z.ai s.aC j p 392 [ptr V 0,ptr aR 0,ptr aN 0,ptr bW 0,ptr aO 0] t (.hZ (nC 0 (ly X.C.bG X.C.aZ x.id who))) (.watched a who k) J R)) ?_;refine bX ?_;exact aW ⟨rfl,z,_,rfl,⟨ao.gK,ao.gE,ao.gF,by show _=(s.aI.set _ _).length;rw[gq];exact ao.ap,ao.ai⟩,rfl⟩ (λh E=>jr (X:=X) (z:=z) (s:=PE) (x:=Qf) B pu D h ((show∀h,Sat _ h->Sat (h6 X z PE a q Qf e++D) h from by simp only[h6];rw[<-axg];exact(au)) h E))
end
section
variable(X:cJ)(z:dn)(s:ar)(j:Nat)
def axk(t:bV)(a q:Nat)(x:bQ)(e:hR)(m:da)(B:At X z.ap s.aI a q x)(Y:fU x e)(I:Nat)(M:List Value)(k:Th.K)(y:Option ar)(O:m.what=2)(bb:¬x.mode=2)(aX:ho X j z s k I M y):ad aa 197 sF iJ (cp X y):=by
 refine ax Tryz.func197 λF D=>?_;haveI:=aX.iU;refine agy ?_;intro aN aO aR bW;exact afL
def axl(t:bV)(a q:Nat)(x:bQ)(e:hR)(m:da)(B:At X z.ap s.aI a q x)(Y:fU x e)(I:Nat)(M:List Value)(k:Th.K)(y:Option ar)(O:m.what=3)(bb:¬x.mode=2)(aX:ho X j z s k I M y):ad aa 197 sF iJ (cp X y):=by
 refine ax Tryz.func197 λF D=>?_;haveI:=aX.iU;refine agK ?_;intro aN aO aR bW;exact afL
def axm(t:bV)(a q:Nat)(x:bQ)(e:hR)(m:da)(B:At X z.ap s.aI a q x)(Y:fU x e)(I:Nat)(M:List Value)(k:Th.K)(y:Option ar)(O:m.what=3)(bb:x.mode=2)(ao:bD X z s)(N:X.C.ok)(aS:s.notes.length<most)(J:s.aC[j]?=some t)(R:t.on=none)(hlen:x.kids.length<=1099511627776)(f:∀cs,0=x.kids.length->ho X j z QA tU 244 cs y)(g3:∀v:Int,x.kids[0]?=some v->∃b:Nat,v=b/\Ey/\y=some (jB QA j t b sf (.each (.push x.kids 0) 0 x.kids.length tU))):ad aa 197 sF iJ (cp X y):=by
 refine ax Tryz.func197 λF D=>?_;have d:bD X z QA:=⟨ao.gK,ao.gE,ao.gF,by show _=(s.aI.set _ _).length;rw[gq];exact ao.ap,ao.ai⟩;refine agK ?_;intro aN aO aR bW;refine JV ?_;refine fx ?_;refine ct [] [6,201] [ab aN 106 en,ab aO 110 [ptr q 0],ab q 118 ((ee X x e).set (0+13) (af 3))] ?_;refine bh ?_;refine bt (pA (avx aN aO bW q I M B.ap) (ajU X z s j t a q x {x with mode:=3} e 0 tU 244 [ptr aN 0,ptr aO 0,ptr bW 0] y B pu d N aS J R hlen (f _) g3)) ?_;exact aed
def axn(t:bV)(a q:Nat)(x:bQ)(e:hR)(m:da)(B:At X z.ap s.aI a q x)(Y:fU x e)(I:Nat)(M:List Value)(k:Th.K)(y:Option ar)(hlen:x.kids.length<=most)(a2:x.kids.contains m.who=false)(aX:ho X j z s k I M y):ad aa 242 sF iJ (cp X y):=by
 refine ax Tryz.func242 λF D=>?_;haveI:=aX.iU;refine agP ?_;intro b aN aO aR bW;refine gi ?_;exact Kx
def axo(t:bV)(a q:Nat)(x:bQ)(e:hR)(m:da)(B:At X z.ap s.aI a q x)(Y:fU x e)(I:Nat)(M:List Value)(k:Th.K)(y:Option ar)(hlen:x.kids.length<=most)(a2:x.kids.contains m.who=true)(bb:x.mode=3)(aX:ho X j z s k I M y):ad aa 242 sF iJ (cp X y):=by
 refine ax Tryz.func242 λF D=>?_;haveI:=aX.iU;refine agR ?_;intro b aN aO aR bW;refine fZ ?_;exact Kx
def axp(t:bV)(a q:Nat)(x:bQ)(e:hR)(m:da)(B:At X z.ap s.aI a q x)(Y:fU x e)(I:Nat)(M:List Value)(k:Th.K)(y:Option ar)(hlen:x.kids.length<=most)(a2:x.kids.contains m.who=true)(bb:x.mode=4)(aX:ho X j z s k I M y):ad aa 242 sF iJ (cp X y):=by
 refine ax Tryz.func242 λF D=>?_;haveI:=aX.iU;refine agR ?_;intro b aN aO aR bW;refine bh ?_;exact afJ
end
section
variable(X:cJ)(z:dn)(s:ar)(j:Nat)(t:bV)(a q left:Nat)(x:bQ)(e:hR)
def axq(B:At X z.ap s.aI a q x)(Y:fU x e)(bb:x.mode=1)(aw:left=0)(ao:bD X z s)(J:s.aC[j]?=some t)(R:t.on=none):ad aa 196 Es vp (cp X (some abJ)):=by
 refine ax Tryz.func196 λF D=>?_;have g:1<=x.id/\x.id<=X.C.aZ:=IG;refine afR ?_;intro Z aN aO;refine adu ?_;refine bh ?_;refine bt (avH X g) ?_;refine py ?_;intro p;refine JU ?_;refine aV (iB (a1.eq_9 ..) (Z,aN,q) vg (jP X z.ap z.ai s.aC j p 234 [ptr Z 0,ptr aN 0] t (.post x.id (Th.nU 1)) (.again a) J R)) ?_;refine ch ?_;exact aW ⟨rfl,z,_,rfl,jq,rfl⟩ (λh E=>by have:=jr (X:=X) (z:=z) (s:=abJ) (x:=x) (hm:=x) B Y D h ((au) h E);rw[sL (X:=X) (ap:=z.ap) (q:=q) (s:={s with aC:=s.aC.set j {t with on:=some (.post x.id (Th.nU 1),.again a)}}) B]at this;exact this)
def axr(t:bV)(a q left:Nat)(x:bQ)(e:hR)(B:At X z.ap s.aI a q x)(Y:fU x e)(y:Option ar)(bb:x.mode=1)(aw:¬left=0)(l:List Int)(id:Int)(b:x.front=l++[id])(d:l.length<=1099511627776)(h:∀cs,ad aa 238 [ptr (X.bq j) 0,ptr q 0,bu id,bi 236 cs] (a1 X z.ap z.ai j 0 (.next a left) 236 cs::h6 X z s a q {x with front:=l} e) (cp X y)):ad aa 196 Es vp (cp X y):=by
 refine ax Tryz.func196 λF D=>?_;refine agt ?_;intro Z aN aO aR;refine cj rfl (b4 rfl ((show ad aa 237 [ptr e.gJ 0] Qu (aF (.tuple #[bu id,.bool true]) [gj e.gJ X.C.dW x.aside l])from by rw[b];exact avd e.gJ X.C.dW x.aside l id d)) bI) ?_;refine Mw ?_;refine nQ ?_;refine bh ?_;refine bt (iB (a1.eq_10 ..) (Z,aN,aO,q) vg (h _)) ?_;exact zx
def axs(B:At X z.ap s.aI a q x)(Y:fU x e)(bb:x.mode=1)(aw:¬left=0)(b:x.front=[])(ao:bD X z s)(J:s.aC[j]?=some t)(R:t.on=none):ad aa 196 Es vp (cp X (some aby)):=by
 refine ax Tryz.func196 λF D=>?_;have g:1<=x.id/\x.id<=X.C.aZ:=IG;refine agt ?_;intro Z aN aO aR;refine cj rfl (b4 rfl ((show ad aa 237 [ptr e.gJ 0] Qu (aF (.tuple #[bu 0,.bool false]) Qu)from by rw[b];exact by simpa only[b]using avc e.gJ X.C.dW x.aside)) bI) ?_;refine Mw ?_;refine lD ?_;refine bH ?_;refine bt (avD X g) ?_;refine lS ?_;intro p;refine wn λcx=>?_;refine bh ?_;refine J3 ?_;refine aV (iB (a1.eq_11 ..) (cx,Z,aN,aR,aO,q) vg (jP X z.ap z.ai s.aC j p 240 [ptr cx 0,ptr Z 0,ptr aN 0,ptr aR 0] t (.post x.id Th.Cn) (.nX a left) J R)) ?_;refine a7 ?_;exact aW ⟨rfl,z,_,rfl,jq,rfl⟩ (λh E=>by have:=jr (X:=X) (z:=z) (s:=aby) (x:=x) (hm:=x) B Y D h ((au) h E);rw[sL (X:=X) (ap:=z.ap) (q:=q) (s:={s with aC:=s.aC.set j {t with on:=some (.post x.id Th.Cn,.nX a left)}}) B]at this;exact this)
end
end Go.Proofs.YtnnhpnccfnghdaaGreat.L.bE
