import Derived.WalkKit
import Derived.KernelRfl
set_option linter.all false
def a6:=@if_neg
def bg:=@if_pos
def ci:=@List.nil_append
def cn:=@List.cons_append
def cq:=@List.getElem?_eq_getElem
def dd:=@List.getElem?_eq_some_iff
def eh:=@Nat.le_refl
def eo:=@if_false
def ep:=@List.length_append
def eH:=@Bool.false_eq_true
def fc:=@Nat.zero_le
def fe:=@List.getElem?_map
def fk:=@if_true
def gq:=@List.length_set
def gz:=@List.map_cons
def h0:=@List.mem_of_getElem?
def il:=@Nat.le_succ
def io:=@Option.bind_eq_some_iff
def iy:=@Bool.and_eq_true
def iY:=@List.length_cons
def je:=@List.getD_eq_getElem?_getD
def jj:=@List.append_nil
def jI:=@List.append_assoc
def jS:=@List.mem_map
def kf:=@List.mem_cons
def kG:=@List.length_map
def kP:=@List.mem_append
def kR:=@Nat.zero_add
def kS:=@List.getElem?_append_left
def k3:=@Option.bind_some
def lk:=@List.length_nil
def ln:=@decide_eq_true_eq
def lr:=@Nat.eq_of_beq_eq_true
def lM:=@decide_eq_true
def lV:=@Bool.true_and
def lW:=@Bool.false_or
def l9:=@List.take_length
def mn:=@Bool.true_or
def mJ:=@decide_eq_false
def mO:=@List.map_nil
def mW:=@Nat.le_trans
def mX:=@Nat.add_mul
def nc:=@Bool.not_true
def nf:=@Bool.not_false
def ns:=@List.take_succ_eq_append_getElem
def ny:=@Nat.add_assoc
def nH:=@Option.map_some
def nM:=@Bool.false_and
def oe:=@Option.some.inj
def oM:=@List.getElem?_eq_none
def oO:=@List.mem_filter
def oP:=@List.map_toArray
def o3:=@Option.map_eq_some_iff
def o5:=@List.flatMap_append
def o6:=@List.map_append
def pb:=@Bool.eq_iff_iff
def pN:=@List.all_eq_true
def pP:=@List.flatMap_cons
def pQ:=@List.getElem?_append_right
def pS:=@List.length_take
def p4:=@List.mem_range
def p5:=@Nat.mul_le_mul_right
def qz:=@Nat.mul_le_mul
def qD:=@List.getElem?_set_ne
def qG:=@List.length_filter_le
def qW:=@Option.bind_eq_bind
def rf:=@List.mem_of_find?_eq_some
def rm:=@Nat.mul_one
def rn:=@List.eq_nil_of_length_eq_zero
def r2:=@List.mem_singleton
def sh:=@Nat.lt_or_ge
def sz:=@List.getElem_mem
def sS:=@List.getElem?_mapIdx
def tD:=@Bool.or_eq_true
def tL:=@List.map_set
def tV:=@decide_eq_false_iff_not
def tY:=@List.filter_congr
def u0:=@List.ext_getElem?
def ve:=@List.getElem?_range
def vf:=@List.length_range
def vt:=@Nat.one_mul
def vB:=@Int.le_refl
def vX:=@List.not_mem_nil
def vY:=@List.drop_eq_getElem_cons
def wb:=@List.length_drop
def wE:=@List.zipIdx_cons
def w5:=@List.map_map
def xz:=@Nat.le_of_lt
def x4:=@List.filter_filter
def yd:=@Nat.sub_self
def yg:=@List.size_toArray
def yz:=@Nat.blt_eq
def yP:=@Nat.mod_lt
def yR:=@List.foldl_cons
def yY:=@List.filter_append
def y2:=@List.take_of_length_le
def y3:=@List.getElem_set_self
def zt:=@List.any_eq_true
def zu:=@List.getElem?_set_self
def Ad:=@List.mem_flatMap
def A1:=@List.set_getElem_self
def BU:=@Bool.not_eq_true'
def CR:=@List.take_append_drop
def Db:=@Nat.min_eq_left
def Dp:=@Nat.sub_zero
def Dq:=@Nat.le_of_ble_eq_true
def Dr:=@Array.getD_eq_getD_getElem?
def Dw:=@Int.not_lt
def DG:=@Int.natCast_mul
def DO:=@Nat.add_zero
def DQ:=@Bool.and_eq_true_iff
def D0:=@List.mem_cons_of_mem
def D5:=@List.zipIdx_nil
def D7:=@List.take_left'
def ET:=@List.any_eq_false
def EU:=@List.mem_map_of_mem
def Fo:=@List.mem_iff_getElem?
def Fz:=@Nat.lt_of_succ_lt
def FF:=@Option.isSome_some
def FG:=@Option.isSome_none
def FK:=@Nat.add_sub_cancel
def FZ:=@List.Perm.of_eq
def F1:=@List.filter_sublist
def F2:=@List.getElem_of_mem
def Ge:=@List.drop_eq_nil_of_le
def Gf:=@Nat.add_sub_cancel_left
def Gg:=@List.set_append_left
def Gm:=@Option.map_none
def GL:=@List.drop_drop
def Hi:=@Array.getElem?_eq_none
def HL:=@List.take_append_of_le_length
def HM:=@Nat.eq_zero_or_pos
def H3:=@List.getElem?_cons_succ
def Ia:=@List.map_take
def Iq:=@List.length_eraseIdx
def Kp:=@Int.toNat_natCast
def KO:=@Nat.not_lt_zero
def KX:=@List.length_mapIdx
def KZ:=@Option.getD_some
def Ma:=@List.getElem?_drop
def ME:=@Nat.add_comm
def M5:=@List.getElem?_toArray
def M7:=@Array.getElem?_setIfInBounds
def Nf:=@Int.emod_lt_of_pos
def NY:=@Nat.testBit_or
def Oq:=@List.any_map
def OF:=@List.mem_cons_self
def OG:=@List.filter_cons
def O3:=@List.take_zero
def O8:=@Int.not_le
def RW:=@List.find?_eq_none
def RZ:=@Option.isSome_iff_exists
def Sg:=@List.filter_eq_self
def Si:=@Nat.mul_comm
def Sr:=@List.mapIdx_cons
def SG:=@List.sum_cons
def S6:=@Bool.or_eq_false_iff
def Tq:=@List.getElem?_replicate
def Ug:=@List.flatMap_nil
def Uq:=@List.set_append_right
def Uw:=@List.singleton_append
def Uy:=@List.drop_length
def UC:=@List.length_replicate
def VM:=@Int.tmod_eq_emod_of_nonneg
def V7:=@List.all_map
def Wi:=@Nat.beq_refl
def XD:=@List.mapIdx_concat
def XT:=@Array.foldl_toList
def XU:=@Nat.testBit_two_pow
def Yl:=@List.getElem?_cons_zero
def YB:=@Nat.zero_mul
def Y1:=@List.eraseIdx_eq_take_drop_succ
def Y4:=@Nat.lt_of_le_of_lt
def Zj:=@Nat.mod_eq_of_lt
def ac7:=@Bool.true_eq_false
def ahC:=@List.map_replicate
def ahM:=@Nat.div_add_mod'
def ahO:=@List.getElem?_take
def ah4:=@List.mem_or_eq_of_mem_set
def aij:=@List.pairwise_iff_getElem
def aiH:=@Int.le_trans
def ajc:=@List.length_reverse
def ajl:=@List.length_dropLast
def ajO:=@List.find?_cons
def ajX:=@List.foldl_append
def aj0:=@List.mapIdx_append
def akR:=@List.map_congr_left
def ak6:=@Nat.testBit_and
def ale:=@List.append_eq
def alU:=@List.set_eq_take_append_cons_drop
def anX:=@Array.getElem?_append
def aoZ:=@List.mem_of_mem_eraseIdx
def apG:=@List.drop_append_of_le_length
def aro:=@Array.eq_empty_of_size_eq_zero
def ar5:=@List.mapIdx_eq_mapIdx_iff
def atx:=@Array.getElem?_eq_getElem
def auR:=@List.mem_take_iff_getElem
def auS:=@List.findIdx_lt_length
def awW:=@Nat.add_mul_mod_self_left
def aAX:=@List.not_any_eq_all_not
def aBq:=@List.length_singleton
namespace Go.L
structure arz(P:Prop):Prop where
 o:P
abbrev aL(P Q:Prop):=arz P->Q
variable{A:Sort _}{P Q:Prop}
def ae(h:P:=by omega):=h
def bN(h:P:=by decide):=h
def eV(h:P:=by rw[jv (by omega)];omega):=h
def gS(h:P:=by kernel_rfl):=h
def fW(h:P:=by simp):=h
def gW(h:P:=by grind):=h
def hW(h:P:=by simp;omega):=h
def mP(h:P:=by unfold fr.over;rw[aJ];rfl):=h
def OS(h:P:=by first|assumption|omega|simp):=h
def oI(h:P:=by have:=cc.len;omega):=h
def rC(h:P:=by rfl):=h
def oS(h:P:=by unfold most;omega):=h
def qv(h:P:=by simpa[fr.over]using U):=h
def A2(h:P:=by dsimp only;rw[ep];rfl):=h
def wu(h:P:=by unfold maxLen;omega):=h
def wP(h:P:=by simp only[kv,kD];exact(au)):=h
def y1(h:P:=by rw[vf];omega):=h
def y5(h:P:=by exact jv (by omega)):=h
def y6(h:P:=by rw[Nat.mul_add];omega):=h
def y7(h:P:=by rw[<-hC];rfl):=h
def AV(h:P:=by unfold n5;split<;>omega):=h
def A0(h:P:=by unfold hI.over;rw[aJ];rfl):=h
def A7(h:P:=by simpa using g2):=h
def YP(h:P:=by simpa[aw]using W):=h
def Bx(h:P:=by have:=K.dE;have:=K.len;omega):=h
def By(h:P:=by simp[w8]):=h
def Bz(h:P:=by simp only[ep,iY,lk];omega):=h
def BA(h:P:=by unfold eF;decide):=h
def CW(h:P:=by simpa using al):=h
def Dy(h:P:=by simp only[kv,kD,bg W];exact(au)):=h
def DA(h:P:=by simp only[yD,wL,bg W];exact(au)):=h
def DB(h:P:=by simp only[yD,wL,a6 W];exact(au)):=h
def DM(h:P:=by unfold hN.over;rw[aJ];rfl):=h
def DP(h:P:=by simpa using J):=h
def yI(h:P:=by simp[aJ]):=h
def Ea(h:P:=by rw[m1.aT,j9]):=h
def Eb(h:P:=by rw[E];exact hk):=h
def Ec(h:P:=by show((3*l:Nat):Int)<=64;omega):=h
def GV(h:P:=by simpa using aJ):=h
def HD(h:P:=by cases M<;>simp at aw;exact⟨_,_,rfl⟩):=h
def HF(h:P:=by unfold ic.over;rw[aJ];rfl):=h
def HR(h:P:=by simpa using aD):=h
def HS(h:P:=by simpa[pN]using p):=h
def arA(h:P:=by rw[jj];exact s):=h
def Ix(h:P:=by unfold fY;rw[bg rfl]):=h
def Iy(h:P:=by simpa using s):=h
def Zm(h:P:=by rw[K.get];rfl):=h
def Iz(h:P:=by unfold bL at hp;omega):=h
def IA(h:P:=by simp only[im]at hp;omega):=h
def IB(h:P:=by show dy k+1<=1;omega):=h
def IC(h:P:=by have e:bw (.alone a k)=bw k+256:=rfl;omega):=h
def ID(h:P:=by rw[E];exact aP):=h
def IE(h:P:=by rw[j9];exact aP):=h
def IF(h:P:=by rw[m1.aT];exact M):=h
def IG(h:P:=by rw[B.cv];exact B.aP):=h
def IH(h:P:=by cases o<;>rfl):=h
def II(h:P:=by rw[u];omega):=h
def IJ(h:P:=by rw[rH M,B];rfl):=h
def IK(h:P:=by have bn:=arB X z s N aw;rw[co]at bn;exact bn):=h
def IL(h:P:=by rw[b];rfl):=h
def IM(h:P:=by rw[om,tL];exact(au)):=h
def Mk(h:P:=by simp only[gq];exact(au)):=h
def MD(h:P:=by rw[ep,i9];omega):=h
def M3(h:P:=by simpa[fr.over]using d):=h
def Nk(h:P:=by simp only[wI,wJ,bg W];exact(au)):=h
def Nl(h:P:=by simp only[wI,wJ,a6 W];exact(au)):=h
def aqZ(h:P:=by rw[tK]at co;omega):=h
def OH(h:P:=by rw[Iq,bg al]):=h
def OL(h:P:=by cases m<;>simp at h⊢):=h
def OT(h:P:=by unfold ht;omega):=h
def OU(h:P:=by rw[pr,yW,aX];rfl):=h
def arC(h:P:=by exact mJ T):=h
def OV(h:P:=by rw[hlen];exact g4):=h
def OW(h:P:=by rw[hlen];exact pm):=h
def OX(h:P:=by simp only[iI,U,eH,eo]):=h
def OY(h:P:=by rw[pS];omega):=h
def OZ(h:P:=by rw[j9];exact hk):=h
def O0(h:P:=by have:=aQ.1;omega):=h
def O1(h:P:=by rw[c.len];exact Y):=h
def O2(h:P:=by rw[O3];exact(au)):=h
def O4(h:P:=by unfold most at e;omega):=h
def O5(h:P:=by rw[V];rintro(h1|h1|h1);exact absurd h1 (by decide);all_goals omega):=h
def O6(h:P:=by unfold Th.bL;omega):=h
def O7(h:P:=by rw[<-h.1];exact J):=h
def Uk(h:P:=by unfold kZ rowOf;rw[aj];simp[h]):=h
def Up(h:P:=by rw[kz f aT a8,pS,Db (by omega)]):=h
def VK(h:P:=by show some (Value.bool (w.get id).isSome)=_;rw[Y]):=h
def V1(h:P:=by have:=a2.M1;simp only at this;omega):=h
def WG(h:P:=by simp only[wI,wJ];exact(au)):=h
def WH(h:P:=by simp only[kv,kD,a6 (O8.2 W)];exact(au)):=h
def WI(h:P:=by simp only[kv,kD,a6 (Dw.2 W)];exact(au)):=h
def W0(h:P:=by show some (Value.bool o.over)=_;rw[aJ]):=h
def Yz(h:P:=by show r.length -(k+1)<r.length -k;omega):=h
def YX(h:P:=by have:=bn j J;rw[av];split<;>omega):=h
def Y3(h:P:=by intro x ag;simp at ag;subst ag;rfl):=h
def Y6(h:P:=by rw[Array.toList_modify];exact bB v):=h
def Zi(h:P:=by have:=lr az.1;simpa using this):=h
def Zn(h:P:=by have:=qG (λx=>!decide (x<=ht now -z)) l;omega):=h
def Zo(h:P:=by first|exact W|exact I|exact L|assumption):=h
def Zp(h:P:=by cases v<;>simp[Value.oneCell']at h1<;>rfl):=h
def Zq(h:P:=by match cs,aw with|[ej,c1],_=>exact⟨_,_,rfl⟩):=h
def Zr(h:P:=by match cs,aw with|[ej,c1,bk,b0,d9],_=>exact⟨_,_,_,_,_,rfl⟩):=h
def Zs(h:P:=by simp only[AK,W];exact(au)):=h
def Zt(h:P:=by rw[<-o5,CR]):=h
def Zu(h:P:=by rw[show fH a c M.reverse=own (ul a c M) 36 1 M.length (iT M.reverse) by simp[fH,ul]];exact(au)):=h
def Zv(h:P:=by first|exact ag|exact⟨ag.1,ag.2.1,aP _ _ ag.2.2⟩):=h
def Zw(h:P:=by first|exact⟨ag.1,ag.2.1,aP _ _ ag.2.2⟩):=h
def Zx(h:P:=by rw[W.iL (l.ie j J).iL (by simp)];exact h.resolve_left (λh=>h)):=h
def Zy(h:P:=by rw[c.len];show 2<=C.gR+_;unfold bK.gR bK.bG;omega):=h
def Zz(h:P:=by cases k<;>first|exact⟨rfl,rfl⟩|exact absurd R (hH _ _)):=h
def ZA(h:P:=by rw[IN];have:hD=90000:=rfl;omega):=h
def ZB(h:P:=by unfold Th.kq;rw[bg K.h1];exact K.aw):=h
def ZC(h:P:=by simp only[yz,iY,lk];omega):=h
def ZD(h:P:=by rw[cv,<-ao.ap];exact O9 _ _):=h
def ZE(h:P:=by have:=s.eI;rwa[jI]at this):=h
def ZF(h:P:=by have R:maxLen=9223372036854775807:=rfl;omega):=h
def ZG(h:P:=by rw[J]at I;exact oe I):=h
def ZH(h:P:=by rw[aB]at h1;exact oe h1):=h
def ZI(h:P:=by rw[kG,vf];omega):=h
def ZJ(h:P:=by rw[bB]at aB;exact oe aB):=h
def ZK(h:P:=by have bn:=d.aj;rw[Th.awH]at bn;exact oe bn):=h
def ZL(h:P:=by rw[kz te 3 IP,pS];omega):=h
def ZM(h:P:=by rw[Pb,U];simp[yz];omega):=h
def ZN(h:P:=by rw[<-arD rfl,arE];exact(au)):=h
def ZO(h:P:=by first|rfl|(simp only[I,UT a2,nc,nf,nM,lV,mn,lW];done)|(simp[I,UT a2];done)|simp_all):=h
def ZP(h:P:=by rw[rI (by omega),un _ (by omega) (by omega)]):=h
abbrev Vc(x:A:=by exact(bd.cons (t:=137) rfl Ax)):=x
abbrev Ax(x:A:=by exact(bd.cons (t:=119) rfl Aw)):=x
abbrev Aw(x:A:=by exact(bd.cons (t:=98) rfl Av)):=x
abbrev Av(x:A:=by exact(bd.cons (t:=81) rfl Au)):=x
abbrev Au(x:A:=by exact(bd.cons (t:=63) rfl As)):=x
abbrev As(x:A:=by exact(bd.cons (t:=45) rfl U1)):=x
abbrev U1(x:A:=by exact(bd.cons (t:=36) rfl (bd.cons (t:=35) rfl (bd.cons (t:=34) rfl (bd.cons (t:=33) rfl (bd.cons (t:=32) rfl (bd.cons (t:=31) rfl (bd.cons (t:=30) rfl (bd.cons (t:=29) rfl (bd.cons (t:=28) rfl (bd.cons (t:=27) rfl (bd.cons (t:=26) rfl (bd.cons (t:=25) rfl (bd.cons (t:=24) rfl (bd.cons (t:=23) rfl (bd.cons (t:=22) rfl (bd.cons (t:=21) rfl (bd.cons (t:=20) rfl (bd.cons (t:=19) rfl (bd.cons (t:=18) rfl (bd.cons (t:=17) rfl (bd.cons (t:=16) rfl (bd.cons (t:=15) rfl (bd.cons (t:=14) rfl (bd.cons (t:=13) rfl (bd.cons (t:=12) rfl (bd.cons (t:=11) rfl (bd.cons (t:=10) rfl (bd.cons (t:=9) rfl (bd.cons (t:=8) rfl (bd.cons (t:=6) rfl (bd.cons (t:=5) rfl (bd.cons (t:=4) rfl (bd.cons (t:=3) rfl Vh)))))))))))))))))))))))))))))))))):=x
abbrev Yd(x:A:=by exact(dM::dM::eX::eX::eX::eX::eX::eX::eX::eX::eX::eX::eX::eX::eX::eX::eX::eX::eX::eX::eX::eX::eX::eX::eX::eX::eX::eX::eX::eX::ZQ)):=x
abbrev UZ(x:A:=by exact(33::49::53::46::58::60::64::68::72::76::80::85::89::93::97::101::U2)):=x
abbrev ZR(x:A:=by exact(dv e.hP e.hQ x.cF::gj e.gJ X.C.dW x.aside x.front::h4 e.jD oT oU x.given::b2 e.gp .i64 tN::jf e.jE (h5 e.es)::ay (iz e.es)::ZS)):=x
abbrev U2(x:A:=by exact(105::112::121::125::118::130::132::136::140::144::148::152::157::161::165::169::173::U3)):=x
abbrev Pc(x:A:=by exact(λE=>cG X E.2.1 E.2.2::dQ E.2.1.cC E.2.1.cD E.2.2.trace::fp E.2.1.na E.2.1.fv E.2.2.notes::b2 X.am .i64 (cf E.2.1.ap)::ay (e3 X E.2.1.ap E.2.2.aI)::b2 X.e5 .u64 (cf E.2.1.ai)::ay (gv E.2.1.ai E.2.2.lets)::Lg.dp X.ld E.2.2.bf::ey X.c4 X.C.dF E.2.2.dead::cg X.m E.2.2.L E.2.1.tt::fI X::fC X E.2.2.bs::eD X.bG X.m X.C.bG X.C.aZ::ay (ed X)::fy X::gw X::hc X::gk X::ay (c8 X E.2.1.ap E.2.1.ai E.2.2.aC)::D)):=x
abbrev X4(x:A:=by exact[dM,dM,dM,dM,dM,dM,dM,dM,dM,eX,fS,dM,dM,dM,fS,fS,fS,eX,(.map none),(.map none),eX,fS,fS,eX,dM,dM,gQ,eX,eX,fS]):=x
abbrev U3(x:A:=by exact(177::184::188::192::198::200::204::208::212::216::220::224::228::232::236::240::U4)):=x
abbrev U4(x:A:=by exact(244::252::256::260::264::268::272::276::280::284::288::292::296::300::304::308::312::316::320::324::U5)):=x
abbrev ZS(x:A:=by exact(gM e.b5::ZT)):=x
abbrev ZT(x:A:=by exact(ay w9::Pd)):=x
abbrev ZU(x:A:=by exact(fp z.na z.fv s.notes::b2 X.am .i64 (cf z.ap)::ay jO::b2 X.e5 .u64 (eQ (cf z.ai) ((s.lets.length+1:Nat):Int) (ptr av 0))::Lg.dp X.ld (dS s.bf ((s.lets.length+1:Nat):Int) 1)::ZV)):=x
abbrev Pe(x:A:=by exact(p7::dQ z.cC z.cD s.trace::fp z.na z.fv s.notes::b2 X.am .i64 (cf z.ap)::ay jO::b2 X.e5 .u64 (cf z.ai)::ay k8::Lg.dp X.ld s.bf::ey X.c4 X.C.dF s.dead::cg X.m s.L z.tt::fI X::fC X s.bs::eD X.bG X.m X.C.bG X.C.aZ::ay (ed X)::fy X::ZW)):=x
abbrev Pf(x:A:=by exact(cG X z s::dQ z.cC z.cD s.trace::fp z.na z.fv s.notes::b2 X.am .i64 (cf z.ap)::ay jO::b2 X.e5 .u64 (cf z.ai)::ay k8::Lg.dp X.ld s.bf::ey X.c4 X.C.dF s.dead::ZX)):=x
abbrev X6(x:A:=by exact[dM,dM,nJ,dM,dM,eX,eX,nJ,dM,dM,dM,dM,eX,dM,fS,fS,(.map none),eX,(.map none),fS]):=x
abbrev ZY(x:A:=by exact(cG X z s::dQ z.cC z.cD s.trace::fp z.na z.fv s.notes::b2 X.am .i64 (cf z.ap)::ay jO::b2 X.e5 .u64 (cf z.ai)::ay k8::Lg.dp X.ld s.bf::ey X.c4 X.C.dF s.dead::ZZ)):=x
abbrev Z0(x:A:=by exact(fp z.na z.fv s.notes::b2 X.am .i64 (cf z.ap)::b2 X.e5 .u64 (cf z.ai)::ay k8::Lg.dp X.ld Ph::Z1)):=x
abbrev Z2(x:A:=by exact(cG X z s::dQ z.cC z.cD s.trace::fp z.na z.fv s.notes::b2 X.am .i64 (cf z.ap)::ay jO::b2 X.e5 .u64 (cf z.ai)::ay k8::Lg.dp X.ld s.bf::ey X.c4 X.C.dF s.dead::fI X::Z3)):=x
abbrev Pd(x:A:=by exact(cG X z s::dQ z.cC z.cD s.trace::Pj)):=x
abbrev Z4(x:A:=by exact[(0,.bJ),(1,.bJ),(2,.bJ),(3,.bJ),(4,.bJ),(5,.bJ),(6,.bJ),(7,.loc),(8,.loc),(9,.loc),(10,.loc),(11,.loc),(12,.loc),(13,.loc),(14,.loc),(16,.bJ),(17,.bJ),(18,.bJ),(19,.bJ),(20,.bJ),(21,.bJ),(22,.bJ),(23,.bJ),(15,.c0),(24,.c0),(25,.loc),(26,.c0)]):=x
abbrev Pk(x:A:=by exact(cG X z s::Pl)):=x
abbrev Pl(x:A:=by exact(dQ z.cC z.cD s.trace::fp z.na z.fv s.notes::b2 X.am .i64 (cf z.ap)::ay jO::b2 X.e5 .u64 (cf z.ai)::ay k8::Lg.dp X.ld s.bf::ZV)):=x
abbrev Z5(x:A:=by exact([ab O 3 [af i],ab dN 188 rJ,ab d3 3 [af n],ab cm 255 [bi 403 tO],ab d4 1 [bi 404 [ptr aM 0,ptr U 0,ptr av 0]],ab aM 110 [ptr q 0],ab av 106 en,ab U 1 [bi I M],a1 X z.ap z.ai j 0 k I M]++bj X z s)):=x
abbrev Pj(x:A:=by exact(fp z.na z.fv s.notes::b2 X.am .i64 (cf z.ap)::b2 X.e5 .u64 (cf z.ai)::ay k8::Lg.dp X.ld s.bf::Z1)):=x
abbrev U5(x:A:=by exact(328::344::348::352::356::360::364::368::372::376::380::384::388::392::396::U8)):=x
abbrev IQ(x:A:=by exact(cG X z s::dQ z.cC z.cD s.trace::fp z.na z.fv s.notes::b2 X.am .i64 (cf z.ap)::b2 X.e5 .u64 (cf z.ai)::ay k8::Lg.dp X.ld s.bf::ey X.c4 X.C.dF s.dead::Z6)):=x
abbrev Z7(x:A:=by exact(λu H=>u=.tuple #[]/\∃(cu:dn) (p f:Nat) (c:List Value),eU aa f/\bD X cu s1/\H=[ab (X.bq j) 128 Z8,cW X p o,jp X cu s1 j,a1 X cu.ap cu.ai j p k f c])):=x
abbrev Z9(x:A:=by exact {s with trace:=s.trace++[({Th.c3 with kind:=10,dK:=(b:Int),cw:=x.id,why:=1,name:=reason}:bZ)],notes:=s.notes++[(⟨2,0,[]⟩:da)],aC:=s.aC.set j IR}):=x
abbrev aaa(x:A:=by exact {s with trace:=s.trace++[({Th.c3 with kind:=10,dK:=(b:Int),cw:=x.id,why:=2,name:=reason}:bZ)],notes:=s.notes++[(⟨3,0,[]⟩:da)],aC:=s.aC.set j IR}):=x
abbrev aab(x:A:=by exact {s with trace:=s.trace++[({Th.c3 with kind:=10,dK:=(b:Int),cw:=x.id,why:=3,name:=reason}:bZ)],notes:=s.notes++Ed,aC:=s.aC.set j IR}):=x
abbrev aac(x:A:=by exact[ab aN 106 en,ab aO 110 [ptr q 0],ab cx 311 [ptr u 0],ab c2 356 (lK bS pc (⟨false,m,b,r,d⟩:ds)),ab V 32 [ptr X.h 0],ab aR 36 [bu id],ab bW 1 [bi I M],kA bS pc m,a1 X z.ap z.ai j 0 k I M]):=x
abbrev aad(x:A:=by exact([ab aO 106 en,ab c2 32 [ptr X.h 0],ab b 49 [ul ea cQ IS],fH ea cQ IS,a1 X z.ap z.ai j 0 k I M]++bj X z (Th.c7 s a {x with timers:=Th.ov x.timers m.name}))):=x
abbrev aae(x:A:=by exact[b2 X.e5 .u64 (cf z.ai),ay k8,Lg.dp X.ld s.bf,ey X.c4 X.C.dF s.dead,cg X.m s.L z.tt,fI X,fC X s.bs,eD X.bG X.m X.C.bG X.C.aZ,ay (ed X),gw X,hc X,ay lB]):=x
abbrev aaf(x:A:=by exact[fp z.na z.fv s.notes,b2 X.e5 .u64 (cf z.ai),ay k8,Lg.dp X.ld s.bf,ey X.c4 X.C.dF s.dead,cg X.m s.L z.tt,fI X,fC X s.bs,eD X.bG X.m X.C.bG X.C.aZ,ay (ed X),gw X,hc X]):=x
abbrev Pm(x:A:=by exact(b2 X.am .i64 (cf z.ap)::aag)):=x
abbrev U8(x:A:=by exact(400::416::420::424::428::432::436::440::444::448::452::456::460::464::468::Va)):=x
abbrev aah(x:A:=by exact[ab n 108 aai,ab U 23 (oV C)]):=x
abbrev V9(x:A:=by exact(λu H=>∃aE aK,u=fT aE aK ac.due/\H=(hz aE aK ac.due::uJ))):=x
abbrev Wa(x:A:=by exact(λu H=>∃aE aK,u=fT aE aK ac.cut/\H=(hz aE aK ac.cut::uJ))):=x
abbrev Wb(x:A:=by exact(λu H=>∃aE aK,u=fT aE aK ac.ref/\H=(hz aE aK ac.ref::uJ))):=x
abbrev aaj(x:A:=by exact((ab aM 110 [ptr q 0]::ab av 261 (iA m)::ab U 248 [ptr p 0]::ab Z 3 [af 2]::ab aN 106 en::aak)++h6 X z s a q x e)):=x
abbrev aal(x:A:=by exact(iB (a1.eq_24 ..) (aO,aR,cx,V,aN,bW,q,I,M) vg (jP X z.ap z.ai s.aC j p 302 [ptr aO 0,ptr aR 0,ptr cx 0,ptr V 0,ptr aN 0,ptr bW 0] t (.eY uI) (.mF a m k) J R))):=x
abbrev IU(x:A:=by exact((ab aM 246 [ptr p 0]::ab av 32 [ptr X.h 0]::ab U 36 [bu id]::ab Z 106 en::ab aN 3 [af to]::ab aO 1 [bi I M]::Pn)++bj X z s)):=x
abbrev aag(x:A:=by exact(b2 X.e5 .u64 (cf z.ai)::ay k8::aam)):=x
abbrev VL(x:A:=by exact(cP p x y 0 0 ww::iZ q X.r o::ab c1 326 [ptr q 0]::ab bk 248 [ptr p 0]::ab b0 3 [af left]::ML)):=x
abbrev aan(x:A:=by exact(ab bW 380 [.slice (some ⟨a,0,none⟩) 2 2]::ab aR 36 [bu 0]::ab aO 246 [ptr c2 0]::cP c2 x y 0 0 X.bp::ab a 213 Ee::e4 X B::D)):=x
abbrev Pp(x:A:=by exact[(0,.bJ),(1,.bJ),(2,.bJ),(3,.loc),(4,.loc),(5,.loc),(6,.loc),(7,.loc),(8,.loc),(9,.loc),(10,.loc),(11,.loc),(14,.bJ),(12,.c0),(13,.loc),(15,.c0)]):=x
abbrev aao(x:A:=by exact((ab aM 246 [ptr p 0]::ab av 1 [bi I M]::ab U 106 en::ab Z 110 [ptr q 0]::ab aN 3 [af who]::Pn)++bj X z s)):=x
abbrev aai(x:A:=by exact(ng C y8 fS fS fS fS eX p T ld c4 eX eX fS)):=x
abbrev N4(x:A:=by exact(dM::dM::nJ::nJ::dM::ZQ)):=x
abbrev Z1(x:A:=by exact[ey X.c4 X.C.dF s.dead,cg X.m s.L z.tt,fI X,fC X s.bs,eD X.bG X.m X.C.bG X.C.aZ,ay (ed X),fy X,gw X,hc X,gk X,ay lB]):=x
abbrev aap(x:A:=by exact([ab aM 392 [ptr p 0],ab av 1 [bi I M],ab U 106 en,ab Z 3 [af J],ab aN 3 [af ec],a1 X z.ap z.ai j 0 k I M,cW X p (.hZ i)]++bj X z s)):=x
abbrev X8(x:A:=by exact((.map none)::eX::N2)):=x
abbrev aaq(x:A:=by exact⟨.same,λ_=>IV,xa,λ_=>rfl⟩):=x
abbrev aar(x:A:=by exact(Th.c7 {s with bf:=du s.bf id 3,trace:=s.trace++[({Th.c3 with kind:=5,dK:=x.id,id:=id}:bZ)]} a {x with aside:=x.aside++[id]})):=x
abbrev Pq(x:A:=by exact(a1 X z.ap z.ai j 0 k I M::ay jO::cG X z s::dQ z.cC z.cD s.trace::aas)):=x
abbrev VZ(x:A:=by exact⟨pV (left -1) G2,0,0,[],cut++rq (dL (B.b+1) B.n L o).value w,ref++rr (dL (B.b+1) B.n L o).value w⟩):=x
abbrev Pr(x:A:=by exact((ab aM 246 [ptr p 0]::ab av 1 [bi I M]::ab U 106 en::ab Z 110 [ptr q 0]::Pn)++bj X z s)):=x
abbrev Ps(x:A:=by exact[ab av 110 [ptr q 0],ab U 32 [ptr X.h 0],ab Z 36 [bu id],ab aN 106 en,ab aO 1 [bi I M],kA bS pc m,a1 X z.ap z.ai j 0 k I M]):=x
abbrev aat(x:A:=by exact⟨.same,λ_=>IV,hg,λ_=>rfl⟩):=x
abbrev aau(x:A:=by exact(bd.cons rfl (bd.cons rfl (bd.cons rfl (bd.cons rfl Pt))))):=x
abbrev aav(x:A:=by exact[ptr (X.bq j) 0,af m.length,bi 293 [ptr aN 0,ptr aO 0,ptr cx 0,ptr c2 0],bi 295 [ptr c2 0,ptr aO 0,ptr V 0,ptr aR 0,ptr aN 0,ptr bW 0]]):=x
abbrev Uh(x:A:=by exact(λu H=>∃a c,u=.agg (lK a c (Ag:ds)).toArray/\H=[kA a c (Ag:ds).b8,ba])):=x
abbrev aaw(x:A:=by exact(λh E=>ii h (ii h (Sat.tail (λh E=>Sat.tail (λh E=>Bt h (Sat.tail (λh E=>arx h (Sat.tail f E)) E)) E) E)))):=x
abbrev N3(x:A:=by exact[dM,dM,og,dM,dM,nJ,dM,dM,gQ]):=x
abbrev aax(x:A:=by exact[gj d X.C.dW [] [],h4 j (min (max b5.limit 0) 100) (min (max b5.within 1) 4095) [],ev c ps,ev g ps,gM b5]):=x
abbrev aay(x:A:=by exact[ab aM 246 [ptr p 0],ab av 32 [ptr X.h 0],ab U 36 [bu id],ab Z 106 en,ab aN 3 [af to],ab aO 1 [bi I M],cG X z s]):=x
abbrev aam(x:A:=by exact(Lg.dp X.ld s.bf::ey X.c4 X.C.dF s.dead::cg X.m s.L z.tt::fI X::fC X s.bs::eD X.bG X.m X.C.bG X.C.aZ::IW)):=x
abbrev IX(x:A:=by exact⟨λ_=>aaz,xa,λ_=>rfl⟩):=x
abbrev IY(x:A:=by exact([ab d3 3 [af n],ab d4 1 [bi I J],ab cm 255 [bi H M],ab dN 188 rJ,ba]++bj X z s)):=x
abbrev aaA(x:A:=by exact {s with trace:=s.trace++[(IZ:bZ)],aC:=s.aC.set j {t with on:=some (.load 1,.who a k)}}):=x
abbrev ZV(x:A:=by exact(ey X.c4 X.C.dF s.dead::cg X.m s.L z.tt::fI X::fC X s.bs::aaB)):=x
abbrev Pu(x:A:=by exact[(aaC:bZ)]):=x
abbrev Pv(x:A:=by exact[(aaD:bZ)]):=x
abbrev uJ(x:A:=by exact[cP p x y ac.out ac.val (lo X (fT a0 fi ac.due) (fT ck cI ac.cut) (fT cl cd ac.ref)),hz a0 fi ac.due,hz ck cI ac.cut,hz cl cd ac.ref]):=x
abbrev N8(x:A:=by exact(dM::nJ::nJ::nJ::dM::BB)):=x
abbrev Va(x:A:=by exact(472::488::492::496::500::504::508::512::516::520::524::528::532::536::Vd)):=x
abbrev aaE(x:A:=by exact[ab Z 106 en,ab aN 36 [bu id],cG X z s,b2 X.e5 .u64 (cf z.ai),ay k8,ay lB]):=x
abbrev I0(x:A:=by exact {s with aI:=s.aI++[mo id a e6 st],trace:=s.trace++Pw}):=x
abbrev aaF(x:A:=by exact {s with notes:=s.notes++Ed,aC:=s.aC.set j aaG}):=x
abbrev Xb(x:A:=by exact[(0,.bJ),(1,.bJ),(2,.bJ),(3,.loc),(4,.loc),(5,.loc),(6,.loc),(7,.loc),(10,.bJ),(8,.c0),(9,.loc),(11,.c0)]):=x
abbrev aaH(x:A:=by exact(jB BC j t x.parent ⟨1,x.id,reason⟩ k)):=x
abbrev Px(x:A:=by exact {s with bf:=Ph,trace:=s.trace++[(Py:bZ)]}):=x
abbrev ZX(x:A:=by exact(fI X::ZZ)):=x
abbrev N2(x:A:=by exact(dM::dM::dM::dM::dM::X5)):=x
abbrev aaI(x:A:=by exact(BD X {s with trace:=s.trace++[({Th.c3 with kind:=1,cw:=-1 -(i:Int),to:=O,name:=fl,n:=c5}:bZ)]} true)):=x
abbrev aaJ(x:A:=by exact((8,el Ac (j*2))::(7,af (j:Int))::Pz)):=x
abbrev aaK(x:A:=by exact(BD X {s with trace:=s.trace++[({Th.c3 with kind:=1,cw:=-1 -(i:Int),to:=O,name:=[],n:=0}:bZ)]} true)):=x
abbrev aaL(x:A:=by exact⟨λ_=>aaM,hg,by trivial⟩):=x
abbrev aaC(x:A:=by exact {Th.c3 with kind:=2,id:=((s.lets.length+1:Nat):Int),cw:=l.cw,to:=l.to,name:=l.tag,n:=l.n,nN:=false}):=x
abbrev aaD(x:A:=by exact {Th.c3 with kind:=2,id:=((s.lets.length+1:Nat):Int),cw:=l.cw,to:=l.to,name:=l.tag,n:=l.n,nN:=true}):=x
abbrev NH(x:A:=by exact(if(ix B.dZ B.na L o).out=1 then⟨.up w (ix B.dZ B.na L o).value (kk 1 w),0,0⟩else⟨.lv w wW,4,0⟩)):=x
abbrev ZZ(x:A:=by exact(fC X s.bs::Z3)):=x
abbrev PA(x:A:=by exact[ay (ed X),fy X,ay (c8 X z.ap z.ai (s.aC.set j IR))]):=x
abbrev PB(x:A:=by exact(Th.c7 aaN a PC)):=x
abbrev W4(x:A:=by exact[(3,.loc),(4,.loc),(5,.loc),(6,.loc),(7,.loc),(8,.loc),(9,.loc),(12,.bJ),(10,.c0),(11,.loc),(13,.c0)]):=x
abbrev Xk(x:A:=by exact(ab bk 169 [ptr p 0]::ab b0 243 [.slice a (l.length+1) c]::kE X B.bT a c (dY::l) M::jW)):=x
abbrev NF(x:A:=by exact(if(jc (B.cm w) B.eC L o).out=1 then⟨.ie w DL l,1,(jc (B.cm w) B.eC L o).value⟩else nz l)):=x
abbrev Yh(x:A:=by exact(.nilIface::.nilFunc::dM::og::fS::aaO)):=x
abbrev aaP(x:A:=by exact(λu H=>∃aE aK,u=.slice aE m.length aK/\H=aaQ)):=x
abbrev Wo(x:A:=by exact⟨fun⟨h1,h2,d,e,⟨x,aP⟩,aD⟩=>⟨x,h1,h2,d,e,aP,aD⟩,fun⟨x,h1,h2,d,e,aP,aD⟩=>⟨h1,h2,d,e,⟨x,aP⟩,aD⟩⟩):=x
abbrev PD(x:A:=by exact {x with state:=st.name,slots:=[0,0,0,0],cF:=[],front:=x.front++x.aside.reverse,aside:=[],mode:=1}):=x
abbrev aaR(x:A:=by exact[ab aM 106 en,ab av 32 [ptr X.h 0],ab U 49 [ul ea cQ ids],fH ea cQ ids,a1 X z.ap z.ai j 0 k I M]):=x
abbrev PE(x:A:=by exact {s with aC:=s.aC.set j {t with on:=some (.hZ (nC 0 (ly X.C.bG X.C.aZ x.id who)),.watched a who k)}}):=x
abbrev W8(x:A:=by exact(aF et (kF X B p (if o.out=2 then .enter (k4 false v) v else .ring (kk 3 0))::sp))):=x
abbrev aaS(x:A:=by exact {s with aC:=s.aC.set j {t with on:=some (.add 0 1,.h8 a (⟨x.id,x.id,m.name,m.n,false⟩:cV) m k)}}):=x
abbrev aaT(x:A:=by exact {s with trace:=s.trace++aaU}):=x
abbrev aaV(x:A:=by exact {s with trace:=s.trace++aaW}):=x
abbrev aaX(x:A:=by exact {s with trace:=s.trace++aaY}):=x
abbrev I1(x:A:=by exact {s with trace:=s.trace++aaZ}):=x
abbrev Ef(x:A:=by exact {s with now:=s.now+1,trace:=s.trace++[(PF:bZ)]}):=x
abbrev Z3(x:A:=by exact(eD X.bG X.m X.C.bG X.C.aZ::ay (ed X)::aa0)):=x
abbrev Eg(x:A:=by exact([ab aM 106 en,ab av 110 [ptr q 0],ab U 1 [bi I M],a1 X z.ap z.ai j 0 k I M]++bj X z s)):=x
abbrev aa1(x:A:=by exact([ab aM 110 [ptr q 0],ab av 1 [bi I M],ab U 106 en,a1 X z.ap z.ai j 0 k I M]++bj X z s)):=x
abbrev aa2(x:A:=by exact {s with bf:=dg s.bf id 7,trace:=s.trace++[({Th.c3 with kind:=3,dK:=x.id,id:=id}:bZ)]}):=x
abbrev aa3(x:A:=by exact[ab aM 106 en,ab av 39 [hL ea cQ l],dv ea cQ l,ab U 3 [af what],a1 X z.ap z.ai j 0 k I M]):=x
abbrev aa4(x:A:=by exact[1,5,9,13,17,21,25,29,33,37,41,45,49,53,57,61,65,69,73,77,81,86,90,94,3,3,3,90,86,94]):=x
abbrev aa5(x:A:=by exact {s with aC:=s.aC.set j {t with on:=some (.hZ (nC 4 (ly X.C.bG X.C.aZ a b)),.nn a b k)}}):=x
abbrev aa6(x:A:=by exact(fo ((i+1:Nat):Int) (by have:=az x y9;rw[jv (by omega)];omega) rfl rfl)):=x
abbrev yp(x:A:=by exact(cP p x y 0 0 ww::ML)):=x
abbrev PG(x:A:=by exact(Th.c7 aa7 a BE)):=x
abbrev NG(x:A:=by exact(if(ix B.dZ B.na L o).out=1 then⟨.mT wW l,1,(ix B.dZ B.na L o).value⟩else nz l)):=x
abbrev aa8(x:A:=by exact(aF et [cG X z s,ay (c8 X z.ap z.ai (s.aC.set j {t with on:=some (.add 0 1,.mD l k)}))])):=x
abbrev aa9(x:A:=by exact {s with trace:=s.trace++PH}):=x
abbrev aba(x:A:=by exact {s with aC:=s.aC.set j abb}):=x
abbrev AZ(x:A:=by exact(cg X.m (mf (B.cm w) B.eC L o) (ga t)::NJ)):=x
abbrev Zl(x:A:=by exact(λv' H=>∃a c,v'=.slice a (k+m) c/\H=own (.slice a (k+m) c) e aT (k+m) (xs++M)::D)):=x
abbrev PI(x:A:=by exact(fun⟨p,f,c⟩=>(kn X j xb (bi f c) t::BF))):=x
abbrev Yg(x:A:=by exact(fS::dM::dM::og::og::Ic)):=x
abbrev abc(x:A:=by exact[ab q 168 [.map (some r),.slice a rc c,af ((sB rc d.length:Nat):Int),af ((d.length:Int)+1)]]):=x
abbrev abd(x:A:=by exact(λE=>(Th.dz E.1 a).bind λx=>g (Th.c7 E.1 a {x with slots:=x.slots.set slot E.2}) Th.dA k)):=x
abbrev abe(x:A:=by exact([ab aM 106 en,ab av 110 [ptr z 0],ab U 1 [bi I M],a1 X ap ai j 0 k I M]++ba)):=x
abbrev abf(x:A:=by exact[1,5,9,13,17,21,25,29,33,37,41,45,49,53,57,61,66,70,74,78,3,3,3,3,70,66,74,78]):=x
abbrev Xp(x:A:=by exact(kF X B p (.push w o v)::NI)):=x
abbrev I2(x:A:=by exact {s with trace:=s.trace++[({Th.c3 with kind:=4,dK:=x.id,id:=id,name:=b}:bZ)]}):=x
abbrev abg(x:A:=by exact(λh=>gx (λD h E=>Sat.drop (Sat.drop (Sat.drop (Sat.drop (E))))) (C z s k y I M ao h))):=x
abbrev Xv(x:A:=by exact(kF X B p (.ie w o l)::NI)):=x
abbrev Yi(x:A:=by exact[gQ,eX,nJ,gQ,nJ]):=x
abbrev abh(x:A:=by exact {s with trace:=s.trace++Pw}):=x
abbrev Yf(x:A:=by exact(fS::.nilFunc::dM::og::og::H2)):=x
abbrev abi(x:A:=by exact[ab aM 169 [ptr p 0],ab av 106 en,cW X p (.fJ ac),ay lB]):=x
abbrev Z6(x:A:=by exact(cg X.m s.L z.tt::fI X::fC X s.bs::eD X.bG X.m X.C.bG X.C.aZ::fy X::IW)):=x
abbrev abj(x:A:=by exact[S k.name,af k.limit,af k.within,.slice b k.cases.length f,.slice k.sa k.states.length k.sc]):=x
abbrev abk(x:A:=by exact[(0,.bJ),(1,.loc),(2,.loc),(3,.loc),(4,.loc),(7,.bJ),(5,.c0),(6,.loc),(8,.c0)]):=x
abbrev abl(x:A:=by exact {x with kids:=Th.del x.kids m.who,cF:=Th.del x.cF m.who,given:=Th.qd x.given m.who}):=x
abbrev abm(x:A:=by exact {s with aC:=s.aC.set j abn}):=x
abbrev PJ(x:A:=by exact(aF iu vh)):=x
abbrev IV(x:A:=by exact⟨hg,hg,hg,hg⟩):=x
abbrev abo(x:A:=by exact[ab aM 106 en,ab av 49 [ul ea cQ due],fH ea cQ due,a1 X z.ap z.ai j 0 k I M]):=x
abbrev BC(x:A:=by exact {s with trace:=s.trace++[(PK:bZ)]}):=x
abbrev Uu(x:A:=by exact[S k.name,af k.limit,af k.within,.slice ck k.cases.length c1,.slice cl k.states.length bk]):=x
abbrev VG(x:A:=by exact(aF et (tn X B p cut ref (.tick ((w.now+1:Nat):Int))::AA))):=x
abbrev N5(x:A:=by exact(nJ::dM::Ob)):=x
abbrev PL(x:A:=by exact {s with trace:=s.trace++abp}):=x
abbrev abq(x:A:=by exact {x with given:=eQ x.given m.who abr}):=x
abbrev Z8(x:A:=by exact[ptr X.h 0,af (jY X j),xb,(bi f c),bu t1.draw,.bool t1.jg]):=x
abbrev Xr(x:A:=by exact⟨if(jc (B.cm w) B.eC L o).out=2 then .enter (k4 false v) v else .ring (kk 3 0),0,0⟩):=x
abbrev Zf(x:A:=by exact⟨λ_=>none,h,λ_=>.inl rfl,by funext b;simp[join],⟨by simp,.inl dD⟩,s⟩):=x
abbrev abt(x:A:=by exact {s with aC:=s.aC.set j abu}):=x
abbrev abv(x:A:=by exact(s.trace++PH)):=x
abbrev Vj(x:A:=by exact(ab d 26 Az::ab f 78 (dO k)::ab E 85 (gh r)::A::D)):=x
abbrev abw(x:A:=by exact[gr X.cS X.C.bA,cd X.cS X.C.bA,jo X.cS X.C.bA,eB X.cS X.C.bA,ay (lz X.cS X.C.bA)]):=x
abbrev abx(x:A:=by exact⟨B.id,B.par,B.kind,B.slots,B.lb,B.kids,B.aside,B.front,B.cF,B.j0⟩):=x
abbrev aby(x:A:=by exact {s with aC:=s.aC.set j {t with on:=some (.post x.id Th.Cn,.nX a left)}}):=x
abbrev T6(x:A:=by exact(aF (.tuple #[.agg [S [],.bool false,af 0,.slice none 0 0].toArray,.bool false]) [ba])):=x
abbrev Xt(x:A:=by exact⟨if(ix B.dZ B.na L o).out=2 then .enter (k4 false v) v else .ring (kk 3 0),0,0⟩):=x
abbrev PM(x:A:=by exact[1,5,9,13,17,21,25,29,33,37,41,45,49,53,57,62,66,70,3,3,3,66,62,70]):=x
abbrev abz(x:A:=by exact[(abA:bZ)]):=x
abbrev Eh(x:A:=by exact[ay lB,ab av 32 [ptr X.h 0],cG X z s,cg X.m s.L z.tt,gw X]):=x
abbrev Pt(x:A:=by exact(bd.cons rfl PN)):=x
abbrev abB(x:A:=by exact[ab (X.bq j) 128 (ptr X.h 0::af (jY X j)::(.iface T v)::y::I3)]):=x
abbrev abC(x:A:=by exact(abD (s:={s with shut:=true}) (a:=1) N jq h1)):=x
abbrev VN(x:A:=by exact(λu H=>∃p,u=ptr p 0/\H=[ja X B p ({pf .now with out:=4}),gn X B])):=x
abbrev HK(x:A:=by exact(xs.take (i*z.size)++xs.drop (j*z.size)++xs.drop ((i+(k -j))*z.size))):=x
abbrev PO(x:A:=by exact[ab aO 110 [ptr q 0],ab aR 261 (iA m),ab q 118 (ee X x e),dv e.ka e.kc x.kids]):=x
abbrev Xc(x:A:=by exact(ab c1 96 [ptr X.c 0]::ab bk 169 [ptr p 0]::ab b0 3 [af w]::sp)):=x
abbrev X3(x:A:=by exact(dM::dM::dM::N9)):=x
abbrev Ya(x:A:=by exact[dM,dM,nJ,dM,gQ]):=x
abbrev Yj(x:A:=by exact[fS,.nilFunc,dM,og,og,og]):=x
abbrev aaz(x:A:=by exact⟨λ_=>g,hg,hg,hg⟩):=x
abbrev I4(x:A:=by exact {s with lets:=s.lets++[l],bf:=dS s.bf ((s.lets.length+1:Nat):Int) 1}):=x
abbrev aaU(x:A:=by exact[(abE:bZ)]):=x
abbrev aaW(x:A:=by exact[(abF:bZ)]):=x
abbrev aaY(x:A:=by exact[(abG:bZ)]):=x
abbrev aaZ(x:A:=by exact[({Th.c3 with kind:=10,dK:=b,cw:=x.id,why:=d,name:=reason}:bZ)]):=x
abbrev abH(x:A:=by exact(λh g=>Sat.tail (λh g=>tB (A:=Ei av l) (l:=gv z.ai s.lets) h g) g)):=x
abbrev abI(x:A:=by exact(ab ac 246 [ptr p 0]::ab R 49 [vi M N]::PP)):=x
abbrev abJ(x:A:=by exact {s with aC:=s.aC.set j {t with on:=some (.post x.id (Th.nU 1),.again a)}}):=x
abbrev abK(x:A:=by exact {s with aC:=s.aC.set j abL}):=x
abbrev abM(x:A:=by exact(ptr X.h 0::af (jY X j)::(.iface T (ptr p 0))::(bi f c)::I3)):=x
abbrev Vh(x:A:=by exact(bd.cons (t:=2) rfl (bd.cons (t:=1) rfl (bd.cons (t:=0) rfl (bd.nil))))):=x
abbrev abN(x:A:=by exact(cG X z s::aas)):=x
abbrev aaM(x:A:=by exact⟨v1,za,za,za⟩):=x
abbrev PQ(x:A:=by exact(s.trace++Pw)):=x
abbrev abO(x:A:=by exact {s with aC:=s.aC.set j {t with on:=some (.post a Th.xT,.lc a k)}}):=x
abbrev X7(x:A:=by exact(fS::dM::.nilIface::.nilFunc::H2)):=x
abbrev abP(x:A:=by exact⟨v,c,e,S,s.imp λg t=>Oh O g (by rw[jI];exact t)⟩):=x
abbrev vh(x:A:=by exact[ab av 32 [ptr X.h 0],cG X z s,ay lB,cg X.m s.L z.tt]):=x
abbrev aaN(x:A:=by exact {s with trace:=s.trace++[(PR:bZ)]}):=x
abbrev Mz(x:A:=by exact[ab d 26 Az,ab f 78 (dO k),ab E 85 (gh r),A]):=x
abbrev Vq(x:A:=by exact[ab d 26 Az,ab f 78 (dO k),ab E 82 (ft s),A]):=x
abbrev Yb(x:A:=by exact[fS,dM,dM,fS,fS]):=x
abbrev abQ(x:A:=by exact(s.imp λh s=>Sat.tail (λh s=>cA () trivial kH h s) s)):=x
abbrev abR(x:A:=by exact[a1 X z.ap z.ai j 0 k I M,cW X p (.gm ((s.lets.length+1:Nat):Int))]):=x
abbrev abS(x:A:=by exact {s with aC:=s.aC.set j {t with on:=some (.post a (Th.nU 2),.run a)}}):=x
abbrev Uv(x:A:=by exact((z++(Gj:fb)::k.states.drop (i+1)).flatMap ft)):=x
abbrev abT(x:A:=by exact[ptr (X.bq j) 0,ptr q 0,.agg (iA ⟨l,b,reason⟩).toArray,af d,bi I M]):=x
abbrev abU(x:A:=by exact {s with aC:=s.aC.set j {t with on:=some (.post a Th.Cj,.jB a)}}):=x
abbrev abA(x:A:=by exact {Th.c3 with kind:=1,cw:=-1 -(i:Int),to:=O,name:=a,n:=J}):=x
abbrev PH(x:A:=by exact[(abV:bZ)]):=x
abbrev abW(x:A:=by exact((5,ptr aO 0)::(4,af (i:Int))::(3,ptr Z 0)::I5)):=x
abbrev NI(x:A:=by exact(cg X.m L t::NJ)):=x
abbrev abb(x:A:=by exact {t with on:=some (.post a (Th.Fa (!decide (x.mode=1))),.settled a)}):=x
abbrev aa7(x:A:=by exact {s with trace:=s.trace++[(PS:bZ)]}):=x
abbrev PT(x:A:=by exact {x with kids:=x.kids++[(id:Int)],slots:=x.slots.set slot (id:Int)}):=x
abbrev abX(x:A:=by exact((15,af (i:Int))::abY)):=x
abbrev abZ(x:A:=by exact {s with aC:=s.aC.set j {t with on:=some (.eY uI,.mF a m k)}}):=x
abbrev PU(x:A:=by exact[(10,af ((C.fF:Nat):Int)),(2,ptr U 0),(3,ptr Z 0),(7,ptr n 0)]):=x
abbrev PV(x:A:=by exact[Ck.gn dt C.dC,gf dt.r m (C.dC.b+1) C.dC.n,fO dt.wp sf]):=x
abbrev Zd(x:A:=by exact(.call {callee:=.builtin .delete,args:=#[x,y],argTypes:=#[t,D]})):=x
abbrev abE(x:A:=by exact {Th.c3 with kind:=10,dK:=b,cw:=x.id,why:=1,name:=reason}):=x
abbrev abF(x:A:=by exact {Th.c3 with kind:=10,dK:=b,cw:=x.id,why:=2,name:=reason}):=x
abbrev abG(x:A:=by exact {Th.c3 with kind:=10,dK:=b,cw:=x.id,why:=3,name:=reason}):=x
abbrev ab0(x:A:=by exact[cG X z s,dQ z.cC z.cD s.trace,b2 X.am .i64 (cf z.ap),gk X,fy X]):=x
abbrev ab1(x:A:=by exact[ab aO 110 [ptr q 0],ab aR 261 (iA m),ab q 118 (ee X x e),gM e.b5]):=x
abbrev Ua(x:A:=by exact[own (.slice a r.b8.length c) 87 7 r.b8.length (r.b8.flatMap fz),ba]):=x
abbrev VV(x:A:=by exact⟨.put Dg,(dL (B.b+1) B.n L o).out,0,[],cut,ref⟩):=x
abbrev NS(x:A:=by exact(.call {callee:=.builtin .append,args:=#[x,y],argTypes:=#[t,t]})):=x
abbrev ZQ(x:A:=by exact(eX::aaO)):=x
abbrev N7(x:A:=by exact(nJ::gQ::Oa)):=x
abbrev PW(x:A:=by exact[ab q 164 [af E,ul ck c1 di,ul cl bk M],fH ck c1 di,fH cl bk M]):=x
abbrev ab2(x:A:=by exact(b4 rfl (I6 x.kids e.ka e.kc m.who (dv e.ka e.kc x.kids) ae) bI)):=x
abbrev ab3(x:A:=by exact[ptr (X.bq (X.C.bc+X.C.cK)) 0,zb X (X.C.bc+X.C.cK) 88]):=x
abbrev Wn(x:A:=by exact⟨λ_=>none,h,λ_=>.inl rfl,by funext b;simp[join],trivial,s⟩):=x
abbrev PX(x:A:=by exact[ab fX 3 [af now],ab bB 113 [ptr q 0],ab q 289 [af E,af z,m]]):=x
abbrev ab4(x:A:=by exact[ab eT 246 [ptr p 0],ab bk 116 tP,ab b0 36 [bu v],e4 X B]):=x
abbrev aaB(x:A:=by exact(eD X.bG X.m X.C.bG X.C.aZ::ay (ed X)::fy X::IW)):=x
abbrev ab5(x:A:=by exact((aX Ej jq).spec)):=x
abbrev aas(x:A:=by exact[fp z.na z.fv s.notes,ay (ed X),fy X,ay lB]):=x
abbrev PN(x:A:=by exact(bd.cons rfl I7)):=x
abbrev ab6(x:A:=by exact(PY++lX)):=x
abbrev PZ(x:A:=by exact {x with slots:=x.slots.set ((Th.nq m.slot).getD 0) (max l.cw 0)}):=x
abbrev ab7(x:A:=by exact((ee X x e).set (0+12) (.slice ka (x.kids++[(id:Int)]).length kc))):=x
abbrev ab8(x:A:=by exact {s with aC:=s.aC.set j {t with on:=some (.add 0 1,.mD l k)}}):=x
abbrev ab9(x:A:=by exact {s with aC:=s.aC.set j {t with jg:=(!decide (ac.out=1))}}):=x
abbrev Yk(x:A:=by exact[fS,dM,og,.nilFunc,dM]):=x
abbrev Of(x:A:=by exact[(0,1),(1,1),(2,1),(3,1),(4,1),(5,1),(6,1),(7,1),(8,1)]):=x
abbrev Yq(x:A:=by exact(.call {callee:=.invoke x name,args:=xs.toArray,argTypes:=z})):=x
abbrev sC(x:A:=by exact {(acc C s (.add a 1)).1 with aC:=s.aC.set j {t with on:=none}}):=x
abbrev Pw(x:A:=by exact[(aca:bZ)]):=x
abbrev Ek(x:A:=by exact {b9 with bf:=rK 1 ac.due (rL 5 6 (b9.bs.T.map (·.id)) b9.bf)}):=x
abbrev P0(x:A:=by exact[gr cS C.bA,cd cS C.bA,jo cS C.bA,eB cS C.bA,ay (lz cS C.bA)]):=x
abbrev uX(x:A:=by exact(cg X.m (n9 B.dZ B.na L o) (ga t)::jW)):=x
abbrev XC(x:A:=by exact(λD=>by simp only[cn,ci];exact(au))):=x
abbrev abn(x:A:=by exact {t with on:=some (.post l.to.toNat (Th.Le id),.told id l.to k)}):=x
abbrev aa0(x:A:=by exact(fy X::gw X::ZW)):=x
abbrev ko(x:A:=by exact[ptr X.h 0,.agg [af dJ,af (i:Int),af O,S fl,af c5].toArray]):=x
abbrev Vd(x:A:=by exact[540,556,560,564,568,572,576,580,584,588,592,598,602,604]):=x
abbrev Xs(x:A:=by exact(kF X B p (.enter o v)::wX)):=x
abbrev uY(x:A:=by exact(cg X.m (qy B.b B.bT L o) (ga t)::jW)):=x
abbrev XB(x:A:=by exact(gV X B p z::cg X.m F (ga t)::jW)):=x
abbrev P1(x:A:=by exact[cP p x y 0 0 X.bp,ab E 213 Ee]):=x
abbrev acb(x:A:=by exact(λe X=>∃v H,e=.returned v/\post v H/\db F (H++D) X)):=x
abbrev acd(x:A:=by exact(cA (aM,av,U,z,I,M) ⟨rfl,rfl,bn⟩ kH h s)):=x
abbrev IR(x:A:=by exact {t with on:=some (.post b (Th.xS s.notes.length),.lJ b k)}):=x
abbrev aak(x:A:=by exact[ab aO 1 [bi I M],a1 X z.ap z.ai j 0 k I M,cW X p (.eY ac)]):=x
abbrev vj(x:A:=by exact[ptr (X.bq j) 0,ptr q 0,ptr u 0,.agg (fz m).toArray,bi I M]):=x
abbrev ace(x:A:=by exact[ptr X.h 0,.agg [af 1,af (j:Int),af O,S fl,af c5].toArray]):=x
abbrev abV(x:A:=by exact {Th.c3 with kind:=7,dK:=id,cw:=(0:Nat),name:=kind}):=x
abbrev VR(x:A:=by exact(λu H=>∃p,u=ptr p 0/\H=[ja X B p (r7 id),gn X B])):=x
abbrev acf(x:A:=by exact[(acg:bZ)]):=x
abbrev I8(x:A:=by exact(a1 X z.ap z.ai j 0 k I M::qI)):=x
abbrev aaQ(x:A:=by exact[own (.slice aE m.length aK) 36 1 m.length (m.map λt=>bu t.id)]):=x
abbrev Xx(x:A:=by exact(kF X B p (.mT o l)::wX)):=x
abbrev Xy(x:A:=by exact(kF X B p (.lv w o)::wX)):=x
abbrev HZ(x:A:=by exact[.nilIface,.nilFunc,dM,og,fS]):=x
abbrev ach(x:A:=by exact[gr X.cS X.C.bA,cd X.cS X.C.bA,jo X.cS X.C.bA,eB X.cS X.C.bA]):=x
abbrev aci(x:A:=by exact[ay jO,ay (ed X),ay lB]):=x
abbrev acj(x:A:=by exact⟨BG o,vk (o.looksAt l.toArray),zc o,(k7 l []).getD i 0⟩):=x
abbrev Xu(x:A:=by exact(kF X B p (.ring o)::wX)):=x
abbrev Oi(x:A:=by exact(.call {callee:=.builtin .len,args:=#[x],argTypes:=#[t]})):=x
abbrev aaG(x:A:=by exact {t with on:=some (.post a (Th.E9 s.notes.length),.o2 a)}):=x
abbrev ack(x:A:=by exact(ptr (X.bq j) 0::ptr q 0::bu id::P2)):=x
abbrev acm(x:A:=by exact(s.imp λg t=>by rw[<-jI];exact Oh i g t)):=x
abbrev Yc(x:A:=by exact[fS,dM,fS,fS]):=x
abbrev acn(x:A:=by exact[ab q 289 [af E,af z,.map (some r)],b2 r .i64 (pr es)]):=x
abbrev I9(x:A:=by exact[1,5,9,13,17,21,25,29,33,38,42,46,3,3,3,42,38,46]):=x
abbrev aco(x:A:=by exact([ab aM 106 en,ab av 110 [ptr q 0]]++bj X z s)):=x
abbrev acp(x:A:=by exact([ab aM 110 [ptr q 0],ab av 106 en]++bj X z s)):=x
abbrev acq(x:A:=by exact[cG X z s,ay jO,ay lB]):=x
abbrev acr(x:A:=by exact(a1 X z.ap z.ai j 0 k I M::cW X p kI::bj X z s)):=x
abbrev acs(x:A:=by exact[ab aR 110 [ptr q 0],ab V 87 (fz m),ab q 118 (ee X x e)]):=x
abbrev acu(x:A:=by exact[ab V 87 (fz m),ab aR 110 [ptr q 0],ab q 118 (ee X x e)]):=x
abbrev W7(x:A:=by exact(ab bk 169 [ptr p 0]::ab b0 36 [bu v]::sp)):=x
abbrev NJ(x:A:=by exact[gr X B,cd X B,jo X B,eB X B,nD (X.hJ w) X.m (B.cm w) B.eC]):=x
abbrev acv(x:A:=by exact(jB s j t a ⟨what,0,[]⟩ (.each xc i l.length k))):=x
abbrev acw(x:A:=by exact {s with bf:=Ph}):=x
abbrev acx(x:A:=by exact(b4 rfl (acy q r E z c now es aw O j) xd)):=x
abbrev acz(x:A:=by exact(rK 1 (ac.due.take i) (rL 5 6 (b9.bs.T.map (·.id)) b9.bf))):=x
abbrev abp(x:A:=by exact[({Th.c3 with kind:=8,dK:=x.id,name:=kind}:bZ)]):=x
abbrev P3(x:A:=by exact[ptr X.h 0,.agg [af dJ,af ea,af O,S fl,af c5].toArray]):=x
abbrev P4(x:A:=by exact[(8,af l),(0,ptr p 0),(1,.func (.func g) #[] C.toArray)]):=x
abbrev NZ(x:A:=by exact(λj g _ aw=>by rw[getD_replicate_false]at aw;cases aw)):=x
abbrev acA(x:A:=by exact(fM (c:=true) (by exact lM T) (nb rfl rfl))):=x
abbrev abu(x:A:=by exact {t with on:=some (.eY (r6 id e.vy),.asked id a e k)}):=x
abbrev El(x:A:=by exact {x with state:=st.name,slots:=[0,0,0,0],cF:=[]}):=x
abbrev P5(x:A:=by exact(PY++tO)):=x
abbrev acB(x:A:=by exact[ptr X.h 0,.agg [af 6,af ea,af O,S fl,af c5].toArray]):=x
abbrev Pz(x:A:=by exact[(6,af (i:Int)),(5,ptr g 0),(4,ptr h 0),(3,ptr Z 0)]):=x
abbrev UX(x:A:=by exact(aF Mu [A,ab b 87 (fz c)])):=x
abbrev wy(x:A:=by exact[1,5,9,13,17,21,25,29,34,38,42,3,3,3,38,34,42]):=x
abbrev X9(x:A:=by exact((.map none)::eX::BB)):=x
abbrev acC(x:A:=by exact⟨hg,hg,by trivial⟩):=x
abbrev aca(x:A:=by exact {Th.c3 with kind:=7,dK:=id,cw:=a,name:=kind}):=x
abbrev acD(x:A:=by exact((List.range X.C.cK).any λi=>busy s (X.C.bc+i))):=x
abbrev acE(x:A:=by exact(!t.on.isSome&&t.jg&&!decide Ja)):=x
abbrev Vt(x:A:=by exact[ab d 26 Az,ab f 78 (dO k),A]):=x
abbrev XP(x:A:=by exact(if c=i then a else a.map (λx:Addr=>x.add (i*aT)))):=x
abbrev P6(x:A:=by exact(sD (cA (z,ge,b0,d9,eT,E) trivial (au)) h s)):=x
abbrev acF(x:A:=by exact(Src.pop j::Src.take::(order d C.bA.bT j).map Src.mg)):=x
abbrev acG(x:A:=by exact(b4 rfl (tQ X z s id 3 q l K bN aD aQ o aS) bI)):=x
abbrev acH(x:A:=by exact(λh s=>cA (D:=[]) () trivial kH h s)):=x
abbrev Xe(x:A:=by exact(if c=1 then a else a.map (λy:Addr=>y.add (1*1)))):=x
abbrev XA(x:A:=by exact(kF X B p ph::wX)):=x
abbrev X5(x:A:=by exact(dM::dM::BB)):=x
abbrev sE(x:A:=by exact[ptr aM 0,ptr av 0,ptr U 0,ptr Z 0,ptr aN 0,ptr aO 0]):=x
abbrev acI(x:A:=by exact[ptr aN 0,ptr aO 0,ptr aR 0,ptr bW 0,ptr V 0,ptr cx 0]):=x
abbrev Nn(x:A:=by exact(b4 rfl (WD q m b n L t K 1 (b+1) bN rfl) bI)):=x
abbrev P7(x:A:=by exact[ab E 213 Ee,e4 X B]):=x
abbrev acg(x:A:=by exact {Th.c3 with kind:=6,id:=id,to:=l.to,why:=why}):=x
abbrev sF(x:A:=by exact[ptr (X.bq j) 0,ptr q 0,.agg (iA m).toArray,bi I M]):=x
abbrev acJ(x:A:=by exact {x with front:=x.front++x.aside.reverse,aside:=[]}):=x
abbrev acK(x:A:=by exact(BH X z s xe t (q.1) (q.2) M B)):=x
abbrev acL(x:A:=by exact(ptr X.h 0::af (jY X j)::x::E::I3)):=x
abbrev PF(x:A:=by exact {Th.c3 with kind:=15,n:=((s.now+1:Nat):Int)}):=x
abbrev acM(x:A:=by exact⟨k.name,k.limit,k.within,b,f,k.cases,cl,bk,z⟩):=x
abbrev abY(x:A:=by exact[(14,.slice cl U.length bk),(5,ptr g 0),(4,ptr h 0)]):=x
abbrev I7(x:A:=by exact(bd.cons rfl (bd.cons rfl (bd.cons rfl (bd.nil))))):=x
abbrev Ut(x:A:=by exact((16,af k.states.length)::I5)):=x
abbrev aaO(x:A:=by exact[eX,eX,eX]):=x
abbrev Od(x:A:=by exact[dM,dM,nJ]):=x
abbrev Ye(x:A:=by exact(fS::.nilFunc::BB)):=x
abbrev acN(x:A:=by exact(sD (cA (z,c,ac,R,N) trivial (au)) h s)):=x
abbrev ZW(x:A:=by exact[hc X,gk X,ay ((c8 X z.ap z.ai s.aC).set j fu)]):=x
abbrev CQ(x:A:=by exact⟨k.name,k.limit,k.within,ck,c1,k.cases,cl,bk,z⟩):=x
abbrev VW(x:A:=by exact(λh s=>Sat.tail (λh s=>amM h s) ((au) h s))):=x
abbrev VX(x:A:=by exact⟨.take left Dg,0,0,[],cut,ref⟩):=x
abbrev rB(x:A:=by exact(λ_=>hl)):=x
abbrev Og(x:A:=by exact[(0,1),(1,1),(2,1),(3,1),(4,1),(5,1),(6,1)]):=x
abbrev P8(x:A:=by exact(ki i gH (λD h s=>by rwa[jI]))):=x
abbrev acO(x:A:=by exact[ay (e3 X ap aI),ay (ed X),ay BI]):=x
abbrev abL(x:A:=by exact {t with on:=some (.add 1 1,.mE a kind slot k)}):=x
abbrev PK(x:A:=by exact {Th.c3 with kind:=9,dK:=x.id,name:=reason}):=x
abbrev abr(x:A:=by exact(Th.dU x.given m.who++[Th.ht xf])):=x
abbrev oD(x:A:=by exact[.slice a L.length c,.func (.func M) #[] z.toArray]):=x
abbrev Np(x:A:=by exact(b4 rfl (WD q m b n L t K 0 (b) bN rfl) bI)):=x
abbrev Xz(x:A:=by exact⟨.pg sr,(j6 B.b B.bT L o).out,0⟩):=x
abbrev ML(x:A:=by exact(hz ck cI cut::hz cl cd ref::AA)):=x
abbrev Is(x:A:=by exact {w with heap:=w.heap.setIfInBounds r (.map l c)}):=x
abbrev P9(x:A:=by exact(a1 X z.ap z.ai j 0 k I M::h6 X z s (x.id) q x e)):=x
abbrev Jb(x:A:=by exact {s with aC:=s.aC.set j zd}):=x
abbrev VY(x:A:=by exact⟨.tick ((w.now+1:Nat):Int),0,0,[],cut,ref⟩):=x
abbrev Ob(x:A:=by exact[dM,eX,eX]):=x
abbrev BJ(x:A:=by exact⟨v.1.mono h,v.2.1.mono h,cR.mono v.2.2.1,v.2.2.2⟩):=x
abbrev acP(x:A:=by exact⟨h.num.ni,h.num.oW,h.num.di,h.num.mu,h.num.mw⟩):=x
abbrev acQ(x:A:=by exact⟨h.1,h.2,λ_=>⟨trivial,rfl⟩,λ_=>trivial⟩):=x
abbrev Wm(x:A:=by exact(⟨some d,op,bC,pos,N,some (j,M)⟩::rest)):=x
abbrev Pn(x:A:=by exact[a1 X z.ap z.ai j 0 k I M,cW X p kI]):=x
abbrev MO(x:A:=by exact[tn X B p cut ref (.take left o),pW X B L t w]):=x
abbrev rJ(x:A:=by exact[bi 207 Jc]):=x
abbrev ze(x:A:=by exact[ptr aM 0,ptr av 0,ptr U 0,ptr Z 0,ptr aN 0]):=x
abbrev iJ(x:A:=by exact(a1 X z.ap z.ai j 0 k I M::h6 X z s a q x e)):=x
abbrev sG(x:A:=by exact {z with cC:=aE,cD:=aK,na:=cl,fv:=bk}):=x
abbrev Qa(x:A:=by exact {z with ap:=z.ap++[i],cC:=aE,cD:=aK}):=x
abbrev Mb(x:A:=by exact(gy rfl (lL ft 2 o7 q rfl))):=x
abbrev Gz(x:A:=by exact[.slice a i c,.func (.func M) #[] z.toArray]):=x
abbrev Em(x:A:=by exact(rL 5 6 ((b9.bs.T.map (·.id)).take i) b9.bf)):=x
abbrev H0(x:A:=by exact(fS::BB)):=x
abbrev Be(x:A:=by exact[fS,dM,og]):=x
abbrev En(x:A:=by exact⟨rfl,rfl,rfl,rfl,rfl,rfl,λh=>h,rfl⟩):=x
abbrev Qb(x:A:=by exact(u.resolve_right (fun⟨_,e⟩=>by cases e))):=x
abbrev zf(x:A:=by exact(af i::Jc)):=x
abbrev Ph(x:A:=by exact(x.aside.foldl (λr id=>du r id 4) s.bf)):=x
abbrev x8(x:A:=by exact[.agg (dO k).toArray,S state,S tag,af n]):=x
abbrev wX(x:A:=by exact(cg X.m L t::jW)):=x
abbrev N6(x:A:=by exact[nJ,eX]):=x
abbrev Jd(x:A:=by exact[ptr (X.bq j) 0,ptr q 0,S reason,bi I M]):=x
abbrev Je(x:A:=by exact⟨b5,none,0,none,0,d,j,c,g,[]⟩):=x
abbrev Jf(x:A:=by exact(arF e.b5 m.reason (gM e.b5) g6)):=x
abbrev Qc(x:A:=by exact(λh s=>ii h (w0 h ((au) h s)))):=x
abbrev hl(x:A:=by exact(λh s=>Sat.swap (arG ((au) h s) rfl))):=x
abbrev Bd(x:A:=by exact(og::BB)):=x
abbrev Qd(x:A:=by exact(fA rfl rfl (show j<l.length by omega))):=x
abbrev Jg(x:A:=by exact((0,ptr aM 0)::I5)):=x
abbrev Eo(x:A:=by exact(af dJ::af (i:Int)::Jh)):=x
abbrev GB(x:A:=by exact(λx ag=>hp x (List.mem_of_mem_take ag))):=x
abbrev tu(x:A:=by exact(λD=>cA x trivial kH)):=x
abbrev Ep(x:A:=by exact[ptr (X.bq j) 0,ptr q 0,bu id,bi I M]):=x
abbrev Ji(x:A:=by exact {t1 with on:=some ((acc X.C s1 o).2,k)}):=x
abbrev Qe(x:A:=by exact(af 1::af (j:Int)::Jh)):=x
abbrev NW(x:A:=by exact(xs.take (k*z.size)++iS U (q+1))):=x
abbrev Qf(x:A:=by exact {x with watched:=Th.ou x.watched who}):=x
abbrev Jj(x:A:=by exact[.agg (vb c bS pc K ea cQ es r).toArray]):=x
abbrev ww(x:A:=by exact(lo X kT (fT ck cI cut) (fT cl cd ref))):=x
abbrev MX(x:A:=by exact(aF kT G6)):=x
abbrev Hg(x:A:=by exact(⟨some d,op,bC,pos,N,none⟩::rest)):=x
abbrev N9(x:A:=by exact[nJ,dM]):=x
abbrev Qg(x:A:=by exact(allM X z j aM av U ea cQ l what k I M)):=x
abbrev Qh(x:A:=by exact {x with cF:=x.cF++[(b:Int)]}):=x
abbrev Jk(x:A:=by exact {t with on:=some ((acc X.C s o).2,k)}):=x
abbrev Jl(x:A:=by exact[ptr Er 0,.nilFunc]):=x
abbrev Qi(x:A:=by exact(Jm N dm Y m ae ao h.inv M B W h1)):=x
abbrev Ml(x:A:=by exact(if L.getD i 0=x then L.set i v else L)):=x
abbrev MY(x:A:=by exact(aF kT G7)):=x
abbrev Dx(x:A:=by exact(fo ((b+w:Nat):Int) eV rfl rfl)):=x
abbrev Nq(x:A:=by exact(fo ((b+1:Nat):Int) eV rfl rfl)):=x
abbrev H6(x:A:=by exact(λv H=>∃L,post v L/\H=L++D)):=x
abbrev PP(x:A:=by exact[ab N 36 ((oo M).map bu),e4 X B]):=x
abbrev qI(x:A:=by exact[cG X z s,ay lB]):=x
abbrev Qj(x:A:=by exact(λe=>by simp only[gU]at e;omega)):=x
abbrev IZ(x:A:=by exact {Th.c3 with kind:=14,dK:=x.id}):=x
abbrev k9(x:A:=by exact(a1 X z.ap z.ai j 0 k I M::bj X z s)):=x
abbrev Py(x:A:=by exact {Th.c3 with kind:=12,dK:=x.id}):=x
abbrev PR(x:A:=by exact {Th.c3 with kind:=11,dK:=x.id}):=x
abbrev M6(x:A:=by exact(⟨none,op,bC,pos,N,none⟩::rest)):=x
abbrev HJ(x:A:=by exact⟨st.os,st.tape,st.output,st.size,ag⟩):=x
abbrev Bf(x:A:=by exact[(0,1),(1,1),(2,1),(3,1),(4,1)]):=x
abbrev D1(x:A:=by exact(λx ag=>pN.1 h1 x ag)):=x
abbrev Qk(x:A:=by exact[ptr ge 0,ptr b0 0,ptr d9 0,ptr eT 0]):=x
abbrev Jn(x:A:=by exact[ptr aB 0,ptr aU 0,ptr bB 0,ptr c9 0]):=x
abbrev Ql(x:A:=by exact(.cons (.tail .head) nx)):=x
abbrev Jc(x:A:=by exact[ptr d3 0,ptr d4 0,ptr cm 0,ptr dN 0]):=x
abbrev Qm(x:A:=by exact[bi 304 lX]):=x
abbrev tN(x:A:=by exact(x.watched.map λw=>(w,.bool true))):=x
abbrev BK(x:A:=by exact[ptr aM 0,ptr av 0,ptr U 0,ptr Z 0]):=x
abbrev Jo(x:A:=by exact(eQ (cf z.ap) (id:Int) (ptr f 0))):=x
abbrev NE(x:A:=by exact(λD=>cA x ag kH)):=x
abbrev Qn(x:A:=by exact(fM (c:=false) arC (nb rfl rfl))):=x
abbrev Qo(x:A:=by exact(λu H=>u=.bool true/\H=[ba])):=x
abbrev G2(x:A:=by exact(lO (dL (B.b+1) B.n L o).value w)):=x
abbrev NA(x:A:=by exact(fM (c:=true) rC (nb rfl rfl))):=x
abbrev HI(x:A:=by exact[(0,ptr m 0),(1,af b),(2,af n)]):=x
abbrev Jp(x:A:=by exact(cg m L t::zg)):=x
abbrev PS(x:A:=by exact {Th.c3 with kind:=13,dK:=a}):=x
abbrev Jq(x:A:=by exact(Sat.tail (λh E=>Sat.flat.1 E) E)):=x
abbrev Qp(x:A:=by exact {x with slots:=x.slots.set slot 0}):=x
abbrev BF(x:A:=by exact[cW X p o,a1 X z.ap z.ai j p k f c]):=x
abbrev Ib(x:A:=by exact(λh s=>Qq (D:=[]) ao h arA)):=x
abbrev Ee(x:A:=by exact[ptr (X.r true) 0,ptr (X.r false) 0]):=x
abbrev zh(x:A:=by exact(.tail (.tail (.tail (.tail .head))))):=x
abbrev PY(x:A:=by exact[af i,bi 208 sH]):=x
abbrev w9(x:A:=by exact((e3 X z.ap s.aI).set (a -1) fu)):=x
abbrev Qr(x:A:=by exact(1<=O/\O<=(s.aI.length:Int))):=x
abbrev Qs(x:A:=by exact[ay lB,hc X]):=x
abbrev Qt(x:A:=by exact(.slice E.2.1 E.2.2.2.length E.2.2.1)):=x
abbrev NT(x:A:=by exact(.cells (xs++dq).toArray e (0,0))):=x
abbrev Ol(x:A:=by exact(∀b o,h b=some o->k b=some o)):=x
abbrev Ow(x:A:=by exact(λh k a f r aD=>(a r aD).imp f)):=x
abbrev lC(x:A:=by exact[ptr (X.bq j) 0,ptr q 0,bi I M]):=x
abbrev Qu(x:A:=by exact[gj e.gJ X.C.dW x.aside x.front]):=x
abbrev Jr(x:A:=by exact(jw Tryz.underlying248 rfl rfl)):=x
abbrev Qv(x:A:=by exact(.each (.mz a) i n (.parent a k))):=x
abbrev Qw(x:A:=by exact {x with front:=x.front.dropLast}):=x
abbrev Qx(x:A:=by exact(if ac.over then z.tt else ga z.tt)):=x
abbrev CT(x:A:=by exact(i∈R->∀h,Sat H h->Sat J h)):=x
abbrev BL(x:A:=by exact(dL sI sJ L o)):=x
abbrev tR(x:A:=by exact⟨v.1.mono h,cR.mono v.2.1,v.2.2⟩):=x
abbrev Qy(x:A:=by exact {x with front:=[],aside:=[]}):=x
abbrev Js(x:A:=by exact(s.aC.set j {t with on:=none})):=x
abbrev jq(x:A:=by exact⟨ao.gK,ao.gE,ao.gF,ao.ap,ao.ai⟩):=x
abbrev Es(x:A:=by exact[ptr (X.bq j) 0,ptr q 0,af left]):=x
abbrev Ac(x:A:=by exact(.slice k.sa k.states.length k.sc)):=x
abbrev x7(x:A:=by exact(λx=>decide (x.name=state))):=x
abbrev Mu(x:A:=by exact(.bool (decide (d.name=c.name)))):=x
abbrev GA(x:A:=by exact(aF (.bool ((L.take i).any q)) N)):=x
abbrev M2(x:A:=by exact⟨.take left o,0,0,[],cut,ref⟩):=x
abbrev Oa(x:A:=by exact[dM,eX]):=x
abbrev Oc(x:A:=by exact[eX,dM]):=x
abbrev Bu(x:A:=by exact(λp=>(Value.int d6 p.1,p.2))):=x
abbrev Qz(x:A:=by exact {s with trace:=s.trace++[e]}):=x
abbrev P2(x:A:=by exact[.agg (fz e).toArray,bi I M]):=x
abbrev Jt(x:A:=by exact {s with notes:=s.notes++[m]}):=x
abbrev QA(x:A:=by exact(Th.c7 s a {x with mode:=3})):=x
abbrev Ab(x:A:=by exact(.slice k.ca k.cases.length k.kg)):=x
abbrev Gp(x:A:=by exact([.agg (ik x).toArray]++z)):=x
abbrev Gq(x:A:=by exact([.agg (dO x).toArray]++z)):=x
abbrev Gr(x:A:=by exact([.agg (ft x).toArray]++z)):=x
abbrev Gs(x:A:=by exact([.agg (gh x).toArray]++z)):=x
abbrev xg(x:A:=by exact(dL (B.eO true) (B.fa true) L o)):=x
abbrev QB(x:A:=by exact(lA (ptr q 0) Zm rfl rfl)):=x
abbrev QC(x:A:=by exact[eD X.bG X.m X.C.bG X.C.aZ]):=x
abbrev PC(x:A:=by exact {x with mode:=1,cF:=[]}):=x
abbrev Ju(x:A:=by exact(c8 X vl z.ai s.aC)):=x
abbrev BM(x:A:=by exact(λx=>decide (x.name=kind))):=x
abbrev L2(x:A:=by exact(.slice s.ra s.rows.length s.rc)):=x
abbrev G6(x:A:=by exact[cP p x y 0 0 (lo X J z oJ)]):=x
abbrev jW(x:A:=by exact[gr X B,cd X B,jo X B,eB X B]):=x
abbrev DS(x:A:=by exact[(0,1),(1,1),(2,1),(3,1)]):=x
abbrev Om(x:A:=by exact(lL dO 5 Ay e rfl)):=x
abbrev QD(x:A:=by exact(λ_ e=>by simp[k4]at e)):=x
abbrev Jv(x:A:=by exact {(acc C s o).1 with aC:=dh}):=x
abbrev G7(x:A:=by exact[tn X B p ac.cut ac.ref ac.ph]):=x
abbrev nF(x:A:=by exact(λ_=>pn)):=x
abbrev xa(x:A:=by exact(λ_ h=>by simp[BN]at h)):=x
abbrev Et(x:A:=by exact[.agg #[.slice bS K.length pc]]):=x
abbrev Jw(x:A:=by exact(.slice E.1.1 E.2.length E.1.2)):=x
abbrev I5(x:A:=by exact[(1,ptr av 0),(2,ptr U 0)]):=x
abbrev Gi(x:A:=by exact(.slice cl k.states.length bk)):=x
abbrev yq(x:A:=by exact[ptr c1 0,ptr bk 0,ptr b0 0]):=x
abbrev G1(x:A:=by exact(cA () trivial (au) h s)):=x
abbrev BB(x:A:=by exact[dM,dM]):=x
abbrev H2(x:A:=by exact[og,gQ]):=x
abbrev Ic(x:A:=by exact[og,dM]):=x
abbrev Jx(x:A:=by exact(101::14::uQ)):=x
abbrev Jy(x:A:=by exact[ptr aB 0,ptr aU 0,ptr bB 0]):=x
abbrev lX(x:A:=by exact[ptr aM 0,ptr av 0,ptr U 0]):=x
abbrev BO(x:A:=by exact(λe=>by simp[nz]at e)):=x
abbrev oU(x:A:=by exact(min (max e.b5.within 1) 4095)):=x
abbrev Eu(x:A:=by exact {e with hP:=none,hQ:=0}):=x
abbrev rM(x:A:=by exact[ay lB]):=x
abbrev Ag(x:A:=by exact⟨false,[],state,false,[]⟩):=x
abbrev MP(x:A:=by exact⟨ph,out,val,due,cut,ref⟩):=x
abbrev Hs(x:A:=by exact[kU q m b n,jd p q b o]):=x
abbrev DE(x:A:=by exact(if o.over then t else ga t)):=x
abbrev rE(x:A:=by exact⟨some d,op,bC,pos,N,g⟩):=x
abbrev Ev(x:A:=by exact {z with na:=aE,fv:=aK}):=x
abbrev Jz(x:A:=by exact(ly X.C.bG X.C.aZ x y)):=x
abbrev hY(x:A:=by exact {z with cC:=aE,cD:=aK}):=x
abbrev zi(x:A:=by exact {z with cC:=cC,cD:=cD}):=x
abbrev JA(x:A:=by exact(a1 X ap ai j p k I M::ba)):=x
abbrev Nd(x:A:=by exact⟨⟨Nb d7,rfl,d7⟩,rfl⟩):=x
abbrev oT(x:A:=by exact(min (max e.b5.limit 0) 100)):=x
abbrev sK(x:A:=by exact⟨a8,C z s k y I M ao ah⟩):=x
abbrev I3(x:A:=by exact[bu t.draw,.bool t.jg]):=x
abbrev zj(x:A:=by exact[mq p now seq z,om z]):=x
abbrev Me(x:A:=by exact⟨none,op,bC,pos,N,g⟩):=x
abbrev HT(x:A:=by exact(.region id l.toArray true)):=x
abbrev QE(x:A:=by exact⟨.put true (gU 0 v),0,0⟩):=x
abbrev JB(x:A:=by exact(dL (B.eO r) (B.fa r) L o)):=x
abbrev Ej(x:A:=by exact {z with cC:=a,cD:=c}):=x
abbrev xb(x:A:=by exact(.iface (nO o) (ptr p 0))):=x
abbrev BP(x:A:=by exact⟨rfl,cu,aY,ag,fd,rfl⟩):=x
abbrev Az(x:A:=by exact([.slice bS br.length pc])):=x
abbrev p0(x:A:=by exact⟨λv w=>by kernel_rfl⟩):=x
abbrev zg(x:A:=by exact[gf r m b n,iZ p r o]):=x
abbrev BQ(x:A:=by exact(l.filter (λx=>!q x))):=x
abbrev JC(x:A:=by exact(Go.L.ay (e3 X ap aI))):=x
abbrev IS(x:A:=by exact(Th.gG x.timers m.name)):=x
abbrev Ew(x:A:=by exact⟨λp w=>by kernel_rfl⟩):=x
abbrev JD(x:A:=by exact[ptr (X.bq j) 0,ptr av 0]):=x
abbrev Aj(x:A:=by exact(.loop (rec .ready none))):=x
abbrev C2(x:A:=by exact(aF (.bool (L.any q)) N)):=x
abbrev pY(x:A:=by exact(mi rfl rfl rfl rfl)):=x
abbrev pZ(x:A:=by exact(tg rfl rfl rfl OS)):=x
abbrev nJ(x:A:=by exact(.string ByteArray.empty)):=x
abbrev Ir(x:A:=by exact(λe=>(e.key,e.val))):=x
abbrev Ex(x:A:=by exact⟨rfl,by rw[a6 W]⟩):=x
abbrev qJ(x:A:=by exact[ptr (X.bq j) 0,ptr q 0]):=x
abbrev za(x:A:=by exact(λ_ h=>by simp at h)):=x
abbrev qK(x:A:=by exact(λx ag=>by cases ag)):=x
abbrev JE(x:A:=by exact(λ_ _ e=>by cases e)):=x
abbrev zk(x:A:=by exact(λv V=>by cases V)):=x
abbrev y9(x:A:=by exact(h0 ag)):=x
abbrev xe(x:A:=by exact(X.C.bc+X.C.cK)):=x
abbrev JF(x:A:=by exact(M++di.reverse.take k)):=x
abbrev JG(x:A:=by exact(jC z (8*l+s)+i)):=x
abbrev Gj(x:A:=by exact⟨s.name,a3,b0,s.rows⟩):=x
abbrev Ai(x:A:=by exact(λC=>absurd C bN)):=x
abbrev CZ(x:A:=by exact(0<=r↔L.any q=true)):=x
abbrev Gy(x:A:=by exact(.slice bS br.length pc)):=x
abbrev AA(x:A:=by exact[gn X B,fO X.wp w]):=x
abbrev Dc(x:A:=by exact[ptr p 0,bu id,af d]):=x
abbrev Dh(x:A:=by exact⟨.now,0,0,[],[],[]⟩):=x
abbrev sp(x:A:=by exact[gr X B,cd X B,jo X B]):=x
abbrev DL(x:A:=by exact(jc (B.cm w) B.eC L o)):=x
abbrev sy(x:A:=by exact[(0,1),(1,1),(2,1)]):=x
abbrev H9(x:A:=by exact(h0 e)):=x
abbrev D9(x:A:=by exact(λp=>(oA p.1,p.2))):=x
abbrev lB(x:A:=by exact(c8 X z.ap z.ai s.aC)):=x
abbrev Ey(x:A:=by exact(1<=b/\b<=X.C.aZ)):=x
abbrev Er(x:A:=by exact(X.bq (X.C.bc+i))):=x
abbrev zd(x:A:=by exact {t with draw:=e0 c5}):=x
abbrev Ja(x:A:=by exact(s.L.getD (2+i) 0=0)):=x
abbrev CK(x:A:=by exact(k.states.flatMap ft)):=x
abbrev Dg(x:A:=by exact(dL (B.b+1) B.n L o)):=x
abbrev wA(x:A:=by exact(lp (B.b+1) B.n L o)):=x
abbrev AE(x:A:=by exact[ptr m 0,af b,af n]):=x
abbrev HA(x:A:=by exact[ptr q 0,af x,af y]):=x
abbrev vm(x:A:=by exact[.slice bS K.length pc]):=x
abbrev BR(x:A:=by exact(aF (af (fix q L)) N)):=x
abbrev hg(x:A:=by exact(λh=>by simp at h)):=x
abbrev Ez(x:A:=by exact⟨rfl,by simp,by simp⟩):=x
abbrev vn(x:A:=by exact(λx e=>by cases e)):=x
abbrev JH(x:A:=by exact(λ_ h=>by cases h)):=x
abbrev JI(x:A:=by exact {x with state:=b}):=x
abbrev JJ(x:A:=by exact[fO p (rp w id d)]):=x
abbrev tf(x:A:=by exact(k.cases.flatMap ik)):=x
abbrev Hl(x:A:=by exact⟨by decide,by decide⟩):=x
abbrev DU(x:A:=by exact(s.imp λ_=>hp.to)):=x
abbrev Bv(x:A:=by exact(.binOp .neq t x y dh)):=x
abbrev Bw(x:A:=by exact(.binOp .eql t x y dh)):=x
abbrev vo(x:A:=by exact[cP p x y out val bp]):=x
abbrev JK(x:A:=by exact⟨pc,0,val,tick,c5⟩):=x
abbrev JL(x:A:=by exact⟨pc,0,v,t,e,fP⟩):=x
abbrev IW(x:A:=by exact[gw X,hc X,gk X]):=x
abbrev Jh(x:A:=by exact[af O,S fl,af c5]):=x
abbrev y8(x:A:=by exact(.slice a J.length c)):=x
abbrev JM(x:A:=by exact(.slice d l.length e)):=x
abbrev vW(x:A:=by exact(AO P F fn post D e)):=x
abbrev yh(x:A:=by exact(.deferred (some []))):=x
abbrev kQ(x:A:=by exact(.slice a L.length c)):=x
abbrev lm(x:A:=by exact(aF (.bool (q x)) N)):=x
abbrev wB(x:A:=by exact(λh=>by cases h)):=x
abbrev uQ(x:A:=by exact[201,2,101,2,201]):=x
abbrev EA(x:A:=by exact(EB bN x y (au))):=x
abbrev pu(x:A:=by exact⟨Y.b5,Y.la,Y.es⟩):=x
abbrev JN(x:A:=by exact(some ⟨E,0,none⟩)):=x
abbrev Gk(x:A:=by exact⟨s.name,a3,b0,aF⟩):=x
abbrev uL(x:A:=by exact⟨by omega,by omega⟩):=x
abbrev Dn(x:A:=by exact(λ_ _=>.inl fW)):=x
abbrev pn(x:A:=by exact(λ_ _=>trivial)):=x
abbrev Hw(x:A:=by exact⟨3,false,tt,v,0⟩):=x
abbrev wW(x:A:=by exact(ix B.dZ B.na L o)):=x
abbrev Ed(x:A:=by exact[(sf:da)]):=x
abbrev BE(x:A:=by exact {x with mode:=4}):=x
abbrev rN(x:A:=by exact {x with mode:=2}):=x
abbrev sH(x:A:=by exact[ptr dN 0,ptr O 0]):=x
abbrev tO(x:A:=by exact[ptr aM 0,ptr av 0]):=x
abbrev EC(x:A:=by exact(aF et N)):=x
abbrev nP(x:A:=by exact(At.mk' ao b7 ag bo)):=x
abbrev xh(x:A:=by exact(aF iu [])):=x
abbrev j3(x:A:=by exact(some qA)):=x
abbrev uP(x:A:=by exact(JO rfl rfl)):=x
abbrev Hy(x:A:=by exact⟨3,true,tt,v,0⟩):=x
abbrev sr(x:A:=by exact(j6 B.b B.bT L o)):=x
abbrev DR(x:A:=by exact[eX]):=x
abbrev xi(x:A:=by exact[ptr (X.bp a).bp 0]):=x
abbrev ED(x:A:=by exact(.post a Th.xT)):=x
abbrev jO(x:A:=by exact(e3 X z.ap s.aI)):=x
abbrev vp(x:A:=by exact(h6 X z s a q x e)):=x
abbrev CU(x:A:=by exact((h v H hp).1 C)):=x
abbrev nx(x:A:=by exact(.cons .head .nil)):=x
abbrev AG(x:A:=by exact[cP p x y 0 0 bp]):=x
abbrev AP(x:A:=by exact((d,undef)::ak)):=x
abbrev DZ(x:A:=by exact⟨b,bv+m,none⟩):=x
abbrev zl(x:A:=by exact[bu (iK false)]):=x
abbrev EE(x:A:=by exact[gj q E di M]):=x
abbrev JP(x:A:=by exact⟨jK,eb,t,v,0⟩):=x
abbrev dV(x:A:=by exact(cp X (some y))):=x
abbrev EF(x:A:=by exact(bd.cons A2 de)):=x
abbrev vq(x:A:=by exact(.yes rfl rfl W)):=x
abbrev yy(x:A:=by exact(aj.put undef aQ)):=x
abbrev wR(x:A:=by exact(gy rfl rfl)):=x
abbrev DF(x:A:=by exact⟨1,eb,tt,v,0⟩):=x
abbrev eX(x:A:=by exact(.slice none 0 0)):=x
abbrev mY(x:A:=by exact[fS]):=x
abbrev yU(x:A:=by exact(.agg M.toArray)):=x
abbrev JQ(x:A:=by exact[ptr p 0,bu id]):=x
abbrev YR(x:A:=by exact[ptr p 0,rG id]):=x
abbrev vg(x:A:=by exact⟨rfl,rfl,B.ap⟩):=x
abbrev k8(x:A:=by exact(gv z.ai s.lets)):=x
abbrev nh(x:A:=by exact(BD X s false)):=x
abbrev Ae(x:A:=by exact[ab aB 9 [S w]]):=x
abbrev wq(x:A:=by exact(acR rfl rfl)):=x
abbrev sm(x:A:=by exact(o_load rfl rfl)):=x
abbrev BS(x:A:=by exact[fY X B p Y]):=x
abbrev zm(x:A:=by exact(.slice aE n aK)):=x
abbrev BI(x:A:=by exact(c8 X ap ai l)):=x
abbrev en(x:A:=by exact[ptr (X.bq j) 0]):=x
abbrev zn(x:A:=by exact(λ_=>.same)):=x
abbrev zo(x:A:=by exact(λ_ _ e=>e)):=x
abbrev kJ(x:A:=by exact[dY,s1,Z,b9]):=x
abbrev tS(x:A:=by exact(BD X y true)):=x
abbrev we(x:A:=by exact(.map (some r))):=x
abbrev fS(x:A:=by exact(.pointer none)):=x
abbrev wV(x:A:=by exact[gV X B p c]):=x
abbrev EG(x:A:=by exact⟨.qU M,0,0⟩):=x
abbrev tT(x:A:=by exact(Th.c7 s a x)):=x
abbrev zp(x:A:=by exact(λ_=>True)):=x
abbrev vr(x:A:=by exact(λ_=>(au))):=x
abbrev rb(x:A:=by exact⟨b,bv,none⟩):=x
abbrev sd(x:A:=by exact[ja X B p ac]):=x
abbrev kH(x:A:=by exact(λh s=>s)):=x
abbrev oN(x:A:=by exact((d,v)::ak)):=x
abbrev pj(x:A:=by exact⟨ph,out,val⟩):=x
abbrev wO(x:A:=by exact[jd p q b o]):=x
abbrev u9(x:A:=by exact(.slice a n c)):=x
abbrev xj(x:A:=by exact[.slice a n c]):=x
abbrev xc(x:A:=by exact(.push l what)):=x
abbrev xf(x:A:=by exact(Th.q0 ac.val)):=x
abbrev qL(x:A:=by exact(λh E=>E)):=x
abbrev yf(x:A:=by exact(lj×Value)):=x
abbrev AC(x:A:=by exact⟨p,rfl,rfl⟩):=x
abbrev gQ(x:A:=by exact(.bool false)):=x
abbrev ry(x:A:=by exact(aj.put v aQ)):=x
abbrev wS(x:A:=by exact(vc rfl)):=x
abbrev dM(x:A:=by exact(.int .i64 0)):=x
abbrev og(x:A:=by exact(.int .u64 0)):=x
abbrev tH(x:A:=by exact(K.map cN)):=x
abbrev qM(x:A:=by exact(.iface T J)):=x
abbrev qN(x:A:=by exact[ay (ed X)]):=x
abbrev vl(x:A:=by exact(z.ap++[b])):=x
abbrev vs(x:A:=by exact(BD X y b)):=x
abbrev ux(x:A:=by exact[cg p L t]):=x
abbrev qA(x:A:=by exact⟨b,0,none⟩):=x
abbrev et(x:A:=by exact(.tuple #[])):=x
abbrev iu(x:A:=by exact(.bool true)):=x
abbrev wC(x:A:=by exact[cg m L t]):=x
abbrev qw(x:A:=by exact(h a w aj s)):=x
abbrev uN(x:A:=by exact(Sat.drop s)):=x
abbrev uO(x:A:=by exact⟨ph,0,val⟩):=x
abbrev pk(x:A:=by exact(j8 rfl)):=x
abbrev wQ(x:A:=by exact(tJ rfl)):=x
abbrev ps(x:A:=by exact(.map #[] 0)):=x
abbrev tP(x:A:=by exact[ptr X.bp 0]):=x
abbrev sI(x:A:=by exact(B.eO false)):=x
abbrev sJ(x:A:=by exact(B.fa false)):=x
abbrev xk(x:A:=by exact(cc.iq true)):=x
abbrev xl(x:A:=by exact(bi M z)):=x
abbrev tU(x:A:=by exact(.alone a k)):=x
abbrev kI(x:A:=by exact(.post b Y)):=x
abbrev w3(x:A:=by exact(Int×Int)):=x
abbrev dD(x:A:=by exact⟨rfl,rfl⟩):=x
abbrev sf(x:A:=by exact⟨0,0,[]⟩):=x
abbrev su(x:A:=by exact⟨ph,0,0⟩):=x
abbrev wY(x:A:=by exact⟨aU,rfl⟩):=x
variable(k:P)
def arH(h:Q:=by
 show(acc C s o).1.L.getD 0 0=_;rw[fG,h.num.ni];cases o<;>rfl):=h
def WU(h:Q:=by
 exact aW ⟨rfl,rfl⟩ (by simp only[lu,jT];exact(au))):=h
def acS(h:Q:=by
 simp only[cG,qO,ep,iY,lk];rfl):=h
def Ud(h:Q:=by
 exact⟨aw,aB,h.st,h.dq,h.us,Nat.le_succ_of_le h.len,λh=>by omega⟩):=h
def acT(h:Q:=by
 exact QF λact i gY st=>⟨_,_,aR,bW,a,gY.jM de,st.imp (au)⟩):=h
def arI(h:Q:=by
 refine jm (.inl rfl) rfl rfl [fO p w] (⟨rfl,rfl⟩) (xm z K (au))):=h
def acU(h:Q:=by
 rw[aB]at aU;simp only[List.cons.injEq,Value.slice.injEq,and_true]at aU;omega):=h
def acV(h:Q:=by
 exact aW ⟨rfl,d,f,rfl⟩ ZN):=h
def acW(h:Q:=by
 exact aW ⟨rfl,a22,b,rfl⟩ ZN):=h
def arJ(h:Q:=by
 rw[je,kR,<-h,List.getElem?_concat_length];rfl):=h
def Wv(h:Q:=by
 rw[VM R,Int.toNat_of_nonneg (Int.emod_nonneg _ ae)]):=h
def Ue(h:Q:=by
 exact⟨aw,aB,h.st,h.dq,h.us,by have:=h.len;simp;omega,λh=>by omega⟩):=h
def XS(h:Q:=by
 rw[oM (by simpa using x),oM (by rw[A5];exact x)]):=h
def QG(h:Q:=by
 exact⟨s,false,rfl,h.aV (il _) aS⟩):=h
def Wg(h:Q:=by
 exact⟨λ_=>⟨We bN ae,rfl,rfl⟩,(show 0+0+0<=64 by decide),fD⟩):=h
def JR(h:Q:=by
 exact aW ⟨rfl,cu,fd,rfl⟩):=h
def WA(h:Q:=by
 exact aW ⟨by obtain⟨jK,eb,tt,v,out⟩:=o;unfold hI.value;cases eb<;>simp_all[Hj],rfl⟩):=h
def Mh(h:Q:=by
 exact aW ⟨rfl,rfl⟩ (Ak a c rfl rfl (au))):=h
def GU(h:Q:=by
 exact aW ⟨_,_,_,_,rfl,rfl⟩):=h
def acX(h:Q:=by
 have:=p5 (2+C.ez) (show w+1<=C.bc from O);rwa[mX,vt]at this):=h
def arK(h:Q:=by
 simp only[tD,BU,tV,not_or]at aX;exact Decidable.not_not.1 aX.2):=h
def HE(h:Q:=by
 rwa[mX,vt]at this):=h
def acY(h:aL P Q:=by
 intro G
 first|refine iF (Iw rfl rfl rfl rfl hW fW) ?_|refine iF (OP rfl rfl rfl rfl rfl) ?_
 exact G.o):=h ⟨k⟩
def acZ(h:aL P Q:=by
 intro G;refine go_u rfl .none (mi rfl rfl rfl (by rw[Pb,hlen];simp[yz];omega)) (λC=>absurd C bN) ?_;exact G.o):=h ⟨k⟩
def JS(h:Q:=by
 exact aX.dA h hk aQ ae ae):=h
def arL(h:aL P Q:=by
 intro G
 first|refine iF (mi rfl rfl rfl rfl) ?_|refine iF (tg rfl rfl rfl OS) ?_
 exact G.o):=h ⟨k⟩
def V3(h:Q:=by
 exact aW ⟨by unfold Di;first|(rw[bg ae];done)|(rw[bg ae])|(rw[a6 ae]),rfl⟩):=h
def Gb(h:Q:=by
 exact aW ⟨by simp_all[qk],rfl⟩):=h
def ac0(h:Q:=by
 exact⟨(λe=>by simp[pf]at e),(λx ag=>by cases ag),(λx ag=>by cases ag),(λx ag=>by cases ag),fc _⟩):=h
def QH(h:aL P Q:=by
 intro G;refine aA rfl (fM (c:=true) (by simp[bb]) (mc rfl rfl)) ?_;exact G.o):=h ⟨k⟩
def GC(h:Q:=by
 rwa[pS,Db al]at h):=h
def QI(h:aL P Q:=by
 intro G;refine go_v rfl .none rfl (fA rfl rfl (show i<l.length by omega)) ?_;exact G.o):=h ⟨k⟩
def QJ(h:aL P Q:=by
 intro G
 first|refine aA rfl (X0 rfl) ?_|refine aA rfl (N0 rfl) ?_
 exact G.o):=h ⟨k⟩
def QK(h:Q:=by
 exact aW ⟨by unfold lP;congr 1;split<;>simp at*<;>omega,rfl⟩):=h
def ac1(h:Q:=by
 exact aW ⟨by rw[aj];first|(rw[ari ae];rfl)|(rw[arh aX Zo];rfl),rfl⟩):=h
def CM(h:Q:=by
 exact aW ⟨by simp_all[nq],rfl⟩):=h
def ac2(h:aL P Q:=by
 intro G;have d:1<=e.b/\e.b<=s.aI.length:=by
  exact arK
 revert d;exact G.o):=h ⟨k⟩
def JT(h:aL P Q:=by
 intro G;refine go_v rfl .none rfl (fA rfl rfl ae) ?_;exact G.o):=h ⟨k⟩
def Oz(h:aL P Q:=by
 intro G
 first|refine go_v rfl .none rfl (tJ rfl) ?_|refine go_v rfl .none rfl (nE rfl) ?_
 exact G.o):=h ⟨k⟩
def MS(h:aL P Q:=by
 intro G;refine aA rfl (fo ((b+1:Nat):Int) eV rfl rfl) ?_;exact G.o):=h ⟨k⟩
def Mc(h:aL P Q:=by
 intro G;refine aA rfl (fo (((j+1:Nat):Int)) eV rfl rfl) ?_;exact G.o):=h ⟨k⟩
def JU(h:aL P Q:=by
 intro G;refine go_v rfl .none rfl (jw Tryz.underlying246 rfl rfl) ?_;exact G.o):=h ⟨k⟩
def QL(h:aL P Q:=by
 intro G;have fX:C.cells=2+C.bA.size+(3+2*C.iO)+C.aZ*C.aZ+C.aZ*C.eZ:=rfl;revert fX;exact G.o):=h ⟨k⟩
def QM(h:aL P Q:=by
 intro G
 first|refine go_vs rfl .none rfl (tJ rfl) (au) ?_|refine go_vs rfl .none rfl (nE rfl) (au) ?_
 exact G.o):=h ⟨k⟩
def JV(h:aL P Q:=by
 intro G;refine aA rfl (fM (c:=false) (by simp[bb]) (mc rfl rfl)) ?_;exact G.o):=h ⟨k⟩
def ac3(h:aL P Q:=by
 intro G
 first|refine go_u rfl .none (mi rfl rfl rfl rfl) (λ_=>(λ_ _=>trivial)) ?_|refine go_u rfl .none (tg rfl rfl rfl OS) (λ_=>(λ_ _=>trivial)) ?_
 exact G.o):=h ⟨k⟩
def Gl(h:aL P Q:=by
 intro G;refine aA rfl (kN rfl (kO dO 5 Ay O) rfl) ?_;exact G.o):=h ⟨k⟩
def JW(h:aL P Q:=by
 intro G
 first|refine aA rfl (tJ rfl) ?_|refine aA rfl (nE rfl) ?_
 exact G.o):=h ⟨k⟩
def ac4(h:aL P Q:=by
 intro G;refine cj rfl (oE rfl rfl (gx (H:=a1 X z.ap z.ai j 0 k I M::h6 X z s a q x e) (λD h t=>Sat.tail (λh t=>by have:=jr B Y D h t;rw[sL B]at this;exact this) t) aX.spec) bI) ?_;exact G.o):=h ⟨k⟩
def BV(h:aL P Q:=by
 intro G;refine aA rfl (gy rfl (ac5 ag)) ?_;exact G.o):=h ⟨k⟩
def JX(h:Q:=by
 exact aW ⟨rfl,z,_,rfl,⟨ao.gK,ao.gE,ao.gF,ao.ap,ao.ai⟩,rfl⟩):=h
def YW(h:aL P Q:=by
 intro G;have bn:∀w:Nat,w<9->-1099511627776<=cs.getD w 0/\cs.getD w 0<=1099511627776:=λw O=>by
  exact arM
 revert bn;exact G.o):=h ⟨k⟩
def zq(h:aL P Q:=by
 intro G;refine aA rfl (JO rfl rfl) ?_;exact G.o):=h ⟨k⟩
def uR(h:Q:=by
 exact aW ⟨_,rfl,rfl⟩):=h
def EH(h:aL P Q:=by
 intro G;refine go_vs rfl .none rfl (j8 rfl) (λ_ _=>trivial) ?_;exact G.o):=h ⟨k⟩
def DH(h:Q:=by
 exact aW ⟨by congr 1;split<;>simp at*<;>omega,rfl⟩):=h
def QN(h:Q:=by
 exact aW ⟨by unfold JY;first|(rw[bg ae];done)|(rw[bg ae])|(rw[a6 ae]),rfl⟩):=h
def ac6(h:Q:=by
 refine jm (.inl rfl) rfl rfl _ (⟨by unfold Ip;refine QO ?_;(try simp only[ln,eH,ac7,BU,tV,iy,tD,true_iff,false_iff,iff_true,iff_false]);omega,rfl⟩) (au)):=h
def ac8(h:Q:=by
 refine jm (.inl rfl) rfl rfl _ (⟨by unfold w6;refine QO ?_;(try simp only[ln,eH,ac7,BU,tV,iy,tD,true_iff,false_iff,iff_true,iff_false]);omega,rfl⟩) (au)):=h
def ac9(h:aL P Q:=by
 intro G
 first|refine iQ rfl (Ii rfl rfl rfl) ?_|refine iQ rfl (Ij rfl rfl rfl rfl) ?_|refine iQ rfl (qp rfl rfl rfl rfl) ?_
 exact G.o):=h ⟨k⟩
def tW(h:Q:=by
 exact aW ⟨rfl,z,ao,rfl⟩):=h
def xn(h:aL P Q:=by
 intro G;refine go_vs rfl .none rfl (j8 rfl) (au) ?_;exact G.o):=h ⟨k⟩
def JZ(h:aL P Q:=by
 intro G;refine iQ rfl (D6 rfl rfl bI rfl rfl rfl ae wu) ?_;exact G.o):=h ⟨k⟩
def rO(h:aL P Q:=by
 intro G;simp only[e,bind,Option.bind];exact G.o):=h ⟨k⟩
def xo(h:aL P Q:=by
 intro G;have e:C.d0=2+C.bc+(2+2*C.aZ):=rfl;revert e;exact G.o):=h ⟨k⟩
def ada(h:aL P Q:=by
 intro G;have hu:In f C P (n+1) j 0 0 {(acc C s o).1 with aC:=s.aC.set j {t with on:=none}}:=by
  exact arN
 revert hu;exact G.o):=h ⟨k⟩
def An(h:aL P Q:=by
 intro G;refine aA rfl (fo (((i+1:Nat):Int)) eV rfl rfl) ?_;exact G.o):=h ⟨k⟩
def qP(h:aL P Q:=by
 intro G;refine aA rfl (mj rfl) ?_;exact G.o):=h ⟨k⟩
def nQ(h:aL P Q:=by
 intro G;refine wx (rfl) ?_;exact G.o):=h ⟨k⟩
def J0(h:Q:=by
 exact aW ⟨by first|rw[arO (by assumption)]|rw[arP (by assumption) (by simp only[iY]at*;omega)]|rw[arQ ae]|(subst_vars;rfl),rfl⟩):=h
def uW(h:Q:=by
 first|exact h|exact⟨h.1.trans (by simp[gD.over,d]),h.2⟩):=h
def J1(h:aL P Q:=by
 intro G
 first|refine aA rfl (o_load rfl rfl) ?_|refine aA rfl (gy rfl rfl) ?_|refine aA rfl (vc rfl) ?_
 exact G.o):=h ⟨k⟩
def Vv(h:Q:=by
 first|exact n _ (hn.dE (by repeat(first|exact hn.refl _|refine hn.push ?_ rfl)) (mr ZO))|exact r9 (au) (n _ (hn.dE (by repeat(first|exact hn.refl _|refine hn.push ?_ rfl)) (mr ZO)))):=h
def pv(h:Q:=by
 exact aW ⟨rfl,cu,aY,ag,fd,rfl⟩):=h
def lD(h:aL P Q:=by
 intro G;refine tr (rfl) ?_;exact G.o):=h ⟨k⟩
def pw(h:aL P Q:=by
 intro G;refine go_v rfl .none rfl (j8 rfl) ?_;exact G.o):=h ⟨k⟩
def QP(h:Q:=by
 refine jm (.inl rfl) rfl rfl _ (⟨by refine QO ?_;unfold y0;(try simp only[w6,Ip,nf,nc]at*);(try simp only[ln,tV]at*);(try simp only[ln,eH,ac7,BU,tV,iy,tD,true_iff,false_iff,iff_true,iff_false]);omega,rfl⟩) (au)):=h
def km(h:aL P Q:=by
 intro G;refine aA rfl (j8 rfl) ?_;exact G.o):=h ⟨k⟩
def C9(h:Q:=by
 refine amD (.inl rfl) rfl rfl rfl rfl rfl rfl [] ⟨by(try simp only[ln,tV]at*);first|(subst_vars;rfl)|exact amE (by simp[Gu];omega) (by simp[Gv];omega) (by simp[C8];omega) (by simp[Mv];omega) (by simp[Gw];omega),rfl⟩ (au)):=h
def gP(h:aL P Q:=by
 intro G;rintro _ D ⟨_,⟨rfl,rfl⟩,rfl⟩;exact G.o):=h ⟨k⟩
def gb(h:aL P Q:=by
 intro G;simp only[cn,ci];exact G.o):=h ⟨k⟩
def uV(h:Q:=by
 first|exact λ_=>rfl|(intro h;first|exact absurd (show(1:Int)=0 from h) bN|exact absurd h d|(split<;>rename_i ag<;>first|(rw[bg ag]at h;exact absurd (show(1:Int)=0 from h) bN)|exact ape l|rfl|(rw[a6 ag]at h;exact absurd (show(4:Int)=0 from h) bN)))):=h
def fj(h:aL P Q:=by
 intro G
 try simp only[cn,ci]
 exact G.o):=h ⟨k⟩
def XE(h:Q:=by
 refine u0 λi=>?_;by_cases h:i<J.length<;>simp[h]):=h
def V6(h:Q:=by
 refine bH ?_;exact aW ⟨none,0,rfl,rfl⟩ (λh s=>ii h ((au) h s))):=h
def adb(h:Q:=by
 have h1:Th.dz s a=some n:=b;rw[ag]at h1;exact(oe h1).symm):=h
def NQ(h:Q:=by
 refine bh ?_;exact uR):=h
def Nr(h:Q:=by
 refine bz ?_;exact uR):=h
def ade(h:Q:=by
 refine bX ?_;exact aW ⟨rfl,rfl⟩ (cA (q,aR,Z,aN,aO,E) trivial (au))):=h
def adf(h:Q:=by
 simp only[aB];exact aX.dA (h.hT m1) (by rw[m1.aT];exact hk) aQ ae ae):=h
def adg(h:Q:=by
 refine cO ?_;exact aW ⟨c2,rfl,rfl⟩ (cA (z,aO,aR,bW,a) trivial (au))):=h
def QQ(h:Q:=by
 refine gi ?_;exact tW):=h
def arR(h:Q:=by
 have:(Jv:ar).lets=s.lets:=IH;rw[this];omega):=h
def QR(h:Q:=by
 refine a7 ?_;exact aW ⟨rfl,rfl⟩ (sD (au))):=h
def adh(h:aL P Q:=by
 intro G
 first|refine iF (mi rfl rfl arS rfl) ?_|refine iF (mi rfl rfl rfl rfl) ?_
 refine a7 ?_;exact G.o):=h ⟨k⟩
def adi(h:aL P Q:=by
 intro G;refine eP ?_;refine cj rfl (b4 rfl (mM m (iw L b k) _ (b+k) (by rw[wZ];omega) _) bI) ?_;exact G.o):=h ⟨k⟩
def adj(h:aL P Q:=by
 intro G;refine ch ?_;refine go_v rfl .none rfl (ks ((X.C.cK -1:Nat):Int) eV rfl rfl) ?_;exact G.o):=h ⟨k⟩
def J2(h:Q:=by
 refine fZ ?_;exact aW ⟨rfl,rfl⟩):=h
def adk(h:aL P Q:=by
 intro G;refine ch ?_;refine go_v rfl .none rfl (ks ((X.C.bc -1:Nat):Int) eV rfl rfl) ?_;exact G.o):=h ⟨k⟩
def adl(h:aL P Q:=by
 intro G;refine ct [] [7,201] [ab av 32 [ptr X.h 0],ab U 110 [ptr q 0],ab Z 9 [S kind],ab q 118 (ee X x e)] ?_;refine ch ?_;exact G.o):=h ⟨k⟩
def UJ(h:Q:=by
 obtain⟨J,e⟩:=dd.1 h;rw[ns J,e,List.any_append,h1];simp[h2]):=h
def adm(h:aL P Q:=by
 intro G;refine ct [] [7,201] [ab V 32 [ptr X.h 0],ab aO 110 [ptr q 0],ab aR 36 [bu id],ab q 118 (ee X x e)] ?_;refine ch ?_;exact G.o):=h ⟨k⟩
def adn(h:aL P Q:=by
 intro G;refine aA rfl (tG (va cl U) rfl rfl (show i<U.length by omega) (λh t=>⟨_,_,(t i v b).1⟩)) ?_;refine aG ?_;exact G.o):=h ⟨k⟩
def Mj(h:aL P Q:=by
 intro G;refine iF (tg rfl rfl rfl hW) ?_;rw[arT];exact G.o):=h ⟨k⟩
def QS(h:Q:=by
 refine bz ?_;exact aW ⟨rfl,rfl⟩ (EB bN x y (au))):=h
def QT(h:aL P Q:=by
 intro G;refine aV (Po.auh (X.bp b) (X.C.box b) p Y v) ?_;refine aG ?_;exact G.o):=h ⟨k⟩
def QU(h:aL P Q:=by
 intro G;refine bX ?_;refine go_v rfl .none rfl (DW rfl rfl bN) ?_;exact G.o):=h ⟨k⟩
def Xd(h:aL P Q:=by
 intro G;refine aV (uS p 241 480 (gI X) (ptr q 0) _ _ _ rfl 0 0 (jd q X.hf B.dZ (k4 true 0)) (Ng q X.hf B.dZ (k4 true 0))) ?_;refine bX ?_;exact G.o):=h ⟨k⟩
def QV(h:aL P Q:=by
 intro G;refine aA rfl (kN rfl (arU R) rfl) ?_;refine iQ rfl (tX) ?_;exact G.o):=h ⟨k⟩
def Nu(h:Q:=by
 refine bH ?_;exact DH):=h
def ado(h:aL P Q:=by
 intro G;refine qP ?_;refine acY ?_;exact G.o):=h ⟨k⟩
def arV(h:Q:=by
 have:(Jv:ar).aI=s.aI:=IH;rw[this];show _=min ((acc C s o).1.L.getD 1 0 -_) _;rw[aB];exact h.num.di):=h
def Hv(h:aL P Q:=by
 intro G;refine aV (WS _ _ _ _ _ _ _ _) ?_;refine bz ?_;exact G.o):=h ⟨k⟩
def adp(h:aL P Q:=by
 intro G;refine go_v rfl (.yes rfl rfl W) rfl (j8 rfl) ?_;refine go_v rfl (.yes rfl rfl W) rfl (rs ((3*l:Nat):Int) eV rfl rfl) ?_;exact G.o):=h ⟨k⟩
def GK(h:aL P Q:=by
 intro G;refine⟨_,_,Y,⟨_,_,rfl,rfl⟩,?_⟩;rw[O];exact G.o):=h ⟨k⟩
def QW(h:Q:=by
 refine a7 ?_;exact JX):=h
def adq(h:Q:=by
 refine bX ?_;exact JX):=h
def adr(h:aL P Q:=by
 intro G;refine ch ?_;refine ct [] [16] [ab aO 110 [ptr q 0],ab cx 311 [ptr u 0],ab q 118 (ee X x e),b2 e.gp .i64 (x.watched.map λw=>(w,.bool true)),ay (gv z.ai s.lets)] ?_;exact G.o):=h ⟨k⟩
def ads(h:aL P Q:=by
 intro G;refine aV (iB (a1.eq_31 ..) (U,aN,Z) ⟨rfl,rfl⟩ (jP X z.ap z.ai s.aC j p 166 [ptr U 0,ptr aN 0,ptr Z 0] t (.post a (Th.E9 s.notes.length)) (.o2 a) J R)) ?_;refine a7 ?_;exact G.o):=h ⟨k⟩
def QX(h:Q:=by
 refine bF ?_;exact acT):=h
def Hz(h:aL P Q:=by
 intro G;refine bh ?_;refine aA rfl (fM rC (nb rfl rfl)) ?_;exact G.o):=h ⟨k⟩
def Gd(h:aL P Q:=by
 intro G;refine fj ?_;refine dx ?_;exact G.o):=h ⟨k⟩
def J3(h:aL P Q:=by
 intro G;refine aA rfl (jw Tryz.underlying246 rfl rfl) ?_;refine aG ?_;exact G.o):=h ⟨k⟩
def Mp(h:aL P Q:=by
 intro G;refine aA rfl (fo (((x+1:Nat):Int)) eV rfl rfl) ?_;refine a7 ?_;exact G.o):=h ⟨k⟩
def adt(h:aL P Q:=by
 intro G;refine aV (iB (a1.eq_17 ..) (aN,V,aO,bW,I,M) ⟨rfl,rfl⟩ (jP X z.ap z.ai s.aC j p 356 [ptr aN 0,ptr V 0,ptr aO 0,ptr bW 0] t (.post a (Th.xS s.notes.length)) (.lJ a k) J R)) ?_;refine a7 ?_;exact G.o):=h ⟨k⟩
def EI(h:Q:=by
 refine a7 ?_;exact aW ⟨rfl,rfl⟩ (λh E=>E)):=h
def MZ(h:Q:=by
 refine co.aV λv H h=>⟨_,⟨none,0,h.1,rfl⟩,λq s=>?_⟩;rw[h.2]at s;exact ii q s):=h
def adu(h:aL P Q:=by
 intro G;refine bz ?_;refine h9 [5,8] [5] [(0,.bJ),(1,.loc),(2,.loc),(3,.loc),(4,.loc),(7,.bJ),(5,.c0),(6,.loc),(8,.c0)] [ab Z 106 [ptr (X.bq j) 0],ab aN 110 [ptr q 0],ab q 118 (ee X x e)] mixed gS ?_;exact G.o):=h ⟨k⟩
def yk(h:Q:=by
 refine bX ?_;exact aW ⟨rfl,rfl⟩):=h
def EJ(h:aL P Q:=by
 intro G;refine km ?_;refine ib ?_;exact G.o):=h ⟨k⟩
def QY(h:Q:=by
 have dk:h3 (X.bq j) 5 (ay (c8 X z.ap z.ai s.aC)) (.bool t.jg):=xp J 5 λ_ _=>rfl;rw[aP]at dk;exact dk):=h
def zr(h:aL P Q:=by
 intro G;refine hA ?_;refine jb ?_;exact G.o):=h ⟨k⟩
def QZ(h:aL P Q:=by
 intro G;refine aA rfl (tG (nL aE fq) rfl rfl (show i<fq.length by omega) (λh t=>⟨_,_,(t i k O).2.1⟩)) ?_;refine aG ?_;exact G.o):=h ⟨k⟩
def Wt(h:aL P Q:=by
 intro G;have mU:∀{b n:Nat} {o:ic},¬(jc b n L o).over=true->(jc b n L o).out=0:=λh=>by simpa[ic.over]using h
 have u:∀{b n:Nat} {o:hI},¬(ix b n L o).over=true->(ix b n L o).out=0:=λh=>by simpa[hI.over]using h
 revert mU u;exact G.o):=h ⟨k⟩
def adv(h:aL P Q:=by
 intro G;refine⟨_,rfl,⟨⟨h.base.xL,h.base.na,h.base.aI,h.base.lets,h.base.notes,by show(s.aC.set _ _).length=_;rw[gq];exact h.base.uf,h.base.bf⟩,⟨h.num.ni,h.num.oW,h.num.di,h.num.mu,h.num.mw⟩,?_⟩,W⟩;obtain⟨al,h1,h2⟩:=id h.bq;revert al h1 h2;exact G.o):=h ⟨k⟩
def J4(h:Q:=by
 refine bh ?_;exact aW ⟨rfl,rfl⟩):=h
def Q0(h:aL P Q:=by
 intro G;refine aG ?_;refine aA rfl (fM (c:=false) (by show(!qH (kb _) (kb _))=false;rw[adw];rfl) (Y9 rfl rfl rfl rfl)) ?_;exact G.o):=h ⟨k⟩
def arW(h:aL P Q:=by
 intro G;refine arL ?_;refine ib ?_;exact G.o):=h ⟨k⟩
def adx(h:Q:=by
 refine bX ?_;exact C9):=h
def zs(h:aL P Q:=by
 intro G;refine jb ?_;refine km ?_;exact G.o):=h ⟨k⟩
def Ah(h:aL P Q:=by
 intro G;refine fj ?_;refine bh ?_;exact G.o):=h ⟨k⟩
def BW(h:aL P Q:=by
 intro G;refine bh ?_;refine aV (Po.ahX (X.bp b) (X.C.box b) p Y) ?_;exact G.o):=h ⟨k⟩
def arX(h:Q:=by
 refine fx ?_;exact aW ⟨by rw[ady R bo I],rfl⟩ (λ_ h=>h)):=h
def M0(h:Q:=by
 obtain⟨aE,aK,h1,h2⟩:=h;exact⟨_,⟨aE,aK,h1,rfl⟩,λq s=>by rw[h2]at s;exact Sat.tail (λ_ s=>cA (x,y,a0,fi,ck,cI,cl,cd) trivial (λ_ s=>s) _ s) s⟩):=h
def EK(h:aL P Q:=by
 intro G;rintro _ D ⟨_,⟨rfl,aE,aK,rfl⟩,rfl⟩;refine fj ?_;revert aE aK;exact G.o):=h ⟨k⟩
def adz(h:aL P Q:=by
 intro G;refine go_v rfl .none rfl (lR rfl) ?_;refine Oz ?_;exact G.o):=h ⟨k⟩
def Q1(h:aL P Q:=by
 intro G;refine pw ?_;refine pw ?_;exact G.o):=h ⟨k⟩
def arY(h:aL P Q:=by
 intro G;refine J1 ?_;refine aA rfl (j8 rfl) ?_;exact G.o):=h ⟨k⟩
def nG(h:aL P Q:=by
 intro G;refine bh ?_;refine cH ?_;exact G.o):=h ⟨k⟩
def yj(h:aL P Q:=by
 intro G;refine eP ?_;refine aA rfl (fA rfl rfl (show x<L.length by omega)) ?_;exact G.o):=h ⟨k⟩
def nr(h:aL P Q:=by
 intro G;refine eP ?_;refine aG ?_;exact G.o):=h ⟨k⟩
def J5(h:aL P Q:=by
 intro G;refine aA rfl (lR rfl) ?_;refine JW ?_;exact G.o):=h ⟨k⟩
def Q2(h:aL P Q:=by
 intro G;refine ac4 ?_;rintro _ D ⟨_,⟨rfl,cu,aY,ag,fd,rfl⟩,rfl⟩;revert cu aY ag fd;exact G.o):=h ⟨k⟩
def p2(h:Q:=by
 refine a7 ?_;exact aW ⟨rfl,rfl⟩):=h
def arZ(h:Q:=by
 refine fx ?_;exact aW ⟨_,⟨λ_=>zt.2 ⟨t,h0 R,I⟩,λ_=>by omega⟩,rfl,rfl⟩ (λ_ h=>h)):=h
def r8(h:aL P Q:=by
 intro G;refine fj ?_;refine bz ?_;exact G.o):=h ⟨k⟩
def th(h:aL P Q:=by
 intro G;refine fj ?_;refine aG ?_;exact G.o):=h ⟨k⟩
def ya(h:aL P Q:=by
 intro G;refine An ?_;refine a7 ?_;exact G.o):=h ⟨k⟩
def oR(h:aL P Q:=by
 intro G;refine ib ?_;refine hB ?_;exact G.o):=h ⟨k⟩
def nv(h:aL P Q:=by
 intro G;rintro _ _ ⟨q,rfl,rfl⟩;refine er ?_;revert q;exact G.o):=h ⟨k⟩
def pT(h:aL P Q:=by
 intro G;refine fj ?_;refine bX ?_;exact G.o):=h ⟨k⟩
def lS(h:aL P Q:=by
 intro G;rintro _ _ ⟨p,rfl,rfl⟩;refine er ?_;revert p;exact G.o):=h ⟨k⟩
def px(h:Q:=by
 intro cu aY ag fd;exact pv):=h
def lY(h:aL P Q:=by
 intro G;rintro _ _ ⟨rfl,aE,aK,rfl⟩;refine er ?_;revert aE aK;exact G.o):=h ⟨k⟩
def vu(h:aL P Q:=by
 intro G;intro F D;simp only[wE,D5,gz,mO,kR,Nat.reduceAdd,cn,ci];revert F D;exact G.o):=h ⟨k⟩
def adA(h:Q:=by
 refine er ?_;refine bX ?_;exact aW ⟨rfl,aE,aK,cl,bk,rfl⟩):=h
def adB(h:Q:=by
 refine aA rfl (pO rfl rfl) ?_;refine bz ?_;exact aW ⟨rfl,rfl⟩):=h
def Vy(h:Q:=by
 have rt:=bR R;refine bz ?_;unfold ia at f;exact kt f z R):=h
def U0(h:Q:=by
 have f:=bR W;refine bF ?_;unfold aB at UV;exact kt UV W W):=h
def Vo(h:Q:=by
 have WP:=bR n;refine bz ?_;unfold tl at x;exact kt x n n):=h
def Vg(h:Q:=by
 have aDc:=bR No;refine bX ?_;unfold ym at GS;exact kt GS O No):=h
def U7(h:Q:=by
 have aDd:=bR U;refine bz ?_;unfold fX at u;exact kt u i U):=h
def Vx(h:Q:=by
 have ut:=bR l;refine bF ?_;unfold cI at e;exact GF e L fV w l):=h
def ar0(h:Q:=by
 rw[gs];split
 . rename_i e;obtain⟨rfl,_⟩:=e;rw[al]at ag;exact ag
 grind):=h
def Vb(h:Q:=by
 have aDe:=bR Lz;refine bz ?_;unfold uB at J;exact qq J y v2 Lz):=h
def U9(h:Q:=by
 have aDf:=bR IT;refine bz ?_;unfold r3 at H;exact qq H m u8 IT):=h
def Vn(h:Q:=by
 have WF:=bR X;refine bz ?_;unfold gZ at q;exact Vl q W I z R X):=h
def adC(h:Q:=by
 unfold Th.dz;rw[bg ae];exact⟨_,cq ae⟩):=h
def Vm(h:Q:=by
 have ut:=bR l;refine bz ?_;unfold gZ at q;exact ar1 q W I L fV w l):=h
def Vf(h:Q:=by
 have aDg:=bR Nm;refine bF ?_;unfold uC qs uD at K;exact kt K M Nm):=h
def U6(h:Q:=by
 have aDh:=bR T;refine bz ?_;unfold fX at u;exact GF u i s v T):=h
def Ve(h:Q:=by
 have aDi:=bR LE;refine bF ?_;unfold uC qs uD at K;exact qq K M v6 LE):=h
def ar2(h:Q:=by
 rcases hk with⟨rfl,_⟩|⟨_,_,_,_,_,_,_,_,_,_,_,h⟩
 . rw[Q3 hlen,T]
 . cases h):=h
def ar3(h:Q:=by
 rcases(ao j t M).iL O with g|⟨S,dj,e,g⟩
 . exact .inr g
 . rw[B]at e;cases e;exact .inl g):=h
def adD(h:aL P Q:=by
 intro G;refine aA rfl (yX fW rfl rfl) ?_;refine a7 ?_;refine tr (by simp[cb,gL];omega) ?_;exact G.o):=h ⟨k⟩
def adE(h:Q:=by
 refine aV (me p X.bp x y 0 0 1 0) ?_;refine a7 ?_;exact aW ⟨rfl,rfl⟩ (EB bN x y (au))):=h
def arM(h:Q:=by
 rcases HM w with e|e
 . subst e;rw[l.zero];omega
 . rw[l.jk w e O];have:=aq9 r w;omega):=h
def adF(h:aL P Q:=by
 intro G;refine bz ?_;refine Mc ?_;refine a7 ?_;exact G.o):=h ⟨k⟩
def adG(h:aL P Q:=by
 intro G;refine bh ?_;refine Mc ?_;refine a7 ?_;exact G.o):=h ⟨k⟩
def Ux(h:aL P Q:=by
 intro G;refine ch ?_;refine ya ?_;exact G.o):=h ⟨k⟩
def Q4(h:Q:=by
 refine gi ?_;refine a7 ?_;exact tW):=h
def adH(h:aL P Q:=by
 intro G;refine yj ?_;refine aA rfl (gy rfl (Gc R)) ?_;exact G.o):=h ⟨k⟩
def adI(h:aL P Q:=by
 intro G;refine JT ?_;refine go_v rfl .none rfl (gy rfl (ac5 V)) ?_;refine aG ?_;exact G.o):=h ⟨k⟩
def adJ(h:Q:=by
 refine wn λf=>?_;refine bX ?_;exact QF λact i gY st=>⟨d,j,c,g,f,gY.jM de,st.imp (au)⟩):=h
def adK(h:aL P Q:=by
 intro G;refine ct [8,14] (101::7::uQ) [] ?_;refine EH ?_;refine ch ?_;exact G.o):=h ⟨k⟩
def adL(h:aL P Q:=by
 intro G;refine BW ?_;refine aA rfl (fM (c:=true) yI (mc rfl rfl)) ?_;exact G.o):=h ⟨k⟩
def adM(h:Q:=by
 refine aV (Q5 p z X.bp X.m B.b x y _ rfl 0 0) ?_;refine bX ?_;exact aW ⟨rfl,rfl⟩ (cA (z,aN,U,Z,N) trivial (au))):=h
def Ns(h:aL P Q:=by
 intro G;refine bh ?_;refine Hv ?_;exact G.o):=h ⟨k⟩
def Q6(h:aL P Q:=by
 intro G;refine bh ?_;refine aV (Xo X.cS X.C.bA p ac hp) ?_;refine cH ?_;exact G.o):=h ⟨k⟩
def adN(h:Q:=by
 rcases h with rfl|⟨k,x,rfl,ag⟩
 . grind
 . exact ar0):=h
def ar4(h:Q:=by
 apply ar5.2;intro i al;rw[je,je,kS ae]):=h
def UQ(h:aL P Q:=by
 intro G;refine yj ?_;refine aA rfl (kN rfl (kO gh 4 rh R) rfl) ?_;exact G.o):=h ⟨k⟩
def UO(h:aL P Q:=by
 intro G;refine yj ?_;refine aA rfl (kN rfl (kO ft 2 o7 R) rfl) ?_;exact G.o):=h ⟨k⟩
def UM(h:aL P Q:=by
 intro G;refine yj ?_;refine aA rfl (kN rfl (kO dO 5 Ay R) rfl) ?_;exact G.o):=h ⟨k⟩
def UK(h:aL P Q:=by
 intro G;refine yj ?_;refine aA rfl (kN rfl (kO ik 2 wa R) rfl) ?_;exact G.o):=h ⟨k⟩
def adO(h:aL P Q:=by
 intro G;refine bh ?_;refine ct [] [1,201,21,201,3] vh ?_;refine aG ?_;exact G.o):=h ⟨k⟩
def adP(h:aL P Q:=by
 intro G;refine aA rfl (fA rfl rfl (show j<k.states.length by omega)) ?_;refine aG ?_;refine aA rfl (gy rfl (lL ft 2 o7 p rfl)) ?_;exact G.o):=h ⟨k⟩
def J6(h:Q:=by
 have f:=bR W;refine dx ?_;exact jl n):=h
def VU(h:aL P Q:=by
 intro G;refine gb ?_;refine λh s=>Sat.swap (cA () trivial (I:=_) ?_ h s);refine gb ?_;exact G.o):=h ⟨k⟩
def J7(h:aL P Q:=by
 intro G;refine rv ?_;refine hB ?_;refine hA ?_;exact G.o):=h ⟨k⟩
def YJ(h:aL P Q:=by
 intro G;refine vu ?_;intro F D;refine hA ?_;revert F D;exact G.o):=h ⟨k⟩
def adQ(h:aL P Q:=by
 intro G;refine J5 ?_;refine iF (mi rfl rfl rfl (by rw[Pb,hlen];rfl)) ?_;exact G.o):=h ⟨k⟩
def ar6(h:aL P Q:=by
 intro G;refine vu ?_;intro F D;refine kB ek ?_;revert F D;exact G.o):=h ⟨k⟩
def J8(h:aL P Q:=by
 intro G;refine yw ?_;refine hB ?_;refine jb ?_;exact G.o):=h ⟨k⟩
def YK(h:aL P Q:=by
 intro G;refine adz ?_;refine go_v rfl .none rfl (lU rfl rfl a) ?_;exact G.o):=h ⟨k⟩
def MJ(h:aL P Q:=by
 intro G;refine bF ?_;refine go_v rfl .none rfl (jw Tryz.underlying326 rfl rfl) ?_;refine aG ?_;exact G.o):=h ⟨k⟩
def adR(h:aL P Q:=by
 intro G;refine adr ?_;refine fx ?_;exact G.o):=h ⟨k⟩
def adS(h:aL P Q:=by
 intro G;refine adn ?_;refine aA rfl (yV (va cl U) rfl (λh t=>(t i v b).1)) ?_;exact G.o):=h ⟨k⟩
def adT(h:aL P Q:=by
 intro G;refine adn ?_;refine aA rfl (yV (va cl U) rfl (λh t=>(t i v b).2.1)) ?_;exact G.o):=h ⟨k⟩
def adU(h:aL P Q:=by
 intro G;refine QZ ?_;refine aA rfl (yV (nL aE fq) rfl (λh t=>(t i k O).2.1)) ?_;exact G.o):=h ⟨k⟩
def adV(h:aL P Q:=by
 intro G;refine QZ ?_;refine aA rfl (yV (nL aE fq) rfl (λh t=>(t i k O).2.2.1)) ?_;exact G.o):=h ⟨k⟩
def Mw(h:aL P Q:=by
 intro G;refine gP ?_;refine Gd ?_;exact G.o):=h ⟨k⟩
def VO(h:Q:=by
 refine aV (me f (lo X kT kT kT) _ _ 0 0 4 0) ?_;refine cO ?_;exact aW ⟨f,rfl,rfl⟩ (MG bN (_,_,none,0,none,0,none,0) (λh s=>Sat.tail (λh s=>amN h s) ((au) h s)))):=h
def adW(h:aL P Q:=by
 intro G;have hp:ac.out=0->ac.val=0:=(λh=>absurd h b);have V:1<=ac.val/\ac.val<=65536:=ae;have h:ad aa 84 qJ (bj X z s) (cp X (some y)):=(ar7 ao B ah);revert hp V h;exact G.o):=h ⟨k⟩
def adX(h:Q:=by
 refine aV (J9 p z X.bp X.m B.b (iK true) 1 x y _ rfl 0 0) ?_;refine bX ?_;exact aW (H:=[fY X B p ⟨.more true,0,0⟩,e4 X B]) ⟨rfl,by rw[bg W]⟩ (sD (cA (z,aN,b0) trivial (au)))):=h
def adY(h:Q:=by
 refine aV (J9 p z X.bp X.m B.b (iK false) 1 x y _ rfl 0 0) ?_;refine bX ?_;exact aW (H:=[fY X B p ⟨.more false,0,0⟩,e4 X B]) ⟨rfl,by rw[bg W]⟩ (sD (cA (z,aN,b0) trivial (au)))):=h
def GY(h:aL P Q:=by
 intro G;refine bt (Ka X.m B.b) ?_;rintro _ _ ⟨z,rfl,rfl⟩;refine er ?_;revert z;exact G.o):=h ⟨k⟩
def adZ(h:Q:=by
 refine aV (iB (a1.eq_14 ..) (cx,aO,V,aR,bW,c1,bk,I,M) ⟨rfl,rfl⟩ (jP X z.ap z.ai s.aC j p 213 [ptr cx 0,ptr aO 0,ptr V 0,ptr aR 0,ptr bW 0] t (.add 0 1) (.mD l k) J R)) ?_;exact p2):=h
def L6(h:aL P Q:=by
 intro G;refine bH ?_;refine ya ?_;exact G.o):=h ⟨k⟩
def ad0(h:aL P Q:=by
 intro G;refine ir [16,17,18] [17] [1,5,9,13,17,21,25,29,33,37,41,45,49,53,57,61,66,70,74,3,3,3,70,66,74] [ab aO 110 [ptr q 0],ab cx 311 [ptr u 0],ab q 118 (ee X x e),ay (gv z.ai s.lets)] ?_;refine nr ?_;exact G.o):=h ⟨k⟩
def ad1(h:Q:=by
 congr 1
 . exact ar4
 . exact arJ):=h
def Q7(h:aL P Q:=by
 intro G;refine ch ?_;refine aA rfl (jw Tryz.underlying314 rfl rfl) ?_;refine aG ?_;exact G.o):=h ⟨k⟩
def Q8(h:aL P Q:=by
 intro G;refine bh ?_;refine JT ?_;refine go_v rfl .none rfl (gy rfl (ad2 i)) ?_;exact G.o):=h ⟨k⟩
def ad3(h:Q:=by
 refine aV (iB (a1.eq_15 ..) (cx,aO,V,aR,bW,c1,bk,b0,d9,q,I,M) ⟨rfl,rfl,bo⟩ (jP X z.ap z.ai s.aC j p 213 [ptr cx 0,ptr aO 0,ptr V 0,ptr aR 0,ptr bW 0] t (.add 0 1) (.h8 a l e k) J R)) ?_;exact p2):=h
def Q9(h:aL P Q:=by
 intro G;refine km ?_;refine J5 ?_;exact G.o):=h ⟨k⟩
def Kb(h:aL P Q:=by
 intro G;refine km ?_;refine oR ?_;exact G.o):=h ⟨k⟩
def XG(h:aL P Q:=by
 intro G;refine gO (bx:=Nat) (λx=>x<=2+2*n) (λx=>((31,af x)::(30,af ((2+2*n:Nat):Int))::HI)) (λx=>cg m (iw L b x) (jx x t)::D) (λx=>2+2*n -x) 0 (fc _) de (au) ?_;intro k hk;refine bh ?_;revert k hk;exact G.o):=h ⟨k⟩
def ad4(h:aL P Q:=by
 intro G;refine pR rfl .none rfl (b4 rfl ((by have bn:=Go.Proofs.YtnnhpnccfnghdaaGreat.L.alR e.b5 x.state l.tag l.n Y.la (gM e.b5) (λ_ h=>h) (by omega);rw[i5]at bn;exact bn)) bI) ?_;rintro _ D ⟨_,⟨bS,pc,rfl,rfl⟩,rfl⟩;refine fj ?_;revert bS pc;exact G.o):=h ⟨k⟩
def ad5(h:Q:=by
 refine⟨Ra h.base _ fW,r,⟨_,by rw[zu J],rfl⟩,fK,?_,?_⟩
 . rw[T];exact aK
 . exact ar8):=h
def UY(h:Q:=by
 refine gi ?_;refine ch ?_;exact C9):=h
def Rb(h:aL P Q:=by
 intro G;refine o8 rfl rfl fW ?_;refine aG ?_;refine o8 rfl rfl fW ?_;exact G.o):=h ⟨k⟩
def yG(h:Q:=by
 refine eP ?_;exact p2):=h
def EL(h:aL P Q:=by
 intro G;refine ch ?_;refine J3 ?_;exact G.o):=h ⟨k⟩
def arN(h:Q:=by
 refine⟨Ra h.base _ fW,r _,⟨_,by rw[zu J],rfl⟩,fK,?_,?_⟩
 . rw[T];exact aK
 . exact ar9):=h
def ad6(h:aL P Q:=by
 intro G;refine pw ?_;refine adz ?_;exact G.o):=h ⟨k⟩
def Kc(h:aL P Q:=by
 intro G;refine bz ?_;refine Mp ?_;exact G.o):=h ⟨k⟩
def Rc(h:aL P Q:=by
 intro G;refine bz ?_;refine ya ?_;exact G.o):=h ⟨k⟩
def asa(h:Q:=by
 refine wn λa=>?_;exact QX):=h
def Gt(h:aL P Q:=by
 intro G;refine bF ?_;refine ya ?_;exact G.o):=h ⟨k⟩
def ad7(h:aL P Q:=by
 intro G;refine go_skip rfl (.no rfl rfl W) rfl ?_;refine go_skip rfl (.no rfl rfl W) rfl ?_;refine go_skip rfl (.no rfl rfl W) rfl ?_;exact G.o):=h ⟨k⟩
def GD(h:aL P Q:=by
 intro G;have u:=em.kinds k hk;have wf:=u.qR.2;have y:=u.rP.2;have V:=u.lens;have pi:=u.ri;have mt:=u.name;revert u wf y V pi mt;exact G.o):=h ⟨k⟩
def EM(h:aL P Q:=by
 intro G;refine gP ?_;refine fj ?_;refine ch ?_;exact G.o):=h ⟨k⟩
def ad8(h:aL P Q:=by
 intro G;refine tr (by show some (Value.bool (decide ((Th.hi m.ref x.id (max l.cw 0) x.parent kJ)=0)||decide ((Th.hi m.ref x.id (max l.cw 0) x.parent kJ)=x.id)))=some (Value.bool false);rw[show(decide ((Th.hi m.ref x.id (max l.cw 0) x.parent [dY,s1,Z,b9])=0)||decide ((Th.hi m.ref x.id (max l.cw 0) x.parent [dY,s1,Z,b9])=x.id))=false from by simpa using O]) ?_;refine ch ?_;refine cH ?_;exact G.o):=h ⟨k⟩
def yr(h:aL P Q:=by
 intro G;refine kB ek ?_;rintro f -;refine gb ?_;revert f;exact G.o):=h ⟨k⟩
def zv(h:aL P Q:=by
 intro G;refine oR ?_;refine hA ?_;exact G.o):=h ⟨k⟩
def BX(h:aL P Q:=by
 intro G;refine kB ek ?_;rintro⟨ck,c1,cl,bk⟩ -;refine gb ?_;revert ck c1 cl bk;exact G.o):=h ⟨k⟩
def C5(h:aL P Q:=by
 intro G;refine bF ?_;refine Mp ?_;exact G.o):=h ⟨k⟩
def Ar(h:aL P Q:=by
 intro G;refine gP ?_;refine fj ?_;refine bF ?_;exact G.o):=h ⟨k⟩
def Ao(h:aL P Q:=by
 intro G;refine gP ?_;refine fj ?_;refine a7 ?_;exact G.o):=h ⟨k⟩
def Kd(h:aL P Q:=by
 intro G;refine qP ?_;refine oR ?_;exact G.o):=h ⟨k⟩
def ad9(h:aL P Q:=by
 intro G;refine xn ?_;refine xn ?_;refine xn ?_;exact G.o):=h ⟨k⟩
def rA(h:Q:=by
 refine nr ?_;exact aW ⟨rfl,rfl⟩):=h
def xq(h:aL P Q:=by
 intro G;refine hA ?_;refine zs ?_;exact G.o):=h ⟨k⟩
def xr(h:aL P Q:=by
 intro G;refine bt (asb b5.limit b5.within) ?_;rintro _ _ ⟨j,rfl,rfl⟩;refine er ?_;revert j;exact G.o):=h ⟨k⟩
def py(h:aL P Q:=by
 intro G;refine lS ?_;intro p;refine aG ?_;revert p;exact G.o):=h ⟨k⟩
def Gx(h:Q:=by
 refine gi ?_;refine bF ?_;exact C9):=h
def tm(h:aL P Q:=by
 intro G;refine gP ?_;refine r8 ?_;exact G.o):=h ⟨k⟩
def n0(h:aL P Q:=by
 intro G;refine a7 ?_;refine wn λU=>?_;refine wn λZ=>?_;revert U Z;exact G.o):=h ⟨k⟩
def pz(h:aL P Q:=by
 intro G;rintro _ _ ⟨rfl,cu,aY,ag,fd,rfl⟩;refine er ?_;refine bX ?_;revert cu aY ag fd;exact G.o):=h ⟨k⟩
def zw(h:aL P Q:=by
 intro G;refine pR rfl .none rfl (b4 rfl (asc X.C.dW (by have:=N.p1;omega)) bI) ?_;rintro _ D ⟨_,⟨d,rfl,rfl⟩,rfl⟩;refine fj ?_;revert d;exact G.o):=h ⟨k⟩
def asd(h:Q:=by
 refine e8 ?_ ?_
 . exact ase
 . exact asf):=h
def aea(h:aL P Q:=by
 intro G;refine bt (gx (H:=[a1 X z.ap z.ai j 0 k I M,ab q 118 ((ee X x e).set (0+7) (S b)),dv e.ka e.kc x.kids,dv e.hP e.hQ x.cF,gj e.gJ X.C.dW x.aside x.front,h4 e.jD (min (max e.b5.limit 0) 100) (min (max e.b5.within 1) 4095) x.given,b2 e.gp .i64 (x.watched.map λw=>(w,.bool true)),jf e.jE (h5 e.es),ay (iz e.es),gM e.b5,ay ((e3 X z.ap s.aI).set (a -1) fu),cG X {z with cC:=aE,cD:=aK} {s with trace:=s.trace++[({Th.c3 with kind:=4,dK:=x.id,id:=id,name:=b}:bZ)]},dQ aE aK (s.trace++[({Th.c3 with kind:=4,dK:=x.id,id:=id,name:=b}:bZ)]),fp z.na z.fv s.notes,b2 X.am .i64 (cf z.ap),b2 X.e5 .u64 (cf z.ai),ay (gv z.ai s.lets),Lg.dp X.ld s.bf,ey X.c4 X.C.dF s.dead,cg X.m s.L z.tt,fI X,fC X s.bs,eD X.bG X.m X.C.bG X.C.aZ,ay (ed X),fy X,gw X,hc X,gk X,ay (c8 X z.ap z.ai s.aC)]) (λD h E=>Sat.tail (λh E=>jr (X:=X) (z:={z with cC:=aE,cD:=aK}) (s:={s with trace:=s.trace++[({Th.c3 with kind:=4,dK:=x.id,id:=id,name:=b}:bZ)]}) (x:={x with state:=b}) (e:=e) B ⟨Y.b5,Y.la,Y.es⟩ D h E) E) (h aE aK)) ?_;rintro _ _ ⟨rfl,cu,aY,ag,fd,rfl⟩;refine er ?_;revert cu aY ag fd;exact G.o):=h ⟨k⟩
def Aq(h:Q:=by
 refine eP ?_;exact adx):=h
def Ap(h:Q:=by
 refine gi ?_;exact adx):=h
def rZ(h:aL P Q:=by
 intro G;refine fZ ?_;refine gO (bx:=Nat) (λx=>x<=L.length/\(L.take x).any q=false) (λx=>[(8,af x),(7,af L.length),(0,.slice a L.length c),(1,.func (.func M) #[] z.toArray)]) (λ_=>N++D) (λx=>L.length -x) 0 (⟨fc _,rfl⟩) de (λ_ h=>h) ?_;rintro x ⟨ag,bo⟩;revert x ag bo;exact G.o):=h ⟨k⟩
def aeb(h:Q:=by
 refine e8 ?_ ?_
 . exact asg
 . exact ash):=h
def Ke(h:Q:=by
 refine e8 ?_ ?_
 . exact asi
 . exact asj):=h
def XF(h:Q:=by
 refine cO ?_;refine wn λc=>?_;exact NQ):=h
def aec(h:Q:=by
 apply tY;intro t _;by_cases e:f t=E
 . simp[e]
 . simp[e]):=h
def Wy(h:Q:=by
 refine ax Tryz.func480 λF D=>?_;exact yG):=h
def asl(h:Q:=by
 subst e;show bY.gm (e0 (s.L.getD 0 0+1))=_;rw[un _ ae ae,ni]
 congr 1):=h
def aed(h:Q:=by
 rintro _ _ ⟨rfl,cu,aY,ag,fd,rfl⟩;refine er ?_;refine bF ?_;exact pv):=h
def aee(h:aL P Q:=by
 intro G;refine er ?_;refine cO ?_;refine QJ ?_;refine a7 ?_;exact G.o):=h ⟨k⟩
def V8(h:Q:=by
 rintro _ _ ⟨e,S,rfl,rfl⟩;rw[kR,ci];refine bz ?_;exact aW ⟨e,S,rfl,rfl⟩):=h
def aef(h:aL P Q:=by
 intro G;refine aG ?_;refine o8 rfl rfl hW ?_;refine aG ?_;refine aA rfl (yX hW rfl rfl) ?_;exact G.o):=h ⟨k⟩
def aeg(h:aL P Q:=by
 intro G;refine ct [] [6,201] [] ?_;refine bF ?_;refine go_v rfl .none rfl (jw Tryz.underlying314 rfl rfl) ?_;refine aG ?_;exact G.o):=h ⟨k⟩
def aeh(h:aL P Q:=by
 intro G;refine ct [] [6,201] [] ?_;refine MJ ?_;exact G.o):=h ⟨k⟩
def asm(h:Q:=by
 refine bF ?_;refine aV (aoF X B p x y aS) ?_;refine a7 ?_;exact aW ⟨rfl,rfl⟩ (by rw[a6 W];exact(au))):=h
def asn(h:Q:=by
 refine bF ?_;refine aV (W5 X B p x y K v) ?_;refine bz ?_;exact aW ⟨rfl,rfl⟩ (by rw[bg W];exact(au))):=h
def aei(h:aL P Q:=by
 intro G;refine Ao ?_;refine lD ?_;exact G.o):=h ⟨k⟩
def aej(h:Q:=by
 refine aG ?_;refine wn λaR=>?_;exact QX):=h
def aek(h:Q:=by
 refine aG ?_;refine wn λbW=>?_;exact QX):=h
def ael(h:aL P Q:=by
 intro G;refine bF ?_;refine An ?_;refine bF ?_;refine cH ?_;exact G.o):=h ⟨k⟩
def WW(h:Q:=by
 refine Ns ?_;exact WU):=h
def aem(h:Q:=by
 refine lY ?_;intro aE aK;refine cU ?_;exact aW ⟨rfl,hY,⟨ao.gK,ao.gE,ao.gF,ao.ap,ao.ai⟩,rfl⟩):=h
def aen(h:Q:=by
 rintro _ D ⟨_,⟨rfl,cu,aY,ag,fd,rfl⟩,rfl⟩;refine pT ?_;exact pv):=h
def Kf(h:aL P Q:=by
 intro G;refine cO ?_;refine cH ?_;refine bH ?_;refine cH ?_;exact G.o):=h ⟨k⟩
def aeo(h:aL P Q:=by
 intro G;refine hB ?_;refine zr ?_;refine J1 ?_;exact G.o):=h ⟨k⟩
def aep(h:aL P Q:=by
 intro G;refine km ?_;refine aA rfl (ks ((l -1:Nat):Int) eV rfl rfl) ?_;refine qP ?_;refine ib ?_;exact G.o):=h ⟨k⟩
def aeq(h:Q:=by
 refine bz ?_;refine aV (Kg _ _ _) ?_;refine bz ?_;exact aW ⟨by simp[dL,U],rfl⟩ (by simp only[dL,lp,U,fk,eH,eo];exact(au))):=h
def Re(h:aL P Q:=by
 intro G;refine Dm ?_;refine yx ?_;refine yx ?_;refine Dm ?_;exact G.o):=h ⟨k⟩
def WL(h:Q:=by
 refine bz ?_;refine aV (WB _ _ _) ?_;refine bz ?_;exact aW ⟨by simp[sk,U],rfl⟩ (by simp only[sj,sk,U,fk,eH,eo];exact(au))):=h
def WK(h:Q:=by
 refine bz ?_;refine aV (Dv _ _ _) ?_;refine bz ?_;exact aW ⟨by simp[jc,U],rfl⟩ (by simp only[mf,jc,U,fk,eH,eo];exact(au))):=h
def WJ(h:Q:=by
 refine bz ?_;refine aV (AT _ _ _) ?_;refine bz ?_;exact aW ⟨by simp[j6,U],rfl⟩ (by simp only[qy,j6,U,fk,eH,eo];exact(au))):=h
def Rf(h:aL P Q:=by
 intro G;refine BW ?_;refine bz ?_;refine cH ?_;exact G.o):=h ⟨k⟩
def MC(h:Q:=by
 rintro _ _ ⟨b,a,m,rfl,rfl⟩;refine er ?_;refine bz ?_;exact aW ⟨_,_,_,rfl,rfl⟩):=h
def XI(h:aL P Q:=by
 intro G;refine cj rfl (b4 rfl (mM m (mU L b k) _ (b+k) (by rw[NK];omega) _) bI) ?_;refine EM ?_;exact G.o):=h ⟨k⟩
def aer(h:aL P Q:=by
 intro G;refine aG ?_;refine zw ?_;intro d;revert d;exact G.o):=h ⟨k⟩
def Kh(h:Q:=by
 have f:=bR W;simp only[iD];refine bh ?_;exact jl n):=h
def aes(h:Q:=by
 rintro _ _ ⟨rfl,cl,bk,rfl⟩;exact adA):=h
def Nv(h:Q:=by
 have f:=bR W;simp only[iD];refine fx ?_;exact DH):=h
def Nw(h:aL P Q:=by
 intro G;refine nv ?_;intro q;refine aG ?_;refine go_v rfl .none rfl (jw Tryz.underlying232 rfl rfl) ?_;revert q;exact G.o):=h ⟨k⟩
def Vw(h:Q:=by
 refine Kc ?_;refine fm (x+1) (show x+1<=k.cases.length by omega) (show k.cases.length -(x+1)<k.cases.length -x by omega) de (au)):=h
def Ki(h:Q:=by
 refine lS ?_;intro p;exact Nr):=h
def MA(h:Q:=by
 refine tm ?_;exact aW ⟨rfl,rfl⟩):=h
def Kj(h:aL P Q:=by
 intro G;refine Wj ?_;refine M4 ?_;refine M4 ?_;refine Wh ?_;exact G.o):=h ⟨k⟩
def aet(h:aL P Q:=by
 intro G;refine aA rfl (yV (nL aE fq) rfl (λh t=>((t i k O).2.2.2.2 j s i7).2.1)) ?_;refine aG ?_;refine aA rfl (tG (nL aE fq) rfl rfl (show q<s.rows.length by omega) (λh t=>⟨_,_,(((t i k O).2.2.2.2 j s i7).2.2 q S f).2.1⟩)) ?_;refine aG ?_;exact G.o):=h ⟨k⟩
def MB(h:Q:=by
 rintro _ D ⟨_,⟨b,a,m,rfl,rfl⟩,rfl⟩;refine r8 ?_;exact aW ⟨_,_,_,rfl,rfl⟩):=h
def Rg(h:aL P Q:=by
 intro G;refine BW ?_;refine aA rfl (fM (c:=false) yI (mc rfl rfl)) ?_;refine bz ?_;exact G.o):=h ⟨k⟩
def aeu(h:Q:=by
 refine aG ?_;refine e8 ?_ ?_
 . exact asa
 . exact aso):=h
def aev(h:aL P Q:=by
 intro G;refine adR ?_;refine go_v rfl (.yes rfl rfl rfl) rfl (lA (.bool false) (by rw[aew,p];rfl) rfl rfl) ?_;exact G.o):=h ⟨k⟩
def Kk(h:aL P Q:=by
 intro G;refine gb ?_;refine eP ?_;refine nQ ?_;refine ch ?_;exact G.o):=h ⟨k⟩
def Rh(h:aL P Q:=by
 intro G;refine jb ?_;refine Q9 ?_;exact G.o):=h ⟨k⟩
def W9(h:Q:=by
 refine bX ?_;refine b6 (λW=>?_) (λW=>?_)
 . exact asn
 . exact asm):=h
def Ri(h:Q:=by
 rintro _ D ⟨_,⟨rfl,cu,aY,ag,fd,rfl⟩,rfl⟩;refine r8 ?_;exact pv):=h
def EN(h:aL P Q:=by
 intro G;refine cH ?_;refine nG ?_;refine bh ?_;exact G.o):=h ⟨k⟩
def Kl(h:Q:=by
 rintro _ _ ⟨rfl,cu,aY,ag,ao,rfl⟩;refine er ?_;refine a7 ?_;exact aW ⟨rfl,cu,aY,ag,ao,rfl⟩):=h
def Rj(h:aL P Q:=by
 intro G;refine fj ?_;refine Gt ?_;exact G.o):=h ⟨k⟩
def Km(h:aL P Q:=by
 intro G;have hw:Th.hM=10000000:=rfl;have H:br=1000000000000:=rfl;have u:Th.hD=90000:=rfl;have d2:=h.ph;revert hw H u d2;exact G.o):=h ⟨k⟩
def GQ(h:aL P Q:=by
 intro G;rintro _ _ ⟨z,rfl,rfl⟩;refine er ?_;refine aG ?_;refine go_v rfl .none rfl (jw Tryz.underlying314 rfl rfl) ?_;revert z;exact G.o):=h ⟨k⟩
def aso(h:Q:=by
 refine aG ?_;refine wn λa=>?_;refine bX ?_;exact acT):=h
def Oy(h:aL P Q:=by
 intro G;refine pw ?_;refine ad6 ?_;exact G.o):=h ⟨k⟩
def Rk(h:aL P Q:=by
 intro G;refine hB ?_;refine xq ?_;exact G.o):=h ⟨k⟩
def Rl(h:Q:=by
 refine gb ?_;refine ki (asp p z bp x y E d out val 0 _ false) bI (λD=>?_);refine gb ?_;exact λh s=>Sat.swap (cA e trivial (au) h s)):=h
def AF(h:Q:=by
 rintro _ _ ⟨aE,aK,rfl,rfl⟩;refine er ?_;refine bz ?_;exact aW ⟨aE,aK,rfl,rfl⟩):=h
def BY(h:aL P Q:=by
 intro G;refine Kd ?_;refine hA ?_;exact G.o):=h ⟨k⟩
def Kn(h:aL P Q:=by
 intro G;refine YJ ?_;intro F D;refine jb ?_;revert F D;exact G.o):=h ⟨k⟩
def Ko(h:aL P Q:=by
 intro G;refine pR rfl .none rfl (b4 rfl (asq C.dF ae) bI) ?_;rintro _ D ⟨_,⟨c4,rfl,rfl⟩,rfl⟩;refine fj ?_;rw[Kp];revert c4;exact G.o):=h ⟨k⟩
def asr(h:Q:=by
 subst e;have fG:(s.L.set 1 (e0 (s.L.getD 1 0+1))).getD 1 0=s.L.getD 1 0+1:=ZP;have aB:(s.L.set 1 (e0 (s.L.getD 1 0+1))).getD 0 0=s.L.getD 0 0:=ms bN;exact⟨by show(s.L.set 1 (e0 (s.L.getD 1 0+1))).getD 0 0=_;rw[aB];exact ni,by show s.lets.length+0<=_;omega,by show(s.aI.length:Int)=min ((s.L.set 1 (e0 (s.L.getD 1 0+1))).getD 1 0 -((1:Nat):Int)) _;rw[fG];omega,by show((1:Nat):Int)+1<=(s.L.set 1 (e0 (s.L.getD 1 0+1))).getD 1 0;rw[fG];omega,by show(s.L.set 1 (e0 (s.L.getD 1 0+1))).getD 1 0<=_;rw[fG];omega⟩):=h
def ass(h:Q:=by
 subst e;have fG:(s.L.set 0 (e0 (s.L.getD 0 0+1))).getD 0 0=s.L.getD 0 0+1:=ZP;have aB:(s.L.set 0 (e0 (s.L.getD 0 0+1))).getD 1 0=s.L.getD 1 0:=ms bN;exact⟨by show(s.L.set 0 (e0 (s.L.getD 0 0+1))).getD 0 0=_;rw[fG,ni];show _=((s.lets.length+1:Nat):Int);omega,by show s.lets.length+1<=_;omega,by show(s.aI.length:Int)=min ((s.L.set 0 (e0 (s.L.getD 0 0+1))).getD 1 0 -_) _;rw[aB];exact di,by show _<=(s.L.set 0 (e0 (s.L.getD 0 0+1))).getD 1 0;rw[aB];exact mu,by show(s.L.set 0 (e0 (s.L.getD 0 0+1))).getD 1 0<=_;rw[aB];omega⟩):=h
def zx(h:Q:=by
 rintro _ _ ⟨rfl,cu,aY,ag,fd,rfl⟩;refine er ?_;refine bz ?_;exact pv):=h
def BZ(h:Q:=by
 obtain rfl:x=L.length:=ae;rw[l9]at bo;refine dx ?_;exact aW ⟨by rw[Kq bo],rfl⟩ (λ_ h=>h)):=h
def Bs(h:aL P Q:=by
 intro G;refine Kd ?_;refine oL ?_;exact G.o):=h ⟨k⟩
def Kr(h:aL P Q:=by
 intro G;refine ar6 ?_;intro F D;rintro z K;revert F D z K;exact G.o):=h ⟨k⟩
def C1(h:Q:=by
 obtain rfl:x=L.length:=ae;rw[l9]at bo;refine dx ?_;exact aW ⟨-1,⟨λh=>absurd h bN,λh=>by rw[bo]at h;cases h⟩,rfl,rfl⟩ (λ_ h=>h)):=h
def xt(h:Q:=by
 rintro _ _ ⟨rfl,cu,aY,ag,fd,rfl⟩;refine er ?_;refine bh ?_;exact pv):=h
def xu(h:Q:=by
 rintro _ _ ⟨rfl,cu,aY,ag,fd,rfl⟩;refine er ?_;refine a7 ?_;exact pv):=h
def B0(h:Q:=by
 rintro _ D ⟨_,⟨rfl,cu,aY,ag,fd,rfl⟩,rfl⟩;refine fj ?_;refine a7 ?_;exact pv):=h
def sM(h:aL P Q:=by
 intro G;refine a7 ?_;refine wn λZ=>?_;refine wn λaN=>?_;refine wn λaO=>?_;revert Z aN aO;exact G.o):=h ⟨k⟩
def aex(h:Q:=by
 refine aG ?_;refine e8 ?_ ?_
 . exact ast
 . exact asu):=h
def aey(h:Q:=by
 refine aG ?_;refine e8 ?_ ?_
 . exact asv
 . exact asw):=h
def aez(h:Q:=by
 refine aG ?_;refine e8 ?_ ?_
 . exact asx
 . exact asy):=h
def aeA(h:Q:=by
 refine aG ?_;refine e8 ?_ ?_
 . exact asz
 . exact asA):=h
def ru(h:Q:=by
 refine lS ?_;intro p;refine bz ?_;exact aW ⟨p,rfl,rfl⟩):=h
def asB(h:Q:=by
 refine C5 ?_;refine fm (x+1) ⟨show x+1<=L.length by omega,any_none R bo I⟩ (show L.length -(x+1)<L.length -x by omega) de (λ_ h=>h)):=h
def aeB(h:Q:=by
 refine aG ?_;refine e8 ?_ ?_
 . exact asC
 . exact asD):=h
def aeC(h:Q:=by
 refine aG ?_;refine e8 ?_ ?_
 . exact asE
 . exact asF):=h
def asG(h:Q:=by
 refine C5 ?_;refine fm (x+1) ⟨show x+1<=L.length by omega,aeD R bo I⟩ (show L.length -(x+1)<L.length -x by omega) de (λ_ h=>h)):=h
def aeE(h:Q:=by
 have m5:a=0->qc C (n+1) 1 0 sC:=λe=>by
  exact ass
 have ec:a=1->qc C (n+1) 0 1 sC:=λe=>by
  exact asr
 have L:a=0->(acc C s (.add a 1)).2=.gm ((s.lets.length+1:Nat):Int):=λe=>by
  exact asl
 cases k<;>first
  |(
   replace R:bY.add a 1=.add 0 1:=R;have alx:a=0:=by cases R;rfl
   exact Z rfl rfl (m5 alx) (L alx))
  |(
   replace R:bY.add a 1=.add 1 1:=R;have m6:a=1:=by cases R;rfl
   refine Z rfl rfl (ec m6) ?_;subst m6;have fG:(s.L.set 1 (e0 (s.L.getD 1 0+1))).getD 1 0=e0 (s.L.getD 1 0+1):=rI ae;show bY.gm (e0 (s.L.getD 1 0+1))=.gm ((s.L.set 1 (e0 (s.L.getD 1 0+1))).getD 1 0);rw[fG])
  |exact absurd rfl (R a 1)
  |exact R.elim
  |exact R.2.elim
  |(obtain⟨_,_,e⟩:=R;cases e)
  |(obtain⟨_,e⟩:=R;cases e)
  |(cases R)):=h
def zy(h:Q:=by
 refine dx ?_;refine b6 (λW=>?_) (λW=>?_)
 . exact asH
 . exact asI):=h
def WO(h:Q:=by
 refine cr ?_;refine wn λaR=>?_;refine gi ?_;refine aG ?_;exact uR):=h
def WN(h:Q:=by
 refine cU ?_;refine wn λcx=>?_;refine gi ?_;refine aG ?_;exact uR):=h
def VI(h:aL P Q:=by
 intro G;refine bF ?_;refine cH ?_;refine gi ?_;refine aV (asJ X.wp w id d O.ok O.now O.seq) ?_;refine aG ?_;exact G.o):=h ⟨k⟩
def aeF(h:aL P Q:=by
 intro G;refine aA rfl (DV rfl) ?_;refine Kb ?_;refine tx ?_;exact G.o):=h ⟨k⟩
def XH(h:Q:=by
 obtain rfl:k=2+2*n:=ae;refine dx ?_;refine wn λg=>?_;exact NQ):=h
def XK(h:aL P Q:=by
 intro G;refine aef ?_;refine aG ?_;exact G.o):=h ⟨k⟩
def aeG(h:aL P Q:=by
 intro G;refine fj ?_;refine Bs ?_;exact G.o):=h ⟨k⟩
def aeH(h:aL P Q:=by
 intro G;refine bF ?_;refine aeg ?_;exact G.o):=h ⟨k⟩
def aeI(h:aL P Q:=by
 intro G;refine bX ?_;refine aeh ?_;exact G.o):=h ⟨k⟩
def aeJ(h:aL P Q:=by
 intro G;refine gi ?_;refine bh ?_;refine aV (Lg.aq3 X.ld s.bf ((s.lets.length+1:Nat):Int) 1 aS hk) ?_;refine nr ?_;exact G.o):=h ⟨k⟩
def aeK(h:Q:=by
 refine bt ((aX aE aK).spec) ?_;exact xu):=h
def aeL(h:aL P Q:=by
 intro G;refine Ar ?_;refine lD ?_;refine bX ?_;exact G.o):=h ⟨k⟩
def aeM(h:aL P Q:=by
 intro G;refine gP ?_;refine fj ?_;refine aA rfl (qF rfl) ?_;refine oR ?_;exact G.o):=h ⟨k⟩
def asK(h:Q:=by
 refine wn λbW=>?_;exact aej):=h
def asL(h:Q:=by
 refine wn λaR=>?_;exact aek):=h
def asM(h:Q:=by
 refine wn λa=>?_;exact aej):=h
def asN(h:Q:=by
 refine wn λa=>?_;exact aek):=h
def aeN(h:aL P Q:=by
 intro G;refine o8 rfl rfl fW ?_;refine aG ?_;refine adD ?_;exact G.o):=h ⟨k⟩
def YH(h:Q:=by
 refine Bs ?_;refine jm (.inl rfl) rfl rfl _ (⟨by congr 1;simp;omega,rfl⟩) (au)):=h
def Xh(h:aL P Q:=by
 intro G;refine bh ?_;refine ct [] [7,201,2] [] ?_;refine bz ?_;refine go_v rfl .none rfl (fA rfl rfl O) ?_;refine go_v rfl .none rfl (gy rfl (W2 O)) ?_;exact G.o):=h ⟨k⟩
def ar8(h:Q:=by
 rw[T];refine aC .jk fK _ bo co A ⟨(λo k e=>by cases e),λO=>.inl ?_,(ao j t M).oJ⟩;rcases A.iL O (y O)with g|g
 . exact g.elim
 . exact g):=h
def aeO(h:aL P Q:=by
 intro G;refine cr ?_;refine adP ?_;refine aG ?_;exact G.o):=h ⟨k⟩
def asO(h:aL P Q:=by
 intro G;refine ib ?_;refine aeo ?_;exact G.o):=h ⟨k⟩
def Xq(h:Q:=by
 rw[U,b]at i;simp only[eH,eo]at i;refine qu i (λD=>?_);refine gb ?_;exact sn (cA (q,c1,bk,b0) Y (au))):=h
def aeP(h:aL P Q:=by
 intro G;refine jb ?_;refine aep ?_;exact G.o):=h ⟨k⟩
def ar9(h:Q:=by
 rw[T];refine aC _ fK _ bo co A ⟨(λo k e=>by cases e),λO=>.inl ?_,(ao j t M).oJ⟩;rcases A.iL O (y O)with g|g
 . exact absurd (asP g) (by rw[U];decide)
 . exact g):=h
def T8(h:Q:=by
 rw[aeQ h];refine ch ?_;refine aA rfl (fM (c:=true) (by exact lM (by decide)) (yL rfl rfl)) ?_;refine dx ?_;exact L1 (.inl rfl) rfl rfl rfl rfl rfl [ba] ⟨rfl,rfl⟩ (au)):=h
def Xw(h:Q:=by
 rw[U,b]at i;simp only[eH,eo]at i;refine qu i (λD=>?_);refine gb ?_;exact sn (cA (q,c1,bk,b0,a,c,M,s) Y (au))):=h
def aeR(h:aL P Q:=by
 intro G;refine acY ?_;refine ib ?_;refine hB ?_;refine zs ?_;exact G.o):=h ⟨k⟩
def Rm(h:aL P Q:=by
 intro G;refine Rk ?_;refine km ?_;exact G.o):=h ⟨k⟩
def Mi(h:aL P Q:=by
 intro G;refine bt (ama _ _ _ _ al) ?_;rintro _ _ ⟨a,c,rfl,rfl⟩;refine er ?_;refine fZ ?_;refine lD ?_;revert a c;exact G.o):=h ⟨k⟩
def aeS(h:aL P Q:=by
 intro G;refine Rh ?_;refine aA rfl (o_load rfl (l:=oq (w.now+1) w.seq a) (v:=af ((w.now+1:Nat):Int)) rfl) ?_;exact G.o):=h ⟨k⟩
def aeT(h:aL P Q:=by
 intro G;refine ad6 ?_;refine go_v rfl .none rfl (o_load rfl rfl) ?_;refine pw ?_;exact G.o):=h ⟨k⟩
def Rn(h:aL P Q:=by
 intro G;refine bz ?_;refine aeg ?_;exact G.o):=h ⟨k⟩
def Ro(h:Q:=by
 refine aV (BH X z s (X.C.bc+i) t o k J R) ?_;refine bF ?_;refine nQ ?_;refine cr ?_;exact tW):=h
def Ks(h:aL P Q:=by
 intro G;refine sM ?_;intro Z aN aO;refine cU ?_;revert Z aN aO;exact G.o):=h ⟨k⟩
def Kt(h:aL P Q:=by
 intro G;refine zr ?_;refine Kd ?_;exact G.o):=h ⟨k⟩
def asQ(h:Q:=by
 refine wn λaR=>?_;exact aeu):=h
def asR(h:Q:=by
 refine wn λbW=>?_;exact aeu):=h
def L7(h:aL P Q:=by
 intro G;refine wn λm=>?_;refine gp λa70 b=>?_;refine cr ?_;refine ya ?_;revert m a70 b;exact G.o):=h ⟨k⟩
def aeU(h:aL P Q:=by
 intro G;refine⟨(λ_=>(λ_ _=>trivial)),?_⟩;refine a7 ?_;refine go_vs rfl .none rfl (JO rfl rfl) (λ_ _=>trivial) ?_;refine a7 ?_;refine ac3 ?_;exact G.o):=h ⟨k⟩
def Ku(h:aL P Q:=by
 intro G;refine aV (xv X z s (X.C.bc+i) t J R) ?_;refine bF ?_;refine lD ?_;refine bF ?_;refine cH ?_;exact G.o):=h ⟨k⟩
def aeV(h:aL P Q:=by
 intro G;refine aet ?_;refine aA rfl (yV (nL aE fq) rfl (λh t=>(((t i k O).2.2.2.2 j s i7).2.2 q S f).2.1)) ?_;exact G.o):=h ⟨k⟩
def aeW(h:Q:=by
 refine Q2 ?_;intro cu aY ag fd;refine Ah ?_;exact pv):=h
def asS(h:Q:=by
 refine wn λa=>?_;refine aG ?_;refine e8 ?_ ?_
 . exact asL
 . exact asK):=h
def Rp(h:Q:=by
 refine bt (h) ?_;refine pz ?_;exact px):=h
def Rq(h:aL P Q:=by
 intro G;refine a7 ?_;refine wn λbW=>?_;refine bX ?_;refine ct [] [14,201] (ab bW 261 (iA ⟨l,b,reason⟩)::acq) ?_;refine fZ ?_;revert bW;exact G.o):=h ⟨k⟩
def Rr(h:aL P Q:=by
 intro G;refine gP ?_;refine Rj ?_;exact G.o):=h ⟨k⟩
def Rs(h:aL P Q:=by
 intro G;rintro _ D ⟨_,⟨rfl,aE,aK,rfl⟩,rfl⟩;refine Rj ?_;revert aE aK;exact G.o):=h ⟨k⟩
def MV(h:aL P Q:=by
 intro G;refine ax Tryz.func202 λF D=>?_;refine cO ?_;refine aV (tv p (lo X (fT a0 fi ac.due) (fT ck cI ac.cut) (fT cl cd ac.ref)) x y ac.out ac.val) ?_;refine aA rfl (fM (c:=false) (by simp[bn]) (qF rfl)) ?_;refine bH ?_;revert F D;exact G.o):=h ⟨k⟩
def EO(h:Q:=by
 refine bt (EP gc) ?_;rintro _ _ ⟨rfl,cu,fd,rfl⟩;refine er ?_;refine cU ?_;exact JR):=h
def Rt(h:Q:=by
 refine aG ?_;refine tk rfl .none rfl (kX (cs:=ee X (mo id 0 e6 b.name) ⟨b5,none,0,none,0,d,j,c,g,[]⟩) rfl rfl) ?_;exact adJ):=h
def Ru(h:Q:=by
 refine aG ?_;refine tk rfl .none rfl (kX (cs:=ee X (mo id a e6 b.name) ⟨b5,none,0,none,0,d,j,c,g,[]⟩) rfl rfl) ?_;exact adJ):=h
def asf(h:Q:=by
 refine wn λbW=>?_;refine aG ?_;refine e8 ?_ ?_
 . exact asM
 . exact asQ):=h
def ase(h:Q:=by
 refine wn λaR=>?_;refine aG ?_;refine e8 ?_ ?_
 . exact asN
 . exact asR):=h
def Rv(h:Q:=by
 refine aG ?_;refine tk rfl .none rfl (kX (cs:=ng C (.slice none 0 0) (.pointer none) (.pointer none) (.pointer none) (.pointer none) (.slice none 0 0) p T ld c4 (.slice none 0 0) (.slice none 0 0) (.pointer none)) rfl rfl) ?_;refine wn λn=>?_;refine bX ?_;exact QF λact i gY st=>⟨n,p,T,ld,c4,gY.jM de,st.imp (au)⟩):=h
def xw(h:aL P Q:=by
 intro G;refine a7 ?_;refine wn λaN=>?_;refine wn λaO=>?_;refine wn λaR=>?_;refine wn λbW=>?_;revert aN aO aR bW;exact G.o):=h ⟨k⟩
def C3(h:Q:=by
 rintro _ D ⟨_,⟨r,R,rfl,bb⟩,rfl⟩;refine fj ?_;obtain rfl:=bb.symm;refine bh ?_;exact aW ⟨Gn (by rw[pb,ln];exact R),rfl⟩ (λ_ h=>h)):=h
def Kv(h:aL P Q:=by
 intro G;refine wn λc2=>?_;refine aG ?_;refine ad4 ?_;intro bS pc;revert c2 bS pc;exact G.o):=h ⟨k⟩
def Kw(h:aL P Q:=by
 intro G;refine ad4 ?_;intro bS pc;refine aG ?_;refine wn λc2=>?_;revert bS pc c2;exact G.o):=h ⟨k⟩
def AU(h:aL P Q:=by
 intro G;refine ax Tryz.func481 λF D=>?_;have em:=K.len;have a:=K.ec;have d:=K.dE;have g:=K.jV;have bb:=Hr tt a;have aj:=K.lt tt;have g4:ls b n tt<L.length:=ae;revert F D em a d g bb aj g4;exact G.o):=h ⟨k⟩
def vv(h:Q:=by
 refine bt (h) ?_;exact xu):=h
def Kx(h:Q:=by
 refine ac4 ?_;exact Ri):=h
def aeX(h:Q:=by
 refine ir [8,9,10,11,12] [9,10,11] [1,5,9,13,17,21,25,29,34,38,42,46,50,3,3,3,3,42,38,46,50,3,3,3,3,3,38,34,42,46,50,3,3,3,3,42,34,46,50,3,3,3,46,34,50,3,3,3,3,3,42,34,38,46,50,3,3,3,3,38,34,46,50,3,3,3,46,34,50] [e4 X B] ?_;refine bH ?_;refine e8 ?_ ?_
 . exact asS
 . exact asd):=h
def aeY(h:aL P Q:=by
 intro G;refine Kj ?_;refine hB ?_;refine hA ?_;exact G.o):=h ⟨k⟩
def aeZ(h:aL P Q:=by
 intro G;refine hB ?_;refine hA ?_;refine xq ?_;refine km ?_;exact G.o):=h ⟨k⟩
def ae0(h:Q:=by
 refine bh ?_;exact vv):=h
def ae1(h:Q:=by
 refine bh ?_;refine bt (aX.spec) ?_;exact zx):=h
def Xi(h:Q:=by
 refine nv ?_;intro q;refine aG ?_;refine go_v rfl .none rfl (jw Tryz.underlying238 rfl rfl) ?_;refine bz ?_;exact aW ⟨q,rfl,rfl⟩):=h
def Rw(h:aL P Q:=by
 intro G;refine gi ?_;refine cH ?_;refine Kf ?_;exact G.o):=h ⟨k⟩
def YQ(h:aL P Q:=by
 intro G;refine gP ?_;refine aeG ?_;exact G.o):=h ⟨k⟩
def ae2(h:aL P Q:=by
 intro G;rintro _ D ⟨_,⟨aE,aK,rfl,rfl⟩,rfl⟩;refine aeG ?_;revert aE aK;exact G.o):=h ⟨k⟩
def Ui(h:Q:=by
 refine bX ?_;refine wn λc2=>?_;refine bH ?_;refine cH ?_;refine cO ?_;refine vZ (.inl rfl) rfl rfl rfl rfl [kA none 0 [],ba] (⟨none,0,rfl,rfl⟩) (λh s=>ii h ((au) h s))):=h
def aqY(h:aL P Q:=by
 intro G;refine cj rfl (b4 rfl (Ie _) bI) ?_;refine aeM ?_;exact G.o):=h ⟨k⟩
def ae3(h:aL P Q:=by
 intro G;refine adO ?_;refine aV (xv X z s j t J R) ?_;refine nG ?_;exact G.o):=h ⟨k⟩
def Rx(h:aL P Q:=by
 intro G;refine J7 ?_;refine tx ?_;refine zr ?_;exact G.o):=h ⟨k⟩
def ae4(h:aL P Q:=by
 intro G;refine aV (alK m.ref x.id (max l.cw 0) x.parent (some ⟨q,8,none⟩) 4 kJ (ab q 118 (ee X x e)) rfl) ?_;refine bH ?_;refine aV (T5 m.slot) ?_;refine nr ?_;refine cH ?_;exact G.o):=h ⟨k⟩
def ae5(h:aL P Q:=by
 intro G;refine cO ?_;refine nQ ?_;refine a7 ?_;refine ct [] [5,201,1] [ab aO 110 [ptr q 0],ab aR 36 [bu id],ab q 118 (ee X x e)] ?_;refine bz ?_;refine aV (asT e.gJ X.C.dW N.p1 x.aside x.front id) ?_;exact G.o):=h ⟨k⟩
def ae6(h:Q:=by
 refine cU ?_;refine bt (ae7 X z s i dJ O c5 fl U aR Z [] 0 o) ?_;exact aem):=h
def ae8(h:aL P Q:=by
 intro G;refine cO ?_;refine cj rfl (b4 rfl (ae9 cl bk M.length (iT M) (fH cl bk M) (Ry M) (Rz M) ae) bI) ?_;rintro _ D ⟨_,⟨a,c,rfl,rfl⟩,rfl⟩;refine bh ?_;refine aV (asU M a c h2) ?_;refine cU ?_;revert a c;exact G.o):=h ⟨k⟩
def afa(h:aL P Q:=by
 intro G;refine Kt ?_;refine oL ?_;exact G.o):=h ⟨k⟩
def afb(h:aL P Q:=by
 intro G;refine Kt ?_;refine hA ?_;exact G.o):=h ⟨k⟩
def NC(h:aL P Q:=by
 intro G;refine nv ?_;intro q;refine wn λaN=>?_;refine bX ?_;refine ct [] [5,201] [] ?_;refine bz ?_;revert q aN;exact G.o):=h ⟨k⟩
def afc(h:Q:=by
 refine cr ?_
 first|refine iF (mi rfl rfl rfl rfl) ?_|refine iF (mi rfl rfl d rfl) ?_
 refine a7 ?_
 first|refine iF (mi rfl rfl rfl rfl) ?_|refine iF (mi rfl rfl d rfl) ?_
 refine a7 ?_;exact aW ⟨rfl,rfl⟩):=h
def RA(h:Q:=by
 refine aV (Ky c5 0 255 aD) ?_;refine aG ?_;refine cH ?_;refine nr ?_;exact tW):=h
def Xl(h:Q:=by
 refine gP ?_;refine th ?_;refine aV (me p (gI X) x y 0 0 1 o.value) ?_;refine bh ?_;exact aW ⟨rfl,rfl⟩ (by rw[bg W];exact AY (by decide) x y (au))):=h
def L5(h:Q:=by
 refine a7 ?_;refine wn λU=>?_;refine bH ?_;exact adB):=h
def MM(h:aL P Q:=by
 intro G;refine ax Tryz.func390 λF D=>?_;refine cr ?_;refine wn λf=>?_;refine wn λcx=>?_;refine ch ?_;refine cH ?_;revert F D f cx;exact G.o):=h ⟨k⟩
def afd(h:Q:=by
 rintro _ D ⟨_,⟨rfl,cu,fd,rfl⟩,rfl⟩;refine Rj ?_;refine fm (i+1,cu,e) (q cu fd) ae de (au)):=h
def UD(h:aL P Q:=by
 intro G;refine Rb ?_;refine aG ?_;refine o8 rfl rfl fW ?_;refine aG ?_;exact G.o):=h ⟨k⟩
def afe(h:Q:=by
 refine cO ?_;exact vv):=h
def MW(h:Q:=by
 refine ax Tryz.func202 λF D=>?_;refine cO ?_;refine aV (tv p bp x y 0 0) ?_;refine cH ?_;refine cO ?_;exact aW ⟨rfl,rfl⟩):=h
def aff(h:aL P Q:=by
 intro G;refine Rm ?_;refine km ?_;exact G.o):=h ⟨k⟩
def afg(h:aL P Q:=by
 intro G;refine bF ?_;refine ct [] [6,201] [ab U 110 [ptr q 0],ab aN 3 [af slot]] ?_;refine bz ?_;refine go_v rfl .none rfl (lU rfl rfl gY) ?_;refine go_u rfl .none (mi rfl rfl rfl ZC) (λC=>absurd C bN) ?_;refine a7 ?_;exact G.o):=h ⟨k⟩
def afh(h:Q:=by
 refine ch ?_;refine aA rfl (jw Tryz.underlying169 rfl rfl) ?_;refine aG ?_;refine aV (iB (a1.eq_4 ..) (U,av) ⟨rfl,rfl⟩ (jP X z.ap z.ai s.aC j S 87 [ptr U 0,ptr av 0] dh (.fJ (yC j)) .pG I a)) ?_;exact QW):=h
def afi(h:Q:=by
 refine EL ?_;refine aV (iB (a1.eq_12 ..) (U,aN,Z,q) ⟨rfl,rfl,B.ap⟩ (jP X z.ap z.ai s.aC j p 288 [ptr U 0,ptr aN 0,ptr Z 0] t (.post a (Th.Fa (!decide (x.mode=1)))) (.settled a) J R)) ?_;exact p2):=h
def afj(h:Q:=by
 refine Q7 ?_;refine aV (iB (a1.eq_18 ..) (b,c2,aR,V,bW,cx,q,I,M) ⟨rfl,rfl,bo⟩ (jP X z.ap z.ai s.aC j p 387 [ptr b 0,ptr c2 0,ptr aR 0,ptr V 0,ptr bW 0,ptr cx 0] t (.add 1 1) (.mE a kind slot k) J R)) ?_;exact p2):=h
def afk(h:Q:=by
 refine ch ?_;refine aA rfl (jw Tryz.underlying392 rfl rfl) ?_;refine aG ?_;refine aV (iB (a1.eq_22 ..) (V,bW,aN,aR,aO,I,M) ⟨rfl,rfl⟩ (jP X z.ap z.ai s.aC j p 430 [ptr V 0,ptr bW 0,ptr aN 0,ptr aR 0,ptr aO 0] t (.hZ (nC 4 (ly X.C.bG X.C.aZ x y))) (.nn x y k) J R)) ?_;exact p2):=h
def afl(h:Q:=by
 refine EL ?_;refine aV (iB (a1.eq_16 ..) (V,aR,aN,Z,bW,aO,I,M) ⟨rfl,rfl⟩ (jP X z.ap z.ai s.aC j p 210 [ptr V 0,ptr aR 0,ptr aN 0,ptr Z 0,ptr bW 0,ptr aO 0] t (.post l.to.toNat (Th.Le id)) (.told id l.to k) J R)) ?_;exact p2):=h
def afm(h:Q:=by
 refine ch ?_;refine aA rfl (jw Tryz.underlying248 rfl rfl) ?_;refine aG ?_;refine aV (iB (a1.eq_19 ..) (b,c2,bW,aR,V,cx,q,I,M) ⟨rfl,rfl,bo⟩ (jP X z.ap z.ai s.aC j p 389 [ptr b 0,ptr c2 0,ptr bW 0,ptr aR 0,ptr V 0,ptr cx 0] t (.eY (r6 id e.vy)) (.asked id a e k) J R)) ?_;exact p2):=h
def Kz(h:aL P Q:=by
 intro G;refine Rf ?_;refine nG ?_;exact G.o):=h ⟨k⟩
def afn(h:aL P Q:=by
 intro G;refine er ?_;refine aeU ?_;exact G.o):=h ⟨k⟩
def afo(h:Q:=by
 refine EL ?_;refine aV (iB (a1.eq_21 ..) (aO,Z,U,aN,av,q,I,M) ⟨rfl,rfl,bo⟩ (jP X z.ap z.ai s.aC j p 394 [ptr aO 0,ptr Z 0,ptr U 0,ptr aN 0,ptr av 0] t (.post who Th.xN) (.gone a who k) J R)) ?_;exact QW):=h
def KA(h:Q:=by
 refine bF ?_;exact vv):=h
def EQ(h:aL P Q:=by
 intro G;refine zr ?_;refine aA rfl (yL rfl rfl) ?_;refine zv ?_;exact G.o):=h ⟨k⟩
def C7(h:Q:=by
 refine a7 ?_;refine wn λU=>?_;refine cr ?_;exact adB):=h
def NP(h:Q:=by
 refine adi ?_;refine EM ?_;refine fm (k+1) (show k+1<=_ by omega) ae de (au)):=h
def afp(h:Q:=by
 refine Q7 ?_;refine aV (iB (a1.eq_29 ..) (bW,aR,Z,aN,aO,q,I,M) ⟨rfl,rfl,B.ap⟩ (jP X z.ap z.ai s.aC j p 402 [ptr bW 0,ptr aR 0,ptr Z 0,ptr aN 0,ptr aO 0] t (.load 1) (.who a k) J R)) ?_;refine a7 ?_;exact aW ⟨rfl,hY,_,rfl,⟨ao.gK,ao.gE,ao.gF,by show _=(s.aI.set _ _).length;rw[gq];exact ao.ap,ao.ai⟩,rfl⟩ (λh E=>jr (X:=X) (z:=hY) (s:=aaA) (x:={x with mode:=5}) B ⟨Y.b5,Y.la,Y.es⟩ D h ((au) h E))):=h
def afq(h:Q:=by
 refine bX ?_;refine ir [15,16,17] [16] PM [cP p x y 0 0 X.bp,ab b0 246 [ptr p 0],ab d9 36 zl,e4 X B] ?_;refine eP ?_;refine e8 ?_ ?_
 . exact asV
 . exact asW):=h
def asH(h:Q:=by
 obtain rfl:a=none:=by simpa using W
 refine yt (λ_ s=>V5 (l:=n) (c:=c) s) ?_;rintro⟨d,g,-,Y⟩;subst d;subst g;subst Y;exact V6):=h
def afr(h:aL P Q:=by
 intro G;refine ad7 ?_;refine ad7 ?_;exact G.o):=h ⟨k⟩
def afs(h:Q:=by
 refine ax Tryz.func52 λF D=>?_;refine cr ?_;refine EN ?_;exact aW ⟨rfl,rfl⟩):=h
def aft(h:aL P Q:=by
 intro G;refine Rx ?_;refine km ?_;exact G.o):=h ⟨k⟩
def aq0(h:aL P Q:=by
 intro G;refine rv ?_;refine aff ?_;exact G.o):=h ⟨k⟩
def afu(h:aL P Q:=by
 intro G;refine zs ?_;refine aeF ?_;exact G.o):=h ⟨k⟩
def afv(h:aL P Q:=by
 intro G;refine BW ?_;refine cH ?_;refine bH ?_;refine aV (Po.ahX (X.bp b) (X.C.box b) p Y) ?_;refine aG ?_;refine cH ?_;exact G.o):=h ⟨k⟩
def Ub(h:aL P Q:=by
 intro G;refine ch ?_;refine cH ?_;refine cU ?_;refine aA rfl (fA rfl rfl B) ?_;refine aG ?_;refine aA rfl (gy rfl (lL ft 2 o7 p rfl)) ?_;refine aG ?_;exact G.o):=h ⟨k⟩
def XL(h:aL P Q:=by
 intro G;refine aef ?_;refine a7 ?_;refine tr (by simp[cb,gL];omega) ?_;refine bh ?_;exact G.o):=h ⟨k⟩
def afw(h:aL P Q:=by
 intro G;refine cj rfl (b4 rfl (KB c5 0 255 ae) bI) ?_;refine gP ?_;refine th ?_;refine cH ?_;refine cO ?_;refine cH ?_;exact G.o):=h ⟨k⟩
def afx(h:Q:=by
 refine aA rfl (fM (c:=true) yI (mc rfl rfl)) ?_;exact ae1):=h
def YT(h:Q:=by
 refine YQ ?_;refine jm (.inl rfl) rfl rfl _ (⟨rfl,rfl⟩) (au)):=h
def afy(h:aL P Q:=by
 intro G;refine km ?_;refine zq ?_;refine zq ?_;refine zq ?_;refine zq ?_;refine zq ?_;refine iQ rfl (tX) ?_;exact G.o):=h ⟨k⟩
def RB(h:aL P Q:=by
 intro G;refine ax Tryz.func26 λF D=>?_;refine a7 ?_;refine wn λZ=>?_;refine fx ?_;refine cH ?_;refine nG ?_;revert F D Z;exact G.o):=h ⟨k⟩
def afz(h:aL P Q:=by
 intro G;refine zs ?_;refine km ?_;refine Q9 ?_;refine aA rfl (lU rfl rfl ae) ?_;exact G.o):=h ⟨k⟩
def afA(h:aL P Q:=by
 intro G;refine hB ?_;refine afa ?_;exact G.o):=h ⟨k⟩
def RC(h:aL P Q:=by
 intro G;refine afb ?_;refine jb ?_;exact G.o):=h ⟨k⟩
def RD(h:aL P Q:=by
 intro G;refine Kj ?_;refine J8 ?_;exact G.o):=h ⟨k⟩
def afB(h:Q:=by
 refine aG ?_;refine wn λc=>?_;exact Rt):=h
def afC(h:Q:=by
 refine aG ?_;refine wn λg=>?_;exact Rt):=h
def afD(h:Q:=by
 refine aG ?_;refine wn λc=>?_;exact Ru):=h
def afE(h:Q:=by
 refine aG ?_;refine wn λg=>?_;exact Ru):=h
def aqX(h:aL P Q:=by
 intro G;refine hA ?_;refine Rh ?_;refine arY ?_;exact G.o):=h ⟨k⟩
def Nt(h:Q:=by
 refine cU ?_;refine bt (aoy q m b n x y aS az ag ah) ?_;refine lS ?_;intro p;refine gi ?_;refine aG ?_;exact aW ⟨p,rfl,rfl⟩):=h
def RE(h:aL P Q:=by
 intro G;rintro _ _ ⟨z,rfl,rfl⟩;refine er ?_;refine aeH ?_;revert z;exact G.o):=h ⟨k⟩
def afF(h:aL P Q:=by
 intro G;refine afn ?_;refine ch ?_;exact G.o):=h ⟨k⟩
def afG(h:aL P Q:=by
 intro G;have H:br=1000000000000:=rfl;obtain⟨al,c,ao⟩:=id h.bq;have J:j<s.aC.length:=(dd.1 M).1;obtain⟨V,hk,R⟩:=(ao j t M).on o k B;have z:=asX hk;have E:=mv 0 hk;have y:j<C.bc->KC C j s.L o:=λO=>by
  exact ar3
 revert H al c ao J V hk R z E y;exact G.o):=h ⟨k⟩
def afH(h:Q:=by
 refine aG ?_;refine wn λp=>?_;exact Rv):=h
def afI(h:Q:=by
 refine aG ?_;refine wn λT=>?_;exact Rv):=h
def afJ(h:Q:=by
 refine cH ?_;refine ch ?_;exact Kx):=h
def afK(h:aL P Q:=by
 intro G;refine oR ?_;refine Kt ?_;exact G.o):=h ⟨k⟩
def afL(h:Q:=by
 refine QH ?_;refine bh ?_;exact aeW):=h
def afM(h:aL P Q:=by
 intro G;refine bH ?_;refine jJ rfl .none rfl (ks ((a -1:Nat):Int) eV rfl rfl) (au) ?_;refine jJ rfl .none rfl (fA rfl rfl (show a -1<X.C.aZ by omega)) (au) ?_;refine jJ rfl .none rfl (gy rfl (KD aP)) (au) ?_;refine bH ?_;refine jJ rfl .none rfl (ks ((s.notes.length:Nat):Int) eV rfl rfl) (au) ?_;refine jJ rfl .none rfl (pU ((s.notes.length:Nat):Int) (by exact tq (by omega)) rfl) (au) ?_;exact G.o):=h ⟨k⟩
def afN(h:Q:=by
 have oW:=h.num.oW;have mw:=h.num.mw;refine⟨?_,?_,?_,?_,?_⟩
 . exact arH
 . exact arR
 . exact arV
 . show _<=(acc C s o).1.L.getD 1 0;rw[aB];exact h.num.mu
 . show(acc C s o).1.L.getD 1 0<=_;rw[aB];omega):=h
def Ig(h:aL P Q:=by
 intro G;refine afa ?_;refine yx ?_;exact G.o):=h ⟨k⟩
def VC(h:Q:=by
 refine GK ?_;have aY:=(s.imp λ_ h=>h.drop.drop).drew.new (.cells ((([]:List Value)++[af y]).toArray++Builtin.zeroCells (Value.int .i64 0).cells (grownCap w (0+1) 0 3 -(0+1))) 3 (0,0));refine fin (rest:=(Builtin.zeroCells (Value.int .i64 0).cells (grownCap w (0+1) 0 3 -(0+1))).toList) (by rw[apZ];rfl) (grownCap_ge _ _ _ _) (grownCap_le_maxLen _ _ _ _ bN) (aY.imp λ_=>Sat.head λh co=>?_);have L:h w.heap.size=some _:=co;show h w.heap.size=_;rw[L];congr 2;apply Array.ext';simp):=h
def afO(h:Q:=by
 refine wx (by show some (Value.bool (decide ((Th.hi m.ref x.id (max l.cw 0) x.parent kJ)=0)||decide ((Th.hi m.ref x.id (max l.cw 0) x.parent kJ)=x.id)))=some (Value.bool true);rw[show(decide ((Th.hi m.ref x.id (max l.cw 0) x.parent [dY,s1,Z,b9])=0)||decide ((Th.hi m.ref x.id (max l.cw 0) x.parent [dY,s1,Z,b9])=x.id))=true from by simpa using O]) ?_;refine bX ?_;exact aeW):=h
def KE(h:aL P Q:=by
 intro G;refine adr ?_;refine gi ?_;refine a7 ?_;refine ad0 ?_;exact G.o):=h ⟨k⟩
def afP(h:aL P Q:=by
 intro G;refine wn λcx=>?_;refine aG ?_;refine bt (KF X 0 1) ?_;refine lS ?_;intro p;refine Q7 ?_;revert cx p;exact G.o):=h ⟨k⟩
def afQ(h:aL P Q:=by
 intro G;refine bt (KF X 0 1) ?_;refine py ?_;intro p;refine wn λcx=>?_;refine ch ?_;refine aA rfl (jw Tryz.underlying314 rfl rfl) ?_;refine aG ?_;revert p cx;exact G.o):=h ⟨k⟩
def afR(h:aL P Q:=by
 intro G;refine Ks ?_;intro Z aN aO;refine JV ?_;refine ch ?_;refine cH ?_;revert Z aN aO;exact G.o):=h ⟨k⟩
def afS(h:aL P Q:=by
 intro G;refine nv ?_;intro q;refine wn λaR=>?_;refine aeI ?_;revert q aR;exact G.o):=h ⟨k⟩
def UF(h:aL P Q:=by
 intro G;refine cU ?_;refine Mi ?_;intro a c;refine bh ?_;refine aA rfl (gy rfl (CV (d:=0) al)) ?_;revert a c;exact G.o):=h ⟨k⟩
def afT(h:Q:=by
 rintro _ _ ⟨b,rfl,rfl⟩;refine aee ?_;refine nQ ?_;refine bH ?_;exact aW ⟨rfl,rfl⟩):=h
def asY(h:aL P Q:=by
 intro G;refine ib ?_;refine Rm ?_;refine J5 ?_;exact G.o):=h ⟨k⟩
def afU(h:Q:=by
 refine Rn ?_;refine aV (Q5 bW z X.bp X.m B.b _ _ _ rfl 0 0) ?_;refine cO ?_;exact aW ⟨bW,rfl,rfl⟩ (cA (z,aN,Z) trivial (au))):=h
def afV(h:Q:=by
 refine Rn ?_;refine aV (J9 cx z X.bp X.m (B.b+1) 0 1 _ _ _ rfl 0 0) ?_;refine cO ?_;exact aW ⟨cx,rfl,rfl⟩ (cA (z,aR,aO,U,Z) trivial (au))):=h
def afW(h:Q:=by
 refine Ig ?_;refine jm (.inl rfl) rfl rfl JJ (⟨by rw[afX ae],rfl⟩) (by rw[RF (by rw[afX (by omega)];decide)];exact(au))):=h
def afY(h:aL P Q:=by
 intro G;refine afz ?_;refine aA rfl (lU rfl rfl c) ?_;exact G.o):=h ⟨k⟩
def afZ(h:aL P Q:=by
 intro G;refine qP ?_;refine qP ?_;refine ado ?_;refine qP ?_;refine zv ?_;exact G.o):=h ⟨k⟩
def Xm(h:Q:=by
 refine a7 ?_;refine aoV ek ?_;refine ct [] [3,201] [ab bk 169 [ptr p 0],ab b0 243 [.slice a (l.length+1) c]] ?_;refine a7 ?_;refine go_v rfl .none rfl (DW rfl rfl (show 1<=l.length+1 by omega)) ?_;refine aV (Xj X B p x y K _ _ l M.tail) ?_;refine bX ?_;exact aW ⟨rfl,rfl⟩ (by rw[a6 W];exact(au))):=h
def RG(h:aL P Q:=by
 intro G;refine RC ?_;refine km ?_;exact G.o):=h ⟨k⟩
def af0(h:Q:=by
 refine Rn ?_;refine aV (J9 p a X.bp X.m B.b s 1 x y _ rfl 0 0) ?_;refine cU ?_;exact aW (H:=[fY X B p ⟨.swp M s,0,0⟩,e4 X B]) ⟨rfl,by rw[hu];rfl⟩ (sD (cA (a,aO,ac,R,N) trivial (au)))):=h
def RH(h:Q:=by
 refine Ku ?_;refine eP ?_;refine a7 ?_;exact tW):=h
def af1(h:aL P Q:=by
 intro G;refine ax Tryz.func295 λF D=>?_;have cv:=B.cv;refine cO ?_;refine ct [] [11,201] [ab av 110 [ptr q 0],ab U 32 [ptr X.h 0],ab Z 36 [bu id],ab q 118 ((ee X x e).set (0+7) (S b))] ?_;refine cO ?_;refine bt (lZ X z s ({Th.c3 with kind:=4,dK:=x.id,id:=id,name:=b}:bZ) o) ?_;refine lY ?_;intro aE aK;revert F D cv aE aK;exact G.o):=h ⟨k⟩
def Xa(h:Q:=by
 refine bz ?_;refine ct [] [6,201] [ab bW 169 [ptr b 0],ab V 238 [ptr q 0]] ?_;refine bF ?_;refine go_v rfl .none rfl (jw Tryz.underlying238 rfl rfl) ?_;refine aG ?_;refine aV (uS b 238 477 (gI X) (ptr q 0) _ _ _ rfl 0 0 (ig q (X.hJ w) (mS 0 v)) (Dv q (X.hJ w) (mS 0 v))) ?_;refine cO ?_;exact aW ⟨_,rfl,rfl⟩ (cA (q,V,bW,aO) trivial (au))):=h
def W6(h:Q:=by
 refine bF ?_;refine ct [] [6,201] [ab U 169 [ptr p 0],ab aN 241 [ptr q 0]] ?_;refine bF ?_;refine go_v rfl .none rfl (jw Tryz.underlying241 rfl rfl) ?_;refine aG ?_;refine aV (uS p 241 480 (gI X) (ptr q 0) _ _ _ rfl 0 0 (jd q X.hf B.dZ (k4 false v)) (Ng q X.hf B.dZ (k4 false v))) ?_;refine bX ?_;exact aW ⟨rfl,rfl⟩ (cA (q,aN,U,Z) trivial (au))):=h
def VS(h:Q:=by
 refine bz ?_;refine ct [] [6,201] [ab Z 248 [ptr bW 0],ab aN 314 [ptr z 0]] ?_;refine bF ?_;refine go_v rfl .none rfl (jw Tryz.underlying314 rfl rfl) ?_;refine aG ?_;refine aV (Q5 bW z (lo X kT kT kT) X.m B.b _ _ _ rfl 0 0) ?_;refine cO ?_;exact aW ⟨bW,rfl,rfl⟩ (yo rfl (cA (z,Z,aN,0,none,0,none,0) trivial (λh s=>Sat.tail (λh s=>Sat.tail (λh s=>Sat.tail (λh s=>Sat.tail (λh s=>GN h s) s) s) s) ((au) h s))))):=h
def KG(h:aL P Q:=by
 intro G;refine Rk ?_;refine Bs ?_;exact G.o):=h ⟨k⟩
def NB(h:aL P Q:=by
 intro G;refine ax Tryz.func136 λF D=>?_;refine n0 ?_;intro U Z;refine ch ?_;refine aA rfl (fM (c:=false) (by exact mJ (by show¬((l.length+1:Nat):Int)=0;omega)) (nb rfl rfl)) ?_;refine bH ?_;refine aA rfl (fA rfl rfl (show 0<l.length+1 by omega)) ?_;revert F D U Z;exact G.o):=h ⟨k⟩
def asI(h:Q:=by
 refine bF ?_;refine wn λaO=>?_;refine aG ?_;refine iQ rfl (Dj rfl rfl ek rfl ag h1 ae wu) ?_;exact V8):=h
def C0(h:Q:=by
 refine cj rfl (oE rfl rfl (hp t (h0 R)) uy) ?_;rintro _ D ⟨_,⟨rfl,bb⟩,rfl⟩;refine fj ?_;obtain rfl:=bb.symm;refine a7 ?_;refine b6 (λI=>?_) (λI=>?_)
 . exact arZ
 . exact asB):=h
def B1(h:Q:=by
 refine cj rfl (oE rfl rfl (hp t (h0 R)) xd) ?_;rintro _ D ⟨_,⟨rfl,bb⟩,rfl⟩;refine fj ?_;obtain rfl:=bb.symm;refine a7 ?_;refine b6 (λI=>?_) (λI=>?_)
 . exact arX
 . exact asG):=h
def af2(h:aL P Q:=by
 intro G;refine eP ?_;refine bX ?_;refine cH ?_;refine fx ?_;refine cH ?_;refine dx ?_;refine cH ?_;refine eP ?_;refine bX ?_;exact G.o):=h ⟨k⟩
def VJ(h:aL P Q:=by
 intro G;refine ax Tryz.func252 λF D=>?_;refine bF ?_;refine cH ?_;refine gi ?_;refine cH ?_;refine eP ?_;refine bX ?_;refine aV (asZ X.wp w id O.ok) ?_;refine bF ?_;revert F D;exact G.o):=h ⟨k⟩
def as0(h:aL P Q:=by
 intro G;refine afb ?_;refine xq ?_;exact G.o):=h ⟨k⟩
def af3(h:aL P Q:=by
 intro G;refine gb ?_;refine RG ?_;exact G.o):=h ⟨k⟩
def as1(h:aL P Q:=by
 intro G;refine gP ?_;refine fj ?_;refine afK ?_;exact G.o):=h ⟨k⟩
def UE(h:aL P Q:=by
 intro G;refine UD ?_;refine adD ?_;exact G.o):=h ⟨k⟩
def af4(h:aL P Q:=by
 intro G;refine ax Tryz.func474 λF D=>?_;refine cr ?_;refine aV (tv p bp _ _ 0 0) ?_;refine cH ?_;refine cU ?_;refine cj rfl (wU rfl rfl (i) bI) ?_;refine gP ?_;refine pT ?_;revert F D;exact G.o):=h ⟨k⟩
def af5(h:aL P Q:=by
 intro G;refine a7 ?_;refine wn λaO=>?_;refine wn λaR=>?_;refine wn λbW=>?_;refine bH ?_;refine wn λV=>?_;refine bF ?_;refine ir [8,9,10] [9] wy [ab V 32 [ptr X.h 0],cG X z s] ?_;refine bH ?_;revert aO aR bW V;exact G.o):=h ⟨k⟩
def af6(h:Q:=by
 refine EK ?_;intro aE aK;haveI:=(aX aE aK).iU;refine bz ?_;exact aeK):=h
def af7(h:aL P Q:=by
 intro G;refine aeo ?_;refine aA rfl (qF rfl) ?_;refine Bs ?_;exact G.o):=h ⟨k⟩
def af8(h:aL P Q:=by
 intro G;refine ax Tryz.func28 λF D=>?_;refine n0 ?_;intro U Z;refine bH ?_;refine cj rfl (b4 rfl ((by have bn:=af9 c;rw[h]at bn;exact bn)) bI) ?_;refine gP ?_;refine pT ?_;revert F D U Z;exact G.o):=h ⟨k⟩
def RI(h:aL P Q:=by
 intro G;refine xw ?_;intro aN aO aR bW;refine cO ?_;refine cH ?_;refine nG ?_;revert aN aO aR bW;exact G.o):=h ⟨k⟩
def aga(h:aL P Q:=by
 intro G;have cv:x.id=a:=B.cv;refine cr ?_;refine ct [] [10,201] (ab q 118 ((ee X x e).set (0+13) (af 2))::qI) ?_;refine cU ?_;refine bt (lZ X z s (PK:bZ) o) ?_;refine lY ?_;intro aE aK;refine cU ?_;refine cH ?_;revert cv aE aK;exact G.o):=h ⟨k⟩
def agb(h:aL P Q:=by
 intro G;refine af1 ?_;intro F D cv aE aK;refine cO ?_;revert F D cv aE aK;exact G.o):=h ⟨k⟩
def RJ(h:aL P Q:=by
 intro G;rintro _ _ ⟨z,rfl,rfl⟩;refine er ?_;refine aG ?_;refine wn λaN=>?_;refine aeH ?_;revert z aN;exact G.o):=h ⟨k⟩
def RK(h:Q:=by
 refine aV (BH X z s (X.C.bc+i) t o k J R) ?_;refine bF ?_;refine nQ ?_;refine a7 ?_;exact EO):=h
def agc(h:aL P Q:=by
 intro G;refine arW ?_;refine afA ?_;exact G.o):=h ⟨k⟩
def OE(h:aL P Q:=by
 intro G;refine vu ?_;intro F D;refine RC ?_;revert F D;exact G.o):=h ⟨k⟩
def RL(h:Q:=by
 refine aG ?_;refine xr ?_;intro j;exact Rt):=h
def RM(h:Q:=by
 refine aG ?_;refine xr ?_;intro j;exact Ru):=h
def agd(h:aL P Q:=by
 intro G;refine ir [18,23,24,25,35,36] [18,23,24,25,35] [1,5,9,13,17,21,25,29,33,37,41,45,49,53,57,61,65,69,77,81,85,89,105,109,113,117,121,125,129,133,74,94,98,102,136,142,146,3,3,3,3,102,98,136,142,146,3,3,3,3,3,98,94,102,136,142,146,3,3,3,3,102,94,136,142,146,3,3,3,3,3,102,94,98,136,142,146,3,3,3,3,98,94,136,142,146,3,3,3,3,3,3,98,74,94,102,136,142,146,3,3,3,3,102,94,136,142,146,3,3,3,3,3,102,74,94,136,142,146,3,3,3,3,3,3,102,74,94,98,136,142,146,3,3,3,3,98,94,136,142,146,3,3,3,3,3,98,74,94,136,142,146] [cG X z s,ab V 78 (dO b5),gM b5,fy X] ?_;refine cU ?_;refine jJ rfl .none rfl (fA rfl rfl (show 0<b5.states.length by omega)) (au) ?_;refine aG ?_;refine jJ rfl .none rfl (gy rfl (lL ft 2 o7 l rfl)) (au) ?_;refine fZ ?_;refine jJ rfl .none rfl (ks ((id -1:Nat):Int) eV rfl rfl) (au) ?_;refine jJ rfl .none rfl (fA rfl rfl (show id -1<X.C.aZ by omega)) (au) ?_;refine jJ rfl .none rfl (gy rfl (KD v)) (au) ?_;exact G.o):=h ⟨k⟩
def zz(h:aL P Q:=by
 intro G;refine xw ?_;intro aN aO aR bW;refine bX ?_;refine ir [13,14,15,16] [13,14,15] [1,5,9,13,17,21,25,29,33,37,41,45,49,54,58,62,66,3,3,3,3,58,54,62,66] [ab aN 106 [ptr (X.bq j) 0],ab aR 36 [bu id],cG X z s,b2 X.e5 .u64 (cf z.ai),ay (gv z.ai s.lets),ay (c8 X z.ap z.ai s.aC)] ?_;refine dx ?_;refine jJ rfl .none rfl (lA (ptr u 0) Zm rfl rfl) (au) ?_;revert aN aO aR bW;exact G.o):=h ⟨k⟩
def age(h:aL P Q:=by
 intro G;refine a7 ?_;refine wn λaO=>?_;refine wn λaR=>?_;refine wn λV=>?_;refine wn λcx=>?_;refine bH ?_;refine wn λc2=>?_;refine cr ?_;refine aA rfl (ti (max l.cw 0) ae rfl rfl) ?_;refine bF ?_;revert aO aR V cx c2;exact G.o):=h ⟨k⟩
def agf(h:aL P Q:=by
 intro G;refine ax Tryz.func338 λF D=>?_;refine Ks ?_;intro Z aN aO;refine lD ?_;refine bz ?_;refine aA rfl (fA rfl rfl bN) ?_;refine aG ?_;revert F D Z aN aO;exact G.o):=h ⟨k⟩
def agh(h:aL P Q:=by
 intro G;refine zr ?_;refine iQ rfl (Br rfl) ?_;rintro _ _ ⟨V,rfl,rfl⟩;refine qP ?_;refine asO ?_;revert V;exact G.o):=h ⟨k⟩
def YG(h:aL P Q:=by
 intro G;refine OE ?_;intro F D;refine km ?_;revert F D;exact G.o):=h ⟨k⟩
def agi(h:Q:=by
 refine cU ?_;refine aA rfl (fM (c:=true) (by rw[d];rfl) (qF rfl)) ?_;refine cO ?_;rw[show(qO X z s).set (0+26) (.bool true)=qO X z {s with shut:=true}from rfl];refine bF ?_;exact EO):=h
def agj(h:Q:=by
 refine aei ?_;exact afc):=h
def asu(h:Q:=by
 refine wn λc=>?_;exact RL):=h
def ast(h:Q:=by
 refine xr ?_;intro j;exact afB):=h
def asw(h:Q:=by
 refine wn λg=>?_;exact RL):=h
def asv(h:Q:=by
 refine xr ?_;intro j;exact afC):=h
def asy(h:Q:=by
 refine wn λc=>?_;exact RM):=h
def asx(h:Q:=by
 refine xr ?_;intro j;exact afD):=h
def asA(h:Q:=by
 refine wn λg=>?_;exact RM):=h
def asz(h:Q:=by
 refine xr ?_;intro j;exact afE):=h
def agk(h:aL P Q:=by
 intro G;refine ct [14,15] [113,1,203] [ab U 36 [bu id],ab Z 110 [ptr q 0],ab aN 87 (fz e),ab q 118 (ee X n aU),jf aU.jE (h5 aU.es)] ?_;refine dx ?_;refine go_vs rfl .none rfl (UA (ul ea cQ (Th.gG n.timers e.name)) d rfl rfl) (au) ?_;refine aG ?_;refine wn λr=>?_;refine aG ?_;refine gp λi m=>?_;refine aG ?_;refine go_u rfl .none (arv rfl rfl rfl) (λC=>absurd C bN) ?_;refine bF ?_;revert r i m;exact G.o):=h ⟨k⟩
def T7(h:aL P Q:=by
 intro G;refine xw ?_;intro aN aO aR bW;refine wn λV=>?_;refine bH ?_;refine cj rfl (b4 rfl (as2 k.states k.sa k.sc 385 [ptr aO 0] [ba,ab aO 9 [S state]] (λx=>decide (x.name=state)) (by have:=hk.alF;omega) (λh s=>iX.get s) (λx _=>ye (alI aO state x))) bI) ?_;refine gP ?_;refine fj ?_;revert aN aO aR bW V;exact G.o):=h ⟨k⟩
def Uj(h:Q:=by
 refine nr ?_;refine aV (alG e n aS) ?_;refine eP ?_;refine L7 ?_;intro m a70 b;refine fm (i+1,{p with b8:=p.b8++[{e with n:=o4 e n,value:=2}]},a70,b) (bM.send Y z4 z3 d y ae) (show r.b8.length -(i+1)<r.b8.length -i by omega) de (by dsimp only;rw[<-Uf (e:={e with n:=o4 e n,value:=2}) rfl,show(p.b8++[({e with n:=o4 e n,value:=2}:fw)]).length=p.b8.length+1 from by simp];exact(au))):=h
def agl(h:Q:=by
 refine h9 [14,17] [14] [(0,.bJ),(1,.loc),(2,.loc),(3,.loc),(4,.loc),(5,.loc),(6,.loc),(7,.loc),(8,.loc),(9,.loc),(10,.loc),(11,.loc),(12,.loc),(13,.loc),(16,.bJ),(14,.c0),(15,.loc),(17,.c0)] qI mixed gS ?_;refine eP ?_;refine bt (agm X N j a) ?_;rintro _ _ ⟨S,rfl,rfl⟩;refine er ?_;refine aG ?_;refine go_v rfl .none rfl (jw Tryz.underlying169 rfl rfl) ?_;refine aV (pA (agn aQ) (jP X z.ap z.ai s.aC j S I M t (.fJ (wK X.C.bA (Th.sZ X.C j) a)) k J R)) ?_;refine bh ?_;exact JX):=h
def ago(h:aL P Q:=by
 intro G;refine ax Tryz.func302 λF D=>?_;have d:0<=min (max e.b5.limit 0) 100/\min (max e.b5.limit 0) 100<=100:=ae;have ip:1<=min (max e.b5.within 1) 4095/\min (max e.b5.within 1) 4095<=4095:=ae;refine a7 ?_;refine ct [9] [106,3,201,1,201,1] [ab aM 110 [ptr q 0],ab av 261 (iA m),ab U 248 [ptr p 0],ab q 118 (ee X x e),cW X p (.eY ac)] ?_;refine cr ?_;refine aV (Ck.anc X.dt X.C.dC p ac hp) ?_;refine aG ?_;refine go_v rfl .none rfl (pU (Th.q0 ac.val) (by exact as3 V) rfl) ?_;refine aV (Go.Proofs.YtnnhpnccfnghdaaGreat.L.atn e.jD (min (max e.b5.limit 0) 100) (min (max e.b5.within 1) 4095) m.who (Th.q0 ac.val) x.given d ip az) ?_;revert F D d ip;exact G.o):=h ⟨k⟩
def RN(h:aL P Q:=by
 intro G;have v:x.cF.length<1099511627776:=d7;obtain⟨c,f,p⟩:=id aQ;refine a7 ?_;refine wn λbW=>?_;refine bX ?_;refine ct [] [14,201] [ab bW 261 (iA ⟨l,b,reason⟩),cG X z s,ab q 118 (ee X x e),ay (c8 X z.ap z.ai s.aC)] ?_;refine fZ ?_;refine bt (lZ X z s ({Th.c3 with kind:=10,dK:=b,cw:=x.id,why:=d,name:=reason}:bZ) o) ?_;refine lY ?_;intro aE aK;revert v c f p bW aE aK;exact G.o):=h ⟨k⟩
def RO(h:Q:=by
 refine aG ?_;refine Ko ?_;intro c4;exact Rv):=h
def KH(h:aL P Q:=by
 intro G;refine adR ?_;refine go_v rfl (.yes rfl rfl rfl) rfl (lA (.bool true) (by rw[aew,p];rfl) rfl rfl) ?_;refine bF ?_;refine lD ?_;refine bX ?_;refine ad0 ?_;exact G.o):=h ⟨k⟩
def agp(h:Q:=by
 refine KE ?_;exact aeb):=h
def agq(h:Q:=by
 refine KE ?_;refine e8 ?_ ?_
 . exact as4
 . exact as5):=h
def agr(h:aL P Q:=by
 intro G;refine RB ?_;intro F D Z;refine nG ?_;refine cO ?_;refine cH ?_;revert F D Z;exact G.o):=h ⟨k⟩
def ags(h:aL P Q:=by
 intro G;refine aft ?_;refine BY ?_;exact G.o):=h ⟨k⟩
def agt(h:aL P Q:=by
 intro G;refine afR ?_;intro Z aN aO;refine cU ?_;refine wn λaR=>?_;refine cU ?_;revert Z aN aO aR;exact G.o):=h ⟨k⟩
def agu(h:aL P Q:=by
 intro G;refine ch ?_;refine aA rfl (apP rfl) ?_;refine bz ?_;refine bt (cc) ?_;rintro _ _ ⟨rfl,cu,p,f,c,a8,fd,rfl⟩;refine er ?_;refine bH ?_;refine cj rfl (Oj rfl rfl (i cu p fd) bI) ?_;refine Ao ?_;revert cu p f c a8 fd;exact G.o):=h ⟨k⟩
def YO(h:aL P Q:=by
 intro G;refine vu ?_;intro F D;refine as0 ?_;revert F D;exact G.o):=h ⟨k⟩
def YS(h:aL P Q:=by
 intro G;refine YG ?_;intro F D;refine km ?_;revert F D;exact G.o):=h ⟨k⟩
def as6(h:Q:=by
 refine wn λV=>?_;refine aG ?_;refine bt (agv X (a:=l.to.toNat) b id) ?_;refine lS ?_;intro p;exact afl):=h
def as7(h:Q:=by
 refine bt (agv X (a:=l.to.toNat) b id) ?_;refine py ?_;intro p;refine wn λV=>?_;exact afl):=h
def asD(h:Q:=by
 refine Ko ?_;intro c4;exact afH):=h
def asC(h:Q:=by
 refine wn λp=>?_;exact RO):=h
def asF(h:Q:=by
 refine Ko ?_;intro c4;exact afI):=h
def asE(h:Q:=by
 refine wn λT=>?_;exact RO):=h
def agw(h:aL P Q:=by
 intro G;refine af3 ?_;refine J5 ?_;exact G.o):=h ⟨k⟩
def agx(h:aL P Q:=by
 intro G;refine lh (H:=fH ea cQ (Th.gG n.timers e.name)::ay (iz (mx aU.es e.name))::((ab aM 248 [ptr p 0]::ab av 32 [ptr X.h 0]::ab U 36 [bu id]::ab Z 110 [ptr q 0]::ab aN 87 (fz e)::aak)++((ab q 118 (ee X n aU)::dv aU.ka aU.kc n.kids::dv aU.hP aU.hQ n.cF::gj aU.gJ X.C.dW n.aside n.front::h4 aU.jD (min (max aU.b5.limit 0) 100) (min (max aU.b5.within 1) 4095) n.given::b2 aU.gp .i64 (n.watched.map λw=>(w,.bool true))::jf aU.jE (h5 aU.es)::gM aU.b5::ZT)++D))) (λh E=>g5 _ h ((au) h E)) ?_;refine gb ?_;refine bh ?_;refine aV (Ck.VT X.dt X.C.dC p ac hp) ?_;refine cH ?_;refine bz ?_;refine ct [] [5,201,1] [ab av 32 [ptr X.h 0],ab U 36 [bu id],cG X z s] ?_;refine bz ?_;refine aV (Lg.OD X.ld s.bf id) ?_;refine aG ?_;refine cH ?_;exact G.o):=h ⟨k⟩
def agy(h:aL P Q:=by
 intro G;refine RI ?_;intro aN aO aR bW;refine nG ?_;refine cO ?_;revert aN aO aR bW;exact G.o):=h ⟨k⟩
def agz(h:aL P Q:=by
 intro G;refine a7 ?_;refine wn λav=>?_;refine bh ?_;refine aV (as8) ?_;refine bX ?_;refine lD ?_;refine bz ?_;refine wn λZ=>?_;refine ch ?_;refine bt (as9 bS pc K ba o hk pp) ?_;rintro _ _ ⟨aE,aK,fq,az,rfl,rfl⟩;refine er ?_;revert av Z aE aK fq az;exact G.o):=h ⟨k⟩
def agA(h:aL P Q:=by
 intro G;refine eP ?_;refine o8 rfl rfl hW ?_;refine XK ?_;refine Rb ?_;refine aG ?_;refine o8 rfl rfl fW ?_;exact G.o):=h ⟨k⟩
def agB(h:aL P Q:=by
 intro G;have aB:jY X j=j:=bg i;refine ae3 ?_;refine fZ ?_;refine go_v rfl (.yes rfl rfl rfl) rfl (fo (((2+j:Nat):Int)) (by rw[aB,jv (by omega)];omega) rfl rfl) ?_;refine go_c rfl (.yes rfl rfl rfl) rfl (b4 rfl (amc X.m s.L z.tt (2+j) ae) bI) ?_;refine gP ?_;refine aG ?_;revert aB;exact G.o):=h ⟨k⟩
def agC(h:Q:=by
 refine cr ?_;refine cH ?_;refine bh ?_;refine ir [9,10,11] [10] I9 [ab aR 32 [ptr X.h 0],ab aN 36 [bu id],ab bW 3 [af l.to],cG X z s,fy X] ?_;refine bz ?_;refine jJ rfl .none rfl (ks ((l.to.toNat -1:Nat):Int) eV rfl rfl) (au) ?_;refine jJ rfl .none rfl (fA rfl rfl (show l.to.toNat -1<X.C.aZ by omega)) (au) ?_;refine jJ rfl .none rfl (gy rfl (KD b)) (au) ?_;refine aG ?_;refine e8 ?_ ?_
 . exact as7
 . exact as6):=h
def agD(h:aL P Q:=by
 intro G;refine RI ?_;intro aN aO aR bW;refine nG ?_;refine nG ?_;revert aN aO aR bW;exact G.o):=h ⟨k⟩
def agE(h:aL P Q:=by
 intro G;refine ax Tryz.func210 λF D=>?_;refine Kz ?_;refine bh ?_;refine ct [] [5,201,1] aay ?_;refine bz ?_;refine aV (Lg.OD X.ld s.bf id) ?_;refine aG ?_;refine cH ?_;revert F D;exact G.o):=h ⟨k⟩
def agF(h:Q:=by
 refine afw ?_;refine fZ ?_;refine bt (ae7 X z s i dJ O c5 fl U aR Z fl c5 o) ?_;exact aem):=h
def asW(h:Q:=by
 refine wn λaN=>?_;refine aG ?_;refine bt (xx X.m B.b (iK false) 1) ?_;refine RE ?_;intro z;exact adY):=h
def asV(h:Q:=by
 refine bt (xx X.m B.b (iK false) 1) ?_;refine RJ ?_;intro z aN;exact adY):=h
def agG(h:aL P Q:=by
 intro G;refine cO ?_;refine lD ?_;refine bX ?_;refine ct [] [5,201] [ab V 32 [ptr X.h 0],ab aR 36 [bu id],cG X z s] ?_;refine bz ?_;refine aV (Lg.aq1 X.ld s.bf id aS) ?_;refine bF ?_;refine adm ?_;refine bt (lZ X z s ({Th.c3 with kind:=3,dK:=x.id,id:=id}:bZ) o) ?_;refine lY ?_;intro aE aK;refine dx ?_;revert aE aK;exact G.o):=h ⟨k⟩
def agH(h:Q:=by
 refine bF ?_;refine nQ ?_;refine bF ?_;refine cj rfl (b4 rfl (tQ X z s id 5 u l K bN N.s5 aQ o aS) bI) ?_;refine EK ?_;intro aE aK;haveI:=(aX aE aK).iU;refine bz ?_;refine cj rfl (oE rfl rfl (gx (H:=[a1 X z.ap z.ai j 0 k I M,ab q 118 (ee X x e),dv e.ka e.kc x.kids,dv e.hP e.hQ x.cF,gj e.gJ X.C.dW x.aside x.front,h4 e.jD (min (max e.b5.limit 0) 100) (min (max e.b5.within 1) 4095) x.given,b2 e.gp .i64 (x.watched.map λw=>(w,.bool true)),jf e.jE (h5 e.es),ay (iz e.es),gM e.b5,ay ((e3 X z.ap s.aI).set (a -1) fu),cG X {z with cC:=aE,cD:=aK} (kp s id l.to 5),dQ aE aK (kp s id l.to 5).trace,fp z.na z.fv s.notes,b2 X.am .i64 (cf z.ap),b2 X.e5 .u64 (cf z.ai),ay (gv z.ai s.lets),Lg.dp X.ld (dg s.bf id 8),ey X.c4 X.C.dF (s.dead++[(id,l.to,5)]),cg X.m s.L z.tt,fI X,fC X s.bs,eD X.bG X.m X.C.bG X.C.aZ,ay (ed X),fy X,gw X,hc X,gk X,ay (c8 X z.ap z.ai s.aC)]) (λD h E=>Sat.tail (λh E=>by have:=jr (X:=X) (z:={z with cC:=aE,cD:=aK}) (s:=(kp s id l.to 5)) (x:=x) (hm:=x) B Y D h E;rw[sL (X:=X) (ap:=z.ap) (q:=q) (s:=(kp s id l.to 5)) B]at this;exact this) E) (aX aE aK).spec) bI) ?_;exact Ri):=h
def agI(h:Q:=by
 refine KH ?_;exact aeb):=h
def agJ(h:Q:=by
 refine KH ?_;refine e8 ?_ ?_
 . exact ata
 . exact atb):=h
def agK(h:aL P Q:=by
 intro G;refine agD ?_;intro aN aO aR bW;refine cO ?_;revert aN aO aR bW;exact G.o):=h ⟨k⟩
def atc(h:aL P Q:=by
 intro G;have hlen:=K.hlen;have az:=K.az O;refine gb ?_;have T:=K.flat.length_eq;have ao:=O.len;refine RC ?_;refine iQ rfl (tX) ?_;rintro _ _ ⟨Z,rfl,rfl⟩;revert hlen az T ao Z;exact G.o):=h ⟨k⟩
def agL(h:Q:=by
 refine aG ?_;refine bt (Lg.Ik) ?_;rintro _ _ ⟨ld,rfl,rfl⟩;refine er ?_;exact RO):=h
def agM(h:Q:=by
 refine aer ?_;intro d;rw[show(min (max (X.C.dW:Int) 0) 64).toNat=X.C.dW from by have:=N.p1;omega];exact RL):=h
def agN(h:Q:=by
 refine aer ?_;intro d;rw[show(min (max (X.C.dW:Int) 0) 64).toNat=X.C.dW from by have:=N.p1;omega];exact RM):=h
def agO(h:aL P Q:=by
 intro G;refine cO ?_;refine EN ?_;refine cH ?_;refine bh ?_;refine ct [] [6,201,1] [ab bW 261 (iA ⟨l,b,reason⟩),ab q 118 (ee X x e),dv e.hP e.hQ x.cF] ?_;refine bh ?_;refine go_c rfl .none rfl (b4 rfl (I6 x.cF e.hP e.hQ b (dv e.hP e.hQ x.cF) ae) bI) ?_;refine gP ?_;refine fj ?_;rw[a2];refine aG ?_;refine cH ?_;exact G.o):=h ⟨k⟩
def agP(h:aL P Q:=by
 intro G;have b:x.kids.length<=1099511627776:=hlen;refine xw ?_;intro aN aO aR bW;refine bF ?_;refine ct [] [6,201,15] PO ?_;refine bh ?_;refine go_c rfl .none rfl (b4 rfl (I6 x.kids e.ka e.kc m.who (dv e.ka e.kc x.kids) ae) bI) ?_;refine gP ?_;refine fj ?_;rw[a2];refine aG ?_;refine cH ?_;revert b aN aO aR bW;exact G.o):=h ⟨k⟩
def agQ(h:aL P Q:=by
 intro G;refine agA ?_;refine aV (Mg m L t) ?_;refine Rb ?_;exact G.o):=h ⟨k⟩
def agR(h:aL P Q:=by
 intro G;refine agP ?_;intro b aN aO aR bW;refine bz ?_;refine cH ?_;revert b aN aO aR bW;exact G.o):=h ⟨k⟩
def agS(h:Q:=by
 haveI:=gg (X:=X) (ap:=z.ap) (ai:=z.ai) J;haveI:=sN (X:=X) (ap:=z.ap) (ai:=z.ai) J;refine Q6 ?_;refine bF ?_;refine ct [11] [108,3,201,2,201] [ab aM 169 [ptr p 0],ab av 106 en,cW X p (.fJ ac),cG X z s,b2 X.am .i64 (cf z.ap),ay (c8 X z.ap z.ai s.aC)] ?_;refine cO ?_;refine aV (apf X.cS X.C.bA p ac hp) ?_;refine aG ?_;refine go_v rfl .none rfl (pU ac.val y5 rfl) ?_;refine go_v rfl .none rfl (lA (ptr q 0) (by rw[aX];rfl) rfl rfl) ?_;refine bt (h) ?_;exact xt):=h
def WT(h:aL P Q:=by
 intro G;unfold jd;dsimp only;refine cr ?_;refine aV (WS _ _ _ _ _ _ _ _) ?_;refine a7 ?_;refine lD ?_;refine bX ?_;refine ct [] [32] [] ?_;refine fZ ?_;refine go_v rfl .none rfl (fo ((b+2:Nat):Int) eV rfl rfl) ?_;refine cO ?_;refine go_v rfl .none rfl (ts _ (Wu R.1 a) rfl rfl ae) ?_;refine aG ?_;refine go_v rfl .none rfl (rs ((2*(tt%(n:Int)).toNat:Nat):Int) eV rfl rfl) ?_;refine go_v rfl .none rfl (fo ((ls b n tt:Nat):Int) (by unfold ls;rw[jv (by omega)];omega) rfl rfl) ?_;refine nr ?_;refine aA rfl (fM rC (nb rfl rfl)) ?_;exact G.o):=h ⟨k⟩
def agT(h:aL P Q:=by
 intro G;refine age ?_;intro aO aR V cx c2;refine ct [] [15,201,1] acu ?_;refine fZ ?_;refine go_v rfl .none rfl (Md Tryz.underlying111 (let⟨i,a,_,c,_⟩:=HY Oe;⟨i,a,c⟩) rfl) ?_;refine ae4 ?_;revert aO aR V cx c2;exact G.o):=h ⟨k⟩
def agU(h:Q:=by
 refine aeY ?_;refine h9 [] [] [(0,.loc),(1,.loc),(2,.loc),(3,.loc),(4,.loc),(5,.loc),(6,.loc),(7,.loc)] [] mixed gS ?_;refine Q1 ?_;refine pw ?_;refine go_v rfl .none rfl (rs ((3*l:Nat):Int) eV rfl rfl) ?_;refine go_v rfl .none rfl (H4 ((kx l due:Nat):Int) (KI _ _) rfl rfl ae Ec) ?_;refine go_v rfl .none rfl (ts ((kx l due%8:Nat):Int) (Bg _ 8) rfl rfl bN) ?_;refine go_v rfl .none rfl (mj rfl) ?_;refine go_v rfl .none rfl (mj rfl) ?_;refine go_nil ?_;refine hB ?_;refine oL ?_;refine Wl (.inl rfl) rfl rfl rfl _ (⟨⟨l,kx l due%8,rfl,by omega,yP _ bN,atd r aw (by first|exact y|(left;omega))⟩,rfl⟩) (au)):=h
def WV(h:aL P Q:=by
 intro G;refine WT ?_;refine Hz ?_;exact G.o):=h ⟨k⟩
def agV(h:Q:=by
 refine ae5 ?_;rw[bg f,bg f];refine aG ?_;refine go_v rfl .none rfl (fM (c:=true) rC (mc rfl rfl)) ?_;refine bh ?_;refine cj rfl (b4 rfl (tQ X z s id 1 u l K bN N.s5 aQ o aS) bI) ?_;refine EK ?_;intro aE aK;haveI:=(aX aE aK).iU;refine bz ?_;refine cj rfl (oE rfl rfl (gx (H:=[a1 X z.ap z.ai j 0 k I M,ab q 118 (ee X x e),dv e.ka e.kc x.kids,dv e.hP e.hQ x.cF,gj e.gJ X.C.dW x.aside x.front,h4 e.jD (min (max e.b5.limit 0) 100) (min (max e.b5.within 1) 4095) x.given,b2 e.gp .i64 (x.watched.map λw=>(w,.bool true)),jf e.jE (h5 e.es),ay (iz e.es),gM e.b5,ay ((e3 X z.ap s.aI).set (a -1) fu),cG X {z with cC:=aE,cD:=aK} (kp s id l.to 1),dQ aE aK (kp s id l.to 1).trace,fp z.na z.fv s.notes,b2 X.am .i64 (cf z.ap),b2 X.e5 .u64 (cf z.ai),ay (gv z.ai s.lets),Lg.dp X.ld (dg s.bf id 8),ey X.c4 X.C.dF (s.dead++[(id,l.to,1)]),cg X.m s.L z.tt,fI X,fC X s.bs,eD X.bG X.m X.C.bG X.C.aZ,ay (ed X),fy X,gw X,hc X,gk X,ay (c8 X z.ap z.ai s.aC)]) (λD h E=>Sat.tail (λh E=>by have:=jr (X:=X) (z:={z with cC:=aE,cD:=aK}) (s:=(kp s id l.to 1)) (x:=x) (hm:=x) B Y D h E;rw[sL (X:=X) (ap:=z.ap) (q:=q) (s:=(kp s id l.to 1)) B]at this;exact this) E) (aX aE aK).spec) bI) ?_;exact Ri):=h
def agW(h:Q:=by
 refine agG ?_;intro aE aK;refine lD ?_;refine cr ?_;refine cj rfl (b4 rfl (gx (H:=[ab aN 106 [ptr (X.bq j) 0],ab aO 110 [ptr q 0],ab cx 311 [ptr u 0],ab c2 356 (lK bS pc (⟨false,m,b,r,d⟩:ds)),ab V 32 [ptr X.h 0],ab aR 36 [bu id],ab bW 1 [bi I M],kA bS pc m,a1 X z.ap z.ai j 0 k I M]++[ab q 118 (ee X x e),dv e.ka e.kc x.kids,dv e.hP e.hQ x.cF,gj e.gJ X.C.dW x.aside x.front,h4 e.jD (min (max e.b5.limit 0) 100) (min (max e.b5.within 1) 4095) x.given,b2 e.gp .i64 (x.watched.map λw=>(w,.bool true)),jf e.jE (h5 e.es),ay (iz e.es),gM e.b5,ay ((e3 X z.ap s.aI).set (a -1) fu),cG X {z with cC:=aE,cD:=aK} {s with bf:=dg s.bf id 7,trace:=s.trace++[({Th.c3 with kind:=3,dK:=x.id,id:=id}:bZ)]},dQ aE aK (s.trace++[({Th.c3 with kind:=3,dK:=x.id,id:=id}:bZ)]),fp z.na z.fv s.notes,b2 X.am .i64 (cf z.ap),b2 X.e5 .u64 (cf z.ai),ay (gv z.ai s.lets),Lg.dp X.ld (dg s.bf id 7),ey X.c4 X.C.dF s.dead,cg X.m s.L z.tt,fI X,fC X s.bs,eD X.bG X.m X.C.bG X.C.aZ,ay (ed X),fy X,gw X,hc X,gk X,ay (c8 X z.ap z.ai s.aC)]) (λD h E=>(show∀h,Sat _ h->Sat (([ab aN 106 [ptr (X.bq j) 0],ab aO 110 [ptr q 0],ab cx 311 [ptr u 0],ab c2 356 (lK bS pc (⟨false,m,b,r,d⟩:ds)),ab V 32 [ptr X.h 0],ab aR 36 [bu id],ab bW 1 [bi I M],kA bS pc m,a1 X z.ap z.ai j 0 k I M]++bj X {z with cC:=aE,cD:=aK} (Th.c7 {s with bf:=dg s.bf id 7,trace:=s.trace++[({Th.c3 with kind:=3,dK:=x.id,id:=id}:bZ)]} a x))++D) h from λh E=>by rw[jI];exact KJ [ab aN 106 [ptr (X.bq j) 0],ab aO 110 [ptr q 0],ab cx 311 [ptr u 0],ab c2 356 (lK bS pc (⟨false,m,b,r,d⟩:ds)),ab V 32 [ptr X.h 0],ab aR 36 [bu id],ab bW 1 [bi I M],kA bS pc m,a1 X z.ap z.ai j 0 k I M] (λh E=>jr (X:=X) (z:={z with cC:=aE,cD:=aK}) (s:={s with bf:=dg s.bf id 7,trace:=s.trace++[({Th.c3 with kind:=3,dK:=x.id,id:=id}:bZ)]}) (x:=x) (e:=e) B ⟨Y.b5,Y.la,Y.es⟩ D h E) h E) h E) (h aN aO aR bW V cx c2 bS pc aE aK)) bI) ?_;exact B0):=h
def agX(h:aL P Q:=by
 intro G;refine agT ?_;intro aO aR V cx c2;refine nG ?_;revert aO aR V cx c2;exact G.o):=h ⟨k⟩
def T9(h:aL P Q:=by
 intro G;refine T7 ?_;intro aN aO aR bW V;rw[d];refine Ub ?_;refine cj rfl (b4 rfl (ate s.rows s.ra s.rc 386 [ptr aR 0,ptr bW 0] [ba,ab aR 9 [S tag],ab bW 3 [af n]] (qk tag n) (by have:=hk.row s g5;omega) (λh s=>iX.get s) (λx _=>ye (alJ aR bW tag n x))) bI) ?_;refine gP ?_;refine fj ?_;revert aN aO aR bW V;exact G.o):=h ⟨k⟩
def XM(h:aL P Q:=by
 intro G;refine agQ ?_;refine aG ?_;refine aeN ?_;exact G.o):=h ⟨k⟩
def agY(h:Q:=by
 refine agf ?_;intro F D Z aN aO;refine bt (agZ (X.r true)) ?_;refine afS ?_;intro q aR;refine aV (AB p q (X.r true) X.bp x y _ rfl 0 0 (gU 12 0) rfl) ?_;exact ade):=h
def WX(h:aL P Q:=by
 intro G;refine WV ?_;refine Hz ?_;exact G.o):=h ⟨k⟩
def ag0(h:aL P Q:=by
 intro G;refine agX ?_;intro aO aR V cx c2;refine nG ?_;revert aO aR V cx c2;exact G.o):=h ⟨k⟩
def HH(h:aL P Q:=by
 intro G;refine XM ?_;refine cU ?_;exact G.o):=h ⟨k⟩
def ag1(h:aL P Q:=by
 intro G;refine agO ?_;refine bX ?_;refine ct [7,8] [105,2,202,2,201] [ab bW 261 (iA ⟨l,b,reason⟩),ab q 118 (ee X x e)] ?_;refine ch ?_;refine wn λr=>?_;refine aG ?_;refine gp λi m=>?_;rw[show x.cF.length+1=(x.cF++[(b:Int)]).length from by simp,show iE x.cF++[af b]=iE (x.cF++[(b:Int)])from by simp];refine fx ?_;refine cH ?_;revert r i m;exact G.o):=h ⟨k⟩
def WZ(h:aL P Q:=by
 intro G;refine WX ?_;refine Hz ?_;exact G.o):=h ⟨k⟩
def ag2(h:aL P Q:=by
 intro G;refine ag0 ?_;intro aO aR V cx c2;refine nG ?_;revert aO aR V cx c2;exact G.o):=h ⟨k⟩
def ag3(h:Q:=by
 refine agG ?_;intro aE aK;refine nQ ?_;refine ct [] [8,201] [ab aO 110 [ptr q 0],ab cx 311 [ptr u 0],ab q 118 (ee X x e),ay (gv z.ai s.lets)] ?_;refine bH ?_;refine go_n0 rfl .none (ON rfl rfl) ?_;rintro _ _ ⟨rfl,rfl⟩;rw[ag4];refine cU ?_;refine cj rfl (b4 rfl (gx (H:=[ab aN 106 [ptr (X.bq j) 0],ab aO 110 [ptr q 0],ab cx 311 [ptr u 0],ab c2 356 (lK bS pc (⟨false,m,b,r,d⟩:ds)),ab V 32 [ptr X.h 0],ab aR 36 [bu id],ab bW 1 [bi I M],kA bS pc m,a1 X z.ap z.ai j 0 k I M]++[ab q 118 (ee X x e),dv e.ka e.kc x.kids,dv e.hP e.hQ x.cF,gj e.gJ X.C.dW x.aside x.front,h4 e.jD (min (max e.b5.limit 0) 100) (min (max e.b5.within 1) 4095) x.given,b2 e.gp .i64 ((x.watched.erase l.cw).map λw=>(w,.bool true)),jf e.jE (h5 e.es),ay (iz e.es),gM e.b5,ay ((e3 X z.ap s.aI).set (a -1) fu),cG X {z with cC:=aE,cD:=aK} {s with bf:=dg s.bf id 7,trace:=s.trace++[({Th.c3 with kind:=3,dK:=x.id,id:=id}:bZ)]},dQ aE aK (s.trace++[({Th.c3 with kind:=3,dK:=x.id,id:=id}:bZ)]),fp z.na z.fv s.notes,b2 X.am .i64 (cf z.ap),b2 X.e5 .u64 (cf z.ai),ay (gv z.ai s.lets),Lg.dp X.ld (dg s.bf id 7),ey X.c4 X.C.dF s.dead,cg X.m s.L z.tt,fI X,fC X s.bs,eD X.bG X.m X.C.bG X.C.aZ,ay (ed X),fy X,gw X,hc X,gk X,ay (c8 X z.ap z.ai s.aC)]) (λD h E=>(show∀h,Sat _ h->Sat (([ab aN 106 [ptr (X.bq j) 0],ab aO 110 [ptr q 0],ab cx 311 [ptr u 0],ab c2 356 (lK bS pc (⟨false,m,b,r,d⟩:ds)),ab V 32 [ptr X.h 0],ab aR 36 [bu id],ab bW 1 [bi I M],kA bS pc m,a1 X z.ap z.ai j 0 k I M]++bj X {z with cC:=aE,cD:=aK} (Th.c7 {s with bf:=dg s.bf id 7,trace:=s.trace++[({Th.c3 with kind:=3,dK:=x.id,id:=id}:bZ)]} a {x with watched:=x.watched.erase l.cw}))++D) h from λh E=>by rw[jI];exact KJ [ab aN 106 [ptr (X.bq j) 0],ab aO 110 [ptr q 0],ab cx 311 [ptr u 0],ab c2 356 (lK bS pc (⟨false,m,b,r,d⟩:ds)),ab V 32 [ptr X.h 0],ab aR 36 [bu id],ab bW 1 [bi I M],kA bS pc m,a1 X z.ap z.ai j 0 k I M] (λh E=>jr (X:=X) (z:={z with cC:=aE,cD:=aK}) (s:={s with bf:=dg s.bf id 7,trace:=s.trace++[({Th.c3 with kind:=3,dK:=x.id,id:=id}:bZ)]}) (x:={x with watched:=x.watched.erase l.cw}) (e:=e) B ⟨Y.b5,Y.la,Y.es⟩ D h E) h E) h E) (h aN aO aR bW V cx c2 bS pc aE aK)) bI) ?_;exact B0):=h
def as5(h:Q:=by
 refine Kv ?_;intro c2 bS pc;exact agW):=h
def as4(h:Q:=by
 refine Kw ?_;intro bS pc c2;exact agW):=h
def asj(h:Q:=by
 refine Kv ?_;intro c2 bS pc;exact agV):=h
def asi(h:Q:=by
 refine Kw ?_;intro bS pc c2;exact agV):=h
def ag5(h:Q:=by
 refine ae5 ?_;rw[a6 f,a6 f];refine aG ?_;refine go_v rfl .none rfl (fM (c:=false) rC (mc rfl rfl)) ?_;refine bF ?_;refine ct [] [5,201] [ab V 32 [ptr X.h 0],ab aR 36 [bu id],cG X z s] ?_;refine bz ?_;refine aV (Lg.Bq X.ld s.bf id 3 aS) ?_;refine bX ?_;refine adm ?_;refine bt (lZ X z s ({Th.c3 with kind:=5,dK:=x.id,id:=id}:bZ) o) ?_;refine lY ?_;intro aE aK;haveI:=(aX aE aK).iU;refine bh ?_;refine bt (gx (H:=[a1 X z.ap z.ai j 0 k I M,ab q 118 (ee X x e),dv e.ka e.kc x.kids,dv e.hP e.hQ x.cF,gj e.gJ X.C.dW (x.aside++[id]) x.front,h4 e.jD (min (max e.b5.limit 0) 100) (min (max e.b5.within 1) 4095) x.given,b2 e.gp .i64 (x.watched.map λw=>(w,.bool true)),jf e.jE (h5 e.es),ay (iz e.es),gM e.b5,ay ((e3 X z.ap s.aI).set (a -1) fu),cG X {z with cC:=aE,cD:=aK} {s with bf:=du s.bf id 3,trace:=s.trace++[({Th.c3 with kind:=5,dK:=x.id,id:=id}:bZ)]},dQ aE aK (s.trace++[({Th.c3 with kind:=5,dK:=x.id,id:=id}:bZ)]),fp z.na z.fv s.notes,b2 X.am .i64 (cf z.ap),b2 X.e5 .u64 (cf z.ai),ay (gv z.ai s.lets),Lg.dp X.ld (du s.bf id 3),ey X.c4 X.C.dF s.dead,cg X.m s.L z.tt,fI X,fC X s.bs,eD X.bG X.m X.C.bG X.C.aZ,ay (ed X),fy X,gw X,hc X,gk X,ay (c8 X z.ap z.ai s.aC)]) (λD h E=>Sat.tail (λh E=>jr (X:=X) (z:={z with cC:=aE,cD:=aK}) (s:={s with bf:=du s.bf id 3,trace:=s.trace++[({Th.c3 with kind:=5,dK:=x.id,id:=id}:bZ)]}) (x:={x with aside:=x.aside++[id]}) (e:=e) B ⟨Y.b5,Y.la,Y.es⟩ D h E) E) (aX aE aK).spec) ?_;exact zx):=h
def ag6(h:aL P Q:=by
 intro G;refine ag2 ?_;intro aO aR V cx c2;refine nG ?_;revert aO aR V cx c2;exact G.o):=h ⟨k⟩
def WY(h:aL P Q:=by
 intro G;refine WZ ?_;refine eP ?_;refine bX ?_;refine aA rfl (fM rC (nb rfl rfl)) ?_;exact G.o):=h ⟨k⟩
def ag7(h:aL P Q:=by
 intro G;refine ax Tryz.func53 λF D=>?_;have b:=N.h1;have a:=N.bm;refine n0 ?_;intro U Z;refine bz ?_;refine ct [] [8,201,1] [ab U 32 [ptr X.h 0],ab Z 60 Eo,cG X z s] ?_;refine adj ?_;refine go_c rfl .none rfl (b4 rfl (KB (i:Int) 0 ((X.C.cK -1:Nat):Int) ae) bI) ?_;refine aeL ?_;refine ct [11] [111,201,1,201] [ab U 32 [ptr X.h 0],ab Z 60 Eo,cG X z s,hc X] ?_;refine bh ?_;refine go_vs rfl .none rfl (fA rfl rfl (show i<X.C.cK by omega)) (au) ?_;refine go_vs rfl .none rfl (gy rfl (ag8 al)) (au) ?_;refine a7 ?_;refine go_vs rfl .none rfl (ks (-1 -(i:Int)) y5 rfl rfl) (au) ?_;refine wn λaR=>?_;refine bh ?_;refine ct [] [15] [ab U 32 [ptr X.h 0],ab Z 60 Eo,cG X z s,b2 X.am .i64 (cf z.ap)] ?_;refine bF ?_;refine cH ?_;revert F D b a U Z aR;exact G.o):=h ⟨k⟩
def ag9(h:aL P Q:=by
 intro G;refine ag7 ?_;intro F D b a U Z aR;refine bh ?_;revert F D b a U Z aR;exact G.o):=h ⟨k⟩
def aha(h:aL P Q:=by
 intro G;refine ag7 ?_;intro F D b a U Z aR;refine gi ?_;refine bF ?_;refine cH ?_;revert F D b a U Z aR;exact G.o):=h ⟨k⟩
def atb(h:Q:=by
 refine Kv ?_;intro c2 bS pc;exact ag3):=h
def ata(h:Q:=by
 refine Kw ?_;intro bS pc c2;exact ag3):=h
def ahb(h:aL P Q:=by
 intro G;refine age ?_;intro aO aR V cx c2;refine ir [15] [] [0,4,8,12,16,20,24,28,32,36,40,44,48,52,56,62,64] acu ?_;refine fZ ?_;refine tk rfl .none rfl (Md Tryz.underlying111 (let⟨i,a,_,c,_⟩:=HY Oe;⟨i,a,c⟩) rfl) ?_;refine ae4 ?_;refine bh ?_;refine EN ?_;refine EN ?_;refine cH ?_;refine ch ?_;refine cH ?_;revert aO aR V cx c2;exact G.o):=h ⟨k⟩
def ahc(h:aL P Q:=by
 intro G;refine aha ?_;intro F D b a U Z aR;refine bF ?_;revert F D b a U Z aR;exact G.o):=h ⟨k⟩
def ash(h:Q:=by
 refine Kv ?_;intro c2 bS pc;exact ag5):=h
def asg(h:Q:=by
 refine Kw ?_;intro bS pc c2;exact ag5):=h
def ahd(h:aL P Q:=by
 intro G;refine ahb ?_;intro aO aR V cx c2;refine fx ?_;revert aO aR V cx c2;exact G.o):=h ⟨k⟩
def ahe(h:aL P Q:=by
 intro G;refine ag9 ?_;intro F D b a U Z aR;refine go_v rfl (.yes rfl rfl rfl) rfl (lA (ptr e 0) (by rw[aX];rfl) rfl rfl) ?_;refine eP ?_;refine a7 ?_;refine cH ?_;revert F D b a U Z aR;exact G.o):=h ⟨k⟩
def ahf(h:aL P Q:=by
 intro G;refine ag9 ?_;intro F D b a U Z aR;refine go_v rfl (.yes rfl rfl rfl) rfl (lA (.pointer none) (by rw[aX];rfl) rfl rfl) ?_;refine eP ?_;refine a7 ?_;refine cH ?_;revert F D b a U Z aR;exact G.o):=h ⟨k⟩
def ahg(h:aL P Q:=by
 intro G;refine aha ?_;intro F D b a U Z aR;refine dx ?_;refine cH ?_;refine bF ?_;revert F D b a U Z aR;exact G.o):=h ⟨k⟩
def ahh(h:aL P Q:=by
 intro G;refine ahe ?_;intro F D b a U Z aR;refine bF ?_;revert F D b a U Z aR;exact G.o):=h ⟨k⟩
def ahi(h:aL P Q:=by
 intro G;refine ahf ?_;intro F D b a U Z aR;refine bF ?_;revert F D b a U Z aR;exact G.o):=h ⟨k⟩
def ahj(h:aL P Q:=by
 intro G;refine ahb ?_;intro aO aR V cx c2;refine bz ?_;refine cH ?_;refine cU ?_;revert aO aR V cx c2;exact G.o):=h ⟨k⟩
def ahk(h:aL P Q:=by
 intro G;refine ahe ?_;intro F D b a U Z aR;refine dx ?_;refine cH ?_;refine bF ?_;revert F D b a U Z aR;exact G.o):=h ⟨k⟩
def ahl(h:aL P Q:=by
 intro G;refine ahf ?_;intro F D b a U Z aR;refine dx ?_;refine cH ?_;refine bF ?_;revert F D b a U Z aR;exact G.o):=h ⟨k⟩
def ahm(h:aL P Q:=by
 intro G;refine ahg ?_;intro F D b a U Z aR;refine Ku ?_;revert F D b a U Z aR;exact G.o):=h ⟨k⟩
def ahn(h:aL P Q:=by
 intro G;refine ahk ?_;intro F D b a U Z aR;refine Ku ?_;revert F D b a U Z aR;exact G.o):=h ⟨k⟩
def aho(h:aL P Q:=by
 intro G;refine ahl ?_;intro F D b a U Z aR;refine Ku ?_;revert F D b a U Z aR;exact G.o):=h ⟨k⟩
def ahp(h:aL P Q:=by
 intro G;refine ahm ?_;intro F D b a U Z aR;refine bh ?_;refine aV (g) ?_;refine aG ?_;refine cH ?_;revert F D b a U Z aR;exact G.o):=h ⟨k⟩
def ahq(h:aL P Q:=by
 intro G;refine ahp ?_;intro F D b a U Z aR;refine ch ?_;revert F D b a U Z aR;exact G.o):=h ⟨k⟩
def ahr(h:aL P Q:=by
 intro G;refine ahm ?_;intro F D b a U Z aR;refine Rw ?_;revert F D b a U Z aR;exact G.o):=h ⟨k⟩
def ahs(h:aL P Q:=by
 intro G;refine ahn ?_;intro F D b a U Z aR;refine bh ?_;refine aV (g) ?_;refine aG ?_;refine cH ?_;revert F D b a U Z aR;exact G.o):=h ⟨k⟩
def aht(h:aL P Q:=by
 intro G;refine aho ?_;intro F D b a U Z aR;refine bh ?_;refine aV (g) ?_;refine aG ?_;refine cH ?_;revert F D b a U Z aR;exact G.o):=h ⟨k⟩
def ahu(h:aL P Q:=by
 intro G;refine ahs ?_;intro F D b a U Z aR;refine ch ?_;revert F D b a U Z aR;exact G.o):=h ⟨k⟩
def ahv(h:aL P Q:=by
 intro G;refine aht ?_;intro F D b a U Z aR;refine ch ?_;revert F D b a U Z aR;exact G.o):=h ⟨k⟩
def ahw(h:aL P Q:=by
 intro G;refine ahn ?_;intro F D b a U Z aR;refine Rw ?_;revert F D b a U Z aR;exact G.o):=h ⟨k⟩
def ahx(h:aL P Q:=by
 intro G;refine aho ?_;intro F D b a U Z aR;refine Rw ?_;revert F D b a U Z aR;exact G.o):=h ⟨k⟩
def ahy(h:aL P Q:=by
 intro G;refine ahr ?_;intro F D b a U Z aR;refine Kf ?_;revert F D b a U Z aR;exact G.o):=h ⟨k⟩
def ahz(h:aL P Q:=by
 intro G;refine ahw ?_;intro F D b a U Z aR;refine Kf ?_;revert F D b a U Z aR;exact G.o):=h ⟨k⟩
def ahA(h:aL P Q:=by
 intro G;refine ahx ?_;intro F D b a U Z aR;refine Kf ?_;revert F D b a U Z aR;exact G.o):=h ⟨k⟩
end Go.L
