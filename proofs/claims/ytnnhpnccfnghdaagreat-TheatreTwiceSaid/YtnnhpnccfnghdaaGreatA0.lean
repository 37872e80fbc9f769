import Derived.WalkKit
import Derived.KernelRfl
set_option linter.all false
def a7:=@if_neg
def bg:=@if_pos
def ci:=@List.nil_append
def ck:=@List.cons_append
def cD:=@List.getElem?_eq_getElem
def dp:=@List.getElem?_eq_some_iff
def et:=@Nat.le_refl
def eI:=@if_false
def eZ:=@List.length_append
def e2:=@Bool.false_eq_true
def fk:=@Nat.zero_le
def fu:=@if_true
def fD:=@List.getElem?_map
def gr:=@List.length_set
def gx:=@List.map_cons
def ij:=@Option.bind_eq_some_iff
def io:=@Nat.le_succ
def iy:=@Bool.and_eq_true
def iG:=@List.length_cons
def iW:=@List.getD_eq_getElem?_getD
def jb:=@List.append_nil
def jH:=@List.mem_of_getElem?
def jI:=@List.append_assoc
def ky:=@List.mem_cons
def kP:=@Bool.true_and
def kQ:=@Bool.false_or
def kX:=@List.mem_append
def kY:=@List.getElem?_append_left
def k0:=@Option.bind_some
def k7:=@Bool.true_or
def lk:=@List.length_nil
def ln:=@decide_eq_true_eq
def lo:=@Nat.zero_add
def lr:=@Nat.eq_of_beq_eq_true
def lz:=@Bool.not_true
def lA:=@Bool.not_false
def lM:=@decide_eq_true
def lN:=@List.mem_map
def lW:=@Bool.false_and
def mJ:=@decide_eq_false
def mO:=@List.map_nil
def mZ:=@Nat.le_trans
def nb:=@Nat.add_mul
def nv:=@List.take_succ_eq_append_getElem
def nD:=@Option.map_some
def nT:=@List.take_length
def nZ:=@Nat.add_assoc
def n9:=@Option.some.inj
def oC:=@List.length_take
def oJ:=@List.getElem?_eq_none
def oL:=@List.mem_filter
def oM:=@List.map_toArray
def oV:=@Option.map_eq_some_iff
def oY:=@List.map_append
def o0:=@Bool.eq_iff_iff
def o9:=@List.length_map
def px:=@List.flatMap_cons
def py:=@List.getElem?_append_right
def pM:=@List.mem_range
def pN:=@Nat.mul_le_mul_right
def p2:=@List.all_eq_true
def qi:=@Nat.mul_le_mul
def qm:=@List.length_filter_le
def qD:=@Option.bind_eq_bind
def qT:=@List.mem_of_find?_eq_some
def qU:=@List.flatMap_append
def rz:=@List.getElem?_set_ne
def rN:=@List.mem_singleton
def rR:=@List.eq_nil_of_length_eq_zero
def rY:=@Nat.lt_or_ge
def sF:=@List.getElem?_mapIdx
def s5:=@List.drop_eq_getElem_cons
def ty:=@Bool.or_eq_true
def tA:=@List.map_set
def tL:=@decide_eq_false_iff_not
def tO:=@List.filter_congr
def uo:=@Nat.mul_one
def uQ:=@List.ext_getElem?
def uZ:=@List.getElem?_range
def u0:=@List.length_range
def vg:=@Nat.one_mul
def vl:=@List.getElem_mem
def vp:=@Int.le_refl
def vP:=@List.length_drop
def wl:=@List.zipIdx_cons
def wN:=@List.map_map
def xh:=@Nat.le_of_lt
def xO:=@List.filter_filter
def xZ:=@Nat.sub_self
def x2:=@List.size_toArray
def yu:=@Nat.blt_eq
def yK:=@Nat.mod_lt
def yM:=@List.foldl_cons
def yS:=@List.filter_append
def yW:=@List.take_of_length_le
def yX:=@List.getElem_set_self
def zs:=@List.any_eq_true
def zt:=@List.getElem?_set_self
def Ah:=@List.not_mem_nil
def AW:=@List.set_getElem_self
def BL:=@Bool.not_eq_true'
def CF:=@List.mem_flatMap
def CI:=@List.drop_eq_nil_of_le
def CL:=@List.take_append_drop
def C7:=@Nat.min_eq_left
def Dl:=@Nat.sub_zero
def Dm:=@Nat.le_of_ble_eq_true
def Dn:=@Array.getD_eq_getD_getElem?
def Dt:=@Int.not_lt
def DC:=@Int.natCast_mul
def DM:=@Bool.and_eq_true_iff
def DW:=@List.zipIdx_nil
def DY:=@List.take_left'
def EQ:=@List.any_eq_false
def ER:=@List.mem_map_of_mem
def Fj:=@List.mem_iff_getElem?
def Fv:=@Nat.lt_of_succ_lt
def FB:=@Option.isSome_some
def FC:=@Option.isSome_none
def FH:=@Nat.add_sub_cancel
def FP:=@List.Perm.of_eq
def FR:=@List.filter_sublist
def FT:=@List.getElem_of_mem
def F4:=@Nat.add_sub_cancel_left
def F5:=@List.set_append_left
def Ga:=@Option.map_none
def Gx:=@List.drop_drop
def G6:=@Array.getElem?_eq_none
def HB:=@List.take_append_of_le_length
def HC:=@Nat.eq_zero_or_pos
def HD:=@Nat.add_zero
def HV:=@List.getElem?_cons_succ
def H8:=@List.mem_cons_of_mem
def Ie:=@List.length_eraseIdx
def Kk:=@Int.toNat_natCast
def KI:=@Nat.not_lt_zero
def KR:=@List.length_mapIdx
def KT:=@Option.getD_some
def LY:=@List.getElem?_drop
def Ms:=@Nat.add_comm
def MS:=@List.getElem?_toArray
def MW:=@Array.getElem?_setIfInBounds
def M3:=@Int.emod_lt_of_pos
def NQ:=@Nat.testBit_or
def Om:=@List.mem_cons_self
def On:=@List.filter_cons
def OM:=@List.take_zero
def OR:=@Int.not_le
def RD:=@List.find?_eq_none
def RG:=@Option.isSome_iff_exists
def RX:=@List.filter_eq_self
def RZ:=@Nat.mul_comm
def R6:=@List.mapIdx_cons
def Sl:=@List.sum_cons
def SK:=@Bool.or_eq_false_iff
def S3:=@List.getElem?_replicate
def TG:=@List.append_eq
def TZ:=@List.flatMap_nil
def T8:=@List.set_append_right
def Ud:=@List.singleton_append
def Ue:=@List.drop_length
def Uj:=@List.length_replicate
def Vu:=@Int.tmod_eq_emod_of_nonneg
def VN:=@List.all_map
def VY:=@Nat.beq_refl
def XD:=@List.mapIdx_concat
def XT:=@Array.foldl_toList
def XU:=@Nat.testBit_two_pow
def Yl:=@List.getElem?_cons_zero
def Yn:=@List.getElem?_set
def YN:=@List.eraseIdx_eq_take_drop_succ
def YQ:=@Nat.lt_of_le_of_lt
def Y6:=@Nat.mod_eq_of_lt
def abR:=@List.mem_of_mem_take
def acO:=@Bool.true_eq_false
def ag8:=@List.map_replicate
def ahi:=@Nat.div_add_mod'
def ahk:=@List.getElem?_take
def ahA:=@List.mem_or_eq_of_mem_set
def ahO:=@List.pairwise_iff_getElem
def aia:=@Int.le_trans
def aiG:=@List.length_reverse
def aiP:=@List.length_dropLast
def aji:=@List.find?_cons
def ajr:=@List.foldl_append
def aju:=@List.mapIdx_append
def akn:=@List.map_congr_left
def akC:=@Nat.testBit_and
def aln:=@List.set_eq_take_append_cons_drop
def anq:=@Array.getElem?_append
def aot:=@List.mem_of_mem_eraseIdx
def apa:=@List.drop_append_of_le_length
def aqy:=@Array.eq_empty_of_size_eq_zero
def arf:=@List.mapIdx_eq_mapIdx_iff
def asF:=@Array.getElem?_eq_getElem
def atY:=@List.mem_take_iff_getElem
def atZ:=@List.findIdx_lt_length
def av4:=@Nat.add_mul_mod_self_left
def az3:=@List.not_any_eq_all_not
def aAz:=@List.length_singleton
namespace Go.L
structure a(P:Prop):Prop where
 o:P
abbrev aP(P Q:Prop):=a P->Q
variable{A:Sort _}{P Q:Prop}
def ad(h:P:=by omega):=h
def bw(h:P:=by decide):=h
def ff(h:P:=by rw[jz (by omega)];omega):=h
def hM(h:P:=by kernel_rfl):=h
def gl(h:P:=by simp):=h
def h9(h:P:=by simp;omega):=h
def mR(h:P:=by unfold fz.over;rw[aJ];rfl):=h
def OC(h:P:=by first|assumption|omega|simp):=h
def oF(h:P:=by have:=cd.len;omega):=h
def oO(h:P:=by unfold most;omega):=h
def qa(h:P:=by simpa[fz.over]using J):=h
def r2(h:P:=by rfl):=h
def uP(h:P:=by dsimp only;rw[eZ];rfl):=h
def wy(h:P:=by simp only[h4,ia];exact(au)):=h
def AB(h:P:=by unfold maxLen;omega):=h
def yV(h:P:=by rw[u0];omega):=h
def yZ(h:P:=by exact jz (by omega)):=h
def y0(h:P:=by rw[Nat.mul_add];omega):=h
def y1(h:P:=by rw[<-hu];rfl):=h
def AQ(h:P:=by unfold n1;split<;>omega):=h
def AV(h:P:=by unfold hK.over;rw[aJ];rfl):=h
def A2(h:P:=by simpa using q):=h
def YB(h:P:=by simpa[aw]using W):=h
def Bl(h:P:=by have:=K.dG;have:=K.len;omega):=h
def Bm(h:P:=by simp[wQ]):=h
def Bn(h:P:=by simp only[eZ,iG,lk];omega):=h
def CQ(h:P:=by simpa using ak):=h
def Dv(h:P:=by simp only[h4,ia,bg W];exact(au)):=h
def Dx(h:P:=by simp only[rb,qh,bg W];exact(au)):=h
def Dy(h:P:=by simp only[rb,qh,a7 W];exact(au)):=h
def DJ(h:P:=by unfold hN.over;rw[aJ];rfl):=h
def DL(h:P:=by simpa using O):=h
def yC(h:P:=by simp[aJ]):=h
def D2(h:P:=by rw[m1.aZ,j4]):=h
def D3(h:P:=by rw[F];exact hk):=h
def D4(h:P:=by show((3*l:Nat):Int)<=64;omega):=h
def Hr(h:P:=by cases cg<;>simp at aw;exact⟨_,_,rfl⟩):=h
def Ht(h:P:=by unfold ig.over;rw[aJ];rfl):=h
def HJ(h:P:=by simpa using aF):=h
def HK(h:P:=by simpa[p2]using p):=h
def Im(h:P:=by unfold fa;rw[bg rfl]):=h
def Io(h:P:=by rw[oC];omega):=h
def Ip(h:P:=by simpa using s):=h
def Y9(h:P:=by rw[K.get];rfl):=h
def Iq(h:P:=by unfold bP at hp;omega):=h
def Ir(h:P:=by simp only[iq]at hp;omega):=h
def Is(h:P:=by show dK k+1<=1;omega):=h
def It(h:P:=by have e:bB (.alone a k)=bB k+256:=rfl;omega):=h
def Iu(h:P:=by rw[F];exact aX):=h
def Iv(h:P:=by rw[j4];exact aX):=h
def Iw(h:P:=by rw[m1.aZ];exact M):=h
def Ix(h:P:=by rw[B.cy];exact B.aX):=h
def Iy(h:P:=by cases o<;>rfl):=h
def Iz(h:P:=by rw[u];omega):=h
def IA(h:P:=by rw[rk cQ,B];rfl):=h
def IB(h:P:=by have bi:=aqJ X z s N aw;rw[co]at bi;exact bi):=h
def IC(h:P:=by rw[b];rfl):=h
def ID(h:P:=by unfold fi;decide):=h
def IE(h:P:=by rw[nF,tA];exact(au)):=h
def L8(h:P:=by simp only[gr];exact(au)):=h
def Mr(h:P:=by rw[eZ,i9];omega):=h
def MQ(h:P:=by simpa[fz.over]using d):=h
def M8(h:P:=by simp only[qd,qe,bg W];exact(au)):=h
def M9(h:P:=by simp only[qd,qe,a7 W];exact(au)):=h
def Nf(h:P:=by simp only[lu,jS];exact(au)):=h
def Nv(h:P:=by rw[a7 W];exact(au)):=h
def aqb(h:P:=by rw[tz]at co;omega):=h
def Oo(h:P:=by rw[Ie,bg ak]):=h
def Ov(h:P:=by cases m<;>simp at h⊢):=h
def OD(h:P:=by unfold gV;omega):=h
def OE(h:P:=by rw[ng,yQ,aY];rfl):=h
def aqK(h:P:=by exact mJ T):=h
def OF(h:P:=by rw[hlen];exact g5):=h
def OG(h:P:=by rw[hlen];exact E):=h
def OH(h:P:=by simp only[iK,J,e2,eI]):=h
def OI(h:P:=by rw[j4];exact hk):=h
def OJ(h:P:=by have:=aS.1;omega):=h
def OK(h:P:=by rw[c.len];exact cL):=h
def OL(h:P:=by rw[OM];exact(au)):=h
def ON(h:P:=by unfold most at Y;omega):=h
def OO(h:P:=by rw[Z];rintro(h1|h1|h1);exact absurd h1 (by decide);all_goals omega):=h
def aqL(h:P:=by rw[jb];exact s):=h
def OP(h:P:=by unfold Th.bP;omega):=h
def OQ(h:P:=by rw[<-h.1];exact O):=h
def T4(h:P:=by unfold kU rowOf;rw[ai];simp[h]):=h
def T7(h:P:=by rw[kW f aZ ba,oC,C7 (by omega)]):=h
def Vs(h:P:=by show some (Value.bool (w.get id).isSome)=_;rw[Y]):=h
def VI(h:P:=by have:=a6.MO;simp only at this;omega):=h
def Wl(h:P:=by simp only[qd,qe];exact(au)):=h
def Wq(h:P:=by simp only[h4,ia,a7 (OR.2 W)];exact(au)):=h
def Ws(h:P:=by simp only[h4,ia,a7 (Dt.2 W)];exact(au)):=h
def W0(h:P:=by show some (Value.bool o.over)=_;rw[aJ]):=h
def Xl(h:P:=by rw[bg W];exact AT (by decide) x y (au)):=h
def YJ(h:P:=by have:=bi j O;rw[ar];split<;>omega):=h
def YP(h:P:=by intro x ah;simp at ah;subst ah;rfl):=h
def YS(h:P:=by rw[Array.toList_modify];exact bF v):=h
def Y5(h:P:=by have:=lr aA.1;simpa using this):=h
def Za(h:P:=by have:=qm (λx=>!decide (x<=gV now -z)) l;omega):=h
def Zb(h:P:=by first|exact W|exact M|exact L|assumption):=h
def Zc(h:P:=by cases v<;>simp[Value.oneCell']at h1<;>rfl):=h
def Zd(h:P:=by match cs,aw with|[eA,c1],_=>exact⟨_,_,rfl⟩):=h
def Ze(h:P:=by match cs,aw with|[eA,c1,bq,b7,d8],_=>exact⟨_,_,_,_,_,rfl⟩):=h
def Zf(h:P:=by simp only[ym,W];exact(au)):=h
def Zg(h:P:=by rw[<-qU,CL]):=h
def Zh(h:P:=by rw[show fH a c O.reverse=own (ul a c O) 36 1 O.length (iL O.reverse) by simp[fH,ul]];exact(au)):=h
def Zi(h:P:=by first|exact ah|exact⟨ah.1,ah.2.1,aX _ _ ah.2.2⟩):=h
def Zj(h:P:=by first|exact⟨ah.1,ah.2.1,aX _ _ ah.2.2⟩):=h
def Zk(h:P:=by rw[W.iP (y.ih j O).iP (by simp)];exact h.resolve_left (λh=>h)):=h
def Zl(h:P:=by rw[c.len];show 2<=C.gS+_;unfold bO.gS bO.bl;omega):=h
def Zm(h:P:=by cases k<;>first|exact⟨rfl,rfl⟩|exact absurd U (hH _ _)):=h
def Zn(h:P:=by rw[IF];have:hB=90000:=rfl;omega):=h
def Zo(h:P:=by unfold Th.kk;rw[bg K.h1];exact K.aw):=h
def Zp(h:P:=by simp only[yu,iG,lk];omega):=h
def Zq(h:P:=by rw[cy,<-aj.ap];exact OS _ _):=h
def Zr(h:P:=by have:=s.fg;rwa[jI]at this):=h
def Zs(h:P:=by have L:maxLen=9223372036854775807:=rfl;omega):=h
def Zt(h:P:=by rw[O]at M;exact n9 M):=h
def Zu(h:P:=by rw[aC]at h1;exact n9 h1):=h
def Zv(h:P:=by rw[o9,u0];omega):=h
def Zw(h:P:=by rw[bF]at aC;exact n9 aC):=h
def Zx(h:P:=by have bi:=d.ai;rw[Th.avP]at bi;exact n9 bi):=h
def Zy(h:P:=by have bi:=q cl e8;rw[aA]at bi;exact bi):=h
def Zz(h:P:=by have bi:=j;rw[aA]at bi;exact bi):=h
def ZA(h:P:=by rw[kW te 3 IG,oC];omega):=h
def ZB(h:P:=by rw[OT,S];simp[yu];omega):=h
def ZC(h:P:=by first|rfl|(simp only[M,UC a6,lz,lA,lW,kP,k7,kQ];done)|(simp[M,UC a6];done)|simp_all):=h
def ZD(h:P:=by rw[rl (by omega),un _ (by omega) (by omega)]):=h
def ZE(h:P:=by rw[<-aqM rfl,aqN];exact(au)):=h
abbrev UU(x:A:=by exact(bd.cons (t:=137) rfl Az)):=x
abbrev Az(x:A:=by exact(bd.cons (t:=119) rfl Ay)):=x
abbrev Ay(x:A:=by exact(bd.cons (t:=98) rfl Ax)):=x
abbrev Ax(x:A:=by exact(bd.cons (t:=81) rfl Aw)):=x
abbrev Aw(x:A:=by exact(bd.cons (t:=63) rfl Av)):=x
abbrev Av(x:A:=by exact(bd.cons (t:=45) rfl UJ)):=x
abbrev UJ(x:A:=by exact(bd.cons (t:=36) rfl (bd.cons (t:=35) rfl (bd.cons (t:=34) rfl (bd.cons (t:=33) rfl (bd.cons (t:=32) rfl (bd.cons (t:=31) rfl (bd.cons (t:=30) rfl (bd.cons (t:=29) rfl (bd.cons (t:=28) rfl (bd.cons (t:=27) rfl (bd.cons (t:=26) rfl (bd.cons (t:=25) rfl (bd.cons (t:=24) rfl (bd.cons (t:=23) rfl (bd.cons (t:=22) rfl (bd.cons (t:=21) rfl (bd.cons (t:=20) rfl (bd.cons (t:=19) rfl (bd.cons (t:=18) rfl (bd.cons (t:=17) rfl (bd.cons (t:=16) rfl (bd.cons (t:=15) rfl (bd.cons (t:=14) rfl (bd.cons (t:=13) rfl (bd.cons (t:=12) rfl (bd.cons (t:=11) rfl (bd.cons (t:=10) rfl (bd.cons (t:=9) rfl (bd.cons (t:=8) rfl (bd.cons (t:=6) rfl (bd.cons (t:=5) rfl (bd.cons (t:=4) rfl (bd.cons (t:=3) rfl U0)))))))))))))))))))))))))))))))))):=x
abbrev Yd(x:A:=by exact(eu::eu::eK::eK::eK::eK::eK::eK::eK::eK::eK::eK::eK::eK::eK::eK::eK::eK::eK::eK::eK::eK::eK::eK::eK::eK::eK::eK::eK::eK::ZF)):=x
abbrev UH(x:A:=by exact(33::49::53::46::58::60::64::68::72::76::80::85::89::93::97::101::UK)):=x
abbrev ZG(x:A:=by exact(dj e.gQ e.gR x.cH::fJ e.gp X.C.dO x.aside x.front::gL e.iB pQ pR x.given::bs e.gj .i64 wR::ii e.iC (hD e.es)::ao (hV e.es)::ZH)):=x
abbrev UK(x:A:=by exact(105::112::121::125::118::130::132::136::140::144::148::152::157::161::165::169::173::UL)):=x
abbrev OU(x:A:=by exact(λF=>cp X F.2.1 F.2.2::di F.2.1.b4 F.2.1.b5 F.2.2.trace::dX F.2.1.na F.2.1.dT F.2.2.notes::bs X.am .i64 (bD F.2.1.ap)::ao (dI X F.2.1.ap F.2.2.aE)::bs X.dL .u64 (bD F.2.1.ae)::ao (eB F.2.1.ae F.2.2.lets)::Lg.cY X.ld F.2.2.a8::dz X.cF X.C.c6 F.2.2.dead::bz X.m F.2.2.L F.2.1.tt::eo X::ee X F.2.2.bm::dy X.bl X.m X.C.bl X.C.aT::ao (dd X)::ef X::eL X::e7 X::eO X::ao (cK X F.2.1.ap F.2.1.ae F.2.2.ax)::D)):=x
abbrev X4(x:A:=by exact[eu,eu,eu,eu,eu,eu,eu,eu,eu,eK,fN,eu,eu,eu,fN,fN,fN,eK,(.map none),(.map none),eK,fN,fN,eK,eu,eu,gP,eK,eK,fN]):=x
abbrev UL(x:A:=by exact(177::184::188::192::198::200::204::208::212::216::220::224::228::232::236::240::UM)):=x
abbrev UM(x:A:=by exact(244::252::256::260::264::268::272::276::280::284::288::292::296::300::304::308::312::316::320::324::UN)):=x
abbrev ZH(x:A:=by exact(gb e.bI::ao y2::OV)):=x
abbrev ZI(x:A:=by exact(dX z.na z.dT s.notes::bs X.am .i64 (bD z.ap)::ao j5::bs X.dL .u64 (ew (bD z.ae) ((s.lets.length+1:Nat):Int) (ptr ar 0))::Lg.cY X.ld (dW s.a8 ((s.lets.length+1:Nat):Int) 1)::ZJ)):=x
abbrev OW(x:A:=by exact(a::di z.b4 z.b5 s.trace::dX z.na z.dT s.notes::bs X.am .i64 (bD z.ap)::ao j5::bs X.dL .u64 (bD z.ae)::ao nh::Lg.cY X.ld s.a8::dz X.cF X.C.c6 s.dead::bz X.m s.L z.tt::eo X::ee X s.bm::dy X.bl X.m X.C.bl X.C.aT::ao (dd X)::ef X::ZK)):=x
abbrev X6(x:A:=by exact[eu,eu,nE,eu,eu,eK,eK,nE,eu,eu,eu,eu,eK,eu,fN,fN,(.map none),eK,(.map none),fN]):=x
abbrev ZL(x:A:=by exact(cp X z s::di z.b4 z.b5 s.trace::dX z.na z.dT s.notes::bs X.am .i64 (bD z.ap)::ao j5::bs X.dL .u64 (bD z.ae)::ao nh::Lg.cY X.ld s.a8::dz X.cF X.C.c6 s.dead::ee X s.bm::ZM)):=x
abbrev ZN(x:A:=by exact(OV++D)):=x
abbrev ZO(x:A:=by exact(dX z.na z.dT s.notes::bs X.am .i64 (bD z.ap)::bs X.dL .u64 (bD z.ae)::ao nh::Lg.cY X.ld OX::ZP)):=x
abbrev ZQ(x:A:=by exact(cp X z s::di z.b4 z.b5 s.trace::dX z.na z.dT s.notes::bs X.am .i64 (bD z.ap)::ao j5::bs X.dL .u64 (bD z.ae)::ao nh::Lg.cY X.ld s.a8::dz X.cF X.C.c6 s.dead::eo X::ZM)):=x
abbrev OV(x:A:=by exact(cp X z s::di z.b4 z.b5 s.trace::OY)):=x
abbrev ZR(x:A:=by exact[(0,.bL),(1,.bL),(2,.bL),(3,.bL),(4,.bL),(5,.bL),(6,.bL),(7,.loc),(8,.loc),(9,.loc),(10,.loc),(11,.loc),(12,.loc),(13,.loc),(14,.loc),(16,.bL),(17,.bL),(18,.bL),(19,.bL),(20,.bL),(21,.bL),(22,.bL),(23,.bL),(15,.da),(24,.da),(25,.loc),(26,.da)]):=x
abbrev ZS(x:A:=by exact(cp X z s::OZ)):=x
abbrev OZ(x:A:=by exact(di z.b4 z.b5 s.trace::dX z.na z.dT s.notes::bs X.am .i64 (bD z.ap)::ao j5::bs X.dL .u64 (bD z.ae)::ao nh::Lg.cY X.ld s.a8::ZJ)):=x
abbrev ZT(x:A:=by exact([aa R 3 [af i],aa d2 188 rm,aa d5 3 [af n],aa cq 255 [bk 403 tE],aa d6 1 [bk 404 [ptr aK 0,ptr V 0,ptr ar 0]],aa aK 110 [ptr q 0],aa ar 106 eE,aa V 1 [bk J M],a1 X z.ap z.ae j 0 k J M]++bh X z s)):=x
abbrev OY(x:A:=by exact(dX z.na z.dT s.notes::bs X.am .i64 (bD z.ap)::bs X.dL .u64 (bD z.ae)::ao nh::Lg.cY X.ld s.a8::ZP)):=x
abbrev UN(x:A:=by exact(328::344::348::352::356::360::364::368::372::376::380::384::388::392::396::UQ)):=x
abbrev IH(x:A:=by exact(cp X z s::di z.b4 z.b5 s.trace::dX z.na z.dT s.notes::bs X.am .i64 (bD z.ap)::bs X.dL .u64 (bD z.ae)::ao nh::Lg.cY X.ld s.a8::dz X.cF X.C.c6 s.dead::ZU)):=x
abbrev ZV(x:A:=by exact(λu I=>u=.tuple #[]/\∃(cl:dw) (p f:Nat) (c:List Value),fb E f/\bJ X cl s1/\I=[aa (X.bp j) 128 ZW,cM X p o,jv X cl s1 j,a1 X cl.ap cl.ae j p k f c])):=x
abbrev ZX(x:A:=by exact {s with trace:=s.trace++[({Th.cz with kind:=10,dc:=(b:Int),cf:=x.id,why:=1,name:=reason}:bG)],notes:=s.notes++[(⟨2,0,[]⟩:dn)],ax:=s.ax.set j II}):=x
abbrev ZY(x:A:=by exact {s with trace:=s.trace++[({Th.cz with kind:=10,dc:=(b:Int),cf:=x.id,why:=2,name:=reason}:bG)],notes:=s.notes++[(⟨3,0,[]⟩:dn)],ax:=s.ax.set j II}):=x
abbrev ZZ(x:A:=by exact {s with trace:=s.trace++[({Th.cz with kind:=10,dc:=(b:Int),cf:=x.id,why:=3,name:=reason}:bG)],notes:=s.notes++y3,ax:=s.ax.set j II}):=x
abbrev Z0(x:A:=by exact[aa aL 106 eE,aa aR 110 [ptr q 0],aa cA 311 [ptr m 0],aa dm 356 (lh bZ pc (⟨false,o,b,r,d⟩:dE)),aa Z 32 [ptr X.h 0],aa aM 36 [bx id],aa bV 1 [bk J M],km bZ pc o,a1 X z.ap z.ae j 0 k J M]):=x
abbrev Z1(x:A:=by exact([aa aR 106 eE,aa dm 32 [ptr X.h 0],aa d 49 [ul ea cZ IJ],fH ea cZ IJ,a1 X z.ap z.ae j 0 k J M]++bh X z (Th.c8 s a {x with timers:=Th.om x.timers o.name}))):=x
abbrev O0(x:A:=by exact(bs X.am .i64 (bD z.ap)::Z2)):=x
abbrev UQ(x:A:=by exact(400::416::420::424::428::432::436::440::444::448::452::456::460::464::468::US)):=x
abbrev Z3(x:A:=by exact[aa n 108 Z4,aa V 23 (oP C)]):=x
abbrev VP(x:A:=by exact(λu I=>∃aD aI,u=fV aD aI az.due/\I=(gZ aD aI az.due::uw))):=x
abbrev VQ(x:A:=by exact(λu I=>∃aD aI,u=fV aD aI az.cut/\I=(gZ aD aI az.cut::uw))):=x
abbrev VR(x:A:=by exact(λu I=>∃aD aI,u=fV aD aI az.ref/\I=(gZ aD aI az.ref::uw))):=x
abbrev Z5(x:A:=by exact([aa aK 110 [ptr q 0],aa ar 261 (iz m),aa V 248 [ptr p 0],aa ay 3 [af 2],aa aL 106 eE,aa aR 1 [bk J M],a1 X z.ap z.ae j 0 k J M,cM X p (.ey az)]++gM X z s a q x e)):=x
abbrev Z6(x:A:=by exact(iA (a1.eq_24 ..) (aR,aM,cA,Z,aL,bV,q,J,M) u1 (jN X z.ap z.ae s.ax j p 302 [ptr aR 0,ptr aM 0,ptr cA 0,ptr Z 0,ptr aL 0,ptr bV 0] t (.ey o2) (.kI a m k) O U))):=x
abbrev IK(x:A:=by exact((aa aK 246 [ptr p 0]::aa ar 32 [ptr X.h 0]::aa V 36 [bx id]::aa ay 106 eE::aa aL 3 [af to]::aa aR 1 [bk J M]::O1)++bh X z s)):=x
abbrev Z2(x:A:=by exact(bs X.dL .u64 (bD z.ae)::ao nh::Z7)):=x
abbrev Vt(x:A:=by exact(cW p x y 0 0 v7::h3 q X.r o::aa c1 326 [ptr q 0]::aa bq 248 [ptr p 0]::aa b7 3 [af left]::Mx)):=x
abbrev Z8(x:A:=by exact(aa bV 380 [.slice (some ⟨a,0,none⟩) 2 2]::aa aM 36 [bx 0]::aa aR 246 [ptr dm 0]::cW dm x y 0 0 X.br::aa a 213 D5::eF X B::D)):=x
abbrev O2(x:A:=by exact[(0,.bL),(1,.bL),(2,.bL),(3,.loc),(4,.loc),(5,.loc),(6,.loc),(7,.loc),(8,.loc),(9,.loc),(10,.loc),(11,.loc),(14,.bL),(12,.da),(13,.loc),(15,.da)]):=x
abbrev Z9(x:A:=by exact((aa aK 246 [ptr p 0]::aa ar 1 [bk J M]::aa V 106 eE::aa ay 110 [ptr q 0]::aa aL 3 [af who]::O1)++bh X z s)):=x
abbrev Z4(x:A:=by exact(ms C y4 fN fN fN fN eK p r ld cF eK eK fN)):=x
abbrev NY(x:A:=by exact(eu::eu::nE::nE::eu::ZF)):=x
abbrev ZP(x:A:=by exact[dz X.cF X.C.c6 s.dead,bz X.m s.L z.tt,eo X,ee X s.bm,dy X.bl X.m X.C.bl X.C.aT,ao (dd X),ef X,eL X,e7 X,eO X,ao lX]):=x
abbrev aaa(x:A:=by exact([aa aK 392 [ptr p 0],aa ar 1 [bk J M],aa V 106 eE,aa ay 3 [af N],aa aL 3 [af ed],a1 X z.ap z.ae j 0 k J M,cM X p (.ht i)]++bh X z s)):=x
abbrev X8(x:A:=by exact((.map none)::eK::NV)):=x
abbrev aab(x:A:=by exact⟨.same,λ_=>IL,wS,λ_=>rfl⟩):=x
abbrev aac(x:A:=by exact(Th.c8 {s with a8:=dH s.a8 id 3,trace:=s.trace++[({Th.cz with kind:=5,dc:=x.id,id:=id}:bG)]} a {x with aside:=x.aside++[id]})):=x
abbrev O3(x:A:=by exact(a1 X z.ap z.ae j 0 k J M::ao j5::cp X z s::di z.b4 z.b5 s.trace::aad)):=x
abbrev VG(x:A:=by exact⟨pE (left -1) GM,0,0,[],cut++q2 (dC (B.b+1) B.n L o).value w,ref++q3 (dC (B.b+1) B.n L o).value w⟩):=x
abbrev O4(x:A:=by exact((aa aK 246 [ptr p 0]::aa ar 1 [bk J M]::aa V 106 eE::aa ay 110 [ptr q 0]::O1)++bh X z s)):=x
abbrev O5(x:A:=by exact[aa ar 110 [ptr q 0],aa V 32 [ptr X.h 0],aa ay 36 [bx id],aa aL 106 eE,aa aR 1 [bk J M],km bZ pc o,a1 X z.ap z.ae j 0 k J M]):=x
abbrev aae(x:A:=by exact⟨.same,λ_=>IL,hf,λ_=>rfl⟩):=x
abbrev aaf(x:A:=by exact[aa J 78 ((D6 aM Z dm).flatMap eH),aa dm 82 ((D7 aM Z).flatMap gB),aa Z 85 ((D8 aM).flatMap gY),aa aM 87 ([Th.zT].flatMap fM)]):=x
abbrev aag(x:A:=by exact(bd.cons rfl (bd.cons rfl (bd.cons rfl (bd.cons rfl O6))))):=x
abbrev aah(x:A:=by exact[ptr (X.bp j) 0,af o.length,bk 293 [ptr aL 0,ptr aR 0,ptr cA 0,ptr dm 0],bk 295 [ptr dm 0,ptr aR 0,ptr Z 0,ptr aM 0,ptr aL 0,ptr bV 0]]):=x
abbrev T0(x:A:=by exact(λu I=>∃a c,u=.agg (lh a c (Ak:dE)).toArray/\I=[km a c (Ak:dE).cx,a2])):=x
abbrev aai(x:A:=by exact(λh F=>jc h (jc h (Sat.tail (λh F=>Sat.tail (λh F=>Bh h (Sat.tail (λh F=>aqH h (Sat.tail f F)) F)) F) F)))):=x
abbrev NW(x:A:=by exact[eu,eu,ob,eu,eu,nE,eu,eu,gP]):=x
abbrev aaj(x:A:=by exact[fJ g X.C.dO [] [],gL j (min (max bI.limit 0) 100) (min (max bI.within 1) 4095) [],eD c pa,eD d pa,gb bI]):=x
abbrev aak(x:A:=by exact[aa aK 246 [ptr p 0],aa ar 32 [ptr X.h 0],aa V 36 [bx id],aa ay 106 eE,aa aL 3 [af to],aa aR 1 [bk J M],cp X z s]):=x
abbrev Z7(x:A:=by exact(Lg.cY X.ld s.a8::dz X.cF X.C.c6 s.dead::bz X.m s.L z.tt::eo X::ee X s.bm::dy X.bl X.m X.C.bl X.C.aT::IM)):=x
abbrev IN(x:A:=by exact⟨λ_=>aal,wS,λ_=>rfl⟩):=x
abbrev IP(x:A:=by exact([aa d5 3 [af n],aa d6 1 [bk M N],aa cq 255 [bk I O],aa d2 188 rm,a2]++bh X z s)):=x
abbrev ZJ(x:A:=by exact(dz X.cF X.C.c6 s.dead::bz X.m s.L z.tt::eo X::ee X s.bm::aam)):=x
abbrev O7(x:A:=by exact[(aan:bG)]):=x
abbrev O8(x:A:=by exact[(aao:bG)]):=x
abbrev uw(x:A:=by exact[cW p x y az.out az.val (kL X (fV a0 fL az.due) (fV cu cR az.cut) (fV cC b8 az.ref)),gZ a0 fL az.due,gZ cu cR az.cut,gZ cC b8 az.ref]):=x
abbrev N2(x:A:=by exact(eu::nE::nE::nE::eu::Bo)):=x
abbrev US(x:A:=by exact(472::488::492::496::500::504::508::512::516::520::524::528::532::536::UW)):=x
abbrev aap(x:A:=by exact[aa ay 106 eE,aa aL 36 [bx id],cp X z s,bs X.dL .u64 (bD z.ae),ao nh,ao lX]):=x
abbrev IQ(x:A:=by exact {s with aE:=s.aE++[kR id a O st],trace:=s.trace++IR}):=x
abbrev aaq(x:A:=by exact {s with notes:=s.notes++y3,ax:=s.ax.set j aar}):=x
abbrev Xb(x:A:=by exact[(0,.bL),(1,.bL),(2,.bL),(3,.loc),(4,.loc),(5,.loc),(6,.loc),(7,.loc),(10,.bL),(8,.da),(9,.loc),(11,.da)]):=x
abbrev O9(x:A:=by exact {s with a8:=OX,trace:=s.trace++[(Pb:bG)]}):=x
abbrev NV(x:A:=by exact(eu::eu::eu::eu::eu::X5)):=x
abbrev aas(x:A:=by exact(Bp X {s with trace:=s.trace++[({Th.cz with kind:=1,cf:=-1 -(i:Int),to:=R,name:=fx,n:=de}:bG)]} true)):=x
abbrev aat(x:A:=by exact(Bp X {s with trace:=s.trace++[({Th.cz with kind:=1,cf:=-1 -(i:Int),to:=R,name:=[],n:=0}:bG)]} true)):=x
abbrev aau(x:A:=by exact⟨λ_=>aav,hf,by trivial⟩):=x
abbrev aan(x:A:=by exact {Th.cz with kind:=2,id:=((s.lets.length+1:Nat):Int),cf:=l.cf,to:=l.to,name:=l.tag,n:=l.n,kF:=false}):=x
abbrev aao(x:A:=by exact {Th.cz with kind:=2,id:=((s.lets.length+1:Nat):Int),cf:=l.cf,to:=l.to,name:=l.tag,n:=l.n,kF:=true}):=x
abbrev NB(x:A:=by exact(if(iw B.ek B.na L o).out=1 then⟨.up w (iw B.ek B.na L o).value (jL 1 w),0,0⟩else⟨.k1 w wG,4,0⟩)):=x
abbrev aaw(x:A:=by exact[ao (dd X),ef X,ao (cK X z.ap z.ae (s.ax.set j {t with on:=some (.post a (Th.xB s.notes.length),.lJ a k)}))]):=x
abbrev Pc(x:A:=by exact[ao (dd X),ef X,ao (cK X z.ap z.ae (s.ax.set j II))]):=x
abbrev Pd(x:A:=by exact(Th.c8 {s with trace:=s.trace++[(Pe:bG)]} a {x with mode:=1,cH:=[]})):=x
abbrev W4(x:A:=by exact[(3,.loc),(4,.loc),(5,.loc),(6,.loc),(7,.loc),(8,.loc),(9,.loc),(12,.bL),(10,.da),(11,.loc),(13,.da)]):=x
abbrev aax(x:A:=by exact[ao (dd X),ef X,ao (cK X z.ap z.ae (s.ax.set j aar))]):=x
abbrev Xj(x:A:=by exact(aa bq 169 [ptr p 0]::aa b7 243 [.slice a (l.length+1) c]::kD X B.bX a c (er::l) cg::jB)):=x
abbrev Nz(x:A:=by exact(if(ji (B.cq w) B.e0 L o).out=1 then⟨.ih w DI l,1,(ji (B.cq w) B.e0 L o).value⟩else lv l)):=x
abbrev Yh(x:A:=by exact(.nilIface::.nilFunc::eu::ob::fN::aay)):=x
abbrev aaz(x:A:=by exact(λu I=>∃aD aI,u=.slice aD m.length aI/\I=aaA)):=x
abbrev V4(x:A:=by exact⟨fun⟨h1,h2,d,e,⟨x,aX⟩,aF⟩=>⟨x,h1,h2,d,e,aX,aF⟩,fun⟨x,h1,h2,d,e,aX,aF⟩=>⟨h1,h2,d,e,⟨x,aX⟩,aF⟩⟩):=x
abbrev IS(x:A:=by exact {x with state:=st.name,slots:=[0,0,0,0],cH:=[],front:=x.front++x.aside.reverse,aside:=[],mode:=1}):=x
abbrev Wv(x:A:=by exact[bz m (h4 b n L ⟨11,out,v,tt,d,ep⟩) (dV t),js q m b n,gD p q (ia b n L ⟨11,out,v,tt,d,ep⟩)]):=x
abbrev Ww(x:A:=by exact[bz m (h4 b n L ⟨13,out,v,tt,d,ep⟩) (dV t),js q m b n,gD p q (ia b n L ⟨13,out,v,tt,d,ep⟩)]):=x
abbrev aaB(x:A:=by exact[aa aK 106 eE,aa ar 32 [ptr X.h 0],aa V 49 [ul ea cZ ids],fH ea cZ ids,a1 X z.ap z.ae j 0 k J M]):=x
abbrev Wp(x:A:=by exact[bz m (h4 b n L ⟨1,out,v,tt,d,ep⟩) (dV t),js q m b n,gD p q (ia b n L ⟨1,out,v,tt,d,ep⟩)]):=x
abbrev Wr(x:A:=by exact[bz m (h4 b n L ⟨6,out,v,tt,d,ep⟩) (dV t),js q m b n,gD p q (ia b n L ⟨6,out,v,tt,d,ep⟩)]):=x
abbrev Wt(x:A:=by exact[bz m (h4 b n L ⟨7,out,v,tt,d,ep⟩) (dV t),js q m b n,gD p q (ia b n L ⟨7,out,v,tt,d,ep⟩)]):=x
abbrev Wu(x:A:=by exact[bz m (h4 b n L ⟨9,out,v,tt,d,ep⟩) (dV t),js q m b n,gD p q (ia b n L ⟨9,out,v,tt,d,ep⟩)]):=x
abbrev Pf(x:A:=by exact {s with ax:=s.ax.set j {t with on:=some (.ht (ml 0 (kM X.C.bl X.C.aT x.id who)),.watched a who k)}}):=x
abbrev W8(x:A:=by exact(aH eN Ph)):=x
abbrev aaC(x:A:=by exact {s with trace:=s.trace++aaD}):=x
abbrev aaE(x:A:=by exact {s with trace:=s.trace++aaF}):=x
abbrev aaG(x:A:=by exact {s with trace:=s.trace++aaH}):=x
abbrev IU(x:A:=by exact {s with trace:=s.trace++aaI}):=x
abbrev D9(x:A:=by exact {s with now:=s.now+1,trace:=s.trace++[(Pj:bG)]}):=x
abbrev ZM(x:A:=by exact(dy X.bl X.m X.C.bl X.C.aT::ao (dd X)::aaJ)):=x
abbrev Ea(x:A:=by exact([aa aK 106 eE,aa ar 110 [ptr q 0],aa V 1 [bk J M],a1 X z.ap z.ae j 0 k J M]++bh X z s)):=x
abbrev aaK(x:A:=by exact([aa aK 110 [ptr q 0],aa ar 1 [bk J M],aa V 106 eE,a1 X z.ap z.ae j 0 k J M]++bh X z s)):=x
abbrev aaL(x:A:=by exact {s with a8:=du s.a8 id 7,trace:=s.trace++[({Th.cz with kind:=3,dc:=x.id,id:=id}:bG)]}):=x
abbrev WV(x:A:=by exact[bz m (lu b n L Hl) (dV t),kt q m b n,iI p q b (jS b n L Hl)]):=x
abbrev aaM(x:A:=by exact[aa aK 106 eE,aa ar 39 [hE ea cZ l],dj ea cZ l,aa V 3 [af what],a1 X z.ap z.ae j 0 k J M]):=x
abbrev aaN(x:A:=by exact[1,5,9,13,17,21,25,29,33,37,41,45,49,53,57,61,65,69,73,77,81,86,90,94,3,3,3,90,86,94]):=x
abbrev WX(x:A:=by exact[bz m (lu b n L Hm) (dV t),kt q m b n,iI p q b (jS b n L Hm)]):=x
abbrev aaO(x:A:=by exact {s with ax:=s.ax.set j {t with on:=some (.ht (ml 4 (kM X.C.bl X.C.aT a b)),.nq a b k)}}):=x
abbrev aaP(x:A:=by exact(fy ((i+1:Nat):Int) (by have:=aA x y5;rw[jz (by omega)];omega) rfl rfl)):=x
abbrev ye(x:A:=by exact(cW p x y 0 0 v7::Mx)):=x
abbrev Nn(x:A:=by exact(gy X B p (if g.out=1 then⟨.up w g.value (jL 1 w),0,0⟩else⟨.k1 w g,4,0⟩)::rh)):=x
abbrev Pk(x:A:=by exact(Th.c8 aaQ a Bq)):=x
abbrev NA(x:A:=by exact(if(iw B.ek B.na L o).out=1 then⟨.mU wG l,1,(iw B.ek B.na L o).value⟩else lv l)):=x
abbrev aaR(x:A:=by exact(aH eN [cp X z s,ao (cK X z.ap z.ae (s.ax.set j {t with on:=some (.add 0 1,.mE l k)}))])):=x
abbrev WQ(x:A:=by exact[bz m (lu b n L ⟨0,en,tt,v,0⟩) (dV t),kt q m b n,iI p q b (jS b n L ⟨0,en,tt,v,0⟩)]):=x
abbrev WS(x:A:=by exact[bz m (lu b n L DA) (dV t),kt q m b n,iI p q b (jS b n L DA)]):=x
abbrev Ng(x:A:=by exact[bz m (lu b n L ⟨2,en,tt,v,0⟩) (dV t),kt q m b n,iI p q b (jS b n L ⟨2,en,tt,v,0⟩)]):=x
abbrev WY(x:A:=by exact[bz m (lu b n L ⟨4,en,tt,v,0⟩) (dV t),kt q m b n,iI p q b (jS b n L ⟨4,en,tt,v,0⟩)]):=x
abbrev aaS(x:A:=by exact {s with ax:=s.ax.set j aaT}):=x
abbrev AU(x:A:=by exact(bz X.m (mi (B.cq w) B.e0 L o) (dV t)::ND)):=x
abbrev Y8(x:A:=by exact(λv' I=>∃a c,v'=.slice a (k+m) c/\I=own (.slice a (k+m) c) e aZ (k+m) (xs++E)::D)):=x
abbrev Pl(x:A:=by exact(fun⟨p,f,c⟩=>(kf X j wT (bk f c) t::Br))):=x
abbrev Yg(x:A:=by exact[fN,eu,eu,ob,ob,ob,eu]):=x
abbrev aaU(x:A:=by exact[aa q 168 [.map (some r),.slice a rc c,af ((sk rc d.length:Nat):Int),af ((d.length:Int)+1)]]):=x
abbrev aaV(x:A:=by exact(λF=>(Th.dM F.1 a).bind λx=>g (Th.c8 F.1 a {x with slots:=x.slots.set slot F.2}) Th.dN k)):=x
abbrev aaW(x:A:=by exact([aa aK 106 eE,aa ar 110 [ptr z 0],aa V 1 [bk J M],a1 X ap ae j 0 k J M]++a2)):=x
abbrev aaX(x:A:=by exact[1,5,9,13,17,21,25,29,33,37,41,45,49,53,57,61,66,70,74,78,3,3,3,3,70,66,74,78]):=x
abbrev Xp(x:A:=by exact(jt X B p (.push w o v)::NC)):=x
abbrev IV(x:A:=by exact {s with trace:=s.trace++[({Th.cz with kind:=4,dc:=x.id,id:=id,name:=b}:bG)]}):=x
abbrev aaY(x:A:=by exact(λh=>gv (λD h F=>Sat.drop (Sat.drop (Sat.drop (Sat.drop (F))))) (C z s k y J M aj h))):=x
abbrev Xv(x:A:=by exact(jt X B p (.ih w o l)::NC)):=x
abbrev Yi(x:A:=by exact[gP,eK,nE,gP,nE]):=x
abbrev Nu(x:A:=by exact(gy X B p (if o.out=1 then⟨.ih w o l,1,o.value⟩else lv l)::jB)):=x
abbrev Yf(x:A:=by exact(fN::.nilFunc::eu::ob::ob::HT)):=x
abbrev aaZ(x:A:=by exact[aa aK 169 [ptr p 0],aa ar 106 eE,cM X p (.fE az),ao lX]):=x
abbrev ZU(x:A:=by exact(bz X.m s.L z.tt::eo X::ee X s.bm::dy X.bl X.m X.C.bl X.C.aT::ef X::IM)):=x
abbrev Ph(x:A:=by exact(jt X B p (if o.out=2 then .enter (kr false v) v else .ring (jL 3 0))::rh)):=x
abbrev aa0(x:A:=by exact[(0,.bL),(1,.loc),(2,.loc),(3,.loc),(4,.loc),(7,.bL),(5,.da),(6,.loc),(8,.da)]):=x
abbrev aa1(x:A:=by exact {x with kids:=Th.del x.kids m.who,cH:=Th.del x.cH m.who,given:=Th.pj x.given m.who}):=x
abbrev aa2(x:A:=by exact {s with ax:=s.ax.set j aa3}):=x
abbrev Pm(x:A:=by exact(aH hI u2)):=x
abbrev Nw(x:A:=by exact(gy X B p (if o.out=1 then⟨.mU o l,1,o.value⟩else lv l)::jB)):=x
abbrev IL(x:A:=by exact⟨hf,hf,hf,hf⟩):=x
abbrev aa4(x:A:=by exact[aa aK 106 eE,aa ar 49 [ul ea cZ due],fH ea cZ due,a1 X z.ap z.ae j 0 k J M]):=x
abbrev Bs(x:A:=by exact {s with trace:=s.trace++[(Pn:bG)]}):=x
abbrev Ub(x:A:=by exact[S k.name,af k.limit,af k.within,.slice cu k.cases.length c1,.slice cC k.states.length bq]):=x
abbrev Vn(x:A:=by exact(aH eN (rS X B p cut ref (.tick ((w.now+1:Nat):Int))::yh))):=x
abbrev Wm(x:A:=by exact[bz m (qd b n L ⟨2,w,out⟩) (dV t),ks q m b n,ix p q (qe b n L ⟨2,w,out⟩)]):=x
abbrev Wn(x:A:=by exact[bz m (qd b n L AN) (dV t),ks q m b n,ix p q (qe b n L AN)]):=x
abbrev Wo(x:A:=by exact[bz m (qd b n L ⟨4,w,out⟩) (dV t),ks q m b n,ix p q (qe b n L ⟨4,w,out⟩)]):=x
abbrev NZ(x:A:=by exact(nE::eu::N5)):=x
abbrev aa5(x:A:=by exact {cz with kind:=2,id:=v,cf:=l.cf,to:=l.to,name:=l.tag,n:=l.n,kF:=a}):=x
abbrev Pp(x:A:=by exact {s with trace:=s.trace++aa6}):=x
abbrev aa7(x:A:=by exact {x with given:=ew x.given m.who aa8}):=x
abbrev ZW(x:A:=by exact[ptr X.h 0,af (jV X j),wT,(bk f c),bx t1.draw,.bool t1.jj]):=x
abbrev Xr(x:A:=by exact⟨if(ji (B.cq w) B.e0 L o).out=2 then .enter (kr false v) v else .ring (jL 3 0),0,0⟩):=x
abbrev Y1(x:A:=by exact⟨λ_=>none,h,λ_=>.inl rfl,by funext b;simp[join],⟨by simp,.inl cj⟩,s⟩):=x
abbrev WC(x:A:=by exact[bz m (qf b n L o) DB,ks q m b n,ix p q (j1 b n L o)]):=x
abbrev aa9(x:A:=by exact {s with ax:=s.ax.set j aba}):=x
abbrev WE(x:A:=by exact[bz m (mi b n L o) DB,js q m b n,gD p q (ji b n L o)]):=x
abbrev abb(x:A:=by exact[fG X.cN X.C.bC,b8 X.cN X.C.bC,hU X.cN X.C.bC,ez X.cN X.C.bC,ao (k5 X.cN X.C.bC)]):=x
abbrev abc(x:A:=by exact⟨B.id,B.par,B.kind,B.slots,B.lb,B.kids,B.aside,B.front,B.cH,B.jW⟩):=x
abbrev TO(x:A:=by exact(aH (.tuple #[.agg [S [],.bool false,af 0,.slice none 0 0].toArray,.bool false]) [a2])):=x
abbrev Wx(x:A:=by exact[bz m (rb L ⟨0,cell,seen,out⟩) (dV t),k3 p m (qh L ⟨0,cell,seen,out⟩)]):=x
abbrev Wy(x:A:=by exact[bz m (rb L ⟨1,cell,seen,out⟩) (dV t),k3 p m (qh L ⟨1,cell,seen,out⟩)]):=x
abbrev Wz(x:A:=by exact[bz m (rb L ⟨2,cell,seen,out⟩) (dV t),k3 p m (qh L ⟨2,cell,seen,out⟩)]):=x
abbrev WA(x:A:=by exact[bz m (rb L ⟨3,cell,seen,out⟩) (dV t),k3 p m (qh L ⟨3,cell,seen,out⟩)]):=x
abbrev WB(x:A:=by exact[bz m (rb L ⟨4,cell,seen,out⟩) (dV t),k3 p m (qh L ⟨4,cell,seen,out⟩)]):=x
abbrev Xt(x:A:=by exact⟨if(iw B.ek B.na L o).out=2 then .enter (kr false v) v else .ring (jL 3 0),0,0⟩):=x
abbrev Pq(x:A:=by exact[1,5,9,13,17,21,25,29,33,37,41,45,49,53,57,62,66,70,3,3,3,66,62,70]):=x
abbrev abd(x:A:=by exact[bz m (lp b n L o) DB,fs r m b n,h3 p r (dC b n L o)]):=x
abbrev abe(x:A:=by exact[(abf:bG)]):=x
abbrev Eb(x:A:=by exact[ao lX,aa ar 32 [ptr X.h 0],cp X z s,bz X.m s.L z.tt,eL X]):=x
abbrev O6(x:A:=by exact(bd.cons rfl Pr)):=x
abbrev abg(x:A:=by exact[aa (X.bp j) 128 (ptr X.h 0::af (jV X j)::(.iface T v)::y::IW)]):=x
abbrev abh(x:A:=by exact(abi (s:={s with shut:=true}) (a:=1) N kg h1)):=x
abbrev Vv(x:A:=by exact(λu I=>∃p,u=ptr p 0/\I=[hT X B p (AD),fv X B])):=x
abbrev HA(x:A:=by exact(xs.take (i*z.size)++xs.drop (j*z.size)++xs.drop ((i+(k -j))*z.size))):=x
abbrev Ps(x:A:=by exact[aa aR 110 [ptr q 0],aa aM 261 (iz m),aa q 118 (dS X x e),dj e.ka e.kc x.kids]):=x
abbrev Xc(x:A:=by exact(aa c1 96 [ptr X.c 0]::aa bq 169 [ptr p 0]::aa b7 3 [af w]::rh)):=x
abbrev X3(x:A:=by exact(eu::eu::eu::N3)):=x
abbrev Ya(x:A:=by exact[eu,eu,nE,eu,gP]):=x
abbrev Yj(x:A:=by exact[fN,.nilFunc,eu,ob,ob,ob]):=x
abbrev aal(x:A:=by exact⟨λ_=>g,hf,hf,hf⟩):=x
abbrev IX(x:A:=by exact {s with lets:=s.lets++[l],a8:=dW s.a8 ((s.lets.length+1:Nat):Int) 1}):=x
abbrev aaD(x:A:=by exact[(abj:bG)]):=x
abbrev aaF(x:A:=by exact[(abk:bG)]):=x
abbrev aaH(x:A:=by exact[(abl:bG)]):=x
abbrev aaI(x:A:=by exact[({Th.cz with kind:=10,dc:=b,cf:=x.id,why:=d,name:=reason}:bG)]):=x
abbrev abm(x:A:=by exact(λh g=>Sat.tail (λh g=>tw (A:=Ec ar l) (l:=eB z.ae s.lets) h g) g)):=x
abbrev abn(x:A:=by exact(aa az 246 [ptr p 0]::aa g8 49 [u3 U N]::Pt)):=x
abbrev abo(x:A:=by exact {s with ax:=s.ax.set j abp}):=x
abbrev abq(x:A:=by exact(ptr X.h 0::af (jV X j)::(.iface T (ptr p 0))::(bk f c)::IW)):=x
abbrev U0(x:A:=by exact(bd.cons (t:=2) rfl (bd.cons (t:=1) rfl (bd.cons (t:=0) rfl (bd.nil))))):=x
abbrev abr(x:A:=by exact(cp X z s::aad)):=x
abbrev aav(x:A:=by exact⟨v1,y6,y6,y6⟩):=x
abbrev abt(x:A:=by exact(s.trace++IR)):=x
abbrev abu(x:A:=by exact {s with ax:=s.ax.set j {t with on:=some (.post a Th.xC,.lc a k)}}):=x
abbrev X7(x:A:=by exact(fN::eu::.nilIface::.nilFunc::HT)):=x
abbrev abv(x:A:=by exact⟨v,c,e,S,s.imp λg t=>Oa R g (by rw[jI];exact t)⟩):=x
abbrev u2(x:A:=by exact[aa ar 32 [ptr X.h 0],cp X z s,ao lX,bz X.m s.L z.tt]):=x
abbrev Mm(x:A:=by exact[aa d 26 C9,aa f 78 (eH k),aa F 85 (gY r),A]):=x
abbrev U8(x:A:=by exact[aa d 26 C9,aa f 78 (eH k),aa F 82 (gB s),A]):=x
abbrev Yb(x:A:=by exact[fN,eu,eu,fN,fN]):=x
abbrev abw(x:A:=by exact(s.imp λh s=>Sat.tail (λh s=>cE () trivial kS h s) s)):=x
abbrev abx(x:A:=by exact[a1 X z.ap z.ae j 0 k J M,cM X p (.fQ ((s.lets.length+1:Nat):Int))]):=x
abbrev aby(x:A:=by exact {s with ax:=s.ax.set j {t with on:=some (.post a (Th.mA 2),.run a)}}):=x
abbrev Uc(x:A:=by exact((z++(F9:fU)::k.states.drop (i+1)).flatMap gB)):=x
abbrev abz(x:A:=by exact[ptr (X.bp j) 0,ptr q 0,.agg (iz ⟨l,b,reason⟩).toArray,af d,bk J M]):=x
abbrev abA(x:A:=by exact {s with ax:=s.ax.set j {t with on:=some (.post a Th.Cc,.iX a)}}):=x
abbrev abf(x:A:=by exact {Th.cz with kind:=1,cf:=-1 -(i:Int),to:=R,name:=a,n:=N}):=x
abbrev Pu(x:A:=by exact[(abB:bG)]):=x
abbrev NC(x:A:=by exact(bz X.m L t::ND)):=x
abbrev aaT(x:A:=by exact {t with on:=some (.post a (Th.E6 (!decide (x.mode=1))),.settled a)}):=x
abbrev aaQ(x:A:=by exact {s with trace:=s.trace++[(Pv:bG)]}):=x
abbrev Pw(x:A:=by exact {x with kids:=x.kids++[(id:Int)],slots:=x.slots.set slot (id:Int)}):=x
abbrev abC(x:A:=by exact[bz m (Bt b L o) (dV t),fs r m b n,h3 p r (yo b L o)]):=x
abbrev Px(x:A:=by exact[(10,af ((C.fK:Nat):Int)),(2,ptr V 0),(3,ptr ay 0),(7,ptr n 0)]):=x
abbrev Py(x:A:=by exact[Ck.fv db C.df,fs db.r m (C.df.b+1) C.df.n,fw db.wp q7]):=x
abbrev YZ(x:A:=by exact(.call {callee:=.builtin .delete,args:=#[x,y],argTypes:=#[t,D]})):=x
abbrev abj(x:A:=by exact {Th.cz with kind:=10,dc:=b,cf:=x.id,why:=1,name:=reason}):=x
abbrev abk(x:A:=by exact {Th.cz with kind:=10,dc:=b,cf:=x.id,why:=2,name:=reason}):=x
abbrev abl(x:A:=by exact {Th.cz with kind:=10,dc:=b,cf:=x.id,why:=3,name:=reason}):=x
abbrev abD(x:A:=by exact[cp X z s,di z.b4 z.b5 s.trace,bs X.am .i64 (bD z.ap),eO X,ef X]):=x
abbrev abE(x:A:=by exact[aa aR 110 [ptr q 0],aa aM 261 (iz m),aa q 118 (dS X x e),gb e.bI]):=x
abbrev TS(x:A:=by exact[own (.slice a r.cx.length c) 87 7 r.cx.length (r.cx.flatMap fM),a2]):=x
abbrev VC(x:A:=by exact⟨.put De,(dC (B.b+1) B.n L o).out,0,[],cut,ref⟩):=x
abbrev NM(x:A:=by exact(.call {callee:=.builtin .append,args:=#[x,y],argTypes:=#[t,t]})):=x
abbrev ZF(x:A:=by exact(eK::aay)):=x
abbrev N1(x:A:=by exact(nE::gP::N4)):=x
abbrev Pz(x:A:=by exact[aa q 164 [af F,ul cu c1 dv,ul cC bq O],fH cu c1 dv,fH cC bq O]):=x
abbrev abF(x:A:=by exact(b9 rfl (IY x.kids e.ka e.kc m.who (dj e.ka e.kc x.kids) ad) bN)):=x
abbrev abG(x:A:=by exact[ptr (X.bp (X.C.bc+X.C.cT)) 0,y7 X (X.C.bc+X.C.cT) 88]):=x
abbrev V3(x:A:=by exact⟨λ_=>none,h,λ_=>.inl rfl,by funext b;simp[join],trivial,s⟩):=x
abbrev PA(x:A:=by exact[aa ho 3 [af now],aa bF 113 [ptr q 0],aa q 289 [af F,af z,m]]):=x
abbrev abH(x:A:=by exact[aa fd 246 [ptr p 0],aa bq 116 tF,aa b7 36 [bx v],eF X B]):=x
abbrev aam(x:A:=by exact(dy X.bl X.m X.C.bl X.C.aT::ao (dd X)::ef X::IM)):=x
abbrev abI(x:A:=by exact((aY Bu kg).spec)):=x
abbrev abJ(x:A:=by exact[bz m (Bv b L o) (dV t),fs r m b n,h3 p r (yk b L o)]):=x
abbrev aad(x:A:=by exact[dX z.na z.dT s.notes,ao (dd X),ef X,ao lX]):=x
abbrev Pr(x:A:=by exact(bd.cons rfl IZ)):=x
abbrev abK(x:A:=by exact(PB++lY)):=x
abbrev PC(x:A:=by exact {x with slots:=x.slots.set ((Th.nt o.slot).getD 0) (max l.cf 0)}):=x
abbrev abL(x:A:=by exact {s with ax:=s.ax.set j {t with on:=some (.add 0 1,.mE l k)}}):=x
abbrev abM(x:A:=by exact {s with ax:=s.ax.set j {t with jj:=(!decide (az.out=1))}}):=x
abbrev Yk(x:A:=by exact[fN,eu,ob,.nilFunc,eu]):=x
abbrev N8(x:A:=by exact[(0,1),(1,1),(2,1),(3,1),(4,1),(5,1),(6,1),(7,1),(8,1)]):=x
abbrev Yr(x:A:=by exact(.call {callee:=.invoke x name,args:=xs.toArray,argTypes:=z})):=x
abbrev sl(x:A:=by exact {(acc C s (.add a 1)).1 with ax:=s.ax.set j {t with on:=none}}):=x
abbrev IR(x:A:=by exact[(abN:bG)]):=x
abbrev Ed(x:A:=by exact {ce with a8:=rn 1 az.due (rp 5 6 (ce.bm.T.map (·.id)) ce.a8)}):=x
abbrev PD(x:A:=by exact[fG cN C.bC,b8 cN C.bC,hU cN C.bC,ez cN C.bC,ao (k5 cN C.bC)]):=x
abbrev uM(x:A:=by exact(bz X.m (n2 B.ek B.na L o) (dV t)::jB)):=x
abbrev XC(x:A:=by exact(λD=>by simp only[ck,ci];exact(au))):=x
abbrev aa3(x:A:=by exact {t with on:=some (.post l.to.toNat (Th.K7 id),.told id l.to k)}):=x
abbrev aaJ(x:A:=by exact(ef X::eL X::ZK)):=x
abbrev kh(x:A:=by exact[ptr X.h 0,.agg [af J,af (i:Int),af R,S fx,af de].toArray]):=x
abbrev UW(x:A:=by exact[540,556,560,564,568,572,576,580,584,588,592,598,602,604]):=x
abbrev WH(x:A:=by exact[bz m (rZ L o) DB,k3 p m (r0 L o)]):=x
abbrev Xs(x:A:=by exact(jt X B p (.enter o v)::wH)):=x
abbrev uN(x:A:=by exact(bz X.m (qf B.b B.bX L o) (dV t)::jB)):=x
abbrev XB(x:A:=by exact(gy X B p z::bz X.m H (dV t)::jB)):=x
abbrev PE(x:A:=by exact[cW p x y 0 0 X.br,aa F 213 D5]):=x
abbrev abO(x:A:=by exact(λe X=>∃v I,e=.returned v/\post v I/\dt H (I++D) X)):=x
abbrev II(x:A:=by exact {t with on:=some (.post b (Th.xB s.notes.length),.lJ b k)}):=x
abbrev u4(x:A:=by exact[ptr (X.bp j) 0,ptr q 0,ptr m 0,.agg (fM o).toArray,bk J M]):=x
abbrev abP(x:A:=by exact[ptr X.h 0,.agg [af 1,af (j:Int),af R,S fx,af de].toArray]):=x
abbrev abB(x:A:=by exact {Th.cz with kind:=7,dc:=id,cf:=(0:Nat),name:=kind}):=x
abbrev abQ(x:A:=by exact(PF e.tag (g e (abR (jH Y))))):=x
abbrev Vz(x:A:=by exact(λu I=>∃p,u=ptr p 0/\I=[hT X B p (rU id),fv X B])):=x
abbrev abS(x:A:=by exact[(abT:bG)]):=x
abbrev I0(x:A:=by exact(a1 X z.ap z.ae j 0 k J M::qo)):=x
abbrev aaA(x:A:=by exact[own (.slice aD m.length aI) 36 1 m.length (m.map λt=>bx t.id)]):=x
abbrev Xx(x:A:=by exact(jt X B p (.mU o l)::wH)):=x
abbrev Xy(x:A:=by exact(jt X B p (.k1 w o)::wH)):=x
abbrev HR(x:A:=by exact[.nilIface,.nilFunc,eu,ob,fN]):=x
abbrev abU(x:A:=by exact[fG X.cN X.C.bC,b8 X.cN X.C.bC,hU X.cN X.C.bC,ez X.cN X.C.bC]):=x
abbrev abV(x:A:=by exact[ao j5,ao (dd X),ao lX]):=x
abbrev abW(x:A:=by exact⟨Bw o,u5 (o.looksAt l.toArray),y8 o,(k6 l []).getD i 0⟩):=x
abbrev TW(x:A:=by exact {p with cx:=p.cx++[{e with n:=pv e n,value:=2}]}):=x
abbrev Xu(x:A:=by exact(jt X B p (.ring o)::wH)):=x
abbrev Ob(x:A:=by exact(.call {callee:=.builtin .len,args:=#[x],argTypes:=#[t]})):=x
abbrev aar(x:A:=by exact {t with on:=some (.post a (Th.E5 s.notes.length),.oU a)}):=x
abbrev abX(x:A:=by exact(ptr (X.bp j) 0::ptr q 0::bx id::PG)):=x
abbrev abY(x:A:=by exact(s.imp λg t=>by rw[<-jI];exact Oa i g t)):=x
abbrev abZ(x:A:=by exact[(0,.loc),(2,.bL),(1,.da),(3,.da),(4,.loc),(5,.loc)]):=x
abbrev Yc(x:A:=by exact[fN,eu,fN,fN]):=x
abbrev ab0(x:A:=by exact[aa q 289 [af F,af z,.map (some r)],bs r .i64 (ng es)]):=x
abbrev I1(x:A:=by exact[1,5,9,13,17,21,25,29,33,38,42,46,3,3,3,42,38,46]):=x
abbrev ab1(x:A:=by exact([aa aK 106 eE,aa ar 110 [ptr q 0]]++bh X z s)):=x
abbrev ab2(x:A:=by exact([aa aK 110 [ptr q 0],aa ar 106 eE]++bh X z s)):=x
abbrev ab3(x:A:=by exact[cp X z s,ao j5,ao lX]):=x
abbrev ab4(x:A:=by exact(a1 X z.ap z.ae j 0 k J M::cM X p kG::bh X z s)):=x
abbrev ab5(x:A:=by exact[aa aM 110 [ptr q 0],aa Z 87 (fM o),aa q 118 (dS X x e)]):=x
abbrev ab6(x:A:=by exact[aa Z 87 (fM o),aa aM 110 [ptr q 0],aa q 118 (dS X x e)]):=x
abbrev W7(x:A:=by exact(aa bq 169 [ptr p 0]::aa b7 36 [bx v]::rh)):=x
abbrev ND(x:A:=by exact[fG X B,b8 X B,hU X B,ez X B,js (X.hL w) X.m (B.cq w) B.e0]):=x
abbrev ab7(x:A:=by exact(iX s j t a ⟨what,0,[]⟩ (.each wU i l.length k))):=x
abbrev ab8(x:A:=by exact {s with a8:=OX}):=x
abbrev ab9(x:A:=by exact(b9 rfl (aca q r F z c now es aw R j) wV)):=x
abbrev acb(x:A:=by exact(rn 1 (az.due.take i) (rp 5 6 (ce.bm.T.map (·.id)) ce.a8))):=x
abbrev aa6(x:A:=by exact[({Th.cz with kind:=8,dc:=x.id,name:=kind}:bG)]):=x
abbrev PH(x:A:=by exact[ptr X.h 0,.agg [af J,af ea,af R,S fx,af de].toArray]):=x
abbrev PI(x:A:=by exact[(8,af l),(0,ptr p 0),(1,.func (.func g) #[] C.toArray)]):=x
abbrev NR(x:A:=by exact(λj g _ aw=>by rw[getD_replicate_false]at aw;cases aw)):=x
abbrev acd(x:A:=by exact(fS (c:=true) (by exact lM T) (mY rfl rfl))):=x
abbrev ace(x:A:=by exact[bz m (L) (dV t),fs r m b n,h3 p r (yn b L o)]):=x
abbrev aba(x:A:=by exact {t with on:=some (.ey (q4 id e.vn),.asked id a e k)}):=x
abbrev Ee(x:A:=by exact {x with state:=st.name,slots:=[0,0,0,0],cH:=[]}):=x
abbrev Ef(x:A:=by exact {(acc C s o).1 with ax:=s.ax.set j {t with on:=none}}):=x
abbrev PJ(x:A:=by exact(PB++tE)):=x
abbrev acf(x:A:=by exact[ptr X.h 0,.agg [af 6,af ea,af R,S fx,af de].toArray]):=x
abbrev UF(x:A:=by exact(aH Mh [A,aa b 87 (fM c)])):=x
abbrev wa(x:A:=by exact[1,5,9,13,17,21,25,29,34,38,42,3,3,3,38,34,42]):=x
abbrev X9(x:A:=by exact((.map none)::eK::Bo)):=x
abbrev acg(x:A:=by exact[bz m L (dV t),fs r m b n,h3 p r (ym b n L o)]):=x
abbrev ach(x:A:=by exact⟨hf,hf,by trivial⟩):=x
abbrev abN(x:A:=by exact {Th.cz with kind:=7,dc:=id,cf:=a,name:=kind}):=x
abbrev aci(x:A:=by exact((List.range X.C.cT).any λi=>busy s (X.C.bc+i))):=x
abbrev acj(x:A:=by exact(!t.on.isSome&&t.jj&&!decide I2)):=x
abbrev Vb(x:A:=by exact[aa d 26 C9,aa f 78 (eH k),A]):=x
abbrev XP(x:A:=by exact(if c=i then a else a.map (λx:Addr=>x.add (i*aZ)))):=x
abbrev PK(x:A:=by exact(qp (cE (z,gt,b7,d8,fd,F) trivial (au)) h s)):=x
abbrev ack(x:A:=by exact[bz m (L) (dV t),fs r m b n,h3 p r (yj b L o)]):=x
abbrev PL(x:A:=by exact[bz m L (dV t),fs r m b n,h3 p r (wk b n L o)]):=x
abbrev acm(x:A:=by exact[bz m L (dV t),fs r m b n,h3 p r (yl b L o)]):=x
abbrev acn(x:A:=by exact(Src.pop j::Src.take::(order d C.bC.bX j).map Src.lR)):=x
abbrev aco(x:A:=by exact(b9 rfl (tG X z s id 3 q l K bw aF aS c2 aO) bN)):=x
abbrev acp(x:A:=by exact(λh s=>cE (D:=[]) () trivial kS h s)):=x
abbrev acq(x:A:=by exact(b=false/\w.get id=none/\l=0/\s=0/\t=⟨0,0,0⟩)):=x
abbrev Np(x:A:=by exact(if c=1 then a else a.map (λy:Addr=>y.add (1*1)))):=x
abbrev XA(x:A:=by exact(jt X B p ph::wH)):=x
abbrev X5(x:A:=by exact(eu::eu::Bo)):=x
abbrev acr(x:A:=by exact(dj jA c Bx::J)):=x
abbrev sm(x:A:=by exact[ptr aK 0,ptr ar 0,ptr V 0,ptr ay 0,ptr aL 0,ptr aR 0]):=x
abbrev acs(x:A:=by exact[ptr aL 0,ptr aR 0,ptr aM 0,ptr bV 0,ptr Z 0,ptr cA 0]):=x
abbrev Uh(x:A:=by exact(eD l (.loop rec)::eD z s8::Inv k)):=x
abbrev Na(x:A:=by exact(b9 rfl (Wj q m b n L t K 1 (b+1) bw rfl) bN)):=x
abbrev PM(x:A:=by exact[aa F 213 D5,eF X B]):=x
abbrev abT(x:A:=by exact {Th.cz with kind:=6,id:=id,to:=l.to,why:=why}):=x
abbrev PN(x:A:=by exact {x with front:=x.front++x.aside.reverse,aside:=[]}):=x
abbrev sn(x:A:=by exact[ptr (X.bp j) 0,ptr q 0,.agg (iz m).toArray,bk J M]):=x
abbrev acu(x:A:=by exact(By X z s wW t (q.1) (q.2) cQ B)):=x
abbrev acv(x:A:=by exact(ptr X.h 0::af (jV X j)::x::F::IW)):=x
abbrev Uo(x:A:=by exact[bz p I3 (dV t)]):=x
abbrev Vp(x:A:=by exact(rS X B p cut ref (pE left w)::yh)):=x
abbrev Pj(x:A:=by exact {Th.cz with kind:=15,n:=((s.now+1:Nat):Int)}):=x
abbrev IZ(x:A:=by exact(bd.cons rfl (bd.cons rfl (bd.cons rfl (bd.nil))))):=x
abbrev Ua(x:A:=by exact[(16,af k.states.length),(1,ptr ar 0),(2,ptr V 0)]):=x
abbrev Vw(x:A:=by exact(λh s=>Sat.tail (λh s=>amh h s) ((au) h s))):=x
abbrev aay(x:A:=by exact[eK,eK,eK]):=x
abbrev N6(x:A:=by exact[eu,eu,nE]):=x
abbrev Ye(x:A:=by exact(fN::.nilFunc::Bo)):=x
abbrev acw(x:A:=by exact(qp (cE (z,c,az,g8,N) trivial (au)) h s)):=x
abbrev ZK(x:A:=by exact[e7 X,eO X,ao ((cK X z.ap z.ae s.ax).set j eJ)]):=x
abbrev F3(x:A:=by exact⟨k.name,k.limit,k.within,cu,c1,k.cases,cC,bq,z⟩):=x
abbrev VD(x:A:=by exact(λh s=>Sat.tail (λh s=>amg h s) ((au) h s))):=x
abbrev VE(x:A:=by exact⟨.take left De,0,0,[],cut,ref⟩):=x
abbrev rf(x:A:=by exact(λ_=>hq)):=x
abbrev N9(x:A:=by exact[(0,1),(1,1),(2,1),(3,1),(4,1),(5,1),(6,1)]):=x
abbrev PO(x:A:=by exact(j9 i gH (λD h s=>by rwa[jI]))):=x
abbrev acx(x:A:=by exact[ao (dI X ap aE),ao (dd X),ao u6]):=x
abbrev abp(x:A:=by exact {t with on:=some (.add 1 1,.mF a kind slot k)}):=x
abbrev Pn(x:A:=by exact {Th.cz with kind:=9,dc:=x.id,name:=reason}):=x
abbrev aa8(x:A:=by exact(Th.dY x.given m.who++[Th.gV wX])):=x
abbrev oA(x:A:=by exact[.slice a L.length c,.func (.func F) #[] z.toArray]):=x
abbrev Nb(x:A:=by exact(b9 rfl (Wj q m b n L t K 0 (b) bw rfl) bN)):=x
abbrev Xz(x:A:=by exact⟨.oK r5,(j1 B.b B.bX L o).out,0⟩):=x
abbrev Mx(x:A:=by exact(gZ cu cR cut::gZ cC b8 ref::yh)):=x
abbrev Ig(x:A:=by exact {w with heap:=w.heap.setIfInBounds r (.map l c)}):=x
abbrev PP(x:A:=by exact(a1 X z.ap z.ae j 0 k J M::gM X z s (x.id) q x e)):=x
abbrev I4(x:A:=by exact {s with ax:=s.ax.set j y9}):=x
abbrev VF(x:A:=by exact⟨.tick ((w.now+1:Nat):Int),0,0,[],cut,ref⟩):=x
abbrev N5(x:A:=by exact[eu,eK,eK]):=x
abbrev Bz(x:A:=by exact⟨v.1.mono h,v.2.1.mono h,cX.mono v.2.2.1,v.2.2.2⟩):=x
abbrev acy(x:A:=by exact⟨h.num.nj,h.num.pf,h.num.dv,h.num.mv,h.num.mx⟩):=x
abbrev acz(x:A:=by exact⟨h.1,h.2,λ_=>⟨trivial,rfl⟩,λ_=>trivial⟩):=x
abbrev V2(x:A:=by exact(⟨some d,op,bH,pos,N,some (j,F)⟩::rest)):=x
abbrev O1(x:A:=by exact[a1 X z.ap z.ae j 0 k J M,cM X p kG]):=x
abbrev MA(x:A:=by exact[rS X B p cut ref (.take left o),o3 X B L t w]):=x
abbrev rm(x:A:=by exact[bk 207 I5]):=x
abbrev za(x:A:=by exact[ptr aK 0,ptr ar 0,ptr V 0,ptr ay 0,ptr aL 0]):=x
abbrev iM(x:A:=by exact(a1 X z.ap z.ae j 0 k J M::gM X z s a q x e)):=x
abbrev u7(x:A:=by exact {z with b4:=aD,b5:=aI,na:=cC,dT:=bq}):=x
abbrev PQ(x:A:=by exact {z with ap:=z.ap++[i],b4:=aD,b5:=aI}):=x
abbrev LZ(x:A:=by exact(gF rfl (rK gB 2 qV q rfl))):=x
abbrev Gm(x:A:=by exact[.slice a i c,.func (.func F) #[] z.toArray]):=x
abbrev Eg(x:A:=by exact(rp 5 6 ((ce.bm.T.map (·.id)).take i) ce.a8)):=x
abbrev HS(x:A:=by exact(fN::Bo)):=x
abbrev A9(x:A:=by exact[fN,eu,ob]):=x
abbrev PR(x:A:=by exact(cE (q,aM,ay,aL,aR,F) trivial (au))):=x
abbrev Eh(x:A:=by exact⟨rfl,rfl,rfl,rfl,rfl,rfl,λh=>h,rfl⟩):=x
abbrev PS(x:A:=by exact(v.resolve_right (fun⟨_,e⟩=>by cases e))):=x
abbrev zb(x:A:=by exact(af i::I5)):=x
abbrev OX(x:A:=by exact(x.aside.foldl (λr id=>dH r id 4) s.a8)):=x
abbrev xS(x:A:=by exact[.agg (eH k).toArray,S state,S tag,af n]):=x
abbrev wH(x:A:=by exact(bz X.m L t::jB)):=x
abbrev N0(x:A:=by exact[nE,eK]):=x
abbrev I6(x:A:=by exact[ptr (X.bp j) 0,ptr q 0,S reason,bk J M]):=x
abbrev I7(x:A:=by exact⟨bI,none,0,none,0,g,j,c,d,[]⟩):=x
abbrev I8(x:A:=by exact(aqO e.bI m.reason (gb e.bI) g7)):=x
abbrev PT(x:A:=by exact(λh s=>jc h (wK h ((au) h s)))):=x
abbrev hq(x:A:=by exact(λh s=>Sat.swap (aqP ((au) h s) rfl))):=x
abbrev A8(x:A:=by exact(ob::Bo)):=x
abbrev PU(x:A:=by exact(gf rfl rfl (show j<l.length by omega))):=x
abbrev I9(x:A:=by exact[(0,ptr aK 0),(1,ptr ar 0),(2,ptr V 0)]):=x
abbrev Ei(x:A:=by exact(af J::af (i:Int)::Ja)):=x
abbrev Gp(x:A:=by exact(λx ah=>hp x (abR ah))):=x
abbrev tp(x:A:=by exact(λD=>cE x trivial kS)):=x
abbrev Ej(x:A:=by exact[ptr (X.bp j) 0,ptr q 0,bx id,bk J M]):=x
abbrev Jb(x:A:=by exact {t1 with on:=some ((acc X.C s1 o).2,k)}):=x
abbrev PV(x:A:=by exact(af 1::af (j:Int)::Ja)):=x
abbrev NP(x:A:=by exact(xs.take (k*z.size)++iV V (q+1))):=x
abbrev PW(x:A:=by exact {x with watched:=Th.oj x.watched who}):=x
abbrev Ek(x:A:=by exact[.agg (Bc c bZ pc K ea cZ es r).toArray]):=x
abbrev v7(x:A:=by exact(kL X jK (fV cu cR cut) (fV cC b8 ref))):=x
abbrev MK(x:A:=by exact(aH jK GR)):=x
abbrev G4(x:A:=by exact(⟨some d,op,bH,pos,N,none⟩::rest)):=x
abbrev N3(x:A:=by exact[nE,eu]):=x
abbrev PX(x:A:=by exact(allM X z j aK ar V ea cZ l what k J M)):=x
abbrev PY(x:A:=by exact {x with cH:=x.cH++[(b:Int)]}):=x
abbrev Jc(x:A:=by exact {t with on:=some ((acc X.C s o).2,k)}):=x
abbrev Jd(x:A:=by exact[ptr zc 0,.nilFunc]):=x
abbrev PZ(x:A:=by exact(Je N dg cL r ad aj h.inv cQ B W h1)):=x
abbrev I3(x:A:=by exact(if L.getD i 0=x then L.set i v else L)):=x
abbrev ML(x:A:=by exact(aH jK GU)):=x
abbrev Du(x:A:=by exact(fy ((b+w:Nat):Int) ff rfl rfl)):=x
abbrev Nc(x:A:=by exact(fy ((b+1:Nat):Int) ff rfl rfl)):=x
abbrev HY(x:A:=by exact(λv I=>∃L,post v L/\I=L++D)):=x
abbrev Pt(x:A:=by exact[aa N 36 ((oe U).map bx),eF X B]):=x
abbrev qo(x:A:=by exact[cp X z s,ao lX]):=x
abbrev P0(x:A:=by exact(λe=>by simp only[gi]at e;omega)):=x
abbrev Jf(x:A:=by exact {Th.cz with kind:=14,dc:=x.id}):=x
abbrev k8(x:A:=by exact(a1 X z.ap z.ae j 0 k J M::bh X z s)):=x
abbrev Pb(x:A:=by exact {Th.cz with kind:=12,dc:=x.id}):=x
abbrev Pe(x:A:=by exact {Th.cz with kind:=11,dc:=x.id}):=x
abbrev MT(x:A:=by exact(⟨none,op,bH,pos,N,none⟩::rest)):=x
abbrev Hy(x:A:=by exact⟨st.os,st.tape,st.output,st.size,ah⟩):=x
abbrev Ba(x:A:=by exact[(0,1),(1,1),(2,1),(3,1),(4,1)]):=x
abbrev Ik(x:A:=by exact(λx ah=>p2.1 h1 x ah)):=x
abbrev P1(x:A:=by exact[ptr gt 0,ptr b7 0,ptr d8 0,ptr fd 0]):=x
abbrev P2(x:A:=by exact[ptr aC 0,ptr aV 0,ptr bF 0,ptr dx 0]):=x
abbrev P3(x:A:=by exact(.cons (.tail .head) nz)):=x
abbrev I5(x:A:=by exact[ptr d5 0,ptr d6 0,ptr cq 0,ptr d2 0]):=x
abbrev P4(x:A:=by exact[bk 304 lY]):=x
abbrev wR(x:A:=by exact(x.watched.map λw=>(w,.bool true))):=x
abbrev BA(x:A:=by exact[ptr aK 0,ptr ar 0,ptr V 0,ptr ay 0]):=x
abbrev Jg(x:A:=by exact(ew (bD z.ap) (id:Int) (ptr f 0))):=x
abbrev Ny(x:A:=by exact(λD=>cE x ah kS)):=x
abbrev P5(x:A:=by exact(fS (c:=false) aqK (mY rfl rfl))):=x
abbrev GM(x:A:=by exact(lO (dC (B.b+1) B.n L o).value w)):=x
abbrev Hw(x:A:=by exact[(0,ptr m 0),(1,af b),(2,af n)]):=x
abbrev Jh(x:A:=by exact(bz m L t::zd)):=x
abbrev Pv(x:A:=by exact {Th.cz with kind:=13,dc:=a}):=x
abbrev Ji(x:A:=by exact(Sat.tail (λh F=>Sat.flat.1 F) F)):=x
abbrev P6(x:A:=by exact {x with slots:=x.slots.set slot 0}):=x
abbrev Br(x:A:=by exact[cM X p o,a1 X z.ap z.ae j p k f c]):=x
abbrev D5(x:A:=by exact[ptr (X.r true) 0,ptr (X.r false) 0]):=x
abbrev ze(x:A:=by exact(.tail (.tail (.tail (.tail .head))))):=x
abbrev PB(x:A:=by exact[af i,bk 208 sp]):=x
abbrev y2(x:A:=by exact((dI X z.ap s.aE).set (a -1) eJ)):=x
abbrev El(x:A:=by exact(l.map λw=>(w,Value.bool true))):=x
abbrev P7(x:A:=by exact(1<=R/\R<=(s.aE.length:Int))):=x
abbrev P8(x:A:=by exact[ao lX,e7 X]):=x
abbrev P9(x:A:=by exact(λh s=>Em (D:=[]) aj h aqL)):=x
abbrev Hz(x:A:=by exact(.cells (xs++dJ).toArray e (0,0))):=x
abbrev NU(x:A:=by exact(λi=>(i.zero,i.size,i.bytes))):=x
abbrev Qa(x:A:=by exact(.cells (V++dJ).toArray e (0,0))):=x
abbrev lB(x:A:=by exact[ptr (X.bp j) 0,ptr q 0,bk J M]):=x
abbrev Qb(x:A:=by exact[fJ e.gp X.C.dO x.aside x.front]):=x
abbrev Jj(x:A:=by exact(jR Tryz.underlying248 rfl rfl)):=x
abbrev Qc(x:A:=by exact(.each (.my a) i n (.parent a k))):=x
abbrev Qd(x:A:=by exact {x with front:=x.front.dropLast}):=x
abbrev Qe(x:A:=by exact(if az.over then z.tt else dV z.tt)):=x
abbrev CN(x:A:=by exact(i∈U->∀h,Sat I h->Sat O h)):=x
abbrev BB(x:A:=by exact(dC sq sr L o)):=x
abbrev tH(x:A:=by exact⟨v.1.mono h,cX.mono v.2.1,v.2.2⟩):=x
abbrev Qf(x:A:=by exact {x with front:=[],aside:=[]}):=x
abbrev Jk(x:A:=by exact(s.ax.set j {t with on:=none})):=x
abbrev kg(x:A:=by exact⟨aj.gk,aj.fY,aj.fZ,aj.ap,aj.ae⟩):=x
abbrev En(x:A:=by exact[ptr (X.bp j) 0,ptr q 0,af left]):=x
abbrev CD(x:A:=by exact(.slice k.sa k.states.length k.sc)):=x
abbrev xR(x:A:=by exact(λx=>decide (x.name=state))):=x
abbrev Mh(x:A:=by exact(.bool (decide (d.name=c.name)))):=x
abbrev Gn(x:A:=by exact(aH (.bool ((L.take i).any q)) J)):=x
abbrev wi(x:A:=by exact(λh s=>jc h ((au) h s))):=x
abbrev MP(x:A:=by exact⟨.take left o,0,0,[],cut,ref⟩):=x
abbrev N4(x:A:=by exact[eu,eK]):=x
abbrev Bi(x:A:=by exact(λp=>(Value.int d9 p.1,p.2))):=x
abbrev Eo(x:A:=by exact((cs.drop bY).take (P.cellsOf t))):=x
abbrev BC(x:A:=by exact {s with trace:=s.trace++[e]}):=x
abbrev PG(x:A:=by exact[.agg (fM e).toArray,bk J M]):=x
abbrev Ep(x:A:=by exact {s with notes:=s.notes++[m]}):=x
abbrev Qg(x:A:=by exact(Th.c8 s a {x with mode:=3})):=x
abbrev Qh(x:A:=by exact(Bc (rq C) bZ pc K ea cZ es r)):=x
abbrev Ag(x:A:=by exact(.slice k.ca k.cases.length k.kn)):=x
abbrev Gc(x:A:=by exact([.agg (jQ x).toArray]++z)):=x
abbrev Gd(x:A:=by exact([.agg (eH x).toArray]++z)):=x
abbrev Ge(x:A:=by exact([.agg (gB x).toArray]++z)):=x
abbrev Gf(x:A:=by exact([.agg (gY x).toArray]++z)):=x
abbrev wY(x:A:=by exact(dC (B.ev true) (B.e1 true) L o)):=x
abbrev Qi(x:A:=by exact(lT (ptr q 0) Y9 rfl rfl)):=x
abbrev Qj(x:A:=by exact[dy X.bl X.m X.C.bl X.C.aT]):=x
abbrev Jl(x:A:=by exact(cK X u9 z.ae s.ax)):=x
abbrev BD(x:A:=by exact(λx=>decide (x.name=kind))):=x
abbrev LU(x:A:=by exact(.slice s.ra s.rows.length s.rc)):=x
abbrev GR(x:A:=by exact[cW p x y 0 0 (kL X F z oG)]):=x
abbrev jB(x:A:=by exact[fG X B,b8 X B,hU X B,ez X B]):=x
abbrev DO(x:A:=by exact[(0,1),(1,1),(2,1),(3,1)]):=x
abbrev Qk(x:A:=by exact(λx=>decide (x.reason=w))):=x
abbrev Ql(x:A:=by exact(λ_ e=>by simp[kr]at e)):=x
abbrev Jm(x:A:=by exact {(acc C s o).1 with ax:=dr}):=x
abbrev GU(x:A:=by exact[rS X B p az.cut az.ref az.ph]):=x
abbrev MV(x:A:=by exact {w with drawn:=w.drawn+1}):=x
abbrev nB(x:A:=by exact(λ_=>o6)):=x
abbrev wS(x:A:=by exact(λ_ h=>by simp[BE]at h)):=x
abbrev Qm(x:A:=by exact {(acc C s o).1 with ax:=t}):=x
abbrev Jn(x:A:=by exact[.agg #[.slice bZ K.length pc]]):=x
abbrev Jo(x:A:=by exact(.slice F.1.1 F.2.length F.1.2)):=x
abbrev F7(x:A:=by exact(.slice cC k.states.length bq)):=x
abbrev yf(x:A:=by exact[ptr c1 0,ptr bq 0,ptr b7 0]):=x
abbrev GL(x:A:=by exact(cE () trivial (au) h s)):=x
abbrev Bo(x:A:=by exact[eu,eu]):=x
abbrev HT(x:A:=by exact[ob,gP]):=x
abbrev Jp(x:A:=by exact(101::14::uE)):=x
abbrev Jq(x:A:=by exact[ptr aC 0,ptr aV 0,ptr bF 0]):=x
abbrev lY(x:A:=by exact[ptr aK 0,ptr ar 0,ptr V 0]):=x
abbrev BF(x:A:=by exact(λe=>by simp[lv]at e)):=x
abbrev pR(x:A:=by exact(min (max e.bI.within 1) 4095)):=x
abbrev Jr(x:A:=by exact {e with gQ:=none,gR:=0}):=x
abbrev rr(x:A:=by exact[ao lX]):=x
abbrev Er(x:A:=by exact(aH (.bool (mc e.tag)) [])):=x
abbrev Ak(x:A:=by exact⟨false,[],state,false,[]⟩):=x
abbrev MB(x:A:=by exact⟨ph,out,val,due,cut,ref⟩):=x
abbrev Hg(x:A:=by exact[kt q m b n,iI p q b o]):=x
abbrev DB(x:A:=by exact(if o.over then t else dV t)):=x
abbrev HH(x:A:=by exact(D.setIfInBounds i true)):=x
abbrev ri(x:A:=by exact⟨some d,op,bH,pos,N,g⟩):=x
abbrev HU(x:A:=by exact(A::ao (l.set i eJ)::D)):=x
abbrev Js(x:A:=by exact(mQ p X.br x y 0 0 1 0)):=x
abbrev Es(x:A:=by exact {z with na:=aD,dT:=aI}):=x
abbrev Jt(x:A:=by exact(kM X.C.bl X.C.aT x y)):=x
abbrev iN(x:A:=by exact {z with b4:=aD,b5:=aI}):=x
abbrev zf(x:A:=by exact {z with b4:=b4,b5:=b5}):=x
abbrev Ju(x:A:=by exact(a1 X ap ae j p k J M::a2)):=x
abbrev M2(x:A:=by exact⟨⟨M0 d7,rfl,d7⟩,rfl⟩):=x
abbrev Jv(x:A:=by exact {t with on:=some (o,k)}):=x
abbrev pQ(x:A:=by exact(min (max e.bI.limit 0) 100)):=x
abbrev ss(x:A:=by exact⟨ba,C z s k y J M aj ag⟩):=x
abbrev IW(x:A:=by exact[bx t.draw,.bool t.jj]):=x
abbrev zg(x:A:=by exact[lZ p now seq z,nF z]):=x
abbrev L3(x:A:=by exact⟨none,op,bH,pos,N,g⟩):=x
abbrev HL(x:A:=by exact(.region id l.toArray true)):=x
abbrev Qn(x:A:=by exact⟨.put true (gi 0 v),0,0⟩):=x
abbrev Jw(x:A:=by exact(dC (B.ev r) (B.e1 r) L o)):=x
abbrev Bu(x:A:=by exact {z with b4:=a,b5:=c}):=x
abbrev wT(x:A:=by exact(.iface (nG o) (ptr p 0))):=x
abbrev BG(x:A:=by exact⟨rfl,cl,aW,ah,e8,rfl⟩):=x
abbrev C9(x:A:=by exact([.slice bZ bo.length pc])):=x
abbrev AD(x:A:=by exact {p8 .now with out:=4}):=x
abbrev pI(x:A:=by exact⟨λv w=>by kernel_rfl⟩):=x
abbrev zd(x:A:=by exact[fs r m b n,h3 p r o]):=x
abbrev Bx(x:A:=by exact(l.filter (λx=>!q x))):=x
abbrev Et(x:A:=by exact(Go.L.ao (dI X ap aE))):=x
abbrev IJ(x:A:=by exact(Th.gE x.timers o.name)):=x
abbrev Eu(x:A:=by exact⟨λp w=>by kernel_rfl⟩):=x
abbrev Jx(x:A:=by exact[ptr (X.bp j) 0,ptr ar 0]):=x
abbrev Jy(x:A:=by exact(λa b=>a.seq<b.seq)):=x
abbrev Ao(x:A:=by exact(.loop (rec .ready none))):=x
abbrev CX(x:A:=by exact(aH (.bool (L.any q)) J)):=x
abbrev pG(x:A:=by exact(mo rfl rfl rfl rfl)):=x
abbrev pH(x:A:=by exact(s7 rfl rfl rfl OC)):=x
abbrev nE(x:A:=by exact(.string ByteArray.empty)):=x
abbrev If(x:A:=by exact(λe=>(e.key,e.val))):=x
abbrev Ev(x:A:=by exact⟨rfl,by rw[a7 W]⟩):=x
abbrev Jz(x:A:=by exact(jH U)):=x
abbrev qq(x:A:=by exact[ptr (X.bp j) 0,ptr q 0]):=x
abbrev y6(x:A:=by exact(λ_ h=>by simp at h)):=x
abbrev qs(x:A:=by exact(λx ah=>by cases ah)):=x
abbrev JA(x:A:=by exact(λ_ _ e=>by cases e)):=x
abbrev zh(x:A:=by exact(λv Z=>by cases Z)):=x
abbrev y5(x:A:=by exact(jH ah)):=x
abbrev wW(x:A:=by exact(X.C.bc+X.C.cT)):=x
abbrev JB(x:A:=by exact(O++dv.reverse.take k)):=x
abbrev JC(x:A:=by exact(jE z (8*l+s)+i)):=x
abbrev FW(x:A:=by exact(.cells l.toArray te R)):=x
abbrev F9(x:A:=by exact⟨s.name,a3,b7,s.rows⟩):=x
abbrev An(x:A:=by exact(λC=>absurd C bw)):=x
abbrev CT(x:A:=by exact(0<=r↔L.any q=true)):=x
abbrev Gl(x:A:=by exact(.slice bZ bo.length pc)):=x
abbrev yh(x:A:=by exact[fv X B,fw X.wp w]):=x
abbrev Da(x:A:=by exact[ptr p 0,bx id,af d]):=x
abbrev Df(x:A:=by exact⟨.now,0,0,[],[],[]⟩):=x
abbrev rh(x:A:=by exact[fG X B,b8 X B,hU X B]):=x
abbrev DI(x:A:=by exact(ji (B.cq w) B.e0 L o)):=x
abbrev sf(x:A:=by exact[(0,1),(1,1),(2,1)]):=x
abbrev D1(x:A:=by exact(λp=>(ow p.1,p.2))):=x
abbrev lX(x:A:=by exact(cK X z.ap z.ae s.ax)):=x
abbrev Ew(x:A:=by exact(1<=b/\b<=X.C.aT)):=x
abbrev zc(x:A:=by exact(X.bp (X.C.bc+i))):=x
abbrev y9(x:A:=by exact {t with draw:=fe de}):=x
abbrev I2(x:A:=by exact(s.L.getD (2+i) 0=0)):=x
abbrev CE(x:A:=by exact(k.states.flatMap gB)):=x
abbrev De(x:A:=by exact(dC (B.b+1) B.n L o)):=x
abbrev wc(x:A:=by exact(lp (B.b+1) B.n L o)):=x
abbrev AF(x:A:=by exact[ptr m 0,af b,af n]):=x
abbrev Ho(x:A:=by exact[ptr q 0,af x,af y]):=x
abbrev BH(x:A:=by exact[.slice bZ K.length pc]):=x
abbrev BI(x:A:=by exact(aH (af (fix q L)) J)):=x
abbrev hf(x:A:=by exact(λh=>by simp at h)):=x
abbrev Ex(x:A:=by exact⟨rfl,by simp,by simp⟩):=x
abbrev va(x:A:=by exact(λx e=>by cases e)):=x
abbrev JD(x:A:=by exact {x with state:=b}):=x
abbrev JE(x:A:=by exact[fw p (q0 w id d)]):=x
abbrev vL(x:A:=by exact(k.cases.flatMap jQ)):=x
abbrev G9(x:A:=by exact⟨by decide,by decide⟩):=x
abbrev DR(x:A:=by exact(s.imp λ_=>hp.to)):=x
abbrev Bj(x:A:=by exact(.binOp .neq t x y dr)):=x
abbrev Bk(x:A:=by exact(.binOp .eql t x y dr)):=x
abbrev BJ(x:A:=by exact(Fence.wide.inRound r)):=x
abbrev vb(x:A:=by exact[cW p x y out val br]):=x
abbrev JF(x:A:=by exact⟨pc,0,val,tick,de⟩):=x
abbrev JG(x:A:=by exact⟨pc,0,v,t,d,ep⟩):=x
abbrev IM(x:A:=by exact[eL X,e7 X,eO X]):=x
abbrev Ja(x:A:=by exact[af R,S fx,af de]):=x
abbrev y4(x:A:=by exact(.slice a J.length c)):=x
abbrev JH(x:A:=by exact(.slice d l.length e)):=x
abbrev vK(x:A:=by exact(AJ P H fn post D e)):=x
abbrev s8(x:A:=by exact(.deferred (some []))):=x
abbrev kB(x:A:=by exact(.slice a L.length c)):=x
abbrev lm(x:A:=by exact(aH (.bool (q x)) J)):=x
abbrev we(x:A:=by exact(λh=>by cases h)):=x
abbrev uE(x:A:=by exact[201,2,101,2,201]):=x
abbrev tI(x:A:=by exact(Qo bw x y (au))):=x
abbrev rs(x:A:=by exact⟨Y.bI,Y.kj,Y.es⟩):=x
abbrev Ey(x:A:=by exact(some ⟨J,0,none⟩)):=x
abbrev uy(x:A:=by exact⟨by omega,by omega⟩):=x
abbrev Dk(x:A:=by exact(λ_ _=>.inl gl)):=x
abbrev o6(x:A:=by exact(λ_ _=>trivial)):=x
abbrev Hl(x:A:=by exact⟨3,false,tt,v,0⟩):=x
abbrev wG(x:A:=by exact(iw B.ek B.na L o)):=x
abbrev A0(x:A:=by exact(yielded E a.tmps)):=x
abbrev DZ(x:A:=by exact(.pointer (some z))):=x
abbrev y3(x:A:=by exact[(q7:dn)]):=x
abbrev Bq(x:A:=by exact {x with mode:=4}):=x
abbrev su(x:A:=by exact {x with mode:=2}):=x
abbrev sp(x:A:=by exact[ptr d2 0,ptr R 0]):=x
abbrev tE(x:A:=by exact[ptr aK 0,ptr ar 0]):=x
abbrev Ez(x:A:=by exact(aH eN J)):=x
abbrev nH(x:A:=by exact(At.mk' aj cc ah bt)):=x
abbrev wZ(x:A:=by exact(aH hI [])):=x
abbrev jA(x:A:=by exact(some oy)):=x
abbrev wh(x:A:=by exact⟨none,0,rfl,rfl⟩):=x
abbrev uD(x:A:=by exact(JI rfl rfl)):=x
abbrev Hm(x:A:=by exact⟨3,true,tt,v,0⟩):=x
abbrev r5(x:A:=by exact(j1 B.b B.bX L o)):=x
abbrev DN(x:A:=by exact[eK]):=x
abbrev w0(x:A:=by exact[ptr (X.br a).br 0]):=x
abbrev EA(x:A:=by exact(.post a Th.xC)):=x
abbrev j5(x:A:=by exact(dI X z.ap s.aE)):=x
abbrev vc(x:A:=by exact(gM X z s a q x e)):=x
abbrev CO(x:A:=by exact((h v I hp).1 C)):=x
abbrev nz(x:A:=by exact(.cons .head .nil)):=x
abbrev AH(x:A:=by exact[cW p x y 0 0 br]):=x
abbrev AK(x:A:=by exact((d,undef)::J)):=x
abbrev JJ(x:A:=by exact⟨.more held,8,0⟩):=x
abbrev JK(x:A:=by exact⟨.more held,1,0⟩):=x
abbrev zi(x:A:=by exact[bx (iO false)]):=x
abbrev EB(x:A:=by exact[fJ q F dv O]):=x
abbrev JL(x:A:=by exact⟨jr,en,t,v,0⟩):=x
abbrev eg(x:A:=by exact(cv X (some y))):=x
abbrev vd(x:A:=by exact(.yes rfl rfl W)):=x
abbrev ys(x:A:=by exact(ai.put undef aS)):=x
abbrev wB(x:A:=by exact(gF rfl rfl)):=x
abbrev DA(x:A:=by exact⟨1,en,tt,v,0⟩):=x
abbrev eK(x:A:=by exact(.slice none 0 0)):=x
abbrev nf(x:A:=by exact[fN]):=x
abbrev wM(x:A:=by exact(.agg cg.toArray)):=x
abbrev JM(x:A:=by exact[ptr p 0,bx id]):=x
abbrev YD(x:A:=by exact[ptr p 0,rj id]):=x
abbrev w1(x:A:=by exact(es.flatMap hR)):=x
abbrev u1(x:A:=by exact⟨rfl,rfl,B.ap⟩):=x
abbrev nh(x:A:=by exact(eB z.ae s.lets)):=x
abbrev ni(x:A:=by exact(Bp X s false)):=x
abbrev Ai(x:A:=by exact[aa aC 9 [S w]]):=x
abbrev x9(x:A:=by exact(Qp rfl rfl)):=x
abbrev wA(x:A:=by exact(o_load rfl rfl)):=x
abbrev BK(x:A:=by exact[fa X B p Y]):=x
abbrev zj(x:A:=by exact(.slice aD n aI)):=x
abbrev u6(x:A:=by exact(cK X ap ae l)):=x
abbrev eE(x:A:=by exact[ptr (X.bp j) 0]):=x
abbrev zk(x:A:=by exact(λ_=>.same)):=x
abbrev zl(x:A:=by exact(λ_ _ e=>e)):=x
abbrev ku(x:A:=by exact[er,s1,cb,ce]):=x
abbrev tJ(x:A:=by exact(Bp X y true)):=x
abbrev vR(x:A:=by exact(.map (some r))):=x
abbrev fN(x:A:=by exact(.pointer none)):=x
abbrev wF(x:A:=by exact[gy X B p c]):=x
abbrev EC(x:A:=by exact⟨.po U,0,0⟩):=x
abbrev sv(x:A:=by exact(Th.c8 s a x)):=x
abbrev zm(x:A:=by exact(λ_=>True)):=x
abbrev ve(x:A:=by exact(λ_=>(au))):=x
abbrev ou(x:A:=by exact⟨b,bY,none⟩):=x
abbrev rV(x:A:=by exact[hT X B p az]):=x
abbrev kS(x:A:=by exact(λh s=>s)):=x
abbrev n0(x:A:=by exact((d,v)::J)):=x
abbrev o4(x:A:=by exact⟨ph,out,val⟩):=x
abbrev wx(x:A:=by exact[iI p q b o]):=x
abbrev yJ(x:A:=by exact(.slice a l c)):=x
abbrev qt(x:A:=by exact(.slice a n c)):=x
abbrev w2(x:A:=by exact[.slice a n c]):=x
abbrev wU(x:A:=by exact(.push l what)):=x
abbrev wX(x:A:=by exact(Th.qH az.val)):=x
abbrev qu(x:A:=by exact(λh F=>F)):=x
abbrev x1(x:A:=by exact(lj×Value)):=x
abbrev gP(x:A:=by exact(.bool false)):=x
abbrev q9(x:A:=by exact(ai.put v aS)):=x
abbrev wC(x:A:=by exact(uX rfl)):=x
abbrev eu(x:A:=by exact(.int .i64 0)):=x
abbrev ob(x:A:=by exact(.int .u64 0)):=x
abbrev qv(x:A:=by exact(.iface T N)):=x
abbrev qw(x:A:=by exact[ao (dd X)]):=x
abbrev u9(x:A:=by exact(z.ap++[b])):=x
abbrev vf(x:A:=by exact(Bp X y b)):=x
abbrev pS(x:A:=by exact(K.map dQ)):=x
abbrev oy(x:A:=by exact⟨b,0,none⟩):=x
abbrev hI(x:A:=by exact(.bool true)):=x
abbrev tb(x:A:=by exact[bz p L t]):=x
abbrev eN(x:A:=by exact(.tuple #[])):=x
abbrev wg(x:A:=by exact[bz m L t]):=x
abbrev qb(x:A:=by exact(h a w ai s)):=x
abbrev uB(x:A:=by exact(Sat.drop s)):=x
abbrev uC(x:A:=by exact⟨ph,0,val⟩):=x
abbrev o5(x:A:=by exact(j3 rfl)):=x
abbrev wz(x:A:=by exact(si rfl)):=x
abbrev pa(x:A:=by exact(.map #[] 0)):=x
abbrev tF(x:A:=by exact[ptr X.br 0]):=x
abbrev sq(x:A:=by exact(B.ev false)):=x
abbrev sr(x:A:=by exact(B.e1 false)):=x
abbrev w3(x:A:=by exact(cd.ir true)):=x
abbrev w4(x:A:=by exact(bk F z)):=x
abbrev tK(x:A:=by exact(.alone a k)):=x
abbrev kG(x:A:=by exact(.post b Y)):=x
abbrev w5(x:A:=by exact[l0 C P h s]):=x
abbrev AN(x:A:=by exact⟨3,w,out⟩):=x
abbrev sh(x:A:=by exact(Int×Int)):=x
abbrev cj(x:A:=by exact⟨rfl,rfl⟩):=x
abbrev q7(x:A:=by exact⟨0,0,[]⟩):=x
abbrev r8(x:A:=by exact⟨ph,0,0⟩):=x
abbrev wI(x:A:=by exact⟨aV,rfl⟩):=x
variable(k:P)
def aqQ(h:Q:=by
 show(acc C s o).1.L.getD 0 0=_;rw[gJ,h.num.nj];cases o<;>rfl):=h
def Uk(h:Q:=by
 exact aQ (I:=tb) ⟨rfl,rfl⟩ (x4 a c rfl rfl (au))):=h
def acA(h:Q:=by
 simp only[cp,qx,eZ,iG,lk];rfl):=h
def TV(h:Q:=by
 exact⟨aw,aC,h.st,h.dJ,h.s4,Nat.le_succ_of_le h.len,λh=>by omega⟩):=h
def acB(h:Q:=by
 exact Qq λact w g0 st=>⟨_,_,aM,bV,a,g0.jC eb,st.imp (au)⟩):=h
def aqR(h:Q:=by
 refine jq (.inl rfl) rfl rfl [fw p w] (⟨rfl,rfl⟩) (w6 z K (au))):=h
def acC(h:Q:=by
 rw[aC]at aV;simp only[List.cons.injEq,Value.slice.injEq,and_true]at aV;omega):=h
def aqS(h:Q:=by
 rw[iW,lo,<-h,List.getElem?_concat_length];rfl):=h
def Wb(h:Q:=by
 rw[Vu U,Int.toNat_of_nonneg (Int.emod_nonneg _ ad)]):=h
def TX(h:Q:=by
 exact⟨aw,aC,h.st,h.dJ,h.s4,by have:=h.len;simp;omega,λh=>by omega⟩):=h
def XS(h:Q:=by
 rw[oJ (by simpa using x),oJ (by rw[AZ];exact x)]):=h
def Qr(h:Q:=by
 exact⟨s,false,rfl,h.aU (io _) aO⟩):=h
def VW(h:Q:=by
 exact⟨λ_=>⟨VU bw ad,rfl,rfl⟩,(show 0+0+0<=64 by decide),fI⟩):=h
def JN(h:Q:=by
 exact aQ ⟨rfl,cl,e8,rfl⟩):=h
def Wg(h:Q:=by
 exact aQ ⟨by obtain⟨jr,en,tt,v,out⟩:=o;unfold hK.value;cases en<;>simp_all[G7],rfl⟩):=h
def acD(h:aP P Q:=by
 intro G;refine cw [] [7,201] [aa Z 32 [ptr X.h 0],aa aR 110 [ptr q 0],aa aM 36 [bx id],aa q 118 (dS X x e)] ?_;exact G.o):=h ⟨k⟩
def GG(h:Q:=by
 exact aQ ⟨_,_,_,_,rfl,rfl⟩):=h
def acE(h:Q:=by
 have:=pN (2+C.eX) (show w+1<=C.bc from R);rwa[nb,vg]at this):=h
def aqT(h:Q:=by
 simp only[ty,BL,tL,not_or]at aY;exact Decidable.not_not.1 aY.2):=h
def Hs(h:Q:=by
 rwa[nb,vg]at this):=h
def acF(h:aP P Q:=by
 intro G
 first|refine ko (Il rfl rfl rfl rfl h9 gl) ?_|refine ko (Oz rfl rfl rfl rfl rfl) ?_
 exact G.o):=h ⟨k⟩
def acG(h:aP P Q:=by
 intro G;refine go_u rfl .none (mo rfl rfl rfl (by rw[OT,hlen];simp[yu];omega)) (λC=>absurd C bw) ?_;exact G.o):=h ⟨k⟩
def JO(h:Q:=by
 exact aY.dN h hk aS ad ad):=h
def aqU(h:aP P Q:=by
 intro G
 first|refine ko (mo rfl rfl rfl rfl) ?_|refine ko (s7 rfl rfl rfl OC) ?_
 exact G.o):=h ⟨k⟩
def VK(h:Q:=by
 exact aQ ⟨by unfold Dg;first|(rw[bg ad];done)|(rw[bg ad])|(rw[a7 ad]),rfl⟩):=h
def FZ(h:Q:=by
 exact aQ ⟨by simp_all[p1],rfl⟩):=h
def acH(h:Q:=by
 exact⟨(λe=>by simp[p8]at e),(λx ah=>by cases ah),(λx ah=>by cases ah),(λx ah=>by cases ah),fk _⟩):=h
def Qs(h:aP P Q:=by
 intro G;refine aB rfl (fS (c:=true) (by simp[bf]) (mh rfl rfl)) ?_;exact G.o):=h ⟨k⟩
def L1(h:aP P Q:=by
 intro G;refine aB rfl (kz rfl (kA eH 5 C8 i8) rfl) ?_;exact G.o):=h ⟨k⟩
def Gq(h:Q:=by
 rwa[oC,C7 ak]at h):=h
def Qt(h:aP P Q:=by
 intro G;refine go_v rfl .none rfl (gf rfl rfl (show i<l.length by omega)) ?_;exact G.o):=h ⟨k⟩
def Qu(h:aP P Q:=by
 intro G
 first|refine aB rfl (X0 rfl) ?_|refine aB rfl (NS rfl) ?_
 exact G.o):=h ⟨k⟩
def Qv(h:Q:=by
 exact aQ ⟨by unfold lP;congr 1;split<;>simp at*<;>omega,rfl⟩):=h
def acI(h:Q:=by
 exact aQ ⟨by rw[ai];first|(rw[aqs ad];rfl)|(rw[aqr aY Zb];rfl),rfl⟩):=h
def CG(h:Q:=by
 exact aQ ⟨by simp_all[nt],rfl⟩):=h
def acJ(h:aP P Q:=by
 intro G;have d:1<=e.b/\e.b<=s.aE.length:=by
  exact aqT
 revert d;exact G.o):=h ⟨k⟩
def JP(h:aP P Q:=by
 intro G;refine go_v rfl .none rfl (gf rfl rfl ad) ?_;exact G.o):=h ⟨k⟩
def ME(h:aP P Q:=by
 intro G;refine aB rfl (fy ((b+1:Nat):Int) ff rfl rfl) ?_;exact G.o):=h ⟨k⟩
def ED(h:aP P Q:=by
 intro G;refine aB rfl (gf rfl rfl ad) ?_;exact G.o):=h ⟨k⟩
def L0(h:aP P Q:=by
 intro G;refine aB rfl (fy (((j+1:Nat):Int)) ff rfl rfl) ?_;exact G.o):=h ⟨k⟩
def JQ(h:aP P Q:=by
 intro G;refine go_v rfl .none rfl (jR Tryz.underlying246 rfl rfl) ?_;exact G.o):=h ⟨k⟩
def Qw(h:aP P Q:=by
 intro G;have ho:C.cells=2+C.bC.size+(3+2*C.iS)+C.aT*C.aT+C.aT*C.fh:=rfl;revert ho;exact G.o):=h ⟨k⟩
def Qx(h:aP P Q:=by
 intro G
 first|refine go_vs rfl .none rfl (si rfl) (au) ?_|refine go_vs rfl .none rfl (mX rfl) (au) ?_
 exact G.o):=h ⟨k⟩
def JR(h:aP P Q:=by
 intro G;refine aB rfl (fS (c:=false) (by simp[bf]) (mh rfl rfl)) ?_;exact G.o):=h ⟨k⟩
def acK(h:aP P Q:=by
 intro G
 first|refine go_u rfl .none (mo rfl rfl rfl rfl) (λ_=>(λ_ _=>trivial)) ?_|refine go_u rfl .none (s7 rfl rfl rfl OC) (λ_=>(λ_ _=>trivial)) ?_
 exact G.o):=h ⟨k⟩
def JS(h:aP P Q:=by
 intro G
 first|refine aB rfl (si rfl) ?_|refine aB rfl (mX rfl) ?_
 exact G.o):=h ⟨k⟩
def acL(h:aP P Q:=by
 intro G;refine cn rfl (oB rfl rfl (gv (I:=a1 X z.ap z.ae j 0 k J M::gM X z s a q x e) (λD h t=>Sat.tail (λh t=>by have:=jk B Y D h t;rw[sw B]at this;exact this) t) aY.spec) bN) ?_;exact G.o):=h ⟨k⟩
def BM(h:aP P Q:=by
 intro G;refine aB rfl (gF rfl (acM ah)) ?_;exact G.o):=h ⟨k⟩
def JT(h:Q:=by
 exact aQ ⟨rfl,z,_,rfl,⟨aj.gk,aj.fY,aj.fZ,aj.ap,aj.ae⟩,rfl⟩):=h
def YI(h:aP P Q:=by
 intro G;have bi:∀w:Nat,w<9->-1099511627776<=cs.getD w 0/\cs.getD w 0<=1099511627776:=λw R=>by
  exact aqV
 revert bi;exact G.o):=h ⟨k⟩
def zn(h:aP P Q:=by
 intro G;refine aB rfl (JI rfl rfl) ?_;exact G.o):=h ⟨k⟩
def uF(h:Q:=by
 exact aQ ⟨_,rfl,rfl⟩):=h
def EE(h:aP P Q:=by
 intro G;refine go_vs rfl .none rfl (j3 rfl) (λ_ _=>trivial) ?_;exact G.o):=h ⟨k⟩
def DE(h:Q:=by
 exact aQ ⟨by congr 1;split<;>simp at*<;>omega,rfl⟩):=h
def Qy(h:Q:=by
 exact aQ ⟨by unfold JU;first|(rw[bg ad];done)|(rw[bg ad])|(rw[a7 ad]),rfl⟩):=h
def acN(h:Q:=by
 refine jq (.inl rfl) rfl rfl _ (⟨by unfold Ic;refine Qz ?_;(try simp only[ln,e2,acO,BL,tL,iy,ty,true_iff,false_iff,iff_true,iff_false]);omega,rfl⟩) (au)):=h
def acP(h:Q:=by
 refine jq (.inl rfl) rfl rfl _ (⟨by unfold wO;refine Qz ?_;(try simp only[ln,e2,acO,BL,tL,iy,ty,true_iff,false_iff,iff_true,iff_false]);omega,rfl⟩) (au)):=h
def acQ(h:aP P Q:=by
 intro G
 first|refine jn rfl (H5 rfl rfl rfl) ?_|refine jn rfl (H6 rfl rfl rfl rfl) ?_|refine jn rfl (p6 rfl rfl rfl rfl) ?_
 exact G.o):=h ⟨k⟩
def tM(h:Q:=by
 exact aQ ⟨rfl,z,aj,rfl⟩):=h
def CU(h:aP P Q:=by
 intro G;refine cn rfl (oB rfl rfl (hp t (jH U)) ui) ?_;exact G.o):=h ⟨k⟩
def w7(h:aP P Q:=by
 intro G;refine go_vs rfl .none rfl (j3 rfl) (au) ?_;exact G.o):=h ⟨k⟩
def JV(h:aP P Q:=by
 intro G;refine jn rfl (DX rfl rfl bN rfl rfl rfl ad AB) ?_;exact G.o):=h ⟨k⟩
def ru(h:aP P Q:=by
 intro G;simp only[e,bind,Option.bind];exact G.o):=h ⟨k⟩
def BN(h:aP P Q:=by
 intro G;refine cn rfl (oB rfl rfl (hp t (jH U)) wV) ?_;exact G.o):=h ⟨k⟩
def w8(h:aP P Q:=by
 intro G;have e:C.d0=2+C.bc+(2+2*C.aT):=rfl;revert e;exact G.o):=h ⟨k⟩
def acR(h:aP P Q:=by
 intro G;have he:In f C P (n+1) j 0 0 Ef:=by
  exact aqW
 revert he;exact G.o):=h ⟨k⟩
def og(h:aP P Q:=by
 intro G;refine tl (rfl) ?_;exact G.o):=h ⟨k⟩
def Aq(h:aP P Q:=by
 intro G;refine aB rfl (fy (((i+1:Nat):Int)) ff rfl rfl) ?_;exact G.o):=h ⟨k⟩
def qy(h:aP P Q:=by
 intro G;refine aB rfl (mq rfl) ?_;exact G.o):=h ⟨k⟩
def nI(h:aP P Q:=by
 intro G;refine v8 (rfl) ?_;exact G.o):=h ⟨k⟩
def uG(h:aP P Q:=by
 intro G;refine aB rfl (fS (c:=true) r2 (mY rfl rfl)) ?_;exact G.o):=h ⟨k⟩
def JW(h:Q:=by
 exact aQ ⟨by first|rw[aqX (by assumption)]|rw[aqY (by assumption) (by simp only[iG]at*;omega)]|rw[aqZ ad]|(subst_vars;rfl),rfl⟩):=h
def uL(h:Q:=by
 first|exact h|exact⟨h.1.trans (by simp[gC.over,d]),h.2⟩):=h
def JX(h:aP P Q:=by
 intro G
 first|refine aB rfl (o_load rfl rfl) ?_|refine aB rfl (gF rfl rfl) ?_|refine aB rfl (uX rfl) ?_
 exact G.o):=h ⟨k⟩
def Vd(h:Q:=by
 first|exact n _ (gW.dG (by repeat(first|exact gW.refl _|refine gW.push ?_ rfl)) (k9 ZC))|exact q6 (au) (n _ (gW.dG (by repeat(first|exact gW.refl _|refine gW.push ?_ rfl)) (k9 ZC)))):=h
def pb(h:Q:=by
 exact aQ ⟨rfl,cl,aW,ah,e8,rfl⟩):=h
def oh(h:aP P Q:=by
 intro G;refine go_v rfl .none rfl (j3 rfl) ?_;exact G.o):=h ⟨k⟩
def QA(h:Q:=by
 refine jq (.inl rfl) rfl rfl _ (⟨by refine Qz ?_;unfold yU;(try simp only[wO,Ic,lA,lz]at*);(try simp only[ln,tL]at*);(try simp only[ln,e2,acO,BL,tL,iy,ty,true_iff,false_iff,iff_true,iff_false]);omega,rfl⟩) (au)):=h
def ke(h:aP P Q:=by
 intro G;refine aB rfl (j3 rfl) ?_;exact G.o):=h ⟨k⟩
def C6(h:Q:=by
 refine al7 (.inl rfl) rfl rfl rfl rfl rfl rfl [] ⟨by(try simp only[ln,tL]at*);first|(subst_vars;rfl)|exact al8 (by simp[Gh];omega) (by simp[Gi];omega) (by simp[C5];omega) (by simp[Mi];omega) (by simp[Gj];omega),rfl⟩ (au)):=h
def acS(h:aP P Q:=by
 intro G;refine nu (I:=fH ea cZ (Th.gE n.timers e.name)::ao (hV (mu aV.es e.name))::([aa aK 248 [ptr p 0],aa ar 32 [ptr X.h 0],aa V 36 [bx id],aa ay 110 [ptr q 0],aa aL 87 (fM e),aa aR 1 [bk J M],a1 X z.ap z.ae j 0 k J M,cM X p (.ey az)]++([aa q 118 (dS X n aV),dj aV.ka aV.kc n.kids,dj aV.gQ aV.gR n.cH,fJ aV.gp X.C.dO n.aside n.front,gL aV.iB (min (max aV.bI.limit 0) 100) (min (max aV.bI.within 1) 4095) n.given,bs aV.gj .i64 (n.watched.map λw=>(w,.bool true)),ii aV.iC (hD aV.es),gb aV.bI,ao ((dI X z.ap s.aE).set (a -1) eJ),cp X z s,di z.b4 z.b5 s.trace,dX z.na z.dT s.notes,bs X.am .i64 (bD z.ap),bs X.dL .u64 (bD z.ae),ao (eB z.ae s.lets),Lg.cY X.ld s.a8,dz X.cF X.C.c6 s.dead,bz X.m s.L z.tt,eo X,ee X s.bm,dy X.bl X.m X.C.bl X.C.aT,ao (dd X),ef X,eL X,e7 X,eO X,ao (cK X z.ap z.ae s.ax)]++D))) (λh F=>b _ h ((show∀h,Sat _ h->Sat (ao (hV aV.es)::([aa aK 248 [ptr p 0],aa ar 32 [ptr X.h 0],aa V 36 [bx id],aa ay 110 [ptr q 0],aa aL 87 (fM e),aa aR 1 [bk J M],a1 X z.ap z.ae j 0 k J M,cM X p (.ey az)]++([aa q 118 (dS X n aV),dj aV.ka aV.kc n.kids,dj aV.gQ aV.gR n.cH,fJ aV.gp X.C.dO n.aside n.front,gL aV.iB (min (max aV.bI.limit 0) 100) (min (max aV.bI.within 1) 4095) n.given,bs aV.gj .i64 (n.watched.map λw=>(w,.bool true)),ii aV.iC (hD aV.es),gb aV.bI,ao ((dI X z.ap s.aE).set (a -1) eJ),cp X z s,di z.b4 z.b5 s.trace,dX z.na z.dT s.notes,bs X.am .i64 (bD z.ap),bs X.dL .u64 (bD z.ae),ao (eB z.ae s.lets),Lg.cY X.ld s.a8,dz X.cF X.C.c6 s.dead,bz X.m s.L z.tt,eo X,ee X s.bm,dy X.bl X.m X.C.bl X.C.aT,ao (dd X),ef X,eL X,e7 X,eO X,ao (cK X z.ap z.ae s.ax)]++D))) h from(au)) h F)) ?_;exact G.o):=h ⟨k⟩
def gU(h:aP P Q:=by
 intro G;rintro _ D ⟨_,⟨rfl,rfl⟩,rfl⟩;exact G.o):=h ⟨k⟩
def uK(h:Q:=by
 first|exact λ_=>rfl|(intro h;first|exact absurd (show(1:Int)=0 from h) bw|exact absurd h d|(split<;>rename_i ah<;>first|(rw[bg ah]at h;exact absurd (show(1:Int)=0 from h) bw)|exact aoI l|rfl|(rw[a7 ah]at h;exact absurd (show(4:Int)=0 from h) bw)))):=h
def gh(h:aP P Q:=by
 intro G;simp only[ck,ci];exact G.o):=h ⟨k⟩
def fC(h:aP P Q:=by
 intro G
 try simp only[ck,ci]
 exact G.o):=h ⟨k⟩
def XE(h:Q:=by
 refine uQ λi=>?_;by_cases h:i<O.length<;>simp[h]):=h
def acT(h:Q:=by
 have h1:Th.dM s a=some n:=d;rw[ah]at h1;exact(n9 h1).symm):=h
def NK(h:Q:=by
 refine bj ?_;exact uF):=h
def Nd(h:Q:=by
 refine bE ?_;exact uF):=h
def acU(h:Q:=by
 simp only[aC];exact aY.dN (h.hX m1) (by rw[m1.aZ];exact hk) aS ad ad):=h
def QB(h:Q:=by
 refine gq ?_;exact tM):=h
def aq0(h:Q:=by
 have:(Jm:aq).lets=s.lets:=Iy;rw[this];omega):=h
def acV(h:aP P Q:=by
 intro G
 first|refine ko (mo rfl rfl aq1 rfl) ?_|refine ko (mo rfl rfl rfl rfl) ?_
 refine bb ?_;exact G.o):=h ⟨k⟩
def acW(h:aP P Q:=by
 intro G;refine eY ?_;refine cn rfl (b9 rfl (mM m (im L b k) _ (b+k) (by rw[wJ];omega) _) bN) ?_;exact G.o):=h ⟨k⟩
def acX(h:aP P Q:=by
 intro G;refine ct ?_;refine go_v rfl .none rfl (kl ((X.C.cT -1:Nat):Int) ff rfl rfl) ?_;exact G.o):=h ⟨k⟩
def JY(h:Q:=by
 refine gd ?_;exact aQ ⟨rfl,rfl⟩):=h
def acY(h:aP P Q:=by
 intro G;refine ct ?_;refine go_v rfl .none rfl (kl ((X.C.bc -1:Nat):Int) ff rfl rfl) ?_;exact G.o):=h ⟨k⟩
def acZ(h:aP P Q:=by
 intro G;refine cw [] [7,201] [aa ar 32 [ptr X.h 0],aa V 110 [ptr q 0],aa ay 9 [S kind],aa q 118 (dS X x e)] ?_;refine ct ?_;exact G.o):=h ⟨k⟩
def Us(h:Q:=by
 obtain⟨O,e⟩:=dp.1 h;rw[nv O,e,List.any_append,h1];simp[h2]):=h
def L7(h:aP P Q:=by
 intro G;refine ko (s7 rfl rfl rfl h9) ?_;rw[aq2];exact G.o):=h ⟨k⟩
def QC(h:aP P Q:=by
 intro G;refine aU (Po.ato (X.br b) (X.C.box b) p Y o) ?_;refine aG ?_;exact G.o):=h ⟨k⟩
def ac0(h:aP P Q:=by
 intro G;refine oh ?_;refine go_v rfl .none rfl (rT ((3*l:Nat):Int) ff rfl rfl) ?_;exact G.o):=h ⟨k⟩
def Xd(h:aP P Q:=by
 intro G;refine aU (uH p 241 480 (gK X) (ptr q 0) _ _ _ rfl 0 0 (iI q X.hc B.ek (kr true 0)) (M4 q X.hc B.ek (kr true 0))) ?_;refine b2 ?_;exact G.o):=h ⟨k⟩
def QD(h:aP P Q:=by
 intro G;refine aB rfl (kz rfl (aq3 U) rfl) ?_;refine jn rfl (tN) ?_;exact G.o):=h ⟨k⟩
def Ni(h:Q:=by
 refine bQ ?_;exact DE):=h
def ac1(h:aP P Q:=by
 intro G;refine qy ?_;refine acF ?_;exact G.o):=h ⟨k⟩
def aq4(h:Q:=by
 have:(Jm:aq).aE=s.aE:=Iy;rw[this];show _=min ((acc C s o).1.L.getD 1 0 -_) _;rw[aC];exact h.num.dv):=h
def QE(h:aP P Q:=by
 intro G;refine b2 ?_;refine go_v rfl .none rfl (DT (i:=1) rfl rfl bw) ?_;exact G.o):=h ⟨k⟩
def Hj(h:aP P Q:=by
 intro G;refine aU (WO _ _ _ _ _ _ _ _) ?_;refine bE ?_;exact G.o):=h ⟨k⟩
def ac2(h:aP P Q:=by
 intro G;refine go_v rfl (.yes rfl rfl W) rfl (j3 rfl) ?_;refine go_v rfl (.yes rfl rfl W) rfl (rT ((3*l:Nat):Int) ff rfl rfl) ?_;exact G.o):=h ⟨k⟩
def Gw(h:aP P Q:=by
 intro G;refine⟨_,_,Y,⟨_,_,rfl,rfl⟩,?_⟩;rw[R];exact G.o):=h ⟨k⟩
def QF(h:Q:=by
 refine bb ?_;exact JT):=h
def ac3(h:Q:=by
 refine b2 ?_;exact JT):=h
def ac4(h:aP P Q:=by
 intro G;refine ct ?_;refine cw [] [16] [aa aR 110 [ptr q 0],aa cA 311 [ptr m 0],aa q 118 (dS X x e),bs e.gj .i64 (x.watched.map λw=>(w,.bool true)),ao (eB z.ae s.lets)] ?_;exact G.o):=h ⟨k⟩
def F8(h:aP P Q:=by
 intro G;refine fC ?_;refine bb ?_;exact G.o):=h ⟨k⟩
def QG(h:Q:=by
 refine bR ?_;exact acB):=h
def F1(h:aP P Q:=by
 intro G;refine fC ?_;refine dB ?_;exact G.o):=h ⟨k⟩
def JZ(h:aP P Q:=by
 intro G;refine aB rfl (jR Tryz.underlying246 rfl rfl) ?_;refine aG ?_;exact G.o):=h ⟨k⟩
def Mc(h:aP P Q:=by
 intro G;refine aB rfl (fy (((x+1:Nat):Int)) ff rfl rfl) ?_;refine bb ?_;exact G.o):=h ⟨k⟩
def EF(h:Q:=by
 refine bb ?_;exact aQ ⟨rfl,rfl⟩ (λh F=>F)):=h
def MM(h:Q:=by
 refine co.aU λv I h=>⟨_,⟨none,0,h.1,rfl⟩,λg4 s=>?_⟩;rw[h.2]at s;exact jc g4 s):=h
def Hn(h:aP P Q:=by
 intro G;refine aB rfl (fS (c:=false) r2 (mY rfl rfl)) ?_;refine bj ?_;exact G.o):=h ⟨k⟩
def ac5(h:aP P Q:=by
 intro G;refine bE ?_;refine h0 [5,8] [5] [(0,.bL),(1,.loc),(2,.loc),(3,.loc),(4,.loc),(7,.bL),(5,.da),(6,.loc),(8,.da)] [aa ay 106 [ptr (X.bp j) 0],aa aL 110 [ptr q 0],aa q 118 (dS X x e)] mixed hM ?_;exact G.o):=h ⟨k⟩
def EG(h:aP P Q:=by
 intro G;refine ke ?_;refine ie ?_;exact G.o):=h ⟨k⟩
def QH(h:Q:=by
 have d3:ib (X.bp j) 5 (ao (cK X z.ap z.ae s.ax)) (.bool t.jj):=w9 O 5 λ_ _=>rfl;rw[aX]at d3;exact d3):=h
def zo(h:aP P Q:=by
 intro G;refine hy ?_;refine jg ?_;exact G.o):=h ⟨k⟩
def zp(h:aP P Q:=by
 intro G;refine og ?_;refine b2 ?_;exact G.o):=h ⟨k⟩
def V9(h:aP P Q:=by
 intro G;have mW:∀{b n:Nat} {o:ig},¬(ji b n L o).over=true->(ji b n L o).out=0:=λh=>by simpa[ig.over]using h
 have u:∀{b n:Nat} {o:hK},¬(iw b n L o).over=true->(iw b n L o).out=0:=λh=>by simpa[hK.over]using h
 revert mW u;exact G.o):=h ⟨k⟩
def ac6(h:aP P Q:=by
 intro G;refine⟨_,rfl,⟨⟨h.base.xt,h.base.na,h.base.aE,h.base.lets,h.base.notes,by show(s.ax.set _ _).length=_;rw[gr];exact h.base.tX,h.base.a8⟩,⟨h.num.nj,h.num.pf,h.num.dv,h.num.mv,h.num.mx⟩,?_⟩,W⟩;obtain⟨ak,h1,h2⟩:=id h.bp;revert ak h1 h2;exact G.o):=h ⟨k⟩
def J0(h:Q:=by
 refine bj ?_;exact aQ ⟨rfl,rfl⟩):=h
def QI(h:aP P Q:=by
 intro G;refine aG ?_;refine aB rfl (fS (c:=false) (by show(!qn (kv _) (kv _))=false;rw[ac7];rfl) (YV rfl rfl rfl rfl)) ?_;exact G.o):=h ⟨k⟩
def aq5(h:aP P Q:=by
 intro G;refine aqU ?_;refine ie ?_;exact G.o):=h ⟨k⟩
def ac8(h:Q:=by
 refine b2 ?_;exact C6):=h
def zq(h:aP P Q:=by
 intro G;refine jg ?_;refine ke ?_;exact G.o):=h ⟨k⟩
def Am(h:aP P Q:=by
 intro G;refine fC ?_;refine bj ?_;exact G.o):=h ⟨k⟩
def uj(h:Q:=by
 refine b2 ?_;exact aQ ⟨rfl,rfl⟩):=h
def BO(h:aP P Q:=by
 intro G;refine bj ?_;refine aU (Po.aht (X.br b) (X.C.box b) p Y) ?_;exact G.o):=h ⟨k⟩
def MN(h:Q:=by
 obtain⟨aD,aI,h1,h2⟩:=h;exact⟨_,⟨aD,aI,h1,rfl⟩,λg4 s=>by rw[h2]at s;exact Sat.tail (λ_ s=>cE (x,y,a0,fL,cu,cR,cC,b8) trivial (λ_ s=>s) _ s) s⟩):=h
def EH(h:aP P Q:=by
 intro G;rintro _ D ⟨_,⟨rfl,aD,aI,rfl⟩,rfl⟩;refine fC ?_;revert aD aI;exact G.o):=h ⟨k⟩
def QJ(h:aP P Q:=by
 intro G;refine go_v rfl .none rfl (mm rfl) ?_
 first|refine go_v rfl .none rfl (si rfl) ?_|refine go_v rfl .none rfl (mX rfl) ?_
 exact G.o):=h ⟨k⟩
def ov(h:aP P Q:=by
 intro G;refine eY ?_;refine aG ?_;exact G.o):=h ⟨k⟩
def aq6(h:Q:=by
 refine fB ?_;exact aQ (I:=J) ⟨by rw[ac9 U bt M],rfl⟩ (λ_ h=>h)):=h
def aq7(h:aP P Q:=by
 intro G;refine JX ?_;refine aB rfl (j3 rfl) ?_;exact G.o):=h ⟨k⟩
def nC(h:aP P Q:=by
 intro G;refine bj ?_;refine cP ?_;exact G.o):=h ⟨k⟩
def x5(h:aP P Q:=by
 intro G;refine eY ?_;refine aB rfl (gf rfl rfl (show x<L.length by omega)) ?_;exact G.o):=h ⟨k⟩
def uu(h:aP P Q:=by
 intro G;refine fC ?_;refine bE ?_;exact G.o):=h ⟨k⟩
def J1(h:aP P Q:=by
 intro G;refine aB rfl (mm rfl) ?_;refine JS ?_;exact G.o):=h ⟨k⟩
def zr(h:aP P Q:=by
 intro G;refine yi (λ_ s=>VM (l:=n) (c:=c) s) ?_;rintro⟨d,f,-,p⟩;revert d f p;exact G.o):=h ⟨k⟩
def QK(h:aP P Q:=by
 intro G;refine acL ?_;rintro _ D ⟨_,⟨rfl,cl,aW,ah,e8,rfl⟩,rfl⟩;revert cl aW ah e8;exact G.o):=h ⟨k⟩
def pK(h:Q:=by
 refine bb ?_;exact aQ ⟨rfl,rfl⟩):=h
def aq8(h:Q:=by
 refine fB ?_;exact aQ (I:=J) ⟨_,⟨λ_=>zs.2 ⟨t,jH U,M⟩,λ_=>by omega⟩,rfl,rfl⟩ (λ_ h=>h)):=h
def oN(h:aP P Q:=by
 intro G;refine ie ?_;refine hz ?_;exact G.o):=h ⟨k⟩
def rL(h:aP P Q:=by
 intro G;refine fC ?_;refine aG ?_;exact G.o):=h ⟨k⟩
def ny(h:aP P Q:=by
 intro G;rintro _ _ ⟨q,rfl,rfl⟩;refine eM ?_;revert q;exact G.o):=h ⟨k⟩
def vM(h:aP P Q:=by
 intro G;refine Aq ?_;refine bb ?_;exact G.o):=h ⟨k⟩
def pC(h:aP P Q:=by
 intro G;refine fC ?_;refine b2 ?_;exact G.o):=h ⟨k⟩
def lS(h:aP P Q:=by
 intro G;rintro _ _ ⟨p,rfl,rfl⟩;refine eM ?_;revert p;exact G.o):=h ⟨k⟩
def pd(h:Q:=by
 intro cl aW ah e8;exact pb):=h
def l1(h:aP P Q:=by
 intro G;rintro _ _ ⟨rfl,aD,aI,rfl⟩;refine eM ?_;revert aD aI;exact G.o):=h ⟨k⟩
def vh(h:aP P Q:=by
 intro G;intro H D;simp only[wl,DW,gx,mO,lo,Nat.reduceAdd,ck,ci];revert H D;exact G.o):=h ⟨k⟩
def ada(h:Q:=by
 refine eM ?_;refine b2 ?_;exact aQ ⟨rfl,aD,aI,cC,bq,rfl⟩):=h
def adb(h:Q:=by
 refine aB rfl (pw rfl rfl) ?_;refine bE ?_;exact aQ ⟨rfl,rfl⟩):=h
def Vf(h:Q:=by
 have pi:=bW q;refine bE ?_;unfold il at f;exact kp f m q):=h
def UI(h:Q:=by
 have f:=bW W;refine bR ?_;unfold aC at No;exact kp No W W):=h
def ade(h:Q:=by
 have bi:=h.hp;rw[CI (et _)]at bi;cases bi;rfl):=h
def U6(h:Q:=by
 have Ok:=bW n;refine bE ?_;unfold rP at I;exact kp I n n):=h
def UZ(h:Q:=by
 have aCm:=bW Hx;refine b2 ?_;unfold yb at Eq;exact kp Eq V Hx):=h
def UP(h:Q:=by
 have aCn:=bW rg;refine bE ?_;unfold ho at I;exact kp I o rg):=h
def Ve(h:Q:=by
 have rt:=bW l;refine bR ?_;unfold cR at e;exact Gs e L f9 w l):=h
def UT(h:Q:=by
 have aCo:=bW GP;refine bE ?_;unfold qY at O;exact p7 O K s2 GP):=h
def UR(h:Q:=by
 have aCp:=bW Fr;refine bE ?_;unfold ur at N;exact p7 N p rx Fr):=h
def U5(h:Q:=by
 have NX:=bW y;refine bE ?_;unfold gO at x;exact U3 x W M m q y):=h
def adf(h:Q:=by
 unfold Th.dM;rw[bg ad];exact⟨_,cD ad⟩):=h
def aq9(h:Q:=by
 rw[gs];split
 . rename_i e;obtain⟨rfl,_⟩:=e;rw[ak]at ah;exact ah
 . exact Z):=h
def U4(h:Q:=by
 have rt:=bW l;refine bE ?_;unfold gO at x;exact ara x W M L f9 w l):=h
def UY(h:Q:=by
 have aCq:=bW GW;refine bR ?_;unfold vX rO ya at T;exact kp T U GW):=h
def UO(h:Q:=by
 have aCr:=bW qr;refine bE ?_;unfold ho at I;exact Gs I o C J qr):=h
def UX(h:Q:=by
 have aCs:=bW GS;refine bR ?_;unfold vX rO ya at T;exact p7 T U t2 GS):=h
def arb(h:Q:=by
 rcases hk with⟨rfl,_⟩|⟨_,_,_,_,_,_,_,_,_,_,_,h⟩
 . rw[QL hlen,T]
 . cases h):=h
def arc(h:Q:=by
 rcases(aj j t cQ).iP R with g|⟨S,Y,e,g⟩
 . exact .inr g
 . rw[B]at e;cases e;exact .inl g):=h
def adg(h:aP P Q:=by
 intro G;refine aB rfl (yR gl rfl rfl) ?_;refine bb ?_;refine tl (by simp[cm,gN];omega) ?_;exact G.o):=h ⟨k⟩
def aqV(h:Q:=by
 rcases HC w with e|e
 . subst e;rw[l.zero];omega
 . rw[l.jf w e R];have:=aql r w;omega):=h
def T2(h:aP P Q:=by
 intro G;refine bQ ?_;refine vM ?_;exact G.o):=h ⟨k⟩
def QM(h:Q:=by
 refine gq ?_;refine bb ?_;exact tM):=h
def adh(h:aP P Q:=by
 intro G;refine x5 ?_;refine aB rfl (gF rfl (F0 U)) ?_;exact G.o):=h ⟨k⟩
def adi(h:aP P Q:=by
 intro G;refine JP ?_;refine go_v rfl .none rfl (gF rfl (acM Z)) ?_;refine aG ?_;exact G.o):=h ⟨k⟩
def adj(h:Q:=by
 refine wn λf=>?_;refine b2 ?_;exact Qq λact w g0 st=>⟨g,j,c,d,f,g0.jC eb,st.imp (au)⟩):=h
def adk(h:aP P Q:=by
 intro G;refine cw [8,14] (101::7::uE) [] ?_;refine EE ?_;refine ct ?_;exact G.o):=h ⟨k⟩
def adl(h:aP P Q:=by
 intro G;refine BO ?_;refine aB rfl (fS (c:=true) yC (mh rfl rfl)) ?_;exact G.o):=h ⟨k⟩
def QN(h:aP P Q:=by
 intro G;refine bj ?_;refine aU (Xo X.cN X.C.bC p az hp) ?_;refine cP ?_;exact G.o):=h ⟨k⟩
def ard(h:Q:=by
 apply arf.2;intro i ak;rw[iW,iW,kY ad]):=h
def Uz(h:aP P Q:=by
 intro G;refine x5 ?_;refine aB rfl (kz rfl (kA gY 4 ue U) rfl) ?_;exact G.o):=h ⟨k⟩
def Ux(h:aP P Q:=by
 intro G;refine x5 ?_;refine aB rfl (kz rfl (kA gB 2 qV U) rfl) ?_;exact G.o):=h ⟨k⟩
def Uv(h:aP P Q:=by
 intro G;refine x5 ?_;refine aB rfl (kz rfl (kA eH 5 C8 U) rfl) ?_;exact G.o):=h ⟨k⟩
def Ut(h:aP P Q:=by
 intro G;refine x5 ?_;refine aB rfl (kz rfl (kA jQ 2 Al U) rfl) ?_;exact G.o):=h ⟨k⟩
def adm(h:aP P Q:=by
 intro G;refine bj ?_;refine cw [] [1,201,21,201,3] u2 ?_;refine aG ?_;exact G.o):=h ⟨k⟩
def adn(h:Q:=by
 rcases h with rfl|⟨k,x,rfl,ah⟩
 . exact Z
 . exact aq9):=h
def J2(h:Q:=by
 have f:=bW W;refine dB ?_;exact jo n):=h
def J3(h:aP P Q:=by
 intro G;refine q8 ?_;refine hz ?_;refine hy ?_;exact G.o):=h ⟨k⟩
def Yv(h:aP P Q:=by
 intro G;refine vh ?_;intro H D;refine hy ?_;revert H D;exact G.o):=h ⟨k⟩
def ado(h:aP P Q:=by
 intro G;refine J1 ?_;refine ko (mo rfl rfl rfl (by rw[OT,hlen];rfl)) ?_;exact G.o):=h ⟨k⟩
def arh(h:aP P Q:=by
 intro G;refine vh ?_;intro H D;refine kK eP ?_;revert H D;exact G.o):=h ⟨k⟩
def J4(h:aP P Q:=by
 intro G;refine yq ?_;refine hz ?_;refine jg ?_;exact G.o):=h ⟨k⟩
def adp(h:Q:=by
 refine aU (QO p z X.br X.m B.b x y _ rfl 0 0) ?_;refine b2 ?_;exact aQ (I:=[h6 X B p (.po U),eF X B]) ⟨rfl,rfl⟩ (cE (z,aL,V,ay,N) trivial (au))):=h
def Yw(h:aP P Q:=by
 intro G;refine QJ ?_;refine go_v rfl .none rfl (lU rfl rfl a) ?_;exact G.o):=h ⟨k⟩
def Mv(h:aP P Q:=by
 intro G;refine bR ?_;refine go_v rfl .none rfl (jR Tryz.underlying326 rfl rfl) ?_;refine aG ?_;exact G.o):=h ⟨k⟩
def adq(h:aP P Q:=by
 intro G;refine ac4 ?_;refine fB ?_;exact G.o):=h ⟨k⟩
def Hk(h:aP P Q:=by
 intro G;refine bj ?_;refine Hj ?_;exact G.o):=h ⟨k⟩
def Mj(h:aP P Q:=by
 intro G;refine gU ?_;refine F1 ?_;exact G.o):=h ⟨k⟩
def adr(h:aP P Q:=by
 intro G;have hp:az.out=0->az.val=0:=(λh=>absurd h b);have Z:1<=az.val/\az.val<=65536:=ad;have h:ab E 84 qq (bh X z s) (cv X (some y)):=(ari aj B ag);revert hp Z h;exact G.o):=h ⟨k⟩
def ads(h:Q:=by
 refine aU (J5 p z X.br X.m B.b (iO true) 1 x y _ rfl 0 0) ?_;refine b2 ?_;exact aQ (I:=[fa X B p ⟨.more true,0,0⟩,eF X B]) ⟨rfl,by rw[bg W]⟩ (qp (cE (z,aL,b7) trivial (au)))):=h
def adt(h:Q:=by
 refine aU (J5 p z X.br X.m B.b (iO false) 1 x y _ rfl 0 0) ?_;refine b2 ?_;exact aQ (I:=[fa X B p ⟨.more false,0,0⟩,eF X B]) ⟨rfl,by rw[bg W]⟩ (qp (cE (z,aL,b7) trivial (au)))):=h
def GI(h:aP P Q:=by
 intro G;refine bu (J6 X.m B.b) ?_;rintro _ _ ⟨z,rfl,rfl⟩;refine eM ?_;revert z;exact G.o):=h ⟨k⟩
def adu(h:Q:=by
 refine aU (iA (a1.eq_14 ..) (cA,aR,Z,aM,bV,c1,bq,J,M) ⟨rfl,rfl⟩ (jN X z.ap z.ae s.ax j p 213 [ptr cA 0,ptr aR 0,ptr Z 0,ptr aM 0,ptr bV 0] t (.add 0 1) (.mE l k) O U)) ?_;exact pK):=h
def adv(h:aP P Q:=by
 intro G;refine bE ?_;refine vM ?_;exact G.o):=h ⟨k⟩
def adw(h:aP P Q:=by
 intro G;refine iu [16,17,18] [17] [1,5,9,13,17,21,25,29,33,37,41,45,49,53,57,61,66,70,74,3,3,3,70,66,74] [aa aR 110 [ptr q 0],aa cA 311 [ptr m 0],aa q 118 (dS X x e),ao (eB z.ae s.lets)] ?_;refine ov ?_;exact G.o):=h ⟨k⟩
def adx(h:Q:=by
 congr 1
 . exact ard
 . exact aqS):=h
def QP(h:aP P Q:=by
 intro G;refine ct ?_;refine aB rfl (jR Tryz.underlying314 rfl rfl) ?_;refine aG ?_;exact G.o):=h ⟨k⟩
def QQ(h:aP P Q:=by
 intro G;refine bj ?_;refine JP ?_;refine go_v rfl .none rfl (gF rfl (ady i)) ?_;exact G.o):=h ⟨k⟩
def adz(h:Q:=by
 refine aU (iA (a1.eq_15 ..) (cA,aR,Z,aM,bV,c1,bq,b7,d8,q,J,M) ⟨rfl,rfl,bt⟩ (jN X z.ap z.ae s.ax j p 213 [ptr cA 0,ptr aR 0,ptr Z 0,ptr aM 0,ptr bV 0] t (.add 0 1) (.hR a l e k) O U)) ?_;exact pK):=h
def QR(h:aP P Q:=by
 intro G;refine ke ?_;refine J1 ?_;exact G.o):=h ⟨k⟩
def J7(h:aP P Q:=by
 intro G;refine ke ?_;refine oN ?_;exact G.o):=h ⟨k⟩
def XG(h:aP P Q:=by
 intro G;refine hb (bv:=Nat) (λx=>x<=2+2*n) (λx=>((31,af x)::(30,af ((2+2*n:Nat):Int))::Hw)) (λx=>bz m (im L b x) (jp x t)::D) (λx=>2+2*n -x) 0 (fk _) eb (au) ?_;intro k hk;refine bj ?_;revert k hk;exact G.o):=h ⟨k⟩
def adA(h:aP P Q:=by
 intro G;refine pB rfl .none rfl (b9 rfl ((by have bi:=Go.Proofs.YtnnhpnccfnghdaaGreat.L.alg e.bI x.state l.tag l.n Y.kj (gb e.bI) (λ_ h=>h) (by omega);rw[i7]at bi;exact bi)) bN) ?_;rintro _ D ⟨_,⟨bZ,pc,rfl,rfl⟩,rfl⟩;refine fC ?_;revert bZ pc;exact G.o):=h ⟨k⟩
def adB(h:Q:=by
 refine⟨QS h.base _ gl,F,⟨_,by rw[zt O],rfl⟩,fP,?_,?_⟩
 . rw[T];exact aI
 . exact arj):=h
def UG(h:Q:=by
 refine gq ?_;refine ct ?_;exact C6):=h
def QT(h:aP P Q:=by
 intro G;refine oZ rfl rfl gl ?_;refine aG ?_;refine oZ rfl rfl gl ?_;exact G.o):=h ⟨k⟩
def yA(h:Q:=by
 refine eY ?_;exact pK):=h
def EI(h:aP P Q:=by
 intro G;refine ct ?_;refine JZ ?_;exact G.o):=h ⟨k⟩
def aqW(h:Q:=by
 refine⟨QS h.base _ gl,F _,⟨_,by rw[zt O],rfl⟩,fP,?_,?_⟩
 . rw[T];exact aI
 . exact ark):=h
def adC(h:aP P Q:=by
 intro G;refine oh ?_;refine QJ ?_;exact G.o):=h ⟨k⟩
def arl(h:Q:=by
 refine wn λa=>?_;exact QG):=h
def adD(h:aP P Q:=by
 intro G;refine go_skip rfl (.no rfl rfl W) rfl ?_;refine go_skip rfl (.no rfl rfl W) rfl ?_;refine go_skip rfl (.no rfl rfl W) rfl ?_;exact G.o):=h ⟨k⟩
def Gr(h:aP P Q:=by
 intro G;have C:=g.kinds k hk;have t6:=C.sA.2;have U:=C.sz.2;have R:=C.lens;have X:=C.s6;have md:=C.name;revert C t6 U R X md;exact G.o):=h ⟨k⟩
def EJ(h:aP P Q:=by
 intro G;refine gU ?_;refine fC ?_;refine ct ?_;exact G.o):=h ⟨k⟩
def adE(h:aP P Q:=by
 intro G;refine tl (by show some (Value.bool (decide ((Th.hj o.ref x.id (max l.cf 0) x.parent ku)=0)||decide ((Th.hj o.ref x.id (max l.cf 0) x.parent ku)=x.id)))=some (Value.bool false);rw[show(decide ((Th.hj o.ref x.id (max l.cf 0) x.parent [er,s1,cb,ce])=0)||decide ((Th.hj o.ref x.id (max l.cf 0) x.parent [er,s1,cb,ce])=x.id))=false from by simpa using R]) ?_;refine ct ?_;refine cP ?_;exact G.o):=h ⟨k⟩
def yg(h:aP P Q:=by
 intro G;refine kK eP ?_;rintro f -;refine gh ?_;revert f;exact G.o):=h ⟨k⟩
def zu(h:aP P Q:=by
 intro G;refine oN ?_;refine hy ?_;exact G.o):=h ⟨k⟩
def BP(h:aP P Q:=by
 intro G;refine kK eP ?_;rintro⟨cu,c1,cC,bq⟩ -;refine gh ?_;revert cu c1 cC bq;exact G.o):=h ⟨k⟩
def C2(h:aP P Q:=by
 intro G;refine bR ?_;refine vM ?_;exact G.o):=h ⟨k⟩
def C0(h:aP P Q:=by
 intro G;refine bR ?_;refine Mc ?_;exact G.o):=h ⟨k⟩
def Au(h:aP P Q:=by
 intro G;refine gU ?_;refine fC ?_;refine bR ?_;exact G.o):=h ⟨k⟩
def J8(h:aP P Q:=by
 intro G;refine qy ?_;refine oN ?_;exact G.o):=h ⟨k⟩
def adF(h:aP P Q:=by
 intro G;refine w7 ?_;refine w7 ?_;refine w7 ?_;exact G.o):=h ⟨k⟩
def re(h:Q:=by
 refine ov ?_;exact aQ ⟨rfl,rfl⟩):=h
def xa(h:aP P Q:=by
 intro G;refine hy ?_;refine zq ?_;exact G.o):=h ⟨k⟩
def x7(h:aP P Q:=by
 intro G;refine gU ?_;refine F8 ?_;exact G.o):=h ⟨k⟩
def xb(h:aP P Q:=by
 intro G;refine bu (arm bI.limit bI.within) ?_;rintro _ _ ⟨j,rfl,rfl⟩;refine eM ?_;revert j;exact G.o):=h ⟨k⟩
def vY(h:aP P Q:=by
 intro G;refine gU ?_;refine uu ?_;exact G.o):=h ⟨k⟩
def Gk(h:Q:=by
 refine gq ?_;refine bR ?_;exact C6):=h
def oi(h:aP P Q:=by
 intro G;refine lS ?_;intro p;refine aG ?_;revert p;exact G.o):=h ⟨k⟩
def nw(h:aP P Q:=by
 intro G;refine bb ?_;refine wn λV=>?_;refine wn λay=>?_;revert V ay;exact G.o):=h ⟨k⟩
def pe(h:aP P Q:=by
 intro G;rintro _ _ ⟨rfl,cl,aW,ah,e8,rfl⟩;refine eM ?_;refine b2 ?_;revert cl aW ah e8;exact G.o):=h ⟨k⟩
def zv(h:aP P Q:=by
 intro G;refine pB rfl .none rfl (b9 rfl (arn X.C.dO (by have:=N.pJ;omega)) bN) ?_;rintro _ D ⟨_,⟨g,rfl,rfl⟩,rfl⟩;refine fC ?_;revert g;exact G.o):=h ⟨k⟩
def aro(h:Q:=by
 refine fm ?_ ?_
 . exact arp
 . exact arq):=h
def adG(h:aP P Q:=by
 intro G;refine bu (gv (I:=[a1 X z.ap z.ae j 0 k J M,aa q 118 ((dS X x e).set (0+7) (S b)),dj e.ka e.kc x.kids,dj e.gQ e.gR x.cH,fJ e.gp X.C.dO x.aside x.front,gL e.iB (min (max e.bI.limit 0) 100) (min (max e.bI.within 1) 4095) x.given,bs e.gj .i64 (x.watched.map λw=>(w,.bool true)),ii e.iC (hD e.es),ao (hV e.es),gb e.bI,ao ((dI X z.ap s.aE).set (a -1) eJ),cp X {z with b4:=aD,b5:=aI} {s with trace:=s.trace++[({Th.cz with kind:=4,dc:=x.id,id:=id,name:=b}:bG)]},di aD aI (s.trace++[({Th.cz with kind:=4,dc:=x.id,id:=id,name:=b}:bG)]),dX z.na z.dT s.notes,bs X.am .i64 (bD z.ap),bs X.dL .u64 (bD z.ae),ao (eB z.ae s.lets),Lg.cY X.ld s.a8,dz X.cF X.C.c6 s.dead,bz X.m s.L z.tt,eo X,ee X s.bm,dy X.bl X.m X.C.bl X.C.aT,ao (dd X),ef X,eL X,e7 X,eO X,ao (cK X z.ap z.ae s.ax)]) (λD h F=>Sat.tail (λh F=>jk (X:=X) (z:={z with b4:=aD,b5:=aI}) (s:={s with trace:=s.trace++[({Th.cz with kind:=4,dc:=x.id,id:=id,name:=b}:bG)]}) (x:={x with state:=b}) (e:=e) B ⟨Y.bI,Y.kj,Y.es⟩ D h F) F) (h aD aI)) ?_;rintro _ _ ⟨rfl,cl,aW,ah,e8,rfl⟩;refine eM ?_;revert cl aW ah e8;exact G.o):=h ⟨k⟩
def As(h:Q:=by
 refine eY ?_;exact ac8):=h
def Ar(h:Q:=by
 refine gq ?_;exact ac8):=h
def rM(h:aP P Q:=by
 intro G;refine gd ?_;refine hb (bv:=Nat) (λx=>x<=L.length/\(L.take x).any q=false) (λx=>[(8,af x),(7,af L.length),(0,.slice a L.length c),(1,.func (.func F) #[] z.toArray)]) (λ_=>J++D) (λx=>L.length -x) 0 (⟨fk _,rfl⟩) eb (λ_ h=>h) ?_;rintro x ⟨ah,bt⟩;revert x ah bt;exact G.o):=h ⟨k⟩
def adH(h:Q:=by
 refine fm ?_ ?_
 . exact arr
 . exact ars):=h
def J9(h:Q:=by
 refine fm ?_ ?_
 . exact art
 . exact aru):=h
def XF(h:Q:=by
 refine c4 ?_;refine wn λc=>?_;exact NK):=h
def adI(h:Q:=by
 apply tO;intro t _;by_cases e:f t=F
 . simp[e]
 . simp[e]):=h
def We(h:Q:=by
 refine av Tryz.func480 λH D=>?_;exact yA):=h
def arv(h:Q:=by
 subst e;show b3.fQ (fe (s.L.getD 0 0+1))=_;rw[un _ ad ad,nj]
 congr 1):=h
def adJ(h:Q:=by
 rintro _ _ ⟨rfl,cl,aW,ah,e8,rfl⟩;refine eM ?_;refine bR ?_;exact pb):=h
def adK(h:aP P Q:=by
 intro G;refine eM ?_;refine c4 ?_;refine Qu ?_;refine bb ?_;exact G.o):=h ⟨k⟩
def VO(h:Q:=by
 rintro _ _ ⟨e,S,rfl,rfl⟩;rw[lo,ci];refine bE ?_;exact aQ ⟨e,S,rfl,rfl⟩):=h
def adL(h:aP P Q:=by
 intro G;refine aG ?_;refine oZ rfl rfl h9 ?_;refine aG ?_;refine aB rfl (yR h9 rfl rfl) ?_;exact G.o):=h ⟨k⟩
def adM(h:aP P Q:=by
 intro G;refine cw [] [6,201] [] ?_;refine bR ?_;refine go_v rfl .none rfl (jR Tryz.underlying314 rfl rfl) ?_;refine aG ?_;exact G.o):=h ⟨k⟩
def adN(h:aP P Q:=by
 intro G;refine cw [] [6,201] [] ?_;refine Mv ?_;exact G.o):=h ⟨k⟩
def adO(h:aP P Q:=by
 intro G;refine x7 ?_;refine og ?_;exact G.o):=h ⟨k⟩
def adP(h:Q:=by
 refine aG ?_;refine wn λaM=>?_;exact QG):=h
def adQ(h:Q:=by
 refine aG ?_;refine wn λbV=>?_;exact QG):=h
def adR(h:aP P Q:=by
 intro G;refine bR ?_;refine Aq ?_;refine bR ?_;refine cP ?_;exact G.o):=h ⟨k⟩
def adS(h:Q:=by
 refine l1 ?_;intro aD aI;refine dh ?_;exact aQ ⟨rfl,iN,⟨aj.gk,aj.fY,aj.fZ,aj.ap,aj.ae⟩,rfl⟩):=h
def adT(h:Q:=by
 rintro _ D ⟨_,⟨rfl,cl,aW,ah,e8,rfl⟩,rfl⟩;refine pC ?_;exact pb):=h
def Ka(h:aP P Q:=by
 intro G;refine c4 ?_;refine cP ?_;refine bQ ?_;refine cP ?_;exact G.o):=h ⟨k⟩
def adU(h:aP P Q:=by
 intro G;refine hz ?_;refine zo ?_;refine JX ?_;exact G.o):=h ⟨k⟩
def adV(h:aP P Q:=by
 intro G;refine ke ?_;refine aB rfl (kl ((l -1:Nat):Int) ff rfl rfl) ?_;refine qy ?_;refine ie ?_;exact G.o):=h ⟨k⟩
def QU(h:aP P Q:=by
 intro G;refine Dj ?_;refine yr ?_;refine yr ?_;refine Dj ?_;exact G.o):=h ⟨k⟩
def QV(h:aP P Q:=by
 intro G;refine BO ?_;refine bE ?_;refine cP ?_;exact G.o):=h ⟨k⟩
def Mp(h:Q:=by
 rintro _ _ ⟨b,a,p,rfl,rfl⟩;refine eM ?_;refine bE ?_;exact aQ ⟨_,_,_,rfl,rfl⟩):=h
def XI(h:aP P Q:=by
 intro G;refine cn rfl (b9 rfl (mM m (mW L b k) _ (b+k) (by rw[NE];omega) _) bN) ?_;refine EJ ?_;exact G.o):=h ⟨k⟩
def adW(h:aP P Q:=by
 intro G;refine aG ?_;refine zv ?_;intro g;revert g;exact G.o):=h ⟨k⟩
def Kb(h:Q:=by
 have f:=bW W;simp only[iE];refine bj ?_;exact jo n):=h
def adX(h:Q:=by
 rintro _ _ ⟨rfl,cC,bq,rfl⟩;exact ada):=h
def arw(h:Q:=by
 refine bR ?_;refine aU (an9 X B p x y aO) ?_;refine bb ?_;exact aQ (I:=Ph) ⟨rfl,rfl⟩ Nv):=h
def arx(h:Q:=by
 refine bR ?_;refine aU (W5 X B p x y K v) ?_;refine bE ?_;exact aQ (I:=Ph) ⟨rfl,rfl⟩ (by rw[bg W];exact(au))):=h
def Nj(h:Q:=by
 have f:=bW W;simp only[iE];refine fB ?_;exact DE):=h
def Nk(h:aP P Q:=by
 intro G;refine ny ?_;intro q;refine aG ?_;refine go_v rfl .none rfl (jR Tryz.underlying232 rfl rfl) ?_;revert q;exact G.o):=h ⟨k⟩
def Kc(h:Q:=by
 refine lS ?_;intro p;exact Nd):=h
def Mn(h:Q:=by
 refine vY ?_;exact aQ ⟨rfl,rfl⟩):=h
def WI(h:Q:=by
 refine bE ?_;refine aU (Wh _ _ _) ?_;refine bE ?_;exact aQ (I:=WH) ⟨by simp[r0,J],rfl⟩ (by simp only[rZ,r0,J,fu,e2,eI];exact(au))):=h
def Kd(h:aP P Q:=by
 intro G;refine VZ ?_;refine MR ?_;refine MR ?_;refine VX ?_;exact G.o):=h ⟨k⟩
def adY(h:Q:=by
 refine bE ?_;refine aU (Ke _ _ _) ?_;refine bE ?_;exact aQ (I:=abd) ⟨by simp[dC,J],rfl⟩ (by simp only[dC,lp,J,fu,e2,eI];exact(au))):=h
def WG(h:Q:=by
 refine bE ?_;refine aU (Ds _ _ _) ?_;refine bE ?_;exact aQ (I:=WE) ⟨by simp[ji,J],rfl⟩ (by simp only[mi,ji,J,fu,e2,eI];exact(au))):=h
def WD(h:Q:=by
 refine bE ?_;refine aU (AO _ _ _) ?_;refine bE ?_;exact aQ (I:=WC) ⟨by simp[j1,J],rfl⟩ (by simp only[qf,j1,J,fu,e2,eI];exact(au))):=h
def Mo(h:Q:=by
 rintro _ D ⟨_,⟨b,a,p,rfl,rfl⟩,rfl⟩;refine uu ?_;exact aQ ⟨_,_,_,rfl,rfl⟩):=h
def QW(h:aP P Q:=by
 intro G;refine BO ?_;refine aB rfl (fS (c:=false) yC (mh rfl rfl)) ?_;refine bE ?_;exact G.o):=h ⟨k⟩
def adZ(h:Q:=by
 refine aG ?_;refine fm ?_ ?_
 . exact arl
 . exact ary):=h
def ad0(h:aP P Q:=by
 intro G;refine adq ?_;refine go_v rfl (.yes rfl rfl rfl) rfl (lT (.bool false) (by rw[ad1,p];rfl) rfl rfl) ?_;exact G.o):=h ⟨k⟩
def Kf(h:aP P Q:=by
 intro G;refine gh ?_;refine eY ?_;refine nI ?_;refine ct ?_;exact G.o):=h ⟨k⟩
def QX(h:aP P Q:=by
 intro G;refine jg ?_;refine QR ?_;exact G.o):=h ⟨k⟩
def QY(h:Q:=by
 rintro _ D ⟨_,⟨rfl,cl,aW,ah,e8,rfl⟩,rfl⟩;refine uu ?_;exact pb):=h
def EK(h:aP P Q:=by
 intro G;refine cP ?_;refine nC ?_;refine bj ?_;exact G.o):=h ⟨k⟩
def Kg(h:Q:=by
 rintro _ _ ⟨rfl,cl,aW,ah,aj,rfl⟩;refine eM ?_;refine bb ?_;exact aQ ⟨rfl,cl,aW,ah,aj,rfl⟩):=h
def QZ(h:aP P Q:=by
 intro G;refine fC ?_;refine C2 ?_;exact G.o):=h ⟨k⟩
def Kh(h:aP P Q:=by
 intro G;have hw:Th.hh=10000000:=rfl;have I:bo=1000000000000:=rfl;have u:Th.hB=90000:=rfl;have Y:=h.ph;revert hw I u Y;exact G.o):=h ⟨k⟩
def GD(h:aP P Q:=by
 intro G;rintro _ _ ⟨z,rfl,rfl⟩;refine eM ?_;refine aG ?_;refine go_v rfl .none rfl (jR Tryz.underlying314 rfl rfl) ?_;revert z;exact G.o):=h ⟨k⟩
def ary(h:Q:=by
 refine aG ?_;refine wn λa=>?_;refine b2 ?_;exact acB):=h
def Of(h:aP P Q:=by
 intro G;refine oh ?_;refine adC ?_;exact G.o):=h ⟨k⟩
def Q0(h:aP P Q:=by
 intro G;refine hz ?_;refine xa ?_;exact G.o):=h ⟨k⟩
def Q1(h:Q:=by
 refine gh ?_;refine j9 (arz p z br x y I d out val 0 _ false) bN (λD=>?_);refine gh ?_;exact λh s=>Sat.swap (cE e trivial (au) h s)):=h
def AG(h:Q:=by
 rintro _ _ ⟨aD,aI,rfl,rfl⟩;refine eM ?_;refine bE ?_;exact aQ ⟨aD,aI,rfl,rfl⟩):=h
def BQ(h:aP P Q:=by
 intro G;refine J8 ?_;refine hy ?_;exact G.o):=h ⟨k⟩
def W9(h:Q:=by
 refine b2 ?_;refine ch (λW=>?_) (λW=>?_)
 . exact arx
 . exact arw):=h
def Ki(h:aP P Q:=by
 intro G;refine Yv ?_;intro H D;refine jg ?_;revert H D;exact G.o):=h ⟨k⟩
def Kj(h:aP P Q:=by
 intro G;refine pB rfl .none rfl (b9 rfl (arA C.c6 ad) bN) ?_;rintro _ D ⟨_,⟨cF,rfl,rfl⟩,rfl⟩;refine fC ?_;rw[Kk];revert cF;exact G.o):=h ⟨k⟩
def arB(h:Q:=by
 subst e;have gJ:(s.L.set 1 (fe (s.L.getD 1 0+1))).getD 1 0=s.L.getD 1 0+1:=ZD;have aC:(s.L.set 1 (fe (s.L.getD 1 0+1))).getD 0 0=s.L.getD 0 0:=la bw;exact⟨by show(s.L.set 1 (fe (s.L.getD 1 0+1))).getD 0 0=_;rw[aC];exact nj,by show s.lets.length+0<=_;omega,by show(s.aE.length:Int)=min ((s.L.set 1 (fe (s.L.getD 1 0+1))).getD 1 0 -((1:Nat):Int)) _;rw[gJ];omega,by show((1:Nat):Int)+1<=(s.L.set 1 (fe (s.L.getD 1 0+1))).getD 1 0;rw[gJ];omega,by show(s.L.set 1 (fe (s.L.getD 1 0+1))).getD 1 0<=_;rw[gJ];omega⟩):=h
def arC(h:Q:=by
 subst e;have gJ:(s.L.set 0 (fe (s.L.getD 0 0+1))).getD 0 0=s.L.getD 0 0+1:=ZD;have aC:(s.L.set 0 (fe (s.L.getD 0 0+1))).getD 1 0=s.L.getD 1 0:=la bw;exact⟨by show(s.L.set 0 (fe (s.L.getD 0 0+1))).getD 0 0=_;rw[gJ,nj];show _=((s.lets.length+1:Nat):Int);omega,by show s.lets.length+1<=_;omega,by show(s.aE.length:Int)=min ((s.L.set 0 (fe (s.L.getD 0 0+1))).getD 1 0 -_) _;rw[aC];exact dv,by show _<=(s.L.set 0 (fe (s.L.getD 0 0+1))).getD 1 0;rw[aC];exact mv,by show(s.L.set 0 (fe (s.L.getD 0 0+1))).getD 1 0<=_;rw[aC];omega⟩):=h
def zw(h:Q:=by
 rintro _ _ ⟨rfl,cl,aW,ah,e8,rfl⟩;refine eM ?_;refine bE ?_;exact pb):=h
def Bg(h:aP P Q:=by
 intro G;refine J8 ?_;refine oI ?_;exact G.o):=h ⟨k⟩
def Kl(h:aP P Q:=by
 intro G;refine arh ?_;intro H D;rintro z K;revert H D z K;exact G.o):=h ⟨k⟩
def BR(h:Q:=by
 obtain rfl:x=L.length:=ad;rw[nT]at bt;refine dB ?_;exact aQ (I:=J) ⟨by rw[Km bt],rfl⟩ (λ_ h=>h)):=h
def xc(h:Q:=by
 rintro _ _ ⟨rfl,cl,aW,ah,e8,rfl⟩;refine eM ?_;refine bj ?_;exact pb):=h
def xd(h:Q:=by
 rintro _ _ ⟨rfl,cl,aW,ah,e8,rfl⟩;refine eM ?_;refine bb ?_;exact pb):=h
def BS(h:Q:=by
 rintro _ D ⟨_,⟨rfl,cl,aW,ah,e8,rfl⟩,rfl⟩;refine F8 ?_;exact pb):=h
def CW(h:Q:=by
 obtain rfl:x=L.length:=ad;rw[nT]at bt;refine dB ?_;exact aQ (I:=J) ⟨-1,⟨λh=>absurd h bw,λh=>by rw[bt]at h;cases h⟩,rfl,rfl⟩ (λ_ h=>h)):=h
def sx(h:aP P Q:=by
 intro G;refine bb ?_;refine wn λay=>?_;refine wn λaL=>?_;refine wn λaR=>?_;revert ay aL aR;exact G.o):=h ⟨k⟩
def ad2(h:Q:=by
 refine aG ?_;refine fm ?_ ?_
 . exact arD
 . exact arE):=h
def ad3(h:Q:=by
 refine aG ?_;refine fm ?_ ?_
 . exact arF
 . exact arG):=h
def ad4(h:Q:=by
 refine aG ?_;refine fm ?_ ?_
 . exact arH
 . exact arI):=h
def ad5(h:Q:=by
 refine aG ?_;refine fm ?_ ?_
 . exact arJ
 . exact arK):=h
def q5(h:Q:=by
 refine lS ?_;intro p;refine bE ?_;exact aQ ⟨p,rfl,rfl⟩):=h
def arL(h:Q:=by
 refine C0 ?_;refine gg (x+1) ⟨show x+1<=L.length by omega,any_none U bt M⟩ (show L.length -(x+1)<L.length -x by omega) eb (λ_ h=>h)):=h
def ad6(h:Q:=by
 refine aG ?_;refine fm ?_ ?_
 . exact arM
 . exact arN):=h
def ad7(h:Q:=by
 refine aG ?_;refine fm ?_ ?_
 . exact arO
 . exact arP):=h
def arQ(h:Q:=by
 refine C0 ?_;refine gg (x+1) ⟨show x+1<=L.length by omega,ad8 U bt M⟩ (show L.length -(x+1)<L.length -x by omega) eb (λ_ h=>h)):=h
def ad9(h:Q:=by
 have r:a=0->pT C (n+1) 1 0 sl:=λe=>by
  exact arC
 have ed:a=1->pT C (n+1) 0 1 sl:=λe=>by
  exact arB
 have l:a=0->(acc C s (.add a 1)).2=.fQ ((s.lets.length+1:Nat):Int):=λe=>by
  exact arv
 cases k<;>first
  |(
   replace U:b3.add a 1=.add 0 1:=U;have Rd:a=0:=by cases U;rfl
   exact Lz rfl rfl (r Rd) (l Rd))
  |(
   replace U:b3.add a 1=.add 1 1:=U;have m0:a=1:=by cases U;rfl
   refine Lz rfl rfl (ed m0) ?_;subst m0;have gJ:(s.L.set 1 (fe (s.L.getD 1 0+1))).getD 1 0=fe (s.L.getD 1 0+1):=rl ad;show b3.fQ (fe (s.L.getD 1 0+1))=.fQ ((s.L.set 1 (fe (s.L.getD 1 0+1))).getD 1 0);rw[gJ])
  |exact absurd rfl (U a 1)
  |exact U.elim
  |exact U.2.elim
  |(obtain⟨_,_,e⟩:=U;cases e)
  |(obtain⟨_,e⟩:=U;cases e)
  |(cases U)):=h
def WL(h:Q:=by
 refine cB ?_;refine wn λaM=>?_;refine gq ?_;refine aG ?_;exact uF):=h
def WK(h:Q:=by
 refine dh ?_;refine wn λcA=>?_;refine gq ?_;refine aG ?_;exact uF):=h
def Vq(h:aP P Q:=by
 intro G;refine bR ?_;refine cP ?_;refine gq ?_;refine aU (arR X.wp w id d R.ok R.now R.seq) ?_;refine aG ?_;exact G.o):=h ⟨k⟩
def aea(h:aP P Q:=by
 intro G;refine aB rfl (DS rfl) ?_;refine J7 ?_;refine ts ?_;exact G.o):=h ⟨k⟩
def XH(h:Q:=by
 obtain rfl:k=2+2*n:=ad;refine dB ?_;refine wn λd=>?_;exact NK):=h
def XK(h:aP P Q:=by
 intro G;refine adL ?_;refine aG ?_;exact G.o):=h ⟨k⟩
def aeb(h:aP P Q:=by
 intro G;refine fC ?_;refine Bg ?_;exact G.o):=h ⟨k⟩
def aec(h:aP P Q:=by
 intro G;refine bR ?_;refine adM ?_;exact G.o):=h ⟨k⟩
def aed(h:aP P Q:=by
 intro G;refine b2 ?_;refine adN ?_;exact G.o):=h ⟨k⟩
def aee(h:aP P Q:=by
 intro G;refine gq ?_;refine bj ?_;refine aU (Lg.aqf X.ld s.a8 ((s.lets.length+1:Nat):Int) 1 aO hk) ?_;refine ov ?_;exact G.o):=h ⟨k⟩
def aef(h:Q:=by
 refine bu ((aY aD aI).spec) ?_;exact xd):=h
def aeg(h:aP P Q:=by
 intro G;refine Au ?_;refine zp ?_;exact G.o):=h ⟨k⟩
def aeh(h:aP P Q:=by
 intro G;refine gU ?_;refine fC ?_;refine aB rfl (ql rfl) ?_;refine oN ?_;exact G.o):=h ⟨k⟩
def arS(h:Q:=by
 refine wn λbV=>?_;exact adP):=h
def arT(h:Q:=by
 refine wn λaM=>?_;exact adQ):=h
def arU(h:Q:=by
 refine wn λa=>?_;exact adP):=h
def arV(h:Q:=by
 refine wn λa=>?_;exact adQ):=h
def aei(h:aP P Q:=by
 intro G;refine oZ rfl rfl gl ?_;refine aG ?_;refine adg ?_;exact G.o):=h ⟨k⟩
def Yt(h:Q:=by
 refine Bg ?_;refine jq (.inl rfl) rfl rfl _ (⟨by congr 1;simp;omega,rfl⟩) (au)):=h
def Xg(h:aP P Q:=by
 intro G;refine bj ?_;refine cw [] [7,201,2] [] ?_;refine bE ?_;refine go_v rfl .none rfl (gf rfl rfl R) ?_;refine go_v rfl .none rfl (gF rfl (W2 R)) ?_;exact G.o):=h ⟨k⟩
def Xk(h:aP P Q:=by
 intro G;refine gU ?_;refine rL ?_;refine aU (mQ p (gK X) x y 0 0 1 o.value) ?_;refine bj ?_;exact G.o):=h ⟨k⟩
def arj(h:Q:=by
 rw[T];refine ax .jf fP _ bt co A ⟨(λo k e=>by cases e),λR=>.inl ?_,(aj j t cQ).oG⟩;rcases A.iP R (E R)with g|g
 . exact g.elim
 . exact g):=h
def arW(h:aP P Q:=by
 intro G;refine ie ?_;refine adU ?_;exact G.o):=h ⟨k⟩
def Xq(h:Q:=by
 rw[J,b]at i;simp only[e2,eI]at i;refine p9 i (λD=>?_);refine gh ?_;exact r3 (cE (q,c1,bq,b7) Y (au))):=h
def aej(h:aP P Q:=by
 intro G;refine jg ?_;refine adV ?_;exact G.o):=h ⟨k⟩
def ark(h:Q:=by
 rw[T];refine ax _ fP _ bt co A ⟨(λo k e=>by cases e),λR=>.inl ?_,(aj j t cQ).oG⟩;rcases A.iP R (E R)with g|g
 . exact absurd (arX g) (by rw[J];decide)
 . exact g):=h
def TQ(h:Q:=by
 rw[aek h];refine ct ?_;refine aB rfl (fS (c:=true) (by exact lM (by decide)) (yF rfl rfl)) ?_;refine dB ?_;exact LR (.inl rfl) rfl rfl rfl rfl rfl [a2] ⟨rfl,rfl⟩ (au)):=h
def Xw(h:Q:=by
 rw[J,b]at i;simp only[e2,eI]at i;refine p9 i (λD=>?_);refine gh ?_;exact r3 (cE (q,c1,bq,b7,a,c,cg,s) Y (au))):=h
def ael(h:aP P Q:=by
 intro G;refine acF ?_;refine ie ?_;refine hz ?_;refine zq ?_;exact G.o):=h ⟨k⟩
def Q2(h:aP P Q:=by
 intro G;refine Q0 ?_;refine ke ?_;exact G.o):=h ⟨k⟩
def L6(h:aP P Q:=by
 intro G;refine bu (alE _ _ _ _ ak) ?_;rintro _ _ ⟨a,c,rfl,rfl⟩;refine eM ?_;refine gd ?_;refine og ?_;revert a c;exact G.o):=h ⟨k⟩
def aem(h:aP P Q:=by
 intro G;refine oh ?_;refine Of ?_;exact G.o):=h ⟨k⟩
def aen(h:aP P Q:=by
 intro G;refine QX ?_;refine aB rfl (o_load rfl (l:=l2 (w.now+1) w.seq a) (v:=af ((w.now+1:Nat):Int)) rfl) ?_;exact G.o):=h ⟨k⟩
def Q3(h:aP P Q:=by
 intro G;refine bE ?_;refine adM ?_;exact G.o):=h ⟨k⟩
def Q4(h:Q:=by
 refine aU (By X z s (X.C.bc+i) t o k O U) ?_;refine bR ?_;refine nI ?_;refine cB ?_;exact tM):=h
def aeo(h:aP P Q:=by
 intro G;refine QP ?_;refine aU (iA (a1.eq_29 ..) (bV,aM,ay,aL,aR,q,J,M) ⟨rfl,rfl,B.ap⟩ (jN X z.ap z.ae s.ax j p 402 [ptr bV 0,ptr aM 0,ptr ay 0,ptr aL 0,ptr aR 0] t (.load 1) (.who a k) O U)) ?_;refine bb ?_;exact G.o):=h ⟨k⟩
def Kn(h:aP P Q:=by
 intro G;refine sx ?_;intro ay aL aR;refine dh ?_;revert ay aL aR;exact G.o):=h ⟨k⟩
def Ko(h:aP P Q:=by
 intro G;refine zo ?_;refine J8 ?_;exact G.o):=h ⟨k⟩
def arY(h:Q:=by
 refine wn λaM=>?_;exact adZ):=h
def arZ(h:Q:=by
 refine wn λbV=>?_;exact adZ):=h
def LW(h:aP P Q:=by
 intro G;refine wn λC=>?_;refine gj λa70 d=>?_;refine cB ?_;refine vM ?_;revert C a70 d;exact G.o):=h ⟨k⟩
def aep(h:aP P Q:=by
 intro G;refine⟨(λ_=>(λ_ _=>trivial)),?_⟩;refine bb ?_;refine go_vs rfl .none rfl (JI rfl rfl) (λ_ _=>trivial) ?_;refine bb ?_;refine acK ?_;exact G.o):=h ⟨k⟩
def Kp(h:aP P Q:=by
 intro G;refine aU (xe X z s (X.C.bc+i) t O U) ?_;refine bR ?_;refine og ?_;refine bR ?_;refine cP ?_;exact G.o):=h ⟨k⟩
def aeq(h:Q:=by
 refine QK ?_;intro cl aW ah e8;refine Am ?_;exact pb):=h
def ar0(h:Q:=by
 refine wn λa=>?_;refine aG ?_;refine fm ?_ ?_
 . exact arT
 . exact arS):=h
def Q5(h:Q:=by
 refine bu (h) ?_;refine pe ?_;exact pd):=h
def Q6(h:aP P Q:=by
 intro G;refine bb ?_;refine wn λbV=>?_;refine b2 ?_;refine cw [] [14,201] (aa bV 261 (iz ⟨l,b,reason⟩)::ab3) ?_;refine gd ?_;revert bV;exact G.o):=h ⟨k⟩
def Q7(h:aP P Q:=by
 intro G;refine gU ?_;refine QZ ?_;exact G.o):=h ⟨k⟩
def Q8(h:aP P Q:=by
 intro G;rintro _ D ⟨_,⟨rfl,aD,aI,rfl⟩,rfl⟩;refine QZ ?_;revert aD aI;exact G.o):=h ⟨k⟩
def MI(h:aP P Q:=by
 intro G;refine av Tryz.func202 λH D=>?_;refine c4 ?_;refine aU (tq p (kL X (fV a0 fL az.due) (fV cu cR az.cut) (fV cC b8 az.ref)) x y az.out az.val) ?_;refine aB rfl (fS (c:=false) (by simp[bi]) (ql rfl)) ?_;refine bQ ?_;revert H D;exact G.o):=h ⟨k⟩
def EL(h:Q:=by
 refine bu (EM ge) ?_;rintro _ _ ⟨rfl,cl,e8,rfl⟩;refine eM ?_;refine dh ?_;exact JN):=h
def Q9(h:Q:=by
 refine aG ?_;refine tg rfl .none rfl (ly (cs:=dS X (kR id 0 O b.name) ⟨bI,none,0,none,0,g,j,c,d,[]⟩) rfl rfl) ?_;exact adj):=h
def Ra(h:Q:=by
 refine aG ?_;refine tg rfl .none rfl (ly (cs:=dS X (kR id a O b.name) ⟨bI,none,0,none,0,g,j,c,d,[]⟩) rfl rfl) ?_;exact adj):=h
def arq(h:Q:=by
 refine wn λbV=>?_;refine aG ?_;refine fm ?_ ?_
 . exact arU
 . exact arY):=h
def arp(h:Q:=by
 refine wn λaM=>?_;refine aG ?_;refine fm ?_ ?_
 . exact arV
 . exact arZ):=h
def Rb(h:Q:=by
 refine aG ?_;refine tg rfl .none rfl (ly (cs:=ms C (.slice none 0 0) (.pointer none) (.pointer none) (.pointer none) (.pointer none) (.slice none 0 0) p r ld cF (.slice none 0 0) (.slice none 0 0) (.pointer none)) rfl rfl) ?_;refine wn λn=>?_;refine b2 ?_;exact Qq λact w g0 st=>⟨n,p,r,ld,cF,g0.jC eb,st.imp (au)⟩):=h
def vi(h:aP P Q:=by
 intro G;refine bb ?_;refine wn λaL=>?_;refine wn λaR=>?_;refine wn λaM=>?_;refine wn λbV=>?_;revert aL aR aM bV;exact G.o):=h ⟨k⟩
def CY(h:Q:=by
 rintro _ D ⟨_,⟨r,n,rfl,bf⟩,rfl⟩;refine fC ?_;obtain rfl:=bf.symm;refine bj ?_;exact aQ (I:=J) ⟨Gb (by rw[o0,ln];exact n),rfl⟩ (λ_ h=>h)):=h
def Kq(h:aP P Q:=by
 intro G;refine wn λdm=>?_;refine aG ?_;refine adA ?_;intro bZ pc;revert dm bZ pc;exact G.o):=h ⟨k⟩
def Kr(h:aP P Q:=by
 intro G;refine adA ?_;intro bZ pc;refine aG ?_;refine wn λdm=>?_;revert bZ pc dm;exact G.o):=h ⟨k⟩
def AP(h:aP P Q:=by
 intro G;refine av Tryz.func481 λH D=>?_;have g:=K.len;have a:=K.ed;have e:=K.dG;have i:=K.jT;have bf:=Hf tt a;have ai:=K.lt tt;have g5:ls b n tt<L.length:=ad;revert H D g a e i bf ai g5;exact G.o):=h ⟨k⟩
def vj(h:Q:=by
 refine bu (h) ?_;exact xd):=h
def Ks(h:Q:=by
 refine acL ?_;exact QY):=h
def aer(h:Q:=by
 refine iu [8,9,10,11,12] [9,10,11] [1,5,9,13,17,21,25,29,34,38,42,46,50,3,3,3,3,42,38,46,50,3,3,3,3,3,38,34,42,46,50,3,3,3,3,42,34,46,50,3,3,3,46,34,50,3,3,3,3,3,42,34,38,46,50,3,3,3,3,38,34,46,50,3,3,3,46,34,50] [eF X B] ?_;refine bQ ?_;refine fm ?_ ?_
 . exact ar0
 . exact aro):=h
def aes(h:aP P Q:=by
 intro G;refine Kd ?_;refine hz ?_;refine hy ?_;exact G.o):=h ⟨k⟩
def aet(h:aP P Q:=by
 intro G;refine hz ?_;refine hy ?_;refine xa ?_;refine ke ?_;exact G.o):=h ⟨k⟩
def aeu(h:Q:=by
 refine bj ?_;exact vj):=h
def aev(h:Q:=by
 refine bj ?_;refine bu (aY.spec) ?_;exact zw):=h
def Xh(h:Q:=by
 refine ny ?_;intro q;refine aG ?_;refine go_v rfl .none rfl (jR Tryz.underlying238 rfl rfl) ?_;refine bE ?_;exact aQ ⟨q,rfl,rfl⟩):=h
def Rc(h:aP P Q:=by
 intro G;refine gq ?_;refine cP ?_;refine Ka ?_;exact G.o):=h ⟨k⟩
def YC(h:aP P Q:=by
 intro G;refine gU ?_;refine aeb ?_;exact G.o):=h ⟨k⟩
def aew(h:aP P Q:=by
 intro G;rintro _ D ⟨_,⟨aD,aI,rfl,rfl⟩,rfl⟩;refine aeb ?_;revert aD aI;exact G.o):=h ⟨k⟩
def T1(h:Q:=by
 refine b2 ?_;refine wn λdm=>?_;refine bQ ?_;refine cP ?_;refine c4 ?_;refine xV (.inl rfl) rfl rfl rfl rfl [km none 0 [],a2] (⟨none,0,rfl,rfl⟩) (λh s=>jc h ((au) h s))):=h
def aqa(h:aP P Q:=by
 intro G;refine cn rfl (b9 rfl (Oe _) bN) ?_;refine aeh ?_;exact G.o):=h ⟨k⟩
def aex(h:aP P Q:=by
 intro G;refine adm ?_;refine aU (xe X z s j t O U) ?_;refine nC ?_;exact G.o):=h ⟨k⟩
def Re(h:aP P Q:=by
 intro G;refine J3 ?_;refine ts ?_;refine zo ?_;exact G.o):=h ⟨k⟩
def aey(h:aP P Q:=by
 intro G;refine aU (ak9 o.ref x.id (max l.cf 0) x.parent (some ⟨q,8,none⟩) 4 ku (aa q 118 (dS X x e)) rfl) ?_;refine bQ ?_;refine aU (TN o.slot) ?_;refine ov ?_;refine cP ?_;exact G.o):=h ⟨k⟩
def aez(h:aP P Q:=by
 intro G;refine c4 ?_;refine nI ?_;refine bb ?_;refine cw [] [5,201,1] [aa aR 110 [ptr q 0],aa aM 36 [bx id],aa q 118 (dS X x e)] ?_;refine bE ?_;refine aU (ar1 e.gp X.C.dO N.pJ x.aside x.front id) ?_;exact G.o):=h ⟨k⟩
def aeA(h:Q:=by
 refine dh ?_;refine bu (aeB X z s i J R de fx V aM ay [] 0 c2) ?_;exact adS):=h
def aeC(h:aP P Q:=by
 intro G;refine c4 ?_;refine cn rfl (b9 rfl (aeD cC bq O.length (iL O) (fH cC bq O) (Rf O) (Rg O) ad) bN) ?_;rintro _ D ⟨_,⟨a,c,rfl,rfl⟩,rfl⟩;refine bj ?_;refine aU (ar2 O a c h2) ?_;refine dh ?_;revert a c;exact G.o):=h ⟨k⟩
def aeE(h:aP P Q:=by
 intro G;refine Ko ?_;refine oI ?_;exact G.o):=h ⟨k⟩
def aeF(h:aP P Q:=by
 intro G;refine Ko ?_;refine hy ?_;exact G.o):=h ⟨k⟩
def Nt(h:aP P Q:=by
 intro G;refine ny ?_;intro q;refine wn λaL=>?_;refine b2 ?_;refine cw [] [5,201] [] ?_;refine bE ?_;revert q aL;exact G.o):=h ⟨k⟩
def aeG(h:Q:=by
 refine cB ?_
 first|refine ko (mo rfl rfl rfl rfl) ?_|refine ko (mo rfl rfl d rfl) ?_
 refine bb ?_
 first|refine ko (mo rfl rfl rfl rfl) ?_|refine ko (mo rfl rfl d rfl) ?_
 refine bb ?_;exact aQ ⟨rfl,rfl⟩):=h
def Rh(h:Q:=by
 refine aU (Kt de 0 255 aF) ?_;refine aG ?_;refine cP ?_;refine ov ?_;exact tM):=h
def LV(h:Q:=by
 refine bb ?_;refine wn λV=>?_;refine bQ ?_;exact adb):=h
def My(h:aP P Q:=by
 intro G;refine av Tryz.func390 λH D=>?_;refine cB ?_;refine wn λf=>?_;refine wn λcA=>?_;refine ct ?_;refine cP ?_;revert H D f cA;exact G.o):=h ⟨k⟩
def aeH(h:Q:=by
 rintro _ D ⟨_,⟨rfl,cl,e8,rfl⟩,rfl⟩;refine QZ ?_;refine gg (i+1,cl,f) (q cl e8) ad eb (au)):=h
def Ul(h:aP P Q:=by
 intro G;refine QT ?_;refine aG ?_;refine oZ rfl rfl gl ?_;refine aG ?_;exact G.o):=h ⟨k⟩
def aeI(h:Q:=by
 refine c4 ?_;exact vj):=h
def MJ(h:Q:=by
 refine av Tryz.func202 λH D=>?_;refine c4 ?_;refine aU (tq p br x y 0 0) ?_;refine cP ?_;refine c4 ?_;exact aQ ⟨rfl,rfl⟩):=h
def aeJ(h:aP P Q:=by
 intro G;refine Q2 ?_;refine ke ?_;exact G.o):=h ⟨k⟩
def aeK(h:aP P Q:=by
 intro G;refine bR ?_;refine cw [] [6,201] [aa V 110 [ptr q 0],aa aL 3 [af slot]] ?_;refine bE ?_;refine go_v rfl .none rfl (lU rfl rfl g0) ?_;refine go_u rfl .none (mo rfl rfl rfl Zp) (λC=>absurd C bw) ?_;refine bb ?_;exact G.o):=h ⟨k⟩
def aeL(h:Q:=by
 refine ct ?_;refine aB rfl (jR Tryz.underlying169 rfl rfl) ?_;refine aG ?_;refine aU (iA (a1.eq_4 ..) (V,ar) ⟨rfl,rfl⟩ (jN X z.ap z.ae s.ax j S 87 [ptr V 0,ptr ar 0] dr (.fE (yx j)) .ps M a)) ?_;exact QF):=h
def aeM(h:Q:=by
 refine EI ?_;refine aU (iA (a1.eq_12 ..) (V,aL,ay,q) ⟨rfl,rfl,B.ap⟩ (jN X z.ap z.ae s.ax j p 288 [ptr V 0,ptr aL 0,ptr ay 0] t (.post a (Th.E6 (!decide (x.mode=1)))) (.settled a) O U)) ?_;exact pK):=h
def aeN(h:Q:=by
 refine QP ?_;refine aU (iA (a1.eq_18 ..) (b,dm,aM,Z,bV,cA,q,J,M) ⟨rfl,rfl,bt⟩ (jN X z.ap z.ae s.ax j p 387 [ptr b 0,ptr dm 0,ptr aM 0,ptr Z 0,ptr bV 0,ptr cA 0] t (.add 1 1) (.mF a kind slot k) O U)) ?_;exact pK):=h
def aeO(h:Q:=by
 refine ct ?_;refine aB rfl (jR Tryz.underlying392 rfl rfl) ?_;refine aG ?_;refine aU (iA (a1.eq_22 ..) (Z,bV,aL,aM,aR,J,M) ⟨rfl,rfl⟩ (jN X z.ap z.ae s.ax j p 430 [ptr Z 0,ptr bV 0,ptr aL 0,ptr aM 0,ptr aR 0] t (.ht (ml 4 (kM X.C.bl X.C.aT x y))) (.nq x y k) O U)) ?_;exact pK):=h
def aeP(h:Q:=by
 refine EI ?_;refine aU (iA (a1.eq_16 ..) (Z,aM,aL,ay,bV,aR,J,M) ⟨rfl,rfl⟩ (jN X z.ap z.ae s.ax j p 210 [ptr Z 0,ptr aM 0,ptr aL 0,ptr ay 0,ptr bV 0,ptr aR 0] t (.post l.to.toNat (Th.K7 id)) (.told id l.to k) O U)) ?_;exact pK):=h
def aeQ(h:Q:=by
 refine ct ?_;refine aB rfl (jR Tryz.underlying248 rfl rfl) ?_;refine aG ?_;refine aU (iA (a1.eq_19 ..) (b,dm,bV,aM,Z,cA,q,J,M) ⟨rfl,rfl,bt⟩ (jN X z.ap z.ae s.ax j p 389 [ptr b 0,ptr dm 0,ptr bV 0,ptr aM 0,ptr Z 0,ptr cA 0] t (.ey (q4 id e.vn)) (.asked id a e k) O U)) ?_;exact pK):=h
def Ku(h:aP P Q:=by
 intro G;refine QV ?_;refine nC ?_;exact G.o):=h ⟨k⟩
def aeR(h:aP P Q:=by
 intro G;refine eM ?_;refine aep ?_;exact G.o):=h ⟨k⟩
def aeS(h:Q:=by
 refine EI ?_;refine aU (iA (a1.eq_21 ..) (aR,ay,V,aL,ar,q,J,M) ⟨rfl,rfl,bt⟩ (jN X z.ap z.ae s.ax j p 394 [ptr aR 0,ptr ay 0,ptr V 0,ptr aL 0,ptr ar 0] t (.post who Th.xv) (.gone a who k) O U)) ?_;exact QF):=h
def Kv(h:Q:=by
 refine bR ?_;exact vj):=h
def EN(h:aP P Q:=by
 intro G;refine zo ?_;refine aB rfl (yF rfl rfl) ?_;refine zu ?_;exact G.o):=h ⟨k⟩
def C4(h:Q:=by
 refine bb ?_;refine wn λV=>?_;refine cB ?_;exact adb):=h
def NJ(h:Q:=by
 refine acW ?_;refine EJ ?_;refine gg (k+1) (show k+1<=_ by omega) ad eb (au)):=h
def aeT(h:Q:=by
 refine EI ?_;refine aU (iA (a1.eq_17 ..) (aL,Z,aR,bV,J,M) ⟨rfl,rfl⟩ (jN X z.ap z.ae s.ax j p 356 [ptr aL 0,ptr Z 0,ptr aR 0,ptr bV 0] t (.post a (Th.xB s.notes.length)) (.lJ a k) O U)) ?_;refine bb ?_;exact aQ (I:=(cp X {z with na:=a22,dT:=b} {s with notes:=s.notes++[n]}::dX a22 b (s.notes++[n])::aaw)) ⟨rfl,a22,b,rfl⟩ ZE):=h
def aeU(h:Q:=by
 refine EI ?_;refine aU (iA (a1.eq_31 ..) (V,aL,ay) ⟨rfl,rfl⟩ (jN X z.ap z.ae s.ax j p 166 [ptr V 0,ptr aL 0,ptr ay 0] t (.post a (Th.E5 s.notes.length)) (.oU a) O U)) ?_;refine bb ?_;exact aQ (I:=(cp X {z with na:=d,dT:=f} {s with notes:=s.notes++y3}::dX d f (s.notes++y3)::aax)) ⟨rfl,d,f,rfl⟩ ZE):=h
def aeV(h:Q:=by
 refine b2 ?_;refine iu [15,16,17] [16] Pq [cW p x y 0 0 X.br,aa b7 246 [ptr p 0],aa d8 36 zi,eF X B] ?_;refine eY ?_;refine fm ?_ ?_
 . exact ar3
 . exact ar4):=h
def aeW(h:aP P Q:=by
 intro G;refine adD ?_;refine adD ?_;exact G.o):=h ⟨k⟩
def aeX(h:Q:=by
 refine av Tryz.func52 λH D=>?_;refine cB ?_;refine EK ?_;exact aQ ⟨rfl,rfl⟩):=h
def aeY(h:aP P Q:=by
 intro G;refine Re ?_;refine ke ?_;exact G.o):=h ⟨k⟩
def aqc(h:aP P Q:=by
 intro G;refine q8 ?_;refine aeJ ?_;exact G.o):=h ⟨k⟩
def aeZ(h:aP P Q:=by
 intro G;refine zq ?_;refine aea ?_;exact G.o):=h ⟨k⟩
def ae0(h:aP P Q:=by
 intro G;refine BO ?_;refine cP ?_;refine bQ ?_;refine aU (Po.aht (X.br b) (X.C.box b) p Y) ?_;refine aG ?_;refine cP ?_;exact G.o):=h ⟨k⟩
def TT(h:aP P Q:=by
 intro G;refine ct ?_;refine cP ?_;refine dh ?_;refine aB rfl (gf rfl rfl B) ?_;refine aG ?_;refine aB rfl (gF rfl (rK gB 2 qV l rfl)) ?_;refine aG ?_;exact G.o):=h ⟨k⟩
def XL(h:aP P Q:=by
 intro G;refine adL ?_;refine bb ?_;refine tl (by simp[cm,gN];omega) ?_;refine bj ?_;exact G.o):=h ⟨k⟩
def ae1(h:aP P Q:=by
 intro G;refine cn rfl (b9 rfl (Kw de 0 255 ad) bN) ?_;refine gU ?_;refine rL ?_;refine cP ?_;refine c4 ?_;refine cP ?_;exact G.o):=h ⟨k⟩
def ae2(h:Q:=by
 refine aB rfl (fS (c:=true) yC (mh rfl rfl)) ?_;exact aev):=h
def YF(h:Q:=by
 refine YC ?_;refine jq (.inl rfl) rfl rfl _ (⟨rfl,rfl⟩) (au)):=h
def ae3(h:aP P Q:=by
 intro G;refine ke ?_;refine zn ?_;refine zn ?_;refine zn ?_;refine zn ?_;refine zn ?_;refine jn rfl (tN) ?_;exact G.o):=h ⟨k⟩
def Ri(h:aP P Q:=by
 intro G;refine av Tryz.func26 λH D=>?_;refine bb ?_;refine wn λay=>?_;refine fB ?_;refine cP ?_;refine nC ?_;revert H D ay;exact G.o):=h ⟨k⟩
def ae4(h:aP P Q:=by
 intro G;refine zq ?_;refine ke ?_;refine QR ?_;refine aB rfl (lU rfl rfl ad) ?_;exact G.o):=h ⟨k⟩
def Xm(h:aP P Q:=by
 intro G;refine bb ?_;refine aop eP ?_;refine cw [] [3,201] [aa bq 169 [ptr p 0],aa b7 243 [.slice a (l.length+1) c]] ?_;refine bb ?_;refine go_v rfl .none rfl (DT rfl rfl (show 1<=l.length+1 by omega)) ?_;refine aU (Xi X B p x y K _ _ l cg.tail) ?_;refine b2 ?_;exact G.o):=h ⟨k⟩
def ae5(h:aP P Q:=by
 intro G;refine hz ?_;refine aeE ?_;exact G.o):=h ⟨k⟩
def Rj(h:aP P Q:=by
 intro G;refine aeF ?_;refine jg ?_;exact G.o):=h ⟨k⟩
def Rk(h:aP P Q:=by
 intro G;refine Kd ?_;refine J4 ?_;exact G.o):=h ⟨k⟩
def ae6(h:Q:=by
 refine aG ?_;refine wn λc=>?_;exact Q9):=h
def ae7(h:Q:=by
 refine aG ?_;refine wn λd=>?_;exact Q9):=h
def ae8(h:Q:=by
 refine aG ?_;refine wn λc=>?_;exact Ra):=h
def ae9(h:Q:=by
 refine aG ?_;refine wn λd=>?_;exact Ra):=h
def ap9(h:aP P Q:=by
 intro G;refine hy ?_;refine QX ?_;refine aq7 ?_;exact G.o):=h ⟨k⟩
def Nh(h:Q:=by
 refine dh ?_;refine bu (an2 q m b n x y aO aA ah ag) ?_;refine lS ?_;intro p;refine gq ?_;refine aG ?_;exact aQ ⟨p,rfl,rfl⟩):=h
def W6(h:aP P Q:=by
 intro G;refine bR ?_;refine cw [] [6,201] [aa V 169 [ptr p 0],aa aL 241 [ptr q 0]] ?_;refine bR ?_;refine go_v rfl .none rfl (jR Tryz.underlying241 rfl rfl) ?_;refine aG ?_;refine aU (uH p 241 480 (gK X) (ptr q 0) _ _ _ rfl 0 0 (iI q X.hc B.ek (kr false v)) (M4 q X.hc B.ek (kr false v))) ?_;refine b2 ?_;exact G.o):=h ⟨k⟩
def Rl(h:aP P Q:=by
 intro G;rintro _ _ ⟨z,rfl,rfl⟩;refine eM ?_;refine aec ?_;revert z;exact G.o):=h ⟨k⟩
def afa(h:aP P Q:=by
 intro G;refine aeR ?_;refine ct ?_;exact G.o):=h ⟨k⟩
def afb(h:aP P Q:=by
 intro G;have I:bo=1000000000000:=rfl;obtain⟨ak,c,aj⟩:=id h.bp;have O:j<s.ax.length:=(dp.1 cQ).1;obtain⟨Z,hk,U⟩:=(aj j t cQ).on o k B;have z:=ar5 hk;have H:=mw 0 hk;have E:j<C.bc->Kx C j s.L o:=λR=>by
  exact arc
 revert I ak c aj O Z hk U z H E;exact G.o):=h ⟨k⟩
def afc(h:Q:=by
 refine aG ?_;refine wn λp=>?_;exact Rb):=h
def afd(h:Q:=by
 refine aG ?_;refine wn λr=>?_;exact Rb):=h
def afe(h:Q:=by
 refine cP ?_;refine ct ?_;exact Ks):=h
def aff(h:aP P Q:=by
 intro G;refine oN ?_;refine Ko ?_;exact G.o):=h ⟨k⟩
def afg(h:Q:=by
 refine Qs ?_;refine bj ?_;exact aeq):=h
def afh(h:aP P Q:=by
 intro G;refine bQ ?_;refine jJ rfl .none rfl (kl ((a -1:Nat):Int) ff rfl rfl) (au) ?_;refine jJ rfl .none rfl (gf rfl rfl (show a -1<X.C.aT by omega)) (au) ?_;refine jJ rfl .none rfl (gF rfl (Ky aX)) (au) ?_;refine bQ ?_;refine jJ rfl .none rfl (kl ((s.notes.length:Nat):Int) ff rfl rfl) (au) ?_;refine jJ rfl .none rfl (pD ((s.notes.length:Nat):Int) (by exact tk (by omega)) rfl) (au) ?_;exact G.o):=h ⟨k⟩
def afi(h:Q:=by
 have pf:=h.num.pf;have mx:=h.num.mx;refine⟨?_,?_,?_,?_,?_⟩
 . exact aqQ
 . exact aq0
 . exact aq4
 . show _<=(acc C s o).1.L.getD 1 0;rw[aC];exact h.num.mv
 . show(acc C s o).1.L.getD 1 0<=_;rw[aC];omega):=h
def H3(h:aP P Q:=by
 intro G;refine aeE ?_;refine yr ?_;exact G.o):=h ⟨k⟩
def Vj(h:Q:=by
 refine Gw ?_;have aW:=(s.imp λ_ h=>h.drop.drop).drew.new (.cells ((([]:List Value)++[af y]).toArray++Builtin.zeroCells (Value.int .i64 0).cells (grownCap w (0+1) 0 3 -(0+1))) 3 (0,0));refine fin (rest:=(Builtin.zeroCells (Value.int .i64 0).cells (grownCap w (0+1) 0 3 -(0+1))).toList) (by rw[apt];rfl) (grownCap_ge _ _ _ _) (grownCap_le_maxLen _ _ _ _ bw) (aW.imp λ_=>Sat.head λh co=>?_);have Lg:h w.heap.size=some _:=co;show h w.heap.size=_;rw[Lg];congr 2;apply Array.ext';simp):=h
def afj(h:Q:=by
 refine v8 (by show some (Value.bool (decide ((Th.hj o.ref x.id (max l.cf 0) x.parent ku)=0)||decide ((Th.hj o.ref x.id (max l.cf 0) x.parent ku)=x.id)))=some (Value.bool true);rw[show(decide ((Th.hj o.ref x.id (max l.cf 0) x.parent [er,s1,cb,ce])=0)||decide ((Th.hj o.ref x.id (max l.cf 0) x.parent [er,s1,cb,ce])=x.id))=true from by simpa using R]) ?_;refine b2 ?_;exact aeq):=h
def Kz(h:aP P Q:=by
 intro G;refine ac4 ?_;refine gq ?_;refine bb ?_;refine adw ?_;exact G.o):=h ⟨k⟩
def CV(h:Q:=by
 rintro _ D ⟨_,⟨rfl,bf⟩,rfl⟩;refine fC ?_;obtain rfl:=bf.symm;refine bb ?_;refine ch (λM=>?_) (λM=>?_)
 . exact aq8
 . exact arL):=h
def BU(h:Q:=by
 rintro _ D ⟨_,⟨rfl,bf⟩,rfl⟩;refine fC ?_;obtain rfl:=bf.symm;refine bb ?_;refine ch (λM=>?_) (λM=>?_)
 . exact aq6
 . exact arQ):=h
def afk(h:aP P Q:=by
 intro G;refine wn λcA=>?_;refine aG ?_;refine bu (KA X 0 1) ?_;refine lS ?_;intro p;refine QP ?_;revert cA p;exact G.o):=h ⟨k⟩
def afl(h:aP P Q:=by
 intro G;refine bu (KA X 0 1) ?_;refine oi ?_;intro p;refine wn λcA=>?_;refine ct ?_;refine aB rfl (jR Tryz.underlying314 rfl rfl) ?_;refine aG ?_;revert p cA;exact G.o):=h ⟨k⟩
def afm(h:aP P Q:=by
 intro G;refine Kn ?_;intro ay aL aR;refine JR ?_;refine ct ?_;refine cP ?_;revert ay aL aR;exact G.o):=h ⟨k⟩
def afn(h:aP P Q:=by
 intro G;refine ny ?_;intro q;refine wn λaM=>?_;refine aed ?_;revert q aM;exact G.o):=h ⟨k⟩
def Un(h:aP P Q:=by
 intro G;refine dh ?_;refine L6 ?_;intro a c;refine bj ?_;refine aB rfl (gF rfl (CP (d:=0) ak)) ?_;revert a c;exact G.o):=h ⟨k⟩
def afo(h:Q:=by
 rintro _ _ ⟨b,rfl,rfl⟩;refine adK ?_;refine nI ?_;refine bQ ?_;exact aQ ⟨rfl,rfl⟩):=h
def ar6(h:aP P Q:=by
 intro G;refine ie ?_;refine Q2 ?_;refine J1 ?_;exact G.o):=h ⟨k⟩
def afp(h:aP P Q:=by
 intro G;refine ae4 ?_;refine aB rfl (lU rfl rfl c) ?_;exact G.o):=h ⟨k⟩
def afq(h:Q:=by
 refine Q3 ?_;refine aU (QO bV z X.br X.m B.b _ _ _ rfl 0 0) ?_;refine c4 ?_;exact aQ (I:=[h6 X B bV .gone,eF X B]) ⟨bV,rfl,rfl⟩ (cE (z,aL,ay) trivial (au))):=h
def afr(h:aP P Q:=by
 intro G;refine qy ?_;refine qy ?_;refine ac1 ?_;refine qy ?_;refine zu ?_;exact G.o):=h ⟨k⟩
def afs(h:Q:=by
 refine Q3 ?_;refine aU (J5 cA z X.br X.m (B.b+1) 0 1 _ _ _ rfl 0 0) ?_;refine c4 ?_;exact aQ (I:=[h6 X B cA (.ask v),eF X B]) ⟨cA,rfl,rfl⟩ (cE (z,aM,aR,V,ay) trivial (au))):=h
def Rm(h:aP P Q:=by
 intro G;refine Rj ?_;refine ke ?_;exact G.o):=h ⟨k⟩
def aft(h:Q:=by
 refine Q3 ?_;refine aU (J5 p a X.br X.m B.b s 1 x y _ rfl 0 0) ?_;refine dh ?_;exact aQ (I:=[fa X B p ⟨.swp U s,0,0⟩,eF X B]) ⟨rfl,by rw[he];rfl⟩ (qp (cE (a,aR,az,g8,N) trivial (au)))):=h
def afu(h:Q:=by
 refine H3 ?_;refine jq (.inl rfl) rfl rfl JE (⟨by rw[afv (w:=w) (id:=id) (d:=d) ad],rfl⟩) (by rw[Rn (by rw[afv (w:=w) (id:=id) (d:=d) (by omega)];decide)];exact(au))):=h
def Ro(h:Q:=by
 refine Kp ?_;refine eY ?_;refine bb ?_;exact tM):=h
def afw(h:aP P Q:=by
 intro G;refine av Tryz.func295 λH D=>?_;have cy:=B.cy;refine c4 ?_;refine cw [] [11,201] [aa ar 110 [ptr q 0],aa V 32 [ptr X.h 0],aa ay 36 [bx id],aa q 118 ((dS X x e).set (0+7) (S b))] ?_;refine c4 ?_;refine bu (l3 X z s ({Th.cz with kind:=4,dc:=x.id,id:=id,name:=b}:bG) c2) ?_;refine l1 ?_;intro aD aI;revert H D cy aD aI;exact G.o):=h ⟨k⟩
def Xa(h:Q:=by
 refine bE ?_;refine cw [] [6,201] [aa bV 169 [ptr b 0],aa Z 238 [ptr q 0]] ?_;refine bR ?_;refine go_v rfl .none rfl (jR Tryz.underlying238 rfl rfl) ?_;refine aG ?_;refine aU (uH b 238 477 (gK X) (ptr q 0) _ _ _ rfl 0 0 (gD q (X.hL w) (mj 0 v)) (Ds q (X.hL w) (mj 0 v))) ?_;refine c4 ?_;exact aQ (I:=(jt X B b (.push w (mj 0 v) v)::jB)) ⟨_,rfl,rfl⟩ (cE (q,Z,bV,aR) trivial (au))):=h
def KB(h:aP P Q:=by
 intro G;refine Q0 ?_;refine Bg ?_;exact G.o):=h ⟨k⟩
def VA(h:Q:=by
 refine bE ?_;refine cw [] [6,201] [aa ay 248 [ptr bV 0],aa aL 314 [ptr z 0]] ?_;refine bR ?_;refine go_v rfl .none rfl (jR Tryz.underlying314 rfl rfl) ?_;refine aG ?_;refine aU (QO bV z (kL X jK jK jK) X.m B.b _ _ _ rfl 0 0) ?_;refine c4 ?_;exact aQ (I:=[hT X B bV o2,fv X B]) ⟨bV,rfl,rfl⟩ (yd rfl (cE (z,ay,aL,0,none,0,none,0) trivial (λh s=>Sat.tail (λh s=>Sat.tail (λh s=>Sat.tail (λh s=>Sat.tail (λh s=>GB h s) s) s) s) ((au) h s))))):=h
def Ns(h:aP P Q:=by
 intro G;refine av Tryz.func136 λH D=>?_;refine nw ?_;intro V ay;refine ct ?_;refine aB rfl (fS (c:=false) (by exact mJ (by show¬((l.length+1:Nat):Int)=0;omega)) (mY rfl rfl)) ?_;refine bQ ?_;refine aB rfl (gf rfl rfl (show 0<l.length+1 by omega)) ?_;revert H D V ay;exact G.o):=h ⟨k⟩
def zx(h:Q:=by
 refine bR ?_;refine wn λaR=>?_;refine aG ?_;refine jn rfl (MH rfl rfl eP rfl ah h1 ad AB) ?_;exact VO):=h
def afx(h:aP P Q:=by
 intro G;refine eY ?_;refine b2 ?_;refine cP ?_;refine fB ?_;refine cP ?_;refine dB ?_;refine cP ?_;refine eY ?_;refine b2 ?_;exact G.o):=h ⟨k⟩
def Vr(h:aP P Q:=by
 intro G;refine av Tryz.func252 λH D=>?_;refine bR ?_;refine cP ?_;refine gq ?_;refine cP ?_;refine eY ?_;refine b2 ?_;refine aU (ar7 X.wp w id R.ok) ?_;refine bR ?_;revert H D;exact G.o):=h ⟨k⟩
def ar8(h:aP P Q:=by
 intro G;refine aeF ?_;refine xa ?_;exact G.o):=h ⟨k⟩
def afy(h:aP P Q:=by
 intro G;refine gh ?_;refine Rm ?_;exact G.o):=h ⟨k⟩
def ar9(h:aP P Q:=by
 intro G;refine gU ?_;refine fC ?_;refine aff ?_;exact G.o):=h ⟨k⟩
def Um(h:aP P Q:=by
 intro G;refine Ul ?_;refine adg ?_;exact G.o):=h ⟨k⟩
def afz(h:aP P Q:=by
 intro G;refine av Tryz.func474 λH D=>?_;refine cB ?_;refine aU (tq p br _ _ 0 0) ?_;refine cP ?_;refine dh ?_;refine cn rfl (wE rfl rfl (i) bN) ?_;refine gU ?_;refine pC ?_;revert H D;exact G.o):=h ⟨k⟩
def afA(h:aP P Q:=by
 intro G;refine bb ?_;refine wn λaR=>?_;refine wn λaM=>?_;refine wn λbV=>?_;refine bQ ?_;refine wn λZ=>?_;refine bR ?_;refine iu [8,9,10] [9] wa [aa Z 32 [ptr X.h 0],cp X z s] ?_;refine bQ ?_;revert aR aM bV Z;exact G.o):=h ⟨k⟩
def afB(h:Q:=by
 refine EH ?_;intro aD aI;haveI:=(aY aD aI).iY;refine bE ?_;exact aef):=h
def afC(h:aP P Q:=by
 intro G;refine adU ?_;refine aB rfl (ql rfl) ?_;refine Bg ?_;exact G.o):=h ⟨k⟩
def afD(h:aP P Q:=by
 intro G;refine av Tryz.func28 λH D=>?_;refine nw ?_;intro V ay;refine bQ ?_;refine cn rfl (b9 rfl ((by have bi:=afE c;rw[h]at bi;exact bi)) bN) ?_;refine gU ?_;refine pC ?_;revert H D V ay;exact G.o):=h ⟨k⟩
def Rp(h:aP P Q:=by
 intro G;refine vi ?_;intro aL aR aM bV;refine c4 ?_;refine cP ?_;refine nC ?_;revert aL aR aM bV;exact G.o):=h ⟨k⟩
def afF(h:aP P Q:=by
 intro G;have cy:x.id=a:=B.cy;refine cB ?_;refine cw [] [10,201] (aa q 118 ((dS X x e).set (0+13) (af 2))::qo) ?_;refine dh ?_;refine bu (l3 X z s (Pn:bG) c2) ?_;refine l1 ?_;intro aD aI;refine dh ?_;refine cP ?_;revert cy aD aI;exact G.o):=h ⟨k⟩
def afG(h:aP P Q:=by
 intro G;refine afw ?_;intro H D cy aD aI;refine c4 ?_;revert H D cy aD aI;exact G.o):=h ⟨k⟩
def Rq(h:aP P Q:=by
 intro G;rintro _ _ ⟨z,rfl,rfl⟩;refine eM ?_;refine aG ?_;refine wn λaL=>?_;refine aec ?_;revert z aL;exact G.o):=h ⟨k⟩
def Rr(h:Q:=by
 refine aU (By X z s (X.C.bc+i) t o k O U) ?_;refine bR ?_;refine nI ?_;refine bb ?_;exact EL):=h
def afH(h:aP P Q:=by
 intro G;refine aq5 ?_;refine ae5 ?_;exact G.o):=h ⟨k⟩
def Ol(h:aP P Q:=by
 intro G;refine vh ?_;intro H D;refine Rj ?_;revert H D;exact G.o):=h ⟨k⟩
def Rs(h:Q:=by
 refine aG ?_;refine xb ?_;intro j;exact Q9):=h
def Rt(h:Q:=by
 refine aG ?_;refine xb ?_;intro j;exact Ra):=h
def afI(h:aP P Q:=by
 intro G;refine iu [18,23,24,25,35,36] [18,23,24,25,35] [1,5,9,13,17,21,25,29,33,37,41,45,49,53,57,61,65,69,77,81,85,89,105,109,113,117,121,125,129,133,74,94,98,102,136,142,146,3,3,3,3,102,98,136,142,146,3,3,3,3,3,98,94,102,136,142,146,3,3,3,3,102,94,136,142,146,3,3,3,3,3,102,94,98,136,142,146,3,3,3,3,98,94,136,142,146,3,3,3,3,3,3,98,74,94,102,136,142,146,3,3,3,3,102,94,136,142,146,3,3,3,3,3,102,74,94,136,142,146,3,3,3,3,3,3,102,74,94,98,136,142,146,3,3,3,3,98,94,136,142,146,3,3,3,3,3,98,74,94,136,142,146] [cp X z s,aa Z 78 (eH bI),gb bI,ef X] ?_;refine dh ?_;refine jJ rfl .none rfl (gf rfl rfl (show 0<bI.states.length by omega)) (au) ?_;refine aG ?_;refine jJ rfl .none rfl (gF rfl (rK gB 2 qV i rfl)) (au) ?_;refine gd ?_;refine jJ rfl .none rfl (kl ((id -1:Nat):Int) ff rfl rfl) (au) ?_;refine jJ rfl .none rfl (gf rfl rfl (show id -1<X.C.aT by omega)) (au) ?_;refine jJ rfl .none rfl (gF rfl (Ky l)) (au) ?_;exact G.o):=h ⟨k⟩
def zy(h:aP P Q:=by
 intro G;refine vi ?_;intro aL aR aM bV;refine b2 ?_;refine iu [13,14,15,16] [13,14,15] [1,5,9,13,17,21,25,29,33,37,41,45,49,54,58,62,66,3,3,3,3,58,54,62,66] [aa aL 106 [ptr (X.bp j) 0],aa aM 36 [bx id],cp X z s,bs X.dL .u64 (bD z.ae),ao (eB z.ae s.lets),ao (cK X z.ap z.ae s.ax)] ?_;refine dB ?_;refine jJ rfl .none rfl (lT (ptr m 0) Y9 rfl rfl) (au) ?_;revert aL aR aM bV;exact G.o):=h ⟨k⟩
def afJ(h:aP P Q:=by
 intro G;refine bb ?_;refine wn λaR=>?_;refine wn λaM=>?_;refine wn λZ=>?_;refine wn λcA=>?_;refine bQ ?_;refine wn λdm=>?_;refine cB ?_;refine aB rfl (s9 (max l.cf 0) ad rfl rfl) ?_;refine bR ?_;revert aR aM Z cA dm;exact G.o):=h ⟨k⟩
def afK(h:aP P Q:=by
 intro G;refine av Tryz.func338 λH D=>?_;refine Kn ?_;intro ay aL aR;refine og ?_;refine bE ?_;refine aB rfl (gf (j:=0) rfl rfl bw) ?_;refine aG ?_;revert H D ay aL aR;exact G.o):=h ⟨k⟩
def afL(h:aP P Q:=by
 intro G;refine gh ?_;refine bj ?_;refine aU (Ck.VB X.db X.C.df p az hp) ?_;refine cP ?_;refine bE ?_;refine cw [] [5,201,1] [aa ar 32 [ptr X.h 0],aa V 36 [bx id],cp X z s] ?_;refine bE ?_;refine aU (Lg.Oj X.ld s.a8 id) ?_;refine aG ?_;refine cP ?_;exact G.o):=h ⟨k⟩
def afM(h:aP P Q:=by
 intro G;refine zo ?_;refine jn rfl (Bf rfl) ?_;rintro _ _ ⟨Z,rfl,rfl⟩;refine qy ?_;refine arW ?_;revert Z;exact G.o):=h ⟨k⟩
def Ys(h:aP P Q:=by
 intro G;refine Ol ?_;intro H D;refine ke ?_;revert H D;exact G.o):=h ⟨k⟩
def afN(h:Q:=by
 refine dh ?_;refine aB rfl (fS (c:=true) (by rw[d];rfl) (ql rfl)) ?_;refine c4 ?_;rw[show(qx X z s).set (0+26) (.bool true)=qx X z {s with shut:=true}from rfl];refine bR ?_;exact EL):=h
def afO(h:aP P Q:=by
 intro G;refine av Tryz.func7 λH D=>?_;refine bb ?_;refine wn λar=>?_;refine bj ?_;refine aU (afP) ?_;refine b2 ?_;refine zp ?_;refine h0 [1,3] [1] abZ [aa ar 57 (Bc c bZ pc K ea cZ es r)] mixed hM ?_;refine bb ?_;revert H D ar;exact G.o):=h ⟨k⟩
def afQ(h:Q:=by
 refine adO ?_;exact aeG):=h
def arE(h:Q:=by
 refine wn λc=>?_;exact Rs):=h
def arD(h:Q:=by
 refine xb ?_;intro j;exact ae6):=h
def arG(h:Q:=by
 refine wn λd=>?_;exact Rs):=h
def arF(h:Q:=by
 refine xb ?_;intro j;exact ae7):=h
def arI(h:Q:=by
 refine wn λc=>?_;exact Rt):=h
def arH(h:Q:=by
 refine xb ?_;intro j;exact ae8):=h
def arK(h:Q:=by
 refine wn λd=>?_;exact Rt):=h
def arJ(h:Q:=by
 refine xb ?_;intro j;exact ae9):=h
def afR(h:aP P Q:=by
 intro G;refine cw [14,15] [113,1,203] [aa V 36 [bx id],aa ay 110 [ptr q 0],aa aL 87 (fM e),aa q 118 (dS X n aV),ii aV.iC (hD aV.es)] ?_;refine dB ?_;refine go_vs rfl .none rfl (Ug (ul ea cZ (Th.gE n.timers e.name)) r rfl rfl) (au) ?_;refine aG ?_;refine wn λu=>?_;refine aG ?_;refine gj λi o=>?_;refine aG ?_;refine go_u rfl .none (aqF rfl rfl rfl) (λC=>absurd C bw) ?_;refine bR ?_;revert u i o;exact G.o):=h ⟨k⟩
def TP(h:aP P Q:=by
 intro G;refine vi ?_;intro aL aR aM bV;refine wn λZ=>?_;refine bQ ?_;refine cn rfl (b9 rfl (asa k.states k.sa k.sc 385 [ptr aR 0] [a2,aa aR 9 [S state]] (λx=>decide (x.name=state)) (by have:=hk.ak4;omega) (λh s=>je.get s) (λx _=>x0 (ak7 aR state x))) bN) ?_;refine gU ?_;refine fC ?_;revert aL aR aM bV Z;exact G.o):=h ⟨k⟩
def T3(h:Q:=by
 refine ov ?_;refine aU (ak5 e n aO) ?_;refine eY ?_;refine LW ?_;intro C a70 d;refine gg (i+1,TW,a70,d) (bK.send Y z4 z3 v K ad) (show r.cx.length -(i+1)<r.cx.length -i by omega) eb (by dsimp only;rw[<-TY (e:={e with n:=pv e n,value:=2}) rfl,show(p.cx++[({e with n:=pv e n,value:=2}:fF)]).length=p.cx.length+1 from by simp];exact(au))):=h
def afS(h:Q:=by
 refine h0 [14,17] [14] [(0,.bL),(1,.loc),(2,.loc),(3,.loc),(4,.loc),(5,.loc),(6,.loc),(7,.loc),(8,.loc),(9,.loc),(10,.loc),(11,.loc),(12,.loc),(13,.loc),(16,.bL),(14,.da),(15,.loc),(17,.da)] qo mixed hM ?_;refine eY ?_;refine bu (afT X N j a) ?_;rintro _ _ ⟨S,rfl,rfl⟩;refine eM ?_;refine aG ?_;refine go_v rfl .none rfl (jR Tryz.underlying169 rfl rfl) ?_;refine aU (pg (afU aS) (jN X z.ap z.ae s.ax j S J M t (.fE (wu X.C.bC (Th.sM X.C j) a)) k O U)) ?_;refine bj ?_;exact JT):=h
def afV(h:aP P Q:=by
 intro G;refine av Tryz.func302 λH D=>?_;have d:0<=min (max e.bI.limit 0) 100/\min (max e.bI.limit 0) 100<=100:=ad;have ip:1<=min (max e.bI.within 1) 4095/\min (max e.bI.within 1) 4095<=4095:=ad;refine bb ?_;refine cw [9] [106,3,201,1,201,1] [aa aK 110 [ptr q 0],aa ar 261 (iz m),aa V 248 [ptr p 0],aa q 118 (dS X x e),cM X p (.ey az)] ?_;refine cB ?_;refine aU (Ck.amG X.db X.C.df p az hp) ?_;refine aG ?_;refine go_v rfl .none rfl (pD (Th.qH az.val) (by exact asb Z) rfl) ?_;refine aU (Go.Proofs.YtnnhpnccfnghdaaGreat.L.asv e.iB (min (max e.bI.limit 0) 100) (min (max e.bI.within 1) 4095) m.who (Th.qH az.val) x.given d ip aA) ?_;revert H D d ip;exact G.o):=h ⟨k⟩
def Ru(h:aP P Q:=by
 intro G;have v:x.cH.length<1099511627776:=d7;obtain⟨c,f,p⟩:=id aS;refine bb ?_;refine wn λbV=>?_;refine b2 ?_;refine cw [] [14,201] [aa bV 261 (iz ⟨l,b,reason⟩),cp X z s,aa q 118 (dS X x e),ao (cK X z.ap z.ae s.ax)] ?_;refine gd ?_;refine bu (l3 X z s ({Th.cz with kind:=10,dc:=b,cf:=x.id,why:=d,name:=reason}:bG) c2) ?_;refine l1 ?_;intro aD aI;revert v c f p bV aD aI;exact G.o):=h ⟨k⟩
def Rv(h:Q:=by
 refine aG ?_;refine Kj ?_;intro cF;exact Rb):=h
def KC(h:aP P Q:=by
 intro G;refine adq ?_;refine go_v rfl (.yes rfl rfl rfl) rfl (lT (.bool true) (by rw[ad1,p];rfl) rfl rfl) ?_;refine bR ?_;refine zp ?_;refine adw ?_;exact G.o):=h ⟨k⟩
def afW(h:Q:=by
 refine Kz ?_;exact adH):=h
def afX(h:Q:=by
 refine Kz ?_;refine fm ?_ ?_
 . exact asc
 . exact asd):=h
def afY(h:aP P Q:=by
 intro G;refine Ri ?_;intro H D ay;refine nC ?_;refine c4 ?_;refine cP ?_;revert H D ay;exact G.o):=h ⟨k⟩
def afZ(h:aP P Q:=by
 intro G;refine aeY ?_;refine BQ ?_;exact G.o):=h ⟨k⟩
def af0(h:aP P Q:=by
 intro G;refine afm ?_;intro ay aL aR;refine dh ?_;refine wn λaM=>?_;refine dh ?_;revert ay aL aR aM;exact G.o):=h ⟨k⟩
def af1(h:aP P Q:=by
 intro G;refine ct ?_;refine aB rfl (apj rfl) ?_;refine bE ?_;refine bu (cd) ?_;rintro _ _ ⟨rfl,cl,p,f,c,ba,e8,rfl⟩;refine eM ?_;refine bQ ?_;refine cn rfl (Oc rfl rfl (i cl p e8) bN) ?_;refine x7 ?_;revert cl p f c ba e8;exact G.o):=h ⟨k⟩
def ase(h:aP P Q:=by
 intro G;refine afy ?_;refine J1 ?_;exact G.o):=h ⟨k⟩
def YA(h:aP P Q:=by
 intro G;refine vh ?_;intro H D;refine ar8 ?_;revert H D;exact G.o):=h ⟨k⟩
def YE(h:aP P Q:=by
 intro G;refine Ys ?_;intro H D;refine ke ?_;revert H D;exact G.o):=h ⟨k⟩
def asf(h:Q:=by
 refine wn λZ=>?_;refine aG ?_;refine bu (af2 X (a:=l.to.toNat) b id) ?_;refine lS ?_;intro p;exact aeP):=h
def asg(h:Q:=by
 refine bu (af2 X (a:=l.to.toNat) b id) ?_;refine oi ?_;intro p;refine wn λZ=>?_;exact aeP):=h
def arN(h:Q:=by
 refine Kj ?_;intro cF;exact afc):=h
def arM(h:Q:=by
 refine wn λp=>?_;exact Rv):=h
def arP(h:Q:=by
 refine Kj ?_;intro cF;exact afd):=h
def arO(h:Q:=by
 refine wn λr=>?_;exact Rv):=h
def af3(h:aP P Q:=by
 intro G;refine Rp ?_;intro aL aR aM bV;refine nC ?_;refine c4 ?_;revert aL aR aM bV;exact G.o):=h ⟨k⟩
def af4(h:aP P Q:=by
 intro G;refine eY ?_;refine oZ rfl rfl h9 ?_;refine XK ?_;refine QT ?_;refine aG ?_;refine oZ rfl rfl gl ?_;exact G.o):=h ⟨k⟩
def af5(h:aP P Q:=by
 intro G;refine ase ?_;refine aB rfl (o_load rfl (l:=l2 w.now w.seq z) (v:=af w.now) rfl) ?_;exact G.o):=h ⟨k⟩
def af6(h:aP P Q:=by
 intro G;have aC:jV X j=j:=bg i;refine aex ?_;refine gd ?_;refine go_v rfl (.yes rfl rfl rfl) rfl (fy (((2+j:Nat):Int)) (by rw[aC,jz (by omega)];omega) rfl rfl) ?_;refine go_c rfl (.yes rfl rfl rfl) rfl (b9 rfl (alG X.m s.L z.tt (2+j) ad) bN) ?_;refine gU ?_;refine aG ?_;revert aC;exact G.o):=h ⟨k⟩
def af7(h:Q:=by
 refine cB ?_;refine cP ?_;refine bj ?_;refine iu [9,10,11] [10] I1 [aa aM 32 [ptr X.h 0],aa aL 36 [bx id],aa bV 3 [af l.to],cp X z s,ef X] ?_;refine bE ?_;refine jJ rfl .none rfl (kl ((l.to.toNat -1:Nat):Int) ff rfl rfl) (au) ?_;refine jJ rfl .none rfl (gf rfl rfl (show l.to.toNat -1<X.C.aT by omega)) (au) ?_;refine jJ rfl .none rfl (gF rfl (Ky b)) (au) ?_;refine aG ?_;refine fm ?_ ?_
 . exact asg
 . exact asf):=h
def af8(h:aP P Q:=by
 intro G;refine Rp ?_;intro aL aR aM bV;refine nC ?_;refine nC ?_;revert aL aR aM bV;exact G.o):=h ⟨k⟩
def af9(h:aP P Q:=by
 intro G;refine av Tryz.func210 λH D=>?_;refine Ku ?_;refine bj ?_;refine cw [] [5,201,1] aak ?_;refine bE ?_;refine aU (Lg.Oj X.ld s.a8 id) ?_;refine aG ?_;refine cP ?_;revert H D;exact G.o):=h ⟨k⟩
def aga(h:Q:=by
 refine ae1 ?_;refine gd ?_;refine bu (aeB X z s i J R de fx V aM ay fx de c2) ?_;exact adS):=h
def ar4(h:Q:=by
 refine wn λaL=>?_;refine aG ?_;refine bu (xf X.m B.b (iO false) 1) ?_;refine Rl ?_;intro z;exact adt):=h
def ar3(h:Q:=by
 refine bu (xf X.m B.b (iO false) 1) ?_;refine Rq ?_;intro z aL;exact adt):=h
def agb(h:aP P Q:=by
 intro G;refine c4 ?_;refine zp ?_;refine cw [] [5,201] [aa Z 32 [ptr X.h 0],aa aM 36 [bx id],cp X z s] ?_;refine bE ?_;refine aU (Lg.aqd X.ld s.a8 id aO) ?_;refine bR ?_;refine acD ?_;refine ct ?_;refine bu (l3 X z s ({Th.cz with kind:=3,dc:=x.id,id:=id}:bG) c2) ?_;refine l1 ?_;intro aD aI;refine dB ?_;revert aD aI;exact G.o):=h ⟨k⟩
def agc(h:Q:=by
 refine bR ?_;refine nI ?_;refine bR ?_;refine cn rfl (b9 rfl (tG X z s id 5 m l K bw N.sQ aS c2 aO) bN) ?_;refine EH ?_;intro aD aI;haveI:=(aY aD aI).iY;refine bE ?_;refine cn rfl (oB rfl rfl (gv (I:=[a1 X z.ap z.ae j 0 k J M,aa q 118 (dS X x e),dj e.ka e.kc x.kids,dj e.gQ e.gR x.cH,fJ e.gp X.C.dO x.aside x.front,gL e.iB (min (max e.bI.limit 0) 100) (min (max e.bI.within 1) 4095) x.given,bs e.gj .i64 (x.watched.map λw=>(w,.bool true)),ii e.iC (hD e.es),ao (hV e.es),gb e.bI,ao ((dI X z.ap s.aE).set (a -1) eJ),cp X {z with b4:=aD,b5:=aI} (ki s id l.to 5),di aD aI (ki s id l.to 5).trace,dX z.na z.dT s.notes,bs X.am .i64 (bD z.ap),bs X.dL .u64 (bD z.ae),ao (eB z.ae s.lets),Lg.cY X.ld (du s.a8 id 8),dz X.cF X.C.c6 (s.dead++[(id,l.to,5)]),bz X.m s.L z.tt,eo X,ee X s.bm,dy X.bl X.m X.C.bl X.C.aT,ao (dd X),ef X,eL X,e7 X,eO X,ao (cK X z.ap z.ae s.ax)]) (λD h F=>Sat.tail (λh F=>by have:=jk (X:=X) (z:={z with b4:=aD,b5:=aI}) (s:=(ki s id l.to 5)) (x:=x) (g9:=x) B Y D h F;rw[sw (X:=X) (ap:=z.ap) (q:=q) (s:=(ki s id l.to 5)) B]at this;exact this) F) (aY aD aI).spec) bN) ?_;exact QY):=h
def agd(h:Q:=by
 refine KC ?_;exact adH):=h
def age(h:Q:=by
 refine KC ?_;refine fm ?_ ?_
 . exact ash
 . exact asi):=h
def agf(h:aP P Q:=by
 intro G;refine af8 ?_;intro aL aR aM bV;refine c4 ?_;revert aL aR aM bV;exact G.o):=h ⟨k⟩
def asj(h:aP P Q:=by
 intro G;have hlen:=K.hlen;have aA:=K.aA R;refine gh ?_;have T:=K.flat.length_eq;have aj:=R.len;refine Rj ?_;refine jn rfl (tN) ?_;rintro _ _ ⟨ay,rfl,rfl⟩;revert hlen aA T aj ay;exact G.o):=h ⟨k⟩
def agh(h:Q:=by
 refine aG ?_;refine bu (Lg.H7) ?_;rintro _ _ ⟨ld,rfl,rfl⟩;refine eM ?_;exact Rv):=h
def agi(h:Q:=by
 refine adW ?_;intro g;rw[show(min (max (X.C.dO:Int) 0) 64).toNat=X.C.dO from by have:=N.pJ;omega];exact Rs):=h
def agj(h:Q:=by
 refine adW ?_;intro g;rw[show(min (max (X.C.dO:Int) 0) 64).toNat=X.C.dO from by have:=N.pJ;omega];exact Rt):=h
def agk(h:aP P Q:=by
 intro G;refine c4 ?_;refine EK ?_;refine cP ?_;refine bj ?_;refine cw [] [6,201,1] [aa bV 261 (iz ⟨l,b,reason⟩),aa q 118 (dS X x e),dj e.gQ e.gR x.cH] ?_;refine bj ?_;refine go_c rfl .none rfl (b9 rfl (IY x.cH e.gQ e.gR b (dj e.gQ e.gR x.cH) ad) bN) ?_;refine gU ?_;refine fC ?_;rw[a6];refine aG ?_;refine cP ?_;exact G.o):=h ⟨k⟩
def agl(h:aP P Q:=by
 intro G;have b:x.kids.length<=1099511627776:=hlen;refine vi ?_;intro aL aR aM bV;refine bR ?_;refine cw [] [6,201,15] Ps ?_;refine bj ?_;refine go_c rfl .none rfl (b9 rfl (IY x.kids e.ka e.kc m.who (dj e.ka e.kc x.kids) ad) bN) ?_;refine gU ?_;refine fC ?_;rw[a6];refine aG ?_;refine cP ?_;revert b aL aR aM bV;exact G.o):=h ⟨k⟩
def agm(h:aP P Q:=by
 intro G;refine af4 ?_;refine aU (L5 m L t) ?_;refine QT ?_;exact G.o):=h ⟨k⟩
def agn(h:aP P Q:=by
 intro G;refine agl ?_;intro b aL aR aM bV;refine bE ?_;refine cP ?_;revert b aL aR aM bV;exact G.o):=h ⟨k⟩
def WR(h:aP P Q:=by
 intro G;unfold iI;dsimp only;refine cB ?_;refine aU (WO _ _ _ _ _ _ _ _) ?_;refine bb ?_;refine zp ?_;refine cw [] [32] [] ?_;refine gd ?_;refine go_v rfl .none rfl (fy ((b+2:Nat):Int) ff rfl rfl) ?_;refine c4 ?_;refine go_v rfl .none rfl (tm _ (Wa U.1 a) rfl rfl ad) ?_;refine aG ?_;refine go_v rfl .none rfl (rT ((2*(tt%(n:Int)).toNat:Nat):Int) ff rfl rfl) ?_;refine go_v rfl .none rfl (fy ((ls b n tt:Nat):Int) (by unfold ls;rw[jz (by omega)];omega) rfl rfl) ?_;refine ov ?_;exact G.o):=h ⟨k⟩
def ago(h:Q:=by
 haveI:=gn (X:=X) (ap:=z.ap) (ae:=z.ae) O;haveI:=sy (X:=X) (ap:=z.ap) (ae:=z.ae) O;refine QN ?_;refine bR ?_;refine cw [11] [108,3,201,2,201] [aa aK 169 [ptr p 0],aa ar 106 eE,cM X p (.fE az),cp X z s,bs X.am .i64 (bD z.ap),ao (cK X z.ap z.ae s.ax)] ?_;refine c4 ?_;refine aU (aoJ X.cN X.C.bC p az hp) ?_;refine aG ?_;refine go_v rfl .none rfl (pD az.val yZ rfl) ?_;refine go_v rfl .none rfl (lT (ptr q 0) (by rw[aY];rfl) rfl rfl) ?_;refine bu (h) ?_;exact xc):=h
def agp(h:aP P Q:=by
 intro G;refine afJ ?_;intro aR aM Z cA dm;refine cw [] [15,201,1] ab6 ?_;refine gd ?_;refine go_v rfl .none rfl (L2 Tryz.underlying111 (let⟨i,a,_,c,_⟩:=HQ N7;⟨i,a,c⟩) rfl) ?_;refine aey ?_;revert aR aM Z cA dm;exact G.o):=h ⟨k⟩
def WT(h:aP P Q:=by
 intro G;refine WR ?_;refine Hn ?_;exact G.o):=h ⟨k⟩
def agq(h:Q:=by
 refine aes ?_;refine h0 [] [] [(0,.loc),(1,.loc),(2,.loc),(3,.loc),(4,.loc),(5,.loc),(6,.loc),(7,.loc)] [] mixed hM ?_;refine oh ?_;refine oh ?_;refine ac0 ?_;refine go_v rfl .none rfl (HW ((kw l due:Nat):Int) (KD _ _) rfl rfl ad D4) ?_;refine go_v rfl .none rfl (tm ((kw l due%8:Nat):Int) (Bb _ 8) rfl rfl bw) ?_;refine go_v rfl .none rfl (mq rfl) ?_;refine go_v rfl .none rfl (mq rfl) ?_;refine go_nil ?_;refine hz ?_;refine oI ?_;refine V1 (.inl rfl) rfl rfl rfl _ (⟨⟨l,kw l due%8,rfl,by omega,yK _ bw,asl r aw (by first|exact U|(left;omega))⟩,rfl⟩) (au)):=h
def agr(h:Q:=by
 refine aez ?_;rw[bg f,bg f];refine aG ?_;refine go_v rfl .none rfl (fS (c:=true) r2 (mh rfl rfl)) ?_;refine bj ?_;refine cn rfl (b9 rfl (tG X z s id 1 m l K bw N.sQ aS c2 aO) bN) ?_;refine EH ?_;intro aD aI;haveI:=(aY aD aI).iY;refine bE ?_;refine cn rfl (oB rfl rfl (gv (I:=[a1 X z.ap z.ae j 0 k J M,aa q 118 (dS X x e),dj e.ka e.kc x.kids,dj e.gQ e.gR x.cH,fJ e.gp X.C.dO x.aside x.front,gL e.iB (min (max e.bI.limit 0) 100) (min (max e.bI.within 1) 4095) x.given,bs e.gj .i64 (x.watched.map λw=>(w,.bool true)),ii e.iC (hD e.es),ao (hV e.es),gb e.bI,ao ((dI X z.ap s.aE).set (a -1) eJ),cp X {z with b4:=aD,b5:=aI} (ki s id l.to 1),di aD aI (ki s id l.to 1).trace,dX z.na z.dT s.notes,bs X.am .i64 (bD z.ap),bs X.dL .u64 (bD z.ae),ao (eB z.ae s.lets),Lg.cY X.ld (du s.a8 id 8),dz X.cF X.C.c6 (s.dead++[(id,l.to,1)]),bz X.m s.L z.tt,eo X,ee X s.bm,dy X.bl X.m X.C.bl X.C.aT,ao (dd X),ef X,eL X,e7 X,eO X,ao (cK X z.ap z.ae s.ax)]) (λD h F=>Sat.tail (λh F=>by have:=jk (X:=X) (z:={z with b4:=aD,b5:=aI}) (s:=(ki s id l.to 1)) (x:=x) (g9:=x) B Y D h F;rw[sw (X:=X) (ap:=z.ap) (q:=q) (s:=(ki s id l.to 1)) B]at this;exact this) F) (aY aD aI).spec) bN) ?_;exact QY):=h
def ags(h:Q:=by
 refine agb ?_;intro aD aI;refine og ?_;refine cB ?_;refine cn rfl (b9 rfl (gv (I:=[aa aL 106 [ptr (X.bp j) 0],aa aR 110 [ptr q 0],aa cA 311 [ptr m 0],aa dm 356 (lh bZ pc (⟨false,o,b,r,d⟩:dE)),aa Z 32 [ptr X.h 0],aa aM 36 [bx id],aa bV 1 [bk J M],km bZ pc o,a1 X z.ap z.ae j 0 k J M]++[aa q 118 (dS X x e),dj e.ka e.kc x.kids,dj e.gQ e.gR x.cH,fJ e.gp X.C.dO x.aside x.front,gL e.iB (min (max e.bI.limit 0) 100) (min (max e.bI.within 1) 4095) x.given,bs e.gj .i64 (x.watched.map λw=>(w,.bool true)),ii e.iC (hD e.es),ao (hV e.es),gb e.bI,ao ((dI X z.ap s.aE).set (a -1) eJ),cp X {z with b4:=aD,b5:=aI} {s with a8:=du s.a8 id 7,trace:=s.trace++[({Th.cz with kind:=3,dc:=x.id,id:=id}:bG)]},di aD aI (s.trace++[({Th.cz with kind:=3,dc:=x.id,id:=id}:bG)]),dX z.na z.dT s.notes,bs X.am .i64 (bD z.ap),bs X.dL .u64 (bD z.ae),ao (eB z.ae s.lets),Lg.cY X.ld (du s.a8 id 7),dz X.cF X.C.c6 s.dead,bz X.m s.L z.tt,eo X,ee X s.bm,dy X.bl X.m X.C.bl X.C.aT,ao (dd X),ef X,eL X,e7 X,eO X,ao (cK X z.ap z.ae s.ax)]) (λD h F=>(show∀h,Sat _ h->Sat (([aa aL 106 [ptr (X.bp j) 0],aa aR 110 [ptr q 0],aa cA 311 [ptr m 0],aa dm 356 (lh bZ pc (⟨false,o,b,r,d⟩:dE)),aa Z 32 [ptr X.h 0],aa aM 36 [bx id],aa bV 1 [bk J M],km bZ pc o,a1 X z.ap z.ae j 0 k J M]++bh X {z with b4:=aD,b5:=aI} (Th.c8 {s with a8:=du s.a8 id 7,trace:=s.trace++[({Th.cz with kind:=3,dc:=x.id,id:=id}:bG)]} a x))++D) h from λh F=>by rw[jI];exact KE [aa aL 106 [ptr (X.bp j) 0],aa aR 110 [ptr q 0],aa cA 311 [ptr m 0],aa dm 356 (lh bZ pc (⟨false,o,b,r,d⟩:dE)),aa Z 32 [ptr X.h 0],aa aM 36 [bx id],aa bV 1 [bk J M],km bZ pc o,a1 X z.ap z.ae j 0 k J M] (λh F=>jk (X:=X) (z:={z with b4:=aD,b5:=aI}) (s:={s with a8:=du s.a8 id 7,trace:=s.trace++[({Th.cz with kind:=3,dc:=x.id,id:=id}:bG)]}) (x:=x) (e:=e) B ⟨Y.bI,Y.kj,Y.es⟩ D h F) h F) h F) (h aL aR aM bV Z cA dm bZ pc aD aI)) bN) ?_;exact BS):=h
def agt(h:aP P Q:=by
 intro G;refine afK ?_;intro H D ay aL aR;refine bu (agu (X.r true)) ?_;refine afn ?_;intro q aM;refine aU (AC p q (X.r true) X.br x y _ rfl 0 0 (gi 12 0) rfl) ?_;refine b2 ?_;revert H D ay aL aR q aM;exact G.o):=h ⟨k⟩
def agv(h:aP P Q:=by
 intro G;refine agp ?_;intro aR aM Z cA dm;refine nC ?_;revert aR aM Z cA dm;exact G.o):=h ⟨k⟩
def WU(h:aP P Q:=by
 intro G;refine WT ?_;refine Hn ?_;exact G.o):=h ⟨k⟩
def TR(h:aP P Q:=by
 intro G;refine TP ?_;intro aL aR aM bV Z;rw[d];refine TT ?_;refine cn rfl (b9 rfl (asm s.rows s.ra s.rc 386 [ptr aM 0,ptr bV 0] [a2,aa aM 9 [S tag],aa bV 3 [af n]] (p1 tag n) (by have:=hk.row s b;omega) (λh s=>je.get s) (λx _=>x0 (ak8 aM bV tag n x))) bN) ?_;refine gU ?_;refine fC ?_;revert aL aR aM bV Z;exact G.o):=h ⟨k⟩
def XM(h:aP P Q:=by
 intro G;refine agm ?_;refine aG ?_;refine aei ?_;exact G.o):=h ⟨k⟩
def agw(h:aP P Q:=by
 intro G;refine agv ?_;intro aR aM Z cA dm;refine nC ?_;revert aR aM Z cA dm;exact G.o):=h ⟨k⟩
def WZ(h:aP P Q:=by
 intro G;refine WU ?_;refine Hn ?_;exact G.o):=h ⟨k⟩
def Hv(h:aP P Q:=by
 intro G;refine XM ?_;refine dh ?_;exact G.o):=h ⟨k⟩
def agx(h:aP P Q:=by
 intro G;refine agk ?_;refine b2 ?_;refine cw [7,8] [105,2,202,2,201] [aa bV 261 (iz ⟨l,b,reason⟩),aa q 118 (dS X x e)] ?_;refine ct ?_;refine wn λu=>?_;refine aG ?_;refine gj λi o=>?_;rw[show x.cH.length+1=(x.cH++[(b:Int)]).length from by simp,show iF x.cH++[af b]=iF (x.cH++[(b:Int)])from by simp];refine fB ?_;refine cP ?_;revert u i o;exact G.o):=h ⟨k⟩
def agy(h:aP P Q:=by
 intro G;refine agw ?_;intro aR aM Z cA dm;refine nC ?_;revert aR aM Z cA dm;exact G.o):=h ⟨k⟩
def agz(h:Q:=by
 refine agb ?_;intro aD aI;refine nI ?_;refine cw [] [8,201] [aa aR 110 [ptr q 0],aa cA 311 [ptr m 0],aa q 118 (dS X x e),ao (eB z.ae s.lets)] ?_;refine bQ ?_;refine go_n0 rfl .none (Ox rfl rfl) ?_;rintro _ _ ⟨rfl,rfl⟩;rw[agA];refine dh ?_;refine cn rfl (b9 rfl (gv (I:=[aa aL 106 [ptr (X.bp j) 0],aa aR 110 [ptr q 0],aa cA 311 [ptr m 0],aa dm 356 (lh bZ pc (⟨false,o,b,r,d⟩:dE)),aa Z 32 [ptr X.h 0],aa aM 36 [bx id],aa bV 1 [bk J M],km bZ pc o,a1 X z.ap z.ae j 0 k J M]++[aa q 118 (dS X x e),dj e.ka e.kc x.kids,dj e.gQ e.gR x.cH,fJ e.gp X.C.dO x.aside x.front,gL e.iB (min (max e.bI.limit 0) 100) (min (max e.bI.within 1) 4095) x.given,bs e.gj .i64 ((x.watched.erase l.cf).map λw=>(w,.bool true)),ii e.iC (hD e.es),ao (hV e.es),gb e.bI,ao ((dI X z.ap s.aE).set (a -1) eJ),cp X {z with b4:=aD,b5:=aI} {s with a8:=du s.a8 id 7,trace:=s.trace++[({Th.cz with kind:=3,dc:=x.id,id:=id}:bG)]},di aD aI (s.trace++[({Th.cz with kind:=3,dc:=x.id,id:=id}:bG)]),dX z.na z.dT s.notes,bs X.am .i64 (bD z.ap),bs X.dL .u64 (bD z.ae),ao (eB z.ae s.lets),Lg.cY X.ld (du s.a8 id 7),dz X.cF X.C.c6 s.dead,bz X.m s.L z.tt,eo X,ee X s.bm,dy X.bl X.m X.C.bl X.C.aT,ao (dd X),ef X,eL X,e7 X,eO X,ao (cK X z.ap z.ae s.ax)]) (λD h F=>(show∀h,Sat _ h->Sat (([aa aL 106 [ptr (X.bp j) 0],aa aR 110 [ptr q 0],aa cA 311 [ptr m 0],aa dm 356 (lh bZ pc (⟨false,o,b,r,d⟩:dE)),aa Z 32 [ptr X.h 0],aa aM 36 [bx id],aa bV 1 [bk J M],km bZ pc o,a1 X z.ap z.ae j 0 k J M]++bh X {z with b4:=aD,b5:=aI} (Th.c8 {s with a8:=du s.a8 id 7,trace:=s.trace++[({Th.cz with kind:=3,dc:=x.id,id:=id}:bG)]} a {x with watched:=x.watched.erase l.cf}))++D) h from λh F=>by rw[jI];exact KE [aa aL 106 [ptr (X.bp j) 0],aa aR 110 [ptr q 0],aa cA 311 [ptr m 0],aa dm 356 (lh bZ pc (⟨false,o,b,r,d⟩:dE)),aa Z 32 [ptr X.h 0],aa aM 36 [bx id],aa bV 1 [bk J M],km bZ pc o,a1 X z.ap z.ae j 0 k J M] (λh F=>jk (X:=X) (z:={z with b4:=aD,b5:=aI}) (s:={s with a8:=du s.a8 id 7,trace:=s.trace++[({Th.cz with kind:=3,dc:=x.id,id:=id}:bG)]}) (x:={x with watched:=x.watched.erase l.cf}) (e:=e) B ⟨Y.bI,Y.kj,Y.es⟩ D h F) h F) h F) (h aL aR aM bV Z cA dm bZ pc aD aI)) bN) ?_;exact BS):=h
def asd(h:Q:=by
 refine Kq ?_;intro dm bZ pc;exact ags):=h
def asc(h:Q:=by
 refine Kr ?_;intro bZ pc dm;exact ags):=h
def aru(h:Q:=by
 refine Kq ?_;intro dm bZ pc;exact agr):=h
def art(h:Q:=by
 refine Kr ?_;intro bZ pc dm;exact agr):=h
def WW(h:aP P Q:=by
 intro G;refine WZ ?_;refine uG ?_;refine eY ?_;refine b2 ?_;exact G.o):=h ⟨k⟩
def agB(h:Q:=by
 refine aez ?_;rw[a7 f,a7 f];refine aG ?_;refine go_v rfl .none rfl (fS (c:=false) r2 (mh rfl rfl)) ?_;refine bR ?_;refine cw [] [5,201] [aa Z 32 [ptr X.h 0],aa aM 36 [bx id],cp X z s] ?_;refine bE ?_;refine aU (Lg.Be X.ld s.a8 id 3 aO) ?_;refine b2 ?_;refine acD ?_;refine ct ?_;refine bu (l3 X z s ({Th.cz with kind:=5,dc:=x.id,id:=id}:bG) c2) ?_;refine l1 ?_;intro aD aI;haveI:=(aY aD aI).iY;refine bj ?_;refine bu (gv (I:=[a1 X z.ap z.ae j 0 k J M,aa q 118 (dS X x e),dj e.ka e.kc x.kids,dj e.gQ e.gR x.cH,fJ e.gp X.C.dO (x.aside++[id]) x.front,gL e.iB (min (max e.bI.limit 0) 100) (min (max e.bI.within 1) 4095) x.given,bs e.gj .i64 (x.watched.map λw=>(w,.bool true)),ii e.iC (hD e.es),ao (hV e.es),gb e.bI,ao ((dI X z.ap s.aE).set (a -1) eJ),cp X {z with b4:=aD,b5:=aI} {s with a8:=dH s.a8 id 3,trace:=s.trace++[({Th.cz with kind:=5,dc:=x.id,id:=id}:bG)]},di aD aI (s.trace++[({Th.cz with kind:=5,dc:=x.id,id:=id}:bG)]),dX z.na z.dT s.notes,bs X.am .i64 (bD z.ap),bs X.dL .u64 (bD z.ae),ao (eB z.ae s.lets),Lg.cY X.ld (dH s.a8 id 3),dz X.cF X.C.c6 s.dead,bz X.m s.L z.tt,eo X,ee X s.bm,dy X.bl X.m X.C.bl X.C.aT,ao (dd X),ef X,eL X,e7 X,eO X,ao (cK X z.ap z.ae s.ax)]) (λD h F=>Sat.tail (λh F=>jk (X:=X) (z:={z with b4:=aD,b5:=aI}) (s:={s with a8:=dH s.a8 id 3,trace:=s.trace++[({Th.cz with kind:=5,dc:=x.id,id:=id}:bG)]}) (x:={x with aside:=x.aside++[id]}) (e:=e) B ⟨Y.bI,Y.kj,Y.es⟩ D h F) F) (aY aD aI).spec) ?_;exact zw):=h
def agC(h:aP P Q:=by
 intro G;refine agy ?_;intro aR aM Z cA dm;refine nC ?_;revert aR aM Z cA dm;exact G.o):=h ⟨k⟩
def agD(h:aP P Q:=by
 intro G;refine av Tryz.func53 λH D=>?_;have b:=N.h1;have a:=N.bA;refine nw ?_;intro V ay;refine bE ?_;refine cw [] [8,201,1] [aa V 32 [ptr X.h 0],aa ay 60 Ei,cp X z s] ?_;refine acX ?_;refine go_c rfl .none rfl (b9 rfl (Kw (i:Int) 0 ((X.C.cT -1:Nat):Int) ad) bN) ?_;refine aeg ?_;refine cw [11] [111,201,1,201] [aa V 32 [ptr X.h 0],aa ay 60 Ei,cp X z s,e7 X] ?_;refine bj ?_;refine go_vs rfl .none rfl (gf rfl rfl (show i<X.C.cT by omega)) (au) ?_;refine go_vs rfl .none rfl (gF rfl (agE ak)) (au) ?_;refine bb ?_;refine go_vs rfl .none rfl (kl (-1 -(i:Int)) yZ rfl rfl) (au) ?_;refine wn λaM=>?_;refine bj ?_;refine cw [] [15] [aa V 32 [ptr X.h 0],aa ay 60 Ei,cp X z s,bs X.am .i64 (bD z.ap)] ?_;refine bR ?_;refine cP ?_;revert H D b a V ay aM;exact G.o):=h ⟨k⟩
def agF(h:aP P Q:=by
 intro G;refine agD ?_;intro H D b a V ay aM;refine bj ?_;revert H D b a V ay aM;exact G.o):=h ⟨k⟩
def agG(h:aP P Q:=by
 intro G;refine agD ?_;intro H D b a V ay aM;refine gq ?_;refine bR ?_;refine cP ?_;revert H D b a V ay aM;exact G.o):=h ⟨k⟩
def asi(h:Q:=by
 refine Kq ?_;intro dm bZ pc;exact agz):=h
def ash(h:Q:=by
 refine Kr ?_;intro bZ pc dm;exact agz):=h
def agH(h:aP P Q:=by
 intro G;refine afJ ?_;intro aR aM Z cA dm;refine iu [15] [] [0,4,8,12,16,20,24,28,32,36,40,44,48,52,56,62,64] ab6 ?_;refine gd ?_;refine tg rfl .none rfl (L2 Tryz.underlying111 (let⟨i,a,_,c,_⟩:=HQ N7;⟨i,a,c⟩) rfl) ?_;refine aey ?_;refine bj ?_;refine EK ?_;refine EK ?_;refine cP ?_;refine ct ?_;refine cP ?_;revert aR aM Z cA dm;exact G.o):=h ⟨k⟩
def agI(h:aP P Q:=by
 intro G;refine agG ?_;intro H D b a V ay aM;refine bR ?_;revert H D b a V ay aM;exact G.o):=h ⟨k⟩
def ars(h:Q:=by
 refine Kq ?_;intro dm bZ pc;exact agB):=h
def arr(h:Q:=by
 refine Kr ?_;intro bZ pc dm;exact agB):=h
def agJ(h:aP P Q:=by
 intro G;refine agH ?_;intro aR aM Z cA dm;refine fB ?_;revert aR aM Z cA dm;exact G.o):=h ⟨k⟩
def agK(h:aP P Q:=by
 intro G;refine agF ?_;intro H D b a V ay aM;refine go_v rfl (.yes rfl rfl rfl) rfl (lT (ptr e 0) (by rw[aY];rfl) rfl rfl) ?_;refine eY ?_;refine bb ?_;refine cP ?_;revert H D b a V ay aM;exact G.o):=h ⟨k⟩
def agL(h:aP P Q:=by
 intro G;refine agF ?_;intro H D b a V ay aM;refine go_v rfl (.yes rfl rfl rfl) rfl (lT (.pointer none) (by rw[aY];rfl) rfl rfl) ?_;refine eY ?_;refine bb ?_;refine cP ?_;revert H D b a V ay aM;exact G.o):=h ⟨k⟩
def agM(h:aP P Q:=by
 intro G;refine agG ?_;intro H D b a V ay aM;refine dB ?_;refine cP ?_;refine bR ?_;revert H D b a V ay aM;exact G.o):=h ⟨k⟩
def agN(h:aP P Q:=by
 intro G;refine agK ?_;intro H D b a V ay aM;refine bR ?_;revert H D b a V ay aM;exact G.o):=h ⟨k⟩
def agO(h:aP P Q:=by
 intro G;refine agL ?_;intro H D b a V ay aM;refine bR ?_;revert H D b a V ay aM;exact G.o):=h ⟨k⟩
def agP(h:aP P Q:=by
 intro G;refine agH ?_;intro aR aM Z cA dm;refine bE ?_;refine cP ?_;refine dh ?_;revert aR aM Z cA dm;exact G.o):=h ⟨k⟩
def agQ(h:aP P Q:=by
 intro G;refine agK ?_;intro H D b a V ay aM;refine dB ?_;refine cP ?_;refine bR ?_;revert H D b a V ay aM;exact G.o):=h ⟨k⟩
def agR(h:aP P Q:=by
 intro G;refine agL ?_;intro H D b a V ay aM;refine dB ?_;refine cP ?_;refine bR ?_;revert H D b a V ay aM;exact G.o):=h ⟨k⟩
def agS(h:aP P Q:=by
 intro G;refine agM ?_;intro H D b a V ay aM;refine Kp ?_;revert H D b a V ay aM;exact G.o):=h ⟨k⟩
def agT(h:aP P Q:=by
 intro G;refine agQ ?_;intro H D b a V ay aM;refine Kp ?_;revert H D b a V ay aM;exact G.o):=h ⟨k⟩
def agU(h:aP P Q:=by
 intro G;refine agR ?_;intro H D b a V ay aM;refine Kp ?_;revert H D b a V ay aM;exact G.o):=h ⟨k⟩
def agV(h:aP P Q:=by
 intro G;refine agS ?_;intro H D b a V ay aM;refine bj ?_;refine aU (g) ?_;refine aG ?_;refine cP ?_;revert H D b a V ay aM;exact G.o):=h ⟨k⟩
def agW(h:aP P Q:=by
 intro G;refine agV ?_;intro H D b a V ay aM;refine ct ?_;revert H D b a V ay aM;exact G.o):=h ⟨k⟩
def agX(h:aP P Q:=by
 intro G;refine agS ?_;intro H D b a V ay aM;refine Rc ?_;revert H D b a V ay aM;exact G.o):=h ⟨k⟩
def agY(h:aP P Q:=by
 intro G;refine agT ?_;intro H D b a V ay aM;refine bj ?_;refine aU (g) ?_;refine aG ?_;refine cP ?_;revert H D b a V ay aM;exact G.o):=h ⟨k⟩
def agZ(h:aP P Q:=by
 intro G;refine agU ?_;intro H D b a V ay aM;refine bj ?_;refine aU (g) ?_;refine aG ?_;refine cP ?_;revert H D b a V ay aM;exact G.o):=h ⟨k⟩
def ag0(h:aP P Q:=by
 intro G;refine agY ?_;intro H D b a V ay aM;refine ct ?_;revert H D b a V ay aM;exact G.o):=h ⟨k⟩
def ag1(h:aP P Q:=by
 intro G;refine agZ ?_;intro H D b a V ay aM;refine ct ?_;revert H D b a V ay aM;exact G.o):=h ⟨k⟩
def ag2(h:aP P Q:=by
 intro G;refine agT ?_;intro H D b a V ay aM;refine Rc ?_;revert H D b a V ay aM;exact G.o):=h ⟨k⟩
def ag3(h:aP P Q:=by
 intro G;refine agU ?_;intro H D b a V ay aM;refine Rc ?_;revert H D b a V ay aM;exact G.o):=h ⟨k⟩
def ag4(h:aP P Q:=by
 intro G;refine agX ?_;intro H D b a V ay aM;refine Ka ?_;revert H D b a V ay aM;exact G.o):=h ⟨k⟩
def ag5(h:aP P Q:=by
 intro G;refine ag2 ?_;intro H D b a V ay aM;refine Ka ?_;revert H D b a V ay aM;exact G.o):=h ⟨k⟩
def ag6(h:aP P Q:=by
 intro G;refine ag3 ?_;intro H D b a V ay aM;refine Ka ?_;revert H D b a V ay aM;exact G.o):=h ⟨k⟩
end Go.L
