import Derived.WalkKit
import Derived.KernelRfl
set_option linter.all false
def a8:=@if_neg
def bd:=@if_pos
def cm:=@List.nil_append
def cp:=@List.cons_append
def cz:=@List.getElem?_eq_getElem
def dc:=@List.getElem?_eq_some_iff
def ei:=@Nat.le_refl
def ep:=@if_false
def eL:=@List.length_append
def eP:=@Bool.false_eq_true
def eX:=@Nat.zero_le
def fi:=@if_true
def fs:=@List.getElem?_map
def gn:=@List.length_set
def gu:=@List.map_cons
def gZ:=@Option.bind_eq_some_iff
def ii:=@Bool.and_eq_true
def im:=@Nat.le_succ
def ix:=@List.getD_eq_getElem?_getD
def iE:=@List.length_cons
def jr:=@List.append_nil
def js:=@List.mem_of_getElem?
def jE:=@List.append_assoc
def ku:=@List.mem_cons
def ky:=@List.mem_append
def kM:=@decide_eq_true
def kN:=@decide_eq_true_eq
def kS:=@Bool.true_and
def kT:=@Bool.false_or
def kX:=@Option.map_eq_some_iff
def k1:=@List.getElem?_append_left
def k3:=@Option.bind_some
def k8:=@Bool.true_or
def lp:=@List.length_nil
def lu:=@Nat.zero_add
def lA:=@Nat.eq_of_beq_eq_true
def lH:=@Bool.not_true
def lI:=@Bool.not_false
def lU:=@List.mem_map
def l2:=@Bool.false_and
def mO:=@decide_eq_false
def mT:=@List.map_nil
def nb:=@Nat.le_trans
def nc:=@Nat.add_mul
def nv:=@List.take_succ_eq_append_getElem
def nw:=@List.take_length
def nJ:=@Option.map_some
def n0:=@List.length_take
def n3:=@Nat.add_assoc
def od:=@Option.some.inj
def oK:=@List.getElem?_eq_none
def oM:=@List.mem_filter
def oN:=@List.map_toArray
def oQ:=@List.length_map
def o1:=@List.map_append
def o4:=@Bool.eq_iff_iff
def pG:=@List.flatMap_cons
def pH:=@List.getElem?_append_right
def pV:=@List.mem_range
def pW:=@Nat.mul_le_mul_right
def qd:=@List.all_eq_true
def qq:=@Nat.mul_le_mul
def qw:=@List.length_filter_le
def qK:=@List.getElem?_set_ne
def qM:=@Option.bind_eq_bind
def rb:=@List.mem_of_find?_eq_some
def re:=@List.flatMap_append
def rX:=@List.mem_singleton
def rY:=@List.eq_nil_of_length_eq_zero
def r7:=@Nat.lt_or_ge
def sE:=@decide_eq_false_iff_not
def sO:=@List.getElem?_mapIdx
def ta:=@List.drop_eq_getElem_cons
def tA:=@Bool.or_eq_true
def tE:=@List.map_set
def tS:=@List.filter_congr
def uu:=@Nat.mul_one
def uW:=@List.ext_getElem?
def u4:=@List.getElem?_range
def u5:=@List.length_range
def vj:=@Nat.one_mul
def vn:=@List.getElem_mem
def vs:=@Int.le_refl
def vU:=@List.length_drop
def ww:=@List.zipIdx_cons
def wS:=@Nat.mod_lt
def wU:=@List.map_map
def xh:=@List.getElem?_set_self
def xq:=@Nat.le_of_lt
def xY:=@List.filter_filter
def x9:=@Nat.sub_self
def yc:=@List.size_toArray
def yx:=@Nat.blt_eq
def yL:=@List.set_getElem_self
def yP:=@List.foldl_cons
def yV:=@List.filter_append
def yZ:=@List.take_of_length_le
def y0:=@List.getElem_set_self
def zp:=@Bool.not_eq_true'
def zt:=@List.any_eq_true
def Ai:=@List.not_mem_nil
def BW:=@Int.toNat_natCast
def CM:=@List.mem_flatMap
def CP:=@List.drop_eq_nil_of_le
def CS:=@List.take_append_drop
def De:=@Nat.min_eq_left
def Ds:=@Nat.sub_zero
def Dt:=@Nat.le_of_ble_eq_true
def Du:=@Array.getD_eq_getD_getElem?
def Dz:=@Int.not_lt
def DJ:=@Int.natCast_mul
def DS:=@Bool.and_eq_true_iff
def D2:=@List.zipIdx_nil
def D4:=@List.take_left'
def EU:=@List.any_eq_false
def EV:=@List.mem_map_of_mem
def Fs:=@List.mem_iff_getElem?
def FD:=@Nat.lt_of_succ_lt
def FJ:=@Option.isSome_some
def FK:=@Option.isSome_none
def FP:=@Nat.add_sub_cancel
def F1:=@List.Perm.of_eq
def F3:=@List.filter_sublist
def F4:=@List.getElem_of_mem
def Ge:=@Nat.add_sub_cancel_left
def Gf:=@List.set_append_left
def Gk:=@Option.map_none
def GJ:=@List.drop_drop
def Hf:=@Array.getElem?_eq_none
def HI:=@List.take_append_of_le_length
def HJ:=@Nat.eq_zero_or_pos
def HK:=@Nat.add_zero
def H0:=@List.getElem?_cons_succ
def Ie:=@List.mem_cons_of_mem
def Ij:=@List.length_eraseIdx
def JL:=@List.getElem?_replicate
def KH:=@Nat.not_lt_zero
def KQ:=@List.length_mapIdx
def KS:=@Option.getD_some
def L6:=@List.getElem?_drop
def MB:=@Nat.add_comm
def M3:=@List.getElem?_toArray
def M6:=@Array.getElem?_setIfInBounds
def Nd:=@Int.emod_lt_of_pos
def NW:=@Nat.testBit_or
def Og:=@List.getElem?_set
def O3:=@List.mem_cons_self
def O4:=@List.filter_cons
def Pu:=@List.take_zero
def Pz:=@Int.not_le
def QC:=@List.mem_of_mem_take
def Sl:=@List.find?_eq_none
def Sp:=@Option.isSome_iff_exists
def Sq:=@List.getElem?_take
def SH:=@List.filter_eq_self
def SJ:=@Nat.mul_comm
def SR:=@List.mapIdx_cons
def S8:=@List.sum_cons
def TG:=@Bool.or_eq_false_iff
def UB:=@List.append_eq
def UT:=@List.flatMap_nil
def U3:=@List.set_append_right
def U8:=@List.singleton_append
def U9:=@List.drop_length
def Vd:=@List.length_replicate
def Wl:=@Int.tmod_eq_emod_of_nonneg
def WH:=@List.all_map
def WT:=@Nat.beq_refl
def Yc:=@List.mapIdx_concat
def Ys:=@Array.foldl_toList
def Yt:=@Nat.testBit_two_pow
def YT:=@List.getElem?_cons_zero
def Zq:=@List.eraseIdx_eq_take_drop_succ
def Zt:=@Nat.lt_of_le_of_lt
def ZJ:=@Nat.mod_eq_of_lt
def adC:=@Bool.true_eq_false
def ah4:=@List.map_replicate
def aie:=@Nat.div_add_mod'
def aix:=@List.mem_or_eq_of_mem_set
def aiL:=@List.pairwise_iff_getElem
def ai9:=@Int.le_trans
def ajE:=@List.length_reverse
def ajN:=@List.length_dropLast
def akm:=@List.foldlM_cons
def akz:=@List.find?_cons
def akI:=@List.foldl_append
def akL:=@List.mapIdx_append
def alD:=@List.map_congr_left
def alQ:=@Nat.testBit_and
def amH:=@List.set_eq_take_append_cons_drop
def aoL:=@Array.getElem?_append
def apN:=@List.mem_of_mem_eraseIdx
def aqu:=@List.drop_append_of_le_length
def arn:=@Array.eq_empty_of_size_eq_zero
def arQ:=@Bool.and_eq_false_iff
def ar4:=@List.mapIdx_eq_mapIdx_iff
def atv:=@Array.getElem?_eq_getElem
def auO:=@List.mem_take_iff_getElem
def auP:=@List.findIdx_lt_length
def awO:=@List.filterMap_append
def aw7:=@Nat.add_mul_mod_self_left
def aA7:=@List.not_any_eq_all_not
def aBD:=@List.length_singleton
namespace Go.L
structure ary(P:Prop):Prop where
 o:P
abbrev aR(P Q:Prop):=ary P->Q
variable{A:Sort _}{P Q:Prop}
def ae(h:P:=by omega):=h
def bJ(h:P:=by decide):=h
def gB(h:P:=by kernel_rfl):=h
def eZ(h:P:=by rw[je (by omega)];omega):=h
def ga(h:P:=by simp):=h
def gW(h:P:=by grind):=h
def h5(h:P:=by simp;omega):=h
def mU(h:P:=by unfold fo.over;rw[aK];rfl):=h
def Pj(h:P:=by first|assumption|omega|simp):=h
def oH(h:P:=by have:=cb.len;omega):=h
def ry(h:P:=by rfl):=h
def oP(h:P:=by unfold most;omega):=h
def qm(h:P:=by simpa[fo.over]using I):=h
def uV(h:P:=by dsimp only;rw[eL];rfl):=h
def wG(h:P:=by simp only[kp,kA];exact(au)):=h
def AG(h:P:=by unfold maxLen;omega):=h
def yY(h:P:=by rw[u5];omega):=h
def y2(h:P:=by exact je (by omega)):=h
def y3(h:P:=by rw[Nat.mul_add];omega):=h
def y4(h:P:=by rw[<-hw];rfl):=h
def y5(h:P:=by unfold eO;decide):=h
def A2(h:P:=by unfold n4;split<;>omega):=h
def A7(h:P:=by unfold hJ.over;rw[aK];rfl):=h
def Bc(h:P:=by simpa using I):=h
def Ze(h:P:=by simpa[av]using W):=h
def Bv(h:P:=by have:=J.dB;have:=J.len;omega):=h
def Bw(h:P:=by simp[wX]):=h
def Bx(h:P:=by simp only[eL,iE,lp];omega):=h
def CX(h:P:=by simpa using ak):=h
def DB(h:P:=by simp only[kp,kA,bd W];exact(au)):=h
def DE(h:P:=by simp only[yB,wC,bd W];exact(au)):=h
def DF(h:P:=by simp only[yB,wC,a8 W];exact(au)):=h
def DP(h:P:=by unfold hL.over;rw[aK];rfl):=h
def DR(h:P:=by simpa using N):=h
def yG(h:P:=by simp[aK]):=h
def D7(h:P:=by rw[m1.aY,j7]):=h
def D8(h:P:=by rw[E];exact hk):=h
def D9(h:P:=by cases o<;>rfl):=h
def Ea(h:P:=by show((3*l:Nat):Int)<=64;omega):=h
def HA(h:P:=by cases ce<;>simp at av;exact⟨_,_,rfl⟩):=h
def HC(h:P:=by unfold ie.over;rw[aK];rfl):=h
def HP(h:P:=by simpa using aE):=h
def HQ(h:P:=by simpa[qd]using p):=h
def Is(h:P:=by unfold fY;rw[bd rfl]):=h
def It(h:P:=by rw[n0];omega):=h
def Iu(h:P:=by simpa using s):=h
def ZM(h:P:=by rw[K.get];rfl):=h
def Iv(h:P:=by unfold bM at hp;omega):=h
def Iw(h:P:=by simp only[io]at hp;omega):=h
def Ix(h:P:=by show dD k+1<=1;omega):=h
def Iy(h:P:=by have e:bx (.alone a k)=bx k+256:=rfl;omega):=h
def Iz(h:P:=by rw[E];exact aW):=h
def IA(h:P:=by rw[j7];exact aW):=h
def IB(h:P:=by rw[m1.aY];exact M):=h
def IC(h:P:=by rw[B.cx];exact B.aW):=h
def ID(h:P:=by rw[u];omega):=h
def IE(h:P:=by rw[rB cK,B];rfl):=h
def IF(h:P:=by have bh:=arz X z s J av;rw[cl]at bh;exact bh):=h
def IG(h:P:=by rw[b];rfl):=h
def IH(h:P:=by rw[oj,tE];exact(au)):=h
def Mg(h:P:=by simp only[gn];exact(au)):=h
def MA(h:P:=by rw[eL,i8];omega):=h
def M1(h:P:=by simpa[fo.over]using d):=h
def Nj(h:P:=by simp only[wz,wA,bd W];exact(au)):=h
def Nk(h:P:=by simp only[wz,wA,a8 W];exact(au)):=h
def aqY(h:P:=by rw[tD]at cl;omega):=h
def O5(h:P:=by rw[Ij,bd ak]):=h
def O9(h:P:=by cases m<;>simp at h⊢):=h
def Pk(h:P:=by unfold ht;omega):=h
def Pl(h:P:=by rw[pg,yT,aF];rfl):=h
def arA(h:P:=by exact mO T):=h
def Pm(h:P:=by rw[hlen];exact g4):=h
def Pn(h:P:=by rw[hlen];exact Q):=h
def Pp(h:P:=by simp only[iI,I,eP,ep]):=h
def Pq(h:P:=by rw[j7];exact hk):=h
def Pr(h:P:=by have:=aL.1;omega):=h
def Ps(h:P:=by rw[c.len];exact cH):=h
def Pt(h:P:=by rw[Pu];exact(au)):=h
def Pv(h:P:=by unfold most at e;omega):=h
def Pw(h:P:=by rw[Y];rintro(h1|h1|h1);exact absurd h1 (by decide);all_goals omega):=h
def arB(h:P:=by rw[jr];exact s):=h
def Px(h:P:=by unfold Th.bM;omega):=h
def Py(h:P:=by rw[<-h.1];exact N):=h
def UZ(h:P:=by unfold kY rowOf;rw[aj];simp[h]):=h
def U2(h:P:=by rw[k0 f aY ba,n0,De (by omega)]):=h
def Wj(h:P:=by show some (Value.bool (w.get id).isSome)=_;rw[V]):=h
def WA(h:P:=by have:=a6.MZ;simp only at this;omega):=h
def Xg(h:P:=by simp only[wz,wA];exact(au)):=h
def Xh(h:P:=by simp only[kp,kA,a8 (Pz.2 W)];exact(au)):=h
def Xi(h:P:=by simp only[kp,kA,a8 (Dz.2 W)];exact(au)):=h
def Xz(h:P:=by show some (Value.bool o.over)=_;rw[aK]):=h
def aqO(h:P:=by obtain⟨m,bf⟩:=fd;exact DataW.trod_lt m _ _ _ bf):=h
def aqS(h:P:=by unfold Func.isWrapper;first|(rw[bd (by decide+kernel)];kernel_rfl)|(rw[a8 (by decide+kernel)];exact⟨rfl,rfl⟩)):=h
def Zm(h:P:=by have:=bh j N;rw[ar];split<;>omega):=h
def Zs(h:P:=by intro x ah;simp at ah;subst ah;rfl):=h
def Zv(h:P:=by rw[Array.toList_modify];exact bz v):=h
def ZI(h:P:=by have:=lA aA.1;simpa using this):=h
def ZN(h:P:=by have:=qw (λx=>!decide (x<=ht now -z)) l;omega):=h
def ZO(h:P:=by first|exact W|exact M|exact L|assumption):=h
def ZP(h:P:=by cases v<;>simp[Value.oneCell']at h1<;>rfl):=h
def ZQ(h:P:=by match cs,av with|[en,c1],_=>exact⟨_,_,rfl⟩):=h
def ZR(h:P:=by match cs,av with|[en,c1,bn,b9,d5],_=>exact⟨_,_,_,_,_,rfl⟩):=h
def ZS(h:P:=by simp only[AR,W];exact(au)):=h
def ZT(h:P:=by rw[<-re,CS]):=h
def ZU(h:P:=by rw[show fE a c N.reverse=own (ul a c N) 36 1 N.length (iS N.reverse) by simp[fE,ul]];exact(au)):=h
def ZV(h:P:=by first|exact ah|exact⟨ah.1,ah.2.1,aW _ _ ah.2.2⟩):=h
def ZW(h:P:=by first|exact⟨ah.1,ah.2.1,aW _ _ ah.2.2⟩):=h
def ZX(h:P:=by rw[W.iL (y.ig j N).iL (by simp)];exact h.resolve_left (λh=>h)):=h
def ZY(h:P:=by rw[c.len];show 2<=C.gS+_;unfold bt.gS bt.bG;omega):=h
def ZZ(h:P:=by cases k<;>first|exact⟨rfl,rfl⟩|exact absurd R (hH _ _)):=h
def Z0(h:P:=by rw[II];have:hE=90000:=rfl;omega):=h
def Z1(h:P:=by unfold Th.jX;rw[bd K.h1];exact K.av):=h
def Z2(h:P:=by simp only[yx,iE,lp];omega):=h
def Z3(h:P:=by rw[cx,<-al.ap];exact PA _ _):=h
def Z4(h:P:=by have:=s.e4;rwa[jE]at this):=h
def Z5(h:P:=by have L:maxLen=9223372036854775807:=rfl;omega):=h
def Z6(h:P:=by rw[N]at M;exact od M):=h
def Z7(h:P:=by rw[ay]at h1;exact od h1):=h
def Z8(h:P:=by rw[oQ,u5];omega):=h
def Z9(h:P:=by rw[bz]at ay;exact od ay):=h
def aaa(h:P:=by have bh:=d.aj;rw[Th.aj0]at bh;exact od bh):=h
def aab(h:P:=by have bh:=q cj d7;rw[aA]at bh;exact bh):=h
def aac(h:P:=by have p:=M;simp only[ii,kN]at p;omega):=h
def aad(h:P:=by have bh:=n;rw[aA]at bh;exact bh):=h
def aae(h:P:=by rw[k0 te 3 IJ,n0];omega):=h
def aaf(h:P:=by rw[PB,S];simp[yx];omega):=h
def aag(h:P:=by rw[<-arC rfl,arD];exact(au)):=h
def aah(h:P:=by first|rfl|(simp only[M,Vu a6,lH,lI,l2,kS,k8,kT];done)|(simp[M,Vu a6];done)|simp_all):=h
def aai(h:P:=by rw[rC (by omega),un _ (by omega) (by omega)]):=h
abbrev VM(x:A:=by exact(bg.cons (t:=137) rfl AC)):=x
abbrev AC(x:A:=by exact(bg.cons (t:=119) rfl AB)):=x
abbrev AB(x:A:=by exact(bg.cons (t:=98) rfl AA)):=x
abbrev AA(x:A:=by exact(bg.cons (t:=81) rfl Az)):=x
abbrev Az(x:A:=by exact(bg.cons (t:=63) rfl Ay)):=x
abbrev Ay(x:A:=by exact(bg.cons (t:=45) rfl VB)):=x
abbrev VB(x:A:=by exact(bg.cons (t:=36) rfl (bg.cons (t:=35) rfl (bg.cons (t:=34) rfl (bg.cons (t:=33) rfl (bg.cons (t:=32) rfl (bg.cons (t:=31) rfl (bg.cons (t:=30) rfl (bg.cons (t:=29) rfl (bg.cons (t:=28) rfl (bg.cons (t:=27) rfl (bg.cons (t:=26) rfl (bg.cons (t:=25) rfl (bg.cons (t:=24) rfl (bg.cons (t:=23) rfl (bg.cons (t:=22) rfl (bg.cons (t:=21) rfl (bg.cons (t:=20) rfl (bg.cons (t:=19) rfl (bg.cons (t:=18) rfl (bg.cons (t:=17) rfl (bg.cons (t:=16) rfl (bg.cons (t:=15) rfl (bg.cons (t:=14) rfl (bg.cons (t:=13) rfl (bg.cons (t:=12) rfl (bg.cons (t:=11) rfl (bg.cons (t:=10) rfl (bg.cons (t:=9) rfl (bg.cons (t:=8) rfl (bg.cons (t:=6) rfl (bg.cons (t:=5) rfl (bg.cons (t:=4) rfl (bg.cons (t:=3) rfl VR)))))))))))))))))))))))))))))))))):=x
abbrev YL(x:A:=by exact(ej::ej::e2::e2::e2::e2::e2::e2::e2::e2::e2::e2::e2::e2::e2::e2::e2::e2::e2::e2::e2::e2::e2::e2::e2::e2::e2::e2::e2::e2::aaj)):=x
abbrev Vz(x:A:=by exact(33::49::53::46::58::60::64::68::72::76::80::85::89::93::97::101::VC)):=x
abbrev aak(x:A:=by exact(dz e.hP e.hQ x.cM::gi e.gK X.C.dY x.aside x.front::h8 e.jx oR oS x.given::b3 e.gQ .i64 tI::jd e.jy (h9 e.es)::ax (iy e.es)::aal)):=x
abbrev VC(x:A:=by exact(105::112::121::125::118::130::132::136::140::144::148::152::157::161::165::169::173::VD)):=x
abbrev PC(x:A:=by exact(λE=>cL X E.2.1 E.2.2::dP E.2.1.cI E.2.1.cJ E.2.2.trace::fl E.2.1.na E.2.1.fq E.2.2.notes::b3 X.am .i64 (cf E.2.1.ap)::ax (e5 X E.2.1.ap E.2.2.aJ)::b3 X.e6 .u64 (cf E.2.1.ai)::ax (gj E.2.1.ai E.2.2.lets)::Lg.ds X.ld E.2.2.bc::ez X.da X.C.dG E.2.2.dead::ch X.m E.2.2.L E.2.1.tt::fA X::fw X E.2.2.bs::eC X.bG X.m X.C.bG X.C.aZ::ax (dZ X)::fu X::gk X::gX X::gd X::ax (de X E.2.1.ap E.2.1.ai E.2.2.az)::D)):=x
abbrev YC(x:A:=by exact[ej,ej,ej,ej,ej,ej,ej,ej,ej,e2,fP,ej,ej,ej,fP,fP,fP,e2,(.map none),(.map none),e2,fP,fP,e2,ej,ej,gR,e2,e2,fP]):=x
abbrev VD(x:A:=by exact(177::184::188::192::198::200::204::208::212::216::220::224::228::232::236::240::VE)):=x
abbrev VE(x:A:=by exact(244::252::256::260::264::268::272::276::280::284::288::292::296::300::304::308::312::316::320::324::VF)):=x
abbrev aal(x:A:=by exact(gO e.b8::aam)):=x
abbrev aam(x:A:=by exact(ax wY::PD)):=x
abbrev aan(x:A:=by exact(fl z.na z.fq s.notes::b3 X.am .i64 (cf z.ap)::ax jJ::b3 X.e6 .u64 (eV (cf z.ai) ((s.lets.length+1:Nat):Int) (ptr ar 0))::Lg.ds X.ld (dT s.bc ((s.lets.length+1:Nat):Int) 1)::aao)):=x
abbrev PE(x:A:=by exact(a::dP z.cI z.cJ s.trace::fl z.na z.fq s.notes::b3 X.am .i64 (cf z.ap)::ax jJ::b3 X.e6 .u64 (cf z.ai)::ax k9::Lg.ds X.ld s.bc::ez X.da X.C.dG s.dead::ch X.m s.L z.tt::fA X::fw X s.bs::eC X.bG X.m X.C.bG X.C.aZ::ax (dZ X)::fu X::aap)):=x
abbrev PF(x:A:=by exact(cL X z s::dP z.cI z.cJ s.trace::fl z.na z.fq s.notes::b3 X.am .i64 (cf z.ap)::ax jJ::b3 X.e6 .u64 (cf z.ai)::ax k9::Lg.ds X.ld s.bc::ez X.da X.C.dG s.dead::aaq)):=x
abbrev YE(x:A:=by exact[ej,ej,nK,ej,ej,e2,e2,nK,ej,ej,ej,ej,e2,ej,fP,fP,(.map none),e2,(.map none),fP]):=x
abbrev aar(x:A:=by exact(cL X z s::dP z.cI z.cJ s.trace::fl z.na z.fq s.notes::b3 X.am .i64 (cf z.ap)::ax jJ::b3 X.e6 .u64 (cf z.ai)::ax k9::Lg.ds X.ld s.bc::ez X.da X.C.dG s.dead::aas)):=x
abbrev aat(x:A:=by exact(fl z.na z.fq s.notes::b3 X.am .i64 (cf z.ap)::b3 X.e6 .u64 (cf z.ai)::ax k9::Lg.ds X.ld PG::aau)):=x
abbrev aav(x:A:=by exact(cL X z s::dP z.cI z.cJ s.trace::fl z.na z.fq s.notes::b3 X.am .i64 (cf z.ap)::ax jJ::b3 X.e6 .u64 (cf z.ai)::ax k9::Lg.ds X.ld s.bc::ez X.da X.C.dG s.dead::fA X::aaw)):=x
abbrev PD(x:A:=by exact(cL X z s::dP z.cI z.cJ s.trace::PH)):=x
abbrev aax(x:A:=by exact[(0,.bI),(1,.bI),(2,.bI),(3,.bI),(4,.bI),(5,.bI),(6,.bI),(7,.loc),(8,.loc),(9,.loc),(10,.loc),(11,.loc),(12,.loc),(13,.loc),(14,.loc),(16,.bI),(17,.bI),(18,.bI),(19,.bI),(20,.bI),(21,.bI),(22,.bI),(23,.bI),(15,.c5),(24,.c5),(25,.loc),(26,.c5)]):=x
abbrev PI(x:A:=by exact(cL X z s::PJ)):=x
abbrev PJ(x:A:=by exact(dP z.cI z.cJ s.trace::fl z.na z.fq s.notes::b3 X.am .i64 (cf z.ap)::ax jJ::b3 X.e6 .u64 (cf z.ai)::ax k9::Lg.ds X.ld s.bc::aao)):=x
abbrev aay(x:A:=by exact([ab O 3 [af i],ab dS 188 rD,ab d2 3 [af n],ab cn 255 [bj 403 tJ],ab d3 1 [bj 404 [ptr aP 0,ptr U 0,ptr ar 0]],ab aP 110 [ptr q 0],ab ar 106 eo,ab U 1 [bj I M],a7 X z.ap z.ai j 0 k I M]++bl X z s)):=x
abbrev PH(x:A:=by exact(fl z.na z.fq s.notes::b3 X.am .i64 (cf z.ap)::b3 X.e6 .u64 (cf z.ai)::ax k9::Lg.ds X.ld s.bc::aau)):=x
abbrev VF(x:A:=by exact(328::344::348::352::356::360::364::368::372::376::380::384::388::392::396::VI)):=x
abbrev IK(x:A:=by exact(cL X z s::dP z.cI z.cJ s.trace::fl z.na z.fq s.notes::b3 X.am .i64 (cf z.ap)::b3 X.e6 .u64 (cf z.ai)::ax k9::Lg.ds X.ld s.bc::ez X.da X.C.dG s.dead::aaz)):=x
abbrev aaA(x:A:=by exact(λu H=>u=.tuple #[]/\∃(cj:dn) (p f:Nat) (c:List Value),e0 aa f/\bE X cj s1/\H=[ab (X.bp j) 128 aaB,c3 X p o,jj X cj s1 j,a7 X cj.ap cj.ai j p k f c])):=x
abbrev aaC(x:A:=by exact {s with trace:=s.trace++[({Th.c7 with kind:=10,dL:=(b:Int),cy:=x.id,why:=1,name:=reason}:bX)],notes:=s.notes++[(⟨2,0,[]⟩:c9)],az:=s.az.set j IL}):=x
abbrev aaD(x:A:=by exact {s with trace:=s.trace++[({Th.c7 with kind:=10,dL:=(b:Int),cy:=x.id,why:=2,name:=reason}:bX)],notes:=s.notes++[(⟨3,0,[]⟩:c9)],az:=s.az.set j IL}):=x
abbrev aaE(x:A:=by exact {s with trace:=s.trace++[({Th.c7 with kind:=10,dL:=(b:Int),cy:=x.id,why:=3,name:=reason}:bX)],notes:=s.notes++Eb,az:=s.az.set j IL}):=x
abbrev aaF(x:A:=by exact[ab aO 106 eo,ab aU 110 [ptr q 0],ab co 311 [ptr u 0],ab c2 356 (lS bL pc (⟨false,m,b,r,d⟩:dt)),ab Y 32 [ptr X.h 0],ab aS 36 [bw id],ab bY 1 [bj I M],kx bL pc m,a7 X z.ap z.ai j 0 k I M]):=x
abbrev aaG(x:A:=by exact([ab aU 106 eo,ab c2 32 [ptr X.h 0],ab d 49 [ul ea cA IM],fE ea cA IM,a7 X z.ap z.ai j 0 k I M]++bl X z (Th.dd s a {x with timers:=Th.ou x.timers m.name}))):=x
abbrev aaH(x:A:=by exact[b3 X.e6 .u64 (cf z.ai),ax k9,Lg.ds X.ld s.bc,ez X.da X.C.dG s.dead,ch X.m s.L z.tt,fA X,fw X s.bs,eC X.bG X.m X.C.bG X.C.aZ,ax (dZ X),gk X,gX X,ax lJ]):=x
abbrev aaI(x:A:=by exact[fl z.na z.fq s.notes,b3 X.e6 .u64 (cf z.ai),ax k9,Lg.ds X.ld s.bc,ez X.da X.C.dG s.dead,ch X.m s.L z.tt,fA X,fw X s.bs,eC X.bG X.m X.C.bG X.C.aZ,ax (dZ X),gk X,gX X]):=x
abbrev PK(x:A:=by exact(b3 X.am .i64 (cf z.ap)::aaJ)):=x
abbrev VI(x:A:=by exact(400::416::420::424::428::432::436::440::444::448::452::456::460::464::468::VK)):=x
abbrev aaK(x:A:=by exact[ab n 108 aaL,ab U 23 (oT C)]):=x
abbrev WJ(x:A:=by exact(λu H=>∃aI aQ,u=fQ aI aQ aC.due/\H=(hz aI aQ aC.due::uD))):=x
abbrev WK(x:A:=by exact(λu H=>∃aI aQ,u=fQ aI aQ aC.cut/\H=(hz aI aQ aC.cut::uD))):=x
abbrev WL(x:A:=by exact(λu H=>∃aI aQ,u=fQ aI aQ aC.ref/\H=(hz aI aQ aC.ref::uD))):=x
abbrev aaM(x:A:=by exact((ab aP 110 [ptr q 0]::ab ar 261 (iz m)::ab U 248 [ptr p 0]::ab Z 3 [af 2]::ab aO 106 eo::aaN)++ia X z s a q x e)):=x
abbrev aaO(x:A:=by exact(iA (a7.eq_24 ..) (aU,aS,co,Y,aO,bY,q,I,M) u6 (jK X z.ap z.ai s.az j p 302 [ptr aU 0,ptr aS 0,ptr co 0,ptr Y 0,ptr aO 0,ptr bY 0] t (.eS uC) (.mf a m k) N R))):=x
abbrev IN(x:A:=by exact((ab aP 246 [ptr p 0]::ab ar 32 [ptr X.h 0]::ab U 36 [bw id]::ab Z 106 eo::ab aO 3 [af to]::ab aU 1 [bj I M]::PL)++bl X z s)):=x
abbrev aaJ(x:A:=by exact(b3 X.e6 .u64 (cf z.ai)::ax k9::aaP)):=x
abbrev Wk(x:A:=by exact(cU p x y 0 0 wj::iY q X.r o::ab c1 326 [ptr q 0]::ab bn 248 [ptr p 0]::ab b9 3 [af left]::MI)):=x
abbrev aaQ(x:A:=by exact(ab bY 380 [.slice (some ⟨a,0,none⟩) 2 2]::ab aS 36 [bw 0]::ab aU 246 [ptr c2 0]::cU c2 x y 0 0 X.bo::ab a 213 Ec::e9 X B::D)):=x
abbrev PM(x:A:=by exact[(0,.bI),(1,.bI),(2,.bI),(3,.loc),(4,.loc),(5,.loc),(6,.loc),(7,.loc),(8,.loc),(9,.loc),(10,.loc),(11,.loc),(14,.bI),(12,.c5),(13,.loc),(15,.c5)]):=x
abbrev aaR(x:A:=by exact((ab aP 246 [ptr p 0]::ab ar 1 [bj I M]::ab U 106 eo::ab Z 110 [ptr q 0]::ab aO 3 [af who]::PL)++bl X z s)):=x
abbrev aaL(x:A:=by exact(nh C y6 fP fP fP fP e2 p r ld da e2 e2 fP)):=x
abbrev N4(x:A:=by exact(ej::ej::nK::nK::ej::aaj)):=x
abbrev aau(x:A:=by exact[ez X.da X.C.dG s.dead,ch X.m s.L z.tt,fA X,fw X s.bs,eC X.bG X.m X.C.bG X.C.aZ,ax (dZ X),fu X,gk X,gX X,gd X,ax lJ]):=x
abbrev aaS(x:A:=by exact([ab aP 392 [ptr p 0],ab ar 1 [bj I M],ab U 106 eo,ab Z 3 [af J],ab aO 3 [af ef],a7 X z.ap z.ai j 0 k I M,c3 X p (.hV i)]++bl X z s)):=x
abbrev YG(x:A:=by exact((.map none)::e2::N2)):=x
abbrev PN(x:A:=by exact(λE=>kF C ni h2 E.2::kF C ni h1 y::own (.slice N 8 S) 3 1 8 (iQ.map af)::ab U 57 PO::a2::D)):=x
abbrev aaT(x:A:=by exact⟨.same,λ_=>IP,wZ,λ_=>rfl⟩):=x
abbrev aaU(x:A:=by exact(Th.dd {s with bc:=du s.bc id 3,trace:=s.trace++[({Th.c7 with kind:=5,dL:=x.id,id:=id}:bX)]} a {x with aside:=x.aside++[id]})):=x
abbrev PP(x:A:=by exact(a7 X z.ap z.ai j 0 k I M::ax jJ::cL X z s::dP z.cI z.cJ s.trace::aaV)):=x
abbrev Wy(x:A:=by exact⟨pM (left -1) GZ,0,0,[],cut++rk (dO (B.b+1) B.n L o).value w,ref++rl (dO (B.b+1) B.n L o).value w⟩):=x
abbrev PQ(x:A:=by exact((ab aP 246 [ptr p 0]::ab ar 1 [bj I M]::ab U 106 eo::ab Z 110 [ptr q 0]::PL)++bl X z s)):=x
abbrev PR(x:A:=by exact[ab ar 110 [ptr q 0],ab U 32 [ptr X.h 0],ab Z 36 [bw id],ab aO 106 eo,ab aU 1 [bj I M],kx bL pc m,a7 X z.ap z.ai j 0 k I M]):=x
abbrev aaW(x:A:=by exact⟨.same,λ_=>IP,hh,λ_=>rfl⟩):=x
abbrev aaX(x:A:=by exact(bg.cons rfl (bg.cons rfl (bg.cons rfl (bg.cons rfl PS))))):=x
abbrev aaY(x:A:=by exact[ptr (X.bp j) 0,af m.length,bj 293 [ptr aO 0,ptr aU 0,ptr co 0,ptr c2 0],bj 295 [ptr c2 0,ptr aU 0,ptr Y 0,ptr aS 0,ptr aO 0,ptr bY 0]]):=x
abbrev UU(x:A:=by exact(λu H=>∃a c,u=.agg (lS a c (Al:dt)).toArray/\H=[kx a c (Al:dt).cw,a2])):=x
abbrev aaZ(x:A:=by exact(λh E=>iV h (iV h (Sat.tail (λh E=>Sat.tail (λh E=>Br h (Sat.tail (λh E=>arw h (Sat.tail f E)) E)) E) E)))):=x
abbrev N3(x:A:=by exact[ej,ej,og,ej,ej,nK,ej,ej,gR]):=x
abbrev aa0(x:A:=by exact[gi d X.C.dY [] [],h8 g (min (max b8.limit 0) 100) (min (max b8.within 1) 4095) [],eB c pj,eB j pj,gO b8]):=x
abbrev aa1(x:A:=by exact[ab aP 246 [ptr p 0],ab ar 32 [ptr X.h 0],ab U 36 [bw id],ab Z 106 eo,ab aO 3 [af to],ab aU 1 [bj I M],cL X z s]):=x
abbrev aaP(x:A:=by exact(Lg.ds X.ld s.bc::ez X.da X.C.dG s.dead::ch X.m s.L z.tt::fA X::fw X s.bs::eC X.bG X.m X.C.bG X.C.aZ::IQ)):=x
abbrev IR(x:A:=by exact⟨λ_=>aa2,wZ,λ_=>rfl⟩):=x
abbrev IS(x:A:=by exact([ab d2 3 [af n],ab d3 1 [bj J M],ab cn 255 [bj H N],ab dS 188 rD,a2]++bl X z s)):=x
abbrev aa3(x:A:=by exact {s with trace:=s.trace++[(IU:bX)],az:=s.az.set j {t with on:=some (.load 1,.who a k)}}):=x
abbrev aao(x:A:=by exact(ez X.da X.C.dG s.dead::ch X.m s.L z.tt::fA X::fw X s.bs::aa4)):=x
abbrev PT(x:A:=by exact[(aa5:bX)]):=x
abbrev PU(x:A:=by exact[(aa6:bX)]):=x
abbrev uD(x:A:=by exact[cU p x y aC.out aC.val (lv X (fQ a0 fd aC.due) (fQ cr cS aC.cut) (fQ cD cd aC.ref)),hz a0 fd aC.due,hz cr cS aC.cut,hz cD cd aC.ref]):=x
abbrev N8(x:A:=by exact(ej::nK::nK::nK::ej::By)):=x
abbrev VK(x:A:=by exact(472::488::492::496::500::504::508::512::516::520::524::528::532::536::VN)):=x
abbrev aa7(x:A:=by exact[ab Z 106 eo,ab aO 36 [bw id],cL X z s,b3 X.e6 .u64 (cf z.ai),ax k9,ax lJ]):=x
abbrev IV(x:A:=by exact {s with aJ:=s.aJ++[mA id a N st],trace:=s.trace++PV}):=x
abbrev aa8(x:A:=by exact {s with notes:=s.notes++Eb,az:=s.az.set j aa9}):=x
abbrev XK(x:A:=by exact[(0,.bI),(1,.bI),(2,.bI),(3,.loc),(4,.loc),(5,.loc),(6,.loc),(7,.loc),(10,.bI),(8,.c5),(9,.loc),(11,.c5)]):=x
abbrev aba(x:A:=by exact(jk Bz j t x.parent ⟨1,x.id,reason⟩ k)):=x
abbrev PW(x:A:=by exact {s with bc:=PG,trace:=s.trace++[(PX:bX)]}):=x
abbrev aaq(x:A:=by exact(fA X::aas)):=x
abbrev N2(x:A:=by exact(ej::ej::ej::ej::ej::YD)):=x
abbrev abb(x:A:=by exact(BA X {s with trace:=s.trace++[({Th.c7 with kind:=1,cy:=-1 -(i:Int),to:=O,name:=em,n:=db}:bX)]} true)):=x
abbrev abc(x:A:=by exact(BA X {s with trace:=s.trace++[({Th.c7 with kind:=1,cy:=-1 -(i:Int),to:=O,name:=[],n:=0}:bX)]} true)):=x
abbrev abd(x:A:=by exact⟨λ_=>abe,hh,by trivial⟩):=x
abbrev aa5(x:A:=by exact {Th.c7 with kind:=2,id:=((s.lets.length+1:Nat):Int),cy:=l.cy,to:=l.to,name:=l.tag,n:=l.n,nj:=false}):=x
abbrev aa6(x:A:=by exact {Th.c7 with kind:=2,id:=((s.lets.length+1:Nat):Int),cy:=l.cy,to:=l.to,name:=l.tag,n:=l.n,nj:=true}):=x
abbrev NG(x:A:=by exact(if(iw B.ed B.na L o).out=1 then⟨.up w (iw B.ed B.na L o).value (kf 1 w),0,0⟩else⟨.lD w wN,4,0⟩)):=x
abbrev aas(x:A:=by exact(fw X s.bs::aaw)):=x
abbrev PY(x:A:=by exact[ax (dZ X),fu X,ax (de X z.ap z.ai (s.az.set j IL))]):=x
abbrev PZ(x:A:=by exact(Th.dd abf a P0)):=x
abbrev XD(x:A:=by exact[(3,.loc),(4,.loc),(5,.loc),(6,.loc),(7,.loc),(8,.loc),(9,.loc),(12,.bI),(10,.c5),(11,.loc),(13,.c5)]):=x
abbrev XT(x:A:=by exact(ab bn 169 [ptr p 0]::ab b9 243 [.slice a (l.length+1) c]::kB X B.bV a c (ec::l) ce::jR)):=x
abbrev NE(x:A:=by exact(if(jb (B.cn w) B.eN L o).out=1 then⟨.ig w DO l,1,(jb (B.cn w) B.eN L o).value⟩else nB l)):=x
abbrev YP(x:A:=by exact(.nilIface::.nilFunc::ej::og::fP::abg)):=x
abbrev abh(x:A:=by exact(λu H=>∃aI aQ,u=.slice aI m.length aQ/\H=abi)):=x
abbrev WZ(x:A:=by exact⟨fun⟨h1,h2,d,e,⟨x,aW⟩,aE⟩=>⟨x,h1,h2,d,e,aW,aE⟩,fun⟨x,h1,h2,d,e,aW,aE⟩=>⟨h1,h2,d,e,⟨x,aW⟩,aE⟩⟩):=x
abbrev P1(x:A:=by exact {x with state:=st.name,slots:=[0,0,0,0],cM:=[],front:=x.front++x.aside.reverse,aside:=[],mode:=1}):=x
abbrev abj(x:A:=by exact((12,af (i:Int))::abk)):=x
abbrev abl(x:A:=by exact[ab aP 106 eo,ab ar 32 [ptr X.h 0],ab U 49 [ul ea cA ids],fE ea cA ids,a7 X z.ap z.ai j 0 k I M]):=x
abbrev P2(x:A:=by exact {s with az:=s.az.set j {t with on:=some (.hV (nE 0 (lF X.C.bG X.C.aZ x.id who)),.watched a who k)}}):=x
abbrev XH(x:A:=by exact(aH eu (kC X B p (if o.out=2 then .enter (k4 false v) v else .ring (kf 3 0))::sg))):=x
abbrev abm(x:A:=by exact {s with az:=s.az.set j {t with on:=some (.add 0 1,.gv a (⟨x.id,x.id,m.name,m.n,false⟩:cW) m k)}}):=x
abbrev abn(x:A:=by exact {s with trace:=s.trace++abo}):=x
abbrev abp(x:A:=by exact {s with trace:=s.trace++abq}):=x
abbrev abr(x:A:=by exact {s with trace:=s.trace++abt}):=x
abbrev IW(x:A:=by exact {s with trace:=s.trace++abu}):=x
abbrev Ed(x:A:=by exact {s with now:=s.now+1,trace:=s.trace++[(P3:bX)]}):=x
abbrev aaw(x:A:=by exact(eC X.bG X.m X.C.bG X.C.aZ::ax (dZ X)::abv)):=x
abbrev Ee(x:A:=by exact([ab aP 106 eo,ab ar 110 [ptr q 0],ab U 1 [bj I M],a7 X z.ap z.ai j 0 k I M]++bl X z s)):=x
abbrev abw(x:A:=by exact([ab aP 110 [ptr q 0],ab ar 1 [bj I M],ab U 106 eo,a7 X z.ap z.ai j 0 k I M]++bl X z s)):=x
abbrev abx(x:A:=by exact {s with bc:=dg s.bc id 7,trace:=s.trace++[({Th.c7 with kind:=3,dL:=x.id,id:=id}:bX)]}):=x
abbrev aby(x:A:=by exact[ab aP 106 eo,ab ar 39 [hN ea cA l],dz ea cA l,ab U 3 [af what],a7 X z.ap z.ai j 0 k I M]):=x
abbrev abz(x:A:=by exact[1,5,9,13,17,21,25,29,33,37,41,45,49,53,57,61,65,69,73,77,81,86,90,94,3,3,3,90,86,94]):=x
abbrev abA(x:A:=by exact {s with az:=s.az.set j {t with on:=some (.hV (nE 4 (lF X.C.bG X.C.aZ a b)),.mK a b k)}}):=x
abbrev abB(x:A:=by exact(fk ((i+1:Nat):Int) (by have:=aA x y7;rw[je (by omega)];omega) rfl rfl)):=x
abbrev ym(x:A:=by exact(cU p x y 0 0 wj::MI)):=x
abbrev P4(x:A:=by exact(Th.dd abC a BB)):=x
abbrev NF(x:A:=by exact(if(iw B.ed B.na L o).out=1 then⟨.mY wN l,1,(iw B.ed B.na L o).value⟩else nB l)):=x
abbrev abD(x:A:=by exact(aH eu [cL X z s,ax (de X z.ap z.ai (s.az.set j {t with on:=some (.add 0 1,.mc l k)}))])):=x
abbrev abE(x:A:=by exact {s with trace:=s.trace++P5}):=x
abbrev abF(x:A:=by exact {s with az:=s.az.set j abG}):=x
abbrev A6(x:A:=by exact(ch X.m (mr (B.cn w) B.eN L o) (fZ t)::NI)):=x
abbrev ZL(x:A:=by exact(λv' H=>∃a c,v'=.slice a (k+m) c/\H=own (.slice a (k+m) c) e aY (k+m) (xs++O)::D)):=x
abbrev P6(x:A:=by exact(fun⟨p,f,c⟩=>(ki X j w0 (bj f c) t::BC))):=x
abbrev YO(x:A:=by exact[fP,ej,ej,og,og,og,ej]):=x
abbrev abH(x:A:=by exact[ab q 168 [.map (some r),.slice a rc c,af ((su rc d.length:Nat):Int),af ((d.length:Int)+1)]]):=x
abbrev abI(x:A:=by exact(λE=>(Th.dE E.1 a).bind λx=>g (Th.dd E.1 a {x with slots:=x.slots.set slot E.2}) Th.dF k)):=x
abbrev abJ(x:A:=by exact([ab aP 106 eo,ab ar 110 [ptr z 0],ab U 1 [bj I M],a7 X ap ai j 0 k I M]++a2)):=x
abbrev abK(x:A:=by exact[1,5,9,13,17,21,25,29,33,37,41,45,49,53,57,61,66,70,74,78,3,3,3,3,70,66,74,78]):=x
abbrev XY(x:A:=by exact(kC X B p (.push w o v)::NH)):=x
abbrev IX(x:A:=by exact {s with trace:=s.trace++[({Th.c7 with kind:=4,dL:=x.id,id:=id,name:=b}:bX)]}):=x
abbrev abL(x:A:=by exact(λh=>gq (λD h E=>Sat.drop (Sat.drop (Sat.drop (Sat.drop (E))))) (C z s k y I M al h))):=x
abbrev X4(x:A:=by exact(kC X B p (.ig w o l)::NH)):=x
abbrev YQ(x:A:=by exact[gR,e2,nK,gR,nK]):=x
abbrev abM(x:A:=by exact {s with trace:=s.trace++PV}):=x
abbrev abk(x:A:=by exact((11,.bool q)::abN)):=x
abbrev YN(x:A:=by exact(fP::.nilFunc::ej::og::og::HZ)):=x
abbrev abO(x:A:=by exact[ab aP 169 [ptr p 0],ab ar 106 eo,c3 X p (.fx aC),ax lJ]):=x
abbrev aaz(x:A:=by exact(ch X.m s.L z.tt::fA X::fw X s.bs::eC X.bG X.m X.C.bG X.C.aZ::fu X::IQ)):=x
abbrev abP(x:A:=by exact[(0,.bI),(1,.loc),(2,.loc),(3,.loc),(4,.loc),(7,.bI),(5,.c5),(6,.loc),(8,.c5)]):=x
abbrev abQ(x:A:=by exact {x with kids:=Th.del x.kids m.who,cM:=Th.del x.cM m.who,given:=Th.p1 x.given m.who}):=x
abbrev abR(x:A:=by exact {s with az:=s.az.set j abS}):=x
abbrev P7(x:A:=by exact(aH h6 u7)):=x
abbrev IP(x:A:=by exact⟨hh,hh,hh,hh⟩):=x
abbrev abT(x:A:=by exact[ab aP 106 eo,ab ar 49 [ul ea cA due],fE ea cA due,a7 X z.ap z.ai j 0 k I M]):=x
abbrev Bz(x:A:=by exact {s with trace:=s.trace++[(P8:bX)]}):=x
abbrev U6(x:A:=by exact[S k.name,af k.limit,af k.within,.slice cr k.cases.length c1,.slice cD k.states.length bn]):=x
abbrev Wf(x:A:=by exact(aH eu (tm X B p cut ref (.tick ((w.now+1:Nat):Int))::AH))):=x
abbrev N5(x:A:=by exact(nK::ej::Ob)):=x
abbrev P9(x:A:=by exact {s with trace:=s.trace++abU}):=x
abbrev abV(x:A:=by exact {x with given:=eV x.given m.who abW}):=x
abbrev aaB(x:A:=by exact[ptr X.h 0,af (jT X j),w0,(bj f c),bw t1.draw,.bool t1.ij]):=x
abbrev X0(x:A:=by exact⟨if(jb (B.cn w) B.eN L o).out=2 then .enter (k4 false v) v else .ring (kf 3 0),0,0⟩):=x
abbrev ZE(x:A:=by exact⟨λ_=>none,h,λ_=>.inl rfl,by funext b;simp[join],⟨by simp,.inl dI⟩,s⟩):=x
abbrev abX(x:A:=by exact {s with az:=s.az.set j abY}):=x
abbrev abZ(x:A:=by exact(s.trace++P5)):=x
abbrev VT(x:A:=by exact(ab d 26 AF::ab f 78 (eK k)::ab E 85 (hs r)::A::D)):=x
abbrev ab0(x:A:=by exact[fS X.cX X.C.bA,cd X.cX X.C.bA,iR X.cX X.C.bA,eM X.cX X.C.bA,ax (lG X.cX X.C.bA)]):=x
abbrev ab1(x:A:=by exact⟨B.id,B.par,B.kind,B.slots,B.lf,B.kids,B.aside,B.front,B.cM,B.jV⟩):=x
abbrev ab2(x:A:=by exact {s with az:=s.az.set j {t with on:=some (.post x.id Th.Cj,.nr a left)}}):=x
abbrev UJ(x:A:=by exact(aH (.tuple #[.agg [S [],.bool false,af 0,.slice none 0 0].toArray,.bool false]) [a2])):=x
abbrev X2(x:A:=by exact⟨if(iw B.ed B.na L o).out=2 then .enter (k4 false v) v else .ring (kf 3 0),0,0⟩):=x
abbrev Qa(x:A:=by exact[1,5,9,13,17,21,25,29,33,37,41,45,49,53,57,62,66,70,3,3,3,66,62,70]):=x
abbrev ab3(x:A:=by exact[(ab4:bX)]):=x
abbrev Ef(x:A:=by exact[ax lJ,ab ar 32 [ptr X.h 0],cL X z s,ch X.m s.L z.tt,gk X]):=x
abbrev PS(x:A:=by exact(bg.cons rfl Qb)):=x
abbrev ab5(x:A:=by exact[ab (X.bp j) 128 (ptr X.h 0::af (jT X j)::(.iface T v)::y::IY)]):=x
abbrev ab6(x:A:=by exact(ab7 (s:={s with shut:=true}) (a:=1) J jl h1)):=x
abbrev Wm(x:A:=by exact(λu H=>∃p,u=ptr p 0/\H=[iZ X B p ({o8 .now with out:=4}),gm X B])):=x
abbrev HH(x:A:=by exact(xs.take (i*z.size)++xs.drop (j*z.size)++xs.drop ((i+(k -j))*z.size))):=x
abbrev Qc(x:A:=by exact[ab aU 110 [ptr q 0],ab aS 261 (iz m),ab q 118 (eg X x e),dz e.ka e.kc x.kids]):=x
abbrev abN(x:A:=by exact[(8,.slice N 8 S),(7,af (n:Int)),(6,ptr h2 0),(5,ptr h1 0),(2,ptr U 0)]):=x
abbrev XL(x:A:=by exact(ab c1 96 [ptr X.c 0]::ab bn 169 [ptr p 0]::ab b9 3 [af w]::sg)):=x
abbrev YB(x:A:=by exact(ej::ej::ej::N9)):=x
abbrev YI(x:A:=by exact[ej,ej,nK,ej,gR]):=x
abbrev YR(x:A:=by exact[fP,.nilFunc,ej,og,og,og]):=x
abbrev aa2(x:A:=by exact⟨λ_=>g,hh,hh,hh⟩):=x
abbrev IZ(x:A:=by exact {s with lets:=s.lets++[l],bc:=dT s.bc ((s.lets.length+1:Nat):Int) 1}):=x
abbrev abo(x:A:=by exact[(ab8:bX)]):=x
abbrev abq(x:A:=by exact[(ab9:bX)]):=x
abbrev abt(x:A:=by exact[(aca:bX)]):=x
abbrev abu(x:A:=by exact[({Th.c7 with kind:=10,dL:=b,cy:=x.id,why:=d,name:=reason}:bX)]):=x
abbrev acb(x:A:=by exact(λh g=>Sat.tail (λh g=>ty (A:=Eg ar l) (l:=gj z.ai s.lets) h g) g)):=x
abbrev acd(x:A:=by exact(ab aC 246 [ptr p 0]::ab Z 49 [u9 R J]::Qd)):=x
abbrev ace(x:A:=by exact {s with az:=s.az.set j {t with on:=some (.post x.id (Th.nR 1),.again a)}}):=x
abbrev acf(x:A:=by exact {s with az:=s.az.set j acg}):=x
abbrev ach(x:A:=by exact(ptr X.h 0::af (jT X j)::(.iface T (ptr p 0))::(bj f c)::IY)):=x
abbrev VR(x:A:=by exact(bg.cons (t:=2) rfl (bg.cons (t:=1) rfl (bg.cons (t:=0) rfl (bg.nil))))):=x
abbrev aci(x:A:=by exact(cL X z s::aaV)):=x
abbrev abe(x:A:=by exact⟨v1,y8,y8,y8⟩):=x
abbrev Qe(x:A:=by exact(s.trace++PV)):=x
abbrev acj(x:A:=by exact {s with az:=s.az.set j {t with on:=some (.post a Th.xI,.kW a k)}}):=x
abbrev YF(x:A:=by exact(fP::ej::.nilIface::.nilFunc::HZ)):=x
abbrev ack(x:A:=by exact⟨v,c,e,S,s.imp λg t=>Oh O g (by rw[jE];exact t)⟩):=x
abbrev u7(x:A:=by exact[ab ar 32 [ptr X.h 0],cL X z s,ax lJ,ch X.m s.L z.tt]):=x
abbrev abf(x:A:=by exact {s with trace:=s.trace++[(Qf:bX)]}):=x
abbrev Mv(x:A:=by exact[ab d 26 AF,ab f 78 (eK k),ab E 85 (hs r),A]):=x
abbrev V0(x:A:=by exact[ab d 26 AF,ab f 78 (eK k),ab E 82 (gy s),A]):=x
abbrev YJ(x:A:=by exact[fP,ej,ej,fP,fP]):=x
abbrev acm(x:A:=by exact(s.imp λh s=>Sat.tail (λh s=>cF () trivial kG h s) s)):=x
abbrev acn(x:A:=by exact[a7 X z.ap z.ai j 0 k I M,c3 X p (.fV ((s.lets.length+1:Nat):Int))]):=x
abbrev aco(x:A:=by exact {s with az:=s.az.set j {t with on:=some (.post a (Th.nR 2),.run a)}}):=x
abbrev U7(x:A:=by exact((z++(Gj:fN)::k.states.drop (i+1)).flatMap gy)):=x
abbrev acp(x:A:=by exact[ptr (X.bp j) 0,ptr q 0,.agg (iz ⟨l,b,reason⟩).toArray,af d,bj I M]):=x
abbrev acq(x:A:=by exact {s with az:=s.az.set j {t with on:=some (.post a Th.Ch,.jk a)}}):=x
abbrev ab4(x:A:=by exact {Th.c7 with kind:=1,cy:=-1 -(i:Int),to:=O,name:=a,n:=J}):=x
abbrev P5(x:A:=by exact[(acr:bX)]):=x
abbrev NH(x:A:=by exact(ch X.m L t::NI)):=x
abbrev abG(x:A:=by exact {t with on:=some (.post a (Th.Fb (!decide (x.mode=1))),.settled a)}):=x
abbrev abC(x:A:=by exact {s with trace:=s.trace++[(Qg:bX)]}):=x
abbrev Qh(x:A:=by exact {x with kids:=x.kids++[(id:Int)],slots:=x.slots.set slot (id:Int)}):=x
abbrev acs(x:A:=by exact {s with az:=s.az.set j {t with on:=some (.eS uC,.mf a m k)}}):=x
abbrev Qi(x:A:=by exact[(10,af ((C.fB:Nat):Int)),(2,ptr U 0),(3,ptr Z 0),(7,ptr n 0)]):=x
abbrev Qj(x:A:=by exact[Ck.gm dv C.dH,gb dv.r m (C.dH.b+1) C.dH.n,fJ dv.wp r5]):=x
abbrev ZC(x:A:=by exact(.call {callee:=.builtin .delete,args:=#[x,y],argTypes:=#[t,D]})):=x
abbrev ab8(x:A:=by exact {Th.c7 with kind:=10,dL:=b,cy:=x.id,why:=1,name:=reason}):=x
abbrev ab9(x:A:=by exact {Th.c7 with kind:=10,dL:=b,cy:=x.id,why:=2,name:=reason}):=x
abbrev aca(x:A:=by exact {Th.c7 with kind:=10,dL:=b,cy:=x.id,why:=3,name:=reason}):=x
abbrev acu(x:A:=by exact[cL X z s,dP z.cI z.cJ s.trace,b3 X.am .i64 (cf z.ap),gd X,fu X]):=x
abbrev acv(x:A:=by exact[ab aU 110 [ptr q 0],ab aS 261 (iz m),ab q 118 (eg X x e),gO e.b8]):=x
abbrev UN(x:A:=by exact[own (.slice a r.cw.length c) 87 7 r.cw.length (r.cw.flatMap fO),a2]):=x
abbrev Wu(x:A:=by exact⟨.put Dk,(dO (B.b+1) B.n L o).out,0,[],cut,ref⟩):=x
abbrev NR(x:A:=by exact(.call {callee:=.builtin .append,args:=#[x,y],argTypes:=#[t,t]})):=x
abbrev aaj(x:A:=by exact(e2::abg)):=x
abbrev N7(x:A:=by exact(nK::gR::Oa)):=x
abbrev Qk(x:A:=by exact[ab q 164 [af E,ul cr c1 dp,ul cD bn N],fE cr c1 dp,fE cD bn N]):=x
abbrev acw(x:A:=by exact(b1 rfl (I0 x.kids e.ka e.kc m.who (dz e.ka e.kc x.kids) ae) bF)):=x
abbrev acx(x:A:=by exact[ptr (X.bp (X.C.a1+X.C.cB)) 0,y9 X (X.C.a1+X.C.cB) 88]):=x
abbrev WY(x:A:=by exact⟨λ_=>none,h,λ_=>.inl rfl,by funext b;simp[join],trivial,s⟩):=x
abbrev Ql(x:A:=by exact[ab gT 3 [af now],ab bz 113 [ptr q 0],ab q 289 [af E,af z,m]]):=x
abbrev acy(x:A:=by exact[ab d9 246 [ptr p 0],ab bn 116 tK,ab b9 36 [bw v],e9 X B]):=x
abbrev aa4(x:A:=by exact(eC X.bG X.m X.C.bG X.C.aZ::ax (dZ X)::fu X::IQ)):=x
abbrev acz(x:A:=by exact((aF Eh jl).spec)):=x
abbrev aaV(x:A:=by exact[fl z.na z.fq s.notes,ax (dZ X),fu X,ax lJ]):=x
abbrev Qb(x:A:=by exact(bg.cons rfl I1)):=x
abbrev acA(x:A:=by exact(Qm++l3)):=x
abbrev Qn(x:A:=by exact {x with slots:=x.slots.set ((Th.nt m.slot).getD 0) (max l.cy 0)}):=x
abbrev acB(x:A:=by exact((eg X x e).set (0+12) (.slice ka (x.kids++[(id:Int)]).length kc))):=x
abbrev acC(x:A:=by exact {s with az:=s.az.set j {t with on:=some (.add 0 1,.mc l k)}}):=x
abbrev acD(x:A:=by exact {s with az:=s.az.set j {t with ij:=(!decide (aC.out=1))}}):=x
abbrev YS(x:A:=by exact[fP,ej,og,.nilFunc,ej]):=x
abbrev Oe(x:A:=by exact[(0,1),(1,1),(2,1),(3,1),(4,1),(5,1),(6,1),(7,1),(8,1)]):=x
abbrev YY(x:A:=by exact(.call {callee:=.invoke x name,args:=xs.toArray,argTypes:=z})):=x
abbrev sv(x:A:=by exact {(acc C s (.add a 1)).1 with az:=s.az.set j {t with on:=none}}):=x
abbrev PV(x:A:=by exact[(acE:bX)]):=x
abbrev Ei(x:A:=by exact {bZ with bc:=rE 1 aC.due (rF 5 6 (bZ.bs.T.map (·.id)) bZ.bc)}):=x
abbrev Qo(x:A:=by exact[fS cX C.bA,cd cX C.bA,iR cX C.bA,eM cX C.bA,ax (lG cX C.bA)]):=x
abbrev uS(x:A:=by exact(ch X.m (n5 B.ed B.na L o) (fZ t)::jR)):=x
abbrev Yb(x:A:=by exact(λD=>by simp only[cp,cm];exact(au))):=x
abbrev abS(x:A:=by exact {t with on:=some (.post l.to.toNat (Th.K7 id),.told id l.to k)}):=x
abbrev abv(x:A:=by exact(fu X::gk X::aap)):=x
abbrev kj(x:A:=by exact[ptr X.h 0,.agg [af I,af (i:Int),af O,S em,af db].toArray]):=x
abbrev VN(x:A:=by exact[540,556,560,564,568,572,576,580,584,588,592,598,602,604]):=x
abbrev X1(x:A:=by exact(kC X B p (.enter o v)::wO)):=x
abbrev uT(x:A:=by exact(ch X.m (qp B.b B.bV L o) (fZ t)::jR)):=x
abbrev Ya(x:A:=by exact(gV X B p z::ch X.m F (fZ t)::jR)):=x
abbrev Qp(x:A:=by exact[cU p x y 0 0 X.bo,ab E 213 Ec]):=x
abbrev acF(x:A:=by exact(λe X=>∃v H,e=.returned v/\post v H/\dm F (H++D) X)):=x
abbrev acG(x:A:=by exact(cF (aP,ar,U,z,I,M) ⟨rfl,rfl,bh⟩ kG h s)):=x
abbrev IL(x:A:=by exact {t with on:=some (.post b (Th.xH s.notes.length),.lh b k)}):=x
abbrev aaN(x:A:=by exact[ab aU 1 [bj I M],a7 X z.ap z.ai j 0 k I M,c3 X p (.eS aC)]):=x
abbrev va(x:A:=by exact[ptr (X.bp j) 0,ptr q 0,ptr u 0,.agg (fO m).toArray,bj I M]):=x
abbrev acH(x:A:=by exact[ptr X.h 0,.agg [af 1,af (j:Int),af O,S em,af db].toArray]):=x
abbrev acr(x:A:=by exact {Th.c7 with kind:=7,dL:=id,cy:=(0:Nat),name:=kind}):=x
abbrev Wq(x:A:=by exact(λu H=>∃p,u=ptr p 0/\H=[iZ X B p (r2 id),gm X B])):=x
abbrev acI(x:A:=by exact[(acJ:bX)]):=x
abbrev I2(x:A:=by exact(a7 X z.ap z.ai j 0 k I M::qy)):=x
abbrev abi(x:A:=by exact[own (.slice aI m.length aQ) 36 1 m.length (m.map λt=>bw t.id)]):=x
abbrev X6(x:A:=by exact(kC X B p (.mY o l)::wO)):=x
abbrev X7(x:A:=by exact(kC X B p (.lD w o)::wO)):=x
abbrev HX(x:A:=by exact[.nilIface,.nilFunc,ej,og,fP]):=x
abbrev acK(x:A:=by exact[fS X.cX X.C.bA,cd X.cX X.C.bA,iR X.cX X.C.bA,eM X.cX X.C.bA]):=x
abbrev acL(x:A:=by exact[ax jJ,ax (dZ X),ax lJ]):=x
abbrev acM(x:A:=by exact⟨BD o,vb (o.looksAt l.toArray),za o,(k7 l []).getD i 0⟩):=x
abbrev X3(x:A:=by exact(kC X B p (.ring o)::wO)):=x
abbrev Oi(x:A:=by exact(.call {callee:=.builtin .len,args:=#[x],argTypes:=#[t]})):=x
abbrev aa9(x:A:=by exact {t with on:=some (.post a (Th.Fa s.notes.length),.ov a)}):=x
abbrev acN(x:A:=by exact(ptr (X.bp j) 0::ptr q 0::bw id::Qq)):=x
abbrev acO(x:A:=by exact(s.imp λg t=>by rw[<-jE];exact Oh i g t)):=x
abbrev acP(x:A:=by exact[(0,.loc),(2,.bI),(1,.c5),(3,.c5),(4,.loc),(5,.loc)]):=x
abbrev YK(x:A:=by exact[fP,ej,fP,fP]):=x
abbrev acQ(x:A:=by exact[ab q 289 [af E,af z,.map (some r)],b3 r .i64 (pg es)]):=x
abbrev I3(x:A:=by exact[1,5,9,13,17,21,25,29,33,38,42,46,3,3,3,42,38,46]):=x
abbrev acR(x:A:=by exact([ab aP 106 eo,ab ar 110 [ptr q 0]]++bl X z s)):=x
abbrev acS(x:A:=by exact([ab aP 110 [ptr q 0],ab ar 106 eo]++bl X z s)):=x
abbrev acT(x:A:=by exact[cL X z s,ax jJ,ax lJ]):=x
abbrev acU(x:A:=by exact(a7 X z.ap z.ai j 0 k I M::c3 X p kH::bl X z s)):=x
abbrev acV(x:A:=by exact[ab aS 110 [ptr q 0],ab Y 87 (fO m),ab q 118 (eg X x e)]):=x
abbrev acW(x:A:=by exact[ab Y 87 (fO m),ab aS 110 [ptr q 0],ab q 118 (eg X x e)]):=x
abbrev XG(x:A:=by exact(ab bn 169 [ptr p 0]::ab b9 36 [bw v]::sg)):=x
abbrev NI(x:A:=by exact[fS X B,cd X B,iR X B,eM X B,nF (X.hK w) X.m (B.cn w) B.eN]):=x
abbrev acX(x:A:=by exact(jk s j t a ⟨what,0,[]⟩ (.each w1 i l.length k))):=x
abbrev acY(x:A:=by exact {s with bc:=PG}):=x
abbrev acZ(x:A:=by exact(b1 rfl (ac0 q r E z c now es av O j) w2)):=x
abbrev ac1(x:A:=by exact(rE 1 (aC.due.take i) (rF 5 6 (bZ.bs.T.map (·.id)) bZ.bc))):=x
abbrev abU(x:A:=by exact[({Th.c7 with kind:=8,dL:=x.id,name:=kind}:bX)]):=x
abbrev Qr(x:A:=by exact[ptr X.h 0,.agg [af I,af ea,af O,S em,af db].toArray]):=x
abbrev Qs(x:A:=by exact[(8,af l),(0,ptr p 0),(1,.func (.func g) #[] C.toArray)]):=x
abbrev NY(x:A:=by exact(λj g _ av=>by rw[getD_replicate_false]at av;cases av)):=x
abbrev ac2(x:A:=by exact(fC (c:=true) (by exact kM T) (my rfl rfl))):=x
abbrev abY(x:A:=by exact {t with on:=some (.eS (r1 id e.vp),.asked id a e k)}):=x
abbrev Ej(x:A:=by exact {x with state:=st.name,slots:=[0,0,0,0],cM:=[]}):=x
abbrev Qt(x:A:=by exact(Qm++tJ)):=x
abbrev ac3(x:A:=by exact[ptr X.h 0,.agg [af 6,af ea,af O,S em,af db].toArray]):=x
abbrev Vx(x:A:=by exact(aH Mq [A,ab b 87 (fO c)])):=x
abbrev wl(x:A:=by exact[1,5,9,13,17,21,25,29,34,38,42,3,3,3,38,34,42]):=x
abbrev YH(x:A:=by exact((.map none)::e2::By)):=x
abbrev ac4(x:A:=by exact⟨hh,hh,by trivial⟩):=x
abbrev acE(x:A:=by exact {Th.c7 with kind:=7,dL:=id,cy:=a,name:=kind}):=x
abbrev ac5(x:A:=by exact((List.range X.C.cB).any λi=>busy s (X.C.a1+i))):=x
abbrev ac6(x:A:=by exact(!t.on.isSome&&t.ij&&!decide I4)):=x
abbrev V3(x:A:=by exact[ab d 26 AF,ab f 78 (eK k),A]):=x
abbrev Yo(x:A:=by exact(if c=i then a else a.map (λx:Addr=>x.add (i*aY)))):=x
abbrev Qu(x:A:=by exact(sw (cF (z,ge,b9,d5,d9,E) trivial (au)) h s)):=x
abbrev ac7(x:A:=by exact(Src.pop j::Src.take::(order d C.bA.bV j).map Src.ms)):=x
abbrev ac8(x:A:=by exact(b1 rfl (tL X z s id 3 q l K bJ aE aL o aM) bF)):=x
abbrev ac9(x:A:=by exact(λh s=>cF (D:=[]) () trivial kG h s)):=x
abbrev XN(x:A:=by exact(if c=1 then a else a.map (λy:Addr=>y.add (1*1)))):=x
abbrev X9(x:A:=by exact(kC X B p ph::wO)):=x
abbrev YD(x:A:=by exact(ej::ej::By)):=x
abbrev sx(x:A:=by exact[ptr aP 0,ptr ar 0,ptr U 0,ptr Z 0,ptr aO 0,ptr aU 0]):=x
abbrev ada(x:A:=by exact[ptr aO 0,ptr aU 0,ptr aS 0,ptr bY 0,ptr Y 0,ptr co 0]):=x
abbrev Nl(x:A:=by exact(b1 rfl (Xe q m b n L t J 1 (b+1) bJ rfl) bF)):=x
abbrev Qv(x:A:=by exact[ab E 213 Ec,e9 X B]):=x
abbrev acJ(x:A:=by exact {Th.c7 with kind:=6,id:=id,to:=l.to,why:=why}):=x
abbrev sy(x:A:=by exact[ptr (X.bp j) 0,ptr q 0,.agg (iz m).toArray,bj I M]):=x
abbrev adb(x:A:=by exact {x with front:=x.front++x.aside.reverse,aside:=[]}):=x
abbrev ade(x:A:=by exact(BE X z s w3 t (q.1) (q.2) cK B)):=x
abbrev adf(x:A:=by exact(ptr X.h 0::af (jT X j)::x::E::IY)):=x
abbrev P3(x:A:=by exact {Th.c7 with kind:=15,n:=((s.now+1:Nat):Int)}):=x
abbrev I1(x:A:=by exact(bg.cons rfl (bg.cons rfl (bg.cons rfl (bg.nil))))):=x
abbrev U5(x:A:=by exact[(16,af k.states.length),(1,ptr ar 0),(2,ptr U 0)]):=x
abbrev abg(x:A:=by exact[e2,e2,e2]):=x
abbrev Oc(x:A:=by exact[ej,ej,nK]):=x
abbrev YM(x:A:=by exact(fP::.nilFunc::By)):=x
abbrev adg(x:A:=by exact(sw (cF (z,c,aC,Z,J) trivial (au)) h s)):=x
abbrev aap(x:A:=by exact[gX X,gd X,ax ((de X z.ap z.ai s.az).set j ft)]):=x
abbrev Gd(x:A:=by exact⟨k.name,k.limit,k.within,cr,c1,k.cases,cD,bn,z⟩):=x
abbrev Wv(x:A:=by exact(λh s=>Sat.tail (λh s=>anC h s) ((au) h s))):=x
abbrev Ww(x:A:=by exact⟨.take left Dk,0,0,[],cut,ref⟩):=x
abbrev rv(x:A:=by exact(λ_=>hq)):=x
abbrev Of(x:A:=by exact[(0,1),(1,1),(2,1),(3,1),(4,1),(5,1),(6,1)]):=x
abbrev Qw(x:A:=by exact(kd cc gA (λD h s=>by rwa[jE]))):=x
abbrev adh(x:A:=by exact[ax (e5 X ap aJ),ax (dZ X),ax BF]):=x
abbrev acg(x:A:=by exact {t with on:=some (.add 1 1,.me a kind slot k)}):=x
abbrev P8(x:A:=by exact {Th.c7 with kind:=9,dL:=x.id,name:=reason}):=x
abbrev abW(x:A:=by exact(Th.dU x.given m.who++[Th.ht w4])):=x
abbrev adi(x:A:=by exact[.agg (pY c bL pc K ea cA es r).toArray,.int .u8 rd]):=x
abbrev oD(x:A:=by exact[.slice a L.length c,.func (.func Z) #[] z.toArray]):=x
abbrev Nn(x:A:=by exact(b1 rfl (Xe q m b n L t J 0 (b) bJ rfl) bF)):=x
abbrev X8(x:A:=by exact⟨.o9 si,(j4 B.b B.bV L o).out,0⟩):=x
abbrev MI(x:A:=by exact(hz cr cS cut::hz cD cd ref::AH)):=x
abbrev Il(x:A:=by exact {w with heap:=w.heap.setIfInBounds r (.map f c)}):=x
abbrev Qx(x:A:=by exact(a7 X z.ap z.ai j 0 k I M::ia X z s (x.id) q x e)):=x
abbrev I5(x:A:=by exact {s with az:=s.az.set j zb}):=x
abbrev Wx(x:A:=by exact⟨.tick ((w.now+1:Nat):Int),0,0,[],cut,ref⟩):=x
abbrev Ob(x:A:=by exact[ej,e2,e2]):=x
abbrev BG(x:A:=by exact⟨v.1.mono h,v.2.1.mono h,cV.mono v.2.2.1,v.2.2.2⟩):=x
abbrev adj(x:A:=by exact⟨h.num.nl,h.num.pu,h.num.dp,h.num.mD,h.num.mF⟩):=x
abbrev adk(x:A:=by exact⟨h.1,h.2,λ_=>⟨trivial,rfl⟩,λ_=>trivial⟩):=x
abbrev WX(x:A:=by exact(⟨some d,op,bD,pos,J,some (j,R)⟩::rest)):=x
abbrev PL(x:A:=by exact[a7 X z.ap z.ai j 0 k I M,c3 X p kH]):=x
abbrev ML(x:A:=by exact[tm X B p cut ref (.take left o),pN X B L t w]):=x
abbrev rD(x:A:=by exact[bj 207 I6]):=x
abbrev zc(x:A:=by exact[ptr aP 0,ptr ar 0,ptr U 0,ptr Z 0,ptr aO 0]):=x
abbrev iJ(x:A:=by exact(a7 X z.ap z.ai j 0 k I M::ia X z s a q x e)):=x
abbrev sz(x:A:=by exact {z with cI:=aI,cJ:=aQ,na:=cD,fq:=bn}):=x
abbrev Qy(x:A:=by exact {z with ap:=z.ap++[i],cI:=aI,cJ:=aQ}):=x
abbrev L7(x:A:=by exact(gz rfl (rT gy 2 rf q rfl))):=x
abbrev Gy(x:A:=by exact[.slice a i c,.func (.func Z) #[] z.toArray]):=x
abbrev Ek(x:A:=by exact(rF 5 6 ((bZ.bs.T.map (·.id)).take i) bZ.bc)):=x
abbrev HY(x:A:=by exact(fP::By)):=x
abbrev Bj(x:A:=by exact[fP,ej,og]):=x
abbrev El(x:A:=by exact⟨rfl,rfl,rfl,rfl,rfl,rfl,λh=>h,rfl⟩):=x
abbrev Qz(x:A:=by exact(v.resolve_right (fun⟨_,e⟩=>by cases e))):=x
abbrev zd(x:A:=by exact(af i::I6)):=x
abbrev PG(x:A:=by exact(x.aside.foldl (λr id=>du r id 4) s.bc)):=x
abbrev x2(x:A:=by exact[.agg (eK k).toArray,S state,S tag,af n]):=x
abbrev wO(x:A:=by exact(ch X.m L t::jR)):=x
abbrev N6(x:A:=by exact[nK,e2]):=x
abbrev I7(x:A:=by exact[ptr (X.bp j) 0,ptr q 0,S reason,bj I M]):=x
abbrev I8(x:A:=by exact⟨b8,none,0,none,0,d,g,c,j,[]⟩):=x
abbrev I9(x:A:=by exact(arE e.b8 m.reason (gO e.b8) g7)):=x
abbrev QA(x:A:=by exact(λh s=>iV h (wR h ((au) h s)))):=x
abbrev hq(x:A:=by exact(λh s=>Sat.swap (arF ((au) h s) rfl))):=x
abbrev Bi(x:A:=by exact(og::By)):=x
abbrev QB(x:A:=by exact(fI rfl rfl (show j<l.length by omega))):=x
abbrev Ja(x:A:=by exact[(0,ptr aP 0),(1,ptr ar 0),(2,ptr U 0)]):=x
abbrev Em(x:A:=by exact(af I::af (i:Int)::Jb)):=x
abbrev GA(x:A:=by exact(λx ah=>hp x (QC ah))):=x
abbrev tr(x:A:=by exact(λD=>cF x trivial kG)):=x
abbrev En(x:A:=by exact[ptr (X.bp j) 0,ptr q 0,bw id,bj I M]):=x
abbrev Jc(x:A:=by exact {t1 with on:=some ((acc X.C s1 o).2,k)}):=x
abbrev QD(x:A:=by exact(af 1::af (j:Int)::Jb)):=x
abbrev NV(x:A:=by exact(xs.take (k*z.size)++iH U (q+1))):=x
abbrev QE(x:A:=by exact {x with watched:=Th.oq x.watched who}):=x
abbrev Eo(x:A:=by exact[.agg (pY c bL pc K ea cA es r).toArray]):=x
abbrev wj(x:A:=by exact(lv X kO (fQ cr cS cut) (fQ cD cd ref))):=x
abbrev MV(x:A:=by exact(aH kO G3)):=x
abbrev Hd(x:A:=by exact(⟨some d,op,bD,pos,J,none⟩::rest)):=x
abbrev N9(x:A:=by exact[nK,ej]):=x
abbrev QF(x:A:=by exact(allM X z j aP ar U ea cA l what k I M)):=x
abbrev QG(x:A:=by exact {x with cM:=x.cM++[(b:Int)]}):=x
abbrev Jd(x:A:=by exact {t with on:=some ((acc X.C s o).2,k)}):=x
abbrev Je(x:A:=by exact[ptr Ep 0,.nilFunc]):=x
abbrev QH(x:A:=by exact(Jf J cT cH r ae al h.inv cK B W h1)):=x
abbrev Mh(x:A:=by exact(if L.getD i 0=x then L.set i v else L)):=x
abbrev MW(x:A:=by exact(aH kO G4)):=x
abbrev DA(x:A:=by exact(fk ((b+w:Nat):Int) eZ rfl rfl)):=x
abbrev Np(x:A:=by exact(fk ((b+1:Nat):Int) eZ rfl rfl)):=x
abbrev H4(x:A:=by exact(λv H=>∃L,post v L/\H=L++D)):=x
abbrev Qd(x:A:=by exact[ab J 36 ((om R).map bw),e9 X B]):=x
abbrev qy(x:A:=by exact[cL X z s,ax lJ]):=x
abbrev QI(x:A:=by exact(λe=>by simp only[gU]at e;omega)):=x
abbrev IU(x:A:=by exact {Th.c7 with kind:=14,dL:=x.id}):=x
abbrev la(x:A:=by exact(a7 X z.ap z.ai j 0 k I M::bl X z s)):=x
abbrev PX(x:A:=by exact {Th.c7 with kind:=12,dL:=x.id}):=x
abbrev Qf(x:A:=by exact {Th.c7 with kind:=11,dL:=x.id}):=x
abbrev M4(x:A:=by exact(⟨none,op,bD,pos,J,none⟩::rest)):=x
abbrev HG(x:A:=by exact⟨st.os,st.tape,st.output,st.size,ah⟩):=x
abbrev Bk(x:A:=by exact[(0,1),(1,1),(2,1),(3,1),(4,1)]):=x
abbrev Iq(x:A:=by exact(λx ah=>qd.1 h1 x ah)):=x
abbrev QJ(x:A:=by exact[ptr ge 0,ptr b9 0,ptr d5 0,ptr d9 0]):=x
abbrev Jg(x:A:=by exact[ptr ay 0,ptr aV 0,ptr bz 0,ptr dh 0]):=x
abbrev QK(x:A:=by exact(.cons (.tail .head) nA)):=x
abbrev I6(x:A:=by exact[ptr d2 0,ptr d3 0,ptr cn 0,ptr dS 0]):=x
abbrev QL(x:A:=by exact[bj 304 l3]):=x
abbrev tI(x:A:=by exact(x.watched.map λw=>(w,.bool true))):=x
abbrev BH(x:A:=by exact[ptr aP 0,ptr ar 0,ptr U 0,ptr Z 0]):=x
abbrev Jh(x:A:=by exact(eV (cf z.ap) (id:Int) (ptr f 0))):=x
abbrev ND(x:A:=by exact(λD=>cF x ah kG)):=x
abbrev QM(x:A:=by exact(fC (c:=false) arA (my rfl rfl))):=x
abbrev QN(x:A:=by exact(λu H=>u=.bool true/\H=[a2])):=x
abbrev GZ(x:A:=by exact(lV (dO (B.b+1) B.n L o).value w)):=x
abbrev Nz(x:A:=by exact(fC (c:=true) ry (my rfl rfl))):=x
abbrev HF(x:A:=by exact[(0,ptr m 0),(1,af b),(2,af n)]):=x
abbrev Ji(x:A:=by exact(ch m L t::ze)):=x
abbrev Qg(x:A:=by exact {Th.c7 with kind:=13,dL:=a}):=x
abbrev Jj(x:A:=by exact(Sat.tail (λh E=>Sat.flat.1 E) E)):=x
abbrev QO(x:A:=by exact {x with slots:=x.slots.set slot 0}):=x
abbrev BC(x:A:=by exact[c3 X p o,a7 X z.ap z.ai j p k f c]):=x
abbrev Ec(x:A:=by exact[ptr (X.r true) 0,ptr (X.r false) 0]):=x
abbrev zf(x:A:=by exact(.tail (.tail (.tail (.tail .head))))):=x
abbrev Qm(x:A:=by exact[af i,bj 208 sA]):=x
abbrev wY(x:A:=by exact((e5 X z.ap s.aJ).set (a -1) ft)):=x
abbrev QP(x:A:=by exact(1<=O/\O<=(s.aJ.length:Int))):=x
abbrev QQ(x:A:=by exact[ax lJ,gX X]):=x
abbrev QR(x:A:=by exact(λh s=>Er (D:=[]) al h arB)):=x
abbrev NS(x:A:=by exact(.cells (xs++dx).toArray e (0,0))):=x
abbrev lK(x:A:=by exact[ptr (X.bp j) 0,ptr q 0,bj I M]):=x
abbrev QS(x:A:=by exact[gi e.gK X.C.dY x.aside x.front]):=x
abbrev Jk(x:A:=by exact(jt Tryz.underlying248 rfl rfl)):=x
abbrev QT(x:A:=by exact(.each (.l9 a) i n (.parent a k))):=x
abbrev QU(x:A:=by exact {x with front:=x.front.dropLast}):=x
abbrev QV(x:A:=by exact(if aC.over then z.tt else fZ z.tt)):=x
abbrev CV(x:A:=by exact(i∈R->∀h,Sat H h->Sat N h)):=x
abbrev BI(x:A:=by exact(dO sB sC L o)):=x
abbrev tM(x:A:=by exact⟨v.1.mono h,cV.mono v.2.1,v.2.2⟩):=x
abbrev QW(x:A:=by exact {x with front:=[],aside:=[]}):=x
abbrev Jl(x:A:=by exact(s.az.set j {t with on:=none})):=x
abbrev jl(x:A:=by exact⟨al.gL,al.gD,al.gE,al.ap,al.ai⟩):=x
abbrev Es(x:A:=by exact[ptr (X.bp j) 0,ptr q 0,af left]):=x
abbrev CK(x:A:=by exact(.slice k.sa k.states.length k.sc)):=x
abbrev x1(x:A:=by exact(λx=>decide (x.name=state))):=x
abbrev Mq(x:A:=by exact(.bool (decide (d.name=c.name)))):=x
abbrev Gz(x:A:=by exact(aH (.bool ((L.take i).any q)) I)):=x
abbrev M0(x:A:=by exact⟨.take left o,0,0,[],cut,ref⟩):=x
abbrev Oa(x:A:=by exact[ej,e2]):=x
abbrev Bs(x:A:=by exact(λp=>(Value.int d6 p.1,p.2))):=x
abbrev QX(x:A:=by exact {s with trace:=s.trace++[e]}):=x
abbrev Qq(x:A:=by exact[.agg (fO e).toArray,bj I M]):=x
abbrev Jm(x:A:=by exact {s with notes:=s.notes++[m]}):=x
abbrev QY(x:A:=by exact(Th.dd s a {x with mode:=3})):=x
abbrev PO(x:A:=by exact(pY (l4 C) bL pc K ea cA es 0)):=x
abbrev Ah(x:A:=by exact(.slice k.ca k.cases.length k.km)):=x
abbrev Gn(x:A:=by exact([.agg (jN x).toArray]++z)):=x
abbrev Gp(x:A:=by exact([.agg (eK x).toArray]++z)):=x
abbrev Gq(x:A:=by exact([.agg (gy x).toArray]++z)):=x
abbrev Gr(x:A:=by exact([.agg (hs x).toArray]++z)):=x
abbrev w5(x:A:=by exact(dO (B.eR true) (B.fg true) L o)):=x
abbrev QZ(x:A:=by exact(l0 (ptr q 0) ZM rfl rfl)):=x
abbrev Q0(x:A:=by exact[eC X.bG X.m X.C.bG X.C.aZ]):=x
abbrev P0(x:A:=by exact {x with mode:=1,cM:=[]}):=x
abbrev Jn(x:A:=by exact(de X vc z.ai s.az)):=x
abbrev BJ(x:A:=by exact(λx=>decide (x.name=kind))):=x
abbrev L2(x:A:=by exact(.slice s.ra s.rows.length s.rc)):=x
abbrev G3(x:A:=by exact[cU p x y 0 0 (lv X E z lx)]):=x
abbrev jR(x:A:=by exact[fS X B,cd X B,iR X B,eM X B]):=x
abbrev DU(x:A:=by exact[(0,1),(1,1),(2,1),(3,1)]):=x
abbrev Q1(x:A:=by exact(λ_ e=>by simp[k4]at e)):=x
abbrev Jo(x:A:=by exact {(acc C s o).1 with az:=dk}):=x
abbrev G4(x:A:=by exact[tm X B p aC.cut aC.ref aC.ph]):=x
abbrev nH(x:A:=by exact(λ_=>pd)):=x
abbrev wZ(x:A:=by exact(λ_ h=>by simp[BK]at h)):=x
abbrev Jp(x:A:=by exact[.agg #[.slice bL K.length pc]]):=x
abbrev Jq(x:A:=by exact(.slice E.1.1 E.2.length E.1.2)):=x
abbrev Gh(x:A:=by exact(.slice cD k.states.length bn)):=x
abbrev yn(x:A:=by exact[ptr c1 0,ptr bn 0,ptr b9 0]):=x
abbrev GY(x:A:=by exact(cF () trivial (au) h s)):=x
abbrev By(x:A:=by exact[ej,ej]):=x
abbrev HZ(x:A:=by exact[og,gR]):=x
abbrev Jr(x:A:=by exact(101::14::uL)):=x
abbrev Js(x:A:=by exact[ptr ay 0,ptr aV 0,ptr bz 0]):=x
abbrev l3(x:A:=by exact[ptr aP 0,ptr ar 0,ptr U 0]):=x
abbrev BL(x:A:=by exact(λe=>by simp[nB]at e)):=x
abbrev oS(x:A:=by exact(min (max e.b8.within 1) 4095)):=x
abbrev Et(x:A:=by exact {e with hP:=none,hQ:=0}):=x
abbrev rG(x:A:=by exact[ax lJ]):=x
abbrev Eu(x:A:=by exact(aH (.bool (mS e.tag)) [])):=x
abbrev Al(x:A:=by exact⟨false,[],state,false,[]⟩):=x
abbrev MM(x:A:=by exact⟨ph,out,val,due,cut,ref⟩):=x
abbrev Hp(x:A:=by exact[kP q m b n,jc p q b o]):=x
abbrev DH(x:A:=by exact(if o.over then t else fZ t)):=x
abbrev rz(x:A:=by exact⟨some d,op,bD,pos,J,g⟩):=x
abbrev Ev(x:A:=by exact {z with na:=aI,fq:=aQ}):=x
abbrev Jt(x:A:=by exact(lF X.C.bG X.C.aZ x y)):=x
abbrev h3(x:A:=by exact {z with cI:=aI,cJ:=aQ}):=x
abbrev zg(x:A:=by exact {z with cI:=cI,cJ:=cJ}):=x
abbrev Ju(x:A:=by exact(a7 X ap ai j p k I M::a2)):=x
abbrev Nc(x:A:=by exact⟨⟨Na d4,rfl,d4⟩,rfl⟩):=x
abbrev oR(x:A:=by exact(min (max e.b8.limit 0) 100)):=x
abbrev sD(x:A:=by exact⟨ba,C z s k y I M al ag⟩):=x
abbrev IY(x:A:=by exact[bw t.draw,.bool t.ij]):=x
abbrev zh(x:A:=by exact[mB p now seq z,oj z]):=x
abbrev Mb(x:A:=by exact⟨none,op,bD,pos,J,g⟩):=x
abbrev HR(x:A:=by exact(.region id l.toArray true)):=x
abbrev Q2(x:A:=by exact⟨.put true (gU 0 v),0,0⟩):=x
abbrev Jv(x:A:=by exact(dO (B.eR r) (B.fg r) L o)):=x
abbrev Eh(x:A:=by exact {z with cI:=a,cJ:=c}):=x
abbrev w0(x:A:=by exact(.iface (nL o) (ptr p 0))):=x
abbrev BM(x:A:=by exact⟨rfl,cj,aD,ah,d7,rfl⟩):=x
abbrev AF(x:A:=by exact([.slice bL bq.length pc])):=x
abbrev pR(x:A:=by exact⟨λv w=>by kernel_rfl⟩):=x
abbrev ze(x:A:=by exact[gb r m b n,iY p r o]):=x
abbrev BN(x:A:=by exact(l.filter (λx=>!q x))):=x
abbrev Jw(x:A:=by exact(Go.L.ax (e5 X ap aJ))):=x
abbrev IM(x:A:=by exact(Th.gF x.timers m.name)):=x
abbrev Ew(x:A:=by exact⟨λp w=>by kernel_rfl⟩):=x
abbrev Jx(x:A:=by exact[ptr (X.bp j) 0,ptr ar 0]):=x
abbrev Ao(x:A:=by exact(.loop (rec .ready none))):=x
abbrev C3(x:A:=by exact(aH (.bool (L.any q)) I)):=x
abbrev pP(x:A:=by exact(mv rfl rfl rfl rfl)):=x
abbrev pQ(x:A:=by exact(rU rfl rfl rfl Pj)):=x
abbrev nK(x:A:=by exact(.string ByteArray.empty)):=x
abbrev Ik(x:A:=by exact(λe=>(e.key,e.val))):=x
abbrev Ex(x:A:=by exact⟨rfl,by rw[a8 W]⟩):=x
abbrev Jy(x:A:=by exact(js R)):=x
abbrev qz(x:A:=by exact[ptr (X.bp j) 0,ptr q 0]):=x
abbrev y8(x:A:=by exact(λ_ h=>by simp at h)):=x
abbrev qA(x:A:=by exact(λx ah=>by cases ah)):=x
abbrev Jz(x:A:=by exact(λ_ _ e=>by cases e)):=x
abbrev zi(x:A:=by exact(λv Y=>by cases Y)):=x
abbrev y7(x:A:=by exact(js ah)):=x
abbrev w3(x:A:=by exact(X.C.a1+X.C.cB)):=x
abbrev JA(x:A:=by exact(N++dp.reverse.take k)):=x
abbrev JB(x:A:=by exact(jw z (8*l+s)+i)):=x
abbrev Gj(x:A:=by exact⟨s.name,a3,b9,s.rows⟩):=x
abbrev An(x:A:=by exact(λC=>absurd C bJ)):=x
abbrev C0(x:A:=by exact(0<=r↔L.any q=true)):=x
abbrev Gx(x:A:=by exact(.slice bL bq.length pc)):=x
abbrev AH(x:A:=by exact[gm X B,fJ X.wp w]):=x
abbrev Dg(x:A:=by exact[ptr p 0,bw id,af d]):=x
abbrev Dl(x:A:=by exact⟨.now,0,0,[],[],[]⟩):=x
abbrev sg(x:A:=by exact[fS X B,cd X B,iR X B]):=x
abbrev DO(x:A:=by exact(jb (B.cn w) B.eN L o)):=x
abbrev sq(x:A:=by exact[(0,1),(1,1),(2,1)]):=x
abbrev D6(x:A:=by exact(λp=>(oA p.1,p.2))):=x
abbrev lJ(x:A:=by exact(de X z.ap z.ai s.az)):=x
abbrev Ey(x:A:=by exact(1<=b/\b<=X.C.aZ)):=x
abbrev Ep(x:A:=by exact(X.bp (X.C.a1+i))):=x
abbrev zb(x:A:=by exact {t with draw:=eU db}):=x
abbrev I4(x:A:=by exact(s.L.getD (2+i) 0=0)):=x
abbrev CL(x:A:=by exact(k.states.flatMap gy)):=x
abbrev Dk(x:A:=by exact(dO (B.b+1) B.n L o)):=x
abbrev wo(x:A:=by exact(ly (B.b+1) B.n L o)):=x
abbrev AL(x:A:=by exact[ptr m 0,af b,af n]):=x
abbrev Hw(x:A:=by exact[ptr q 0,af x,af y]):=x
abbrev BO(x:A:=by exact[.slice bL K.length pc]):=x
abbrev BP(x:A:=by exact(aH (af (fix q L)) I)):=x
abbrev hh(x:A:=by exact(λh=>by simp at h)):=x
abbrev Ez(x:A:=by exact⟨rfl,by simp,by simp⟩):=x
abbrev vd(x:A:=by exact(λx e=>by cases e)):=x
abbrev JC(x:A:=by exact {x with state:=b}):=x
abbrev JD(x:A:=by exact[fJ p (rj w id d)]):=x
abbrev vQ(x:A:=by exact(k.cases.flatMap jN)):=x
abbrev Hi(x:A:=by exact⟨by decide,by decide⟩):=x
abbrev DX(x:A:=by exact(s.imp λ_=>hp.to)):=x
abbrev Bt(x:A:=by exact(.binOp .neq t x y dk)):=x
abbrev Bu(x:A:=by exact(.binOp .eql t x y dk)):=x
abbrev ve(x:A:=by exact[cU p x y out val bo]):=x
abbrev JE(x:A:=by exact⟨pc,0,val,tick,db⟩):=x
abbrev JF(x:A:=by exact⟨pc,0,v,t,e,fK⟩):=x
abbrev IQ(x:A:=by exact[gk X,gX X,gd X]):=x
abbrev Jb(x:A:=by exact[af O,S em,af db]):=x
abbrev y6(x:A:=by exact(.slice a I.length c)):=x
abbrev JG(x:A:=by exact(.slice d l.length e)):=x
abbrev vP(x:A:=by exact(AV P F fn post D e)):=x
abbrev yd(x:A:=by exact(.deferred (some []))):=x
abbrev kL(x:A:=by exact(.slice a L.length c)):=x
abbrev lr(x:A:=by exact(aH (.bool (q x)) I)):=x
abbrev wq(x:A:=by exact(λh=>by cases h)):=x
abbrev uL(x:A:=by exact[201,2,101,2,201]):=x
abbrev EA(x:A:=by exact(EB bJ x y (au))):=x
abbrev pk(x:A:=by exact⟨V.b8,V.lc,V.es⟩):=x
abbrev EC(x:A:=by exact(λh E=>(au) h E)):=x
abbrev JH(x:A:=by exact(some ⟨E,0,none⟩)):=x
abbrev uF(x:A:=by exact⟨by omega,by omega⟩):=x
abbrev Dr(x:A:=by exact(λ_ _=>.inl ga)):=x
abbrev pd(x:A:=by exact(λ_ _=>trivial)):=x
abbrev Ht(x:A:=by exact⟨3,false,tt,v,0⟩):=x
abbrev wN(x:A:=by exact(iw B.ed B.na L o)):=x
abbrev Eb(x:A:=by exact[(r5:c9)]):=x
abbrev BB(x:A:=by exact {x with mode:=4}):=x
abbrev rH(x:A:=by exact {x with mode:=2}):=x
abbrev sA(x:A:=by exact[ptr dS 0,ptr O 0]):=x
abbrev tJ(x:A:=by exact[ptr aP 0,ptr ar 0]):=x
abbrev ED(x:A:=by exact(aH eu I)):=x
abbrev nM(x:A:=by exact(At.mk' al b7 ah bm)):=x
abbrev w6(x:A:=by exact(aH h6 [])):=x
abbrev j0(x:A:=by exact(some qs)):=x
abbrev uK(x:A:=by exact(JI rfl rfl)):=x
abbrev Hu(x:A:=by exact⟨3,true,tt,v,0⟩):=x
abbrev si(x:A:=by exact(j4 B.b B.bV L o)):=x
abbrev DT(x:A:=by exact[e2]):=x
abbrev w7(x:A:=by exact[ptr (X.bo a).bo 0]):=x
abbrev EE(x:A:=by exact(.post a Th.xI)):=x
abbrev jJ(x:A:=by exact(e5 X z.ap s.aJ)):=x
abbrev vf(x:A:=by exact(ia X z s a q x e)):=x
abbrev CW(x:A:=by exact((h v H hp).1 C)):=x
abbrev nA(x:A:=by exact(.cons .head .nil)):=x
abbrev AN(x:A:=by exact[cU p x y 0 0 bo]):=x
abbrev AW(x:A:=by exact((d,undef)::I)):=x
abbrev zj(x:A:=by exact[bw (iK false)]):=x
abbrev EF(x:A:=by exact[gi q E dp N]):=x
abbrev JJ(x:A:=by exact⟨jG,ee,t,v,0⟩):=x
abbrev dX(x:A:=by exact(ct X (some y))):=x
abbrev vg(x:A:=by exact(.yes rfl rfl W)):=x
abbrev yv(x:A:=by exact(aj.put undef aL)):=x
abbrev wI(x:A:=by exact(gz rfl rfl)):=x
abbrev DI(x:A:=by exact⟨1,ee,tt,v,0⟩):=x
abbrev e2(x:A:=by exact(.slice none 0 0)):=x
abbrev ng(x:A:=by exact[fP]):=x
abbrev Bl(x:A:=by exact(.agg ce.toArray)):=x
abbrev JK(x:A:=by exact[ptr p 0,bw id]):=x
abbrev Zg(x:A:=by exact[ptr p 0,rA id]):=x
abbrev u6(x:A:=by exact⟨rfl,rfl,B.ap⟩):=x
abbrev k9(x:A:=by exact(gj z.ai s.lets)):=x
abbrev nk(x:A:=by exact(BA X s false)):=x
abbrev Aj(x:A:=by exact[ab ay 9 [S w]]):=x
abbrev wg(x:A:=by exact(adl rfl rfl)):=x
abbrev se(x:A:=by exact(o_load rfl rfl)):=x
abbrev BQ(x:A:=by exact[fY X B p V]):=x
abbrev zk(x:A:=by exact(.slice aI n aQ)):=x
abbrev BF(x:A:=by exact(de X ap ai l)):=x
abbrev eo(x:A:=by exact[ptr (X.bp j) 0]):=x
abbrev zl(x:A:=by exact(λ_=>.same)):=x
abbrev zm(x:A:=by exact(λ_ _ e=>e)):=x
abbrev kI(x:A:=by exact[ec,s1,bP,bZ]):=x
abbrev tN(x:A:=by exact(BA X y true)):=x
abbrev vW(x:A:=by exact(.map (some r))):=x
abbrev fP(x:A:=by exact(.pointer none)):=x
abbrev wM(x:A:=by exact[gV X B p c]):=x
abbrev EG(x:A:=by exact⟨.qJ R,0,0⟩):=x
abbrev tO(x:A:=by exact(Th.dd s a x)):=x
abbrev zn(x:A:=by exact(λ_=>True)):=x
abbrev vh(x:A:=by exact(λ_=>(au))):=x
abbrev q8(x:A:=by exact⟨b,bO,none⟩):=x
abbrev r3(x:A:=by exact[iZ X B p aC]):=x
abbrev kG(x:A:=by exact(λh s=>s)):=x
abbrev oL(x:A:=by exact((d,v)::I)):=x
abbrev pa(x:A:=by exact⟨ph,out,val⟩):=x
abbrev wF(x:A:=by exact[jc p q b o]):=x
abbrev w8(x:A:=by exact(.slice a n c)):=x
abbrev w9(x:A:=by exact[.slice a n c]):=x
abbrev w1(x:A:=by exact(.push l what)):=x
abbrev w4(x:A:=by exact(Th.qT aC.val)):=x
abbrev qB(x:A:=by exact(λh E=>E)):=x
abbrev zo(x:A:=by exact(Th.xK J)):=x
abbrev yb(x:A:=by exact(lo×Value)):=x
abbrev AJ(x:A:=by exact⟨p,rfl,rfl⟩):=x
abbrev gR(x:A:=by exact(.bool false)):=x
abbrev rr(x:A:=by exact(aj.put v aL)):=x
abbrev wJ(x:A:=by exact(u2 rfl)):=x
abbrev ej(x:A:=by exact(.int .i64 0)):=x
abbrev og(x:A:=by exact(.int .u64 0)):=x
abbrev qC(x:A:=by exact(.iface T J)):=x
abbrev qD(x:A:=by exact[ax (dZ X)]):=x
abbrev vc(x:A:=by exact(z.ap++[b])):=x
abbrev vi(x:A:=by exact(BA X y b)):=x
abbrev ni(x:A:=by exact(K.map dr)):=x
abbrev ur(x:A:=by exact[ch p L t]):=x
abbrev qs(x:A:=by exact⟨b,0,none⟩):=x
abbrev eu(x:A:=by exact(.tuple #[])):=x
abbrev h6(x:A:=by exact(.bool true)):=x
abbrev wu(x:A:=by exact[ch m L t]):=x
abbrev qn(x:A:=by exact(h a w aj s)):=x
abbrev uI(x:A:=by exact(Sat.drop s)):=x
abbrev uJ(x:A:=by exact⟨ph,0,val⟩):=x
abbrev pb(x:A:=by exact(j6 rfl)):=x
abbrev wH(x:A:=by exact(tC rfl)):=x
abbrev pj(x:A:=by exact(.map #[] 0)):=x
abbrev tK(x:A:=by exact[ptr X.bo 0]):=x
abbrev sB(x:A:=by exact(B.eR false)):=x
abbrev sC(x:A:=by exact(B.fg false)):=x
abbrev xa(x:A:=by exact(cb.iq true)):=x
abbrev xb(x:A:=by exact(bj Z z)):=x
abbrev tP(x:A:=by exact(.alone a k)):=x
abbrev kH(x:A:=by exact(.post b V)):=x
abbrev xc(x:A:=by exact[kF C P h s]):=x
abbrev dI(x:A:=by exact⟨rfl,rfl⟩):=x
abbrev r5(x:A:=by exact⟨0,0,[]⟩):=x
abbrev sl(x:A:=by exact⟨ph,0,0⟩):=x
abbrev wP(x:A:=by exact⟨aV,rfl⟩):=x
variable(k:P)
def arG(h:Q:=by
 show(acc C s o).1.L.getD 0 0=_;rw[gr,h.num.nl];cases o<;>rfl):=h
def Xt(h:Q:=by
 exact aX ⟨rfl,rfl⟩ (by simp only[lC,jO];exact(au))):=h
def adm(h:Q:=by
 rw[ix,JL];split<;>rfl):=h
def adn(h:Q:=by
 simp only[cL,qE,eL,iE,lp];rfl):=h
def UQ(h:Q:=by
 exact⟨av,ay,h.st,h.dx,h.uk,Nat.le_succ_of_le h.len,λh=>by omega⟩):=h
def ado(h:Q:=by
 exact Q3 λact i g0 st=>⟨_,_,aS,bY,a,g0.jv dy,st.imp (au)⟩):=h
def arH(h:Q:=by
 refine jh (.inl rfl) rfl rfl [fJ p w] (⟨rfl,rfl⟩) (xd z K (au))):=h
def adp(h:Q:=by
 rw[ay]at aV;simp only[List.cons.injEq,Value.slice.injEq,and_true]at aV;omega):=h
def adq(h:Q:=by
 exact aX ⟨rfl,d,f,rfl⟩ aag):=h
def adr(h:Q:=by
 exact aX ⟨rfl,a22,b,rfl⟩ aag):=h
def arI(h:Q:=by
 rw[ix,lu,<-h,List.getElem?_concat_length];rfl):=h
def W6(h:Q:=by
 rw[Wl R,Int.toNat_of_nonneg (Int.emod_nonneg _ ae)]):=h
def UR(h:Q:=by
 exact⟨av,ay,h.st,h.dx,h.uk,by have:=h.len;simp;omega,λh=>by omega⟩):=h
def Yr(h:Q:=by
 rw[oK (by simpa using x),oK (by rw[Ba];exact x)]):=h
def Q4(h:Q:=by
 exact⟨s,false,rfl,h.aT (im _) aM⟩):=h
def WR(h:Q:=by
 exact⟨λ_=>⟨WO bJ ae,rfl,rfl⟩,(show 0+0+0<=64 by decide),fz⟩):=h
def JM(h:Q:=by
 exact aX ⟨rfl,cj,d7,rfl⟩):=h
def Xb(h:Q:=by
 exact aX ⟨by obtain⟨jG,ee,tt,v,out⟩:=o;unfold hJ.value;cases ee<;>simp_all[Hg],rfl⟩):=h
def Md(h:Q:=by
 exact aX ⟨rfl,rfl⟩ (Ap a c rfl rfl (au))):=h
def GQ(h:Q:=by
 exact aX ⟨_,_,_,_,rfl,rfl⟩):=h
def ads(h:Q:=by
 have:=pW (2+C.eI) (show w+1<=C.a1 from O);rwa[nc,vj]at this):=h
def arJ(h:Q:=by
 simp only[tA,zp,sE,not_or]at aF;exact Decidable.not_not.1 aF.2):=h
def HB(h:Q:=by
 rwa[nc,vj]at this):=h
def adt(h:aR P Q:=by
 intro G
 first|refine kb (Ir rfl rfl rfl rfl h5 ga) ?_|refine kb (Pe rfl rfl rfl rfl rfl) ?_
 exact G.o):=h ⟨k⟩
def adu(h:aR P Q:=by
 intro G;refine go_u rfl .none (mv rfl rfl rfl (by rw[PB,hlen];simp[yx];omega)) (λC=>absurd C bJ) ?_;exact G.o):=h ⟨k⟩
def JN(h:Q:=by
 exact aF.dF h hk aL ae ae):=h
def arK(h:aR P Q:=by
 intro G
 first|refine kb (mv rfl rfl rfl rfl) ?_|refine kb (rU rfl rfl rfl Pj) ?_
 exact G.o):=h ⟨k⟩
def WC(h:Q:=by
 exact aX ⟨by unfold Dm;first|(rw[bd ae];done)|(rw[bd ae])|(rw[a8 ae]),rfl⟩):=h
def F9(h:Q:=by
 exact aX ⟨by simp_all[qc],rfl⟩):=h
def adv(h:Q:=by
 exact⟨(λe=>by simp[o8]at e),(λx ah=>by cases ah),(λx ah=>by cases ah),(λx ah=>by cases ah),eX _⟩):=h
def Q5(h:aR P Q:=by
 intro G;refine aB rfl (fC (c:=true) (by simp[bf]) (mo rfl rfl)) ?_;exact G.o):=h ⟨k⟩
def L9(h:aR P Q:=by
 intro G;refine aB rfl (kv rfl (kw eK 5 Df i7) rfl) ?_;exact G.o):=h ⟨k⟩
def GB(h:Q:=by
 rwa[n0,De ak]at h):=h
def Q6(h:aR P Q:=by
 intro G;refine go_v rfl .none rfl (fI rfl rfl (show i<l.length by omega)) ?_;exact G.o):=h ⟨k⟩
def Q7(h:aR P Q:=by
 intro G
 first|refine aB rfl (Yz rfl) ?_|refine aB rfl (NZ rfl) ?_
 exact G.o):=h ⟨k⟩
def Q8(h:Q:=by
 exact aX ⟨by unfold lW;congr 1;split<;>simp at*<;>omega,rfl⟩):=h
def adw(h:Q:=by
 exact aX ⟨by rw[aj];first|(rw[arh ae];rfl)|(rw[arf aF ZO];rfl),rfl⟩):=h
def CN(h:Q:=by
 exact aX ⟨by simp_all[nt],rfl⟩):=h
def adx(h:aR P Q:=by
 intro G;have d:1<=e.b/\e.b<=s.aJ.length:=by
  exact arJ
 revert d;exact G.o):=h ⟨k⟩
def JO(h:aR P Q:=by
 intro G;refine go_v rfl .none rfl (fI rfl rfl ae) ?_;exact G.o):=h ⟨k⟩
def OX(h:aR P Q:=by
 intro G
 first|refine go_v rfl .none rfl (tC rfl) ?_|refine go_v rfl .none rfl (nG rfl) ?_
 exact G.o):=h ⟨k⟩
def MP(h:aR P Q:=by
 intro G;refine aB rfl (fk ((b+1:Nat):Int) eZ rfl rfl) ?_;exact G.o):=h ⟨k⟩
def EH(h:aR P Q:=by
 intro G;refine aB rfl (fI rfl rfl ae) ?_;exact G.o):=h ⟨k⟩
def L8(h:aR P Q:=by
 intro G;refine aB rfl (fk (((j+1:Nat):Int)) eZ rfl rfl) ?_;exact G.o):=h ⟨k⟩
def JP(h:aR P Q:=by
 intro G;refine go_v rfl .none rfl (jt Tryz.underlying246 rfl rfl) ?_;exact G.o):=h ⟨k⟩
def Q9(h:aR P Q:=by
 intro G;have gT:C.cells=2+C.bA.size+(3+2*C.iN)+C.aZ*C.aZ+C.aZ*C.e7:=rfl;revert gT;exact G.o):=h ⟨k⟩
def Ra(h:aR P Q:=by
 intro G
 first|refine go_vs rfl .none rfl (tC rfl) (au) ?_|refine go_vs rfl .none rfl (nG rfl) (au) ?_
 exact G.o):=h ⟨k⟩
def JQ(h:aR P Q:=by
 intro G;refine aB rfl (fC (c:=false) (by simp[bf]) (mo rfl rfl)) ?_;exact G.o):=h ⟨k⟩
def ady(h:aR P Q:=by
 intro G
 first|refine go_u rfl .none (mv rfl rfl rfl rfl) (λ_=>(λ_ _=>trivial)) ?_|refine go_u rfl .none (rU rfl rfl rfl Pj) (λ_=>(λ_ _=>trivial)) ?_
 exact G.o):=h ⟨k⟩
def JR(h:aR P Q:=by
 intro G
 first|refine aB rfl (tC rfl) ?_|refine aB rfl (nG rfl) ?_
 exact G.o):=h ⟨k⟩
def adz(h:aR P Q:=by
 intro G;refine ci rfl (oE rfl rfl (gq (H:=a7 X z.ap z.ai j 0 k I M::ia X z s a q x e) (λD h t=>Sat.tail (λh t=>by have:=jm B V D h t;rw[sF B]at this;exact this) t) aF.spec) bF) ?_;exact G.o):=h ⟨k⟩
def BR(h:aR P Q:=by
 intro G;refine aB rfl (gz rfl (adA ah)) ?_;exact G.o):=h ⟨k⟩
def JS(h:Q:=by
 exact aX ⟨rfl,z,_,rfl,⟨al.gL,al.gD,al.gE,al.ap,al.ai⟩,rfl⟩):=h
def Zl(h:aR P Q:=by
 intro G;have bh:∀w:Nat,w<9->-1099511627776<=cs.getD w 0/\cs.getD w 0<=1099511627776:=λw O=>by
  exact arL
 revert bh;exact G.o):=h ⟨k⟩
def zq(h:aR P Q:=by
 intro G;refine aB rfl (JI rfl rfl) ?_;exact G.o):=h ⟨k⟩
def uM(h:Q:=by
 exact aX ⟨_,rfl,rfl⟩):=h
def EI(h:aR P Q:=by
 intro G;refine go_vs rfl .none rfl (j6 rfl) (λ_ _=>trivial) ?_;exact G.o):=h ⟨k⟩
def DK(h:Q:=by
 exact aX ⟨by congr 1;split<;>simp at*<;>omega,rfl⟩):=h
def Rb(h:Q:=by
 exact aX ⟨by unfold JT;first|(rw[bd ae];done)|(rw[bd ae])|(rw[a8 ae]),rfl⟩):=h
def adB(h:Q:=by
 refine jh (.inl rfl) rfl rfl _ (⟨by unfold Ii;refine Rc ?_;(try simp only[kN,eP,adC,zp,sE,ii,tA,true_iff,false_iff,iff_true,iff_false]);omega,rfl⟩) (au)):=h
def adD(h:Q:=by
 refine jh (.inl rfl) rfl rfl _ (⟨by unfold wV;refine Rc ?_;(try simp only[kN,eP,adC,zp,sE,ii,tA,true_iff,false_iff,iff_true,iff_false]);omega,rfl⟩) (au)):=h
def adE(h:aR P Q:=by
 intro G
 first|refine iX rfl (Ia rfl rfl rfl) ?_|refine iX rfl (Ib rfl rfl rfl rfl) ?_|refine iX rfl (qh rfl rfl rfl rfl) ?_
 exact G.o):=h ⟨k⟩
def tQ(h:Q:=by
 exact aX ⟨rfl,z,al,rfl⟩):=h
def xe(h:aR P Q:=by
 intro G;refine go_vs rfl .none rfl (j6 rfl) (au) ?_;exact G.o):=h ⟨k⟩
def JU(h:aR P Q:=by
 intro G;refine iX rfl (D3 rfl rfl bF rfl rfl rfl ae AG) ?_;exact G.o):=h ⟨k⟩
def rI(h:aR P Q:=by
 intro G;simp only[e,bind,Option.bind];exact G.o):=h ⟨k⟩
def xf(h:aR P Q:=by
 intro G;have e:C.d0=2+C.a1+(2+2*C.aZ):=rfl;revert e;exact G.o):=h ⟨k⟩
def adF(h:aR P Q:=by
 intro G;have g9:In f C P (n+1) j 0 0 {(acc C s o).1 with az:=s.az.set j {t with on:=none}}:=by
  exact arM
 revert g9;exact G.o):=h ⟨k⟩
def Au(h:aR P Q:=by
 intro G;refine aB rfl (fk (((i+1:Nat):Int)) eZ rfl rfl) ?_;exact G.o):=h ⟨k⟩
def qF(h:aR P Q:=by
 intro G;refine aB rfl (mw rfl) ?_;exact G.o):=h ⟨k⟩
def nN(h:aR P Q:=by
 intro G;refine wk (rfl) ?_;exact G.o):=h ⟨k⟩
def JV(h:Q:=by
 exact aX ⟨by first|rw[arN (by assumption)]|rw[arO (by assumption) (by simp only[iE]at*;omega)]|rw[arP ae]|(subst_vars;rfl),rfl⟩):=h
def uR(h:Q:=by
 first|exact h|exact⟨h.1.trans (by simp[gC.over,d]),h.2⟩):=h
def JW(h:aR P Q:=by
 intro G
 first|refine aB rfl (o_load rfl rfl) ?_|refine aB rfl (gz rfl rfl) ?_|refine aB rfl (u2 rfl) ?_
 exact G.o):=h ⟨k⟩
def V5(h:Q:=by
 first|exact n _ (gY.dB (by repeat(first|exact gY.refl _|refine gY.push ?_ rfl)) (lb aah))|exact rp (au) (n _ (gY.dB (by repeat(first|exact gY.refl _|refine gY.push ?_ rfl)) (lb aah)))):=h
def pn(h:Q:=by
 exact aX ⟨rfl,cj,aD,ah,d7,rfl⟩):=h
def lL(h:aR P Q:=by
 intro G;refine tq (rfl) ?_;exact G.o):=h ⟨k⟩
def po(h:aR P Q:=by
 intro G;refine go_v rfl .none rfl (j6 rfl) ?_;exact G.o):=h ⟨k⟩
def Re(h:Q:=by
 refine jh (.inl rfl) rfl rfl _ (⟨by refine Rc ?_;unfold yX;(try simp only[wV,Ii,lI,lH]at*);(try simp only[kN,sE]at*);(try simp only[kN,eP,adC,zp,sE,ii,tA,true_iff,false_iff,iff_true,iff_false]);omega,rfl⟩) (au)):=h
def kh(h:aR P Q:=by
 intro G;refine aB rfl (j6 rfl) ?_;exact G.o):=h ⟨k⟩
def Dc(h:Q:=by
 refine ans (.inl rfl) rfl rfl rfl rfl rfl rfl [] ⟨by(try simp only[kN,sE]at*);first|(subst_vars;rfl)|exact ant (by simp[Gt];omega) (by simp[Gu];omega) (by simp[Db];omega) (by simp[Mr];omega) (by simp[Gv];omega),rfl⟩ (au)):=h
def hb(h:aR P Q:=by
 intro G;rintro _ D ⟨_,⟨rfl,rfl⟩,rfl⟩;exact G.o):=h ⟨k⟩
def gh(h:aR P Q:=by
 intro G;simp only[cp,cm];exact G.o):=h ⟨k⟩
def uQ(h:Q:=by
 first|exact λ_=>rfl|(intro h;first|exact absurd (show(1:Int)=0 from h) bJ|exact absurd h d|(split<;>rename_i ah<;>first|(rw[bd ah]at h;exact absurd (show(1:Int)=0 from h) bJ)|exact ap2 l|rfl|(rw[a8 ah]at h;exact absurd (show(4:Int)=0 from h) bJ)))):=h
def fm(h:aR P Q:=by
 intro G
 try simp only[cp,cm]
 exact G.o):=h ⟨k⟩
def adG(h:Q:=by
 simp only[arQ,sE]at p;omega):=h
def aqP(h:Q:=by
 obtain⟨d⟩:=b;exact congrArg List.toArray (show d=_ from I)):=h
def Yd(h:Q:=by
 refine uW λi=>?_;by_cases h:i<N.length<;>simp[h]):=h
def WG(h:Q:=by
 refine bQ ?_;exact aX ⟨none,0,rfl,rfl⟩ (λh s=>iV h ((au) h s))):=h
def adH(h:Q:=by
 have h1:Th.dE s a=some n:=d;rw[ah]at h1;exact(od h1).symm):=h
def NP(h:Q:=by
 refine bi ?_;exact uM):=h
def Nq(h:Q:=by
 refine bB ?_;exact uM):=h
def adI(h:Q:=by
 refine b6 ?_;exact aX ⟨rfl,rfl⟩ (cF (q,aS,Z,aO,aU,E) trivial (au))):=h
def adJ(h:Q:=by
 simp only[ay];exact aF.dF (h.hX m1) (by rw[m1.aY];exact hk) aL ae ae):=h
def adK(h:Q:=by
 refine c0 ?_;exact aX ⟨c2,rfl,rfl⟩ (cF (z,aU,aS,bY,a) trivial (au))):=h
def Rf(h:Q:=by
 refine gg ?_;exact tQ):=h
def aqR(h:Q:=by
 intro W E args hc gs before s b7 _ T _;exact contract F enc W E args hc gs before s b7 T):=h
def arR(h:Q:=by
 have:(Jo:ao).lets=s.lets:=D9;rw[this];omega):=h
def Rg(h:Q:=by
 refine bb ?_;exact aX ⟨rfl,rfl⟩ (sw (au))):=h
def adL(h:aR P Q:=by
 intro G
 first|refine kb (mv rfl rfl arS rfl) ?_|refine kb (mv rfl rfl rfl rfl) ?_
 refine bb ?_;exact G.o):=h ⟨k⟩
def adM(h:aR P Q:=by
 intro G;refine eJ ?_;refine ci rfl (b1 rfl (mR m (iv L b k) _ (b+k) (by rw[wQ];omega) _) bF) ?_;exact G.o):=h ⟨k⟩
def adN(h:aR P Q:=by
 intro G;refine cq ?_;refine go_v rfl .none rfl (kl ((X.C.cB -1:Nat):Int) eZ rfl rfl) ?_;exact G.o):=h ⟨k⟩
def JX(h:Q:=by
 refine fW ?_;exact aX ⟨rfl,rfl⟩):=h
def adO(h:aR P Q:=by
 intro G;refine cq ?_;refine go_v rfl .none rfl (kl ((X.C.a1 -1:Nat):Int) eZ rfl rfl) ?_;exact G.o):=h ⟨k⟩
def adP(h:aR P Q:=by
 intro G;refine cu [] [7,201] [ab ar 32 [ptr X.h 0],ab U 110 [ptr q 0],ab Z 9 [S kind],ab q 118 (eg X x e)] ?_;refine cq ?_;exact G.o):=h ⟨k⟩
def Vk(h:Q:=by
 obtain⟨N,e⟩:=dc.1 h;rw[nv N,e,List.any_append,h1];simp[h2]):=h
def adQ(h:aR P Q:=by
 intro G;refine cu [] [7,201] [ab Y 32 [ptr X.h 0],ab aU 110 [ptr q 0],ab aS 36 [bw id],ab q 118 (eg X x e)] ?_;refine cq ?_;exact G.o):=h ⟨k⟩
def Mf(h:aR P Q:=by
 intro G;refine kb (rU rfl rfl rfl h5) ?_;rw[adR];exact G.o):=h ⟨k⟩
def Rh(h:Q:=by
 refine bB ?_;exact aX ⟨rfl,rfl⟩ (EB bJ x y (au))):=h
def Ri(h:aR P Q:=by
 intro G;refine aT (Po.aue (X.bo b) (X.C.box b) p V v) ?_;refine aG ?_;exact G.o):=h ⟨k⟩
def Rj(h:aR P Q:=by
 intro G;refine b6 ?_;refine go_v rfl .none rfl (DZ rfl rfl bJ) ?_;exact G.o):=h ⟨k⟩
def XM(h:aR P Q:=by
 intro G;refine aT (uN p 241 480 (gJ X) (ptr q 0) _ _ _ rfl 0 0 (jc q X.hf B.ed (k4 true 0)) (Nf q X.hf B.ed (k4 true 0))) ?_;refine b6 ?_;exact G.o):=h ⟨k⟩
def Rk(h:aR P Q:=by
 intro G;refine aB rfl (kv rfl (arT R) rfl) ?_;refine iX rfl (tR) ?_;exact G.o):=h ⟨k⟩
def Nt(h:Q:=by
 refine bQ ?_;exact DK):=h
def adS(h:aR P Q:=by
 intro G;refine qF ?_;refine adt ?_;exact G.o):=h ⟨k⟩
def arU(h:Q:=by
 have:(Jo:ao).aJ=s.aJ:=D9;rw[this];show _=min ((acc C s o).1.L.getD 1 0 -_) _;rw[ay];exact h.num.dp):=h
def Hs(h:aR P Q:=by
 intro G;refine aT (Xr _ _ _ _ _ _ _ _) ?_;refine bB ?_;exact G.o):=h ⟨k⟩
def adT(h:aR P Q:=by
 intro G;refine go_v rfl (.yes rfl rfl W) rfl (j6 rfl) ?_;refine go_v rfl (.yes rfl rfl W) rfl (rm ((3*l:Nat):Int) eZ rfl rfl) ?_;exact G.o):=h ⟨k⟩
def GI(h:aR P Q:=by
 intro G;refine⟨_,_,V,⟨_,_,rfl,rfl⟩,?_⟩;rw[O];exact G.o):=h ⟨k⟩
def Rl(h:Q:=by
 refine bb ?_;exact JS):=h
def adU(h:Q:=by
 refine b6 ?_;exact JS):=h
def adV(h:aR P Q:=by
 intro G;refine cq ?_;refine cu [] [16] [ab aU 110 [ptr q 0],ab co 311 [ptr u 0],ab q 118 (eg X x e),b3 e.gQ .i64 (x.watched.map λw=>(w,.bool true)),ax (gj z.ai s.lets)] ?_;exact G.o):=h ⟨k⟩
def Gi(h:aR P Q:=by
 intro G;refine fm ?_;refine bb ?_;exact G.o):=h ⟨k⟩
def adW(h:aR P Q:=by
 intro G;refine aT (iA (a7.eq_31 ..) (U,aO,Z) ⟨rfl,rfl⟩ (jK X z.ap z.ai s.az j p 166 [ptr U 0,ptr aO 0,ptr Z 0] t (.post a (Th.Fa s.notes.length)) (.ov a) N R)) ?_;refine bb ?_;exact G.o):=h ⟨k⟩
def Rm(h:Q:=by
 refine bK ?_;exact ado):=h
def Hv(h:aR P Q:=by
 intro G;refine bi ?_;refine aB rfl (fC ry (my rfl rfl)) ?_;exact G.o):=h ⟨k⟩
def Gb(h:aR P Q:=by
 intro G;refine fm ?_;refine dC ?_;exact G.o):=h ⟨k⟩
def JY(h:aR P Q:=by
 intro G;refine aB rfl (jt Tryz.underlying246 rfl rfl) ?_;refine aG ?_;exact G.o):=h ⟨k⟩
def Ml(h:aR P Q:=by
 intro G;refine aB rfl (fk (((x+1:Nat):Int)) eZ rfl rfl) ?_;refine bb ?_;exact G.o):=h ⟨k⟩
def adX(h:aR P Q:=by
 intro G;refine aT (iA (a7.eq_17 ..) (aO,Y,aU,bY,I,M) ⟨rfl,rfl⟩ (jK X z.ap z.ai s.az j p 356 [ptr aO 0,ptr Y 0,ptr aU 0,ptr bY 0] t (.post a (Th.xH s.notes.length)) (.lh a k) N R)) ?_;refine bb ?_;exact G.o):=h ⟨k⟩
def EJ(h:Q:=by
 refine bb ?_;exact aX ⟨rfl,rfl⟩ (λh E=>E)):=h
def MX(h:Q:=by
 refine cl.aT λv H h=>⟨_,⟨none,0,h.1,rfl⟩,λq s=>?_⟩;rw[h.2]at s;exact iV q s):=h
def adY(h:aR P Q:=by
 intro G;refine bB ?_;refine hU [5,8] [5] [(0,.bI),(1,.loc),(2,.loc),(3,.loc),(4,.loc),(7,.bI),(5,.c5),(6,.loc),(8,.c5)] [ab Z 106 [ptr (X.bp j) 0],ab aO 110 [ptr q 0],ab q 118 (eg X x e)] mixed gB ?_;exact G.o):=h ⟨k⟩
def EK(h:aR P Q:=by
 intro G;refine kh ?_;refine ic ?_;exact G.o):=h ⟨k⟩
def Rn(h:Q:=by
 have dW:h7 (X.bp j) 5 (ax (de X z.ap z.ai s.az)) (.bool t.ij):=xg N 5 λ_ _=>rfl;rw[aW]at dW;exact dW):=h
def zr(h:aR P Q:=by
 intro G;refine hA ?_;refine ja ?_;exact G.o):=h ⟨k⟩
def W4(h:aR P Q:=by
 intro G;have iQ:∀{b n:Nat} {o:ie},¬(jb b n L o).over=true->(jb b n L o).out=0:=λh=>by simpa[ie.over]using h
 have y:∀{b n:Nat} {o:hJ},¬(iw b n L o).over=true->(iw b n L o).out=0:=λh=>by simpa[hJ.over]using h
 revert iQ y;exact G.o):=h ⟨k⟩
def adZ(h:aR P Q:=by
 intro G;refine⟨_,rfl,⟨⟨h.base.xC,h.base.na,h.base.aJ,h.base.lets,h.base.notes,by show(s.az.set _ _).length=_;rw[gn];exact h.base.tZ,h.base.bc⟩,⟨h.num.nl,h.num.pu,h.num.dp,h.num.mD,h.num.mF⟩,?_⟩,W⟩;obtain⟨ak,h1,h2⟩:=id h.bp;revert ak h1 h2;exact G.o):=h ⟨k⟩
def vY(h:Q:=by
 refine b6 ?_;exact aX ⟨rfl,rfl⟩):=h
def tg(h:aR P Q:=by
 intro G;simp only[jD];refine b6 ?_;exact G.o):=h ⟨k⟩
def Ro(h:aR P Q:=by
 intro G;refine aG ?_;refine aB rfl (fC (c:=false) (by show(!qx (kq _) (kq _))=false;rw[ad0];rfl) (Zy rfl rfl rfl rfl)) ?_;exact G.o):=h ⟨k⟩
def arV(h:aR P Q:=by
 intro G;refine arK ?_;refine ic ?_;exact G.o):=h ⟨k⟩
def ad1(h:Q:=by
 refine b6 ?_;exact Dc):=h
def zs(h:aR P Q:=by
 intro G;refine ja ?_;refine kh ?_;exact G.o):=h ⟨k⟩
def CT(h:aR P Q:=by
 intro G;refine fm ?_;refine bi ?_;exact G.o):=h ⟨k⟩
def Dd(h:Q:=by
 refine bi ?_;exact aX ⟨rfl,rfl⟩):=h
def BS(h:aR P Q:=by
 intro G;refine bi ?_;refine aT (Po.aiq (X.bo b) (X.C.box b) p V) ?_;exact G.o):=h ⟨k⟩
def arW(h:Q:=by
 refine fr ?_;exact aX ⟨by rw[ad2 R bm M],rfl⟩ (λ_ h=>h)):=h
def MY(h:Q:=by
 obtain⟨aI,aQ,h1,h2⟩:=h;exact⟨_,⟨aI,aQ,h1,rfl⟩,λq s=>by rw[h2]at s;exact Sat.tail (λ_ s=>cF (x,y,a0,fd,cr,cS,cD,cd) trivial (λ_ s=>s) _ s) s⟩):=h
def EL(h:aR P Q:=by
 intro G;rintro _ D ⟨_,⟨rfl,aI,aQ,rfl⟩,rfl⟩;refine fm ?_;revert aI aQ;exact G.o):=h ⟨k⟩
def ad3(h:aR P Q:=by
 intro G;refine go_v rfl .none rfl (lY rfl) ?_;refine OX ?_;exact G.o):=h ⟨k⟩
def Rp(h:aR P Q:=by
 intro G;refine po ?_;refine po ?_;exact G.o):=h ⟨k⟩
def oz(h:aR P Q:=by
 intro G;refine eJ ?_;refine aG ?_;exact G.o):=h ⟨k⟩
def arX(h:aR P Q:=by
 intro G;refine JW ?_;refine aB rfl (j6 rfl) ?_;exact G.o):=h ⟨k⟩
def nI(h:aR P Q:=by
 intro G;refine bi ?_;refine cP ?_;exact G.o):=h ⟨k⟩
def yf(h:aR P Q:=by
 intro G;refine eJ ?_;refine aB rfl (fI rfl rfl (show x<L.length by omega)) ?_;exact G.o):=h ⟨k⟩
def uB(h:aR P Q:=by
 intro G;refine fm ?_;refine bB ?_;exact G.o):=h ⟨k⟩
def JZ(h:aR P Q:=by
 intro G;refine aB rfl (lY rfl) ?_;refine JR ?_;exact G.o):=h ⟨k⟩
def Rq(h:aR P Q:=by
 intro G;refine adz ?_;rintro _ D ⟨_,⟨rfl,cj,aD,ah,d7,rfl⟩,rfl⟩;revert cj aD ah d7;exact G.o):=h ⟨k⟩
def pT(h:Q:=by
 refine bb ?_;exact aX ⟨rfl,rfl⟩):=h
def arY(h:Q:=by
 refine fr ?_;exact aX ⟨_,⟨λ_=>zt.2 ⟨t,js R,M⟩,λ_=>by omega⟩,rfl,rfl⟩ (λ_ h=>h)):=h
def oO(h:aR P Q:=by
 intro G;refine ic ?_;refine hB ?_;exact G.o):=h ⟨k⟩
def ny(h:aR P Q:=by
 intro G;rintro _ _ ⟨q,rfl,rfl⟩;refine et ?_;revert q;exact G.o):=h ⟨k⟩
def vR(h:aR P Q:=by
 intro G;refine Au ?_;refine bb ?_;exact G.o):=h ⟨k⟩
def rV(h:aR P Q:=by
 intro G;refine fm ?_;refine aG ?_;exact G.o):=h ⟨k⟩
def lZ(h:aR P Q:=by
 intro G;rintro _ _ ⟨p,rfl,rfl⟩;refine et ?_;revert p;exact G.o):=h ⟨k⟩
def pq(h:Q:=by
 intro cj aD ah d7;exact pn):=h
def o5(h:aR P Q:=by
 intro G;refine fm ?_;refine b6 ?_;exact G.o):=h ⟨k⟩
def l5(h:aR P Q:=by
 intro G;rintro _ _ ⟨rfl,aI,aQ,rfl⟩;refine et ?_;revert aI aQ;exact G.o):=h ⟨k⟩
def vk(h:aR P Q:=by
 intro G;intro F D;simp only[ww,D2,gu,mT,lu,Nat.reduceAdd,cp,cm];revert F D;exact G.o):=h ⟨k⟩
def ad4(h:Q:=by
 refine et ?_;refine b6 ?_;exact aX ⟨rfl,aI,aQ,cD,bn,rfl⟩):=h
def ad5(h:Q:=by
 refine aB rfl (pF rfl rfl) ?_;refine bB ?_;exact aX ⟨rfl,rfl⟩):=h
def V7(h:Q:=by
 have Z:=bN v;refine bB ?_;unfold ir at f;exact kn f m v):=h
def VA(h:Q:=by
 have f:=bN W;refine bK ?_;unfold ay at SW;exact kn SW W W):=h
def ad6(h:Q:=by
 have bh:=h.hp;rw[CP (ei _)]at bh;cases bh;rfl):=h
def VY(h:Q:=by
 have WF:=bN n;refine bB ?_;unfold tk at E;exact kn E n n):=h
def VQ(h:Q:=by
 have aDH:=bN LE;refine b6 ?_;unfold yj at Fr;exact kn Fr pm LE):=h
def VH(h:Q:=by
 have aDI:=bN rt;refine bB ?_;unfold gT at C;exact kn C o rt):=h
def V6(h:Q:=by
 have n7:=bN l;refine bK ?_;unfold cS at e;exact GD e L fH w l):=h
def arZ(h:Q:=by
 rw[gs];split
 . rename_i e;obtain⟨rfl,_⟩:=e;rw[ak]at ah;exact ah
 grind):=h
def VL(h:Q:=by
 have aDJ:=bN Id;refine bB ?_;unfold pL at N;exact qi N J t2 Id):=h
def VJ(h:Q:=by
 have aDK:=bN H1;refine bB ?_;unfold uw at K;exact qi K p s2 H1):=h
def VX(h:Q:=by
 have UV:=bN R;refine bB ?_;unfold gP at u;exact VV u W M m v R):=h
def ad7(h:Q:=by
 unfold Th.dE;rw[bd ae];exact⟨_,cz ae⟩):=h
def VW(h:Q:=by
 have n7:=bN l;refine bB ?_;unfold gP at u;exact ar0 u W M L fH w l):=h
def VP(h:Q:=by
 have aDL:=bN Lz;refine bK ?_;unfold wh ti AD at T;exact kn T U Lz):=h
def VG(h:Q:=by
 have aDM:=bN ro;refine bB ?_;unfold gT at C;exact GD C o z E ro):=h
def VO(h:Q:=by
 have aDN:=bN IT;refine bK ?_;unfold wh ti AD at T;exact qi T U t6 IT):=h
def ar1(h:Q:=by
 rcases hk with⟨rfl,_⟩|⟨_,_,_,_,_,_,_,_,_,_,_,h⟩
 . rw[Rr hlen,T]
 . cases h):=h
def Rs(h:Q:=by
 refine ui ?_;exact vY):=h
def ar2(h:Q:=by
 rcases(al j t cK).iL O with g|⟨S,V,e,g⟩
 . exact .inr g
 . rw[B]at e;cases e;exact .inl g):=h
def ad8(h:aR P Q:=by
 intro G;refine aB rfl (yU ga rfl rfl) ?_;refine bb ?_;refine tq (by simp[ck,gN];omega) ?_;exact G.o):=h ⟨k⟩
def ad9(h:Q:=by
 refine aT (mq p X.bo x y 0 0 1 0) ?_;refine bb ?_;exact aX ⟨rfl,rfl⟩ (EB bJ x y (au))):=h
def arL(h:Q:=by
 rcases HJ w with e|e
 . subst e;rw[l.zero];omega
 . rw[l.jg w e O];have:=aq8 r w;omega):=h
def UX(h:aR P Q:=by
 intro G;refine bQ ?_;refine vR ?_;exact G.o):=h ⟨k⟩
def Rt(h:Q:=by
 refine gg ?_;refine bb ?_;exact tQ):=h
def aea(h:aR P Q:=by
 intro G;refine yf ?_;refine aB rfl (gz rfl (Ga R)) ?_;exact G.o):=h ⟨k⟩
def aeb(h:aR P Q:=by
 intro G;refine JO ?_;refine go_v rfl .none rfl (gz rfl (adA Y)) ?_;refine aG ?_;exact G.o):=h ⟨k⟩
def aec(h:Q:=by
 refine wn λf=>?_;refine b6 ?_;exact Q3 λact i g0 st=>⟨d,g,c,j,f,g0.jv dy,st.imp (au)⟩):=h
def aed(h:aR P Q:=by
 intro G;refine cu [8,14] (101::7::uL) [] ?_;refine EI ?_;refine cq ?_;exact G.o):=h ⟨k⟩
def aee(h:aR P Q:=by
 intro G;refine BS ?_;refine aB rfl (fC (c:=true) yG (mo rfl rfl)) ?_;exact G.o):=h ⟨k⟩
def aef(h:Q:=by
 refine aT (Ru p z X.bo X.m B.b x y _ rfl 0 0) ?_;refine b6 ?_;exact aX ⟨rfl,rfl⟩ (cF (z,aO,U,Z,J) trivial (au))):=h
def Nr(h:aR P Q:=by
 intro G;refine bi ?_;refine Hs ?_;exact G.o):=h ⟨k⟩
def Rv(h:aR P Q:=by
 intro G;refine bi ?_;refine aT (XX X.cX X.C.bA p aC hp) ?_;refine cP ?_;exact G.o):=h ⟨k⟩
def aeg(h:Q:=by
 rcases h with rfl|⟨k,x,rfl,ah⟩
 . grind
 . exact arZ):=h
def ar3(h:Q:=by
 apply ar4.2;intro i ak;rw[ix,ix,k1 ae]):=h
def Vr(h:aR P Q:=by
 intro G;refine yf ?_;refine aB rfl (kv rfl (kw hs 4 uj R) rfl) ?_;exact G.o):=h ⟨k⟩
def Vp(h:aR P Q:=by
 intro G;refine yf ?_;refine aB rfl (kv rfl (kw gy 2 rf R) rfl) ?_;exact G.o):=h ⟨k⟩
def Vn(h:aR P Q:=by
 intro G;refine yf ?_;refine aB rfl (kv rfl (kw eK 5 Df R) rfl) ?_;exact G.o):=h ⟨k⟩
def Vl(h:aR P Q:=by
 intro G;refine yf ?_;refine aB rfl (kv rfl (kw jN 2 Am R) rfl) ?_;exact G.o):=h ⟨k⟩
def aeh(h:aR P Q:=by
 intro G;refine cv ?_;refine aB rfl (fI rfl rfl (show i<es.length by omega)) ?_;refine aB rfl (kv rfl (kw gv 5 aei z) rfl) ?_;exact G.o):=h ⟨k⟩
def aej(h:aR P Q:=by
 intro G;refine bi ?_;refine cu [] [1,201,21,201,3] u7 ?_;refine aG ?_;exact G.o):=h ⟨k⟩
def J0(h:Q:=by
 have f:=bN W;refine dC ?_;exact h4 n):=h
def Wt(h:aR P Q:=by
 intro G;refine gh ?_;refine λh s=>Sat.swap (cF () trivial (M:=_) ?_ h s);refine gh ?_;exact G.o):=h ⟨k⟩
def J1(h:aR P Q:=by
 intro G;refine rq ?_;refine hB ?_;refine hA ?_;exact G.o):=h ⟨k⟩
def Y8(h:aR P Q:=by
 intro G;refine vk ?_;intro F D;refine hA ?_;revert F D;exact G.o):=h ⟨k⟩
def aek(h:aR P Q:=by
 intro G;refine JZ ?_;refine kb (mv rfl rfl rfl (by rw[PB,hlen];rfl)) ?_;exact G.o):=h ⟨k⟩
def ar5(h:aR P Q:=by
 intro G;refine vk ?_;intro F D;refine kK ey ?_;revert F D;exact G.o):=h ⟨k⟩
def J2(h:aR P Q:=by
 intro G;refine yt ?_;refine hB ?_;refine ja ?_;exact G.o):=h ⟨k⟩
def Y9(h:aR P Q:=by
 intro G;refine ad3 ?_;refine go_v rfl .none rfl (l1 rfl rfl a) ?_;exact G.o):=h ⟨k⟩
def MG(h:aR P Q:=by
 intro G;refine bK ?_;refine go_v rfl .none rfl (jt Tryz.underlying326 rfl rfl) ?_;refine aG ?_;exact G.o):=h ⟨k⟩
def ael(h:aR P Q:=by
 intro G;refine adV ?_;refine fr ?_;exact G.o):=h ⟨k⟩
def Rw(h:aR P Q:=by
 intro G;refine hb ?_;refine fm ?_;refine c8 ?_;exact G.o):=h ⟨k⟩
def Ms(h:aR P Q:=by
 intro G;refine hb ?_;refine Gb ?_;exact G.o):=h ⟨k⟩
def Wn(h:Q:=by
 refine aT (mq f (lv X kO kO kO) _ _ 0 0 4 0) ?_;refine c0 ?_;exact aX ⟨f,rfl,rfl⟩ (MD bJ (_,_,none,0,none,0,none,0) (λh s=>Sat.tail (λh s=>anD h s) ((au) h s)))):=h
def aem(h:aR P Q:=by
 intro G;have hp:aC.out=0->aC.val=0:=(λh=>absurd h b);have Y:1<=aC.val/\aC.val<=65536:=ae;have h:ad aa 84 qz (bl X z s) (ct X (some y)):=(ar6 al B ag);revert hp Y h;exact G.o):=h ⟨k⟩
def aen(h:Q:=by
 refine aT (J3 p z X.bo X.m B.b (iK true) 1 x y _ rfl 0 0) ?_;refine b6 ?_;exact aX (H:=[fY X B p ⟨.more true,0,0⟩,e9 X B]) ⟨rfl,by rw[bd W]⟩ (sw (cF (z,aO,b9) trivial (au)))):=h
def aeo(h:Q:=by
 refine aT (J3 p z X.bo X.m B.b (iK false) 1 x y _ rfl 0 0) ?_;refine b6 ?_;exact aX (H:=[fY X B p ⟨.more false,0,0⟩,e9 X B]) ⟨rfl,by rw[bd W]⟩ (sw (cF (z,aO,b9) trivial (au)))):=h
def GU(h:aR P Q:=by
 intro G;refine br (J4 X.m B.b) ?_;rintro _ _ ⟨z,rfl,rfl⟩;refine et ?_;revert z;exact G.o):=h ⟨k⟩
def aep(h:Q:=by
 refine aT (iA (a7.eq_14 ..) (co,aU,Y,aS,bY,c1,bn,I,M) ⟨rfl,rfl⟩ (jK X z.ap z.ai s.az j p 213 [ptr co 0,ptr aU 0,ptr Y 0,ptr aS 0,ptr bY 0] t (.add 0 1) (.mc l k) N R)) ?_;exact pT):=h
def aeq(h:aR P Q:=by
 intro G;refine il [16,17,18] [17] [1,5,9,13,17,21,25,29,33,37,41,45,49,53,57,61,66,70,74,3,3,3,70,66,74] [ab aU 110 [ptr q 0],ab co 311 [ptr u 0],ab q 118 (eg X x e),ax (gj z.ai s.lets)] ?_;refine oz ?_;exact G.o):=h ⟨k⟩
def aer(h:Q:=by
 congr 1
 . exact ar3
 . exact arI):=h
def Rx(h:aR P Q:=by
 intro G;refine cq ?_;refine aB rfl (jt Tryz.underlying314 rfl rfl) ?_;refine aG ?_;exact G.o):=h ⟨k⟩
def Ry(h:aR P Q:=by
 intro G;refine bi ?_;refine JO ?_;refine go_v rfl .none rfl (gz rfl (aes i)) ?_;exact G.o):=h ⟨k⟩
def aet(h:Q:=by
 refine aT (iA (a7.eq_15 ..) (co,aU,Y,aS,bY,c1,bn,b9,d5,q,I,M) ⟨rfl,rfl,bm⟩ (jK X z.ap z.ai s.az j p 213 [ptr co 0,ptr aU 0,ptr Y 0,ptr aS 0,ptr bY 0] t (.add 0 1) (.gv a l e k) N R)) ?_;exact pT):=h
def Rz(h:aR P Q:=by
 intro G;refine kh ?_;refine JZ ?_;exact G.o):=h ⟨k⟩
def J5(h:aR P Q:=by
 intro G;refine kh ?_;refine oO ?_;exact G.o):=h ⟨k⟩
def Yf(h:aR P Q:=by
 intro G;refine gG (bv:=Nat) (λx=>x<=2+2*n) (λx=>((31,af x)::(30,af ((2+2*n:Nat):Int))::HF)) (λx=>ch m (iv L b x) (ju x t)::D) (λx=>2+2*n -x) 0 (eX _) dy (au) ?_;intro k hk;refine bi ?_;revert k hk;exact G.o):=h ⟨k⟩
def aeu(h:aR P Q:=by
 intro G;refine pK rfl .none rfl (b1 rfl ((by have bh:=Go.Proofs.YtnnhpnccfnghdaaGreat.L.amB e.b8 x.state l.tag l.n V.lc (gO e.b8) (λ_ h=>h) (by omega);rw[i6]at bh;exact bh)) bF) ?_;rintro _ D ⟨_,⟨bL,pc,rfl,rfl⟩,rfl⟩;refine fm ?_;revert bL pc;exact G.o):=h ⟨k⟩
def aev(h:Q:=by
 refine⟨RA h.base _ ga,E,⟨_,by rw[xh N],rfl⟩,fF,?_,?_⟩
 . rw[T];exact aQ
 . exact ar7):=h
def Vy(h:Q:=by
 refine gg ?_;refine cq ?_;exact Dc):=h
def RB(h:aR P Q:=by
 intro G;refine o2 rfl rfl ga ?_;refine aG ?_;refine o2 rfl rfl ga ?_;exact G.o):=h ⟨k⟩
def yE(h:Q:=by
 refine eJ ?_;exact pT):=h
def EM(h:aR P Q:=by
 intro G;refine cq ?_;refine JY ?_;exact G.o):=h ⟨k⟩
def arM(h:Q:=by
 refine⟨RA h.base _ ga,E _,⟨_,by rw[xh N],rfl⟩,fF,?_,?_⟩
 . rw[T];exact aQ
 . exact ar8):=h
def aew(h:aR P Q:=by
 intro G;refine po ?_;refine ad3 ?_;exact G.o):=h ⟨k⟩
def RC(h:aR P Q:=by
 intro G;refine bB ?_;refine vR ?_;exact G.o):=h ⟨k⟩
def ar9(h:Q:=by
 refine wn λa=>?_;exact Rm):=h
def aex(h:aR P Q:=by
 intro G;refine go_skip rfl (.no rfl rfl W) rfl ?_;refine go_skip rfl (.no rfl rfl W) rfl ?_;refine go_skip rfl (.no rfl rfl W) rfl ?_;exact G.o):=h ⟨k⟩
def GC(h:aR P Q:=by
 intro G;have y:=g.kinds k hk;have t7:=y.sJ.2;have J:=y.sI.2;have H:=y.lens;have O:=y.tb;have i9:=y.name;revert y t7 J H O i9;exact G.o):=h ⟨k⟩
def EN(h:aR P Q:=by
 intro G;refine hb ?_;refine fm ?_;refine cq ?_;exact G.o):=h ⟨k⟩
def aey(h:aR P Q:=by
 intro G;refine tq (by show some (Value.bool (decide ((Th.hl m.ref x.id (max l.cy 0) x.parent kI)=0)||decide ((Th.hl m.ref x.id (max l.cy 0) x.parent kI)=x.id)))=some (Value.bool false);rw[show(decide ((Th.hl m.ref x.id (max l.cy 0) x.parent [ec,s1,bP,bZ])=0)||decide ((Th.hl m.ref x.id (max l.cy 0) x.parent [ec,s1,bP,bZ])=x.id))=false from by simpa using O]) ?_;refine cq ?_;refine cP ?_;exact G.o):=h ⟨k⟩
def yo(h:aR P Q:=by
 intro G;refine kK ey ?_;rintro f -;refine gh ?_;revert f;exact G.o):=h ⟨k⟩
def zu(h:aR P Q:=by
 intro G;refine oO ?_;refine hA ?_;exact G.o):=h ⟨k⟩
def BU(h:aR P Q:=by
 intro G;refine kK ey ?_;rintro⟨cr,c1,cD,bn⟩ -;refine gh ?_;revert cr c1 cD bn;exact G.o):=h ⟨k⟩
def C8(h:aR P Q:=by
 intro G;refine bK ?_;refine vR ?_;exact G.o):=h ⟨k⟩
def C6(h:aR P Q:=by
 intro G;refine bK ?_;refine Ml ?_;exact G.o):=h ⟨k⟩
def Ax(h:aR P Q:=by
 intro G;refine hb ?_;refine fm ?_;refine bK ?_;exact G.o):=h ⟨k⟩
def J6(h:aR P Q:=by
 intro G;refine qF ?_;refine oO ?_;exact G.o):=h ⟨k⟩
def aez(h:aR P Q:=by
 intro G;refine xe ?_;refine xe ?_;refine xe ?_;exact G.o):=h ⟨k⟩
def ru(h:Q:=by
 refine oz ?_;exact aX ⟨rfl,rfl⟩):=h
def xi(h:aR P Q:=by
 intro G;refine hA ?_;refine zs ?_;exact G.o):=h ⟨k⟩
def yh(h:aR P Q:=by
 intro G;refine hb ?_;refine Gi ?_;exact G.o):=h ⟨k⟩
def xj(h:aR P Q:=by
 intro G;refine br (asa b8.limit b8.within) ?_;rintro _ _ ⟨g,rfl,rfl⟩;refine et ?_;revert g;exact G.o):=h ⟨k⟩
def ux(h:aR P Q:=by
 intro G;refine hb ?_;refine uB ?_;exact G.o):=h ⟨k⟩
def pr(h:aR P Q:=by
 intro G;refine lZ ?_;intro p;refine aG ?_;revert p;exact G.o):=h ⟨k⟩
def Gw(h:Q:=by
 refine gg ?_;refine bK ?_;exact Dc):=h
def nY(h:aR P Q:=by
 intro G;refine bb ?_;refine wn λU=>?_;refine wn λZ=>?_;revert U Z;exact G.o):=h ⟨k⟩
def ps(h:aR P Q:=by
 intro G;rintro _ _ ⟨rfl,cj,aD,ah,d7,rfl⟩;refine et ?_;refine b6 ?_;revert cj aD ah d7;exact G.o):=h ⟨k⟩
def zv(h:aR P Q:=by
 intro G;refine pK rfl .none rfl (b1 rfl (asb X.C.dY (by have:=J.pS;omega)) bF) ?_;rintro _ D ⟨_,⟨d,rfl,rfl⟩,rfl⟩;refine fm ?_;revert d;exact G.o):=h ⟨k⟩
def asc(h:Q:=by
 refine fe ?_ ?_
 . exact asd
 . exact ase):=h
def aeA(h:aR P Q:=by
 intro G;refine br (gq (H:=[a7 X z.ap z.ai j 0 k I M,ab q 118 ((eg X x e).set (0+7) (S b)),dz e.ka e.kc x.kids,dz e.hP e.hQ x.cM,gi e.gK X.C.dY x.aside x.front,h8 e.jx (min (max e.b8.limit 0) 100) (min (max e.b8.within 1) 4095) x.given,b3 e.gQ .i64 (x.watched.map λw=>(w,.bool true)),jd e.jy (h9 e.es),ax (iy e.es),gO e.b8,ax ((e5 X z.ap s.aJ).set (a -1) ft),cL X {z with cI:=aI,cJ:=aQ} {s with trace:=s.trace++[({Th.c7 with kind:=4,dL:=x.id,id:=id,name:=b}:bX)]},dP aI aQ (s.trace++[({Th.c7 with kind:=4,dL:=x.id,id:=id,name:=b}:bX)]),fl z.na z.fq s.notes,b3 X.am .i64 (cf z.ap),b3 X.e6 .u64 (cf z.ai),ax (gj z.ai s.lets),Lg.ds X.ld s.bc,ez X.da X.C.dG s.dead,ch X.m s.L z.tt,fA X,fw X s.bs,eC X.bG X.m X.C.bG X.C.aZ,ax (dZ X),fu X,gk X,gX X,gd X,ax (de X z.ap z.ai s.az)]) (λD h E=>Sat.tail (λh E=>jm (X:=X) (z:={z with cI:=aI,cJ:=aQ}) (s:={s with trace:=s.trace++[({Th.c7 with kind:=4,dL:=x.id,id:=id,name:=b}:bX)]}) (x:={x with state:=b}) (e:=e) B ⟨V.b8,V.lc,V.es⟩ D h E) E) (h aI aQ)) ?_;rintro _ _ ⟨rfl,cj,aD,ah,d7,rfl⟩;refine et ?_;revert cj aD ah d7;exact G.o):=h ⟨k⟩
def Aw(h:Q:=by
 refine eJ ?_;exact ad1):=h
def Av(h:Q:=by
 refine gg ?_;exact ad1):=h
def rW(h:aR P Q:=by
 intro G;refine fW ?_;refine gG (bv:=Nat) (λx=>x<=L.length/\(L.take x).any q=false) (λx=>[(8,af x),(7,af L.length),(0,.slice a L.length c),(1,.func (.func Z) #[] z.toArray)]) (λ_=>I++D) (λx=>L.length -x) 0 (⟨eX _,rfl⟩) dy (λ_ h=>h) ?_;rintro x ⟨ah,bm⟩;revert x ah bm;exact G.o):=h ⟨k⟩
def aeB(h:Q:=by
 refine fe ?_ ?_
 . exact asf
 . exact asg):=h
def J7(h:Q:=by
 refine fe ?_ ?_
 . exact ash
 . exact asi):=h
def Ye(h:Q:=by
 refine c0 ?_;refine wn λc=>?_;exact NP):=h
def aeC(h:Q:=by
 apply tS;intro t _;by_cases e:f t=E
 . simp[e]
 . simp[e]):=h
def W9(h:Q:=by
 refine aw Tryz.func480 λF D=>?_;exact yE):=h
def asj(h:Q:=by
 subst e;show bU.fV (eU (s.L.getD 0 0+1))=_;rw[un _ ae ae,nl]
 congr 1):=h
def aeD(h:Q:=by
 rintro _ _ ⟨rfl,cj,aD,ah,d7,rfl⟩;refine et ?_;refine bK ?_;exact pn):=h
def aeE(h:aR P Q:=by
 intro G;refine et ?_;refine c0 ?_;refine Q7 ?_;refine bb ?_;exact G.o):=h ⟨k⟩
def WI(h:Q:=by
 rintro _ _ ⟨e,S,rfl,rfl⟩;rw[lu,cm];refine bB ?_;exact aX ⟨e,S,rfl,rfl⟩):=h
def aeF(h:aR P Q:=by
 intro G;refine aG ?_;refine o2 rfl rfl h5 ?_;refine aG ?_;refine aB rfl (yU h5 rfl rfl) ?_;exact G.o):=h ⟨k⟩
def aeG(h:aR P Q:=by
 intro G;refine cu [] [6,201] [] ?_;refine bK ?_;refine go_v rfl .none rfl (jt Tryz.underlying314 rfl rfl) ?_;refine aG ?_;exact G.o):=h ⟨k⟩
def aeH(h:aR P Q:=by
 intro G;refine cu [] [6,201] [] ?_;refine MG ?_;exact G.o):=h ⟨k⟩
def asl(h:Q:=by
 refine bK ?_;refine aT (apt X B p x y aM) ?_;refine bb ?_;exact aX ⟨rfl,rfl⟩ (by rw[a8 W];exact(au))):=h
def asm(h:Q:=by
 refine bK ?_;refine aT (XE X B p x y J v) ?_;refine bB ?_;exact aX ⟨rfl,rfl⟩ (by rw[bd W];exact(au))):=h
def aeI(h:aR P Q:=by
 intro G;refine yh ?_;refine lL ?_;exact G.o):=h ⟨k⟩
def aeJ(h:Q:=by
 refine aG ?_;refine wn λaS=>?_;exact Rm):=h
def aeK(h:Q:=by
 refine aG ?_;refine wn λbY=>?_;exact Rm):=h
def aeL(h:aR P Q:=by
 intro G;refine bK ?_;refine Au ?_;refine bK ?_;refine cP ?_;exact G.o):=h ⟨k⟩
def Xv(h:Q:=by
 refine Nr ?_;exact Xt):=h
def aeM(h:Q:=by
 refine l5 ?_;intro aI aQ;refine c8 ?_;exact aX ⟨rfl,h3,⟨al.gL,al.gD,al.gE,al.ap,al.ai⟩,rfl⟩):=h
def aeN(h:Q:=by
 rintro _ D ⟨_,⟨rfl,cj,aD,ah,d7,rfl⟩,rfl⟩;refine o5 ?_;exact pn):=h
def J8(h:aR P Q:=by
 intro G;refine c0 ?_;refine cP ?_;refine bQ ?_;refine cP ?_;exact G.o):=h ⟨k⟩
def aeO(h:aR P Q:=by
 intro G;refine hB ?_;refine zr ?_;refine JW ?_;exact G.o):=h ⟨k⟩
def aeP(h:aR P Q:=by
 intro G;refine kh ?_;refine aB rfl (kl ((l -1:Nat):Int) eZ rfl rfl) ?_;refine qF ?_;refine ic ?_;exact G.o):=h ⟨k⟩
def aeQ(h:Q:=by
 refine bB ?_;refine aT (J9 _ _ _) ?_;refine bB ?_;exact aX ⟨by simp[dO,I],rfl⟩ (by simp only[dO,ly,I,fi,eP,ep];exact(au))):=h
def RD(h:aR P Q:=by
 intro G;refine Dq ?_;refine yu ?_;refine yu ?_;refine Dq ?_;exact G.o):=h ⟨k⟩
def Xl(h:Q:=by
 refine bB ?_;refine aT (Xc _ _ _) ?_;refine bB ?_;exact aX ⟨by simp[r9,I],rfl⟩ (by simp only[r8,r9,I,fi,eP,ep];exact(au))):=h
def Xk(h:Q:=by
 refine bB ?_;refine aT (Dy _ _ _) ?_;refine bB ?_;exact aX ⟨by simp[jb,I],rfl⟩ (by simp only[mr,jb,I,fi,eP,ep];exact(au))):=h
def Xj(h:Q:=by
 refine bB ?_;refine aT (A0 _ _ _) ?_;refine bB ?_;exact aX ⟨by simp[j4,I],rfl⟩ (by simp only[qp,j4,I,fi,eP,ep];exact(au))):=h
def RE(h:aR P Q:=by
 intro G;refine BS ?_;refine bB ?_;refine cP ?_;exact G.o):=h ⟨k⟩
def My(h:Q:=by
 rintro _ _ ⟨b,a,p,rfl,rfl⟩;refine et ?_;refine bB ?_;exact aX ⟨_,_,_,rfl,rfl⟩):=h
def Yh(h:aR P Q:=by
 intro G;refine ci rfl (b1 rfl (mR m (iQ L b k) _ (b+k) (by rw[NJ];omega) _) bF) ?_;refine EN ?_;exact G.o):=h ⟨k⟩
def aeR(h:aR P Q:=by
 intro G;refine aG ?_;refine zv ?_;intro d;revert d;exact G.o):=h ⟨k⟩
def Ka(h:Q:=by
 have f:=bN W;simp only[jD];refine bi ?_;exact h4 n):=h
def aeS(h:Q:=by
 rintro _ _ ⟨rfl,cD,bn,rfl⟩;exact ad4):=h
def Nu(h:Q:=by
 have f:=bN W;simp only[jD];refine fr ?_;exact DK):=h
def Nv(h:aR P Q:=by
 intro G;refine ny ?_;intro q;refine aG ?_;refine go_v rfl .none rfl (jt Tryz.underlying232 rfl rfl) ?_;revert q;exact G.o):=h ⟨k⟩
def Kb(h:aR P Q:=by
 intro G;refine bi ?_;refine aT (asn) ?_;refine b6 ?_;refine lL ?_;exact G.o):=h ⟨k⟩
def Kc(h:Q:=by
 refine lZ ?_;intro p;exact Nq):=h
def Mw(h:Q:=by
 refine ux ?_;exact aX ⟨rfl,rfl⟩):=h
def Kd(h:aR P Q:=by
 intro G;refine WU ?_;refine M2 ?_;refine M2 ?_;refine WS ?_;exact G.o):=h ⟨k⟩
def aeT(h:Q:=by
 refine RC ?_;refine fD (i+1) (show i+1<=(es.take 400).length by omega) (show(es.take 400).length -(i+1)<(es.take 400).length -i by omega) dy (au)):=h
def Mx(h:Q:=by
 rintro _ D ⟨_,⟨b,a,p,rfl,rfl⟩,rfl⟩;refine uB ?_;exact aX ⟨_,_,_,rfl,rfl⟩):=h
def RF(h:aR P Q:=by
 intro G;refine BS ?_;refine aB rfl (fC (c:=false) yG (mo rfl rfl)) ?_;refine bB ?_;exact G.o):=h ⟨k⟩
def aeU(h:Q:=by
 refine aG ?_;refine fe ?_ ?_
 . exact ar9
 . exact aso):=h
def aeV(h:aR P Q:=by
 intro G;refine ael ?_;refine go_v rfl (.yes rfl rfl rfl) rfl (l0 (.bool false) (by rw[aeW,p];rfl) rfl rfl) ?_;exact G.o):=h ⟨k⟩
def Ke(h:aR P Q:=by
 intro G;refine gh ?_;refine eJ ?_;refine nN ?_;refine cq ?_;exact G.o):=h ⟨k⟩
def RG(h:aR P Q:=by
 intro G;refine ja ?_;refine Rz ?_;exact G.o):=h ⟨k⟩
def XI(h:Q:=by
 refine b6 ?_;refine cg (λW=>?_) (λW=>?_)
 . exact asm
 . exact asl):=h
def RH(h:Q:=by
 rintro _ D ⟨_,⟨rfl,cj,aD,ah,d7,rfl⟩,rfl⟩;refine uB ?_;exact pn):=h
def EO(h:aR P Q:=by
 intro G;refine cP ?_;refine nI ?_;refine bi ?_;exact G.o):=h ⟨k⟩
def Kf(h:Q:=by
 rintro _ _ ⟨rfl,cj,aD,ah,al,rfl⟩;refine et ?_;refine bb ?_;exact aX ⟨rfl,cj,aD,ah,al,rfl⟩):=h
def RI(h:aR P Q:=by
 intro G;refine fm ?_;refine C8 ?_;exact G.o):=h ⟨k⟩
def Kg(h:aR P Q:=by
 intro G;have hu:Th.gM=10000000:=rfl;have H:bq=1000000000000:=rfl;have u:Th.hE=90000:=rfl;have V:=h.ph;revert hu H u V;exact G.o):=h ⟨k⟩
def GN(h:aR P Q:=by
 intro G;rintro _ _ ⟨z,rfl,rfl⟩;refine et ?_;refine aG ?_;refine go_v rfl .none rfl (jt Tryz.underlying314 rfl rfl) ?_;revert z;exact G.o):=h ⟨k⟩
def aso(h:Q:=by
 refine aG ?_;refine wn λa=>?_;refine b6 ?_;exact ado):=h
def OW(h:aR P Q:=by
 intro G;refine po ?_;refine aew ?_;exact G.o):=h ⟨k⟩
def RJ(h:aR P Q:=by
 intro G;refine hB ?_;refine xi ?_;exact G.o):=h ⟨k⟩
def RK(h:Q:=by
 refine gh ?_;refine kd (asp p z bo x y E d out val 0 _ false) bF (λD=>?_);refine gh ?_;exact λh s=>Sat.swap (cF e trivial (au) h s)):=h
def AM(h:Q:=by
 rintro _ _ ⟨aI,aQ,rfl,rfl⟩;refine et ?_;refine bB ?_;exact aX ⟨aI,aQ,rfl,rfl⟩):=h
def BV(h:aR P Q:=by
 intro G;refine J6 ?_;refine hA ?_;exact G.o):=h ⟨k⟩
def Kh(h:aR P Q:=by
 intro G;refine Y8 ?_;intro F D;refine ja ?_;revert F D;exact G.o):=h ⟨k⟩
def Ki(h:aR P Q:=by
 intro G;refine pK rfl .none rfl (b1 rfl (asq C.dG ae) bF) ?_;rintro _ D ⟨_,⟨da,rfl,rfl⟩,rfl⟩;refine fm ?_;rw[BW];revert da;exact G.o):=h ⟨k⟩
def asr(h:Q:=by
 subst e;have gr:(s.L.set 1 (eU (s.L.getD 1 0+1))).getD 1 0=s.L.getD 1 0+1:=aai;have ay:(s.L.set 1 (eU (s.L.getD 1 0+1))).getD 0 0=s.L.getD 0 0:=mC bJ;exact⟨by show(s.L.set 1 (eU (s.L.getD 1 0+1))).getD 0 0=_;rw[ay];exact nl,by show s.lets.length+0<=_;omega,by show(s.aJ.length:Int)=min ((s.L.set 1 (eU (s.L.getD 1 0+1))).getD 1 0 -((1:Nat):Int)) _;rw[gr];omega,by show((1:Nat):Int)+1<=(s.L.set 1 (eU (s.L.getD 1 0+1))).getD 1 0;rw[gr];omega,by show(s.L.set 1 (eU (s.L.getD 1 0+1))).getD 1 0<=_;rw[gr];omega⟩):=h
def ass(h:Q:=by
 subst e;have gr:(s.L.set 0 (eU (s.L.getD 0 0+1))).getD 0 0=s.L.getD 0 0+1:=aai;have ay:(s.L.set 0 (eU (s.L.getD 0 0+1))).getD 1 0=s.L.getD 1 0:=mC bJ;exact⟨by show(s.L.set 0 (eU (s.L.getD 0 0+1))).getD 0 0=_;rw[gr,nl];show _=((s.lets.length+1:Nat):Int);omega,by show s.lets.length+1<=_;omega,by show(s.aJ.length:Int)=min ((s.L.set 0 (eU (s.L.getD 0 0+1))).getD 1 0 -_) _;rw[ay];exact dp,by show _<=(s.L.set 0 (eU (s.L.getD 0 0+1))).getD 1 0;rw[ay];exact mD,by show(s.L.set 0 (eU (s.L.getD 0 0+1))).getD 1 0<=_;rw[ay];omega⟩):=h
def zw(h:Q:=by
 rintro _ _ ⟨rfl,cj,aD,ah,d7,rfl⟩;refine et ?_;refine bB ?_;exact pn):=h
def BX(h:Q:=by
 obtain rfl:x=L.length:=ae;rw[nw]at bm;refine dC ?_;exact aX ⟨by rw[Kj bm],rfl⟩ (λ_ h=>h)):=h
def Bq(h:aR P Q:=by
 intro G;refine J6 ?_;refine oJ ?_;exact G.o):=h ⟨k⟩
def Kk(h:aR P Q:=by
 intro G;refine ar5 ?_;intro F D;rintro z K;revert F D z K;exact G.o):=h ⟨k⟩
def C2(h:Q:=by
 obtain rfl:x=L.length:=ae;rw[nw]at bm;refine dC ?_;exact aX ⟨-1,⟨λh=>absurd h bJ,λh=>by rw[bm]at h;cases h⟩,rfl,rfl⟩ (λ_ h=>h)):=h
def xk(h:Q:=by
 rintro _ _ ⟨rfl,cj,aD,ah,d7,rfl⟩;refine et ?_;refine bi ?_;exact pn):=h
def xl(h:Q:=by
 rintro _ _ ⟨rfl,cj,aD,ah,d7,rfl⟩;refine et ?_;refine bb ?_;exact pn):=h
def BY(h:Q:=by
 rintro _ D ⟨_,⟨rfl,cj,aD,ah,d7,rfl⟩,rfl⟩;refine Gi ?_;exact pn):=h
def sG(h:aR P Q:=by
 intro G;refine bb ?_;refine wn λZ=>?_;refine wn λaO=>?_;refine wn λaU=>?_;revert Z aO aU;exact G.o):=h ⟨k⟩
def aeX(h:Q:=by
 refine aG ?_;refine fe ?_ ?_
 . exact ast
 . exact asu):=h
def aeY(h:Q:=by
 refine aG ?_;refine fe ?_ ?_
 . exact asv
 . exact asw):=h
def aeZ(h:Q:=by
 refine aG ?_;refine fe ?_ ?_
 . exact asx
 . exact asy):=h
def ae0(h:Q:=by
 refine aG ?_;refine fe ?_ ?_
 . exact asz
 . exact asA):=h
def rn(h:Q:=by
 refine lZ ?_;intro p;refine bB ?_;exact aX ⟨p,rfl,rfl⟩):=h
def asB(h:Q:=by
 refine C6 ?_;refine fD (x+1) ⟨show x+1<=L.length by omega,any_none R bm M⟩ (show L.length -(x+1)<L.length -x by omega) dy (λ_ h=>h)):=h
def ae1(h:Q:=by
 refine aG ?_;refine fe ?_ ?_
 . exact asC
 . exact asD):=h
def ae2(h:Q:=by
 refine aG ?_;refine fe ?_ ?_
 . exact asE
 . exact asF):=h
def asG(h:Q:=by
 refine C6 ?_;refine fD (x+1) ⟨show x+1<=L.length by omega,ae3 R bm M⟩ (show L.length -(x+1)<L.length -x by omega) dy (λ_ h=>h)):=h
def ae4(h:Q:=by
 have r:a=0->p0 C (n+1) 1 0 sv:=λe=>by
  exact ass
 have ef:a=1->p0 C (n+1) 0 1 sv:=λe=>by
  exact asr
 have l:a=0->(acc C s (.add a 1)).2=.fV ((s.lets.length+1:Nat):Int):=λe=>by
  exact asj
 cases k<;>first
  |(
   replace R:bU.add a 1=.add 0 1:=R;have agg:a=0:=by cases R;rfl
   exact Z rfl rfl (r agg) (l agg))
  |(
   replace R:bU.add a 1=.add 1 1:=R;have m4:a=1:=by cases R;rfl
   refine Z rfl rfl (ef m4) ?_;subst m4;have gr:(s.L.set 1 (eU (s.L.getD 1 0+1))).getD 1 0=eU (s.L.getD 1 0+1):=rC ae;show bU.fV (eU (s.L.getD 1 0+1))=.fV ((s.L.set 1 (eU (s.L.getD 1 0+1))).getD 1 0);rw[gr])
  |exact absurd rfl (R a 1)
  |exact R.elim
  |exact R.2.elim
  |(obtain⟨_,_,e⟩:=R;cases e)
  |(obtain⟨_,e⟩:=R;cases e)
  |(cases R)):=h
def zx(h:Q:=by
 refine dC ?_;refine cg (λW=>?_) (λW=>?_)
 . exact asH
 . exact asI):=h
def Xo(h:Q:=by
 refine cv ?_;refine wn λaS=>?_;refine gg ?_;refine aG ?_;exact uM):=h
def Xn(h:Q:=by
 refine c8 ?_;refine wn λco=>?_;refine gg ?_;refine aG ?_;exact uM):=h
def Wh(h:aR P Q:=by
 intro G;refine bK ?_;refine cP ?_;refine gg ?_;refine aT (asJ X.wp w id d O.ok O.now O.seq) ?_;refine aG ?_;exact G.o):=h ⟨k⟩
def ae5(h:aR P Q:=by
 intro G;refine aB rfl (DY rfl) ?_;refine J5 ?_;refine tv ?_;exact G.o):=h ⟨k⟩
def Yg(h:Q:=by
 obtain rfl:k=2+2*n:=ae;refine dC ?_;refine wn λj=>?_;exact NP):=h
def Yj(h:aR P Q:=by
 intro G;refine aeF ?_;refine aG ?_;exact G.o):=h ⟨k⟩
def ae6(h:aR P Q:=by
 intro G;refine fm ?_;refine Bq ?_;exact G.o):=h ⟨k⟩
def ae7(h:aR P Q:=by
 intro G;refine bK ?_;refine aeG ?_;exact G.o):=h ⟨k⟩
def ae8(h:aR P Q:=by
 intro G;refine b6 ?_;refine aeH ?_;exact G.o):=h ⟨k⟩
def ae9(h:aR P Q:=by
 intro G;refine gg ?_;refine bi ?_;refine aT (Lg.aq2 X.ld s.bc ((s.lets.length+1:Nat):Int) 1 aM hk) ?_;refine oz ?_;exact G.o):=h ⟨k⟩
def afa(h:Q:=by
 refine br ((aF aI aQ).spec) ?_;exact xl):=h
def afb(h:aR P Q:=by
 intro G;refine Ax ?_;refine lL ?_;refine b6 ?_;exact G.o):=h ⟨k⟩
def afc(h:aR P Q:=by
 intro G;refine hb ?_;refine fm ?_;refine aB rfl (qv rfl) ?_;refine oO ?_;exact G.o):=h ⟨k⟩
def asK(h:Q:=by
 refine wn λbY=>?_;exact aeJ):=h
def asL(h:Q:=by
 refine wn λaS=>?_;exact aeK):=h
def asM(h:Q:=by
 refine wn λa=>?_;exact aeJ):=h
def asN(h:Q:=by
 refine wn λa=>?_;exact aeK):=h
def afd(h:aR P Q:=by
 intro G;refine o2 rfl rfl ga ?_;refine aG ?_;refine ad8 ?_;exact G.o):=h ⟨k⟩
def Y6(h:Q:=by
 refine Bq ?_;refine jh (.inl rfl) rfl rfl _ (⟨by congr 1;simp;omega,rfl⟩) (au)):=h
def XQ(h:aR P Q:=by
 intro G;refine bi ?_;refine cu [] [7,201,2] [] ?_;refine bB ?_;refine go_v rfl .none rfl (fI rfl rfl O) ?_;refine go_v rfl .none rfl (gz rfl (XB O)) ?_;exact G.o):=h ⟨k⟩
def ar7(h:Q:=by
 rw[T];refine az .jg fF _ bm cl A ⟨(λo k e=>by cases e),λO=>.inl ?_,(al j t cK).lx⟩;rcases A.iL O (F O)with g|g
 . exact g.elim
 . exact g):=h
def asO(h:aR P Q:=by
 intro G;refine ic ?_;refine aeO ?_;exact G.o):=h ⟨k⟩
def XZ(h:Q:=by
 rw[I,b]at cc;simp only[eP,ep]at cc;refine ql cc (λD=>?_);refine gh ?_;exact sf (cF (q,c1,bn,b9) V (au))):=h
def afe(h:aR P Q:=by
 intro G;refine ja ?_;refine aeP ?_;exact G.o):=h ⟨k⟩
def ar8(h:Q:=by
 rw[T];refine az _ fF _ bm cl A ⟨(λo k e=>by cases e),λO=>.inl ?_,(al j t cK).lx⟩;rcases A.iL O (F O)with g|g
 . exact absurd (asP g) (by rw[I];decide)
 . exact g):=h
def UL(h:Q:=by
 rw[aff h];refine cq ?_;refine aB rfl (fC (c:=true) (by exact kM (by decide)) (yJ rfl rfl)) ?_;refine dC ?_;exact L0 (.inl rfl) rfl rfl rfl rfl rfl [a2] ⟨rfl,rfl⟩ (au)):=h
def X5(h:Q:=by
 rw[I,b]at cc;simp only[eP,ep]at cc;refine ql cc (λD=>?_);refine gh ?_;exact sf (cF (q,c1,bn,b9,a,c,ce,s) V (au))):=h
def afg(h:aR P Q:=by
 intro G;refine ux ?_;refine aB rfl (fk (((k+1:Nat):Int)) eZ rfl rfl) ?_;refine bb ?_;exact G.o):=h ⟨k⟩
def afh(h:aR P Q:=by
 intro G;refine ux ?_;refine vR ?_;exact G.o):=h ⟨k⟩
def afi(h:aR P Q:=by
 intro G;refine adt ?_;refine ic ?_;refine hB ?_;refine zs ?_;exact G.o):=h ⟨k⟩
def RL(h:aR P Q:=by
 intro G;refine RJ ?_;refine kh ?_;exact G.o):=h ⟨k⟩
def Me(h:aR P Q:=by
 intro G;refine br (amY _ _ _ _ ak) ?_;rintro _ _ ⟨a,c,rfl,rfl⟩;refine et ?_;refine fW ?_;refine lL ?_;revert a c;exact G.o):=h ⟨k⟩
def afj(h:aR P Q:=by
 intro G;refine RG ?_;refine aB rfl (o_load rfl (l:=oo (w.now+1) w.seq a) (v:=af ((w.now+1:Nat):Int)) rfl) ?_;exact G.o):=h ⟨k⟩
def afk(h:aR P Q:=by
 intro G;refine aew ?_;refine go_v rfl .none rfl (o_load rfl rfl) ?_;refine po ?_;exact G.o):=h ⟨k⟩
def RM(h:aR P Q:=by
 intro G;refine bB ?_;refine aeG ?_;exact G.o):=h ⟨k⟩
def RN(h:Q:=by
 refine aT (BE X z s (X.C.a1+i) t o k N R) ?_;refine bK ?_;refine nN ?_;refine cv ?_;exact tQ):=h
def Kl(h:aR P Q:=by
 intro G;refine sG ?_;intro Z aO aU;refine c8 ?_;revert Z aO aU;exact G.o):=h ⟨k⟩
def Km(h:aR P Q:=by
 intro G;refine zr ?_;refine J6 ?_;exact G.o):=h ⟨k⟩
def asQ(h:Q:=by
 refine wn λaS=>?_;exact aeU):=h
def asR(h:Q:=by
 refine wn λbY=>?_;exact aeU):=h
def L4(h:aR P Q:=by
 intro G;refine wn λy=>?_;refine gQ λa70 d=>?_;refine cv ?_;refine vR ?_;revert y a70 d;exact G.o):=h ⟨k⟩
def afl(h:aR P Q:=by
 intro G;refine⟨(λ_=>(λ_ _=>trivial)),?_⟩;refine bb ?_;refine go_vs rfl .none rfl (JI rfl rfl) (λ_ _=>trivial) ?_;refine bb ?_;refine ady ?_;exact G.o):=h ⟨k⟩
def Kn(h:aR P Q:=by
 intro G;refine aT (xm X z s (X.C.a1+i) t N R) ?_;refine bK ?_;refine lL ?_;refine bK ?_;refine cP ?_;exact G.o):=h ⟨k⟩
def afm(h:Q:=by
 refine Rq ?_;intro cj aD ah d7;refine CT ?_;exact pn):=h
def asS(h:Q:=by
 refine wn λa=>?_;refine aG ?_;refine fe ?_ ?_
 . exact asL
 . exact asK):=h
def RO(h:Q:=by
 refine br (h) ?_;refine ps ?_;exact pq):=h
def RP(h:aR P Q:=by
 intro G;refine bb ?_;refine wn λbY=>?_;refine b6 ?_;refine cu [] [14,201] (ab bY 261 (iz ⟨l,b,reason⟩)::acT) ?_;refine fW ?_;revert bY;exact G.o):=h ⟨k⟩
def RQ(h:aR P Q:=by
 intro G;refine hb ?_;refine RI ?_;exact G.o):=h ⟨k⟩
def RR(h:aR P Q:=by
 intro G;rintro _ D ⟨_,⟨rfl,aI,aQ,rfl⟩,rfl⟩;refine RI ?_;revert aI aQ;exact G.o):=h ⟨k⟩
def MT(h:aR P Q:=by
 intro G;refine aw Tryz.func202 λF D=>?_;refine c0 ?_;refine aT (ts p (lv X (fQ a0 fd aC.due) (fQ cr cS aC.cut) (fQ cD cd aC.ref)) x y aC.out aC.val) ?_;refine aB rfl (fC (c:=false) (by simp[bh]) (qv rfl)) ?_;refine bQ ?_;revert F D;exact G.o):=h ⟨k⟩
def EP(h:Q:=by
 refine br (EQ f9) ?_;rintro _ _ ⟨rfl,cj,d7,rfl⟩;refine et ?_;refine c8 ?_;exact JM):=h
def RS(h:Q:=by
 refine aG ?_;refine th rfl .none rfl (kE (cs:=eg X (mA id 0 N b.name) ⟨b8,none,0,none,0,d,g,c,j,[]⟩) rfl rfl) ?_;exact aec):=h
def RT(h:Q:=by
 refine aG ?_;refine th rfl .none rfl (kE (cs:=eg X (mA id a N b.name) ⟨b8,none,0,none,0,d,g,c,j,[]⟩) rfl rfl) ?_;exact aec):=h
def ase(h:Q:=by
 refine wn λbY=>?_;refine aG ?_;refine fe ?_ ?_
 . exact asM
 . exact asQ):=h
def asd(h:Q:=by
 refine wn λaS=>?_;refine aG ?_;refine fe ?_ ?_
 . exact asN
 . exact asR):=h
def RU(h:Q:=by
 refine aG ?_;refine th rfl .none rfl (kE (cs:=nh C (.slice none 0 0) (.pointer none) (.pointer none) (.pointer none) (.pointer none) (.slice none 0 0) p r ld da (.slice none 0 0) (.slice none 0 0) (.pointer none)) rfl rfl) ?_;refine wn λn=>?_;refine b6 ?_;exact Q3 λact i g0 st=>⟨n,p,r,ld,da,g0.jv dy,st.imp (au)⟩):=h
def xn(h:aR P Q:=by
 intro G;refine bb ?_;refine wn λaO=>?_;refine wn λaU=>?_;refine wn λaS=>?_;refine wn λbY=>?_;revert aO aU aS bY;exact G.o):=h ⟨k⟩
def C4(h:Q:=by
 rintro _ D ⟨_,⟨r,n,rfl,bf⟩,rfl⟩;refine fm ?_;obtain rfl:=bf.symm;refine bi ?_;exact aX ⟨Gm (by rw[o4,kN];exact n),rfl⟩ (λ_ h=>h)):=h
def Ko(h:aR P Q:=by
 intro G;refine wn λc2=>?_;refine aG ?_;refine aeu ?_;intro bL pc;revert c2 bL pc;exact G.o):=h ⟨k⟩
def Kp(h:aR P Q:=by
 intro G;refine aeu ?_;intro bL pc;refine aG ?_;refine wn λc2=>?_;revert bL pc c2;exact G.o):=h ⟨k⟩
def A1(h:aR P Q:=by
 intro G;refine aw Tryz.func481 λF D=>?_;have g:=J.len;have a:=J.ef;have d:=J.dB;have i:=J.jQ;have bf:=Ho tt a;have aj:=J.lt tt;have g4:lB b n tt<L.length:=ae;revert F D g a d i bf aj g4;exact G.o):=h ⟨k⟩
def vl(h:Q:=by
 refine br (h) ?_;exact xl):=h
def Kq(h:Q:=by
 refine adz ?_;exact RH):=h
def afn(h:Q:=by
 refine il [8,9,10,11,12] [9,10,11] [1,5,9,13,17,21,25,29,34,38,42,46,50,3,3,3,3,42,38,46,50,3,3,3,3,3,38,34,42,46,50,3,3,3,3,42,34,46,50,3,3,3,46,34,50,3,3,3,3,3,42,34,38,46,50,3,3,3,3,38,34,46,50,3,3,3,46,34,50] [e9 X B] ?_;refine bQ ?_;refine fe ?_ ?_
 . exact asS
 . exact asc):=h
def afo(h:aR P Q:=by
 intro G;refine Kd ?_;refine hB ?_;refine hA ?_;exact G.o):=h ⟨k⟩
def afp(h:aR P Q:=by
 intro G;refine hB ?_;refine hA ?_;refine xi ?_;refine kh ?_;exact G.o):=h ⟨k⟩
def afq(h:Q:=by
 refine bi ?_;exact vl):=h
def afr(h:Q:=by
 refine bi ?_;refine br (aF.spec) ?_;exact zw):=h
def XR(h:Q:=by
 refine ny ?_;intro q;refine aG ?_;refine go_v rfl .none rfl (jt Tryz.underlying238 rfl rfl) ?_;refine bB ?_;exact aX ⟨q,rfl,rfl⟩):=h
def RV(h:aR P Q:=by
 intro G;refine gg ?_;refine cP ?_;refine J8 ?_;exact G.o):=h ⟨k⟩
def Zf(h:aR P Q:=by
 intro G;refine hb ?_;refine ae6 ?_;exact G.o):=h ⟨k⟩
def afs(h:aR P Q:=by
 intro G;rintro _ D ⟨_,⟨aI,aQ,rfl,rfl⟩,rfl⟩;refine ae6 ?_;revert aI aQ;exact G.o):=h ⟨k⟩
def UW(h:Q:=by
 refine b6 ?_;refine wn λc2=>?_;refine bQ ?_;refine cP ?_;refine c0 ?_;refine x5 (.inl rfl) rfl rfl rfl rfl [kx none 0 [],a2] (⟨none,0,rfl,rfl⟩) (λh s=>iV h ((au) h s))):=h
def aqX(h:aR P Q:=by
 intro G;refine ci rfl (b1 rfl (OV _) bF) ?_;refine afc ?_;exact G.o):=h ⟨k⟩
def aft(h:aR P Q:=by
 intro G;refine aej ?_;refine aT (xm X z s j t N R) ?_;refine nI ?_;exact G.o):=h ⟨k⟩
def RW(h:aR P Q:=by
 intro G;refine J1 ?_;refine tv ?_;refine zr ?_;exact G.o):=h ⟨k⟩
def afu(h:aR P Q:=by
 intro G;refine aT (amu m.ref x.id (max l.cy 0) x.parent (some ⟨q,8,none⟩) 4 kI (ab q 118 (eg X x e)) rfl) ?_;refine bQ ?_;refine aT (UI m.slot) ?_;refine oz ?_;refine cP ?_;exact G.o):=h ⟨k⟩
def afv(h:aR P Q:=by
 intro G;refine c0 ?_;refine nN ?_;refine bb ?_;refine cu [] [5,201,1] [ab aU 110 [ptr q 0],ab aS 36 [bw id],ab q 118 (eg X x e)] ?_;refine bB ?_;refine aT (asT e.gK X.C.dY J.pS x.aside x.front id) ?_;exact G.o):=h ⟨k⟩
def afw(h:Q:=by
 refine c8 ?_;refine br (afx X z s i I O db em U aS Z [] 0 o) ?_;exact aeM):=h
def afy(h:aR P Q:=by
 intro G;refine c0 ?_;refine ci rfl (b1 rfl (afz cD bn N.length (iS N) (fE cD bn N) (RX N) (RY N) ae) bF) ?_;rintro _ D ⟨_,⟨a,c,rfl,rfl⟩,rfl⟩;refine bi ?_;refine aT (asU N a c h2) ?_;refine c8 ?_;revert a c;exact G.o):=h ⟨k⟩
def afA(h:aR P Q:=by
 intro G;refine Km ?_;refine oJ ?_;exact G.o):=h ⟨k⟩
def afB(h:aR P Q:=by
 intro G;refine Km ?_;refine hA ?_;exact G.o):=h ⟨k⟩
def NB(h:aR P Q:=by
 intro G;refine ny ?_;intro q;refine wn λaO=>?_;refine b6 ?_;refine cu [] [5,201] [] ?_;refine bB ?_;revert q aO;exact G.o):=h ⟨k⟩
def afC(h:Q:=by
 refine cv ?_
 first|refine kb (mv rfl rfl rfl rfl) ?_|refine kb (mv rfl rfl d rfl) ?_
 refine bb ?_
 first|refine kb (mv rfl rfl rfl rfl) ?_|refine kb (mv rfl rfl d rfl) ?_
 refine bb ?_;exact aX ⟨rfl,rfl⟩):=h
def RZ(h:Q:=by
 refine aT (Kr db 0 255 aE) ?_;refine aG ?_;refine cP ?_;refine oz ?_;exact tQ):=h
def XU(h:Q:=by
 refine hb ?_;refine rV ?_;refine aT (mq p (gJ X) x y 0 0 1 o.value) ?_;refine bi ?_;exact aX ⟨rfl,rfl⟩ (by rw[bd W];exact A5 (by decide) x y (au))):=h
def L3(h:Q:=by
 refine bb ?_;refine wn λU=>?_;refine bQ ?_;exact ad5):=h
def MJ(h:aR P Q:=by
 intro G;refine aw Tryz.func390 λF D=>?_;refine cv ?_;refine wn λf=>?_;refine wn λco=>?_;refine cq ?_;refine cP ?_;revert F D f co;exact G.o):=h ⟨k⟩
def afD(h:Q:=by
 rintro _ D ⟨_,⟨rfl,cj,d7,rfl⟩,rfl⟩;refine RI ?_;refine fD (i+1,cj,f) (q cj d7) ae dy (au)):=h
def Ve(h:aR P Q:=by
 intro G;refine RB ?_;refine aG ?_;refine o2 rfl rfl ga ?_;refine aG ?_;exact G.o):=h ⟨k⟩
def afE(h:Q:=by
 refine c0 ?_;exact vl):=h
def MU(h:Q:=by
 refine aw Tryz.func202 λF D=>?_;refine c0 ?_;refine aT (ts p bo x y 0 0) ?_;refine cP ?_;refine c0 ?_;exact aX ⟨rfl,rfl⟩):=h
def afF(h:aR P Q:=by
 intro G;refine RL ?_;refine kh ?_;exact G.o):=h ⟨k⟩
def afG(h:aR P Q:=by
 intro G;refine bK ?_;refine cu [] [6,201] [ab U 110 [ptr q 0],ab aO 3 [af slot]] ?_;refine bB ?_;refine go_v rfl .none rfl (l1 rfl rfl g0) ?_;refine go_u rfl .none (mv rfl rfl rfl Z2) (λC=>absurd C bJ) ?_;refine bb ?_;exact G.o):=h ⟨k⟩
def afH(h:Q:=by
 refine cq ?_;refine aB rfl (jt Tryz.underlying169 rfl rfl) ?_;refine aG ?_;refine aT (iA (a7.eq_4 ..) (U,ar) ⟨rfl,rfl⟩ (jK X z.ap z.ai s.az j S 87 [ptr U 0,ptr ar 0] dk (.fx (yA j)) .oZ M a)) ?_;exact Rl):=h
def afI(h:Q:=by
 refine EM ?_;refine aT (iA (a7.eq_12 ..) (U,aO,Z,q) ⟨rfl,rfl,B.ap⟩ (jK X z.ap z.ai s.az j p 288 [ptr U 0,ptr aO 0,ptr Z 0] t (.post a (Th.Fb (!decide (x.mode=1)))) (.settled a) N R)) ?_;exact pT):=h
def afJ(h:Q:=by
 refine Rx ?_;refine aT (iA (a7.eq_18 ..) (b,c2,aS,Y,bY,co,q,I,M) ⟨rfl,rfl,bm⟩ (jK X z.ap z.ai s.az j p 387 [ptr b 0,ptr c2 0,ptr aS 0,ptr Y 0,ptr bY 0,ptr co 0] t (.add 1 1) (.me a kind slot k) N R)) ?_;exact pT):=h
def afK(h:Q:=by
 refine cq ?_;refine aB rfl (jt Tryz.underlying392 rfl rfl) ?_;refine aG ?_;refine aT (iA (a7.eq_22 ..) (Y,bY,aO,aS,aU,I,M) ⟨rfl,rfl⟩ (jK X z.ap z.ai s.az j p 430 [ptr Y 0,ptr bY 0,ptr aO 0,ptr aS 0,ptr aU 0] t (.hV (nE 4 (lF X.C.bG X.C.aZ x y))) (.mK x y k) N R)) ?_;exact pT):=h
def afL(h:Q:=by
 refine EM ?_;refine aT (iA (a7.eq_16 ..) (Y,aS,aO,Z,bY,aU,I,M) ⟨rfl,rfl⟩ (jK X z.ap z.ai s.az j p 210 [ptr Y 0,ptr aS 0,ptr aO 0,ptr Z 0,ptr bY 0,ptr aU 0] t (.post l.to.toNat (Th.K7 id)) (.told id l.to k) N R)) ?_;exact pT):=h
def afM(h:Q:=by
 refine cq ?_;refine aB rfl (jt Tryz.underlying248 rfl rfl) ?_;refine aG ?_;refine aT (iA (a7.eq_19 ..) (b,c2,bY,aS,Y,co,q,I,M) ⟨rfl,rfl,bm⟩ (jK X z.ap z.ai s.az j p 389 [ptr b 0,ptr c2 0,ptr bY 0,ptr aS 0,ptr Y 0,ptr co 0] t (.eS (r1 id e.vp)) (.asked id a e k) N R)) ?_;exact pT):=h
def Ks(h:aR P Q:=by
 intro G;refine RE ?_;refine nI ?_;exact G.o):=h ⟨k⟩
def afN(h:aR P Q:=by
 intro G;refine et ?_;refine afl ?_;exact G.o):=h ⟨k⟩
def afO(h:Q:=by
 refine EM ?_;refine aT (iA (a7.eq_21 ..) (aU,Z,U,aO,ar,q,I,M) ⟨rfl,rfl,bm⟩ (jK X z.ap z.ai s.az j p 394 [ptr aU 0,ptr Z 0,ptr U 0,ptr aO 0,ptr ar 0] t (.post who Th.xE) (.gone a who k) N R)) ?_;exact Rl):=h
def Kt(h:Q:=by
 refine bK ?_;exact vl):=h
def ER(h:aR P Q:=by
 intro G;refine zr ?_;refine aB rfl (yJ rfl rfl) ?_;refine zu ?_;exact G.o):=h ⟨k⟩
def Da(h:Q:=by
 refine bb ?_;refine wn λU=>?_;refine cv ?_;exact ad5):=h
def NO(h:Q:=by
 refine adM ?_;refine EN ?_;refine fD (k+1) (show k+1<=_ by omega) ae dy (au)):=h
def afP(h:Q:=by
 refine Rx ?_;refine aT (iA (a7.eq_29 ..) (bY,aS,Z,aO,aU,q,I,M) ⟨rfl,rfl,B.ap⟩ (jK X z.ap z.ai s.az j p 402 [ptr bY 0,ptr aS 0,ptr Z 0,ptr aO 0,ptr aU 0] t (.load 1) (.who a k) N R)) ?_;refine bb ?_;exact aX ⟨rfl,h3,_,rfl,⟨al.gL,al.gD,al.gE,by show _=(s.aJ.set _ _).length;rw[gn];exact al.ap,al.ai⟩,rfl⟩ (λh E=>jm (X:=X) (z:=h3) (s:=aa3) (x:={x with mode:=5}) B ⟨V.b8,V.lc,V.es⟩ D h ((au) h E))):=h
def afQ(h:Q:=by
 refine b6 ?_;refine il [15,16,17] [16] Qa [cU p x y 0 0 X.bo,ab b9 246 [ptr p 0],ab d5 36 zj,e9 X B] ?_;refine eJ ?_;refine fe ?_ ?_
 . exact asV
 . exact asW):=h
def asH(h:Q:=by
 obtain rfl:a=none:=by simpa using W
 refine yq (λ_ s=>WE (l:=n) (c:=c) s) ?_;rintro⟨d,g,-,J⟩;subst d;subst g;subst J;exact WG):=h
def afR(h:aR P Q:=by
 intro G;refine aex ?_;refine aex ?_;exact G.o):=h ⟨k⟩
def afS(h:Q:=by
 refine aw Tryz.func52 λF D=>?_;refine cv ?_;refine EO ?_;exact aX ⟨rfl,rfl⟩):=h
def afT(h:aR P Q:=by
 intro G;refine RW ?_;refine kh ?_;exact G.o):=h ⟨k⟩
def aqZ(h:aR P Q:=by
 intro G;refine rq ?_;refine afF ?_;exact G.o):=h ⟨k⟩
def afU(h:aR P Q:=by
 intro G;refine zs ?_;refine ae5 ?_;exact G.o):=h ⟨k⟩
def afV(h:aR P Q:=by
 intro G;refine BS ?_;refine cP ?_;refine bQ ?_;refine aT (Po.aiq (X.bo b) (X.C.box b) p V) ?_;refine aG ?_;refine cP ?_;exact G.o):=h ⟨k⟩
def UO(h:aR P Q:=by
 intro G;refine cq ?_;refine cP ?_;refine c8 ?_;refine aB rfl (fI rfl rfl B) ?_;refine aG ?_;refine aB rfl (gz rfl (rT gy 2 rf l rfl)) ?_;refine aG ?_;exact G.o):=h ⟨k⟩
def Yk(h:aR P Q:=by
 intro G;refine aeF ?_;refine bb ?_;refine tq (by simp[ck,gN];omega) ?_;refine bi ?_;exact G.o):=h ⟨k⟩
def afW(h:aR P Q:=by
 intro G;refine ci rfl (b1 rfl (Ku db 0 255 ae) bF) ?_;refine hb ?_;refine rV ?_;refine cP ?_;refine c0 ?_;refine cP ?_;exact G.o):=h ⟨k⟩
def afX(h:Q:=by
 refine aB rfl (fC (c:=true) yG (mo rfl rfl)) ?_;exact afr):=h
def Zi(h:Q:=by
 refine Zf ?_;refine jh (.inl rfl) rfl rfl _ (⟨rfl,rfl⟩) (au)):=h
def afY(h:aR P Q:=by
 intro G;refine kh ?_;refine zq ?_;refine zq ?_;refine zq ?_;refine zq ?_;refine zq ?_;refine iX rfl (tR) ?_;exact G.o):=h ⟨k⟩
def R0(h:aR P Q:=by
 intro G;refine aw Tryz.func26 λF D=>?_;refine bb ?_;refine wn λZ=>?_;refine fr ?_;refine cP ?_;refine nI ?_;revert F D Z;exact G.o):=h ⟨k⟩
def afZ(h:aR P Q:=by
 intro G;refine zs ?_;refine kh ?_;refine Rz ?_;refine aB rfl (l1 rfl rfl ae) ?_;exact G.o):=h ⟨k⟩
def af0(h:Q:=by
 have h1:=r.ph;have h2:Th.gM=10000000:=rfl;have aN:Th.hE=90000:=rfl;have bu:s.trace.length+s.dead.length<=Th.bM s:=Px;have dW:Th.hE*n<=90000*10000000:=qq (ei _) aM;show _<=1099511627776;omega):=h
def af1(h:aR P Q:=by
 intro G;refine hB ?_;refine afA ?_;exact G.o):=h ⟨k⟩
def R1(h:aR P Q:=by
 intro G;refine afB ?_;refine ja ?_;exact G.o):=h ⟨k⟩
def R2(h:aR P Q:=by
 intro G;refine Kd ?_;refine J2 ?_;exact G.o):=h ⟨k⟩
def af2(h:Q:=by
 refine aG ?_;refine wn λc=>?_;exact RS):=h
def af3(h:Q:=by
 refine aG ?_;refine wn λj=>?_;exact RS):=h
def af4(h:Q:=by
 refine aG ?_;refine wn λc=>?_;exact RT):=h
def af5(h:Q:=by
 refine aG ?_;refine wn λj=>?_;exact RT):=h
def aqW(h:aR P Q:=by
 intro G;refine hA ?_;refine RG ?_;refine arX ?_;exact G.o):=h ⟨k⟩
def Ns(h:Q:=by
 refine c8 ?_;refine br (apm q m b n x y aM aA ah ag) ?_;refine lZ ?_;intro p;refine gg ?_;refine aG ?_;exact aX ⟨p,rfl,rfl⟩):=h
def R3(h:aR P Q:=by
 intro G;rintro _ _ ⟨z,rfl,rfl⟩;refine et ?_;refine ae7 ?_;revert z;exact G.o):=h ⟨k⟩
def af6(h:aR P Q:=by
 intro G;refine afN ?_;refine cq ?_;exact G.o):=h ⟨k⟩
def af7(h:aR P Q:=by
 intro G;have H:bq=1000000000000:=rfl;obtain⟨ak,c,al⟩:=id h.bp;have N:j<s.az.length:=(dc.1 cK).1;obtain⟨Y,hk,R⟩:=(al j t cK).on o k B;have z:=asX hk;have U:=mE 0 hk;have F:j<C.a1->Kv C j s.L o:=λO=>by
  exact ar2
 revert H ak c al N Y hk R z U F;exact G.o):=h ⟨k⟩
def af8(h:Q:=by
 refine aG ?_;refine wn λp=>?_;exact RU):=h
def af9(h:Q:=by
 refine aG ?_;refine wn λr=>?_;exact RU):=h
def aga(h:Q:=by
 refine cP ?_;refine cq ?_;exact Kq):=h
def agb(h:aR P Q:=by
 intro G;refine oO ?_;refine Km ?_;exact G.o):=h ⟨k⟩
def agc(h:Q:=by
 refine Q5 ?_;refine bi ?_;exact afm):=h
def agd(h:aR P Q:=by
 intro G;refine bQ ?_;refine jF rfl .none rfl (kl ((a -1:Nat):Int) eZ rfl rfl) (au) ?_;refine jF rfl .none rfl (fI rfl rfl (show a -1<X.C.aZ by omega)) (au) ?_;refine jF rfl .none rfl (gz rfl (Kw aW)) (au) ?_;refine bQ ?_;refine jF rfl .none rfl (kl ((s.notes.length:Nat):Int) eZ rfl rfl) (au) ?_;refine jF rfl .none rfl (o6 ((s.notes.length:Nat):Int) (by exact tp (by omega)) rfl) (au) ?_;exact G.o):=h ⟨k⟩
def age(h:Q:=by
 have pu:=h.num.pu;have mF:=h.num.mF;refine⟨?_,?_,?_,?_,?_⟩
 . exact arG
 . exact arR
 . exact arU
 . show _<=(acc C s o).1.L.getD 1 0;rw[ay];exact h.num.mD
 . show(acc C s o).1.L.getD 1 0<=_;rw[ay];omega):=h
def H8(h:aR P Q:=by
 intro G;refine afA ?_;refine yu ?_;exact G.o):=h ⟨k⟩
def Wb(h:Q:=by
 refine GI ?_;have aD:=(s.imp λ_ h=>h.drop.drop).drew.new (.cells ((([]:List Value)++[af y]).toArray++Builtin.zeroCells (Value.int .i64 0).cells (grownCap w (0+1) 0 3 -(0+1))) 3 (0,0));refine fin (rest:=(Builtin.zeroCells (Value.int .i64 0).cells (grownCap w (0+1) 0 3 -(0+1))).toList) (by rw[aqN];rfl) (grownCap_ge _ _ _ _) (grownCap_le_maxLen _ _ _ _ bJ) (aD.imp λ_=>Sat.head λh cl=>?_);have NX:h w.heap.size=some _:=cl;show h w.heap.size=_;rw[NX];congr 2;apply Array.ext';simp):=h
def agf(h:Q:=by
 refine wk (by show some (Value.bool (decide ((Th.hl m.ref x.id (max l.cy 0) x.parent kI)=0)||decide ((Th.hl m.ref x.id (max l.cy 0) x.parent kI)=x.id)))=some (Value.bool true);rw[show(decide ((Th.hl m.ref x.id (max l.cy 0) x.parent [ec,s1,bP,bZ])=0)||decide ((Th.hl m.ref x.id (max l.cy 0) x.parent [ec,s1,bP,bZ])=x.id))=true from by simpa using O]) ?_;refine b6 ?_;exact afm):=h
def Kx(h:aR P Q:=by
 intro G;refine adV ?_;refine gg ?_;refine bb ?_;refine aeq ?_;exact G.o):=h ⟨k⟩
def agh(h:aR P Q:=by
 intro G;refine wn λco=>?_;refine aG ?_;refine br (Ky X 0 1) ?_;refine lZ ?_;intro p;refine Rx ?_;revert co p;exact G.o):=h ⟨k⟩
def agi(h:aR P Q:=by
 intro G;refine br (Ky X 0 1) ?_;refine pr ?_;intro p;refine wn λco=>?_;refine cq ?_;refine aB rfl (jt Tryz.underlying314 rfl rfl) ?_;refine aG ?_;revert p co;exact G.o):=h ⟨k⟩
def agj(h:aR P Q:=by
 intro G;refine Kl ?_;intro Z aO aU;refine JQ ?_;refine cq ?_;refine cP ?_;revert Z aO aU;exact G.o):=h ⟨k⟩
def agk(h:aR P Q:=by
 intro G;refine ny ?_;intro q;refine wn λaS=>?_;refine ae8 ?_;revert q aS;exact G.o):=h ⟨k⟩
def Vg(h:aR P Q:=by
 intro G;refine c8 ?_;refine Me ?_;intro a c;refine bi ?_;refine aB rfl (gz rfl (Aq (d:=0) ak)) ?_;revert a c;exact G.o):=h ⟨k⟩
def agl(h:Q:=by
 rintro _ _ ⟨b,rfl,rfl⟩;refine aeE ?_;refine nN ?_;refine bQ ?_;exact aX ⟨rfl,rfl⟩):=h
def asY(h:aR P Q:=by
 intro G;refine ic ?_;refine RL ?_;refine JZ ?_;exact G.o):=h ⟨k⟩
def agm(h:Q:=by
 refine RM ?_;refine aT (Ru bY z X.bo X.m B.b _ _ _ rfl 0 0) ?_;refine c0 ?_;exact aX ⟨bY,rfl,rfl⟩ (cF (z,aO,Z) trivial (au))):=h
def agn(h:Q:=by
 refine RM ?_;refine aT (J3 co z X.bo X.m (B.b+1) 0 1 _ _ _ rfl 0 0) ?_;refine c0 ?_;exact aX ⟨co,rfl,rfl⟩ (cF (z,aS,aU,U,Z) trivial (au))):=h
def ago(h:Q:=by
 refine H8 ?_;refine jh (.inl rfl) rfl rfl JD (⟨by rw[agp ae],rfl⟩) (by rw[R4 (by rw[agp (by omega)];decide)];exact(au))):=h
def agq(h:aR P Q:=by
 intro G;refine afZ ?_;refine aB rfl (l1 rfl rfl c) ?_;exact G.o):=h ⟨k⟩
def agr(h:aR P Q:=by
 intro G;refine qF ?_;refine qF ?_;refine adS ?_;refine qF ?_;refine zu ?_;exact G.o):=h ⟨k⟩
def XV(h:Q:=by
 refine bb ?_;refine apJ ey ?_;refine cu [] [3,201] [ab bn 169 [ptr p 0],ab b9 243 [.slice a (l.length+1) c]] ?_;refine bb ?_;refine go_v rfl .none rfl (DZ rfl rfl (show 1<=l.length+1 by omega)) ?_;refine aT (XS X B p x y J _ _ l ce.tail) ?_;refine b6 ?_;exact aX ⟨rfl,rfl⟩ (by rw[a8 W];exact(au))):=h
def R5(h:aR P Q:=by
 intro G;refine R1 ?_;refine kh ?_;exact G.o):=h ⟨k⟩
def ags(h:Q:=by
 refine RM ?_;refine aT (J3 p a X.bo X.m B.b s 1 x y _ rfl 0 0) ?_;refine c8 ?_;exact aX (H:=[fY X B p ⟨.swp R s,0,0⟩,e9 X B]) ⟨rfl,by rw[g9];rfl⟩ (sw (cF (a,aU,aC,Z,J) trivial (au)))):=h
def R6(h:Q:=by
 refine Kn ?_;refine eJ ?_;refine bb ?_;exact tQ):=h
def agt(h:aR P Q:=by
 intro G;refine aw Tryz.func295 λF D=>?_;have cx:=B.cx;refine c0 ?_;refine cu [] [11,201] [ab ar 110 [ptr q 0],ab U 32 [ptr X.h 0],ab Z 36 [bw id],ab q 118 ((eg X x e).set (0+7) (S b))] ?_;refine c0 ?_;refine br (l6 X z s ({Th.c7 with kind:=4,dL:=x.id,id:=id,name:=b}:bX) o) ?_;refine l5 ?_;intro aI aQ;revert F D cx aI aQ;exact G.o):=h ⟨k⟩
def XJ(h:Q:=by
 refine bB ?_;refine cu [] [6,201] [ab bY 169 [ptr b 0],ab Y 238 [ptr q 0]] ?_;refine bK ?_;refine go_v rfl .none rfl (jt Tryz.underlying238 rfl rfl) ?_;refine aG ?_;refine aT (uN b 238 477 (gJ X) (ptr q 0) _ _ _ rfl 0 0 (ih q (X.hK w) (mX 0 v)) (Dy q (X.hK w) (mX 0 v))) ?_;refine c0 ?_;exact aX ⟨_,rfl,rfl⟩ (cF (q,Y,bY,aU) trivial (au))):=h
def XF(h:Q:=by
 refine bK ?_;refine cu [] [6,201] [ab U 169 [ptr p 0],ab aO 241 [ptr q 0]] ?_;refine bK ?_;refine go_v rfl .none rfl (jt Tryz.underlying241 rfl rfl) ?_;refine aG ?_;refine aT (uN p 241 480 (gJ X) (ptr q 0) _ _ _ rfl 0 0 (jc q X.hf B.ed (k4 false v)) (Nf q X.hf B.ed (k4 false v))) ?_;refine b6 ?_;exact aX ⟨rfl,rfl⟩ (cF (q,aO,U,Z) trivial (au))):=h
def Wr(h:Q:=by
 refine bB ?_;refine cu [] [6,201] [ab Z 248 [ptr bY 0],ab aO 314 [ptr z 0]] ?_;refine bK ?_;refine go_v rfl .none rfl (jt Tryz.underlying314 rfl rfl) ?_;refine aG ?_;refine aT (Ru bY z (lv X kO kO kO) X.m B.b _ _ _ rfl 0 0) ?_;refine c0 ?_;exact aX ⟨bY,rfl,rfl⟩ (yl rfl (cF (z,Z,aO,0,none,0,none,0) trivial (λh s=>Sat.tail (λh s=>Sat.tail (λh s=>Sat.tail (λh s=>Sat.tail (λh s=>GL h s) s) s) s) ((au) h s))))):=h
def Kz(h:aR P Q:=by
 intro G;refine RJ ?_;refine Bq ?_;exact G.o):=h ⟨k⟩
def NA(h:aR P Q:=by
 intro G;refine aw Tryz.func136 λF D=>?_;refine nY ?_;intro U Z;refine cq ?_;refine aB rfl (fC (c:=false) (by exact mO (by show¬((l.length+1:Nat):Int)=0;omega)) (my rfl rfl)) ?_;refine bQ ?_;refine aB rfl (fI rfl rfl (show 0<l.length+1 by omega)) ?_;revert F D U Z;exact G.o):=h ⟨k⟩
def asI(h:Q:=by
 refine bK ?_;refine wn λaU=>?_;refine aG ?_;refine iX rfl (MS rfl rfl ey rfl ah h1 ae AG) ?_;exact WI):=h
def C1(h:Q:=by
 refine ci rfl (oE rfl rfl (hp t (js R)) us) ?_;rintro _ D ⟨_,⟨rfl,bf⟩,rfl⟩;refine fm ?_;obtain rfl:=bf.symm;refine bb ?_;refine cg (λM=>?_) (λM=>?_)
 . exact arY
 . exact asB):=h
def BZ(h:Q:=by
 refine ci rfl (oE rfl rfl (hp t (js R)) w2) ?_;rintro _ D ⟨_,⟨rfl,bf⟩,rfl⟩;refine fm ?_;obtain rfl:=bf.symm;refine bb ?_;refine cg (λM=>?_) (λM=>?_)
 . exact arW
 . exact asG):=h
def agu(h:aR P Q:=by
 intro G;refine eJ ?_;refine b6 ?_;refine cP ?_;refine fr ?_;refine cP ?_;refine dC ?_;refine cP ?_;refine eJ ?_;refine b6 ?_;exact G.o):=h ⟨k⟩
def agv(h:aR P Q:=by
 intro G;refine bb ?_;refine br (t) ?_;rintro _ _ ⟨h1,rfl,rfl⟩;refine et ?_;refine aG ?_;refine br (t) ?_;rintro _ _ ⟨h2,rfl,rfl⟩;refine et ?_;refine gg ?_;revert h1 h2;exact G.o):=h ⟨k⟩
def Wi(h:aR P Q:=by
 intro G;refine aw Tryz.func252 λF D=>?_;refine bK ?_;refine cP ?_;refine gg ?_;refine cP ?_;refine eJ ?_;refine b6 ?_;refine aT (asZ X.wp w id O.ok) ?_;refine bK ?_;revert F D;exact G.o):=h ⟨k⟩
def as0(h:aR P Q:=by
 intro G;refine afB ?_;refine xi ?_;exact G.o):=h ⟨k⟩
def agw(h:aR P Q:=by
 intro G;refine gh ?_;refine R5 ?_;exact G.o):=h ⟨k⟩
def as1(h:aR P Q:=by
 intro G;refine hb ?_;refine fm ?_;refine agb ?_;exact G.o):=h ⟨k⟩
def Vf(h:aR P Q:=by
 intro G;refine Ve ?_;refine ad8 ?_;exact G.o):=h ⟨k⟩
def agx(h:aR P Q:=by
 intro G;refine aw Tryz.func474 λF D=>?_;refine cv ?_;refine aT (ts p bo _ _ 0 0) ?_;refine cP ?_;refine c8 ?_;refine ci rfl (wL rfl rfl (cc) bF) ?_;refine hb ?_;refine o5 ?_;revert F D;exact G.o):=h ⟨k⟩
def agy(h:aR P Q:=by
 intro G;refine bb ?_;refine wn λaU=>?_;refine wn λaS=>?_;refine wn λbY=>?_;refine bQ ?_;refine wn λY=>?_;refine bK ?_;refine il [8,9,10] [9] wl [ab Y 32 [ptr X.h 0],cL X z s] ?_;refine bQ ?_;revert aU aS bY Y;exact G.o):=h ⟨k⟩
def agz(h:Q:=by
 refine EL ?_;intro aI aQ;haveI:=(aF aI aQ).iT;refine bB ?_;exact afa):=h
def agA(h:aR P Q:=by
 intro G;refine aeO ?_;refine aB rfl (qv rfl) ?_;refine Bq ?_;exact G.o):=h ⟨k⟩
def agB(h:aR P Q:=by
 intro G;refine aw Tryz.func28 λF D=>?_;refine nY ?_;intro U Z;refine bQ ?_;refine ci rfl (b1 rfl ((by have bh:=agC c;rw[h]at bh;exact bh)) bF) ?_;refine hb ?_;refine o5 ?_;revert F D U Z;exact G.o):=h ⟨k⟩
def R7(h:aR P Q:=by
 intro G;refine xn ?_;intro aO aU aS bY;refine c0 ?_;refine cP ?_;refine nI ?_;revert aO aU aS bY;exact G.o):=h ⟨k⟩
def agD(h:aR P Q:=by
 intro G;have cx:x.id=a:=B.cx;refine cv ?_;refine cu [] [10,201] (ab q 118 ((eg X x e).set (0+13) (af 2))::qy) ?_;refine c8 ?_;refine br (l6 X z s (P8:bX) o) ?_;refine l5 ?_;intro aI aQ;refine c8 ?_;refine cP ?_;revert cx aI aQ;exact G.o):=h ⟨k⟩
def agE(h:aR P Q:=by
 intro G;refine agt ?_;intro F D cx aI aQ;refine c0 ?_;revert F D cx aI aQ;exact G.o):=h ⟨k⟩
def R8(h:aR P Q:=by
 intro G;rintro _ _ ⟨z,rfl,rfl⟩;refine et ?_;refine aG ?_;refine wn λaO=>?_;refine ae7 ?_;revert z aO;exact G.o):=h ⟨k⟩
def R9(h:Q:=by
 refine aT (BE X z s (X.C.a1+i) t o k N R) ?_;refine bK ?_;refine nN ?_;refine bb ?_;exact EP):=h
def agF(h:aR P Q:=by
 intro G;refine arV ?_;refine af1 ?_;exact G.o):=h ⟨k⟩
def O2(h:aR P Q:=by
 intro G;refine vk ?_;intro F D;refine R1 ?_;revert F D;exact G.o):=h ⟨k⟩
def Sa(h:Q:=by
 refine aG ?_;refine xj ?_;intro g;exact RS):=h
def Sb(h:Q:=by
 refine aG ?_;refine xj ?_;intro g;exact RT):=h
def agG(h:aR P Q:=by
 intro G;refine il [18,23,24,25,35,36] [18,23,24,25,35] [1,5,9,13,17,21,25,29,33,37,41,45,49,53,57,61,65,69,77,81,85,89,105,109,113,117,121,125,129,133,74,94,98,102,136,142,146,3,3,3,3,102,98,136,142,146,3,3,3,3,3,98,94,102,136,142,146,3,3,3,3,102,94,136,142,146,3,3,3,3,3,102,94,98,136,142,146,3,3,3,3,98,94,136,142,146,3,3,3,3,3,3,98,74,94,102,136,142,146,3,3,3,3,102,94,136,142,146,3,3,3,3,3,102,74,94,136,142,146,3,3,3,3,3,3,102,74,94,98,136,142,146,3,3,3,3,98,94,136,142,146,3,3,3,3,3,98,74,94,136,142,146] [cL X z s,ab Y 78 (eK b8),gO b8,fu X] ?_;refine c8 ?_;refine jF rfl .none rfl (fI rfl rfl (show 0<b8.states.length by omega)) (au) ?_;refine aG ?_;refine jF rfl .none rfl (gz rfl (rT gy 2 rf l rfl)) (au) ?_;refine fW ?_;refine jF rfl .none rfl (kl ((id -1:Nat):Int) eZ rfl rfl) (au) ?_;refine jF rfl .none rfl (fI rfl rfl (show id -1<X.C.aZ by omega)) (au) ?_;refine jF rfl .none rfl (gz rfl (Kw v)) (au) ?_;exact G.o):=h ⟨k⟩
def zy(h:aR P Q:=by
 intro G;refine xn ?_;intro aO aU aS bY;refine b6 ?_;refine il [13,14,15,16] [13,14,15] [1,5,9,13,17,21,25,29,33,37,41,45,49,54,58,62,66,3,3,3,3,58,54,62,66] [ab aO 106 [ptr (X.bp j) 0],ab aS 36 [bw id],cL X z s,b3 X.e6 .u64 (cf z.ai),ax (gj z.ai s.lets),ax (de X z.ap z.ai s.az)] ?_;refine dC ?_;refine jF rfl .none rfl (l0 (ptr u 0) ZM rfl rfl) (au) ?_;revert aO aU aS bY;exact G.o):=h ⟨k⟩
def agH(h:aR P Q:=by
 intro G;refine bb ?_;refine wn λaU=>?_;refine wn λaS=>?_;refine wn λY=>?_;refine wn λco=>?_;refine bQ ?_;refine wn λc2=>?_;refine cv ?_;refine aB rfl (tc (max l.cy 0) ae rfl rfl) ?_;refine bK ?_;revert aU aS Y co c2;exact G.o):=h ⟨k⟩
def agI(h:aR P Q:=by
 intro G;refine aw Tryz.func338 λF D=>?_;refine Kl ?_;intro Z aO aU;refine lL ?_;refine bB ?_;refine aB rfl (fI rfl rfl bJ) ?_;refine aG ?_;revert F D Z aO aU;exact G.o):=h ⟨k⟩
def agJ(h:aR P Q:=by
 intro G;refine zr ?_;refine iX rfl (Bp rfl) ?_;rintro _ _ ⟨Y,rfl,rfl⟩;refine qF ?_;refine asO ?_;revert Y;exact G.o):=h ⟨k⟩
def Y5(h:aR P Q:=by
 intro G;refine O2 ?_;intro F D;refine kh ?_;revert F D;exact G.o):=h ⟨k⟩
def agK(h:Q:=by
 refine c8 ?_;refine aB rfl (fC (c:=true) (by rw[d];rfl) (qv rfl)) ?_;refine c0 ?_;rw[show(qE X z s).set (0+26) (.bool true)=qE X z {s with shut:=true}from rfl];refine bK ?_;exact EP):=h
def agL(h:aR P Q:=by
 intro G;refine aw Tryz.func7 λF D=>?_;refine bb ?_;refine wn λar=>?_;refine Kb ?_;refine b6 ?_;refine hU [1,3] [1] acP [ab ar 57 (pY c bL pc K ea cA es r)] mixed gB ?_;refine bb ?_;revert F D ar;exact G.o):=h ⟨k⟩
def agM(h:Q:=by
 refine aeI ?_;exact afC):=h
def asu(h:Q:=by
 refine wn λc=>?_;exact Sa):=h
def ast(h:Q:=by
 refine xj ?_;intro g;exact af2):=h
def asw(h:Q:=by
 refine wn λj=>?_;exact Sa):=h
def asv(h:Q:=by
 refine xj ?_;intro g;exact af3):=h
def asy(h:Q:=by
 refine wn λc=>?_;exact Sb):=h
def asx(h:Q:=by
 refine xj ?_;intro g;exact af4):=h
def asA(h:Q:=by
 refine wn λj=>?_;exact Sb):=h
def asz(h:Q:=by
 refine xj ?_;intro g;exact af5):=h
def agN(h:aR P Q:=by
 intro G;refine cu [14,15] [113,1,203] [ab U 36 [bw id],ab Z 110 [ptr q 0],ab aO 87 (fO e),ab q 118 (eg X n aV),jd aV.jy (h9 aV.es)] ?_;refine dC ?_;refine go_vs rfl .none rfl (Vb (ul ea cA (Th.gF n.timers e.name)) r rfl rfl) (au) ?_;refine aG ?_;refine wn λv=>?_;refine aG ?_;refine gQ λi m=>?_;refine aG ?_;refine go_u rfl .none (aru rfl rfl rfl) (λC=>absurd C bJ) ?_;refine bK ?_;revert v i m;exact G.o):=h ⟨k⟩
def UK(h:aR P Q:=by
 intro G;refine xn ?_;intro aO aU aS bY;refine wn λY=>?_;refine bQ ?_;refine ci rfl (b1 rfl (as2 k.states k.sa k.sc 385 [ptr aU 0] [a2,ab aU 9 [S state]] (λx=>decide (x.name=state)) (by have:=hk.amp;omega) (λh s=>iW.get s) (λx _=>ya (ams aU state x))) bF) ?_;refine hb ?_;refine fm ?_;revert aO aU aS bY Y;exact G.o):=h ⟨k⟩
def UY(h:Q:=by
 refine oz ?_;refine aT (amq e n aM) ?_;refine eJ ?_;refine L4 ?_;intro y a70 d;refine fD (i+1,{p with cw:=p.cw++[{e with n:=o0 e n,value:=2}]},a70,d) (bC.send V z4 z3 q I ae) (show r.cw.length -(i+1)<r.cw.length -i by omega) dy (by dsimp only;rw[<-US (e:={e with n:=o0 e n,value:=2}) rfl,show(p.cw++[({e with n:=o0 e n,value:=2}:fv)]).length=p.cw.length+1 from by simp];exact(au))):=h
def agO(h:Q:=by
 refine hU [14,17] [14] [(0,.bI),(1,.loc),(2,.loc),(3,.loc),(4,.loc),(5,.loc),(6,.loc),(7,.loc),(8,.loc),(9,.loc),(10,.loc),(11,.loc),(12,.loc),(13,.loc),(16,.bI),(14,.c5),(15,.loc),(17,.c5)] qy mixed gB ?_;refine eJ ?_;refine br (agP X J j a) ?_;rintro _ _ ⟨S,rfl,rfl⟩;refine et ?_;refine aG ?_;refine go_v rfl .none rfl (jt Tryz.underlying169 rfl rfl) ?_;refine aT (pv (agQ aL) (jK X z.ap z.ai s.az j S I M t (.fx (wB X.C.bA (Th.sV X.C j) a)) k N R)) ?_;refine bi ?_;exact JS):=h
def agR(h:aR P Q:=by
 intro G;refine aw Tryz.func302 λF D=>?_;have d:0<=min (max e.b8.limit 0) 100/\min (max e.b8.limit 0) 100<=100:=ae;have ip:1<=min (max e.b8.within 1) 4095/\min (max e.b8.within 1) 4095<=4095:=ae;refine bb ?_;refine cu [9] [106,3,201,1,201,1] [ab aP 110 [ptr q 0],ab ar 261 (iz m),ab U 248 [ptr p 0],ab q 118 (eg X x e),c3 X p (.eS aC)] ?_;refine cv ?_;refine aT (Ck.an2 X.dv X.C.dH p aC hp) ?_;refine aG ?_;refine go_v rfl .none rfl (o6 (Th.qT aC.val) (by exact as3 Y) rfl) ?_;refine aT (Go.Proofs.YtnnhpnccfnghdaaGreat.L.atl e.jx (min (max e.b8.limit 0) 100) (min (max e.b8.within 1) 4095) m.who (Th.qT aC.val) x.given d ip aA) ?_;revert F D d ip;exact G.o):=h ⟨k⟩
def Sc(h:aR P Q:=by
 intro G;have p:x.cM.length<1099511627776:=d4;obtain⟨Z,f,c⟩:=id aL;refine bb ?_;refine wn λbY=>?_;refine b6 ?_;refine cu [] [14,201] [ab bY 261 (iz ⟨l,b,reason⟩),cL X z s,ab q 118 (eg X x e),ax (de X z.ap z.ai s.az)] ?_;refine fW ?_;refine br (l6 X z s ({Th.c7 with kind:=10,dL:=b,cy:=x.id,why:=d,name:=reason}:bX) o) ?_;refine l5 ?_;intro aI aQ;revert p Z f c bY aI aQ;exact G.o):=h ⟨k⟩
def Sd(h:Q:=by
 refine aG ?_;refine Ki ?_;intro da;exact RU):=h
def KA(h:aR P Q:=by
 intro G;refine ael ?_;refine go_v rfl (.yes rfl rfl rfl) rfl (l0 (.bool true) (by rw[aeW,p];rfl) rfl rfl) ?_;refine bK ?_;refine lL ?_;refine b6 ?_;refine aeq ?_;exact G.o):=h ⟨k⟩
def agS(h:Q:=by
 refine Kx ?_;exact aeB):=h
def agT(h:Q:=by
 refine Kx ?_;refine fe ?_ ?_
 . exact as4
 . exact as5):=h
def agU(h:aR P Q:=by
 intro G;refine R0 ?_;intro F D Z;refine nI ?_;refine c0 ?_;refine cP ?_;revert F D Z;exact G.o):=h ⟨k⟩
def agV(h:aR P Q:=by
 intro G;refine afT ?_;refine BV ?_;exact G.o):=h ⟨k⟩
def agW(h:aR P Q:=by
 intro G;refine agj ?_;intro Z aO aU;refine c8 ?_;refine wn λaS=>?_;refine c8 ?_;revert Z aO aU aS;exact G.o):=h ⟨k⟩
def agX(h:aR P Q:=by
 intro G;refine cq ?_;refine aB rfl (aqD rfl) ?_;refine bB ?_;refine br (cb) ?_;rintro _ _ ⟨rfl,cj,p,f,c,ba,d7,rfl⟩;refine et ?_;refine bQ ?_;refine ci rfl (Oj rfl rfl (cc cj p d7) bF) ?_;refine yh ?_;revert cj p f c ba d7;exact G.o):=h ⟨k⟩
def Zd(h:aR P Q:=by
 intro G;refine vk ?_;intro F D;refine as0 ?_;revert F D;exact G.o):=h ⟨k⟩
def Zh(h:aR P Q:=by
 intro G;refine Y5 ?_;intro F D;refine kh ?_;revert F D;exact G.o):=h ⟨k⟩
def as6(h:Q:=by
 refine wn λY=>?_;refine aG ?_;refine br (agY X (a:=l.to.toNat) b id) ?_;refine lZ ?_;intro p;exact afL):=h
def as7(h:Q:=by
 refine br (agY X (a:=l.to.toNat) b id) ?_;refine pr ?_;intro p;refine wn λY=>?_;exact afL):=h
def asD(h:Q:=by
 refine Ki ?_;intro da;exact af8):=h
def asC(h:Q:=by
 refine wn λp=>?_;exact Sd):=h
def asF(h:Q:=by
 refine Ki ?_;intro da;exact af9):=h
def asE(h:Q:=by
 refine wn λr=>?_;exact Sd):=h
def agZ(h:aR P Q:=by
 intro G;refine agw ?_;refine JZ ?_;exact G.o):=h ⟨k⟩
def ag0(h:aR P Q:=by
 intro G;refine nu (H:=fE ea cA (Th.gF n.timers e.name)::ax (iy (mG aV.es e.name))::((ab aP 248 [ptr p 0]::ab ar 32 [ptr X.h 0]::ab U 36 [bw id]::ab Z 110 [ptr q 0]::ab aO 87 (fO e)::aaN)++((ab q 118 (eg X n aV)::dz aV.ka aV.kc n.kids::dz aV.hP aV.hQ n.cM::gi aV.gK X.C.dY n.aside n.front::h8 aV.jx (min (max aV.b8.limit 0) 100) (min (max aV.b8.within 1) 4095) n.given::b3 aV.gQ .i64 (n.watched.map λw=>(w,.bool true))::jd aV.jy (h9 aV.es)::gO aV.b8::aam)++D))) (λh E=>b _ h ((au) h E)) ?_;refine gh ?_;refine bi ?_;refine aT (Ck.Ws X.dv X.C.dH p aC hp) ?_;refine cP ?_;refine bB ?_;refine cu [] [5,201,1] [ab ar 32 [ptr X.h 0],ab U 36 [bw id],cL X z s] ?_;refine bB ?_;refine aT (Lg.O1 X.ld s.bc id) ?_;refine aG ?_;refine cP ?_;exact G.o):=h ⟨k⟩
def ag1(h:aR P Q:=by
 intro G;refine R7 ?_;intro aO aU aS bY;refine nI ?_;refine c0 ?_;revert aO aU aS bY;exact G.o):=h ⟨k⟩
def ag2(h:aR P Q:=by
 intro G;refine eJ ?_;refine o2 rfl rfl h5 ?_;refine Yj ?_;refine RB ?_;refine aG ?_;refine o2 rfl rfl ga ?_;exact G.o):=h ⟨k⟩
def ag3(h:aR P Q:=by
 intro G;have ay:jT X j=j:=bd i;refine aft ?_;refine fW ?_;refine go_v rfl (.yes rfl rfl rfl) rfl (fk (((2+j:Nat):Int)) (by rw[ay,je (by omega)];omega) rfl rfl) ?_;refine go_c rfl (.yes rfl rfl rfl) rfl (b1 rfl (am0 X.m s.L z.tt (2+j) ae) bF) ?_;refine hb ?_;refine aG ?_;revert ay;exact G.o):=h ⟨k⟩
def ag4(h:Q:=by
 refine cv ?_;refine cP ?_;refine bi ?_;refine il [9,10,11] [10] I3 [ab aS 32 [ptr X.h 0],ab aO 36 [bw id],ab bY 3 [af l.to],cL X z s,fu X] ?_;refine bB ?_;refine jF rfl .none rfl (kl ((l.to.toNat -1:Nat):Int) eZ rfl rfl) (au) ?_;refine jF rfl .none rfl (fI rfl rfl (show l.to.toNat -1<X.C.aZ by omega)) (au) ?_;refine jF rfl .none rfl (gz rfl (Kw b)) (au) ?_;refine aG ?_;refine fe ?_ ?_
 . exact as7
 . exact as6):=h
def ag5(h:aR P Q:=by
 intro G;refine R7 ?_;intro aO aU aS bY;refine nI ?_;refine nI ?_;revert aO aU aS bY;exact G.o):=h ⟨k⟩
def ag6(h:aR P Q:=by
 intro G;refine aw Tryz.func210 λF D=>?_;refine Ks ?_;refine bi ?_;refine cu [] [5,201,1] aa1 ?_;refine bB ?_;refine aT (Lg.O1 X.ld s.bc id) ?_;refine aG ?_;refine cP ?_;revert F D;exact G.o):=h ⟨k⟩
def ag7(h:Q:=by
 refine afW ?_;refine fW ?_;refine br (afx X z s i I O db em U aS Z em db o) ?_;exact aeM):=h
def asW(h:Q:=by
 refine wn λaO=>?_;refine aG ?_;refine br (xo X.m B.b (iK false) 1) ?_;refine R3 ?_;intro z;exact aeo):=h
def asV(h:Q:=by
 refine br (xo X.m B.b (iK false) 1) ?_;refine R8 ?_;intro z aO;exact aeo):=h
def ag8(h:aR P Q:=by
 intro G;refine c0 ?_;refine lL ?_;refine b6 ?_;refine cu [] [5,201] [ab Y 32 [ptr X.h 0],ab aS 36 [bw id],cL X z s] ?_;refine bB ?_;refine aT (Lg.aq0 X.ld s.bc id aM) ?_;refine bK ?_;refine adQ ?_;refine br (l6 X z s ({Th.c7 with kind:=3,dL:=x.id,id:=id}:bX) o) ?_;refine l5 ?_;intro aI aQ;refine dC ?_;revert aI aQ;exact G.o):=h ⟨k⟩
def ag9(h:Q:=by
 refine bK ?_;refine nN ?_;refine bK ?_;refine ci rfl (b1 rfl (tL X z s id 5 u l K bJ J.sY aL o aM) bF) ?_;refine EL ?_;intro aI aQ;haveI:=(aF aI aQ).iT;refine bB ?_;refine ci rfl (oE rfl rfl (gq (H:=[a7 X z.ap z.ai j 0 k I M,ab q 118 (eg X x e),dz e.ka e.kc x.kids,dz e.hP e.hQ x.cM,gi e.gK X.C.dY x.aside x.front,h8 e.jx (min (max e.b8.limit 0) 100) (min (max e.b8.within 1) 4095) x.given,b3 e.gQ .i64 (x.watched.map λw=>(w,.bool true)),jd e.jy (h9 e.es),ax (iy e.es),gO e.b8,ax ((e5 X z.ap s.aJ).set (a -1) ft),cL X {z with cI:=aI,cJ:=aQ} (kk s id l.to 5),dP aI aQ (kk s id l.to 5).trace,fl z.na z.fq s.notes,b3 X.am .i64 (cf z.ap),b3 X.e6 .u64 (cf z.ai),ax (gj z.ai s.lets),Lg.ds X.ld (dg s.bc id 8),ez X.da X.C.dG (s.dead++[(id,l.to,5)]),ch X.m s.L z.tt,fA X,fw X s.bs,eC X.bG X.m X.C.bG X.C.aZ,ax (dZ X),fu X,gk X,gX X,gd X,ax (de X z.ap z.ai s.az)]) (λD h E=>Sat.tail (λh E=>by have:=jm (X:=X) (z:={z with cI:=aI,cJ:=aQ}) (s:=(kk s id l.to 5)) (x:=x) (g8:=x) B V D h E;rw[sF (X:=X) (ap:=z.ap) (q:=q) (s:=(kk s id l.to 5)) B]at this;exact this) E) (aF aI aQ).spec) bF) ?_;exact RH):=h
def aha(h:Q:=by
 refine KA ?_;exact aeB):=h
def ahb(h:Q:=by
 refine KA ?_;refine fe ?_ ?_
 . exact as8
 . exact as9):=h
def ahc(h:aR P Q:=by
 intro G;refine ag5 ?_;intro aO aU aS bY;refine c0 ?_;revert aO aU aS bY;exact G.o):=h ⟨k⟩
def ata(h:aR P Q:=by
 intro G;have hlen:=K.hlen;have aA:=K.aA O;refine gh ?_;have T:=K.flat.length_eq;have al:=O.len;refine R1 ?_;refine iX rfl (tR) ?_;rintro _ _ ⟨Z,rfl,rfl⟩;revert hlen aA T al Z;exact G.o):=h ⟨k⟩
def ahd(h:Q:=by
 refine aG ?_;refine br (Lg.Ic) ?_;rintro _ _ ⟨ld,rfl,rfl⟩;refine et ?_;exact Sd):=h
def ahe(h:Q:=by
 refine aeR ?_;intro d;rw[show(min (max (X.C.dY:Int) 0) 64).toNat=X.C.dY from by have:=J.pS;omega];exact Sa):=h
def ahf(h:Q:=by
 refine aeR ?_;intro d;rw[show(min (max (X.C.dY:Int) 0) 64).toNat=X.C.dY from by have:=J.pS;omega];exact Sb):=h
def ahg(h:aR P Q:=by
 intro G;refine c0 ?_;refine EO ?_;refine cP ?_;refine bi ?_;refine cu [] [6,201,1] [ab bY 261 (iz ⟨l,b,reason⟩),ab q 118 (eg X x e),dz e.hP e.hQ x.cM] ?_;refine bi ?_;refine go_c rfl .none rfl (b1 rfl (I0 x.cM e.hP e.hQ b (dz e.hP e.hQ x.cM) ae) bF) ?_;refine hb ?_;refine fm ?_;rw[a6];refine aG ?_;refine cP ?_;exact G.o):=h ⟨k⟩
def ahh(h:aR P Q:=by
 intro G;have b:x.kids.length<=1099511627776:=hlen;refine xn ?_;intro aO aU aS bY;refine bK ?_;refine cu [] [6,201,15] Qc ?_;refine bi ?_;refine go_c rfl .none rfl (b1 rfl (I0 x.kids e.ka e.kc m.who (dz e.ka e.kc x.kids) ae) bF) ?_;refine hb ?_;refine fm ?_;rw[a6];refine aG ?_;refine cP ?_;revert b aO aU aS bY;exact G.o):=h ⟨k⟩
def ahi(h:aR P Q:=by
 intro G;refine ag2 ?_;refine aT (Mc m L t) ?_;refine RB ?_;exact G.o):=h ⟨k⟩
def ahj(h:aR P Q:=by
 intro G;refine ahh ?_;intro b aO aU aS bY;refine bB ?_;refine cP ?_;revert b aO aU aS bY;exact G.o):=h ⟨k⟩
def ahk(h:Q:=by
 haveI:=gf (X:=X) (ap:=z.ap) (ai:=z.ai) N;haveI:=sH (X:=X) (ap:=z.ap) (ai:=z.ai) N;refine Rv ?_;refine bK ?_;refine cu [11] [108,3,201,2,201] [ab aP 169 [ptr p 0],ab ar 106 eo,c3 X p (.fx aC),cL X z s,b3 X.am .i64 (cf z.ap),ax (de X z.ap z.ai s.az)] ?_;refine c0 ?_;refine aT (ap3 X.cX X.C.bA p aC hp) ?_;refine aG ?_;refine go_v rfl .none rfl (o6 aC.val y2 rfl) ?_;refine go_v rfl .none rfl (l0 (ptr q 0) (by rw[aF];rfl) rfl rfl) ?_;refine br (h) ?_;exact xk):=h
def Xs(h:aR P Q:=by
 intro G;unfold jc;dsimp only;refine cv ?_;refine aT (Xr _ _ _ _ _ _ _ _) ?_;refine bb ?_;refine lL ?_;refine b6 ?_;refine cu [] [32] [] ?_;refine fW ?_;refine go_v rfl .none rfl (fk ((b+2:Nat):Int) eZ rfl rfl) ?_;refine c0 ?_;refine go_v rfl .none rfl (r0 _ (W5 R.1 a) rfl rfl ae) ?_;refine aG ?_;refine go_v rfl .none rfl (rm ((2*(tt%(n:Int)).toNat:Nat):Int) eZ rfl rfl) ?_;refine go_v rfl .none rfl (fk ((lB b n tt:Nat):Int) (by unfold lB;rw[je (by omega)];omega) rfl rfl) ?_;refine oz ?_;refine aB rfl (fC ry (my rfl rfl)) ?_;exact G.o):=h ⟨k⟩
def ahl(h:aR P Q:=by
 intro G;refine agH ?_;intro aU aS Y co c2;refine cu [] [15,201,1] acW ?_;refine fW ?_;refine go_v rfl .none rfl (Ma Tryz.underlying111 (let⟨i,a,_,c,_⟩:=HW Od;⟨i,a,c⟩) rfl) ?_;refine afu ?_;revert aU aS Y co c2;exact G.o):=h ⟨k⟩
def ahm(h:Q:=by
 refine afo ?_;refine hU [] [] [(0,.loc),(1,.loc),(2,.loc),(3,.loc),(4,.loc),(5,.loc),(6,.loc),(7,.loc)] [] mixed gB ?_;refine Rp ?_;refine po ?_;refine go_v rfl .none rfl (rm ((3*l:Nat):Int) eZ rfl rfl) ?_;refine go_v rfl .none rfl (H2 ((kr l due:Nat):Int) (KB _ _) rfl rfl ae Ea) ?_;refine go_v rfl .none rfl (r0 ((kr l due%8:Nat):Int) (Bm _ 8) rfl rfl bJ) ?_;refine go_v rfl .none rfl (mw rfl) ?_;refine go_v rfl .none rfl (mw rfl) ?_;refine go_nil ?_;refine hB ?_;refine oJ ?_;refine WW (.inl rfl) rfl rfl rfl _ (⟨⟨l,kr l due%8,rfl,by omega,wS _ bJ,atb r av (by first|exact J|(left;omega))⟩,rfl⟩) (au)):=h
def Xu(h:aR P Q:=by
 intro G;refine Xs ?_;refine Hv ?_;exact G.o):=h ⟨k⟩
def ahn(h:Q:=by
 refine afv ?_;rw[bd f,bd f];refine aG ?_;refine go_v rfl .none rfl (fC (c:=true) ry (mo rfl rfl)) ?_;refine bi ?_;refine ci rfl (b1 rfl (tL X z s id 1 u l K bJ J.sY aL o aM) bF) ?_;refine EL ?_;intro aI aQ;haveI:=(aF aI aQ).iT;refine bB ?_;refine ci rfl (oE rfl rfl (gq (H:=[a7 X z.ap z.ai j 0 k I M,ab q 118 (eg X x e),dz e.ka e.kc x.kids,dz e.hP e.hQ x.cM,gi e.gK X.C.dY x.aside x.front,h8 e.jx (min (max e.b8.limit 0) 100) (min (max e.b8.within 1) 4095) x.given,b3 e.gQ .i64 (x.watched.map λw=>(w,.bool true)),jd e.jy (h9 e.es),ax (iy e.es),gO e.b8,ax ((e5 X z.ap s.aJ).set (a -1) ft),cL X {z with cI:=aI,cJ:=aQ} (kk s id l.to 1),dP aI aQ (kk s id l.to 1).trace,fl z.na z.fq s.notes,b3 X.am .i64 (cf z.ap),b3 X.e6 .u64 (cf z.ai),ax (gj z.ai s.lets),Lg.ds X.ld (dg s.bc id 8),ez X.da X.C.dG (s.dead++[(id,l.to,1)]),ch X.m s.L z.tt,fA X,fw X s.bs,eC X.bG X.m X.C.bG X.C.aZ,ax (dZ X),fu X,gk X,gX X,gd X,ax (de X z.ap z.ai s.az)]) (λD h E=>Sat.tail (λh E=>by have:=jm (X:=X) (z:={z with cI:=aI,cJ:=aQ}) (s:=(kk s id l.to 1)) (x:=x) (g8:=x) B V D h E;rw[sF (X:=X) (ap:=z.ap) (q:=q) (s:=(kk s id l.to 1)) B]at this;exact this) E) (aF aI aQ).spec) bF) ?_;exact RH):=h
def aho(h:Q:=by
 refine ag8 ?_;intro aI aQ;refine lL ?_;refine cv ?_;refine ci rfl (b1 rfl (gq (H:=[ab aO 106 [ptr (X.bp j) 0],ab aU 110 [ptr q 0],ab co 311 [ptr u 0],ab c2 356 (lS bL pc (⟨false,m,b,r,d⟩:dt)),ab Y 32 [ptr X.h 0],ab aS 36 [bw id],ab bY 1 [bj I M],kx bL pc m,a7 X z.ap z.ai j 0 k I M]++[ab q 118 (eg X x e),dz e.ka e.kc x.kids,dz e.hP e.hQ x.cM,gi e.gK X.C.dY x.aside x.front,h8 e.jx (min (max e.b8.limit 0) 100) (min (max e.b8.within 1) 4095) x.given,b3 e.gQ .i64 (x.watched.map λw=>(w,.bool true)),jd e.jy (h9 e.es),ax (iy e.es),gO e.b8,ax ((e5 X z.ap s.aJ).set (a -1) ft),cL X {z with cI:=aI,cJ:=aQ} {s with bc:=dg s.bc id 7,trace:=s.trace++[({Th.c7 with kind:=3,dL:=x.id,id:=id}:bX)]},dP aI aQ (s.trace++[({Th.c7 with kind:=3,dL:=x.id,id:=id}:bX)]),fl z.na z.fq s.notes,b3 X.am .i64 (cf z.ap),b3 X.e6 .u64 (cf z.ai),ax (gj z.ai s.lets),Lg.ds X.ld (dg s.bc id 7),ez X.da X.C.dG s.dead,ch X.m s.L z.tt,fA X,fw X s.bs,eC X.bG X.m X.C.bG X.C.aZ,ax (dZ X),fu X,gk X,gX X,gd X,ax (de X z.ap z.ai s.az)]) (λD h E=>(show∀h,Sat _ h->Sat (([ab aO 106 [ptr (X.bp j) 0],ab aU 110 [ptr q 0],ab co 311 [ptr u 0],ab c2 356 (lS bL pc (⟨false,m,b,r,d⟩:dt)),ab Y 32 [ptr X.h 0],ab aS 36 [bw id],ab bY 1 [bj I M],kx bL pc m,a7 X z.ap z.ai j 0 k I M]++bl X {z with cI:=aI,cJ:=aQ} (Th.dd {s with bc:=dg s.bc id 7,trace:=s.trace++[({Th.c7 with kind:=3,dL:=x.id,id:=id}:bX)]} a x))++D) h from λh E=>by rw[jE];exact KC [ab aO 106 [ptr (X.bp j) 0],ab aU 110 [ptr q 0],ab co 311 [ptr u 0],ab c2 356 (lS bL pc (⟨false,m,b,r,d⟩:dt)),ab Y 32 [ptr X.h 0],ab aS 36 [bw id],ab bY 1 [bj I M],kx bL pc m,a7 X z.ap z.ai j 0 k I M] (λh E=>jm (X:=X) (z:={z with cI:=aI,cJ:=aQ}) (s:={s with bc:=dg s.bc id 7,trace:=s.trace++[({Th.c7 with kind:=3,dL:=x.id,id:=id}:bX)]}) (x:=x) (e:=e) B ⟨V.b8,V.lc,V.es⟩ D h E) h E) h E) (h aO aU aS bY Y co c2 bL pc aI aQ)) bF) ?_;exact BY):=h
def ahp(h:aR P Q:=by
 intro G;refine ahl ?_;intro aU aS Y co c2;refine nI ?_;revert aU aS Y co c2;exact G.o):=h ⟨k⟩
def UM(h:aR P Q:=by
 intro G;refine UK ?_;intro aO aU aS bY Y;rw[d];refine UO ?_;refine ci rfl (b1 rfl (atc s.rows s.ra s.rc 386 [ptr aS 0,ptr bY 0] [a2,ab aS 9 [S tag],ab bY 3 [af n]] (qc tag n) (by have:=hk.row s b;omega) (λh s=>iW.get s) (λx _=>ya (amt aS bY tag n x))) bF) ?_;refine hb ?_;refine fm ?_;revert aO aU aS bY Y;exact G.o):=h ⟨k⟩
def Yl(h:aR P Q:=by
 intro G;refine ahi ?_;refine aG ?_;refine afd ?_;exact G.o):=h ⟨k⟩
def ahq(h:Q:=by
 refine agI ?_;intro F D Z aO aU;refine br (ahr (X.r true)) ?_;refine agk ?_;intro q aS;refine aT (AI p q (X.r true) X.bo x y _ rfl 0 0 (gU 12 0) rfl) ?_;exact adI):=h
def Xw(h:aR P Q:=by
 intro G;refine Xu ?_;refine Hv ?_;exact G.o):=h ⟨k⟩
def ahs(h:aR P Q:=by
 intro G;refine ahp ?_;intro aU aS Y co c2;refine nI ?_;revert aU aS Y co c2;exact G.o):=h ⟨k⟩
def HE(h:aR P Q:=by
 intro G;refine Yl ?_;refine c8 ?_;exact G.o):=h ⟨k⟩
def aht(h:aR P Q:=by
 intro G;refine ahg ?_;refine b6 ?_;refine cu [7,8] [105,2,202,2,201] [ab bY 261 (iz ⟨l,b,reason⟩),ab q 118 (eg X x e)] ?_;refine cq ?_;refine wn λv=>?_;refine aG ?_;refine gQ λi m=>?_;rw[show x.cM.length+1=(x.cM++[(b:Int)]).length from by simp,show iC x.cM++[af b]=iC (x.cM++[(b:Int)])from by simp];refine fr ?_;refine cP ?_;revert v i m;exact G.o):=h ⟨k⟩
def Xy(h:aR P Q:=by
 intro G;refine Xw ?_;refine Hv ?_;exact G.o):=h ⟨k⟩
def ahu(h:aR P Q:=by
 intro G;refine ahs ?_;intro aU aS Y co c2;refine nI ?_;revert aU aS Y co c2;exact G.o):=h ⟨k⟩
def ahv(h:Q:=by
 refine ag8 ?_;intro aI aQ;refine nN ?_;refine cu [] [8,201] [ab aU 110 [ptr q 0],ab co 311 [ptr u 0],ab q 118 (eg X x e),ax (gj z.ai s.lets)] ?_;refine bQ ?_;refine go_n0 rfl .none (Pc rfl rfl) ?_;rintro _ _ ⟨rfl,rfl⟩;rw[ahw];refine c8 ?_;refine ci rfl (b1 rfl (gq (H:=[ab aO 106 [ptr (X.bp j) 0],ab aU 110 [ptr q 0],ab co 311 [ptr u 0],ab c2 356 (lS bL pc (⟨false,m,b,r,d⟩:dt)),ab Y 32 [ptr X.h 0],ab aS 36 [bw id],ab bY 1 [bj I M],kx bL pc m,a7 X z.ap z.ai j 0 k I M]++[ab q 118 (eg X x e),dz e.ka e.kc x.kids,dz e.hP e.hQ x.cM,gi e.gK X.C.dY x.aside x.front,h8 e.jx (min (max e.b8.limit 0) 100) (min (max e.b8.within 1) 4095) x.given,b3 e.gQ .i64 ((x.watched.erase l.cy).map λw=>(w,.bool true)),jd e.jy (h9 e.es),ax (iy e.es),gO e.b8,ax ((e5 X z.ap s.aJ).set (a -1) ft),cL X {z with cI:=aI,cJ:=aQ} {s with bc:=dg s.bc id 7,trace:=s.trace++[({Th.c7 with kind:=3,dL:=x.id,id:=id}:bX)]},dP aI aQ (s.trace++[({Th.c7 with kind:=3,dL:=x.id,id:=id}:bX)]),fl z.na z.fq s.notes,b3 X.am .i64 (cf z.ap),b3 X.e6 .u64 (cf z.ai),ax (gj z.ai s.lets),Lg.ds X.ld (dg s.bc id 7),ez X.da X.C.dG s.dead,ch X.m s.L z.tt,fA X,fw X s.bs,eC X.bG X.m X.C.bG X.C.aZ,ax (dZ X),fu X,gk X,gX X,gd X,ax (de X z.ap z.ai s.az)]) (λD h E=>(show∀h,Sat _ h->Sat (([ab aO 106 [ptr (X.bp j) 0],ab aU 110 [ptr q 0],ab co 311 [ptr u 0],ab c2 356 (lS bL pc (⟨false,m,b,r,d⟩:dt)),ab Y 32 [ptr X.h 0],ab aS 36 [bw id],ab bY 1 [bj I M],kx bL pc m,a7 X z.ap z.ai j 0 k I M]++bl X {z with cI:=aI,cJ:=aQ} (Th.dd {s with bc:=dg s.bc id 7,trace:=s.trace++[({Th.c7 with kind:=3,dL:=x.id,id:=id}:bX)]} a {x with watched:=x.watched.erase l.cy}))++D) h from λh E=>by rw[jE];exact KC [ab aO 106 [ptr (X.bp j) 0],ab aU 110 [ptr q 0],ab co 311 [ptr u 0],ab c2 356 (lS bL pc (⟨false,m,b,r,d⟩:dt)),ab Y 32 [ptr X.h 0],ab aS 36 [bw id],ab bY 1 [bj I M],kx bL pc m,a7 X z.ap z.ai j 0 k I M] (λh E=>jm (X:=X) (z:={z with cI:=aI,cJ:=aQ}) (s:={s with bc:=dg s.bc id 7,trace:=s.trace++[({Th.c7 with kind:=3,dL:=x.id,id:=id}:bX)]}) (x:={x with watched:=x.watched.erase l.cy}) (e:=e) B ⟨V.b8,V.lc,V.es⟩ D h E) h E) h E) (h aO aU aS bY Y co c2 bL pc aI aQ)) bF) ?_;exact BY):=h
def as5(h:Q:=by
 refine Ko ?_;intro c2 bL pc;exact aho):=h
def as4(h:Q:=by
 refine Kp ?_;intro bL pc c2;exact aho):=h
def asi(h:Q:=by
 refine Ko ?_;intro c2 bL pc;exact ahn):=h
def ash(h:Q:=by
 refine Kp ?_;intro bL pc c2;exact ahn):=h
def ahx(h:Q:=by
 refine afv ?_;rw[a8 f,a8 f];refine aG ?_;refine go_v rfl .none rfl (fC (c:=false) ry (mo rfl rfl)) ?_;refine bK ?_;refine cu [] [5,201] [ab Y 32 [ptr X.h 0],ab aS 36 [bw id],cL X z s] ?_;refine bB ?_;refine aT (Lg.Bo X.ld s.bc id 3 aM) ?_;refine b6 ?_;refine adQ ?_;refine br (l6 X z s ({Th.c7 with kind:=5,dL:=x.id,id:=id}:bX) o) ?_;refine l5 ?_;intro aI aQ;haveI:=(aF aI aQ).iT;refine bi ?_;refine br (gq (H:=[a7 X z.ap z.ai j 0 k I M,ab q 118 (eg X x e),dz e.ka e.kc x.kids,dz e.hP e.hQ x.cM,gi e.gK X.C.dY (x.aside++[id]) x.front,h8 e.jx (min (max e.b8.limit 0) 100) (min (max e.b8.within 1) 4095) x.given,b3 e.gQ .i64 (x.watched.map λw=>(w,.bool true)),jd e.jy (h9 e.es),ax (iy e.es),gO e.b8,ax ((e5 X z.ap s.aJ).set (a -1) ft),cL X {z with cI:=aI,cJ:=aQ} {s with bc:=du s.bc id 3,trace:=s.trace++[({Th.c7 with kind:=5,dL:=x.id,id:=id}:bX)]},dP aI aQ (s.trace++[({Th.c7 with kind:=5,dL:=x.id,id:=id}:bX)]),fl z.na z.fq s.notes,b3 X.am .i64 (cf z.ap),b3 X.e6 .u64 (cf z.ai),ax (gj z.ai s.lets),Lg.ds X.ld (du s.bc id 3),ez X.da X.C.dG s.dead,ch X.m s.L z.tt,fA X,fw X s.bs,eC X.bG X.m X.C.bG X.C.aZ,ax (dZ X),fu X,gk X,gX X,gd X,ax (de X z.ap z.ai s.az)]) (λD h E=>Sat.tail (λh E=>jm (X:=X) (z:={z with cI:=aI,cJ:=aQ}) (s:={s with bc:=du s.bc id 3,trace:=s.trace++[({Th.c7 with kind:=5,dL:=x.id,id:=id}:bX)]}) (x:={x with aside:=x.aside++[id]}) (e:=e) B ⟨V.b8,V.lc,V.es⟩ D h E) E) (aF aI aQ).spec) ?_;exact zw):=h
def ahy(h:aR P Q:=by
 intro G;refine ahu ?_;intro aU aS Y co c2;refine nI ?_;revert aU aS Y co c2;exact G.o):=h ⟨k⟩
def Xx(h:aR P Q:=by
 intro G;refine Xy ?_;refine eJ ?_;refine b6 ?_;refine aB rfl (fC ry (my rfl rfl)) ?_;exact G.o):=h ⟨k⟩
def ahz(h:aR P Q:=by
 intro G;refine aw Tryz.func53 λF D=>?_;have b:=J.h1;have a:=J.bu;refine nY ?_;intro U Z;refine bB ?_;refine cu [] [8,201,1] [ab U 32 [ptr X.h 0],ab Z 60 Em,cL X z s] ?_;refine adN ?_;refine go_c rfl .none rfl (b1 rfl (Ku (i:Int) 0 ((X.C.cB -1:Nat):Int) ae) bF) ?_;refine afb ?_;refine cu [11] [111,201,1,201] [ab U 32 [ptr X.h 0],ab Z 60 Em,cL X z s,gX X] ?_;refine bi ?_;refine go_vs rfl .none rfl (fI rfl rfl (show i<X.C.cB by omega)) (au) ?_;refine go_vs rfl .none rfl (gz rfl (ahA ak)) (au) ?_;refine bb ?_;refine go_vs rfl .none rfl (kl (-1 -(i:Int)) y2 rfl rfl) (au) ?_;refine wn λaS=>?_;refine bi ?_;refine cu [] [15] [ab U 32 [ptr X.h 0],ab Z 60 Em,cL X z s,b3 X.am .i64 (cf z.ap)] ?_;refine bK ?_;refine cP ?_;revert F D b a U Z aS;exact G.o):=h ⟨k⟩
def ahB(h:aR P Q:=by
 intro G;refine ahz ?_;intro F D b a U Z aS;refine bi ?_;revert F D b a U Z aS;exact G.o):=h ⟨k⟩
def ahC(h:aR P Q:=by
 intro G;refine ahz ?_;intro F D b a U Z aS;refine gg ?_;refine bK ?_;refine cP ?_;revert F D b a U Z aS;exact G.o):=h ⟨k⟩
def as9(h:Q:=by
 refine Ko ?_;intro c2 bL pc;exact ahv):=h
def as8(h:Q:=by
 refine Kp ?_;intro bL pc c2;exact ahv):=h
def ahD(h:aR P Q:=by
 intro G;refine agH ?_;intro aU aS Y co c2;refine il [15] [] [0,4,8,12,16,20,24,28,32,36,40,44,48,52,56,62,64] acW ?_;refine fW ?_;refine th rfl .none rfl (Ma Tryz.underlying111 (let⟨i,a,_,c,_⟩:=HW Od;⟨i,a,c⟩) rfl) ?_;refine afu ?_;refine bi ?_;refine EO ?_;refine EO ?_;refine cP ?_;refine cq ?_;refine cP ?_;revert aU aS Y co c2;exact G.o):=h ⟨k⟩
def ahE(h:aR P Q:=by
 intro G;refine ahC ?_;intro F D b a U Z aS;refine bK ?_;revert F D b a U Z aS;exact G.o):=h ⟨k⟩
def asg(h:Q:=by
 refine Ko ?_;intro c2 bL pc;exact ahx):=h
def asf(h:Q:=by
 refine Kp ?_;intro bL pc c2;exact ahx):=h
def ahF(h:aR P Q:=by
 intro G;refine ahD ?_;intro aU aS Y co c2;refine fr ?_;revert aU aS Y co c2;exact G.o):=h ⟨k⟩
def ahG(h:aR P Q:=by
 intro G;refine ahB ?_;intro F D b a U Z aS;refine go_v rfl (.yes rfl rfl rfl) rfl (l0 (ptr e 0) (by rw[aF];rfl) rfl rfl) ?_;refine eJ ?_;refine bb ?_;refine cP ?_;revert F D b a U Z aS;exact G.o):=h ⟨k⟩
def ahH(h:aR P Q:=by
 intro G;refine ahB ?_;intro F D b a U Z aS;refine go_v rfl (.yes rfl rfl rfl) rfl (l0 (.pointer none) (by rw[aF];rfl) rfl rfl) ?_;refine eJ ?_;refine bb ?_;refine cP ?_;revert F D b a U Z aS;exact G.o):=h ⟨k⟩
def ahI(h:aR P Q:=by
 intro G;refine ahC ?_;intro F D b a U Z aS;refine dC ?_;refine cP ?_;refine bK ?_;revert F D b a U Z aS;exact G.o):=h ⟨k⟩
def ahJ(h:aR P Q:=by
 intro G;refine ahG ?_;intro F D b a U Z aS;refine bK ?_;revert F D b a U Z aS;exact G.o):=h ⟨k⟩
def ahK(h:aR P Q:=by
 intro G;refine ahH ?_;intro F D b a U Z aS;refine bK ?_;revert F D b a U Z aS;exact G.o):=h ⟨k⟩
def ahL(h:aR P Q:=by
 intro G;refine ahD ?_;intro aU aS Y co c2;refine bB ?_;refine cP ?_;refine c8 ?_;revert aU aS Y co c2;exact G.o):=h ⟨k⟩
def ahM(h:aR P Q:=by
 intro G;refine ahG ?_;intro F D b a U Z aS;refine dC ?_;refine cP ?_;refine bK ?_;revert F D b a U Z aS;exact G.o):=h ⟨k⟩
def ahN(h:aR P Q:=by
 intro G;refine ahH ?_;intro F D b a U Z aS;refine dC ?_;refine cP ?_;refine bK ?_;revert F D b a U Z aS;exact G.o):=h ⟨k⟩
def ahO(h:aR P Q:=by
 intro G;refine ahI ?_;intro F D b a U Z aS;refine Kn ?_;revert F D b a U Z aS;exact G.o):=h ⟨k⟩
def ahP(h:aR P Q:=by
 intro G;refine ahM ?_;intro F D b a U Z aS;refine Kn ?_;revert F D b a U Z aS;exact G.o):=h ⟨k⟩
def ahQ(h:aR P Q:=by
 intro G;refine ahN ?_;intro F D b a U Z aS;refine Kn ?_;revert F D b a U Z aS;exact G.o):=h ⟨k⟩
def ahR(h:aR P Q:=by
 intro G;refine ahO ?_;intro F D b a U Z aS;refine bi ?_;refine aT (g) ?_;refine aG ?_;refine cP ?_;revert F D b a U Z aS;exact G.o):=h ⟨k⟩
def ahS(h:aR P Q:=by
 intro G;refine ahR ?_;intro F D b a U Z aS;refine cq ?_;revert F D b a U Z aS;exact G.o):=h ⟨k⟩
def ahT(h:aR P Q:=by
 intro G;refine ahO ?_;intro F D b a U Z aS;refine RV ?_;revert F D b a U Z aS;exact G.o):=h ⟨k⟩
def ahU(h:aR P Q:=by
 intro G;refine ahP ?_;intro F D b a U Z aS;refine bi ?_;refine aT (g) ?_;refine aG ?_;refine cP ?_;revert F D b a U Z aS;exact G.o):=h ⟨k⟩
def ahV(h:aR P Q:=by
 intro G;refine ahQ ?_;intro F D b a U Z aS;refine bi ?_;refine aT (g) ?_;refine aG ?_;refine cP ?_;revert F D b a U Z aS;exact G.o):=h ⟨k⟩
def ahW(h:aR P Q:=by
 intro G;refine ahU ?_;intro F D b a U Z aS;refine cq ?_;revert F D b a U Z aS;exact G.o):=h ⟨k⟩
def ahX(h:aR P Q:=by
 intro G;refine ahV ?_;intro F D b a U Z aS;refine cq ?_;revert F D b a U Z aS;exact G.o):=h ⟨k⟩
def ahY(h:aR P Q:=by
 intro G;refine ahP ?_;intro F D b a U Z aS;refine RV ?_;revert F D b a U Z aS;exact G.o):=h ⟨k⟩
def ahZ(h:aR P Q:=by
 intro G;refine ahQ ?_;intro F D b a U Z aS;refine RV ?_;revert F D b a U Z aS;exact G.o):=h ⟨k⟩
def ah0(h:aR P Q:=by
 intro G;refine ahT ?_;intro F D b a U Z aS;refine J8 ?_;revert F D b a U Z aS;exact G.o):=h ⟨k⟩
def ah1(h:aR P Q:=by
 intro G;refine ahY ?_;intro F D b a U Z aS;refine J8 ?_;revert F D b a U Z aS;exact G.o):=h ⟨k⟩
def ah2(h:aR P Q:=by
 intro G;refine ahZ ?_;intro F D b a U Z aS;refine J8 ?_;revert F D b a U Z aS;exact G.o):=h ⟨k⟩
end Go.L
