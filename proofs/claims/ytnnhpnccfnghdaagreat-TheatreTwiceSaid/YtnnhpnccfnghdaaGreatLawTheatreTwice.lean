/-
  For every input the law TheatreTwice returns true. No condition.
-/
import Derived.Test.YtnnhpnccfnghdaaGreatA22
import Derived.Test.YtnnhpnccfnghdaaGreatRows
set_option linter.all false
set_option maxRecDepth 100000
namespace Go.Proofs.YtnnhpnccfnghdaaGreat.lawTheatreTwice
open Go.L Go.Proofs.YtnnhpnccfnghdaaGreat.L Go.Proofs.YtnnhpnccfnghdaaGreat.L.bM Go.L.Pg Go.L.Lx
open Go.ChangeShapes Go.WideShapes Go.ChangeAt Go.RowKit
open Go.ChangeMaps (open_string shut_string)
theorem own:ownKnob Tryz.prog.godebug=none:=by kernel_rfl
theorem laidOut:laidOutB Tryz.prog=true:=by kernel_rfl
theorem contract(H:Type)(enc:TypeId×Value->H)(W:World)(F:Nat)(args:Array Value)(hP gs:List (DataW H))(before:List MemPlace)
 (A:∀(j:Nat) t v,Tryz.f7.params[j]?=some t->args[j]?=some v->Value.okWide Tryz.prog W .any F t v)
 (cc:DataW.Whole enc Tryz.prog Tryz.f7.params.toList Rows.theatreTwiceSpec.vars false W args.toList hP gs before)
 (T:(DataW.weightsEach Tryz.prog (Tryz.f7.params.toList++Rows.theatreTwiceSpec.plain.varTypes Tryz.prog) (hP++gs)).all (·<=reachBytes)=true):
 Calls Tryz.prog 7 args W λe o=>∃v,e=.returned v/\Rows.theatreTwiceSpec.post enc Tryz.prog Tryz.f7 false true false false W args v o:=by
 have w:=cc;obtain⟨p,q,a,y,rfl,L,M⟩:=cc;have B:DataW.TrodAll enc Tryz.prog W 0 (λ_=>true) true Tryz.f7.params.toList args.toList hP p:=a;rw[Tryz.params7]at B A;obtain⟨v0,N,d0,O,Q,IT,P,rfl,rfl,bi,l⟩:=trodAll_cons B;obtain⟨rfl,rfl,rfl⟩:=trodAll_nil l;obtain rfl:args=#[v0]:=by cases args;simp_all
 obtain⟨rfl,rfl⟩:=trodVars_none y;have fL:=bi;have z:∀x∈Q,x.block<W.heap.size:=by obtain⟨m,bf⟩:=fL;exact DataW.trod_lt m _ _ _ bf
 obtain⟨b,rfl,R⟩:=okWide_struct Tryz.underlying57 (A 0 57 v0 rfl rfl);obtain⟨S,C⟩:=id bi;obtain⟨c,f,g,i,k,n,r,s,D,E,G,J,K⟩:=apu _ _ _ C (apv T (j:=0) rfl rfl);obtain rfl:b=(Bc c f g i k n r s).toArray:=by
  obtain⟨d⟩:=b;exact congrArg List.toArray (show d=_ from D)
 clear a;refine(apw c f g i k n r s (base W) (apx E) (apy G) J K W [] W (apz W)).mono λe o ⟨v,I,Y,⟨Z,cd⟩,ge⟩=>?_;subst Y Z cd;have u:=apA ge;exact⟨_,rfl,_,_,_,[],_,[],w,trodAll_mk1 (shut_bool Tryz.underlying4 _),(trodAll_cons_mk (Below.trod laidOut (by kernel_rfl) (of_decide_eq_true (by kernel_rfl)) fL u z) trodAll_mk0),rfl,u.frame _,λh=>by cases h⟩
theorem lifted(os:Os)(a:os.Started)(H:Type)(enc:TypeId×Value->H):
 ReturnsInHanded {} Tryz.checked os 7 .any (Rows.theatreTwiceSpec.pre6 enc Tryz.prog Tryz.f7 Rows.theatreTwiceRow.domain false) (Rows.theatreTwiceSpec.post enc Tryz.prog Tryz.f7 false true false false):=by
 refine returnsInHanded_of_change_sized (C:=Tryz.checked) own a (by kernel_rfl) Tryz.func7
  (ChangeSpec.witness6 (enc:=enc) (C:=Tryz.checked) false ⟨#[],#[.agg #[.int .i64 0,.int .i64 0,.int .i64 0,.int .i64 0,.int .i64 0,.int .i64 0,.int .i64 0,.int .i64 0,.int .i64 0,.slice none 0 0,.slice none 0 0,.int .i64 0]],[]⟩ 8 (by kernel_rfl) (by kernel_rfl) (by kernel_rfl) (by kernel_rfl)) ?_
 intro W F args hP gs before A cc _ T _;exact contract H enc W F args hP gs before A cc T
theorem jD{a b:Bool}(h:a=true)(k:b=true):(a&&b)=true:=by rw[h,k];rfl
theorem apB:(Rows.theatreTwiceRow.wf (OpenSpec.ofChange Rows.theatreTwiceSpec))=true:=by kernel_rfl
theorem apC:(laidOutB Tryz.prog)=true:=by kernel_rfl
theorem apD:(mapsRowed Tryz.prog)=true:=by kernel_rfl
theorem apE:(Tryz.f7.params.all (Tryz.prog.readableRec ·))=true:=by kernel_rfl
theorem apF:(namedTie Tryz.prog Rows.theatreTwiceRow.named Rows.theatreTwiceSpec.vars)=true:=by kernel_rfl
theorem apG:((Rows.theatreTwiceRow.stops==[]))=true:=by kernel_rfl
theorem apH:((Tryz.prog.stops==[]))=true:=by kernel_rfl
theorem apI:((Rows.theatreTwiceRow.knobs==[]))=true:=by kernel_rfl
theorem apJ:((Tryz.prog.stopKnobs==[]))=true:=by kernel_rfl
theorem apK:((Rows.theatreTwiceRow.inPlace==Tryz.prog.inPlace 7))=true:=by kernel_rfl
theorem apL:((Rows.theatreTwiceRow.unfollowed==Tryz.prog.unfollowed 7))=true:=by kernel_rfl
theorem apM:((Rows.theatreTwiceRow.recurses==Tryz.prog.recurses 7))=true:=by kernel_rfl
theorem apN:((Rows.theatreTwiceRow.named==Tryz.prog.varsNamed 7))=true:=by kernel_rfl
theorem apO:((Rows.theatreTwiceRow.maps==(Tryz.f7.params.toList++Rows.theatreTwiceSpec.plain.varTypes Tryz.prog).any (Tryz.prog.mapsRec ·)))=true:=by kernel_rfl
theorem apP:((Rows.theatreTwiceRow.ifaces==(Tryz.f7.params.toList++Rows.theatreTwiceSpec.plain.varTypes Tryz.prog).any (Tryz.prog.ifacesRec ·)))=true:=by kernel_rfl
theorem apQ:((Rows.theatreTwiceRow.mapsOut==Tryz.prog.mapsAmong Tryz.f7.resultTypes.toList))=true:=by kernel_rfl
theorem apR:((Rows.theatreTwiceRow.loops==(Tryz.f7.params.toList++Rows.theatreTwiceSpec.plain.varTypes Tryz.prog).any (Tryz.prog.loopsFrom ·)))=true:=by kernel_rfl
theorem apS:((Rows.theatreTwiceRow.wideKeys==(Tryz.f7.params.toList++Rows.theatreTwiceSpec.plain.varTypes Tryz.prog++Tryz.f7.resultTypes.toList).any (Tryz.prog.wideKeysFrom ·)))=true:=by kernel_rfl
theorem apT:(Rows.theatreTwiceSpec.vars.all (Tryz.prog.varReadable ·))=true:=by kernel_rfl
theorem apU:(Tryz.f7.resultTypes.all (λt=>Tryz.prog.readableRec t&&decide (t<Tryz.prog.types.size)))=true:=by kernel_rfl
theorem apV:((Rows.theatreTwiceRow.ifacesOut==Tryz.f7.resultTypes.toList.any (Tryz.prog.ifacesRec ·)))=true:=by kernel_rfl
theorem apW:((Rows.theatreTwiceRow.loopsOut==Tryz.f7.resultTypes.toList.any (Tryz.prog.loopsFrom ·)))=true:=by kernel_rfl
theorem apX:((Rows.theatreTwiceRow.plainKeys==Tryz.prog.plainKeys))=true:=by kernel_rfl
theorem apY:(Rows.theatreTwiceRow.shortTexts.isNone)=true:=by kernel_rfl
theorem apZ:(Tryz.prog.stopsHeard)=true:=by kernel_rfl
theorem ap0:(Tryz.prog.mayEnter)=true:=by kernel_rfl
theorem ap1:((Rows.theatreTwiceRow.lifted==Tryz.prog.liftsFinal))=true:=by kernel_rfl
theorem ap2:((Tryz.prog.make==some Rows.theatreTwiceRow.make))=true:=by kernel_rfl
theorem ap3:((Rows.theatreTwiceRow.kinds==(if Rows.theatreTwiceRow.domain.isEmpty then[]else Tryz.f7.params.toList.map λt=>match Tryz.prog.underlying t with|some (.int k)=>some k|_=>none)))=true:=by kernel_rfl
theorem ap4:((Rows.theatreTwiceRow.pinned==Rows.theatreTwiceRow.pinnedBy))=true:=by kernel_rfl
theorem ap5:((Rows.theatreTwiceRow.veiled==(Tryz.f7.params.toList++Rows.theatreTwiceSpec.plain.varTypes Tryz.prog++Tryz.f7.resultTypes.toList).any (Tryz.prog.veiledRec ·)))=true:=by kernel_rfl
theorem ap6:(Rows.theatreTwiceRow.veiledFits Tryz.prog Tryz.f7.params.toList (Tryz.f7.params.toList++Rows.theatreTwiceSpec.plain.varTypes Tryz.prog++Tryz.f7.resultTypes.toList))=true:=by kernel_rfl
theorem closed:joinedFacts Tryz.prog 7 Tryz.f7 Rows.theatreTwiceSpec Rows.theatreTwiceRow=true:=(jD (jD (jD (jD (jD (jD (jD (jD (jD (jD (jD (jD (jD (jD (jD (jD (jD (jD (jD (jD (jD (jD (jD (jD (jD (jD (jD (jD (jD (jD (jD apB apC) apD) apE) apF) apG) apH) apI) apJ) apK) apL) apM) apN) apO) apP) apQ) apR) apS) apT) apU) apV) apW) apX) apY) apZ) ap0) ap1) ap2) ap3) ap4) ap5) ap6)
theorem proved:Rows.TheatreTwiceSaid:=
 OpenClaim.holds_of_wide 7 Tryz.f7 rfl rfl rfl rfl rfl rfl rfl ⟨rfl,rfl,rfl,rfl,rfl⟩ rfl rfl rfl rfl rfl (by kernel_rfl) Tryz.func7 closed
  (of_decide_eq_true (by kernel_rfl)) (by unfold Func.isWrapper;first|(rw[bg (by decide +kernel)];kernel_rfl)|(rw[a7 (by decide +kernel)];exact⟨rfl,rfl⟩))
  (λos a H enc _=>lifted os a H enc)
end Go.Proofs.YtnnhpnccfnghdaaGreat.lawTheatreTwice
