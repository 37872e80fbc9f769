/-
  For every input the law TheatreKept returns true. No condition.
-/
import Derived.Test.YtnnhpnccfnghdaaGreatK17
import Derived.Test.YtnnhpnccfnghdaaGreatRows
set_option linter.all false
set_option maxRecDepth 100000
namespace Go.Proofs.YtnnhpnccfnghdaaGreat.lawTheatreKept
open Go.L Go.Proofs.YtnnhpnccfnghdaaGreat.L Go.Proofs.YtnnhpnccfnghdaaGreat.L.bE Go.L.Pg Go.L.Lx
open Go.ChangeShapes Go.WideShapes Go.ChangeAt Go.RowKit
open Go.ChangeMaps (open_string shut_string)
theorem own:ownKnob Tryz.prog.godebug=none:=by kernel_rfl
theorem laidOut:laidOutB Tryz.prog=true:=by kernel_rfl
theorem contract(F:Type)(enc:TypeId×Value->F)(W:World)(E:Nat)(args:Array Value)(fB gs:List (DataW F))(before:List MemPlace)
 (I:∀(j:Nat) t v,Tryz.f9.params[j]?=some t->args[j]?=some v->Value.okWide Tryz.prog W .any E t v)
 (b7:DataW.Whole enc Tryz.prog Tryz.f9.params.toList Rows.theatreKeptSpec.vars false W args.toList fB gs before)
 (T:(DataW.weightsEach Tryz.prog (Tryz.f9.params.toList++Rows.theatreKeptSpec.plain.varTypes Tryz.prog) (fB++gs)).all (·<=reachBytes)=true):
 Calls Tryz.prog 9 args W λe o=>∃v,e=.returned v/\Rows.theatreKeptSpec.post enc Tryz.prog Tryz.f9 false true false false W args v o:=by
 have u:=b7;obtain⟨p,q,a,w,rfl,K,M⟩:=b7;have B:DataW.TrodAll enc Tryz.prog W 0 (λ_=>true) true Tryz.f9.params.toList args.toList fB p:=a;rw[Tryz.params9]at B I;obtain⟨v0,N,d0,O,X,Ok,Q,rfl,rfl,bn,L⟩:=trodAll_cons B;obtain⟨rfl,rfl,rfl⟩:=trodAll_nil L;obtain rfl:args=#[v0]:=by cases args;simp_all
 obtain⟨rfl,rfl⟩:=trodVars_none w;have fi:=bn;have y:∀x∈X,x.block<W.heap.size:=by obtain⟨m,bb⟩:=fi;exact DataW.trod_lt m _ _ _ bb
 obtain⟨b,rfl,R⟩:=okWide_struct Tryz.underlying57 (I 0 57 v0 rfl rfl);obtain⟨S,z⟩:=id bn;obtain⟨c,f,g,i,k,l,n,r,A,C,D,G,J⟩:=aqi _ _ _ z (aqj T (j:=0) rfl rfl);obtain rfl:b=(vb c f g i k l n r).toArray:=by
  obtain⟨d⟩:=b;exact congrArg List.toArray (show d=_ from A)
 clear a;refine(aqk c f g i k l n r (base W) (aql C) (aqm D) G J W [] W (aqn W)).mono λe o ⟨v,H,Y,⟨V,cc⟩,gc⟩=>?_;subst Y V cc;have s:=aqo gc;exact⟨_,rfl,_,_,_,[],_,[],u,trodAll_mk1 (shut_bool Tryz.underlying4 _),(trodAll_cons_mk (Below.trod laidOut gS (of_decide_eq_true gS) fi s y) trodAll_mk0),rfl,s.frame _,λh=>by cases h⟩
theorem lifted(os:Os)(a:os.Started)(F:Type)(enc:TypeId×Value->F):
 ReturnsInHanded {} Tryz.checked os 9 .any (Rows.theatreKeptSpec.pre6 enc Tryz.prog Tryz.f9 Rows.theatreKeptRow.domain false) (Rows.theatreKeptSpec.post enc Tryz.prog Tryz.f9 false true false false):=by
 refine returnsInHanded_of_change_sized (C:=Tryz.checked) own a gS Tryz.func9
  (ChangeSpec.witness6 (enc:=enc) (C:=Tryz.checked) false ⟨#[],#[.agg #[.int .i64 0,.int .i64 0,.int .i64 0,.int .i64 0,.int .i64 0,.int .i64 0,.int .i64 0,.int .i64 0,.int .i64 0,.slice none 0 0,.slice none 0 0,.int .i64 0]],[]⟩ 8 gS gS gS gS) ?_
 intro W E args fB gs before I b7 _ T _;exact contract F enc W E args fB gs before I b7 T
theorem jA{a b:Bool}(h:a=true)(k:b=true):(a&&b)=true:=by rw[h,k];rfl
theorem aqp:(Rows.theatreKeptRow.wf (OpenSpec.ofChange Rows.theatreKeptSpec))=true:=by kernel_rfl
theorem aqq:(laidOutB Tryz.prog)=true:=by kernel_rfl
theorem aqr:(mapsRowed Tryz.prog)=true:=by kernel_rfl
theorem aqs:(Tryz.f9.params.all (Tryz.prog.readableRec ·))=true:=by kernel_rfl
theorem aqt:(namedTie Tryz.prog Rows.theatreKeptRow.named Rows.theatreKeptSpec.vars)=true:=by kernel_rfl
theorem aqu:((Rows.theatreKeptRow.stops==[]))=true:=by kernel_rfl
theorem aqv:((Tryz.prog.stops==[]))=true:=by kernel_rfl
theorem aqw:((Rows.theatreKeptRow.knobs==[]))=true:=by kernel_rfl
theorem aqx:((Tryz.prog.stopKnobs==[]))=true:=by kernel_rfl
theorem aqy:((Rows.theatreKeptRow.inPlace==Tryz.prog.inPlace 9))=true:=by kernel_rfl
theorem aqz:((Rows.theatreKeptRow.unfollowed==Tryz.prog.unfollowed 9))=true:=by kernel_rfl
theorem aqA:((Rows.theatreKeptRow.recurses==Tryz.prog.recurses 9))=true:=by kernel_rfl
theorem aqB:((Rows.theatreKeptRow.named==Tryz.prog.varsNamed 9))=true:=by kernel_rfl
theorem aqC:((Rows.theatreKeptRow.maps==(Tryz.f9.params.toList++Rows.theatreKeptSpec.plain.varTypes Tryz.prog).any (Tryz.prog.mapsRec ·)))=true:=by kernel_rfl
theorem aqD:((Rows.theatreKeptRow.ifaces==(Tryz.f9.params.toList++Rows.theatreKeptSpec.plain.varTypes Tryz.prog).any (Tryz.prog.ifacesRec ·)))=true:=by kernel_rfl
theorem aqE:((Rows.theatreKeptRow.mapsOut==Tryz.prog.mapsAmong Tryz.f9.resultTypes.toList))=true:=by kernel_rfl
theorem aqF:((Rows.theatreKeptRow.loops==(Tryz.f9.params.toList++Rows.theatreKeptSpec.plain.varTypes Tryz.prog).any (Tryz.prog.loopsFrom ·)))=true:=by kernel_rfl
theorem aqG:((Rows.theatreKeptRow.wideKeys==(Tryz.f9.params.toList++Rows.theatreKeptSpec.plain.varTypes Tryz.prog++Tryz.f9.resultTypes.toList).any (Tryz.prog.wideKeysFrom ·)))=true:=by kernel_rfl
theorem aqH:(Rows.theatreKeptSpec.vars.all (Tryz.prog.varReadable ·))=true:=by kernel_rfl
theorem aqI:(Tryz.f9.resultTypes.all (λt=>Tryz.prog.readableRec t&&decide (t<Tryz.prog.types.size)))=true:=by kernel_rfl
theorem aqJ:((Rows.theatreKeptRow.ifacesOut==Tryz.f9.resultTypes.toList.any (Tryz.prog.ifacesRec ·)))=true:=by kernel_rfl
theorem aqK:((Rows.theatreKeptRow.loopsOut==Tryz.f9.resultTypes.toList.any (Tryz.prog.loopsFrom ·)))=true:=by kernel_rfl
theorem aqL:((Rows.theatreKeptRow.plainKeys==Tryz.prog.plainKeys))=true:=by kernel_rfl
theorem aqM:(Rows.theatreKeptRow.shortTexts.isNone)=true:=by kernel_rfl
theorem aqN:(Tryz.prog.stopsHeard)=true:=by kernel_rfl
theorem aqO:(Tryz.prog.mayEnter)=true:=by kernel_rfl
theorem aqP:((Rows.theatreKeptRow.lifted==Tryz.prog.liftsFinal))=true:=by kernel_rfl
theorem aqQ:((Tryz.prog.make==some Rows.theatreKeptRow.make))=true:=by kernel_rfl
theorem aqR:((Rows.theatreKeptRow.kinds==(if Rows.theatreKeptRow.domain.isEmpty then[]else Tryz.f9.params.toList.map λt=>match Tryz.prog.underlying t with|some (.int k)=>some k|_=>none)))=true:=by kernel_rfl
theorem aqS:((Rows.theatreKeptRow.pinned==Rows.theatreKeptRow.pinnedBy))=true:=by kernel_rfl
theorem aqT:((Rows.theatreKeptRow.veiled==(Tryz.f9.params.toList++Rows.theatreKeptSpec.plain.varTypes Tryz.prog++Tryz.f9.resultTypes.toList).any (Tryz.prog.veiledRec ·)))=true:=by kernel_rfl
theorem aqU:(Rows.theatreKeptRow.veiledFits Tryz.prog Tryz.f9.params.toList (Tryz.f9.params.toList++Rows.theatreKeptSpec.plain.varTypes Tryz.prog++Tryz.f9.resultTypes.toList))=true:=by kernel_rfl
theorem closed:joinedFacts Tryz.prog 9 Tryz.f9 Rows.theatreKeptSpec Rows.theatreKeptRow=true:=(jA (jA (jA (jA (jA (jA (jA (jA (jA (jA (jA (jA (jA (jA (jA (jA (jA (jA (jA (jA (jA (jA (jA (jA (jA (jA (jA (jA (jA (jA (jA aqp aqq) aqr) aqs) aqt) aqu) aqv) aqw) aqx) aqy) aqz) aqA) aqB) aqC) aqD) aqE) aqF) aqG) aqH) aqI) aqJ) aqK) aqL) aqM) aqN) aqO) aqP) aqQ) aqR) aqS) aqT) aqU)
theorem proved:Rows.TheatreKeptSaid:=
 OpenClaim.holds_of_wide 9 Tryz.f9 rfl rfl rfl rfl rfl rfl rfl ⟨rfl,rfl,rfl,rfl,rfl⟩ rfl rfl rfl rfl rfl gS Tryz.func9 closed
  (of_decide_eq_true gS) (by unfold Func.isWrapper;first|(rw[bg (by decide+kernel)];kernel_rfl)|(rw[a6 (by decide+kernel)];exact dD))
  (λos a F enc _=>lifted os a F enc)
end Go.Proofs.YtnnhpnccfnghdaaGreat.lawTheatreKept
