/-
  For every input the law TheatreRounds returns true. No condition.
-/
import Derived.Test.YtnnhpnccfnghdaaGreatR23
import Derived.Test.YtnnhpnccfnghdaaGreatRows
set_option linter.all false
set_option maxRecDepth 100000
namespace Go.Proofs.YtnnhpnccfnghdaaGreat.lawTheatreRounds
open Go.L Go.Proofs.YtnnhpnccfnghdaaGreat.L Go.Proofs.YtnnhpnccfnghdaaGreat.L.bH Go.L.Pg Go.L.Lx
open Go.ChangeShapes Go.WideShapes Go.ChangeAt Go.RowKit
open Go.ChangeMaps (open_string shut_string)
theorem own:ownKnob Tryz.prog.godebug=none:=by kernel_rfl
theorem laidOut:laidOutB Tryz.prog=true:=by kernel_rfl
theorem contract(F:Type)(enc:TypeId×Value->F)(W:World)(E:Nat)(args:Array Value)(hc gs:List (DataW F))(before:List MemPlace)
 (s:∀(j:Nat) t v,Tryz.f6.params[j]?=some t->args[j]?=some v->Value.okWide Tryz.prog W .any E t v)
 (b7:DataW.Whole enc Tryz.prog Tryz.f6.params.toList Rows.theatreRoundsSpec.vars false W args.toList hc gs before)
 (T:(DataW.weightsEach Tryz.prog (Tryz.f6.params.toList++Rows.theatreRoundsSpec.plain.varTypes Tryz.prog) (hc++gs)).all (·<=reachBytes)=true):
 Calls Tryz.prog 6 args W λe o=>∃v,e=.returned v/\Rows.theatreRoundsSpec.post enc Tryz.prog Tryz.f6 false true false false W args v o:=by
 have z:=b7;obtain⟨p,q,a,C,rfl,N,O⟩:=b7;have B:DataW.TrodAll enc Tryz.prog W 0 (λ_=>true) true Tryz.f6.params.toList args.toList hc p:=a;rw[Tryz.params6]at B s;obtain⟨v0,R,d0,S,X,A,U,rfl,rfl,bh,l⟩:=trodAll_cons B;obtain⟨v1,aDE,d1,aDF,gA,g5,rfl,rfl,rfl,h1,gP⟩:=trodAll_cons l;obtain⟨rfl,rfl,rfl⟩:=trodAll_nil gP;obtain rfl:args=#[v0,v1]:=by cases args;simp_all
 obtain⟨rfl,rfl⟩:=trodVars_none C;have fd:=bh;have D:∀x∈X,x.block<W.heap.size:=aqO;obtain⟨b,rfl,Z⟩:=okWide_struct Tryz.underlying57 (s 0 57 v0 rfl rfl);obtain⟨aDa,G⟩:=id bh;obtain⟨f,g,i,k,n,r,u,w,I,J,K,L,M⟩:=YZ _ _ _ G (Y0 T (j:=0) rfl rfl);obtain rfl:b=(pY f g i k n r u w).toArray:=by
  exact aqP
 obtain⟨c,rfl,rfl,rfl,aG⟩:=open_int Tryz.underlying5 (s 1 5 v1 rfl rfl) h1;have ar:0<=c/\c<=255:=by simpa[Lit.wf,IntKind.min,IntKind.max,IntKind.signed,IntKind.bits]using aG
 clear a;refine(aqQ f g i k n r u w c (base W) ar (Y1 J) (Y2 K) L M W [] W (Y3 W)).mono λe o ⟨v,H,V,⟨Y,cb⟩,f9⟩=>?_;subst V Y cb;have y:=Y4 f9;exact⟨_,rfl,_,_,_,[],_,[],z,trodAll_mk1 (shut_bool Tryz.underlying4 _),(trodAll_cons_mk (Below.trod laidOut gB (of_decide_eq_true gB) fd y D) (trodAll_cons_mk (shut_int Tryz.underlying5 aG) trodAll_mk0)),rfl,y.frame _,λh=>by cases h⟩
theorem lifted(os:Os)(a:os.Started)(F:Type)(enc:TypeId×Value->F):
 ReturnsInHanded {} Tryz.checked os 6 .any (Rows.theatreRoundsSpec.pre6 enc Tryz.prog Tryz.f6 Rows.theatreRoundsRow.domain false) (Rows.theatreRoundsSpec.post enc Tryz.prog Tryz.f6 false true false false):=by
 refine returnsInHanded_of_change_sized (C:=Tryz.checked) own a gB Tryz.func6
  (ChangeSpec.witness6 (enc:=enc) (C:=Tryz.checked) false ⟨#[],#[.agg #[.int .i64 0,.int .i64 0,.int .i64 0,.int .i64 0,.int .i64 0,.int .i64 0,.int .i64 0,.int .i64 0,.int .i64 0,.slice none 0 0,.slice none 0 0,.int .i64 0],.int .u8 0],[]⟩ 8 gB gB gB gB) ?_
 exact aqR
theorem fy{a b:Bool}(h:a=true)(k:b=true):(a&&b)=true:=by rw[h,k];rfl
theorem Ol:(Rows.theatreRoundsRow.wf (OpenSpec.ofChange Rows.theatreRoundsSpec))=true:=by kernel_rfl
theorem Om:(laidOutB Tryz.prog)=true:=by kernel_rfl
theorem On:(mapsRowed Tryz.prog)=true:=by kernel_rfl
theorem Oo:(Tryz.f6.params.all (Tryz.prog.readableRec ·))=true:=by kernel_rfl
theorem Oq:(namedTie Tryz.prog Rows.theatreRoundsRow.named Rows.theatreRoundsSpec.vars)=true:=by kernel_rfl
theorem Ot:((Rows.theatreRoundsRow.stops==[]))=true:=by kernel_rfl
theorem Ou:((Tryz.prog.stops==[]))=true:=by kernel_rfl
theorem Ov:((Rows.theatreRoundsRow.knobs==[]))=true:=by kernel_rfl
theorem Ow:((Tryz.prog.stopKnobs==[]))=true:=by kernel_rfl
theorem Ox:((Rows.theatreRoundsRow.inPlace==Tryz.prog.inPlace 6))=true:=by kernel_rfl
theorem Oy:((Rows.theatreRoundsRow.unfollowed==Tryz.prog.unfollowed 6))=true:=by kernel_rfl
theorem Oz:((Rows.theatreRoundsRow.recurses==Tryz.prog.recurses 6))=true:=by kernel_rfl
theorem OA:((Rows.theatreRoundsRow.named==Tryz.prog.varsNamed 6))=true:=by kernel_rfl
theorem OB:((Rows.theatreRoundsRow.maps==(Tryz.f6.params.toList++Rows.theatreRoundsSpec.plain.varTypes Tryz.prog).any (Tryz.prog.mapsRec ·)))=true:=by kernel_rfl
theorem OC:((Rows.theatreRoundsRow.ifaces==(Tryz.f6.params.toList++Rows.theatreRoundsSpec.plain.varTypes Tryz.prog).any (Tryz.prog.ifacesRec ·)))=true:=by kernel_rfl
theorem OD:((Rows.theatreRoundsRow.mapsOut==Tryz.prog.mapsAmong Tryz.f6.resultTypes.toList))=true:=by kernel_rfl
theorem OE:((Rows.theatreRoundsRow.loops==(Tryz.f6.params.toList++Rows.theatreRoundsSpec.plain.varTypes Tryz.prog).any (Tryz.prog.loopsFrom ·)))=true:=by kernel_rfl
theorem OF:((Rows.theatreRoundsRow.wideKeys==(Tryz.f6.params.toList++Rows.theatreRoundsSpec.plain.varTypes Tryz.prog++Tryz.f6.resultTypes.toList).any (Tryz.prog.wideKeysFrom ·)))=true:=by kernel_rfl
theorem OG:(Rows.theatreRoundsSpec.vars.all (Tryz.prog.varReadable ·))=true:=by kernel_rfl
theorem OH:(Tryz.f6.resultTypes.all (λt=>Tryz.prog.readableRec t&&decide (t<Tryz.prog.types.size)))=true:=by kernel_rfl
theorem OI:((Rows.theatreRoundsRow.ifacesOut==Tryz.f6.resultTypes.toList.any (Tryz.prog.ifacesRec ·)))=true:=by kernel_rfl
theorem OJ:((Rows.theatreRoundsRow.loopsOut==Tryz.f6.resultTypes.toList.any (Tryz.prog.loopsFrom ·)))=true:=by kernel_rfl
theorem OK:((Rows.theatreRoundsRow.plainKeys==Tryz.prog.plainKeys))=true:=by kernel_rfl
theorem OL:(Rows.theatreRoundsRow.shortTexts.isNone)=true:=by kernel_rfl
theorem OM:(Tryz.prog.stopsHeard)=true:=by kernel_rfl
theorem ON:(Tryz.prog.mayEnter)=true:=by kernel_rfl
theorem OO:((Rows.theatreRoundsRow.lifted==Tryz.prog.liftsFinal))=true:=by kernel_rfl
theorem OP:((Tryz.prog.make==some Rows.theatreRoundsRow.make))=true:=by kernel_rfl
theorem OQ:((Rows.theatreRoundsRow.kinds==(if Rows.theatreRoundsRow.domain.isEmpty then[]else Tryz.f6.params.toList.map λt=>match Tryz.prog.underlying t with|some (.int k)=>some k|_=>none)))=true:=by kernel_rfl
theorem OR:((Rows.theatreRoundsRow.pinned==Rows.theatreRoundsRow.pinnedBy))=true:=by kernel_rfl
theorem OS:((Rows.theatreRoundsRow.veiled==(Tryz.f6.params.toList++Rows.theatreRoundsSpec.plain.varTypes Tryz.prog++Tryz.f6.resultTypes.toList).any (Tryz.prog.veiledRec ·)))=true:=by kernel_rfl
theorem OT:(Rows.theatreRoundsRow.veiledFits Tryz.prog Tryz.f6.params.toList (Tryz.f6.params.toList++Rows.theatreRoundsSpec.plain.varTypes Tryz.prog++Tryz.f6.resultTypes.toList))=true:=by kernel_rfl
theorem closed:joinedFacts Tryz.prog 6 Tryz.f6 Rows.theatreRoundsSpec Rows.theatreRoundsRow=true:=(fy (fy (fy (fy (fy (fy (fy (fy (fy (fy (fy (fy (fy (fy (fy (fy (fy (fy (fy (fy (fy (fy (fy (fy (fy (fy (fy (fy (fy (fy (fy Ol Om) On) Oo) Oq) Ot) Ou) Ov) Ow) Ox) Oy) Oz) OA) OB) OC) OD) OE) OF) OG) OH) OI) OJ) OK) OL) OM) ON) OO) OP) OQ) OR) OS) OT)
theorem proved:Rows.TheatreRoundsSaid:=
 OpenClaim.holds_of_wide 6 Tryz.f6 rfl rfl rfl rfl rfl rfl rfl ⟨rfl,rfl,rfl,rfl,rfl⟩ rfl rfl rfl rfl rfl gB Tryz.func6 closed
  (of_decide_eq_true gB) aqS
  (λos a F enc _=>lifted os a F enc)
end Go.Proofs.YtnnhpnccfnghdaaGreat.lawTheatreRounds
