/- The ground of the card. No condition beyond those at each theorem. -/
import Derived.Test.YtknpbekoenbphaaGreatDoorWLawAnyOrd
set_option linter.unusedVariables false
set_option linter.unusedSimpArgs false
namespace Go.Proofs.YtknpbekoenbphaaGreatDoor.lawAnyOrd
open Go Go.RowKit Licit
open Go.ChangeShapes Go.WideShapes Go.ChangeAt
set_option maxRecDepth 100000 in
theorem contract (H:Type) (enc:TypeId × Value→H) (W:World) (base:Nat) (args:Array Value) (ds gs:List (DataW H)) (before:List MemPlace)
 (hval:∀(j:Nat) t v,Tryz.f4.params[j]? = some t→args[j]? = some v→Value.okWide Tryz.prog W .any base t v)
 (hW:DataW.Whole enc Tryz.prog Tryz.f4.params.toList Rows.reviewAnyOrderSpec.vars false W args.toList ds gs before) (hL:laidMetH Tryz.prog Rows.reviewAnyOrderRow.laid W) :
 Calls Tryz.prog 4 args W fun e W'=>∃v,e = .returned v∧Rows.reviewAnyOrderSpec.post enc Tryz.prog Tryz.f4 false true false false W args v W':=by
 have hW':=hW;obtain ⟨p,q,hA0,hV,rfl,hfz,hnd⟩:=hW;have hA:DataW.TrodAll enc Tryz.prog W 0 (fun _=>true) true Tryz.f4.params.toList args.toList ds p:=hA0;rw [Tryz.params4] at hA hval;obtain ⟨v0,vs0,d0,ds0,p0,q0,hargs,rfl,rfl,h0,r0⟩:=trodAll_cons hA;obtain ⟨v1,vs1,d1,ds1,p1,q1,rfl,rfl,rfl,h1,r1⟩:=trodAll_cons r0;obtain ⟨rfl,rfl,rfl⟩:=trodAll_nil r1;obtain rfl:args = #[v0,v1]:=by cases args;simp_all
 obtain ⟨rfl,rfl⟩:=trodVars_none hV;obtain ⟨vd,ve,D,b,a,X,rfl,hD,hX,hn,hb',ha'⟩:=kff (hval 0 25 v0 rfl rfl) h0;obtain ⟨Pr,hpr⟩:=kvm (hval 1 48 v1 rfl rfl) h1;refine (kuz (fun W ht=>ken W ht) vd ve v1 D Pr b a X W hD hX hn hb' ha' hpr (kok hL)).mono fun en W' ⟨h1,hb⟩=>⟨_,h1,?_⟩
 exact kid hW' rfl (by kernel_rfl) (by kernel_rfl) rfl hb
theorem laid_met (os:Os):laidMet Tryz.prog Rows.reviewAnyOrderRow.laid ((kb4 os).forCall (fun _ _=>0) ⟨#[],#[.agg #[.slice none 0 0,.int .u8 0,.int .u8 0,.slice none 0 0],.slice none 0 0],[]⟩).memory :=
 laidMet_of_run' 8 (by kernel_rfl) (by kernel_rfl)
theorem reads (os:Os) {H:Type} (enc:TypeId × Value→H):∃places,DataW.whole enc Tryz.prog ((kb4 os).forCall (fun _ _=>0) ⟨#[],#[.agg #[.slice none 0 0,.int .u8 0,.int .u8 0,.slice none 0 0],.slice none 0 0],[]⟩).memory Tryz.f4.params.toList Rows.reviewAnyOrderSpec.vars false (#[.agg #[.slice none 0 0,.int .u8 0,.int .u8 0,.slice none 0 0],.slice none 0 0]:Array Value).toList 8=some ([.agg [.nil,.lit (.int .u8 0),.lit (.int .u8 0),.nil],.nil],[],places) :=
 ⟨[],by kernel_rfl⟩
set_option maxRecDepth 100000 in
theorem lifted (os:Os) (started:os.Started) (H:Type) (enc:TypeId × Value→H) (F:Stop.Interp) :
 ReturnsInHanded {} Tryz.checked os 4 .any ((OpenSpec.ofChange Rows.reviewAnyOrderSpec).preRow enc Tryz.prog Tryz.f4 Rows.reviewAnyOrderRow.domain false Rows.reviewAnyOrderRow.laid) (((OpenSpec.ofChange Rows.reviewAnyOrderSpec).at F).post enc Tryz.prog Tryz.f4 false true false false):=by
 obtain ⟨places,hx⟩:=reads os enc
 refine returnsInHanded_of_row (C:=Tryz.checked) (s:=OpenSpec.ofChange Rows.reviewAnyOrderSpec) own started (by kernel_rfl) Tryz.func4
  (witness_row_at (enc:=enc) (C:=Tryz.checked) false (kb4 os) #[.agg #[.slice none 0 0,.int .u8 0,.int .u8 0,.slice none 0 0],.slice none 0 0] rfl (by kernel_rfl) (by kernel_rfl) (by kernel_rfl)
    (OpenSpec.preRow_of_cond 8 hx (by kernel_rfl) (fun k hk=>by cases hk) (by kernel_rfl) (laid_met os))) ?_
 intro W base args ds gs before hval hW _ _ _ hL _ _;exact contract H enc W base args ds gs before hval hW hL
set_option maxRecDepth 100000 in
theorem closed_facts : joinedFacts Tryz.pinned.checked.prog 4 Tryz.f4 (OpenSpec.ofChange Rows.reviewAnyOrderSpec).bare Rows.reviewAnyOrderRow = true := by kernel_rfl
end Go.Proofs.YtknpbekoenbphaaGreatDoor.lawAnyOrd
