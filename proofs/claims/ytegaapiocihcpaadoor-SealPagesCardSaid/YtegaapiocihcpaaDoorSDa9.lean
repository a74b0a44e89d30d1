/- Texts of SpC. -/
import Derived.Test.YtegaapiocihcpaaDoorSDa8
import Derived.OpenShut
import Derived.ChangeMaps5
namespace Go.Proofs.YtegaapiocihcpaaDoor.rowSealPages
open Go.ChangeShapes Go.WideShapes Go.ChangeAt Go.RowKit
set_option maxRecDepth 100000 in
theorem contract (H:Type)(enc:TypeId × Value→H)(W:World)(base:Nat)(args:Array Value)(ds gs:List (DataW H))(before:List MemPlace) (hval:∀(j:Nat) t v,Tryd.f3.params[j]? =some t→args[j]? =some v→Value.okWide Tryd.prog W .any base t v) (hW:DataW.Whole enc Tryd.prog Tryd.f3.params.toList Rows.sealPagesSpec.vars false W args.toList ds gs before) (hL:laidMetH Tryd.prog laidL W):
 Calls Tryd.prog 3 args W fun e W'=>∃v,e=.returned v∧Rows.sealPagesSpec.post enc Tryd.prog Tryd.f3 false true false false W args v W':=by
 have hW':=hW;obtain⟨p,q,hA0,hV,rfl,hfz,hnd⟩:=hW;have hA:DataW.TrodAll enc Tryd.prog W 0 (fun _=>true) true Tryd.f3.params.toList args.toList ds p:=hA0;rw[Tryd.params3] at hA hval;obtain⟨v0,vs0,d0,ds0,p0,q0,hargs,rfl,rfl,h0,r0⟩:=trodAll_cons hA;obtain⟨v1,vs1,d1,ds1,p1,q1,rfl,rfl,rfl,h1,r1⟩:=trodAll_cons r0;obtain⟨rfl,rfl,rfl⟩:=trodAll_nil r1;obtain rfl:args=#[v0,v1]:=by cases args;simp_all
 obtain⟨rfl,rfl⟩:=trodVars_none hV;obtain⟨A0,c0,l0,rfl,hl0⟩:=QcH Tryd.underlying22 Tryd.underlying3 cells_int (hval 0 22 v0 rfl rfl) h0;obtain⟨A1,c1,l1,rfl,hl1⟩:=QcH Tryd.underlying22 Tryd.underlying3 cells_int (hval 1 22 v1 rfl rfl) h1;refine(sealPages_any A0 c0 l0 A1 c1 l1 W hl0 hl1 (tabs_of hL)).mono fun e W' ⟨he,hb⟩=>?_
 subst he;exact⟨_,rfl,row_close laidOut Tryd.underlying4 (by kernel_rfl) (by kernel_rfl) rfl hW' rfl hb⟩
theorem laid_met (os:Os):laidMet Tryd.prog Rows.sealPagesRow.laid ((laidWorld os).forCall (fun _ _=>0) ⟨#[],#[.slice none 0 0,.slice none 0 0],[]⟩).memory:=
 laidMet_of_run' 8 (by kernel_rfl) (by kernel_rfl)
theorem reads (os:Os){H:Type}(enc:TypeId × Value→H):∃places,DataW.whole enc Tryd.prog ((laidWorld os).forCall (fun _ _=>0) ⟨#[],#[.slice none 0 0,.slice none 0 0],[]⟩).memory Tryd.f3.params.toList Rows.sealPagesSpec.vars false (#[.slice none 0 0,.slice none 0 0]:Array Value).toList 8=some ([.nil,.nil],[],places):=
 ⟨[],by kernel_rfl⟩
set_option maxRecDepth 100000 in
theorem lifted (os:Os)(started:os.Started)(H:Type)(enc:TypeId × Value→H)(F:Stop.Interp):
 ReturnsInHanded {} Tryd.checked os 3 .any ((OpenSpec.ofChange Rows.sealPagesSpec).preRow enc Tryd.prog Tryd.f3 Rows.sealPagesRow.domain false Rows.sealPagesRow.laid) (((OpenSpec.ofChange Rows.sealPagesSpec).at F).post enc Tryd.prog Tryd.f3 false true false false):=by
 obtain⟨places,hx⟩:=reads os enc
 refine returnsInHanded_of_row (C:=Tryd.checked) (s:=(OpenSpec.ofChange Rows.sealPagesSpec)) own started (by kernel_rfl) Tryd.func3
  (witness_row_at (enc:=enc) (C:=Tryd.checked) false (laidWorld os) #[.slice none 0 0,.slice none 0 0] rfl (by kernel_rfl) (by kernel_rfl) (by kernel_rfl) (OpenSpec.preRow_of_cond 8 hx (by kernel_rfl) (fun k hk=>by cases hk) (by kernel_rfl) (laid_met os))) ?_
 intro W base args ds gs before hval hW _ _ _ hL _ _;exact contract H enc W base args ds gs before hval hW hL
theorem said:Rows.SealPagesSaid:=
 OpenClaim.holds_of_cond 3 Tryd.f3 rfl rfl rfl rfl rfl rfl rfl ⟨rfl,rfl,rfl,rfl,rfl⟩ rfl rfl rfl rfl rfl (by kernel_rfl) Tryd.func3 (by kernel_rfl) (of_decide_eq_true (by kernel_rfl)) (by unfold Func.isWrapper;first|(rw[if_pos (by decide +kernel)];kernel_rfl)|(rw[if_neg (by decide +kernel)];exact⟨rfl,rfl⟩)) (fun os started H enc _ F=>by rw[OpenClaim.pre_eq_preRow];exact lifted os started H enc F)
theorem wants:Tryd.f3.params.all (fun t=> !Tryd.prog.wantsStandIn t)=true:=by kernel_rfl
theorem plain (f:FuncId)(fn:Func)(hf:Tryd.pinned.checked.prog.funcNamed "rollbook/rollbooklaw30.SealPages" =some f)(hfn:Tryd.pinned.checked.prog.funcs[f]? =some fn):
 false=Tryd.pinned.checked.prog.looks []∧∀(j:Nat) t,fn.params[j]? =some t→Tryd.pinned.checked.prog.wantsStandIn t=false:=by
 obtain rfl:f=3:=Option.some.inj ((show Tryd.prog.funcNamed "rollbook/rollbooklaw30.SealPages" =some 3 by kernel_rfl).symm.trans hf) |>.symm;obtain rfl:fn=Tryd.f3:=(Option.some.inj (Tryd.func3.symm.trans hfn)).symm;refine⟨by kernel_rfl,fun j t ht=>?_⟩;have:=Array.all_eq_true_iff_forall_mem.1 wants t (Array.mem_of_getElem? ht);exact(by simpa using this:Tryd.prog.wantsStandIn t=false)
theorem card:Rows.SealPagesCardSaid:=
 Claim7.holds_tied_plain_at .later [] _ _ _ _ said (fun _ h=>by cases h) (by kernel_rfl) (fun _ h=>by cases h) sealPages_row_tie rfl ⟨rfl,rfl⟩ (by kernel_rfl) rfl plain (by kernel_rfl)
#print axioms card
end Go.Proofs.YtegaapiocihcpaaDoor.rowSealPages
