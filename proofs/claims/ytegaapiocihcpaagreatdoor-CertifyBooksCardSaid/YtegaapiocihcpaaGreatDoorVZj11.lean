/- Texts of CbC. -/
import Derived.Test.YtegaapiocihcpaaGreatDoorVZj10
import Derived.Shelf.Spec.SlicesGrow
import Derived.Shelf.SlGeneric
import Derived.Test.YtegaapiocihcpaaGreatDoorProg
import Derived.Deep.RegionLaw
import Derived.Shelf.RegionOpenPlain
import Derived.Lib.SliceRun
import Derived.LoopIn
import Derived.Sort.CutIn
set_option maxHeartbeats 16000000
namespace Go.Proofs.YtegaapiocihcpaaGreatDoor
open Go.RowKit Go.Shelf
attribute [local go_sem] Oper.semAt_some
set_option maxRecDepth 100000 in
theorem ball_any (m h:Int)(v:Value)(w:World):Calls Tryz.prog 68 #[.agg #[.int .i64 m,.int .i64 h,v]] w fun e w'=>e=.returned (.func (.func 124) #[] #[.pointer (some ⟨w.heap.size,0,none⟩)])∧w'=w.alloc (.cells #[.int .i64 m,.int .i64 h,v] 25):=by
 go_enter Tryz.func68,Tryz.ntmps68;go_wp2_with fail;go_ret;exact⟨rfl,rfl⟩
structure BookOk (w:World)(m h:Int)(A:Option Addr)(c:Nat)(l:List SectP):Prop where
 t:Laid w
 s:Sl w (fun b=>b<w.heap.size) A c l
 sh:QbX l
 wf:WfS l
 hI:I64 h
 pn:(Qak m h l).length≤1000000000
theorem BookOk.to {w w':World}{m h:Int}{A:Option Addr}{c:Nat}{l:List SectP}(H:BookOk w m h A c l)(hb:Below w.heap.size w w'):BookOk w' m h A c l:=⟨H.t.to hb,H.s.to hb,H.sh,H.wf,H.hI,H.pn⟩
theorem tab_lt {w:World}(h:Laid w):0<w.heap.size:=World.block_lt_of_cell? w ⟨_,0,none⟩ (h.cell 0 (by decide))
theorem all_seq (n:Nat)(_hn1:1≤n){m h:Int}{A:Option Addr}{c:Nat}{l:List SectP}{w0:World}(H:BookOk w0 m h A c l){w:World}(hw:w=w0.alloc (.cells #[.int .i64 m,.int .i64 h,.slice A l.length c] 25)):
 SeqIn Fence.wide n Tryz.prog 124 #[.pointer (some ⟨w0.heap.size,0,none⟩)] PV.enc PV.Pr w.heap.size (fun xs=>xs.map PV.plain=Qak m h l) (fun pre=>∃k,pre.map PV.plain=(Qak m h l).take k) (Qak m h l).length w:=by
 intro lp J Jx W hW hJ hY h0;have hba:Below w0.heap.size w0 w:=by rw[hw];exact bR.alloc nL _
 have hsz:w.heap.size=w0.heap.size+1:=by rw[hw];simp
 have hbk:ABox w w0.heap.size 25 [.int .i64 m,.int .i64 h,.slice A l.length c]:=by rw[hw];exact heap_alloc_new w0 _
 have hbW:Below w0.heap.size w0 W:=hba.trans (hW.mono hba.size);refine callsIn_wide.2 (all1_any (n-1) lp w0.heap.size w.heap.size A c l m h J Jx W (H.t.to hbW) (by have:=tab_lt H.t;omega) hW.size (by omega) (hbk.to hW) ((H.s.keep (Kept.all hbW) hbW.size).mono (fun i hi _=>by have:i<w0.heap.size:=hi;omega)) H.sh H.wf H.hI hJ (fun pre M R x W1 PM hj hs hl hp hm=>?_) h0);exact hY pre M R x W1 PM hj hs hl hp hm
theorem QcZ {F:Fence}{nF:Nat}{P:Program}{ops:Array Oper}{rest:List Oper}{o:Oper}{a:Act}{Q:Exit→Act→World→Prop}{w:World}(hgd:o.guard=none)(s x:Operand)(t:TypeId) (ho:o.op=.call {callee:=.builtin .append,args:=#[s,x],argTypes:=#[t,t]}) (v u:Value) (hs:a.eval s=v) (hx:a.eval x=u) (v':Value) (w':World) (hrun:(Builtin.append_ #[t,t] o.type #[v,u]).run P w=.ok v' w') (h:wpListIn F nF P ops Q rest (a.put o.dst v') w'):wpListIn F nF P ops Q (o::rest) a w:=by
 refine wpListIn_plain hgd fun K hK=>?_
 unfold Oper.wpIn;refine⟨by simp[Oper.about,ho,resolve,Target.leads,Sem.run_pure],?_⟩;rw[Oper.semAt_plain F _ _ (by rw[ho];intro c hc';cases hc')];simp[execOp,ho,resolve,invoke,builtin,hs,hx,hrun,Result.andThen];exact hK _ _ h
structure CI (w:World)(Ob base:Nat)(pre:List PV)(M R:Nat→Prop)(W:World)(v:Value):Prop where
 bx:ABox W Ob 32 [v]
 m1:∀g,v.ownBlock=some g→M g
 m2:∀i,M i→v.ownBlock=some i
 own:OwnP W base 43 v (pre.map PV.plain) R
 lt:∀i,R i→i<W.heap.size
 ge:∀i,R i→base+4≤i
 bl:Below base w W
section
variable {w:World} {Ob base:Nat} {pre:List PV} {M R:Nat→Prop} {W W':World} {v:Value}
theorem CI.ks (h:CI w Ob base pre M R W v){n0:Nat}(hb:base≤n0)(hO:Ob<n0)(hw:base≤w.heap.size)(hk:KS (fun i=>i<n0∨R i) W W'):CI w Ob base pre M R W' v:=
 ⟨(hk.block Ob (.inl hO) h.bx.lt).trans h.bx,h.m1,h.m2,h.own.kept (hk.kept.mono fun i hi=>.inr hi),fun i hi=>Nat.lt_of_lt_of_le (h.lt i hi) hk.size,h.ge,h.bl.trans (hk.below (fun i hi=>.inl (by omega)) (Nat.le_trans hw h.bl.size))⟩
end
set_option maxRecDepth 100000 in
theorem appendSeq_any {m h:Int}{A:Option Addr}{c:Nat}{l:List SectP}{w0:World}(H:BookOk w0 m h A c l):
 Calls Tryz.prog 123 #[.slice none 0 0,.func (.func 124) #[] #[.pointer (some ⟨w0.heap.size,0,none⟩)]] (w0.alloc (.cells #[.int .i64 m,.int .i64 h,.slice A l.length c] 25)) fun e W'=>∃v R,e=.returned v∧OwnP W' w0.heap.size 43 v (Qak m h l) R∧(∀i,R i→w0.heap.size≤i)∧Below w0.heap.size w0 W':=by
 refine(callsIn_wide (n:=3)).1 ?_;refine callsIn_of_wp_marks Tryz.func123 rfl trivial ?_ rfl;simp only[Tryz.ntmps123,List.size_toArray,qC,List.length_nil,Nat.reduceAdd,Nat.reduceSub,Array.replicate_succ,Array.replicate_zero,List.push_toArray,List.append_toArray,List.nil_append,List.cons_append];gi_wp2;obtain⟨wa,hwa⟩:∃wa,w0.alloc (.cells #[.int .i64 m,.int .i64 h,.slice A l.length c] 25)=wa:=⟨_,rfl⟩;have hba:Below w0.heap.size w0 wa:=by rw[←hwa];exact bR.alloc nL _
 have hza:wa.heap.size=w0.heap.size+1:=by rw[←hwa];simp
 have hseq:=all_seq (3-1) (by omega) H hwa.symm;rw[hwa];clear hwa;obtain⟨wb,hwb⟩:∃wb,wa.alloc (.cells #[.slice none 0 0] 32)=wb:=⟨_,rfl⟩;have hbb:Below wa.heap.size wa wb:=by rw[←hwb];exact bR.alloc nL _
 have hzb:wb.heap.size=w0.heap.size+2:=by rw[←hwb];simp;omega
 have hox:ABox wb (w0.heap.size+1) 32 [.slice none 0 0]:=by rw[←hwb,←hza];exact heap_alloc_new wa _
 rw[hwb];clear hwb
 refine Qdz rfl (by omega) (gf:=124) (lb:=#[.pointer (some ⟨w0.heap.size,0,none⟩)]) rfl trivial (enters_of Tryz.func124 (by kernel_rfl) rfl) hseq hbb (by omega) (fun _=>rfl) PV.pr_keep PV.pr_mono (fun pre M R W=>∃v,CI w0 (w0.heap.size+1) w0.heap.size pre M R W v) (fun _ _ _=>False) (fun pre M R X Y ⟨v,hc⟩ hk=>⟨v,hc.ks (n0:=wb.heap.size) (by omega) (by omega) nL hk⟩) (fun c s X Y row hs _ _=>hs) ⟨_,hox,by simp[Value.ownBlock],fun _ h=>h.elim,OwnP.nil _ _ _ _,fun _ h=>h.elim,fun _ h=>h.elim,hba.trans (hbb.mono hba.size)⟩ (fun k x a' W=>∃Bx,k≤Bx∧ABox W Bx 43 [.int .i64 x.num,.int .i64 x.suf,.int .i64 x.entry,.int .i64 x.ver,(.slice x.Aa x.body.length x.ca),(.slice x.Ab x.notes.length x.cb)]∧a'={tmps:=#[.slice none 0 0,.func (.func 124) #[] #[.pointer (some ⟨w0.heap.size,0,none⟩)],.pointer (some ⟨w0.heap.size+1,0,none⟩),undef,.slice none 0 0,.pointer (some ⟨Bx,0,none⟩),.func (.func 124) #[] #[.pointer (some ⟨w0.heap.size,0,none⟩)],.agg #[.int .i64 x.num,.int .i64 x.suf,.int .i64 x.entry,.int .i64 x.ver,(.slice x.Aa x.body.length x.ca),(.slice x.Ab x.notes.length x.cb)],undef,undef,undef,undef,undef],defers:=[]}) (fun k x a' s X Y row ⟨Bx,h1,h2,h3⟩ hg hr=>⟨Bx,h1,(hg.block Bx h2.lt (fun e=>by obtain⟨_,o,ho,hc⟩:=hr Bx e.symm;rw[show X.heap[Bx]? =_ from h2] at ho;cases ho;cases hc)).trans h2,h3⟩) ?assign ?body ?done ?stop
 case assign=>
  intro lp x W K hK;obtain⟨n1,s1,e1,v1,bo,no,Aa,ca,Ab,cb⟩:=x;unfold PV.enc;gi_wp2;exact hK _ _ (bR.alloc nL _) ⟨W.heap.size,Nat.le_refl _,heap_alloc_new W _,rfl⟩
 case body=>
  rintro lp pre M R PM x a' W Wp ⟨v0,hc0⟩ hWp ⟨v,hc⟩ hsz hM hR ⟨Bx,hBx,bX,rfl⟩ hlen hpr hpm;obtain⟨n1,s1,e1,v1,bo,no,Aa,ca,Ab,cb⟩:=x;dsimp only at bX hpr ⊢;have hMlt:∀i,M i→i<Wp.heap.size:=fun i hi=>(hc0.own.lt i (hc0.m2 i hi)).2
  obtain⟨W1,hW1⟩:∃W1,W.alloc (.cells #[.int .i64 n1,.int .i64 s1,.int .i64 e1,.int .i64 v1,.slice Aa bo.length ca,.slice Ab no.length cb] 43)=W1:=⟨_,rfl⟩;have hb1:Below W.heap.size W W1:=(by rw[←hW1];exact bR.alloc nL _);have hz1:W1.heap.size=W.heap.size+1:=by rw[←hW1];simp
  have hB1:W1.heap[W.heap.size]? =some (.cells #[.int .i64 n1,.int .i64 s1,.int .i64 e1,.int .i64 v1,.slice Aa bo.length ca,.slice Ab no.length cb] 43 (0,0)):=(by rw[←hW1];exact heap_alloc_new W _);obtain⟨R2,hR2⟩:∃R2:Nat→Prop,R2=fun i=>R i∨PM i∨i=W.heap.size+1:=⟨_,rfl⟩
  have HO:OwnP W1 w0.heap.size 43 v (pre.map PV.plain) R2:=(hc.own.mono (fun i hi _=>by rw[hR2];exact .inl hi)).below hb1;have hpr1:=PV.pr_keep _ _ _ _ hpr (KS.of_below hb1 _)
  have hsl:Sl W1 (fun b=>b=W.heap.size∨PM b) (some ⟨W.heap.size,0,none⟩) [(⟨⟨n1,s1,e1,v1,bo,no⟩⟩:Av PageP R2)].length [(⟨⟨n1,s1,e1,v1,bo,no⟩⟩:Av PageP R2)]:=Sl.block hB1 (.inl rfl) (by simp[maxLen]) (fun i hi=>by
   obtain rfl:i=0:=by simpa using hi
   exact⟨_,_,rfl,Rep.mono hpr1.1 (fun i hi _=>⟨.inr hi,by rw[hR2];exact .inr (.inl hi)⟩),Rep.mono hpr1.2.1 (fun i hi _=>⟨.inr hi,by rw[hR2];exact .inr (.inl hi)⟩)⟩)
  have hpn:pre.length≤1000000000:=Nat.le_trans (Nat.le_of_lt hlen) H.pn
  obtain⟨v',w',hrun,hown,hgr,hat⟩:=run_cat (P:=Tryz.prog) W1 w0.heap.size 32 32 43 (.agg #[.int .i64 0,.int .i64 0,.int .i64 0,.int .i64 0,.slice none 0 0,.slice none 0 0]) 80 Tryz.underlying32 page_info rfl (show 0<6 by decide) v ((pre.map PV.plain).map Av.mk) HO.own
   (some ⟨W.heap.size,0,none⟩) 1 1 [(⟨⟨n1,s1,e1,v1,bo,no⟩⟩:Av PageP R2)] rfl (fun b=>b=W.heap.size∨PM b) hsl (fun i hi _ e=>by
    have:=hMlt i (hc.m1 i e.symm)
    rcases hi with h|h
    ·omega
    ·exact(hpm i h).2.1 (hc.m1 i e.symm)) (by rw[qM,qM];omega) (by rw[qM,qM];omega) (by have:=hc.bl.size;omega)
  obtain⟨A5,c5,rfl,-,-⟩:=hown.form;have hOM:some (w0.heap.size+1)≠v.ownBlock:=fun e=>by have:=hM _ (hc.m1 _ e.symm);omega
  have hbx1:ABox W1 (w0.heap.size+1) 32 [v]:=hc.bx.to hb1;have hbx2:ABox w' (w0.heap.size+1) 32 [v]:=(hgr.block _ hbx1.lt hOM).trans hbx1;have hv:=hc.bx.cell 0 rfl;have hq:=hbx2.cell 0 rfl;have hf:=hbx2.fz 0;have x0:=bX.cell 0 rfl;have x1:=bX.cell 1 rfl;have x2:=bX.cell 2 rfl;have x3:=bX.cell 3 rfl;have x4:=bX.cell 4 rfl;have x5:=bX.cell 5 rfl;rw[←hW1] at hrun;have HW1:=Lh hW1;have HR2:=Lh hR2;clear hW1 hR2;have HRUN:=Lh hrun;have HC:=Lh hc;clear hrun;gi_wp2_with (gi_at_builtin;refine QcZ rfl (.tmp 8) (.tmp 10) 32 rfl _ _ rfl rfl _ _ HRUN.out ?_);have hlen1:((pre.map PV.plain).map (Av.mk:PageP→Av PageP R2)++[(⟨⟨n1,s1,e1,v1,bo,no⟩⟩:Av PageP R2)]).length=pre.length+1:=(by simp);rw[hlen1] at hown;have hz2:W1.heap.size≤w'.heap.size:=hgr.size
  have hOP:OwnP w' w0.heap.size 43 (.slice A5 (pre.length+1) c5) (pre.map PV.plain++[⟨n1,s1,e1,v1,bo,no⟩]) R2:=HO.pushed hown (fun g hg=>by
   rw[hlen1] at hat
   rcases hat with e|e
   ·exact .inl (e▸hg)
   ·rw[hg] at e;injection e with e;exact .inr e) (by rw[HR2.out];exact .inr (.inr hz1))
  have hR2b:∀i,R2 i→w0.heap.size+4≤i:=fun i hi=>by
   rw[HR2.out] at hi;rcases hi with h|h|h
   ·have:=hR i h;omega
   ·have:=(hpm i h).1;omega
   ·omega
  refine⟨fun i=>(Value.slice A5 (pre.length+1) c5).ownBlock=some i,fun i=>R2 i∧i<w'.heap.size,⟨_,?_,fun _ h=>h,fun _ h=>h,?_,fun i hi=>by simpa using hi.2,fun i hi=>hR2b i hi.1,?_⟩,?_,fun i hi=>?_,fun i hi=>?_⟩
  ·have:=hbx2.set 0 (.slice A5 (pre.length+1) c5);simpa using this
  ·have h1:=(hOP.mono (Q:=fun i=>R2 i∧i<w'.heap.size) (fun i hi hl=>⟨hi,hl⟩)).set (w0.heap.size+1) 0 (.slice A5 (pre.length+1) c5) (fun i hi e=>by have:=hR2b i hi.1;omega);rw[List.map_append];exact h1
  ·exact((HC.out.bl.trans (hb1.mono HC.out.bl.size)).grown hgr (by have:=HC.out.bl.size;omega) (fun k hk=>by have:=hM _ (HC.out.m1 k hk);omega)).setCell (p:=⟨w0.heap.size+1,0,none⟩) (by show w0.heap.size≤w0.heap.size+1;omega) _
  ·exact((KS.of_below hb1 _).trans (KS.grown hgr (fun i e h=>by
    have hm:=HC.out.m1 i e
    rcases h with h|h
    ·have:=hM i hm;omega
    ·exact h.2 hm))).trans (KS.setCell _ _ (fun h=>by
    have h:w0.heap.size+1<wa.heap.size∨(wb.heap.size≤w0.heap.size+1∧¬M (w0.heap.size+1)):=h
    rcases h with h|h
    ·omega
    ·have:=h.1;omega))
  ·have hi:(Value.slice A5 (pre.length+1) c5).ownBlock=some i:=hi;rcases hat with e|e
   ·rw[hlen1] at e;exact .inl (HC.out.m1 i (e▸hi))
   ·rw[hlen1,hi] at e;injection e with e
    have:=hOP.lt i hi;refine .inr ⟨by omega,by simpa using this.2⟩
  ·obtain⟨h1,h2⟩:=hi;rw[HR2.out] at h1;rcases h1 with h|h|h
   ·exact .inl h
   ·exact .inr (.inl ⟨h,by have:=(hpm i h).2.2;omega⟩)
   ·exact .inr (.inr ⟨by omega,by simpa using h2⟩)
 case done=>
  rintro D xs M R W hD hD2 hS ⟨v,hc⟩ hK;have hv:=hc.bx.cell 0 rfl;gi_wp2;refine⟨by simp,.inl ⟨_,_,rfl,run_takeDeferred hK,?_⟩⟩;have hg:=grownBy_putObj' W D (.deferred none);refine⟨_,results_tmp rfl _ _ _,v,R,rfl,?_,fun i hi=>by have:=hc.ge i hi;omega,hc.bl.grown hg (by have:=hc.bl.size;omega) (fun k hk=>by cases hk;omega)⟩;have h1:=hc.own.grown hg (fun i hi e=>by have:=hc.ge i hi;injection e with e;omega);rwa [hS] at h1
 case stop=>
  rintro D c pre W hD _ _ h _;exact h.elim
set_option maxRecDepth 100000 in
theorem collect_any {m h:Int}{A:Option Addr}{c:Nat}{l:List SectP}{w0:World}(H:BookOk w0 m h A c l):
 Calls Tryz.prog 67 #[.func (.func 124) #[] #[.pointer (some ⟨w0.heap.size,0,none⟩)]] (w0.alloc (.cells #[.int .i64 m,.int .i64 h,.slice A l.length c] 25)) fun e W'=>∃v R,e=.returned v∧OwnP W' w0.heap.size 43 v (Qak m h l) R∧(∀i,R i→w0.heap.size≤i)∧Below w0.heap.size w0 W':=by
 have HA:=Lh (appendSeq_any H);clear H;obtain⟨wa,hwa⟩:∃wa,w0.alloc (.cells #[.int .i64 m,.int .i64 h,.slice A l.length c] 25)=wa:=⟨_,rfl⟩;rw[hwa] at HA ⊢;clear hwa;go_enter Tryz.func67,Tryz.ntmps67
 go_wp2_with (first|(go_at_call 123;refine HA.out.mono ?_;rintro e w2 ⟨v,R,rfl,ho,hR,hb⟩;have HO:=Lh ho;have HR:=Lh hR;have HB:=Lh hb;clear ho hR hb)|fail)
 go_ret;exact⟨_,R,rfl,HO.out,HR.out,HB.out⟩
set_option maxRecDepth 100000 in
theorem QeV {m h:Int}{A:Option Addr}{c:Nat}{l:List SectP}{w:World}(H:BookOk w m h A c l):
 Calls Tryz.prog 26 #[.agg #[.int .i64 m,.int .i64 h,.slice A l.length c]] w fun e W'=>∃v R,e=.returned v∧OwnP W' w.heap.size 43 v (Qak m h l) R∧(∀i,R i→w.heap.size≤i)∧Below w.heap.size w W':=by
 obtain⟨wb,hwb⟩:∃wb,w.alloc (.cells #[.int .i64 m,.int .i64 h,.slice A l.length c] 25)=wb:=⟨_,rfl⟩;have hba:Below w.heap.size w wb:=by rw[←hwb];exact bR.alloc nL _
 have hz:w.heap.size≤wb.heap.size:=hba.size;have hx0:ABox wb w.heap.size 25 [.int .i64 m,.int .i64 h,.slice A l.length c]:=by rw[←hwb];exact heap_alloc_new w _
 have HC:=Lh (collect_any (H.to hba));have HA:=Lh (ball_any m h (.slice A l.length c) wb);have c0:=hx0.cell 0 rfl;have c1:=hx0.cell 1 rfl;have c2:=hx0.cell 2 rfl;have HB:=Lh hba;clear H hba hx0;go_enter Tryz.func26,Tryz.ntmps26
 go_wp2_with (first|(go_at_call 68;refine HA.out.mono ?_;rintro e w2 ⟨rfl,rfl⟩)|(go_at_call 67;refine HC.out.mono ?_;rintro e w3 ⟨v,R,rfl,ho,hR,hb⟩;have HO:=Lh ho;have HR:=Lh hR;have HB3:=Lh (HB.out.trans (hb.mono hz));clear ho hR hb)|fail)
 go_ret;exact⟨_,R,rfl,⟨HO.out.own.re hz,HO.out.at_⟩,fun i hi=>Nat.le_trans hz (HR.out i hi),HB3.out⟩
end Go.Proofs.YtegaapiocihcpaaGreatDoor
namespace Go.Proofs.YtegaapiocihcpaaGreatDoor
open Go.RowKit
def LabOk (l:List PageP):Prop:=l.length≤100000∧∀p∈l,(1≤p.num∧p.num≤16384)∧0≤p.suf∧p.suf≤16384
end Go.Proofs.YtegaapiocihcpaaGreatDoor
namespace Go.Proofs.YtegaapiocihcpaaGreatDoor
open Go.Shelf
end Go.Proofs.YtegaapiocihcpaaGreatDoor
namespace Go.Proofs.YtegaapiocihcpaaGreatDoor
open Go.RowKit
theorem abox3 {w:World}{P:Nat}{t:TypeId}{a b c:Value}(h:ABox w P t [a,b,c])(x y z:Value):ABox (((w.setCell ⟨P,0,none⟩ x).setCell ⟨P,1,none⟩ y).setCell ⟨P,2,none⟩ z) P t [x,y,z]:=by simpa using((h.set 0 x).set 1 y).set 2 z
theorem below3 {B P:Nat}{a w:World}(h:Below B a w)(hP:B≤P)(x y z:Value):Below B a (((w.setCell ⟨P,0,none⟩ x).setCell ⟨P,1,none⟩ y).setCell ⟨P,2,none⟩ z):=
 ((h.setCell (p:=⟨P,0,none⟩) hP x).setCell (p:=⟨P,1,none⟩) hP y).setCell (p:=⟨P,2,none⟩) hP z
def fitsV (m h:Int)(v:Value)(n:Nat):Value:=if 16384<n then .tuple #[.agg #[.int .i64 0,.int .i64 0,.slice none 0 0],.int .i64 2] else .tuple #[.agg #[.int .i64 m,.int .i64 h,v],.int .i64 0]
set_option maxRecDepth 100000 in
theorem bfits_any {m h:Int}{A:Option Addr}{c:Nat}{l:List SectP}{w:World}(H:BookOk w m h A c l):
 Calls Tryz.prog 106 #[.agg #[.int .i64 m,.int .i64 h,.slice A l.length c]] w fun e W'=>e=.returned (fitsV m h (.slice A l.length c) (Qak m h l).length)∧Below w.heap.size w W':=by
 obtain⟨wb,hwb⟩:∃wb,(w.alloc (.cells #[.int .i64 m,.int .i64 h,.slice A l.length c] 25)).alloc (.cells #[.int .i64 0,.int .i64 0,.slice none 0 0] 25)=wb:=⟨_,rfl⟩;have hba:Below w.heap.size w wb:=by rw[←hwb];exact(bR.alloc nL _).alloc (by simp) _
 have hx0:ABox wb w.heap.size 25 [.int .i64 m,.int .i64 h,.slice A l.length c]:=by rw[←hwb];exact(Below.heap_alloc _ _ _ (by simp)).trans (heap_alloc_new w _)
 have HX1:Hid (ABox wb (w.heap.size+1) 25 [.int .i64 0,.int .i64 0,.slice none 0 0]):=Lh (by rw[←hwb];exact Qai (by simp));have HP:=Lh (QeV (H.to hba));have HX0:=Lh hx0;have c0:=hx0.cell 0 rfl;have c1:=hx0.cell 1 rfl;have c2:=hx0.cell 2 rfl;have HB:=Lh hba;have HWB:=Lh hwb;have hpn:(Qak m h l).length≤1000000000:=H.pn;clear H hba hx0 hwb;go_enter Tryz.func106,Tryz.ntmps106;go_upto_region 1 with(fail);rw[HWB.out]
 go_wp2_with (first
  |(go_at_call 26;refine HP.out.mono ?_;rintro e w2 ⟨v,R,rfl,ho,hR,hb2⟩;have HX02:=Lh (HX0.out.to hb2);have HX12:=Lh (HX1.out.to hb2);have HB2:Hid (Below w.heap.size w w2):=Lh (HB.out.trans (hb2.mono HB.out.size));obtain⟨A9,c9,rfl,-,-⟩:=ho.len;clear ho hR hb2 c0 c1 c2;have d0:=HX02.out.cell 0 rfl;have d1:=HX02.out.cell 1 rfl;have d2:=HX02.out.cell 2 rfl;have e0:=HX12.out.cell 0 rfl;have e1:=HX12.out.cell 1 rfl;have e2:=HX12.out.cell 2 rfl;have f0:=HX12.out.fz 0;have f1:=HX12.out.fz 1;have f2:=HX12.out.fz 2)
  |fail)
 ·have hn:16384<(Qak m h l).length:=by omega
  exact bodyPost_ret (v:=.tuple #[.agg #[.int .i64 0,.int .i64 0,.slice none 0 0],.int .i64 2]) (QaK Tryz.results106 _ _ (w.heap.size+1) _ #[.int .i64 0,.int .i64 0,.slice none 0 0] (0,0) _ rfl (abox3 HX12.out _ _ _) Tryz.underlying25 rfl (by kernel_rfl)) rfl ⟨by unfold fitsV;rw[if_pos hn],below3 HB2.out (by omega) _ _ _⟩
 ·have hn:¬16384<(Qak m h l).length:=by omega
  exact bodyPost_ret (v:=.tuple #[.agg #[.int .i64 m,.int .i64 h,.slice A l.length c],.int .i64 0]) (QaK Tryz.results106 _ _ (w.heap.size+1) _ #[.int .i64 m,.int .i64 h,.slice A l.length c] (0,0) _ rfl (abox3 HX12.out _ _ _) Tryz.underlying25 rfl (by kernel_rfl)) rfl ⟨by unfold fitsV;rw[if_neg hn],below3 HB2.out (by omega) _ _ _⟩
def frz (s:SectP):SectP:={s with frozen:=true}
theorem frz_step (l:List SectP)(P:Nat→Prop){k:Nat}(hk:k<l.length):(((l.take k).map frz++l.drop k).map (Av.mk:SectP→Av SectP P)).set k ⟨frz l[k]⟩=(((l.take (k+1)).map frz++l.drop (k+1)).map (Av.mk:SectP→Av SectP P)):=by
 have hl:((l.take k).map frz).length=k:=by rw[qM,qK];omega
 rw[←List.map_set,List.set_append_right _ _ (by omega),hl,Nat.sub_self,List.drop_eq_getElem_cons hk,sZ0,qT hk];simp only[List.map_append,List.map_cons,List.map_nil,List.append_assoc,List.cons_append,List.nil_append]
theorem frz_at (l:List SectP)(P:Nat→Prop){k:Nat}(hk:k<l.length)(h:k<(((l.take k).map frz++l.drop k).map (Av.mk:SectP→Av SectP P)).length):(((l.take k).map frz++l.drop k).map (Av.mk:SectP→Av SectP P))[k]=⟨l[k]⟩:=by
 have hl:((l.take k).map frz).length=k:=by rw[qM,qK];omega
 rw[List.getElem_map,List.getElem_append_right (by omega)];simp only[hl,Nat.sub_self];simp
set_option maxRecDepth 100000 in
theorem freeze_any (A:Option Addr)(c:Nat)(l:List SectP)(m h:Int)(w:World)(hs:Sl w (fun b=>b<w.heap.size) A c l)(hsh:QbX l):
 Calls Tryz.prog 44 #[.agg #[.int .i64 m,.int .i64 h,.slice A l.length c]] w fun e W'=>∃v,e=.returned (.agg #[.int .i64 m,.int .i64 h,v])∧OwnP W' w.heap.size 74 v (l.map frz) (Up w.heap.size)∧Below w.heap.size w W':=by
 obtain⟨wb,hwb⟩:∃wb,(w.alloc (.cells #[.int .i64 m,.int .i64 h,.slice A l.length c] 25)).alloc (.cells #[.int .i64 0,.int .i64 0,.slice none 0 0] 25)=wb:=⟨_,rfl⟩;have hba:Below w.heap.size w wb:=by rw[←hwb];exact(bR.alloc nL _).alloc (by simp) _
 have hz:wb.heap.size=w.heap.size+2:=by rw[←hwb];simp
 have hx0:ABox wb w.heap.size 25 [.int .i64 m,.int .i64 h,.slice A l.length c]:=by rw[←hwb];exact(Below.heap_alloc _ _ _ (by simp)).trans (heap_alloc_new w _)
 have HX1:Hid (ABox wb (w.heap.size+1) 25 [.int .i64 0,.int .i64 0,.slice none 0 0]):=Lh (by rw[←hwb];exact Qai (by simp));have HC:=Lh (cloned_any A c l m h wb (hs.to hba) hsh);have c0:=hx0.cell 0 rfl;have c1:=hx0.cell 1 rfl;have c2:=hx0.cell 2 rfl;have HB:=Lh hba;have HZ:=Lh hz;have HWB:=Lh hwb;have hl63:l.length≤1048576:=hsh.1;clear hs hsh hba hx0 hwb hz;go_enter Tryz.func44,Tryz.ntmps44;go_upto_region 1 with(fail);rw[HWB.out]
 go_upto_region 2 with(first|(go_at_call 93;refine HC.out.mono ?_;rintro e w2 ⟨v,rfl,ho,hb2⟩;have HO:=Lh ho;have HB2:=Lh hb2;obtain⟨A5,c5,rfl,-,-⟩:=ho.len;clear ho hb2)|fail)
 obtain⟨w3,hw3⟩:∃w3,w2.alloc (.cells #[.int .i64 m,.int .i64 h,.slice A5 l.length c5] 25)=w3:=⟨_,rfl⟩;have hb3:Below w2.heap.size w2 w3:=by rw[←hw3];exact bR.alloc nL _
 have hx3:ABox w3 w2.heap.size 25 [.int .i64 m,.int .i64 h,.slice A5 l.length c5]:=by rw[←hw3];exact heap_alloc_new w2 _
 have HX13:=Lh ((HX1.out.to HB2.out).to hb3);have HO3:=Lh (HO.out.below hb3);have HB3:Hid (Below w.heap.size w w3):=Lh ((HB.out.trans (HB2.out.mono HB.out.size)).trans (hb3.mono (by have:=HB.out.size;have:=HB2.out.size;omega)));have HLT:Hid (∀k,(Value.slice A5 l.length c5).ownBlock=some k→wb.heap.size≤k∧k<w2.heap.size):=Lh HO.out.lt;have HZ2:Hid (w.heap.size+2≤w2.heap.size):=Lh (by have:=HB2.out.size;have:=HZ.out;omega);have HX3:=Lh hx3;have d2:=hx3.cell 2 rfl;rw[hw3];clear hw3 hb3 hx3 HX1 HO HB2 c0 c1 c2 HC HB;have hlc5:l.length≤c5:=by obtain⟨A9,c9,e9,-,h9,-⟩:=HO3.out.len;cases e9;exact h9
 go_wp2_with fail;clear d2;obtain⟨O3,hO3⟩:∃O3,w2.heap.size=O3:=⟨_,rfl⟩;rw[hO3] at HX3 HLT HZ2 ⊢;clear hO3
 go_loopw [10] (fun v10 wr=>∃k:Nat,k≤l.length∧v10=.int .i64 (k:Int)∧Hid (Own wr wb.heap.size 74 (.slice A5 l.length c5) (((l.take k).map frz++l.drop k).map (Av.mk:SectP→Av SectP (Up wb.heap.size))))∧Hid (ABox wr O3 25 [.int .i64 m,.int .i64 h,.slice A5 l.length c5])∧ Hid (ABox wr (w.heap.size+1) 25 [.int .i64 0,.int .i64 0,.slice none 0 0])∧Hid (Below w.heap.size w wr)) (fun v10 _=>l.length-(intOf v10).toNat)
 (case atStart=>exact⟨0,Nat.zero_le _,rfl,Lh HO3.out.own,HX3,HX13,HB3⟩);case round=>
  clear HO3 HX3 HX13 HB3;clear w3 w2;obtain⟨k,hk,rfl,HO,HX3,HX1,HB⟩:=hrel;by_cases hlt:k<l.length
  ·have hkl:(k:Int)<(l.length:Int):=by omega
   have hk0:(0:Int)≤(k:Int):=(by omega);have hkL:k<(((l.take k).map frz++l.drop k).map (Av.mk:SectP→Av SectP (Up wb.heap.size))).length:=(by simp;omega);obtain⟨g,cap,es,e1,-,-,-,hr,hc,hf⟩:=HO.out.at_ hkL;rw[frz_at l _ hlt hkL] at hr;injection e1 with e1 e1b e1c
   subst e1;clear e1b e1c;obtain⟨va,vb,rfl,-,-,-⟩:=hr;have q1:wr.cell? ⟨g,k*4+1,none⟩=some (.bool l[k].frozen):=hc 1 _ rfl;have f1:=hf (k*4+1)
   have HS:=Lh (HO.out.setg k 1 hkL (show 1<4 by omega) (.bool true) rfl ⟨frz l[k]⟩ (fun es he=>by
    rw[frz_at l _ hlt hkL] at he
    obtain⟨va,vb,rfl,h1,h2,h3⟩:=he
    exact⟨va,vb,rfl,h1,h2,h3⟩) (o:=k*4+1) rfl)
   have HST:=Lh (frz_step l (Up wb.heap.size) hlt);have x2:=HX3.out.cell 2 rfl;obtain⟨fb,hfb⟩:∃fb,l[k].frozen=fb:=⟨_,rfl⟩;rw[hfb] at q1;clear hc hf hkL hfb;go_wp2_with fail;go_roundw;have hg:=HLT.out g rfl;(case rel=>exact⟨k+1,by omega,by go_num,Lh (by rw[←HST.out];exact HS.out.1),Lh (HX3.out.other (by omega) _ _),Lh (HX1.out.other (by have:=HZ.out;omega) _ _),Lh (HB.out.setCell (p:=⟨g,k*4+1,none⟩) (by have:=HZ.out;show w.heap.size≤g;omega) _)⟩);case measure=>(first|(simp[intOf];done)|(simp[intOf];omega))
  ·have HL:Hid (((l.take k).map frz++l.drop k)=l.map frz):=Lh (by rw[show k=l.length by omega];simp);rw[HL.out] at HO;have y0:=HX3.out.cell 0 rfl;have y1:=HX3.out.cell 1 rfl;have y2:=HX3.out.cell 2 rfl;have z0:=HX1.out.cell 0 rfl;have z1:=HX1.out.cell 1 rfl;have z2:=HX1.out.cell 2 rfl;have f0:=HX1.out.fz 0;have f1:=HX1.out.fz 1;have f2:=HX1.out.fz 2;have HOP:Hid (OwnP wr wb.heap.size 74 (.slice A5 l.length c5) (l.map frz) (Up wb.heap.size)):=Lh ⟨HO.out,fun q hq=>(HLT.out q hq).1⟩;have hn1:∀i,Up wb.heap.size i→i≠w.heap.size+1:=fun i (hi:wb.heap.size≤i)=>by have:=HZ.out;omega
   have HOF:=Lh (up_own (((HOP.out.set (w.heap.size+1) 0 (.int .i64 m) hn1).set (w.heap.size+1) 1 (.int .i64 h) hn1).set (w.heap.size+1) 2 (.slice A5 l.length c5) hn1) (show w.heap.size≤wb.heap.size by have:=HZ.out;omega));clear hn1;go_wp2_with fail
   exact bodyPost_ret (v:=.agg #[.int .i64 m,.int .i64 h,.slice A5 l.length c5]) (QbW Tryz.results44 _ _ (w.heap.size+1) _ #[.int .i64 m,.int .i64 h,.slice A5 l.length c5] (0,0) _ rfl (abox3 HX1.out _ _ _) Tryz.underlying25 rfl (by kernel_rfl)) rfl ⟨_,rfl,HOF.out,below3 HB.out (by omega) _ _ _⟩



theorem rp_lit {α:Type}[Rep α]{w:World}{B:Nat}{cs:List Value}{t:TypeId}{x:α}(hB:B≤w.heap.size)(h:Rep.R w (Up B) cs x):(SP.rp B [x]).p (.slice (some ⟨w.heap.size,0,none⟩) 1 1) (w.alloc (.cells cs.toArray t)):=by
 refine⟨⟨_,_,rfl⟩,⟨_,_,rfl,Sl.block (l:=[x]) (heap_alloc_new w _) hB (by simp[maxLen]) (fun i hi=>?_),by simp⟩⟩;obtain rfl:i=0:=by simpa using hi
 have hl:=Rep.len h;have e:(cs.toArray.toList.drop (0*Rep.size α)).take (Rep.size α)=cs:=by
  rw[Nat.zero_mul,List.drop_zero,←hl];simp
 rw[e];exact Rep.keep h (Kept.all (bR.alloc nL _))
theorem rp_int {w:World}{B:Nat}{v:Int}{t:TypeId}(hB:B≤w.heap.size)(h:I64 v):(SP.rp B [v]).p (.slice (some ⟨w.heap.size,0,none⟩) 1 1) (w.alloc (.cells #[.int .i64 v] t)):=rp_lit (cs:=[.int .i64 v]) hB ⟨rfl,h⟩
def idxP (l:List Int)(v:Int):Int:=if l.findIdx (fun x=>decide (x=v))<l.length then(l.findIdx (fun x=>decide (x=v)):Int) else -1
theorem idxP_hit {l:List Int}{v:Int}{k:Nat}(hk:k<l.length)(h:l[k]=v)(hn:∀i (hi:i<k),(l[i]'(by omega))≠v):idxP l v=(k:Int):=by
 have:l.findIdx (fun x=>decide (x=v))=k:=(List.findIdx_eq hk).2 ⟨by simp[h],fun i hi=>by simpa using hn i hi⟩;unfold idxP;rw[this,if_pos hk]
theorem Qed {l:List Int}{v:Int}(hn:∀i (hi:i<l.length),l[i]≠v):idxP l v= -1:=by
 have:l.findIdx (fun x=>decide (x=v))=l.length:=by
  rw[List.findIdx_eq_length];intro x hx;obtain⟨i,hi,rfl⟩:=List.mem_iff_getElem.1 hx;simpa using hn i hi
 unfold idxP;rw[this,if_neg (by omega)]
theorem idxP_mem (l:List Int)(v:Int):decide (idxP l v≥0)=decide (v∈l):=by
 by_cases h:v∈l
 ·have:l.findIdx (fun x=>decide (x=v))<l.length:=List.findIdx_lt_length_of_exists ⟨v,h,by simp⟩;rw[decide_eq_true h,idxP,if_pos this];exact decide_eq_true (by omega)
 ·rw[decide_eq_false h,Qed (fun i hi e=>h (by rw[←e];exact List.getElem_mem hi))];rfl
set_option maxRecDepth 100000 in
theorem indexI_any (A:Option Addr)(c:Nat)(l:List Int)(v:Int)(w:World)(hs:Sl w (fun b=>b<w.heap.size) A c l)(h63:l.length≤1073741824):
 Calls Tryz.prog 70 #[.slice A l.length c,.int .i64 v] w fun x w'=>x=.returned (.int .i64 (idxP l v))∧w=w':=by
 have HS:=Lh hs;clear hs;go_enter Tryz.func70,Tryz.ntmps70;go_wp2_with fail;go_loopw [5,8] (fun _ i wr=>wr=w∧∃k:Nat,k≤l.length∧i=.int .i64 k∧Hid (∀i (hi:i<l.length),i<k→l[i]≠v)) (fun _ i _=>l.length-(intOf i).toNat);(case atStart=>exact⟨rfl,0,Nat.zero_le _,rfl,Lh (fun i hi h=>absurd h (Nat.not_lt_zero _))⟩);case round=>
  obtain⟨hw9,k,hk,rfl,HN⟩:=hrel;subst hw9;by_cases hlt:k<l.length
  ·obtain⟨b,o,rfl,-,-,-,k0⟩:=Qcf HS.out hlt;have hkl:(k:Int)<(l.length:Int):=(by omega);have hk0:(0:Int)≤(k:Int):=(by omega);have hlc:l.length≤c:=HS.out.1;have HX:Hid (∃x,l[k]=x):=Lh ⟨_,rfl⟩;obtain⟨x,hx⟩:=HX.out;have HXE:=Lh hx;rw[hx] at k0;clear hx HX;by_cases hq:v=x
   ·subst hq;have HF:Hid (idxP l v=(k:Int)):=Lh (idxP_hit hlt HXE.out (fun i hi=>HN.out i (by omega) hi));go_wp2_with fail;go_ret;exact⟨by rw[HF.out];rfl,by first|rfl|trivial⟩
   ·have hqb:(v==x)=false:=by rw[beq_eq_false_iff_ne];exact hq
    have HN2:Hid (∀i (hi:i<l.length),i<k+1→l[i]≠v):=Lh (fun i hi h=>by
     by_cases hik:i=k
     ·subst hik;rw[HXE.out];exact fun e=>hq e.symm
     ·exact HN.out i hi (by omega))
    clear hq;go_wp2_with fail;go_roundw;(case rel=>exact⟨trivial,k+1,by omega,by go_num,HN2⟩);case measure=>simp[intOf];omega
  ·have HF:Hid (idxP l v= -1):=Lh (Qed fun i hi=>HN.out i hi (by omega));go_wp2_with fail;go_ret;exact⟨by rw[HF.out];rfl,by first|rfl|trivial⟩
set_option maxRecDepth 100000 in
theorem containsI_any (A:Option Addr)(c:Nat)(l:List Int)(v:Int)(w:World)(hs:Sl w (fun b=>b<w.heap.size) A c l)(h63:l.length≤1073741824):
 Calls Tryz.prog 104 #[.slice A l.length c,.int .i64 v] w fun x w'=>x=.returned (.bool (decide (v∈l)))∧w=w':=by
 have HI:=Lh (indexI_any A c l v w hs h63);have HM:=Lh (idxP_mem l v);clear hs;go_enter Tryz.func104,Tryz.ntmps104
 go_wp2_with (first|(go_at_call 70;refine HI.out.mono ?_;rintro e w1 ⟨rfl,rfl⟩)|fail)
 go_ret;exact⟨by rw[←HM.out];rfl,by first|rfl|trivial⟩
structure CK (W:World)(g:Nat)(rows:List SC)(l:List SectP)(k:Nat)(s:SectP)(v1 v2:Value):Prop where
 own:Own W g 74 (.slice (some ⟨g,0,none⟩) l.length l.length) rows
 len:rows.length=l.length
 row:rows[k]? =some ⟨s.entry,s.frozen,v1,v2⟩
 sec:l[k]? =some s
 f:∀i (h1:i<rows.length) (h2:i<l.length),rows[i].e=l[i].entry∧rows[i].f=l[i].frozen∧I64 l[i].entry
 o:∀i (h1:i<rows.length) (h2:i<l.length),i≠k→Rep.R W (Off g v1) [rows[i].v1] l[i].vers∧Rep.R W (Off g v1) [rows[i].v2] l[i].texts
 ko:Own W (g+1) 3 v1 s.vers
 kt:Rep.R W (Off g v1) [v2] s.texts
 kc:∃A,v2=.slice A s.texts.length s.texts.length
section
variable {W W':World} {g k:Nat} {rows:List SC} {l:List SectP} {s:SectP} {v1 v2:Value}
theorem CX.ck (h:CX W g rows l l.length)(hk:k<l.length):∃v1 v2,CK W g rows l k l[k] v1 v2:=by
 have hkr:k<rows.length:=by rw[h.cs.len];exact hk
 obtain⟨a1,a2,a3,-,-⟩:=h.cs.f k hkr hk;have e:rows[k]=⟨l[k].entry,l[k].frozen,rows[k].v1,rows[k].v2⟩:=by rw[←a1,←a2]
 exact⟨rows[k].v1,rows[k].v2,h.cs.own,h.cs.len,by rw[qG hkr,e],qG hk,fun i h1 h2=>⟨(h.cs.f i h1 h2).1,(h.cs.f i h1 h2).2.1,(h.cs.f i h1 h2).2.2.1⟩,fun i h1 h2 hik=>⟨(h.ap k hkr hk hk i h1 h2 h2).1 (Ne.symm hik),(h.ap k hkr hk hk i h1 h2 h2).2⟩,(h.vo k hkr hk hk).1,(h.ap k hkr hk hk k hkr hk hk).2,(h.vo k hkr hk hk).2⟩
theorem CK.lt (h:CK W g rows l k s v1 v2):k<l.length:=(List.getElem?_eq_some_iff.1 h.sec).1
theorem CK.glt (h:CK W g rows l k s v1 v2):g<W.heap.size:=(h.own.lt g rfl).2
theorem CK.off (h:CK W g rows l k s v1 v2):some g≠v1.ownBlock:=fun e=>by have:=(h.ko.lt g e.symm).1;omega
theorem CK.to (h:CK W g rows l k s v1 v2)(hb:Below W.heap.size W W'):CK W' g rows l k s v1 v2:=
 ⟨h.own.below hb,h.len,h.row,h.sec,h.f,fun i h1 h2 hik=>⟨Rep.keep (h.o i h1 h2 hik).1 (Kept.all hb),Rep.keep (h.o i h1 h2 hik).2 (Kept.all hb)⟩,h.ko.below hb,Rep.keep h.kt (Kept.all hb),h.kc⟩
theorem CK.cells (h:CK W g rows l k s v1 v2):
 W.cell? ⟨g,k*4,none⟩=some (.int .i64 s.entry)∧W.cell? ⟨g,k*4+1,none⟩=some (.bool s.frozen)∧W.cell? ⟨g,k*4+2,none⟩=some v1∧W.cell? ⟨g,k*4+3,none⟩=some v2∧∀o,W.frozen? ⟨g,o,none⟩=false:=by
 have hkr:k<rows.length:=(List.getElem?_eq_some_iff.1 h.row).1;have e:=(List.getElem?_eq_some_iff.1 h.row).2;obtain⟨g',cap,es,e1,-,-,-,hr,hc,hf⟩:=h.own.at_ (k:=k) hkr;injection e1 with q1 _ _
 injection q1 with q1
 injection q1 with q1 _ _
 subst q1;rw[e] at hr;obtain⟨rfl,-,-⟩:=hr;exact⟨hc 0 _ rfl,hc 1 _ rfl,hc 2 _ rfl,hc 3 _ rfl,hf⟩
theorem CK.reset (h:CK W g rows l k s v1 v2):∃rows',CK ((W.setCell ⟨g,k*4+2,none⟩ (.slice none 0 0)).setCell ⟨g,k*4+3,none⟩ (.slice none 0 0)) g rows' (l.set k {s with vers:=[],texts:=[]}) k {s with vers:=[],texts:=[]} (.slice none 0 0) (.slice none 0 0):=by
 have hkr:k<rows.length:=(List.getElem?_eq_some_iff.1 h.row).1;have e:=(List.getElem?_eq_some_iff.1 h.row).2;have hk:=h.lt;have es:=(List.getElem?_eq_some_iff.1 h.sec).2;obtain⟨a2,b3⟩:=rows_set h.own hkr (v1:=.slice none 0 0) (v2:=.slice none 0 0) rfl rfl;have kp:Kept (fun b=>g<b) W ((W.setCell ⟨g,k*4+2,none⟩ (.slice none 0 0)).setCell ⟨g,k*4+3,none⟩ (.slice none 0 0)):=Kept.grown b3 (fun i hi e=>by have h:g<i:=hi;injection e with e;omega);have far:∀b,Off g v1 b→Off g (.slice none 0 0) b:=fun b hb=>⟨hb.1,by simp[Value.ownBlock]⟩
 refine⟨_,by rw[List.length_set];exact a2,by rw[List.length_set,List.length_set];exact h.len,by rw[List.getElem?_set_self hkr,e],by rw[List.getElem?_set_self hk],fun i h1 h2=>?_,fun i h1 h2 hik=>?_,Own.nil _ _ _,⟨none,0,rfl,Sl.nil _ _ _ _ (by simp[maxLen]),by simp⟩,⟨none,rfl⟩⟩
 ·rw[List.length_set] at h1 h2;have hf:=h.f i h1 h2;by_cases hik:k=i
  ·subst hik;rw[List.getElem_set_self,List.getElem_set_self];rw[es] at hf;exact hf
  ·rw[List.getElem_set_ne hik,List.getElem_set_ne hik];exact hf
 ·rw[List.length_set] at h1 h2;have ho:=h.o i h1 h2 hik;rw[List.getElem_set_ne (Ne.symm hik),List.getElem_set_ne (Ne.symm hik)];exact⟨Rep.keep (Rep.mono ho.1 (fun b hb _=>far b hb)) (kp.mono fun b hb=>hb.1),Rep.keep (Rep.mono ho.2 (fun b hb _=>far b hb)) (kp.mono fun b hb=>hb.1)⟩
theorem CK.fin (h:CK W g rows l k s v1 v2)(hk:Kept (fun b=>g≤b∧some b≠v1.ownBlock) W W'){u1 u2:Value}{vs:List Int}{ts:List TextP}(h1:Own W' (g+1) 3 u1 vs)(h2:Rep.R W' (fun b=>g<b) [u2] ts):
 OwnP ((W'.setCell ⟨g,k*4+2,none⟩ u1).setCell ⟨g,k*4+3,none⟩ u2) g 74 (.slice (some ⟨g,0,none⟩) l.length l.length) (l.set k ⟨s.entry,s.frozen,vs,ts⟩) (Up g)∧W'.grownBy ((W'.setCell ⟨g,k*4+2,none⟩ u1).setCell ⟨g,k*4+3,none⟩ u2) (some g):=by
 have hkr:k<rows.length:=(List.getElem?_eq_some_iff.1 h.row).1;have e:=(List.getElem?_eq_some_iff.1 h.row).2;have hkl:=h.lt;have es:=(List.getElem?_eq_some_iff.1 h.sec).2
 have hv1:Rep.R W' (fun b=>g<b) [u1] vs:=by
  obtain⟨A,c,e,-⟩:=h1.form;subst e;exact QcC h1 rfl (fun b hb=>hb)
 have o1:=Rep.one hv1 u1 (by simp);have o2:=Rep.one h2 u2 (by simp);have own':Own W' g 74 (.slice (some ⟨g,0,none⟩) l.length l.length) rows:=h.own.at_blocks (fun q hq eq=>by cases eq;exact hk g ⟨Nat.le_refl _,h.off⟩ hq);obtain⟨a2,b3⟩:=rows_set own' hkr (v1:=u1) (v2:=u2) o1 o2;refine⟨?_,b3⟩;have kp:Kept (fun b=>g<b) W' ((W'.setCell ⟨g,k*4+2,none⟩ u1).setCell ⟨g,k*4+3,none⟩ u2):=Kept.grown b3 (fun i hi e=>by have h:g<i:=hi;injection e with e;omega);have hcs:CS ((W'.setCell ⟨g,k*4+2,none⟩ u1).setCell ⟨g,k*4+3,none⟩ u2) g (rows.set k ⟨rows[k].e,rows[k].f,u1,u2⟩) (l.set k ⟨s.entry,s.frozen,vs,ts⟩) (l.set k ⟨s.entry,s.frozen,vs,ts⟩).length:=by
  refine⟨by rw[List.length_set];exact a2,by rw[List.length_set,List.length_set];exact h.len,fun i h3 h4=>?_⟩;rw[List.length_set] at h3 h4 ⊢;have hf:=h.f i h3 h4;by_cases hik:k=i
  ·subst hik;rw[List.getElem_set_self,List.getElem_set_self];rw[es] at hf;exact⟨hf.1,hf.2.1,hf.2.2,fun _=>⟨Rep.keep hv1 kp,Rep.keep h2 kp⟩,fun h=>absurd h (by omega)⟩
  ·rw[List.getElem_set_ne hik,List.getElem_set_ne hik];have ho:=h.o i h3 h4 (Ne.symm hik);have kp2:Kept (Off g v1) W W':=hk.mono (fun b hb=>⟨Nat.le_of_lt hb.1,hb.2⟩);exact⟨hf.1,hf.2.1,hf.2.2,fun _=>⟨Rep.keep (Rep.mono (Rep.keep ho.1 kp2) (fun b hb _=>hb.1)) kp,Rep.keep (Rep.mono (Rep.keep ho.2 kp2) (fun b hb _=>hb.1)) kp⟩,fun h=>absurd h (by omega)⟩
 have:=hcs.done;rw[List.length_set] at this;exact this
end
def QaO (s:SectP)(v:Int)(t:TextP):SectP:=⟨s.entry,s.frozen,(if s.frozen then s.vers else[])++[v],(if s.frozen then s.texts else[])++[t]⟩
theorem corrS_short {s:SectP}{v:Int}{a b:List (List Word)}(h:ShortX s)(hl:(QaO s v ⟨a,b⟩).vers.length≤100)(ht:s.texts.length≤s.vers.length)(ha:QbP a)(hb:QbP b):ShortX (QaO s v ⟨a,b⟩):=by
 refine⟨by omega,?_,fun t ht=>?_⟩
 ·unfold QaO at hl ⊢;cases hf:s.frozen
  ·simp
  ·rw[hf] at hl;simp at hl ⊢;omega
 ·unfold QaO at ht;rcases List.mem_append.1 ht with h1|h1
  ·cases hf:s.frozen
   ·rw[hf] at h1;simp at h1
   ·rw[hf] at h1;exact h.2.2 t h1
  ·rw[List.mem_singleton] at h1;subst h1;exact⟨ha,hb⟩
theorem corrS_wf {s:SectP}{v:Int}{t:TextP}(h:s.texts.length≤s.vers.length):(QaO s v t).texts.length≤(QaO s v t).vers.length:=by
 unfold QaO;cases s.frozen
 ·simp
 ·simp;omega
set_option maxRecDepth 100000 in
theorem correct_frozen (A:Option Addr)(c:Nat)(l:List SectP)(m h entry version:Int)(A1 B1:Option Addr)(c1 d1:Nat)(a b:List (List Word))(w:World)(hT:Laid w)(hs:Sl w (fun b=>b<w.heap.size) A c l)(hsh:QbX l)(hwf:WfS l)(hI:I64 h) (ha:Sl w (fun b=>b<w.heap.size) A1 c1 a) (hb:Sl w (fun b=>b<w.heap.size) B1 d1 b) (hsa:QbP a) (hsb:QbP b) (k:Nat) (hk:k<l.length) (hf:QbB l entry=(k:Int)) (s:SectP) (hks:l[k]? =some s) (hfr:s.frozen=true) (hv:0≤version∧version≤2147483647) (hnv:version∉s.vers) (hE:Qbo m h a b=0) (hlim:(QaO s version ⟨a,b⟩).vers.length≤100) (hpn:(Qak m h (l.set k (QaO s version ⟨a,b⟩))).length≤1000000000):
 Calls Tryz.prog 49 #[.agg #[.int .i64 m,.int .i64 h,.slice A l.length c],.int .i64 entry,.int .i64 version,.agg #[.slice A1 a.length c1,.slice B1 b.length d1]] w fun x W'=>∃v,x=.returned (fitsV m h v (Qak m h (l.set k (QaO s version ⟨a,b⟩))).length)∧OwnP W' w.heap.size 74 v (l.set k (QaO s version ⟨a,b⟩)) (Up w.heap.size)∧Below w.heap.size w W':=by
 obtain⟨wb,hwb⟩:∃wb,((w.alloc (.cells #[.int .i64 m,.int .i64 h,.slice A l.length c] 25)).alloc (.cells #[.slice A1 a.length c1,.slice B1 b.length d1] 36)).alloc (.cells #[.int .i64 0,.int .i64 0,.slice none 0 0] 25)=wb:=⟨_,rfl⟩;have hba:Below w.heap.size w wb:=by rw[←hwb];exact((bR.alloc nL _).alloc (by simp) _).alloc (by simp;omega) _
 have hz:wb.heap.size=w.heap.size+3:=by rw[←hwb];simp
 have hx0:ABox wb w.heap.size 25 [.int .i64 m,.int .i64 h,.slice A l.length c]:=by rw[←hwb];exact(Below.heap_alloc _ _ _ (by simp;omega)).trans ((Below.heap_alloc _ _ _ (by simp)).trans (heap_alloc_new w _))
 have hx1:ABox wb (w.heap.size+1) 36 [.slice A1 a.length c1,.slice B1 b.length d1]:=by rw[←hwb];exact(Below.heap_alloc _ _ _ (by simp)).trans (Qai (by simp))
 have hx2:ABox wb (w.heap.size+2) 25 [.int .i64 0,.int .i64 0,.slice none 0 0]:=by rw[←hwb];exact Qai (by simp)
 have hl63:l.length≤1048576:=hsh.1;have HXS:Hid (ShortX s):=Lh (hsh.2 s (List.mem_of_getElem? hks));have HWS:Hid (s.texts.length≤s.vers.length):=Lh (hwf s (List.mem_of_getElem? hks))
 have HSH:Hid (QbX (l.set k (QaO s version ⟨a,b⟩))):=Lh ⟨by rw[List.length_set];exact hsh.1,fun x hx=>by
  rcases List.mem_or_eq_of_mem_set hx with h|h
  ·exact hsh.2 x h
  ·subst h
   exact corrS_short HXS.out hlim HWS.out hsa hsb⟩
 have HWF:Hid (WfS (l.set k (QaO s version ⟨a,b⟩))):=Lh (fun x hx=>by
  rcases List.mem_or_eq_of_mem_set hx with h|h
  ·exact hwf x h
  ·subst h
   exact corrS_wf HWS.out)
 have HF:=Lh (find_any A c l m h entry wb (hs.to hba) (by omega))
 have HCL:Hid (∀W,Below wb.heap.size wb W→Calls Tryz.prog 93 #[.agg #[.int .i64 m,.int .i64 h,.slice A l.length c]] W fun e w'=>∃g rows,e=.returned (.agg #[.int .i64 m,.int .i64 h,.slice (some ⟨g,0,none⟩) l.length l.length])∧W.heap.size≤g∧g<w'.heap.size∧CX w' g rows l l.length∧Below W.heap.size W w'):=
  Lh fun W hW=>cloned_own A c l m h W ((hs.to hba).to hW) hsh
 have HWR:Hid (∀W,Below wb.heap.size wb W→Calls Tryz.prog 105 #[.agg #[.int .i64 m,.int .i64 h,.slice A l.length c],.agg #[.slice A1 a.length c1,.slice B1 b.length d1]] W fun e w'=>e=.returned (.int .i64 0)∧Below W.heap.size W w'):=
  Lh fun W hW=>by
   have:=wrong_any A1 B1 c1 d1 a b m h (.slice A l.length c) rfl W ((hT.to hba).to hW) ((ha.to hba).to hW) ((hb.to hba).to hW) hI hsa.1 hsb.1;rwa [hE] at this
 have HTX:Hid (∀W,Below wb.heap.size wb W→Calls Tryz.prog 71 #[.agg #[.slice A1 a.length c1,.slice B1 b.length d1]] W fun e w'=>∃va vb,e=.returned (.agg #[va,vb])∧Rep.R w' (Up W.heap.size) [va,vb] (⟨a,b⟩:TextP)∧Below W.heap.size W w'):=
  Lh fun W hW=>Qet A1 B1 c1 d1 a b W ((ha.to hba).to hW) ((hb.to hba).to hW) hsa hsb
 have HW:Hid (∀W,Calls Tryz.prog 91 #[.int .i64 version,.int .i64 0,.int .i64 2147483647] W fun e w'=>e=.returned (.bool true)∧W=w'):=Lh fun W=>by
  have:=within_any version 0 2147483647 W;rwa [decide_eq_true hv] at this
 obtain⟨b0,o0,Ag,cg,An,cn,hA,hbl,-,s0,s1,s2,s3,hvS,-,hIE⟩:=Qds hs hk;have hsk:l[k]=s:=by rw[qG hk] at hks;exact Option.some.inj hks
 rw[hsk] at s0 s1 s2 s3 hvS hIE;subst hA
 have HCN:Hid (∀W,Below wb.heap.size wb W→Calls Tryz.prog 104 #[.slice Ag s.vers.length cg,.int .i64 version] W fun e w'=>e=.returned (.bool false)∧W=w'):=Lh fun W hW=>by
  have:=containsI_any Ag cg s.vers version W ((hvS.to hba).to hW) (by have:=HXS.out.1;omega);rwa [decide_eq_false hnv] at this
 have s2b:wb.cell? ⟨b0,o0+k*4+2,none⟩=some (.slice Ag s.vers.length cg):=(hba.cell (p:=⟨b0,o0+k*4+2,none⟩) hbl).trans s2;have HSB:Hid (b0<wb.heap.size∧wb.cell? ⟨b0,o0+k*4+2,none⟩=some (.slice Ag s.vers.length cg)):=Lh ⟨by have:=hbl;omega,s2b⟩;have hlc:l.length≤c:=hs.1;have hk0:¬((k:Int)<0):=by omega
 have hk1:(0:Int)≤(k:Int):=by omega
 have hkl:(k:Int)<(l.length:Int):=by omega
 have HLA:=Lh (hT.to hba);have HI:=Lh hI;have HIV:Hid (I64 version):=Lh (by unfold I64;omega);have HPN:=Lh hpn;have HLIM:=Lh hlim;have HX0:=Lh hx0;have HX1:=Lh hx1;have HX2:=Lh hx2;have HB:=Lh hba;have HZ:=Lh hz;have HWB:=Lh hwb;have HKS:=Lh hks;have HFR:=Lh hfr;have HSK:=Lh hsk;have k0:=hx0.cell 0 rfl;have k1:=hx0.cell 1 rfl;have k2:=hx0.cell 2 rfl;clear hs hsh hwf hI ha hb hsa hsb hv hnv hE hpn hlim hT hba hx0 hx1 hx2 hwb hz hks hfr hsk s0 s1 s2 s3 s2b hvS hIE hbl;rw[hf] at HF;clear hf;go_enter Tryz.func49,Tryz.ntmps49;go_upto_region 1 with(fail);rw[HWB.out]
 go_upto_region 12 with(first
  |(go_at_call 69;refine HF.out.mono ?_;rintro e w1 ⟨rfl,hb1⟩;have HB1:=Lh hb1;have HX01:=Lh (HX0.out.to hb1);have HX11:=Lh (HX1.out.to hb1);have s2:=(hb1.cell (p:=⟨b0,o0+k*4+2,none⟩) HSB.out.1).trans HSB.out.2;clear hb1 k0 k1 k2;have k0:=HX01.out.cell 0 rfl;have k1:=HX01.out.cell 1 rfl;have k2:=HX01.out.cell 2 rfl;have e0:=HX11.out.cell 0 rfl;have e1:=HX11.out.cell 1 rfl)
  |(go_at_call 91;refine(HW.out _).mono ?_;rintro e w9 ⟨rfl,rfl⟩)
  |(go_at_call 104;refine(HCN.out _ HB1.out).mono ?_;rintro e w9 ⟨rfl,rfl⟩)
  |(go_at_call 105;refine(HWR.out _ HB1.out).mono ?_;rintro e w2 ⟨rfl,hb2⟩;have HB2:=Lh hb2;have HX02:=Lh (HX01.out.to hb2);clear hb2 k0 k1 k2 e0 e1 s2;have k0:=HX02.out.cell 0 rfl;have k1:=HX02.out.cell 1 rfl;have k2:=HX02.out.cell 2 rfl)
  |(go_at_call 93;refine(HCL.out _ (HB1.out.trans (HB2.out.mono HB1.out.size))).mono ?_;rintro e w3 ⟨g,rows,rfl,hgw,hg3,hcx,hb3⟩;have HCX:=Lh hcx;have HGW:=Lh hgw;have HG3:=Lh hg3;have HB3:=Lh hb3;clear hcx hgw hg3 hb3 k0 k1 k2)
  |fail)
 obtain⟨w4,hw4⟩:∃w4,w3.alloc (.cells #[.int .i64 m,.int .i64 h,.slice (some ⟨g,0,none⟩) l.length l.length] 25)=w4:=⟨_,rfl⟩;have hb4:Below w3.heap.size w3 w4:=by rw[←hw4];exact bR.alloc nL _
 have hx4:ABox w4 w3.heap.size 25 [.int .i64 m,.int .i64 h,.slice (some ⟨g,0,none⟩) l.length l.length]:=by rw[←hw4];exact heap_alloc_new w3 _
 have hz4:w4.heap.size=w3.heap.size+1:=by rw[←hw4];simp
 rw[hw4];clear hw4;have HS:Hid (w.heap.size+3≤g∧g<w3.heap.size∧w4.heap.size=w3.heap.size+1):=Lh ⟨by have:=HZ.out;have:=HB1.out.size;have:=HB2.out.size;have:=HGW.out;omega,HG3.out,hz4⟩;have HBW4:Hid (Below wb.heap.size wb w4):=Lh (((HB1.out.trans (HB2.out.mono HB1.out.size)).trans (HB3.out.mono (by have:=HB1.out.size;have:=HB2.out.size;omega))).trans (hb4.mono (by have:=HB1.out.size;have:=HB2.out.size;have:=HB3.out.size;omega)));have HX4:=Lh hx4;have HX14:=Lh (HX1.out.to HBW4.out);have HX24:=Lh (HX2.out.to HBW4.out);have k2:=hx4.cell 2 rfl;obtain⟨v1,v2,hck3⟩:=HCX.out.ck hk;rw[HSK.out] at hck3;have HNO:Hid (∀q,v1.ownBlock=some q→q<w3.heap.size):=Lh (fun q hq=>(hck3.ko.lt q hq).2);have hck:=hck3.to hb4;clear hck3;obtain⟨-,r1,r2,r3,hfz⟩:=hck.cells;rw[HFR.out] at r1;have hfz2:=hfz (k*4+2);have hfz3:=hfz (k*4+3);have HCK4:=Lh hck;obtain⟨ob,hob⟩:∃ob,w3.heap.size=ob:=⟨_,rfl⟩;rw[hob] at HS HX4 HNO ⊢;rw[hob] at k2;clear hb4 hx4 hz4 hck hfz HB3 HB2 HB1 HX01 HX11 HX02 HX0 HX1 HX2 HF HCL HWR HW HWB HCN HSB HCX HGW HG3 hob;go_upto_region 15 with(fail);clear k2 r1 r2 r3 hfz2 hfz3;have HCK:=HCK4;have HFI:Hid (l.set k ⟨s.entry,s.frozen,s.vers++[version],s.texts++[⟨a,b⟩]⟩=l.set k (QaO s version ⟨a,b⟩)∧l.length=l.length):=Lh ⟨by unfold QaO;rw[HFR.out];rfl,rfl⟩;have HNS:Hid (s.vers.length+1≤100∧s.texts.length≤1048576):=Lh ⟨by have:=HLIM.out;unfold QaO at this;rw[HFR.out] at this;simpa using this,HXS.out.2.1⟩;obtain⟨w5,hw5⟩:∃w5,w4=w5:=⟨_,rfl⟩;have HB5:=HBW4;have HX5:=HX4;have HX15:=HX14;have HX25:=HX24;have HS5:=HS;rw[hw5] at HCK HB5 HX5 HX15 HX25 HS5 ⊢;obtain⟨l5,hl5⟩:∃l5,l=l5:=⟨_,rfl⟩;obtain⟨s5,hs5⟩:∃s5,s=s5:=⟨_,rfl⟩;have HFI5:Hid (l5.set k ⟨s5.entry,s5.frozen,s5.vers++[version],s5.texts++[⟨a,b⟩]⟩=l.set k (QaO s version ⟨a,b⟩)∧l5.length=l.length):=Lh (by rw[←hl5,←hs5];exact HFI.out);have HNS5:Hid (s5.vers.length+1≤100∧s5.texts.length≤1048576):=Lh (by rw[←hs5];exact HNS.out);have HNO5:=HNO;have HCK5:Hid (CK w5 g rows l5 k s5 v1 v2):=Lh (by rw[←hl5,←hs5];exact HCK.out);clear hl5 hs5 hw5 HCK HCK4 HFI HNS HBW4 HX4 HX14 HX24 HS;obtain⟨V1,cv1,hv1,-,hvc,hvm⟩:=HCK5.out.ko.form;obtain⟨V2,hv2⟩:=HCK5.out.kc;subst hv1;subst hv2;obtain⟨n1,hn1⟩:∃n1,s5.vers.length=n1:=⟨_,rfl⟩;obtain⟨n2,hn2⟩:∃n2,s5.texts.length=n2:=⟨_,rfl⟩;rw[hn1,hn2] at HCK5;rw[hn1] at HNO5;have HN1:=Lh hn1;have HN2:=Lh hn2;have hn1l:n1+1≤100:=by have:=HNS5.out.1;omega
 have hn2l:n2≤1048576:=by have:=HNS5.out.2;omega
 clear hn1 hn2 hvc hvm;refine Qaj (fun w'=>w'.cell? ⟨g,k*4+2,none⟩=some (.slice V1 n1 cv1)∧w'.cell? ⟨g,k*4+3,none⟩=some (.slice V2 n2 n2)∧w'.cell? ⟨w.heap.size+1,0,none⟩=some (.slice A1 a.length c1)∧w'.cell? ⟨w.heap.size+1,1,none⟩=some (.slice B1 b.length d1)) (fun i=>decide (i<19∧i≠1)) (by kernel_rfl) ?_;have hbz:Below w5.heap.size w5 w5.drew:=bR.drew;have HCK6:=Lh (HCK5.out.to hbz);have HB6:Hid (Below wb.heap.size wb w5.drew):=Lh (HB5.out.trans (hbz.mono HB5.out.size));have HX6:=Lh (HX5.out.to hbz);have HX16:=Lh (HX15.out.to hbz);have HX26:=Lh (HX25.out.to hbz);have HS6:Hid (w.heap.size+3≤g∧g<ob∧w5.drew.heap.size=ob+1):=HS5;clear hbz HCK5 HB5 HX5 HX15 HX25 HS5;generalize w5.drew=wx at*;clear w5;have hS0:wx.cell? ⟨g,k*4+2,none⟩=some (.slice V1 n1 cv1)∧wx.cell? ⟨g,k*4+3,none⟩=some (.slice V2 n2 n2)∧wx.cell? ⟨w.heap.size+1,0,none⟩=some (.slice A1 a.length c1)∧wx.cell? ⟨w.heap.size+1,1,none⟩=some (.slice B1 b.length d1):=⟨HCK6.out.cells.2.2.1,HCK6.out.cells.2.2.2.1,HX16.out.cell 0 rfl,HX16.out.cell 1 rfl⟩;have HOG:Hid (some g≠(Value.slice V1 n1 cv1).ownBlock):=Lh HCK6.out.off;have HOL:Hid (∀q,(Value.slice V1 n1 cv1).ownBlock=some q→g+1≤q∧q<wx.heap.size):=Lh HCK6.out.ko.lt
 have HSP:Hid (∀W,KS (fun i=>some i≠(Value.slice V1 n1 cv1).ownBlock) wx W→W.cell? ⟨g,k*4+2,none⟩=some (.slice V1 n1 cv1)∧W.cell? ⟨g,k*4+3,none⟩=some (.slice V2 n2 n2)∧W.cell? ⟨w.heap.size+1,0,none⟩=some (.slice A1 a.length c1)∧W.cell? ⟨w.heap.size+1,1,none⟩=some (.slice B1 b.length d1)):=Lh (fun W hW=>by
  have e1:some (w.heap.size+1)≠(Value.slice V1 n1 cv1).ownBlock:=fun e=>by have:=(HOL.out _ e.symm).1;have:=HS6.out;omega
  exact⟨hW.kept.cell HOG.out hS0.1,hW.kept.cell HOG.out hS0.2.1,hW.kept.cell e1 hS0.2.2.1,hW.kept.cell e1 hS0.2.2.2⟩)
 refine tF 1 ⟨some 58,Op.move (.tmp 13),163,_,_,_⟩ ?_ rfl ?zq0 ?zq1;(case zq0=>intro wS;go_simp;(try with_reducible rfl));(all_goals try go_frame);refine tG 0 ⟨some 57,Op.move (.tmp 13),163,_,_,_⟩ ?_ rfl ?zq2 (hS0) ?zq3;(case zq2=>intro _ s;clear s;go_simp;(try with_reducible rfl));(all_goals try go_frame);refine tG 2 ⟨some 59,Op.move (.tmp 13),163,_,_,_⟩ ?_ rfl ?zq4 (hS0) ?zq5;(case zq4=>intro _ s;clear s;go_simp;(try with_reducible rfl));(all_goals try go_frame);refine tG 3 ⟨some 60,Op.nilCheck (.tmp 59),0,_,_,_⟩ ?_ rfl ?zq6 (hS0) ?zq7;(case zq6=>intro _ s;clear s;go_simp;(try with_reducible rfl));(all_goals try go_frame);refine tG 4 ⟨some 61,Op.fieldAddr 74 (.tmp 60) 2,0,_,_,_⟩ ?_ rfl ?zq8 (hS0) ?zq9;(case zq8=>intro _ s;clear s;go_simp;(try with_reducible rfl));(all_goals try go_frame);refine tG 5 ⟨some 62,Op.load 22 (.tmp 61),22,_,_,_⟩ ?_ rfl ?zq10 (hS0) ?zq11;(case zq10=>intro wS hSw;(have hq:=hSw.1);clear hSw;go_simp;(try with_reducible rfl));(all_goals try go_frame);refine tG 6 ⟨some 63,Op.move (.tmp 2),3,_,_,_⟩ ?_ rfl ?zq12 (hS0) ?zq13;(case zq12=>intro _ s;clear s;go_simp;(try with_reducible rfl));(all_goals try go_frame);refine tG 9 ⟨some 66,Op.move (.tmp 13),163,_,_,_⟩ ?_ rfl ?zq14 (hS0) ?zq15;(case zq14=>intro _ s;clear s;go_simp;(try with_reducible rfl));(all_goals try go_frame);refine tG 10 ⟨some 67,Op.nilCheck (.tmp 66),0,_,_,_⟩ ?_ rfl ?zq16 (hS0) ?zq17;(case zq16=>intro _ s;clear s;go_simp;(try with_reducible rfl));(all_goals try go_frame);refine tG 11 ⟨some 68,Op.fieldAddr 74 (.tmp 67) 3,0,_,_,_⟩ ?_ rfl ?zq18 (hS0) ?zq19;(case zq18=>intro _ s;clear s;go_simp;(try with_reducible rfl));(all_goals try go_frame);refine tG 12 ⟨some 69,Op.load 72 (.tmp 68),72,_,_,_⟩ ?_ rfl ?zq20 (hS0) ?zq21;(case zq20=>intro wS hSw;(have hq:=hSw.2.1);clear hSw;go_simp;(try with_reducible rfl));(all_goals try go_frame);refine tG 13 ⟨some 70,Op.load 36 (.tmp 7),36,_,_,_⟩ ?_ rfl ?zq22 (hS0) ?zq23;(case zq22=>intro wS hSw;(have hq:=hSw.2.2.1);(have hq2:=hSw.2.2.2);clear hSw;go_simp;(try with_reducible rfl));(all_goals try go_frame);refine tD 7 ⟨some 64,Op.buildSlice 22 1 #[(0,.tmp 63)],22,_,_,_⟩ rfl fun K hK=>?_
 go_simp;have HR7:Hid (Rep.R (wx.alloc (.cells #[.int .i64 version] 3)) (Up wx.heap.size) [.slice (some ⟨wx.heap.size,0,none⟩) 1 1] [version]):=Lh (rp_int (B:=wx.heap.size) nL HIV.out).2;have HK7:Hid (KS (fun i=>some i≠(Value.slice V1 n1 cv1).ownBlock) wx (wx.alloc (.cells #[.int .i64 version] 3))):=Lh (KS.alloc _);have HB7:Hid (Below wx.heap.size wx (wx.alloc (.cells #[.int .i64 version] 3))):=Lh (bR.alloc nL _);generalize wx.alloc (.cells #[.int .i64 version] 3)=w7 at*;refine hK _ _ (fun _=>?_) ?_
 ·exact(HSP.out _ HK7.out)
 clear hK K;(try go_frame);refine tD 8 ⟨some 65,Op.call {callee:=Callee.builtin Builtin.append,args:=#[Operand.tmp 62,Operand.tmp 64],argTypes:=#[22,22]},22,_,_,_⟩ rfl fun K hK=>?_
 refine wp_cat w7 (α:=Int) (.tmp 62) (.tmp 64) 22 rfl (g+1) 3 (.int .i64 0) 8 Tryz.underlying22 Qbf rfl (by decide) (.slice V1 n1 cv1) s5.vers rfl (HCK6.out.ko.below HB7.out) (some ⟨wx.heap.size,0,none⟩) 1 1 [version] rfl rfl (Up wx.heap.size) (by obtain⟨A,c,e,hs,-⟩:=HR7.out;cases e;exact hs) (fun i hi _ e=>by have:=(HOL.out i e.symm).2;have h9:wx.heap.size≤i:=hi;omega) (by rw[HN1.out];omega) (by rw[HN1.out];omega) (by have:=HB7.out.size;have:=HS6.out;omega) ?_;intro v8 w8 ho8 hg8 hat8;have HO8:=Lh ho8;have HK8:Hid (KS (fun i=>some i≠(Value.slice V1 n1 cv1).ownBlock) wx w8):=Lh (HK7.out.trans (KS.grown hg8 (fun i e h=>h e.symm)));have HB8:Hid (Below wb.heap.size wb w8):=Lh ((HB6.out.trans (HB7.out.mono HB6.out.size)).grown hg8 (by have:=HB6.out.size;have:=HB7.out.size;omega) (fun q hq=>by have:=(HOL.out q hq).1;have:=HS6.out;have:=HZ.out;omega));have HF8:Hid (∃A,∃c,v8=.slice A (n1+1) c):=Lh (by obtain⟨A,c,e,-⟩:=ho8.form;rw[qA,List.length_singleton,HN1.out] at e;exact⟨A,c,e⟩);clear ho8 hg8 hat8;obtain⟨A8,c8,hv8⟩:=HF8.out;subst hv8;clear HF8;refine hK _ _ (fun _=>?_) ?_
 ·exact(HSP.out _ HK8.out)
 clear hK K;(try go_frame);refine tD 14 ⟨some 71,Op.call {callee:=Callee.value (Operand.func 71),args:=#[Operand.tmp 70],argTypes:=#[36]},36,_,_,_⟩ rfl fun K hK=>?_
 go_simp;go_at_call 71;refine(HTX.out w8 HB8.out).mono ?_;rintro e w14 ⟨va,vb,rfl,hr1,hb1⟩;obtain⟨x,y,e2,hr2,hr3⟩:=id hr1;cases e2;obtain⟨A6,c6,e3,-⟩:=hr2;obtain⟨B6,d6,e4,-⟩:=hr3;cases e3;cases e4;have HR14:=Lh hr1;have HK14:Hid (KS (fun i=>some i≠(Value.slice V1 n1 cv1).ownBlock) wx w14):=Lh (HK8.out.trans (KS.of_below hb1 _));have HB14:=Lh hb1;clear hr1 hb1;go_simp;refine hK _ _ (fun _=>?_) ?_
 ·exact(HSP.out _ HK14.out)
 clear hK K;(try go_frame);refine tD 15 ⟨some 72,Op.buildSlice 72 1 #[(0,.tmp 71)],72,_,_,_⟩ rfl fun K hK=>?_
 go_simp;have HR15:Hid (Rep.R (w14.alloc (.cells #[.slice A6 a.length c6,.slice B6 b.length d6] 36)) (Up w8.heap.size) [.slice (some ⟨w14.heap.size,0,none⟩) 1 1] [(⟨a,b⟩:TextP)]):=Lh (rp_lit (B:=w8.heap.size) (cs:=[.slice A6 a.length c6,.slice B6 b.length d6]) HB14.out.size HR14.out).2;have HB15:Hid (Below w14.heap.size w14 (w14.alloc (.cells #[.slice A6 a.length c6,.slice B6 b.length d6] 36))):=Lh (bR.alloc nL _);have HK15:Hid (KS (fun i=>some i≠(Value.slice V1 n1 cv1).ownBlock) wx (w14.alloc (.cells #[.slice A6 a.length c6,.slice B6 b.length d6] 36))):=Lh (HK14.out.trans (KS.alloc _));generalize w14.alloc (.cells #[.slice A6 a.length c6,.slice B6 b.length d6] 36)=w15 at*;refine hK _ _ (fun _=>?_) ?_
 ·exact(HSP.out _ HK15.out)
 clear hK K;(try go_frame);refine tD 16 ⟨some 73,Op.call {callee:=Callee.builtin Builtin.append,args:=#[Operand.tmp 69,Operand.tmp 72],argTypes:=#[72,72]},72,_,_,_⟩ rfl fun K hK=>?_
 have HSd:Hid (Sl w15 (fun b=>b<w15.heap.size) V2 n2 (s5.texts.map (Av.mk:TextP→Av TextP (fun b=>g<b)))):=Lh (by
  obtain⟨A,c,e,hs,-⟩:=Rep.keep HCK6.out.kt (w':=w15) (fun i hi hl=>HK15.out.block i hi.2 hl)
  injection e with e
  cases e
  exact(hs.av (fun i hi _=>hi.1)).mono (fun i hi hl=>hl))
 have HNd:Hid (Sl w15 (fun b=>b<w15.heap.size) (some ⟨w14.heap.size,0,none⟩) 1 [(⟨⟨a,b⟩⟩:Av TextP (fun b=>g<b))]):=Lh (by
  obtain⟨A,c,e,hs,-⟩:=HR15.out
  cases e
  refine Sl.mono (Sl.av (α:=TextP) (P:=fun b=>g<b) hs (fun i hi _=>?_)) (fun i hi hl=>hl)
  have hi:w8.heap.size≤i:=hi
  have:=HS6.out
  have:=HK8.out.size
  show g<i
  omega)
 refine wp_fresh (α:=Av TextP (fun b=>g<b)) (.tmp 69) (.tmp 72) 72 rfl 36 (.agg #[.slice none 0 0,.slice none 0 0]) 48 Tryz.underlying72 QeS rfl (show 0<2 by decide) V2 n2 (s5.texts.map Av.mk) rfl (by rw[qM];exact HN2.out) HSd.out (some ⟨w14.heap.size,0,none⟩) 1 1 [⟨⟨a,b⟩⟩] rfl rfl HNd.out (by omega) (by omega) (by omega) ?_;intro v16 w16 ho16 hb16;have HF16:Hid (∃A,∃c,v16=.slice A (n2+1) c):=Lh (by obtain⟨A,c,e,-⟩:=ho16.form;rw[qA,List.length_singleton,qM,HN2.out] at e;exact⟨A,c,e⟩);have HO16:Hid (Rep.R w16 (fun b=>g<b) [v16] (s5.texts++[(⟨a,b⟩:TextP)])):=Lh ((show OwnP w16 w15.heap.size 36 v16 (s5.texts++[(⟨a,b⟩:TextP)]) (fun b=>g<b) from⟨by rw[List.map_append];exact ho16,fun q hq=>by have:=(ho16.lt q hq).1;have:=HS6.out;have:=HK15.out.size;show g<q;omega⟩).rep (by rw[qA,List.length_singleton,HN2.out];omega) (fun i hi _=>hi));have HK16:Hid (KS (fun i=>some i≠(Value.slice V1 n1 cv1).ownBlock) wx w16):=Lh (HK15.out.trans (KS.of_below hb16 _));have HB16:Hid (Below w8.heap.size w8 w16):=Lh ((HB14.out.trans (HB15.out.mono HB14.out.size)).trans (hb16.mono (by have:=HB14.out.size;have:=HB15.out.size;omega)));clear ho16 hb16;obtain⟨A16,c16,hv16⟩:=HF16.out;subst hv16;clear HF16 HSd HNd;have HCELL:Hid (w16.cell? ⟨g,k*4+2,none⟩=some (.slice V1 n1 cv1)∧w16.cell? ⟨g,k*4+3,none⟩=some (.slice V2 n2 n2)):=Lh ⟨(HSP.out _ HK16.out).1,(HSP.out _ HK16.out).2.1⟩
 have HFZ:Hid (∀o,w16.frozen? ⟨g,o,none⟩=false):=Lh (fun o=>by
  have h2:=HK16.out.block g HOG.out HCK6.out.glt
  have h3:w16.frozen? ⟨g,o,none⟩=wx.frozen? ⟨g,o,none⟩:=(by simp only[World.frozen?,h2])
  exact h3.trans (HCK6.out.cells.2.2.2.2 o))
 refine hK _ _ (fun _=>?_) ?_
 ·exact(HSP.out _ HK16.out)
 clear hK K;(try go_frame);refine tG 17 ⟨some 74,Op.nilCheck (.tmp 57),0,_,_,_⟩ ?_ rfl ?zq24 ((HSP.out _ HK16.out)) ?zq25;(case zq24=>intro _ s;clear s;go_simp;(try with_reducible rfl));(all_goals try go_frame);refine tG 18 ⟨some 75,Op.fieldAddr 74 (.tmp 74) 2,0,_,_,_⟩ ?_ rfl ?zq26 ((HSP.out _ HK16.out)) ?zq27;(case zq26=>intro _ s;clear s;go_simp;(try with_reducible rfl));(all_goals try go_frame);refine tD 19 ⟨none,Op.store 22 (.tmp 75) (.tmp 65),0,_,_,_⟩ rfl fun K hK=>?_
 have x2:=HCELL.out.1;have y2:=HFZ.out (k*4+2);go_simp;clear x2 y2;refine hK _ _ (fun h=>absurd h (by decide)) ?_;clear hK K;(try simp only[Act.put]);refine tF 20 ⟨some 76,Op.nilCheck (.tmp 58),0,_,_,_⟩ ?_ rfl ?zq28 ?zq29;(case zq28=>intro wS;go_simp;(try with_reducible rfl));(all_goals try go_frame);refine tF 21 ⟨some 77,Op.fieldAddr 74 (.tmp 76) 3,0,_,_,_⟩ ?_ rfl ?zq30 ?zq31;(case zq30=>intro wS;go_simp;(try with_reducible rfl));(all_goals try go_frame);refine tD 22 ⟨none,Op.store 72 (.tmp 77) (.tmp 73),0,_,_,_⟩ rfl fun K hK=>?_
 have x3:(w16.setCell ⟨g,k*4+2,none⟩ (.slice A8 (n1+1) c8)).cell? ⟨g,k*4+3,none⟩=some (.slice V2 n2 n2):=(World.cell?_setCell_other _ _ _ _ (by intro h;injection h with _ h;omega)).trans HCELL.out.2;have y3:(w16.setCell ⟨g,k*4+2,none⟩ (.slice A8 (n1+1) c8)).frozen? ⟨g,k*4+3,none⟩=false:=(World.frozen?_setCell _ _ _ _).trans (HFZ.out _);go_simp;clear x3 y3;refine hK _ _ (fun h=>absurd h (by decide)) ?_;clear hK K;(try simp only[Act.put]);refine Qae (by kernel_rfl) ?_ _;unfold Exit.then;obtain⟨hfin,hgf⟩:=HCK6.out.fin (W':=w16) (HK16.out.kept.mono (fun i hi=>hi.2)) (HO8.out.below HB16.out) HO16.out;have HSx:=HS6.out;have hqy:((w16.setCell ⟨g,k*4+2,none⟩ (.slice A8 (n1+1) c8)).setCell ⟨g,k*4+3,none⟩ (.slice A16 (n2+1) c16)).cell? ⟨g,k*4+2,none⟩=some (.slice A8 (n1+1) c8):=(World.cell?_setCell_other _ _ _ _ (by intro h;injection h with _ h;omega)).trans (World.cell?_setCell_same (w:=w16) (a:=⟨g,k*4+2,none⟩) _ HCELL.out.1);have hxo:ABox w16 ob 25 [.int .i64 m,.int .i64 h,.slice (some ⟨g,0,none⟩) l.length l.length]:=(HK16.out.block ob (fun e=>by have:=HNO5.out _ e.symm;omega) HX6.out.lt).trans HX6.out;have hx2:ABox w16 (w.heap.size+2) 25 [.int .i64 0,.int .i64 0,.slice none 0 0]:=(HK16.out.block (w.heap.size+2) (fun e=>by have:=(HOL.out _ e.symm).1;omega) HX26.out.lt).trans HX26.out;have hbf:Below wb.heap.size wb w16:=HB8.out.trans (HB16.out.mono HB8.out.size);generalize (w16.setCell ⟨g,k*4+2,none⟩ (.slice A8 (n1+1) c8)).setCell ⟨g,k*4+3,none⟩ (.slice A16 (n2+1) c16)=wy at*;have HXy:Hid (ABox wy ob 25 [.int .i64 m,.int .i64 h,.slice (some ⟨g,0,none⟩) l.length l.length]):=Lh ((hgf.block ob hxo.lt (fun e=>by injection e with e;omega)).trans hxo);have HX2y:Hid (ABox wy (w.heap.size+2) 25 [.int .i64 0,.int .i64 0,.slice none 0 0]):=Lh ((hgf.block _ hx2.lt (fun e=>by injection e with e;omega)).trans hx2);have HBy:Hid (Below wb.heap.size wb wy):=Lh (hbf.grown hgf hbf.size (fun q hq=>by cases hq;have:=HZ.out;omega));rw[HFI5.out.1,HFI5.out.2] at hfin;have HOy:=Lh hfin;clear hfin hgf hxo hx2 hbf hS0 HSP;clear HCK6 HB6 HX6 HX16 HX26 HK7 HK8 HK14 HK15 HK16 HO8 HO16 HR7 HR14 HR15 HB7 HB8 HB14 HB15 HB16 HCELL HFZ HOG HOL HTX;have hLl:(l.set k (QaO s version ⟨a,b⟩)).length=l.length:=List.length_set;obtain⟨L,hL⟩:∃L,l.set k (QaO s version ⟨a,b⟩)=L:=⟨_,rfl⟩;rw[hL] at HOy HSH HWF HPN hLl;have HL:=Lh hL;clear hL
 have HOK:Hid (BookOk wy m h (some ⟨g,0,none⟩) l.length L):=Lh ⟨HLA.out.to HBy.out,by
  obtain⟨A,c,e,hs⟩:=HOy.out.sl
  rw[hLl] at e
  cases e
  exact hs.mono (fun i _ hl=>hl),HSH.out,HWF.out,HI.out,HPN.out⟩
 have HFI:=Lh (bfits_any HOK.out);rw[hLl] at HFI;have k0:=HXy.out.cell 0 rfl;have k1:=HXy.out.cell 1 rfl;have k2:=HXy.out.cell 2 rfl;clear hLl HSH HWF HOK;obtain⟨np,hnp⟩:∃np,(Qak m h L).length=np:=⟨_,rfl⟩;rw[hnp] at HFI;have HNP:=Lh hnp;clear hnp HPN;have hn100:¬((n1+1:Nat):Int)>100:=by omega
 by_cases hn:16384<np
 ·have hfv:∀v,fitsV m h v np=.tuple #[.agg #[.int .i64 0,.int .i64 0,.slice none 0 0],.int .i64 2]:=fun v=>by unfold fitsV;rw[if_pos hn]
  have HFV:=Lh hfv;rw[hfv] at HFI;clear hfv hn
  go_wp2_with (first
   |(go_at_call 106;refine HFI.out.mono ?_;rintro e w7 ⟨rfl,hb7⟩;have HB7:=Lh hb7;have HX27:=Lh (HX2y.out.to hb7);clear hb7 k0 k1 k2;have k0:=HX27.out.cell 0 rfl;have k1:=HX27.out.cell 1 rfl;have k2:=HX27.out.cell 2 rfl;have f0:=HX27.out.fz 0;have f1:=HX27.out.fz 1;have f2:=HX27.out.fz 2)
   |fail)
  have hn1:∀i,Up g i→i≠w.heap.size+2:=fun i (hi:g≤i)=>by have:=HS6.out;omega
  exact bodyPost_ret (v:=.tuple #[.agg #[.int .i64 0,.int .i64 0,.slice none 0 0],.int .i64 2]) (QaK Tryz.results49 _ _ (w.heap.size+2) _ #[.int .i64 0,.int .i64 0,.slice none 0 0] (0,0) _ rfl (abox3 HX27.out _ _ _) Tryz.underlying25 rfl (by kernel_rfl)) rfl ⟨.slice (some ⟨g,0,none⟩) l.length l.length,by rw[HL.out,HNP.out,HFV.out],by rw[HL.out];exact up_own ((((HOy.out.below HB7.out).set (w.heap.size+2) 0 _ hn1).set (w.heap.size+2) 1 _ hn1).set (w.heap.size+2) 2 _ hn1) (by omega),below3 ((HB.out.trans (HBy.out.mono HB.out.size)).trans (HB7.out.mono (by have:=HB.out.size;have:=HBy.out.size;omega))) (by omega) _ _ _⟩
 ·have hfv:∀v,fitsV m h v np=.tuple #[.agg #[.int .i64 m,.int .i64 h,v],.int .i64 0]:=fun v=>by unfold fitsV;rw[if_neg hn]
  have HFV:=Lh hfv;rw[hfv] at HFI;clear hfv hn
  go_wp2_with (first
   |(go_at_call 106;refine HFI.out.mono ?_;rintro e w7 ⟨rfl,hb7⟩;have HB7:=Lh hb7;have HX27:=Lh (HX2y.out.to hb7);clear hb7 k0 k1 k2;have k0:=HX27.out.cell 0 rfl;have k1:=HX27.out.cell 1 rfl;have k2:=HX27.out.cell 2 rfl;have f0:=HX27.out.fz 0;have f1:=HX27.out.fz 1;have f2:=HX27.out.fz 2)
   |fail)
  have hn1:∀i,Up g i→i≠w.heap.size+2:=fun i (hi:g≤i)=>by have:=HS6.out;omega
  exact bodyPost_ret (v:=.tuple #[.agg #[.int .i64 m,.int .i64 h,.slice (some ⟨g,0,none⟩) l.length l.length],.int .i64 0]) (QaK Tryz.results49 _ _ (w.heap.size+2) _ #[.int .i64 m,.int .i64 h,.slice (some ⟨g,0,none⟩) l.length l.length] (0,0) _ rfl (abox3 HX27.out _ _ _) Tryz.underlying25 rfl (by kernel_rfl)) rfl ⟨.slice (some ⟨g,0,none⟩) l.length l.length,by rw[HL.out,HNP.out,HFV.out],by rw[HL.out];exact up_own ((((HOy.out.below HB7.out).set (w.heap.size+2) 0 _ hn1).set (w.heap.size+2) 1 _ hn1).set (w.heap.size+2) 2 _ hn1) (by omega),below3 ((HB.out.trans (HBy.out.mono HB.out.size)).trans (HB7.out.mono (by have:=HB.out.size;have:=HBy.out.size;omega))) (by omega) _ _ _⟩
end Go.Proofs.YtegaapiocihcpaaGreatDoor
namespace Go.Proofs.YtegaapiocihcpaaGreatDoor
open Go.RowKit Go.Shelf
end Go.Proofs.YtegaapiocihcpaaGreatDoor
namespace Go.Proofs.YtegaapiocihcpaaGreatDoor
open Go.RowKit Go.Shelf
attribute [local go_sem] Oper.semAt_some
structure WI (n:Nat)(w:World)(en ve wd rn rs ri:Int)(rb:Bool)(W:World):Prop where
 x1:ABox W (n+1) 3 [.int .i64 en]
 x2:ABox W (n+1+1) 3 [.int .i64 ve]
 x3:ABox W (n+1+1+1) 3 [.int .i64 wd]
 x4:ABox W (n+1+1+1+1) 40 [.int .i64 rn,.int .i64 rs]
 x5:ABox W (n+1+1+1+1+1) 3 [.int .i64 ri]
 x6:ABox W (n+1+1+1+1+1+1) 4 [.bool rb]
 bl:Below n w W
section
variable {n:Nat} {w:World} {en ve wd rn rs ri:Int} {rb:Bool} {W W':World}
end
end Go.Proofs.YtegaapiocihcpaaGreatDoor
namespace Go.Proofs.YtegaapiocihcpaaGreatDoor
open Go.RowKit
theorem Qbx {P:Program}{fn:Func}{p:Tmp}{ty:TypeId}(h:fn.results=#[.cell p ty])(tmps:Array Value)(w:World)(g:Nat)(t:TypeId)(cs:List Value)(d:TypeDesc) (hp:tmps.getD p undef=.pointer (some ⟨g,0,none⟩)) (hg:ABox w g t cs) (hu:P.underlying ty=some d) (hd:(match d with|.struct _|.array _ _=>true|_=>false)=true) (hi:(P.info? ty).map (·.size)=some cs.length):
 (results fn tmps).run P w=.ok (.agg cs.toArray) w:=by
 have hp':tmps[p]?.getD undef=.pointer (some ⟨g,0,none⟩):=by simpa using hp
 have hi':(P.info? ty).map (·.size)=some cs.toArray.size:=by simpa using hi
 simp[results,h,hp',asAddr,run_loadVar_row w g t ty cs.toArray (0,0) d hg hu hd hi']
theorem word_infoW:(Tryz.prog.info? 66).map (fun i=>(i.zero,i.size,i.bytes))=some (some (.agg #[.string ⟨#[]⟩,.string ⟨#[]⟩,.int .i64 0,.int .i64 0]),Rep.size Word,48):=by kernel_rfl
instance (l:List PageP):Decidable (LabOk l):=by unfold LabOk;infer_instance
structure SM (w:World)(A:Option Addr)(c:Nat)(l:List SectP):Prop where
 t:Tabs w
 s:Sl w (fun b=>b<w.heap.size) A c l
def ExOk (l:List SectP):Prop:=QbX l∧WfS l∧(Qak 500 4 l).length≤100
instance (l:List (List Word)):Decidable (QbP l):=by unfold QbP;infer_instance
instance (s:SectP):Decidable (ShortX s):=by unfold ShortX;infer_instance
instance (l:List SectP):Decidable (QbX l):=by unfold QbX;infer_instance
instance (l:List SectP):Decidable (WfS l):=by unfold WfS;infer_instance
instance (l:List SectP):Decidable (ExOk l):=by unfold ExOk;infer_instance
def vocab:List ByteArray:=[⟨#[97]⟩,⟨#[116,104,101]⟩,⟨#[99,111,117,114,116]⟩,⟨#[119,105,108,108]⟩,⟨#[104,101,97,114]⟩,⟨#[109,111,116,105,111,110]⟩,⟨#[111,102]⟩,⟨#[112,108,97,105,110,116,105,102,102]⟩,⟨#[77,46,73,46,84,46]⟩,⟨#[82,117,108,101]⟩,⟨#[49,50,40,98,41]⟩,⟨#[100,105,115,109,105,115,115,101,100]⟩,⟨#[119,105,116,104]⟩,⟨#[112,114,101,106,117,100,105,99,101]⟩,⟨#[97,110,100]⟩,⟨#[99,111,115,116,115]⟩,⟨#[87,87,87,64,87]⟩,⟨#[105,116]⟩,⟨#[105,115]⟩,⟨#[115,111]⟩,⟨#[111,114,100,101,114,101,100,46]⟩,⟨#[97,98,99,100,101,102,103,104,105,106,107,108,109,110,111,112,113,114,115,116,117,118,119,120,121,122,97,98,99,100,101,102,103,104,105,106,107,108,109,110]⟩]
def keysV:List ByteArray:=[⟨#[99,111,115,116,115]⟩,⟨#[109,111,116,105,111,110]⟩,⟨#[82,117,108,101]⟩,⟨#[115,109,105,116,104]⟩]
def Good (x:Word):Prop:=QbS x.s=true∧(x.key=⟨#[]⟩∨QbS x.key=true)∧(x.t=0∨x.t=1)
theorem vocab_good:vocab.all QbS=true:=by decide +kernel
theorem keysV_good:keysV.all QbS=true:=by decide +kernel
theorem lits_at {l:List ByteArray}(hl:l.all QbS=true)(j:Nat)(hj:j<l.length):∃s,(l.map Value.string)[j]? =some (.string s)∧QbS s=true:=
 ⟨l[j],by simp[hj],(List.all_eq_true.1 hl) _ (List.getElem_mem hj)⟩
set_option maxRecDepth 100000 in
theorem one_any (n:Nat)(hn:n≤16777216)(w:World):
 Calls Tryz.prog 131 #[.int .i64 (n:Int)] w fun e w'=>∃x:Word,e=.returned x.val∧Good x∧x.n=0∧Below w.heap.size w w':=by
 have hb:(n:Int)≤16777216:=by omega
 have h0:0≤(n:Int):=by omega
 obtain⟨s,c0,hs⟩:=lits_at vocab_good (n%22) (Nat.mod_lt _ (by decide));simp only[vocab,List.map_cons,List.map_nil] at c0;have HS:=Lh hs;clear hs;go_enter Tryz.func131,Tryz.ntmps131;by_cases hk:n/22%6=0
 ·obtain⟨key,k0,hkey⟩:=lits_at keysV_good (n/132%4) (Nat.mod_lt _ (by decide));simp only[keysV,List.map_cons,List.map_nil] at k0;have hk':(n:Int)/22%6=0:=(by omega);have HK:=Lh hkey;clear hk hkey;go_wp2_with fail;refine bodyPost_ret (v:=.agg #[.string s,.string key,.int .i64 (↑n/528%2),.int .i64 0]) (by simp[results,Tryz.results131,go_sem]) rfl ⟨⟨s,key,(n:Int)/528%2,0⟩,rfl,⟨HS.out,.inr HK.out,?_⟩,rfl,?_⟩
  ·show(n:Int)/528%2=0∨(n:Int)/528%2=1;omega
  ·exact((((bR.alloc nL _).alloc (by simp) _).alloc (by simp;omega) _).alloc (by simp;omega) _)
 ·have hk':¬(n:Int)/22%6=0:=by omega
  clear hk;go_wp2_with fail;refine bodyPost_ret (v:=.agg #[.string s,.string ⟨#[]⟩,.int .i64 0,.int .i64 0]) (by simp[results,Tryz.results131,go_sem]) rfl ⟨⟨s,⟨#[]⟩,0,0⟩,rfl,⟨HS.out,.inl rfl,.inl rfl⟩,rfl,?_⟩;exact(((bR.alloc nL _).alloc (by simp) _).alloc (by simp;omega) _)
theorem valid_size {s:ByteArray}(h:QbS s=true):s.size≤40:=by
 unfold QbS at h;rw[Bool.and_eq_true,decide_eq_true_iff] at h;exact h.1.2
theorem good_ok {x:Word}(h:Good x)(h0:x.n=0):x.ok:=by
 have h1:=valid_size h.1;refine⟨by unfold maxLen;omega,?_,?_,by rw[h0];exact⟨by decide,by decide⟩⟩
 ·rcases h.2.1 with e|e
  ·rw[e];decide
  ·have:=valid_size e;unfold maxLen;omega
 ·rcases h.2.2 with e|e<;>rw[e]<;>exact⟨by decide,by decide⟩
theorem word_info:(Tryz.prog.info? 66).map (fun i=>(i.zero,i.size,i.bytes))=some (some (.agg #[.string ⟨#[]⟩,.string ⟨#[]⟩,.int .i64 0,.int .i64 0]),Rep.size Word,48):=by kernel_rfl
theorem part_any (n most:Nat)(hn:n≤1000000)(hm:1≤most)(hm2:most≤1000)(w:World):
 Calls Tryz.prog 78 #[.int .i64 (n:Int),.int .i64 (most:Int)] w fun e w'=>∃v,e=.returned v∧∃l:List Word,Own w' w.heap.size 66 v l∧l.length=1+n%most∧(∀x∈l,Good x∧x.n=0)∧Below w.heap.size w w':=by
 have h1:(n:Int)≤1000000:=by omega
 have h0:0≤(n:Int):=by omega
 have h2:(most:Int)≤1000:=by omega
 have h3:1≤(most:Int):=by omega
 have h4:(most:Int)≠0:=by omega
 go_enter Tryz.func78,Tryz.ntmps78;go_wp2_with fail;obtain⟨z0,hz0⟩:∃z,z=bits BinOp.or IntKind.u32 (↑n) 1:=⟨_,rfl⟩;have hz1:0≤z0:=by rw[hz0];exact bits_lo_u32 ..
 have hz2:z0≤4294967295:=by rw[hz0];exact bits_hi_u32 ..
 rw[←hz0];clear hz0;have hq:(n:Int)%(most:Int)=((n%most:Nat):Int):=by omega
 have hql:n%most<most:=Nat.mod_lt _ hm;obtain⟨q,hqe⟩:∃q,q=n%most:=⟨_,rfl⟩;rw[←hqe] at hq hql;have HQ2:=Lh hqe;clear hqe;have HQ:=Lh hq;have hq2:((n:Int)%(most:Int))<1000:=by omega
 have hq3:0≤((n:Int)%(most:Int)):=by omega
 clear hq;go_loopw [5,6,7] (fun x v i wr=>∃k:Nat,k≤1+q∧i=.int .i64 k∧(∃z:Int,x=.int .u32 z∧0≤z∧z≤4294967295)∧(∃l:List Word,Own wr w.heap.size 66 v l∧l.length=k∧(∀x∈l,Good x∧x.n=0))∧Below w.heap.size w wr) (fun _ _ i _=>1+q-(intOf i).toNat);(case atStart=>exact⟨0,Nat.zero_le _,rfl,⟨z0,rfl,hz1,hz2⟩,⟨[],Own.nil _ _ _,rfl,fun _ h=>(by cases h)⟩,Below.refl _ _⟩);case round=>
  obtain⟨k,hk,rfl,⟨z,rfl,hz3,hz4⟩,⟨l,hown,hlen,hgood⟩,hb⟩:=hrel;have Hb:=Lh hb;have hzw:=hb.size;have HL:=Lh hlen;have HG:=Lh hgood;clear hb hlen hgood;obtain⟨A2,c2,rfl,_⟩:=hown.sl;by_cases hlt:k<1+q
  ·have hkl:(k:Int)<1+((n:Int)%(most:Int)):=by rw[HQ.out];omega
   have hk0:(0:Int)≤(k:Int):=(by omega);have hk1:(k:Int)≤1000:=(by omega);go_wp2_with fail;obtain⟨y,hy,hy2⟩:∃y:Nat,(z*1664525+1013904223)%4294967296/256=(y:Int)∧y≤16777216:=⟨((z*1664525+1013904223)%4294967296/256).toNat,by omega,by omega⟩;rw[hy];clear hy;refine(one_any y hy2 _).mono ?_;rintro e w4 ⟨x,rfl,hgx,hx0,hb4⟩;have hown4:=hown.below hb4;have Hb4:=Lh (Hb.out.trans (hb4.mono hzw));have hz4:=hb4.size;have HX:=Lh hgx;have HX0:=Lh hx0;have HOK:=Lh (good_ok hgx hx0);have hll:l.length≤1000:=(by have:=HL.out;omega);clear hb4 hgx hx0;unfold Word.val;go_wp2_with (at_builtin;refine Qav (α:=Word) _ rfl (.tmp 22) (.tmp 27) 110 rfl w.heap.size 66 (.agg #[.string ⟨#[]⟩,.string ⟨#[]⟩,.int .i64 0,.int .i64 0]) 48 Tryz.underlying110 word_info rfl (by decide) _ l rfl (hown4.alloc _) w4.heap.size _ x (0,0) 66 rfl (heap_alloc_new w4 _) ⟨rfl,HOK.out⟩ (by omega) (by omega) (by first|omega|(simp;done)|(simp;omega)) _ rfl ?_;intro g cap w5 hown5 hg5 hat5 hlt5);go_roundw;(case rel=>exact⟨k+1,by omega,by go_num,⟨_,rfl,by omega,by omega⟩,⟨_,hown5,by simp[HL.out],fun y hy=>(by rcases List.mem_append.1 hy with h|h;exact HG.out y h;rw[List.mem_singleton] at h;subst h;exact⟨HX.out,HX0.out⟩)⟩,QbN Hb4.out hown4 (by omega) hg5⟩);case measure=>simp[intOf];omega
  ·have hkl:¬(k:Int)<1+((n:Int)%(most:Int)):=by rw[HQ.out];omega
   go_wp2_with fail;go_ret;exact⟨_,rfl,l,hown,by rw[HL.out,←HQ2.out];omega,HG.out,Hb.out⟩
instance:Rep ByteArray where
 size:=1
 R _ _ cs s:=cs=[.string s]∧s.size≤maxLen
 len:=by rintro w S cs s ⟨rfl,_⟩;rfl
 one:=by rintro w S cs s ⟨rfl,_⟩ u hu;simp at hu;rcases hu with rfl;rfl
 keep:=by rintro w w' S cs s h _;exact h
 mono:=by rintro w S S' cs s h _;exact h
theorem Qd2:(Tryz.prog.info? 9).map (fun i=>(i.zero,i.size,i.bytes))=some (some (.string ⟨#[]⟩),Rep.size ByteArray,16):=by kernel_rfl
def aro (n m:Int):Int:=(if n<0 then -(n+1) else n)%m
theorem aro_lt (n m:Int)(h:1≤m):0≤aro n m∧aro n m<m:=⟨Int.emod_nonneg _ (by omega),Int.emod_lt_of_pos _ (by omega)⟩
theorem around_any (n m:Int)(w:World)(hn:I64 n)(hm:1≤m)(hm2:m≤9223372036854775807):
 Calls Tryz.prog 39 #[.int .i64 n,.int .i64 m] w fun e w'=>e=.returned (.int .i64 (aro n m))∧w=w':=by
 obtain⟨h0,h1⟩:=hn;go_enter Tryz.func39,Tryz.ntmps39;by_cases h:n<0
 ·have e:aro n m=(-(n+1))%m:=by unfold aro;rw[if_pos h]
  have E:=Lh e;clear e;have hp:0≤ -(n+1):=(by omega);go_wp2;go_ret;refine⟨Qas ?_,rfl⟩;rw[E.out];rw[←Int.neg_tmod,Int.tmod_eq_emod_of_nonneg hp]
 ·have e:aro n m=n%m:=by unfold aro;rw[if_neg h]
  have E:=Lh e;clear e;go_wp2;go_ret;exact⟨Qas (by rw[E.out]),rfl⟩
theorem Qbs (A:Option Addr)(c:Nat)(l:List Int)(i:Int)(m:Int)(w:World)(hl:Sl w (fun b=>b<w.heap.size) A c l)(hm:1≤m)(hm2:m≤1000000)(hi0:0≤i):
 Calls Tryz.prog 77 #[.slice A l.length c,.int .i64 i,.int .i64 m] w fun e w'=>∃r:Nat,e=.returned (.int .i64 (r:Int))∧(r:Int)<m∧w=w':=by
 obtain⟨i,rfl⟩:=Int.eq_ofNat_of_zero_le hi0;clear hi0;have hlen:l.length≤9223372036854775807:=by have:=hl.1;have:=hl.2.1;unfold maxLen at this;omega
 have h0:¬(i:Int)<0:=by omega
 by_cases hi:i<l.length
 ·obtain⟨b,o,rfl,_,hbl,hx,hc⟩:=Qcf hl hi;obtain⟨a0,a1⟩:=aro_lt l[i] m hm;generalize l[i]=x at*;have Hx:=Lh hx;have hi1:¬(l.length:Int)≤(i:Int):=(by omega);have hi2:(i:Int)<(l.length:Int):=(by omega);have hi0:0≤(i:Int):=(by omega);clear hx hl hi;go_enter Tryz.func77,Tryz.ntmps77;go_wp2_with fail;refine(around_any x m _ Hx.out hm (by omega)).mono ?_;rintro e w' ⟨rfl,rfl⟩;generalize aro x m=r at*;go_wp2_with fail;go_ret;exact⟨r.toNat,Qas (by omega),by omega,rfl⟩
 ·have hi1:(l.length:Int)≤(i:Int):=by omega
  clear hl hi;go_enter Tryz.func77,Tryz.ntmps77;go_wp2_with fail;go_ret;exact⟨0,rfl,by omega,rfl⟩
def QdU (l:List Word):Prop:=∀x∈l,x.n=0
theorem last_any (A:Option Addr)(c:Nat)(l:List (List Word))(n:Nat)(w:World)(hl:Sl w (fun b=>b<w.heap.size) A c l)(hn:n≤1000000):
 Calls Tryz.prog 80 #[.slice A l.length c,.int .i64 (n:Int)] w fun e w'=>∃b:Bool,e=.returned (.bool b)∧(b=false→∀p∈l.drop (n+1),QdU p)∧w=w':=by
 have hlen:l.length≤9223372036854775807:=by have:=hl.1;have:=hl.2.1;unfold maxLen at this;omega
 have h1:(n:Int)≤1000000:=by omega
 have h0:0≤(n:Int):=by omega
 have Hl:=Lh hl;clear hl;go_enter Tryz.func80,Tryz.ntmps80;go_wp2_with fail;go_loopw [5,6] (fun i _ wr=>∃k:Nat,n+1≤k∧(k≤l.length∨k=n+1)∧i=.int .i64 k∧Hid (∀j (hj:j<l.length),n+1≤j→j<k→QdU l[j])∧wr=w) (fun i _ _=>l.length-(intOf i).toNat);(case atStart=>exact⟨n+1,Nat.le_refl _,.inr rfl,by go_num,(fun j hj h1 h2=>absurd h1 (by omega)),rfl⟩);case round=>
  obtain⟨k,hk,hk2,rfl,hno,rfl⟩:=hrel;by_cases hlt:k<l.length
  ·obtain⟨b,o,Ap,cp,rfl,_,hbl,hc,hp⟩:=Qb8 Hl.out hlt;have hkl:(k:Int)<(l.length:Int):=(by omega);have hk0:(0:Int)≤(k:Int):=(by omega);have HT:=Lh (fun(h:QdU l[k]) j (hj:j<l.length) (h1:n+1≤j) (h2:j<k+1)=>(by by_cases e:j=k;subst e;exact h;exact hno.out j hj h1 (by omega):QdU l[j]));have h2:l[k].length≤9223372036854775807:=(by have:=hp.1;have:=hp.2.1;unfold maxLen at this;omega);generalize l[k]=p at*;have Hp:=Lh hp;have hk3:(k:Int)≤9223372036854775806:=(by omega);clear hp hk2 hno;go_wp2_with fail;obtain⟨wo,rfl⟩:∃wo:World,wo=wr:=⟨_,rfl⟩;go_loopw [6] (fun i wr=>∃j:Nat,j≤p.length∧i=.int .i64 j∧Hid (∀i (hi:i<p.length),i<j→p[i].n=0)∧wr=wo) (fun i _=>p.length-(intOf i).toNat);(case atStart=>exact⟨0,Nat.zero_le _,rfl,(fun i hi h=>absurd h (by omega)),rfl⟩);case round=>
    obtain⟨j,hj,rfl,hno2,rfl⟩:=hrel;by_cases hjl:j<p.length
    ·obtain⟨b3,o3,rfl,_,hbl3,hok,d0,d1,d2,d3⟩:=Qdt Hp.out hjl;have hj1:(j:Int)<(p.length:Int):=(by omega);have hj0:(0:Int)≤(j:Int):=(by omega);have HT2:=Lh (fun(h:p[j].n=0) i (hi:i<p.length) (h2:i<j+1)=>(by by_cases e:i=j;subst e;exact h;exact hno2.out i hi (by omega):p[i].n=0));have hr:=hok.2.2.2;generalize p[j]=x at*;clear hok d0 d1 d2;by_cases hx:x.n=0
     ·have E:=Lh (HT2.out hx);rw[hx] at d3;clear hx HT2 hno2;go_wp2_with fail;go_roundw;(case rel=>exact⟨j+1,by omega,by go_num,E.out,by first|trivial|rfl⟩);case measure=>simp[intOf];omega
     ·have hB:(x.n==0)=false:=beq_eq_false_iff_ne.2 hx;clear hx HT2 hno2;go_wp2_with fail;go_ret;exact⟨true,rfl,fun h=>(by cases h),rfl⟩
    ·have E:=Lh (HT.out (fun x hx=>by obtain⟨i,hi,rfl⟩:=List.getElem_of_mem hx;exact hno2.out i hi (by omega)));clear HT hno2;go_wp2_with fail;go_roundw;(case rel=>exact⟨k+1,by omega,by omega,by go_num,E.out,by first|trivial|rfl⟩);case measure=>simp[intOf];omega
  ·have E:=Lh (fun p (hp:p∈l.drop (n+1))=>(by
    obtain⟨i,hi,rfl⟩:=List.getElem_of_mem hp
    rw[List.length_drop] at hi
    rw[List.getElem_drop]
    exact hno.out (n+1+i) (by omega) (by omega) (by omega):QdU p))
   clear hno;go_wp2_with fail;go_ret;exact⟨false,rfl,fun _=>E.out,rfl⟩
def Qa5 (x:Word)(m:Int):Word:=⟨x.s,x.key,x.t,m⟩
def Qd5 (p:List Word)(m:Int)(b:Bool)(q:List Word):Prop:=
 (b=false∧q=p)∨(b=true∧∃i,∃h:i<p.length,(∀j (hj:j<p.length),i≤j→p[j].n=0)∧q=p.set i (Qa5 p[i] m))
def RefP (g cap:Nat)(l:List Word)(m:Int)(later:Bool)(w:World)(e:Ending)(w':World):Prop:=
 ∃b:Bool,e=.returned (.bool b)∧∃q,Qd5 l m b q∧(b=true→later=false)∧q.length=l.length∧Own w' 0 66 (.slice (some ⟨g,0,none⟩) l.length cap) q∧w.grownBy w' (some g)
theorem refer_any (g cap:Nat)(l:List Word)(n:Nat)(m:Int)(later:Bool)(w:World)(hown:Own w 0 66 (.slice (some ⟨g,0,none⟩) l.length cap) l)(hn:n≤1000000)(hm0:0≤m)(hm:m≤1000)(hlen:l.length≤1000):
 Calls Tryz.prog 79 #[.slice (some ⟨g,0,none⟩) l.length cap,.int .i64 (n:Int),.int .i64 m,.bool later] w (RefP g cap l m later w):=by
 have h1:(n:Int)≤1000000:=by omega
 have h0:0≤(n:Int):=by omega
 have h2:(l.length:Int)≤1000:=by omega
 obtain⟨A,c,e1,hs⟩:=hown.sl;obtain⟨rfl,_,rfl⟩:=Value.slice.inj e1;have Hs:=Lh hs;have HO:=Lh hown;clear e1 hs hown;go_enter Tryz.func79,Tryz.ntmps79;go_wp2_with fail;go_loopw [9,10] (fun f i wr=>∃k:Nat,k≤l.length∧i=.int .i64 k∧(∃q:Nat,f=.int .i64 (q:Int)∧q≤k∧Hid (∀j (hj:j<l.length),q≤j→j<k→l[j].n=0))∧wr=w) (fun _ i _=>l.length-(intOf i).toNat);(case atStart=>exact⟨0,Nat.zero_le _,rfl,⟨0,rfl,Nat.le_refl _,(fun j hj h1 h2=>absurd h2 (by omega))⟩,rfl⟩);case round=>
  obtain⟨k,hk,rfl,⟨q,rfl,hqk,hno⟩,rfl⟩:=hrel;by_cases hlt:k<l.length
  ·obtain⟨b3,o3,e3,_,hbl3,hok,d0,d1,d2,d3⟩:=Qdt Hs.out hlt;obtain⟨rfl,rfl⟩:b3=g∧o3=0:=by simpa using e3.symm
   simp only[Nat.zero_add] at d3;have hkl:(k:Int)<(l.length:Int):=(by omega);have hk0:(0:Int)≤(k:Int):=(by omega);have HT:=Lh (fun(h:l[k].n=0) j (hj:j<l.length) (h1:q≤j) (h2:j<k+1)=>(by by_cases e:j=k;subst e;exact h;exact hno.out j hj h1 (by omega):l[j].n=0));have hr:=hok.2.2.2;generalize l[k]=x at*;clear hok d0 d1 d2 e3;by_cases hx:x.n=0
   ·have E:=Lh (HT.out hx);rw[hx] at d3;clear hx HT hno;go_wp2_with fail;go_roundw;(case rel=>exact⟨k+1,by omega,by go_num,⟨q,rfl,by omega,E.out⟩,by first|trivial|rfl⟩);case measure=>simp[intOf];omega
   ·have hB:(x.n==0)=false:=beq_eq_false_iff_ne.2 hx;clear hx HT hno;go_wp2_with fail;go_roundw;(case rel=>exact⟨k+1,by omega,by go_num,⟨k+1,by go_num,by omega,(fun j hj h1 h2=>absurd h2 (by omega))⟩,by first|trivial|rfl⟩);case measure=>simp[intOf];omega
  ·obtain rfl:k=l.length:=by omega
   have hno2:=Lh (fun j (hj:j<l.length) (h1:q≤j)=>hno.out j hj h1 hj);clear hno;cases later with
   |true=>
    go_wp2_with fail;go_ret;exact⟨false,rfl,l,.inl ⟨rfl,rfl⟩,fun h=>(by cases h),rfl,HO.out,World.grownBy.refl _ _⟩
   |false=>
    by_cases hq:q<l.length
    ·have hq1:(q:Int)<(l.length:Int):=by omega
     have hq0:(0:Int)≤(q:Int):=(by omega);have hmod:n%(l.length-q)<l.length-q:=Nat.mod_lt _ (by omega);have hmi:(n:Int)%((l.length:Int)-(q:Int))=((n%(l.length-q):Nat):Int):=by
      rw[Int.natCast_emod];congr 1;omega
     generalize n%(l.length-q)=r at*;obtain⟨g',cap',es,e4,_,hg,_,hr4,hcell,hfz⟩:=HO.out.at_ (show q+r<l.length by omega);obtain⟨re,hok⟩:=hr4;subst re;have c3:=hcell 3 _ rfl;rw[show Rep.size Word=4 from rfl] at c3;obtain⟨rfl,_⟩:g'=g∧cap'=cap:=by
      have:=Value.slice.inj e4;simp at this;exact⟨this.1.symm,this.2.symm⟩
     have HH:=Lh (HO.out.setf (q+r) 3 (show q+r<l.length by omega) (by decide) (.int .i64 m) rfl (Qa5 l[q+r] m) (fun S es h=>by
      obtain⟨h1,h2⟩:=h
      subst h1
      exact⟨rfl,h2.1,h2.2.1,h2.2.2.1,⟨by show -9223372036854775808≤m;omega,by show m≤9223372036854775807;omega⟩⟩) (o:=(q+r)*4+3) rfl)
     have HR:Hid (Qd5 l m true (l.set (q+r) (Qa5 l[q+r] m))):=.inr ⟨rfl,q+r,by omega,fun j hj h=>hno2.out j hj (by omega),rfl⟩;have hk1:(q:Int)+(r:Int)<(l.length:Int):=(by omega);have hk0:0≤(q:Int)+(r:Int):=(by omega);generalize l[q+r].n=old at*;have HL:Hid ((l.set (q+r) (Qa5 l[q+r] m)).length=l.length):=Lh (by simp);generalize l.set (q+r) _=l' at*;clear hok hcell e4;go_wp2_with fail;go_ret;exact⟨true,rfl,_,HR.out,fun _=>rfl,HL.out,HH.out.1,HH.out.2⟩
    ·have hq1:¬(q:Int)<(l.length:Int):=by omega
     go_wp2_with fail;go_ret;exact⟨false,rfl,l,.inl ⟨rfl,rfl⟩,fun h=>(by cases h),rfl,HO.out,World.grownBy.refl _ _⟩
theorem raw_info:(Tryz.prog.info? 110).map (fun i=>(i.zero,i.size,i.bytes))=some (some (.slice none 0 0),Rep.size Raw,24):=by kernel_rfl
def Fresh (m:Nat)(p:List Word):Prop:=1≤p.length∧p.length≤m∧∀x∈p,Good x∧x.n=0
theorem Own.fit {α:Type}[Rep α]{w w':World}{base:Nat}{e:TypeId}{v:Value}{l:List α}(h:Own w' base e v l)(hb:base=w.heap.size):∀g,v.ownBlock=some g→w.heap.size≤g:=fun g hg=>hb▸(h.lt g hg).1
structure St1 (w wr:World)(Y:Nat)(k:Nat)(v:Value)(us:List Raw)(ls:List (List Word)):Prop where
 y:TBox wr Y v (.slice none 0 0)
 x:TBox wr w.heap.size (.slice none 0 0) (.slice none 0 0)
 n:Nest wr (fun g=>Y<g) 110 66 v us ls
 l:ls.length=k
 f:∀p∈ls,Fresh 40 p
 b:Below w.heap.size w wr
theorem St1.push {w wr w4 w5:World}{Y k:Nat}{v v':Value}{us:List Raw}{ls:List (List Word)}{u:Raw}{p:List Word}{o:Obj}(h:St1 w wr Y k v us ls)(hY:w.heap.size<Y)(hb4:Below wr.heap.size wr w4)(hu:Own w4 wr.heap.size 66 u.v p)(hp:Fresh 40 p) (hown:Own w5 0 110 v' (us++[u])) (hg:(w4.alloc o).grownBy w5 v.ownBlock) (hat:v'.ownBlock=v.ownBlock∨v'.ownBlock=some (w4.alloc o).heap.size):
 St1 w (w5.setCell ⟨Y,0,none⟩ v') Y (k+1) v' (us++[u]) (ls++[p]):=by
 have hylt:=h.y.lt;have hz:=hb4.size;have hvB:∀g,v.ownBlock=some g→Y<g:=h.n.mv;have keep:∀b,b<w4.heap.size→some b≠v.ownBlock→w5.heap[b]? =w4.heap[b]? :=fun b hb hne=>(hg.block b (by simp;omega) hne).trans (Below.heap_alloc w4 o b hb)
 have y5:TBox w5 Y v (.slice none 0 0):=(h.y.below hb4).kept (keep Y (by omega) (fun e=>by have:=hvB Y e.symm;omega));have x5:TBox w5 w.heap.size (.slice none 0 0) (.slice none 0 0):=(h.x.below hb4).kept (keep _ (by omega) (fun e=>by have:=hvB _ e.symm;omega))
 have n5:Nest w5 (fun g=>Y<g) _ _ v' (us++[u]) (ls++[p]):=
  (Nest.push (B:=fun g=>Y<g∧g<wr.heap.size) (B':=fun g=>Y<g) (H:=(w4.alloc o).heap.size) ((h.n.mono fun g hg' hB=>⟨hB,hg'⟩).below hb4) (hu.re (Nat.zero_le _)) (fun g hg'=>by have:=hu.fit rfl g hg';exact⟨fun hh=>by have:=hh.2;omega,by omega⟩) keep hown hat (by simp) (fun g hh=>hh.1) (by simp;omega))
 refine⟨y5.set0 v',x5.other (by omega) v',n5.kept fun g hg' hB=>Qac w5 Y 0 v' (by omega),by simp[h.l],fun q hq=>?_,?_⟩
 ·rcases List.mem_append.1 hq with hq|hq
  ·exact h.f q hq
  ·rw[List.mem_singleton] at hq;subst hq;exact hp
 ·have b4:Below w.heap.size w w4:=h.b.trans (hb4.mono h.b.size);have b5:Below w.heap.size w w5:=(b4.alloc b4.size o).grown hg (by have:=b4.size;simp;omega) (fun g hg'=>by have:=hvB g hg';omega);exact b5.setCell (p:=⟨Y,0,none⟩) (by show w.heap.size≤Y;omega) v'
theorem St1.cell {w wr w4 w5:World}{Y k:Nat}{v:Value}{us:List Raw}{ls:List (List Word)}{o:Obj}(h:St1 w wr Y k v us ls)(_hY:w.heap.size<Y)(hb4:Below wr.heap.size wr w4)(hg:(w4.alloc o).grownBy w5 v.ownBlock):w5.cell? ⟨Y,0,none⟩=some v∧∀o,w5.frozen? ⟨Y,o,none⟩=false:=by
 have y5:TBox w5 Y v (.slice none 0 0):=(h.y.below hb4).kept ((hg.block Y (by have:=h.y.lt;have:=hb4.size;simp;omega) (fun e=>by have:=h.n.mv Y e.symm;omega)).trans (Below.heap_alloc w4 o Y (by have:=h.y.lt;have:=hb4.size;omega)));exact⟨y5.c0,y5.fz⟩
def Qa9 (l:List Word):List Int:=(l.map (·.n)).filter (fun x=>x != 0)
theorem QaU (a b:List Word):Qa9 (a++b)=Qa9 a++Qa9 b:=by unfold Qa9;rw[List.map_append,List.filter_append]
theorem Qeg {l:List Word}(h:∀x∈l,x.n=0):Qa9 l=[]:=by
 unfold Qa9;rw[List.filter_eq_nil_iff];intro y hy;obtain⟨x,hx,rfl⟩:=List.mem_map.1 hy;rw[h x hx];simp
theorem seqOf_none {ls:List (List Word)}(h:∀p∈ls,QdU p):Qa9 ls.flatten=[]:=Qeg fun x hx=>by
 obtain⟨p,hp,hxp⟩:=List.mem_flatten.1 hx;exact h p hp x hxp
theorem seq_set (ls:List (List Word))(k i:Nat)(hk:k<ls.length)(hi:i<ls[k].length)(m:Int)(hm:m≠0)(hl:∀p∈ls.drop (k+1),QdU p)(h0:∀j (hj:j<ls[k].length),i≤j→ls[k][j].n=0):
 Qa9 (ls.set k (ls[k].set i (Qa5 ls[k][i] m))).flatten=Qa9 ls.flatten++[m]:=by
 have e1:ls.set k (ls[k].set i (Qa5 ls[k][i] m))=ls.take k++(ls[k].set i (Qa5 ls[k][i] m)::ls.drop (k+1)):=by rw[List.set_eq_take_append_cons_drop,if_pos hk]
 have e2:ls=ls.take k++(ls[k]::ls.drop (k+1)):=by rw[←List.drop_eq_getElem_cons hk,List.take_append_drop]
 have e3:ls[k].set i (Qa5 ls[k][i] m)=ls[k].take i++(Qa5 ls[k][i] m::ls[k].drop (i+1)):=by rw[List.set_eq_take_append_cons_drop,if_pos hi]
 have e4:ls[k]=ls[k].take i++ls[k].drop i:=(List.take_append_drop i _).symm
 have d1:Qa9 (ls[k].drop i)=[]:=Qeg fun x hx=>by
  obtain⟨j,hj,rfl⟩:=List.getElem_of_mem hx;rw[List.length_drop] at hj;rw[List.getElem_drop];exact h0 (i+j) (by omega) (by omega)
 have d2:Qa9 (ls[k].drop (i+1))=[]:=Qeg fun x hx=>by
  obtain⟨j,hj,rfl⟩:=List.getElem_of_mem hx;rw[List.length_drop] at hj;rw[List.getElem_drop];exact h0 (i+1+j) (by omega) (by omega)
 have d3:=seqOf_none hl;have d4:Qa9 [Qa5 ls[k][i] m]=[m]:=by simp[Qa9,Qa5,hm]
 have l1:Qa9 (ls.set k (ls[k].set i (Qa5 ls[k][i] m))).flatten=Qa9 (ls.take k).flatten++(Qa9 (ls[k].take i)++[m]):=by
  rw[e1,List.flatten_append,List.flatten_cons,QaU,QaU,d3,List.append_nil,e3,QaU,←List.singleton_append,QaU,d4,d2,List.append_nil]
 have l2:Qa9 ls.flatten=Qa9 (ls.take k).flatten++Qa9 (ls[k].take i):=by
  conv=>lhs;rw[e2,List.flatten_append,List.flatten_cons,QaU,QaU,d3,List.append_nil,e4,QaU,d1,List.append_nil]
 rw[l1,l2,List.append_assoc]
structure GText (ls ns:List (List Word)):Prop where
 l1:1≤ls.length
 l4:ls.length≤4
 n3:ns.length≤3
 p:∀p∈ls,1≤p.length∧p.length≤40∧∀x∈p,Good x
 q:∀p∈ns,Fresh 12 p
 s:Qa9 ls.flatten=(List.range ns.length).map (fun i:Nat=>(i:Int)+1)
structure St2 (w wr:World)(Y H:Nat)(v vn:Value)(us un:List Raw)(ls ns:List (List Word)):Prop where
 y:TBox wr Y v vn
 x:TBox wr w.heap.size (.slice none 0 0) (.slice none 0 0)
 n:Nest wr (fun g=>Y<g∧g<H) 110 66 v us ls
 m:Nest wr (fun g=>H≤g) 110 66 vn un ns
 b:Below w.heap.size w wr
 hz:H≤wr.heap.size
 yh:Y<H
theorem St1.next {w wr:World}{Y k:Nat}{v:Value}{us:List Raw}{ls:List (List Word)}(h:St1 w wr Y k v us ls):St2 w wr Y wr.heap.size v (.slice none 0 0) us [] ls []:=
 ⟨h.y,h.x,h.n.mono fun _ hg hB=>⟨hB,hg⟩,Nest.nil _ _ _ _,h.b,Nat.le_refl _,h.y.lt⟩
theorem St2.inner {w wr w':World}{Y H:Nat}{v vn:Value}{us un:List Raw}{ls ns:List (List Word)}(h:St2 w wr Y H v vn us un ls ns)(hY:w.heap.size<Y)(i:Nat)(hi:i<us.length){q:List Word}{g:Nat}(hg:us[i].v.ownBlock=some g) (hown:Own w' 0 66 us[i].v q) (hgr:wr.grownBy w' (some g)):St2 w w' Y H v vn us un (ls.set i q) ns:=by
 have hgB:=h.n.mi i hi g hg;have kp:∀b,b<wr.heap.size→b≠g→w'.heap[b]? =wr.heap[b]? :=fun b hb hne=>hgr.block b hb (fun e=>hne (by injection e))
 exact⟨h.y.kept (kp _ h.y.lt (by omega)),h.x.kept (kp _ h.x.lt (by omega)),h.n.inner i hi (fun b hb hne=>kp b hb (fun e=>hne (by rw[e,hg]))) hown,h.m.kept (fun b hb hB=>kp b hb (by omega)),h.b.grown hgr h.b.size (fun g' hg'=>by injection hg' with e;omega),Nat.le_trans h.hz hgr.size,h.yh⟩
theorem St2.cells {w wr w4 w5:World}{Y H:Nat}{v vn:Value}{us un:List Raw}{ls ns:List (List Word)}{o:Obj}(h:St2 w wr Y H v vn us un ls ns)(hb4:Below wr.heap.size wr w4)(hg:(w4.alloc o).grownBy w5 vn.ownBlock):w5.cell? ⟨Y,1,none⟩=some vn∧∀o,w5.frozen? ⟨Y,o,none⟩=false:=by
 have y5:TBox w5 Y v vn:=(h.y.below hb4).kept ((hg.block Y (by have:=h.y.lt;have:=hb4.size;simp;omega) (fun e=>by have:=h.m.mv Y e.symm;have:=h.yh;omega)).trans (Below.heap_alloc w4 o Y (by have:=h.y.lt;have:=hb4.size;omega)));exact⟨y5.c1,y5.fz⟩
theorem St2.push {w wr w4 w5:World}{Y H:Nat}{v vn v':Value}{us un:List Raw}{ls ns:List (List Word)}{u:Raw}{p:List Word}{o:Obj}(h:St2 w wr Y H v vn us un ls ns)(hY:w.heap.size<Y)(hb4:Below wr.heap.size wr w4)(hu:Own w4 wr.heap.size 66 u.v p) (hown:Own w5 0 110 v' (un++[u])) (hg:(w4.alloc o).grownBy w5 vn.ownBlock) (hat:v'.ownBlock=vn.ownBlock∨v'.ownBlock=some (w4.alloc o).heap.size):
 St2 w (w5.setCell ⟨Y,1,none⟩ v') Y H v v' us (un++[u]) ls (ns++[p]):=by
 have hylt:=h.y.lt;have hz:=hb4.size;have hzH:=h.hz;have hyH:=h.yh;have hvB:∀g,vn.ownBlock=some g→H≤g:=h.m.mv;have keep:∀b,b<w4.heap.size→some b≠vn.ownBlock→w5.heap[b]? =w4.heap[b]? :=fun b hb hne=>(hg.block b (by simp;omega) hne).trans (Below.heap_alloc w4 o b hb)
 have y5:TBox w5 Y v vn:=(h.y.below hb4).kept (keep Y (by omega) (fun e=>by have:=hvB Y e.symm;omega));have x5:TBox w5 w.heap.size (.slice none 0 0) (.slice none 0 0):=(h.x.below hb4).kept (keep _ (by omega) (fun e=>by have:=hvB _ e.symm;omega));have n5:Nest w5 (fun g=>Y<g∧g<H) _ _ v us ls:=(h.n.below hb4).kept fun g hg' hB=>keep g hg' (fun e=>by have:=hvB _ e.symm;omega)
 have m5:Nest w5 (fun g=>H≤g) _ _ v' (un++[u]) (ns++[p]):=
  (Nest.push (B:=fun g=>H≤g∧g<wr.heap.size) (B':=fun g=>H≤g) (H:=(w4.alloc o).heap.size) ((h.m.mono fun g hg' hB=>⟨hB,hg'⟩).below hb4) (hu.re (Nat.zero_le _)) (fun g hg'=>by have:=hu.fit rfl g hg';exact⟨fun hh=>by have:=hh.2;omega,by omega⟩) keep hown hat (by simp) (fun g hh=>hh.1) (by simp;omega))
 have b4:Below w.heap.size w w4:=h.b.trans (hb4.mono h.b.size);have b5:Below w.heap.size w w5:=(b4.alloc b4.size o).grown hg (by have:=b4.size;simp;omega) (fun g hg'=>by have:=hvB g hg';omega);have hz5:=hg.size;refine⟨y5.set1 v',x5.other (by omega) v',n5.kept fun g hg' hB=>Qac w5 Y 1 v' (by omega),m5.kept fun g hg' hB=>Qac w5 Y 1 v' (by omega),b5.setCell (p:=⟨Y,1,none⟩) (by show w.heap.size≤Y;omega) v',?_,h.yh⟩;have:(w4.alloc o).heap.size=w4.heap.size+1:=by simp
 simp only[World.size_setCell];omega
theorem St2.below {w wr w':World}{Y H:Nat}{v vn:Value}{us un:List Raw}{ls ns:List (List Word)}(h:St2 w wr Y H v vn us un ls ns)(hb:Below wr.heap.size wr w'):St2 w w' Y H v vn us un ls ns:=
 ⟨h.y.below hb,h.x.below hb,h.n.below hb,h.m.below hb,h.b.trans (hb.mono h.b.size),Nat.le_trans h.hz hb.size,h.yh⟩
theorem GText.next {ls ns:List (List Word)}(h:GText ls ns)(k:Nat)(hk:k<ls.length){q p:List Word}(hq:Qd5 ls[k] ((ns.length:Int)+1) true q)(hl:∀p∈ls.drop (k+1),QdU p)(hp:Fresh 12 p)(h3:ns.length+1≤3):GText (ls.set k q) (ns++[p]):=by
 rcases hq with⟨h0,_⟩|⟨_,i,hi,h0,rfl⟩
 ·cases h0
 ·have hpk:=h.p ls[k] (List.getElem_mem hk);refine⟨by rw[List.length_set];exact h.l1,by rw[List.length_set];exact h.l4,by simp;omega,fun r hr=>?_,fun r hr=>?_,?_⟩
  ·rcases List.mem_or_eq_of_mem_set hr with hr|rfl
   ·exact h.p r hr
   ·rw[List.length_set];refine⟨hpk.1,hpk.2.1,fun x hx=>?_⟩;rcases List.mem_or_eq_of_mem_set hx with hx|rfl
    ·exact hpk.2.2 x hx
    ·exact(show Good ls[k][i] from hpk.2.2 _ (List.getElem_mem hi))
  ·rcases List.mem_append.1 hr with hr|hr
   ·exact h.q r hr
   ·rw[List.mem_singleton] at hr;subst hr;exact hp
  ·rw[seq_set ls k i hk hi _ (by omega) hl h0,h.s,qA,List.length_singleton,List.range_succ,List.map_append];rfl
theorem St2.stay {w wr w':World}{Y H:Nat}{v vn:Value}{us un:List Raw}{ls ns:List (List Word)}(h:St2 w wr Y H v vn us un ls ns)(hY:w.heap.size<Y)(i:Nat)(hi:i<us.length)(hi':i<ls.length){q:List Word}{g:Nat}{m:Int}(hg:us[i].v.ownBlock=some g) (hq:Qd5 ls[i] m false q) (hown:Own w' 0 66 us[i].v q) (hgr:wr.grownBy w' (some g)):St2 w w' Y H v vn us un ls ns:=by
 rcases hq with⟨_,rfl⟩|⟨h0,_⟩
 ·have:=h.inner hY i hi hg hown hgr;rwa [List.set_getElem_self] at this
 ·cases h0
end Go.Proofs.YtegaapiocihcpaaGreatDoor
