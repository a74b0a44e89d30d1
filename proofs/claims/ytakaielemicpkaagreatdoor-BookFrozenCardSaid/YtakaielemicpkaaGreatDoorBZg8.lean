/- Texts of BookC10. -/
import Derived.Test.YtakaielemicpkaaGreatDoorBZg7
import Derived.LoopIn
import Derived.Sort.CutIn
set_option maxHeartbeats 8000000
namespace Go.Proofs.YtakaielemicpkaaGreatDoor
open Go.RowKit Go.Shelf
attribute [local go_sem] Oper.semAt_some
def lineP (ls:List LineP)(wd:Int):Option Nat:=ls.findIdx? (fun x=>decide (x.fr≤wd∧wd<x.un))
def Qbb (entry ver wd:Int):List PageP→Option (Int × Int × Nat)
 |[]=>none
 |p::ps=>match (if p.entry=entry∧p.ver=ver then lineP (p.body++p.notes) wd else none) with
  |some i=>some (p.num,p.suf,i+1)
  |none=>Qbb entry ver wd ps
theorem lineP_none {ls:List LineP}{wd:Int}(h:∀j (hj:j<ls.length),¬(ls[j].fr≤wd∧wd<ls[j].un)):lineP ls wd=none:=by
 unfold lineP;rw[List.findIdx?_eq_none_iff];intro x hx;obtain⟨j,hj,rfl⟩:=List.getElem_of_mem hx;exact decide_eq_false (h j hj)
theorem lineP_hit {ls:List LineP}{wd:Int}{k:Nat}(hk:k<ls.length)(h:ls[k].fr≤wd∧wd<ls[k].un)(hn:∀j (hj:j<ls.length),j<k→¬(ls[j].fr≤wd∧wd<ls[j].un)):lineP ls wd=some k:=by
 unfold lineP;rw[List.findIdx?_eq_some_iff_getElem];exact⟨hk,decide_eq_true h,fun j hj=>by rw[decide_eq_true_iff];exact hn j (by omega) hj⟩
theorem Qbl {entry ver wd:Int}:∀(l m:List PageP),Qbb entry ver wd (l++m)=(Qbb entry ver wd l).or (Qbb entry ver wd m)
 |[],_=>rfl
 |p::ps,m=>by
  rw[List.cons_append,Qbb,Qbb];split
  ·rfl
  ·exact Qbl ps m
def whereV:Option (Int × Int × Nat)→Value
 |none=>.tuple #[.agg #[.int .i64 0,.int .i64 0],.int .i64 0,.bool false]
 |some (n,s,i)=>.tuple #[.agg #[.int .i64 n,.int .i64 s],.int .i64 (i:Int),.bool true]
theorem QbH {P:Program}{w:World}{g:Nat}{ty:TypeId}{v:Value}(ha:∀w,(isAgg ty).run P w=.ok false w)(hc:w.cell? ⟨g,0,none⟩=some v):(loadVar ty ⟨g,0,none⟩).run P w=.ok v w:=by
 simp[loadVar,ha,hc]
theorem Qcb {P:Program}{fn:Func}{p q r:Tmp}{ty t1 t2:TypeId}(h:fn.results=#[.cell p ty,.cell q t1,.cell r t2])(tmps:Array Value)(w:World)(g g1 g2:Nat)(t:TypeId)(cs:Array Value)(fr:Nat × Nat)(d:TypeDesc)(u1 u2:Value) (hp:tmps.getD p undef=.pointer (some ⟨g,0,none⟩)) (hq:tmps.getD q undef=.pointer (some ⟨g1,0,none⟩)) (hr:tmps.getD r undef=.pointer (some ⟨g2,0,none⟩)) (hg:w.heap[g]? =some (.cells cs t fr)) (h1:w.cell? ⟨g1,0,none⟩=some u1) (h2:w.cell? ⟨g2,0,none⟩=some u2) (hu:P.underlying ty=some d) (hd:(match d with|.struct _|.array _ _=>true|_=>false)=true) (hi:(P.info? ty).map (·.size)=some cs.size) (ha1:∀w,(isAgg t1).run P w=.ok false w) (ha2:∀w,(isAgg t2).run P w=.ok false w):
 (results fn tmps).run P w=.ok (.tuple #[.agg cs,u1,u2]) w:=by
 have hp':tmps[p]?.getD undef=.pointer (some ⟨g,0,none⟩):=by simpa using hp
 have hq':tmps[q]?.getD undef=.pointer (some ⟨g1,0,none⟩):=by simpa using hq
 have hr':tmps[r]?.getD undef=.pointer (some ⟨g2,0,none⟩):=by simpa using hr
 simp[results,h,hp',hq',hr',asAddr,run_loadVar_row w g t ty cs fr d hg hu hd hi,QbH ha1 h1,QbH ha2 h2]
structure WI (n:Nat)(w:World)(en ve wd rn rs ri:Int)(rb:Bool)(W:World):Prop where
 x1:ABox W (n+1) 3 [.int .i64 en]
 x2:ABox W (n+1+1) 3 [.int .i64 ve]
 x3:ABox W (n+1+1+1) 3 [.int .i64 wd]
 x4:ABox W (n+1+1+1+1) 24 [.int .i64 rn,.int .i64 rs]
 x5:ABox W (n+1+1+1+1+1) 3 [.int .i64 ri]
 x6:ABox W (n+1+1+1+1+1+1) 4 [.bool rb]
 bl:Below n w W
section
variable {n:Nat} {w:World} {en ve wd rn rs ri:Int} {rb:Bool} {W W':World}
theorem WI.keep (h:WI n w en ve wd rn rs ri rb W)(hb:∀i,n≤i→i<n+7→W'.heap[i]? =W.heap[i]?)(hl:Below n w W'):WI n w en ve wd rn rs ri rb W':=
 ⟨(hb _ (by omega) (by omega)).trans h.x1,(hb _ (by omega) (by omega)).trans h.x2,(hb _ (by omega) (by omega)).trans h.x3,(hb _ (by omega) (by omega)).trans h.x4,(hb _ (by omega) (by omega)).trans h.x5,(hb _ (by omega) (by omega)).trans h.x6,hl⟩
theorem WI.lt (h:WI n w en ve wd rn rs ri rb W):n+7≤W.heap.size:=by have:=h.x6.lt;omega
theorem WI.to (h:WI n w en ve wd rn rs ri rb W)(hb:Below W.heap.size W W'):WI n w en ve wd rn rs ri rb W':=
 h.keep (fun i _ hi=>hb.block i (by have:=h.lt;omega)) (h.bl.trans (hb.mono (by have:=h.lt;omega)))
theorem WI.ks (h:WI n w en ve wd rn rs ri rb W){N:Nat}{R:Nat→Prop}(hN:n+7≤N)(hk:KS (fun i=>i<N∨R i) W W'):WI n w en ve wd rn rs ri rb W':=
 h.keep (fun i _ hi=>hk.block i (.inl (by omega)) (by have:=h.lt;omega)) (h.bl.trans (hk.below (fun i hi=>.inl (by omega)) (by have:=h.lt;omega)))
theorem WI.grown (h:WI n w en ve wd rn rs ri rb W){row:Option Nat}(hg:W.grownBy W' row)(hr:∀r,row=some r→n+7≤r):WI n w en ve wd rn rs ri rb W':=
 h.keep (fun i _ hi=>hg.block i (by have:=h.lt;omega) (fun e=>by have:=hr _ e.symm;omega)) (h.bl.grown hg (by have:=h.lt;omega) (fun k hk=>by have:=hr _ hk;omega))
theorem WI.found (h:WI n w en ve wd rn rs ri rb W)(a b c:Int)(d:Bool):WI n w en ve wd a b c d ((((W.setCell ⟨n+1+1+1+1,0,none⟩ (.int .i64 a)).setCell ⟨n+1+1+1+1,1,none⟩ (.int .i64 b)).setCell ⟨n+1+1+1+1+1,0,none⟩ (.int .i64 c)).setCell ⟨n+1+1+1+1+1+1,0,none⟩ (.bool d)):=by
 refine⟨?_,?_,?_,?_,?_,?_,?_⟩
 ·exact(((h.x1.other (by omega) _ _).other (by omega) _ _).other (by omega) _ _).other (by omega) _ _
 ·exact(((h.x2.other (by omega) _ _).other (by omega) _ _).other (by omega) _ _).other (by omega) _ _
 ·exact(((h.x3.other (by omega) _ _).other (by omega) _ _).other (by omega) _ _).other (by omega) _ _
 ·have:=(((h.x4.set 0 (.int .i64 a)).set 1 (.int .i64 b)).other (Q:=n+1+1+1+1+1) (by omega) 0 (.int .i64 c)).other (Q:=n+1+1+1+1+1+1) (by omega) 0 (.bool d);simpa using this
 ·have:=(((h.x5.other (Q:=n+1+1+1+1) (by omega) 0 (.int .i64 a)).other (Q:=n+1+1+1+1) (by omega) 1 (.int .i64 b)).set 0 (.int .i64 c)).other (Q:=n+1+1+1+1+1+1) (by omega) 0 (.bool d);simpa using this
 ·have:=(((h.x6.other (Q:=n+1+1+1+1) (by omega) 0 (.int .i64 a)).other (Q:=n+1+1+1+1) (by omega) 1 (.int .i64 b)).other (Q:=n+1+1+1+1+1) (by omega) 0 (.int .i64 c)).set 0 (.bool d);simpa using this
 ·exact(((h.bl.setCell (p:=⟨n+1+1+1+1,0,none⟩) (by show n≤n+1+1+1+1;omega) _).setCell (p:=⟨n+1+1+1+1,1,none⟩) (by show n≤n+1+1+1+1;omega) _).setCell (p:=⟨n+1+1+1+1+1,0,none⟩) (by show n≤n+1+1+1+1+1;omega) _).setCell (p:=⟨n+1+1+1+1+1+1,0,none⟩) (by show n≤n+1+1+1+1+1+1;omega) _
end
set_option maxRecDepth 100000 in
theorem where_any {m h:Int}{A:Option Addr}{c:Nat}{l:List SectP}{w:World}(H:BookOk w m h A c l)(entry ver wd:Int):
 Calls Tryz.prog 18 #[.agg #[.int .i64 m,.int .i64 h,.slice A l.length c],.int .i64 entry,.int .i64 ver,.int .i64 wd] w fun e W'=>e=.returned (whereV (Qbb entry ver wd (Qac m h l)))∧Below w.heap.size w W':=by
 refine(callsIn_wide (n:=4)).1 ?_;refine callsIn_of_wp_marks Tryz.func18 rfl trivial ?_ rfl;simp only[Tryz.ntmps18,List.size_toArray,qC,List.length_nil,Nat.reduceAdd,Nat.reduceSub,Array.replicate_succ,Array.replicate_zero,List.push_toArray,List.append_toArray,List.nil_append,List.cons_append];obtain⟨wb,hwb⟩:∃wb,((((((w.alloc (.cells #[.int .i64 m,.int .i64 h,.slice A l.length c] 27)).alloc (.cells #[.int .i64 entry] 3)).alloc (.cells #[.int .i64 ver] 3)).alloc (.cells #[.int .i64 wd] 3)).alloc (.cells #[.int .i64 0,.int .i64 0] 24)).alloc (.cells #[.int .i64 0] 3)).alloc (.cells #[.bool false] 4)=wb:=⟨_,rfl⟩;have hba:Below w.heap.size w wb:=by rw[←hwb];exact(((((((bR.alloc nL _).alloc (by simp) _).alloc (by simp;omega) _).alloc (by simp;omega) _).alloc (by simp;omega) _).alloc (by simp;omega) _).alloc (by simp;omega) _)
 have hz:wb.heap.size=w.heap.size+7:=by rw[←hwb];simp
 have hx0:ABox wb w.heap.size 27 [.int .i64 m,.int .i64 h,.slice A l.length c]:=by rw[←hwb];repeat(first|exact Qai (by simp;done)|refine(Below.heap_alloc _ _ _ (by simp;try omega)).trans ?_)
 have hx1:ABox wb (w.heap.size+1) 3 [.int .i64 entry]:=by rw[←hwb];repeat(first|exact Qai (by simp;done)|refine(Below.heap_alloc _ _ _ (by simp;try omega)).trans ?_)
 have hx2:ABox wb (w.heap.size+1+1) 3 [.int .i64 ver]:=by rw[←hwb];repeat(first|exact Qai (by simp;done)|refine(Below.heap_alloc _ _ _ (by simp;try omega)).trans ?_)
 have hx3:ABox wb (w.heap.size+1+1+1) 3 [.int .i64 wd]:=by rw[←hwb];repeat(first|exact Qai (by simp;done)|refine(Below.heap_alloc _ _ _ (by simp;try omega)).trans ?_)
 have hx4:ABox wb (w.heap.size+1+1+1+1) 24 [.int .i64 0,.int .i64 0]:=by rw[←hwb];repeat(first|exact Qai (by simp;done)|refine(Below.heap_alloc _ _ _ (by simp;try omega)).trans ?_)
 have hx5:ABox wb (w.heap.size+1+1+1+1+1) 3 [.int .i64 0]:=by rw[←hwb];repeat(first|exact Qai (by simp;done)|refine(Below.heap_alloc _ _ _ (by simp;try omega)).trans ?_)
 have hx6:ABox wb (w.heap.size+1+1+1+1+1+1) 4 [.bool false]:=by rw[←hwb];repeat(first|exact Qai (by simp;done)|refine(Below.heap_alloc _ _ _ (by simp;try omega)).trans ?_)
 have k0:=hx0.cell 0 rfl;have k1:=hx0.cell 1 rfl;have k2:=hx0.cell 2 rfl;have HWB:=Lh hwb;gi_upto_region 1 with(fail)
 (try rw[HWB.out]);have hbo:=H.to hba;have HX0:=Lh hx0;have HX1:=Lh hx1;have HX2:=Lh hx2;have HX3:=Lh hx3;have HX4:=Lh hx4;have HX5:=Lh hx5;have HX6:=Lh hx6;have HB:=Lh hba;have HZ:=Lh hz;clear hx0 hx1 hx2 hx3 hx4 hx5 hx6 hba hz hwb H;gi_wp2;refine⟨trivial,CallsIn.mono (callsIn_wide.2 (ball_any m h (.slice A l.length c) wb)) ?_⟩;rintro e w1 ⟨rfl,rfl⟩;gi_wp2;have HX0w:Hid (WI w.heap.size w entry ver wd 0 0 0 false wb):=Lh ⟨HX1.out,HX2.out,HX3.out,HX4.out,HX5.out,HX6.out,HB.out⟩;obtain⟨wa,hwa⟩:∃wa,wb.alloc (.cells #[.int .i64 m,.int .i64 h,.slice A l.length c] 27)=wa:=⟨_,rfl⟩;have hbw:Below wb.heap.size wb wa:=by rw[←hwa];exact bR.alloc nL _
 have hza:wa.heap.size=w.heap.size+8:=by rw[←hwa];simp;exact HZ.out
 have hseq:=all_seq (4-1) (by omega) hbo hwa.symm;have HWI:=Lh (HX0w.out.to hbw);rw[hwa];clear hwa HX0 HX1 HX2 HX3 HX4 HX5 HX6 HB HX0w HWB hbo k0 k1 k2
 refine Qbw rfl (by omega) (gf:=65) (lb:=#[.pointer (some ⟨wb.heap.size,0,none⟩)]) rfl trivial (enters_of Tryz.func65 (by kernel_rfl) rfl) hseq bR nL (fun _=>rfl) PV.pr_keep PV.pr_mono (fun pre M R W=>WI w.heap.size w entry ver wd 0 0 0 false W∧Qbb entry ver wd (pre.map PV.plain)=none) (fun c pre W=>c=.ret∧∃n s,∃i:Nat,Qbb entry ver wd (pre.map PV.plain)=some (n,s,i)∧WI w.heap.size w entry ver wd n s (i:Int) true W) (fun pre M R X Y hc hk=>⟨hc.1.ks (by omega) hk,hc.2⟩) (fun c s X Y row hs hg hr=>⟨hs.1,by obtain⟨n,s',i,h1,h2⟩:=hs.2;exact⟨n,s',i,h1,h2.grown hg (fun r e=>by have:=(hr r e).1;omega)⟩⟩) ⟨HWI.out,rfl⟩ (fun k x a' W=>∃Bx,k≤Bx∧ABox W Bx 36 [.int .i64 x.num,.int .i64 x.suf,.int .i64 x.entry,.int .i64 x.ver,(.slice x.Aa x.body.length x.ca),(.slice x.Ab x.notes.length x.cb)]∧a'={tmps:=#[.agg #[.int .i64 m,.int .i64 h,.slice A l.length c],.int .i64 entry,.int .i64 ver,.int .i64 wd,.pointer (some ⟨w.heap.size,0,none⟩),.pointer (some ⟨w.heap.size+1,0,none⟩),.pointer (some ⟨w.heap.size+1+1,0,none⟩),.pointer (some ⟨w.heap.size+1+1+1,0,none⟩),.pointer (some ⟨w.heap.size+1+1+1+1,0,none⟩),.pointer (some ⟨w.heap.size+1+1+1+1+1,0,none⟩),.pointer (some ⟨w.heap.size+1+1+1+1+1+1,0,none⟩),.pointer (some ⟨Bx,0,none⟩),undef,undef,.agg #[.int .i64 m,.int .i64 h,.slice A l.length c],.func (.func 65) #[] #[.pointer (some ⟨wb.heap.size,0,none⟩)],.agg #[.int .i64 x.num,.int .i64 x.suf,.int .i64 x.entry,.int .i64 x.ver,.slice x.Aa x.body.length x.ca,.slice x.Ab x.notes.length x.cb],undef,undef,undef,undef,undef,undef,undef,undef,undef,undef,undef,undef,undef,undef,undef,undef,undef,undef,undef,undef,undef,undef,undef,undef,undef,undef,undef,undef,undef,undef,undef,undef,undef,undef,undef,undef,undef,undef],defers:=[]}) (fun k x a' s X Y row ⟨Bx,h1,h2,h3⟩ hg hr=>⟨Bx,h1,(hg.block Bx h2.lt (fun e=>by obtain⟨_,o,ho,hc⟩:=hr Bx e.symm;rw[show X.heap[Bx]? =_ from h2] at ho;cases ho;cases hc)).trans h2,h3⟩) ?assign ?body ?done ?stop
 case assign=>
  intro lp x W K hK;obtain⟨n1,s1,e1,v1,bo,no,Aa,ca,Ab,cb⟩:=x;unfold PV.enc;gi_wp2;exact hK _ _ (bR.alloc nL _) ⟨W.heap.size,Nat.le_refl _,heap_alloc_new W _,rfl⟩
 case body=>
  rintro lp pre M R PM x a' W Wp ⟨-,hw0⟩ hWp ⟨hwi,-⟩ hsz hM hR ⟨Bx,hBx,bX,rfl⟩ hlen hpr hpm;obtain⟨n1,s1,e1,v1,bo,no,Aa,ca,Ab,cb⟩:=x;dsimp only at bX hpr ⊢;have x2:=bX.cell 2 rfl;have x3:=bX.cell 3 rfl;have y1:=hwi.x1.cell 0 rfl;have y2:=hwi.x2.cell 0 rfl;have HW0:=Lh hw0;have HWI:=Lh hwi;have HBX:=Lh bX;have HPR:=Lh hpr;have HPM:=Lh hpm;have HM:=Lh hM;have HR:=Lh hR;clear hw0 hwi bX hpr hpm hM hR;by_cases he:e1=entry∧v1=ver
  ·obtain⟨he1,he2⟩:=he;subst he1 he2;gi_upto_region 4 with(fail)
   clear x2 x3 y1 y2;have x4:=HBX.out.cell 4 rfl;have x5:=HBX.out.cell 5 rfl;obtain⟨W1,hW1⟩:∃W1,W.alloc (.cells #[.slice Aa bo.length ca,.slice Ab no.length cb] 34)=W1:=⟨_,rfl⟩;have hb1:Below W.heap.size W W1:=(by rw[←hW1];exact bR.alloc nL _);have hQ:ABox W1 W.heap.size 34 [.slice Aa bo.length ca,.slice Ab no.length cb]:=(by rw[←hW1];exact heap_alloc_new W _);have hp1:=PV.pr_keep _ _ _ _ HPR.out (KS.of_below hb1 _);obtain⟨Ax,cx,ex,hsa,-⟩:=hp1.1;cases ex;obtain⟨Ay,cy,ey,hsb,-⟩:=hp1.2.1;cases ey;have hsm:Qer ⟨n1,s1,e1,v1,bo,no⟩:=hp1.2.2;have HCC:=Lh (concatL_any W.heap.size Aa Ab ca cb bo no W1 (hQ.cell 0 rfl) (hQ.cell 1 rfl) (hsa.mono fun i _ h=>h) (hsb.mono fun i _ h=>h) hsm.1 hsm.2);clear hQ hp1 hsa hsb hsm;gi_wp2;(try rw[hW1]);refine⟨trivial,CallsIn.mono ((callsIn_wide.2 HCC.out).inRound lp) ?_⟩;rintro e W2 ⟨v2,rfl,ho2,hb2⟩;obtain⟨A2,c2,rfl,hs2⟩:=ho2.sl;have HSM:Hid ((bo++no).length≤2097152):=Lh (by rw[qA];have:=HPR.out.2.2.1;have:=HPR.out.2.2.2;dsimp only[PV.plain] at *;omega);have HS2:=Lh hs2;have HB2:Hid (Below W.heap.size W W2):=Lh (hb1.trans (hb2.mono hb1.size));have HWI2:=Lh (HWI.out.to HB2.out);have HBX2:=Lh (HBX.out.to HB2.out);clear hs2 hb2 hb1 ho2 x4 x5;obtain⟨ls,hls⟩:∃ls,bo++no=ls:=⟨_,rfl⟩;have HLS:=Lh hls;rw[hls] at HSM HS2 ⊢;obtain⟨n,hn⟩:∃n,ls.length=n:=⟨_,rfl⟩;have hn63:n≤2097152:=(by rw[←hn];exact HSM.out);have HN:=Lh hn;rw[hn];clear hls hn;gi_upto_region 5 with(fail)
   gi_loopw [34] (fun i wr=>∃k:Nat,k≤n∧i=.int .i64 k∧Below W2.heap.size W2 wr∧∀j (hj:j<ls.length),j<k→¬(ls[j].fr≤wd∧wd<ls[j].un)) (fun i _=>n-(intOf i).toNat);(case atStart=>exact⟨0,by omega,rfl,Below.refl _ _,fun j _ h=>absurd h (Nat.not_lt_zero _)⟩);case round=>
    obtain⟨k,hk,rfl,hbl,hno⟩:=hrel;by_cases hlt:k<n
    ·have hkl:k<ls.length:=by rw[HN.out];exact hlt
     have hsr:=HS2.out.keep (Kept.all hbl) hbl.size;obtain⟨b,o,Ag,cg,An,cn,rfl,hb0,hbl0,e0,e1',e2,e3,-,-⟩:=QbF hsr hkl;obtain⟨y,hy⟩:∃y,ls[k]=y:=⟨_,rfl⟩;rw[hy] at e0 e1' e2 e3;have HY:=Lh hy;have HBL:=Lh hbl;have HNO:=Lh hno;clear hsr hbl hno hy hb0;have HWI3:=Lh (HWI2.out.to HBL.out);have HBX3:=Lh (HBX2.out.to HBL.out);gi_upto_region 7 with(fail)
     obtain⟨W3,hW3⟩:∃W3,wr.alloc (.cells #[.int .i64 y.fr,.int .i64 y.un,.slice Ag y.gaps.length cg,.slice An y.notes.length cn] 88)=W3:=⟨_,rfl⟩;have hb3:Below wr.heap.size wr W3:=(by rw[←hW3];exact bR.alloc nL _);have hX:ABox W3 wr.heap.size 88 [.int .i64 y.fr,.int .i64 y.un,.slice Ag y.gaps.length cg,.slice An y.notes.length cn]:=(by rw[←hW3];exact heap_alloc_new wr _);rw[hW3];have HWI4:=Lh (HWI3.out.to hb3);have HBX4:=Lh (HBX3.out.to hb3);have HBL4:Hid (Below W2.heap.size W2 W3):=Lh (HBL.out.trans (hb3.mono HBL.out.size));have l0:=hX.cell 0 rfl;have l1:=hX.cell 1 rfl;have z3:=HWI4.out.x3.cell 0 rfl;have HX:=Lh hX;clear hX hb3 e0 e1' e2 e3 hW3 HWI3 HBX3 HBL;by_cases hf:y.fr≤wd∧wd<y.un
     ·obtain⟨hf1,hf2⟩:=hf;gi_upto_region 8 with(fail)
      have HLP:Hid (lineP ls wd=some k):=Lh (lineP_hit hkl (by rw[HY.out];exact⟨hf1,hf2⟩) HNO.out)
      have HFIN:Hid (Qbb e1 v1 wd ((pre++[(⟨n1,s1,e1,v1,bo,no,Aa,ca,Ab,cb⟩:PV)]).map PV.plain)=some (n1,s1,k+1)):=Lh (by
       rw[List.map_append,Qbl,HW0.out,Option.none_or]
       show Qbb e1 v1 wd [(⟨n1,s1,e1,v1,bo,no⟩:PageP)]=_
       rw[Qbb,if_pos ⟨rfl,rfl⟩,HLS.out,HLP.out])
      clear hf1 hf2 l0 l1 z3;have p0:=HBX4.out.cell 0 rfl;have p1:=HBX4.out.cell 1 rfl;have q0:=HWI4.out.x4.cell 0 rfl;have q1:=HWI4.out.x4.cell 1 rfl;have r0:=HWI4.out.x4.fz 0;have r1:=HWI4.out.x4.fz 1;have q5:=HWI4.out.x5.cell 0 rfl;have r5:=HWI4.out.x5.fz 0;have q6:=HWI4.out.x6.cell 0 rfl;have r6:=HWI4.out.x6.fz 0;have HK1:Hid ((k:Int)+1=((k+1:Nat):Int)):=Lh (by omega);gi_wp2;refine⟨⟨rfl,n1,s1,k+1,HFIN.out,?_⟩,?_⟩
      ·rw[←HK1.out];exact HWI4.out.found n1 s1 ((k:Int)+1) true
      ·have hq:∀x:Nat,x≤6→¬(w.heap.size+x=wa.heap.size∨w.heap.size+x=wa.heap.size+1):=fun x hx=>by omega
       exact(((((KS.of_below HB2.out _).trans (KS.of_below HBL4.out _)).trans (KS.setCell _ _ (hq 4 (by omega)))).trans (KS.setCell _ _ (hq 4 (by omega)))).trans (KS.setCell _ _ (hq 5 (by omega)))).trans (KS.setCell _ _ (hq 6 (by omega)))
     ·have HNF:=Lh hf;by_cases hf1:y.fr≤wd
      ·have hf2:¬wd<y.un:=fun e=>HNF.out ⟨hf1,e⟩
       gi_wp2;go_roundw
       case rel=>exact⟨k+1,by omega,by go_num,HBL4.out,fun j hj hjk=>by
        rcases Nat.lt_or_ge j k with h|h
        ·exact HNO.out j hj h
        ·obtain rfl:j=k:=by omega
         rw[HY.out];exact HNF.out⟩
       case measure=>simp[intOf];omega
      ·gi_wp2;go_roundw
       case rel=>exact⟨k+1,by omega,by go_num,HBL4.out,fun j hj hjk=>by
        rcases Nat.lt_or_ge j k with h|h
        ·exact HNO.out j hj h
        ·obtain rfl:j=k:=by omega
         rw[HY.out];exact HNF.out⟩
       case measure=>simp[intOf];omega
    ·obtain rfl:k=n:=by omega
     have HFIN:Hid (Qbb e1 v1 wd ((pre++[(⟨n1,s1,e1,v1,bo,no,Aa,ca,Ab,cb⟩:PV)]).map PV.plain)=none):=Lh (by
      rw[List.map_append,Qbl,HW0.out,Option.none_or]
      show Qbb e1 v1 wd [(⟨n1,s1,e1,v1,bo,no⟩:PageP)]=_
      rw[Qbb,if_pos ⟨rfl,rfl⟩,HLS.out,lineP_none (fun j hj=>hno j hj (by have:=HN.out;omega))]
      rfl)
     have HBL4:=Lh hbl;clear hno hbl;gi_wp2;exact⟨M,R,⟨HWI2.out.to HBL4.out,HFIN.out⟩,(KS.of_below HB2.out _).trans (KS.of_below HBL4.out _),fun i h=>.inl h,fun i h=>.inl h⟩
  ·have HNE:Hid (¬(e1=entry∧v1=ver)):=Lh he
   have HFIN:Hid (Qbb entry ver wd ((pre++[(⟨n1,s1,e1,v1,bo,no,Aa,ca,Ab,cb⟩:PV)]).map PV.plain)=none):=Lh (by
    rw[List.map_append,Qbl,HW0.out]
    show Qbb entry ver wd [(⟨n1,s1,e1,v1,bo,no⟩:PageP)]=none
    rw[Qbb,if_neg he]
    rfl)
   clear he;by_cases h1:e1=entry
   ·have h2:¬v1=ver:=fun e=>HNE.out ⟨h1,e⟩
    gi_wp2;exact⟨M,R,⟨HWI.out,HFIN.out⟩,KS.refl _ _,fun i h=>.inl h,fun i h=>.inl h⟩
   ·gi_wp2;exact⟨M,R,⟨HWI.out,HFIN.out⟩,KS.refl _ _,fun i h=>.inl h,fun i h=>.inl h⟩
 case done=>
  rintro D xs M R W hD hD2 hS ⟨hwi,hw0⟩ hK;rw[hS] at hw0;have HW0:=Lh hw0;have HK:=Lh hK;have q0:=hwi.x4.cell 0 rfl;have q1:=hwi.x4.cell 1 rfl;have r0:=hwi.x4.fz 0;have r1:=hwi.x4.fz 1;have q5:=hwi.x5.cell 0 rfl;have r5:=hwi.x5.fz 0;have q6:=hwi.x6.cell 0 rfl;have r6:=hwi.x6.fz 0;have HWI:=Lh hwi;clear hw0 hK hwi hS;gi_wp2;have HF:=Lh (HWI.out.found 0 0 0 false);have hKf:((((W.setCell ⟨w.heap.size+1+1+1+1,0,none⟩ (.int .i64 0)).setCell ⟨w.heap.size+1+1+1+1,1,none⟩ (.int .i64 0)).setCell ⟨w.heap.size+1+1+1+1+1,0,none⟩ (.int .i64 0)).setCell ⟨w.heap.size+1+1+1+1+1+1,0,none⟩ (.bool false)).heap[D]? =some (.deferred (some [])):=by
   rw[Qaa _ _ _ _ (by omega),Qaa _ _ _ _ (by omega),Qaa _ _ _ _ (by omega),Qaa _ _ _ _ (by omega)];exact HK.out
  clear q0 q1 r0 r1 q5 r5 q6 r6;generalize ((((W.setCell ⟨w.heap.size+1+1+1+1,0,none⟩ (.int .i64 0)).setCell ⟨w.heap.size+1+1+1+1,1,none⟩ (.int .i64 0)).setCell ⟨w.heap.size+1+1+1+1+1,0,none⟩ (.int .i64 0)).setCell ⟨w.heap.size+1+1+1+1+1+1,0,none⟩ (.bool false))=Wf at*;refine⟨by simp,.inl ⟨_,_,rfl,run_takeDeferred hKf,?_⟩⟩;have hg:=grownBy_putObj' Wf D (.deferred none);have HG:=Lh (HF.out.grown hg (fun k hk=>by cases hk;omega));refine⟨_,Qcb Tryz.results18 _ _ (w.heap.size+1+1+1+1) (w.heap.size+1+1+1+1+1) (w.heap.size+1+1+1+1+1+1) _ _ (0,0) _ _ _ rfl rfl rfl HG.out.x4 (HG.out.x5.cell 0 rfl) (HG.out.x6.cell 0 rfl) Tryz.underlying24 rfl (by kernel_rfl) Tryz.isAgg3 Tryz.isAgg4,?_,HG.out.bl⟩;rw[HW0.out];rfl
 case stop=>
  rintro D c pre W hD hD2 ⟨k,hk⟩ ⟨rfl,n,s,i,hwh,hwi⟩ hK
  have HW0:Hid (Qbb entry ver wd (Qac m h l)=some (n,s,i)):=Lh (by
   rw[←List.take_append_drop k (Qac m h l),Qbl,←hk,hwh];rfl)
  have HK:=Lh hK;have HWI:=Lh hwi;clear hwh hK hwi hk;gi_wp2;have HF:=HWI;have hKf:=HK.out;obtain⟨Wf,hWf⟩:∃Wf,W=Wf:=⟨_,rfl⟩;rw[hWf] at HF hKf ⊢;clear hWf HWI;refine⟨by simp,.inl ⟨_,_,rfl,run_takeDeferred hKf,?_⟩⟩;have hg:=grownBy_putObj' Wf D (.deferred none);have HG:=Lh (HF.out.grown hg (fun k hk=>by cases hk;omega));refine⟨_,Qcb Tryz.results18 _ _ (w.heap.size+1+1+1+1) (w.heap.size+1+1+1+1+1) (w.heap.size+1+1+1+1+1+1) _ _ (0,0) _ _ _ rfl rfl rfl HG.out.x4 (HG.out.x5.cell 0 rfl) (HG.out.x6.cell 0 rfl) Tryz.underlying24 rfl (by kernel_rfl) Tryz.isAgg3 Tryz.isAgg4,?_,HG.out.bl⟩;rw[HW0.out];rfl
end Go.Proofs.YtakaielemicpkaaGreatDoor
namespace Go.Proofs.YtakaielemicpkaaGreatDoor
open Go.RowKit
def Qbf:Word:=⟨⟨#[109,109,109,109,109,109,109,109,109,109,109,109,109,109,109,109,109,109,109,109,109,109,109,109,109,109,109,109,109,109,109,109,109,109,109,109,109,109,109,109]⟩,⟨#[]⟩,0,0⟩
theorem QaW {P:Program}{fn:Func}{p:Tmp}{ty:TypeId}(h:fn.results=#[.cell p ty])(tmps:Array Value)(w:World)(g:Nat)(t:TypeId)(cs:List Value)(d:TypeDesc) (hp:tmps.getD p undef=.pointer (some ⟨g,0,none⟩)) (hg:ABox w g t cs) (hu:P.underlying ty=some d) (hd:(match d with|.struct _|.array _ _=>true|_=>false)=true) (hi:(P.info? ty).map (·.size)=some cs.length):
 (results fn tmps).run P w=.ok (.agg cs.toArray) w:=by
 have hp':tmps[p]?.getD undef=.pointer (some ⟨g,0,none⟩):=by simpa using hp
 have hi':(P.info? ty).map (·.size)=some cs.toArray.size:=by simpa using hi
 simp[results,h,hp',asAddr,run_loadVar_row w g t ty cs.toArray (0,0) d hg hu hd hi']
theorem wideW_ok:Qbf.ok:=⟨by decide,by decide,⟨by decide,by decide⟩,⟨by decide,by decide⟩⟩
theorem word_infoW:(Tryz.prog.info? 104).map (fun i=>(i.zero,i.size,i.bytes))=some (some (.agg #[.string ⟨#[]⟩,.string ⟨#[]⟩,.int .i64 0,.int .i64 0]),Rep.size Word,48):=by kernel_rfl
theorem QdN (n:Nat)(hn:n≤1000)(w:World):
 Calls Tryz.prog 37 #[.int .i64 (n:Int)] w fun e w'=>∃A c,e=.returned (.agg #[.slice A 1 c,.slice none 0 0])∧Sl w' (fun b=>w.heap.size≤b∧b<w'.heap.size) A c [List.replicate n Qbf]∧Below w.heap.size w w':=by
 have hn2:(n:Int)≤1000:=by omega
 have hb0:=(Below.refl w.heap.size w).alloc nL (.cells #[.slice none 0 0,.slice none 0 0] 50);have hx0:ABox (w.alloc (.cells #[.slice none 0 0,.slice none 0 0] 50)) w.heap.size 50 [.slice none 0 0,.slice none 0 0]:=heap_alloc_new w _;have hz:(w.alloc (.cells #[.slice none 0 0,.slice none 0 0] 50)).heap.size=w.heap.size+1:=by simp
 go_enter Tryz.func37,Tryz.ntmps37;go_upto_region 1 with(fail);generalize w.alloc (.cells #[.slice none 0 0,.slice none 0 0] 50)=w0 at*;have HB0:=Lh hb0;have HX0:=Lh hx0;have HZ:=Lh hz;clear hb0 hx0 hz;go_wp2_with fail;go_loopw [3,4] (fun v i wr=>∃k:Nat,k≤n∧i=.int .i64 k∧Own wr w0.heap.size 104 v (List.replicate k Qbf)∧Below w0.heap.size w0 wr) (fun _ i _=>n-(intOf i).toNat);(case atStart=>exact⟨0,Nat.zero_le _,rfl,Own.nil _ _ _,Below.refl _ _⟩);case round=>
  obtain⟨k,hk,rfl,hown,hb⟩:=hrel;have Hb:=Lh hb;have hzw:=hb.size;clear hb;obtain⟨A2,c2,rfl,_⟩:=hown.sl;by_cases hlt:k<n
  ·have hkl:(k:Int)<n:=by omega
   obtain⟨l,hl⟩:∃l,List.replicate k Qbf=l:=⟨_,rfl⟩;have hll:l.length=k:=(by rw[←hl];simp);have hl2:l++[Qbf]=List.replicate (k+1) Qbf:=(by rw[←hl,List.replicate_succ']);rw[hl] at hown ⊢;have HL2:=Lh hl2;have HLL:=Lh hll;have hlk:l.length≤1000:=(by omega);clear hl hl2 hll;go_wp2_with (at_builtin;refine Qan (α:=Word) _ rfl (.tmp 10) (.tmp 12) 99 rfl w0.heap.size 104 (.agg #[.string ⟨#[]⟩,.string ⟨#[]⟩,.int .i64 0,.int .i64 0]) 48 Tryz.underlying99 word_infoW rfl (by decide) _ l rfl (hown.alloc _) wr.heap.size _ Qbf (0,0) 104 rfl (heap_alloc_new wr _) ⟨rfl,wideW_ok⟩ (by omega) (by omega) (by first|omega|(simp;done)|(simp;omega)) _ rfl ?_;intro g cap w5 hown5 hg5 hat5 hlt5);go_roundw;(case rel=>exact⟨k+1,by omega,by go_num,by rw[←HL2.out];exact hown5,Qa9 Hb.out hown (by omega) hg5⟩);case measure=>simp[intOf];omega
  ·obtain rfl:k=n:=by omega
   obtain⟨l,hl⟩:∃l,List.replicate k Qbf=l:=⟨_,rfl⟩;have hll:l.length≤1000:=(by rw[←hl];simp;omega);rw[hl] at hown ⊢;have HL:=Lh hl;clear hl;obtain⟨W1,hW1⟩:∃W1,wr.alloc (.cells #[.slice A2 l.length c2] 99)=W1:=⟨_,rfl⟩;have hb1:Below wr.heap.size wr W1:=(by rw[←hW1];exact bR.alloc nL _);have hX:W1.heap[wr.heap.size]? =some (.cells #[.slice A2 l.length c2] 99 (0,0)):=(by rw[←hW1];exact heap_alloc_new wr _);have HY:=Lh ((HX0.out.to Hb.out).to hb1);have x0:=HY.out.cell 0 rfl;have x1:=HY.out.cell 1 rfl;have f0:=HY.out.fz 0;have f1:=HY.out.fz 1;obtain⟨A5,c5,e5,hs5⟩:=hown.sl;cases e5
   have hsl:Sl W1 (fun b=>w.heap.size<b∧b<W1.heap.size) (some ⟨wr.heap.size,0,none⟩) 1 [l]:=Sl.block (l:=[l]) hX ⟨by have:=HZ.out;omega,by have:=cell_lt hX;omega⟩ (by simp[maxLen]) (fun i hi=>by
    obtain rfl:i=0:=by simpa using hi
    refine⟨A2,c2,rfl,?_,by simp only[List.getElem_cons_zero];omega⟩
    exact(((hown.below hb1).sl_at rfl).mono fun i hi _=>⟨by have:=hi.1;have:=HZ.out;omega,hi.2⟩))
   have HSL:=Lh hsl;have HB1:Hid (Below w.heap.size w W1):=Lh ((HB0.out.trans (Hb.out.mono (by have:=HZ.out;omega))).trans (hb1.mono (by have:=HZ.out;omega)));have HZ1:Hid (w.heap.size<wr.heap.size):=Lh (by have:=HZ.out;omega);clear hX hsl hb1 hs5 hown;go_upto_region 7 with(fail)
   exact bodyPost_ret (v:=.agg #[.slice (some ⟨wr.heap.size,0,none⟩) 1 1,.slice none 0 0]) (QaW Tryz.results37 _ _ w.heap.size _ [.slice (some ⟨wr.heap.size,0,none⟩) 1 1,.slice none 0 0] _ rfl (by simpa using(HY.out.set 0 (.slice (some ⟨wr.heap.size,0,none⟩) 1 1)).set 1 (.slice none 0 0)) Tryz.underlying50 rfl (by kernel_rfl)) rfl
    ⟨some ⟨wr.heap.size,0,none⟩,1,rfl,by
     rw[HL.out]
     refine(HSL.out.keep ?_ (by simp)).mono (fun i hi hl=>⟨Nat.le_of_lt hi.1,hl⟩)
     exact fun i hi _=>(Qaa _ _ 1 _ (by have:=hi.1;omega)).trans (Qaa _ _ 0 _ (by have:=hi.1;omega)),(HB1.out.setCell (p:=⟨w.heap.size,0,none⟩) nL _).setCell (p:=⟨w.heap.size,1,none⟩) nL _⟩
theorem Qc7 {α:Type}[Rep α]{w:World}{base:Nat}{e:TypeId}{v:Value}{l:List α}{P Q:Nat→Prop}(h:Own w base e v (l.map (Av.mk:α→Av α P)))(hPQ:∀i,P i→i<w.heap.size→Q i):Own w base e v (l.map (Av.mk:α→Av α Q)):=by
 obtain⟨xs,hx,ho,hr⟩:=h;refine⟨xs,by rw[qM] at hx ⊢;exact hx,ho,fun i hi=>?_⟩;rw[qM] at hi;have h1:=hr i (by rw[qM];exact hi);rw[List.getElem_map] at h1 ⊢;exact Rep.mono (α:=α) h1 (fun b hb hl=>⟨hb.1,hPQ b hb.2 hl⟩)
set_option maxRecDepth 100000 in
theorem rwith_any {m h:Int}{l:List SectP}{s:SectP}{va vb:Value}{P:Nat→Prop}(A:Option Addr)(c i k:Nat)(w:World)(hP:∀b,P b→b<w.heap.size)(hs:Sl w P A c l)(hl9:l.length≤1048576)(hi:i≤l.length)(hk:k=min (i+1) l.length)(hr:Rep.R w P [.int .i64 s.entry,.bool s.frozen,va,vb] s):
 Calls Tryz.prog 80 #[.agg #[.int .i64 m,.int .i64 h,.slice A l.length c],.int .i64 i,.agg #[.int .i64 s.entry,.bool s.frozen,va,vb]] w fun e w'=>∃A' c',e=.returned (.agg #[.int .i64 m,.int .i64 h,.slice A' (l.take i++s::l.drop k).length c'])∧Sl w' (fun b=>(P b∨w.heap.size≤b)∧b<w'.heap.size) A' c' (l.take i++s::l.drop k)∧Below w.heap.size w w':=by
 obtain⟨n,hn⟩:∃n,l.length=n:=⟨_,rfl⟩;obtain⟨wb,hwb⟩:∃wb,((w.alloc (.cells #[.int .i64 m,.int .i64 h,.slice A n c] 27)).alloc (.cells #[.int .i64 s.entry,.bool s.frozen,va,vb] 45)).alloc (.cells #[.int .i64 0,.int .i64 0,.slice none 0 0] 27)=wb:=⟨_,rfl⟩;have hba:Below w.heap.size w wb:=by rw[←hwb];exact((bR.alloc nL _).alloc (by simp) _).alloc (by simp;omega) _
 have hz:wb.heap.size=w.heap.size+3:=by rw[←hwb];simp
 have hx0:ABox wb w.heap.size 27 [.int .i64 m,.int .i64 h,.slice A n c]:=by rw[←hwb];exact(Below.heap_alloc _ _ _ (by simp;omega)).trans ((Below.heap_alloc _ _ _ (by simp)).trans (heap_alloc_new w _))
 have hx1:ABox wb (w.heap.size+1) 45 [.int .i64 s.entry,.bool s.frozen,va,vb]:=by rw[←hwb];exact(Below.heap_alloc _ _ _ (by simp)).trans (Qai (by simp))
 have hx2:ABox wb (w.heap.size+2) 27 [.int .i64 0,.int .i64 0,.slice none 0 0]:=by rw[←hwb];exact Qai (by simp)
 have hnc:n≤c:=by rw[←hn];exact hs.1
 have hcm:c≤9223372036854775807:=hs.2.1;rw[hn] at hl9 hi hk ⊢;have hkn:k≤n:=by omega
 have hm:min ((i:Int)+1) (n:Int)=(k:Int):=by omega
 have hlk:(l.take i++s::l.drop k).length=i+1+(n-k):=by rw[qA,qK,qC,List.length_drop,hn];omega
 have hv1:=Rep.one hr va (by simp);have hv2:=Rep.one hr vb (by simp);have HV1:=Lh hv1;have HV2:=Lh hv2;have HS:=Lh (hs.keep (Kept.all hba) hba.size);have HR:=Lh (Rep.keep hr (Kept.all hba));have HLK:=Lh hlk;have HN:=Lh hn;have HM:=Lh hm;have HK:=Lh hk;have HBA:=Lh hba;have HPP:=Lh hP;have HZ:=Lh hz;have HX0:=Lh hx0;have HX1:=Lh hx1;have HX2:=Lh hx2;have HTK:Hid (Sl wb P A c ((l.take i).map (Av.mk:SectP→Av SectP P))):=Lh ((HS.out.take i (by rw[hn];exact hi)).av (P:=P) (fun j hj _=>hj));have HLM:Hid (((l.take i).map (Av.mk:SectP→Av SectP P)).length=i):=Lh (by rw[qM,qK,hn];omega);have HLD:Hid (((l.drop k).map (Av.mk:SectP→Av SectP P)).length=n-k):=Lh (by rw[qM,List.length_drop,hn]);have HLE:Hid (((l.take i).map (Av.mk:SectP→Av SectP P)++([⟨s⟩]:List (Av SectP P))).length=i+1):=Lh (by rw[qA,HLM.out];rfl);clear hs hP hn hba hz hx0 hx1 hx2 hr hlk hm hk hv1 hv2;go_enter Tryz.func80,Tryz.ntmps80;go_upto_region 1 with(fail);(try rw[hwb]);clear hwb;have x2:=HX0.out.cell 2 rfl
 go_upto_region 3 with(first
  |(at_builtin;refine Qar (α:=Av SectP P) _ rfl (.tmp 8) (.tmp 12) 25 rfl wb.heap.size 45 (.agg #[.int .i64 0,.bool false,.slice none 0 0,.slice none 0 0]) 64 Tryz.underlying25 QaL rfl (show 0<4 by decide) (.slice none 0 0) [] rfl (Own.nil _ _ _) A c i ((l.take i).map Av.mk) rfl HLM.out P HTK.out (fun j _ _=>by simp[Value.ownBlock]) (by simp;omega) (by simp;omega) nL ?_;intro v1 w1 ho1 hg1 hat1;obtain⟨A1,c1,e1,-,-⟩:=ho1.form;rw[List.nil_append,HLM.out] at e1;subst e1;have HO1:Hid (Own w1 wb.heap.size 45 (.slice A1 i c1) ((l.take i).map (Av.mk:SectP→Av SectP P))):=Lh ho1;have HB1:=Lh (QaP (Below.refl wb.heap.size wb) (Own.nil (α:=Av SectP P) wb wb.heap.size 45) nL hg1);clear ho1 hg1 hat1 x2)
  |fail)
 have HX1a:=Lh (HX1.out.to HB1.out);have HX0a:=Lh (HX0.out.to HB1.out);have HX2a:=Lh (HX2.out.to HB1.out);have HLT:=Lh HO1.out.lt;have s0:=HX1a.out.cell 0 rfl;have s1:=HX1a.out.cell 1 rfl;have s2:=HX1a.out.cell 2 rfl;have s3:=HX1a.out.cell 3 rfl;have HBe:Hid (Below w1.heap.size w1 (w1.alloc (.cells #[.int .i64 s.entry,.bool s.frozen,va,vb] 45))):=Lh (bR.alloc nL _);have HRE:Hid (Rep.R (α:=Av SectP P) (w1.alloc (.cells #[.int .i64 s.entry,.bool s.frozen,va,vb] 45)) (fun b=>some b≠(Value.slice A1 i c1).ownBlock) [.int .i64 s.entry,.bool s.frozen,va,vb] ⟨s⟩):=Lh (Rep.keep (α:=SectP) (Rep.mono (Rep.keep HR.out (Kept.all HB1.out)) (fun j hj _=>⟨fun e=>by have h1:=(HLT.out j e.symm).1;have h2:=HZ.out;have h3:=HPP.out j hj;omega,hj⟩)) (Kept.all HBe.out))
 go_upto_region 4 with(first
  |(at_builtin;refine Qan (α:=Av SectP P) _ rfl (.tmp 14) (.tmp 16) 25 rfl wb.heap.size 45 (.agg #[.int .i64 0,.bool false,.slice none 0 0,.slice none 0 0]) 64 Tryz.underlying25 QaL rfl (show 0<4 by decide) (.slice A1 i c1) ((l.take i).map Av.mk) rfl (HO1.out.alloc _) w1.heap.size _ ⟨s⟩ (0,0) 45 rfl (heap_alloc_new w1 _) HRE.out (by rw[HLM.out];omega) (by rw[HLM.out];omega) (by have:=HB1.out.size;simp;omega) _ rfl ?_;rw[HLM.out];intro g cap w3 ho3 hg3 hat3 hlt3;have HO3:=Lh ho3;have HB3:Hid (Below wb.heap.size wb w3):=Lh (((HB1.out.trans (HBe.out.mono HB1.out.size))).grown hg3 (by have:=HB1.out.size;have:=HBe.out.size;omega) (fun q hq=>(HLT.out q hq).1));clear ho3 hg3 hat3 hlt3 s0 s1 s2 s3)
  |fail)
 have HX0b:=Lh (HX0.out.to HB3.out);have x2:=HX0b.out.cell 2 rfl;have hmm:=HM.out;have HDK:=Lh (HS.out.drop k (by rw[HN.out];exact hkn));have HLT3:=Lh HO3.out.lt;clear HX0a HX1a HX2a HTK HBe HRE HO1 HLT;have HMP:Hid (((l.take i).map (Av.mk:SectP→Av SectP P)++([⟨s⟩]:List (Av SectP P)))++(l.drop k).map (Av.mk:SectP→Av SectP P)=(l.take i++s::l.drop k).map (Av.mk:SectP→Av SectP P)):=Lh (by simp);go_cut [7] from 18 to 28 (fun v7 wx=>∃A4 c4,v7=.slice A4 (i+1+(n-k)) c4∧Hid (Own wx wb.heap.size 45 (.slice A4 (i+1+(n-k)) c4) ((l.take i++s::l.drop k).map (Av.mk:SectP→Av SectP P)))∧Hid (Below wb.heap.size wb wx));case first=>
  by_cases hck:c=k
  ·subst hck;rcases A with _|a
   ·have HSl:Hid (Sl w3 P none (0) ((l.drop c).map (Av.mk:SectP→Av SectP P))):=Lh (((by have h:=HDK.out;rw[if_pos rfl,Nat.sub_self] at h;exact h:Sl wb P none (0) (l.drop c)).keep (Kept.below HB3.out (fun j hj=>by have h2:=HZ.out;have hj:=HPP.out j hj;omega)) HB3.out.size).av (P:=P) (fun j hj _=>hj))
    go_wp2_with (first
     |(at_builtin;refine Qar (α:=Av SectP P) _ rfl (.tmp 18) (.tmp 27) 25 rfl wb.heap.size 45 (.agg #[.int .i64 0,.bool false,.slice none 0 0,.slice none 0 0]) 64 Tryz.underlying25 QaL rfl (show 0<4 by decide) (.slice (some ⟨g,0,none⟩) (i+1) cap) ((l.take i).map Av.mk++[⟨s⟩]) rfl HO3.out none (0) (0) ((l.drop c).map Av.mk) rfl (by rw[HLD.out];omega) P HSl.out (fun j hj _ e=>by have h1:=(HLT3.out j e.symm).1;have h2:=HZ.out;have h3:=HPP.out j hj;omega) (by rw[HLE.out];omega) (by rw[HLE.out];omega) HB3.out.size ?_;intro v4 w4 ho4 hg4 hat4;obtain⟨A4,c4,e4,-,-⟩:=ho4.form;have HO4:Hid (Own w4 wb.heap.size 45 v4 ((l.take i++s::l.drop c).map (Av.mk:SectP→Av SectP P))):=Lh (by rw[HMP.out] at ho4;exact ho4);rw[HMP.out,qM,HLK.out] at e4;subst e4;have HB4:Hid (Below wb.heap.size wb w4):=Lh (HB3.out.grown hg4 HB3.out.size (fun q hq=>(HLT3.out q hq).1));clear ho4 hg4 hat4)
     |fail)
    go_meet;exact⟨A4,c4,by first|rfl|(rw[show n-c=0 by omega]),HO4,HB4⟩
   ·have HSl:Hid (Sl w3 P (some a) (0) ((l.drop c).map (Av.mk:SectP→Av SectP P))):=Lh (((by have h:=HDK.out;rw[if_pos rfl,Nat.sub_self] at h;exact h:Sl wb P (some a) (0) (l.drop c)).keep (Kept.below HB3.out (fun j hj=>by have h2:=HZ.out;have hj:=HPP.out j hj;omega)) HB3.out.size).av (P:=P) (fun j hj _=>hj))
    go_wp2_with (first
     |(at_builtin;refine Qar (α:=Av SectP P) _ rfl (.tmp 18) (.tmp 27) 25 rfl wb.heap.size 45 (.agg #[.int .i64 0,.bool false,.slice none 0 0,.slice none 0 0]) 64 Tryz.underlying25 QaL rfl (show 0<4 by decide) (.slice (some ⟨g,0,none⟩) (i+1) cap) ((l.take i).map Av.mk++[⟨s⟩]) rfl HO3.out (some a) (0) (0) ((l.drop c).map Av.mk) rfl (by rw[HLD.out];omega) P HSl.out (fun j hj _ e=>by have h1:=(HLT3.out j e.symm).1;have h2:=HZ.out;have h3:=HPP.out j hj;omega) (by rw[HLE.out];omega) (by rw[HLE.out];omega) HB3.out.size ?_;intro v4 w4 ho4 hg4 hat4;obtain⟨A4,c4,e4,-,-⟩:=ho4.form;have HO4:Hid (Own w4 wb.heap.size 45 v4 ((l.take i++s::l.drop c).map (Av.mk:SectP→Av SectP P))):=Lh (by rw[HMP.out] at ho4;exact ho4);rw[HMP.out,qM,HLK.out] at e4;subst e4;have HB4:Hid (Below wb.heap.size wb w4):=Lh (HB3.out.grown hg4 HB3.out.size (fun q hq=>(HLT3.out q hq).1));clear ho4 hg4 hat4)
     |fail)
    go_meet;exact⟨A4,c4,by first|rfl|(rw[show n-c=0 by omega]),HO4,HB4⟩
  ·rcases A with _|a
   ·have HSl:Hid (Sl w3 P none (c-k) ((l.drop k).map (Av.mk:SectP→Av SectP P))):=Lh (((by have h:=HDK.out;rw[if_neg hck] at h;exact h:Sl wb P none (c-k) (l.drop k)).keep (Kept.below HB3.out (fun j hj=>by have h2:=HZ.out;have hj:=HPP.out j hj;omega)) HB3.out.size).av (P:=P) (fun j hj _=>hj))
    go_wp2_with (first
     |(at_builtin;refine Qar (α:=Av SectP P) _ rfl (.tmp 18) (.tmp 27) 25 rfl wb.heap.size 45 (.agg #[.int .i64 0,.bool false,.slice none 0 0,.slice none 0 0]) 64 Tryz.underlying25 QaL rfl (show 0<4 by decide) (.slice (some ⟨g,0,none⟩) (i+1) cap) ((l.take i).map Av.mk++[⟨s⟩]) rfl HO3.out none (c-k) (n-k) ((l.drop k).map Av.mk) rfl (by rw[HLD.out]) P HSl.out (fun j hj _ e=>by have h1:=(HLT3.out j e.symm).1;have h2:=HZ.out;have h3:=HPP.out j hj;omega) (by rw[HLE.out];omega) (by rw[HLE.out];omega) HB3.out.size ?_;intro v4 w4 ho4 hg4 hat4;obtain⟨A4,c4,e4,-,-⟩:=ho4.form;have HO4:Hid (Own w4 wb.heap.size 45 v4 ((l.take i++s::l.drop k).map (Av.mk:SectP→Av SectP P))):=Lh (by rw[HMP.out] at ho4;exact ho4);rw[HMP.out,qM,HLK.out] at e4;subst e4;have HB4:Hid (Below wb.heap.size wb w4):=Lh (HB3.out.grown hg4 HB3.out.size (fun q hq=>(HLT3.out q hq).1));clear ho4 hg4 hat4)
     |fail)
    go_meet;exact⟨A4,c4,by first|rfl|(rw[show n-c=0 by omega]),HO4,HB4⟩
   ·have HSl:Hid (Sl w3 P (some (a.add (k*4))) (c-k) ((l.drop k).map (Av.mk:SectP→Av SectP P))):=Lh (((by have h:=HDK.out;rw[if_neg hck] at h;exact h:Sl wb P (some (a.add (k*4))) (c-k) (l.drop k)).keep (Kept.below HB3.out (fun j hj=>by have h2:=HZ.out;have hj:=HPP.out j hj;omega)) HB3.out.size).av (P:=P) (fun j hj _=>hj))
    go_wp2_with (first
     |(at_builtin;refine Qar (α:=Av SectP P) _ rfl (.tmp 18) (.tmp 27) 25 rfl wb.heap.size 45 (.agg #[.int .i64 0,.bool false,.slice none 0 0,.slice none 0 0]) 64 Tryz.underlying25 QaL rfl (show 0<4 by decide) (.slice (some ⟨g,0,none⟩) (i+1) cap) ((l.take i).map Av.mk++[⟨s⟩]) rfl HO3.out (some (a.add (k*4))) (c-k) (n-k) ((l.drop k).map Av.mk) rfl (by rw[HLD.out]) P HSl.out (fun j hj _ e=>by have h1:=(HLT3.out j e.symm).1;have h2:=HZ.out;have h3:=HPP.out j hj;omega) (by rw[HLE.out];omega) (by rw[HLE.out];omega) HB3.out.size ?_;intro v4 w4 ho4 hg4 hat4;obtain⟨A4,c4,e4,-,-⟩:=ho4.form;have HO4:Hid (Own w4 wb.heap.size 45 v4 ((l.take i++s::l.drop k).map (Av.mk:SectP→Av SectP P))):=Lh (by rw[HMP.out] at ho4;exact ho4);rw[HMP.out,qM,HLK.out] at e4;subst e4;have HB4:Hid (Below wb.heap.size wb w4):=Lh (HB3.out.grown hg4 HB3.out.size (fun q hq=>(HLT3.out q hq).1));clear ho4 hg4 hat4)
     |fail)
    go_meet;exact⟨A4,c4,by first|rfl|(rw[show n-c=0 by omega]),HO4,HB4⟩
 case rest=>
 obtain⟨A4,c4,rfl,HO4,HB4⟩:=hcut;have HXr:=Lh (HX2.out.to HB4.out);have HX0r:=Lh (HX0.out.to HB4.out);clear x2 hmm;have x0:=HX0r.out.cell 0 rfl;have x1:=HX0r.out.cell 1 rfl;have r0:=HXr.out.cell 0 rfl;have r1:=HXr.out.cell 1 rfl;have r2:=HXr.out.cell 2 rfl;have f0:=HXr.out.fz 0;have f1:=HXr.out.fz 1;have f2:=HXr.out.fz 2;go_wp2_with fail
 refine bodyPost_ret (v:=.agg #[.int .i64 m,.int .i64 h,.slice A4 (i+1+(n-k)) c4]) (QaW Tryz.results80 _ _ (w.heap.size+2) _ [.int .i64 m,.int .i64 h,.slice A4 (i+1+(n-k)) c4] _ rfl (Qax HXr.out _ _ _) Tryz.underlying27 rfl (by kernel_rfl)) rfl ⟨A4,c4,by rw[HLK.out],?_,below3 (HBA.out.trans (HB4.out.mono HBA.out.size)) (by omega) _ _ _⟩
 have hP:OwnP wc wb.heap.size 45 (.slice A4 (i+1+(n-k)) c4) (l.take i++s::l.drop k) (fun b=>(P b∨w.heap.size≤b)∧b≠w.heap.size+2):=⟨Qc7 HO4.out (fun j hj _=>⟨.inl hj,by have hj:=HPP.out j hj;omega⟩),fun q hq=>by have h1:=(HO4.out.lt q hq).1;have h2:=HZ.out;exact⟨.inr (by omega),by omega⟩⟩;obtain⟨A9,c9,e9,hs9⟩:=(((hP.set (w.heap.size+2) 0 _ (fun i hi=>hi.2)).set (w.heap.size+2) 1 _ (fun i hi=>hi.2)).set (w.heap.size+2) 2 _ (fun i hi=>hi.2)).sl;rw[HLK.out] at e9;injection e9 with e91 e92 e93
 subst e91;subst e93;exact hs9.mono (fun i hi hl=>⟨hi.1,hl⟩)
theorem slack_shift (ws:List Int)(a d:Int):ws.foldl (fun s w=>s-(w+6)) (a+d)=ws.foldl (fun s w=>s-(w+6)) a+d:=by
 induction ws generalizing a with
 |nil=>rfl
 |cons x ws ih=>rw[List.foldl_cons,List.foldl_cons,show a+d-(x+6)=a-(x+6)+d by omega,ih]
theorem slackP_add (ws:List Int)(m d:Int):QaE ws (m+d)=QaE ws m+d:=by
 unfold QaE;rw[show m+d+6=m+6+d by omega,slack_shift]
theorem slackP_snoc (ws:List Int)(x m:Int):QaE (ws++[x]) m=QaE ws m-(x+6):=by unfold QaE;rw[List.foldl_append];rfl
def Qca (ws:List Int)(m:Int)(k:Nat):Int:=QaE (ws.take k) (m-6*((ws.length:Int)-(k:Int)))
theorem slackR_zero (ws:List Int)(m:Int):Qca ws m 0=m-6*((ws.length:Int)-1):=by
 unfold Qca QaE;rw[List.take_zero,List.foldl_nil];omega
theorem slackR_step (ws:List Int)(m:Int){k:Nat}(h:k<ws.length):Qca ws m (k+1)=Qca ws m k-ws[k]:=by
 unfold Qca;rw[qT h,slackP_snoc,show m-6*((ws.length:Int)-((k+1:Nat):Int))=m-6*((ws.length:Int)-(k:Int))+6 by omega,slackP_add];omega
theorem slackR_all (ws:List Int)(m:Int):Qca ws m ws.length=QaE ws m:=by
 unfold Qca;rw[List.take_length,show m-6*((ws.length:Int)-(ws.length:Int))=m by omega]
theorem slackR_bound {ws:List Int}{m:Int}(hr:Reg ws m){k:Nat}(hk:k≤ws.length): -1000000≤Qca ws m k∧Qca ws m k≤1000000:=by
 have hn:=hr.n;have h1:=hr.lo;have h2:=hr.hi;have h3:=QbZ (ws.take k) (fun x hx=>hr.w x (List.mem_of_mem_take hx)) (m-6*((ws.length:Int)-(k:Int))+6);rw[qK,Nat.min_eq_left hk] at h3;unfold Qca QaE;omega
def gapR (last:Bool)(s k:Int)(i:Nat):Int:=if last=true then 6 else gapF s k i
theorem gapsR_eq (ws:List Int)(m:Int)(last:Bool):QcK ws m last=(List.range (ws.length-1)).map (gapR last (QaE ws m) ((ws.length-1:Nat):Int)):=by
 unfold QcK;by_cases h:ws.length≤1
 ·rw[if_pos h,show ws.length-1=0 by omega];rfl
 ·rw[if_neg h];cases last with
  |true=>
   rw[if_pos rfl];refine List.ext_getElem (by simp) (fun i h1 h2=>?_);simp[gapR]
  |false=>
   rw[if_neg (by simp)];rfl
theorem rslack_any (A:Option Addr)(c:Nat)(ws:List Int)(m:Int)(w:World)(hs:Sl w (fun b=>b<w.heap.size) A c ws)(hr:Reg ws m):
 Calls Tryz.prog 130 #[.slice A ws.length c,.int .i64 m] w fun e w'=>e=.returned (.int .i64 (QaE ws m))∧w=w':=by
 have HS:=Lh hs;have HR:=Lh hr;have h1:m≤2000:=hr.hi;have h2:500≤m:=hr.lo;have h3:ws.length≤500:=hr.n;have hc:ws.length≤c:=hs.1;have HZ:=Lh (slackR_zero ws m);obtain⟨n,hn⟩:∃n,ws.length=n:=⟨_,rfl⟩;have HN:=Lh hn;rw[hn] at h3 hc HZ ⊢;clear hs hr hn;go_enter Tryz.func130,Tryz.ntmps130;go_wp2_with fail;go_loopw [5,6] (fun s i wr=>∃k:Nat,k≤n∧i=.int .i64 k∧s=.int .i64 (Qca ws m k)∧w=wr) (fun _ i _=>n-(intOf i).toNat);(case atStart=>exact⟨0,by omega,rfl,by rw[HZ.out],by first|rfl|trivial⟩);case round=>
  obtain⟨k,hk,rfl,rfl,rfl⟩:=hrel;by_cases hlt:k<n
  ·have hkl:k<ws.length:=by rw[HN.out];exact hlt
   obtain⟨b,o,rfl,-,-,-,e1⟩:=Qa8 HS.out hkl;have hst:=slackR_step ws m hkl;have hb:=slackR_bound HR.out (k:=k) (by omega);have hx:=HR.out.w ws[k] (List.getElem_mem hkl);obtain⟨y,hy⟩:∃y,ws[k]=y:=⟨_,rfl⟩;obtain⟨s,hsk⟩:∃s,Qca ws m k=s:=⟨_,rfl⟩;rw[hy] at e1 hst hx;rw[hsk] at hst hb ⊢;have HST:=Lh hst;have hkI:(k:Int)<(n:Int):=(by omega);obtain⟨hb1,hb2⟩:=hb;obtain⟨hx1,hx2⟩:=hx;clear hy hst hkl hsk;go_wp2_with fail;go_roundw;(case rel=>exact⟨k+1,by omega,by go_num,by rw[HST.out],by first|rfl|trivial⟩);case measure=>simp[intOf];omega
  ·obtain rfl:k=n:=by omega
   have hall:Qca ws m k=QaE ws m:=(by rw[←HN.out];exact slackR_all ws m);rw[hall];have HA:=Lh hall;clear hall;go_wp2_with fail;go_ret;first|exact⟨rfl,rfl⟩|exact⟨rfl,trivial⟩
theorem regular_any (A:Option Addr)(c:Nat)(ws:List Int)(m:Int)(w:World)(hs:Sl w (fun b=>b<w.heap.size) A c ws)(hr:Reg ws m):
 Calls Tryz.prog 129 #[.slice A ws.length c,.int .i64 m] w fun e w'=>e=.returned (.int .i64 0)∧Below w.heap.size w w':=by
 have HS:=Lh hs;have HR:=Lh hr;have h1:m≤2000:=hr.hi;have h2:500≤m:=hr.lo;have h3:ws.length≤500:=hr.n;have hc:ws.length≤c:=hs.1;obtain⟨n,hn⟩:∃n,ws.length=n:=⟨_,rfl⟩;have HN:=Lh hn;rw[hn] at h3 hc ⊢;clear hs hr hn;go_enter Tryz.func129,Tryz.ntmps129;go_wp2_with fail;go_loopw [5] (fun i wr=>∃k:Nat,k≤n∧i=.int .i64 k∧Below w.heap.size w wr) (fun i _=>n-(intOf i).toNat);(case atStart=>exact⟨0,by omega,rfl,Below.refl _ _⟩);case round=>
  obtain⟨k,hk,rfl,hbl⟩:=hrel;by_cases hlt:k<n
  ·have hkl:k<ws.length:=by rw[HN.out];exact hlt
   obtain⟨b,o,rfl,-,-,-,e1⟩:=Qa8 (HS.out.to hbl) hkl;have hx:=HR.out.w ws[k] (List.getElem_mem hkl);obtain⟨y,hy⟩:∃y,ws[k]=y:=⟨_,rfl⟩;rw[hy] at e1 hx;have hkI:(k:Int)<(n:Int):=(by omega);obtain⟨hx1,hx2⟩:=hx;have HBL:=Lh hbl;clear hy hkl hbl;go_wp2_with fail;go_roundw;(case rel=>exact⟨k+1,by omega,by go_num,HBL.out⟩);case measure=>simp[intOf];omega
  ·obtain rfl:k=n:=by omega
   have HBL:=Lh hbl;clear hbl;go_wp2_with fail;go_ret;exact⟨rfl,HBL.out⟩
set_option maxRecDepth 100000 in
theorem rgaps_any (A:Option Addr)(c:Nat)(ws:List Int)(m:Int)(last:Bool)(w:World)(hs:Sl w (fun b=>b<w.heap.size) A c ws)(hr:Reg ws m):
 Calls Tryz.prog 111 #[.slice A ws.length c,.int .i64 m,.bool last] w fun e w'=>∃v,e=.returned v∧Own w' w.heap.size 3 v (QcK ws m last)∧Below w.heap.size w w':=by
 have h3:ws.length≤500:=hr.n;have HSL:=Lh (rslack_any A c ws m w hs hr);have hsb:=QbZ ws hr.w (m+6);have HG:=Lh (gapsR_eq ws m last);have h1:=hr.lo;have h2:=hr.hi;obtain⟨sl,hsl⟩:∃sl,QaE ws m=sl:=⟨_,rfl⟩;rw[hsl] at HSL HG;have hb1: -300000≤sl:=by rw[←hsl];unfold QaE;omega
 have hb2:sl≤3000:=by rw[←hsl];unfold QaE;omega
 obtain⟨n,hn⟩:∃n,ws.length=n:=⟨_,rfl⟩;have HN:=Lh hn;rw[hn] at h3 HSL HG ⊢;obtain⟨kI,hki⟩:∃kI:Int,(n:Int)-1=kI:=⟨_,rfl⟩;have hk1: -1≤kI:=by omega
 have hk2:kI≤499:=by omega
 have HK:Hid ((n:Int)-1=kI):=Lh hki;obtain⟨q,hq⟩:∃q,sl.tdiv kI=q:=⟨_,rfl⟩;obtain⟨r,hr2⟩:∃r,sl.tmod kI=r:=⟨_,rfl⟩;have hqb: -300000≤q∧q≤300000:=by
  have h1:(sl.tdiv kI).natAbs=sl.natAbs/kI.natAbs:=Int.natAbs_tdiv sl kI;have h2:=Nat.div_le_self sl.natAbs kI.natAbs;rw[hq] at h1;omega
 obtain⟨hq1,hq2⟩:=hqb;have HF:Hid (∀j:Nat,gapF sl kI j=6+q+if(j:Int)<r then 1 else 0):=Lh (fun j=>by unfold gapF;rw[hq,hr2]);have hwq:IntKind.i64.wrap (sl.tdiv kI)=q:=by rw[hq];exact IntWalk.i64_in _ (by omega)
 have HWQ:=Lh hwq;have HQ:=Lh hq;have HR2:=Lh hr2;clear hs hr hn hsl hsb hwq hq hr2;go_enter Tryz.func111,Tryz.ntmps111;go_wp2_with (first|(go_at_call 130;refine HSL.out.mono ?_;rintro e w' ⟨rfl,rfl⟩)|fail);go_loopw [7,10] (fun v i wr=>∃j:Nat,i=.int .i64 j∧j≤n-1∧Hid (Own wr w.heap.size 3 v ((List.range j).map (gapR last sl kI)))∧Hid (Below w.heap.size w wr)) (fun _ i _=>n-1-(intOf i).toNat);(case atStart=>exact⟨0,rfl,by omega,Lh (Own.nil _ _ _),Lh bR⟩);case round=>
  obtain⟨j,rfl,hj,HO,HB⟩:=hrel;by_cases hlt:(j:Int)<kI
  ·obtain⟨A2,c2,hv2,-⟩:=HO.out.form;subst hv2;obtain⟨x,hx⟩:∃x,gapR last sl kI j=x:=⟨_,rfl⟩;have HX:Hid ((List.range (j+1)).map (gapR last sl kI)=(List.range j).map (gapR last sl kI)++[x]):=Lh (by rw[List.range_succ,List.map_append,←hx];rfl);obtain⟨L,hL⟩:∃L,(List.range j).map (gapR last sl kI)=L:=⟨_,rfl⟩;have hLl:L.length=j:=(by rw[←hL,qM,List.length_range]);rw[hL] at HO HX ⊢;have HO2:=HO;have HLL:=Lh hLl;have hk0:¬kI=0:=(by omega);have hk00:(kI==0)=false:=(by rw[beq_eq_false_iff_ne];exact hk0);have hwq:=HWQ.out;have hj4:j≤499:=(by omega);clear HO hL hLl;cases last with
   |true=>
    obtain rfl:x=6:=by rw[←hx];rfl
    clear hx;have HI:Hid (I64 (6)):=Lh (by unfold I64;omega);have HO3:=Lh (HO2.out.alloc (.cells #[.int .i64 (6)] 3));have HS3:Hid (w.heap.size≤wr.heap.size):=Lh HB.out.size
    go_wp2_with (first|(at_builtin;refine Qan (α:=Int) _ rfl (.tmp 37) (.tmp 39) 22 rfl w.heap.size 3 (.int .i64 0) 8 Tryz.underlying22 QaB rfl (by decide) _ L rfl HO3.out wr.heap.size #[.int .i64 (6)] (6) (0,0) 3 rfl (heap_alloc_new wr _) ⟨rfl,HI.out⟩ (by have:=HLL.out;omega) (by have:=HLL.out;omega) (by have:=HS3.out;simp;omega) _ rfl ?_;intro g5 p5 w5 hown5 hg5 hat5 hlt5;have HON:=Lh hown5;have HBN:=Lh (Qa9 HB.out HO2.out HS3.out hg5);clear hown5 hg5 hat5 hlt5)|fail)
    go_roundw;(case rel=>exact⟨j+1,by go_num,by omega,Lh (by rw[HX.out];exact HON.out),HBN⟩);case measure=>simp[intOf];omega
   |false=>
    by_cases hjr:(j:Int)<r
    ·have hxe:x=6+q+1:=by rw[←hx];show gapF sl kI j=_;rw[HF.out,if_pos hjr]
     subst hxe;have hr3:=HR2.out;clear hx;have HI:Hid (I64 (6+q+1)):=Lh (by unfold I64;omega);have HO3:=Lh (HO2.out.alloc (.cells #[.int .i64 (6+q+1)] 3));have HS3:Hid (w.heap.size≤wr.heap.size):=Lh HB.out.size
     go_wp2_with (first|(at_builtin;refine Qan (α:=Int) _ rfl (.tmp 37) (.tmp 39) 22 rfl w.heap.size 3 (.int .i64 0) 8 Tryz.underlying22 QaB rfl (by decide) _ L rfl HO3.out wr.heap.size #[.int .i64 (6+q+1)] (6+q+1) (0,0) 3 rfl (heap_alloc_new wr _) ⟨rfl,HI.out⟩ (by have:=HLL.out;omega) (by have:=HLL.out;omega) (by have:=HS3.out;simp;omega) _ rfl ?_;intro g5 p5 w5 hown5 hg5 hat5 hlt5;have HON:=Lh hown5;have HBN:=Lh (Qa9 HB.out HO2.out HS3.out hg5);clear hown5 hg5 hat5 hlt5)|fail)
     go_roundw;(case rel=>exact⟨j+1,by go_num,by omega,Lh (by rw[HX.out];exact HON.out),HBN⟩);case measure=>simp[intOf];omega
    ·have hxe:x=6+q:=by rw[←hx];show gapF sl kI j=_;rw[HF.out,if_neg hjr];omega
     subst hxe;have hr3:=HR2.out;clear hx;have HI:Hid (I64 (6+q)):=Lh (by unfold I64;omega);have HO3:=Lh (HO2.out.alloc (.cells #[.int .i64 (6+q)] 3));have HS3:Hid (w.heap.size≤wr.heap.size):=Lh HB.out.size
     go_wp2_with (first|(at_builtin;refine Qan (α:=Int) _ rfl (.tmp 37) (.tmp 39) 22 rfl w.heap.size 3 (.int .i64 0) 8 Tryz.underlying22 QaB rfl (by decide) _ L rfl HO3.out wr.heap.size #[.int .i64 (6+q)] (6+q) (0,0) 3 rfl (heap_alloc_new wr _) ⟨rfl,HI.out⟩ (by have:=HLL.out;omega) (by have:=HLL.out;omega) (by have:=HS3.out;simp;omega) _ rfl ?_;intro g5 p5 w5 hown5 hg5 hat5 hlt5;have HON:=Lh hown5;have HBN:=Lh (Qa9 HB.out HO2.out HS3.out hg5);clear hown5 hg5 hat5 hlt5)|fail)
     go_roundw;(case rel=>exact⟨j+1,by go_num,by omega,Lh (by rw[HX.out];exact HON.out),HBN⟩);case measure=>simp[intOf];omega
  ·have hje:j=n-1:=by omega
   have HFN:Hid (QcK ws m last=(List.range j).map (gapR last sl kI)):=Lh (by
    rw[HG.out,hje]
    by_cases h0:n=0
    ·subst h0;rfl
    ·rw[show((n-1:Nat):Int)=kI by omega])
   clear hje;go_wp2_with fail;go_ret;exact⟨_,rfl,by rw[HFN.out];exact HO.out,HB.out⟩
def curR (d:Nat)(cur:Int × Nat):Int:=if d=0 then -1 else cur.1
set_option maxRecDepth 100000 in
theorem rends_any (A:Option Addr)(c:Nat)(ws:List Int)(m:Int)(w:World)(hs:Sl w (fun b=>b<w.heap.size) A c ws)(hr:Reg ws m):
 Calls Tryz.prog 110 #[.slice A ws.length c,.int .i64 m] w fun e w'=>∃v,e=.returned (.tuple #[v,.int .i64 0])∧Own w' w.heap.size 3 v ((QcX ws m).map (fun(n:Nat)=>(n:Int)))∧Below w.heap.size w w':=by
 have HC:=Lh (regular_any A c ws m w hs hr);have HS:=Lh hs;have HR:=Lh hr;have h1:m≤2000:=hr.hi;have h2:500≤m:=hr.lo;have h3:ws.length≤500:=hr.n;have hn1:Value.int .i64 ((ws.length:Int)+1)=Value.int .i64 ((ws.length+1:Nat):Int):=by rw[Int.natCast_add];rfl
 have HN1:=Lh hn1;clear hs hr hn1;go_enter Tryz.func110,Tryz.ntmps110;go_wp2_with fail;refine HC.out.mono ?_;rintro e w1 ⟨rfl,hb1⟩;have HB1:=Lh hb1;clear HC hb1
 go_wp2_with (first|(refine Qa5 rfl 22 (.tmp 25) (.tmp 25) rfl 3 (.int .i64 0) 1 8 Tryz.underlying22 QaB (ws.length+1) HN1.out HN1.out (by omega) (by omega) ?_)|(refine Qa5 rfl 22 (.tmp 28) (.tmp 28) rfl 3 (.int .i64 0) 1 8 Tryz.underlying22 QaB (ws.length+1) HN1.out HN1.out (by omega) (by omega) ?_)|fail)
 have hr0:=Qbi w1 (ws.length+1) 3;have hr1:=Qbi (w1.alloc (.cells (madeCells #[Value.int .i64 0] (ws.length+1)) 3)) (ws.length+1) 3;rw[World.size_alloc] at hr1;have hb1:Below w1.heap.size w1 (w1.alloc (.cells (madeCells #[Value.int .i64 0] (ws.length+1)) 3)):=bR.alloc nL _;have hb2:Below (w1.alloc (.cells (madeCells #[Value.int .i64 0] (ws.length+1)) 3)).heap.size (w1.alloc (.cells (madeCells #[Value.int .i64 0] (ws.length+1)) 3)) _:=bR.alloc nL (.cells (madeCells #[Value.int .i64 0] (ws.length+1)) 3);have HCR:=Lh (hr0.to hb2);have HER:=Lh hr1;have HBc:=Lh (HB1.out.trans ((hb1.trans (hb2.mono (by simp))).mono HB1.out.size));obtain⟨Cb,hCb⟩:∃Cb,w1.heap.size=Cb:=⟨_,rfl⟩;have HNE:Hid (Cb≠Cb+1∧w.heap.size≤Cb∧w.heap.size≤Cb+1):=Lh ⟨by omega,by have:=HB1.out.size;omega,by have:=HB1.out.size;omega⟩;obtain⟨Eb,hEb⟩:∃Eb,Cb+1=Eb:=⟨_,rfl⟩;obtain⟨wA,hwA⟩:∃wA,(w1.alloc (.cells (madeCells #[Value.int .i64 0] (ws.length+1)) 3)).alloc (.cells (madeCells #[Value.int .i64 0] (ws.length+1)) 3)=wA:=⟨_,rfl⟩;rw[hwA] at HCR HER HBc ⊢;rw[hCb] at HCR HER ⊢;rw[hEb] at HER HNE ⊢;clear hr0 hr1 hb1 hb2 hwA hCb hEb HB1 HN1;go_loopw [10] (fun z wr=>∃(k:Nat) (i1:Nat),z=.int .i64 ((i1:Int)-1)∧Hid (i1+k=ws.length)∧Hid (IRow wr Cb 3 (List.replicate i1 0++(bestL ws m k).map (·.1)))∧Hid (IRow wr Eb 3 (List.replicate i1 0++(bestL ws m k).map (fun x=>(x.2:Int))))∧Hid (Below w.heap.size w wr)) (fun z _=>(intOf z+1).toNat);(case atStart=>exact⟨0,ws.length,rfl,Lh (by omega),Lh (by rw[←rowC_start];exact HCR.out),Lh (by rw[←rowE_start];exact HER.out),HBc⟩);case round=>
  clear HCR HER HBc;obtain⟨k,i1,rfl,HIK,HCR,HER,HBw⟩:=hrel;by_cases hz:i1=0
  ·subst hz;have HKN:Hid (k=ws.length):=Lh (by have:=HIK.out;omega);have HE0:Hid (IRow wr Eb 3 ((bestL ws m ws.length).map (fun x=>(x.2:Int)))):=Lh (by have:=HER.out;rw[HKN.out] at this;exact this);clear HER HCR HKN HIK;rw[show((0:Nat):Int)-1= -1 from rfl];go_wp2_with fail;obtain⟨wo,rfl⟩:∃wo:World,wo=wr:=⟨_,rfl⟩;go_loopw [14,15] (fun v vi wq=>∃(f a:Nat) (dn:List Nat),vi=.int .i64 (a:Int)∧a≤ws.length∧Hid (ws.length-a≤f)∧Hid (QcX ws m=dn++chainE ((bestL ws m ws.length).map (·.2)) ws.length f a)∧Hid (dn.length≤a)∧Hid (Own wq wo.heap.size 3 v (dn.map (fun(n:Nat)=>(n:Int))))∧Hid (Below wo.heap.size wo wq)) (fun _ vi _=>ws.length-(intOf vi).toNat);(case atStart=>exact⟨ws.length,0,[],rfl,Nat.zero_le _,Lh (by omega),Lh rfl,Lh (Nat.zero_le _),Lh (Own.nil _ _ _),Lh bR⟩);case round=>
    obtain⟨f,a,dn,rfl,han,HF,HEN,HDL,HO,HBq⟩:=hrel;by_cases hlt:a<ws.length
    ·have hai:(a:Int)<(ws.length:Int):=by omega
     have ha0:(0:Int)≤(a:Int):=(by omega);obtain⟨f',rfl⟩:∃f',f=f'+1:=⟨f-1,by have:=HF.out;omega⟩;have HEA:=Lh (Qdk HR.out a hlt);have HNX:Hid (QcX ws m=(dn++[(bestAt ws m a).2])++chainE ((bestL ws m ws.length).map (·.2)) ws.length f' (bestAt ws m a).2):=Lh (by rw[HEN.out,chain_at ws m a f' hlt];simp);have HE1:=Lh (HE0.out.to HBq.out);have c0:wr.cell? ⟨Eb,a,none⟩=some (.int .i64 ((bestAt ws m a).2:Int)):=HE1.out.cell a (ends_at ws m a hlt);generalize (bestAt ws m a).2=en at*;have hba:Below wr.heap.size wr (wr.alloc (.cells #[.int .i64 (en:Int)] 3)):=bR.alloc nL _;have HO2:=Lh (HO.out.below hba);have HI:Hid (I64 (en:Int)):=Lh (by have:=HEA.out;unfold I64;omega);have HLD:Hid (dn.length≤500):=Lh (by have:=HDL.out;omega)
     have HCE:Hid (∀W,Below wo.heap.size wo W→W.cell? ⟨Eb,a,none⟩=some (.int .i64 (en:Int))):=Lh (fun W hW=>by
      have h1:=c0
      have h2:=HE0.out.lt
      exact((hW.cell (p:=⟨Eb,a,none⟩) h2).trans ((HBq.out.cell (p:=⟨Eb,a,none⟩) h2).symm)).trans h1)
     clear hba
     go_upto_region 26 with(first|(at_builtin;refine Qan (α:=Int) _ rfl (.tmp 97) (.tmp 102) 22 rfl wo.heap.size 3 (.int .i64 0) 8 Tryz.underlying22 QaB rfl (by decide) _ (dn.map (fun(n:Nat)=>(n:Int))) rfl HO2.out wr.heap.size #[.int .i64 (en:Int)] (en:Int) (0,0) 3 rfl (heap_alloc_new wr _) ⟨rfl,HI.out⟩ (by have:=HLD.out;rw[qM];omega) (by have:=HLD.out;rw[qM];omega) (by have:=HBq.out.size;simp;omega) _ rfl ?_;intro g5 p5 w5 hown5 hg5 hat5 hlt5)|fail)
     have hb5:Below wo.heap.size wo w5:=Qa9 HBq.out HO.out HBq.out.size hg5;have HO5:=Lh hown5;have HB5:=Lh hb5;have c5:=HCE.out w5 hb5;clear hb5 hown5 hg5 hat5 hlt5 c0 HCE;go_wp2_with fail;go_roundw;(case rel=>exact⟨f',en,dn++[en],rfl,by have:=HEA.out;omega,Lh (by have:=HEA.out;have:=HF.out;omega),HNX,Lh (by have:=HEA.out;have:=HDL.out;simp;omega),Lh (by have:=HO5.out;rw[qM] at this;rw[List.map_append];exact this),HB5⟩);case measure=>(have hx1:=HEA.out;simp[intOf];omega)
    ·have hai:¬(a:Int)<(ws.length:Int):=by omega
     have HFN:Hid (QcX ws m=dn):=Lh (by
      have e:chainE ((bestL ws m ws.length).map (·.2)) ws.length f a=[]:=by
       cases f with
       |zero=>rfl
       |succ f=>rw[chainE,if_neg hlt]
      rw[HEN.out,e,List.append_nil])
     have HBz:=Lh (HBw.out.trans (HBq.out.mono HBw.out.size));have HOz:=Lh (HO.out.re HBw.out.size);go_wp2_with fail;go_ret2;exact⟨_,rfl,by rw[HFN.out];exact HOz.out,HBz.out⟩
  ·obtain⟨i,rfl⟩:∃i,i1=i+1:=⟨i1-1,by omega⟩;have hi0:(0:Int)≤(i:Int):=(by omega);have hi5:(i:Int)<500:=(by have:=HIK.out;omega);have hi6:(i:Int)<(ws.length:Int):=(by have:=HIK.out;omega);have hii:((i+1:Nat):Int)-1=(i:Int):=(by omega);rw[hii];clear hii hz;have HIN:Hid (i+1+k=ws.length):=HIK;have HC0:Hid (IRow wr Cb 3 (rowC ws m k i 0)):=Lh (by unfold rowC;rw[←row_open];exact HCR.out);have HE0:Hid (IRow wr Eb 3 (rowE ws m k i 0)):=Lh (by unfold rowE;rw[←row_open];exact HER.out);clear HIK HCR HER;have c0:wr.cell? ⟨Cb,i,none⟩=some (.int .i64 0):=HC0.out.cell i (row_at _ _ _);have f0:=HC0.out.fz i;have HC1:Hid (IRow (wr.setCell ⟨Cb,i,none⟩ (.int .i64 (-1))) Cb 3 (rowC ws m k i (curR 0 (0,0)))):=Lh (by have:=HC0.out.set i (-1);rwa [show rowC ws m k i 0=List.replicate i 0++0::(bestL ws m k).map (·.1) from rfl,row_set] at this);have HE1:Hid (IRow (wr.setCell ⟨Cb,i,none⟩ (.int .i64 (-1))) Eb 3 (rowE ws m k i 0)):=Lh (HE0.out.other (Ne.symm HNE.out.1) i (.int .i64 (-1)));have HB1:Hid (Below w.heap.size w (wr.setCell ⟨Cb,i,none⟩ (.int .i64 (-1)))):=Lh (HBw.out.setCell (p:=⟨Cb,i,none⟩) HNE.out.2.1 _);clear HC0 HE0 HBw;go_wp2_with fail;clear c0 f0;generalize wr.setCell ⟨Cb,i,none⟩ (.int .i64 (-1))=wB at*;go_loopw [11,12] (fun vs vj ww=>∃(d p:Nat) (s:Int) (cur:Int × Nat),vs=.int .i64 s∧vj=.int .i64 ((p:Int)+1)∧Hid (p=i+d∧p≤ws.length)∧s≤2006∧0≤s∧Hid (d=0→s=m+6)∧Hid (scanE ws.length (ws.drop i) (bestL ws m k) (m+6) (i+1) true (0,0)=scanE ws.length (ws.drop p) ((bestL ws m k).drop d) s (p+1) (decide (d=0)) cur)∧Hid (0≤cur.1∧cur.1≤4100000*((k:Int)+1))∧Hid (IRow ww Cb 3 (rowC ws m k i (curR d cur)))∧Hid (IRow ww Eb 3 (rowE ws m k i (cur.2:Int)))∧Hid (Below w.heap.size w ww)) (fun _ vj _=>(ws.length+1-(intOf vj).toNat));(case atStart=>exact⟨0,i,m+6,(0,0),rfl,rfl,Lh (by have:=HIN.out;omega),by omega,by omega,Lh (fun _=>rfl),Lh rfl,Lh (by simp;omega),HC1,HE1,HB1⟩);case round=>
    clear HC1 HE1 HB1;obtain⟨d,p,s,cur,rfl,rfl,HP,hs1,hs2,HD0,HSC,HCB,HCR,HER,HBw⟩:=hrel;by_cases hpl:p<ws.length
    ·have hp0:(0:Int)≤(p:Int):=by omega
     have hpn:(p:Int)<(ws.length:Int):=(by omega);have hpn1:(p:Int)+1≤(ws.length:Int):=(by omega);obtain⟨b,o,rfl,_,hbl,hok,hc⟩:=Qa8 (HS.out.to HBw.out) hpl;have hx:=HR.out.w ws[p] (List.getElem_mem hpl);have HDR:Hid (ws.drop p=ws[p]::ws.drop (p+1)):=Lh (List.drop_eq_getElem_cons hpl);obtain⟨x,hxe⟩:∃x,ws[p]=x:=⟨_,rfl⟩;rw[hxe] at hc hx HDR;obtain⟨hx1,hx2⟩:=hx;clear hxe hok hbl;obtain⟨s2,hs2e⟩:∃s2,s-6-x=s2:=⟨_,rfl⟩;have hsa:s2≤2006:=(by omega);have hsb: -500≤s2:=(by omega);have HSE:Hid (s-(x+6)=s2):=Lh (by omega);have HD1:Hid (d=0→0≤s2):=Lh (fun h=>by have:=HD0.out h;omega);go_upto_region 16 with(fail);(try rw[hs2e]);clear hs2e hc;by_cases hneg:s2<0
     ·have hd1:d≠0:=fun h=>by have:=HD1.out h;omega
      have HRES:Hid (scanE ws.length (ws.drop i) (bestL ws m k) (m+6) (i+1) true (0,0)=cur):=Lh (by rw[HSC.out,HDR.out];exact scanE_neg _ _ _ _ _ _ _ _ (by rw[HSE.out];exact hneg));have HCR2:Hid (IRow wr Cb 3 (rowC ws m k i cur.1)):=Lh (by have:=HCR.out;unfold curR at this;rwa [if_neg hd1] at this);clear HCR;go_wp2_with fail;go_roundw;(case rel=>exact⟨k+1,i,by go_num,Lh (by have:=HIN.out;omega),Lh (by rw[←rowC_next HIN.out HRES.out];exact HCR2.out),Lh (by rw[←rowE_next HIN.out HRES.out];exact HER.out),HBw⟩);case measure=>(first|(simp[intOf];done)|(simp[intOf];omega))
     ·have hnn:0≤s2:=by omega
      have HNN:Hid (¬s-(x+6)<0):=Lh (by rw[HSE.out];exact hneg);obtain⟨bd,hbd⟩:∃bd,(bestL ws m k)[d]? =some bd:=by
       have h:=Qbh ws m k;exact⟨_,qG (by have:=HP.out;have:=HIN.out;omega)⟩
      have hbb:=Qdl HR.out k bd (List.mem_of_getElem? hbd);have HHD:=Lh (head_drop _ _ _ hbd)
      have c2:wr.cell? ⟨Cb,p+1,none⟩=some (.int .i64 bd.1):=HCR.out.cell (p+1) (by
       have e:p+1=i+d+1:=(by have:=HP.out.1;omega)
       rw[e,show rowC ws m k i (curR d cur)=List.replicate i 0++curR d cur::(bestL ws m k).map (·.1) from rfl,row_behind,List.getElem?_map,hbd];rfl)
      have hk5:(k:Int)≤500:=(by have:=HIN.out;omega);have hb0:0≤bd.1:=hbb.1;have hb1:bd.1≤2050000000:=(by have:=hbb.2;omega);have hbk:bd.1≤4100000*(k:Int):=hbb.2;obtain⟨cb,hcb⟩:∃x,bd.1=x:=⟨_,rfl⟩;rw[hcb] at c2 hb0 hb1 hbk;have HCBE:=Lh hcb;clear hcb hbd hbb;obtain⟨q,hq⟩:∃q,s2*s2=q:=⟨_,rfl⟩;have hq0:0≤q:=(by rw[←hq];exact Int.mul_nonneg hnn hnn);have hq1:q≤4024036:=(by rw[←hq];exact Int.mul_le_mul hsa hsa hnn (by omega));have HQ:=Lh hq;have hw1:IntKind.i64.wrap (s2*s2)=q:=(by rw[hq];exact IntWalk.i64_in _ (by omega));have hw2:IntKind.i64.wrap (q+cb)=q+cb:=IntWalk.i64_in _ (by omega);clear hq;by_cases hlast:p+1=ws.length
      ·have HRES:Hid (scanE ws.length (ws.drop i) (bestL ws m k) (m+6) (i+1) true (0,0)=(0,ws.length)):=Lh (by rw[HSC.out,HDR.out,hlast];exact scanE_last _ _ _ _ _ _ _ HNN.out);have HRS2:Hid (scanE ws.length (ws.drop i) (bestL ws m k) (m+6) (i+1) true (0,0)=scanE ws.length (ws.drop ws.length) ((bestL ws m k).drop (d+1)) s2 (ws.length+1) (decide (d+1=0)) (0,ws.length)):=Lh (by rw[HRES.out,List.drop_length];rfl);have c3:wr.cell? ⟨Cb,ws.length,none⟩=some (.int .i64 cb):=hlast▸c2;have hl1:(p:Int)+1=(ws.length:Int):=(by omega);by_cases hd0:d=0
       ·subst hd0;have hcc:curR 0 cur= -1:=rfl;rw[hcc] at HCR;clear hcc;have c0:wr.cell? ⟨Cb,i,none⟩=some (.int .i64 (-1)):=HCR.out.cell i (row_at _ _ _);have f0:=HCR.out.fz i;have HE1:Hid (IRow (wr.setCell ⟨Cb,i,none⟩ (.int .i64 (0))) Eb 3 (rowE ws m k i (cur.2:Int))):=Lh (HER.out.other (Ne.symm HNE.out.1) i (.int .i64 (0)));have c1:=HE1.out.cell i (row_at _ _ _);have f1:=HE1.out.fz i;have HC2:Hid (IRow ((wr.setCell ⟨Cb,i,none⟩ (.int .i64 (0))).setCell ⟨Eb,i,none⟩ (.int .i64 (ws.length:Int))) Cb 3 (rowC ws m k i (0))):=Lh (by have:=(HCR.out.set i (0)).other HNE.out.1 i (.int .i64 (ws.length:Int));rwa [show rowC ws m k i (-1)=List.replicate i 0++(-1)::(bestL ws m k).map (·.1) from rfl,row_set] at this);have HE2:Hid (IRow ((wr.setCell ⟨Cb,i,none⟩ (.int .i64 (0))).setCell ⟨Eb,i,none⟩ (.int .i64 (ws.length:Int))) Eb 3 (rowE ws m k i (ws.length:Int))):=Lh (by have:=HE1.out.set i (ws.length:Int);rwa [show rowE ws m k i (cur.2:Int)=List.replicate i 0++(cur.2:Int)::(bestL ws m k).map (fun x=>(x.2:Int)) from rfl,row_set] at this);have HB2:Hid (Below w.heap.size w ((wr.setCell ⟨Cb,i,none⟩ (.int .i64 (0))).setCell ⟨Eb,i,none⟩ (.int .i64 (ws.length:Int)))):=Lh ((HBw.out.setCell (p:=⟨Cb,i,none⟩) HNE.out.2.1 _).setCell (p:=⟨Eb,i,none⟩) HNE.out.2.2 _);clear HE1;go_wp2_with fail;go_roundw;(case rel=>exact⟨0+1,ws.length,s2,(0,ws.length),rfl,by go_num,Lh (by have:=HP.out;omega),hsa,hnn,Lh (fun h=>absurd h (by omega)),Lh (HRS2.out),Lh (by simp only;omega),HC2,HE2,HB2⟩);case measure=>(first|(simp[intOf];done)|(simp[intOf];omega))
       ·have hcc:curR d cur=cur.1:=by unfold curR;rw[if_neg hd0]
        rw[hcc] at HCR;have hc0:¬cur.1<0:=(by have:=HCB.out.1;omega);have hc1:0≤cur.1:=HCB.out.1;clear hcc;have c0:wr.cell? ⟨Cb,i,none⟩=some (.int .i64 (cur.1)):=HCR.out.cell i (row_at _ _ _);have f0:=HCR.out.fz i;have HE1:Hid (IRow (wr.setCell ⟨Cb,i,none⟩ (.int .i64 (0))) Eb 3 (rowE ws m k i (cur.2:Int))):=Lh (HER.out.other (Ne.symm HNE.out.1) i (.int .i64 (0)));have c1:=HE1.out.cell i (row_at _ _ _);have f1:=HE1.out.fz i;have HC2:Hid (IRow ((wr.setCell ⟨Cb,i,none⟩ (.int .i64 (0))).setCell ⟨Eb,i,none⟩ (.int .i64 (ws.length:Int))) Cb 3 (rowC ws m k i (0))):=Lh (by have:=(HCR.out.set i (0)).other HNE.out.1 i (.int .i64 (ws.length:Int));rwa [show rowC ws m k i (cur.1)=List.replicate i 0++(cur.1)::(bestL ws m k).map (·.1) from rfl,row_set] at this);have HE2:Hid (IRow ((wr.setCell ⟨Cb,i,none⟩ (.int .i64 (0))).setCell ⟨Eb,i,none⟩ (.int .i64 (ws.length:Int))) Eb 3 (rowE ws m k i (ws.length:Int))):=Lh (by have:=HE1.out.set i (ws.length:Int);rwa [show rowE ws m k i (cur.2:Int)=List.replicate i 0++(cur.2:Int)::(bestL ws m k).map (fun x=>(x.2:Int)) from rfl,row_set] at this);have HB2:Hid (Below w.heap.size w ((wr.setCell ⟨Cb,i,none⟩ (.int .i64 (0))).setCell ⟨Eb,i,none⟩ (.int .i64 (ws.length:Int)))):=Lh ((HBw.out.setCell (p:=⟨Cb,i,none⟩) HNE.out.2.1 _).setCell (p:=⟨Eb,i,none⟩) HNE.out.2.2 _);clear HE1;go_wp2_with fail;go_roundw;(case rel=>exact⟨d+1,ws.length,s2,(0,ws.length),rfl,by go_num,Lh (by have:=HP.out;omega),hsa,hnn,Lh (fun h=>absurd h (by omega)),Lh (HRS2.out),Lh (by simp only;omega),HC2,HE2,HB2⟩);case measure=>(first|(simp[intOf];done)|(simp[intOf];omega))
      ·have hl1:¬(p:Int)+1=(ws.length:Int):=by omega
       have hl2:((p:Int)+1==(ws.length:Int))=false:=by rw[beq_eq_false_iff_ne];omega
       have HST:Hid (scanE ws.length (ws.drop i) (bestL ws m k) (m+6) (i+1) true (0,0)=scanE ws.length (ws.drop (p+1)) ((bestL ws m k).drop (d+1)) s2 (p+1+1) false (if decide (d=0)=true∨q+cb≤cur.1 then(q+cb,p+1) else cur)):=Lh (by
        rw[HSC.out,HDR.out,scanE_step _ _ _ _ _ _ _ _ HNN.out (by omega),HSE.out,HHD.out,HQ.out,HCBE.out,List.tail_drop])
       by_cases hd0:d=0
       ·subst hd0;have hcc:curR 0 cur= -1:=rfl;rw[hcc] at HCR;clear hcc;have c0:wr.cell? ⟨Cb,i,none⟩=some (.int .i64 (-1)):=HCR.out.cell i (row_at _ _ _);have f0:=HCR.out.fz i;have HE1:Hid (IRow (wr.setCell ⟨Cb,i,none⟩ (.int .i64 (q+cb))) Eb 3 (rowE ws m k i (cur.2:Int))):=Lh (HER.out.other (Ne.symm HNE.out.1) i (.int .i64 (q+cb)));have c1:=HE1.out.cell i (row_at _ _ _);have f1:=HE1.out.fz i;have HC2:Hid (IRow ((wr.setCell ⟨Cb,i,none⟩ (.int .i64 (q+cb))).setCell ⟨Eb,i,none⟩ (.int .i64 ((p:Int)+1))) Cb 3 (rowC ws m k i (q+cb))):=Lh (by have:=(HCR.out.set i (q+cb)).other HNE.out.1 i (.int .i64 ((p:Int)+1));rwa [show rowC ws m k i (-1)=List.replicate i 0++(-1)::(bestL ws m k).map (·.1) from rfl,row_set] at this);have HE2:Hid (IRow ((wr.setCell ⟨Cb,i,none⟩ (.int .i64 (q+cb))).setCell ⟨Eb,i,none⟩ (.int .i64 ((p:Int)+1))) Eb 3 (rowE ws m k i ((p+1:Nat):Int))):=Lh (by have:=HE1.out.set i ((p:Int)+1);rwa [show rowE ws m k i (cur.2:Int)=List.replicate i 0++(cur.2:Int)::(bestL ws m k).map (fun x=>(x.2:Int)) from rfl,row_set] at this);have HB2:Hid (Below w.heap.size w ((wr.setCell ⟨Cb,i,none⟩ (.int .i64 (q+cb))).setCell ⟨Eb,i,none⟩ (.int .i64 ((p:Int)+1)))):=Lh ((HBw.out.setCell (p:=⟨Cb,i,none⟩) HNE.out.2.1 _).setCell (p:=⟨Eb,i,none⟩) HNE.out.2.2 _);clear HE1;go_wp2_with fail;go_roundw;(case rel=>exact⟨0+1,p+1,s2,(q+cb,p+1),rfl,by go_num,Lh (by have:=HP.out;omega),hsa,hnn,Lh (fun h=>absurd h (by omega)),Lh (by rw[HST.out,if_pos (by simp)];rfl),Lh (by simp only;omega),HC2,HE2,HB2⟩);case measure=>(first|(simp[intOf];done)|(simp[intOf];omega))
       ·have hcc:curR d cur=cur.1:=by unfold curR;rw[if_neg hd0]
        rw[hcc] at HCR;have hc0:¬cur.1<0:=(by have:=HCB.out.1;omega);clear hcc;by_cases hle:q+cb≤cur.1
        ·skip;have c0:wr.cell? ⟨Cb,i,none⟩=some (.int .i64 (cur.1)):=HCR.out.cell i (row_at _ _ _);have f0:=HCR.out.fz i;have HE1:Hid (IRow (wr.setCell ⟨Cb,i,none⟩ (.int .i64 (q+cb))) Eb 3 (rowE ws m k i (cur.2:Int))):=Lh (HER.out.other (Ne.symm HNE.out.1) i (.int .i64 (q+cb)));have c1:=HE1.out.cell i (row_at _ _ _);have f1:=HE1.out.fz i;have HC2:Hid (IRow ((wr.setCell ⟨Cb,i,none⟩ (.int .i64 (q+cb))).setCell ⟨Eb,i,none⟩ (.int .i64 ((p:Int)+1))) Cb 3 (rowC ws m k i (q+cb))):=Lh (by have:=(HCR.out.set i (q+cb)).other HNE.out.1 i (.int .i64 ((p:Int)+1));rwa [show rowC ws m k i (cur.1)=List.replicate i 0++(cur.1)::(bestL ws m k).map (·.1) from rfl,row_set] at this);have HE2:Hid (IRow ((wr.setCell ⟨Cb,i,none⟩ (.int .i64 (q+cb))).setCell ⟨Eb,i,none⟩ (.int .i64 ((p:Int)+1))) Eb 3 (rowE ws m k i ((p+1:Nat):Int))):=Lh (by have:=HE1.out.set i ((p:Int)+1);rwa [show rowE ws m k i (cur.2:Int)=List.replicate i 0++(cur.2:Int)::(bestL ws m k).map (fun x=>(x.2:Int)) from rfl,row_set] at this);have HB2:Hid (Below w.heap.size w ((wr.setCell ⟨Cb,i,none⟩ (.int .i64 (q+cb))).setCell ⟨Eb,i,none⟩ (.int .i64 ((p:Int)+1)))):=Lh ((HBw.out.setCell (p:=⟨Cb,i,none⟩) HNE.out.2.1 _).setCell (p:=⟨Eb,i,none⟩) HNE.out.2.2 _);clear HE1;go_wp2_with fail;go_roundw;(case rel=>exact⟨d+1,p+1,s2,(q+cb,p+1),rfl,by go_num,Lh (by have:=HP.out;omega),hsa,hnn,Lh (fun h=>absurd h (by omega)),Lh (by rw[HST.out,if_pos (.inr hle)];rfl),Lh (by simp only;omega),HC2,HE2,HB2⟩);case measure=>(first|(simp[intOf];done)|(simp[intOf];omega))
        ·have c0:wr.cell? ⟨Cb,i,none⟩=some (.int .i64 cur.1):=HCR.out.cell i (row_at _ _ _);have HCR2:Hid (IRow wr Cb 3 (rowC ws m k i (curR (d+1) cur))):=HCR;have HST2:Hid (scanE ws.length (ws.drop i) (bestL ws m k) (m+6) (i+1) true (0,0)=scanE ws.length (ws.drop (p+1)) ((bestL ws m k).drop (d+1)) s2 (p+1+1) (decide (d+1=0)) cur):=Lh (by rw[HST.out,if_neg (by simp[hd0];omega)];rfl);go_wp2_with fail;go_roundw;(case rel=>exact⟨d+1,p+1,s2,cur,rfl,by go_num,Lh (by have:=HP.out;omega),hsa,hnn,Lh (fun h=>absurd h (by omega)),HST2,HCB,HCR2,HER,HBw⟩);case measure=>(first|(simp[intOf];done)|(simp[intOf];omega))
    ·obtain rfl:p=ws.length:=by have:=HP.out;omega
     have hd1:d≠0:=(by have:=HP.out;have:=HIN.out;omega);have HRES:Hid (scanE ws.length (ws.drop i) (bestL ws m k) (m+6) (i+1) true (0,0)=cur):=Lh (by rw[HSC.out,List.drop_length];rfl);have HCR2:Hid (IRow wr Cb 3 (rowC ws m k i cur.1)):=Lh (by have:=HCR.out;unfold curR at this;rwa [if_neg hd1] at this);have hpn1:¬(ws.length:Int)+1≤(ws.length:Int):=(by omega);clear HCR hpl;go_wp2_with fail;go_roundw;(case rel=>exact⟨k+1,i,by go_num,Lh (by have:=HIN.out;omega),Lh (by rw[←rowC_next HIN.out HRES.out];exact HCR2.out),Lh (by rw[←rowE_next HIN.out HRES.out];exact HER.out),HBw⟩);case measure=>(first|(simp[intOf];done)|(simp[intOf];omega))
section
variable {P:Program} {ops:Array Oper} {Q:Exit→Act→World→Prop} {md:Region.Mode} {C:World→Prop} {hs:List Nat} {Rl:World→World→Prop} {Φ:Nat→SPR Rl} {m:Nat}
def kindP (hs:List Nat)(m:Nat)(pre:List Nat)(k:Nat):Nat:=if Nat.beq k m then 2 else if pre.contains k then 3 else if hs.contains k then 1 else 0
def wpRP (P:Program)(md:Region.Mode)(ops:Array Oper)(C:World→Prop)(hs:List Nat){Rl:World→World→Prop}(Φ:Nat→SPR Rl)(m:Nat)(pre:List Nat)(fin:Act→(Nat→World→Prop)→Prop):List Oper→Nat→Act→(Nat→World→Prop)→Prop
 |[],_,a,G=>fin a G
 |o::l,k,a,G=>
  if kindP hs m pre k=2 then fin a G
  else if kindP hs m pre k=3 then wpRP P md ops C hs Φ m pre fin l (k+1) a G
  else if Region.wanted o (yielded ops a.tmps)=true then
   if kindP hs m pre k=1 then Safe P md ops C Φ k o a G∧∀v,Joint C G ((Φ k).p v)→wpRP P md ops C hs Φ m pre fin l (k+1) (a.put o.dst v) (QdQ G k ((Φ k).p v))
   else o.quiet P a C (fun a'=>wpRP P md ops C hs Φ m pre fin l (k+1) a' G)
  else wpRP P md ops C hs Φ m pre fin l (k+1) (a.put o.dst undef) G
structure WP (P:Program)(md:Region.Mode)(ops:Array Oper)(C:World→Prop){Rl:World→World→Prop}(hs:List Nat)(Φ:Nat→SPR Rl)(m:Nat)(pre:List Nat)(fin:Act→(Nat→World→Prop)→Prop)(l:List Oper)(k:Nat)(a:Act)(G:Nat→World→Prop):Prop where
 h:wpRP P md ops C hs Φ m pre fin l k a G
end
section
variable {P:Program} {ops:Array Oper} {Q:Exit→Act→World→Prop} {md:Region.Mode} {C:World→Prop} {hs:List Nat} {Rl:World→World→Prop} {Φ:Nat→SPR Rl} {m:Nat} {pre:List Nat} {fin:Act→(Nat→World→Prop)→Prop} {T:Type} {f:T→World} {a:Act} {G:Nat→World→Prop} {o:Oper} {l:List Oper} {k:Nat}
end
theorem QbR {w w':World}{base:Nat}{e:TypeId}{v:Value}{l:List Int}(h:Own w base e v l)(hk:∀g,v.ownBlock=some g→w'.heap[g]? =w.heap[g]?):Own w' base e v l:=by
 obtain⟨xs,hx,ho,hr⟩:=h;refine⟨xs,⟨hx.1,?_⟩,ho,fun i hi=>hr i hi⟩;rcases hx.2 with hn|⟨g,cap,cur,rfl,hb,hg,rest⟩
 ·exact .inl hn
 ·exact .inr ⟨g,cap,cur,rfl,hb,(hk g rfl).trans hg,rest⟩
theorem own_ne {α:Type}[Rep α]{w:World}{B b:Nat}{e e':TypeId}{v:Value}{l:List α}{cs:Array Value}{fr:Nat × Nat}(h:Own w B e v l)(hb:w.heap[b]? =some (.cells cs e' fr))(hne:e≠e'):v.ownBlock≠some b:=by
 obtain⟨xs,hx,_⟩:=h;rcases hx.2 with⟨rfl,_⟩|⟨g,cap,cur,rfl,_,hg,_⟩
 ·simp[Value.ownBlock]
 ·intro he;have:g=b:=(by simpa[Value.ownBlock] using he);subst this;rw[hg] at hb;cases hb;exact hne rfl
theorem cutL_snoc {α:Type}(l:List α){i j:Nat}(h:i≤j)(hj:j<l.length):Qcj l i (j+1)=Qcj l i j++[l[j]]:=by
 unfold Qcj;rw[qT hj,List.drop_append_of_le_length (by rw[qK];omega)]
theorem cutL_nil {α:Type}(l:List α)(i:Nat):Qcj l i i=[]:=by
 unfold Qcj;exact List.drop_of_length_le (by rw[qK];omega)
theorem notesP_one (x:Word):QaI [x]=if x.n≠0 then[x.n-1] else[]:=by
 unfold QaI;by_cases h:x.n=0<;>simp[h]
theorem lit_int {w:World}{b:Nat}{t:TypeId}{x:Int}{S:Nat→Prop}(h:w.heap[b]? =some (.cells #[.int .i64 x] t (0,0)))(hx:I64 x)(hS:S b):Sl w S (some ⟨b,0,none⟩) 1 [x]:=
 Sl.block (l:=[x]) h hS (by simp[maxLen]) (fun i hi=>by
  obtain rfl:i=0:=by simpa using hi
  exact⟨rfl,hx⟩)
def vocab:List ByteArray:=[⟨#[97]⟩,⟨#[116,104,101]⟩,⟨#[99,111,117,114,116]⟩,⟨#[119,105,108,108]⟩,⟨#[104,101,97,114]⟩,⟨#[109,111,116,105,111,110]⟩,⟨#[111,102]⟩,⟨#[112,108,97,105,110,116,105,102,102]⟩,⟨#[77,46,73,46,84,46]⟩,⟨#[82,117,108,101]⟩,⟨#[49,50,40,98,41]⟩,⟨#[100,105,115,109,105,115,115,101,100]⟩,⟨#[119,105,116,104]⟩,⟨#[112,114,101,106,117,100,105,99,101]⟩,⟨#[97,110,100]⟩,⟨#[99,111,115,116,115]⟩,⟨#[87,87,87,64,87]⟩,⟨#[105,116]⟩,⟨#[105,115]⟩,⟨#[115,111]⟩,⟨#[111,114,100,101,114,101,100,46]⟩,⟨#[97,98,99,100,101,102,103,104,105,106,107,108,109,110,111,112,113,114,115,116,117,118,119,120,121,122,97,98,99,100,101,102,103,104,105,106,107,108,109,110]⟩]
def keysV:List ByteArray:=[⟨#[99,111,115,116,115]⟩,⟨#[109,111,116,105,111,110]⟩,⟨#[82,117,108,101]⟩,⟨#[115,109,105,116,104]⟩]
def Good (x:Word):Prop:=Qa7 x.s=true∧(x.key=⟨#[]⟩∨Qa7 x.key=true)∧(x.t=0∨x.t=1)
theorem vocab_good:vocab.all Qa7=true:=by decide +kernel
theorem keysV_good:keysV.all Qa7=true:=by decide +kernel
theorem lits_at {l:List ByteArray}(hl:l.all Qa7=true)(j:Nat)(hj:j<l.length):∃s,(l.map Value.string)[j]? =some (.string s)∧Qa7 s=true:=
 ⟨l[j],by simp[hj],(List.all_eq_true.1 hl) _ (List.getElem_mem hj)⟩
set_option maxRecDepth 100000 in
theorem one_any (n:Nat)(hn:n≤16777216)(w:World):
 Calls Tryz.prog 106 #[.int .i64 (n:Int)] w fun e w'=>∃x:Word,e=.returned x.val∧Good x∧x.n=0∧Below w.heap.size w w':=by
 have hb:(n:Int)≤16777216:=by omega
 have h0:0≤(n:Int):=by omega
 obtain⟨s,c0,hs⟩:=lits_at vocab_good (n%22) (Nat.mod_lt _ (by decide));simp only[vocab,List.map_cons,List.map_nil] at c0;have HS:=Lh hs;clear hs;go_enter Tryz.func106,Tryz.ntmps106;by_cases hk:n/22%6=0
 ·obtain⟨key,k0,hkey⟩:=lits_at keysV_good (n/132%4) (Nat.mod_lt _ (by decide));simp only[keysV,List.map_cons,List.map_nil] at k0;have hk':(n:Int)/22%6=0:=(by omega);have HK:=Lh hkey;clear hk hkey;go_wp2_with fail;refine bodyPost_ret (v:=.agg #[.string s,.string key,.int .i64 (↑n/528%2),.int .i64 0]) (by simp[results,Tryz.results106,go_sem]) rfl ⟨⟨s,key,(n:Int)/528%2,0⟩,rfl,⟨HS.out,.inr HK.out,?_⟩,rfl,?_⟩
  ·show(n:Int)/528%2=0∨(n:Int)/528%2=1;omega
  ·exact((((bR.alloc nL _).alloc (by simp) _).alloc (by simp;omega) _).alloc (by simp;omega) _)
 ·have hk':¬(n:Int)/22%6=0:=by omega
  clear hk;go_wp2_with fail;refine bodyPost_ret (v:=.agg #[.string s,.string ⟨#[]⟩,.int .i64 0,.int .i64 0]) (by simp[results,Tryz.results106,go_sem]) rfl ⟨⟨s,⟨#[]⟩,0,0⟩,rfl,⟨HS.out,.inl rfl,.inl rfl⟩,rfl,?_⟩;exact(((bR.alloc nL _).alloc (by simp) _).alloc (by simp;omega) _)
theorem valid_size {s:ByteArray}(h:Qa7 s=true):s.size≤40:=by
 unfold Qa7 at h;rw[Bool.and_eq_true,decide_eq_true_iff] at h;exact h.1.2
theorem good_ok {x:Word}(h:Good x)(h0:x.n=0):x.ok:=by
 have h1:=valid_size h.1;refine⟨by unfold maxLen;omega,?_,?_,by rw[h0];exact⟨by decide,by decide⟩⟩
 ·rcases h.2.1 with e|e
  ·rw[e];decide
  ·have:=valid_size e;unfold maxLen;omega
 ·rcases h.2.2 with e|e<;>rw[e]<;>exact⟨by decide,by decide⟩
theorem Qd1:(Tryz.prog.info? 104).map (fun i=>(i.zero,i.size,i.bytes))=some (some (.agg #[.string ⟨#[]⟩,.string ⟨#[]⟩,.int .i64 0,.int .i64 0]),Rep.size Word,48):=by kernel_rfl
theorem part_any (n most:Nat)(hn:n≤1000000)(hm:1≤most)(hm2:most≤1000)(w:World):
 Calls Tryz.prog 84 #[.int .i64 (n:Int),.int .i64 (most:Int)] w fun e w'=>∃v,e=.returned v∧∃l:List Word,Own w' w.heap.size 104 v l∧l.length=1+n%most∧(∀x∈l,Good x∧x.n=0)∧Below w.heap.size w w':=by
 have h1:(n:Int)≤1000000:=by omega
 have h0:0≤(n:Int):=by omega
 have h2:(most:Int)≤1000:=by omega
 have h3:1≤(most:Int):=by omega
 have h4:(most:Int)≠0:=by omega
 go_enter Tryz.func84,Tryz.ntmps84;go_wp2_with fail;obtain⟨z0,hz0⟩:∃z,z=bits BinOp.or IntKind.u32 (↑n) 1:=⟨_,rfl⟩;have hz1:0≤z0:=by rw[hz0];exact bits_lo_u32 ..
 have hz2:z0≤4294967295:=by rw[hz0];exact bits_hi_u32 ..
 rw[←hz0];clear hz0;have hq:(n:Int)%(most:Int)=((n%most:Nat):Int):=by omega
 have hql:n%most<most:=Nat.mod_lt _ hm;obtain⟨q,hqe⟩:∃q,q=n%most:=⟨_,rfl⟩;rw[←hqe] at hq hql;have HQ2:=Lh hqe;clear hqe;have HQ:=Lh hq;have hq2:((n:Int)%(most:Int))<1000:=by omega
 have hq3:0≤((n:Int)%(most:Int)):=by omega
 clear hq;go_loopw [5,6,7] (fun x v i wr=>∃k:Nat,k≤1+q∧i=.int .i64 k∧(∃z:Int,x=.int .u32 z∧0≤z∧z≤4294967295)∧(∃l:List Word,Own wr w.heap.size 104 v l∧l.length=k∧(∀x∈l,Good x∧x.n=0))∧Below w.heap.size w wr) (fun _ _ i _=>1+q-(intOf i).toNat);(case atStart=>exact⟨0,Nat.zero_le _,rfl,⟨z0,rfl,hz1,hz2⟩,⟨[],Own.nil _ _ _,rfl,fun _ h=>(by cases h)⟩,Below.refl _ _⟩);case round=>
  obtain⟨k,hk,rfl,⟨z,rfl,hz3,hz4⟩,⟨l,hown,hlen,hgood⟩,hb⟩:=hrel;have Hb:=Lh hb;have hzw:=hb.size;have HL:=Lh hlen;have HG:=Lh hgood;clear hb hlen hgood;obtain⟨A2,c2,rfl,_⟩:=hown.sl;by_cases hlt:k<1+q
  ·have hkl:(k:Int)<1+((n:Int)%(most:Int)):=by rw[HQ.out];omega
   have hk0:(0:Int)≤(k:Int):=(by omega);have hk1:(k:Int)≤1000:=(by omega);go_wp2_with fail;obtain⟨y,hy,hy2⟩:∃y:Nat,(z*1664525+1013904223)%4294967296/256=(y:Int)∧y≤16777216:=⟨((z*1664525+1013904223)%4294967296/256).toNat,by omega,by omega⟩;rw[hy];clear hy;refine(one_any y hy2 _).mono ?_;rintro e w4 ⟨x,rfl,hgx,hx0,hb4⟩;have hown4:=hown.below hb4;have Hb4:=Lh (Hb.out.trans (hb4.mono hzw));have hz4:=hb4.size;have HX:=Lh hgx;have HX0:=Lh hx0;have HOK:=Lh (good_ok hgx hx0);have hll:l.length≤1000:=(by have:=HL.out;omega);clear hb4 hgx hx0;unfold Word.val;go_wp2_with (at_builtin;refine Qan (α:=Word) _ rfl (.tmp 22) (.tmp 27) 99 rfl w.heap.size 104 (.agg #[.string ⟨#[]⟩,.string ⟨#[]⟩,.int .i64 0,.int .i64 0]) 48 Tryz.underlying99 Qd1 rfl (by decide) _ l rfl (hown4.alloc _) w4.heap.size _ x (0,0) 104 rfl (heap_alloc_new w4 _) ⟨rfl,HOK.out⟩ (by omega) (by omega) (by first|omega|(simp;done)|(simp;omega)) _ rfl ?_;intro g cap w5 hown5 hg5 hat5 hlt5);go_roundw;(case rel=>exact⟨k+1,by omega,by go_num,⟨_,rfl,by omega,by omega⟩,⟨_,hown5,by simp[HL.out],fun y hy=>(by rcases List.mem_append.1 hy with h|h;exact HG.out y h;rw[List.mem_singleton] at h;subst h;exact⟨HX.out,HX0.out⟩)⟩,Qa9 Hb4.out hown4 (by omega) hg5⟩);case measure=>simp[intOf];omega
  ·have hkl:¬(k:Int)<1+((n:Int)%(most:Int)):=by rw[HQ.out];omega
   go_wp2_with fail;go_ret;exact⟨_,rfl,l,hown,by rw[HL.out,←HQ2.out];omega,HG.out,Hb.out⟩
def aro (n m:Int):Int:=(if n<0 then -(n+1) else n)%m
theorem aro_lt (n m:Int)(h:1≤m):0≤aro n m∧aro n m<m:=⟨Int.emod_nonneg _ (by omega),Int.emod_lt_of_pos _ (by omega)⟩
theorem QcH (n m:Int)(w:World)(hn:I64 n)(hm:1≤m)(hm2:m≤9223372036854775807):
 Calls Tryz.prog 13 #[.int .i64 n,.int .i64 m] w fun e w'=>e=.returned (.int .i64 (aro n m))∧w=w':=by
 obtain⟨h0,h1⟩:=hn;go_enter Tryz.func13,Tryz.ntmps13;by_cases h:n<0
 ·have e:aro n m=(-(n+1))%m:=by unfold aro;rw[if_pos h]
  have E:=Lh e;clear e;have hp:0≤ -(n+1):=(by omega);go_wp2;go_ret;refine⟨Qad ?_,rfl⟩;rw[E.out];rw[←Int.neg_tmod,Int.tmod_eq_emod_of_nonneg hp]
 ·have e:aro n m=n%m:=by unfold aro;rw[if_neg h]
  have E:=Lh e;clear e;go_wp2;go_ret;exact⟨Qad (by rw[E.out]),rfl⟩
theorem Qbp (A:Option Addr)(c:Nat)(l:List Int)(i:Int)(m:Int)(w:World)(hl:Sl w (fun b=>b<w.heap.size) A c l)(hm:1≤m)(hm2:m≤1000000)(hi0:0≤i):
 Calls Tryz.prog 30 #[.slice A l.length c,.int .i64 i,.int .i64 m] w fun e w'=>∃r:Nat,e=.returned (.int .i64 (r:Int))∧(r:Int)<m∧w=w':=by
 obtain⟨i,rfl⟩:=Int.eq_ofNat_of_zero_le hi0;clear hi0;have hlen:l.length≤9223372036854775807:=by have:=hl.1;have:=hl.2.1;unfold maxLen at this;omega
 have h0:¬(i:Int)<0:=by omega
 by_cases hi:i<l.length
 ·obtain⟨b,o,rfl,_,hbl,hx,hc⟩:=Qa8 hl hi;obtain⟨a0,a1⟩:=aro_lt l[i] m hm;generalize l[i]=x at*;have Hx:=Lh hx;have hi1:¬(l.length:Int)≤(i:Int):=(by omega);have hi2:(i:Int)<(l.length:Int):=(by omega);have hi0:0≤(i:Int):=(by omega);clear hx hl hi;go_enter Tryz.func30,Tryz.ntmps30;go_wp2_with fail;refine(QcH x m _ Hx.out hm (by omega)).mono ?_;rintro e w' ⟨rfl,rfl⟩;generalize aro x m=r at*;go_wp2_with fail;go_ret;exact⟨r.toNat,Qad (by omega),by omega,rfl⟩
 ·have hi1:(l.length:Int)≤(i:Int):=by omega
  clear hl hi;go_enter Tryz.func30,Tryz.ntmps30;go_wp2_with fail;go_ret;exact⟨0,rfl,by omega,rfl⟩
def QdD (l:List Word):Prop:=∀x∈l,x.n=0
theorem last_any (A:Option Addr)(c:Nat)(l:List (List Word))(n:Nat)(w:World)(hl:Sl w (fun b=>b<w.heap.size) A c l)(hn:n≤1000000):
 Calls Tryz.prog 86 #[.slice A l.length c,.int .i64 (n:Int)] w fun e w'=>∃b:Bool,e=.returned (.bool b)∧(b=false→∀p∈l.drop (n+1),QdD p)∧w=w':=by
 have hlen:l.length≤9223372036854775807:=by have:=hl.1;have:=hl.2.1;unfold maxLen at this;omega
 have h1:(n:Int)≤1000000:=by omega
 have h0:0≤(n:Int):=by omega
 have Hl:=Lh hl;clear hl;go_enter Tryz.func86,Tryz.ntmps86;go_wp2_with fail;go_loopw [5,6] (fun i _ wr=>∃k:Nat,n+1≤k∧(k≤l.length∨k=n+1)∧i=.int .i64 k∧Hid (∀j (hj:j<l.length),n+1≤j→j<k→QdD l[j])∧wr=w) (fun i _ _=>l.length-(intOf i).toNat);(case atStart=>exact⟨n+1,Nat.le_refl _,.inr rfl,by go_num,(fun j hj h1 h2=>absurd h1 (by omega)),rfl⟩);case round=>
  obtain⟨k,hk,hk2,rfl,hno,rfl⟩:=hrel;by_cases hlt:k<l.length
  ·obtain⟨b,o,Ap,cp,rfl,_,hbl,hc,hp⟩:=Qa4 Hl.out hlt;have hkl:(k:Int)<(l.length:Int):=(by omega);have hk0:(0:Int)≤(k:Int):=(by omega);have HT:=Lh (fun(h:QdD l[k]) j (hj:j<l.length) (h1:n+1≤j) (h2:j<k+1)=>(by by_cases e:j=k;subst e;exact h;exact hno.out j hj h1 (by omega):QdD l[j]));have h2:l[k].length≤9223372036854775807:=(by have:=hp.1;have:=hp.2.1;unfold maxLen at this;omega);generalize l[k]=p at*;have Hp:=Lh hp;have hk3:(k:Int)≤9223372036854775806:=(by omega);clear hp hk2 hno;go_wp2_with fail;obtain⟨wo,rfl⟩:∃wo:World,wo=wr:=⟨_,rfl⟩;go_loopw [6] (fun i wr=>∃j:Nat,j≤p.length∧i=.int .i64 j∧Hid (∀i (hi:i<p.length),i<j→p[i].n=0)∧wr=wo) (fun i _=>p.length-(intOf i).toNat);(case atStart=>exact⟨0,Nat.zero_le _,rfl,(fun i hi h=>absurd h (by omega)),rfl⟩);case round=>
    obtain⟨j,hj,rfl,hno2,rfl⟩:=hrel;by_cases hjl:j<p.length
    ·obtain⟨b3,o3,rfl,_,hbl3,hok,d0,d1,d2,d3⟩:=QbU Hp.out hjl;have hj1:(j:Int)<(p.length:Int):=(by omega);have hj0:(0:Int)≤(j:Int):=(by omega);have HT2:=Lh (fun(h:p[j].n=0) i (hi:i<p.length) (h2:i<j+1)=>(by by_cases e:i=j;subst e;exact h;exact hno2.out i hi (by omega):p[i].n=0));have hr:=hok.2.2.2;generalize p[j]=x at*;clear hok d0 d1 d2;by_cases hx:x.n=0
     ·have E:=Lh (HT2.out hx);rw[hx] at d3;clear hx HT2 hno2;go_wp2_with fail;go_roundw;(case rel=>exact⟨j+1,by omega,by go_num,E.out,by first|trivial|rfl⟩);case measure=>simp[intOf];omega
     ·have hB:(x.n==0)=false:=beq_eq_false_iff_ne.2 hx;clear hx HT2 hno2;go_wp2_with fail;go_ret;exact⟨true,rfl,fun h=>(by cases h),rfl⟩
    ·have E:=Lh (HT.out (fun x hx=>by obtain⟨i,hi,rfl⟩:=List.getElem_of_mem hx;exact hno2.out i hi (by omega)));clear HT hno2;go_wp2_with fail;go_roundw;(case rel=>exact⟨k+1,by omega,by omega,by go_num,E.out,by first|trivial|rfl⟩);case measure=>simp[intOf];omega
  ·have E:=Lh (fun p (hp:p∈l.drop (n+1))=>(by
    obtain⟨i,hi,rfl⟩:=List.getElem_of_mem hp
    rw[List.length_drop] at hi
    rw[List.getElem_drop]
    exact hno.out (n+1+i) (by omega) (by omega) (by omega):QdD p))
   clear hno;go_wp2_with fail;go_ret;exact⟨false,rfl,fun _=>E.out,rfl⟩
def Qbe (x:Word)(m:Int):Word:=⟨x.s,x.key,x.t,m⟩
def QdS (p:List Word)(m:Int)(b:Bool)(q:List Word):Prop:=
 (b=false∧q=p)∨(b=true∧∃i,∃h:i<p.length,(∀j (hj:j<p.length),i≤j→p[j].n=0)∧q=p.set i (Qbe p[i] m))
def RefP (g cap:Nat)(l:List Word)(m:Int)(later:Bool)(w:World)(e:Ending)(w':World):Prop:=
 ∃b:Bool,e=.returned (.bool b)∧∃q,QdS l m b q∧(b=true→later=false)∧q.length=l.length∧Own w' 0 104 (.slice (some ⟨g,0,none⟩) l.length cap) q∧w.grownBy w' (some g)
theorem refer_any (g cap:Nat)(l:List Word)(n:Nat)(m:Int)(later:Bool)(w:World)(hown:Own w 0 104 (.slice (some ⟨g,0,none⟩) l.length cap) l)(hn:n≤1000000)(hm0:0≤m)(hm:m≤1000)(hlen:l.length≤1000):
 Calls Tryz.prog 85 #[.slice (some ⟨g,0,none⟩) l.length cap,.int .i64 (n:Int),.int .i64 m,.bool later] w (RefP g cap l m later w):=by
 have h1:(n:Int)≤1000000:=by omega
 have h0:0≤(n:Int):=by omega
 have h2:(l.length:Int)≤1000:=by omega
 obtain⟨A,c,e1,hs⟩:=hown.sl;obtain⟨rfl,_,rfl⟩:=Value.slice.inj e1;have Hs:=Lh hs;have HO:=Lh hown;clear e1 hs hown;go_enter Tryz.func85,Tryz.ntmps85;go_wp2_with fail;go_loopw [9,10] (fun f i wr=>∃k:Nat,k≤l.length∧i=.int .i64 k∧(∃q:Nat,f=.int .i64 (q:Int)∧q≤k∧Hid (∀j (hj:j<l.length),q≤j→j<k→l[j].n=0))∧wr=w) (fun _ i _=>l.length-(intOf i).toNat);(case atStart=>exact⟨0,Nat.zero_le _,rfl,⟨0,rfl,Nat.le_refl _,(fun j hj h1 h2=>absurd h2 (by omega))⟩,rfl⟩);case round=>
  obtain⟨k,hk,rfl,⟨q,rfl,hqk,hno⟩,rfl⟩:=hrel;by_cases hlt:k<l.length
  ·obtain⟨b3,o3,e3,_,hbl3,hok,d0,d1,d2,d3⟩:=QbU Hs.out hlt;obtain⟨rfl,rfl⟩:b3=g∧o3=0:=by simpa using e3.symm
   simp only[Nat.zero_add] at d3;have hkl:(k:Int)<(l.length:Int):=(by omega);have hk0:(0:Int)≤(k:Int):=(by omega);have HT:=Lh (fun(h:l[k].n=0) j (hj:j<l.length) (h1:q≤j) (h2:j<k+1)=>(by by_cases e:j=k;subst e;exact h;exact hno.out j hj h1 (by omega):l[j].n=0));have hr:=hok.2.2.2;generalize l[k]=x at*;clear hok d0 d1 d2 e3;by_cases hx:x.n=0
   ·have E:=Lh (HT.out hx);rw[hx] at d3;clear hx HT hno;go_wp2_with fail;go_roundw;(case rel=>exact⟨k+1,by omega,by go_num,⟨q,rfl,by omega,E.out⟩,by first|trivial|rfl⟩);case measure=>simp[intOf];omega
   ·have hB:(x.n==0)=false:=beq_eq_false_iff_ne.2 hx;clear hx HT hno;go_wp2_with fail;go_roundw;(case rel=>exact⟨k+1,by omega,by go_num,⟨k+1,by go_num,by omega,(fun j hj h1 h2=>absurd h2 (by omega))⟩,by first|trivial|rfl⟩);case measure=>simp[intOf];omega
  ·obtain rfl:k=l.length:=by omega
   have hno2:=Lh (fun j (hj:j<l.length) (h1:q≤j)=>hno.out j hj h1 hj);clear hno;cases later with
   |true=>
    go_wp2_with fail;go_ret;exact⟨false,rfl,l,.inl ⟨rfl,rfl⟩,fun h=>(by cases h),rfl,HO.out,World.grownBy.refl _ _⟩
   |false=>
    by_cases hq:q<l.length
    ·have hq1:(q:Int)<(l.length:Int):=by omega
     have hq0:(0:Int)≤(q:Int):=(by omega);have hmod:n%(l.length-q)<l.length-q:=Nat.mod_lt _ (by omega);have hmi:(n:Int)%((l.length:Int)-(q:Int))=((n%(l.length-q):Nat):Int):=by
      rw[Int.natCast_emod];congr 1;omega
     generalize n%(l.length-q)=r at*;obtain⟨g',cap',es,e4,_,hg,_,hr4,hcell,hfz⟩:=HO.out.at_ (show q+r<l.length by omega);obtain⟨re,hok⟩:=hr4;subst re;have c3:=hcell 3 _ rfl;rw[show Rep.size Word=4 from rfl] at c3;obtain⟨rfl,_⟩:g'=g∧cap'=cap:=by
      have:=Value.slice.inj e4;simp at this;exact⟨this.1.symm,this.2.symm⟩
     have HH:=Lh (HO.out.setf (q+r) 3 (show q+r<l.length by omega) (by decide) (.int .i64 m) rfl (Qbe l[q+r] m) (fun S es h=>by
      obtain⟨h1,h2⟩:=h
      subst h1
      exact⟨rfl,h2.1,h2.2.1,h2.2.2.1,⟨by show -9223372036854775808≤m;omega,by show m≤9223372036854775807;omega⟩⟩) (o:=(q+r)*4+3) rfl)
     have HR:Hid (QdS l m true (l.set (q+r) (Qbe l[q+r] m))):=.inr ⟨rfl,q+r,by omega,fun j hj h=>hno2.out j hj (by omega),rfl⟩;have hk1:(q:Int)+(r:Int)<(l.length:Int):=(by omega);have hk0:0≤(q:Int)+(r:Int):=(by omega);generalize l[q+r].n=old at*;have HL:Hid ((l.set (q+r) (Qbe l[q+r] m)).length=l.length):=Lh (by simp);generalize l.set (q+r) _=l' at*;clear hok hcell e4;go_wp2_with fail;go_ret;exact⟨true,rfl,_,HR.out,fun _=>rfl,HL.out,HH.out.1,HH.out.2⟩
    ·have hq1:¬(q:Int)<(l.length:Int):=by omega
     go_wp2_with fail;go_ret;exact⟨false,rfl,l,.inl ⟨rfl,rfl⟩,fun h=>(by cases h),rfl,HO.out,World.grownBy.refl _ _⟩
theorem raw_info:(Tryz.prog.info? 99).map (fun i=>(i.zero,i.size,i.bytes))=some (some (.slice none 0 0),Rep.size Raw,24):=by kernel_rfl
def Fresh (m:Nat)(p:List Word):Prop:=1≤p.length∧p.length≤m∧∀x∈p,Good x∧x.n=0
theorem Own.fit {α:Type}[Rep α]{w w':World}{base:Nat}{e:TypeId}{v:Value}{l:List α}(h:Own w' base e v l)(hb:base=w.heap.size):∀g,v.ownBlock=some g→w.heap.size≤g:=fun g hg=>hb▸(h.lt g hg).1
structure St1 (w wr:World)(Y:Nat)(k:Nat)(v:Value)(us:List Raw)(ls:List (List Word)):Prop where
 y:TBox wr Y v (.slice none 0 0)
 x:TBox wr w.heap.size (.slice none 0 0) (.slice none 0 0)
 n:Nest wr (fun g=>Y<g) 99 104 v us ls
 l:ls.length=k
 f:∀p∈ls,Fresh 40 p
 b:Below w.heap.size w wr
theorem St1.push {w wr w4 w5:World}{Y k:Nat}{v v':Value}{us:List Raw}{ls:List (List Word)}{u:Raw}{p:List Word}{o:Obj}(h:St1 w wr Y k v us ls)(hY:w.heap.size<Y)(hb4:Below wr.heap.size wr w4)(hu:Own w4 wr.heap.size 104 u.v p)(hp:Fresh 40 p) (hown:Own w5 0 99 v' (us++[u])) (hg:(w4.alloc o).grownBy w5 v.ownBlock) (hat:v'.ownBlock=v.ownBlock∨v'.ownBlock=some (w4.alloc o).heap.size):
 St1 w (w5.setCell ⟨Y,0,none⟩ v') Y (k+1) v' (us++[u]) (ls++[p]):=by
 have hylt:=h.y.lt;have hz:=hb4.size;have hvB:∀g,v.ownBlock=some g→Y<g:=h.n.mv;have keep:∀b,b<w4.heap.size→some b≠v.ownBlock→w5.heap[b]? =w4.heap[b]? :=fun b hb hne=>(hg.block b (by simp;omega) hne).trans (Below.heap_alloc w4 o b hb)
 have y5:TBox w5 Y v (.slice none 0 0):=(h.y.below hb4).kept (keep Y (by omega) (fun e=>by have:=hvB Y e.symm;omega));have x5:TBox w5 w.heap.size (.slice none 0 0) (.slice none 0 0):=(h.x.below hb4).kept (keep _ (by omega) (fun e=>by have:=hvB _ e.symm;omega))
 have n5:Nest w5 (fun g=>Y<g) _ _ v' (us++[u]) (ls++[p]):=
  (Nest.push (B:=fun g=>Y<g∧g<wr.heap.size) (B':=fun g=>Y<g) (H:=(w4.alloc o).heap.size) ((h.n.mono fun g hg' hB=>⟨hB,hg'⟩).below hb4) (hu.re (Nat.zero_le _)) (fun g hg'=>by have:=hu.fit rfl g hg';exact⟨fun hh=>by have:=hh.2;omega,by omega⟩) keep hown hat (by simp) (fun g hh=>hh.1) (by simp;omega))
 refine⟨y5.set0 v',x5.other (by omega) v',n5.kept fun g hg' hB=>Qaa w5 Y 0 v' (by omega),by simp[h.l],fun q hq=>?_,?_⟩
 ·rcases List.mem_append.1 hq with hq|hq
  ·exact h.f q hq
  ·rw[List.mem_singleton] at hq;subst hq;exact hp
 ·have b4:Below w.heap.size w w4:=h.b.trans (hb4.mono h.b.size);have b5:Below w.heap.size w w5:=(b4.alloc b4.size o).grown hg (by have:=b4.size;simp;omega) (fun g hg'=>by have:=hvB g hg';omega);exact b5.setCell (p:=⟨Y,0,none⟩) (by show w.heap.size≤Y;omega) v'
theorem St1.cell {w wr w4 w5:World}{Y k:Nat}{v:Value}{us:List Raw}{ls:List (List Word)}{o:Obj}(h:St1 w wr Y k v us ls)(_hY:w.heap.size<Y)(hb4:Below wr.heap.size wr w4)(hg:(w4.alloc o).grownBy w5 v.ownBlock):w5.cell? ⟨Y,0,none⟩=some v∧∀o,w5.frozen? ⟨Y,o,none⟩=false:=by
 have y5:TBox w5 Y v (.slice none 0 0):=(h.y.below hb4).kept ((hg.block Y (by have:=h.y.lt;have:=hb4.size;simp;omega) (fun e=>by have:=h.n.mv Y e.symm;omega)).trans (Below.heap_alloc w4 o Y (by have:=h.y.lt;have:=hb4.size;omega)));exact⟨y5.c0,y5.fz⟩
def Qbg (l:List Word):List Int:=(l.map (·.n)).filter (fun x=>x != 0)
theorem QaX (a b:List Word):Qbg (a++b)=Qbg a++Qbg b:=by unfold Qbg;rw[List.map_append,List.filter_append]
theorem Qem {l:List Word}(h:∀x∈l,x.n=0):Qbg l=[]:=by
 unfold Qbg;rw[List.filter_eq_nil_iff];intro y hy;obtain⟨x,hx,rfl⟩:=List.mem_map.1 hy;rw[h x hx];simp
theorem seqOf_none {ls:List (List Word)}(h:∀p∈ls,QdD p):Qbg ls.flatten=[]:=Qem fun x hx=>by
 obtain⟨p,hp,hxp⟩:=List.mem_flatten.1 hx;exact h p hp x hxp
theorem seq_set (ls:List (List Word))(k i:Nat)(hk:k<ls.length)(hi:i<ls[k].length)(m:Int)(hm:m≠0)(hl:∀p∈ls.drop (k+1),QdD p)(h0:∀j (hj:j<ls[k].length),i≤j→ls[k][j].n=0):
 Qbg (ls.set k (ls[k].set i (Qbe ls[k][i] m))).flatten=Qbg ls.flatten++[m]:=by
 have e1:ls.set k (ls[k].set i (Qbe ls[k][i] m))=ls.take k++(ls[k].set i (Qbe ls[k][i] m)::ls.drop (k+1)):=by rw[List.set_eq_take_append_cons_drop,if_pos hk]
 have e2:ls=ls.take k++(ls[k]::ls.drop (k+1)):=by rw[←List.drop_eq_getElem_cons hk,List.take_append_drop]
 have e3:ls[k].set i (Qbe ls[k][i] m)=ls[k].take i++(Qbe ls[k][i] m::ls[k].drop (i+1)):=by rw[List.set_eq_take_append_cons_drop,if_pos hi]
 have e4:ls[k]=ls[k].take i++ls[k].drop i:=(List.take_append_drop i _).symm
 have d1:Qbg (ls[k].drop i)=[]:=Qem fun x hx=>by
  obtain⟨j,hj,rfl⟩:=List.getElem_of_mem hx;rw[List.length_drop] at hj;rw[List.getElem_drop];exact h0 (i+j) (by omega) (by omega)
 have d2:Qbg (ls[k].drop (i+1))=[]:=Qem fun x hx=>by
  obtain⟨j,hj,rfl⟩:=List.getElem_of_mem hx;rw[List.length_drop] at hj;rw[List.getElem_drop];exact h0 (i+1+j) (by omega) (by omega)
 have d3:=seqOf_none hl;have d4:Qbg [Qbe ls[k][i] m]=[m]:=by simp[Qbg,Qbe,hm]
 have l1:Qbg (ls.set k (ls[k].set i (Qbe ls[k][i] m))).flatten=Qbg (ls.take k).flatten++(Qbg (ls[k].take i)++[m]):=by
  rw[e1,List.flatten_append,List.flatten_cons,QaX,QaX,d3,List.append_nil,e3,QaX,←List.singleton_append,QaX,d4,d2,List.append_nil]
 have l2:Qbg ls.flatten=Qbg (ls.take k).flatten++Qbg (ls[k].take i):=by
  conv=>lhs;rw[e2,List.flatten_append,List.flatten_cons,QaX,QaX,d3,List.append_nil,e4,QaX,d1,List.append_nil]
 rw[l1,l2,List.append_assoc]
structure GText (ls ns:List (List Word)):Prop where
 l1:1≤ls.length
 l4:ls.length≤4
 n3:ns.length≤3
 p:∀p∈ls,1≤p.length∧p.length≤40∧∀x∈p,Good x
 q:∀p∈ns,Fresh 12 p
 s:Qbg ls.flatten=(List.range ns.length).map (fun i:Nat=>(i:Int)+1)
structure St2 (w wr:World)(Y H:Nat)(v vn:Value)(us un:List Raw)(ls ns:List (List Word)):Prop where
 y:TBox wr Y v vn
 x:TBox wr w.heap.size (.slice none 0 0) (.slice none 0 0)
 n:Nest wr (fun g=>Y<g∧g<H) 99 104 v us ls
 m:Nest wr (fun g=>H≤g) 99 104 vn un ns
 b:Below w.heap.size w wr
 hz:H≤wr.heap.size
 yh:Y<H
theorem St1.next {w wr:World}{Y k:Nat}{v:Value}{us:List Raw}{ls:List (List Word)}(h:St1 w wr Y k v us ls):St2 w wr Y wr.heap.size v (.slice none 0 0) us [] ls []:=
 ⟨h.y,h.x,h.n.mono fun _ hg hB=>⟨hB,hg⟩,Nest.nil _ _ _ _,h.b,Nat.le_refl _,h.y.lt⟩
theorem St2.inner {w wr w':World}{Y H:Nat}{v vn:Value}{us un:List Raw}{ls ns:List (List Word)}(h:St2 w wr Y H v vn us un ls ns)(hY:w.heap.size<Y)(i:Nat)(hi:i<us.length){q:List Word}{g:Nat}(hg:us[i].v.ownBlock=some g) (hown:Own w' 0 104 us[i].v q) (hgr:wr.grownBy w' (some g)):St2 w w' Y H v vn us un (ls.set i q) ns:=by
 have hgB:=h.n.mi i hi g hg;have kp:∀b,b<wr.heap.size→b≠g→w'.heap[b]? =wr.heap[b]? :=fun b hb hne=>hgr.block b hb (fun e=>hne (by injection e))
 exact⟨h.y.kept (kp _ h.y.lt (by omega)),h.x.kept (kp _ h.x.lt (by omega)),h.n.inner i hi (fun b hb hne=>kp b hb (fun e=>hne (by rw[e,hg]))) hown,h.m.kept (fun b hb hB=>kp b hb (by omega)),h.b.grown hgr h.b.size (fun g' hg'=>by injection hg' with e;omega),Nat.le_trans h.hz hgr.size,h.yh⟩
theorem St2.cells {w wr w4 w5:World}{Y H:Nat}{v vn:Value}{us un:List Raw}{ls ns:List (List Word)}{o:Obj}(h:St2 w wr Y H v vn us un ls ns)(hb4:Below wr.heap.size wr w4)(hg:(w4.alloc o).grownBy w5 vn.ownBlock):w5.cell? ⟨Y,1,none⟩=some vn∧∀o,w5.frozen? ⟨Y,o,none⟩=false:=by
 have y5:TBox w5 Y v vn:=(h.y.below hb4).kept ((hg.block Y (by have:=h.y.lt;have:=hb4.size;simp;omega) (fun e=>by have:=h.m.mv Y e.symm;have:=h.yh;omega)).trans (Below.heap_alloc w4 o Y (by have:=h.y.lt;have:=hb4.size;omega)));exact⟨y5.c1,y5.fz⟩
theorem St2.push {w wr w4 w5:World}{Y H:Nat}{v vn v':Value}{us un:List Raw}{ls ns:List (List Word)}{u:Raw}{p:List Word}{o:Obj}(h:St2 w wr Y H v vn us un ls ns)(hY:w.heap.size<Y)(hb4:Below wr.heap.size wr w4)(hu:Own w4 wr.heap.size 104 u.v p) (hown:Own w5 0 99 v' (un++[u])) (hg:(w4.alloc o).grownBy w5 vn.ownBlock) (hat:v'.ownBlock=vn.ownBlock∨v'.ownBlock=some (w4.alloc o).heap.size):
 St2 w (w5.setCell ⟨Y,1,none⟩ v') Y H v v' us (un++[u]) ls (ns++[p]):=by
 have hylt:=h.y.lt;have hz:=hb4.size;have hzH:=h.hz;have hyH:=h.yh;have hvB:∀g,vn.ownBlock=some g→H≤g:=h.m.mv;have keep:∀b,b<w4.heap.size→some b≠vn.ownBlock→w5.heap[b]? =w4.heap[b]? :=fun b hb hne=>(hg.block b (by simp;omega) hne).trans (Below.heap_alloc w4 o b hb)
 have y5:TBox w5 Y v vn:=(h.y.below hb4).kept (keep Y (by omega) (fun e=>by have:=hvB Y e.symm;omega));have x5:TBox w5 w.heap.size (.slice none 0 0) (.slice none 0 0):=(h.x.below hb4).kept (keep _ (by omega) (fun e=>by have:=hvB _ e.symm;omega));have n5:Nest w5 (fun g=>Y<g∧g<H) _ _ v us ls:=(h.n.below hb4).kept fun g hg' hB=>keep g hg' (fun e=>by have:=hvB _ e.symm;omega)
 have m5:Nest w5 (fun g=>H≤g) _ _ v' (un++[u]) (ns++[p]):=
  (Nest.push (B:=fun g=>H≤g∧g<wr.heap.size) (B':=fun g=>H≤g) (H:=(w4.alloc o).heap.size) ((h.m.mono fun g hg' hB=>⟨hB,hg'⟩).below hb4) (hu.re (Nat.zero_le _)) (fun g hg'=>by have:=hu.fit rfl g hg';exact⟨fun hh=>by have:=hh.2;omega,by omega⟩) keep hown hat (by simp) (fun g hh=>hh.1) (by simp;omega))
 have b4:Below w.heap.size w w4:=h.b.trans (hb4.mono h.b.size);have b5:Below w.heap.size w w5:=(b4.alloc b4.size o).grown hg (by have:=b4.size;simp;omega) (fun g hg'=>by have:=hvB g hg';omega);have hz5:=hg.size;refine⟨y5.set1 v',x5.other (by omega) v',n5.kept fun g hg' hB=>Qaa w5 Y 1 v' (by omega),m5.kept fun g hg' hB=>Qaa w5 Y 1 v' (by omega),b5.setCell (p:=⟨Y,1,none⟩) (by show w.heap.size≤Y;omega) v',?_,h.yh⟩;have:(w4.alloc o).heap.size=w4.heap.size+1:=by simp
 simp only[World.size_setCell];omega
theorem St2.below {w wr w':World}{Y H:Nat}{v vn:Value}{us un:List Raw}{ls ns:List (List Word)}(h:St2 w wr Y H v vn us un ls ns)(hb:Below wr.heap.size wr w'):St2 w w' Y H v vn us un ls ns:=
 ⟨h.y.below hb,h.x.below hb,h.n.below hb,h.m.below hb,h.b.trans (hb.mono h.b.size),Nat.le_trans h.hz hb.size,h.yh⟩
theorem GText.next {ls ns:List (List Word)}(h:GText ls ns)(k:Nat)(hk:k<ls.length){q p:List Word}(hq:QdS ls[k] ((ns.length:Int)+1) true q)(hl:∀p∈ls.drop (k+1),QdD p)(hp:Fresh 12 p)(h3:ns.length+1≤3):GText (ls.set k q) (ns++[p]):=by
 rcases hq with⟨h0,_⟩|⟨_,i,hi,h0,rfl⟩
 ·cases h0
 ·have hpk:=h.p ls[k] (List.getElem_mem hk);refine⟨by rw[List.length_set];exact h.l1,by rw[List.length_set];exact h.l4,by simp;omega,fun r hr=>?_,fun r hr=>?_,?_⟩
  ·rcases List.mem_or_eq_of_mem_set hr with hr|rfl
   ·exact h.p r hr
   ·rw[List.length_set];refine⟨hpk.1,hpk.2.1,fun x hx=>?_⟩;rcases List.mem_or_eq_of_mem_set hx with hx|rfl
    ·exact hpk.2.2 x hx
    ·exact(show Good ls[k][i] from hpk.2.2 _ (List.getElem_mem hi))
  ·rcases List.mem_append.1 hr with hr|hr
   ·exact h.q r hr
   ·rw[List.mem_singleton] at hr;subst hr;exact hp
  ·rw[seq_set ls k i hk hi _ (by omega) hl h0,h.s,qA,List.length_singleton,List.range_succ,List.map_append];rfl
theorem St2.stay {w wr w':World}{Y H:Nat}{v vn:Value}{us un:List Raw}{ls ns:List (List Word)}(h:St2 w wr Y H v vn us un ls ns)(hY:w.heap.size<Y)(i:Nat)(hi:i<us.length)(hi':i<ls.length){q:List Word}{g:Nat}{m:Int}(hg:us[i].v.ownBlock=some g) (hq:QdS ls[i] m false q) (hown:Own w' 0 104 us[i].v q) (hgr:wr.grownBy w' (some g)):St2 w w' Y H v vn us un ls ns:=by
 rcases hq with⟨_,rfl⟩|⟨h0,_⟩
 ·have:=h.inner hY i hi hg hown hgr;rwa [List.set_getElem_self] at this
 ·cases h0
end Go.Proofs.YtakaielemicpkaaGreatDoor
