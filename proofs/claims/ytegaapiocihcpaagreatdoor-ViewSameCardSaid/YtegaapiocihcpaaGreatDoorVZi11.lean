/- Texts of VwCSm. -/
import Derived.Test.YtegaapiocihcpaaGreatDoorVZi10
set_option maxHeartbeats 8000000
namespace Go.Proofs.YtegaapiocihcpaaGreatDoor
open Go.RowKit
theorem tot_mem {l:List (List Word)}:∀p∈l,p.length≤tot l:=fun p hp=>by
 obtain⟨i,hi,rfl⟩:=List.getElem_of_mem hp;have:=totT_le l hi;omega
set_option maxRecDepth 100000 in
theorem shapeN_any (Aa Ab:Option Addr)(ca cb:Nat)(a b:List (List Word))(As:Option Addr)(cs ns:Nat)(sl:List Seal)(gs e ve:Int)(w:World) (ha:Sl w (fun b=>b<w.heap.size) Aa ca a) (hb:Sl w (fun b=>b<w.heap.size) Ab cb b) (hla:a.length≤1000) (hlb:b.length≤1000) (ht:tot (a++b)≤1048576) (hsl:Sl w (fun b=>b<w.heap.size) As cs sl) (hns:sl.length=ns) (hsz:ns≤1048576) (hg:∀s∈sl,0≤s.g∧s.g<16) (hT:Tabs w):
 Calls Tryz.prog 35 #[.agg #[.slice Aa a.length ca,.slice Ab b.length cb],.int .i64 e,.int .i64 ve,.slice As ns cs,.int .i64 gs] w fun r W'=>∃A1 c1 A2 c2,r=.returned (.agg #[.slice A1 (Qaz sl gs e ve ⟨a,b⟩).a.length c1,.slice A2 (Qaz sl gs e ve ⟨a,b⟩).b.length c2])∧ (∃us,Nest W' (fun i=>w.heap.size≤i) 110 66 (.slice A1 (Qaz sl gs e ve ⟨a,b⟩).a.length c1) us (Qaz sl gs e ve ⟨a,b⟩).a)∧(∃us,Nest W' (fun i=>w.heap.size≤i) 110 66 (.slice A2 (Qaz sl gs e ve ⟨a,b⟩).b.length c2) us (Qaz sl gs e ve ⟨a,b⟩).b)∧Below w.heap.size w W':=by
 obtain⟨na,hna⟩:∃n,a.length=n:=⟨_,rfl⟩;obtain⟨nb,hnb⟩:∃n,b.length=n:=⟨_,rfl⟩;rw[hna] at hla ⊢;rw[hnb] at hlb ⊢;obtain⟨wb,hwb⟩:∃wb,((((((w.alloc (.cells #[.slice Aa na ca,.slice Ab nb cb] 36)).alloc (.cells #[.int .i64 e] 3)).alloc (.cells #[.int .i64 ve] 3)).alloc (.cells #[.slice As ns cs] 26)).alloc (.cells #[.int .i64 gs] 3)).alloc (.cells #[.slice none 0 0,.slice none 0 0] 36)).alloc (.cells #[.int .i64 0] 3)=wb:=⟨_,rfl⟩;have hba:Below w.heap.size w wb:=by rw[←hwb];exact((((((bR.alloc nL _).alloc (by first|(simp;done)|(simp;omega)) _).alloc (by first|(simp;done)|(simp;omega)) _).alloc (by first|(simp;done)|(simp;omega)) _).alloc (by first|(simp;done)|(simp;omega)) _).alloc (by first|(simp;done)|(simp;omega)) _).alloc (by first|(simp;done)|(simp;omega)) _
 have hx0:ABox wb (w.heap.size) 36 [.slice Aa na ca,.slice Ab nb cb]:=by rw[←hwb];exact(Below.heap_alloc _ _ _ (by first|(simp;done)|(simp;omega))).trans ((Below.heap_alloc _ _ _ (by first|(simp;done)|(simp;omega))).trans ((Below.heap_alloc _ _ _ (by first|(simp;done)|(simp;omega))).trans ((Below.heap_alloc _ _ _ (by first|(simp;done)|(simp;omega))).trans ((Below.heap_alloc _ _ _ (by first|(simp;done)|(simp;omega))).trans ((Below.heap_alloc _ _ _ (by first|(simp;done)|(simp;omega))).trans (heap_alloc_new w _))))))
 have hx1:ABox wb (w.heap.size+1) 3 [.int .i64 e]:=by rw[←hwb];exact(Below.heap_alloc _ _ _ (by first|(simp;done)|(simp;omega))).trans ((Below.heap_alloc _ _ _ (by first|(simp;done)|(simp;omega))).trans ((Below.heap_alloc _ _ _ (by first|(simp;done)|(simp;omega))).trans ((Below.heap_alloc _ _ _ (by first|(simp;done)|(simp;omega))).trans ((Below.heap_alloc _ _ _ (by first|(simp;done)|(simp;omega))).trans (Qak (by simp))))))
 have hx2:ABox wb (w.heap.size+1+1) 3 [.int .i64 ve]:=by rw[←hwb];exact(Below.heap_alloc _ _ _ (by first|(simp;done)|(simp;omega))).trans ((Below.heap_alloc _ _ _ (by first|(simp;done)|(simp;omega))).trans ((Below.heap_alloc _ _ _ (by first|(simp;done)|(simp;omega))).trans ((Below.heap_alloc _ _ _ (by first|(simp;done)|(simp;omega))).trans (Qak (by simp)))))
 have hx3:ABox wb (w.heap.size+1+1+1) 26 [.slice As ns cs]:=by rw[←hwb];exact(Below.heap_alloc _ _ _ (by first|(simp;done)|(simp;omega))).trans ((Below.heap_alloc _ _ _ (by first|(simp;done)|(simp;omega))).trans ((Below.heap_alloc _ _ _ (by first|(simp;done)|(simp;omega))).trans (Qak (by simp))))
 have hx4:ABox wb (w.heap.size+1+1+1+1) 3 [.int .i64 gs]:=by rw[←hwb];exact(Below.heap_alloc _ _ _ (by first|(simp;done)|(simp;omega))).trans ((Below.heap_alloc _ _ _ (by first|(simp;done)|(simp;omega))).trans (Qak (by simp)))
 have hx5:ABox wb (w.heap.size+1+1+1+1+1) 36 [.slice none 0 0,.slice none 0 0]:=by rw[←hwb];exact(Below.heap_alloc _ _ _ (by first|(simp;done)|(simp;omega))).trans (Qak (by simp))
 have hx6:ABox wb (w.heap.size+1+1+1+1+1+1) 3 [.int .i64 0]:=by rw[←hwb];exact Qak (by simp)
 have hab:tot a+tot b≤1048576:=by rw[←tot_app];exact ht
 have HX0:=Lh hx0;have HX1:=Lh hx1;have HX2:=Lh hx2;have HX3:=Lh hx3;have HX4:=Lh hx4;have HX5:=Lh hx5;have HX6:=Lh hx6;have HC:Hid (∀W,wb.grownBy W (some (w.heap.size+1+1+1+1+1+1))→W.cell? ⟨w.heap.size+1+1+1,0,none⟩=some (.slice As ns cs)∧W.cell? ⟨w.heap.size+1+1+1+1,0,none⟩=some (.int .i64 gs)∧W.cell? ⟨w.heap.size+1,0,none⟩=some (.int .i64 e)∧W.cell? ⟨w.heap.size+1+1,0,none⟩=some (.int .i64 ve)):=Lh fun W hW=>
  ⟨(QcS hW (by omega) HX3.out).cell 0 rfl,(QcS hW (by omega) HX4.out).cell 0 rfl,(QcS hW (by omega) HX1.out).cell 0 rfl,(QcS hW (by omega) HX2.out).cell 0 rfl⟩
 have H1:=Lh (shape1_any (w.heap.size+1+1+1+1+1+1) Aa ca na a 0 ⟨w.heap.size+1+1+1,0,none⟩ ⟨w.heap.size+1+1+1+1,0,none⟩ ⟨w.heap.size+1,0,none⟩ ⟨w.heap.size+1+1,0,none⟩ As cs ns sl gs e ve w wb hna ha hla (by omega) hsl hns hsz hg hT hba (by omega) HX6.out HC.out)
 have H2:Hid (∀W,wb.grownBy W (some (w.heap.size+1+1+1+1+1+1))→ABox W (w.heap.size+1+1+1+1+1+1) 3 [.int .i64 ((tot a:Nat):Int)]→Calls Tryz.prog 81 #[.slice Ab nb cb,.pointer (some ⟨w.heap.size+1+1+1,0,none⟩),.pointer (some ⟨w.heap.size+1+1+1+1,0,none⟩),.pointer (some ⟨w.heap.size+1,0,none⟩),.pointer (some ⟨w.heap.size+1+1,0,none⟩),.pointer (some ⟨w.heap.size+1+1+1+1+1+1,0,none⟩)] W fun r W'=>∃v,r=.returned v∧(∃us,Nest W' (fun g=>W.heap.size≤g) 110 66 v us (shT (seeN sl gs e ve) (tot a) b))∧ABox W' (w.heap.size+1+1+1+1+1+1) 3 [.int .i64 ((tot a+tot b:Nat):Int)]∧W.grownBy W' (some (w.heap.size+1+1+1+1+1+1))):=Lh fun W hW hN=>
  shape1_any (w.heap.size+1+1+1+1+1+1) Ab cb nb b (tot a) ⟨w.heap.size+1+1+1,0,none⟩ ⟨w.heap.size+1+1+1+1,0,none⟩ ⟨w.heap.size+1,0,none⟩ ⟨w.heap.size+1+1,0,none⟩ As cs ns sl gs e ve w W hnb hb hlb hab hsl hns hsz hg hT (Qcq hba hW hba.size (fun g hg=>by cases hg;omega)) (by omega) hN (fun V hV=>HC.out V (Qa9 hW hV))
 have HBA:=Lh hba
 have HLA:Hid (∀p∈shT (seeN sl gs e ve) 0 a,p.length<9223372036854775808):=Lh fun p hp=>by
  have h1:=tot_mem p hp;rw[Qc4] at h1;omega
 have HLB:Hid (∀p∈shT (seeN sl gs e ve) (tot a) b,p.length<9223372036854775808):=Lh fun p hp=>by
  have h1:=tot_mem p hp;rw[Qc4] at h1;omega
 have HNA:Hid ((Qaz sl gs e ve ⟨a,b⟩).a.length=na∧(Qaz sl gs e ve ⟨a,b⟩).b.length=nb):=Lh ⟨(Qbo _ _ _).trans hna,(Qbo _ _ _).trans hnb⟩;rw[HNA.out.1,HNA.out.2];have HLN:Hid (a.length=na∧b.length=nb):=Lh ⟨hna,hnb⟩;have HEA:Hid ((Qaz sl gs e ve ⟨a,b⟩).a=shT (seeN sl gs e ve) 0 a∧(Qaz sl gs e ve ⟨a,b⟩).b=shT (seeN sl gs e ve) (tot a) b):=Lh ⟨rfl,rfl⟩;rw[HEA.out.1,HEA.out.2];clear ha hb hla hlb ht hsl hns hsz hg hT hna hnb hba hab hx0 hx1 hx2 hx3 hx4 hx5 hx6;go_enter Tryz.func35,Tryz.ntmps35;have HWB:=Lh hwb;clear hwb;go_upto_region 3 with(fail);rw[HWB.out];clear HWB;have y0:=HX0.out.cell 0 rfl
 go_upto_region 4 with(first|(go_at_call 81;refine H1.out.mono ?_;rintro r w1 ⟨v1,rfl,⟨us1,hn1⟩,hx,hgr⟩;obtain⟨A1,c1,rfl,-⟩:=hn1.slB HLA.out;rw[Qbo,HLN.out.1] at *;have HS1:=Lh hn1;have HXN:=Lh hx;have HG1:=Lh hgr;clear hn1 hx hgr y0)|fail)
 have y1:=(QcS HG1.out (by omega) HX0.out).cell 1 rfl;have HXN2:Hid (ABox w1 (w.heap.size+1+1+1+1+1+1) 3 [.int .i64 ((tot a:Nat):Int)]):=Lh (by have h:=HXN.out;rwa [Nat.zero_add] at h)
 go_upto_region 5 with(first|(go_at_call 81;refine(H2.out w1 HG1.out HXN2.out).mono ?_;rintro r w2 ⟨v2,rfl,⟨us2,hn2⟩,-,hgr⟩;obtain⟨A2,c2,rfl,-⟩:=hn2.slB HLB.out;rw[Qbo,HLN.out.2] at *;have HS2:=Lh hn2;have HG2:=Lh (Qa9 HG1.out hgr);have HG12:=Lh hgr;clear hn2 hgr y1;have hq:=QcS HG2.out (show w.heap.size+1+1+1+1+1≠w.heap.size+1+1+1+1+1+1 by omega) HX5.out;have q0:=hq.cell 0 rfl;have q1:=hq.cell 1 rfl;have f0:=hq.fz 0;have f1:=hq.fz 1;have HQ:=Lh hq;clear hq)|fail)
 have hlt6:w.heap.size+1+1+1+1+1+1<wb.heap.size:=(Array.getElem?_eq_some_iff.1 HX6.out).1;have hz1:wb.heap.size≤w1.heap.size:=HG1.out.size;have hz2:w1.heap.size≤w2.heap.size:=HG12.out.size;have HXF:=Lh ((HQ.out.set 0 (.slice A1 na c1)).set 1 (.slice A2 nb c2));have hoth:∀i,i≠w.heap.size+1+1+1+1+1→((w2.setCell ⟨w.heap.size+1+1+1+1+1,0,none⟩ (.slice A1 na c1)).setCell ⟨w.heap.size+1+1+1+1+1,1,none⟩ (.slice A2 nb c2)).heap[i]? =w2.heap[i]? :=fun i hi=>by rw[Qaa _ _ _ _ hi,Qaa _ _ _ _ hi]
 have hzz:((w2.setCell ⟨w.heap.size+1+1+1+1+1,0,none⟩ (.slice A1 na c1)).setCell ⟨w.heap.size+1+1+1+1+1,1,none⟩ (.slice A2 nb c2)).heap.size=w2.heap.size:=by simp
 have hbw:Below w.heap.size w w2:=Qcq HBA.out HG2.out HBA.out.size (fun g hg=>by cases hg;omega);have hb5:Below w.heap.size w ((w2.setCell ⟨w.heap.size+1+1+1+1+1,0,none⟩ (.slice A1 na c1)).setCell ⟨w.heap.size+1+1+1+1+1,1,none⟩ (.slice A2 nb c2)):=(hbw.setCell (p:=⟨w.heap.size+1+1+1+1+1,0,none⟩) (by show w.heap.size≤w.heap.size+1+1+1+1+1;omega) _).setCell (p:=⟨w.heap.size+1+1+1+1+1,1,none⟩) (by show w.heap.size≤w.heap.size+1+1+1+1+1;omega) _;clear q0 q1 f0 f1;go_wp2_with fail;refine bodyPost_ret (v:=.agg #[.slice A1 na c1,.slice A2 nb c2]) (QaN Tryz.results35 _ _ (w.heap.size+1+1+1+1+1) _ [.slice A1 na c1,.slice A2 nb c2] _ rfl HXF.out Tryz.underlying36 rfl (by kernel_rfl)) rfl ⟨A1,c1,A2,c2,rfl,?_,?_,hb5⟩
 ·exact⟨us1,(HS1.out.kept fun i hl (hi:wb.heap.size≤i)=>(hoth i (by omega)).trans (HG12.out.block i hl (by intro e;injection e with e;omega))).mono fun i _ (hi:wb.heap.size≤i)=>by show w.heap.size≤i;omega⟩
 ·exact⟨us2,(HS2.out.kept fun i hl (hi:w1.heap.size≤i)=>hoth i (by omega)).mono fun i _ (hi:w1.heap.size≤i)=>by show w.heap.size≤i;omega⟩
theorem shape_any (Aa Ab:Option Addr)(ca cb:Nat)(a b:List (List Word))(As:Option Addr)(cs ns:Nat)(sl:List Seal)(gs e ve:Int)(w:World) (ha:Sl w (fun b=>b<w.heap.size) Aa ca a) (hb:Sl w (fun b=>b<w.heap.size) Ab cb b) (hla:a.length≤1000) (hlb:b.length≤1000) (ht:tot (a++b)≤1048576) (hsl:Sl w (fun b=>b<w.heap.size) As cs sl) (hns:sl.length=ns) (hsz:ns≤1048576) (hg:∀s∈sl,0≤s.g∧s.g<16) (hT:Tabs w):
 Calls Tryz.prog 35 #[.agg #[.slice Aa a.length ca,.slice Ab b.length cb],.int .i64 e,.int .i64 ve,.slice As ns cs,.int .i64 gs] w fun r W'=>∃A1 c1 A2 c2,r=.returned (.agg #[.slice A1 (Qaz sl gs e ve ⟨a,b⟩).a.length c1,.slice A2 (Qaz sl gs e ve ⟨a,b⟩).b.length c2])∧ Sl W' (fun i=>w.heap.size≤i) A1 c1 (Qaz sl gs e ve ⟨a,b⟩).a∧Sl W' (fun i=>w.heap.size≤i) A2 c2 (Qaz sl gs e ve ⟨a,b⟩).b∧Below w.heap.size w W':=by
 have hab:tot a+tot b≤1048576:=by rw[←tot_app];exact ht
 refine(shapeN_any Aa Ab ca cb a b As cs ns sl gs e ve w ha hb hla hlb ht hsl hns hsz hg hT).mono ?_;rintro r W' ⟨A1,c1,A2,c2,h1,⟨us,h2⟩,⟨vs,h3⟩,h4⟩
 obtain⟨A3,c3,e3,h5⟩:=h2.slB fun p hp=>by
  have h1:=tot_mem p hp;rw[show tot (Qaz sl gs e ve ⟨a,b⟩).a=tot a from Qc4 _ _ _] at h1;omega
 obtain⟨A4,c4,e4,h6⟩:=h3.slB fun p hp=>by
  have h1:=tot_mem p hp;rw[show tot (Qaz sl gs e ve ⟨a,b⟩).b=tot b from Qc4 _ _ _] at h1;omega
 cases e3;cases e4;exact⟨A1,c1,A2,c2,h1,h5,h6,h4⟩
theorem may_zero (x:Int):may 0 x=true:=by
 unfold may;simp

theorem may_none {G:Nat}(h:G<65536):may G 0=decide (G=0):=by
 unfold may;by_cases h0:G=0
 ·subst h0;rfl
 ·rw[decide_eq_false h0,decide_eq_false_iff_not];intro e;have h1:=congrArg BitVec.toNat e;rw[BitVec.toNat_and,BitVec.toNat_ofNat,Nat.mod_eq_of_lt (by omega),show(BitVec.ofInt 64 0).toNat=0 from by decide,Nat.and_zero] at h1;exact h0 h1.symm

/-! The marks of a line stand together,and those behind them are of another line or page. -/
section
variable {l:List SectP} {sl:List Seal} {gs br:Int} {ps:List PageP} {i k:Nat}
end
theorem sh_at (q:Nat→Bool)(ws:List Word)(i:Nat):(shP q 0 ws).getD i noW=if i<ws.length then shW q i (ws.getD i noW) else noW:=by
 rw[List.getD_eq_getElem?_getD,List.getD_eq_getElem?_getD,shP_get,Nat.zero_add];by_cases h:i<ws.length
 ·rw[if_pos h,qG h];rfl
 ·rw[if_neg h,List.getElem?_eq_none (by omega)];rfl
theorem show_sh {sl:List Seal}{gs gs' e v:Int}(h:∀x,seeB sl gs e v x=false→seeB sl gs' e v x=false){ws:List Word}(hw:∀y∈ws,Good y)(i:Nat):Qc1 sl gs' e v (i:Int) ((shP (seeN sl gs e v) 0 ws).getD i noW).s=Qc1 sl gs' e v (i:Int) (ws.getD i noW).s:=by
 rw[sh_at];by_cases hi:i<ws.length
 ·rw[if_pos hi];unfold shW;cases hq:seeN sl gs e v i with
  |true=>rfl
  |false=>
   rw[if_neg (by decide)];unfold Qc1;have h1:=h (i:Int) hq;rw[h1,if_neg (by decide),if_neg (by decide)];have hg:Good (ws.getD i noW):=by
    rw[List.getD_eq_getElem?_getD,qG hi];exact hw _ (List.getElem_mem hi)
   rw[(fillW_law hg).2]
 ·rw[if_neg hi,List.getD_eq_getElem?_getD,List.getElem?_eq_none (by omega)];rfl
theorem line_sh {sl:List Seal}{gs gs' e v:Int}(h:∀x,seeB sl gs e v x=false→seeB sl gs' e v x=false){ws:List Word}(hw:∀y∈ws,Good y){x:LineP}(hx:0≤x.fr):Qa4 sl gs' e v (shP (seeN sl gs e v) 0 ws) x=Qa4 sl gs' e v ws x:=by
 unfold Qa4 lineW;congr 1;refine List.map_congr_left fun i _=>?_
 have h1:=show_sh h hw (x.fr.toNat+i);rwa [show((x.fr.toNat+i:Nat):Int)=x.fr+(i:Int) by omega] at h1
theorem lineTo_sh {sl:List Seal}{gs gs' e v:Int}(h:∀x,seeB sl gs e v x=false→seeB sl gs' e v x=false){ws:List Word}(hw:∀y∈ws,Good y)(f u:Nat):Qax sl gs' e v (shP (seeN sl gs e v) 0 ws) f u=Qax sl gs' e v ws f u:=by
 unfold Qax;refine List.map_congr_left fun i _=>?_
 have h1:=show_sh h hw (f+i);rwa [show((f+i:Nat):Int)=(f:Int)+(i:Int) by omega] at h1
theorem opts_sh {sl:List Seal}{gs e v:Int}{ws:List Word}{x:LineP}(hx:0≤x.fr)(n:Nat):Qcu sl gs e v (shP (seeN sl gs e v) 0 ws) x n=Qcu sl gs e v ws x n:=by
 unfold Qcu;refine List.map_congr_left fun i _=>?_
 unfold optW;cases ht:tellB sl gs e v (x.fr+(i:Int)) with
 |false=>rfl
 |true=>
  rw[if_pos rfl,if_pos rfl,sh_at];unfold tellB at ht;have h1:=(Bool.and_eq_true_iff.1 ht).2;have h2:seeN sl gs e v (x.fr.toNat+i)=true:=by
   unfold seeN;rwa [show((x.fr.toNat+i:Nat):Int)=x.fr+(i:Int) by omega]
  by_cases hi:x.fr.toNat+i<ws.length
  ·rw[if_pos hi];unfold shW;rw[if_pos h2]
  ·rw[if_neg hi,List.getD_eq_getElem?_getD,List.getElem?_eq_none (by omega)];rfl
theorem marksF_sh {sl:List Seal}{gs br:Int}{p:PageP}{ws:List Word}:∀(l:List LineP) (i:Nat),(∀x∈l,0≤x.fr)→QaE sl gs br p (shP (seeN sl gs p.entry p.ver) 0 ws) i l=QaE sl gs br p ws i l
 |[],_,_=>rfl
 |x::l,i,h=>by
  rw[QaE,QaE,marksF_sh l (i+1) fun y hy=>h y (List.mem_cons_of_mem _ hy)];congr 1;unfold marksL Qcj;rw[opts_sh (h x (List.mem_cons_self ..))]
theorem see_zero {sl:List Seal}(hg:∀s∈sl,0≤s.g∧s.g<16){gs e v:Int}(x:Int)(h:seeB sl gs e v x=false):seeB sl 0 e v x=false:=by
 unfold seeB at h ⊢;rw[may_none (gset_lt _ fun y hy=>(hg y (List.mem_filter.1 hy).1).2)];refine decide_eq_false fun h0=>?_
 rw[h0,may_zero] at h;exact absurd h (by decide)
/-! Sections and pages. -/
def QaD (sl:List Seal)(gs e:Int)(vs:List Int)(ts:List TextP):List TextP:=List.zipWith (fun v t=>Qaz sl gs e v t) vs ts
def Qbi (sl:List Seal)(gs:Int)(s:SectP):SectP:=⟨s.entry,s.frozen,s.vers,QaD sl gs s.entry s.vers s.texts⟩
theorem Qd2 (sl:List Seal)(gs e:Int)(vs:List Int)(ts:List TextP)(h:vs.length=ts.length):(QaD sl gs e vs ts).length=ts.length:=by
 unfold QaD;rw[List.length_zipWith];omega
theorem shTexts_sim (sl:List Seal)(gs e:Int):∀(vs:List Int) (ts:List TextP),vs.length=ts.length→(∀t∈ts,GText t.a t.b)→All2 (fun t u=>GText t.a t.b∧SimT t u) ts (QaD sl gs e vs ts)
 |[],[],_,_=>trivial
 |v::vs,t::ts,h,hg=>⟨⟨hg t (List.mem_cons_self ..),shX_sim _ (hg t (List.mem_cons_self ..))⟩,shTexts_sim sl gs e vs ts (by simpa using h) fun u hu=>hg u (List.mem_cons_of_mem _ hu)⟩
 |[],_::_,h,_=>absurd h (by simp)
 |_::_,[],h,_=>absurd h (by simp)
theorem versB_sim {m h:Int}(hz:Siz m h)(e:Int):∀(ts us:List TextP) (k:Nat) (num suf:Int) (vs:List Int),All2 (fun t u=>GText t.a t.b∧SimT t u) ts us→QaK m h e k num suf vs us=QaK m h e k num suf vs ts
 |[],[],_,_,_,_,_=>rfl
 |t::ts,u::us,k,num,suf,vs,H=>by
  rw[QaK,QaK,sim_pages H.1.1 H.1.2 hz,versB_sim hz e ts us _ _ _ _ H.2]
 |[],_::_,_,_,_,_,H=>H.elim
 |_::_,[],_,_,_,_,H=>H.elim
theorem plainB_sim {m h:Int}(hz:Siz m h){s t:SectP}(H:All2 (fun t u=>GText t.a t.b∧SimT t u) s.texts t.texts):QaG m h t=QaG m h s:=by
 obtain⟨e,f,v,ts⟩:=s;obtain⟨e',f',v',us⟩:=t;dsimp only at H;cases ts with
 |nil=>cases us with
  |nil=>rfl
  |cons=>exact H.elim
 |cons t ts=>cases us with
  |nil=>exact H.elim
  |cons u us=>exact congrArg List.length (sim_pages H.1.1 H.1.2 hz)
theorem sectsB_sh {m h:Int}(hz:Siz m h)(sl:List Seal)(gs:Int):∀(l:List SectP) (num:Int),(∀s∈l,s.vers.length=s.texts.length∧∀t∈s.texts,GText t.a t.b)→Qaw m h num (l.map (Qbi sl gs))=Qaw m h num l
 |[],_,_=>rfl
 |s::ss,num,H=>by
  have hs:=H s (List.mem_cons_self ..);have h1:=shTexts_sim sl gs s.entry s.vers s.texts hs.1 hs.2;rw[List.map_cons,Qaw,Qaw,plainB_sim hz (t:=Qbi sl gs s) h1,sectsB_sh hz sl gs ss _ (fun u hu=>H u (List.mem_cons_of_mem _ hu))];congr 1;exact versB_sim hz s.entry s.texts _ 0 num 0 s.vers h1
theorem GBk.eqs {m h:Int}{l:List SectP}(H:GBk m h l):∀s∈l,s.vers.length=s.texts.length∧∀t∈s.texts,GText t.a t.b:=fun s hs=>by
 obtain⟨f,hf⟩:=H.s;obtain⟨i,hi,rfl⟩:=List.getElem_of_mem hs;obtain⟨-,-,j,-,-,hv,ht,hg⟩:=hf i hi;exact⟨by rw[hv,Qba,ht],hg⟩
theorem GBk.shape {m h:Int}{l:List SectP}(H:GBk m h l)(sl:List Seal)(gs:Int):GBk m h (l.map (Qbi sl gs)):=by
 refine⟨H.m1,H.m2,H.h1,H.h2,by rw[qM];exact H.n,?_⟩;have hq:=H.eqs;obtain⟨f,hf⟩:=H.s;refine⟨f,fun i hi=>?_⟩;have hi':i<l.length:=by rw[qM] at hi;exact hi
 rw[List.getElem_map];obtain⟨h1,h2,j,h3,h4,h5,h6,h7⟩:=hf i hi';have he:=hq _ (List.getElem_mem hi');refine⟨h1,h2,j,h3,h4,h5,by show(QaD _ _ _ _ _).length=_;rw[Qd2 _ _ _ _ _ he.1];exact h6,fun t ht=>?_⟩;obtain⟨u,hu,hr⟩:=All2.mem (shTexts_sim sl gs _ _ _ he.1 he.2) t ht;exact hr.1.sim hr.2
theorem GBk.pages_sh {m h:Int}{l:List SectP}(H:GBk m h l)(sl:List Seal)(gs:Int):Qae m h (l.map (Qbi sl gs))=Qae m h l:=
 sectsB_sh H.siz sl gs l 0 H.eqs
theorem hasT_sh (l:List SectP)(sl:List Seal)(gs e v:Int)(heq:∀s∈l,s.vers.length=s.texts.length):QbT (l.map (Qbi sl gs)) e v=(QbT l e v).map (Qaz sl gs e v):=by
 unfold QbT
 have h1:(l.map (Qbi sl gs)).findIdx (fun s=>decide (s.entry=e))=l.findIdx (fun s=>decide (s.entry=e)):=by
  rw[List.findIdx_map];rfl
 rw[h1,List.getElem?_map];cases hx:l[l.findIdx (fun s=>decide (s.entry=e))]? with
 |none=>rfl
 |some s=>
  rw[Option.map_some,Option.bind_some,Option.bind_some];obtain⟨hlt,hs⟩:=List.getElem?_eq_some_iff.1 hx;have he:s.entry=e:=by
   have:=List.findIdx_getElem (w:=hlt);rw[hs] at this;exact of_decide_eq_true this
  have hq:=heq s (List.mem_of_getElem? hx);show(QaD sl gs s.entry s.vers s.texts)[_]? =_;unfold QaD;show(List.zipWith _ s.vers s.texts)[s.vers.findIdx fun x=>decide (x=v)]? =_;rw[List.getElem?_zipWith];cases hv:s.vers[s.vers.findIdx fun x=>decide (x=v)]? with
  |none=>
   have h2:=List.getElem?_eq_none_iff.1 hv;have h3:s.texts[s.vers.findIdx fun x=>decide (x=v)]? =none:=List.getElem?_eq_none (by omega);rw[h3];rfl
  |some u=>
   obtain⟨hlt2,hu⟩:=List.getElem?_eq_some_iff.1 hv;have hu2:u=v:=by
    have:=List.findIdx_getElem (w:=hlt2);rw[hu] at this;exact of_decide_eq_true this
   subst hu2;subst he;cases s.texts[s.vers.findIdx fun x=>decide (x=u)]? <;>rfl
theorem textP_sh (l:List SectP)(sl:List Seal)(gs:Int)(p:PageP)(heq:∀s∈l,s.vers.length=s.texts.length):QaC (l.map (Qbi sl gs)) p=Qaz sl gs p.entry p.ver (QaC l p):=by
 unfold QaC;rw[hasT_sh l sl gs _ _ heq];cases QbT l p.entry p.ver<;>rfl
theorem GBk.text {m h:Int}{l:List SectP}(H:GBk m h l)(p:PageP):QaC l p=⟨[],[]⟩∨GText (QaC l p).a (QaC l p).b:=by
 unfold QaC;cases hx:QbT l p.entry p.ver with
 |none=>exact Or.inl rfl
 |some t=>
  refine Or.inr ?_;unfold QbT at hx;obtain⟨s,hs,ht⟩:=Option.bind_eq_some_iff.1 hx;exact(H.eqs s (List.mem_of_getElem? hs)).2 t (List.mem_of_getElem? ht)
theorem GBk.good_words {m h:Int}{l:List SectP}(H:GBk m h l)(p:PageP):∀y∈QaF (QaC l p),Good y:=by
 rcases H.text p with h|h
 ·rw[h];intro y hy;exact absurd hy (by simp[QaF])
 ·intro y hy;unfold QaF at hy;obtain⟨q,hq,hy⟩:=List.mem_flatten.1 hy;rcases List.mem_append.1 hq with hq|hq
  ·exact(h.p q hq).2.2 y hy
  ·exact((h.q q hq).2.2 y hy).1
theorem GBk.sheets_sh {m h:Int}{l:List SectP}(H:GBk m h l){sl:List Seal}(hg:∀s∈sl,0≤s.g∧s.g<16)(gs:Int):QaU m h (l.map (Qbi sl gs)) sl=QaU m h l sl:=by
 unfold QaU;rw[H.pages_sh];refine List.map_congr_left fun p hp=>?_
 have hx:=(H.good.pv p hp).inl;have hb:∀x∈p.body++p.notes,0≤x.fr:=fun x hm=>(hx x hm).1
 rw[textP_sh l sl gs p fun s hs=>(H.eqs s hs).1,show QaF (Qaz sl gs p.entry p.ver (QaC l p))=shP (seeN sl gs p.entry p.ver) 0 (QaF (QaC l p)) from shX_all _ _];unfold Qb4;congr 1
 ·exact List.map_congr_left fun x hm=>line_sh (see_zero hg) (H.good_words p) (hb x (List.mem_append_left _ hm))
 ·exact List.map_congr_left fun x hm=>line_sh (see_zero hg) (H.good_words p) (hb x (List.mem_append_right _ hm))
theorem GBk.annex_sh {m h:Int}{l:List SectP}(H:GBk m h l)(sl:List Seal)(gs br:Int):QaQ m h (l.map (Qbi sl gs)) sl gs br=QaQ m h l sl gs br:=by
 unfold QaQ QaR;rw[H.pages_sh]
 have e:∀p∈Qae m h l,QbQ sl gs br p (QaF (QaC (l.map (Qbi sl gs)) p))=QbQ sl gs br p (QaF (QaC l p)):=fun p hp=>by
  have hx:=(H.good.pv p hp).inl;rw[textP_sh l sl gs p fun s hs=>(H.eqs s hs).1,show QaF (Qaz sl gs p.entry p.ver (QaC l p))=shP (seeN sl gs p.entry p.ver) 0 (QaF (QaC l p)) from shX_all _ _];exact marksF_sh _ _ fun x hm=>(hx x hm).1
 rw[List.flatMap_def,List.flatMap_def];congr 1;exact List.map_congr_left e
def SP.shU (B na nb:Nat)(a b:List (List Word)):SP:=⟨fun v W=>∃A1 c1 A2 c2,v=.agg #[.slice A1 na c1,.slice A2 nb c2]∧Sl W (Up B) A1 c1 a∧Sl W (Up B) A2 c2 b,fun _ _ _ h hb=>by
 obtain⟨A1,c1,A2,c2,h1,h2,h3⟩:=h
 exact⟨A1,c1,A2,c2,h1,(h2.keep (Kept.all hb) hb.size).mono (fun _ hi _=>hi),(h3.keep (Kept.all hb) hb.size).mono (fun _ hi _=>hi)⟩⟩
theorem shTexts_take (sl:List Seal)(gs e:Int)(vs:List Int)(ts:List TextP){q:Nat}(h1:q<vs.length)(h2:q<ts.length):(QaD sl gs e vs ts).take (q+1)=(QaD sl gs e vs ts).take q++[Qaz sl gs e vs[q] ts[q]]:=by
 have hl:q<(QaD sl gs e vs ts).length:=by unfold QaD;rw[List.length_zipWith];omega
 rw[qT hl];congr 2;simp only[QaD,List.getElem_zipWith]
theorem shSec_take (sl:List Seal)(gs:Int)(l:List SectP)(k:Nat)(h:k<l.length):(l.take (k+1)).map (Qbi sl gs)=(l.take k).map (Qbi sl gs)++[Qbi sl gs l[k]]:=by
 rw[qT h,List.map_append];rfl
structure SB2 (Wa:World)(X:Nat)(m h:Int)(v:Value)(l:List SectP)(W:World):Prop where
 b:ABox W X 25 [.int .i64 m,.int .i64 h,v]
 o:OwnP W (X+1) 74 v l (fun i=>i≠X∧i+1≠X)
 bl:Below X Wa W
theorem SB2.to {Wa W W':World}{X:Nat}{m h:Int}{v:Value}{l:List SectP}(H:SB2 Wa X m h v l W)(hb:Below W.heap.size W W'):SB2 Wa X m h v l W':=
 ⟨H.b.to hb,H.o.below hb,H.bl.trans (hb.mono (by have:=H.b.lt;omega))⟩
theorem SB2.push {Wa W W1 W':World}{X:Nat}{m h:Int}{g:Nat}{v v':Value}{l:List SectP}{s:SectP}(H:SB2 Wa X m h v l W)(h1:Below W.heap.size W W1) (hown:Own W' (X+1) 74 v' ((l++[s]).map (Av.mk:SectP→Av SectP (fun i=>i≠X∧i+1≠X)))) (hg:W1.grownBy W' v.ownBlock) (hat:v.ownBlock=some g∨g=W1.heap.size) (hv:v'.ownBlock=some g):
 SB2 Wa X m h v' (l++[s]) (W'.setCell ⟨X,2,none⟩ v'):=by
 have hz:=h1.size;have hlt:=H.b.lt;have hgX:g≠X∧g+1≠X:=by
  rcases hat with e|e
  ·have:=(H.o.lt g e).1;omega
  ·omega
 have hbk:ABox W' X 25 [.int .i64 m,.int .i64 h,v]:=(hg.block _ (by omega) (fun e=>(H.o.at_ _ e.symm).1 rfl)).trans (H.b.to h1);refine⟨?_,?_,?_⟩
 ·have:=hbk.set 2 v';simpa using this
 ·exact(OwnP.ofBd hown (fun k hk=>by rw[hv] at hk;injection hk with hk;subst hk;exact hgX)).set _ _ _ (fun i hi=>hi.1)
 ·exact((H.bl.trans (h1.mono (by omega))).grown hg (by omega) (fun k hk=>by have:=(H.o.lt k hk).1;omega)).setCell (p:=⟨X,2,none⟩) nL _
theorem sec_rep2 {W:World}{e:Int}{fr:Bool}{vs:List Int}{ts:List TextP}{X B M:Nat}{v vt:Value}{Ag:Option Addr}{cg:Nat}(hI:I64 e)(hV:Sl W (fun b=>b<M) Ag cg vs)(hM:M<X)(hT:OwnP W B 36 vt ts (Up B))(hXB:X<B)(hv:∀g,v.ownBlock=some g→X<g∧g<B)(hvl:vs.length≤10)(htl:ts.length≤10):
 Rep.R W (fun b=>some b≠v.ownBlock∧(b≠X∧b+1≠X)) [.int .i64 e,.bool fr,.slice Ag vs.length cg,vt] (⟨e,fr,vs,ts⟩:SectP):=by
 refine⟨_,vt,rfl,hI,⟨Ag,cg,rfl,hV.mono fun i (hi:i<M) _=>⟨fun e=>?_,by omega,by omega⟩,by show vs.length<_;omega⟩,hT.rep (by show ts.length<_;omega) (fun b (hb:B≤b) _=>⟨fun e=>?_,by omega,by omega⟩)⟩
 ·have:=hv i e.symm;omega
 ·have:=hv b e.symm;omega
theorem SB2.book {Wa W W1 W':World}{X:Nat}{m h:Int}{v:Value}{l:List SectP}(H:SB2 Wa X m h v l W)(h1:Below W.heap.size W W1)(hg:W1.grownBy W' v.ownBlock):ABox W' X 25 [.int .i64 m,.int .i64 h,v]:=
 (hg.block _ (by have:=h1.size;have:=H.b.lt;omega) (fun e=>(H.o.at_ _ e.symm).1 rfl)).trans (H.b.to h1)
structure ST (Wr:World)(Xs:Nat)(c0 c1 c2 v:Value)(ts:List TextP)(W:World):Prop where
 b:ABox W Xs 74 [c0,c1,c2,v]
 o:OwnP W (Xs+1) 36 v ts (Up (Xs+1))
 bl:Below Xs Wr W
theorem ST.to {Wr W W':World}{Xs:Nat}{c0 c1 c2 v:Value}{ts:List TextP}(H:ST Wr Xs c0 c1 c2 v ts W)(hb:Below W.heap.size W W'):ST Wr Xs c0 c1 c2 v ts W':=
 ⟨H.b.to hb,H.o.below hb,H.bl.trans (hb.mono (by have:=H.b.lt;omega))⟩
set_option maxRecDepth 100000 in
theorem shaped_any (m h:Int)(Ab:Option Addr)(cb n:Nat)(ss:List SectP)(As:Option Addr)(cs ns:Nat)(sl:List Seal)(gs:Int)(w:World) (hs:Sl w (fun b=>b<w.heap.size) Ab cb ss) (hn:ss.length=n) (hn5:n≤5) (hG:∀s∈ss,s.vers.length=s.texts.length∧s.texts.length≤4∧∀t∈s.texts,GText t.a t.b) (hsl:Sl w (fun b=>b<w.heap.size) As cs sl) (hns:sl.length=ns) (hsz:ns≤1048576) (hg:∀s∈sl,0≤s.g∧s.g<16) (hT:Tabs w):
 Calls Tryz.prog 42 #[.agg #[.int .i64 m,.int .i64 h,.slice Ab n cb],.slice As ns cs,.int .i64 gs] w fun r W'=>(∃A' c',r=.returned (.agg #[.int .i64 m,.int .i64 h,.slice A' n c'])∧Sl W' (fun i=>i<W'.heap.size) A' c' (ss.map (Qbi sl gs)))∧Below w.heap.size w W':=by
 obtain⟨wb,hwb⟩:∃wb,(w.alloc (.cells #[.int .i64 m,.int .i64 h,.slice Ab n cb] 25)).alloc (.cells #[.int .i64 0,.int .i64 0,.slice none 0 0] 25)=wb:=⟨_,rfl⟩;have hba:Below w.heap.size w wb:=by rw[←hwb];exact(bR.alloc nL _).alloc (by simp) _
 have hx0:ABox wb w.heap.size 25 [.int .i64 m,.int .i64 h,.slice Ab n cb]:=by rw[←hwb];exact(Below.heap_alloc _ _ _ (by simp)).trans (heap_alloc_new w _)
 have hx1:ABox wb (w.heap.size+1) 25 [.int .i64 0,.int .i64 0,.slice none 0 0]:=by rw[←hwb];exact Qak (by simp)
 obtain⟨X,hX⟩:∃X,wb.heap.size=X:=⟨_,rfl⟩;have hXw:X=w.heap.size+2:=by rw[←hX,←hwb];simp
 obtain⟨W3,hW3⟩:∃W3,wb.alloc (.cells #[.int .i64 m,.int .i64 h,.slice none 0 0] 25)=W3:=⟨_,rfl⟩;have hsb:SB2 wb X m h (.slice none 0 0) [] W3:=⟨by rw[←hW3,←hX];exact heap_alloc_new wb _,OwnP.nil _ _ _ _,by rw[←hW3,←hX];exact bR.alloc nL _⟩
 have HSHP:Hid (∀W (A B:Option Addr) (c d:Nat) (a b:List (List Word)) (e ve:Int),Below w.heap.size w W→Sl W (fun i=>i<W.heap.size) A c a→Sl W (fun i=>i<W.heap.size) B d b→GText a b→Calls Tryz.prog 35 #[.agg #[.slice A a.length c,.slice B b.length d],.int .i64 e,.int .i64 ve,.slice As ns cs,.int .i64 gs] W fun r W'=>(∃A1 c1 A2 c2,r=.returned (.agg #[.slice A1 a.length c1,.slice A2 b.length c2])∧Sl W' (Up W.heap.size) A1 c1 (Qaz sl gs e ve ⟨a,b⟩).a∧Sl W' (Up W.heap.size) A2 c2 (Qaz sl gs e ve ⟨a,b⟩).b)∧Below W.heap.size W W'):=Lh fun W A B c d a b e ve hW ha hb hgt=>by
  have h:=shape_any A B c d a b As cs ns sl gs e ve W ha hb (by have:=hgt.l4;omega) (by have:=hgt.n3;omega) (by have:=hgt.tot;omega) (hsl.to hW) hns hsz hg (hT.to hW);rw[show(Qaz sl gs e ve ⟨a,b⟩).a.length=a.length from Qbo _ _ _,show(Qaz sl gs e ve ⟨a,b⟩).b.length=b.length from Qbo _ _ _] at h;exact h.mono fun r W' ⟨A1,c1,A2,c2,h1,h2,h3,h4⟩=>⟨⟨A1,c1,A2,c2,h1,h2,h3⟩,h4⟩
 have HG:=Lh hG;have HN:=Lh hn;have HS:=Lh hs;have HX0:=Lh hx0;have HX1:=Lh hx1;have HX:=Lh hX;have HXW:=Lh hXw;have HBA:=Lh hba;have HSB:=Lh hsb;have HWB:=Lh hwb;have HW3:=Lh hW3;have hnc:n≤cb:=by rw[←hn];exact hs.1
 clear hs hn hG hsl hns hsz hg hT hba hx0 hx1 hX hXw hsb hwb hW3;go_enter Tryz.func42,Tryz.ntmps42;go_upto_region 1 with(fail);rw[HWB.out];have q0:=HX0.out.cell 0 rfl;have q1:=HX0.out.cell 1 rfl;have q2:=HX0.out.cell 2 rfl;go_upto_region 3 with(fail);rw[HW3.out,HX.out];clear HWB HW3 q0 q1 q2;go_wp2_with fail;go_loopw [8] (fun i wr=>∃(k:Nat) (v:Value),k≤n∧i=.int .i64 k∧Hid (SB2 wb X m h v ((ss.take k).map (Qbi sl gs)) wr)) (fun i _=>n-(intOf i).toNat);(case atStart=>exact⟨0,_,by omega,rfl,HSB⟩);case round=>
  clear HSB;obtain⟨k,v,hk,rfl,HK⟩:=hrel;have HBL:Hid (Below wb.heap.size wb wr):=Lh (by rw[HX.out];exact HK.out.bl);have HBW:Hid (Below w.heap.size w wr):=Lh (HBA.out.trans (HBL.out.mono HBA.out.size));have q2:=(HX0.out.to HBL.out).cell 2 rfl;by_cases hlt:k<n
  ·have hkl:k<ss.length:=by rw[HN.out];exact hlt
   obtain⟨A9,c9,hv9,-,-⟩:=HK.out.o.len;rw[qM,qK,Nat.min_eq_left (by rw[HN.out];omega)] at hv9;subst hv9;obtain⟨b,o,Ag,cg,An,cn,hA,-,hbl,e0,e1,e2,e3,hg1,hn1,hI⟩:=QbO HS.out hkl;have hgs:=HG.out _ (List.getElem_mem hkl);have hft:=shSec_take sl gs ss k hkl;obtain⟨x,hx⟩:∃x,ss[k]=x:=⟨_,rfl⟩;rw[hx] at e0 e1 e2 e3 hg1 hn1 hI hgs hft;have HFT:=Lh hft;have HGS:=Lh hgs;have HI:=Lh hI;obtain⟨nv,hnv⟩:∃q,x.vers.length=q:=⟨_,rfl⟩;have HNV:=Lh hnv;have HNT:Hid (x.texts.length=nv):=Lh (hgs.1.symm.trans hnv);have hv4:nv≤4:=(by have:=hgs.2.1;rw[HNT.out] at this;exact this);rw[hnv] at e2;rw[HNT.out] at e3;have hvc:nv≤cg:=(by rw[←hnv];exact hg1.1);have htc:nv≤cn:=(by rw[←HNT.out];exact hn1.1);obtain⟨en,hen⟩:∃q,x.entry=q:=⟨_,rfl⟩;obtain⟨fr,hfr⟩:∃q,x.frozen=q:=⟨_,rfl⟩;rw[hen] at e0;rw[hfr] at e1;have HEN:=Lh hen;have HFR:=Lh hfr;have HV:=Lh hg1;have HXt:=Lh hn1;have E0:=(HBW.out.cell (p:=⟨b,o+k*4,none⟩) hbl).trans e0;have E1:=(HBW.out.cell (p:=⟨b,o+k*4+1,none⟩) hbl).trans e1;have E2:=(HBW.out.cell (p:=⟨b,o+k*4+2,none⟩) hbl).trans e2;have E3:=(HBW.out.cell (p:=⟨b,o+k*4+3,none⟩) hbl).trans e3;have HE3:Hid (∀W,Below w.heap.size w W→W.cell? ⟨b,o+k*4+3,none⟩=some (.slice An nv cn)):=Lh fun W hW=>(hW.cell (p:=⟨b,o+k*4+3,none⟩) hbl).trans e3
   obtain⟨Xs,hXs⟩:∃Xs,wr.heap.size=Xs:=⟨_,rfl⟩;obtain⟨w2,hw2⟩:∃w2,wr.alloc (.cells #[.int .i64 en,.bool fr,.slice Ag nv cg,.slice none 0 0] 74)=w2:=⟨_,rfl⟩;have hst:ST wr Xs (.int .i64 en) (.bool fr) (.slice Ag nv cg) (.slice none 0 0) [] w2:=⟨by rw[←hw2,←hXs];exact heap_alloc_new wr _,OwnP.nil _ _ _ _,by rw[←hw2,←hXs];exact bR.alloc nL _⟩;have HST:=Lh hst;have HXS:=Lh hXs;have HXX:Hid (X<Xs):=Lh (by have:=HK.out.b.lt;omega);have hkI:(k:Int)<(n:Int):=(by omega);have hkc:(k:Int)<(cb:Int):=(by omega);have HLT:=Lh hlt;have HW2:=Lh hw2;subst hA;clear hXs hw2;go_upto_region 8 with(fail);rw[HW2.out,HXS.out];clear HW2 hst hg1 hn1 e0 e1 e2 e3 E0 E1 E2 E3 hx hkl hI hgs hft hnv hen hfr hbl q2;go_wp2_with fail;obtain⟨wo,rfl⟩:∃wo:World,wo=wr:=⟨_,rfl⟩;go_loopw [10] (fun i wx=>∃(q:Nat) (vt:Value),q≤nv∧i=.int .i64 q∧Hid (ST wo Xs (.int .i64 en) (.bool fr) (.slice Ag nv cg) vt ((QaD sl gs en x.vers x.texts).take q) wx)) (fun i _=>nv-(intOf i).toNat);(case atStart=>exact⟨0,_,by omega,rfl,HST⟩);case round=>
    clear HST;obtain⟨q,vt,hq,rfl,HO⟩:=hrel;have HLE:Hid ((QaD sl gs en x.vers x.texts).length=nv):=Lh (by rw[Qd2 _ _ _ _ _ HGS.out.1];exact HNT.out);obtain⟨A7,c7,hv7,-,-⟩:=HO.out.o.len;rw[qK,Nat.min_eq_left (by rw[HLE.out];exact hq)] at hv7;subst hv7;have HBo:Hid (Below wo.heap.size wo wr):=Lh (by rw[HXS.out];exact HO.out.bl);have HBX:Hid (Below wb.heap.size wb wr):=Lh (HBL.out.trans (HBo.out.mono HBL.out.size));have HBr:Hid (Below w.heap.size w wr):=Lh (HBW.out.trans (HBo.out.mono HBW.out.size));have q2:=(HX0.out.to HBX.out).cell 2 rfl;have E3:=HE3.out wr HBr.out;have p2:=HO.out.b.cell 2 rfl;by_cases hqt:q<nv
    ·have hqv:q<x.vers.length:=by rw[HNV.out];exact hqt
     have hqx:q<x.texts.length:=(by rw[HNT.out];exact hqt);obtain⟨bt,ot,Aa,ca,Ac,cc,hAn,-,hbt,a0,a1,ht1,ht2⟩:=Qcn HXt.out hqx;obtain⟨bv,ov,hAg,-,hbv,-,z0⟩:=Qbr HV.out hqv;have hgt:=HGS.out.2.2 _ (List.getElem_mem hqx);have hft:=shTexts_take sl gs en x.vers x.texts hqv hqx;obtain⟨y,hy⟩:∃y,x.texts[q]=y:=⟨_,rfl⟩;obtain⟨ve,hve⟩:∃y,x.vers[q]=y:=⟨_,rfl⟩;rw[hy] at a0 a1 ht1 ht2 hgt hft;rw[hve] at z0 hft;obtain⟨ya,yb⟩:=y;dsimp only at a0 a1 ht1 ht2 hgt;have HGT:=Lh hgt;have HFX:=Lh hft;have HT1:=Lh ht1;have HT2:=Lh ht2;obtain⟨na,hna⟩:∃q,ya.length=q:=⟨_,rfl⟩;obtain⟨nb,hnb⟩:∃q,yb.length=q:=⟨_,rfl⟩;have hna4:na≤4:=(by rw[←hna];exact hgt.l4);have hnb3:nb≤3:=(by rw[←hnb];exact hgt.n3);have HCL:=Lh (fun(W:World) (hW:Below w.heap.size w W)=>HSHP.out W Aa Ac ca cc ya yb en ve hW (HT1.out.to hW) (HT2.out.to hW) HGT.out);rw[hna,hnb] at HCL;rw[hna] at a0;rw[hnb] at a1;obtain⟨S,hS⟩:∃S,Qaz sl gs en ve ⟨ya,yb⟩=S:=⟨_,rfl⟩;rw[hS] at HCL HFX;have hSl:S.a.length=na∧S.b.length=nb:=(by rw[←hS];exact⟨(Qbo _ _ _).trans hna,(Qbo _ _ _).trans hnb⟩);have HSLN:=Lh hSl;have hqI:(q:Int)<(nv:Int):=(by omega);have hqg:(q:Int)<(cg:Int):=(by omega);have hqn:(q:Int)<(cn:Int):=(by omega);have HQT:=Lh hqt;subst hAn;subst hAg;clear hy hve hgt hft ht1 ht2 hna hnb hS hSl hqv hqx;go_upto_region 11 with(fail);clear q2 E3 p2;refine Qaf [20,21] (fun i=>if i=20 then SP.shU wr.heap.size na nb S.a S.b else if i=21 then SP.rp wr.heap.size [S] else SP.any) 22 (by kernel_rfl) (by kernel_rfl) ?_;intro T _ g hg hgm;have HDw:Hid (∀d,Below w.heap.size w (g d)):=Lh fun d=>HBr.out.trans ((hg d).mono HBr.out.size)
     have p0:∀d,(g d).cell? ⟨Xs,0,none⟩=some (.int .i64 en):=fun d=>(HO.out.b.to (hg d)).cell 0 rfl
     have p2:∀d,(g d).cell? ⟨Xs,2,none⟩=some (.slice (some ⟨bv,ov,none⟩) nv cg):=fun d=>(HO.out.b.to (hg d)).cell 2 rfl
     have p3:∀d,(g d).cell? ⟨Xs,3,none⟩=some (.slice A7 q c7):=fun d=>(HO.out.b.to (hg d)).cell 3 rfl
     have q2:∀d,(g d).cell? ⟨w.heap.size,2,none⟩=some (.slice (some ⟨b,o,none⟩) n cb):=fun d=>((HX0.out.to HBX.out).to (hg d)).cell 2 rfl
     have E3:∀d,(g d).cell? ⟨b,o+k*4+3,none⟩=some (.slice (some ⟨bt,ot,none⟩) nv cn):=fun d=>HE3.out (g d) (HDw.out d)
     have A0:∀d,(g d).cell? ⟨bt,ot+q*2,none⟩=some (.slice Aa na ca):=fun d=>((HDw.out d).cell (p:=⟨bt,ot+q*2,none⟩) hbt).trans a0
     have A1:∀d,(g d).cell? ⟨bt,ot+q*2+1,none⟩=some (.slice Ac nb cc):=fun d=>((HDw.out d).cell (p:=⟨bt,ot+q*2+1,none⟩) hbt).trans a1
     have z1:∀d,(g d).cell? ⟨bv,ov+q,none⟩=some (.int .i64 ve):=fun d=>((HDw.out d).cell (p:=⟨bv,ov+q,none⟩) hbv).trans z0
     (repeat(refine Qac (by rfl) fun Kq hq=>?_;go_big_quiet_step (fail);refine wpQuiet_nil (hq _ ?_);clear hq Kq));refine Qah (by rfl) (by rfl) (fun d hG K Q hK=>?_) (fun v9 d hG hp Kr hr=>?_)
     ·go_simp;go_at_call 35;refine(HCL.out (g d) (HDw.out d)).mono ?_;rintro e W9 ⟨⟨A8,c8,B8,d8,rfl,h1,h2⟩,hb1⟩;go_simp;exact hK _ _ hb1 ⟨A8,c8,B8,d8,rfl,h1.mono fun i (hi:(g d).heap.size≤i) _=>Nat.le_trans (hg d).size hi,h2.mono fun i (hi:(g d).heap.size≤i) _=>Nat.le_trans (hg d).size hi⟩
     obtain⟨F1,f1,F2,f2,rfl,-,-⟩:=(show ∃A1 c1 A2 c2,v9=.agg #[.slice A1 na c1,.slice A2 nb c2]∧_ from hp);(try clear hp);clear hG;go_frame;refine hr _ ?_;clear hr Kr;(repeat(refine Qac (by rfl) fun Kq hq=>?_;go_big_quiet_step (fail);refine wpQuiet_nil (hq _ ?_);clear hq Kq));refine Qah (by rfl) (by rfl) (fun d hG K Q hK=>?_) (fun v9 d hG hp Kr hr=>?_)
     ·obtain⟨A8,c8,B8,d8,e9,h1,h2⟩:=(show ∃A1 c1 A2 c2,Value.agg #[.slice F1 na f1,.slice F2 nb f2]=.agg #[.slice A1 na c1,.slice A2 nb c2]∧Sl (g d) (Up wr.heap.size) A1 c1 S.a∧Sl (g d) (Up wr.heap.size) A2 c2 S.b from hG 20 (by kernel_rfl));cases e9;have HR:Hid (Rep.R (g d) (Up wr.heap.size) [.slice F1 na f1,.slice F2 nb f2] S):=Lh ⟨_,_,rfl,⟨F1,f1,by rw[HSLN.out.1],h1,by rw[HSLN.out.1];omega⟩,⟨F2,f2,by rw[HSLN.out.2],h2,by rw[HSLN.out.2];omega⟩⟩;go_simp;exact hK _ _ (bR.alloc nL _) (rp_lit (hg d).size HR.out)
     obtain⟨⟨Az,cz,rfl⟩,-⟩:=(show(∃A c,v9=.slice A [S].length c)∧_ from hp);(try clear hp);clear hG;go_frame;refine hr _ ?_;clear hr Kr;(repeat(refine Qac (by rfl) fun Kq hq=>?_;go_big_quiet_step (fail);refine wpQuiet_nil (hq _ ?_);clear hq Kq));refine QaP 3 (by rfl) (by rfl) (fun d hG=>?_);have H21:Hid (Rep.R (g d) (Up wr.heap.size) [.slice Az [S].length cz] [S]):=Lh (show(∃A c,_=Value.slice A [S].length c)∧Rep.R (g d) (Up wr.heap.size) [.slice Az [S].length cz] [S] from hG 21).2;have HOd:=Lh (HO.out.to (hg d));have HSZ:Hid (wr.heap.size≤(g d).heap.size∧Xs<wr.heap.size):=Lh ⟨(hg d).size,HO.out.b.lt⟩;have HLTo:=Lh HO.out.o.lt;clear hG hg hgm p0 p2 p3 q2 E3 A0 A1 z1 HDw;generalize g d=wx at*;clear g
     have HSl:Hid (Sl wx (Up wr.heap.size) Az cz ([S].map (Av.mk:TextP→Av TextP (Up (Xs+1))))):=Lh (by
      obtain⟨A,c,e,hs,-⟩:=H21.out
      cases e
      exact Sl.av (α:=TextP) (P:=Up (Xs+1)) hs (fun i (hi:wr.heap.size≤i) _=>by have:=HSZ.out.2;show Xs+1≤i;omega))
     have HLM:Hid ((((QaD sl gs en x.vers x.texts).take q).map (Av.mk:TextP→Av TextP (Up (Xs+1)))).length=q):=Lh (by rw[qM,qK,Nat.min_eq_left (by rw[HLE.out];exact hq)]);refine Qao (i:=22) (oi:=_) rfl (by kernel_rfl) (by rfl) (fun K hK=>?_);refine wp_cat (α:=Av TextP (Up (Xs+1))) _ (.tmp 45) (.tmp 65) 72 rfl (Xs+1) 36 (.agg #[.slice none 0 0,.slice none 0 0]) 48 Tryz.underlying72 QdX rfl (show 0<2 by decide) _ (((QaD sl gs en x.vers x.texts).take q).map Av.mk) rfl HOd.out.o.own Az cz 1 ([S].map Av.mk) rfl rfl (Up wr.heap.size) HSl.out (fun i (hi:wr.heap.size≤i) _ e=>by have:=(HLTo.out i e.symm).2;omega) (by rw[HLM.out];omega) (by rw[HLM.out];omega) (by have:=HSZ.out;omega) ?_;intro v' w' ho' hg' hv'
     have HON:Hid (OwnP w' (Xs+1) 36 v' ((QaD sl gs en x.vers x.texts).take (q+1)) (Up (Xs+1))):=Lh (by
      rw[HFX.out]
      refine OwnP.ofBd ?_ (fun j hj=>(ho'.lt j hj).1)
      rw[List.map_append];exact ho')
     have hrow:∀r,(Value.slice A7 q c7).ownBlock=some r→Xs+1≤r:=fun r hr=>(HLTo.out r hr).1
     have HXN:Hid (ABox w' Xs 74 [.int .i64 en,.bool fr,.slice (some ⟨bv,ov,none⟩) nv cg,.slice A7 q c7]):=Lh ((hg'.block Xs (by have:=HSZ.out;omega) (fun e=>by have:=hrow Xs e.symm;omega)).trans HOd.out.b);have HBN:Hid (Below Xs wo w'):=Lh (HOd.out.bl.grown hg' (by have:=HSZ.out;omega) (fun r hr=>by have:=hrow r hr;omega));have HST:Hid (ST wo Xs (.int .i64 en) (.bool fr) (.slice (some ⟨bv,ov,none⟩) nv cg) v' ((QaD sl gs en x.vers x.texts).take (q+1)) (w'.setCell ⟨Xs,3,none⟩ v')):=Lh ⟨HXN.out.set 3 v',HON.out.kept (fun i (hi:Xs+1≤i) _=>Qaa _ _ _ _ (by omega)),HBN.out.setCell (p:=⟨Xs,3,none⟩) nL _⟩;refine hK _ _ ?_;clear hK K ho' hg' hv' HOd HSl H21 hrow;(try simp only[Act.put,sA0]);refine Qao (i:=23) (oi:=_) rfl (by kernel_rfl) (by rfl) (fun K hK=>?_);go_simp;refine hK _ _ ?_;clear hK K;(try go_frame);obtain⟨A6,c6,hv6,-,-⟩:=HON.out.len;rw[qK,Nat.min_eq_left (by rw[HLE.out];have:=HQT.out;omega)] at hv6;have r1:=HXN.out.cell 3 rfl;have f1:=HXN.out.fz 3;subst hv6;refine Qao (i:=24) (oi:=_) rfl (by kernel_rfl) (by rfl) (fun K hK=>?_);go_simp;refine hK _ _ ?_;clear hK K r1 f1;(try simp only[Act.put,sA0]);refine wpAny_done (by kernel_rfl) ?_ _;unfold Exit.then;go_wp2_with fail;go_roundw;(case rel=>exact⟨q+1,_,by have:=HQT.out;omega,by go_num,HST⟩);case measure=>(have:=HQT.out;first|(simp[intOf];done)|(simp[intOf];omega))
    ·obtain rfl:q=nv:=by omega
     have hqI:¬(q:Int)<(q:Int):=by omega
     have HO2:Hid (OwnP wr (Xs+1) 36 (.slice A7 q c7) (QaD sl gs en x.vers x.texts) (Up (Xs+1))):=Lh (by
      have:=HO.out.o
      rwa [List.take_of_length_le (by rw[HLE.out];exact Nat.le_refl _)] at this)
     have HKq:Hid (SB2 wb X m h (.slice A9 k c9) ((ss.take k).map (Qbi sl gs)) wr):=Lh (HK.out.to HBo.out);have HBA2:Hid (Below wr.heap.size wr (wr.alloc (.cells #[.int .i64 en,.bool fr,.slice Ag q cg,.slice A7 q c7] 74))):=Lh (bR.alloc nL _)
     have HRE:Hid (Rep.R (wr.alloc (.cells #[.int .i64 en,.bool fr,.slice Ag q cg,.slice A7 q c7] 74)) (fun b=>some b≠(Value.slice A9 k c9).ownBlock) [.int .i64 en,.bool fr,.slice Ag q cg,.slice A7 q c7] (⟨Qbi sl gs x⟩:Av SectP (fun i=>i≠X∧i+1≠X))):=Lh (by
      have h:=sec_rep2 (e:=x.entry) (fr:=x.frozen) (ts:=QaD sl gs en x.vers x.texts) (vt:=.slice A7 q c7) (v:=.slice A9 k c9) (B:=Xs+1) (M:=w.heap.size) (X:=X) HI.out ((HV.out.keep (fun i (hi:i<w.heap.size) _=>((HBA2.out.block i (by have:=HBr.out.size;omega)).trans (HBr.out.block i hi))) (by have:=HBr.out.size;have:=HBA2.out.size;omega)).mono fun i (hi:i<w.heap.size) _=>hi) (by have:=HXW.out;omega) (HO2.out.below HBA2.out) (by have:=HXX.out;omega) (fun g hg=>by have:=HK.out.o.lt g hg;have:=HXS.out;omega) (by rw[HNV.out];omega) (by rw[HLE.out];omega)
      rw[HNV.out,HEN.out,HFR.out] at h
      have e:Qbi sl gs x=⟨en,fr,x.vers,QaD sl gs en x.vers x.texts⟩:=(by unfold Qbi;rw[HEN.out,HFR.out])
      rw[e]
      exact h)
     have HLM:Hid ((((ss.take k).map (Qbi sl gs)).map (Av.mk:SectP→Av SectP (fun i=>i≠X∧i+1≠X))).length=k):=Lh (by rw[qM,qM,qK,Nat.min_eq_left (by rw[HN.out];omega)]);have p0:=HO.out.b.cell 0 rfl;have p1:=HO.out.b.cell 1 rfl;have p3:=HO.out.b.cell 3 rfl;have z2:=HKq.out.b.cell 2 rfl;have HXw:Hid (X+1≤wr.heap.size):=Lh (by have:=HKq.out.b.lt;omega)
     go_upto_region 5 with(first|(at_builtin;refine Qau (α:=Av SectP (fun i=>i≠X∧i+1≠X)) _ rfl (.tmp 69) (.tmp 71) 23 rfl (X+1) 74 (.agg #[.int .i64 0,.bool false,.slice none 0 0,.slice none 0 0]) 64 Tryz.underlying23 QbV rfl (show 0<4 by decide) _ (((ss.take k).map (Qbi sl gs)).map Av.mk) rfl (HKq.out.o.own.alloc _) wr.heap.size _ ⟨Qbi sl gs x⟩ (0,0) 74 rfl (heap_alloc_new wr _) HRE.out (by rw[HLM.out];omega) (by rw[HLM.out];omega) (by have:=HXw.out;simp;omega) _ rfl ?_;rw[HLM.out];intro g cap w5 hown5 hg5 hat5 hlt5;have hs5:=HKq.out.book HBA2.out hg5;have x2:=hs5.cell 2 rfl;have f2:=hs5.fz 2;have HK5:=Lh (HKq.out.push (v':=.slice (some ⟨g,0,none⟩) (k+1) cap) HBA2.out (by rw[List.map_append];exact hown5) hg5 hat5 rfl);clear hs5 hown5 hg5 hat5 hlt5)|fail)
     clear x2 f2 p0 p1 p2 p3 z2 q2 E3;go_wp2_with fail;go_roundw;(case rel=>exact⟨k+1,_,by have:=HLT.out;omega,by go_num,Lh (by rw[HFT.out];exact HK5.out)⟩);case measure=>(have:=HLT.out;first|(simp[intOf];done)|(simp[intOf];omega))
  ·obtain rfl:k=n:=by omega
   have hkI:¬(k:Int)<(k:Int):=by omega
   have HK2:Hid (SB2 wb X m h v (ss.map (Qbi sl gs)) wr):=Lh (by
    have:=HK.out
    rwa [List.take_of_length_le (Nat.le_of_eq HN.out)] at this)
   obtain⟨A9,c9,hv9,hsl⟩:=HK2.out.o.sl;rw[qM,HN.out] at hv9;subst hv9;have HSL9:=Lh hsl;have y0:=HK2.out.b.cell 0 rfl;have y1:=HK2.out.b.cell 1 rfl;have y2:=HK2.out.b.cell 2 rfl;have HX1r:=Lh (HX1.out.to HBL.out);have r0:=HX1r.out.cell 0 rfl;have r1:=HX1r.out.cell 1 rfl;have r2:=HX1r.out.cell 2 rfl;have f0:=HX1r.out.fz 0;have f1:=HX1r.out.fz 1;have f2:=HX1r.out.fz 2;clear hsl;go_wp2_with fail;have HXF:=Lh (((HX1r.out.set 0 (.int .i64 m)).set 1 (.int .i64 h)).set 2 (.slice A9 k c9));have hXw2:=HXW.out;have hlX:=HK2.out.b.lt;have hoth:∀i,i≠w.heap.size+1→(((wr.setCell ⟨w.heap.size+1,0,none⟩ (.int .i64 m)).setCell ⟨w.heap.size+1,1,none⟩ (.int .i64 h)).setCell ⟨w.heap.size+1,2,none⟩ (.slice A9 k c9)).heap[i]? =wr.heap[i]? :=fun i hi=>by rw[Qaa _ _ _ _ hi,Qaa _ _ _ _ hi,Qaa _ _ _ _ hi]
   have hzz:(((wr.setCell ⟨w.heap.size+1,0,none⟩ (.int .i64 m)).setCell ⟨w.heap.size+1,1,none⟩ (.int .i64 h)).setCell ⟨w.heap.size+1,2,none⟩ (.slice A9 k c9)).heap.size=wr.heap.size:=by simp
   have hb5:Below w.heap.size w (((wr.setCell ⟨w.heap.size+1,0,none⟩ (.int .i64 m)).setCell ⟨w.heap.size+1,1,none⟩ (.int .i64 h)).setCell ⟨w.heap.size+1,2,none⟩ (.slice A9 k c9)):=((HBW.out.setCell (p:=⟨w.heap.size+1,0,none⟩) (by show w.heap.size≤w.heap.size+1;omega) _).setCell (p:=⟨w.heap.size+1,1,none⟩) (by show w.heap.size≤w.heap.size+1;omega) _).setCell (p:=⟨w.heap.size+1,2,none⟩) (by show w.heap.size≤w.heap.size+1;omega) _;refine bodyPost_ret (v:=.agg #[.int .i64 m,.int .i64 h,.slice A9 k c9]) (QaN Tryz.results42 _ _ (w.heap.size+1) _ [.int .i64 m,.int .i64 h,.slice A9 k c9] _ rfl HXF.out Tryz.underlying25 rfl (by kernel_rfl)) rfl ⟨⟨A9,c9,rfl,?_⟩,hb5⟩;exact(HSL9.out.keep (fun i (hi:i≠X∧i+1≠X) _=>hoth i (by omega)) (by rw[hzz];exact Nat.le_refl _)).mono fun i _ hl=>hl
set_option maxRecDepth 100000 in
theorem QbZ (A B:Option Addr)(ca cb n:Nat)(l:List ByteArray)(w:World)(hA:Sl w (fun b=>b<w.heap.size) A ca l)(hB:Sl w (fun b=>b<w.heap.size) B cb l)(hn:l.length=n)(hsz:n≤1048576):
 Calls Tryz.prog 55 #[.slice A n ca,.slice B n cb] w fun e w'=>e=.returned (.bool true)∧Below w.heap.size w w':=by
 have HA:=Lh hA;have HB:=Lh hB;have HN:=Lh hn;have hac:n≤ca:=by rw[←hn];exact hA.1
 have hbc:n≤cb:=by rw[←hn];exact hB.1
 have ham:ca≤9223372036854775807:=hA.2.1;have hbm:cb≤9223372036854775807:=hB.2.1;clear hA hB hn;go_enter Tryz.func55,Tryz.ntmps55;go_wp2_with fail;go_loopw [5] (fun i wr=>∃k:Nat,k≤n∧i=.int .i64 (k:Int)∧Hid (Below w.heap.size w wr)) (fun i _=>n-(intOf i).toNat);(case atStart=>exact⟨0,Nat.zero_le _,rfl,Lh bR⟩);case round=>
  obtain⟨k,hk,rfl,HBr⟩:=hrel;by_cases hlt:k<n
  ·have hkl:k<l.length:=by rw[HN.out];exact hlt
   obtain⟨b1,o1,rfl,-,-,-,a0⟩:=str_at (HA.out.to HBr.out) hkl;obtain⟨b2,o2,rfl,-,-,-,c0⟩:=str_at (HB.out.to HBr.out) hkl;obtain⟨x,hx⟩:∃x,l[k]=x:=⟨_,rfl⟩;rw[hx] at a0 c0;have hkI:(k:Int)<(n:Int):=(by omega);clear hx;go_upto_region 6 with(fail);go_quiet (fail);have HBn:=Lh (Below.dn HBr.out nq);unfold Exit.then;go_wp2_with fail;go_roundw;(case rel=>exact⟨k+1,by omega,by go_num,HBn⟩);case measure=>(first|(simp[intOf];done)|(simp[intOf];omega))
  ·obtain rfl:k=n:=by omega
   have hkI:¬(k:Int)<(k:Int):=(by omega);go_wp2_with fail;go_ret;exact⟨rfl,HBr.out⟩
set_option maxRecDepth 100000 in
theorem sameSheets_any (A B:Option Addr)(ca cb n:Nat)(l:List SheetP)(w:World)(hA:Sl w (fun b=>b<w.heap.size) A ca l)(hB:Sl w (fun b=>b<w.heap.size) B cb l)(hn:l.length=n)(hsz:n≤1048576)(hl:∀s∈l,s.body.length≤1048576∧s.notes.length≤1048576):
 Calls Tryz.prog 15 #[.slice A n ca,.slice B n cb] w fun e w'=>e=.returned (.bool true)∧Below w.heap.size w w':=by
 have HA:=Lh hA;have HB:=Lh hB;have HN:=Lh hn;have HL:=Lh hl;have hac:n≤ca:=by rw[←hn];exact hA.1
 have hbc:n≤cb:=by rw[←hn];exact hB.1
 have ham:ca≤9223372036854775807:=hA.2.1;have hbm:cb≤9223372036854775807:=hB.2.1;clear hA hB hn hl;go_enter Tryz.func15,Tryz.ntmps15;go_wp2_with fail;go_loopw [5] (fun i wr=>∃k:Nat,k≤n∧i=.int .i64 (k:Int)∧Hid (Below w.heap.size w wr)) (fun i _=>n-(intOf i).toNat);(case atStart=>exact⟨0,Nat.zero_le _,rfl,Lh bR⟩);case round=>
  obtain⟨k,hk,rfl,HBr⟩:=hrel;by_cases hlt:k<n
  ·have hkl:k<l.length:=by rw[HN.out];exact hlt
   obtain⟨b1,o1,A1,c1,A2,c2,rfl,-,hl1,a0,a1,a2,hs1,hs2⟩:=Qd8 (HA.out.to HBr.out) hkl;obtain⟨b2,o2,A3,c3,A4,c4,rfl,-,hl2,d0,d1,d2,hs3,hs4⟩:=Qd8 (HB.out.to HBr.out) hkl;have hz:=HL.out _ (List.getElem_mem hkl);obtain⟨x,hx⟩:∃x,l[k]=x:=⟨_,rfl⟩;rw[hx] at a0 a1 a2 d0 d1 d2 hs1 hs2 hs3 hs4 hz;have HZ:=Lh hz;have H1:=Lh hs1;have H2:=Lh hs2;have H3:=Lh hs3;have H4:=Lh hs4;have HC:Hid (∀W,Below wr.heap.size wr W→(W.cell? ⟨b1,o1+k*3,none⟩=some (.string x.label)∧W.cell? ⟨b1,o1+k*3+1,none⟩=some (.slice A1 x.body.length c1)∧W.cell? ⟨b1,o1+k*3+2,none⟩=some (.slice A2 x.notes.length c2))∧W.cell? ⟨b2,o2+k*3,none⟩=some (.string x.label)∧W.cell? ⟨b2,o2+k*3+1,none⟩=some (.slice A3 x.body.length c3)∧W.cell? ⟨b2,o2+k*3+2,none⟩=some (.slice A4 x.notes.length c4)):=Lh fun W hW=>
    ⟨⟨(hW.cell (p:=⟨b1,o1+k*3,none⟩) hl1).trans a0,(hW.cell (p:=⟨b1,o1+k*3+1,none⟩) hl1).trans a1,(hW.cell (p:=⟨b1,o1+k*3+2,none⟩) hl1).trans a2⟩,(hW.cell (p:=⟨b2,o2+k*3,none⟩) hl2).trans d0,(hW.cell (p:=⟨b2,o2+k*3+1,none⟩) hl2).trans d1,(hW.cell (p:=⟨b2,o2+k*3+2,none⟩) hl2).trans d2⟩
   have hkI:(k:Int)<(n:Int):=(by omega);clear hx hz hs1 hs2 hs3 hs4 a0 a1 a2 d0 d1 d2;go_upto_region 6 with(fail);refine Qaf [22,36] (fun i=>if i=22 then SP.val (.bool true) else if i=36 then SP.val (.bool true) else SP.any) 39 (by kernel_rfl) (by kernel_rfl) ?_;intro T _ g hg hgm;have e0:∀d,(g d).cell? ⟨b1,o1+k*3,none⟩=some (.string x.label):=fun d=>(HC.out (g d) (hg d)).1.1
   have e1:∀d,(g d).cell? ⟨b1,o1+k*3+1,none⟩=some (.slice A1 x.body.length c1):=fun d=>(HC.out (g d) (hg d)).1.2.1
   have e2:∀d,(g d).cell? ⟨b1,o1+k*3+2,none⟩=some (.slice A2 x.notes.length c2):=fun d=>(HC.out (g d) (hg d)).1.2.2
   have f0:∀d,(g d).cell? ⟨b2,o2+k*3,none⟩=some (.string x.label):=fun d=>(HC.out (g d) (hg d)).2.1
   have f1:∀d,(g d).cell? ⟨b2,o2+k*3+1,none⟩=some (.slice A3 x.body.length c3):=fun d=>(HC.out (g d) (hg d)).2.2.1
   have f2:∀d,(g d).cell? ⟨b2,o2+k*3+2,none⟩=some (.slice A4 x.notes.length c4):=fun d=>(HC.out (g d) (hg d)).2.2.2
   (repeat(refine Qac (by rfl) fun Kq hq=>?_;go_big_quiet_step (fail);refine wpQuiet_nil (hq _ ?_);clear hq Kq));refine Qah (by rfl) (by rfl) (fun d hG K Q hK=>?_) (fun v1 d hG hp Kr hr=>?_)
   ·go_simp;go_at_call 55;refine(QbZ A1 A3 c1 c3 _ x.body (g d) (H1.out.to (hg d)) (H3.out.to (hg d)) rfl HZ.out.1).mono ?_;rintro e W1 ⟨rfl,hb1⟩;go_simp;exact hK _ _ hb1 (rfl)
   obtain rfl:v1=.bool true:=hp;(try clear hp);clear hG;go_frame;refine hr _ ?_;clear hr Kr;(repeat(refine Qac (by rfl) fun Kq hq=>?_;go_big_quiet_step (fail);refine wpQuiet_nil (hq _ ?_);clear hq Kq));refine Qah (by rfl) (by rfl) (fun d hG K Q hK=>?_) (fun v2 d hG hp Kr hr=>?_)
   ·go_simp;go_at_call 55;refine(QbZ A2 A4 c2 c4 _ x.notes (g d) (H2.out.to (hg d)) (H4.out.to (hg d)) rfl HZ.out.2).mono ?_;rintro e W1 ⟨rfl,hb1⟩;go_simp;exact hK _ _ hb1 (rfl)
   obtain rfl:v2=.bool true:=hp;(try clear hp);clear hG;go_frame;refine hr _ ?_;clear hr Kr;(repeat(refine Qac (by rfl) fun Kq hq=>?_;go_big_quiet_step (fail);refine wpQuiet_nil (hq _ ?_);clear hq Kq));refine QcZ (by kernel_rfl) (fun d hG=>?_) _;have HBn:Hid (Below w.heap.size w (g d)):=Lh (HBr.out.trans ((hg d).mono HBr.out.size));clear e0 e1 e2 f0 f1 f2;have HBd:=Lh (hg d);clear hG hg hgm;unfold Exit.then;go_wp2_with fail;go_roundw;(case rel=>exact⟨k+1,by omega,by go_num,HBn⟩);case measure=>(first|(simp[intOf];done)|(simp[intOf];omega))
  ·obtain rfl:k=n:=by omega
   have hkI:¬(k:Int)<(k:Int):=(by omega);go_wp2_with fail;go_ret;exact⟨rfl,HBr.out⟩
set_option maxRecDepth 100000 in
theorem sameMarks_any (A B:Option Addr)(ca cb n:Nat)(l:List MarkP)(w:World)(hA:Sl w (fun b=>b<w.heap.size) A ca l)(hB:Sl w (fun b=>b<w.heap.size) B cb l)(hn:l.length=n)(hsz:n≤400000000000):
 Calls Tryz.prog 21 #[.slice A n ca,.slice B n cb] w fun e w'=>e=.returned (.bool true)∧Below w.heap.size w w':=by
 have HA:=Lh hA;have HB:=Lh hB;have HN:=Lh hn;have hac:n≤ca:=by rw[←hn];exact hA.1
 have hbc:n≤cb:=by rw[←hn];exact hB.1
 have ham:ca≤9223372036854775807:=hA.2.1;have hbm:cb≤9223372036854775807:=hB.2.1;clear hA hB hn;go_enter Tryz.func21,Tryz.ntmps21;go_wp2_with fail;go_loopw [5] (fun i wr=>∃k:Nat,k≤n∧i=.int .i64 (k:Int)∧Hid (Below w.heap.size w wr)) (fun i _=>n-(intOf i).toNat);(case atStart=>exact⟨0,Nat.zero_le _,rfl,Lh bR⟩);case round=>
  obtain⟨k,hk,rfl,HBr⟩:=hrel;by_cases hlt:k<n
  ·have hkl:k<l.length:=by rw[HN.out];exact hlt
   obtain⟨b1,o1,rfl,-,-,a0,a1,a2,a3,a4⟩:=mark_at (HA.out.to HBr.out) hkl;obtain⟨b2,o2,rfl,-,-,c0,c1,c2,c3,c4⟩:=mark_at (HB.out.to HBr.out) hkl;obtain⟨x,hx⟩:∃x,l[k]=x:=⟨_,rfl⟩;rw[hx] at a0 a1 a2 a3 a4 c0 c1 c2 c3 c4;obtain⟨x1,x2,x3,x4,x5⟩:=x;dsimp only at a0 a1 a2 a3 a4 c0 c1 c2 c3 c4;have hkI:(k:Int)<(n:Int):=(by omega);clear hx;go_upto_region 6 with(fail);go_quiet (fail);have HBn:=Lh (Below.dn HBr.out nq);unfold Exit.then;go_wp2_with fail;go_roundw;(case rel=>exact⟨k+1,by omega,by go_num,HBn⟩);case measure=>(first|(simp[intOf];done)|(simp[intOf];omega))
  ·obtain rfl:k=n:=by omega
   have hkI:¬(k:Int)<(k:Int):=(by omega);go_wp2_with fail;go_ret;exact⟨rfl,HBr.out⟩
end Go.Proofs.YtegaapiocihcpaaGreatDoor
