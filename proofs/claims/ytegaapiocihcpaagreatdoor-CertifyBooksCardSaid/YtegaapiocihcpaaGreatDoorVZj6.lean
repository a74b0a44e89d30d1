/- Texts of CbC. -/
import Derived.Test.YtegaapiocihcpaaGreatDoorVZj5
import Derived.BigQuiet
import Derived.Deep.MidRow
set_option maxHeartbeats 4000000
namespace Go.Proofs.YtegaapiocihcpaaGreatDoor
open Go.RowKit
theorem list32 {α:Type}(l:List α)(h:l.length=32):∃x0 x1 x2 x3 x4 x5 x6 x7 x8 x9 x10 x11 x12 x13 x14 x15 x16 x17 x18 x19 x20 x21 x22 x23 x24 x25 x26 x27 x28 x29 x30 x31,l=[x0,x1,x2,x3,x4,x5,x6,x7,x8,x9,x10,x11,x12,x13,x14,x15,x16,x17,x18,x19,x20,x21,x22,x23,x24,x25,x26,x27,x28,x29,x30,x31]:=by
 match l,h with
 |[x0,x1,x2,x3,x4,x5,x6,x7,x8,x9,x10,x11,x12,x13,x14,x15,x16,x17,x18,x19,x20,x21,x22,x23,x24,x25,x26,x27,x28,x29,x30,x31],_=>exact⟨_,_,_,_,_,_,_,_,_,_,_,_,_,_,_,_,_,_,_,_,_,_,_,_,_,_,_,_,_,_,_,_,rfl⟩
def Qa4 (n:Int)(r:List UInt8):List Value:=.int .i64 n::r.map Qab
def headV (n:Int)(r:List UInt8):Value:=.agg (Qa4 n r).toArray
def QdX:List Value:=.int .i64 0::Qaf.map Qab
theorem head_built (n:Int)(r:List UInt8)(h:r.length=32):Tryz.prog.built 103 [(0,.int .i64 n),(1,Qar r)]=some (Qa4 n r).toArray:=by
 obtain⟨x0,x1,x2,x3,x4,x5,x6,x7,x8,x9,x10,x11,x12,x13,x14,x15,x16,x17,x18,x19,x20,x21,x22,x23,x24,x25,x26,x27,x28,x29,x30,x31,rfl⟩:=list32 r h;kernel_rfl
theorem wp_built {P:Program}{o:Oper}{a:Act}{w:World}{K:Act→World→Prop}{Q:Exit→Act→World→Prop}(t:TypeId)(parts:List (Nat × Operand))(ho:o.op=.build t parts.toArray)(l:List (Nat × Value))(hl:parts.map (fun x=>(x.1,a.eval x.2))=l)(cs:Array Value)(hb:P.built t l=some cs) (h:K (a.put o.dst (.agg cs)) w):o.wp P a w K Q:=by
 have e:(parts.toArray.map fun(i,x)=>(i,a.eval x)).toList=l:=by rw[List.map_toArray];exact hl
 refine wp_build t parts.toArray ho ?_ ?_
 ·rw[e,hb];rfl
 ·rw[e,hb];exact h
set_option maxRecDepth 100000 in
theorem same_any (A B C D:Option Addr)(ca cb cc cd:Nat)(L L2:List H32)(N N2:List ByteArray)(w:World)(hl:Sl w (fun b=>b<w.heap.size) A ca L)(hn:Sl w (fun b=>b<w.heap.size) B cb N) (hl2:Sl w (fun b=>b<w.heap.size) C cc L2) (hn2:Sl w (fun b=>b<w.heap.size) D cd N2):
 Calls Tryz.prog 103 #[.agg #[.slice A L.length ca,.slice B N.length cb],.agg #[.slice C L2.length cc,.slice D N2.length cd]] w fun e w'=>e=.returned (.bool (decide (L=L2∧N=N2)))∧Below w.heap.size w w':=by
 have hba:Below w.heap.size w ((w.alloc (.cells #[.slice A L.length ca,.slice B N.length cb] 92)).alloc (.cells #[.slice C L2.length cc,.slice D N2.length cd] 92)):=(bR.alloc nL _).alloc (by simp) _
 have HX1:Hid (ABoxZ ((w.alloc (.cells #[.slice A L.length ca,.slice B N.length cb] 92)).alloc (.cells #[.slice C L2.length cc,.slice D N2.length cd] 92)) w.heap.size 92 [.slice A L.length ca,.slice B N.length cb]):=Lh (by
  unfold ABoxZ;rw[Below.heap_alloc _ _ _ (by simp)];exact heap_alloc_new w _)
 have HX2:Hid (ABoxZ ((w.alloc (.cells #[.slice A L.length ca,.slice B N.length cb] 92)).alloc (.cells #[.slice C L2.length cc,.slice D N2.length cd] 92)) (w.heap.size+1) 92 [.slice C L2.length cc,.slice D N2.length cd]):=Lh (Qai (by simp));have HB:=Lh hba;have HSH:=Lh (QeT A C ca cc _ _ L L2 _ (hl.to hba) (hl2.to hba) rfl rfl);have HSS:=Lh (fun w' (h:Below _ _ w')=>same_stringsZ B D cb cd N N2 w' ((hn.to hba).to h) ((hn2.to hba).to h));clear hba hl hn hl2 hn2;go_enter Tryz.func103,Tryz.ntmps103;go_upto_region 1 with(fail);generalize ((w.alloc (.cells #[.slice A L.length ca,.slice B N.length cb] 92)).alloc (.cells #[.slice C L2.length cc,.slice D N2.length cd] 92))=w1 at*;have k0:=HX1.out.cell 0 rfl;have k1:=HX2.out.cell 0 rfl;by_cases h1:L=L2
 ·have HT:Hid (decide (L=L2)=true):=Lh (decide_eq_true h1);have HT2:Hid (decide (L=L2∧N=N2)=decide (N=N2)):=Lh (by simp[h1]);have Hh1:=Lh h1;clear h1;rw[HT.out] at HSH;go_wp2_with fail;refine HSH.out.mono ?_;rintro e w2 ⟨rfl,hb2⟩;have k2:=(HX1.out.to hb2).cell 1 rfl;have k3:=(HX2.out.to hb2).cell 1 rfl;have HB2:=Lh hb2;clear k0 k1 hb2;go_wp2_with fail;refine(HSS.out w2 HB2.out).mono ?_;rintro e w3 ⟨rfl,hb3⟩;go_wp2_with fail;go_ret;exact⟨Qat HT2.out.symm,HB.out.trans ((HB2.out.trans (hb3.mono HB2.out.size)).mono HB.out.size)⟩
 ·have HT:Hid (decide (L=L2)=false):=Lh (decide_eq_false h1);have HT2:Hid (decide (L=L2∧N=N2)=false):=Lh (by simp[h1]);clear h1;rw[HT.out] at HSH;go_wp2_with fail;refine HSH.out.mono ?_;rintro e w2 ⟨rfl,hb2⟩;go_wp2_with fail;go_ret;exact⟨Qat HT2.out.symm,HB.out.trans (hb2.mono HB.out.size)⟩
theorem headL_one (n:Int)(r:List UInt8):(Qa4 n r).toArray.all (·.oneCell')=true:=by
 unfold Qa4;have h:=QaH r;simp only[List.all_toArray,List.all_cons,Bool.and_eq_true] at h ⊢;exact⟨rfl,h⟩
set_option maxRecDepth 100000 in
theorem top_any (A B:Option Addr)(ca n:Nat)(L:List H32)(w:World)(cb nb:Nat)(hl:Sl w (fun b=>b<w.heap.size) A ca L)(hn:L.length=n)(hs:n≤1073741824)(hK:KLaid w):
 Calls Tryz.prog 53 #[.agg #[.slice A n ca,.slice B nb cb]] w fun e w'=>e=.returned (headV n (root L))∧Below w.heap.size w w':=by
 have HRL:Hid ((root L).length=32):=Lh (Qbp _ (h32_len hl));have hba:Below w.heap.size w ((w.alloc (.cells #[.slice A n ca,.slice B nb cb] 92)).alloc (.cells QdX.toArray 103)):=(bR.alloc nL _).alloc (by simp) _
 have HX1:Hid (ABoxZ ((w.alloc (.cells #[.slice A n ca,.slice B nb cb] 92)).alloc (.cells QdX.toArray 103)) w.heap.size 92 [.slice A n ca,.slice B nb cb]):=Lh (by
  unfold ABoxZ;rw[Below.heap_alloc _ _ _ (by simp)];exact heap_alloc_new w _)
 have HR2:Hid (ABoxZ ((w.alloc (.cells #[.slice A n ca,.slice B nb cb] 92)).alloc (.cells QdX.toArray 103)) (w.heap.size+1) 103 QdX):=Lh (Qai (by simp));have HB:=Lh hba;have HRT:=Lh (fun W (h:Below _ _ W)=>root_any L A n ca W ((hl.to hba).to h) hn hs ((hK.to hba).to h));clear hba hl hn hK;have HBU:=Lh (head_built n (root L) HRL.out);have HSZ:Hid ((Qa4 n (root L)).toArray.size=33):=Lh (by unfold Qa4;simp[HRL.out]);have HONE:=Lh (headL_one n (root L));have HRE:Hid (headV n (root L)=.agg (Qa4 n (root L)).toArray):=Lh rfl;generalize root L=r at*;go_enter Tryz.func53,Tryz.ntmps53;go_upto_region 1 with(fail);generalize hw1:World.alloc (World.alloc w _) _=w1;have hw2:((w.alloc (.cells #[.slice A n ca,.slice B nb cb] 92)).alloc (.cells QdX.toArray 103))=w1:=hw1;rw[hw2] at HX1 HR2 HB HRT;clear hw1 hw2;refine Qaj (fun w'=>w'.cell? ⟨w.heap.size,0,none⟩=some (.slice A n ca)) (fun i=>decide (i<6)) (by kernel_rfl) ?_;have hb0:Hid (Below w1.heap.size w1 w1.drew):=Lh bR.drew;generalize w1.drew=W0 at*;refine tE 0 ⟨some 3,Op.fieldAddr 92 (.tmp 1) 0,0,_,_,_⟩ ?_ rfl ?zq0 (((HX1.out.to hb0.out).cell 0 rfl)) ?zq1;(case zq0=>intro wS hSw;(try dsimp only at hSw);go_simp;(try with_reducible rfl));(all_goals try go_frame);refine tE 1 ⟨some 4,Op.load 90 (.tmp 3),90,_,_,_⟩ ?_ rfl ?zq2 (((HX1.out.to hb0.out).cell 0 rfl)) ?zq3;(case zq2=>intro wS hSw;(try dsimp only at hSw);go_simp;(try with_reducible rfl));(all_goals try go_frame);refine tE 2 ⟨some 5,Op.call {callee:=Callee.builtin Builtin.len,args:=#[Operand.tmp 4],argTypes:=#[90]},3,_,_,_⟩ ?_ rfl ?zq4 (((HX1.out.to hb0.out).cell 0 rfl)) ?zq5;(case zq4=>intro wS hSw;(try dsimp only at hSw);go_simp;(try with_reducible rfl));(all_goals try go_frame);refine tE 3 ⟨some 6,Op.fieldAddr 92 (.tmp 1) 0,0,_,_,_⟩ ?_ rfl ?zq6 (((HX1.out.to hb0.out).cell 0 rfl)) ?zq7;(case zq6=>intro wS hSw;(try dsimp only at hSw);go_simp;(try with_reducible rfl));(all_goals try go_frame);refine tE 4 ⟨some 7,Op.load 90 (.tmp 6),90,_,_,_⟩ ?_ rfl ?zq8 (((HX1.out.to hb0.out).cell 0 rfl)) ?zq9;(case zq8=>intro wS hSw;(try dsimp only at hSw);go_simp;(try with_reducible rfl));(all_goals try go_frame);refine tD 5 ⟨some 8,Op.call {callee:=Callee.value (Operand.func 109),args:=#[Operand.tmp 7],argTypes:=#[90]},101,_,_,_⟩ rfl fun K hK=>?_
 go_simp;go_at_call 109;refine(HRT.out W0 hb0.out).mono ?_;rintro e W2 ⟨rfl,hb2⟩;have hbb:=Lh (hb0.out.trans (hb2.mono hb0.out.size));go_simp;refine hK _ _ (fun _=>?_) ?_
 ·exact((HX1.out.to hbb.out).cell 0 rfl)
 clear hK K;(try go_frame);refine tD 6 ⟨some 9,Op.build 103 #[(0,.tmp 5),(1,.tmp 8)],103,_,_,_⟩ rfl fun K hK=>?_
 refine wp_built 103 [(0,.tmp 5),(1,.tmp 8)] rfl [(0,.int .i64 (n:Int)),(1,Qar r)] rfl _ HBU.out ?_;refine hK _ _ (fun h=>absurd h (by decide)) ?_;clear hK K;(try go_frame);refine tD 7 ⟨none,Op.store 103 (.tmp 2) (.tmp 9),0,_,_,_⟩ rfl fun K hK=>?_
 have hq:=(HR2.out.to hbb.out);unfold ABoxZ at hq;refine wp_store_row 103 (.tmp 2) (.tmp 9) rfl (w.heap.size+1) (Qa4 n r).toArray ?_ ?_ 103 QdX.toArray hq (by rw[HSZ.out];kernel_rfl) (by rw[HSZ.out];rfl) HONE.out ?_
 ·rfl
 ·rfl
 refine hK _ _ (fun h=>absurd h (by decide)) ?_;clear hK K;(try simp only[Act.put]);refine Qae (by kernel_rfl) ?_ _;have HX:=Lh (setRow_heap _ (w.heap.size+1) _ (Qa4 n r).toArray _ _ hq);unfold Exit.then;go_wp2_with fail;exact bodyPost_ret (v:=.agg (Qa4 n r).toArray) (results_cell_row Tryz.results53 _ _ (w.heap.size+1) _ _ (0,0) _ rfl HX.out Tryz.underlying103 rfl (by rw[HSZ.out];kernel_rfl)) rfl ⟨by rw[HRE.out],Qax (HB.out.trans (hbb.out.mono HB.out.size)) (by omega) _⟩
def QbF (N:List ByteArray)(x:ByteArray):Int:=if lastIx N x<0 then 0 else lastIx N x
def Qbw (L:List H32)(N:List ByteArray)(x:ByteArray):List H32:=if lastIx N x<0 then[] else Qej L (lastIx N x).toNat
def proofB (N:List ByteArray)(x:ByteArray):Bool:= !decide (lastIx N x<0)
set_option maxRecDepth 100000 in
theorem Qem (A B:Option Addr)(ca cb:Nat)(L:List H32)(N:List ByteArray)(x:ByteArray)(w:World)(hl:Sl w (fun b=>b<w.heap.size) A ca L)(hn:Sl w (fun b=>b<w.heap.size) B cb N)(hln:L.length=N.length)(hs:L.length≤1048576)(hK:KLaid w):
 Calls Tryz.prog 51 #[.agg #[.slice A L.length ca,.slice B N.length cb],.string x] w fun e w'=>∃A' c',e=.returned (.tuple #[.int .i64 (QbF N x),.slice A' (Qbw L N x).length c',.bool (proofB N x)])∧Sl w' (fun b=>b<w'.heap.size) A' c' (Qbw L N x)∧Below w.heap.size w w':=by
 have hba:Below w.heap.size w (w.alloc (.cells #[.slice A L.length ca,.slice B N.length cb] 92)):=bR.alloc nL _;have HX1:Hid (ABoxZ (w.alloc (.cells #[.slice A L.length ca,.slice B N.length cb] 92)) w.heap.size 92 [.slice A L.length ca,.slice B N.length cb]):=Lh (heap_alloc_new w _);have HB:=Lh hba;have HLA:=Lh (last_anyZ A B L.length ca cb _ N x _ (hn.to hba) rfl (by omega));have HPA:=Lh (fun k (hk:k<L.length) W (h:Below _ _ W)=>path_any L A _ ca k W ((hl.to hba).to h) rfl hs hk ((hK.to hba).to h));have HLN:=Lh hln;clear hba hl hn hK hln;go_enter Tryz.func51,Tryz.ntmps51;go_upto_region 1 with(fail);generalize (w.alloc (.cells #[.slice A L.length ca,.slice B N.length cb] 92))=w1 at*;have k0:=HX1.out.cell 0 rfl;have k1:=HX1.out.cell 1 rfl;go_wp2_with fail;refine HLA.out.mono ?_;rintro e w2 ⟨rfl,hb2⟩;have HB2:=Lh hb2;clear k0 k1 hb2 HLA;rcases QdO N x with hc|⟨j,hj,hc⟩
 ·have HE:Hid (QbF N x=0∧Qbw L N x=[]∧proofB N x=false):=Lh (by unfold QbF Qbw proofB;rw[hc];exact⟨rfl,rfl,rfl⟩);rw[hc];clear hc;go_wp2_with fail;go_ret3;exact⟨none,0,by rw[HE.out.1,HE.out.2.1,HE.out.2.2];rfl,by rw[HE.out.2.1];exact Sl.nil _ _ _ _ (by decide),HB.out.trans (HB2.out.mono HB.out.size)⟩
 ·have HE:Hid (QbF N x=(j:Int)∧Qbw L N x=Qej L j∧proofB N x=true):=Lh (by
   have hq:¬(j:Int)<0:=(by omega)
   unfold QbF Qbw proofB;rw[hc,if_neg hq,if_neg hq,Int.toNat_natCast];exact⟨rfl,rfl,by simp[hq]⟩)
  rw[hc];clear hc;have k2:=(HX1.out.to HB2.out).cell 0 rfl;have HP:=Lh (HPA.out j (by have:=HLN.out;omega) w2 HB2.out);have hj0:¬(j:Int)<0:=(by omega);clear HPA HX1;go_wp2_with fail;refine HP.out.mono ?_;rintro e w3 ⟨A',c',rfl,hs3,hb3⟩;have HS3:=Lh hs3;have HB3:=Lh hb3;clear hs3 hb3 k2;go_wp2_with fail;go_ret3;exact⟨A',c',by rw[HE.out.1,HE.out.2.1,HE.out.2.2];rfl,by rw[HE.out.2.1];exact HS3.out,HB.out.trans ((HB2.out.trans (HB3.out.mono HB2.out.size)).mono HB.out.size)⟩
def QcY (n:Int)(r:List UInt8)(branch:Int)(s:Sheet)(i:Int)(p:List H32):Bool:=Qa3 r n i (leafOf branch s) p
set_option maxRecDepth 100000 in
theorem QdA (n branch i:Int)(r:List UInt8)(s:Sheet)(A B C:Option Addr)(c d cp N:Nat)(p:List H32)(w:World)(hr:r.length=32)(hbr:I64Z branch)(ha:Sl w (fun b=>b<w.heap.size) A c s.body)(hb:Sl w (fun b=>b<w.heap.size) B d s.notes)(hsz:(Qbm branch s).length≤1073740000) (hp:Sl w (fun b=>b<w.heap.size) C cp p) (hN:p.length=N) (hK:KLaid w):
 Calls Tryz.prog 52 #[headV n r,.int .i64 branch,.agg #[.string s.label,.slice A s.body.length c,.slice B s.notes.length d],.int .i64 i,.slice C N cp] w fun e w'=>e=.returned (.bool (QcY n r branch s i p))∧Below w.heap.size w w':=by
 have hN2:N≤9223372036854775807:=by have h1:=hp.1;have h2:=hp.2.1;unfold maxLen at h2;omega
 have hba:Below w.heap.size w ((w.alloc (.cells (Qa4 n r).toArray 103)).alloc (.cells #[.string s.label,.slice A s.body.length c,.slice B s.notes.length d] 46)):=(bR.alloc nL _).alloc (by simp) _
 have HX1:Hid (ABoxZ ((w.alloc (.cells (Qa4 n r).toArray 103)).alloc (.cells #[.string s.label,.slice A s.body.length c,.slice B s.notes.length d] 46)) w.heap.size 103 (Qa4 n r)):=Lh (by
  unfold ABoxZ;rw[Below.heap_alloc _ _ _ (by simp)];exact heap_alloc_new w _)
 have HX2:Hid (ABoxZ ((w.alloc (.cells (Qa4 n r).toArray 103)).alloc (.cells #[.string s.label,.slice A s.body.length c,.slice B s.notes.length d] 46)) (w.heap.size+1) 46 [.string s.label,.slice A s.body.length c,.slice B s.notes.length d]):=Lh (Qai (by simp));have HB:=Lh hba;have HLF:=Lh (fun W (h:Below _ _ W)=>Qck branch s A B c d W hbr ((ha.to hba).to h) ((hb.to hba).to h) hsz ((hK.to hba).to h));have HIN:=Lh (fun W (h:Below _ _ W)=>includes_any r (leafOf branch s) hr (Qan _) n i C cp N p W ((hp.to hba).to h) hN hN2 ((hK.to hba).to h));have HRM:Hid ((r.map Qab).length=32):=Lh (by rw[qM,hr]);have HCE:Hid (QcY n r branch s i p=Qa3 r n i (leafOf branch s) p):=Lh rfl;clear hba ha hb hp hN hK hsz hbr hr;unfold headV;rw[HCE.out];generalize leafOf branch s=lf at*;clear HCE;have SP:∀W,Below ((w.alloc (.cells (Qa4 n r).toArray 103)).alloc (.cells #[.string s.label,.slice A s.body.length c,.slice B s.notes.length d] 46)).heap.size ((w.alloc (.cells (Qa4 n r).toArray 103)).alloc (.cells #[.string s.label,.slice A s.body.length c,.slice B s.notes.length d] 46)) W→ W.cell? ⟨w.heap.size,0,none⟩=some (.int .i64 n)∧W.rangeAt w.heap.size 1 (r.map Qab)∧W.heap[w.heap.size+1]? =some (.cells #[.string s.label,.slice A s.body.length c,.slice B s.notes.length d] 46 (0,0)):=fun W h=>by
  refine⟨(HX1.out.to h).cell 0 rfl,fun j v hv=>?_,HX2.out.to h⟩;rw[Nat.add_comm];exact(HX1.out.to h).cell (j+1) (by unfold Qa4;rw[List.getElem?_cons_succ];exact hv)
 go_enter Tryz.func52,Tryz.ntmps52;go_upto_region 1 with(fail);generalize hw1:World.alloc (World.alloc w _) _=w1;have hw2:((w.alloc (.cells (Qa4 n r).toArray 103)).alloc (.cells #[.string s.label,.slice A s.body.length c,.slice B s.notes.length d] 46))=w1:=hw1;rw[hw2] at HX1 HX2 HB HLF HIN SP;clear hw1 hw2;refine Qaj (fun w'=>w'.cell? ⟨w.heap.size,0,none⟩=some (.int .i64 n)∧w'.rangeAt w.heap.size 1 (r.map Qab)∧w'.heap[w.heap.size+1]? =some (.cells #[.string s.label,.slice A s.body.length c,.slice B s.notes.length d] 46 (0,0))) (fun i=>decide (i<9)) (by kernel_rfl) ?_;have hb0:Hid (Below w1.heap.size w1 w1.drew):=Lh bR.drew;generalize w1.drew=W0 at*;refine tE 0 ⟨some 11,Op.fieldAddr 103 (.tmp 5) 1,0,_,_,_⟩ ?_ rfl ?zq0 (SP _ hb0.out) ?zq1;(case zq0=>intro _ s;clear s;go_simp;(try with_reducible rfl));(all_goals try go_frame);refine tE 1 ⟨some 12,Op.load 101 (.tmp 11),101,_,_,_⟩ ?_ rfl ?zq2 (SP _ hb0.out) ?zq3;(case zq2=>intro wS hSw;refine QaV 101 (.tmp 11) ?_ w.heap.size 1 ?_ (r.map Qab) _ hSw.2.1 Tryz.underlying101 ?_ ?_;rfl;rfl;rfl;(rw[HRM.out];kernel_rfl));(all_goals try go_frame);refine tE 2 ⟨some 13,Op.fieldAddr 103 (.tmp 5) 0,0,_,_,_⟩ ?_ rfl ?zq4 (SP _ hb0.out) ?zq5;(case zq4=>intro _ s;clear s;go_simp;(try with_reducible rfl));(all_goals try go_frame);refine tE 3 ⟨some 14,Op.load 3 (.tmp 13),3,_,_,_⟩ ?_ rfl ?zq6 (SP _ hb0.out) ?zq7;(case zq6=>intro wS hSw;(have hq:=hSw.1);clear hSw;go_simp;(try with_reducible rfl));(all_goals try go_frame);refine tE 4 ⟨some 15,Op.move (.tmp 3),3,_,_,_⟩ ?_ rfl ?zq8 (SP _ hb0.out) ?zq9;(case zq8=>intro _ s;clear s;go_simp;(try with_reducible rfl));(all_goals try go_frame);refine tE 5 ⟨some 16,Op.move (.tmp 1),3,_,_,_⟩ ?_ rfl ?zq10 (SP _ hb0.out) ?zq11;(case zq10=>intro _ s;clear s;go_simp;(try with_reducible rfl));(all_goals try go_frame);refine tE 6 ⟨some 17,Op.load 46 (.tmp 7),46,_,_,_⟩ ?_ rfl ?zq12 (SP _ hb0.out) ?zq13;(case zq12=>intro wS hSw;refine Qa0 46 (.tmp 7) ?_ (w.heap.size+1) ?_ 46 #[.string s.label,.slice A s.body.length c,.slice B s.notes.length d] (0,0) _ hSw.2.2 Tryz.underlying46 ?_ ?_;rfl;rfl;rfl;kernel_rfl);(all_goals try go_frame);refine tE 8 ⟨some 19,Op.move (.tmp 4),90,_,_,_⟩ ?_ rfl ?zq14 (SP _ hb0.out) ?zq15;(case zq14=>intro _ s;clear s;go_simp;(try with_reducible rfl));(all_goals try go_frame);refine tD 7 ⟨some 18,Op.call {callee:=Callee.value (Operand.func 99),args:=#[Operand.tmp 16,Operand.tmp 17],argTypes:=#[3,46]},101,_,_,_⟩ rfl fun K hK=>?_
 go_simp;go_at_call 99;refine(HLF.out W0 hb0.out).mono ?_;rintro e W2 ⟨rfl,hb2⟩;have hbb:=Lh (hb0.out.trans (hb2.mono hb0.out.size));go_simp;refine hK _ _ (fun _=>?_) ?_
 ·exact SP _ hbb.out
 clear hK K;(try go_frame);refine tD 9 ⟨some 20,Op.call {callee:=Callee.value (Operand.func 108),args:=#[Operand.tmp 12,Operand.tmp 14,Operand.tmp 15,Operand.tmp 18,Operand.tmp 19],argTypes:=#[101,3,3,101,90]},4,_,_,_⟩ rfl fun K hK=>?_
 go_simp;go_at_call 108;refine(HIN.out W2 hbb.out).mono ?_;rintro e W3 ⟨rfl,hb3⟩;have hbz:=Lh (hbb.out.trans (hb3.mono hbb.out.size));go_simp;refine hK _ _ (fun h=>absurd h (by decide)) ?_;clear hK K;(try go_frame);refine tD 10 ⟨some 10,Op.assign (.tmp 20),4,_,_,_⟩ rfl fun K hK=>?_
 go_simp;refine hK _ _ (fun h=>absurd h (by decide)) ?_;clear hK K;(try go_frame);refine Qae (by kernel_rfl) ?_ _;unfold Exit.then;go_wp2_with fail;go_ret;exact⟨rfl,HB.out.trans (hbz.out.mono HB.out.size)⟩
instance:Rep Sheet where
 size:=3
 R w S cs s:=∃va vb,cs=[.string s.label,va,vb]∧Rep.R w S [va] s.body∧Rep.R w S [vb] s.notes
 len:=by rintro w S cs s ⟨va,vb,rfl,_⟩;rfl
 one:=by
  rintro w S cs s ⟨va,vb,rfl,ha,hb⟩ u hu;have h1:=Rep.one ha va (by simp);have h2:=Rep.one hb vb (by simp);simp at hu;rcases hu with rfl|rfl|rfl
  ·rfl
  ·exact h1
  ·exact h2
 keep:=by rintro w w' S cs s ⟨va,vb,rfl,ha,hb⟩ hk;exact⟨va,vb,rfl,Rep.keep ha hk,Rep.keep hb hk⟩
 mono:=by rintro w S S' cs s ⟨va,vb,rfl,ha,hb⟩ hk;exact⟨va,vb,rfl,Rep.mono ha hk,Rep.mono hb hk⟩
theorem sheet_at {w:World}{S:Nat→Prop}{A:Option Addr}{c:Nat}{l:List Sheet}(h:Sl w S A c l){k:Nat}(hk:k<l.length):
 ∃b o A1 c1 A2 c2,A=some ⟨b,o,none⟩∧S b∧b<w.heap.size∧w.cell? ⟨b,o+k*3,none⟩=some (.string l[k].label)∧w.cell? ⟨b,o+k*3+1,none⟩=some (.slice A1 l[k].body.length c1)∧w.cell? ⟨b,o+k*3+2,none⟩=some (.slice A2 l[k].notes.length c2)∧ Sl w S A1 c1 l[k].body∧Sl w S A2 c2 l[k].notes:=by
 obtain⟨b,o,es,rfl,hb,hlt,⟨va,vb,rfl,⟨A1,c1,e1,h1,_⟩,⟨A2,c2,e2,h2,_⟩⟩,hc⟩:=h.at_ hk;obtain rfl:va=.slice A1 l[k].body.length c1:=by simpa using e1
 obtain rfl:vb=.slice A2 l[k].notes.length c2:=by simpa using e2
 exact⟨b,o,A1,c1,A2,c2,rfl,hb,hlt,hc 0 _ rfl,hc 1 _ rfl,hc 2 _ rfl,h1,h2⟩
def addAll (branch:Int)(p:List H32 × List ByteArray)(l:List Sheet):List H32 × List ByteArray:=l.foldl (addOne branch) p
theorem addOne_len (branch:Int)(p:List H32 × List ByteArray)(s:Sheet)(h:p.1.length=p.2.length):(addOne branch p s).1.length=(addOne branch p s).2.length∧(addOne branch p s).1.length≤p.1.length+1:=by
 unfold addOne;split<;>simp[h]
theorem addAll_len (branch:Int):∀(l:List Sheet) (p:List H32 × List ByteArray),p.1.length=p.2.length→(addAll branch p l).1.length=(addAll branch p l).2.length∧(addAll branch p l).1.length≤p.1.length+l.length
 |[],p,h=>⟨h,by simp[addAll]⟩
 |s::l,p,h=>by
  obtain⟨h1,h2⟩:=addOne_len branch p s h;obtain⟨h3,h4⟩:=addAll_len branch l _ h1;exact⟨h3,by rw[qC];exact Nat.le_trans h4 (by omega)⟩
theorem addAll_take (branch:Int)(p:List H32 × List ByteArray)(l:List Sheet)(k:Nat)(h:k<l.length):addAll branch p (l.take (k+1))=addOne branch (addAll branch p (l.take k)) l[k]:=by
 unfold addAll;rw[qT h,List.foldl_append];rfl
theorem LG.born {W:World}{O base:Nat}{v1 v2:Value}{L:List H32}{N:List ByteArray}(hO:ABoxZ W O 92 [.slice none 0 0,.slice none 0 0])(hOb:base≤O)(h1:Own W base 101 v1 L)(h2:Own W base 9 v2 N) (n1:some O≠v1.ownBlock) (n2:some O≠v2.ownBlock) (dj:∀g,v1.ownBlock=some g→v2.ownBlock≠some g) (hbs:base≤W.heap.size):LG ((W.setCell ⟨O,0,none⟩ v1).setCell ⟨O,1,none⟩ v2) O base v1 v2 L N:=by
 have hk:∀g,g≠O→((W.setCell ⟨O,0,none⟩ v1).setCell ⟨O,1,none⟩ v2).heap[g]? =W.heap[g]? :=fun g hne=>(Qal _ _ _ _ hne).trans (Qal _ _ _ _ hne)
 exact⟨(hO.set 0 v1).set 1 v2,Qc3 h1 (fun g e=>hk g (fun e2=>n1 (by rw[e,e2]))),Qcv h2 (fun g e=>hk g (fun e2=>n2 (by rw[e,e2]))),hOb,n1,n2,dj,by simp;omega⟩
set_option maxRecDepth 100000 in
theorem add_any (branch:Int)(A B C:Option Addr)(ca cb cc:Nat)(L:List H32)(N:List ByteArray)(l:List Sheet)(w:World)(hbr:I64Z branch) (hl:Sl w (fun b=>b<w.heap.size) A ca L) (hn:Sl w (fun b=>b<w.heap.size) B cb N) (hs:Sl w (fun b=>b<w.heap.size) C cc l) (hln:L.length=N.length) (hlm:L.length+l.length≤1048576) (hsz:∀s∈l,(Qbm branch s).length≤1073740000) (hK:KLaid w):
 Calls Tryz.prog 47 #[.agg #[.slice A L.length ca,.slice B N.length cb],.int .i64 branch,.slice C l.length cc] w fun e w'=>∃v1 v2,e=.returned (.agg #[v1,v2])∧ Own w' w.heap.size 101 v1 (addAll branch (L,N) l).1∧Own w' w.heap.size 9 v2 (addAll branch (L,N) l).2∧Below w.heap.size w w':=by
 have HL:=Lh hl;have HN:=Lh hn;have HS:=Lh hs;have HK:=Lh hK;have HBR:=Lh hbr;have HSZ:=Lh hsz;have HLN:=Lh hln;have HLM:=Lh hlm;clear hl hn hs hK hbr hsz hln hlm;go_enter Tryz.func47,Tryz.ntmps47;go_upto_region 1 with(fail);have hb0:Below w.heap.size w (((w.alloc (.cells #[.slice A L.length ca,.slice B N.length cb] 92)).alloc (.cells #[.int .i64 branch] 3)).alloc (.cells #[.slice none 0 0,.slice none 0 0] 92)):=((bR.alloc nL _).alloc (by simp) _).alloc (by simp;omega) _;have HB0:=Lh hb0;have HZ0:Hid ((((w.alloc (.cells #[.slice A L.length ca,.slice B N.length cb] 92)).alloc (.cells #[.int .i64 branch] 3)).alloc (.cells #[.slice none 0 0,.slice none 0 0] 92)).heap.size=w.heap.size+3):=Lh (by simp)
 have HX0:Hid (ABoxZ (((w.alloc (.cells #[.slice A L.length ca,.slice B N.length cb] 92)).alloc (.cells #[.int .i64 branch] 3)).alloc (.cells #[.slice none 0 0,.slice none 0 0] 92)) w.heap.size 92 [.slice A L.length ca,.slice B N.length cb]):=Lh (by
  unfold ABoxZ;rw[Below.heap_alloc _ _ _ (by simp;omega),Below.heap_alloc _ _ _ (by simp)];exact heap_alloc_new w _)
 have HX1:Hid (ABoxZ (((w.alloc (.cells #[.slice A L.length ca,.slice B N.length cb] 92)).alloc (.cells #[.int .i64 branch] 3)).alloc (.cells #[.slice none 0 0,.slice none 0 0] 92)) (w.heap.size+1) 3 [.int .i64 branch]):=Lh (by
  unfold ABoxZ;rw[Below.heap_alloc _ _ _ (by simp)];exact Qai (by simp))
 have HX2:Hid (ABoxZ (((w.alloc (.cells #[.slice A L.length ca,.slice B N.length cb] 92)).alloc (.cells #[.int .i64 branch] 3)).alloc (.cells #[.slice none 0 0,.slice none 0 0] 92)) (w.heap.size+1+1) 92 [.slice none 0 0,.slice none 0 0]):=Lh (Qai (by simp));have HL0:=Lh (HL.out.to hb0);have HN0:=Lh (HN.out.to hb0);have HK0:=Lh (HK.out.to hb0);clear hb0 HL HN HK;generalize (((w.alloc (.cells #[.slice A L.length ca,.slice B N.length cb] 92)).alloc (.cells #[.int .i64 branch] 3)).alloc (.cells #[.slice none 0 0,.slice none 0 0] 92))=w0 at*
 have SP:∀w',Below w0.heap.size w0 w'→w'.cell? ⟨w.heap.size,0,none⟩=some (.slice A L.length ca)∧w'.cell? ⟨w.heap.size,1,none⟩=some (.slice B N.length cb):=fun w' h=>by
  have hx:ABoxZ w' w.heap.size 92 [.slice A L.length ca,.slice B N.length cb]:=(h.block _ (by have:=HZ0.out;omega)).trans HX0.out;exact⟨hx.cell 0 rfl,hx.cell 1 rfl⟩
 go_cut [7] from 11 to 18 (fun p wx=>∃O A1 c1 A2 c2,p=.pointer (some ⟨O,0,none⟩)∧Hid (LG wx O w0.heap.size (.slice A1 L.length c1) (.slice A2 N.length c2) L N)∧Hid (Below w0.heap.size w0 wx));case first=>
  refine Qaj (fun w'=>w'.cell? ⟨w.heap.size,0,none⟩=some (.slice A L.length ca)∧w'.cell? ⟨w.heap.size,1,none⟩=some (.slice B N.length cb)) (fun i=>decide (i<8)) (by kernel_rfl) ?_;have hbs:Hid (Below w0.heap.size w0 w0.drew):=Lh bR.drew;have hHeld:=SP _ hbs.out;generalize w0.drew=W0 at*;refine Qaa (i:=0) (oi:=⟨some 11,Op.fieldAddr 92 (.tmp 3) 0,0,_,_,_⟩) (v:=?_) rfl (by kernel_rfl) (by kernel_rfl) (by kernel_rfl) (by kernel_rfl) (by kernel_rfl) (fun _ _ _ h=>h) (by rfl) ?zq0 hHeld ?zq1;(case zq0=>intro wS hSw;(try dsimp only at hSw);go_simp;(try with_reducible rfl));(all_goals try go_frame);refine Qaa (i:=1) (oi:=⟨some 12,Op.load 90 (.tmp 11),90,_,_,_⟩) (v:=?_) rfl (by kernel_rfl) (by kernel_rfl) (by kernel_rfl) (by kernel_rfl) (by kernel_rfl) (fun _ _ _ h=>h) (by rfl) ?zq2 hHeld ?zq3;(case zq2=>intro wS hSw;(try dsimp only at hSw);go_simp;(try with_reducible rfl));(all_goals try go_frame);refine Qaa (i:=3) (oi:=⟨some 14,Op.fieldAddr 92 (.tmp 3) 1,0,_,_,_⟩) (v:=?_) rfl (by kernel_rfl) (by kernel_rfl) (by kernel_rfl) (by kernel_rfl) (by kernel_rfl) (fun _ _ _ h=>h) (by rfl) ?zq4 hHeld ?zq5;(case zq4=>intro wS hSw;(try dsimp only at hSw);go_simp;(try with_reducible rfl));(all_goals try go_frame);refine Qaa (i:=4) (oi:=⟨some 15,Op.load 44 (.tmp 14),44,_,_,_⟩) (v:=?_) rfl (by kernel_rfl) (by kernel_rfl) (by kernel_rfl) (by kernel_rfl) (by kernel_rfl) (fun _ _ _ h=>h) (by rfl) ?zq6 hHeld ?zq7;(case zq6=>intro wS hSw;(try dsimp only at hSw);go_simp;(try with_reducible rfl));(all_goals try go_frame);refine QaW (i:=2) (j:=7) (oi:=⟨some 13,Op.call {callee:=Callee.value (Operand.func 96),args:=#[Operand.tmp 12],argTypes:=#[90]},90,_,_,_⟩) (oj:=⟨some 7,Op.alloc 92,0,_,_,_⟩) (by kernel_rfl) rfl rfl (by rfl) (by rfl) (fun K hK=>?_) (fun K hK=>?_)
  ·go_simp;go_at_call 96;refine(hclone_any A ca _ L W0 (HL0.out.to hbs.out) rfl (by have:=HLM.out;omega)).mono ?_;rintro e W1 ⟨v1,rfl,hown1,hbc1⟩;obtain⟨A1,c1,rfl,-⟩:=hown1.form;have hb1:=Lh (hbs.out.trans (hbc1.mono hbs.out.size));have ho11:=Lh (hown1.re hbs.out.size);have hl11:Hid (∀g,(Value.slice A1 L.length c1).ownBlock=some g→W0.heap.size≤g):=Lh (fun g hg=>(hown1.lt g hg).1);go_simp;refine hK _ _ (fun _=>?_) ?_
   ·exact SP _ hb1.out
   clear hK K hHeld;have hHeld:=SP _ hb1.out;(try go_frame);clear hown1 hbc1;refine QaW (i:=5) (j:=7) (oi:=⟨some 16,Op.call {callee:=Callee.value (Operand.func 97),args:=#[Operand.tmp 15],argTypes:=#[44]},44,_,_,_⟩) (oj:=⟨some 7,Op.alloc 92,0,_,_,_⟩) (by kernel_rfl) rfl rfl (by rfl) (by rfl) (fun K hK=>?_) (fun K hK=>?_)
   ·go_simp;go_at_call 97;refine(Qdo B cb _ N W1 (HN0.out.to hb1.out) rfl (by have:=HLM.out;have:=HLN.out;omega)).mono ?_;rintro e W2 ⟨v2,rfl,hown2,hbc2⟩;obtain⟨A2,c2,rfl,-⟩:=hown2.form;have hb2:=Lh (hb1.out.trans (hbc2.mono hb1.out.size));have ho22:=Lh (hown2.re hb1.out.size);have ho12:=Lh (ho11.out.below hbc2);have hdj:Hid (∀g,(Value.slice A1 L.length c1).ownBlock=some g→(Value.slice A2 N.length c2).ownBlock≠some g):=Lh (fun g h1 h2=>by have:=(ho11.out.lt g h1).2;have:=(hown2.lt g h2).1;omega);go_simp;refine hK _ _ (fun _=>?_) ?_
    ·exact SP _ hb2.out
    clear hK K hHeld;have hHeld:=SP _ hb2.out;(try go_frame);clear hown2 hbc2;refine Qaa (i:=6) (oi:=⟨some 17,Op.build 92 #[(0,.tmp 13),(1,.tmp 16)],92,_,_,_⟩) (v:=?_) rfl (by kernel_rfl) (by kernel_rfl) (by kernel_rfl) (by kernel_rfl) (by kernel_rfl) (fun _ _ _ h=>h) (by rfl) ?zq8 hHeld ?zq9;(case zq8=>intro wS hSw;(try dsimp only at hSw);go_simp;(try with_reducible rfl));(all_goals try go_frame);refine tD 7 ⟨some 7,Op.alloc 92,0,_,_,_⟩ rfl fun K hK=>?_
    go_simp;refine hK _ _ (fun _=>?_) ?_
    ·exact SP _ (hb2.out.alloc hb2.out.size _)
    clear hK K hHeld;have hb3:=Lh (hb2.out.alloc hb2.out.size (.cells #[.slice none 0 0,.slice none 0 0] 92));have hO3:Hid (ABoxZ (W2.alloc (.cells #[.slice none 0 0,.slice none 0 0] 92)) W2.heap.size 92 [.slice none 0 0,.slice none 0 0]):=Lh (heap_alloc_new W2 _);have hOb:Hid (w0.heap.size≤W2.heap.size):=Lh hb2.out.size;have hn1:Hid (some W2.heap.size≠(Value.slice A1 L.length c1).ownBlock):=Lh (fun e=>by have:=(ho12.out.lt _ e.symm).2;omega);have ho13:=Lh (ho12.out.alloc (.cells #[.slice none 0 0,.slice none 0 0] 92));have hn2:Hid (some W2.heap.size≠(Value.slice A2 N.length c2).ownBlock):=Lh (fun e=>by have:=(ho22.out.lt _ e.symm).2;omega);have ho23:=Lh (ho22.out.alloc (.cells #[.slice none 0 0,.slice none 0 0] 92));generalize W2.heap.size=O at*;generalize W2.alloc (.cells #[.slice none 0 0,.slice none 0 0] 92)=W3 at*;have hHeld:=SP _ hb3.out;(try go_frame);refine tD 8 ⟨none,Op.store 92 (.tmp 7) (.tmp 17),0,_,_,_⟩ rfl fun K hK=>?_
    have hlg:=Lh (LG.born hO3.out hOb.out ho13.out ho23.out hn1.out hn2.out hdj.out hb3.out.size);have hbe:=Lh ((hb3.out.setCell (p:=⟨O,0,none⟩) hOb.out (.slice A1 L.length c1)).setCell (p:=⟨O,1,none⟩) hOb.out (.slice A2 N.length c2));have k90:=hO3.out.cell 0 rfl;have f90:=hO3.out.fz;have k91:=(hO3.out.set 0 (.slice A1 L.length c1)).cell 1 rfl;have f91:=(hO3.out.set 0 (.slice A1 L.length c1)).fz;go_simp;refine hK _ _ (fun h=>absurd h (by decide)) ?_;clear hK K;(try go_frame);refine Qae (by kernel_rfl) ?_ _;unfold Exit.then;(try go_wp2_with fail);go_meet;exact⟨_,_,_,_,_,rfl,hlg,hbe⟩
   ·go_simp;refine hK _ _ (fun _=>?_) ?_
    ·exact SP _ (hb1.out.alloc hb1.out.size _)
    clear hK K hHeld;have hb2:=Lh (hb1.out.alloc hb1.out.size (.cells #[.slice none 0 0,.slice none 0 0] 92));have hO2:Hid (ABoxZ (W1.alloc (.cells #[.slice none 0 0,.slice none 0 0] 92)) W1.heap.size 92 [.slice none 0 0,.slice none 0 0]):=Lh (heap_alloc_new W1 _);have hOb:Hid (w0.heap.size≤W1.heap.size):=Lh hb1.out.size;have hn1:Hid (some W1.heap.size≠(Value.slice A1 L.length c1).ownBlock):=Lh (fun e=>by have:=(ho11.out.lt _ e.symm).2;omega);have ho12:=Lh (ho11.out.alloc (.cells #[.slice none 0 0,.slice none 0 0] 92));generalize W1.heap.size=O at*;generalize W1.alloc (.cells #[.slice none 0 0,.slice none 0 0] 92)=W2 at*;have hHeld:=SP _ hb2.out;(try go_frame);refine tD 5 ⟨some 16,Op.call {callee:=Callee.value (Operand.func 97),args:=#[Operand.tmp 15],argTypes:=#[44]},44,_,_,_⟩ rfl fun K hK=>?_
    go_simp;go_at_call 97;refine(Qdo B cb _ N W2 (HN0.out.to hb2.out) rfl (by have:=HLM.out;have:=HLN.out;omega)).mono ?_;rintro e W3 ⟨v2,rfl,hown3,hbc3⟩;obtain⟨A2,c2,rfl,-⟩:=hown3.form;have hb3:=Lh (hb2.out.trans (hbc3.mono hb2.out.size));have ho23:=Lh (hown3.re hb2.out.size);have ho13:=Lh (ho12.out.below hbc3);have hdj:Hid (∀g,(Value.slice A1 L.length c1).ownBlock=some g→(Value.slice A2 N.length c2).ownBlock≠some g):=Lh (fun g h1 h2=>by have:=(ho12.out.lt g h1).2;have:=(hown3.lt g h2).1;omega);have hO3:=Lh (hO2.out.to hbc3);have hn2:Hid (some O≠(Value.slice A2 N.length c2).ownBlock):=Lh (fun e=>by have:=(hown3.lt _ e.symm).1;have:=hO2.out.lt;omega);go_simp;refine hK _ _ (fun _=>?_) ?_
    ·exact SP _ hb3.out
    clear hK K hHeld;have hHeld:=SP _ hb3.out;(try go_frame);clear hown3 hbc3;refine Qaa (i:=6) (oi:=⟨some 17,Op.build 92 #[(0,.tmp 13),(1,.tmp 16)],92,_,_,_⟩) (v:=?_) rfl (by kernel_rfl) (by kernel_rfl) (by kernel_rfl) (by kernel_rfl) (by kernel_rfl) (fun _ _ _ h=>h) (by rfl) ?zq10 hHeld ?zq11;(case zq10=>intro wS hSw;(try dsimp only at hSw);go_simp;(try with_reducible rfl));(all_goals try go_frame);refine tD 8 ⟨none,Op.store 92 (.tmp 7) (.tmp 17),0,_,_,_⟩ rfl fun K hK=>?_
    have hlg:=Lh (LG.born hO3.out hOb.out ho13.out ho23.out hn1.out hn2.out hdj.out hb3.out.size);have hbe:=Lh ((hb3.out.setCell (p:=⟨O,0,none⟩) hOb.out (.slice A1 L.length c1)).setCell (p:=⟨O,1,none⟩) hOb.out (.slice A2 N.length c2));have k90:=hO3.out.cell 0 rfl;have f90:=hO3.out.fz;have k91:=(hO3.out.set 0 (.slice A1 L.length c1)).cell 1 rfl;have f91:=(hO3.out.set 0 (.slice A1 L.length c1)).fz;go_simp;refine hK _ _ (fun h=>absurd h (by decide)) ?_;clear hK K;(try go_frame);refine Qae (by kernel_rfl) ?_ _;unfold Exit.then;(try go_wp2_with fail);go_meet;exact⟨_,_,_,_,_,rfl,hlg,hbe⟩
  ·go_simp;refine hK _ _ (fun _=>?_) ?_
   ·exact SP _ (hbs.out.alloc hbs.out.size _)
   clear hK K hHeld;have hb1:=Lh (hbs.out.alloc hbs.out.size (.cells #[.slice none 0 0,.slice none 0 0] 92));have hO1:Hid (ABoxZ (W0.alloc (.cells #[.slice none 0 0,.slice none 0 0] 92)) W0.heap.size 92 [.slice none 0 0,.slice none 0 0]):=Lh (heap_alloc_new W0 _);have hOb:Hid (w0.heap.size≤W0.heap.size):=Lh hbs.out.size;generalize W0.heap.size=O at*;generalize W0.alloc (.cells #[.slice none 0 0,.slice none 0 0] 92)=W1 at*;have hHeld:=SP _ hb1.out;(try go_frame);refine tD 2 ⟨some 13,Op.call {callee:=Callee.value (Operand.func 96),args:=#[Operand.tmp 12],argTypes:=#[90]},90,_,_,_⟩ rfl fun K hK=>?_
   go_simp;go_at_call 96;refine(hclone_any A ca _ L W1 (HL0.out.to hb1.out) rfl (by have:=HLM.out;omega)).mono ?_;rintro e W2 ⟨v1,rfl,hown2,hbc2⟩;obtain⟨A1,c1,rfl,-⟩:=hown2.form;have hb2:=Lh (hb1.out.trans (hbc2.mono hb1.out.size));have ho12:=Lh (hown2.re hb1.out.size);have hl12:Hid (∀g,(Value.slice A1 L.length c1).ownBlock=some g→W1.heap.size≤g):=Lh (fun g hg=>(hown2.lt g hg).1);have hO2:=Lh (hO1.out.to hbc2);have hn1:Hid (some O≠(Value.slice A1 L.length c1).ownBlock):=Lh (fun e=>by have:=hl12.out _ e.symm;have:=hO1.out.lt;omega);go_simp;refine hK _ _ (fun _=>?_) ?_
   ·exact SP _ hb2.out
   clear hK K hHeld;have hHeld:=SP _ hb2.out;(try go_frame);clear hown2 hbc2;refine tD 5 ⟨some 16,Op.call {callee:=Callee.value (Operand.func 97),args:=#[Operand.tmp 15],argTypes:=#[44]},44,_,_,_⟩ rfl fun K hK=>?_
   go_simp;go_at_call 97;refine(Qdo B cb _ N W2 (HN0.out.to hb2.out) rfl (by have:=HLM.out;have:=HLN.out;omega)).mono ?_;rintro e W3 ⟨v2,rfl,hown3,hbc3⟩;obtain⟨A2,c2,rfl,-⟩:=hown3.form;have hb3:=Lh (hb2.out.trans (hbc3.mono hb2.out.size));have ho23:=Lh (hown3.re hb2.out.size);have ho13:=Lh (ho12.out.below hbc3);have hdj:Hid (∀g,(Value.slice A1 L.length c1).ownBlock=some g→(Value.slice A2 N.length c2).ownBlock≠some g):=Lh (fun g h1 h2=>by have:=(ho12.out.lt g h1).2;have:=(hown3.lt g h2).1;omega);have hO3:=Lh (hO2.out.to hbc3);have hn2:Hid (some O≠(Value.slice A2 N.length c2).ownBlock):=Lh (fun e=>by have:=(hown3.lt _ e.symm).1;have:=hO2.out.lt;omega);go_simp;refine hK _ _ (fun _=>?_) ?_
   ·exact SP _ hb3.out
   clear hK K hHeld;have hHeld:=SP _ hb3.out;(try go_frame);clear hown3 hbc3;refine Qaa (i:=6) (oi:=⟨some 17,Op.build 92 #[(0,.tmp 13),(1,.tmp 16)],92,_,_,_⟩) (v:=?_) rfl (by kernel_rfl) (by kernel_rfl) (by kernel_rfl) (by kernel_rfl) (by kernel_rfl) (fun _ _ _ h=>h) (by rfl) ?zq12 hHeld ?zq13;(case zq12=>intro wS hSw;(try dsimp only at hSw);go_simp;(try with_reducible rfl));(all_goals try go_frame);refine tD 8 ⟨none,Op.store 92 (.tmp 7) (.tmp 17),0,_,_,_⟩ rfl fun K hK=>?_
   have hlg:=Lh (LG.born hO3.out hOb.out ho13.out ho23.out hn1.out hn2.out hdj.out hb3.out.size);have hbe:=Lh ((hb3.out.setCell (p:=⟨O,0,none⟩) hOb.out (.slice A1 L.length c1)).setCell (p:=⟨O,1,none⟩) hOb.out (.slice A2 N.length c2));have k90:=hO3.out.cell 0 rfl;have f90:=hO3.out.fz;have k91:=(hO3.out.set 0 (.slice A1 L.length c1)).cell 1 rfl;have f91:=(hO3.out.set 0 (.slice A1 L.length c1)).fz;go_simp;refine hK _ _ (fun h=>absurd h (by decide)) ?_;clear hK K;(try go_frame);refine Qae (by kernel_rfl) ?_ _;unfold Exit.then;(try go_wp2_with fail);go_meet;exact⟨_,_,_,_,_,rfl,hlg,hbe⟩
 case rest=>
  obtain⟨O,A1,c1,A2,c2,rfl,HG1,HB1⟩:=hcut;have hmf:∀(fn:Fn) (first cap:Array Value) (w:World),(Instr.makeFunc fn first cap).run Tryz.prog w=.ok (.func fn first cap) w:=fun _ _ _ _=>rfl
  clear SP;have HLL:Hid (l.length≤1048576):=Lh (by have:=HLM.out;omega);have hll:(l.length:Int)≤1048576:=(by have:=HLM.out;omega);go_wp2_with fail
  go_loopw [21] (fun i wr=>∃(k:Nat) (v1 v2:Value),k≤l.length∧i=.int .i64 (k:Int)∧Hid (LG wr O w0.heap.size v1 v2 (addAll branch (L,N) (l.take k)).1 (addAll branch (L,N) (l.take k)).2)∧Hid (Below w0.heap.size w0 wr)) (fun i _=>l.length-(intOf i).toNat)
  (case atStart=>exact⟨0,_,_,Nat.zero_le _,rfl,HG1,HB1⟩);case round=>
   obtain⟨k,v1,v2,hk,rfl,HGr,HBr⟩:=hrel;by_cases hkl:k<l.length
   ·obtain⟨b,o,A3,c3,A4,c4,rfl,hb,hblt,d0,d1,d2,s1,s2⟩:=sheet_at HS.out hkl;have HBw:Hid (Below w.heap.size w wr):=Lh (HB0.out.trans (HBr.out.mono (by have:=HZ0.out;omega)));have e0:=(HBw.out.cell (p:=⟨b,o+k*3,none⟩) hb).trans d0;have e1:=(HBw.out.cell (p:=⟨b,o+k*3+1,none⟩) hb).trans d1;have e2:=(HBw.out.cell (p:=⟨b,o+k*3+2,none⟩) hb).trans d2;clear d0 d1 d2;generalize hx:l[k]=x at*;have HAT:=Lh (addAll_take branch (L,N) l k hkl);obtain⟨hl1,hl2⟩:=addAll_len branch (l.take k) (L,N) HLN.out;have HL1:=Lh hl1;have HL2:Hid ((addAll branch (L,N) (l.take k)).1.length≤1048576):=Lh (by have:=HLM.out;rw[qK] at hl2;simp only at hl2;omega);have HXS:Hid ((Qbm branch x).length≤1073740000):=Lh (HSZ.out x (by rw[←hx];exact List.getElem_mem _));rw[hx] at HAT;clear hl1 hl2;obtain⟨q1,hq1⟩:∃q1,q1=addAll branch (L,N) (l.take (k+1)):=⟨_,rfl⟩;have HQ1:=Lh hq1;rw[←hq1] at HAT;clear hq1;generalize addAll branch (L,N) (l.take k)=q at*
    have HT:∀W,Below wr.heap.size wr W→Calls Tryz.prog 98 #[.agg #[.string x.label,.slice A3 x.body.length c3,.slice A4 x.notes.length c4],.pointer (some ⟨w.heap.size+1,0,none⟩),.pointer (some ⟨O,0,none⟩)] W fun e w'=>e=.returned (.tuple #[])∧ ∃v1' v2',LG w' O w0.heap.size v1' v2' q1.1 q1.2∧Below w0.heap.size w0 w':=fun W hW=>by
     have hz:=HZ0.out;have hB:=HBr.out.trans (hW.mono HBr.out.size)
     refine(add1_any branch x A3 A4 c3 c4 (w.heap.size+1) O w0.heap.size v1 v2 q.1 q.2 W HBR.out ((hB.cell (p:=⟨w.heap.size+1,0,none⟩) (by show w.heap.size+1<_;omega)).trans (HX1.out.cell 0 rfl)) (by omega) ((s1.to HB0.out).keep (Kept.below hB (fun _ h=>h)) hB.size) ((s2.to HB0.out).keep (Kept.below hB (fun _ h=>h)) hB.size) HXS.out (HK0.out.to hB) (HGr.out.to hW) HL1.out HL2.out).mono ?_
     rintro e w' ⟨rfl,v1',v2',hg,hb⟩;rw[HAT.out];exact⟨rfl,v1',v2',hg,hB.trans hb⟩
    clear HBr HGr HBw s1 s2;go_wp2_with (first|(go_at_call 98;refine(HT _ (bR.alloc nL _)).mono ?_;rintro e w5 ⟨rfl,v1',v2',hg5,hb5⟩)|fail);go_roundw;(case rel=>exact⟨k+1,v1',v2',by omega,by go_num,Lh (by rw[←HQ1.out];exact hg5),Lh hb5⟩);case measure=>simp[intOf];omega
   ·obtain rfl:k=l.length:=by omega
    have HGe:Hid (LG wr O w0.heap.size v1 v2 (addAll branch (L,N) l).1 (addAll branch (L,N) l).2):=Lh (by have:=HGr.out;rwa [List.take_length] at this);have HR:Hid (ABoxZ wr (w.heap.size+1+1) 92 [.slice none 0 0,.slice none 0 0]):=Lh ((HBr.out.block _ (by have:=HZ0.out;omega)).trans HX2.out);have k0:=HGe.out.o.cell 0 rfl;have k1:=HGe.out.o.cell 1 rfl;have r0:=HR.out.cell 0 rfl;have r1:=(HR.out.set 0 v1).cell 1 rfl;have rf:=HR.out.fz;have rf2:=(HR.out.set 0 v1).fz;have HRR:=Lh ((HR.out.set 0 v1).set 1 v2);obtain⟨A5,c5,e5,-⟩:=HGe.out.l.form;obtain⟨A6,c6,e6,-⟩:=HGe.out.n.form;clear HGr HR;obtain⟨q,hqe⟩:∃q,q=addAll branch (L,N) l:=⟨_,rfl⟩;have HQE:=Lh hqe.symm;rw[←hqe] at HGe e5 e6;clear hqe;clear hmf;subst e5 e6;go_wp2_with fail;have hz:=HZ0.out;have hkk:∀g,w0.heap.size≤g→((wr.setCell ⟨w.heap.size+1+1,0,none⟩ (.slice A5 q.1.length c5)).setCell ⟨w.heap.size+1+1,1,none⟩ (.slice A6 q.2.length c6)).heap[g]? =wr.heap[g]? :=fun g hg=>(Qal _ _ _ _ (by omega)).trans (Qal _ _ _ _ (by omega))
    refine bodyPost_ret (v:=.agg #[.slice A5 q.1.length c5,.slice A6 q.2.length c6]) (results_cell_row Tryz.results47 _ _ (w.heap.size+1+1) _ _ (0,0) _ rfl HRR.out Tryz.underlying92 rfl (by kernel_rfl)) rfl ⟨_,_,rfl,?_,?_,?_⟩
    ·rw[HQE.out];exact(Qc3 HGe.out.l (fun g hg=>hkk g (HGe.out.l.lt g hg).1)).re (by omega)
    ·rw[HQE.out];exact(Qcv HGe.out.n (fun g hg=>hkk g (HGe.out.n.lt g hg).1)).re (by omega)
    ·exact((HB0.out.trans (HBr.out.mono (by omega))).setCell (p:=⟨_,0,none⟩) (by show _≤w.heap.size+1+1;omega) _).setCell (p:=⟨_,1,none⟩) (by show _≤w.heap.size+1+1;omega) _
structure SBZ (W:World)(O:Nat)(s:Sheet)(A1:Option Addr)(c1:Nat)(A2:Option Addr)(c2:Nat):Prop where
 box:ABoxZ W O 46 [.string s.label,.slice A1 s.body.length c1,.slice A2 s.notes.length c2]
 b:Sl W (fun b=>b<W.heap.size) A1 c1 s.body
 n:Sl W (fun b=>b<W.heap.size) A2 c2 s.notes
theorem SBZ.to {W W':World}{O:Nat}{s:Sheet}{A1:Option Addr}{c1:Nat}{A2:Option Addr}{c2:Nat}(h:SBZ W O s A1 c1 A2 c2)(hb:Below W.heap.size W W'):SBZ W' O s A1 c1 A2 c2:=⟨h.box.to hb,h.b.to hb,h.n.to hb⟩
structure LBZ (W:World)(O:Nat)(L:List H32)(N:List ByteArray)(A1:Option Addr)(c1:Nat)(A2:Option Addr)(c2:Nat):Prop where
 box:ABoxZ W O 92 [.slice A1 L.length c1,.slice A2 N.length c2]
 l:Sl W (fun b=>b<W.heap.size) A1 c1 L
 n:Sl W (fun b=>b<W.heap.size) A2 c2 N
theorem LBZ.to {W W':World}{O:Nat}{L:List H32}{N:List ByteArray}{A1:Option Addr}{c1:Nat}{A2:Option Addr}{c2:Nat}(h:LBZ W O L N A1 c1 A2 c2)(hb:Below W.heap.size W W'):LBZ W' O L N A1 c1 A2 c2:=⟨h.box.to hb,h.l.to hb,h.n.to hb⟩
theorem sl_pair {W:World}{B:Nat}{te:TypeId}{fr:Nat × Nat}{s1 s2:Sheet}{A1 A2 A3 A4:Option Addr}{c1 c2 c3 c4:Nat} (hB:W.heap[B]? =some (.cells #[.string s1.label,.slice A1 s1.body.length c1,.slice A2 s1.notes.length c2,.string s2.label,.slice A3 s2.body.length c3,.slice A4 s2.notes.length c4] te fr)) (h1:Sl W (fun b=>b<W.heap.size) A1 c1 s1.body) (h2:Sl W (fun b=>b<W.heap.size) A2 c2 s1.notes) (h3:Sl W (fun b=>b<W.heap.size) A3 c3 s2.body) (h4:Sl W (fun b=>b<W.heap.size) A4 c4 s2.notes) (l1:s1.body.length<9223372036854775808) (l2:s1.notes.length<9223372036854775808) (l3:s2.body.length<9223372036854775808) (l4:s2.notes.length<9223372036854775808):
 Sl W (fun b=>b<W.heap.size) (some ⟨B,0,none⟩) 2 [s1,s2]:=by
 refine Sl.block (l:=[s1,s2]) hB (Array.getElem?_eq_some_iff.1 hB).1 (by simp[maxLen]) (fun i hi=>?_);have:i=0∨i=1:=by simp at hi;omega
 rcases this with rfl|rfl
 ·exact⟨_,_,rfl,⟨A1,c1,rfl,h1,l1⟩,⟨A2,c2,rfl,h2,l2⟩⟩
 ·exact⟨_,_,rfl,⟨A3,c3,rfl,h3,l3⟩,⟨A4,c4,rfl,h4,l4⟩⟩
theorem addTwo (W:World)(L:List H32)(N:List ByteArray)(A B:Option Addr)(ca cb:Nat)(s1 s2:Sheet)(A1 A2 A3 A4:Option Addr)(c1 c2 c3 c4:Nat)(hl:Sl W (fun b=>b<W.heap.size) A ca L)(hn:Sl W (fun b=>b<W.heap.size) B cb N) (h1:Sl W (fun b=>b<W.heap.size) A1 c1 s1.body) (h2:Sl W (fun b=>b<W.heap.size) A2 c2 s1.notes) (h3:Sl W (fun b=>b<W.heap.size) A3 c3 s2.body) (h4:Sl W (fun b=>b<W.heap.size) A4 c4 s2.notes) (hln:L.length=N.length) (hlm:L.length≤1000) (z1:(Qbm 0 s1).length≤1000000) (z2:(Qbm 0 s2).length≤1000000) (l1:s1.body.length≤100) (l2:s1.notes.length≤100) (l3:s2.body.length≤100) (l4:s2.notes.length≤100) (hK:KLaid W):
 Calls Tryz.prog 47 #[.agg #[.slice A L.length ca,.slice B N.length cb],.int .i64 0,.slice (some ⟨W.heap.size,0,none⟩) 2 2] (W.alloc (.cells #[.string s1.label,.slice A1 s1.body.length c1,.slice A2 s1.notes.length c2,.string s2.label,.slice A3 s2.body.length c3,.slice A4 s2.notes.length c4] 46)) fun e w'=>
  ∃A' B' ca' cb',e=.returned (.agg #[.slice A' (addAll 0 (L,N) [s1,s2]).1.length ca',.slice B' (addAll 0 (L,N) [s1,s2]).2.length cb'])∧ Sl w' (fun b=>b<w'.heap.size) A' ca' (addAll 0 (L,N) [s1,s2]).1∧Sl w' (fun b=>b<w'.heap.size) B' cb' (addAll 0 (L,N) [s1,s2]).2∧Below W.heap.size W w':=by
 have hb:Below W.heap.size W (W.alloc (.cells #[.string s1.label,.slice A1 s1.body.length c1,.slice A2 s1.notes.length c2,.string s2.label,.slice A3 s2.body.length c3,.slice A4 s2.notes.length c4] 46)):=bR.alloc nL _;refine(add_any 0 A B (some ⟨W.heap.size,0,none⟩) ca cb 2 L N [s1,s2] _ (by unfold I64Z;omega) (hl.to hb) (hn.to hb) (sl_pair (heap_alloc_new W _) (h1.to hb) (h2.to hb) (h3.to hb) (h4.to hb) (by omega) (by omega) (by omega) (by omega)) hln (by simp;omega) (fun s hs=>?_) (hK.to hb)).mono ?_
 ·rcases List.mem_cons.1 hs with rfl|hs
  ·omega
  ·obtain rfl:=List.mem_singleton.1 hs;omega
 ·rintro e w' ⟨v1,v2,rfl,ho1,ho2,hb2⟩;obtain⟨A',ca',rfl,hs1⟩:=ho1.sl;obtain⟨B',cb',rfl,hs2⟩:=ho2.sl;exact⟨A',B',ca',cb',rfl,hs1,hs2,hb.trans (hb2.mono hb.size)⟩
def sOne:Sheet:=⟨⟨#[49]⟩,[⟨#[97,98]⟩],[]⟩
def QeF:Sheet:=⟨⟨#[50]⟩,[],[⟨#[120]⟩]⟩
def sOther:Sheet:=⟨⟨#[49]⟩,[⟨#[97,99]⟩],[]⟩
def lvA:List H32 × List ByteArray:=addAll 0 ([],[]) [sOne,QeF]
def lvM:List H32 × List ByteArray:=addAll 0 lvA [sOther,QeF]
theorem lv_again:addAll 0 lvA [sOne,QeF]=lvA:=by decide +kernel
theorem lv_len:lvA.1.length=2∧lvA.2.length=2∧lvM.1.length=3∧lvM.2.length=3:=by decide +kernel
theorem lv_leaf:decide (leafOf 0 sOne=QcF [0,1,49,1,2,97,98,0])=true:=by decide +kernel
theorem lv_root:decide (root lvA.1=nodeH (leafOf 0 sOne) (leafOf 0 QeF))=true:=by decide +kernel
theorem lv_proof:QbF lvM.2 ⟨#[49]⟩=2∧proofB lvM.2 ⟨#[49]⟩=true∧QbF lvM.2 ⟨#[50]⟩=1∧proofB lvM.2 ⟨#[50]⟩=true:=by decide +kernel
theorem lv_check:QcY 3 (root lvM.1) 0 sOther 2 (Qbw lvM.1 lvM.2 ⟨#[49]⟩)=true∧QcY 3 (root lvM.1) 0 sOne 2 (Qbw lvM.1 lvM.2 ⟨#[49]⟩)=false:=by decide +kernel
theorem lv_sizes:(Qbm 0 sOne).length≤1000000∧(Qbm 0 QeF).length≤1000000∧(Qbm 0 sOther).length≤1000000:=by decide +kernel
theorem QcM {P:Program}{ops:Array Oper}{C:World→Prop}{Q:Act→Prop}{a:Act}{o:Oper}{rest:List Oper}(hw:Region.wanted o (yielded ops a.tmps)=true)(v:Value)(h:∀w,C w→(execOp a.eval o).run P w=.ok (.value v) w) (hk:wpQuiet P ops C Q rest (a.put o.dst v)):wpQuiet P ops C Q (o::rest) a:=
 BigFrame.wpQuiet_want hw fun _ hK=>⟨v,fun w hc=>by unfold Oper.quietAt;rw[h w hc];exact⟨rfl,rfl⟩,hK _ hk⟩
theorem exec_eqlH {o:Oper}{a:Act}{w:World}(x y:Operand)(ho:o.op=.binOp .eql 101 x y 101)(l m:List UInt8)(hx:a.eval x=Qar l)(hy:a.eval y=Qar m)(hl:l.length=32)(hm:m.length=32)(b:Bool)(hb:decide (l=m)=b):
 (execOp a.eval o).run Tryz.prog w=.ok (.value (.bool b)) w:=by
 have h1:=QdL l m hl hm w;unfold execOp;unfold Qar at hx hy;rw[←hb];simp only[ho,hx,hy,Sem.run_bind,run_eqGuard_agg w .eql 101 x y _ _ guard_h,h1,Result.andThen_ok,Sem.run_pure]
theorem exec_hfield {o:Oper}{a:Act}{w:World}(x:Operand)(ho:o.op=.field 103 x 0)(n:Int)(r:List UInt8)(hx:a.eval x=.agg (Qa4 n r).toArray):(execOp a.eval o).run Tryz.prog w=.ok (.value (.int .i64 n)) w:=by
 unfold execOp;have hu:=Tryz.underlying103;have hi:=Tryz.underlying3;simp only[ho,hx,Instr.field,Sem.run_bind,run_underlying hu,Result.andThen_ok];simp[Go.part,isAgg,asAgg,run_underlying hi,Qa4,go_sem]
theorem wpList_eqlH {ops:Array Oper}{rest:List Oper}{o:Oper}{a:Act}{Q:Exit→Act→World→Prop}{w:World}(hgd:o.guard=none)(x y:Operand)(ho:o.op=.binOp .eql 101 x y 101)(l m:List UInt8)(hx:a.eval x=Qar l)(hy:a.eval y=Qar m)(hl:l.length=32)(hm:m.length=32) (h:wpList Tryz.prog ops Q rest (a.put o.dst (.bool (decide (l=m)))) w):wpList Tryz.prog ops Q (o::rest) a w:=
 wpList_plain hgd fun _ hK=>wp_eqlH x y ho l m hx hy hl hm (hK _ _ h)
set_option maxRecDepth 100000 in
theorem lives_any (w:World)(hK:KLaid w):Calls Tryz.prog 48 #[] w fun e w'=>e=.returned (.bool true)∧Below w.heap.size w w':=by
 go_enter Tryz.func48,Tryz.ntmps48;have HK0:=Lh hK;have HB0:Hid (Below w.heap.size w w):=Lh bR;clear hK;go_upto_region 2 with(fail);have hb1:Below w.heap.size w ((w.alloc (.cells #[.string ⟨#[97,98]⟩] 9)).alloc (.cells #[.string ⟨#[49]⟩,.slice (some ⟨w.heap.size,0,none⟩) 1 1,.slice none 0 0] 46)):=(bR.alloc nL _).alloc (by simp) _;have hx1:Sl ((w.alloc (.cells #[.string ⟨#[97,98]⟩] 9)).alloc (.cells #[.string ⟨#[49]⟩,.slice (some ⟨w.heap.size,0,none⟩) 1 1,.slice none 0 0] 46)) (fun b=>b<((w.alloc (.cells #[.string ⟨#[97,98]⟩] 9)).alloc (.cells #[.string ⟨#[49]⟩,.slice (some ⟨w.heap.size,0,none⟩) 1 1,.slice none 0 0] 46)).heap.size) (some ⟨w.heap.size,0,none⟩) 1 ([⟨#[97,98]⟩]:List ByteArray):=Sl.block (l:=([⟨#[97,98]⟩]:List ByteArray)) (cs:=#[.string ⟨#[97,98]⟩]) (te:=9) (fr:=(0,0)) ((Below.heap_alloc _ _ _ (by simp)).trans (heap_alloc_new w _)) (by simp;omega) (by simp[maxLen]) (fun j hj=>by(obtain rfl:j=0:=(by simpa using hj));rfl);have HS1:Hid (SBZ ((w.alloc (.cells #[.string ⟨#[97,98]⟩] 9)).alloc (.cells #[.string ⟨#[49]⟩,.slice (some ⟨w.heap.size,0,none⟩) 1 1,.slice none 0 0] 46)) (w.heap.size+1) sOne (some ⟨w.heap.size,0,none⟩) 1 none 0):=Lh ⟨Qai (by simp),hx1,(Sl.nil _ _ _ _ (by decide))⟩;replace HK0:=Lh (HK0.out.to hb1);replace HB0:=Lh (HB0.out.trans (hb1.mono HB0.out.size));generalize hw1:World.alloc (World.alloc w _) _=w1;have hv1:((w.alloc (.cells #[.string ⟨#[97,98]⟩] 9)).alloc (.cells #[.string ⟨#[49]⟩,.slice (some ⟨w.heap.size,0,none⟩) 1 1,.slice none 0 0] 46))=w1:=hw1;rw[hv1] at HS1 HK0 HB0;clear hw1 hv1 hb1 hx1;generalize w.heap.size+1=O1 at*;generalize hA1:(some (⟨w.heap.size,0,none⟩:Addr))=F1 at*;clear hA1;go_upto_region 3 with(fail);have hb2:Below w1.heap.size w1 ((w1.alloc (.cells #[.string ⟨#[120]⟩] 9)).alloc (.cells #[.string ⟨#[50]⟩,.slice none 0 0,.slice (some ⟨w1.heap.size,0,none⟩) 1 1] 46)):=(bR.alloc nL _).alloc (by simp) _;have hx2:Sl ((w1.alloc (.cells #[.string ⟨#[120]⟩] 9)).alloc (.cells #[.string ⟨#[50]⟩,.slice none 0 0,.slice (some ⟨w1.heap.size,0,none⟩) 1 1] 46)) (fun b=>b<((w1.alloc (.cells #[.string ⟨#[120]⟩] 9)).alloc (.cells #[.string ⟨#[50]⟩,.slice none 0 0,.slice (some ⟨w1.heap.size,0,none⟩) 1 1] 46)).heap.size) (some ⟨w1.heap.size,0,none⟩) 1 ([⟨#[120]⟩]:List ByteArray):=Sl.block (l:=([⟨#[120]⟩]:List ByteArray)) (cs:=#[.string ⟨#[120]⟩]) (te:=9) (fr:=(0,0)) ((Below.heap_alloc _ _ _ (by simp)).trans (heap_alloc_new w1 _)) (by simp;omega) (by simp[maxLen]) (fun j hj=>by(obtain rfl:j=0:=(by simpa using hj));rfl);have HS2:Hid (SBZ ((w1.alloc (.cells #[.string ⟨#[120]⟩] 9)).alloc (.cells #[.string ⟨#[50]⟩,.slice none 0 0,.slice (some ⟨w1.heap.size,0,none⟩) 1 1] 46)) (w1.heap.size+1) QeF none 0 (some ⟨w1.heap.size,0,none⟩) 1):=Lh ⟨Qai (by simp),(Sl.nil _ _ _ _ (by decide)),hx2⟩;replace HS1:=Lh (HS1.out.to hb2);replace HK0:=Lh (HK0.out.to hb2);replace HB0:=Lh (HB0.out.trans (hb2.mono HB0.out.size));generalize hw2:World.alloc (World.alloc w1 _) _=w2;have hv2:((w1.alloc (.cells #[.string ⟨#[120]⟩] 9)).alloc (.cells #[.string ⟨#[50]⟩,.slice none 0 0,.slice (some ⟨w1.heap.size,0,none⟩) 1 1] 46))=w2:=hw2;rw[hv2] at HS2 HK0 HB0 HS1;clear hw2 hv2 hb2 hx2;generalize w1.heap.size+1=O2 at*;generalize hA2:(some (⟨w1.heap.size,0,none⟩:Addr))=F2 at*;clear hA2;go_upto_region 4 with(fail);have hb3:Below w2.heap.size w2 ((w2.alloc (.cells #[.string ⟨#[97,99]⟩] 9)).alloc (.cells #[.string ⟨#[49]⟩,.slice (some ⟨w2.heap.size,0,none⟩) 1 1,.slice none 0 0] 46)):=(bR.alloc nL _).alloc (by simp) _;have hx3:Sl ((w2.alloc (.cells #[.string ⟨#[97,99]⟩] 9)).alloc (.cells #[.string ⟨#[49]⟩,.slice (some ⟨w2.heap.size,0,none⟩) 1 1,.slice none 0 0] 46)) (fun b=>b<((w2.alloc (.cells #[.string ⟨#[97,99]⟩] 9)).alloc (.cells #[.string ⟨#[49]⟩,.slice (some ⟨w2.heap.size,0,none⟩) 1 1,.slice none 0 0] 46)).heap.size) (some ⟨w2.heap.size,0,none⟩) 1 ([⟨#[97,99]⟩]:List ByteArray):=Sl.block (l:=([⟨#[97,99]⟩]:List ByteArray)) (cs:=#[.string ⟨#[97,99]⟩]) (te:=9) (fr:=(0,0)) ((Below.heap_alloc _ _ _ (by simp)).trans (heap_alloc_new w2 _)) (by simp;omega) (by simp[maxLen]) (fun j hj=>by(obtain rfl:j=0:=(by simpa using hj));rfl);have HS3:Hid (SBZ ((w2.alloc (.cells #[.string ⟨#[97,99]⟩] 9)).alloc (.cells #[.string ⟨#[49]⟩,.slice (some ⟨w2.heap.size,0,none⟩) 1 1,.slice none 0 0] 46)) (w2.heap.size+1) sOther (some ⟨w2.heap.size,0,none⟩) 1 none 0):=Lh ⟨Qai (by simp),hx3,(Sl.nil _ _ _ _ (by decide))⟩;replace HS1:=Lh (HS1.out.to hb3);replace HS2:=Lh (HS2.out.to hb3);replace HK0:=Lh (HK0.out.to hb3);replace HB0:=Lh (HB0.out.trans (hb3.mono HB0.out.size));generalize hw3:World.alloc (World.alloc w2 _) _=w3;have hv3:((w2.alloc (.cells #[.string ⟨#[97,99]⟩] 9)).alloc (.cells #[.string ⟨#[49]⟩,.slice (some ⟨w2.heap.size,0,none⟩) 1 1,.slice none 0 0] 46))=w3:=hw3;rw[hv3] at HS3 HK0 HB0 HS1 HS2;clear hw3 hv3 hb3 hx3;generalize w2.heap.size+1=O3 at*;generalize hA3:(some (⟨w2.heap.size,0,none⟩:Addr))=F3 at*;clear hA3
 have HAD:Hid (Calls Tryz.prog 47 #[.agg #[.slice none 0 0,.slice none 0 0],.int .i64 0,.slice (some ⟨w3.heap.size,0,none⟩) 2 2] (w3.alloc (.cells #[.string sOne.label,.slice F1 sOne.body.length 1,.slice none sOne.notes.length 0,.string QeF.label,.slice none QeF.body.length 0,.slice F2 QeF.notes.length 1] 46)) fun e w'=>∃A' B' ca' cb',e=.returned (.agg #[.slice A' lvA.1.length ca',.slice B' lvA.2.length cb'])∧Sl w' (fun b=>b<w'.heap.size) A' ca' lvA.1∧Sl w' (fun b=>b<w'.heap.size) B' cb' lvA.2∧Below w3.heap.size w3 w'):=Lh (by
  have h:=addTwo w3 [] [] none none 0 0 sOne QeF F1 none none F2 1 0 0 1 (Sl.nil _ _ _ _ (by decide)) (Sl.nil _ _ _ _ (by decide)) HS1.out.b HS1.out.n HS2.out.b HS2.out.n (by first|rfl|(rw[lv_len.1,lv_len.2.1])) (by first|(rw[lv_len.1];decide)|decide) lv_sizes.1 lv_sizes.2.1 (by decide) (by decide) (by decide) (by decide) HK0.out
  exact h)
 have k10:=HS1.out.box.cell 0 rfl;have k11:=HS1.out.box.cell 1 rfl;have k12:=HS1.out.box.cell 2 rfl;have k20:=HS2.out.box.cell 0 rfl;have k21:=HS2.out.box.cell 1 rfl;have k22:=HS2.out.box.cell 2 rfl;have k30:=HS3.out.box.cell 0 rfl;have k31:=HS3.out.box.cell 1 rfl;have k32:=HS3.out.box.cell 2 rfl;go_wp2_with fail;refine HAD.out.mono ?_;rintro e w4 ⟨G1A,G1B,G1a,G1b,rfl,hs1,hs2,hb⟩;clear k10 k11 k12 k20 k21 k22 k30 k31 k32;clear HAD;have hb2:Below w4.heap.size w4 (w4.alloc (.cells #[.slice G1A lvA.1.length G1a,.slice G1B lvA.2.length G1b] 92)):=bR.alloc nL _;have G1:Hid (LBZ (w4.alloc (.cells #[.slice G1A lvA.1.length G1a,.slice G1B lvA.2.length G1b] 92)) w4.heap.size lvA.1 lvA.2 G1A G1a G1B G1b):=Lh ⟨heap_alloc_new w4 _,hs1.to hb2,hs2.to hb2⟩;have hb3:=hb.trans (hb2.mono hb.size);replace HS1:=Lh (HS1.out.to hb3);replace HS2:=Lh (HS2.out.to hb3);replace HS3:=Lh (HS3.out.to hb3);replace HK0:=Lh (HK0.out.to hb3);replace HB0:=Lh (HB0.out.trans (hb3.mono HB0.out.size));clear hs1 hs2 hb hb2 hb3;go_upto_region 5 with(fail);generalize hw:World.alloc w4 _=w5;have hv:(w4.alloc (.cells #[.slice G1A lvA.1.length G1a,.slice G1B lvA.2.length G1b] 92))=w5:=hw;rw[hv] at G1 HK0 HB0 HS1 HS2 HS3;clear hw hv;generalize w4.heap.size=G1O at*;have HTP:=Lh (top_any G1A G1B G1a lvA.1.length lvA.1 w5 G1b lvA.2.length G1.out.l rfl (by rw[lv_len.1];decide) HK0.out);have HRL:Hid ((root lvA.1).length=32):=Lh (Qbp _ (h32_len G1.out.l));have k10:=HS1.out.box.cell 0 rfl;have k11:=HS1.out.box.cell 1 rfl;have k12:=HS1.out.box.cell 2 rfl;have k20:=HS2.out.box.cell 0 rfl;have k21:=HS2.out.box.cell 1 rfl;have k22:=HS2.out.box.cell 2 rfl;have k30:=HS3.out.box.cell 0 rfl;have k31:=HS3.out.box.cell 1 rfl;have k32:=HS3.out.box.cell 2 rfl;have qG10:=G1.out.box.cell 0 rfl;have qG11:=G1.out.box.cell 1 rfl;go_wp2_with fail;refine HTP.out.mono ?_;rintro e w6 ⟨rfl,hb⟩;clear k10 k11 k12 k20 k21 k22 k30 k31 k32 qG10 qG11;clear HTP;obtain⟨r1,hr1⟩:∃r,r=root lvA.1:=⟨_,rfl⟩;have HR1:=Lh hr1;rw[←hr1] at HRL ⊢;clear hr1;have hn2:((lvA.1.length:Nat):Int)=2:=by rw[lv_len.1];rfl
 rw[hn2];clear hn2;have HSZ:Hid ((Qa4 2 r1).toArray.size=33):=Lh (by unfold Qa4;simp[HRL.out]);have HON:=Lh (headL_one 2 r1);have hal:(w6.alloc (.cells QdX.toArray 103)).heap[w6.heap.size]? =some (.cells QdX.toArray 103 (0,0)):=heap_alloc_new w6 _;have hb2:Below w6.heap.size w6 ((w6.alloc (.cells QdX.toArray 103)).setRow w6.heap.size (Qa4 2 r1).toArray):=Qax (bR.alloc nL _) nL _;have HH:Hid (ABoxZ ((w6.alloc (.cells QdX.toArray 103)).setRow w6.heap.size (Qa4 2 r1).toArray) w6.heap.size 103 (Qa4 2 r1)):=Lh (setRow_heap _ w6.heap.size _ (Qa4 2 r1).toArray _ _ hal);have hb3:=hb.trans (hb2.mono hb.size);replace HS1:=Lh (HS1.out.to hb3);replace HS2:=Lh (HS2.out.to hb3);replace HS3:=Lh (HS3.out.to hb3);replace G1:=Lh (G1.out.to hb3);replace HK0:=Lh (HK0.out.to hb3);replace HB0:=Lh (HB0.out.trans (hb3.mono HB0.out.size));clear hb hb2 hb3;unfold headV;go_upto_region 6 with(first|(refine wpList_store_row rfl 103 (.tmp 5) (.tmp 28) rfl w6.heap.size (Qa4 2 r1).toArray rfl rfl 103 QdX.toArray hal (by rw[HSZ.out];kernel_rfl) (by rw[HSZ.out];rfl) HON.out ?_)|fail);generalize hw:World.setRow (World.alloc w6 _) _ _=w7;have hv:((w6.alloc (.cells QdX.toArray 103)).setRow w6.heap.size (Qa4 2 r1).toArray)=w7:=hw;rw[hv] at HH HK0 HB0 HS1 HS2 HS3 G1;clear hw hv hal HSZ HON;generalize w6.heap.size=HO at*
 have HAD:Hid (Calls Tryz.prog 47 #[.agg #[.slice G1A lvA.1.length G1a,.slice G1B lvA.2.length G1b],.int .i64 0,.slice (some ⟨w7.heap.size,0,none⟩) 2 2] (w7.alloc (.cells #[.string sOne.label,.slice F1 sOne.body.length 1,.slice none sOne.notes.length 0,.string QeF.label,.slice none QeF.body.length 0,.slice F2 QeF.notes.length 1] 46)) fun e w'=>∃A' B' ca' cb',e=.returned (.agg #[.slice A' lvA.1.length ca',.slice B' lvA.2.length cb'])∧Sl w' (fun b=>b<w'.heap.size) A' ca' lvA.1∧Sl w' (fun b=>b<w'.heap.size) B' cb' lvA.2∧Below w7.heap.size w7 w'):=Lh (by
  have h:=addTwo w7 lvA.1 lvA.2 G1A G1B G1a G1b sOne QeF F1 none none F2 1 0 0 1 G1.out.l G1.out.n HS1.out.b HS1.out.n HS2.out.b HS2.out.n (by first|rfl|(rw[lv_len.1,lv_len.2.1])) (by first|(rw[lv_len.1];decide)|decide) lv_sizes.1 lv_sizes.2.1 (by decide) (by decide) (by decide) (by decide) HK0.out
  rw[show((lvA.1,lvA.2):List H32 × List ByteArray)=lvA from rfl,lv_again] at h
  exact h)
 have k10:=HS1.out.box.cell 0 rfl;have k11:=HS1.out.box.cell 1 rfl;have k12:=HS1.out.box.cell 2 rfl;have k20:=HS2.out.box.cell 0 rfl;have k21:=HS2.out.box.cell 1 rfl;have k22:=HS2.out.box.cell 2 rfl;have k30:=HS3.out.box.cell 0 rfl;have k31:=HS3.out.box.cell 1 rfl;have k32:=HS3.out.box.cell 2 rfl;have qG10:=G1.out.box.cell 0 rfl;have qG11:=G1.out.box.cell 1 rfl;go_wp2_with fail;refine HAD.out.mono ?_;rintro e w8 ⟨G2A,G2B,G2a,G2b,rfl,hs1,hs2,hb⟩;clear k10 k11 k12 k20 k21 k22 k30 k31 k32 qG10 qG11;clear HAD;have hb2:Below w8.heap.size w8 (w8.alloc (.cells #[.slice G2A lvA.1.length G2a,.slice G2B lvA.2.length G2b] 92)):=bR.alloc nL _;have G2:Hid (LBZ (w8.alloc (.cells #[.slice G2A lvA.1.length G2a,.slice G2B lvA.2.length G2b] 92)) w8.heap.size lvA.1 lvA.2 G2A G2a G2B G2b):=Lh ⟨heap_alloc_new w8 _,hs1.to hb2,hs2.to hb2⟩;have hb3:=hb.trans (hb2.mono hb.size);replace HS1:=Lh (HS1.out.to hb3);replace HS2:=Lh (HS2.out.to hb3);replace HS3:=Lh (HS3.out.to hb3);replace G1:=Lh (G1.out.to hb3);replace HH:=Lh (HH.out.to hb3);replace HK0:=Lh (HK0.out.to hb3);replace HB0:=Lh (HB0.out.trans (hb3.mono HB0.out.size));clear hs1 hs2 hb hb2 hb3;go_upto_region 7 with(fail);generalize hw:World.alloc w8 _=w9;have hv:(w8.alloc (.cells #[.slice G2A lvA.1.length G2a,.slice G2B lvA.2.length G2b] 92))=w9:=hw;rw[hv] at G2 HK0 HB0 HS1 HS2 HS3 G1 HH;clear hw hv;generalize w8.heap.size=G2O at*
 have HAD:Hid (Calls Tryz.prog 47 #[.agg #[.slice G1A lvA.1.length G1a,.slice G1B lvA.2.length G1b],.int .i64 0,.slice (some ⟨w9.heap.size,0,none⟩) 2 2] (w9.alloc (.cells #[.string sOther.label,.slice F3 sOther.body.length 1,.slice none sOther.notes.length 0,.string QeF.label,.slice none QeF.body.length 0,.slice F2 QeF.notes.length 1] 46)) fun e w'=>∃A' B' ca' cb',e=.returned (.agg #[.slice A' lvM.1.length ca',.slice B' lvM.2.length cb'])∧Sl w' (fun b=>b<w'.heap.size) A' ca' lvM.1∧Sl w' (fun b=>b<w'.heap.size) B' cb' lvM.2∧Below w9.heap.size w9 w'):=Lh (by
  have h:=addTwo w9 lvA.1 lvA.2 G1A G1B G1a G1b sOther QeF F3 none none F2 1 0 0 1 G1.out.l G1.out.n HS3.out.b HS3.out.n HS2.out.b HS2.out.n (by first|rfl|(rw[lv_len.1,lv_len.2.1])) (by first|(rw[lv_len.1];decide)|decide) lv_sizes.2.2 lv_sizes.2.1 (by decide) (by decide) (by decide) (by decide) HK0.out
  exact h)
 have k10:=HS1.out.box.cell 0 rfl;have k11:=HS1.out.box.cell 1 rfl;have k12:=HS1.out.box.cell 2 rfl;have k20:=HS2.out.box.cell 0 rfl;have k21:=HS2.out.box.cell 1 rfl;have k22:=HS2.out.box.cell 2 rfl;have k30:=HS3.out.box.cell 0 rfl;have k31:=HS3.out.box.cell 1 rfl;have k32:=HS3.out.box.cell 2 rfl;have qG10:=G1.out.box.cell 0 rfl;have qG11:=G1.out.box.cell 1 rfl;have qG20:=G2.out.box.cell 0 rfl;have qG21:=G2.out.box.cell 1 rfl;go_wp2_with fail;refine HAD.out.mono ?_;rintro e w10 ⟨G3A,G3B,G3a,G3b,rfl,hs1,hs2,hb⟩;clear k10 k11 k12 k20 k21 k22 k30 k31 k32 qG10 qG11 qG20 qG21;clear HAD;have hb2:Below w10.heap.size w10 (w10.alloc (.cells #[.slice G3A lvM.1.length G3a,.slice G3B lvM.2.length G3b] 92)):=bR.alloc nL _;have G3:Hid (LBZ (w10.alloc (.cells #[.slice G3A lvM.1.length G3a,.slice G3B lvM.2.length G3b] 92)) w10.heap.size lvM.1 lvM.2 G3A G3a G3B G3b):=Lh ⟨heap_alloc_new w10 _,hs1.to hb2,hs2.to hb2⟩;have hb3:=hb.trans (hb2.mono hb.size);replace HS1:=Lh (HS1.out.to hb3);replace HS2:=Lh (HS2.out.to hb3);replace HS3:=Lh (HS3.out.to hb3);replace G1:=Lh (G1.out.to hb3);replace HH:=Lh (HH.out.to hb3);replace G2:=Lh (G2.out.to hb3);replace HK0:=Lh (HK0.out.to hb3);replace HB0:=Lh (HB0.out.trans (hb3.mono HB0.out.size));clear hs1 hs2 hb hb2 hb3;go_upto_region 8 with(fail);generalize hw:World.alloc w10 _=w11;have hv:(w10.alloc (.cells #[.slice G3A lvM.1.length G3a,.slice G3B lvM.2.length G3b] 92))=w11:=hw;rw[hv] at G3 HK0 HB0 HS1 HS2 HS3 G1 HH G2;clear hw hv;generalize w10.heap.size=G3O at*;have HPR:=Lh (Qem G3A G3B G3a G3b lvM.1 lvM.2 ⟨#[49]⟩ w11 G3.out.l G3.out.n (by rw[lv_len.2.2.1,lv_len.2.2.2]) (by rw[lv_len.2.2.1];decide) HK0.out);rw[lv_proof.1,lv_proof.2.1] at HPR;have k10:=HS1.out.box.cell 0 rfl;have k11:=HS1.out.box.cell 1 rfl;have k12:=HS1.out.box.cell 2 rfl;have k20:=HS2.out.box.cell 0 rfl;have k21:=HS2.out.box.cell 1 rfl;have k22:=HS2.out.box.cell 2 rfl;have k30:=HS3.out.box.cell 0 rfl;have k31:=HS3.out.box.cell 1 rfl;have k32:=HS3.out.box.cell 2 rfl;have qG10:=G1.out.box.cell 0 rfl;have qG11:=G1.out.box.cell 1 rfl;have qG20:=G2.out.box.cell 0 rfl;have qG21:=G2.out.box.cell 1 rfl;have qG30:=G3.out.box.cell 0 rfl;have qG31:=G3.out.box.cell 1 rfl;go_wp2_with fail;refine HPR.out.mono ?_;rintro e w12 ⟨P1A,P1c,rfl,hs,hb⟩;clear k10 k11 k12 k20 k21 k22 k30 k31 k32 qG10 qG11 qG20 qG21 qG30 qG31;clear HPR;replace HS1:=Lh (HS1.out.to hb);replace HS2:=Lh (HS2.out.to hb);replace HS3:=Lh (HS3.out.to hb);replace G1:=Lh (G1.out.to hb);replace HH:=Lh (HH.out.to hb);replace G2:=Lh (G2.out.to hb);replace G3:=Lh (G3.out.to hb);replace HK0:=Lh (HK0.out.to hb);replace HB0:=Lh (HB0.out.trans (hb.mono HB0.out.size));have HP1:=Lh hs;clear hs hb;go_upto_region 9 with(fail);obtain⟨p1,hp1⟩:∃q,q=Qbw lvM.1 lvM.2 ⟨#[49]⟩:=⟨_,rfl⟩;have HPE:=Lh hp1;rw[←hp1] at HP1 ⊢;clear hp1;have HPR:=Lh (Qem G3A G3B G3a G3b lvM.1 lvM.2 ⟨#[50]⟩ w12 G3.out.l G3.out.n (by rw[lv_len.2.2.1,lv_len.2.2.2]) (by rw[lv_len.2.2.1];decide) HK0.out);rw[lv_proof.2.2.1,lv_proof.2.2.2] at HPR;have k10:=HS1.out.box.cell 0 rfl;have k11:=HS1.out.box.cell 1 rfl;have k12:=HS1.out.box.cell 2 rfl;have k20:=HS2.out.box.cell 0 rfl;have k21:=HS2.out.box.cell 1 rfl;have k22:=HS2.out.box.cell 2 rfl;have k30:=HS3.out.box.cell 0 rfl;have k31:=HS3.out.box.cell 1 rfl;have k32:=HS3.out.box.cell 2 rfl;have qG10:=G1.out.box.cell 0 rfl;have qG11:=G1.out.box.cell 1 rfl;have qG20:=G2.out.box.cell 0 rfl;have qG21:=G2.out.box.cell 1 rfl;have qG30:=G3.out.box.cell 0 rfl;have qG31:=G3.out.box.cell 1 rfl;go_wp2_with fail;refine HPR.out.mono ?_;rintro e w13 ⟨P2A,P2c,rfl,hs,hb⟩;clear k10 k11 k12 k20 k21 k22 k30 k31 k32 qG10 qG11 qG20 qG21 qG30 qG31;clear HPR;replace HS1:=Lh (HS1.out.to hb);replace HS2:=Lh (HS2.out.to hb);replace HS3:=Lh (HS3.out.to hb);replace G1:=Lh (G1.out.to hb);replace HH:=Lh (HH.out.to hb);replace G2:=Lh (G2.out.to hb);replace G3:=Lh (G3.out.to hb);replace HK0:=Lh (HK0.out.to hb);replace HB0:=Lh (HB0.out.trans (hb.mono HB0.out.size));have HPS:=Lh (HP1.out.to hb);clear HP1;have HP2:=Lh hs;clear hs hb;clear HP2;have HP1:=HPS;clear HPS;go_upto_region 10 with(fail);obtain⟨f1,hf1⟩:∃q,q=leafOf 0 sOne:=⟨_,rfl⟩;have HF1:=Lh hf1;have HFL:Hid (f1.length=32):=Lh (by rw[hf1];exact Qan _);have HLF:=Lh (Qck 0 sOne F1 none 1 0 w13 (by unfold I64Z;omega) HS1.out.b HS1.out.n (by have:=lv_sizes.1;omega) HK0.out);rw[←hf1] at HLF;clear hf1;have k10:=HS1.out.box.cell 0 rfl;have k11:=HS1.out.box.cell 1 rfl;have k12:=HS1.out.box.cell 2 rfl;have k20:=HS2.out.box.cell 0 rfl;have k21:=HS2.out.box.cell 1 rfl;have k22:=HS2.out.box.cell 2 rfl;have k30:=HS3.out.box.cell 0 rfl;have k31:=HS3.out.box.cell 1 rfl;have k32:=HS3.out.box.cell 2 rfl;have qG10:=G1.out.box.cell 0 rfl;have qG11:=G1.out.box.cell 1 rfl;have qG20:=G2.out.box.cell 0 rfl;have qG21:=G2.out.box.cell 1 rfl;have qG30:=G3.out.box.cell 0 rfl;have qG31:=G3.out.box.cell 1 rfl;go_wp2_with fail;refine HLF.out.mono ?_;rintro e w14 ⟨rfl,hb⟩;clear k10 k11 k12 k20 k21 k22 k30 k31 k32 qG10 qG11 qG20 qG21 qG30 qG31;clear HLF;replace HS1:=Lh (HS1.out.to hb);replace HS2:=Lh (HS2.out.to hb);replace HS3:=Lh (HS3.out.to hb);replace G1:=Lh (G1.out.to hb);replace HH:=Lh (HH.out.to hb);replace G2:=Lh (G2.out.to hb);replace G3:=Lh (G3.out.to hb);replace HK0:=Lh (HK0.out.to hb);replace HB0:=Lh (HB0.out.trans (hb.mono HB0.out.size));replace HP1:=Lh (HP1.out.to hb);clear hb;have hb2:Below w14.heap.size w14 (w14.alloc (.cells #[.int .u8 0,.int .u8 1,.int .u8 49,.int .u8 1,.int .u8 2,.int .u8 97,.int .u8 98,.int .u8 0] 5)):=bR.alloc nL _
 have hsb:Sl (w14.alloc (.cells #[.int .u8 0,.int .u8 1,.int .u8 49,.int .u8 1,.int .u8 2,.int .u8 97,.int .u8 98,.int .u8 0] 5)) (fun b=>b<(w14.alloc (.cells #[.int .u8 0,.int .u8 1,.int .u8 49,.int .u8 1,.int .u8 2,.int .u8 97,.int .u8 98,.int .u8 0] 5)).heap.size) (some ⟨w14.heap.size,0,none⟩) 8 ([0,1,49,1,2,97,98,0]:List UInt8):=Sl.block (l:=([0,1,49,1,2,97,98,0]:List UInt8)) (cs:=#[.int .u8 0,.int .u8 1,.int .u8 49,.int .u8 1,.int .u8 2,.int .u8 97,.int .u8 98,.int .u8 0]) (te:=5) (fr:=(0,0)) (heap_alloc_new w14 _) (by simp) (by simp[maxLen]) (fun j hj=>by
  have:j=0∨j=1∨j=2∨j=3∨j=4∨j=5∨j=6∨j=7:=(by simp at hj;omega)
  rcases this with rfl|rfl|rfl|rfl|rfl|rfl|rfl|rfl<;>rfl)
 have HLD:=Lh (leaf_any [0,1,49,1,2,97,98,0] (some ⟨w14.heap.size,0,none⟩) 8 8 (w14.alloc (.cells #[.int .u8 0,.int .u8 1,.int .u8 49,.int .u8 1,.int .u8 2,.int .u8 97,.int .u8 98,.int .u8 0] 5)) hsb rfl (by decide) (HK0.out.to hb2));replace HS1:=Lh (HS1.out.to hb2);replace HS2:=Lh (HS2.out.to hb2);replace HS3:=Lh (HS3.out.to hb2);replace G1:=Lh (G1.out.to hb2);replace HH:=Lh (HH.out.to hb2);replace G2:=Lh (G2.out.to hb2);replace G3:=Lh (G3.out.to hb2);replace HK0:=Lh (HK0.out.to hb2);replace HB0:=Lh (HB0.out.trans (hb2.mono HB0.out.size));replace HP1:=Lh (HP1.out.to hb2);clear hb2 hsb;have HFE:Hid (decide (f1=QcF [0,1,49,1,2,97,98,0])=true):=Lh (by rw[HF1.out];exact lv_leaf);have HFM:Hid ((QcF [0,1,49,1,2,97,98,0]).length=32):=Lh (Qan _);generalize QcF [0,1,49,1,2,97,98,0]=f2 at*;go_wp2_with fail;refine HLD.out.mono ?_;rintro e w15 ⟨rfl,hb⟩;clear HLD;replace HS1:=Lh (HS1.out.to hb);replace HS2:=Lh (HS2.out.to hb);replace HS3:=Lh (HS3.out.to hb);replace G1:=Lh (G1.out.to hb);replace HH:=Lh (HH.out.to hb);replace G2:=Lh (G2.out.to hb);replace G3:=Lh (G3.out.to hb);replace HK0:=Lh (HK0.out.to hb);replace HB0:=Lh (HB0.out.trans (hb.mono HB0.out.size));replace HP1:=Lh (HP1.out.to hb);clear hb;go_upto_region 11 with(first|(refine wpList_eqlH rfl (.tmp 52) (.tmp 54) rfl f1 f2 rfl rfl HFL.out HFM.out ?_;rw[HFE.out])|fail);obtain⟨f3,hf3⟩:∃q,q=leafOf 0 QeF:=⟨_,rfl⟩;have HF3:=Lh hf3;have HFL3:Hid (f3.length=32):=Lh (by rw[hf3];exact Qan _);clear hf3;have HFN:Hid (decide (r1=nodeH f1 f3)=true):=Lh (by rw[HR1.out,HF1.out,HF3.out];exact lv_root);have HNL:Hid ((nodeH f1 f3).length=32):=Lh (Qan _);go_cut [15] from 56 to 74 (fun v wx=>v=.bool true∧Hid (Below w15.heap.size w15 wx));case first=>
  refine Qa2 (by kernel_rfl) (by kernel_rfl) ?_;intro TT hTT g hgb hgm;have eHS10:=fun d=>(HS1.out.to (hgb d)).box.cell 0 rfl
  have eHS11:=fun d=>(HS1.out.to (hgb d)).box.cell 1 rfl
  have eHS12:=fun d=>(HS1.out.to (hgb d)).box.cell 2 rfl
  have eHS20:=fun d=>(HS2.out.to (hgb d)).box.cell 0 rfl
  have eHS21:=fun d=>(HS2.out.to (hgb d)).box.cell 1 rfl
  have eHS22:=fun d=>(HS2.out.to (hgb d)).box.cell 2 rfl
  have eHS30:=fun d=>(HS3.out.to (hgb d)).box.cell 0 rfl
  have eHS31:=fun d=>(HS3.out.to (hgb d)).box.cell 1 rfl
  have eHS32:=fun d=>(HS3.out.to (hgb d)).box.cell 2 rfl
  have eG10:=fun d=>(G1.out.to (hgb d)).box.cell 0 rfl
  have eG11:=fun d=>(G1.out.to (hgb d)).box.cell 1 rfl
  have eG20:=fun d=>(G2.out.to (hgb d)).box.cell 0 rfl
  have eG21:=fun d=>(G2.out.to (hgb d)).box.cell 1 rfl
  have eG30:=fun d=>(G3.out.to (hgb d)).box.cell 0 rfl
  have eG31:=fun d=>(G3.out.to (hgb d)).box.cell 1 rfl
  have hgK:=Lh (fun d=>HK0.out.to (hgb d))
  have HC1:Hid (∀d,Calls Tryz.prog 99 #[.int .i64 0,.agg #[.string sOne.label,.slice F1 sOne.body.length 1,.slice none sOne.notes.length 0]] (g d) fun e w'=>e=.returned (Qar f1)∧∃m,w'=g m):=Lh (fun d=>by
   refine(Qck 0 sOne F1 none 1 0 (g d) (by unfold I64Z;omega) (HS1.out.to (hgb d)).b (HS1.out.to (hgb d)).n (by have:=lv_sizes.1;omega) (hgK.out d)).mono ?_
   rintro e w' ⟨rfl,hb⟩
   exact⟨by rw[HF1.out],hgm d w' hb⟩)
  have HC3:Hid (∀d,Calls Tryz.prog 99 #[.int .i64 0,.agg #[.string QeF.label,.slice none QeF.body.length 0,.slice F2 QeF.notes.length 1]] (g d) fun e w'=>e=.returned (Qar f3)∧∃m,w'=g m):=Lh (fun d=>by
   refine(Qck 0 QeF none F2 0 1 (g d) (by unfold I64Z;omega) (HS2.out.to (hgb d)).b (HS2.out.to (hgb d)).n (by have:=lv_sizes.2.1;omega) (hgK.out d)).mono ?_
   rintro e w' ⟨rfl,hb⟩
   exact⟨by rw[HF3.out],hgm d w' hb⟩)
  have HCN:Hid (∀d,Calls Tryz.prog 102 #[Qar f1,Qar f3] (g d) fun e w'=>e=.returned (Qar (nodeH f1 f3))∧∃m,w'=g m):=Lh (fun d=>by
   refine(Qd4 f1 f3 HFL.out HFL3.out (g d) (hgK.out d)).mono ?_
   rintro e w' ⟨rfl,hb⟩
   exact⟨rfl,hgm d w' hb⟩)
  have HCS:Hid (∀d,Calls Tryz.prog 103 #[.agg #[.slice G1A lvA.1.length G1a,.slice G1B lvA.2.length G1b],.agg #[.slice G2A lvA.1.length G2a,.slice G2B lvA.2.length G2b]] (g d) fun e w'=>e=.returned (.bool true)∧∃m,w'=g m):=Lh (fun d=>by
   refine(same_any G1A G1B G2A G2B G1a G1b G2a G2b lvA.1 lvA.1 lvA.2 lvA.2 (g d) (G1.out.to (hgb d)).l (G1.out.to (hgb d)).n (G2.out.to (hgb d)).l (G2.out.to (hgb d)).n).mono ?_
   rintro e w' ⟨rfl,hb⟩
   exact⟨by simp,hgm d w' hb⟩)
  have eH0:=fun d=>(HH.out.to (hgb d)).cell 0 rfl
  have eH1:Hid (∀d,(g d).rangeAt HO 1 (r1.map Qab)):=Lh (fun d j v hv=>by rw[Nat.add_comm];exact(HH.out.to (hgb d)).cell (j+1) (by unfold Qa4;rw[List.getElem?_cons_succ];exact hv));have HGB:=Lh hgb;have HGM:=Lh hgm;have HRM:Hid ((r1.map Qab).length=32):=Lh (by rw[qM,HRL.out]);clear hgb hgm;go_big_quiet_step (fail);go_big_quiet_step (fail);go_big_quiet_step (fail);go_big_quiet_step (fail);go_big_quiet_step (fail);refine QcM (by rfl) (Qar r1) ?_ ?_
  ·rintro _ ⟨d,rfl⟩;exact QaV 101 (.tmp 60) rfl HO 1 rfl (r1.map Qab) _ (eH1.out d) Tryz.underlying101 rfl (by rw[HRM.out];kernel_rfl)
  (try go_frame);go_big_quiet_step (fail);go_big_quiet_step ((go_at_call 99;with_reducible refine Calls.mono (HC1.out _) ?_;rintro e w6 ⟨rfl,hm⟩;exact⟨rfl,hm⟩));go_big_quiet_step (fail);go_big_quiet_step ((go_at_call 99;with_reducible refine Calls.mono (HC3.out _) ?_;rintro e w6 ⟨rfl,hm⟩;exact⟨rfl,hm⟩));go_big_quiet_step ((go_at_call 102;with_reducible refine Calls.mono (HCN.out _) ?_;rintro e w6 ⟨rfl,hm⟩;exact⟨rfl,hm⟩));refine QcM (by rfl) (.bool true) ?_ ?_
  ·rintro _ ⟨d,rfl⟩;exact exec_eqlH (.tmp 61) (.tmp 66) rfl r1 (nodeH f1 f3) rfl rfl HRL.out HNL.out true HFN.out
  (try go_frame);go_big_quiet_step (fail);go_big_quiet_step (fail);go_big_quiet_step (fail);go_big_quiet_step (fail);go_big_quiet_step ((go_at_call 103;with_reducible refine Calls.mono (HCS.out _) ?_;rintro e w6 ⟨rfl,hm⟩;exact⟨rfl,hm⟩));go_big_quiet_step (fail);go_big_quiet_step (fail);refine wpQuiet_nil ?_;rintro _ ⟨nq,rfl⟩;unfold Exit.then;(try go_wp2_with fail);go_meet;exact⟨rfl,Lh (HGB.out nq)⟩
 case rest=>
  obtain⟨rfl,hbc⟩:=hcut;replace HS1:=Lh (HS1.out.to hbc.out);replace HS2:=Lh (HS2.out.to hbc.out);replace HS3:=Lh (HS3.out.to hbc.out);replace G1:=Lh (G1.out.to hbc.out);replace HH:=Lh (HH.out.to hbc.out);replace G2:=Lh (G2.out.to hbc.out);replace G3:=Lh (G3.out.to hbc.out);replace HK0:=Lh (HK0.out.to hbc.out);replace HB0:=Lh (HB0.out.trans (hbc.out.mono HB0.out.size));replace HP1:=Lh (HP1.out.to hbc.out);clear hbc;obtain⟨r3,hr3⟩:∃q,q=root lvM.1:=⟨_,rfl⟩;have HR3:=Lh hr3;have HRL3:Hid (r3.length=32):=Lh (by rw[hr3];exact Qbp _ (h32_len G3.out.l));clear hr3;go_upto_region 12 with(fail);refine Qa2 (by kernel_rfl) (by kernel_rfl) ?_;intro TT hTT g hgb hgm;have eHS10:=fun d=>(HS1.out.to (hgb d)).box.cell 0 rfl
  have eHS11:=fun d=>(HS1.out.to (hgb d)).box.cell 1 rfl
  have eHS12:=fun d=>(HS1.out.to (hgb d)).box.cell 2 rfl
  have eHS20:=fun d=>(HS2.out.to (hgb d)).box.cell 0 rfl
  have eHS21:=fun d=>(HS2.out.to (hgb d)).box.cell 1 rfl
  have eHS22:=fun d=>(HS2.out.to (hgb d)).box.cell 2 rfl
  have eHS30:=fun d=>(HS3.out.to (hgb d)).box.cell 0 rfl
  have eHS31:=fun d=>(HS3.out.to (hgb d)).box.cell 1 rfl
  have eHS32:=fun d=>(HS3.out.to (hgb d)).box.cell 2 rfl
  have eG10:=fun d=>(G1.out.to (hgb d)).box.cell 0 rfl
  have eG11:=fun d=>(G1.out.to (hgb d)).box.cell 1 rfl
  have eG20:=fun d=>(G2.out.to (hgb d)).box.cell 0 rfl
  have eG21:=fun d=>(G2.out.to (hgb d)).box.cell 1 rfl
  have eG30:=fun d=>(G3.out.to (hgb d)).box.cell 0 rfl
  have eG31:=fun d=>(G3.out.to (hgb d)).box.cell 1 rfl
  have hgK:=Lh (fun d=>HK0.out.to (hgb d))
  have HCT:Hid (∀d,Calls Tryz.prog 53 #[.agg #[.slice G3A lvM.1.length G3a,.slice G3B lvM.2.length G3b]] (g d) fun e w'=>e=.returned (.agg (Qa4 3 r3).toArray)∧∃m,w'=g m):=Lh (fun d=>by
   refine(top_any G3A G3B G3a lvM.1.length lvM.1 (g d) G3b lvM.2.length (G3.out.to (hgb d)).l rfl (by rw[lv_len.2.2.1];decide) (hgK.out d)).mono ?_
   rintro e w' ⟨rfl,hb⟩
   exact⟨by rw[HR3.out,lv_len.2.2.1];rfl,hgm d w' hb⟩)
  have HCK:Hid (∀d,Calls Tryz.prog 52 #[.agg (Qa4 3 r3).toArray,.int .i64 0,.agg #[.string sOther.label,.slice F3 sOther.body.length 1,.slice none sOther.notes.length 0],.int .i64 2,.slice P1A p1.length P1c] (g d) fun e w'=>e=.returned (.bool true)∧∃m,w'=g m):=Lh (fun d=>by
   refine(QdA 3 0 2 r3 sOther F3 none P1A 1 0 P1c p1.length p1 (g d) HRL3.out (by unfold I64Z;omega) (HS3.out.to (hgb d)).b (HS3.out.to (hgb d)).n (by have:=lv_sizes.2.2;omega) (HP1.out.to (hgb d)) rfl (hgK.out d)).mono ?_
   rintro e w' ⟨rfl,hb⟩
   exact⟨by rw[HR3.out,HPE.out,lv_check.1],hgm d w' hb⟩)
  have HCL:Hid (∀d,Calls Tryz.prog 52 #[.agg (Qa4 3 r3).toArray,.int .i64 0,.agg #[.string sOne.label,.slice F1 sOne.body.length 1,.slice none sOne.notes.length 0],.int .i64 2,.slice P1A p1.length P1c] (g d) fun e w'=>e=.returned (.bool false)∧∃m,w'=g m):=Lh (fun d=>by
   refine(QdA 3 0 2 r3 sOne F1 none P1A 1 0 P1c p1.length p1 (g d) HRL3.out (by unfold I64Z;omega) (HS1.out.to (hgb d)).b (HS1.out.to (hgb d)).n (by have:=lv_sizes.1;omega) (HP1.out.to (hgb d)) rfl (hgK.out d)).mono ?_
   rintro e w' ⟨rfl,hb⟩
   exact⟨by rw[HR3.out,HPE.out,lv_check.2],hgm d w' hb⟩)
  have HGB:=Lh hgb;have HGM:=Lh hgm;clear hgb hgm;go_big_quiet_step (fail);go_big_quiet_step (fail);go_big_quiet_step (fail);go_big_quiet_step (fail);go_big_quiet_step (fail);go_big_quiet_step (fail);go_big_quiet_step ((go_at_call 53;with_reducible refine Calls.mono (HCT.out _) ?_;rintro e w6 ⟨rfl,hm⟩;exact⟨rfl,hm⟩));refine QcM (by rfl) (.int .i64 3) ?_ ?_
  ·rintro _ ⟨d,rfl⟩;exact exec_hfield (.tmp 80) rfl 3 r3 rfl
  (try go_frame);go_big_quiet_step (fail);go_big_quiet_step (fail);go_big_quiet_step (fail);go_big_quiet_step (fail);go_big_quiet_step (fail);go_big_quiet_step (fail);go_big_quiet_step (fail);go_big_quiet_step (fail);go_big_quiet_step (fail);go_big_quiet_step (fail);go_big_quiet_step (fail);go_big_quiet_step (fail);go_big_quiet_step (fail);go_big_quiet_step (fail);go_big_quiet_step (fail);go_big_quiet_step (fail);go_big_quiet_step (fail);go_big_quiet_step (fail);go_big_quiet_step ((go_at_call 53;with_reducible refine Calls.mono (HCT.out _) ?_;rintro e w6 ⟨rfl,hm⟩;exact⟨rfl,hm⟩));go_big_quiet_step (fail);go_big_quiet_step (fail);go_big_quiet_step ((go_at_call 52;with_reducible refine Calls.mono (HCK.out _) ?_;rintro e w6 ⟨rfl,hm⟩;exact⟨rfl,hm⟩));go_big_quiet_step (fail);go_big_quiet_step (fail);go_big_quiet_step (fail);go_big_quiet_step ((go_at_call 53;with_reducible refine Calls.mono (HCT.out _) ?_;rintro e w6 ⟨rfl,hm⟩;exact⟨rfl,hm⟩));go_big_quiet_step (fail);go_big_quiet_step (fail);go_big_quiet_step ((go_at_call 52;with_reducible refine Calls.mono (HCL.out _) ?_;rintro e w6 ⟨rfl,hm⟩;exact⟨rfl,hm⟩));go_big_quiet_step (fail);go_big_quiet_step (fail);go_big_quiet_step (fail);refine wpQuiet_nil ?_;rintro _ ⟨nq,rfl⟩;unfold Exit.then;(try go_wp2_with fail);go_ret;exact⟨rfl,HB0.out.trans ((HGB.out nq).mono HB0.out.size)⟩
theorem Qdc (l:List ByteArray)(y x:ByteArray):∀k,k≤l.length→Qb4 (l++[y]) x k=Qb4 l x k
 |0,_=>rfl
 |k+1,h=>by
  have e:(l++[y])[k]?.getD ⟨#[]⟩=l[k]?.getD ⟨#[]⟩:=(by rw[List.getElem?_append_left (by omega)]);unfold Qb4;rw[e,Qdc l y x k (by omega)]
theorem Qdi (l:List ByteArray)(y x:ByteArray):lastIx (l++[y]) x=if y=x then(l.length:Int) else lastIx l x:=by
 unfold lastIx;rw[qA,List.length_singleton];have e:(l++[y])[l.length]?.getD ⟨#[]⟩=y:=by simp
 by_cases h:y=x
 ·rw[if_pos h];exact Qca _ (by omega) (by rw[e,h]) (fun i h1 h2=>by omega)
 ·rw[if_neg h,←Qdc l y x l.length nL];rw[Qb4,e];simp[h]
def Has (branch:Int)(p:List H32 × List ByteArray)(s:Sheet):Prop:=∃k:Nat,lastIx p.2 s.label=(k:Int)∧(p.1[k]?).map (·.l)=some (leafOf branch s)
theorem has_addOne (branch:Int)(p:List H32 × List ByteArray)(s:Sheet)(h:p.1.length=p.2.length):Has branch (addOne branch p s) s:=by
 unfold addOne;split
 ·refine⟨p.2.length,by rw[Qdi,if_pos rfl],?_⟩;rw[←h];simp
 ·rename_i hc;rw[not_or] at hc;refine⟨(lastIx p.2 s.label).toNat,by omega,?_⟩;simpa using hc.2
theorem has_other (branch:Int)(p:List H32 × List ByteArray)(s t:Sheet)(h:Has branch p t)(hne:s.label≠t.label):Has branch (addOne branch p s) t:=by
 obtain⟨k,h1,h2⟩:=h;unfold addOne;split
 ·refine⟨k,by rw[Qdi,if_neg hne,h1],?_⟩;obtain⟨x,hx,_⟩:=Option.map_eq_some_iff.1 h2;rw[List.getElem?_append_left (List.getElem?_eq_some_iff.1 hx).1];exact h2
 ·exact⟨k,h1,h2⟩
theorem has_all (branch:Int):∀(d:List Sheet) (p:List H32 × List ByteArray),p.1.length=p.2.length→(d.map (·.label)).Nodup→(∀s∈d,Has branch (addAll branch p d) s)∧∀t,Has branch p t→(∀s∈d,s.label≠t.label)→Has branch (addAll branch p d) t
 |[],p,_,_=>⟨by simp,fun t h _=>h⟩
 |s::d,p,hp,hn=>by
  rw[List.map_cons,List.nodup_cons] at hn;have hl:=addOne_len branch p s hp;obtain⟨h1,h2⟩:=has_all branch d (addOne branch p s) hl.1 hn.2;have hh:∀t∈d,t.label≠s.label:=fun t ht e=>hn.1 (by rw[←e];exact List.mem_map_of_mem ht)
  refine⟨fun t ht=>?_,fun t ht hne=>?_⟩
  ·rcases List.mem_cons.1 ht with rfl|ht
   ·exact h2 t (has_addOne branch p t hp) hh
   ·exact h1 t ht
  ·exact h2 t (has_other branch p s t ht (hne s (by simp))) (fun u hu=>hne u (by simp[hu]))
theorem has_again (branch:Int)(p:List H32 × List ByteArray)(s:Sheet)(h:Has branch p s):addOne branch p s=p:=by
 obtain⟨k,h1,h2⟩:=h;unfold addOne;rw[if_neg];rw[h1];simp only[Int.toNat_natCast,h2,ne_eq,not_true_eq_false,or_false];omega
theorem takeP_last (P D:List H32)(d:H32)(h:P.take (D.length+1)=D.reverse++[d]):takeP P (D.length+1,false)=(d.l,(D.length,false))∧P.take D.length=D.reverse:=by
 have h1:P[D.length]? =some d:=by
  have:(P.take (D.length+1))[D.length]? =some d:=(by rw[h,List.getElem?_append_right (by simp)];simp);rwa [List.getElem?_take_of_lt (by omega)] at this
 refine⟨?_,?_⟩
 ·unfold takeP;rw[if_neg (by simp)];simp only[Nat.add_sub_cancel];unfold hAt;rw[h1];rfl
 ·have e:(P.take (D.length+1)).take D.length=P.take D.length:=by rw[List.take_take];congr 1;omega
  rw[←e,h,List.take_append_of_le_length (by simp),List.take_of_length_le (by simp)]
theorem Qdl (P:List H32)(leaf:List UInt8):∀(f:Nat) (l:List H32) (i:Nat),l.length≤f+1→l.length≤1073741824→(hi:i<l.length)→l[i].l=leaf→P.take (down l i).length=(down l i).reverse→ climbP f P leaf l.length i ((down l i).length,false)=(root l,(0,false))
 |0,l,i,hf,_,hi,he,_=>by
  obtain⟨x,rfl⟩:∃x,l=[x]:=List.length_eq_one_iff.1 (by omega);obtain rfl:i=0:=by simpa using hi
  rw[root_one,down_one _ _ (by simp),climbP];simp only[List.getElem_cons_zero] at he;rw[he];rfl
 |f+1,l,i,hf,hl,hi,he,hP=>by
  by_cases h1:l.length=1
  ·obtain⟨x,rfl⟩:∃x,l=[x]:=List.length_eq_one_iff.1 h1;obtain rfl:i=0:=by simpa using hi
   rw[root_one,down_one _ _ (by simp)];simp only[List.getElem_cons_zero] at he;rw[he];exact QdC _ _ _ _ _
  ·obtain⟨_,_,h3,h4,_⟩:=QaD l.length (by omega) (by omega);rw[climbP,if_neg h1,root_node l (by omega) hl];by_cases hik:i<Qam l.length
   ·rw[if_pos hik];rw[down_left l i (by omega) hl hik] at hP ⊢;rw[qC,List.reverse_cons] at hP;rw[qC];obtain⟨ht,hP2⟩:=takeP_last P _ _ hP;rw[ht];have hlen:(l.take (Qam l.length)).length=Qam l.length:=(by rw[qK];omega);have ih:=Qdl P leaf f (l.take (Qam l.length)) i (by omega) (by omega) (by omega) (by rw[List.getElem_take];exact he) hP2;rw[hlen] at ih;rw[ih]
   ·rw[if_neg hik];rw[down_right l i (by omega) hl hik] at hP ⊢;rw[qC,List.reverse_cons] at hP;rw[qC];obtain⟨ht,hP2⟩:=takeP_last P _ _ hP;rw[ht];have hlen:(l.drop (Qam l.length)).length=l.length-Qam l.length:=(by rw[List.length_drop]);have ih:=Qdl P leaf f (l.drop (Qam l.length)) (i-Qam l.length) (by omega) (by omega) (by omega) (by rw[List.getElem_drop];rw[←he];congr 2;omega) hP2;rw[hlen] at ih;rw[ih]
theorem path_includes (l:List H32)(i:Nat)(hi:i<l.length)(hl:l.length≤65536):Qa3 (root l) (l.length:Int) (i:Int) l[i].l (Qej l i)=true:=by
 unfold Qa3;rw[decide_eq_true (by omega),Bool.true_and];have e:(Qej l i).length=(down l i).length:=by unfold Qej;rw[List.length_reverse]
 have h:=Qdl (Qej l i) l[i].l l.length l i (by omega) (by omega) hi rfl (by rw[←e,List.take_length];rfl);rw[←e] at h;simp only[Int.toNat_natCast];rw[h];unfold QdF;simp
theorem has_check (branch:Int)(L:List H32)(N:List ByteArray)(s:Sheet)(h:Has branch (L,N) s)(hl:L.length≤65536):
 proofB N s.label=true∧QcY (L.length:Int) (root L) branch s (QbF N s.label) (Qbw L N s.label)=true:=by
 obtain⟨k,h1,h2⟩:=h;simp only at h1 h2;have hq:¬(k:Int)<0:=by omega
 unfold proofB QbF Qbw QcY;rw[h1,if_neg hq,if_neg hq,Int.toNat_natCast];obtain⟨x,hx,hx2⟩:=Option.map_eq_some_iff.1 h2;obtain⟨hk,hk2⟩:=List.getElem?_eq_some_iff.1 hx;refine⟨by simp[hq],?_⟩;have:=path_includes L k hk hl;rw[hk2,hx2] at this;exact this
abbrev Led:=List H32 × List ByteArray
noncomputable def nin {α:Type} (a:List α) (x:α):Bool:=@decide (x∉a) (Classical.propDecidable _)
theorem QeL {α:Type}{a:List α}{x:α}(h:x∉a):nin a x=true:=@decide_eq_true _ (Classical.propDecidable _) h
theorem nin_neg {α:Type}{a:List α}{x:α}(h:x∈a):¬nin a x=true:=fun e=>@of_decide_eq_true _ (Classical.propDecidable _) e h
theorem nin_of {α:Type}{a:List α}{x:α}(e:nin a x=true):x∉a:=@of_decide_eq_true _ (Classical.propDecidable _) e
theorem nin_ext {α β:Type}{a:List α}{b:List β}{x:α}{y:β}(h:x∈a↔y∈b):nin a x=nin b y:=by
 by_cases k:x∈a
 ·rw[Bool.eq_false_iff.2 (nin_neg k),Bool.eq_false_iff.2 (nin_neg (h.1 k))]
 ·rw[QeL k,QeL fun e=>k (h.2 e)]
theorem QeD {l:List ByteArray}{x:ByteArray}(h:x∉l):lastIx l x= -1:=by
 unfold lastIx;refine QcU _ fun j hj e=>h ?_
 rw[qG hj] at e;exact e▸List.getElem_mem hj
theorem lastIx_nodup {l:List ByteArray}(h:l.Nodup){i:Nat}(hi:i<l.length):lastIx l l[i]=(i:Int):=by
 unfold lastIx;refine Qca _ hi (by rw[qG hi];rfl) fun j h1 h2 e=>?_
 rw[qG h2] at e;have:=(List.pairwise_iff_getElem.1 h) i j hi h2 h1;exact this e.symm
theorem addOne_new {br:Int}{p:Led}{s:Sheet}(h:s.label∉p.2):addOne br p s=(p.1++[⟨leafOf br s⟩],p.2++[s.label]):=by
 unfold addOne;rw[if_pos (Or.inl (by rw[QeD h];decide))]
theorem Qcx (br:Int):∀(d:List Sheet) (p:Led),p.1.length=p.2.length→(d.map (·.label)).Nodup→(∀s∈d,Has br p s∨s.label∉p.2)→ ∃q:List H32 × List ByteArray,addAll br p d=(p.1++q.1,p.2++q.2)∧q.1.length=q.2.length∧q.2=(d.map (·.label)).filter (nin p.2)
 |[],p,_,_,_=>⟨([],[]),by unfold addAll;simp,rfl,rfl⟩
 |s::d,p,hl,hn,h=>by
  rw[List.map_cons,List.nodup_cons] at hn;have e:addAll br p (s::d)=addAll br (addOne br p s) d:=rfl;rw[e,List.map_cons];rcases h s (List.mem_cons_self ..) with h1|h1
  ·rw[has_again br p s h1];obtain⟨q,h2,h3,h4⟩:=Qcx br d p hl hn.2 fun t ht=>h t (List.mem_cons_of_mem _ ht)
   refine⟨q,h2,h3,?_⟩;have hm:s.label∈p.2:=by
    apply Classical.byContradiction;intro hc;obtain⟨k,hk,-⟩:=h1;rw[QeD hc] at hk;omega
   rw[h4,List.filter_cons,if_neg (nin_neg hm)]
  ·rw[addOne_new h1]
   obtain⟨q,h2,h3,h4⟩:=Qcx br d (p.1++[⟨leafOf br s⟩],p.2++[s.label]) (by simp[hl]) hn.2 fun t ht=>by
    have hne:s.label≠t.label:=fun e=>hn.1 (by rw[e];exact List.mem_map_of_mem ht)
    rcases h t (List.mem_cons_of_mem _ ht) with h5|h5
    ·have:=has_other br p s t h5 hne;rw[addOne_new h1] at this;exact Or.inl this
    ·refine Or.inr fun hm=>?_
     rcases List.mem_append.1 hm with h6|h6
     ·exact h5 h6
     ·rw[List.mem_singleton] at h6;exact hne h6.symm
   refine⟨(⟨leafOf br s⟩::q.1,s.label::q.2),by rw[h2];simp,by simp[h3],?_⟩;rw[List.filter_cons,if_pos (QeL h1),h4];refine congrArg (s.label::·) (List.filter_congr fun x hx=>nin_ext ?_);have hne:x≠s.label:=fun e=>hn.1 (e▸hx)
   simp[hne]
theorem Qdx {α:Type}:∀{a b:List α},a.Sublist b→b.Nodup→(b.filter (nin a)).length+a.length=b.length
 |_,_,.slnil,_=>rfl
 |_,_,.cons (l₁:=a) (l₂:=b) x h,hn=>by
  rw[List.nodup_cons] at hn;have hx:x∉a:=fun hm=>hn.1 (h.subset hm)
  rw[List.filter_cons,if_pos (QeL hx),qC,qC];have:=Qdx h hn.2;omega
 |_,_,.cons_cons (l₁:=a) (l₂:=b) x h,hn=>by
  rw[List.nodup_cons] at hn;rw[List.filter_cons,if_neg (nin_neg (List.mem_cons_self ..)),qC,qC];have h1:=Qdx h hn.2
  have h2:(b.filter (nin (x::a)))=b.filter (nin a):=List.filter_congr fun y hy=>nin_ext (by
   have hne:y≠x:=fun e=>hn.1 (e▸hy)
   simp[hne])
  rw[h2];omega
theorem led_pack (br:Int){S T:List Sheet}(h:S.Sublist T)(hT:(T.map (·.label)).Nodup){o n:Led}(ho:addAll br ([],[]) S=o)(hn:addAll br o T=n):
 o.1.length=S.length∧o.2.length=S.length∧n.1.length=T.length∧n.2.length=T.length∧n.1.take S.length=o.1∧
 (∀t∈T,Has br n t)∧(∀i (hi:i<S.length),lastIx n.2 S[i].label=(i:Int)):=by
 have hS:(S.map (·.label)).Nodup:=List.Sublist.nodup (h.map _) hT;obtain⟨q,h1,h2,h3⟩:=Qcx br S ([],[]) rfl hS fun s _=>Or.inr (by simp)
 rw[ho] at h1
 have h4:o.2=S.map (·.label):=by
  rw[h1,h3];simp[QeL]
 have hol:o.1.length=o.2.length:=by rw[h1];simpa using h2
 have hos:o.2.length=S.length:=by rw[h4,qM]
 have hasS:=(has_all br S ([],[]) rfl hS).1;rw[ho] at hasS
 obtain⟨r,k1,k2,k3⟩:=Qcx br T o hol hT fun t ht=>by
  by_cases hm:t.label∈o.2
  ·rw[h4] at hm;obtain⟨s,hs,he⟩:=List.mem_map.1 hm;have:s=t:=by
    obtain⟨i,hi,e1⟩:=List.getElem_of_mem (h.subset hs);obtain⟨j,hj,e2⟩:=List.getElem_of_mem ht;have hij:i=j:=by
     apply Classical.byContradiction;intro hne;have hi':i<(T.map (·.label)).length:=(by rw[qM];exact hi);have hj':j<(T.map (·.label)).length:=(by rw[qM];exact hj);have e3:(T.map (·.label))[i]=(T.map (·.label))[j]:=(by rw[List.getElem_map,List.getElem_map,e1,e2];exact he);rcases Nat.lt_or_gt_of_ne hne with h5|h5
     ·exact(List.pairwise_iff_getElem.1 hT i j hi' hj' h5) e3
     ·exact(List.pairwise_iff_getElem.1 hT j i hj' hi' h5) e3.symm
    subst hij;exact e1.symm.trans e2
   subst this;exact Or.inl (hasS s hs)
  ·exact Or.inr hm
 rw[hn] at k1;have k4:r.2.length+o.2.length=T.length:=by
  rw[k3,h4];have:=Qdx (h.map (·.label)) hT;rw[qM,qM] at this;rw[qM];exact this
 have hasT:=(has_all br T o hol hT).1;rw[hn] at hasT;have hnn:n.2.Nodup:=by
  rw[k1];refine List.nodup_append.2 ⟨by rw[h4];exact hS,by rw[k3];exact hT.filter _,fun x hx y hy e=>?_⟩;subst e;rw[k3] at hy;exact nin_of (List.mem_filter.1 hy).2 hx
 refine⟨by omega,hos,by rw[k1,qA,k2];omega,by rw[k1,qA];omega,?_,hasT,fun i hi=>?_⟩
 ·rw[k1,←hos,←hol];exact List.take_left
 ·have hi2:i<o.2.length:=by omega
  have hi3:i<n.2.length:=(by rw[k1,qA];omega);have e:n.2[i]=S[i].label:=by
   simp only[k1];rw[List.getElem_append_left hi2];simp only[h4,List.getElem_map]
  rw[←e];exact lastIx_nodup hnn hi3
def anyI (p:Int→Bool)(l:List Int):Bool:=l.any p
theorem anyI_take (p:Int→Bool)(l:List Int)(k:Nat)(h:k<l.length):anyI p (l.take (k+1))=(anyI p (l.take k)||p l[k]):=by
 unfold anyI;rw[qT h,List.any_append];simp
theorem anyI_hit (p:Int→Bool)(l:List Int)(k:Nat)(h:k<l.length)(hp:p l[k]=true):anyI p l=true:=List.any_eq_true.2 ⟨_,List.getElem_mem h,hp⟩
def IsIdxI (p:Int→Bool)(l:List Int)(w:World)(e:Ending)(w':World):Prop:=∃r:Int,e=.returned (.int .i64 r)∧decide (0≤r)=anyI p l∧w=w'
theorem indexFuncI_any (A:Option Addr)(c n:Nat)(l:List Int)(f:FuncId)(p:Int→Bool)(w:World)(hl:Sl w (fun b=>b<w.heap.size) A c l)(hn:l.length=n) (hcf:∀(w':World) (args:Array Value),(callFunc f args).run Tryz.prog w'=.ok (.enter f args) w') (hf:∀(x:Int) (w':World),I64 x→Calls Tryz.prog f #[.int .i64 x] w' fun e w''=>e=.returned (.bool (p x))∧w'=w''):
 Calls Tryz.prog 223 #[.slice A n c,.func (.func f) #[] #[]] w (IsIdxI p l w):=by
 subst hn;have hlen:l.length≤9223372036854775807:=by have:=hl.1;have:=hl.2.1;unfold maxLen at this;omega
 have Hf:=Lh hf;have Hl:=Lh hl;clear hf hl;go_enter Tryz.func223,Tryz.ntmps223;go_wp2_with fail;go_loopw [5,8] (fun _ i wr=>∃k:Nat,k≤l.length∧i=.int .i64 k∧Hid (anyI p (l.take k)=false)∧wr=w) (fun _ i _=>l.length-(intOf i).toNat);(case atStart=>exact⟨0,Nat.zero_le _,rfl,Lh (by simp[anyI]),rfl⟩);case round=>
  obtain⟨k,hk,rfl,hno,rfl⟩:=hrel;by_cases hlt:k<l.length
  ·obtain⟨b,o,rfl,_,hbl,hok,hc⟩:=Qcf Hl.out hlt;have hkl:(k:Int)<(l.length:Int):=(by omega);have hk0:(0:Int)≤(k:Int):=(by omega);have HT:=Lh (anyI_take p l k hlt);have HH:=Lh (anyI_hit p l k hlt);have HOK:=Lh hok;generalize l[k]=q at*;clear hok;go_wp2_with fail;refine(Hf.out q _ HOK.out).mono ?_;rintro e w' ⟨rfl,rfl⟩;cases hp:p q
   ·have E:=Lh (show anyI p (l.take (k+1))=false by rw[HT.out,hno.out,hp];rfl);clear hp;go_wp2_with fail;go_roundw;(case rel=>exact⟨k+1,by omega,by go_num,E,by first|trivial|rfl⟩);case measure=>simp[intOf];omega
   ·have E:=Lh (HH.out hp);clear hp;go_wp2_with fail;go_ret;exact⟨k,rfl,by rw[E.out];exact decide_eq_true hk0,rfl⟩
  ·have E:=Lh (show anyI p l=false by have:=hno.out;rwa [List.take_of_length_le (by omega)] at this);go_wp2_with fail;go_ret;exact⟨-1,rfl,by rw[E.out];rfl,rfl⟩
theorem QdD (A:Option Addr)(c n:Nat)(l:List Int)(f:FuncId)(p:Int→Bool)(w:World)(hl:Sl w (fun b=>b<w.heap.size) A c l)(hn:l.length=n) (hcf:∀(w':World) (args:Array Value),(callFunc f args).run Tryz.prog w'=.ok (.enter f args) w') (hf:∀(x:Int) (w':World),I64 x→Calls Tryz.prog f #[.int .i64 x] w' fun e w''=>e=.returned (.bool (p x))∧w'=w''):
 Calls Tryz.prog 208 #[.slice A n c,.func (.func f) #[] #[]] w fun e w'=>e=.returned (.bool (anyI p l))∧w=w':=by
 have Hi:=Lh (indexFuncI_any A c n l f p w hl hn hcf hf);clear hl hf hcf;go_enter Tryz.func208,Tryz.ntmps208;go_wp2_with fail;refine Hi.out.mono ?_;rintro e w' ⟨r,rfl,hr,rfl⟩;have Hr:=Lh hr;clear hr;go_wp2_with fail;go_ret;exact⟨Qat Hr.out,rfl⟩
def oddW (x:Int):Bool:=decide (x<1)||decide (480<x)
theorem oddW_any (x:Int)(w:World)(_hx:I64 x):Calls Tryz.prog 209 #[.int .i64 x] w fun e w'=>e=.returned (.bool (oddW x))∧w=w':=by
 unfold oddW;by_cases h1:x<1
 ·rw[decide_eq_true h1,Bool.true_or];go_enter Tryz.func209,Tryz.ntmps209;go_wp2_with fail;go_ret;exact⟨rfl,rfl⟩
 ·rw[decide_eq_false h1,Bool.false_or];by_cases h2:480<x
  ·rw[decide_eq_true h2];go_enter Tryz.func209,Tryz.ntmps209;go_wp2_with fail;go_ret;exact⟨rfl,rfl⟩
  ·rw[decide_eq_false h2];go_enter Tryz.func209,Tryz.ntmps209;go_wp2_with fail;go_ret;exact⟨rfl,rfl⟩
set_option maxRecDepth 100000 in
theorem reg_odd {ws:List Int}{m:Int}(h:Reg ws m):anyI oddW ws=false:=by
 unfold anyI;rw[List.any_eq_false];intro x hx;obtain⟨h1,h2⟩:=h.w x hx;unfold oddW;simp;omega
set_option maxRecDepth 100000 in
theorem pcheck_any (A:Option Addr)(c:Nat)(ws:List Int)(m:Int)(w:World)(hs:Sl w (fun b=>b<w.heap.size) A c ws)(hr:Reg ws m):
 Calls Tryz.prog 178 #[.slice A ws.length c,.int .i64 m] w fun e w'=>e=.returned (.int .i64 0)∧w=w':=by
 have HC:=Lh (QdD A c ws.length ws 209 oddW w hs rfl (fun _ _=>rfl) (fun x w' hx=>oddW_any x w' hx));rw[reg_odd hr] at HC;have h1:¬(500:Int)<(ws.length:Int):=by have:=hr.n;omega
 have h2:¬m<500:=by have:=hr.lo;omega
 have h3:¬2000<m:=by have:=hr.hi;omega
 clear hs hr;go_enter Tryz.func178,Tryz.ntmps178;go_wp2_with fail;refine HC.out.mono ?_;rintro e w' ⟨rfl,rfl⟩;go_wp2_with fail;go_ret;exact⟨rfl,rfl⟩
theorem QdV (ws:List Int)(hw:∀x∈ws,1≤x∧x≤480):∀(s:Int),ws.foldl (fun s w=>s-(w+6)) s≤s∧s-486*(ws.length:Int)≤ws.foldl (fun s w=>s-(w+6)) s:=by
 induction ws with
 |nil=>intro s;simp
 |cons x ws ih=>
  intro s;have h1:=hw x (by simp);have h2:=ih (fun y hy=>hw y (by simp[hy])) (s-(x+6));simp only[List.foldl_cons,qC];omega
theorem slack_any (A:Option Addr)(c:Nat)(ws:List Int)(m:Int)(w:World)(hs:Sl w (fun b=>b<w.heap.size) A c ws)(hr:Reg ws m):
 Calls Tryz.prog 180 #[.slice A ws.length c,.int .i64 m] w fun e w'=>e=.returned (.int .i64 (Qbc ws m))∧w=w':=by
 have HS:=Lh hs;have HR:=Lh hr;have h1:m≤2000:=hr.hi;have h2:500≤m:=hr.lo;have h3:ws.length≤500:=hr.n;clear hs hr;go_enter Tryz.func180,Tryz.ntmps180;go_wp2_with fail;go_loopw [5,12] (fun s i wr=>∃(k:Nat),k≤ws.length∧i=.int .i64 k∧s=.int .i64 (Qbc (ws.take k) m)∧wr=w) (fun _ i _=>ws.length-(intOf i).toNat);(case atStart=>exact⟨0,Nat.zero_le _,rfl,rfl,rfl⟩);case round=>
  obtain⟨k,hk,rfl,rfl,rfl⟩:=hrel;by_cases hlt:k<ws.length
  ·obtain⟨b,o,rfl,_,hbl,hok,hc⟩:=Qcf HS.out hlt;have hkl:(k:Int)<(ws.length:Int):=(by omega);have hk0:(0:Int)≤(k:Int):=(by omega);have hx:=HR.out.w ws[k] (List.getElem_mem hlt);have HN:Hid (Qbc (ws.take (k+1)) m=Qbc (ws.take k) m-(ws[k]+6)):=Lh (by unfold Qbc;rw[qT hlt,List.foldl_append];rfl);have hb:=QdV (ws.take k) (fun x hx=>HR.out.w x (List.mem_of_mem_take hx)) (m+6);have hlen:(ws.take k).length=k:=(by rw[qK];omega);rw[hlen] at hb;have hb1:Qbc (ws.take k) m≤2006:=(by unfold Qbc;omega);have hb2: -300000≤Qbc (ws.take k) m:=(by unfold Qbc;omega);generalize Qbc (ws.take k) m=s at*;generalize ws[k]=x at*;obtain⟨hx1,hx2⟩:=hx;clear hb hlen;go_wp2_with fail;go_roundw;(case rel=>exact⟨k+1,by omega,by go_num,by rw[HN.out],by first|trivial|rfl⟩);case measure=>(simp[intOf];omega)
  ·have HE:Hid (Qbc (ws.take k) m=Qbc ws m):=Lh (by rw[List.take_of_length_le (by omega)]);go_wp2_with fail;go_ret;exact⟨by rw[←HE.out];rfl,rfl⟩
def setL (cur:Array Value):Nat→List Value→Array Value
 |_,[]=>cur
 |o,v::vs=>setL (cur.setIfInBounds o v) (o+1) vs
theorem Qew:∀(vs:List Value) (cur:Array Value) (o:Nat),(setL cur o vs).size=cur.size
 |[],_,_=>rfl
 |v::vs,cur,o=>by rw[setL,Qew vs];simp
theorem setL_get:∀(vs:List Value) (cur:Array Value) (o k:Nat),o+vs.length≤cur.size→(setL cur o vs)[k]? =if o≤k∧k<o+vs.length then vs[k-o]? else cur[k]?
 |[],cur,o,k,_=>by rw[setL,if_neg (by simp only[List.length_nil];omega)]
 |v::vs,cur,o,k,h=>by
  rw[qC] at h;rw[setL,setL_get vs _ (o+1) k (by simp;omega),qC];by_cases h1:o=k
  ·subst h1;rw[if_neg (by omega),if_pos ⟨Nat.le_refl _,by omega⟩,Nat.sub_self,List.getElem?_cons_zero,Array.getElem?_setIfInBounds];simp;omega
  ·by_cases h2:o+1≤k∧k<o+1+vs.length
   ·rw[if_pos h2,if_pos (by omega)];obtain⟨d,hd⟩:∃d,k-o=d+1:=⟨k-o-1,by omega⟩;rw[hd,List.getElem?_cons_succ];congr 1;omega
   ·rw[if_neg h2,if_neg (by omega),Array.getElem?_setIfInBounds_ne h1]
theorem Qcg (b:Nat):∀(vs:List Value) (o:Nat) (w:World) {cur:Array Value} {t:TypeId} {fr:Nat × Nat},w.heap[b]? =some (.cells cur t fr)→(w.setCells b o vs).heap[b]? =some (.cells (setL cur o vs) t fr)
 |[],_,_,_,_,_,h=>h
 |v::vs,o,w,cur,t,fr,h=>by
  refine Qcg b vs (o+1) (w.setCell ⟨b,o,none⟩ v) ?_;simp only[World.setCell,Array.getElem?_modify,if_true,h,Option.map_some,Option.isSome_none,Bool.false_eq_true,if_false]
theorem Qa6 (b:Nat){i:Nat}(hi:i≠b):∀(vs:List Value) (o:Nat) (w:World),(w.setCells b o vs).heap[i]? =w.heap[i]?
 |[],_,_=>rfl
 |v::vs,o,w=>by
  refine(Qa6 b hi vs (o+1) (w.setCell ⟨b,o,none⟩ v)).trans ?_;simp only[World.setCell,Array.getElem?_modify];rw[if_neg (fun e=>hi e.symm)]
theorem Qcc (b:Nat):∀(vs:List Value) (o:Nat) (w:World),(w.setCells b o vs).heap.size=w.heap.size
 |[],_,_=>rfl
 |v::vs,o,w=>(Qcc b vs (o+1) (w.setCell ⟨b,o,none⟩ v)).trans (by simp[World.setCell])
theorem Qb3 {B b:Nat}(hb:B≤b):∀(vs:List Value) (o:Nat) {w0 w:World},Below B w0 w→Below B w0 (w.setCells b o vs)
 |[],_,_,_,h=>h
 |v::vs,o,_,_,h=>Qb3 hb vs (o+1) (h.setCell (p:=⟨b,o,none⟩) hb v)
section
variable {α:Type} [Rep α] {w:World} {base g c:Nat} {e:TypeId} {l:List α}
theorem Own.there (h:Own w base e (.slice (some ⟨g,0,none⟩) l.length c) l){i:Nat}(hi:i<l.length):w.there g (i*Rep.size α) (Rep.size α):=by
 obtain⟨xs,hx,ho,hr⟩:=h;rcases hx.2 with⟨h1,_⟩|⟨g',cap,cur,h1,hb,hg,hnc,hcm,hcs,htake⟩
 ·cases h1
 ·cases h1;intro j hj;have h2:(i+1)*Rep.size α≤l.length*Rep.size α:=Nat.mul_le_mul_right _ hi;have h3:l.length*Rep.size α≤c*Rep.size α:=Nat.mul_le_mul_right _ hnc;rw[Nat.add_mul,Nat.one_mul] at h2;refine⟨?_,by simp[World.frozen?,hg]⟩;rw[cell_of_row _ _ _ _ _ _ hg,Array.getElem?_eq_getElem (by omega)];rfl
theorem Own.setMid (h:Own w base e (.slice (some ⟨g,0,none⟩) l.length c) l){i:Nat}(hi:i<l.length){cs:List Value}{x:α}(hr:Rep.R w (fun b=>b≠g) cs x):
 Own (w.setCells g (i*Rep.size α) cs) base e (.slice (some ⟨g,0,none⟩) l.length c) (l.set i x):=by
 obtain⟨xs,hx,ho,hq⟩:=h;rcases hx.2 with⟨h1,_⟩|⟨g',cap,cur,h1,hb,hg,hnc,hcm,hcs,htake⟩
 ·cases h1
 ·cases h1;have hlen:=Rep.len hr;have h2:(i+1)*Rep.size α≤l.length*Rep.size α:=Nat.mul_le_mul_right _ hi;have h3:l.length*Rep.size α≤c*Rep.size α:=Nat.mul_le_mul_right _ hnc;rw[Nat.add_mul,Nat.one_mul] at h2;have hfit:i*Rep.size α+cs.length≤cur.size:=(by omega);have hkept:Kept (fun b=>b≠g) w (w.setCells g (i*Rep.size α) cs):=fun k hk _=>Qa6 g hk _ _ _
  have hl2:(setL cur (i*Rep.size α) cs).toList.length=cur.size:=(Array.length_toList).trans (Qew _ _ _);have hxl:((setL cur (i*Rep.size α) cs).toList.take (l.length*Rep.size α)).length=l.length*Rep.size α:=by
   rw[qK,hl2];omega
  have hget:∀k,((setL cur (i*Rep.size α) cs).toList.take (l.length*Rep.size α))[k]? =if i*Rep.size α≤k∧k<i*Rep.size α+cs.length then cs[k-i*Rep.size α]? else xs[k]? :=by
   intro k;have e1:(setL cur (i*Rep.size α) cs).toList[k]? =(setL cur (i*Rep.size α) cs)[k]? :=(by simp);have e2:cur.toList[k]? =cur[k]? :=(by simp);rw[←htake,List.getElem?_take,List.getElem?_take,e1,e2,setL_get _ _ _ _ hfit];by_cases hk:k<l.length*Rep.size α
   ·rw[if_pos hk,if_pos hk]
   ·rw[if_neg hk,if_neg hk,if_neg (by omega)]
  refine⟨(setL cur (i*Rep.size α) cs).toList.take (l.length*Rep.size α),⟨by rw[List.length_set];exact hxl,.inr ⟨g,c,setL cur (i*Rep.size α) cs,by rw[List.length_set],hb,Qcg g _ _ _ hg,by rw[List.length_set];exact hnc,hcm,by rw[Qew];exact hcs,by rw[List.length_set]⟩⟩,?_,?_⟩
  ·intro u hu;obtain⟨k,hk⟩:=List.getElem?_of_mem hu;rw[hget] at hk;split at hk
   ·exact Rep.one hr u (List.mem_of_getElem? hk)
   ·exact ho u (List.mem_of_getElem? hk)
  ·intro j hj;have hj':j<l.length:=(by rw[List.length_set] at hj;exact hj);by_cases hij:i=j
   ·subst hij;have ht:((((setL cur (i*Rep.size α) cs).toList.take (l.length*Rep.size α)).drop (i*Rep.size α)).take (Rep.size α))=cs:=by
     apply List.ext_getElem?;intro k;rw[List.getElem?_take,List.getElem?_drop,hget];by_cases hk:k<Rep.size α
     ·rw[if_pos hk,if_pos (by omega)];congr 1;omega
     ·rw[if_neg hk,List.getElem?_eq_none (by omega)]
    rw[List.getElem_set_self,ht];exact Rep.mono (Rep.keep hr hkept) (fun b hb _=>by simpa[Value.ownBlock] using fun e=>hb e)
   ·have ht:((((setL cur (i*Rep.size α) cs).toList.take (l.length*Rep.size α)).drop (j*Rep.size α)).take (Rep.size α))=(xs.drop (j*Rep.size α)).take (Rep.size α):=by
     apply List.ext_getElem?;intro k;rw[List.getElem?_take,List.getElem?_drop,hget,List.getElem?_take,List.getElem?_drop];by_cases hk:k<Rep.size α
     ·rw[if_pos hk,if_pos hk,if_neg];rcases Nat.lt_or_gt_of_ne hij with h4|h4
      ·have h5:(i+1)*Rep.size α≤j*Rep.size α:=Nat.mul_le_mul_right _ h4;rw[Nat.add_mul,Nat.one_mul] at h5;omega
      ·have h5:(j+1)*Rep.size α≤i*Rep.size α:=Nat.mul_le_mul_right _ h4;rw[Nat.add_mul,Nat.one_mul] at h5;omega
     ·rw[if_neg hk,if_neg hk]
    rw[List.getElem_set_ne hij,ht];exact Rep.keep (hq j hj') (fun k hk _=>Qa6 g (fun e=>hk (by rw[e];rfl)) _ _ _)
end
end Go.Proofs.YtegaapiocihcpaaGreatDoor
