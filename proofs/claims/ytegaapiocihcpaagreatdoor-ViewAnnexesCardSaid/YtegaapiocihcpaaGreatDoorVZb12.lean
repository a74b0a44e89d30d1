/- Texts of VwCAn. -/
import Derived.Test.YtegaapiocihcpaaGreatDoorVZb11
import Derived.BigQuiet
import Derived.Deep.CutBlock
set_option maxHeartbeats 16000000
namespace Go.Proofs.YtegaapiocihcpaaGreatDoor
open Go.RowKit
def SGood (s:SectP):Prop:=(0≤s.entry∧s.entry≤65535)∧0<s.vers.length∧s.vers.length≤1000∧∀v∈s.vers,0≤v∧v≤2147483647
theorem saddE_zero {sl:List Seal}{q:Seal}(h:(saddE sl q).2=0):(saddE sl q).1=sl++[q]:=by
 unfold saddE at h ⊢;split at h
 ·cases h
 ·rename_i h1;split at h
  ·cases h
  ·rename_i h2;split at h
   ·cases h
   ·rename_i h3;rw[if_neg h1,if_neg h2,if_neg h3]
def SlOk (sl:List Seal):Prop:=∀s∈sl,s.ok∧0≤s.g∧s.g<16
set_option maxRecDepth 100000 in
theorem rseals_any (A0:Option Addr)(c0:Nat)(l0:List Int)(m h:Int)(Ab:Option Addr)(cb:Nat)(ss:List SectP)(w:World)(hs0:Sl w (fun b=>b<w.heap.size) A0 c0 l0)(hss:Sl w (fun b=>b<w.heap.size) Ab cb ss)(hG:∀s∈ss,SGood s)(hsn:ss.length≤1000):
 Calls Tryz.prog 46 #[.slice A0 l0.length c0,.agg #[.int .i64 m,.int .i64 h,.slice Ab ss.length cb]] w fun r W'=>∃v sl,r=.returned v∧Own W' w.heap.size 118 v sl∧sl.length≤6∧SlOk sl∧Below w.heap.size w W':=by
 obtain⟨n,hn⟩:∃n,l0.length=n:=⟨_,rfl⟩;obtain⟨ns,hns⟩:∃ns,ss.length=ns:=⟨_,rfl⟩;obtain⟨wb,hwb⟩:∃wb,w.alloc (.cells #[.int .i64 m,.int .i64 h,.slice Ab ns cb] 25)=wb:=⟨_,rfl⟩;have hba:Below w.heap.size w wb:=by rw[←hwb];exact bR.alloc nL _
 have hx0:ABox wb w.heap.size 25 [.int .i64 m,.int .i64 h,.slice Ab ns cb]:=by rw[←hwb];exact heap_alloc_new w _
 have HI:=Lh (hs0.to hba);have HSS:=Lh (hss.to hba);have HN:=Lh hn;have HNS:=Lh hns;have HG:=Lh hG;have HBA:=Lh hba;have HX0:=Lh hx0;have hnc:n≤c0:=by rw[←hn];exact hs0.1
 have hnc2:c0≤9223372036854775807:=hs0.2.1;have hsc:ns≤cb:=by rw[←hns];exact hss.1
 have hsc2:cb≤9223372036854775807:=hss.2.1;have hns6:ns≤1000:=by omega
 rw[hn,hns];clear hs0 hss hn hns hG hba hx0 hsn;go_enter Tryz.func46,Tryz.ntmps46;go_upto_region 1 with(fail);(try rw[hwb]);clear hwb;go_wp2_with fail;go_loopw [5,6] (fun v5 v6 wr=>∃(k:Nat) (sl:List Seal),v6=.int .i64 k∧k≤n∧k≤6∧Hid (Own wr wb.heap.size 118 v5 sl)∧Hid (sl.length≤k)∧Hid (SlOk sl)∧Hid (Below wb.heap.size wb wr)) (fun _ v6 _=>6-(intOf v6).toNat);(case atStart=>exact⟨0,[],rfl,Nat.zero_le _,Nat.zero_le _,Lh (Own.nil _ _ _),Lh nL,Lh (fun _ h=>nomatch h),Lh bR⟩);case round=>
  obtain⟨k,sl,rfl,hkn,hk6,HO,HLE,HOK,HB⟩:=hrel;have y2:=(HX0.out.to HB.out).cell 2 rfl;go_upto_region 3 with(fail);go_cut [26] from 13 to 26 (fun v26 wx=>v26=.bool (decide (k<n∧k<6∧0<ns))∧wx=wr);case first=>
   by_cases h1:k<n
   ·by_cases h2:k<6
    ·by_cases h3:0<ns
     ·have g1:(k:Int)<(n:Int):=by omega
      have g2:(k:Int)<6:=(by omega);have g3:(0:Int)<(ns:Int):=(by omega);go_wp2_with fail;go_meet;exact⟨by rw[decide_eq_true (⟨h1,h2,h3⟩:k<n∧k<6∧0<ns)],rfl⟩
     ·have g1:(k:Int)<(n:Int):=by omega
      have g2:(k:Int)<6:=(by omega);have g3:¬(0:Int)<(ns:Int):=(by omega);go_wp2_with fail;go_meet;exact⟨by rw[decide_eq_false (fun h=>h3 h.2.2:¬(k<n∧k<6∧0<ns))],rfl⟩
    ·have g1:(k:Int)<(n:Int):=by omega
     have g2:¬(k:Int)<6:=(by omega);go_wp2_with fail;go_meet;exact⟨by rw[decide_eq_false (fun h=>h2 h.2.1:¬(k<n∧k<6∧0<ns))],rfl⟩
   ·have g1:¬(k:Int)<(n:Int):=by omega
    go_wp2_with fail;go_meet;exact⟨by rw[decide_eq_false (fun h=>h1 h.1:¬(k<n∧k<6∧0<ns))],rfl⟩
  case rest=>
   obtain⟨rfl,rfl⟩:=hcut;obtain⟨wr,hwr⟩:∃q:World,q=wc:=⟨_,rfl⟩;subst hwr;by_cases hlt:k<n∧k<6∧0<ns
   ·rw[decide_eq_true hlt];obtain⟨hk,hk6',hns0⟩:=hlt;have hkl:k<l0.length:=(by rw[HN.out];exact hk);obtain⟨b0,o0,hA0,-,hb0,hI0,e0⟩:=Qba HI.out hkl;subst hA0;obtain⟨a0,ha0⟩:∃a0,l0[k]=a0:=⟨_,rfl⟩;rw[ha0] at hI0 e0;have e1:=(HB.out.cell (p:=⟨b0,o0+k,none⟩) hb0).trans e0;obtain⟨hI1,hI2⟩:=hI0;have hkI:(k:Int)<(n:Int):=(by omega);clear ha0 e0;go_upto_if 34 with(fail);go_cut [7] from 33 to 37 (fun v7 wx=>v7=.int .i64 (if a0<0 then -(a0+1) else a0)∧wx=wr);case first=>
     by_cases hneg:a0<0
     ·go_wp2_with fail;go_meet;exact⟨by rw[if_pos hneg],rfl⟩
     ·go_wp2_with fail;go_meet;exact⟨by rw[if_neg (by omega)],rfl⟩
    case rest=>
     obtain⟨rfl,rfl⟩:=hcut;obtain⟨wr,hwr⟩:∃q:World,q=wc:=⟨_,rfl⟩;subst hwr;have har:=aro_lt a0 1000000 (by decide);have hai:0≤(if a0<0 then -(a0+1) else a0)∧(if a0<0 then -(a0+1) else a0)≤9223372036854775807:=(by split<;>omega);obtain⟨z,hz⟩:∃z,(if a0<0 then -(a0+1) else a0)=z:=⟨_,rfl⟩;have hzr:z%1000000=aro a0 1000000:=(by rw[←hz];rfl);rw[hz] at hai ⊢;obtain⟨hz0,hz1⟩:=hai;clear hz;go_upto_region 9 with(fail);obtain⟨x,hx⟩:∃x,z%1000000=x:=⟨_,rfl⟩;have hx0:0≤x:=(by rw[←hx];exact Int.emod_nonneg _ (by decide));have hx1:x<1000000:=(by rw[←hx];exact Int.emod_lt_of_pos _ (by decide));rw[hx];clear hx hzr har;obtain⟨i,hi⟩:∃i:Nat,x%(ns:Int)=(i:Int):=⟨(x%(ns:Int)).toNat,by have:=Int.emod_nonneg x (show(ns:Int)≠0 by omega);omega⟩;have hin:i<ns:=(by have:=Int.emod_lt_of_pos x (show(0:Int)<(ns:Int) by omega);omega);have hil:i<ss.length:=(by rw[HNS.out];exact hin);obtain⟨bs,os,Ag,cg,An,cn,hAs,-,hbs0,r0,r1,r2,r3,hvS,-,hIE⟩:=QcC HSS.out hil;have hgs:=HG.out _ (List.getElem_mem hil);obtain⟨s,hs⟩:∃s,ss[i]=s:=⟨_,rfl⟩;rw[hs] at r0 r1 r2 r3 hvS hIE hgs;subst hAs;have hbs:bs<wr.heap.size:=Nat.lt_of_lt_of_le hbs0 HB.out.size;have t0:=(HB.out.cell (p:=⟨bs,os+i*4,none⟩) hbs0).trans r0;have t1:=(HB.out.cell (p:=⟨bs,os+i*4+1,none⟩) hbs0).trans r1;have t2:=(HB.out.cell (p:=⟨bs,os+i*4+2,none⟩) hbs0).trans r2;have t3:=(HB.out.cell (p:=⟨bs,os+i*4+3,none⟩) hbs0).trans r3;have HVS:=Lh hvS;have HGS:=Lh hgs;have hinI:(i:Int)<(ns:Int):=(by omega);clear hs r0 r1 r2 r3 hvS hIE hgs;refine Qac [9] (fun i=>if i=9 then SP.box wr.heap.size #[.int .i64 0,.bool false,.slice none 0 0,.slice none 0 0] 74 else SP.any) 10 (by kernel_rfl) (by kernel_rfl) ?_;intro T _ g hg hgm;have yy:∀d,(g d).cell? ⟨w.heap.size,2,none⟩=some (.slice (some ⟨bs,os,none⟩) ns cb):=fun d=>((HX0.out.to HB.out).to (hg d)).cell 2 rfl
     have s0:∀d,(g d).cell? ⟨bs,os+i*4,none⟩=some (.int .i64 s.entry):=fun d=>((hg d).cell (p:=⟨bs,os+i*4,none⟩) hbs).trans t0
     have s1:∀d,(g d).cell? ⟨bs,os+i*4+1,none⟩=some (.bool s.frozen):=fun d=>((hg d).cell (p:=⟨bs,os+i*4+1,none⟩) hbs).trans t1
     have s2:∀d,(g d).cell? ⟨bs,os+i*4+2,none⟩=some (.slice Ag s.vers.length cg):=fun d=>((hg d).cell (p:=⟨bs,os+i*4+2,none⟩) hbs).trans t2
     have s3:∀d,(g d).cell? ⟨bs,os+i*4+3,none⟩=some (.slice An s.texts.length cn):=fun d=>((hg d).cell (p:=⟨bs,os+i*4+3,none⟩) hbs).trans t3
     clear y2;(repeat(refine Qad (by rfl) fun Kq hq=>?_;go_big_quiet_step (fail);refine wpQuiet_nil (hq _ ?_);clear hq Kq));have HXR:Hid (0≤x∧x<1000000):=Lh ⟨hx0,hx1⟩;clear hi hinI hz0 hz1 hx0 hx1;refine Qai (by rfl) (by rfl) (fun d hG K Q hK=>?_) (fun v d hG hp Kr hr=>?_)
     ·go_simp;exact hK _ _ (bR.alloc nL _) ⟨_,rfl,(hg d).size,by simp,heap_alloc_new _ _⟩
     obtain⟨O,rfl,hO,-⟩:=(show ∃b,v=.pointer (some ⟨b,0,none⟩)∧wr.heap.size≤b∧_ from hp);have HOW:=Lh hO;clear hO;(try clear hp);clear hG;go_frame;refine hr _ ?_;clear hr Kr;refine QaA 1 (by rfl) (by rfl) (fun d hG=>?_);obtain⟨b',hb',-,hbl,hbh⟩:=(show ∃b,Value.pointer (some ⟨O,0,none⟩)=.pointer (some ⟨b,0,none⟩)∧wr.heap.size≤b∧b<(g d).heap.size∧(g d).heap[b]? =some (.cells #[.int .i64 0,.bool false,.slice none 0 0,.slice none 0 0] 74 (0,0)) from hG 9);cases hb';have HXB:Hid (ABox (g d) O 74 [.int .i64 0,.bool false,.slice none 0 0,.slice none 0 0]):=Lh hbh;have HGD:=Lh (hg d);clear hG hg hgm yy s0 s1 s2 s3 hbl hbh t0 t1 t2 t3;generalize g d=w3 at*;clear g;have x0:=HXB.out.cell 0 rfl;have f0:=HXB.out.fz 0;have x1:=((HXB.out.set 0 (.int .i64 s.entry))).cell 1 rfl;have f1:=((HXB.out.set 0 (.int .i64 s.entry))).fz 1;have x2:=(((HXB.out.set 0 (.int .i64 s.entry)).set 1 (.bool s.frozen))).cell 2 rfl;have f2:=(((HXB.out.set 0 (.int .i64 s.entry)).set 1 (.bool s.frozen))).fz 2;have x3:=((((HXB.out.set 0 (.int .i64 s.entry)).set 1 (.bool s.frozen)).set 2 (.slice Ag s.vers.length cg))).cell 3 rfl;have f3:=((((HXB.out.set 0 (.int .i64 s.entry)).set 1 (.bool s.frozen)).set 2 (.slice Ag s.vers.length cg))).fz 3;have HXC:=Lh ((((HXB.out.set 0 (.int .i64 s.entry)).set 1 (.bool s.frozen)).set 2 (.slice Ag s.vers.length cg)).set 3 (.slice An s.texts.length cn));refine Qag (i:=10) (oi:=_) rfl (by kernel_rfl) (by rfl) (fun K hK=>?_);go_simp;refine hK _ _ ?_;clear hK K;(try go_frame);clear x0 x1 x2 x3 f0 f1 f2 f3;refine wpAny_done (by kernel_rfl) ?_ _;unfold Exit.then;obtain⟨w4,hw4⟩:∃w4,((((w3.setCell ⟨O,0,none⟩ (.int .i64 s.entry)).setCell ⟨O,1,none⟩ (.bool s.frozen)).setCell ⟨O,2,none⟩ (.slice Ag s.vers.length cg)).setCell ⟨O,3,none⟩ (.slice An s.texts.length cn))=w4:=⟨_,rfl⟩;have hb4:Below wr.heap.size wr w4:=(by rw[←hw4];exact((((HGD.out.setCell (p:=⟨O,0,none⟩) HOW.out (.int .i64 s.entry)).setCell (p:=⟨O,1,none⟩) HOW.out (.bool s.frozen)).setCell (p:=⟨O,2,none⟩) HOW.out (.slice Ag s.vers.length cg)).setCell (p:=⟨O,3,none⟩) HOW.out (.slice An s.texts.length cn)));have hx4:=HXC.out;rw[hw4] at hx4;rw[hw4];have HX4:=Lh hx4;have HB4:Hid (Below wb.heap.size wb w4):=Lh (HB.out.trans (hb4.mono HB.out.size));have HO4:=Lh (HO.out.below hb4);have hvl:0<s.vers.length:=HGS.out.2.1;have hvl2:s.vers.length≤1000:=HGS.out.2.2.1;obtain⟨nv,hnv⟩:∃nv,s.vers.length=nv:=⟨_,rfl⟩;have HNV:=Lh hnv;rw[hnv] at hvl hvl2;have x2:=HX4.out.cell 2 rfl;rw[hnv] at x2;have hvI:(0:Int)<(nv:Int):=(by omega);have hxa:=HXR.out.1;have hxb:=HXR.out.2;clear hw4 hb4 hx4 hnv HXC HXB HGD;obtain⟨j,hj⟩:∃j:Nat,x/16%(nv:Int)=(j:Int):=⟨(x/16%(nv:Int)).toNat,by have:=Int.emod_nonneg (x/16) (show(nv:Int)≠0 by omega);omega⟩;have hjn:j<nv:=(by have:=Int.emod_lt_of_pos (x/16) hvI;omega);have hjl:j<s.vers.length:=(by rw[HNV.out];exact hjn);obtain⟨bv,ov,hAg,-,hbv,hIv,v0⟩:=Qba HVS.out hjl;subst hAg;have hyr:=HGS.out.2.2.2 _ (List.getElem_mem hjl);obtain⟨y,hy⟩:∃y,s.vers[j]=y:=⟨_,rfl⟩;rw[hy] at v0 hyr;have v1:=(HB4.out.cell (p:=⟨bv,ov+j,none⟩) hbv).trans v0;have hjI:(j:Int)<(nv:Int):=(by omega);have hq0:0≤x/16:=(by omega);have hq1:x/16≤1000000:=(by omega);have HYR:=Lh hyr;clear hy hyr v0 hIv;go_upto_region 12 with(fail);go_quiet (fail);obtain⟨w5,hw5⟩:∃w5,w4.drewN nq=w5:=⟨_,rfl⟩;have hb5:Below w4.heap.size w4 w5:=(by rw[←hw5];exact Below.dn bR nq);rw[hw5];have HX5:=Lh (HX4.out.to hb5);have HO5:=Lh (HO4.out.below hb5);have HB5:Hid (Below wb.heap.size wb w5):=Lh (HB4.out.trans (hb5.mono HB4.out.size));have x0:=HX5.out.cell 0 rfl;clear hw5 hb5 x2 v1 hj hjI;go_upto_region 15 with(fail);obtain⟨f,hf⟩:∃f,x/64%12=f:=⟨_,rfl⟩;obtain⟨g,hg⟩:∃g,x/768%4=g:=⟨_,rfl⟩;obtain⟨u,hu⟩:∃u,f+1+x/3072%6=u:=⟨_,rfl⟩;have hfr:0≤f∧f<12:=(by rw[←hf];exact⟨Int.emod_nonneg _ (by decide),Int.emod_lt_of_pos _ (by decide)⟩);have hgr:0≤g∧g<4:=(by rw[←hg];exact⟨Int.emod_nonneg _ (by decide),Int.emod_lt_of_pos _ (by decide)⟩);have hur:f+1≤u∧u<f+7:=(by have h1:=Int.emod_nonneg (x/3072) (show(6:Int)≠0 by decide);have h2:=Int.emod_lt_of_pos (x/3072) (show(0:Int)<6 by decide);omega);rw[hf,hu,hg];obtain⟨w6,hw6⟩:∃w6,w5.alloc (.cells #[.int .i64 s.entry,.int .i64 y,.int .i64 f,.int .i64 u,.int .i64 g] 118)=w6:=⟨_,rfl⟩;have hb6:Below w5.heap.size w5 w6:=(by rw[←hw6];exact bR.alloc nL _);have HX6:Hid (ABox w6 w5.heap.size 118 [.int .i64 s.entry,.int .i64 y,.int .i64 f,.int .i64 u,.int .i64 g]):=Lh (by rw[←hw6];exact heap_alloc_new w5 _);have HO6:=Lh (HO5.out.below hb6);have HB6:Hid (Below wb.heap.size wb w6):=Lh (HB5.out.trans (hb6.mono HB5.out.size));rw[hw6];have hse:=HGS.out.1;have hyr:=HYR.out;have HQ:Hid ((⟨s.entry,y,f,u,g⟩:Seal).ok∧0≤g∧g<16):=Lh ⟨⟨show I64 s.entry by unfold I64;omega,show I64 y by unfold I64;omega,show I64 f by unfold I64;omega,show I64 u by unfold I64;omega,show I64 g by unfold I64;omega⟩,by omega,by omega⟩;obtain⟨A5,c5,hv5,-⟩:=HO6.out.form;subst hv5;obtain⟨A6,c6,e6,hs6⟩:=HO6.out.sl;cases e6;have HAD:=Lh (radd_any A5 c5 sl.length sl ⟨s.entry,y,f,u,g⟩ w6 hs6 rfl HQ.out.1);obtain⟨er,her⟩:∃er,(saddE sl (⟨s.entry,y,f,u,g⟩:Seal)).2=er:=⟨_,rfl⟩;have HER:=Lh her;rw[her] at HAD;have x0:=HX6.out.cell 0 rfl;have x1:=HX6.out.cell 1 rfl;have x2:=HX6.out.cell 2 rfl;have x3:=HX6.out.cell 3 rfl;have x4:=HX6.out.cell 4 rfl;have HLE6:=Lh HLE.out;clear hf hg hu hfr hgr hur hw6 hb6 hs6 her hse hyr hxa hxb hq0 hq1 hvI hvl hvl2 hjn hjl hbv;by_cases he:er=0
     ·subst he
      go_wp2_with (first|(go_at_call 95;refine HAD.out.mono ?_;rintro r w7 ⟨v7,rfl,ho7,hb7⟩;have HO7:=Lh ho7;have HB7:Hid (Below wb.heap.size wb w7):=Lh (HB6.out.trans (hb7.mono HB6.out.size));have HZ6:=Lh HB6.out.size;clear ho7 hb7 x0 x1 x2 x3 x4)|fail)
      go_roundw
      case rel=>exact⟨k+1,sl++[⟨s.entry,y,f,u,g⟩],by go_num,by omega,by omega,Lh (by have:=HO7.out;rw[saddE_zero HER.out] at this;exact this.re HZ6.out),Lh (by have:=HLE6.out;rw[qA,List.length_singleton];omega),Lh (fun q hq=>by
       rcases List.mem_append.1 hq with h1|h1
       ·exact HOK.out q h1
       ·rw[List.mem_singleton] at h1
        subst h1
        exact HQ.out),HB7⟩
      case measure=>(first|(simp[intOf];done)|(simp[intOf];omega))
     ·have he2:(er==0)=false:=beq_eq_false_iff_ne.2 he
      go_wp2_with (first|(go_at_call 95;refine HAD.out.mono ?_;rintro r w7 ⟨v7,rfl,ho7,hb7⟩;have HO7:=Lh (HO6.out.below hb7);have HB7:Hid (Below wb.heap.size wb w7):=Lh (HB6.out.trans (hb7.mono HB6.out.size));clear ho7 hb7 x0 x1 x2 x3 x4)|fail)
      go_roundw;(case rel=>exact⟨k+1,sl,by go_num,by omega,by omega,HO7,Lh (by have:=HLE6.out;omega),HOK,HB7⟩);case measure=>(first|(simp[intOf];done)|(simp[intOf];omega))
   ·rw[decide_eq_false hlt];go_wp2_with fail;go_ret;exact⟨_,sl,rfl,HO.out.re HBA.out.size,by have:=HLE.out;omega,HOK.out,HBA.out.trans (HB.out.mono HBA.out.size)⟩
theorem GBk.good {m h:Int}{l:List SectP}(H:GBk m h l):GoodB m h l:=chkE_good H.noerr
theorem GoodB.sgood {m h:Int}{l:List SectP}(H:GoodB m h l):∀s∈l,SGood s:=fun s hs=>by
 have g:=H.s s hs;exact⟨g.e,by have:=g.n;omega,by have:=g.lim;omega,g.r⟩
def grpI (n:Int):Int:=if aro n 17=16 then 65535 else aro n 17
set_option maxRecDepth 100000 in
theorem lmade_any (A0:Option Addr)(c0:Nat)(l0:List Int)(A1:Option Addr)(c1:Nat)(l1:List Int)(x:Int)(w:World)(h0:Sl w (fun b=>b<w.heap.size) A0 c0 l0)(h1:Sl w (fun b=>b<w.heap.size) A1 c1 l1)(hx:I64 x):
 Calls Tryz.prog 13 #[.slice A0 l0.length c0,.slice A1 l1.length c1,.int .i64 x] w fun r W'=>∃m h Ab cb ss As cs sl,r=.returned (.tuple #[.agg #[.int .i64 m,.int .i64 h,.slice Ab ss.length cb],.slice As sl.length cs,.int .i64 (grpI x)])∧GBk m h ss∧Sl W' (fun b=>w.heap.size≤b∧b<W'.heap.size) Ab cb ss∧Sl W' (fun b=>b<W'.heap.size) As cs sl∧sl.length≤6∧SlOk sl∧Below w.heap.size w W':=by
 obtain⟨n0,hn0⟩:∃n,l0.length=n:=⟨_,rfl⟩;obtain⟨n1,hn1⟩:∃n,l1.length=n:=⟨_,rfl⟩;obtain⟨wb,hwb⟩:∃wb,w.alloc (.cells #[.int .i64 0,.int .i64 0,.slice none 0 0] 25)=wb:=⟨_,rfl⟩;have hba:Below w.heap.size w wb:=by rw[←hwb];exact bR.alloc nL _
 have hx0:ABox wb w.heap.size 25 [.int .i64 0,.int .i64 0,.slice none 0 0]:=by rw[←hwb];exact heap_alloc_new w _
 have HBK:=Lh (gbook_any A0 c0 l0 wb (h0.to hba));have HI1:=Lh (h1.to hba);have HIX:=Lh hx;have HBA:=Lh hba;have HX0:=Lh hx0;have HN1:=Lh hn1;rw[hn0] at HBK ⊢;rw[hn1];clear h0 h1 hx hba hx0 hn0 hn1;go_enter Tryz.func13,Tryz.ntmps13;go_upto_region 1 with(fail);(try rw[hwb]);clear hwb
 go_upto_region 2 with(first|(go_at_call 45;refine HBK.out.mono ?_;rintro e V1 ⟨m,h,Ab1,cb1,ss,rfl,hg,hs,hb⟩;have HG:=Lh hg;have HB1:=Lh hb;have HS1:=Lh hs;clear hg hs hb)|fail)
 obtain⟨W2,hW⟩:∃W2,V1.alloc (.cells #[.int .i64 m,.int .i64 h,.slice Ab1 ss.length cb1] 25)=W2:=⟨_,rfl⟩;obtain⟨b1,hbk⟩:∃b1,V1.heap.size=b1:=⟨_,rfl⟩;have hb2:Below V1.heap.size V1 W2:=by rw[←hW];exact bR.alloc nL _
 have HX2:Hid (ABox W2 b1 25 [.int .i64 m,.int .i64 h,.slice Ab1 ss.length cb1]):=Lh (by rw[←hW,←hbk];exact heap_alloc_new V1 _);have HB2:Hid (Below wb.heap.size wb W2):=Lh (HB1.out.trans (hb2.mono HB1.out.size));have HS2:Hid (Sl W2 (fun b=>wb.heap.size≤b∧b<W2.heap.size) Ab1 cb1 ss):=Lh ((HS1.out.keep (fun i hi hl=>hb2.block i hl) hb2.size).mono (fun i hi hl=>⟨hi.1,hl⟩));have HNB:Hid (b1≠w.heap.size):=Lh (by rw[←hbk];have:=HB1.out.size;have:=HX0.out.lt;omega);rw[hW,hbk];clear hW hbk hb2 HS1 HB1
 go_upto_if 16 with(first|(go_at_call 39;refine(around_any x 17 W2 HIX.out (by decide) (by decide)).mono ?_;rintro e Wz ⟨rfl,rfl⟩)|fail)
 obtain⟨z,hz⟩:∃z,aro x 17=z:=⟨_,rfl⟩;have HZ:Hid (grpI x=if z=16 then 65535 else z):=Lh (by unfold grpI;rw[hz]);rw[hz];clear hz;go_cut [10] from 15 to 16 (fun v wx=>v=.int .i64 (grpI x)∧wx=W2);case first=>
  by_cases h16:z=16
  ·have h17:(z==16)=true:=beq_iff_eq.2 h16;go_wp2_with fail;go_meet;exact⟨by rw[HZ.out,if_pos h16],rfl⟩
  ·have h17:(z==16)=false:=beq_eq_false_iff_ne.2 h16;go_wp2_with fail;go_meet;exact⟨by rw[HZ.out,if_neg h16],rfl⟩
 case rest=>
  obtain⟨rfl,rfl⟩:=hcut;obtain⟨W2,hwr⟩:∃q:World,q=wc:=⟨_,rfl⟩;subst hwr;have HSE:=Lh (fun(W:World) (hW:Below W2.heap.size W2 W)=>rseals_any A1 c1 l1 m h Ab1 cb1 ss W (HI1.out.to (HB2.out.trans (hW.mono HB2.out.size))) (((HS2.out.keep (fun i hi hl=>hW.block i hl) hW.size).mono (fun i hi hl=>hl))) HG.out.good.sgood (by have:=HG.out.n;omega));rw[HN1.out] at HSE;go_upto_region 5 with(fail);refine QaJ (fun W=>W.cell? ⟨b1,0,none⟩=some (.int .i64 m)∧W.cell? ⟨b1,1,none⟩=some (.int .i64 h)∧W.cell? ⟨b1,2,none⟩=some (.slice Ab1 ss.length cb1)) (fun _=>true) (by kernel_rfl) ?_;obtain⟨V0,hV0⟩:∃V0,W2.drew=V0:=⟨_,rfl⟩;have hbd:Below W2.heap.size W2 V0:=(by rw[←hV0];exact bR.drew);have HB0:=Lh hbd;rw[hV0];clear hV0 hbd;have hS0:V0.cell? ⟨b1,0,none⟩=some (.int .i64 m)∧V0.cell? ⟨b1,1,none⟩=some (.int .i64 h)∧V0.cell? ⟨b1,2,none⟩=some (.slice Ab1 ss.length cb1):=⟨(HX2.out.to HB0.out).cell 0 rfl,(HX2.out.to HB0.out).cell 1 rfl,(HX2.out.to HB0.out).cell 2 rfl⟩;refine tE 0 ⟨some 17,Op.load 25 (.tmp 9),25,_,_,_⟩ ?_ rfl ?zq0 (hS0) ?zq1;(case zq0=>intro wS hSw;have q0:=hSw.1;have q1:=hSw.2.1;have q2:=hSw.2.2;clear hSw;go_simp;(try with_reducible rfl));(all_goals try go_frame);refine tE 1 ⟨some 18,Op.move (.tmp 1),22,_,_,_⟩ ?_ rfl ?zq2 (hS0) ?zq3;(case zq2=>intro _ s;clear s;go_simp;(try with_reducible rfl));(all_goals try go_frame);refine tE 2 ⟨some 19,Op.load 25 (.tmp 9),25,_,_,_⟩ ?_ rfl ?zq4 (hS0) ?zq5;(case zq4=>intro wS hSw;have q0:=hSw.1;have q1:=hSw.2.1;have q2:=hSw.2.2;clear hSw;go_simp;(try with_reducible rfl));(all_goals try go_frame);refine tE 4 ⟨some 21,Op.move (.tmp 10),3,_,_,_⟩ ?_ rfl ?zq6 (hS0) ?zq7;(case zq6=>intro _ s;clear s;go_simp;(try with_reducible rfl));(all_goals try go_frame);refine QbS (i:=3) (oi:=_) rfl (by kernel_rfl) (by rfl) (fun K hK=>?_);go_simp;go_at_call 46;refine(HSE.out V0 HB0.out).mono ?_;rintro e V3 ⟨v1,sl,rfl,ho,hle,hok,hb1⟩;obtain⟨As,cs,rfl,hs⟩:=ho.sl
  have HSLS:Hid (Sl V3 (fun b=>b≠w.heap.size) As cs sl):=Lh (by
   obtain⟨A,c,e1,h1,-⟩:=ho.form
   cases e1
   refine⟨hs.1,hs.2.1,fun hn=>?_⟩
   obtain⟨bb,oo,hA,-,hlt,hx⟩:=hs.2.2 hn
   exact⟨bb,oo,hA,by have h2:V0.heap.size≤bb:=(h1 _ hA).1;have h3:=HB0.out.size;have h4:=HB2.out.size;have h5:=HX0.out.lt;show bb≠w.heap.size;omega,hlt,fun i hi=>hx i hi⟩)
  have HLE:=Lh hle;have HOK:=Lh hok;have HB3:=Lh (HB0.out.trans (hb1.mono HB0.out.size));have hS3:V3.cell? ⟨b1,0,none⟩=some (.int .i64 m)∧V3.cell? ⟨b1,1,none⟩=some (.int .i64 h)∧V3.cell? ⟨b1,2,none⟩=some (.slice Ab1 ss.length cb1):=⟨(HX2.out.to HB3.out).cell 0 rfl,(HX2.out.to HB3.out).cell 1 rfl,(HX2.out.to HB3.out).cell 2 rfl⟩;clear ho hle hok hb1 hs;go_simp;refine hK _ _ (fun _=>?_) ?_
  ·exact hS3
  clear hK K;(try go_frame);have HXw:=Lh (HX0.out.to (HB2.out.trans (HB3.out.mono HB2.out.size)));refine QbS (i:=5) (oi:=_) rfl (by kernel_rfl) (by rfl) (fun K hK=>?_);have r0:=HXw.out.cell 0 rfl;have r1:=HXw.out.cell 1 rfl;have r2:=HXw.out.cell 2 rfl;have f0:=HXw.out.fz 0;have f1:=HXw.out.fz 1;have f2:=HXw.out.fz 2;have hS4:(((V3.setCell ⟨w.heap.size,0,none⟩ (.int .i64 m)).setCell ⟨w.heap.size,1,none⟩ (.int .i64 h)).setCell ⟨w.heap.size,2,none⟩ (.slice Ab1 ss.length cb1)).cell? ⟨b1,0,none⟩=some (.int .i64 m)∧(((V3.setCell ⟨w.heap.size,0,none⟩ (.int .i64 m)).setCell ⟨w.heap.size,1,none⟩ (.int .i64 h)).setCell ⟨w.heap.size,2,none⟩ (.slice Ab1 ss.length cb1)).cell? ⟨b1,1,none⟩=some (.int .i64 h)∧(((V3.setCell ⟨w.heap.size,0,none⟩ (.int .i64 m)).setCell ⟨w.heap.size,1,none⟩ (.int .i64 h)).setCell ⟨w.heap.size,2,none⟩ (.slice Ab1 ss.length cb1)).cell? ⟨b1,2,none⟩=some (.slice Ab1 ss.length cb1):=by
   have e4:∀q,(((V3.setCell ⟨w.heap.size,0,none⟩ (.int .i64 m)).setCell ⟨w.heap.size,1,none⟩ (.int .i64 h)).setCell ⟨w.heap.size,2,none⟩ (.slice Ab1 ss.length cb1)).cell? ⟨b1,q,none⟩=V3.cell? ⟨b1,q,none⟩:=fun q=>by
    unfold World.cell?;rw[Qaa _ _ _ _ HNB.out,Qaa _ _ _ _ HNB.out,Qaa _ _ _ _ HNB.out]
   exact⟨(e4 0).trans hS3.1,(e4 1).trans hS3.2.1,(e4 2).trans hS3.2.2⟩
  go_simp;refine hK _ _ (fun _=>?_) ?_
  ·exact hS4
  clear hK K;clear r0 r1 r2 f0 f1 f2;have hoth:∀i,i≠w.heap.size→(((V3.setCell ⟨w.heap.size,0,none⟩ (.int .i64 m)).setCell ⟨w.heap.size,1,none⟩ (.int .i64 h)).setCell ⟨w.heap.size,2,none⟩ (.slice Ab1 ss.length cb1)).heap[i]? =V3.heap[i]? :=fun i hi=>by rw[Qaa _ _ _ _ hi,Qaa _ _ _ _ hi,Qaa _ _ _ _ hi]
  have hzz:(((V3.setCell ⟨w.heap.size,0,none⟩ (.int .i64 m)).setCell ⟨w.heap.size,1,none⟩ (.int .i64 h)).setCell ⟨w.heap.size,2,none⟩ (.slice Ab1 ss.length cb1)).heap.size=V3.heap.size:=(by simp);have HXF:=Lh (((HXw.out.set 0 (.int .i64 m)).set 1 (.int .i64 h)).set 2 (.slice Ab1 ss.length cb1));have HSF:Hid (Sl (((V3.setCell ⟨w.heap.size,0,none⟩ (.int .i64 m)).setCell ⟨w.heap.size,1,none⟩ (.int .i64 h)).setCell ⟨w.heap.size,2,none⟩ (.slice Ab1 ss.length cb1)) (fun b=>b<(((V3.setCell ⟨w.heap.size,0,none⟩ (.int .i64 m)).setCell ⟨w.heap.size,1,none⟩ (.int .i64 h)).setCell ⟨w.heap.size,2,none⟩ (.slice Ab1 ss.length cb1)).heap.size) As cs sl):=Lh ((HSLS.out.keep (fun i hi _=>hoth i hi) (by rw[hzz];exact Nat.le_refl _)).mono (fun i _ hl=>hl));have HBF:Hid (Sl (((V3.setCell ⟨w.heap.size,0,none⟩ (.int .i64 m)).setCell ⟨w.heap.size,1,none⟩ (.int .i64 h)).setCell ⟨w.heap.size,2,none⟩ (.slice Ab1 ss.length cb1)) (fun b=>w.heap.size≤b∧b<(((V3.setCell ⟨w.heap.size,0,none⟩ (.int .i64 m)).setCell ⟨w.heap.size,1,none⟩ (.int .i64 h)).setCell ⟨w.heap.size,2,none⟩ (.slice Ab1 ss.length cb1)).heap.size) Ab1 cb1 ss):=Lh ((HS2.out.keep (fun i hi hl=>(hoth i (by have:=hi.1;have:=HX0.out.lt;omega)).trans (HB3.out.block i hl)) (by rw[hzz];exact HB3.out.size)).mono (fun i hi hl=>⟨by have:=hi.1;have:=HBA.out.size;omega,hl⟩));have hbelow:Below w.heap.size w (((V3.setCell ⟨w.heap.size,0,none⟩ (.int .i64 m)).setCell ⟨w.heap.size,1,none⟩ (.int .i64 h)).setCell ⟨w.heap.size,2,none⟩ (.slice Ab1 ss.length cb1)):=(((HBA.out.trans ((HB2.out.trans (HB3.out.mono HB2.out.size)).mono HBA.out.size)).setCell (p:=⟨w.heap.size,0,none⟩) nL _).setCell (p:=⟨w.heap.size,1,none⟩) nL _).setCell (p:=⟨w.heap.size,2,none⟩) nL _;have HBW:=Lh hbelow;(try go_frame);obtain⟨w4,hw4⟩:∃w4,((V3.setCell ⟨w.heap.size,0,none⟩ (.int .i64 m)).setCell ⟨w.heap.size,1,none⟩ (.int .i64 h)).setCell ⟨w.heap.size,2,none⟩ (.slice Ab1 ss.length cb1)=w4:=⟨_,rfl⟩;rw[hw4];rw[hw4] at HXF HSF HBF HBW hS4;clear hw4 hoth hzz hbelow;refine QbS (i:=6) (oi:=_) rfl (by kernel_rfl) (by rfl) (fun K hK=>?_);go_simp;refine hK _ _ (fun _=>?_) ?_
  ·exact hS4
  clear hK K;(try go_frame);refine QbS (i:=7) (oi:=_) rfl (by kernel_rfl) (by rfl) (fun K hK=>?_);go_simp;refine hK _ _ (fun _=>?_) ?_
  ·exact hS4
  clear hK K;(try go_frame);refine QaC (by kernel_rfl) ?_ _;unfold Exit.then;go_wp2_with fail;refine bodyPost_ret (v:=.tuple #[.agg #[.int .i64 m,.int .i64 h,.slice Ab1 ss.length cb1],.slice As sl.length cs,.int .i64 (grpI x)]) (Qdq Tryz.results13 _ _ w.heap.size _ #[.int .i64 m,.int .i64 h,.slice Ab1 ss.length cb1] (0,0) _ rfl HXF.out Tryz.underlying25 rfl (by kernel_rfl)) rfl ⟨m,h,Ab1,cb1,ss,As,cs,sl,rfl,HG.out,HBF.out,HSF.out,HLE.out,HOK.out,HBW.out⟩
def lw (s:List UInt8):Word:=⟨⟨s.toArray⟩,⟨#[]⟩,0,0⟩
def lxW:List Word:=[lw [111,110,101],lw [116,119,111],lw [116,104,114,101,101],lw [102,111,117,114]]
def lxT:TextP:=⟨[lxW],[]⟩
def lx:List SectP:=[⟨5,false,[7],[lxT]⟩]
def lxL:LineP:=⟨0,4,[6,6,6],[]⟩
def lxP:PageP:=⟨1,0,5,7,[lxL],[]⟩
def lxS:List Seal:=[⟨5,7,1,3,3⟩]
def lxM:List Seal:=[⟨5,7,1,3,3⟩,⟨5,7,2,3,2⟩]
theorem lx_chk:chkE 500 10 lx=0:=by decide +kernel
theorem lx_good:GoodB 500 10 lx:=chkE_good lx_chk
theorem Qdx:Qak 500 10 lx=[lxP]:=by decide +kernel
theorem lx_wrong:Qbj 500 10 [lxW] []=0:=by decide +kernel
theorem lx_ok:(QbB []∧WfS [])∧QbB lx∧WfS lx:=by decide +kernel
theorem lx_find:Qbk [] 5= -1:=by decide +kernel
theorem lx_len:(Qak 500 10 lx).length≤100:=by decide +kernel
theorem lx_box:box (Qat ⟨#[116,119,111]⟩)=⟨#[91,50,54,93]⟩∧box (Qat ⟨#[116,104,114,101,101]⟩)=⟨#[91,51,54,93]⟩:=by decide +kernel
theorem lx_sheet:QcP lxS lxP lxW=⟨⟨#[49]⟩,[⟨#[111,110,101,32,91,50,54,93,32,91,51,54,93,32,102,111,117,114]⟩],[]⟩:=by
 have h1:labS lxP=⟨#[49]⟩:=by decide +kernel
 have h2:lxP.body.map (Qbu lxS 0 lxP.entry lxP.ver lxW)=[⟨#[111,110,101,32,91,50,54,93,32,91,51,54,93,32,102,111,117,114]⟩]:=by decide +kernel
 unfold QcP;rw[h1,h2];rfl
theorem lx_text:Qbi lx lxP=lxT:=rfl
theorem lx_words:Qa0 lxT=lxW:=rfl
theorem lx_sheets:QdS 500 10 lx lxS=[⟨⟨#[49]⟩,[⟨#[111,110,101,32,91,50,54,93,32,91,51,54,93,32,102,111,117,114]⟩],[]⟩]:=by
 unfold QdS;rw[Qdx,List.map_cons,List.map_nil,lx_text,lx_words,lx_sheet]
theorem lx_mark:QbV lxS 8 2 lxP lxW=[⟨2,1,0,1,⟨#[116,119,111,32,116,104,114,101,101]⟩⟩]∧QbV lxS 4 2 lxP lxW=[]:=by decide +kernel
theorem lx_annex:QaK 500 10 lx lxS 8 2=[⟨2,1,0,1,⟨#[116,119,111,32,116,104,114,101,101]⟩⟩]:=by
 unfold QaK QaO;rw[Qdx,List.flatMap_cons,List.flatMap_nil,lx_text,lx_words,lx_mark.1];rfl
theorem lx_annex0:QaK 500 10 lx lxS 4 2=[]:=by
 unfold QaK QaO;rw[Qdx,List.flatMap_cons,List.flatMap_nil,lx_text,lx_words,lx_mark.2];rfl
theorem lx_line:QaT (QaN lxM 8 5 7 lxW 0 4)=⟨#[111,110,101,32,116,119,111,32,91,51,54,93,32,102,111,117,114]⟩:=by decide +kernel
theorem lx_sl {w:World}{b0 b1:Nat}(h0:ABox w b0 66 [.string ⟨#[111,110,101]⟩,.string ⟨#[]⟩,.int .i64 0,.int .i64 0,.string ⟨#[116,119,111]⟩,.string ⟨#[]⟩,.int .i64 0,.int .i64 0,.string ⟨#[116,104,114,101,101]⟩,.string ⟨#[]⟩,.int .i64 0,.int .i64 0,.string ⟨#[102,111,117,114]⟩,.string ⟨#[]⟩,.int .i64 0,.int .i64 0]) (h1:ABox w b1 110 [.slice (some ⟨b0,0,none⟩) 4 4]):Sl w (fun b=>b<w.heap.size) (some ⟨b1,0,none⟩) 1 [lxW]:=by
 have hok:∀x∈lxW,x.ok:=by
  intro x hx;simp only[lxW,List.mem_cons,List.not_mem_nil,or_false] at hx;rcases hx with rfl|rfl|rfl|rfl<;>(refine⟨?_,?_,?_,?_⟩<;>first|decide|exact⟨by decide,by decide⟩)
 refine Sl.block (l:=[lxW]) h1 h1.lt (by simp[maxLen]) (fun i hi=>?_);obtain rfl:i=0:=by simpa using hi
 refine⟨some ⟨b0,0,none⟩,4,rfl,?_,show 4<9223372036854775808 by decide⟩;refine Sl.block (l:=lxW) h0 h0.lt (by decide) (fun i hi=>?_);have h4:i=0∨i=1∨i=2∨i=3:=by have:i<4:=hi;omega
 rcases h4 with rfl|rfl|rfl|rfl<;>exact⟨rfl,hok _ (List.getElem_mem hi)⟩
section
variable {P:Program} {ops:Array Oper} {md:Region.Mode} {C:World→Prop} {m:Nat}
end
def LastI (op:Bool)(la at_:Int):Prop:= -2≤la∧if op=true then la=at_-1 else la<at_-1
theorem mark_rep {w:World}{S:Nat→Prop}(x:MarkP):Rep.R w S [.int .i64 x.br,.int .i64 x.num,.int .i64 x.suf,.int .i64 x.line,.string x.words] x:=rfl
set_option maxRecDepth 100000 in
theorem QdX {m h:Int}{A:Option Addr}{c:Nat}{l:List SectP}(br gs:Int)(As:Option Addr)(cs ns:Nat)(sl:List Seal){w:World}(H:BookOk w m h A c l)(hT:Tabs w)(heq:∀s∈l,s.texts.length=s.vers.length) (hP:∀p∈Qak m h l,PgV l p) (hps:(Qak m h l).length≤1048576) (hN:(QaK m h l sl gs br).length≤400000000000) (hsl:Sl w (fun b=>b<w.heap.size) As cs sl) (hn:sl.length=ns) (hsz:ns≤1048576) (hg:∀s∈sl,0≤s.g∧s.g<16):
 Calls Tryz.prog 22 #[.agg #[.int .i64 m,.int .i64 h,.slice A l.length c],.int .i64 br,.slice As ns cs,.int .i64 gs] w fun r W'=>∃v,r=.returned v∧Own W' w.heap.size 61 v (QaK m h l sl gs br)∧Below w.heap.size w W':=by
 have hb0:=(Below.refl w.heap.size w).alloc nL (.cells #[.int .i64 m,.int .i64 h,.slice A l.length c] 25);have hx0:ABox (w.alloc (.cells #[.int .i64 m,.int .i64 h,.slice A l.length c] 25)) w.heap.size 25 [.int .i64 m,.int .i64 h,.slice A l.length c]:=heap_alloc_new w _;have hPg:=QcO (H.to hb0);have HTX:=Lh (fun(W:World) (hW:Below w.heap.size w W) (p:PageP)=>textAt_any (m:=m) (h:=h) (w:=W) (H.s.to hW) H.sh heq p.entry p.ver);have HSL:=Lh (fun(W:World) (hW:Below w.heap.size w W)=>hsl.to hW);have HTB:=Lh (fun(W:World) (hW:Below w.heap.size w W)=>hT.to hW);have HPV:=Lh hP;have HNS:=Lh hn;have HSZ:=Lh hsz;have HG:=Lh hg;have HLL:=Lh hps;have HAN:=Lh hN;go_enter Tryz.func22,Tryz.ntmps22;go_upto_region 1 with(fail);generalize w.alloc (.cells #[.int .i64 m,.int .i64 h,.slice A l.length c] 25)=w0 at*;have x0:=hx0.cell 0 rfl;have x1:=hx0.cell 1 rfl;have x2:=hx0.cell 2 rfl;have HB0:=Lh hb0;have HX0:=Lh hx0;have HP:=Lh hPg;clear hb0 hx0 hPg hT hsl hn hsz hg hP hps heq H hN
 go_upto_region 3 with(first|(go_at_call 26;refine HP.out.mono ?_;rintro e w1 ⟨v,R,rfl,ho,hR,hb1⟩;obtain⟨A2,c2,rfl,hs⟩:=ho.plain.sl;have hnc:=hs.1;have hnc2:c2≤9223372036854775807:=hs.2.1;have hn2:=HLL.out;have HS:=Lh hs;have HX1:=Lh (HX0.out.to hb1);have HB1:=Lh (HB0.out.trans (hb1.mono HB0.out.size));clear hb1 x0 x1 x2 hR ho hs)|fail)
 unfold QaK at HAN;obtain⟨ps,hps⟩:∃ps,Qak m h l=ps:=⟨_,rfl⟩;have HPS:=Lh hps;rw[hps] at HS HPV HLL HAN hnc hn2 ⊢;clear HP;obtain⟨n,hn⟩:∃n,ps.length=n:=⟨_,rfl⟩;have HN:=Lh hn;rw[hn] at hnc hn2 ⊢;clear hn hps;go_wp2_with fail;go_loopw [9,22] (fun v i wr=>∃k:Nat,k≤n∧i=.int .i64 k∧Hid (Own wr w1.heap.size 61 v (QaO l sl gs br (ps.take k)))∧Below w1.heap.size w1 wr) (fun _ i _=>n-(intOf i).toNat);(case atStart=>exact⟨0,by omega,rfl,Lh (Own.nil _ _ _),Below.refl _ _⟩);case round=>
  obtain⟨k,hk,rfl,HO,hb⟩:=hrel;have HB:=Lh hb;have HBW:Hid (Below w.heap.size w wr):=Lh (HB1.out.trans (hb.mono HB1.out.size));by_cases hlt:k<n
  ·have hkl:k<ps.length:=by rw[HN.out];exact hlt
   have HTK:=Lh (Qcz l sl gs br hkl);have HANk:Hid ((QaO l sl gs br (ps.take k)).length+(QbV sl gs br ps[k] (Qa0 (Qbi l ps[k]))).length≤400000000000):=Lh (annexB_le l sl gs br hkl HAN.out);obtain⟨b,o,va,vb,rfl,-,hblt,p0,p1,p2,p3,p4,p5,ra,rb⟩:=Qc3 (HS.out.keep (Kept.all hb) hb.size) hkl;have hy:=HPV.out _ (List.getElem_mem hkl);obtain⟨Ap,cp,e1,hbo,-⟩:=ra;obtain⟨Aq,cq,e2,hno,-⟩:=rb;obtain rfl:va=.slice Ap ps[k].body.length cp:=by simpa using e1
   obtain rfl:vb=.slice Aq ps[k].notes.length cq:=by simpa using e2
   obtain⟨p,hp⟩:∃p,ps[k]=p:=⟨_,rfl⟩;rw[hp] at p0 p1 p2 p3 p4 p5 hbo hno hy HTK HANk;have HY:=Lh hy;have HBO:=Lh hbo;have HNO:=Lh hno;obtain⟨num,suf,en,ve,body,notes⟩:=p;dsimp only at p0 p1 p2 p3 p4 p5 HBO HNO;obtain⟨a,rfl⟩:=Int.eq_ofNat_of_zero_le (show 0≤num by have:=HY.out.num.1;dsimp only at this;omega);obtain⟨z,rfl⟩:=Int.eq_ofNat_of_zero_le (show 0≤suf from HY.out.suf.1);have hki:(k:Int)<n:=(by omega);obtain⟨L,hL⟩:∃L,QaO l sl gs br (ps.take k)=L:=⟨_,rfl⟩;rw[hL] at HO HTK HANk;clear hy hbo hno hb e1 e2 hp hL;go_upto_region 5 with(fail);obtain⟨X1,hX1⟩:∃q,wr.heap.size=q:=⟨_,rfl⟩;obtain⟨w2,hw2⟩:∃q,wr.alloc (.cells #[.int .i64 a,.int .i64 z,.int .i64 en,.int .i64 ve,.slice Ap body.length cp,.slice Aq notes.length cq] 43)=q:=⟨_,rfl⟩;have hb2:Below wr.heap.size wr w2:=by rw[←hw2];exact bR.alloc nL _
   have hx1:ABox w2 X1 43 [.int .i64 a,.int .i64 z,.int .i64 en,.int .i64 ve,.slice Ap body.length cp,.slice Aq notes.length cq]:=(by rw[←hw2,←hX1];exact heap_alloc_new wr _);rw[hw2,hX1];have HXP:=Lh hx1;have HB2:=Lh hb2;have HBW2:Hid (Below w.heap.size w w2):=Lh (HBW.out.trans (hb2.mono HBW.out.size));have HXB:Hid (ABox w2 w.heap.size 25 [.int .i64 m,.int .i64 h,.slice A l.length c]):=Lh ((HX1.out.to HB.out).to hb2);have b0:=HXB.out.cell 0 rfl;have b1:=HXB.out.cell 1 rfl;have b2:=HXB.out.cell 2 rfl;have q2:=hx1.cell 2 rfl;have q3:=hx1.cell 3 rfl;have HX1w:Hid (wr.heap.size≤X1):=Lh (Nat.le_of_eq hX1);clear hX1 hw2 hb2 hx1 p0 p1 p2 p3 p4 p5
   go_upto_region 6 with(first|(go_at_call 27;refine(HTX.out w2 HBW2.out ⟨a,z,en,ve,body,notes⟩).mono ?_;rintro e w3 ⟨⟨Aa,ca,Ab,cb,rfl,hta,htb⟩,hb3⟩;have HTA:=Lh hta;have HTB2:=Lh htb;have HB3:=Lh hb3;clear hta htb hb3 b0 b1 b2 q2 q3)|fail)
   obtain⟨tx,htx⟩:∃t,Qbi l ⟨a,z,en,ve,body,notes⟩=t:=⟨_,rfl⟩;have HTX9:=Lh htx;have htx':(hasT l en ve).getD ⟨[],[]⟩=tx:=htx;have HY2:=HY;rw[htx'] at HTA HTB2 ⊢;obtain⟨X2,hX2⟩:∃q,w3.heap.size=q:=⟨_,rfl⟩;obtain⟨w4,hw4⟩:∃q,w3.alloc (.cells #[.slice Aa tx.a.length ca,.slice Ab tx.b.length cb] 36)=q:=⟨_,rfl⟩;have hb4:Below w3.heap.size w3 w4:=(by rw[←hw4];exact bR.alloc nL _);have hx2:ABox w4 X2 36 [.slice Aa tx.a.length ca,.slice Ab tx.b.length cb]:=(by rw[←hw4,←hX2];exact heap_alloc_new w3 _);rw[hw4,hX2];have hb24:Below w2.heap.size w2 w4:=HB3.out.trans (hb4.mono HB3.out.size);have HBr4:Hid (Below wr.heap.size wr w4):=Lh (HB2.out.trans (hb24.mono HB2.out.size));have HB14:Hid (Below w1.heap.size w1 w4):=Lh (HB.out.trans (HBr4.out.mono HB.out.size));have HBW4:Hid (Below w.heap.size w w4):=Lh (HBW.out.trans (HBr4.out.mono HBW.out.size));have hxp:=HXP.out.to hb24;have p0:=hxp.cell 0 rfl;have p1:=hxp.cell 1 rfl;have p2:=hxp.cell 2 rfl;have p3:=hxp.cell 3 rfl;have p4:=hxp.cell 4 rfl;have p5:=hxp.cell 5 rfl;have t0:=hx2.cell 0 rfl;have t1:=hx2.cell 1 rfl;have hsb:∀{α:Type} [Rep α] {S:Nat→Prop} {A:Option Addr} {c:Nat} {l:List α},Sl w3 (fun b=>b<w3.heap.size) A c l→Sl w4 (fun b=>b<w4.heap.size) A c l:=fun h=>h.to hb4
   have HWD:=Lh (fun(W:World) (hW:Below w4.heap.size w4 W)=>vwords_any Aa Ab ca cb tx.a tx.b W ((HTA.out.to hb4).to hW) ((HTB2.out.to hb4).to hW) (by have:=HY.out.la;rw[htx] at this;exact this) (by have:=HY.out.lb;rw[htx] at this;exact this) (by have:=HY.out.tt;rw[htx] at this;exact this));have HTT:=Lh (show tot (tx.a++tx.b)≤1048576 by have:=HY.out.tt;rw[htx] at this;exact this);have HWS:=Lh (show ∀y∈Qa0 tx,y.s.size≤1000 by have:=HY.out.ws;rw[htx] at this;exact this);have HIN:=Lh (show ∀x∈body++notes,InL (tot (tx.a++tx.b)) x by have:=HY.out.inl;rw[htx] at this;exact this);have HBL:=Lh HY.out.bl;have HNL:=Lh HY.out.nl;dsimp only at HBL HNL;rw[htx] at HTK HANk;have HO4:=Lh (HO.out.below HBr4.out);have HX1p:Hid (ABox w4 X1 43 [.int .i64 a,.int .i64 z,.int .i64 en,.int .i64 ve,.slice Ap body.length cp,.slice Aq notes.length cq]):=Lh hxp;have HX1z:Hid (X1<w4.heap.size):=Lh hxp.lt;have HZ4:Hid (wr.heap.size≤w4.heap.size):=Lh HBr4.out.size;have HBO4:Hid (Sl w4 (fun b=>b<w4.heap.size) Ap cp body):=Lh ((HBO.out.mono (fun _ _ hh=>hh)).to HBr4.out);have HNO4:Hid (Sl w4 (fun b=>b<w4.heap.size) Aq cq notes):=Lh ((HNO.out.mono (fun _ _ hh=>hh)).to HBr4.out);have HVB:=Lh HO.out.lt;clear htx htx' hX2 hw4 hb4 hx2 hb24 hxp hsb p0 p1 p2 p3 p4 p5;have HYN:Hid (en=en):=Lh rfl;obtain⟨Av,cv,rfl,-⟩:=HO4.out.form;obtain⟨P,hP⟩:∃p,(⟨(a:Int),(z:Int),en,ve,body,notes⟩:PageP)=p:=⟨_,rfl⟩;have HPe:Hid (P.entry=en∧P.ver=ve∧P.num=a∧P.suf=z∧P.body=body∧P.notes=notes):=Lh (by rw[←hP];exact⟨rfl,rfl,rfl,rfl,rfl,rfl⟩);rw[hP] at HTK HANk;clear hP;obtain⟨ws,hws⟩:∃q,Qa0 tx=q:=⟨_,rfl⟩;have HWL:Hid (ws.length=tot (tx.a++tx.b)):=Lh (by rw[←hws];exact QcR tx);have hws2:Qa0 ⟨tx.a,tx.b⟩=ws:=hws;rw[hws] at HTK HANk HWS;rw[hws2] at HWD;clear hws hws2
   go_upto_region 7 with(first|(go_at_call 62;refine(HWD.out w4 bR).mono ?_;rintro e w5 ⟨v5,rfl,ho5,hb5⟩;have HO5:=Lh ho5;have HB5:=Lh hb5;clear ho5 hb5 t0 t1)|fail)
   obtain⟨A5,c5,rfl,hs5,hA5,hc5,hc5m⟩:=HO5.out.parts;have HS5:=Lh hs5;have HA5:=Lh hA5;clear hA5 hs5;obtain⟨nw,hnw⟩:∃q,ws.length=q:=⟨_,rfl⟩;have HNW:=Lh hnw;have hnwt:nw≤1048576:=(by rw[←hnw,HWL.out];exact HTT.out);rw[hnw] at hc5 ⊢;clear hnw;have p4:=(HX1p.out.to HB5.out).cell 4 rfl;have p5:=(HX1p.out.to HB5.out).cell 5 rfl;have HX6:Hid (ABox (w5.alloc (.cells #[.slice Ap body.length cp,.slice Aq notes.length cq] 41)) w5.heap.size 41 [.slice Ap body.length cp,.slice Aq notes.length cq]):=Lh (heap_alloc_new w5 _);have HB6:Hid (Below w5.heap.size w5 (w5.alloc (.cells #[.slice Ap body.length cp,.slice Aq notes.length cq] 41))):=Lh (bR.alloc nL _);obtain⟨ls,hls⟩:∃q,body++notes=q:=⟨_,rfl⟩;have HLSE:=Lh hls;have HLSB:Hid (P.body++P.notes=ls):=Lh (by rw[HPe.out.2.2.2.2.1,HPe.out.2.2.2.2.2];exact hls);rw[hls] at HIN;obtain⟨nl,hnl⟩:∃q,ls.length=q:=⟨_,rfl⟩;have HNLS:=Lh hnl;have hnl2:nl≤2097152:=(by rw[←hnl,←hls,qA];have:=HNL.out;have:=HBL.out;omega);clear hls hnl
   go_wp2_with (first|(go_at_call 63;refine(concatL_any w5.heap.size Ap Aq cp cq body notes _ (HX6.out.cell 0 rfl) (HX6.out.cell 1 rfl) ((HBO4.out.to HB5.out).to HB6.out) ((HNO4.out.to HB5.out).to HB6.out) HBL.out HNL.out).mono ?_;rintro e w7 ⟨v7,rfl,ho7,hb7⟩;rw[HLSE.out] at ho7;obtain⟨A7,c7,rfl,hs7,hA7,hc7,hc7m⟩:=(ho7.re HB6.out.size).parts;rw[HNLS.out] at hc7 ⊢;have HS7:=Lh hs7;have HA7:=Lh hA7;have HB7:=Lh (HB6.out.trans (hb7.mono HB6.out.size));clear ho7 hb7 p4 p5 hs7 hA7)|fail)
   have HZ5:Hid (w5.heap.size≤w7.heap.size):=Lh HB7.out.size;have HB47:Hid (Below w4.heap.size w4 w7):=Lh (HB5.out.trans (HB7.out.mono HB5.out.size));have HX7:Hid (ABox w7 X1 43 [.int .i64 a,.int .i64 z,.int .i64 en,.int .i64 ve,.slice Ap body.length cp,.slice Aq notes.length cq]):=Lh (HX1p.out.to HB47.out);have HB17:Hid (Below w1.heap.size w1 w7):=Lh (HB14.out.trans (HB47.out.mono HB14.out.size))
   have HI0:Hid (MkI w1.heap.size w7 (Value.slice Av L.length cv).ownBlock (.slice Av L.length cv) (L++Qax sl gs br P ws 0 (ls.take 0)) w7):=Lh (by
    rw[List.take_zero,Qax,List.append_nil]
    exact MkI.start (HO4.out.below HB47.out))
   have HPL:Hid ((QbV sl gs br P ws)=Qax sl gs br P ws 0 ls):=Lh (by unfold QbV;rw[HLSB.out]);clear HX6 HB6;have HKL:=Lh hlt;obtain⟨wo,rfl⟩:∃wo:World,wo=wr:=⟨_,rfl⟩;go_loopw [9,44] (fun v i wr=>∃j:Nat,j≤nl∧i=.int .i64 j∧Hid (MkI w1.heap.size w7 (Value.slice Av L.length cv).ownBlock v (L++Qax sl gs br P ws 0 (ls.take j)) wr)) (fun _ i _=>nl-(intOf i).toNat);(case atStart=>exact⟨0,by omega,rfl,HI0⟩);case round=>
    clear HI0;obtain⟨j,hj,rfl,HI⟩:=hrel;have HB7q:Hid (Below w1.heap.size w7 wr):=Lh (HI.out.below HB17.out.size (fun i hi=>(HO.out.lt i hi).1));have HB1q:Hid (Below w1.heap.size w1 wr):=Lh (HB17.out.trans HB7q.out);by_cases hjl:j<nl
    ·have hjk:j<ls.length:=by rw[HNLS.out];exact hjl
     obtain⟨bl,ol,Ag,cg,An,cn,hAl,-,hbl,f0,f1,f2,f3,-,-⟩:=Qa7 HS7.out hjk;obtain⟨x,hx⟩:∃x,ls[j]=x:=⟨_,rfl⟩;have hmk:=QdL sl gs br P ws hjk;have hin:=HIN.out _ (List.getElem_mem hjk);rw[hx] at f0 f1 f2 f3 hmk hin;obtain⟨fr,un,gaps,nts⟩:=x;obtain⟨f,rfl⟩:=Int.eq_ofNat_of_zero_le (show 0≤fr from hin.1);obtain⟨U,rfl⟩:=Int.eq_ofNat_of_zero_le (show 0≤un by have h1:(f:Int)<un:=hin.2.1;omega);have hfU:f≤U:=(by have h1:(f:Int)<(U:Int):=hin.2.1;omega);have hUw:U≤nw:=by have h1:(U:Int)≤((tot (tx.a++tx.b):Nat):Int):=hin.2.2;have:=HWL.out;have:=HNW.out;omega
     have hneb:some bl≠(Value.slice Av L.length cv).ownBlock:=fun e=>by
      have h1:=(HA7.out _ hAl).1;have h2:=(HVB.out bl e.symm).2;have h3:=HB5.out.size;have h4:=HZ4.out;dsimp only at h1;omega
     have g0:=HI.out.cell (ol+j*4) hbl hneb f0;have g1:=HI.out.cell (ol+j*4+1) hbl hneb f1;have g2:=HI.out.cell (ol+j*4+2) hbl hneb f2;have g3:=HI.out.cell (ol+j*4+3) hbl hneb f3;dsimp only at g0 g1 g2 g3;obtain⟨X,hXx⟩:∃x:LineP,(⟨(f:Int),(U:Int),gaps,nts⟩:LineP)=x:=⟨_,rfl⟩;have HXF:Hid (0≤X.fr∧X.fr.toNat=f∧X.un.toNat=U):=Lh (by rw[←hXx];exact⟨Int.natCast_nonneg f,Int.toNat_natCast f,Int.toNat_natCast U⟩);rw[hXx] at hmk;have HMK:=Lh hmk;subst hAl;have hjI:(j:Int)<(nl:Int):=by omega
     have hnex:some X1≠(Value.slice Av L.length cv).ownBlock:=fun e=>by
      have h2:=(HVB.out X1 e.symm).2;have:=HX1w.out;omega
     obtain⟨F,hF⟩:∃F,Qax sl gs br P ws 0 (ls.take j)=F:=⟨_,rfl⟩;rw[hF] at HI HMK
     have HFL:Hid ((L++F).length+(Qds sl gs br P ws X j U).length≤400000000000):=Lh (by
      have h1:=HANk.out
      rw[HPL.out] at h1
      have h2:Qax sl gs br P ws 0 ls=Qax sl gs br P ws 0 (ls.take (j+1))++Qax sl gs br P ws (0+(ls.take (j+1)).length) (ls.drop (j+1)):=(by rw[←Qci,List.take_append_drop])
      have h3:=mkTo_end (sl:=sl) (gs:=gs) (br:=br) (p:=P) (ws:=ws) (x:=X) (i:=j) HXF.out.1
      rw[HXF.out.2.2] at h3
      rw[h3]
      rw[h2,qA,HMK.out,qA] at h1
      rw[qA]
      omega)
     clear hF hx hXx hmk hin f0 f1 f2 f3;go_upto_region 10 with(fail);obtain⟨X3,hX3⟩:∃q,wr.heap.size=q:=⟨_,rfl⟩;obtain⟨w8,hw8⟩:∃q,wr.alloc (.cells #[.int .i64 f,.int .i64 U,.slice Ag gaps.length cg,.slice An nts.length cn] 56)=q:=⟨_,rfl⟩;have hb8:Below wr.heap.size wr w8:=(by rw[←hw8];exact bR.alloc nL _);have hx8:ABox w8 X3 56 [.int .i64 f,.int .i64 U,.slice Ag gaps.length cg,.slice An nts.length cn]:=(by rw[←hw8,←hX3];exact heap_alloc_new wr _);rw[hw8,hX3];have HX8:=Lh hx8;have HI8:=Lh (HI.out.to hb8);have HP8:=Lh ((HI.out.box HX7.out hnex).to hb8);have HB18:Hid (Below w1.heap.size w1 w8):=Lh (HB1q.out.trans (hb8.mono HB1q.out.size));have hne3:some X3≠u9.ownBlock:=fun e=>by have:=(HI.out.ow.lt X3 e.symm).2;omega
     have hneX:some X1≠u9.ownBlock:=HI.out.off (by have:=HX1z.out;have:=HB47.out.size;omega) hnex
     have HWC:Hid (∀q (hq:q<ws.length),∃b5 o5,A5=some ⟨b5,o5,none⟩∧some b5≠u9.ownBlock∧b5<w8.heap.size∧w8.cell? ⟨b5,o5+q*4,none⟩=some (.string ws[q].s)):=Lh (fun q hq=>by
      obtain⟨b5,o5,hA,-,hlt,-,h1,-⟩:=Qbs HS5.out hq
      have h2:=(HA5.out _ hA).1
      dsimp only at h2
      have hn5:some b5≠(Value.slice Av L.length cv).ownBlock:=fun e=>by have:=(HVB.out b5 e.symm).2;have:=HZ4.out;omega
      have hl7:b5<w7.heap.size:=(by have:=HZ5.out;omega)
      have h3:w7.cell? ⟨b5,o5+q*4,none⟩=some (.string ws[q].s):=(HB7.out.cell (p:=⟨b5,o5+q*4,none⟩) hlt).trans h1
      have h4:=HI.out.cell (o5+q*4) hl7 hn5 h3
      have hl8:b5<wr.heap.size:=(by have:=HB7q.out.size;omega)
      exact⟨b5,o5,hA,HI.out.off hl7 hn5,by have:=hb8.size;omega,(hb8.cell (p:=⟨b5,o5+q*4,none⟩) hl8).trans h4⟩)
     have HJL:=Lh hjl;have HRO:=Lh (fun r hr=>(HI.out.ow.lt r hr).1);have HZ8:Hid (w1.heap.size≤w8.heap.size):=Lh HB18.out.size;have HF17:=Lh HB17.out.size;clear hX3 hw8 hb8 hx8 g0 g1 g2 g3;have y0:=HX8.out.cell 0 rfl;go_wp2_with fail;obtain⟨wi,rfl⟩:∃wi:World,wi=wr:=⟨_,rfl⟩;obtain⟨vo,rfl⟩:∃vo:Value,vo=u9:=⟨_,rfl⟩;go_loopw [9,17,18] (fun v la nn wz=>∃q:Nat,f≤q∧q≤U∧nn=.int .i64 (q:Int)∧(∃lv,la=.int .i64 lv∧LastI (opTo sl gs P ws X q) lv q)∧Hid (MkI w1.heap.size w8 vo.ownBlock v ((L++F)++Qds sl gs br P ws X j q) wz)) (fun _ _ nn _=>U-(intOf nn).toNat)
     case atStart=>exact⟨f,Nat.le_refl _,hfU,rfl,⟨-2,rfl,by
      have h1:=(mkTo_start (sl:=sl) (gs:=gs) (br:=br) (p:=P) (ws:=ws) (x:=X) (i:=j)).2
      rw[HXF.out.2.1] at h1
      rw[h1]
      exact⟨by omega,by rw[if_neg (by decide)];omega⟩⟩,Lh (by
      have h1:=(mkTo_start (sl:=sl) (gs:=gs) (br:=br) (p:=P) (ws:=ws) (x:=X) (i:=j)).1
      rw[HXF.out.2.1] at h1
      rw[h1,List.append_nil]
      exact MkI.start HI8.out.ow)⟩
     case round=>
      obtain⟨q,hfq,hqU,rfl,⟨lv,rfl,hla⟩,HI3⟩:=hrel;have HB18z:Hid (Below w1.heap.size w8 wr):=Lh (HI3.out.below HZ8.out HRO.out);have HB1z:Hid (Below w1.heap.size w1 wr):=Lh (HB18.out.trans HB18z.out);have HBz:Hid (Below w.heap.size w wr):=Lh (HB1.out.trans (HB1z.out.mono HB1.out.size));have y1:=(HI3.out.box HX8.out hne3).cell 1 rfl;have q2:=(HI3.out.box HP8.out hneX).cell 2 rfl;have q3:=(HI3.out.box HP8.out hneX).cell 3 rfl;have HLA:=Lh hla;clear hla;by_cases hqI:q<U
      ·have hq1:(q:Int)<(U:Int):=by omega
       have hqw:q<ws.length:=(by rw[HNW.out];omega);have hws:=HWS.out _ (List.getElem_mem hqw);have hgd:ws.getD q noW=ws[q]:=(by rw[List.getD_eq_getElem?_getD,qG hqw];rfl);obtain⟨G,hG⟩:∃G,gset (sl.filter (onP en ve (q:Int)))=G:=⟨_,rfl⟩;obtain⟨bm,hbm⟩:∃bm,may G gs=bm:=⟨_,rfl⟩
       have HGR:Hid (∀W,Below w.heap.size w W→Calls Tryz.prog 29 #[.slice As ns cs,.int .i64 en,.int .i64 ve,.int .i64 (q:Int)] W fun r w'=>r=.returned (.int .i64 (G:Int))∧Below W.heap.size W w'):=Lh fun W hW=>by
        have:=groups_any As cs ns sl en ve (q:Int) W (HSL.out W hW) HNS.out HSZ.out HG.out;rwa [hG] at this
       have HMY:Hid (∀W,Below w.heap.size w W→Calls Tryz.prog 30 #[.slice As ns cs,.int .i64 gs,.int .i64 en,.int .i64 ve,.int .i64 (q:Int)] W fun r w'=>r=.returned (.bool bm)∧Below W.heap.size W w'):=Lh fun W hW=>by
        have:=may_any As cs ns sl gs en ve (q:Int) W (HSL.out W hW) HNS.out HSZ.out HG.out;rwa [hG,hbm] at this
       have HTL:Hid (Qdr sl gs P.entry P.ver (q:Int)=(decide (G≠0)&&bm)):=Lh (by rw[HPe.out.1,HPe.out.2.1];unfold Qdr seeB;rw[hG,hbm]);clear hG hbm;have hpos:=HXF.out.1;have hfe:X.fr.toNat≤q:=(by rw[HXF.out.2.1];exact hfq);by_cases h0:G=0
       ·have hG0:((G:Int)==0)=true:=by rw[h0];rfl
        have HT:=Qd0 (sl:=sl) (gs:=gs) (br:=br) (p:=P) (ws:=ws) (x:=X) (i:=j) hpos hfe (by rw[HTL.out,h0];rfl);have HTN:=Lh HT;clear HT hpos hfe hgd hws
        go_wp2_with (first|(go_at_call 29;refine(HGR.out wr HBz.out).mono ?_;rintro e wa ⟨rfl,hb⟩;have HI4:=Lh (HI3.out.to hb);clear hb)|fail)
        go_roundw
        case rel=>exact⟨q+1,by omega,by omega,by go_num,⟨lv,rfl,by
         rw[HTN.out.2]
         refine⟨HLA.out.1,?_⟩
         have:=HLA.out.2
         rw[if_neg (by decide)]
         split at this<;>omega⟩,by rw[HTN.out.1];exact HI4⟩
        case measure=>(first|(simp[intOf];done)|(simp[intOf];omega))
       ·have hG0:((G:Int)==0)=false:=beq_eq_false_iff_ne.2 (by omega);have hd0:decide (G≠0)=true:=decide_eq_true h0;rw[hd0,Bool.true_and] at HTL;clear hd0;cases bm with
        |false=>
         have HT:=Qd0 (sl:=sl) (gs:=gs) (br:=br) (p:=P) (ws:=ws) (x:=X) (i:=j) hpos hfe HTL.out;have HTN:=Lh HT;clear HT hpos hfe hgd hws
         go_wp2_with (first|(go_at_call 29;refine(HGR.out wr HBz.out).mono ?_;rintro e wa ⟨rfl,hb⟩;have HI4:=Lh (HI3.out.to hb);have HBa:=Lh (HBz.out.trans (hb.mono HBz.out.size));have r2:=(HI4.out.box HP8.out hneX).cell 2 rfl;have r3:=(HI4.out.box HP8.out hneX).cell 3 rfl;clear hb q2 q3)|(go_at_call 30;refine(HMY.out wa HBa.out).mono ?_;rintro e wb ⟨rfl,hb⟩;have HI5:=Lh (HI4.out.to hb);clear hb r2 r3)|fail)
         go_roundw
         case rel=>exact⟨q+1,by omega,by omega,by go_num,⟨lv,rfl,by
          rw[HTN.out.2]
          refine⟨HLA.out.1,?_⟩
          have:=HLA.out.2
          rw[if_neg (by decide)]
          split at this<;>omega⟩,by rw[HTN.out.1];exact HI5⟩
         case measure=>(first|(simp[intOf];done)|(simp[intOf];omega))
        |true=>
         obtain⟨b5,o5,hA5,hn5,hl5,hc5w⟩:=HWC.out q hqw;obtain⟨s5,hs5⟩:∃s,ws[q].s=s:=⟨_,rfl⟩;rw[hs5] at hc5w hws;cases hop:opTo sl gs P ws X q with
         |true=>
          obtain⟨C,xm,hC1,hC2,hC3,hC4⟩:=mkTo_more (sl:=sl) (gs:=gs) (br:=br) (p:=P) (ws:=ws) (x:=X) (i:=j) hpos hfe HTL.out hop HWS.out;rw[hgd,hs5] at hC2;have hlv:((lv==(q:Int)-1):Bool)=true:=by
           have:=HLA.out.2;rw[hop,if_pos rfl] at this;exact beq_iff_eq.2 this
          have hs1:s5.size≤1000:=hws;subst hA5;clear hpos hfe hgd hws hop hs5
          go_upto_region 16 with(first|(go_at_call 29;refine(HGR.out wr HBz.out).mono ?_;rintro e wa ⟨rfl,hb⟩;have HI4:=Lh (HI3.out.to hb);have HBa:=Lh (HBz.out.trans (hb.mono HBz.out.size));have r2:=(HI4.out.box HP8.out hneX).cell 2 rfl;have r3:=(HI4.out.box HP8.out hneX).cell 3 rfl;clear hb q2 q3)|(go_at_call 30;refine(HMY.out wa HBa.out).mono ?_;rintro e wb ⟨rfl,hb⟩;have HI5:=Lh (HI4.out.to hb);clear hb r2 r3)|fail)
          have hic:=HI5.out;rw[hC1,←List.append_assoc] at hic;have HIC:=Lh hic;clear hic;have hcw:=HI5.out.cell (o5+q*4) hl5 hn5 hc5w;have hlb:b5<wb.heap.size:=(by have:=HI5.out.ks.size;omega);obtain⟨gb,cG,hv9,hgl,hgc,hgf,hgn,hgx,-⟩:=MkI.set (s:=xm.words++(⟨#[32]⟩++s5)) HIC.out;subst hv9;obtain⟨nm,hnm⟩:∃nq,(L++F++C).length=nq:=⟨_,rfl⟩;have HNM:=Lh hnm;have hnmb:nm≤400000000000:=by
           have h1:=HFL.out;rw[←hnm,qA];have h2:C.length≤(Qds sl gs br P ws X j U).length:=Nat.le_trans (by have:=congrArg List.length hC1;rw[qA] at this;omega) (mkTo_mono (sl:=sl) (gs:=gs) (br:=br) (p:=P) (ws:=ws) (x:=X) (i:=j) HXF.out.1 (by rw[HXF.out.2.1];exact hfq) hqU);omega
          rw[hnm] at hgc hgf hgn ⊢;have HC3:=Lh hC3;have HC2:=Lh hC2;have hws2:xm.words.size≤1100000000:=(by omega);obtain⟨xw,hxw⟩:∃s,xm.words=s:=⟨_,rfl⟩;have HXW:=Lh hxw;rw[hxw] at hgc hws2;clear hnm hC1 hC2 hC3 hC4 hxw hc5w HI4;refine Qac [] (fun _=>SP.any) 16 (by kernel_rfl) (by kernel_rfl) ?_;intro T _ gg hg hgm;have e0:∀d,(gg d).cell? ⟨gb,nm*5+4,none⟩=some (.string xw):=fun d=>((hg d).cell (p:=⟨gb,nm*5+4,none⟩) hgl).trans hgc
          have e1:∀d,(gg d).cell? ⟨b5,o5+q*4,none⟩=some (.string s5):=fun d=>((hg d).cell (p:=⟨b5,o5+q*4,none⟩) hlb).trans hcw
          have hnmc:(nm:Int)+1≤(cG:Int):=(by omega);(repeat(refine Qad (by rfl) fun Kq hq=>?_;go_big_quiet_step (fail);refine wpQuiet_nil (hq _ ?_);clear hq Kq));refine QaA 1 (by rfl) (by rfl) (fun d hG=>?_);have HId:=Lh (HIC.out.to (hg d));have f0:=e0 d;clear hG hg hgm e0 e1 hcw hgc hgf;generalize gg d=wx at*;clear gg;obtain⟨gb',cG',hv9,hgl',hgc',hgf',-,-,hset⟩:=MkI.set (s:=xm.words++(⟨#[32]⟩++s5)) HId.out;cases hv9;rw[HNM.out,HXW.out] at hgc';rw[HNM.out] at hgf';rw[HNM.out,HXW.out] at hset
          have HIN3:Hid (MkI w1.heap.size w8 vo.ownBlock (.slice (some ⟨gb,0,none⟩) (nm+1) cG) (L++F++Qds sl gs br P ws X j (q+1)) (wx.setCell ⟨gb,nm*5+4,none⟩ (.string (xw++(⟨#[32]⟩++s5))))):=Lh (by
           have h1:=hset
           rw[HC2.out,←List.append_assoc,HXW.out]
           exact h1)
          clear hset;refine Qag (i:=16) (oi:=_) rfl (by kernel_rfl) (by rfl) (fun K hK=>?_);go_simp;refine hK _ _ ?_;clear hK K;(try go_frame);refine wpAny_done (by kernel_rfl) ?_ _;unfold Exit.then;go_wp2_with fail;go_roundw
          case rel=>exact⟨q+1,by omega,by omega,by go_num,⟨q,rfl,by
           rw[HC3.out]
           exact⟨by omega,by rw[if_pos rfl];omega⟩⟩,HIN3⟩
          case measure=>(first|(simp[intOf];done)|(simp[intOf];omega))
         |false=>
          have HT:=mkTo_new (sl:=sl) (gs:=gs) (br:=br) (p:=P) (ws:=ws) (x:=X) (i:=j) hpos hfe HTL.out hop;rw[hgd,hs5] at HT;have HTN:=Lh HT;have hlv:((lv==(q:Int)-1):Bool)=false:=by
           have:=HLA.out.2;rw[hop,if_neg (by decide)] at this;exact beq_eq_false_iff_ne.2 (by omega)
          have hs1:s5.size≤1000:=hws;subst hA5;clear HT hpos hfe hgd hws hop hs5
          go_upto_region 17 with(first|(go_at_call 29;refine(HGR.out wr HBz.out).mono ?_;rintro e wa ⟨rfl,hb⟩;have HI4:=Lh (HI3.out.to hb);have HBa:=Lh (HBz.out.trans (hb.mono HBz.out.size));have r2:=(HI4.out.box HP8.out hneX).cell 2 rfl;have r3:=(HI4.out.box HP8.out hneX).cell 3 rfl;clear hb q2 q3)|(go_at_call 30;refine(HMY.out wa HBa.out).mono ?_;rintro e wb ⟨rfl,hb⟩;have HI5:=Lh (HI4.out.to hb);clear hb r2 r3)|fail)
          have hcw:=HI5.out.cell (o5+q*4) hl5 hn5 hc5w;have hlb:b5<wb.heap.size:=(by have:=HI5.out.ks.size;omega);have hx1w:X1<wb.heap.size:=(by have:=HI5.out.ks.size;have:=HP8.out.lt;omega);obtain⟨A9,c9,rfl,-⟩:=HI5.out.ow.form;obtain⟨nm,hnm⟩:∃nq,(L++F++Qds sl gs br P ws X j q).length=nq:=⟨_,rfl⟩;have HNM:=Lh hnm;have hnmb:nm≤400000000000:=by
           have h1:=HFL.out;rw[←hnm,qA];have h2:=mkTo_mono (sl:=sl) (gs:=gs) (br:=br) (p:=P) (ws:=ws) (x:=X) (i:=j) HXF.out.1 (by rw[HXF.out.2.1];exact hfq) hqU;omega
          rw[hnm] at HI5 ⊢;clear hnm hc5w HI4;have HPW:=Lh (HI5.out.box HP8.out hneX);refine Qac [13] (fun i=>if i=13 then SP.rp wb.heap.size [(⟨br,a,z,(j:Int)+1,s5⟩:MarkP)] else SP.any) 14 (by kernel_rfl) (by kernel_rfl) ?_;intro T _ gg hg hgm;have e0:∀d,(gg d).cell? ⟨X1,0,none⟩=some (.int .i64 a):=fun d=>(HPW.out.to (hg d)).cell 0 rfl
          have e1:∀d,(gg d).cell? ⟨X1,1,none⟩=some (.int .i64 z):=fun d=>(HPW.out.to (hg d)).cell 1 rfl
          have e2:∀d,(gg d).cell? ⟨b5,o5+q*4,none⟩=some (.string s5):=fun d=>((hg d).cell (p:=⟨b5,o5+q*4,none⟩) hlb).trans hcw
          (repeat(refine Qad (by rfl) fun Kq hq=>?_;go_big_quiet_step (fail);refine wpQuiet_nil (hq _ ?_);clear hq Kq));refine Qai (by rfl) (by rfl) (fun d hG K Q hK=>?_) (fun v d hG hp Kr hr=>?_)
          ·go_simp;exact hK _ _ (bR.alloc nL _) (Qdp (hg d).size (by exact mark_rep (⟨br,(a:Int),(z:Int),(j:Int)+1,s5⟩:MarkP)))
          obtain⟨⟨Az,cz,rfl⟩,-⟩:=(show(∃A c,v=.slice A [(⟨br,a,z,(j:Int)+1,s5⟩:MarkP)].length c)∧_ from hp);(try clear hp);clear hG;go_frame;refine hr _ ?_;clear hr Kr;refine QaA 2 (by rfl) (by rfl) (fun d hG=>?_);have H13:Hid (Rep.R (gg d) (Up wb.heap.size) [.slice Az [(⟨br,a,z,(j:Int)+1,s5⟩:MarkP)].length cz] [(⟨br,a,z,(j:Int)+1,s5⟩:MarkP)]):=Lh (show(∃A c,_=Value.slice A [(⟨br,a,z,(j:Int)+1,s5⟩:MarkP)].length c)∧Rep.R (gg d) (Up wb.heap.size) [.slice Az [(⟨br,a,z,(j:Int)+1,s5⟩:MarkP)].length cz] [(⟨br,a,z,(j:Int)+1,s5⟩:MarkP)] from hG 13).2;have HId:=Lh (HI5.out.to (hg d));have HZd:=Lh (hg d).size;have HLT:=Lh HI5.out.ow.lt;clear hG hg hgm e0 e1 e2 hcw;generalize gg d=wx at*;clear gg
          have HSl:Hid (Sl wx (Up wb.heap.size) Az cz [(⟨br,a,z,(j:Int)+1,s5⟩:MarkP)]):=Lh (by
           obtain⟨A,c,e,hs,-⟩:=H13.out
           cases e
           exact hs)
          have HBx:Hid (w1.heap.size≤wx.heap.size):=Lh (by have:=HZ8.out;have:=HId.out.ks.size;omega);refine Qag (i:=14) (oi:=_) rfl (by kernel_rfl) (by rfl) (fun K hK=>?_);refine Qb3 (α:=MarkP) _ (.tmp 96) (.tmp 109) 51 rfl w1.heap.size 61 (.agg #[.int .i64 0,.int .i64 0,.int .i64 0,.int .i64 0,.string ⟨#[]⟩]) 48 Tryz.underlying51 QcI rfl (show 0<5 by decide) _ (L++F++Qds sl gs br P ws X j q) rfl HId.out.ow Az cz 1 [(⟨br,a,z,(j:Int)+1,s5⟩:MarkP)] rfl rfl (Up wb.heap.size) HSl.out (fun i (hi:wb.heap.size≤i) _ e=>by have:=(HLT.out i e.symm).2;omega) (by rw[HNM.out];omega) (by rw[HNM.out];omega) HBx.out ?_;intro v' w' ho' hg' hv'
          have HIN3:Hid (MkI w1.heap.size w8 vo.ownBlock v' (L++F++Qds sl gs br P ws X j (q+1)) w'):=Lh (by
           rw[HTN.out.1,←List.append_assoc,HPe.out.2.2.1,HPe.out.2.2.2.1]
           exact HId.out.grown ho' hg' hv')
          refine hK _ _ ?_;clear hK K ho' hg' hv' HId HSl H13;(try simp only[Act.put,sA0]);refine Qag (i:=15) (oi:=_) rfl (by kernel_rfl) (by rfl) (fun K hK=>?_);go_simp;refine hK _ _ ?_;clear hK K;(try go_frame);refine wpAny_done (by kernel_rfl) ?_ _;unfold Exit.then;go_wp2_with fail;go_roundw
          case rel=>exact⟨q+1,by omega,by omega,by go_num,⟨q,rfl,by
           rw[HTN.out.2]
           exact⟨by omega,by rw[if_pos rfl];omega⟩⟩,HIN3⟩
          case measure=>(first|(simp[intOf];done)|(simp[intOf];omega))
      ·obtain rfl:q=U:=by omega
       have hq1:¬(q:Int)<(q:Int):=(by omega);have HME:=Lh (mkTo_end (sl:=sl) (gs:=gs) (br:=br) (p:=P) (ws:=ws) (x:=X) (i:=j) HXF.out.1)
       have HIN2:Hid (MkI w1.heap.size w7 (Value.slice Av L.length cv).ownBlock u9 (L++Qax sl gs br P ws 0 (ls.take (j+1))) wr):=Lh (by
        have h1:=HI8.out.trans HI3.out
        have h2:=HME.out
        rw[HXF.out.2.2] at h2
        rw[HMK.out,←List.append_assoc,←h2]
        exact h1)
       go_wp2_with fail;go_roundw;(case rel=>exact⟨j+1,by have:=HJL.out;omega,by go_num,HIN2⟩);case measure=>(have:=HJL.out;first|(simp[intOf];done)|(simp[intOf];omega))
    ·obtain rfl:j=nl:=by omega
     have hjI:¬(j:Int)<(j:Int):=(by omega);have ek:ls.take j=ls:=List.take_of_length_le (by rw[HNLS.out];exact Nat.le_refl _);rw[ek] at HI;have HON:Hid (Own wr w1.heap.size 61 u9 (QaO l sl gs br (ps.take (k+1)))):=Lh (by rw[HTK.out,HPL.out];exact HI.out.ow);clear ek;go_wp2_with fail;go_roundw;(case rel=>exact⟨k+1,by have:=HKL.out;omega,by go_num,HON,HB1q.out⟩);case measure=>(have:=HKL.out;first|(simp[intOf];done)|(simp[intOf];omega))
  ·obtain rfl:k=n:=by omega
   have hki:¬(k:Int)<(k:Int):=(by omega);have ek:ps.take k=ps:=List.take_of_length_le (by rw[HN.out];exact Nat.le_refl _);rw[ek] at HO;have HSP:Hid (QaK m h l sl gs br=QaO l sl gs br ps):=Lh (by unfold QaK;rw[HPS.out]);clear ek hb;go_wp2_with fail;go_ret;exact⟨_,rfl,by rw[HSP.out];exact HO.out.re (by have:=HB1.out.size;omega),HBW.out⟩
theorem lxS_sl {w:World}{b:Nat}(h:ABox w b 118 [.int .i64 5,.int .i64 7,.int .i64 1,.int .i64 3,.int .i64 3]){S:Nat→Prop}(hS:S b):Sl w S (some ⟨b,0,none⟩) 1 lxS:=
 Sl.block (l:=lxS) h hS (by decide) (fun i hi=>by
  obtain rfl:i=0:=by simpa[lxS] using hi
  exact⟨rfl,show(⟨5,7,1,3,3⟩:Seal).ok from by refine⟨?_,?_,?_,?_,?_⟩<;>exact⟨by decide,by decide⟩⟩)
theorem lxN_sl {w:World}{b:Nat}(h:ABox w b 118 [.int .i64 5,.int .i64 7,.int .i64 2,.int .i64 3,.int .i64 2]){S:Nat→Prop}(hS:S b):Sl w S (some ⟨b,0,none⟩) 1 [(⟨5,7,2,3,2⟩:Seal)]:=
 Sl.block (l:=[(⟨5,7,2,3,2⟩:Seal)]) h hS (by decide) (fun i hi=>by
  obtain rfl:i=0:=by simpa using hi
  exact⟨rfl,show(⟨5,7,2,3,2⟩:Seal).ok from by refine⟨?_,?_,?_,?_,?_⟩<;>exact⟨by decide,by decide⟩⟩)
structure LvI (W1 w:World)(b0 bb:Nat)(Ab:Option Addr)(cb:Nat):Prop where
 b:Below W1.heap.size W1 w
 tx:ABox w (b0+1+1) 36 [.slice (some ⟨b0+1,0,none⟩) 1 1,.slice none 0 0]
 ts:Sl w (fun b=>b<w.heap.size) (some ⟨b0+1,0,none⟩) 1 [lxW]
 bx:ABox w bb 25 [.int .i64 500,.int .i64 10,.slice Ab lx.length cb]
 sm:SM w Ab cb lx
theorem LvI.to {W1 w w':World}{b0 bb:Nat}{Ab:Option Addr}{cb:Nat}(h:LvI W1 w b0 bb Ab cb)(hb:Below w.heap.size w w'):LvI W1 w' b0 bb Ab cb:=⟨h.b.trans (hb.mono h.b.size),h.tx.to hb,h.ts.to hb,h.bx.to hb,h.sm.to hb⟩
theorem LvI.ok {W1 w:World}{b0 bb:Nat}{Ab:Option Addr}{cb:Nat}(h:LvI W1 w b0 bb Ab cb):BookOk w 500 10 Ab cb lx:=⟨h.sm.t.1,h.sm.s,lx_ok.2.1,lx_ok.2.2,⟨by decide,by decide⟩,Nat.le_trans lx_len (by decide)⟩
theorem lx_heq:∀s∈lx,s.texts.length=s.vers.length:=by decide
theorem lxS_g:∀s∈lxS,0≤s.g∧s.g<16:=by decide
theorem lxM_g:∀s∈lxM,0≤s.g∧s.g<16:=by decide
theorem ok_lxW:∀x∈Qa0 ⟨[lxW],[]⟩,x.s.size≤1000:=by decide
theorem lx_short:QbC [lxW]∧QbC []:=by decide +kernel
theorem lx_add {w:World}{A1:Option Addr}(hT:Tabs w)(ht:Sl w (fun b=>b<w.heap.size) A1 1 [lxW]):
 Calls Tryz.prog 61 #[.agg #[.int .i64 500,.int .i64 10,.slice none 0 0],.int .i64 5,.int .i64 7,.agg #[.slice A1 1 1,.slice none 0 0]] w fun e w'=>∃A c,e=.returned (.tuple #[.agg #[.int .i64 500,.int .i64 10,.slice A lx.length c],.int .i64 0])∧SM w' A c lx∧Below w.heap.size w w':=by
 have e1:([]++[(⟨5,false,[7],[⟨[lxW],[]⟩]⟩:SectP)])=lx:=rfl;have h:=add_ok none 0 [] 500 10 5 7 A1 none 1 0 [lxW] [] w hT.1 (Sl.nil _ _ _ _ (by simp[maxLen])) lx_ok.1.1 lx_ok.1.2 ⟨by decide,by decide⟩ ht (Sl.nil _ _ _ _ (by simp[maxLen])) lx_short.1 lx_short.2 lx_find (by decide) (by decide) lx_wrong (by decide) (by rw[e1];exact Nat.le_trans lx_len (by decide));rw[e1] at h;refine h.mono ?_;rintro x V2 ⟨u,rfl,ho,hb⟩;obtain⟨Ab,cb,rfl,hs,-⟩:=ho.sm hT hb;exact⟨Ab,cb,by rw[fits_ok (Nat.le_trans lx_len (by decide))],hs,hb⟩
set_option maxRecDepth 100000 in
theorem lives32_any (W1:World)(hT:Tabs W1):Calls Tryz.prog 20 #[] W1 fun e w'=>e=.returned (.bool true)∧Below W1.heap.size W1 w':=by
 have HT:=Lh hT;clear hT;go_enter Tryz.func20,Tryz.ntmps20;go_upto_region 2 with(fail);obtain⟨b0,hb0⟩:∃q,W1.heap.size=q:=⟨_,rfl⟩;obtain⟨W2,hW2⟩:∃W2,((W1.alloc (.cells #[.string ⟨#[111,110,101]⟩,.string ⟨#[]⟩,.int .i64 0,.int .i64 0,.string ⟨#[116,119,111]⟩,.string ⟨#[]⟩,.int .i64 0,.int .i64 0,.string ⟨#[116,104,114,101,101]⟩,.string ⟨#[]⟩,.int .i64 0,.int .i64 0,.string ⟨#[102,111,117,114]⟩,.string ⟨#[]⟩,.int .i64 0,.int .i64 0] 66)).alloc (.cells #[.slice (some ⟨W1.heap.size,0,none⟩) 4 4] 110)).alloc (.cells #[.slice (some ⟨W1.heap.size+1,0,none⟩) 1 1,.slice none 0 0] 36)=W2:=⟨_,rfl⟩;rw[hW2];have hba:Below W1.heap.size W1 W2:=by rw[←hW2];exact((bR.alloc nL _).alloc (by simp) _).alloc (by simp;omega) _
 have hx0:ABox W2 W1.heap.size 66 [.string ⟨#[111,110,101]⟩,.string ⟨#[]⟩,.int .i64 0,.int .i64 0,.string ⟨#[116,119,111]⟩,.string ⟨#[]⟩,.int .i64 0,.int .i64 0,.string ⟨#[116,104,114,101,101]⟩,.string ⟨#[]⟩,.int .i64 0,.int .i64 0,.string ⟨#[102,111,117,114]⟩,.string ⟨#[]⟩,.int .i64 0,.int .i64 0]:=by rw[←hW2];exact(Below.heap_alloc _ _ _ (by first|(simp;done)|(simp;omega))).trans ((Below.heap_alloc _ _ _ (by simp)).trans (heap_alloc_new W1 _))
 have hx1:ABox W2 (W1.heap.size+1) 110 [.slice (some ⟨W1.heap.size,0,none⟩) 4 4]:=by rw[←hW2];exact(Below.heap_alloc _ _ _ (by simp)).trans (Qar (by simp))
 have hx2:ABox W2 (W1.heap.size+1+1) 36 [.slice (some ⟨W1.heap.size+1,0,none⟩) 1 1,.slice none 0 0]:=by rw[←hW2];exact Qar (by simp)
 have hts:=lx_sl hx0 hx1;rw[hb0] at hts hx2 ⊢;have HBA:=Lh hba;have HTX:=Lh hx2;have HTS:=Lh hts;have HT2:=Lh (HT.out.to hba);clear hW2 hba hx0 hx1 hx2 hts hb0;have y0:=HTX.out.cell 0 rfl;have y1:=HTX.out.cell 1 rfl;have HAD:=Lh (lx_add HT2.out HTS.out)
 go_upto_region 3 with(first|(go_at_call 61;refine HAD.out.mono ?_;rintro x V2 ⟨Ab,cb,rfl,hs,hb⟩;have HSM:=Lh hs;have HB2:=Lh hb;clear hs hb y0 y1 HAD)|fail)
 obtain⟨W3,hW3⟩:∃W3,V2.alloc (.cells #[.int .i64 500,.int .i64 10,.slice Ab lx.length cb] 25)=W3:=⟨_,rfl⟩;obtain⟨bb,hbb⟩:∃q,V2.heap.size=q:=⟨_,rfl⟩
 have HI:Hid (LvI W1 W3 b0 bb Ab cb):=Lh (by
  have h1:Below V2.heap.size V2 W3:=(by rw[←hW3];exact bR.alloc nL _)
  have h2:Below W2.heap.size W2 W3:=HB2.out.trans (h1.mono HB2.out.size)
  exact⟨HBA.out.trans (h2.mono HBA.out.size),HTX.out.to h2,HTS.out.to h2,by rw[←hW3,←hbb];exact heap_alloc_new V2 _,HSM.out.to h1⟩)
 (try rw[hW3]);(try rw[hbb]);clear hW3 hbb HBA HTX HTS HT2 HSM HB2;have q0:=HI.out.bx.cell 0 rfl;have q1:=HI.out.bx.cell 1 rfl;have q2:=HI.out.bx.cell 2 rfl
 go_upto_region 4 with(first|(go_at_call 26;refine(QcO HI.out.ok).mono ?_;rintro e W4 ⟨v,R,rfl,ho,-,hb⟩;rw[Qdx] at ho;obtain⟨Ap,cp,rfl,hs⟩:=ho.plain.sl;have HP4:=Lh hs;have HI4:=Lh (HI.out.to hb);clear ho hs hb q0 q1 q2 HI)|fail)
 go_upto_region 5 with(fail);obtain⟨W5,hW5⟩:∃W5,W4.alloc (.cells #[.int .i64 5,.int .i64 7,.int .i64 1,.int .i64 3,.int .i64 3] 118)=W5:=⟨_,rfl⟩;obtain⟨bs,hbs⟩:∃q,W4.heap.size=q:=⟨_,rfl⟩;have h1:Below W4.heap.size W4 W5:=by rw[←hW5];exact bR.alloc nL _
 have HI5:=Lh (HI4.out.to h1);have HP5:=Lh (HP4.out.to h1);have HX5:Hid (ABox W5 bs 118 [.int .i64 5,.int .i64 7,.int .i64 1,.int .i64 3,.int .i64 3]):=Lh (by rw[←hW5,←hbs];exact heap_alloc_new W4 _);rw[hW5,hbs];clear hW5 hbs h1 HI4 HP4;have HOW0:Hid (Own (W5.alloc (.cells #[] 118)) W5.heap.size 118 (.slice (some ⟨W5.heap.size,0,none⟩) 0 0) ([]:List Seal)):=Lh (Own.made W5 W5.heap.size _ nL);have HB50:Hid (Below W5.heap.size W5 (W5.alloc (.cells #[] 118))):=Lh (bR.alloc nL _)
 go_upto_region 6 with(first|(at_builtin;refine Qap (α:=Seal) _ rfl (.tmp 29) (.tmp 30) 26 rfl W5.heap.size 118 (.agg #[.int .i64 0,.int .i64 0,.int .i64 0,.int .i64 0,.int .i64 0]) 40 Tryz.underlying26 Qcb rfl (by decide) _ [] rfl HOW0.out (some ⟨bs,0,none⟩) 1 1 lxS rfl rfl (fun b=>b=bs) (lxS_sl (HX5.out.to HB50.out) rfl) (fun i hi _ e=>by have h1:=HX5.out.lt;have h2:some i=some W5.heap.size:=e;have h3:=Option.some.inj h2;have h4:i=bs:=hi;omega) (by decide) (by decide) HB50.out.size ?_;intro v2 w2 hown2 hg2 hat2;have HB51:Hid (Below W5.heap.size W5 w2):=Lh (HB50.out.grown hg2 HB50.out.size (fun r hr=>by have h2:some W5.heap.size=some r:=hr;have h3:=Option.some.inj h2;omega));obtain⟨A2,c2,rfl,-⟩:=hown2.form;have HOW1:Hid (Own w2 W5.heap.size 118 (.slice A2 1 c2) lxS):=Lh hown2;clear hown2 hg2 hat2)|(at_builtin;refine Qap (α:=Seal) _ rfl (.tmp 31) (.tmp 33) 26 rfl W5.heap.size 118 (.agg #[.int .i64 0,.int .i64 0,.int .i64 0,.int .i64 0,.int .i64 0]) 40 Tryz.underlying26 Qcb rfl (by decide) _ lxS rfl (HOW1.out.alloc _) (some ⟨w2.heap.size,0,none⟩) 1 1 [(⟨5,7,2,3,2⟩:Seal)] rfl rfl (fun b=>b=w2.heap.size) (lxN_sl (heap_alloc_new w2 _) rfl) (fun i hi _ e=>by have h4:i=w2.heap.size:=hi;have:=(HOW1.out.lt i e.symm).2;omega) (by decide) (by decide) (by have:=HB51.out.size;simp;omega) ?_;intro v3 w3 hown3 hg3 hat3;have HB52:Hid (Below W5.heap.size W5 w3):=Lh ((HB51.out.alloc HB51.out.size _).grown hg3 (by have:=HB51.out.size;simp;omega) (fun r hr=>(HOW1.out.lt r hr).1));obtain⟨A3,c3,rfl,-⟩:=hown3.form;have HOW2:Hid (Own w3 W5.heap.size 118 (.slice A3 2 c3) lxM):=Lh hown3;clear hown3 hg3 hat3)|fail)
 have e1:lxS.length+1=2:=rfl;rw[e1];clear e1;have HI6:=Lh (HI5.out.to HB52.out);have HP6:=Lh (HP5.out.to HB52.out);have HX6:=Lh (HX5.out.to HB52.out)
 have HM6:Hid (Sl w3 (fun b=>b<w3.heap.size) A3 c3 lxM):=Lh (by
  obtain⟨A,c,e,h⟩:=HOW2.out.sl
  cases e
  exact h)
 clear HI5 HP5 HX5 HOW0 HOW1 HOW2 HB50 HB51 HB52;obtain⟨bp,op,A1,c1,A4,c4,rfl,-,hlp,p0,p1,p2,p3,p4,p5,hs1,hs2⟩:=pageS_at HP6.out (k:=0) (by decide);obtain⟨bl,ol,Ag,cg,An,cn,rfl,-,hll,l0,l1,l2,l3,hsg,hsn⟩:=Qa7 hs1 (k:=0) (by decide)
 have HPC:Hid (∀W,Below w3.heap.size w3 W→W.cell? ⟨bp,op,none⟩=some (.int .i64 1)∧W.cell? ⟨bp,op+1,none⟩=some (.int .i64 0)∧W.cell? ⟨bp,op+2,none⟩=some (.int .i64 5)∧W.cell? ⟨bp,op+3,none⟩=some (.int .i64 7)∧W.cell? ⟨bp,op+4,none⟩=some (.slice (some ⟨bl,ol,none⟩) 1 c1)∧W.cell? ⟨bp,op+5,none⟩=some (.slice A4 0 c4)∧ W.cell? ⟨bl,ol,none⟩=some (.int .i64 0)∧W.cell? ⟨bl,ol+1,none⟩=some (.int .i64 4)∧W.cell? ⟨bl,ol+2,none⟩=some (.slice Ag 3 cg)∧W.cell? ⟨bl,ol+3,none⟩=some (.slice An 0 cn)):=Lh fun W hW=>
  ⟨(hW.cell (p:=⟨bp,op,none⟩) hlp).trans p0,(hW.cell (p:=⟨bp,op+1,none⟩) hlp).trans p1,(hW.cell (p:=⟨bp,op+2,none⟩) hlp).trans p2,(hW.cell (p:=⟨bp,op+3,none⟩) hlp).trans p3,(hW.cell (p:=⟨bp,op+4,none⟩) hlp).trans p4,(hW.cell (p:=⟨bp,op+5,none⟩) hlp).trans p5,(hW.cell (p:=⟨bl,ol,none⟩) hll).trans l0,(hW.cell (p:=⟨bl,ol+1,none⟩) hll).trans l1,(hW.cell (p:=⟨bl,ol+2,none⟩) hll).trans l2,(hW.cell (p:=⟨bl,ol+3,none⟩) hll).trans l3⟩
 clear p0 p1 p2 p3 p4 p5 l0 l1 l2 l3 hs1 hs2 hsg hsn HP6;have p4:=(HPC.out w3 bR).2.2.2.2.1;go_upto_region 8 with(fail);clear p4;have HWD:=Lh (fun(s:ByteArray)=>QbQ s w3 HI6.out.sm.t.1);have HBX:=Lh (fun(n:Int) (hn:I64 n) (W:World) (hW:Below w3.heap.size w3 W)=>QdA n hn W (HI6.out.sm.t.to hW));have HE:=Lh lx_box
 go_upto_region 9 with(first|(go_at_call 33;refine(QbQ _ w3 HI6.out.sm.t.1).mono ?_;rintro e w' ⟨rfl,rfl⟩)|(go_at_call 32;refine(QdA _ (QcN _) w3 HI6.out.sm.t).mono ?_;rintro e W7 ⟨rfl,hb⟩;rw[HE.out.1];have HI7:=Lh (HI6.out.to hb);have HB7:=Lh hb;clear hb)|fail)
 go_upto_region 10 with(first|(go_at_call 33;refine(QbQ _ W7 HI7.out.sm.t.1).mono ?_;rintro e w' ⟨rfl,rfl⟩)|(go_at_call 32;refine(QdA _ (QcN _) W7 HI7.out.sm.t).mono ?_;rintro e W8 ⟨rfl,hb⟩;rw[HE.out.2];have HI8:=Lh (HI7.out.to hb);have HB8:=Lh (HB7.out.trans (hb.mono HB7.out.size));clear hb)|fail)
 have HPV:=Lh (lx_good.pv);have HPL:Hid ((Qak 500 10 lx).length≤1048576):=Lh (Nat.le_trans lx_len (by decide));have HSS:Hid (∀W,Below w3.heap.size w3 W→Sl W (fun b=>b<W.heap.size) (some ⟨bs,0,none⟩) 1 lxS):=Lh fun W hW=>lxS_sl (HX6.out.to hW) (by have:=HX6.out.lt;have:=hW.size;show bs<W.heap.size;omega)
 have HSH:Hid (∀W,Below w3.heap.size w3 W→LvI W1 W b0 bb Ab cb→Calls Tryz.prog 16 #[.agg #[.int .i64 500,.int .i64 10,.slice Ab lx.length cb],.slice (some ⟨bs,0,none⟩) 1 1] W fun r W'=>∃v,r=.returned v∧Own W' W.heap.size 46 v [(⟨⟨#[49]⟩,[⟨#[111,110,101,32,91,50,54,93,32,91,51,54,93,32,102,111,117,114]⟩],[]⟩:SheetP)]∧Below W.heap.size W W'):=Lh fun W hW hl=>by
  have:=sheets_any (some ⟨bs,0,none⟩) 1 1 lxS hl.ok hl.sm.t lx_heq HPV.out HPL.out (HSS.out W hW) rfl (by decide) lxS_g;rwa [lx_sheets] at this
 have HAX:Hid (∀W,Below w3.heap.size w3 W→LvI W1 W b0 bb Ab cb→Calls Tryz.prog 22 #[.agg #[.int .i64 500,.int .i64 10,.slice Ab lx.length cb],.int .i64 2,.slice (some ⟨bs,0,none⟩) 1 1,.int .i64 8] W fun r W'=>∃v,r=.returned v∧Own W' W.heap.size 61 v [(⟨2,1,0,1,⟨#[116,119,111,32,116,104,114,101,101]⟩⟩:MarkP)]∧Below W.heap.size W W'):=Lh fun W hW hl=>by
  have:=QdX 2 8 (some ⟨bs,0,none⟩) 1 1 lxS hl.ok hl.sm.t lx_heq HPV.out HPL.out (by rw[lx_annex];decide) (HSS.out W hW) rfl (by decide) lxS_g;rwa [lx_annex] at this
 have HAY:Hid (∀W,Below w3.heap.size w3 W→LvI W1 W b0 bb Ab cb→Calls Tryz.prog 22 #[.agg #[.int .i64 500,.int .i64 10,.slice Ab lx.length cb],.int .i64 2,.slice (some ⟨bs,0,none⟩) 1 1,.int .i64 4] W fun r W'=>∃A c,r=.returned (.slice A 0 c)∧Below W.heap.size W W'):=Lh fun W hW hl=>by
  have h:=QdX 2 4 (some ⟨bs,0,none⟩) 1 1 lxS hl.ok hl.sm.t lx_heq HPV.out HPL.out (by rw[lx_annex0];decide) (HSS.out W hW) rfl (by decide) lxS_g;rw[lx_annex0] at h;refine h.mono ?_;rintro r W' ⟨v,rfl,ho,hb⟩;obtain⟨A,c,rfl,-⟩:=ho.form;exact⟨A,c,rfl,hb⟩
 have q0:=HI8.out.bx.cell 0 rfl;have q1:=HI8.out.bx.cell 1 rfl;have q2:=HI8.out.bx.cell 2 rfl
 go_upto_region 11 with(first|(go_at_call 16;refine(HSH.out W8 HB8.out HI8.out).mono ?_;rintro r W9 ⟨v,rfl,ho,hb⟩;obtain⟨A9,c9,rfl,hs,-,hc9,-⟩:=ho.parts;have HS9:=Lh hs;have HI9:=Lh (HI8.out.to hb);have HB9:=Lh (HB8.out.trans (hb.mono HB8.out.size));clear ho hs hb q0 q1 q2)|fail)
 have q0:=HI9.out.bx.cell 0 rfl;have q1:=HI9.out.bx.cell 1 rfl;have q2:=HI9.out.bx.cell 2 rfl
 go_upto_region 12 with(first|(go_at_call 22;refine(HAX.out W9 HB9.out HI9.out).mono ?_;rintro r W10 ⟨v,rfl,ho,hb⟩;obtain⟨A10,c10,rfl,hs,-,hc10,-⟩:=ho.parts;have HS10:=Lh hs;have HI10:=Lh (HI9.out.to hb);have HB10:=Lh (HB9.out.trans (hb.mono HB9.out.size));have HT9:=Lh (HS9.out.to hb);clear ho hs hb q0 q1 q2)|fail)
 obtain⟨b9,o9,A11,c11,A12,c12,rfl,-,hl9,s0,s1,s2,hs11,hs12⟩:=sheetP_at HT9.out (k:=0) (by decide);obtain⟨b11,o11,rfl,-,hl11,-,s3⟩:=str_at hs11 (k:=0) (by decide);obtain⟨b10,o10,rfl,-,hl10,m0,m1,m2,m3,m4⟩:=mark_at HS10.out (k:=0) (by decide);have HMC:Hid (∀W,Below W10.heap.size W10 W→(W.cell? ⟨b9,o9,none⟩=some (.string ⟨#[49]⟩)∧W.cell? ⟨b9,o9+1,none⟩=some (.slice (some ⟨b11,o11,none⟩) 1 c11)∧W.cell? ⟨b11,o11,none⟩=some (.string ⟨#[111,110,101,32,91,50,54,93,32,91,51,54,93,32,102,111,117,114]⟩))∧W.cell? ⟨b10,o10,none⟩=some (.int .i64 2)∧W.cell? ⟨b10,o10+1,none⟩=some (.int .i64 1)∧W.cell? ⟨b10,o10+2,none⟩=some (.int .i64 0)∧W.cell? ⟨b10,o10+3,none⟩=some (.int .i64 1)∧W.cell? ⟨b10,o10+4,none⟩=some (.string ⟨#[116,119,111,32,116,104,114,101,101]⟩)):=Lh fun W hW=>
  ⟨⟨(hW.cell (p:=⟨b9,o9,none⟩) hl9).trans s0,(hW.cell (p:=⟨b9,o9+1,none⟩) hl9).trans s1,(hW.cell (p:=⟨b11,o11,none⟩) hl11).trans s3⟩,(hW.cell (p:=⟨b10,o10,none⟩) hl10).trans m0,(hW.cell (p:=⟨b10,o10+1,none⟩) hl10).trans m1,(hW.cell (p:=⟨b10,o10+2,none⟩) hl10).trans m2,(hW.cell (p:=⟨b10,o10+3,none⟩) hl10).trans m3,(hW.cell (p:=⟨b10,o10+4,none⟩) hl10).trans m4⟩
 clear s0 s1 s2 s3 m0 m1 m2 m3 m4 hs11 hs12 HS9 HS10 HT9;have q0:=HI10.out.bx.cell 0 rfl;have q1:=HI10.out.bx.cell 1 rfl;have q2:=HI10.out.bx.cell 2 rfl;have s1:=(HMC.out W10 bR).1.2.1
 go_upto_region 14 with(first|(go_at_call 22;refine(HAY.out W10 HB10.out HI10.out).mono ?_;rintro r W11 ⟨A13,c13,rfl,hb⟩;have HI11:=Lh (HI10.out.to hb);have HB11:=Lh (HB10.out.trans (hb.mono HB10.out.size));have HBx:=Lh hb;clear hb q0 q1 q2 s1)|fail)
 have m0:=(HMC.out W11 HBx.out).2.1;have m1:=(HMC.out W11 HBx.out).2.2.1;have m2:=(HMC.out W11 HBx.out).2.2.2.1;have m3:=(HMC.out W11 HBx.out).2.2.2.2.1;have m4:=(HMC.out W11 HBx.out).2.2.2.2.2;go_upto_region 15 with(fail);clear m0 m1 m2 m3 m4;have hj1:([111,110,101,32,91,50,54,93,32,91,51,54,93,32,102,111,117,114]==((⟨#[111,110,101,32]⟩:ByteArray)++(⟨#[91,50,54,93]⟩:ByteArray)++(⟨#[32]⟩:ByteArray)++(⟨#[91,51,54,93]⟩:ByteArray)++(⟨#[32,102,111,117,114]⟩:ByteArray)).toList)=true:=by decide +kernel
 have hj2:([111,110,101,32,116,119,111,32,91,51,54,93,32,102,111,117,114]==((⟨#[111,110,101,32,116,119,111,32]⟩:ByteArray)++(⟨#[91,51,54,93]⟩:ByteArray)++(⟨#[32,102,111,117,114]⟩:ByteArray)).toList)=true:=by decide +kernel
 have HLN:Hid (∀W,Below w3.heap.size w3 W→LvI W1 W b0 bb Ab cb→Calls Tryz.prog 24 #[.agg #[.int .i64 1,.int .i64 0,.int .i64 5,.int .i64 7,.slice (some ⟨bl,ol,none⟩) 1 c1,.slice A4 0 c4],.agg #[.int .i64 0,.int .i64 4,.slice Ag 3 cg,.slice An 0 cn],.agg #[.slice (some ⟨b0+1,0,none⟩) 1 1,.slice none 0 0],.slice A3 2 c3,.int .i64 8] W fun r W'=>r=.returned (.string ⟨#[111,110,101,32,116,119,111,32,91,51,54,93,32,102,111,117,114]⟩)∧Below W.heap.size W W'):=Lh fun W hW hl=>by
  have h:=vline_any 1 0 5 7 (some ⟨bl,ol,none⟩) A4 1 c1 0 c4 0 4 Ag An 3 cg 0 cn (some ⟨b0+1,0,none⟩) none 1 0 [lxW] [] A3 c3 2 lxM 8 W hl.ts (Sl.nil _ _ _ _ (by simp[maxLen])) (by decide) (by decide) (by decide) ok_lxW (HM6.out.to hW) rfl (by decide) lxM_g hl.sm.t (by decide) (by decide);rw[show Qa0 ⟨[lxW],[]⟩=lxW from rfl,lx_line] at h;exact h
 refine Qac [35] (fun i=>if i=35 then SP.val (.string ⟨#[111,110,101,32,116,119,111,32,91,51,54,93,32,102,111,117,114]⟩) else SP.any) 42 (by kernel_rfl) (by kernel_rfl) ?_;intro T _ g hg hgm;have e0:∀d,(g d).cell? ⟨b9,o9,none⟩=some (.string ⟨#[49]⟩):=fun d=>(HMC.out (g d) (HBx.out.trans ((hg d).mono HBx.out.size))).1.1
 have e1:∀d,(g d).cell? ⟨b9,o9+1,none⟩=some (.slice (some ⟨b11,o11,none⟩) 1 c11):=fun d=>(HMC.out (g d) (HBx.out.trans ((hg d).mono HBx.out.size))).1.2.1
 have e2:∀d,(g d).cell? ⟨b11,o11,none⟩=some (.string ⟨#[111,110,101,32,91,50,54,93,32,91,51,54,93,32,102,111,117,114]⟩):=fun d=>(HMC.out (g d) (HBx.out.trans ((hg d).mono HBx.out.size))).1.2.2
 have HPD:Hid (∀d,Below w3.heap.size w3 (g d)):=Lh fun d=>HB11.out.trans ((hg d).mono HB11.out.size)
 have p0:∀d,(g d).cell? ⟨bp,op,none⟩=some (.int .i64 1):=fun d=>(HPC.out (g d) (HPD.out d)).1
 have p1:∀d,(g d).cell? ⟨bp,op+1,none⟩=some (.int .i64 0):=fun d=>(HPC.out (g d) (HPD.out d)).2.1
 have p2:∀d,(g d).cell? ⟨bp,op+2,none⟩=some (.int .i64 5):=fun d=>(HPC.out (g d) (HPD.out d)).2.2.1
 have p3:∀d,(g d).cell? ⟨bp,op+3,none⟩=some (.int .i64 7):=fun d=>(HPC.out (g d) (HPD.out d)).2.2.2.1
 have p4:∀d,(g d).cell? ⟨bp,op+4,none⟩=some (.slice (some ⟨bl,ol,none⟩) 1 c1):=fun d=>(HPC.out (g d) (HPD.out d)).2.2.2.2.1
 have p5:∀d,(g d).cell? ⟨bp,op+5,none⟩=some (.slice A4 0 c4):=fun d=>(HPC.out (g d) (HPD.out d)).2.2.2.2.2.1
 have l0:∀d,(g d).cell? ⟨bl,ol,none⟩=some (.int .i64 0):=fun d=>(HPC.out (g d) (HPD.out d)).2.2.2.2.2.2.1
 have l1:∀d,(g d).cell? ⟨bl,ol+1,none⟩=some (.int .i64 4):=fun d=>(HPC.out (g d) (HPD.out d)).2.2.2.2.2.2.2.1
 have l2:∀d,(g d).cell? ⟨bl,ol+2,none⟩=some (.slice Ag 3 cg):=fun d=>(HPC.out (g d) (HPD.out d)).2.2.2.2.2.2.2.2.1
 have l3:∀d,(g d).cell? ⟨bl,ol+3,none⟩=some (.slice An 0 cn):=fun d=>(HPC.out (g d) (HPD.out d)).2.2.2.2.2.2.2.2.2
 have t0:∀d,(g d).cell? ⟨b0+1+1,0,none⟩=some (.slice (some ⟨b0+1,0,none⟩) 1 1):=fun d=>(HI11.out.to (hg d)).tx.cell 0 rfl
 have t1:∀d,(g d).cell? ⟨b0+1+1,1,none⟩=some (.slice none 0 0):=fun d=>(HI11.out.to (hg d)).tx.cell 1 rfl
 (repeat(refine Qad (by rfl) fun Kq hq=>?_;go_big_quiet_step (fail);refine wpQuiet_nil (hq _ ?_);clear hq Kq));refine Qai (by rfl) (by rfl) (fun d hG K Q hK=>?_) (fun v d hG hp Kr hr=>?_)
 ·go_simp;go_at_call 24;refine(HLN.out (g d) (HPD.out d) (HI11.out.to (hg d))).mono ?_;rintro e W1 ⟨rfl,hb1⟩;go_simp;exact hK _ _ hb1 (rfl)
 have hp:v=.string ⟨#[111,110,101,32,116,119,111,32,91,51,54,93,32,102,111,117,114]⟩:=hp;subst hp;(try clear hp);clear hG;go_frame;refine hr _ ?_;clear hr Kr;(repeat(refine Qad (by rfl) fun Kq hq=>?_;go_big_quiet_step (fail);refine wpQuiet_nil (hq _ ?_);clear hq Kq));refine Qcf (by kernel_rfl) (fun d hG=>?_) _;have HBd:=Lh (hg d);clear hG hg hgm;unfold Exit.then;go_wp2_with fail;go_ret;exact⟨rfl,HI11.out.b.trans (HBd.out.mono HI11.out.b.size)⟩
set_option maxRecDepth 100000 in
theorem sameMarks_any (A B:Option Addr)(ca cb n:Nat)(l:List MarkP)(w:World)(hA:Sl w (fun b=>b<w.heap.size) A ca l)(hB:Sl w (fun b=>b<w.heap.size) B cb l)(hn:l.length=n)(hsz:n≤400000000000):
 Calls Tryz.prog 21 #[.slice A n ca,.slice B n cb] w fun e w'=>e=.returned (.bool true)∧Below w.heap.size w w':=by
 have HA:=Lh hA;have HB:=Lh hB;have HN:=Lh hn;have hac:n≤ca:=by rw[←hn];exact hA.1
 have hbc:n≤cb:=by rw[←hn];exact hB.1
 have ham:ca≤9223372036854775807:=hA.2.1;have hbm:cb≤9223372036854775807:=hB.2.1;clear hA hB hn;go_enter Tryz.func21,Tryz.ntmps21;go_wp2_with fail;go_loopw [5] (fun i wr=>∃k:Nat,k≤n∧i=.int .i64 (k:Int)∧Hid (Below w.heap.size w wr)) (fun i _=>n-(intOf i).toNat);(case atStart=>exact⟨0,Nat.zero_le _,rfl,Lh bR⟩);case round=>
  obtain⟨k,hk,rfl,HBr⟩:=hrel;by_cases hlt:k<n
  ·have hkl:k<l.length:=by rw[HN.out];exact hlt
   obtain⟨b1,o1,rfl,-,-,a0,a1,a2,a3,a4⟩:=mark_at (HA.out.to HBr.out) hkl;obtain⟨b2,o2,rfl,-,-,c0,c1,c2,c3,c4⟩:=mark_at (HB.out.to HBr.out) hkl;obtain⟨x,hx⟩:∃x,l[k]=x:=⟨_,rfl⟩;rw[hx] at a0 a1 a2 a3 a4 c0 c1 c2 c3 c4;obtain⟨x1,x2,x3,x4,x5⟩:=x;dsimp only at a0 a1 a2 a3 a4 c0 c1 c2 c3 c4;have hkI:(k:Int)<(n:Int):=(by omega);clear hx;go_upto_region 6 with(fail);go_quiet (fail);have HBn:=Lh (Below.dn HBr.out nq);unfold Exit.then;go_wp2_with fail;go_roundw;(case rel=>exact⟨k+1,by omega,by go_num,HBn⟩);case measure=>(first|(simp[intOf];done)|(simp[intOf];omega))
  ·obtain rfl:k=n:=by omega
   have hkI:¬(k:Int)<(k:Int):=(by omega);go_wp2_with fail;go_ret;exact⟨rfl,HBr.out⟩
theorem own_blk {α:Type}[Rep α]{w:World}{B:Nat}{e:TypeId}{v:Value}{l:List α}(h:Own w B e v l){g:Nat}(hg:v.ownBlock=some g):∃cs fr,w.heap[g]? =some (.cells cs e fr):=by
 obtain⟨xs,hx,_⟩:=h;rcases hx.2 with⟨rfl,_⟩|⟨g',cap,cur,rfl,_,hgb,_⟩
 ·simp[Value.ownBlock] at hg
 ·have:g'=g:=by simpa[Value.ownBlock] using hg
  subst this;exact⟨_,_,hgb⟩
theorem own_apart {α β:Type}[Rep α][Rep β]{w:World}{B C:Nat}{e e':TypeId}{v u:Value}{l:List α}{m:List β}(h:Own w B e v l)(k:Own w C e' u m)(hne:e≠e'){g:Nat}(hg:u.ownBlock=some g):v.ownBlock≠some g:=by
 obtain⟨cs,fr,hb⟩:=own_blk k hg;exact own_ne h hb hne
theorem own_keepM {w w':World}{base:Nat}{e:TypeId}{v:Value}{l:List MarkP}(h:Own w base e v l)(hk:∀g,v.ownBlock=some g→w'.heap[g]? =w.heap[g]?):Own w' base e v l:=by
 obtain⟨xs,hx,ho,hr⟩:=h;refine⟨xs,⟨hx.1,?_⟩,ho,fun i hi=>hr i hi⟩;rcases hx.2 with hn|⟨g,cap,cur,rfl,hb,hg,rest⟩
 ·exact .inl hn
 ·exact .inr ⟨g,cap,cur,rfl,hb,(hk g rfl).trans hg,rest⟩
theorem own_keepS {w w':World}{base:Nat}{e:TypeId}{v:Value}{l:List ByteArray}(h:Own w base e v l)(hk:∀g,v.ownBlock=some g→w'.heap[g]? =w.heap[g]?):Own w' base e v l:=by
 obtain⟨xs,hx,ho,hr⟩:=h;refine⟨xs,⟨hx.1,?_⟩,ho,fun i hi=>hr i hi⟩;rcases hx.2 with hn|⟨g,cap,cur,rfl,hb,hg,rest⟩
 ·exact .inl hn
 ·exact .inr ⟨g,cap,cur,rfl,hb,(hk g rfl).trans hg,rest⟩
structure RuI (w0:World)(vo vr:Value)(lo:List MarkP)(lr:List ByteArray)(w:World):Prop where
 o:Own w w0.heap.size 61 vo lo
 r:Own w w0.heap.size 9 vr lr
 b:Below w0.heap.size w0 w
theorem mark_str:(61:TypeId)≠9:=by decide
theorem RuI.to {w0 w w':World}{vo vr:Value}{lo:List MarkP}{lr:List ByteArray}(h:RuI w0 vo vr lo lr w)(hb:Below w.heap.size w w'):RuI w0 vo vr lo lr w':=⟨h.o.below hb,h.r.below hb,h.b.trans (hb.mono h.b.size)⟩
theorem RuI.growR {w0 w w':World}{vo vr vr':Value}{lo:List MarkP}{lr lr':List ByteArray}(h:RuI w0 vo vr lo lr w)(hown:Own w' w0.heap.size 9 vr' lr')(hg:w.grownBy w' vr.ownBlock):RuI w0 vo vr' lo lr' w':=by
 refine⟨own_keepM h.o fun g hgo=>hg.block g (h.o.lt g hgo).2 (fun e=>own_apart h.r h.o mark_str.symm hgo e.symm),hown,h.b.grown hg h.b.size fun r hr=>(h.r.lt r hr).1⟩
theorem RuI.growO {w0 w w':World}{vo vr vo':Value}{lo lo':List MarkP}{lr:List ByteArray}(h:RuI w0 vo vr lo lr w)(hown:Own w' w0.heap.size 61 vo' lo')(hg:w.grownBy w' vo.ownBlock):RuI w0 vo' vr lo' lr w':=by
 refine⟨hown,own_keepS h.r fun g hgr=>hg.block g (h.r.lt g hgr).2 (fun e=>own_apart h.o h.r mark_str hgr e.symm),h.b.grown hg h.b.size fun r hr=>(h.o.lt r hr).1⟩
theorem RuI.nil {w0 w:World}{vo vr:Value}{lo:List MarkP}{lr:List ByteArray}(h:RuI w0 vo vr lo lr w):RuI w0 vo (.slice none 0 0) lo [] w:=⟨h.o,Own.nil _ _ _,h.b⟩
theorem lit_str {w:World}{b:Nat}{x:ByteArray}{S:Nat→Prop}(h:w.heap[b]? =some (.cells #[.string x] 9 (0,0)))(hx:x.size≤maxLen)(hS:S b):Sl w S (some ⟨b,0,none⟩) 1 [x]:=
 Sl.block (l:=[x]) h hS (by simp[maxLen]) (fun i hi=>by
  obtain rfl:i=0:=by simpa using hi
  exact⟨rfl,hx⟩)
def osTo (sl:List Seal)(gs:Int)(p:PageP)(ws:List Word)(x:LineP)(k:Nat):List (Option ByteArray):=if k≤x.un.toNat then QcB sl gs p.entry p.ver ws x (k-x.fr.toNat) else QcB sl gs p.entry p.ver ws x (x.un.toNat-x.fr.toNat)++[none]
section
variable {sl:List Seal} {gs:Int} {p:PageP} {ws:List Word} {x:LineP} {k:Nat}
theorem osTo_start (h:x.fr.toNat≤x.un.toNat):osTo sl gs p ws x x.fr.toNat=[]:=by
 unfold osTo;rw[if_pos h,Nat.sub_self];rfl
theorem osTo_succ (h0:0≤x.fr)(hk:x.fr.toNat≤k)(hu:k<x.un.toNat):osTo sl gs p ws x (k+1)=osTo sl gs p ws x k++[if Qdr sl gs p.entry p.ver (k:Int)=true then some (ws.getD k noW).s else none]:=by
 unfold osTo;rw[if_pos (by omega),if_pos (by omega),Qc4 h0 hk]
theorem osTo_last:osTo sl gs p ws x (x.un.toNat+1)=osTo sl gs p ws x x.un.toNat++[none]:=by
 unfold osTo;rw[if_neg (by omega),if_pos nL]
theorem osTo_all {br:Int}{i:Nat}(h0:0≤x.fr):(closedR (osTo sl gs p ws x (x.un.toNat+1))).map (mkM br p i)=Qb4 sl gs br p ws x i:=by
 rw[osTo_last,(runsR_none _).2];unfold osTo Qb4 Qcp;rw[if_pos nL,show(x.un-x.fr).toNat=x.un.toNat-x.fr.toNat by omega]
theorem osTo_open (hw:∀y∈ws,y.s.size≤1000)(hu:k≤x.un.toNat):(Qco (osTo sl gs p ws x k)).length≤k∧∀z∈Qco (osTo sl gs p ws x k),z.size≤1000:=by
 unfold osTo;rw[if_pos hu];unfold Qco;split
 ·rename_i ho;obtain⟨c,r,e,hr⟩:=Qbl _ ho;rw[e,List.getLastD_concat];obtain⟨-,h2,h3⟩:=runsT_mem _ r (by rw[e];simp);rw[QdM] at h2;refine⟨by omega,fun z hz=>?_⟩;have h5:=h3 z hz;unfold QcB at h5;obtain⟨q,-,h6⟩:=List.mem_map.1 h5;unfold optW at h6;split at h6
  ·cases h6;rw[List.getD_eq_getElem?_getD];cases hq:ws[x.fr.toNat+q]? with
   |none=>exact Nat.zero_le _
   |some y=>exact hw y (List.mem_of_getElem? hq)
  ·cases h6
 ·exact⟨Nat.zero_le _,fun z hz=>absurd hz (by simp)⟩
theorem closedR_len (l:List (Option ByteArray)):(closedR l).length≤l.length:=by
 have h1:=runsT_len l;unfold closedR;split
 ·rw[List.length_dropLast];omega
 ·exact h1
end
set_option maxRecDepth 100000 in
theorem rruns_any (br num suf e v:Int)(ix:Nat)(Ap Aq:Option Addr)(np cp nq cq:Nat)(f u:Nat)(Ag An:Option Addr)(ng cg nn cn:Nat)(Aw:Option Addr)(cw nw:Nat)(ws:List Word)(A:Option Addr)(c n:Nat)(sl:List Seal)(gs:Int)(P:PageP)(x:LineP)(w:World) (hP:P.num=num∧P.suf=suf∧P.entry=e∧P.ver=v) (hx:x.fr=(f:Int)∧x.un=(u:Int)) (hws:Sl w (fun b=>b<w.heap.size) Aw cw ws) (hnw:ws.length=nw) (hnz:nw≤1048576) (hw1:∀y∈ws,y.s.size≤1000) (hsl:Sl w (fun b=>b<w.heap.size) A c sl) (hn:sl.length=n) (hsz:n≤1048576) (hg:∀s∈sl,0≤s.g∧s.g<16) (hfu:f<u) (hu:u≤nw) (hi:ix≤4194304):
 Calls Tryz.prog 65 #[.agg #[.int .i64 num,.int .i64 suf,.int .i64 e,.int .i64 v,.slice Ap np cp,.slice Aq nq cq],.agg #[.int .i64 f,.int .i64 u,.slice Ag ng cg,.slice An nn cn],.agg #[.int .i64 br,.int .i64 num,.int .i64 suf,.int .i64 ((ix:Int)+1)],.slice Aw nw cw,.slice A n c,.int .i64 gs] w fun r W'=>∃vv,r=.returned vv∧Own W' w.heap.size 61 vv (Qb4 sl gs br P ws x ix)∧Below w.heap.size w W':=by
 obtain⟨wb,hwb⟩:∃wb,((w.alloc (.cells #[.int .i64 num,.int .i64 suf,.int .i64 e,.int .i64 v,.slice Ap np cp,.slice Aq nq cq] 43)).alloc (.cells #[.int .i64 f,.int .i64 u,.slice Ag ng cg,.slice An nn cn] 56)).alloc (.cells #[.int .i64 br,.int .i64 num,.int .i64 suf,.int .i64 ((ix:Int)+1)] 59)=wb:=⟨_,rfl⟩;have hba:Below w.heap.size w wb:=by rw[←hwb];exact((bR.alloc nL _).alloc (by simp) _).alloc (by simp;omega) _
 have hx0:ABox wb w.heap.size 43 [.int .i64 num,.int .i64 suf,.int .i64 e,.int .i64 v,.slice Ap np cp,.slice Aq nq cq]:=by rw[←hwb];exact(Below.heap_alloc _ _ _ (by first|(simp;done)|(simp;omega))).trans ((Below.heap_alloc _ _ _ (by simp)).trans (heap_alloc_new w _))
 have hx1:ABox wb (w.heap.size+1) 56 [.int .i64 f,.int .i64 u,.slice Ag ng cg,.slice An nn cn]:=by rw[←hwb];exact(Below.heap_alloc _ _ _ (by simp)).trans (Qar (by simp))
 have hx2:ABox wb (w.heap.size+1+1) 59 [.int .i64 br,.int .i64 num,.int .i64 suf,.int .i64 ((ix:Int)+1)]:=by rw[←hwb];exact Qar (by simp)
 have HGR:Hid (∀(W:World) (k:Int),Below wb.heap.size wb W→Calls Tryz.prog 118 #[.slice A n c,.int .i64 e,.int .i64 v,.int .i64 k] W fun r w'=>r=.returned (.int .i64 ((gset (sl.filter (onP e v k)):Nat):Int))∧Below W.heap.size W w'):=Lh fun W k hW=>by
  have:=QdW A c n sl e v k W (hsl.to (hba.trans (hW.mono hba.size))) hn hsz;rwa [←gset_rgTo sl e v k hg] at this
 have HMY:Hid (∀(W:World) (k:Int),Below wb.heap.size wb W→Calls Tryz.prog 119 #[.slice A n c,.int .i64 gs,.int .i64 e,.int .i64 v,.int .i64 k] W fun r w'=>r=.returned (.bool (seeB sl gs e v k))∧Below W.heap.size W w'):=Lh fun W k hW=>rmay_see (hsl.to (hba.trans (hW.mono hba.size))) hn hsz hg
 have HWS:=Lh (hws.to hba);have HNW:=Lh hnw;have HW1:=Lh hw1;have HPE:=Lh hP;have HXE:Hid (0≤x.fr∧x.fr.toNat=f∧x.un.toNat=u):=Lh (by rw[hx.1,hx.2];exact⟨Int.natCast_nonneg f,Int.toNat_natCast f,Int.toNat_natCast u⟩);have HBA:=Lh hba;have HX0:=Lh hx0;have HX1:=Lh hx1;have HX2:=Lh hx2;have hz:wb.heap.size=w.heap.size+1+1+1:=by rw[←hwb];simp
 have HZ:=Lh hz;have hwc:nw≤cw:=by rw[←hnw];exact hws.1
 clear hP hx hws hnw hw1 hsl hn hsz hg hba hx0 hx1 hx2 hz;go_enter Tryz.func65,Tryz.ntmps65;go_upto_region 1 with(fail);(try rw[hwb]);clear hwb;have l0:=HX1.out.cell 0 rfl;have hfu2:f≤u:=by omega
 have HR0:Hid (RuI wb (.slice none 0 0) (.slice none 0 0) ((closedR (osTo sl gs P ws x f)).map (mkM br P ix)) (Qco (osTo sl gs P ws x f)) wb):=Lh (by
  have h1:=osTo_start (sl:=sl) (gs:=gs) (p:=P) (ws:=ws) (x:=x) (by rw[HXE.out.2.1,HXE.out.2.2];exact hfu2)
  rw[HXE.out.2.1] at h1
  rw[h1]
  exact⟨Own.nil _ _ _,Own.nil _ _ _,Below.refl _ _⟩)
 go_wp2_with fail;go_loopw [13,14,15] (fun vo vr ii wr=>∃q:Nat,f≤q∧q≤u+1∧ii=.int .i64 (q:Int)∧Hid (RuI wb vo vr ((closedR (osTo sl gs P ws x q)).map (mkM br P ix)) (Qco (osTo sl gs P ws x q)) wr)) (fun _ _ ii _=>u+1-(intOf ii).toNat);(case atStart=>exact⟨f,Nat.le_refl _,by omega,rfl,HR0⟩);case round=>
  clear HR0;obtain⟨q,hfq,hqu,rfl,HR⟩:=hrel;have HBq:=Lh HR.out.b;by_cases hqI:q≤u
  ·have hq1:(q:Int)≤(u:Int):=by omega
   have l1:=(HX1.out.to HBq.out).cell 1 rfl;go_upto_region 6 with(fail);obtain⟨told,htold⟩:∃b,(decide (q<u)&&Qdr sl gs P.entry P.ver (q:Int))=b:=⟨_,rfl⟩;have HTO:=Lh htold;clear htold l1;go_cut [16] from 25 to 54 (fun b wx=>b=.bool told∧Hid (Below wr.heap.size wr wx));case first=>
    have l1:=(HX1.out.to HBq.out).cell 1 rfl;by_cases hqu2:q<u
    ·have hq2:(q:Int)<(u:Int):=by omega
     have hqw:(q:Int)<(nw:Int):=(by omega);obtain⟨G,hG⟩:∃G,gset (sl.filter (onP e v (q:Int)))=G:=⟨_,rfl⟩;obtain⟨bm,hbm⟩:∃bm,seeB sl gs e v (q:Int)=bm:=⟨_,rfl⟩;have hgr:=HGR.out wr (q:Int) HBq.out;rw[hG] at hgr;have HG1:=Lh hgr
     have HM1:Hid (∀W,Below wb.heap.size wb W→Calls Tryz.prog 119 #[.slice A n c,.int .i64 gs,.int .i64 e,.int .i64 v,.int .i64 (q:Int)] W fun r w'=>r=.returned (.bool bm)∧Below W.heap.size W w'):=Lh fun W hW=>by
      have:=HMY.out W (q:Int) hW;rwa [hbm] at this
     have HTE:Hid (told=(decide (G≠0)&&bm)):=Lh (by
      rw[←HTO.out,decide_eq_true hqu2,Bool.true_and,HPE.out.2.2.1,HPE.out.2.2.2]
      unfold Qdr
      rw[hG,hbm])
     have p2:=(HX0.out.to HBq.out).cell 2 rfl;have p3:=(HX0.out.to HBq.out).cell 3 rfl;clear hG hbm hgr;by_cases h0:G=0
     ·have hG0:((G:Int)==0)=true:=by rw[h0];rfl
      have hG1:((G:Int) != 0)=false:=(by rw[h0];rfl);have HTF:Hid (told=false):=Lh (by rw[HTE.out,h0];rfl)
      go_wp2_with (first|(go_at_call 118;refine HG1.out.mono ?_;rintro r wa ⟨rfl,hb⟩;have HBa:=Lh hb;clear hb)|fail)
      go_meet;exact⟨by rw[HTF.out],HBa⟩
     ·have hG0:((G:Int)==0)=false:=beq_eq_false_iff_ne.2 (by omega);have hG1:((G:Int) != 0)=true:=bne_iff_ne.2 (by omega);have HTF:Hid (told=bm):=Lh (by rw[HTE.out,decide_eq_true h0,Bool.true_and])
      go_wp2_with (first|(go_at_call 118;refine HG1.out.mono ?_;rintro r wa ⟨rfl,hb⟩;have HBa:=Lh hb;have HBb:=Lh (HBq.out.trans (hb.mono HBq.out.size));have r2:=(HX0.out.to HBb.out).cell 2 rfl;have r3:=(HX0.out.to HBb.out).cell 3 rfl;clear hb p2 p3)|(go_at_call 119;refine(HM1.out wa HBb.out).mono ?_;rintro r wc ⟨rfl,hb⟩;have HBc:=Lh (HBa.out.trans (hb.mono HBa.out.size));clear hb r2 r3)|fail)
      go_meet;exact⟨by rw[HTF.out],HBc⟩
    ·have hq2:¬(q:Int)<(u:Int):=by omega
     have HTF:Hid (told=false):=Lh (by rw[←HTO.out,decide_eq_false hqu2];rfl);go_wp2_with fail;go_meet;exact⟨by rw[HTF.out],Lh bR⟩
   case rest=>
    obtain⟨rfl,HBc⟩:=hcut;have HRc:=Lh (HR.out.to HBc.out);have HBcc:=Lh (HBq.out.trans (HBc.out.mono HBq.out.size));clear HR;obtain⟨os,hos⟩:∃o,osTo sl gs P ws x q=o:=⟨_,rfl⟩;have HOS:=Lh hos;have hop:=osTo_open (sl:=sl) (gs:=gs) (p:=P) (ws:=ws) (x:=x) (k:=q) HW1.out (by rw[HXE.out.2.2];exact hqI);have hcl:=closedR_len os;have hol:os.length≤q:=by
     rw[←hos];unfold osTo;rw[if_pos (by rw[HXE.out.2.2];exact hqI),QdM];omega
    rw[hos] at HRc hop;clear hos;cases told with
    |true=>
     have hqu2:q<u:=by
      have h1:=HTO.out;rw[Bool.and_eq_true] at h1;exact of_decide_eq_true h1.1
     have htl:Qdr sl gs P.entry P.ver (q:Int)=true:=by
      have h1:=HTO.out;rw[Bool.and_eq_true] at h1;exact h1.2
     have hqw:q<ws.length:=(by rw[HNW.out];omega);have hqn:(q:Int)<(nw:Int):=(by omega);obtain⟨b5,o5,hA5,-,hl5,-,hc5,-⟩:=Qbs (HWS.out.to HBcc.out) hqw;have hsz:=HW1.out _ (List.getElem_mem hqw);have hsu:=osTo_succ (sl:=sl) (gs:=gs) (p:=P) (ws:=ws) (x:=x) (k:=q) HXE.out.1 (by rw[HXE.out.2.1];exact hfq) (by rw[HXE.out.2.2];exact hqu2);rw[HOS.out,if_pos htl,List.getD_eq_getElem?_getD,qG hqw,Option.getD_some] at hsu;obtain⟨s5,hs5⟩:∃s,ws[q].s=s:=⟨_,rfl⟩;rw[hs5] at hc5 hsz hsu;subst hA5;have HSU:=Lh hsu;have HSO:=Lh (runsR_some os s5);have hrl:(Qco os).length≤1048577:=(by have:=hop.1;omega);clear hsu hs5 htl hop hol hcl
     go_wp2_with (first|(at_builtin;refine Qap (α:=ByteArray) _ rfl (.tmp 56) (.tmp 62) 44 rfl wb.heap.size 9 (.string ⟨#[]⟩) 16 Tryz.underlying44 QcF rfl (by decide) _ (Qco os) rfl (HRc.out.r.alloc _) (some ⟨wc.heap.size,0,none⟩) 1 1 [s5] rfl rfl (fun b=>b=wc.heap.size) (lit_str (heap_alloc_new wc _) (by unfold maxLen;omega) rfl) (fun i hi _ e=>by have h4:i=wc.heap.size:=hi;have:=(HRc.out.r.lt i e.symm).2;omega) (by omega) (by omega) (by have:=HBcc.out.size;simp;omega) ?_;intro v2 w2 hown2 hg2 hat2;have HRn:=Lh ((HRc.out.to (bR.alloc nL _)).growR hown2 hg2);clear hown2 hg2 hat2)|fail)
     go_roundw;(case rel=>exact⟨q+1,by omega,by omega,by go_num,Lh (by rw[HSU.out,HSO.out.1,HSO.out.2];exact HRn.out)⟩);case measure=>(first|(simp[intOf];done)|(simp[intOf];omega))
    |false=>
     have HNX:Hid (osTo sl gs P ws x (q+1)=os++[none]):=Lh (by
      by_cases hqu2:q<u
      ·have h1:=HTO.out
       rw[decide_eq_true hqu2,Bool.true_and] at h1
       have hsu:=osTo_succ (sl:=sl) (gs:=gs) (p:=P) (ws:=ws) (x:=x) (k:=q) HXE.out.1 (by rw[HXE.out.2.1];exact hfq) (by rw[HXE.out.2.2];exact hqu2)
       rw[HOS.out,if_neg (by rw[h1];decide)] at hsu
       exact hsu
      ·obtain rfl:q=u:=by omega
       have h1:=osTo_last (sl:=sl) (gs:=gs) (p:=P) (ws:=ws) (x:=x)
       rw[HXE.out.2.2,HOS.out] at h1
       exact h1)
     have HNN:=Lh (runsR_none os);have HNA:=Lh (runsR_all os);obtain⟨Ar,cr,rfl,hsr,-,hcr,-⟩:=HRc.out.r.parts;have HSR:=Lh hsr;obtain⟨ru,hru⟩:∃r,Qco os=r:=⟨_,rfl⟩;rw[hru] at HRc HNA HSR hcr hop ⊢;clear hru hsr;obtain⟨nr,hnr⟩:∃n,ru.length=n:=⟨_,rfl⟩;have HNR:=Lh hnr;rw[hnr] at HRc hcr hop ⊢;clear hnr;by_cases hr0:ru=[]
     ·have hn0:nr=0:=by rw[←HNR.out,hr0];rfl
      have HRE:Hid ((Qa3 os).1=closedR os):=Lh (by rw[HNA.out,if_pos hr0]);have HR0:=Lh hr0;subst hn0;clear hr0 hop hol hcl;go_wp2_with fail;go_roundw;(case rel=>exact⟨q+1,by omega,by omega,by go_num,Lh (by rw[HNX.out,HNN.out.2,HNN.out.1,HRE.out];have h1:=HRc.out;rwa [HR0.out] at h1)⟩);case measure=>(first|(simp[intOf];done)|(simp[intOf];omega))
     ·have hn0:0<(nr:Int):=by have:=HNR.out;have:0<ru.length:=List.length_pos_iff.2 hr0;omega
      have HRE:Hid ((Qa3 os).1=closedR os++[ru]):=Lh (by rw[HNA.out,if_neg hr0]);have HJ:Hid (∀W,Below wc.heap.size wc W→Calls Tryz.prog 120 #[.slice Ar nr cr] W fun r w'=>r=.returned (.string (QaT ru))∧W=w'):=Lh fun W hW=>joined_any Ar cr nr ru W (HSR.out.to hW) HNR.out hop.2 (by have:=hop.1;omega)
      have hz0:(closedR os).length≤1048577:=(by omega);have HLO:Hid (((closedR os).map (mkM br P ix)).length≤1048577):=Lh (by rw[qM];exact hz0);clear hr0 hol hcl hop;go_upto_region 10 with(fail);have hd0:decide (0<nr)=true:=decide_eq_true (by omega);rw[hd0];clear hd0 hn0;refine Qac [3,5] (fun i=>if i=3 then SP.val (.string (QaT ru)) else if i=5 then SP.rp wc.heap.size [(⟨br,num,suf,(ix:Int)+1,QaT ru⟩:MarkP)] else SP.any) 6 (by kernel_rfl) (by kernel_rfl) ?_;intro T _ g hg hgm;have c0:∀d,(g d).cell? ⟨w.heap.size+1+1,0,none⟩=some (.int .i64 br):=fun d=>(HX2.out.to (HBcc.out.trans ((hg d).mono HBcc.out.size))).cell 0 rfl
      have c1:∀d,(g d).cell? ⟨w.heap.size+1+1,1,none⟩=some (.int .i64 num):=fun d=>(HX2.out.to (HBcc.out.trans ((hg d).mono HBcc.out.size))).cell 1 rfl
      have c2:∀d,(g d).cell? ⟨w.heap.size+1+1,2,none⟩=some (.int .i64 suf):=fun d=>(HX2.out.to (HBcc.out.trans ((hg d).mono HBcc.out.size))).cell 2 rfl
      have c3:∀d,(g d).cell? ⟨w.heap.size+1+1,3,none⟩=some (.int .i64 ((ix:Int)+1)):=fun d=>(HX2.out.to (HBcc.out.trans ((hg d).mono HBcc.out.size))).cell 3 rfl
      (repeat(refine Qad (by rfl) fun Kq hq=>?_;go_big_quiet_step (fail);refine wpQuiet_nil (hq _ ?_);clear hq Kq));refine Qai (by rfl) (by rfl) (fun d hG K Q hK=>?_) (fun v3 d hG hp Kr hr=>?_)
      ·go_simp;go_at_call 120;refine(HJ.out (g d) (hg d)).mono ?_;rintro r w9 ⟨rfl,rfl⟩;go_simp;exact hK _ _ bR rfl
      obtain rfl:v3=.string (QaT ru):=hp;(try clear hp);clear hG;go_frame;refine hr _ ?_;clear hr Kr;(repeat(refine Qad (by rfl) fun Kq hq=>?_;go_big_quiet_step (fail);refine wpQuiet_nil (hq _ ?_);clear hq Kq));refine Qai (by rfl) (by rfl) (fun d hG K Q hK=>?_) (fun v5 d hG hp Kr hr=>?_)
      ·go_simp;exact hK _ _ (bR.alloc nL _) (Qdp (hg d).size (by exact mark_rep (⟨br,num,suf,(ix:Int)+1,QaT ru⟩:MarkP)))
      obtain⟨⟨Az,cz,rfl⟩,-⟩:=(show(∃A c,v5=.slice A [(⟨br,num,suf,(ix:Int)+1,QaT ru⟩:MarkP)].length c)∧_ from hp);(try clear hp);clear hG;go_frame;refine hr _ ?_;clear hr Kr;refine QaA 2 (by rfl) (by rfl) (fun d hG=>?_);have H5:Hid (Rep.R (g d) (Up wc.heap.size) [.slice Az [(⟨br,num,suf,(ix:Int)+1,QaT ru⟩:MarkP)].length cz] [(⟨br,num,suf,(ix:Int)+1,QaT ru⟩:MarkP)]):=Lh (show(∃A c,_=Value.slice A [(⟨br,num,suf,(ix:Int)+1,QaT ru⟩:MarkP)].length c)∧Rep.R (g d) (Up wc.heap.size) [.slice Az [(⟨br,num,suf,(ix:Int)+1,QaT ru⟩:MarkP)].length cz] [(⟨br,num,suf,(ix:Int)+1,QaT ru⟩:MarkP)] from hG 5).2;have HRd:=Lh (HRc.out.to (hg d));have HLT:=Lh HRc.out.o.lt;clear hG hg hgm c0 c1 c2 c3;generalize g d=wx at*;clear g
      have HSl:Hid (Sl wx (Up wc.heap.size) Az cz [(⟨br,num,suf,(ix:Int)+1,QaT ru⟩:MarkP)]):=Lh (by
       obtain⟨A,c,e,hs,-⟩:=H5.out
       cases e
       exact hs)
      refine Qag (i:=6) (oi:=_) rfl (by kernel_rfl) (by rfl) (fun K hK=>?_);refine Qb3 (α:=MarkP) _ (.tmp 67) (.tmp 72) 51 rfl wb.heap.size 61 (.agg #[.int .i64 0,.int .i64 0,.int .i64 0,.int .i64 0,.string ⟨#[]⟩]) 48 Tryz.underlying51 QcI rfl (show 0<5 by decide) _ ((closedR os).map (mkM br P ix)) rfl HRd.out.o Az cz 1 [(⟨br,num,suf,(ix:Int)+1,QaT ru⟩:MarkP)] rfl rfl (Up wc.heap.size) HSl.out (fun i (hi:wc.heap.size≤i) _ e=>by have:=(HLT.out i e.symm).2;omega) (by have:=HLO.out;omega) (by have:=HLO.out;omega) HRd.out.b.size ?_;intro v' w' ho' hg' hv';have HRn:=Lh ((HRd.out.growO ho' hg').nil);clear ho' hg' hv' HRd HSl H5;refine hK _ _ ?_;clear hK K;(try go_frame);refine Qag (i:=7) (oi:=_) rfl (by kernel_rfl) (by rfl) (fun K hK=>?_);go_simp;refine hK _ _ ?_;clear hK K;(try go_frame);refine wpAny_done (by kernel_rfl) ?_ _;unfold Exit.then;go_wp2_with fail;go_roundw
      case rel=>exact⟨q+1,by omega,by omega,by go_num,Lh (by
       rw[HNX.out,HNN.out.2,HNN.out.1,HRE.out,List.map_append,List.map_cons,List.map_nil]
       have h1:=HRn.out
       rw[←HPE.out.1,←HPE.out.2.1] at h1
       exact h1)⟩
      case measure=>(first|(simp[intOf];done)|(simp[intOf];omega))
  ·obtain rfl:q=u+1:=by omega
   have hq1:¬((u+1:Nat):Int)≤(u:Int):=(by omega);have l1:=(HX1.out.to HBq.out).cell 1 rfl
   have HOW:Hid (Own wr wb.heap.size 61 u13 (Qb4 sl gs br P ws x ix)):=Lh (by
    have h1:=HR.out.o
    have h2:=osTo_all (sl:=sl) (gs:=gs) (p:=P) (ws:=ws) (x:=x) (br:=br) (i:=ix) HXE.out.1
    rw[HXE.out.2.2] at h2
    rwa [h2] at h1)
   go_wp2_with fail;go_ret;exact⟨_,rfl,HOW.out.re HBA.out.size,HBA.out.trans (HBq.out.mono HBA.out.size)⟩
end Go.Proofs.YtegaapiocihcpaaGreatDoor
